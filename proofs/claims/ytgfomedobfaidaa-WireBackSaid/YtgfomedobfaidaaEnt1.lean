/-
  The walks of some functions: what each call comes to.
-/
import Derived.Test.YtgfomedobfaidaaEntry
import Derived.Test.YtgfomedobfaidaaNum
import Derived.Test.YtgfomedobfaidaaWnum
set_option linter.unusedVariables false
set_option linter.unusedSimpArgs false
set_option maxRecDepth 100000
namespace Go.Proofs.Ytgfomedobfaidaa
open Go.RowKit

theorem wire_texts {lab : Lab} {w : World} (hv : Valid lab w) {wrb : Nat} {wr : List UInt8} {wrbad : Bool} (hW : Wr 144 5 lab w wrb wr wrbad) {l : List (List UInt8)} {v1 : Value} (h1 : RowsV l lab w v1) (hw : List.length wr ≤ 500000) :
    Calls Try.prog 95 #[.pointer (some ⟨wrb, 0, none⟩), v1] w (Wrote 144 5 lab w wrb (Is (.tuple #[])) (wr ++ textsW l wrbad) (wrbad || out_ (List.length l) 0 64 || long l 1024)) := by
  obtain ⟨vW, oW, aW⟩ := hW
  obtain ⟨A1, c2, rfl⟩ := App.shape aW
  have m3 : List.length wr = List.length wr := App.lenMap aW
  have z4 := (App.row aW).2
  obtain ⟨A5, c6, rfl⟩ := RowsV.shape h1
  have z7 := RowsV.cap h1
  refine calls_run Try.func95 rfl Try.ntmps95 (Nat.le_of_ble_eq_true rfl) ?_
  refine Run.seq ?_
  refine Run.region ?_
  refine Seq.val (Does.move rfl) (by decide) ?_
  refine Seq.val (Does.move rfl) (by decide) ?_
  refine Seq.val (Does.len Try.underlying34 rfl) (by decide) ?_
  refine Seq.callW (V := Is (.tuple #[])) (bs := wr ++ be (u64i ((List.length l : Nat) : Int)) (Int.toNat 1)) (bad := wrbad || out_ ((List.length l : Nat) : Int) 0 64) cal87 rfl (by decide) (wire_num hv (n := ((List.length l : Nat) : Int)) (least := 0) (most := 64) (size := 1) (wr := wr) (wrbad := wrbad) (wrb := wrb) (Wr.mk oW aW) (show 0 ≤ 1 ∧ 1 ≤ 8 from by first | omega | (simp [be_length]; omega) | (rw [hx]; omega)) (show List.length wr ≤ 1000000 from by first | omega | (simp [be_length]; omega) | (rw [hx]; omega))) ?_
  intro lab13 w14 v15 v16 q17 o18 o19 s20 hv21
  obtain ⟨A22, c23, rfl⟩ := App.shape o19
  have m24 : List.length (wr ++ be (u64i ((List.length l : Nat) : Int)) (Int.toNat 1)) = List.length (wr ++ be (u64i ((List.length l : Nat) : Int)) (Int.toNat 1)) := App.lenMap o19
  have z25 := (App.row o19).2
  have q17 := Is.out q17; subst q17
  refine Seq.go (fun _ _ h => h) ?_
  refine Run.seq ?_
  refine Run.seq ?_
  refine Run.region ?_
  refine Seq.val (Does.move rfl) (by decide) ?_
  refine Seq.val (Does.nilCheck rfl) (by decide) ?_
  refine Seq.val (Does.fieldAddr' 1 Try.underlying144 rfl ty4 rfl rfl) (by decide) ?_
  refine Seq.val (Does.load_own1 o18 ty4 rfl rfl) (by decide) ?_
  refine Seq.go (fun _ _ h => h) ?_
  rcases bdich (wrbad || out_ ((List.length l : Nat) : Int) 0 64) with hc1 | hc1
  · skip
    refine Run.cond_b rfl hc1 ?_
    refine Run.ret (ret_then ?_)
    exact post_none Try.results95  ⟨_, rfl, _, rfl, (Wr.cast (show wr ++ be (u64i ((List.length l : Nat) : Int)) (Int.toNat 1) = (wr ++ textsW l wrbad) from by first | rfl | (unfold natsW; rw [hc1]; simp; done; done) | (unfold textsW; rw [hc1]; simp; done; done) | (unfold textsW; rw [hc1, List.take_of_length_le (by omega)]; simp; done; done) | (unfold natsW; rw [hc1, List.take_of_length_le (by rw [natsB_length]; omega)]; simp; done; done) | (rw [hc1, List.take_of_length_le (by omega)]; simp; done; done) | (simp [hc1]; done; done) | (rw [hc1, List.take_of_length_le (by omega)]; simp; done; done) | (simp_all; done) | omega) (show (wrbad || out_ ((List.length l : Nat) : Int) 0 64) = (wrbad || out_ (List.length l) 0 64 || long l 1024) from by first | rfl | (unfold natsW; rw [hc1]; simp; done; done) | (unfold textsW; rw [hc1]; simp; done; done) | (unfold textsW; rw [hc1, List.take_of_length_le (by omega)]; simp; done; done) | (unfold natsW; rw [hc1, List.take_of_length_le (by rw [natsB_length]; omega)]; simp; done; done) | (rw [hc1, List.take_of_length_le (by omega)]; simp; done; done) | (simp [hc1]; done; done) | (rw [hc1, List.take_of_length_le (by omega)]; simp; done; done) | (simp_all; done) | omega) (Wr.mk o18 o19)), s20.more (by decide), hv21⟩
  · skip
    refine Run.cond_b rfl hc1 ?_
    refine Run.skip_go (fun _ _ h => h) ?_
    refine Run.seq ?_
    refine Run.region ?_
    refine Seq.val (Does.move rfl) (by decide) ?_
    refine Seq.val (Does.len Try.underlying34 rfl) (by decide) ?_
    refine Seq.val (Does.move rfl) (by decide) ?_
    refine Seq.go (fun _ _ h => h) ?_
    refine Run.block ?_
    refine Run.loop (fun m' l' w' => ∃ (k : Nat) (lab' : Lab) (ux902 : Value), m' = List.length l - k ∧ l' = [(16, i64 ((k : Nat) : Int)), (0, .pointer (some ⟨wrb, 0, none⟩)), (1, .slice A5 (List.length l) c6), (6, .pointer (some ⟨wrb, 0, none⟩)), (7, .slice A5 (List.length l) c6), (8, i64 ((List.length l : Nat) : Int)), (9, .tuple #[]), (10, .pointer (some ⟨wrb, 0, none⟩)), (11, .pointer (some ⟨wrb, 0, none⟩)), (12, .pointer (some ⟨wrb, 1, none⟩)), (13, .bool (wrbad || out_ ((List.length l : Nat) : Int) 0 64)), (14, .slice A5 (List.length l) c6), (15, i64 ((List.length l : Nat) : Int))] ∧ Valid lab' w' ∧ Stp [901, 902] lab13 w14 lab' w' ∧ App lab' w' 902 5 ux902 (List.length (wr ++ be (u64i (List.length l)) 1 ++ flat (List.take k l) 1024)) (List.map u8 (wr ++ be (u64i (List.length l)) 1 ++ flat (List.take k l) 1024)) ∧ Own lab' w' 901 wrb 144 #[ux902, .bool (long (List.take k l) 1024)] ∧ (k ≤ List.length l)) (List.length l - 0) (l0 := [(16, i64 ((0 : Nat) : Int)), (0, .pointer (some ⟨wrb, 0, none⟩)), (1, .slice A5 (List.length l) c6), (6, .pointer (some ⟨wrb, 0, none⟩)), (7, .slice A5 (List.length l) c6), (8, i64 ((List.length l : Nat) : Int)), (9, .tuple #[]), (10, .pointer (some ⟨wrb, 0, none⟩)), (11, .pointer (some ⟨wrb, 0, none⟩)), (12, .pointer (some ⟨wrb, 1, none⟩)), (13, .bool (wrbad || out_ ((List.length l : Nat) : Int) 0 64)), (14, .slice A5 (List.length l) c6), (15, i64 ((List.length l : Nat) : Int))]) ⟨(congrArg (fun z => some (i64 z)) (show (0 : Int) = ((0 : Nat) : Int) from by first | rfl | omega | (simp [flat]; done) | (rw [hc1]; simp [long]; done) | (exact long_snoc _ _ _ (by omega)) | (rw [List.append_assoc, List.append_assoc, ← flat_snoc _ _ _ (by omega)]; simp; done))), rfl, rfl, rfl, rfl, rfl, rfl, rfl, rfl, rfl, rfl, rfl, rfl, trivial⟩ ⟨0, lab13, (.slice A22 (List.length (wr ++ be (u64i ((List.length l : Nat) : Int)) (Int.toNat 1))) c23), rfl, rfl, hv21, ((Stp.refl _ _).more (by simp)), (appCast (show wr ++ be (u64i ((List.length l : Nat) : Int)) (Int.toNat 1) = wr ++ be (u64i (List.length l)) 1 ++ flat (List.take 0 l) 1024 from by first | rfl | (simp [flat]; done) | (rw [List.append_assoc, flat_snoc _ _ _ (by omega)])) (show List.length (wr ++ be (u64i ((List.length l : Nat) : Int)) (Int.toNat 1)) = List.length (wr ++ be (u64i (List.length l)) 1 ++ flat (List.take 0 l) 1024) from by first | rfl | omega | (simp [flat]; done) | (rw [hc1]; simp [long]; done) | (exact long_snoc _ _ _ (by omega)) | (rw [List.append_assoc, List.append_assoc, ← flat_snoc _ _ _ (by omega)]; simp; done)) o19), ((show (wrbad || out_ ((List.length l : Nat) : Int) 0 64 : Bool) = long (List.take 0 l) 1024 from by first | rfl | omega | (simp [flat]; done) | (rw [hc1]; simp [long]; done) | (exact long_snoc _ _ _ (by omega)) | (rw [List.append_assoc, List.append_assoc, ← flat_snoc _ _ _ (by omega)]; simp; done)) ▸ o18), (by first | omega | (simp at *; omega))⟩ ?_
    intro m26 l27 w28 H29
    obtain ⟨k, lab30, v33, hzm, rfl, hv31, s32, o34, o35, hk⟩ := H29
    replace hzm := hzm.symm; subst hzm
    obtain ⟨A36, c37, rfl⟩ := App.shape o34
    have m38 : List.length (wr ++ be (u64i (List.length l)) 1 ++ flat (List.take k l) 1024) = List.length (wr ++ be (u64i (List.length l)) 1 ++ flat (List.take k l) 1024) := App.lenMap o34
    have z39 := (App.row o34).2
    have hb := lt64 hc1
    have hf := flat_le (List.take k l) (most := 1024) (by omega)
    have ht : (List.take k l).length = k := by rw [List.length_take]; omega
    have hx := wlen wr (u64i (List.length l)) (flat (List.take k l) 1024)
    refine Run.seq ?_
    refine Run.region ?_
    refine Seq.val (Does.lss rfl rfl) (by decide) ?_
    refine Seq.go (fun _ _ h => h) ?_
    refine Run.seq ?_
    rcases bdich (decide ((((k : Nat) : Int) : Int) < (((List.length l : Nat) : Int) : Int))) with hc2 | hc2
    · skip
      have hp2 := of_decide_eq_true hc2
      refine Run.cond_b rfl hc2 ?_
      refine Run.skip_go (fun _ _ h => h) ?_
      refine Run.seq ?_
      refine Run.block ?_
      refine Run.seq ?_
      refine Run.region ?_
      have c47 := s20.trans s32
      have q46 := (RowsV.pers _).step c47 h1
      obtain ⟨vs40, u41, m42, r43, q44, q45⟩ := RowsV.at_ q46 k (by first | omega | (simp; omega) | (simp at *; omega))
      obtain ⟨A48, c49, rfl⟩ := BytesV.shape q45
      have z50 := BytesV.cap q45
      refine Seq.val (Does.index_row k Try.underlying34 ty22 rfl rfl r43 m42 (by first | omega | (simp; omega) | (simp at *; omega)) (by first | omega | (simp; omega) | (simp at *; omega))) (by decide) ?_
      refine Seq.val (Does.load_row ty22 rfl r43 q44) (by decide) ?_
      refine Seq.val (Does.assign rfl) (by decide) ?_
      refine Seq.go (fun _ _ h => h) ?_
      refine Run.region ?_
      refine Seq.val (Does.move rfl) (by decide) ?_
      refine Seq.val (Does.move rfl) (by decide) ?_
      refine Seq.callW (V := Is (.tuple #[])) (bs := (wr ++ be (u64i (List.length l)) 1 ++ flat (List.take k l) 1024) ++ textOr (List.getD l k []) 1024) (bad := (long (List.take k l) 1024) || decide (1024 < (List.length (List.getD l k []) : Int))) cal88 rfl (by decide) (wire_text hv31 (most := 1024) (wr := wr ++ be (u64i (List.length l)) 1 ++ flat (List.take k l) 1024) (wrbad := long (List.take k l) 1024) (wrb := wrb) (Wr.mk o35 o34) q45 (show 0 ≤ 1024 ∧ 1024 ≤ 10000 from by first | omega | (simp [be_length]; omega) | (rw [hx]; omega)) (show List.length (wr ++ be (u64i (List.length l)) 1 ++ flat (List.take k l) 1024) ≤ 900000 from by first | omega | (simp [be_length]; omega) | (rw [hx]; omega))) ?_
      intro lab56 w57 v58 v59 q60 o61 o62 s63 hv64
      obtain ⟨A65, c66, rfl⟩ := App.shape o62
      have m67 : List.length ((wr ++ be (u64i (List.length l)) 1 ++ flat (List.take k l) 1024) ++ textOr (List.getD l k []) 1024) = List.length ((wr ++ be (u64i (List.length l)) 1 ++ flat (List.take k l) 1024) ++ textOr (List.getD l k []) 1024) := App.lenMap o62
      have z68 := (App.row o62).2
      have q60 := Is.out q60; subst q60
      refine Seq.go (fun _ _ h => h) ?_
      refine Run.region ?_
      refine Seq.val (Does.add rfl rfl (by first | omega | (simp; omega) | (simp at *; omega))) (by decide) ?_
      refine Seq.val (Does.move rfl) (by decide) ?_
      have c69 := s32.trans s63
      exact Seq.nil (fun a70 h71 => ⟨_, by omega, _, h71.weaken (subs_lk (l' := [(16, i64 (((k + 1) : Nat) : Int)), (0, .pointer (some ⟨wrb, 0, none⟩)), (1, .slice A5 (List.length l) c6), (6, .pointer (some ⟨wrb, 0, none⟩)), (7, .slice A5 (List.length l) c6), (8, i64 ((List.length l : Nat) : Int)), (9, .tuple #[]), (10, .pointer (some ⟨wrb, 0, none⟩)), (11, .pointer (some ⟨wrb, 0, none⟩)), (12, .pointer (some ⟨wrb, 1, none⟩)), (13, .bool (wrbad || out_ ((List.length l : Nat) : Int) 0 64)), (14, .slice A5 (List.length l) c6), (15, i64 ((List.length l : Nat) : Int))]) ⟨(congrArg (fun z => some (i64 z)) (show (((k : Nat) : Int) + 1 : Int) = (((k + 1) : Nat) : Int) from by first | rfl | omega | (simp [flat]; done) | (rw [hc1]; simp [long]; done) | (exact long_snoc _ _ _ (by omega)) | (rw [List.append_assoc, List.append_assoc, ← flat_snoc _ _ _ (by omega)]; simp; done))), rfl, rfl, rfl, rfl, rfl, rfl, rfl, rfl, rfl, rfl, rfl, rfl, trivial⟩), ⟨k + 1, lab56, (.slice A65 (List.length ((wr ++ be (u64i (List.length l)) 1 ++ flat (List.take k l) 1024) ++ textOr (List.getD l k []) 1024)) c66), rfl, rfl, hv64, (c69.more (by decide)), (appCast (show (wr ++ be (u64i (List.length l)) 1 ++ flat (List.take k l) 1024) ++ textOr (List.getD l k []) 1024 = wr ++ be (u64i (List.length l)) 1 ++ flat (List.take (k + 1) l) 1024 from by first | rfl | (simp [flat]; done) | (rw [List.append_assoc, flat_snoc _ _ _ (by omega)])) (show List.length ((wr ++ be (u64i (List.length l)) 1 ++ flat (List.take k l) 1024) ++ textOr (List.getD l k []) 1024) = List.length (wr ++ be (u64i (List.length l)) 1 ++ flat (List.take (k + 1) l) 1024) from by first | rfl | omega | (simp [flat]; done) | (rw [hc1]; simp [long]; done) | (exact long_snoc _ _ _ (by omega)) | (rw [List.append_assoc, List.append_assoc, ← flat_snoc _ _ _ (by omega)]; simp; done)) o62), ((show ((long (List.take k l) 1024) || decide (1024 < (List.length (List.getD l k []) : Int)) : Bool) = long (List.take (k + 1) l) 1024 from by first | rfl | omega | (simp [flat]; done) | (rw [hc1]; simp [long]; done) | (exact long_snoc _ _ _ (by omega)) | (rw [List.append_assoc, List.append_assoc, ← flat_snoc _ _ _ (by omega)]; simp; done)) ▸ o61), (by first | omega | (simp at *; omega))⟩⟩)
    · skip
      have hp2 := of_decide_eq_false hc2
      refine Run.cond_b rfl hc2 ?_
      have c72 := s20.trans s32
      refine Run.exit ?_
      exact post_none Try.results95  ⟨_, rfl, _, rfl, (Wr.cast (show wr ++ be (u64i (List.length l)) 1 ++ flat (List.take k l) 1024 = (wr ++ textsW l wrbad) from by first | rfl | (unfold natsW; rw [hc1]; simp; done; done) | (unfold textsW; rw [hc1]; simp; done; done) | (unfold textsW; rw [hc1, List.take_of_length_le (by omega)]; simp; done; done) | (unfold natsW; rw [hc1, List.take_of_length_le (by rw [natsB_length]; omega)]; simp; done; done) | (rw [hc1, List.take_of_length_le (by omega)]; simp; done; done) | (simp [hc1]; done; done) | (rw [hc1, List.take_of_length_le (by omega)]; simp; done; done) | (simp_all; done) | omega) (show (long (List.take k l) 1024) = (wrbad || out_ (List.length l) 0 64 || long l 1024) from by first | rfl | (unfold natsW; rw [hc1]; simp; done; done) | (unfold textsW; rw [hc1]; simp; done; done) | (unfold textsW; rw [hc1, List.take_of_length_le (by omega)]; simp; done; done) | (unfold natsW; rw [hc1, List.take_of_length_le (by rw [natsB_length]; omega)]; simp; done; done) | (rw [hc1, List.take_of_length_le (by omega)]; simp; done; done) | (simp [hc1]; done; done) | (rw [hc1, List.take_of_length_le (by omega)]; simp; done; done) | (simp_all; done) | omega) (Wr.mk o35 o34)), c72.more (by decide), hv31⟩

theorem wire_nats {lab : Lab} {w : World} (hv : Valid lab w) {wrb : Nat} {wr : List UInt8} {wrbad : Bool} (hW : Wr 144 5 lab w wrb wr wrbad) {l : List Nat} {v1 : Value} (h1 : NatsV l lab w v1) (hw : List.length wr ≤ 500000) (hn : ∀ k, k < List.length l → nw (List.getD l k 0) ≤ 1000000) :
    Calls Try.prog 94 #[.pointer (some ⟨wrb, 0, none⟩), v1] w (Wrote 144 5 lab w wrb (Is (.tuple #[])) (wr ++ natsW l wrbad) (wrbad || out_ (List.length l) 0 64 || long (natsB l) 128)) := by
  have hv0 := entW_valid hv
  obtain ⟨zU0, zU1, zU2, z00⟩ := entW_step lab w
  obtain ⟨vW, oW, aW⟩ := hW
  replace oW := oW.lift z00 zU1
  replace aW := aW.lift z00 zU2
  obtain ⟨A1, c2, rfl⟩ := App.shape aW
  have m3 : List.length wr = List.length wr := App.lenMap aW
  have z4 := (App.row aW).2
  replace h1 := (NatsV.pers _).step z00 h1
  obtain ⟨A5, c6, rfl⟩ := NatsV.shape h1
  have z7 := NatsV.cap h1
  refine calls_run Try.func94 rfl Try.ntmps94 (Nat.le_of_ble_eq_true rfl) ?_
  refine Run.seq ?_
  refine Run.region ?_
  refine Seq.val (Does.move rfl) (by decide) ?_
  refine Seq.val (Does.move rfl) (by decide) ?_
  refine Seq.val (Does.len Try.underlying38 rfl) (by decide) ?_
  refine Seq.callW (V := Is (.tuple #[])) (bs := wr ++ be (u64i ((List.length l : Nat) : Int)) (Int.toNat 1)) (bad := wrbad || out_ ((List.length l : Nat) : Int) 0 64) cal87 rfl (by decide) (wire_num hv0 (n := ((List.length l : Nat) : Int)) (least := 0) (most := 64) (size := 1) (wr := wr) (wrbad := wrbad) (wrb := wrb) (Wr.mk oW aW) (show 0 ≤ 1 ∧ 1 ≤ 8 from by first | omega | (simp [be_length]; omega) | (rw [hx]; omega) | (exact hn _ (by omega))) (show List.length wr ≤ 1000000 from by first | omega | (simp [be_length]; omega) | (rw [hx]; omega) | (exact hn _ (by omega)))) ?_
  intro lab13 w14 v15 v16 q17 o18 o19 s20 hv21
  obtain ⟨A22, c23, rfl⟩ := App.shape o19
  have m24 : List.length (wr ++ be (u64i ((List.length l : Nat) : Int)) (Int.toNat 1)) = List.length (wr ++ be (u64i ((List.length l : Nat) : Int)) (Int.toNat 1)) := App.lenMap o19
  have z25 := (App.row o19).2
  have q17 := Is.out q17; subst q17
  refine Seq.go (fun _ _ h => h) ?_
  refine Run.seq ?_
  refine Run.seq ?_
  refine Run.region ?_
  refine Seq.val (Does.move rfl) (by decide) ?_
  refine Seq.val (Does.nilCheck rfl) (by decide) ?_
  refine Seq.val (Does.fieldAddr' 1 Try.underlying144 rfl ty4 rfl rfl) (by decide) ?_
  refine Seq.val (Does.load_own1 o18 ty4 rfl rfl) (by decide) ?_
  refine Seq.go (fun _ _ h => h) ?_
  rcases bdich (wrbad || out_ ((List.length l : Nat) : Int) 0 64) with hc1 | hc1
  · skip
    refine Run.cond_b rfl hc1 ?_
    obtain ⟨lab9, U9, st9, hv9, u91, u92, s9⟩ := s20.leaveW (by decide) hv hv21
    refine Run.ret (ret_then ?_)
    exact post_none Try.results94  ⟨_, rfl, _, rfl, (Wr.cast (show wr ++ be (u64i ((List.length l : Nat) : Int)) (Int.toNat 1) = (wr ++ natsW l wrbad) from by first | rfl | (unfold natsW; rw [hc1]; simp; done; done) | (unfold textsW; rw [hc1]; simp; done; done) | (unfold textsW; rw [hc1, List.take_of_length_le (by omega)]; simp; done; done) | (unfold natsW; rw [hc1, List.take_of_length_le (by rw [natsB_length]; omega)]; simp; done; done) | (rw [hc1, List.take_of_length_le (by rw [natsB_length]; omega)]; simp; done; done) | (simp [hc1]; done; done) | (simp_all; done) | omega) (show (wrbad || out_ ((List.length l : Nat) : Int) 0 64) = (wrbad || out_ (List.length l) 0 64 || long (natsB l) 128) from by first | rfl | (unfold natsW; rw [hc1]; simp; done; done) | (unfold textsW; rw [hc1]; simp; done; done) | (unfold textsW; rw [hc1, List.take_of_length_le (by omega)]; simp; done; done) | (unfold natsW; rw [hc1, List.take_of_length_le (by rw [natsB_length]; omega)]; simp; done; done) | (rw [hc1, List.take_of_length_le (by rw [natsB_length]; omega)]; simp; done; done) | (simp [hc1]; done; done) | (simp_all; done) | omega) (Wr.mk (o18.lift s9 u91) (o19.lift s9 u92))), st9, hv9⟩
  · skip
    refine Run.cond_b rfl hc1 ?_
    refine Run.skip_go (fun _ _ h => h) ?_
    refine Run.seq ?_
    refine Run.region ?_
    refine Seq.val (Does.move rfl) (by decide) ?_
    refine Seq.val (Does.len Try.underlying38 rfl) (by decide) ?_
    refine Seq.val (Does.move rfl) (by decide) ?_
    refine Seq.go (fun _ _ h => h) ?_
    refine Run.block ?_
    refine Run.loop (fun m' l' w' => ∃ (k : Nat) (lab' : Lab) (ux902 : Value), m' = List.length l - k ∧ l' = [(16, i64 ((k : Nat) : Int)), (0, .pointer (some ⟨wrb, 0, none⟩)), (1, .slice A5 (List.length l) c6), (6, .pointer (some ⟨wrb, 0, none⟩)), (7, .slice A5 (List.length l) c6), (8, i64 ((List.length l : Nat) : Int)), (9, .tuple #[]), (10, .pointer (some ⟨wrb, 0, none⟩)), (11, .pointer (some ⟨wrb, 0, none⟩)), (12, .pointer (some ⟨wrb, 1, none⟩)), (13, .bool (wrbad || out_ ((List.length l : Nat) : Int) 0 64)), (14, .slice A5 (List.length l) c6), (15, i64 ((List.length l : Nat) : Int))] ∧ Valid lab' w' ∧ Stp [6, 901, 902] lab13 w14 lab' w' ∧ App lab' w' 902 5 ux902 (List.length (wr ++ be (u64i (List.length l)) 1 ++ flat (List.take k (natsB l)) 128)) (List.map u8 (wr ++ be (u64i (List.length l)) 1 ++ flat (List.take k (natsB l)) 128)) ∧ Own lab' w' 901 wrb 144 #[ux902, .bool (long (List.take k (natsB l)) 128)] ∧ (k ≤ List.length l)) (List.length l - 0) (l0 := [(16, i64 ((0 : Nat) : Int)), (0, .pointer (some ⟨wrb, 0, none⟩)), (1, .slice A5 (List.length l) c6), (6, .pointer (some ⟨wrb, 0, none⟩)), (7, .slice A5 (List.length l) c6), (8, i64 ((List.length l : Nat) : Int)), (9, .tuple #[]), (10, .pointer (some ⟨wrb, 0, none⟩)), (11, .pointer (some ⟨wrb, 0, none⟩)), (12, .pointer (some ⟨wrb, 1, none⟩)), (13, .bool (wrbad || out_ ((List.length l : Nat) : Int) 0 64)), (14, .slice A5 (List.length l) c6), (15, i64 ((List.length l : Nat) : Int))]) ⟨(congrArg (fun z => some (i64 z)) (show (0 : Int) = ((0 : Nat) : Int) from by first | rfl | omega | (simp [flat]; done) | (rw [hc1]; simp [long]; done) | (rw [← natsB_get _ _ (by omega)]; exact long_snoc _ _ _ (by omega)) | (rw [List.append_assoc, List.append_assoc, ← flat_snoc _ _ _ (by omega), natsB_get _ _ (by omega)]; simp; done))), rfl, rfl, rfl, rfl, rfl, rfl, rfl, rfl, rfl, rfl, rfl, rfl, trivial⟩ ⟨0, lab13, (.slice A22 (List.length (wr ++ be (u64i ((List.length l : Nat) : Int)) (Int.toNat 1))) c23), rfl, rfl, hv21, ((Stp.refl _ _).more (by simp)), (appCast (show wr ++ be (u64i ((List.length l : Nat) : Int)) (Int.toNat 1) = wr ++ be (u64i (List.length l)) 1 ++ flat (List.take 0 (natsB l)) 128 from by first | rfl | (simp [flat]; done) | (rw [List.append_assoc, ← natsB_get _ _ (by omega), flat_snoc _ _ _ (by omega)])) (show List.length (wr ++ be (u64i ((List.length l : Nat) : Int)) (Int.toNat 1)) = List.length (wr ++ be (u64i (List.length l)) 1 ++ flat (List.take 0 (natsB l)) 128) from by first | rfl | omega | (simp [flat]; done) | (rw [hc1]; simp [long]; done) | (rw [← natsB_get _ _ (by omega)]; exact long_snoc _ _ _ (by omega)) | (rw [List.append_assoc, List.append_assoc, ← flat_snoc _ _ _ (by omega), natsB_get _ _ (by omega)]; simp; done)) o19), ((show (wrbad || out_ ((List.length l : Nat) : Int) 0 64 : Bool) = long (List.take 0 (natsB l)) 128 from by first | rfl | omega | (simp [flat]; done) | (rw [hc1]; simp [long]; done) | (rw [← natsB_get _ _ (by omega)]; exact long_snoc _ _ _ (by omega)) | (rw [List.append_assoc, List.append_assoc, ← flat_snoc _ _ _ (by omega), natsB_get _ _ (by omega)]; simp; done)) ▸ o18), (by first | omega | (simp at *; omega))⟩ ?_
    intro m26 l27 w28 H29
    obtain ⟨k, lab30, v33, hzm, rfl, hv31, s32, o34, o35, hk⟩ := H29
    replace hzm := hzm.symm; subst hzm
    obtain ⟨A36, c37, rfl⟩ := App.shape o34
    have m38 : List.length (wr ++ be (u64i (List.length l)) 1 ++ flat (List.take k (natsB l)) 128) = List.length (wr ++ be (u64i (List.length l)) 1 ++ flat (List.take k (natsB l)) 128) := App.lenMap o34
    have z39 := (App.row o34).2
    have hb := lt64 hc1
    have hf := flat_le (List.take k (natsB l)) (most := 128) (by omega)
    have hm := natsB_length l
    have ht : (List.take k (natsB l)).length = k := by rw [List.length_take]; omega
    have hx := wlen wr (u64i (List.length l)) (flat (List.take k (natsB l)) 128)
    refine Run.seq ?_
    refine Run.region ?_
    refine Seq.val (Does.lss rfl rfl) (by decide) ?_
    refine Seq.go (fun _ _ h => h) ?_
    refine Run.seq ?_
    rcases bdich (decide ((((k : Nat) : Int) : Int) < (((List.length l : Nat) : Int) : Int))) with hc2 | hc2
    · skip
      have hp2 := of_decide_eq_true hc2
      refine Run.cond_b rfl hc2 ?_
      refine Run.skip_go (fun _ _ h => h) ?_
      refine Run.seq ?_
      refine Run.block ?_
      refine Run.seq ?_
      refine Run.region ?_
      have c47 := s20.trans s32
      have q46 := (NatsV.pers _).step c47 h1
      obtain ⟨vs40, u41, m42, r43, q44, q45⟩ := NatsV.at_ q46 k (by first | omega | (simp; omega) | (simp at *; omega))
      obtain ⟨A48, c49, hz⟩ := NatV.shape q45; cases hz
      have z50 := NatV.cap q45
      refine Seq.val (Does.index_row k Try.underlying38 ty60 rfl rfl r43 m42 (by first | omega | (simp; omega) | (simp at *; omega)) (by first | omega | (simp; omega) | (simp at *; omega))) (by decide) ?_
      refine Seq.val (Does.load_rowN ty60 rfl r43 q44) (by decide) ?_
      refine Seq.alloc (k := 6) [.slice none 0 0] hv31 ty60 rfl (by decide) ?_
      intro lab51 w52 b53 o54 s55 hv56
      refine Seq.store [.slice A48 (nw (List.getD l k 0)) c49] hv56 o54 ty60 rfl rfl rfl (Nat.le_of_ble_eq_true rfl) rfl rfl ?_
      intro w57 o58 s59 hv60
      refine Seq.go (fun _ _ h => h) ?_
      refine Run.region ?_
      refine Seq.val (Does.move rfl) (by decide) ?_
      refine Seq.val (Does.load_ownN [.slice A48 (nw (List.getD l k 0)) c49] o58 ty60 rfl rfl) (by decide) ?_
      have c62 := s55.trans s59
      have q61 := (NatV.pers _).step c62 q45
      refine Seq.callS (V := BytesV (beN (List.getD l k 0) ((blen (List.getD l k 0) + 7) / 8))) cal125 hv60 rfl (by decide) (nat_Least hv60 q61 (show nw (List.getD l k 0) ≤ 1000000 from by first | omega | (simp [be_length]; omega) | (rw [hx]; omega) | (exact hn _ (by omega)))) ?_
      intro v63 w64 q65 s66 hv67
      obtain ⟨A68, c69, rfl⟩ := BytesV.shape q65
      have z70 := BytesV.cap q65
      have c72 := c62.trans s66
      have o71 := o35.lift c72 (by decide)
      have o73 := o34.lift c72 (by decide)
      refine Seq.callW (V := Is (.tuple #[])) (bs := (wr ++ be (u64i (List.length l)) 1 ++ flat (List.take k (natsB l)) 128) ++ textOr (beN (List.getD l k 0) ((blen (List.getD l k 0) + 7) / 8)) 128) (bad := (long (List.take k (natsB l)) 128) || decide (128 < (List.length (beN (List.getD l k 0) ((blen (List.getD l k 0) + 7) / 8)) : Int))) cal88 rfl (by decide) (wire_text hv67 (most := 128) (wr := wr ++ be (u64i (List.length l)) 1 ++ flat (List.take k (natsB l)) 128) (wrbad := long (List.take k (natsB l)) 128) (wrb := wrb) (Wr.mk o71 o73) q65 (show 0 ≤ 128 ∧ 128 ≤ 10000 from by first | omega | (simp [be_length]; omega) | (rw [hx]; omega) | (exact hn _ (by omega))) (show List.length (wr ++ be (u64i (List.length l)) 1 ++ flat (List.take k (natsB l)) 128) ≤ 900000 from by first | omega | (simp [be_length]; omega) | (rw [hx]; omega) | (exact hn _ (by omega)))) ?_
      intro lab79 w80 v81 v82 q83 o84 o85 s86 hv87
      obtain ⟨A88, c89, rfl⟩ := App.shape o85
      have m90 : List.length ((wr ++ be (u64i (List.length l)) 1 ++ flat (List.take k (natsB l)) 128) ++ textOr (beN (List.getD l k 0) ((blen (List.getD l k 0) + 7) / 8)) 128) = List.length ((wr ++ be (u64i (List.length l)) 1 ++ flat (List.take k (natsB l)) 128) ++ textOr (beN (List.getD l k 0) ((blen (List.getD l k 0) + 7) / 8)) 128) := App.lenMap o85
      have z91 := (App.row o85).2
      have q83 := Is.out q83; subst q83
      refine Seq.go (fun _ _ h => h) ?_
      refine Run.region ?_
      refine Seq.val (Does.add rfl rfl (by first | omega | (simp; omega) | (simp at *; omega))) (by decide) ?_
      refine Seq.val (Does.move rfl) (by decide) ?_
      have c92 := c72.trans s86
      have c93 := s32.trans c92
      exact Seq.nil (fun a94 h95 => ⟨_, by omega, _, h95.weaken (subs_lk (l' := [(16, i64 (((k + 1) : Nat) : Int)), (0, .pointer (some ⟨wrb, 0, none⟩)), (1, .slice A5 (List.length l) c6), (6, .pointer (some ⟨wrb, 0, none⟩)), (7, .slice A5 (List.length l) c6), (8, i64 ((List.length l : Nat) : Int)), (9, .tuple #[]), (10, .pointer (some ⟨wrb, 0, none⟩)), (11, .pointer (some ⟨wrb, 0, none⟩)), (12, .pointer (some ⟨wrb, 1, none⟩)), (13, .bool (wrbad || out_ ((List.length l : Nat) : Int) 0 64)), (14, .slice A5 (List.length l) c6), (15, i64 ((List.length l : Nat) : Int))]) ⟨(congrArg (fun z => some (i64 z)) (show (((k : Nat) : Int) + 1 : Int) = (((k + 1) : Nat) : Int) from by first | rfl | omega | (simp [flat]; done) | (rw [hc1]; simp [long]; done) | (rw [← natsB_get _ _ (by omega)]; exact long_snoc _ _ _ (by omega)) | (rw [List.append_assoc, List.append_assoc, ← flat_snoc _ _ _ (by omega), natsB_get _ _ (by omega)]; simp; done))), rfl, rfl, rfl, rfl, rfl, rfl, rfl, rfl, rfl, rfl, rfl, rfl, trivial⟩), ⟨k + 1, lab79, (.slice A88 (List.length ((wr ++ be (u64i (List.length l)) 1 ++ flat (List.take k (natsB l)) 128) ++ textOr (beN (List.getD l k 0) ((blen (List.getD l k 0) + 7) / 8)) 128)) c89), rfl, rfl, hv87, (c93.more (by decide)), (appCast (show (wr ++ be (u64i (List.length l)) 1 ++ flat (List.take k (natsB l)) 128) ++ textOr (beN (List.getD l k 0) ((blen (List.getD l k 0) + 7) / 8)) 128 = wr ++ be (u64i (List.length l)) 1 ++ flat (List.take (k + 1) (natsB l)) 128 from by first | rfl | (simp [flat]; done) | (rw [List.append_assoc, ← natsB_get _ _ (by omega), flat_snoc _ _ _ (by omega)])) (show List.length ((wr ++ be (u64i (List.length l)) 1 ++ flat (List.take k (natsB l)) 128) ++ textOr (beN (List.getD l k 0) ((blen (List.getD l k 0) + 7) / 8)) 128) = List.length (wr ++ be (u64i (List.length l)) 1 ++ flat (List.take (k + 1) (natsB l)) 128) from by first | rfl | omega | (simp [flat]; done) | (rw [hc1]; simp [long]; done) | (rw [← natsB_get _ _ (by omega)]; exact long_snoc _ _ _ (by omega)) | (rw [List.append_assoc, List.append_assoc, ← flat_snoc _ _ _ (by omega), natsB_get _ _ (by omega)]; simp; done)) o85), ((show ((long (List.take k (natsB l)) 128) || decide (128 < (List.length (beN (List.getD l k 0) ((blen (List.getD l k 0) + 7) / 8)) : Int)) : Bool) = long (List.take (k + 1) (natsB l)) 128 from by first | rfl | omega | (simp [flat]; done) | (rw [hc1]; simp [long]; done) | (rw [← natsB_get _ _ (by omega)]; exact long_snoc _ _ _ (by omega)) | (rw [List.append_assoc, List.append_assoc, ← flat_snoc _ _ _ (by omega), natsB_get _ _ (by omega)]; simp; done)) ▸ o84), (by first | omega | (simp at *; omega))⟩⟩)
    · skip
      have hp2 := of_decide_eq_false hc2
      refine Run.cond_b rfl hc2 ?_
      have c96 := s20.trans s32
      obtain ⟨lab9, U9, st9, hv9, u91, u92, s9⟩ := c96.leaveW (by decide) hv hv31
      refine Run.exit ?_
      exact post_none Try.results94  ⟨_, rfl, _, rfl, (Wr.cast (show wr ++ be (u64i (List.length l)) 1 ++ flat (List.take k (natsB l)) 128 = (wr ++ natsW l wrbad) from by first | rfl | (unfold natsW; rw [hc1]; simp; done; done) | (unfold textsW; rw [hc1]; simp; done; done) | (unfold textsW; rw [hc1, List.take_of_length_le (by omega)]; simp; done; done) | (unfold natsW; rw [hc1, List.take_of_length_le (by rw [natsB_length]; omega)]; simp; done; done) | (rw [hc1, List.take_of_length_le (by rw [natsB_length]; omega)]; simp; done; done) | (simp [hc1]; done; done) | (simp_all; done) | omega) (show (long (List.take k (natsB l)) 128) = (wrbad || out_ (List.length l) 0 64 || long (natsB l) 128) from by first | rfl | (unfold natsW; rw [hc1]; simp; done; done) | (unfold textsW; rw [hc1]; simp; done; done) | (unfold textsW; rw [hc1, List.take_of_length_le (by omega)]; simp; done; done) | (unfold natsW; rw [hc1, List.take_of_length_le (by rw [natsB_length]; omega)]; simp; done; done) | (rw [hc1, List.take_of_length_le (by rw [natsB_length]; omega)]; simp; done; done) | (simp [hc1]; done; done) | (simp_all; done) | omega) (Wr.mk (o35.lift s9 u91) (o34.lift s9 u92))), st9, hv9⟩

theorem wire_uses {lab : Lab} {w : World} (hv : Valid lab w) {en : EntryD} {v0 : Value} (h0 : EntryV en lab w v0) :
    Calls Try.prog 96 #[v0] w (fun e w' => ∃ v, e = .returned v ∧ (Is (.bool (usesB en.kind en.mode en.peer en.phase (List.length en.nums) (List.length en.texts) (List.length en.proof)))) lab w' v ∧ Below w.heap.size w w') := by
  have hv0 := hv.ent
  obtain ⟨zU0, z00⟩ := ent_step lab w
  replace h0 := (EntryV.pers _).step z00 h0
  obtain ⟨A1, c2, A4, c5, A7, c8, rfl, q3, q6, q9⟩ := EntryV.open h0
  have z10 := NatsV.cap q3
  have z11 := RowsV.cap q6
  have z12 := BytesV.cap q9
  refine calls_run Try.func96 rfl Try.ntmps96 (Nat.le_of_ble_eq_true rfl) ?_
  refine Run.seq ?_
  refine Run.region ?_
  refine Seq.box (k := 2) [i64 en.kind, i64 en.author, i64 en.epoch, i64 en.mode, i64 en.peer, i64 en.phase, .slice A1 (List.length en.nums) c2, .slice A4 (List.length en.texts) c5, .slice A7 (List.length en.proof) c8] hv0 rfl rfl (by decide) ?_
  intro lab13 w14 b15 o16 s17 hv18
  refine Seq.val (Does.assign rfl) (by decide) ?_
  refine Seq.go (fun _ _ h => h) ?_
  refine Run.seq ?_
  refine Run.region ?_
  refine Seq.val (Does.assign rfl) (by decide) ?_
  refine Seq.val (Does.assign rfl) (by decide) ?_
  refine Seq.val (Does.assign rfl) (by decide) ?_
  refine Seq.val (Does.assign rfl) (by decide) ?_
  refine Seq.val (Does.assign rfl) (by decide) ?_
  refine Seq.val (Does.assign rfl) (by decide) ?_
  refine Seq.go (fun _ _ h => h) ?_
  refine Run.seq ?_
  refine Run.seq ?_
  refine Run.region ?_
  refine Seq.val (Does.fieldAddr' 0 Try.underlying40 rfl ty3 rfl rfl) (by decide) ?_
  refine Seq.val (Does.load_own1 o16 ty3 rfl rfl) (by decide) ?_
  refine Seq.go (fun _ _ h => h) ?_
  refine Run.block ?_
  refine Run.seq ?_
  refine Run.region ?_
  refine Seq.val (Does.eql rfl rfl) (by decide) ?_
  refine Seq.val (Does.assign rfl) (by decide) ?_
  refine Seq.go (fun _ _ h => h) ?_
  rcases bdich (decide ((en.kind : Int) = (1 : Int))) with hc1 | hc1
  · skip
    have hp1 := of_decide_eq_true hc1
    refine Run.cond_b rfl hc1 ?_
    refine Run.region ?_
    refine Seq.val (Does.assign rfl) (by decide) ?_
    refine Seq.val (Does.assign rfl) (by decide) ?_
    refine Seq.go (fun _ _ h => h) ?_
    refine Run.seq ?_
    refine Run.region ?_
    refine Seq.val (Does.move rfl) (by decide) ?_
    refine Seq.val (Does.move rfl) (by decide) ?_
    refine Seq.guard_off' rfl rfl rfl rfl (by decide) ?_
    refine Seq.guard_off' rfl rfl rfl rfl (by decide) ?_
    refine Seq.guard_off' rfl rfl rfl rfl (by decide) ?_
    refine Seq.val (Does.pick_t rfl rfl) (by decide) ?_
    refine Seq.val (Does.move rfl) (by decide) ?_
    refine Seq.guard_on' rfl rfl rfl ?_
    refine Seq.val (Does.move rfl) (by decide) ?_
    refine Seq.guard_on' rfl rfl rfl ?_
    refine Seq.val (Does.move rfl) (by decide) ?_
    refine Seq.guard_off' rfl rfl rfl rfl (by decide) ?_
    refine Seq.guard_off' rfl rfl rfl rfl (by decide) ?_
    refine Seq.guard_off' rfl rfl rfl rfl (by decide) ?_
    refine Seq.guard_on' rfl rfl rfl ?_
    refine Seq.val (Does.pick_t rfl rfl) (by decide) ?_
    refine Seq.val (Does.pick_t rfl rfl) (by decide) ?_
    refine Seq.val (Does.move rfl) (by decide) ?_
    refine Seq.guard_on' rfl rfl rfl ?_
    refine Seq.val (Does.move rfl) (by decide) ?_
    refine Seq.guard_on' rfl rfl rfl ?_
    refine Seq.val (Does.move rfl) (by decide) ?_
    refine Seq.guard_on' rfl rfl rfl ?_
    refine Seq.val (Does.fieldAddr' 5 Try.underlying40 rfl ty3 rfl rfl) (by decide) ?_
    refine Seq.guard_on' rfl rfl rfl ?_
    refine Seq.val (Does.load_own1 o16 ty3 rfl rfl) (by decide) ?_
    refine Seq.guard_on' rfl rfl rfl ?_
    refine Seq.val (Does.eql rfl rfl) (by decide) ?_
    refine Seq.guard_on' rfl rfl rfl ?_
    refine Seq.val (Does.pick_f rfl rfl) (by decide) ?_
    refine Seq.val (Does.pick_t rfl rfl) (by decide) ?_
    refine Seq.val (Does.move rfl) (by decide) ?_
    rcases bdich (decide ((en.phase : Int) = (0 : Int))) with hc2 | hc2
    · skip
      have hp2 := of_decide_eq_true hc2
      refine Seq.guard_on' rfl rfl hc2 ?_
      refine Seq.val (Does.move rfl) (by decide) ?_
      refine Seq.guard_on' rfl rfl hc2 ?_
      refine Seq.val (Does.move rfl) (by decide) ?_
      refine Seq.guard_on' rfl rfl rfl ?_
      refine Seq.val (Does.fieldAddr' 6 Try.underlying40 rfl ty38 rfl rfl) (by decide) ?_
      refine Seq.guard_on' rfl rfl rfl ?_
      refine Seq.val (Does.load_own1 o16 ty38 rfl rfl) (by decide) ?_
      refine Seq.guard_on' rfl rfl rfl ?_
      refine Seq.val (Does.len Try.underlying38 rfl) (by decide) ?_
      refine Seq.guard_on' rfl rfl rfl ?_
      refine Seq.val (Does.eql rfl rfl) (by decide) ?_
      refine Seq.guard_on' rfl rfl hc2 ?_
      refine Seq.val (Does.pick_f rfl rfl) (by decide) ?_
      refine Seq.val (Does.pick_b rfl hc2 rfl) (by decide) ?_
      refine Seq.val (Does.move rfl) (by decide) ?_
      rcases bdich (decide ((((List.length en.nums : Nat) : Int) : Int) = (0 : Int))) with hc3 | hc3
      · skip
        have hp3 := of_decide_eq_true hc3
        refine Seq.guard_on' rfl rfl hc3 ?_
        refine Seq.val (Does.move rfl) (by decide) ?_
        refine Seq.guard_on' rfl rfl hc3 ?_
        refine Seq.val (Does.move rfl) (by decide) ?_
        refine Seq.guard_on' rfl rfl rfl ?_
        refine Seq.val (Does.fieldAddr' 7 Try.underlying40 rfl ty34 rfl rfl) (by decide) ?_
        refine Seq.guard_on' rfl rfl rfl ?_
        refine Seq.val (Does.load_own1 o16 ty34 rfl rfl) (by decide) ?_
        refine Seq.guard_on' rfl rfl rfl ?_
        refine Seq.val (Does.len Try.underlying34 rfl) (by decide) ?_
        refine Seq.guard_on' rfl rfl rfl ?_
        refine Seq.val (Does.eql rfl rfl) (by decide) ?_
        refine Seq.guard_on' rfl rfl hc3 ?_
        refine Seq.val (Does.pick_f rfl rfl) (by decide) ?_
        refine Seq.val (Does.pick_b rfl hc3 rfl) (by decide) ?_
        refine Seq.val (Does.move rfl) (by decide) ?_
        rcases bdich (decide ((((List.length en.texts : Nat) : Int) : Int) = (0 : Int))) with hc4 | hc4
        · skip
          have hp4 := of_decide_eq_true hc4
          refine Seq.guard_on' rfl rfl hc4 ?_
          refine Seq.val (Does.move rfl) (by decide) ?_
          refine Seq.guard_on' rfl rfl hc4 ?_
          refine Seq.val (Does.move rfl) (by decide) ?_
          refine Seq.guard_on' rfl rfl rfl ?_
          refine Seq.val (Does.fieldAddr' 8 Try.underlying40 rfl ty22 rfl rfl) (by decide) ?_
          refine Seq.guard_on' rfl rfl rfl ?_
          refine Seq.val (Does.load_own1 o16 ty22 rfl rfl) (by decide) ?_
          refine Seq.guard_on' rfl rfl rfl ?_
          refine Seq.val (Does.len Try.underlying22 rfl) (by decide) ?_
          refine Seq.guard_on' rfl rfl rfl ?_
          refine Seq.val (Does.eql rfl rfl) (by decide) ?_
          refine Seq.guard_on' rfl rfl hc4 ?_
          refine Seq.val (Does.pick_f rfl rfl) (by decide) ?_
          refine Seq.val (Does.pick_b rfl hc4 rfl) (by decide) ?_
          refine Seq.val (Does.assign rfl) (by decide) ?_
          refine Seq.go (fun _ _ h => h) ?_
          obtain ⟨zU, zo⟩ := s17.out (by decide) hv
          refine Run.ret ?_
          exact post_one Try.results96 rfl ⟨_, rfl, (isBool (show ((decide ((((List.length en.proof : Nat) : Int) : Int) = (0 : Int))) : Bool) = (usesB en.kind en.mode en.peer en.phase (List.length en.nums) (List.length en.texts) (List.length en.proof)) from by first | rfl | (simp_all [usesB]; done; done) | (simp_all [usesB]; omega; done) | (simp_all; done) | omega) _ _), s17.leave (by decide)⟩
        · skip
          have hp4 := of_decide_eq_false hc4
          refine Seq.guard_off' rfl rfl hc4 rfl (by decide) ?_
          refine Seq.guard_off' rfl rfl hc4 rfl (by decide) ?_
          refine Seq.guard_undef rfl rfl (by decide) ?_
          refine Seq.guard_undef rfl rfl (by decide) ?_
          refine Seq.guard_undef rfl rfl (by decide) ?_
          refine Seq.guard_undef rfl rfl (by decide) ?_
          refine Seq.guard_off' rfl rfl hc4 rfl (by decide) ?_
          refine Seq.val (Does.pick_b rfl hc4 rfl) (by decide) ?_
          refine Seq.val (Does.assign rfl) (by decide) ?_
          refine Seq.go (fun _ _ h => h) ?_
          obtain ⟨zU, zo⟩ := s17.out (by decide) hv
          refine Run.ret ?_
          exact post_one Try.results96 rfl ⟨_, rfl, (isBool (show (false : Bool) = (usesB en.kind en.mode en.peer en.phase (List.length en.nums) (List.length en.texts) (List.length en.proof)) from by first | rfl | (simp_all [usesB]; done; done) | (simp_all [usesB]; omega; done) | (simp_all; done) | omega) _ _), s17.leave (by decide)⟩
      · skip
        have hp3 := of_decide_eq_false hc3
        refine Seq.guard_off' rfl rfl hc3 rfl (by decide) ?_
        refine Seq.guard_off' rfl rfl hc3 rfl (by decide) ?_
        refine Seq.guard_undef rfl rfl (by decide) ?_
        refine Seq.guard_undef rfl rfl (by decide) ?_
        refine Seq.guard_undef rfl rfl (by decide) ?_
        refine Seq.guard_undef rfl rfl (by decide) ?_
        refine Seq.guard_off' rfl rfl hc3 rfl (by decide) ?_
        refine Seq.val (Does.pick_b rfl hc3 rfl) (by decide) ?_
        refine Seq.val (Does.move rfl) (by decide) ?_
        refine Seq.guard_off' rfl rfl rfl rfl (by decide) ?_
        refine Seq.guard_off' rfl rfl rfl rfl (by decide) ?_
        refine Seq.guard_undef rfl rfl (by decide) ?_
        refine Seq.guard_undef rfl rfl (by decide) ?_
        refine Seq.guard_undef rfl rfl (by decide) ?_
        refine Seq.guard_undef rfl rfl (by decide) ?_
        refine Seq.guard_off' rfl rfl rfl rfl (by decide) ?_
        refine Seq.val (Does.pick_f rfl rfl) (by decide) ?_
        refine Seq.val (Does.assign rfl) (by decide) ?_
        refine Seq.go (fun _ _ h => h) ?_
        obtain ⟨zU, zo⟩ := s17.out (by decide) hv
        refine Run.ret ?_
        exact post_one Try.results96 rfl ⟨_, rfl, (isBool (show (false : Bool) = (usesB en.kind en.mode en.peer en.phase (List.length en.nums) (List.length en.texts) (List.length en.proof)) from by first | rfl | (simp_all [usesB]; done; done) | (simp_all [usesB]; omega; done) | (simp_all; done) | omega) _ _), s17.leave (by decide)⟩
    · skip
      have hp2 := of_decide_eq_false hc2
      refine Seq.guard_off' rfl rfl hc2 rfl (by decide) ?_
      refine Seq.guard_off' rfl rfl hc2 rfl (by decide) ?_
      refine Seq.guard_undef rfl rfl (by decide) ?_
      refine Seq.guard_undef rfl rfl (by decide) ?_
      refine Seq.guard_undef rfl rfl (by decide) ?_
      refine Seq.guard_undef rfl rfl (by decide) ?_
      refine Seq.guard_off' rfl rfl hc2 rfl (by decide) ?_
      refine Seq.val (Does.pick_b rfl hc2 rfl) (by decide) ?_
      refine Seq.val (Does.move rfl) (by decide) ?_
      refine Seq.guard_off' rfl rfl rfl rfl (by decide) ?_
      refine Seq.guard_off' rfl rfl rfl rfl (by decide) ?_
      refine Seq.guard_undef rfl rfl (by decide) ?_
      refine Seq.guard_undef rfl rfl (by decide) ?_
      refine Seq.guard_undef rfl rfl (by decide) ?_
      refine Seq.guard_undef rfl rfl (by decide) ?_
      refine Seq.guard_off' rfl rfl rfl rfl (by decide) ?_
      refine Seq.val (Does.pick_f rfl rfl) (by decide) ?_
      refine Seq.val (Does.move rfl) (by decide) ?_
      refine Seq.guard_off' rfl rfl rfl rfl (by decide) ?_
      refine Seq.guard_off' rfl rfl rfl rfl (by decide) ?_
      refine Seq.guard_undef rfl rfl (by decide) ?_
      refine Seq.guard_undef rfl rfl (by decide) ?_
      refine Seq.guard_undef rfl rfl (by decide) ?_
      refine Seq.guard_undef rfl rfl (by decide) ?_
      refine Seq.guard_off' rfl rfl rfl rfl (by decide) ?_
      refine Seq.val (Does.pick_f rfl rfl) (by decide) ?_
      refine Seq.val (Does.assign rfl) (by decide) ?_
      refine Seq.go (fun _ _ h => h) ?_
      obtain ⟨zU, zo⟩ := s17.out (by decide) hv
      refine Run.ret ?_
      exact post_one Try.results96 rfl ⟨_, rfl, (isBool (show (false : Bool) = (usesB en.kind en.mode en.peer en.phase (List.length en.nums) (List.length en.texts) (List.length en.proof)) from by first | rfl | (simp_all [usesB]; done; done) | (simp_all [usesB]; omega; done) | (simp_all; done) | omega) _ _), s17.leave (by decide)⟩
  · skip
    have hp1 := of_decide_eq_false hc1
    refine Run.cond_b rfl hc1 ?_
    refine Run.seq ?_
    refine Run.seq ?_
    refine Run.region ?_
    refine Seq.val (Does.eql rfl rfl) (by decide) ?_
    refine Seq.val (Does.assign rfl) (by decide) ?_
    refine Seq.go (fun _ _ h => h) ?_
    rcases bdich (decide ((en.kind : Int) = (2 : Int))) with hc2 | hc2
    · skip
      have hp2 := of_decide_eq_true hc2
      refine Run.cond_b rfl hc2 ?_
      refine Run.skip_go (fun _ _ h => h) ?_
      refine Run.cond_b rfl hc2 ?_
      refine Run.region ?_
      refine Seq.val (Does.assign rfl) (by decide) ?_
      refine Seq.val (Does.assign rfl) (by decide) ?_
      refine Seq.go (fun _ _ h => h) ?_
      refine Run.seq ?_
      refine Run.region ?_
      refine Seq.val (Does.move rfl) (by decide) ?_
      refine Seq.val (Does.move rfl) (by decide) ?_
      refine Seq.guard_on' rfl rfl rfl ?_
      refine Seq.val (Does.fieldAddr' 3 Try.underlying40 rfl ty3 rfl rfl) (by decide) ?_
      refine Seq.guard_on' rfl rfl rfl ?_
      refine Seq.val (Does.load_own1 o16 ty3 rfl rfl) (by decide) ?_
      refine Seq.guard_on' rfl rfl rfl ?_
      refine Seq.val (Does.eql rfl rfl) (by decide) ?_
      refine Seq.val (Does.pick_f rfl rfl) (by decide) ?_
      refine Seq.val (Does.move rfl) (by decide) ?_
      rcases bdich (decide ((en.mode : Int) = (0 : Int))) with hc3 | hc3
      · skip
        have hp3 := of_decide_eq_true hc3
        refine Seq.guard_on' rfl rfl hc3 ?_
        refine Seq.val (Does.move rfl) (by decide) ?_
        refine Seq.guard_on' rfl rfl hc3 ?_
        refine Seq.val (Does.move rfl) (by decide) ?_
        refine Seq.guard_on' rfl rfl rfl ?_
        refine Seq.val (Does.fieldAddr' 4 Try.underlying40 rfl ty3 rfl rfl) (by decide) ?_
        refine Seq.guard_on' rfl rfl rfl ?_
        refine Seq.val (Does.load_own1 o16 ty3 rfl rfl) (by decide) ?_
        refine Seq.guard_on' rfl rfl rfl ?_
        refine Seq.val (Does.eql rfl rfl) (by decide) ?_
        refine Seq.guard_on' rfl rfl hc3 ?_
        refine Seq.val (Does.pick_f rfl rfl) (by decide) ?_
        refine Seq.val (Does.pick_b rfl hc3 rfl) (by decide) ?_
        refine Seq.val (Does.move rfl) (by decide) ?_
        rcases bdich (decide ((en.peer : Int) = (0 : Int))) with hc4 | hc4
        · skip
          have hp4 := of_decide_eq_true hc4
          refine Seq.guard_on' rfl rfl hc4 ?_
          refine Seq.val (Does.move rfl) (by decide) ?_
          refine Seq.guard_on' rfl rfl hc4 ?_
          refine Seq.val (Does.move rfl) (by decide) ?_
          refine Seq.guard_on' rfl rfl rfl ?_
          refine Seq.val (Does.fieldAddr' 5 Try.underlying40 rfl ty3 rfl rfl) (by decide) ?_
          refine Seq.guard_on' rfl rfl rfl ?_
          refine Seq.val (Does.load_own1 o16 ty3 rfl rfl) (by decide) ?_
          refine Seq.guard_on' rfl rfl rfl ?_
          refine Seq.val (Does.eql rfl rfl) (by decide) ?_
          refine Seq.guard_on' rfl rfl hc4 ?_
          refine Seq.val (Does.pick_f rfl rfl) (by decide) ?_
          refine Seq.val (Does.pick_b rfl hc4 rfl) (by decide) ?_
          refine Seq.val (Does.move rfl) (by decide) ?_
          rcases bdich (decide ((en.phase : Int) = (0 : Int))) with hc5 | hc5
          · skip
            have hp5 := of_decide_eq_true hc5
            refine Seq.guard_on' rfl rfl hc5 ?_
            refine Seq.val (Does.move rfl) (by decide) ?_
            refine Seq.guard_on' rfl rfl hc5 ?_
            refine Seq.val (Does.move rfl) (by decide) ?_
            refine Seq.guard_off' rfl rfl rfl rfl (by decide) ?_
            refine Seq.guard_off' rfl rfl rfl rfl (by decide) ?_
            refine Seq.guard_off' rfl rfl rfl rfl (by decide) ?_
            refine Seq.guard_off' rfl rfl rfl rfl (by decide) ?_
            refine Seq.guard_on' rfl rfl hc5 ?_
            refine Seq.val (Does.pick_t rfl rfl) (by decide) ?_
            refine Seq.val (Does.pick_b rfl hc5 rfl) (by decide) ?_
            refine Seq.val (Does.move rfl) (by decide) ?_
            refine Seq.guard_on' rfl rfl rfl ?_
            refine Seq.val (Does.move rfl) (by decide) ?_
            refine Seq.guard_on' rfl rfl rfl ?_
            refine Seq.val (Does.move rfl) (by decide) ?_
            refine Seq.guard_off' rfl rfl rfl rfl (by decide) ?_
            refine Seq.guard_off' rfl rfl rfl rfl (by decide) ?_
            refine Seq.guard_off' rfl rfl rfl rfl (by decide) ?_
            refine Seq.guard_off' rfl rfl rfl rfl (by decide) ?_
            refine Seq.guard_on' rfl rfl rfl ?_
            refine Seq.val (Does.pick_t rfl rfl) (by decide) ?_
            refine Seq.val (Does.pick_t rfl rfl) (by decide) ?_
            refine Seq.val (Does.move rfl) (by decide) ?_
            refine Seq.guard_on' rfl rfl rfl ?_
            refine Seq.val (Does.move rfl) (by decide) ?_
            refine Seq.guard_on' rfl rfl rfl ?_
            refine Seq.val (Does.move rfl) (by decide) ?_
            refine Seq.guard_on' rfl rfl rfl ?_
            refine Seq.val (Does.fieldAddr' 8 Try.underlying40 rfl ty22 rfl rfl) (by decide) ?_
            refine Seq.guard_on' rfl rfl rfl ?_
            refine Seq.val (Does.load_own1 o16 ty22 rfl rfl) (by decide) ?_
            refine Seq.guard_on' rfl rfl rfl ?_
            refine Seq.val (Does.len Try.underlying22 rfl) (by decide) ?_
            refine Seq.guard_on' rfl rfl rfl ?_
            refine Seq.val (Does.eql rfl rfl) (by decide) ?_
            refine Seq.guard_on' rfl rfl rfl ?_
            refine Seq.val (Does.pick_f rfl rfl) (by decide) ?_
            refine Seq.val (Does.pick_t rfl rfl) (by decide) ?_
            refine Seq.val (Does.assign rfl) (by decide) ?_
            refine Seq.go (fun _ _ h => h) ?_
            obtain ⟨zU, zo⟩ := s17.out (by decide) hv
            refine Run.ret ?_
            exact post_one Try.results96 rfl ⟨_, rfl, (isBool (show ((decide ((((List.length en.proof : Nat) : Int) : Int) = (0 : Int))) : Bool) = (usesB en.kind en.mode en.peer en.phase (List.length en.nums) (List.length en.texts) (List.length en.proof)) from by first | rfl | (simp_all [usesB]; done; done) | (simp_all [usesB]; omega; done) | (simp_all; done) | omega) _ _), s17.leave (by decide)⟩
          · skip
            have hp5 := of_decide_eq_false hc5
            refine Seq.guard_off' rfl rfl hc5 rfl (by decide) ?_
            refine Seq.guard_off' rfl rfl hc5 rfl (by decide) ?_
            refine Seq.guard_undef rfl rfl (by decide) ?_
            refine Seq.guard_undef rfl rfl (by decide) ?_
            refine Seq.guard_undef rfl rfl (by decide) ?_
            refine Seq.guard_undef rfl rfl (by decide) ?_
            refine Seq.guard_off' rfl rfl hc5 rfl (by decide) ?_
            refine Seq.val (Does.pick_b rfl hc5 rfl) (by decide) ?_
            refine Seq.val (Does.move rfl) (by decide) ?_
            refine Seq.guard_off' rfl rfl rfl rfl (by decide) ?_
            refine Seq.guard_off' rfl rfl rfl rfl (by decide) ?_
            refine Seq.guard_undef rfl rfl (by decide) ?_
            refine Seq.guard_undef rfl rfl (by decide) ?_
            refine Seq.guard_undef rfl rfl (by decide) ?_
            refine Seq.guard_undef rfl rfl (by decide) ?_
            refine Seq.guard_off' rfl rfl rfl rfl (by decide) ?_
            refine Seq.val (Does.pick_f rfl rfl) (by decide) ?_
            refine Seq.val (Does.move rfl) (by decide) ?_
            refine Seq.guard_off' rfl rfl rfl rfl (by decide) ?_
            refine Seq.guard_off' rfl rfl rfl rfl (by decide) ?_
            refine Seq.guard_undef rfl rfl (by decide) ?_
            refine Seq.guard_undef rfl rfl (by decide) ?_
            refine Seq.guard_undef rfl rfl (by decide) ?_
            refine Seq.guard_undef rfl rfl (by decide) ?_
            refine Seq.guard_off' rfl rfl rfl rfl (by decide) ?_
            refine Seq.val (Does.pick_f rfl rfl) (by decide) ?_
            refine Seq.val (Does.assign rfl) (by decide) ?_
            refine Seq.go (fun _ _ h => h) ?_
            obtain ⟨zU, zo⟩ := s17.out (by decide) hv
            refine Run.ret ?_
            exact post_one Try.results96 rfl ⟨_, rfl, (isBool (show (false : Bool) = (usesB en.kind en.mode en.peer en.phase (List.length en.nums) (List.length en.texts) (List.length en.proof)) from by first | rfl | (simp_all [usesB]; done; done) | (simp_all [usesB]; omega; done) | (simp_all; done) | omega) _ _), s17.leave (by decide)⟩
        · skip
          have hp4 := of_decide_eq_false hc4
          refine Seq.guard_off' rfl rfl hc4 rfl (by decide) ?_
          refine Seq.guard_off' rfl rfl hc4 rfl (by decide) ?_
          refine Seq.guard_undef rfl rfl (by decide) ?_
          refine Seq.guard_undef rfl rfl (by decide) ?_
          refine Seq.guard_undef rfl rfl (by decide) ?_
          refine Seq.guard_off' rfl rfl hc4 rfl (by decide) ?_
          refine Seq.val (Does.pick_b rfl hc4 rfl) (by decide) ?_
          refine Seq.val (Does.move rfl) (by decide) ?_
          refine Seq.guard_off' rfl rfl rfl rfl (by decide) ?_
          refine Seq.guard_off' rfl rfl rfl rfl (by decide) ?_
          refine Seq.guard_undef rfl rfl (by decide) ?_
          refine Seq.guard_undef rfl rfl (by decide) ?_
          refine Seq.guard_undef rfl rfl (by decide) ?_
          refine Seq.guard_undef rfl rfl (by decide) ?_
          refine Seq.guard_off' rfl rfl rfl rfl (by decide) ?_
          refine Seq.val (Does.pick_f rfl rfl) (by decide) ?_
          refine Seq.val (Does.move rfl) (by decide) ?_
          refine Seq.guard_off' rfl rfl rfl rfl (by decide) ?_
          refine Seq.guard_off' rfl rfl rfl rfl (by decide) ?_
          refine Seq.guard_undef rfl rfl (by decide) ?_
          refine Seq.guard_undef rfl rfl (by decide) ?_
          refine Seq.guard_undef rfl rfl (by decide) ?_
          refine Seq.guard_undef rfl rfl (by decide) ?_
          refine Seq.guard_off' rfl rfl rfl rfl (by decide) ?_
          refine Seq.val (Does.pick_f rfl rfl) (by decide) ?_
          refine Seq.val (Does.move rfl) (by decide) ?_
          refine Seq.guard_off' rfl rfl rfl rfl (by decide) ?_
          refine Seq.guard_off' rfl rfl rfl rfl (by decide) ?_
          refine Seq.guard_undef rfl rfl (by decide) ?_
          refine Seq.guard_undef rfl rfl (by decide) ?_
          refine Seq.guard_undef rfl rfl (by decide) ?_
          refine Seq.guard_undef rfl rfl (by decide) ?_
          refine Seq.guard_off' rfl rfl rfl rfl (by decide) ?_
          refine Seq.val (Does.pick_f rfl rfl) (by decide) ?_
          refine Seq.val (Does.assign rfl) (by decide) ?_
          refine Seq.go (fun _ _ h => h) ?_
          obtain ⟨zU, zo⟩ := s17.out (by decide) hv
          refine Run.ret ?_
          exact post_one Try.results96 rfl ⟨_, rfl, (isBool (show (false : Bool) = (usesB en.kind en.mode en.peer en.phase (List.length en.nums) (List.length en.texts) (List.length en.proof)) from by first | rfl | (simp_all [usesB]; done; done) | (simp_all [usesB]; omega; done) | (simp_all; done) | omega) _ _), s17.leave (by decide)⟩
      · skip
        have hp3 := of_decide_eq_false hc3
        refine Seq.guard_off' rfl rfl hc3 rfl (by decide) ?_
        refine Seq.guard_off' rfl rfl hc3 rfl (by decide) ?_
        refine Seq.guard_undef rfl rfl (by decide) ?_
        refine Seq.guard_undef rfl rfl (by decide) ?_
        refine Seq.guard_undef rfl rfl (by decide) ?_
        refine Seq.guard_off' rfl rfl hc3 rfl (by decide) ?_
        refine Seq.val (Does.pick_b rfl hc3 rfl) (by decide) ?_
        refine Seq.val (Does.move rfl) (by decide) ?_
        refine Seq.guard_off' rfl rfl rfl rfl (by decide) ?_
        refine Seq.guard_off' rfl rfl rfl rfl (by decide) ?_
        refine Seq.guard_undef rfl rfl (by decide) ?_
        refine Seq.guard_undef rfl rfl (by decide) ?_
        refine Seq.guard_undef rfl rfl (by decide) ?_
        refine Seq.guard_off' rfl rfl rfl rfl (by decide) ?_
        refine Seq.val (Does.pick_f rfl rfl) (by decide) ?_
        refine Seq.val (Does.move rfl) (by decide) ?_
        refine Seq.guard_off' rfl rfl rfl rfl (by decide) ?_
        refine Seq.guard_off' rfl rfl rfl rfl (by decide) ?_
        refine Seq.guard_undef rfl rfl (by decide) ?_
        refine Seq.guard_undef rfl rfl (by decide) ?_
        refine Seq.guard_undef rfl rfl (by decide) ?_
        refine Seq.guard_undef rfl rfl (by decide) ?_
        refine Seq.guard_off' rfl rfl rfl rfl (by decide) ?_
        refine Seq.val (Does.pick_f rfl rfl) (by decide) ?_
        refine Seq.val (Does.move rfl) (by decide) ?_
        refine Seq.guard_off' rfl rfl rfl rfl (by decide) ?_
        refine Seq.guard_off' rfl rfl rfl rfl (by decide) ?_
        refine Seq.guard_undef rfl rfl (by decide) ?_
        refine Seq.guard_undef rfl rfl (by decide) ?_
        refine Seq.guard_undef rfl rfl (by decide) ?_
        refine Seq.guard_undef rfl rfl (by decide) ?_
        refine Seq.guard_off' rfl rfl rfl rfl (by decide) ?_
        refine Seq.val (Does.pick_f rfl rfl) (by decide) ?_
        refine Seq.val (Does.move rfl) (by decide) ?_
        refine Seq.guard_off' rfl rfl rfl rfl (by decide) ?_
        refine Seq.guard_off' rfl rfl rfl rfl (by decide) ?_
        refine Seq.guard_undef rfl rfl (by decide) ?_
        refine Seq.guard_undef rfl rfl (by decide) ?_
        refine Seq.guard_undef rfl rfl (by decide) ?_
        refine Seq.guard_undef rfl rfl (by decide) ?_
        refine Seq.guard_off' rfl rfl rfl rfl (by decide) ?_
        refine Seq.val (Does.pick_f rfl rfl) (by decide) ?_
        refine Seq.val (Does.assign rfl) (by decide) ?_
        refine Seq.go (fun _ _ h => h) ?_
        obtain ⟨zU, zo⟩ := s17.out (by decide) hv
        refine Run.ret ?_
        exact post_one Try.results96 rfl ⟨_, rfl, (isBool (show (false : Bool) = (usesB en.kind en.mode en.peer en.phase (List.length en.nums) (List.length en.texts) (List.length en.proof)) from by first | rfl | (simp_all [usesB]; done; done) | (simp_all [usesB]; omega; done) | (simp_all; done) | omega) _ _), s17.leave (by decide)⟩
    · skip
      have hp2 := of_decide_eq_false hc2
      refine Run.cond_b rfl hc2 ?_
      refine Run.region ?_
      refine Seq.val (Does.eql rfl rfl) (by decide) ?_
      refine Seq.val (Does.assign rfl) (by decide) ?_
      refine Seq.go (fun _ _ h => h) ?_
      rcases bdich (decide ((en.kind : Int) = (7 : Int))) with hc3 | hc3
      · skip
        have hp3 := of_decide_eq_true hc3
        refine Run.cond_b rfl hc3 ?_
        refine Run.region ?_
        refine Seq.val (Does.assign rfl) (by decide) ?_
        refine Seq.val (Does.assign rfl) (by decide) ?_
        refine Seq.go (fun _ _ h => h) ?_
        refine Run.seq ?_
        refine Run.region ?_
        refine Seq.val (Does.move rfl) (by decide) ?_
        refine Seq.val (Does.move rfl) (by decide) ?_
        refine Seq.guard_on' rfl rfl rfl ?_
        refine Seq.val (Does.fieldAddr' 3 Try.underlying40 rfl ty3 rfl rfl) (by decide) ?_
        refine Seq.guard_on' rfl rfl rfl ?_
        refine Seq.val (Does.load_own1 o16 ty3 rfl rfl) (by decide) ?_
        refine Seq.guard_on' rfl rfl rfl ?_
        refine Seq.val (Does.eql rfl rfl) (by decide) ?_
        refine Seq.val (Does.pick_f rfl rfl) (by decide) ?_
        refine Seq.val (Does.move rfl) (by decide) ?_
        rcases bdich (decide ((en.mode : Int) = (0 : Int))) with hc4 | hc4
        · skip
          have hp4 := of_decide_eq_true hc4
          refine Seq.guard_on' rfl rfl hc4 ?_
          refine Seq.val (Does.move rfl) (by decide) ?_
          refine Seq.guard_on' rfl rfl hc4 ?_
          refine Seq.val (Does.move rfl) (by decide) ?_
          refine Seq.guard_on' rfl rfl rfl ?_
          refine Seq.val (Does.fieldAddr' 4 Try.underlying40 rfl ty3 rfl rfl) (by decide) ?_
          refine Seq.guard_on' rfl rfl rfl ?_
          refine Seq.val (Does.load_own1 o16 ty3 rfl rfl) (by decide) ?_
          refine Seq.guard_on' rfl rfl rfl ?_
          refine Seq.val (Does.eql rfl rfl) (by decide) ?_
          refine Seq.guard_on' rfl rfl hc4 ?_
          refine Seq.val (Does.pick_f rfl rfl) (by decide) ?_
          refine Seq.val (Does.pick_b rfl hc4 rfl) (by decide) ?_
          refine Seq.val (Does.move rfl) (by decide) ?_
          rcases bdich (decide ((en.peer : Int) = (0 : Int))) with hc5 | hc5
          · skip
            have hp5 := of_decide_eq_true hc5
            refine Seq.guard_on' rfl rfl hc5 ?_
            refine Seq.val (Does.move rfl) (by decide) ?_
            refine Seq.guard_on' rfl rfl hc5 ?_
            refine Seq.val (Does.move rfl) (by decide) ?_
            refine Seq.guard_on' rfl rfl rfl ?_
            refine Seq.val (Does.fieldAddr' 5 Try.underlying40 rfl ty3 rfl rfl) (by decide) ?_
            refine Seq.guard_on' rfl rfl rfl ?_
            refine Seq.val (Does.load_own1 o16 ty3 rfl rfl) (by decide) ?_
            refine Seq.guard_on' rfl rfl rfl ?_
            refine Seq.val (Does.eql rfl rfl) (by decide) ?_
            refine Seq.guard_on' rfl rfl hc5 ?_
            refine Seq.val (Does.pick_f rfl rfl) (by decide) ?_
            refine Seq.val (Does.pick_b rfl hc5 rfl) (by decide) ?_
            refine Seq.val (Does.move rfl) (by decide) ?_
            rcases bdich (decide ((en.phase : Int) = (0 : Int))) with hc6 | hc6
            · skip
              have hp6 := of_decide_eq_true hc6
              refine Seq.guard_on' rfl rfl hc6 ?_
              refine Seq.val (Does.move rfl) (by decide) ?_
              refine Seq.guard_on' rfl rfl hc6 ?_
              refine Seq.val (Does.move rfl) (by decide) ?_
              refine Seq.guard_off' rfl rfl rfl rfl (by decide) ?_
              refine Seq.guard_off' rfl rfl rfl rfl (by decide) ?_
              refine Seq.guard_off' rfl rfl rfl rfl (by decide) ?_
              refine Seq.guard_off' rfl rfl rfl rfl (by decide) ?_
              refine Seq.guard_on' rfl rfl hc6 ?_
              refine Seq.val (Does.pick_t rfl rfl) (by decide) ?_
              refine Seq.val (Does.pick_b rfl hc6 rfl) (by decide) ?_
              refine Seq.val (Does.move rfl) (by decide) ?_
              refine Seq.guard_on' rfl rfl rfl ?_
              refine Seq.val (Does.move rfl) (by decide) ?_
              refine Seq.guard_on' rfl rfl rfl ?_
              refine Seq.val (Does.move rfl) (by decide) ?_
              refine Seq.guard_off' rfl rfl rfl rfl (by decide) ?_
              refine Seq.guard_off' rfl rfl rfl rfl (by decide) ?_
              refine Seq.guard_off' rfl rfl rfl rfl (by decide) ?_
              refine Seq.guard_off' rfl rfl rfl rfl (by decide) ?_
              refine Seq.guard_on' rfl rfl rfl ?_
              refine Seq.val (Does.pick_t rfl rfl) (by decide) ?_
              refine Seq.val (Does.pick_t rfl rfl) (by decide) ?_
              refine Seq.val (Does.move rfl) (by decide) ?_
              refine Seq.guard_on' rfl rfl rfl ?_
              refine Seq.val (Does.move rfl) (by decide) ?_
              refine Seq.guard_on' rfl rfl rfl ?_
              refine Seq.val (Does.move rfl) (by decide) ?_
              refine Seq.guard_on' rfl rfl rfl ?_
              refine Seq.val (Does.fieldAddr' 8 Try.underlying40 rfl ty22 rfl rfl) (by decide) ?_
              refine Seq.guard_on' rfl rfl rfl ?_
              refine Seq.val (Does.load_own1 o16 ty22 rfl rfl) (by decide) ?_
              refine Seq.guard_on' rfl rfl rfl ?_
              refine Seq.val (Does.len Try.underlying22 rfl) (by decide) ?_
              refine Seq.guard_on' rfl rfl rfl ?_
              refine Seq.val (Does.eql rfl rfl) (by decide) ?_
              refine Seq.guard_on' rfl rfl rfl ?_
              refine Seq.val (Does.pick_f rfl rfl) (by decide) ?_
              refine Seq.val (Does.pick_t rfl rfl) (by decide) ?_
              refine Seq.val (Does.assign rfl) (by decide) ?_
              refine Seq.go (fun _ _ h => h) ?_
              obtain ⟨zU, zo⟩ := s17.out (by decide) hv
              refine Run.ret ?_
              exact post_one Try.results96 rfl ⟨_, rfl, (isBool (show ((decide ((((List.length en.proof : Nat) : Int) : Int) = (0 : Int))) : Bool) = (usesB en.kind en.mode en.peer en.phase (List.length en.nums) (List.length en.texts) (List.length en.proof)) from by first | rfl | (simp_all [usesB]; done; done) | (simp_all [usesB]; omega; done) | (simp_all; done) | omega) _ _), s17.leave (by decide)⟩
            · skip
              have hp6 := of_decide_eq_false hc6
              refine Seq.guard_off' rfl rfl hc6 rfl (by decide) ?_
              refine Seq.guard_off' rfl rfl hc6 rfl (by decide) ?_
              refine Seq.guard_undef rfl rfl (by decide) ?_
              refine Seq.guard_undef rfl rfl (by decide) ?_
              refine Seq.guard_undef rfl rfl (by decide) ?_
              refine Seq.guard_undef rfl rfl (by decide) ?_
              refine Seq.guard_off' rfl rfl hc6 rfl (by decide) ?_
              refine Seq.val (Does.pick_b rfl hc6 rfl) (by decide) ?_
              refine Seq.val (Does.move rfl) (by decide) ?_
              refine Seq.guard_off' rfl rfl rfl rfl (by decide) ?_
              refine Seq.guard_off' rfl rfl rfl rfl (by decide) ?_
              refine Seq.guard_undef rfl rfl (by decide) ?_
              refine Seq.guard_undef rfl rfl (by decide) ?_
              refine Seq.guard_undef rfl rfl (by decide) ?_
              refine Seq.guard_undef rfl rfl (by decide) ?_
              refine Seq.guard_off' rfl rfl rfl rfl (by decide) ?_
              refine Seq.val (Does.pick_f rfl rfl) (by decide) ?_
              refine Seq.val (Does.move rfl) (by decide) ?_
              refine Seq.guard_off' rfl rfl rfl rfl (by decide) ?_
              refine Seq.guard_off' rfl rfl rfl rfl (by decide) ?_
              refine Seq.guard_undef rfl rfl (by decide) ?_
              refine Seq.guard_undef rfl rfl (by decide) ?_
              refine Seq.guard_undef rfl rfl (by decide) ?_
              refine Seq.guard_undef rfl rfl (by decide) ?_
              refine Seq.guard_off' rfl rfl rfl rfl (by decide) ?_
              refine Seq.val (Does.pick_f rfl rfl) (by decide) ?_
              refine Seq.val (Does.assign rfl) (by decide) ?_
              refine Seq.go (fun _ _ h => h) ?_
              obtain ⟨zU, zo⟩ := s17.out (by decide) hv
              refine Run.ret ?_
              exact post_one Try.results96 rfl ⟨_, rfl, (isBool (show (false : Bool) = (usesB en.kind en.mode en.peer en.phase (List.length en.nums) (List.length en.texts) (List.length en.proof)) from by first | rfl | (simp_all [usesB]; done; done) | (simp_all [usesB]; omega; done) | (simp_all; done) | omega) _ _), s17.leave (by decide)⟩
          · skip
            have hp5 := of_decide_eq_false hc5
            refine Seq.guard_off' rfl rfl hc5 rfl (by decide) ?_
            refine Seq.guard_off' rfl rfl hc5 rfl (by decide) ?_
            refine Seq.guard_undef rfl rfl (by decide) ?_
            refine Seq.guard_undef rfl rfl (by decide) ?_
            refine Seq.guard_undef rfl rfl (by decide) ?_
            refine Seq.guard_off' rfl rfl hc5 rfl (by decide) ?_
            refine Seq.val (Does.pick_b rfl hc5 rfl) (by decide) ?_
            refine Seq.val (Does.move rfl) (by decide) ?_
            refine Seq.guard_off' rfl rfl rfl rfl (by decide) ?_
            refine Seq.guard_off' rfl rfl rfl rfl (by decide) ?_
            refine Seq.guard_undef rfl rfl (by decide) ?_
            refine Seq.guard_undef rfl rfl (by decide) ?_
            refine Seq.guard_undef rfl rfl (by decide) ?_
            refine Seq.guard_undef rfl rfl (by decide) ?_
            refine Seq.guard_off' rfl rfl rfl rfl (by decide) ?_
            refine Seq.val (Does.pick_f rfl rfl) (by decide) ?_
            refine Seq.val (Does.move rfl) (by decide) ?_
            refine Seq.guard_off' rfl rfl rfl rfl (by decide) ?_
            refine Seq.guard_off' rfl rfl rfl rfl (by decide) ?_
            refine Seq.guard_undef rfl rfl (by decide) ?_
            refine Seq.guard_undef rfl rfl (by decide) ?_
            refine Seq.guard_undef rfl rfl (by decide) ?_
            refine Seq.guard_undef rfl rfl (by decide) ?_
            refine Seq.guard_off' rfl rfl rfl rfl (by decide) ?_
            refine Seq.val (Does.pick_f rfl rfl) (by decide) ?_
            refine Seq.val (Does.move rfl) (by decide) ?_
            refine Seq.guard_off' rfl rfl rfl rfl (by decide) ?_
            refine Seq.guard_off' rfl rfl rfl rfl (by decide) ?_
            refine Seq.guard_undef rfl rfl (by decide) ?_
            refine Seq.guard_undef rfl rfl (by decide) ?_
            refine Seq.guard_undef rfl rfl (by decide) ?_
            refine Seq.guard_undef rfl rfl (by decide) ?_
            refine Seq.guard_off' rfl rfl rfl rfl (by decide) ?_
            refine Seq.val (Does.pick_f rfl rfl) (by decide) ?_
            refine Seq.val (Does.assign rfl) (by decide) ?_
            refine Seq.go (fun _ _ h => h) ?_
            obtain ⟨zU, zo⟩ := s17.out (by decide) hv
            refine Run.ret ?_
            exact post_one Try.results96 rfl ⟨_, rfl, (isBool (show (false : Bool) = (usesB en.kind en.mode en.peer en.phase (List.length en.nums) (List.length en.texts) (List.length en.proof)) from by first | rfl | (simp_all [usesB]; done; done) | (simp_all [usesB]; omega; done) | (simp_all; done) | omega) _ _), s17.leave (by decide)⟩
        · skip
          have hp4 := of_decide_eq_false hc4
          refine Seq.guard_off' rfl rfl hc4 rfl (by decide) ?_
          refine Seq.guard_off' rfl rfl hc4 rfl (by decide) ?_
          refine Seq.guard_undef rfl rfl (by decide) ?_
          refine Seq.guard_undef rfl rfl (by decide) ?_
          refine Seq.guard_undef rfl rfl (by decide) ?_
          refine Seq.guard_off' rfl rfl hc4 rfl (by decide) ?_
          refine Seq.val (Does.pick_b rfl hc4 rfl) (by decide) ?_
          refine Seq.val (Does.move rfl) (by decide) ?_
          refine Seq.guard_off' rfl rfl rfl rfl (by decide) ?_
          refine Seq.guard_off' rfl rfl rfl rfl (by decide) ?_
          refine Seq.guard_undef rfl rfl (by decide) ?_
          refine Seq.guard_undef rfl rfl (by decide) ?_
          refine Seq.guard_undef rfl rfl (by decide) ?_
          refine Seq.guard_off' rfl rfl rfl rfl (by decide) ?_
          refine Seq.val (Does.pick_f rfl rfl) (by decide) ?_
          refine Seq.val (Does.move rfl) (by decide) ?_
          refine Seq.guard_off' rfl rfl rfl rfl (by decide) ?_
          refine Seq.guard_off' rfl rfl rfl rfl (by decide) ?_
          refine Seq.guard_undef rfl rfl (by decide) ?_
          refine Seq.guard_undef rfl rfl (by decide) ?_
          refine Seq.guard_undef rfl rfl (by decide) ?_
          refine Seq.guard_undef rfl rfl (by decide) ?_
          refine Seq.guard_off' rfl rfl rfl rfl (by decide) ?_
          refine Seq.val (Does.pick_f rfl rfl) (by decide) ?_
          refine Seq.val (Does.move rfl) (by decide) ?_
          refine Seq.guard_off' rfl rfl rfl rfl (by decide) ?_
          refine Seq.guard_off' rfl rfl rfl rfl (by decide) ?_
          refine Seq.guard_undef rfl rfl (by decide) ?_
          refine Seq.guard_undef rfl rfl (by decide) ?_
          refine Seq.guard_undef rfl rfl (by decide) ?_
          refine Seq.guard_undef rfl rfl (by decide) ?_
          refine Seq.guard_off' rfl rfl rfl rfl (by decide) ?_
          refine Seq.val (Does.pick_f rfl rfl) (by decide) ?_
          refine Seq.val (Does.move rfl) (by decide) ?_
          refine Seq.guard_off' rfl rfl rfl rfl (by decide) ?_
          refine Seq.guard_off' rfl rfl rfl rfl (by decide) ?_
          refine Seq.guard_undef rfl rfl (by decide) ?_
          refine Seq.guard_undef rfl rfl (by decide) ?_
          refine Seq.guard_undef rfl rfl (by decide) ?_
          refine Seq.guard_undef rfl rfl (by decide) ?_
          refine Seq.guard_off' rfl rfl rfl rfl (by decide) ?_
          refine Seq.val (Does.pick_f rfl rfl) (by decide) ?_
          refine Seq.val (Does.assign rfl) (by decide) ?_
          refine Seq.go (fun _ _ h => h) ?_
          obtain ⟨zU, zo⟩ := s17.out (by decide) hv
          refine Run.ret ?_
          exact post_one Try.results96 rfl ⟨_, rfl, (isBool (show (false : Bool) = (usesB en.kind en.mode en.peer en.phase (List.length en.nums) (List.length en.texts) (List.length en.proof)) from by first | rfl | (simp_all [usesB]; done; done) | (simp_all [usesB]; omega; done) | (simp_all; done) | omega) _ _), s17.leave (by decide)⟩
      · skip
        have hp3 := of_decide_eq_false hc3
        refine Run.cond_b rfl hc3 ?_
        refine Run.seq ?_
        refine Run.seq ?_
        refine Run.region ?_
        refine Seq.val (Does.eql rfl rfl) (by decide) ?_
        refine Seq.val (Does.assign rfl) (by decide) ?_
        refine Seq.go (fun _ _ h => h) ?_
        rcases bdich (decide ((en.kind : Int) = (3 : Int))) with hc4 | hc4
        · skip
          have hp4 := of_decide_eq_true hc4
          refine Run.cond_b rfl hc4 ?_
          refine Run.skip_go (fun _ _ h => h) ?_
          refine Run.cond_b rfl hc4 ?_
          refine Run.region ?_
          refine Seq.val (Does.assign rfl) (by decide) ?_
          refine Seq.val (Does.assign rfl) (by decide) ?_
          refine Seq.val (Does.assign rfl) (by decide) ?_
          refine Seq.go (fun _ _ h => h) ?_
          refine Run.seq ?_
          refine Run.region ?_
          refine Seq.val (Does.move rfl) (by decide) ?_
          refine Seq.val (Does.move rfl) (by decide) ?_
          refine Seq.guard_on' rfl rfl rfl ?_
          refine Seq.val (Does.fieldAddr' 3 Try.underlying40 rfl ty3 rfl rfl) (by decide) ?_
          refine Seq.guard_on' rfl rfl rfl ?_
          refine Seq.val (Does.load_own1 o16 ty3 rfl rfl) (by decide) ?_
          refine Seq.guard_on' rfl rfl rfl ?_
          refine Seq.val (Does.eql rfl rfl) (by decide) ?_
          refine Seq.val (Does.pick_f rfl rfl) (by decide) ?_
          refine Seq.val (Does.move rfl) (by decide) ?_
          rcases bdich (decide ((en.mode : Int) = (0 : Int))) with hc5 | hc5
          · skip
            have hp5 := of_decide_eq_true hc5
            refine Seq.guard_on' rfl rfl hc5 ?_
            refine Seq.val (Does.move rfl) (by decide) ?_
            refine Seq.guard_on' rfl rfl hc5 ?_
            refine Seq.val (Does.move rfl) (by decide) ?_
            refine Seq.guard_off' rfl rfl rfl rfl (by decide) ?_
            refine Seq.guard_off' rfl rfl rfl rfl (by decide) ?_
            refine Seq.guard_off' rfl rfl rfl rfl (by decide) ?_
            refine Seq.guard_on' rfl rfl hc5 ?_
            refine Seq.val (Does.pick_t rfl rfl) (by decide) ?_
            refine Seq.val (Does.pick_b rfl hc5 rfl) (by decide) ?_
            refine Seq.val (Does.move rfl) (by decide) ?_
            refine Seq.guard_on' rfl rfl rfl ?_
            refine Seq.val (Does.move rfl) (by decide) ?_
            refine Seq.guard_on' rfl rfl rfl ?_
            refine Seq.val (Does.move rfl) (by decide) ?_
            refine Seq.guard_on' rfl rfl rfl ?_
            refine Seq.val (Does.fieldAddr' 5 Try.underlying40 rfl ty3 rfl rfl) (by decide) ?_
            refine Seq.guard_on' rfl rfl rfl ?_
            refine Seq.val (Does.load_own1 o16 ty3 rfl rfl) (by decide) ?_
            refine Seq.guard_on' rfl rfl rfl ?_
            refine Seq.val (Does.eql rfl rfl) (by decide) ?_
            refine Seq.guard_on' rfl rfl rfl ?_
            refine Seq.val (Does.pick_f rfl rfl) (by decide) ?_
            refine Seq.val (Does.pick_t rfl rfl) (by decide) ?_
            refine Seq.val (Does.move rfl) (by decide) ?_
            rcases bdich (decide ((en.phase : Int) = (0 : Int))) with hc6 | hc6
            · skip
              have hp6 := of_decide_eq_true hc6
              refine Seq.guard_on' rfl rfl hc6 ?_
              refine Seq.val (Does.move rfl) (by decide) ?_
              refine Seq.guard_on' rfl rfl hc6 ?_
              refine Seq.val (Does.move rfl) (by decide) ?_
              refine Seq.guard_off' rfl rfl rfl rfl (by decide) ?_
              refine Seq.guard_off' rfl rfl rfl rfl (by decide) ?_
              refine Seq.guard_off' rfl rfl rfl rfl (by decide) ?_
              refine Seq.guard_off' rfl rfl rfl rfl (by decide) ?_
              refine Seq.guard_on' rfl rfl hc6 ?_
              refine Seq.val (Does.pick_t rfl rfl) (by decide) ?_
              refine Seq.val (Does.pick_b rfl hc6 rfl) (by decide) ?_
              refine Seq.val (Does.move rfl) (by decide) ?_
              refine Seq.guard_on' rfl rfl rfl ?_
              refine Seq.val (Does.move rfl) (by decide) ?_
              refine Seq.guard_on' rfl rfl rfl ?_
              refine Seq.val (Does.move rfl) (by decide) ?_
              refine Seq.guard_on' rfl rfl rfl ?_
              refine Seq.val (Does.fieldAddr' 7 Try.underlying40 rfl ty34 rfl rfl) (by decide) ?_
              refine Seq.guard_on' rfl rfl rfl ?_
              refine Seq.val (Does.load_own1 o16 ty34 rfl rfl) (by decide) ?_
              refine Seq.guard_on' rfl rfl rfl ?_
              refine Seq.val (Does.len Try.underlying34 rfl) (by decide) ?_
              refine Seq.guard_on' rfl rfl rfl ?_
              refine Seq.val (Does.eql rfl rfl) (by decide) ?_
              refine Seq.guard_on' rfl rfl rfl ?_
              refine Seq.val (Does.pick_f rfl rfl) (by decide) ?_
              refine Seq.val (Does.pick_t rfl rfl) (by decide) ?_
              refine Seq.val (Does.move rfl) (by decide) ?_
              rcases bdich (decide ((((List.length en.texts : Nat) : Int) : Int) = (0 : Int))) with hc7 | hc7
              · skip
                have hp7 := of_decide_eq_true hc7
                refine Seq.guard_on' rfl rfl hc7 ?_
                refine Seq.val (Does.move rfl) (by decide) ?_
                refine Seq.guard_on' rfl rfl hc7 ?_
                refine Seq.val (Does.move rfl) (by decide) ?_
                refine Seq.guard_off' rfl rfl rfl rfl (by decide) ?_
                refine Seq.guard_off' rfl rfl rfl rfl (by decide) ?_
                refine Seq.guard_off' rfl rfl rfl rfl (by decide) ?_
                refine Seq.guard_off' rfl rfl rfl rfl (by decide) ?_
                refine Seq.guard_on' rfl rfl hc7 ?_
                refine Seq.val (Does.pick_t rfl rfl) (by decide) ?_
                refine Seq.val (Does.pick_b rfl hc7 rfl) (by decide) ?_
                refine Seq.val (Does.assign rfl) (by decide) ?_
                refine Seq.go (fun _ _ h => h) ?_
                obtain ⟨zU, zo⟩ := s17.out (by decide) hv
                refine Run.ret ?_
                exact post_one Try.results96 rfl ⟨_, rfl, (isBool (show (true : Bool) = (usesB en.kind en.mode en.peer en.phase (List.length en.nums) (List.length en.texts) (List.length en.proof)) from by first | rfl | (simp_all [usesB]; done; done) | (simp_all [usesB]; omega; done) | (simp_all; done) | omega) _ _), s17.leave (by decide)⟩
              · skip
                have hp7 := of_decide_eq_false hc7
                refine Seq.guard_off' rfl rfl hc7 rfl (by decide) ?_
                refine Seq.guard_off' rfl rfl hc7 rfl (by decide) ?_
                refine Seq.guard_undef rfl rfl (by decide) ?_
                refine Seq.guard_undef rfl rfl (by decide) ?_
                refine Seq.guard_undef rfl rfl (by decide) ?_
                refine Seq.guard_undef rfl rfl (by decide) ?_
                refine Seq.guard_off' rfl rfl hc7 rfl (by decide) ?_
                refine Seq.val (Does.pick_b rfl hc7 rfl) (by decide) ?_
                refine Seq.val (Does.assign rfl) (by decide) ?_
                refine Seq.go (fun _ _ h => h) ?_
                obtain ⟨zU, zo⟩ := s17.out (by decide) hv
                refine Run.ret ?_
                exact post_one Try.results96 rfl ⟨_, rfl, (isBool (show (false : Bool) = (usesB en.kind en.mode en.peer en.phase (List.length en.nums) (List.length en.texts) (List.length en.proof)) from by first | rfl | (simp_all [usesB]; done; done) | (simp_all [usesB]; omega; done) | (simp_all; done) | omega) _ _), s17.leave (by decide)⟩
            · skip
              have hp6 := of_decide_eq_false hc6
              refine Seq.guard_off' rfl rfl hc6 rfl (by decide) ?_
              refine Seq.guard_off' rfl rfl hc6 rfl (by decide) ?_
              refine Seq.guard_undef rfl rfl (by decide) ?_
              refine Seq.guard_undef rfl rfl (by decide) ?_
              refine Seq.guard_undef rfl rfl (by decide) ?_
              refine Seq.guard_undef rfl rfl (by decide) ?_
              refine Seq.guard_off' rfl rfl hc6 rfl (by decide) ?_
              refine Seq.val (Does.pick_b rfl hc6 rfl) (by decide) ?_
              refine Seq.val (Does.move rfl) (by decide) ?_
              refine Seq.guard_off' rfl rfl rfl rfl (by decide) ?_
              refine Seq.guard_off' rfl rfl rfl rfl (by decide) ?_
              refine Seq.guard_undef rfl rfl (by decide) ?_
              refine Seq.guard_undef rfl rfl (by decide) ?_
              refine Seq.guard_undef rfl rfl (by decide) ?_
              refine Seq.guard_undef rfl rfl (by decide) ?_
              refine Seq.guard_off' rfl rfl rfl rfl (by decide) ?_
              refine Seq.val (Does.pick_f rfl rfl) (by decide) ?_
              refine Seq.val (Does.move rfl) (by decide) ?_
              refine Seq.guard_off' rfl rfl rfl rfl (by decide) ?_
              refine Seq.guard_off' rfl rfl rfl rfl (by decide) ?_
              refine Seq.guard_undef rfl rfl (by decide) ?_
              refine Seq.guard_undef rfl rfl (by decide) ?_
              refine Seq.guard_undef rfl rfl (by decide) ?_
              refine Seq.guard_undef rfl rfl (by decide) ?_
              refine Seq.guard_off' rfl rfl rfl rfl (by decide) ?_
              refine Seq.val (Does.pick_f rfl rfl) (by decide) ?_
              refine Seq.val (Does.assign rfl) (by decide) ?_
              refine Seq.go (fun _ _ h => h) ?_
              obtain ⟨zU, zo⟩ := s17.out (by decide) hv
              refine Run.ret ?_
              exact post_one Try.results96 rfl ⟨_, rfl, (isBool (show (false : Bool) = (usesB en.kind en.mode en.peer en.phase (List.length en.nums) (List.length en.texts) (List.length en.proof)) from by first | rfl | (simp_all [usesB]; done; done) | (simp_all [usesB]; omega; done) | (simp_all; done) | omega) _ _), s17.leave (by decide)⟩
          · skip
            have hp5 := of_decide_eq_false hc5
            refine Seq.guard_off' rfl rfl hc5 rfl (by decide) ?_
            refine Seq.guard_off' rfl rfl hc5 rfl (by decide) ?_
            refine Seq.guard_undef rfl rfl (by decide) ?_
            refine Seq.guard_undef rfl rfl (by decide) ?_
            refine Seq.guard_undef rfl rfl (by decide) ?_
            refine Seq.guard_off' rfl rfl hc5 rfl (by decide) ?_
            refine Seq.val (Does.pick_b rfl hc5 rfl) (by decide) ?_
            refine Seq.val (Does.move rfl) (by decide) ?_
            refine Seq.guard_off' rfl rfl rfl rfl (by decide) ?_
            refine Seq.guard_off' rfl rfl rfl rfl (by decide) ?_
            refine Seq.guard_undef rfl rfl (by decide) ?_
            refine Seq.guard_undef rfl rfl (by decide) ?_
            refine Seq.guard_undef rfl rfl (by decide) ?_
            refine Seq.guard_off' rfl rfl rfl rfl (by decide) ?_
            refine Seq.val (Does.pick_f rfl rfl) (by decide) ?_
            refine Seq.val (Does.move rfl) (by decide) ?_
            refine Seq.guard_off' rfl rfl rfl rfl (by decide) ?_
            refine Seq.guard_off' rfl rfl rfl rfl (by decide) ?_
            refine Seq.guard_undef rfl rfl (by decide) ?_
            refine Seq.guard_undef rfl rfl (by decide) ?_
            refine Seq.guard_undef rfl rfl (by decide) ?_
            refine Seq.guard_undef rfl rfl (by decide) ?_
            refine Seq.guard_off' rfl rfl rfl rfl (by decide) ?_
            refine Seq.val (Does.pick_f rfl rfl) (by decide) ?_
            refine Seq.val (Does.move rfl) (by decide) ?_
            refine Seq.guard_off' rfl rfl rfl rfl (by decide) ?_
            refine Seq.guard_off' rfl rfl rfl rfl (by decide) ?_
            refine Seq.guard_undef rfl rfl (by decide) ?_
            refine Seq.guard_undef rfl rfl (by decide) ?_
            refine Seq.guard_undef rfl rfl (by decide) ?_
            refine Seq.guard_undef rfl rfl (by decide) ?_
            refine Seq.guard_off' rfl rfl rfl rfl (by decide) ?_
            refine Seq.val (Does.pick_f rfl rfl) (by decide) ?_
            refine Seq.val (Does.move rfl) (by decide) ?_
            refine Seq.guard_off' rfl rfl rfl rfl (by decide) ?_
            refine Seq.guard_off' rfl rfl rfl rfl (by decide) ?_
            refine Seq.guard_undef rfl rfl (by decide) ?_
            refine Seq.guard_undef rfl rfl (by decide) ?_
            refine Seq.guard_undef rfl rfl (by decide) ?_
            refine Seq.guard_undef rfl rfl (by decide) ?_
            refine Seq.guard_off' rfl rfl rfl rfl (by decide) ?_
            refine Seq.val (Does.pick_f rfl rfl) (by decide) ?_
            refine Seq.val (Does.assign rfl) (by decide) ?_
            refine Seq.go (fun _ _ h => h) ?_
            obtain ⟨zU, zo⟩ := s17.out (by decide) hv
            refine Run.ret ?_
            exact post_one Try.results96 rfl ⟨_, rfl, (isBool (show (false : Bool) = (usesB en.kind en.mode en.peer en.phase (List.length en.nums) (List.length en.texts) (List.length en.proof)) from by first | rfl | (simp_all [usesB]; done; done) | (simp_all [usesB]; omega; done) | (simp_all; done) | omega) _ _), s17.leave (by decide)⟩
        · skip
          have hp4 := of_decide_eq_false hc4
          refine Run.cond_b rfl hc4 ?_
          refine Run.region ?_
          refine Seq.val (Does.eql rfl rfl) (by decide) ?_
          refine Seq.val (Does.assign rfl) (by decide) ?_
          refine Seq.go (fun _ _ h => h) ?_
          rcases bdich (decide ((en.kind : Int) = (6 : Int))) with hc5 | hc5
          · skip
            have hp5 := of_decide_eq_true hc5
            refine Run.cond_b rfl hc5 ?_
            refine Run.region ?_
            refine Seq.val (Does.assign rfl) (by decide) ?_
            refine Seq.val (Does.assign rfl) (by decide) ?_
            refine Seq.val (Does.assign rfl) (by decide) ?_
            refine Seq.go (fun _ _ h => h) ?_
            refine Run.seq ?_
            refine Run.region ?_
            refine Seq.val (Does.move rfl) (by decide) ?_
            refine Seq.val (Does.move rfl) (by decide) ?_
            refine Seq.guard_on' rfl rfl rfl ?_
            refine Seq.val (Does.fieldAddr' 3 Try.underlying40 rfl ty3 rfl rfl) (by decide) ?_
            refine Seq.guard_on' rfl rfl rfl ?_
            refine Seq.val (Does.load_own1 o16 ty3 rfl rfl) (by decide) ?_
            refine Seq.guard_on' rfl rfl rfl ?_
            refine Seq.val (Does.eql rfl rfl) (by decide) ?_
            refine Seq.val (Does.pick_f rfl rfl) (by decide) ?_
            refine Seq.val (Does.move rfl) (by decide) ?_
            rcases bdich (decide ((en.mode : Int) = (0 : Int))) with hc6 | hc6
            · skip
              have hp6 := of_decide_eq_true hc6
              refine Seq.guard_on' rfl rfl hc6 ?_
              refine Seq.val (Does.move rfl) (by decide) ?_
              refine Seq.guard_on' rfl rfl hc6 ?_
              refine Seq.val (Does.move rfl) (by decide) ?_
              refine Seq.guard_off' rfl rfl rfl rfl (by decide) ?_
              refine Seq.guard_off' rfl rfl rfl rfl (by decide) ?_
              refine Seq.guard_off' rfl rfl rfl rfl (by decide) ?_
              refine Seq.guard_on' rfl rfl hc6 ?_
              refine Seq.val (Does.pick_t rfl rfl) (by decide) ?_
              refine Seq.val (Does.pick_b rfl hc6 rfl) (by decide) ?_
              refine Seq.val (Does.move rfl) (by decide) ?_
              refine Seq.guard_on' rfl rfl rfl ?_
              refine Seq.val (Does.move rfl) (by decide) ?_
              refine Seq.guard_on' rfl rfl rfl ?_
              refine Seq.val (Does.move rfl) (by decide) ?_
              refine Seq.guard_on' rfl rfl rfl ?_
              refine Seq.val (Does.fieldAddr' 5 Try.underlying40 rfl ty3 rfl rfl) (by decide) ?_
              refine Seq.guard_on' rfl rfl rfl ?_
              refine Seq.val (Does.load_own1 o16 ty3 rfl rfl) (by decide) ?_
              refine Seq.guard_on' rfl rfl rfl ?_
              refine Seq.val (Does.eql rfl rfl) (by decide) ?_
              refine Seq.guard_on' rfl rfl rfl ?_
              refine Seq.val (Does.pick_f rfl rfl) (by decide) ?_
              refine Seq.val (Does.pick_t rfl rfl) (by decide) ?_
              refine Seq.val (Does.move rfl) (by decide) ?_
              rcases bdich (decide ((en.phase : Int) = (0 : Int))) with hc7 | hc7
              · skip
                have hp7 := of_decide_eq_true hc7
                refine Seq.guard_on' rfl rfl hc7 ?_
                refine Seq.val (Does.move rfl) (by decide) ?_
                refine Seq.guard_on' rfl rfl hc7 ?_
                refine Seq.val (Does.move rfl) (by decide) ?_
                refine Seq.guard_off' rfl rfl rfl rfl (by decide) ?_
                refine Seq.guard_off' rfl rfl rfl rfl (by decide) ?_
                refine Seq.guard_off' rfl rfl rfl rfl (by decide) ?_
                refine Seq.guard_off' rfl rfl rfl rfl (by decide) ?_
                refine Seq.guard_on' rfl rfl hc7 ?_
                refine Seq.val (Does.pick_t rfl rfl) (by decide) ?_
                refine Seq.val (Does.pick_b rfl hc7 rfl) (by decide) ?_
                refine Seq.val (Does.move rfl) (by decide) ?_
                refine Seq.guard_on' rfl rfl rfl ?_
                refine Seq.val (Does.move rfl) (by decide) ?_
                refine Seq.guard_on' rfl rfl rfl ?_
                refine Seq.val (Does.move rfl) (by decide) ?_
                refine Seq.guard_on' rfl rfl rfl ?_
                refine Seq.val (Does.fieldAddr' 7 Try.underlying40 rfl ty34 rfl rfl) (by decide) ?_
                refine Seq.guard_on' rfl rfl rfl ?_
                refine Seq.val (Does.load_own1 o16 ty34 rfl rfl) (by decide) ?_
                refine Seq.guard_on' rfl rfl rfl ?_
                refine Seq.val (Does.len Try.underlying34 rfl) (by decide) ?_
                refine Seq.guard_on' rfl rfl rfl ?_
                refine Seq.val (Does.eql rfl rfl) (by decide) ?_
                refine Seq.guard_on' rfl rfl rfl ?_
                refine Seq.val (Does.pick_f rfl rfl) (by decide) ?_
                refine Seq.val (Does.pick_t rfl rfl) (by decide) ?_
                refine Seq.val (Does.move rfl) (by decide) ?_
                rcases bdich (decide ((((List.length en.texts : Nat) : Int) : Int) = (0 : Int))) with hc8 | hc8
                · skip
                  have hp8 := of_decide_eq_true hc8
                  refine Seq.guard_on' rfl rfl hc8 ?_
                  refine Seq.val (Does.move rfl) (by decide) ?_
                  refine Seq.guard_on' rfl rfl hc8 ?_
                  refine Seq.val (Does.move rfl) (by decide) ?_
                  refine Seq.guard_off' rfl rfl rfl rfl (by decide) ?_
                  refine Seq.guard_off' rfl rfl rfl rfl (by decide) ?_
                  refine Seq.guard_off' rfl rfl rfl rfl (by decide) ?_
                  refine Seq.guard_off' rfl rfl rfl rfl (by decide) ?_
                  refine Seq.guard_on' rfl rfl hc8 ?_
                  refine Seq.val (Does.pick_t rfl rfl) (by decide) ?_
                  refine Seq.val (Does.pick_b rfl hc8 rfl) (by decide) ?_
                  refine Seq.val (Does.assign rfl) (by decide) ?_
                  refine Seq.go (fun _ _ h => h) ?_
                  obtain ⟨zU, zo⟩ := s17.out (by decide) hv
                  refine Run.ret ?_
                  exact post_one Try.results96 rfl ⟨_, rfl, (isBool (show (true : Bool) = (usesB en.kind en.mode en.peer en.phase (List.length en.nums) (List.length en.texts) (List.length en.proof)) from by first | rfl | (simp_all [usesB]; done; done) | (simp_all [usesB]; omega; done) | (simp_all; done) | omega) _ _), s17.leave (by decide)⟩
                · skip
                  have hp8 := of_decide_eq_false hc8
                  refine Seq.guard_off' rfl rfl hc8 rfl (by decide) ?_
                  refine Seq.guard_off' rfl rfl hc8 rfl (by decide) ?_
                  refine Seq.guard_undef rfl rfl (by decide) ?_
                  refine Seq.guard_undef rfl rfl (by decide) ?_
                  refine Seq.guard_undef rfl rfl (by decide) ?_
                  refine Seq.guard_undef rfl rfl (by decide) ?_
                  refine Seq.guard_off' rfl rfl hc8 rfl (by decide) ?_
                  refine Seq.val (Does.pick_b rfl hc8 rfl) (by decide) ?_
                  refine Seq.val (Does.assign rfl) (by decide) ?_
                  refine Seq.go (fun _ _ h => h) ?_
                  obtain ⟨zU, zo⟩ := s17.out (by decide) hv
                  refine Run.ret ?_
                  exact post_one Try.results96 rfl ⟨_, rfl, (isBool (show (false : Bool) = (usesB en.kind en.mode en.peer en.phase (List.length en.nums) (List.length en.texts) (List.length en.proof)) from by first | rfl | (simp_all [usesB]; done; done) | (simp_all [usesB]; omega; done) | (simp_all; done) | omega) _ _), s17.leave (by decide)⟩
              · skip
                have hp7 := of_decide_eq_false hc7
                refine Seq.guard_off' rfl rfl hc7 rfl (by decide) ?_
                refine Seq.guard_off' rfl rfl hc7 rfl (by decide) ?_
                refine Seq.guard_undef rfl rfl (by decide) ?_
                refine Seq.guard_undef rfl rfl (by decide) ?_
                refine Seq.guard_undef rfl rfl (by decide) ?_
                refine Seq.guard_undef rfl rfl (by decide) ?_
                refine Seq.guard_off' rfl rfl hc7 rfl (by decide) ?_
                refine Seq.val (Does.pick_b rfl hc7 rfl) (by decide) ?_
                refine Seq.val (Does.move rfl) (by decide) ?_
                refine Seq.guard_off' rfl rfl rfl rfl (by decide) ?_
                refine Seq.guard_off' rfl rfl rfl rfl (by decide) ?_
                refine Seq.guard_undef rfl rfl (by decide) ?_
                refine Seq.guard_undef rfl rfl (by decide) ?_
                refine Seq.guard_undef rfl rfl (by decide) ?_
                refine Seq.guard_undef rfl rfl (by decide) ?_
                refine Seq.guard_off' rfl rfl rfl rfl (by decide) ?_
                refine Seq.val (Does.pick_f rfl rfl) (by decide) ?_
                refine Seq.val (Does.move rfl) (by decide) ?_
                refine Seq.guard_off' rfl rfl rfl rfl (by decide) ?_
                refine Seq.guard_off' rfl rfl rfl rfl (by decide) ?_
                refine Seq.guard_undef rfl rfl (by decide) ?_
                refine Seq.guard_undef rfl rfl (by decide) ?_
                refine Seq.guard_undef rfl rfl (by decide) ?_
                refine Seq.guard_undef rfl rfl (by decide) ?_
                refine Seq.guard_off' rfl rfl rfl rfl (by decide) ?_
                refine Seq.val (Does.pick_f rfl rfl) (by decide) ?_
                refine Seq.val (Does.assign rfl) (by decide) ?_
                refine Seq.go (fun _ _ h => h) ?_
                obtain ⟨zU, zo⟩ := s17.out (by decide) hv
                refine Run.ret ?_
                exact post_one Try.results96 rfl ⟨_, rfl, (isBool (show (false : Bool) = (usesB en.kind en.mode en.peer en.phase (List.length en.nums) (List.length en.texts) (List.length en.proof)) from by first | rfl | (simp_all [usesB]; done; done) | (simp_all [usesB]; omega; done) | (simp_all; done) | omega) _ _), s17.leave (by decide)⟩
            · skip
              have hp6 := of_decide_eq_false hc6
              refine Seq.guard_off' rfl rfl hc6 rfl (by decide) ?_
              refine Seq.guard_off' rfl rfl hc6 rfl (by decide) ?_
              refine Seq.guard_undef rfl rfl (by decide) ?_
              refine Seq.guard_undef rfl rfl (by decide) ?_
              refine Seq.guard_undef rfl rfl (by decide) ?_
              refine Seq.guard_off' rfl rfl hc6 rfl (by decide) ?_
              refine Seq.val (Does.pick_b rfl hc6 rfl) (by decide) ?_
              refine Seq.val (Does.move rfl) (by decide) ?_
              refine Seq.guard_off' rfl rfl rfl rfl (by decide) ?_
              refine Seq.guard_off' rfl rfl rfl rfl (by decide) ?_
              refine Seq.guard_undef rfl rfl (by decide) ?_
              refine Seq.guard_undef rfl rfl (by decide) ?_
              refine Seq.guard_undef rfl rfl (by decide) ?_
              refine Seq.guard_off' rfl rfl rfl rfl (by decide) ?_
              refine Seq.val (Does.pick_f rfl rfl) (by decide) ?_
              refine Seq.val (Does.move rfl) (by decide) ?_
              refine Seq.guard_off' rfl rfl rfl rfl (by decide) ?_
              refine Seq.guard_off' rfl rfl rfl rfl (by decide) ?_
              refine Seq.guard_undef rfl rfl (by decide) ?_
              refine Seq.guard_undef rfl rfl (by decide) ?_
              refine Seq.guard_undef rfl rfl (by decide) ?_
              refine Seq.guard_undef rfl rfl (by decide) ?_
              refine Seq.guard_off' rfl rfl rfl rfl (by decide) ?_
              refine Seq.val (Does.pick_f rfl rfl) (by decide) ?_
              refine Seq.val (Does.move rfl) (by decide) ?_
              refine Seq.guard_off' rfl rfl rfl rfl (by decide) ?_
              refine Seq.guard_off' rfl rfl rfl rfl (by decide) ?_
              refine Seq.guard_undef rfl rfl (by decide) ?_
              refine Seq.guard_undef rfl rfl (by decide) ?_
              refine Seq.guard_undef rfl rfl (by decide) ?_
              refine Seq.guard_undef rfl rfl (by decide) ?_
              refine Seq.guard_off' rfl rfl rfl rfl (by decide) ?_
              refine Seq.val (Does.pick_f rfl rfl) (by decide) ?_
              refine Seq.val (Does.move rfl) (by decide) ?_
              refine Seq.guard_off' rfl rfl rfl rfl (by decide) ?_
              refine Seq.guard_off' rfl rfl rfl rfl (by decide) ?_
              refine Seq.guard_undef rfl rfl (by decide) ?_
              refine Seq.guard_undef rfl rfl (by decide) ?_
              refine Seq.guard_undef rfl rfl (by decide) ?_
              refine Seq.guard_undef rfl rfl (by decide) ?_
              refine Seq.guard_off' rfl rfl rfl rfl (by decide) ?_
              refine Seq.val (Does.pick_f rfl rfl) (by decide) ?_
              refine Seq.val (Does.assign rfl) (by decide) ?_
              refine Seq.go (fun _ _ h => h) ?_
              obtain ⟨zU, zo⟩ := s17.out (by decide) hv
              refine Run.ret ?_
              exact post_one Try.results96 rfl ⟨_, rfl, (isBool (show (false : Bool) = (usesB en.kind en.mode en.peer en.phase (List.length en.nums) (List.length en.texts) (List.length en.proof)) from by first | rfl | (simp_all [usesB]; done; done) | (simp_all [usesB]; omega; done) | (simp_all; done) | omega) _ _), s17.leave (by decide)⟩
          · skip
            have hp5 := of_decide_eq_false hc5
            refine Run.cond_b rfl hc5 ?_
            refine Run.seq ?_
            refine Run.region ?_
            refine Seq.val (Does.eql rfl rfl) (by decide) ?_
            refine Seq.val (Does.assign rfl) (by decide) ?_
            refine Seq.go (fun _ _ h => h) ?_
            rcases bdich (decide ((en.kind : Int) = (4 : Int))) with hc6 | hc6
            · skip
              have hp6 := of_decide_eq_true hc6
              refine Run.cond_b rfl hc6 ?_
              refine Run.region ?_
              refine Seq.val (Does.assign rfl) (by decide) ?_
              refine Seq.go (fun _ _ h => h) ?_
              refine Run.seq ?_
              refine Run.region ?_
              refine Seq.val (Does.move rfl) (by decide) ?_
              refine Seq.val (Does.move rfl) (by decide) ?_
              refine Seq.guard_on' rfl rfl rfl ?_
              refine Seq.val (Does.fieldAddr' 3 Try.underlying40 rfl ty3 rfl rfl) (by decide) ?_
              refine Seq.guard_on' rfl rfl rfl ?_
              refine Seq.val (Does.load_own1 o16 ty3 rfl rfl) (by decide) ?_
              refine Seq.guard_on' rfl rfl rfl ?_
              refine Seq.val (Does.eql rfl rfl) (by decide) ?_
              refine Seq.val (Does.pick_f rfl rfl) (by decide) ?_
              refine Seq.val (Does.move rfl) (by decide) ?_
              rcases bdich (decide ((en.mode : Int) = (0 : Int))) with hc7 | hc7
              · skip
                have hp7 := of_decide_eq_true hc7
                refine Seq.guard_on' rfl rfl hc7 ?_
                refine Seq.val (Does.move rfl) (by decide) ?_
                refine Seq.guard_on' rfl rfl hc7 ?_
                refine Seq.val (Does.move rfl) (by decide) ?_
                refine Seq.guard_on' rfl rfl rfl ?_
                refine Seq.val (Does.fieldAddr' 4 Try.underlying40 rfl ty3 rfl rfl) (by decide) ?_
                refine Seq.guard_on' rfl rfl rfl ?_
                refine Seq.val (Does.load_own1 o16 ty3 rfl rfl) (by decide) ?_
                refine Seq.guard_on' rfl rfl rfl ?_
                refine Seq.val (Does.eql rfl rfl) (by decide) ?_
                refine Seq.guard_on' rfl rfl hc7 ?_
                refine Seq.val (Does.pick_f rfl rfl) (by decide) ?_
                refine Seq.val (Does.pick_b rfl hc7 rfl) (by decide) ?_
                refine Seq.val (Does.move rfl) (by decide) ?_
                rcases bdich (decide ((en.peer : Int) = (0 : Int))) with hc8 | hc8
                · skip
                  have hp8 := of_decide_eq_true hc8
                  refine Seq.guard_on' rfl rfl hc8 ?_
                  refine Seq.val (Does.move rfl) (by decide) ?_
                  refine Seq.guard_on' rfl rfl hc8 ?_
                  refine Seq.val (Does.move rfl) (by decide) ?_
                  refine Seq.guard_off' rfl rfl rfl rfl (by decide) ?_
                  refine Seq.guard_off' rfl rfl rfl rfl (by decide) ?_
                  refine Seq.guard_off' rfl rfl rfl rfl (by decide) ?_
                  refine Seq.guard_on' rfl rfl hc8 ?_
                  refine Seq.val (Does.pick_t rfl rfl) (by decide) ?_
                  refine Seq.val (Does.pick_b rfl hc8 rfl) (by decide) ?_
                  refine Seq.val (Does.move rfl) (by decide) ?_
                  refine Seq.guard_on' rfl rfl rfl ?_
                  refine Seq.val (Does.move rfl) (by decide) ?_
                  refine Seq.guard_on' rfl rfl rfl ?_
                  refine Seq.val (Does.move rfl) (by decide) ?_
                  refine Seq.guard_on' rfl rfl rfl ?_
                  refine Seq.val (Does.fieldAddr' 6 Try.underlying40 rfl ty38 rfl rfl) (by decide) ?_
                  refine Seq.guard_on' rfl rfl rfl ?_
                  refine Seq.val (Does.load_own1 o16 ty38 rfl rfl) (by decide) ?_
                  refine Seq.guard_on' rfl rfl rfl ?_
                  refine Seq.val (Does.len Try.underlying38 rfl) (by decide) ?_
                  refine Seq.guard_on' rfl rfl rfl ?_
                  refine Seq.val (Does.eql rfl rfl) (by decide) ?_
                  refine Seq.guard_on' rfl rfl rfl ?_
                  refine Seq.val (Does.pick_f rfl rfl) (by decide) ?_
                  refine Seq.val (Does.pick_t rfl rfl) (by decide) ?_
                  refine Seq.val (Does.move rfl) (by decide) ?_
                  rcases bdich (decide ((((List.length en.nums : Nat) : Int) : Int) = (0 : Int))) with hc9 | hc9
                  · skip
                    have hp9 := of_decide_eq_true hc9
                    refine Seq.guard_on' rfl rfl hc9 ?_
                    refine Seq.val (Does.move rfl) (by decide) ?_
                    refine Seq.guard_on' rfl rfl hc9 ?_
                    refine Seq.val (Does.move rfl) (by decide) ?_
                    refine Seq.guard_on' rfl rfl rfl ?_
                    refine Seq.val (Does.fieldAddr' 7 Try.underlying40 rfl ty34 rfl rfl) (by decide) ?_
                    refine Seq.guard_on' rfl rfl rfl ?_
                    refine Seq.val (Does.load_own1 o16 ty34 rfl rfl) (by decide) ?_
                    refine Seq.guard_on' rfl rfl rfl ?_
                    refine Seq.val (Does.len Try.underlying34 rfl) (by decide) ?_
                    refine Seq.guard_on' rfl rfl rfl ?_
                    refine Seq.val (Does.eql rfl rfl) (by decide) ?_
                    refine Seq.guard_on' rfl rfl hc9 ?_
                    refine Seq.val (Does.pick_f rfl rfl) (by decide) ?_
                    refine Seq.val (Does.pick_b rfl hc9 rfl) (by decide) ?_
                    refine Seq.val (Does.move rfl) (by decide) ?_
                    rcases bdich (decide ((((List.length en.texts : Nat) : Int) : Int) = (0 : Int))) with hc10 | hc10
                    · skip
                      have hp10 := of_decide_eq_true hc10
                      refine Seq.guard_on' rfl rfl hc10 ?_
                      refine Seq.val (Does.move rfl) (by decide) ?_
                      refine Seq.guard_on' rfl rfl hc10 ?_
                      refine Seq.val (Does.move rfl) (by decide) ?_
                      refine Seq.guard_on' rfl rfl rfl ?_
                      refine Seq.val (Does.fieldAddr' 8 Try.underlying40 rfl ty22 rfl rfl) (by decide) ?_
                      refine Seq.guard_on' rfl rfl rfl ?_
                      refine Seq.val (Does.load_own1 o16 ty22 rfl rfl) (by decide) ?_
                      refine Seq.guard_on' rfl rfl rfl ?_
                      refine Seq.val (Does.len Try.underlying22 rfl) (by decide) ?_
                      refine Seq.guard_on' rfl rfl rfl ?_
                      refine Seq.val (Does.eql rfl rfl) (by decide) ?_
                      refine Seq.guard_on' rfl rfl hc10 ?_
                      refine Seq.val (Does.pick_f rfl rfl) (by decide) ?_
                      refine Seq.val (Does.pick_b rfl hc10 rfl) (by decide) ?_
                      refine Seq.val (Does.assign rfl) (by decide) ?_
                      refine Seq.go (fun _ _ h => h) ?_
                      obtain ⟨zU, zo⟩ := s17.out (by decide) hv
                      refine Run.ret ?_
                      exact post_one Try.results96 rfl ⟨_, rfl, (isBool (show ((decide ((((List.length en.proof : Nat) : Int) : Int) = (0 : Int))) : Bool) = (usesB en.kind en.mode en.peer en.phase (List.length en.nums) (List.length en.texts) (List.length en.proof)) from by first | rfl | (simp_all [usesB]; done; done) | (simp_all [usesB]; omega; done) | (simp_all; done) | omega) _ _), s17.leave (by decide)⟩
                    · skip
                      have hp10 := of_decide_eq_false hc10
                      refine Seq.guard_off' rfl rfl hc10 rfl (by decide) ?_
                      refine Seq.guard_off' rfl rfl hc10 rfl (by decide) ?_
                      refine Seq.guard_undef rfl rfl (by decide) ?_
                      refine Seq.guard_undef rfl rfl (by decide) ?_
                      refine Seq.guard_undef rfl rfl (by decide) ?_
                      refine Seq.guard_undef rfl rfl (by decide) ?_
                      refine Seq.guard_off' rfl rfl hc10 rfl (by decide) ?_
                      refine Seq.val (Does.pick_b rfl hc10 rfl) (by decide) ?_
                      refine Seq.val (Does.assign rfl) (by decide) ?_
                      refine Seq.go (fun _ _ h => h) ?_
                      obtain ⟨zU, zo⟩ := s17.out (by decide) hv
                      refine Run.ret ?_
                      exact post_one Try.results96 rfl ⟨_, rfl, (isBool (show (false : Bool) = (usesB en.kind en.mode en.peer en.phase (List.length en.nums) (List.length en.texts) (List.length en.proof)) from by first | rfl | (simp_all [usesB]; done; done) | (simp_all [usesB]; omega; done) | (simp_all; done) | omega) _ _), s17.leave (by decide)⟩
                  · skip
                    have hp9 := of_decide_eq_false hc9
                    refine Seq.guard_off' rfl rfl hc9 rfl (by decide) ?_
                    refine Seq.guard_off' rfl rfl hc9 rfl (by decide) ?_
                    refine Seq.guard_undef rfl rfl (by decide) ?_
                    refine Seq.guard_undef rfl rfl (by decide) ?_
                    refine Seq.guard_undef rfl rfl (by decide) ?_
                    refine Seq.guard_undef rfl rfl (by decide) ?_
                    refine Seq.guard_off' rfl rfl hc9 rfl (by decide) ?_
                    refine Seq.val (Does.pick_b rfl hc9 rfl) (by decide) ?_
                    refine Seq.val (Does.move rfl) (by decide) ?_
                    refine Seq.guard_off' rfl rfl rfl rfl (by decide) ?_
                    refine Seq.guard_off' rfl rfl rfl rfl (by decide) ?_
                    refine Seq.guard_undef rfl rfl (by decide) ?_
                    refine Seq.guard_undef rfl rfl (by decide) ?_
                    refine Seq.guard_undef rfl rfl (by decide) ?_
                    refine Seq.guard_undef rfl rfl (by decide) ?_
                    refine Seq.guard_off' rfl rfl rfl rfl (by decide) ?_
                    refine Seq.val (Does.pick_f rfl rfl) (by decide) ?_
                    refine Seq.val (Does.assign rfl) (by decide) ?_
                    refine Seq.go (fun _ _ h => h) ?_
                    obtain ⟨zU, zo⟩ := s17.out (by decide) hv
                    refine Run.ret ?_
                    exact post_one Try.results96 rfl ⟨_, rfl, (isBool (show (false : Bool) = (usesB en.kind en.mode en.peer en.phase (List.length en.nums) (List.length en.texts) (List.length en.proof)) from by first | rfl | (simp_all [usesB]; done; done) | (simp_all [usesB]; omega; done) | (simp_all; done) | omega) _ _), s17.leave (by decide)⟩
                · skip
                  have hp8 := of_decide_eq_false hc8
                  refine Seq.guard_off' rfl rfl hc8 rfl (by decide) ?_
                  refine Seq.guard_off' rfl rfl hc8 rfl (by decide) ?_
                  refine Seq.guard_undef rfl rfl (by decide) ?_
                  refine Seq.guard_undef rfl rfl (by decide) ?_
                  refine Seq.guard_undef rfl rfl (by decide) ?_
                  refine Seq.guard_off' rfl rfl hc8 rfl (by decide) ?_
                  refine Seq.val (Does.pick_b rfl hc8 rfl) (by decide) ?_
                  refine Seq.val (Does.move rfl) (by decide) ?_
                  refine Seq.guard_off' rfl rfl rfl rfl (by decide) ?_
                  refine Seq.guard_off' rfl rfl rfl rfl (by decide) ?_
                  refine Seq.guard_undef rfl rfl (by decide) ?_
                  refine Seq.guard_undef rfl rfl (by decide) ?_
                  refine Seq.guard_undef rfl rfl (by decide) ?_
                  refine Seq.guard_undef rfl rfl (by decide) ?_
                  refine Seq.guard_off' rfl rfl rfl rfl (by decide) ?_
                  refine Seq.val (Does.pick_f rfl rfl) (by decide) ?_
                  refine Seq.val (Does.move rfl) (by decide) ?_
                  refine Seq.guard_off' rfl rfl rfl rfl (by decide) ?_
                  refine Seq.guard_off' rfl rfl rfl rfl (by decide) ?_
                  refine Seq.guard_undef rfl rfl (by decide) ?_
                  refine Seq.guard_undef rfl rfl (by decide) ?_
                  refine Seq.guard_undef rfl rfl (by decide) ?_
                  refine Seq.guard_undef rfl rfl (by decide) ?_
                  refine Seq.guard_off' rfl rfl rfl rfl (by decide) ?_
                  refine Seq.val (Does.pick_f rfl rfl) (by decide) ?_
                  refine Seq.val (Does.move rfl) (by decide) ?_
                  refine Seq.guard_off' rfl rfl rfl rfl (by decide) ?_
                  refine Seq.guard_off' rfl rfl rfl rfl (by decide) ?_
                  refine Seq.guard_undef rfl rfl (by decide) ?_
                  refine Seq.guard_undef rfl rfl (by decide) ?_
                  refine Seq.guard_undef rfl rfl (by decide) ?_
                  refine Seq.guard_undef rfl rfl (by decide) ?_
                  refine Seq.guard_off' rfl rfl rfl rfl (by decide) ?_
                  refine Seq.val (Does.pick_f rfl rfl) (by decide) ?_
                  refine Seq.val (Does.assign rfl) (by decide) ?_
                  refine Seq.go (fun _ _ h => h) ?_
                  obtain ⟨zU, zo⟩ := s17.out (by decide) hv
                  refine Run.ret ?_
                  exact post_one Try.results96 rfl ⟨_, rfl, (isBool (show (false : Bool) = (usesB en.kind en.mode en.peer en.phase (List.length en.nums) (List.length en.texts) (List.length en.proof)) from by first | rfl | (simp_all [usesB]; done; done) | (simp_all [usesB]; omega; done) | (simp_all; done) | omega) _ _), s17.leave (by decide)⟩
              · skip
                have hp7 := of_decide_eq_false hc7
                refine Seq.guard_off' rfl rfl hc7 rfl (by decide) ?_
                refine Seq.guard_off' rfl rfl hc7 rfl (by decide) ?_
                refine Seq.guard_undef rfl rfl (by decide) ?_
                refine Seq.guard_undef rfl rfl (by decide) ?_
                refine Seq.guard_undef rfl rfl (by decide) ?_
                refine Seq.guard_off' rfl rfl hc7 rfl (by decide) ?_
                refine Seq.val (Does.pick_b rfl hc7 rfl) (by decide) ?_
                refine Seq.val (Does.move rfl) (by decide) ?_
                refine Seq.guard_off' rfl rfl rfl rfl (by decide) ?_
                refine Seq.guard_off' rfl rfl rfl rfl (by decide) ?_
                refine Seq.guard_undef rfl rfl (by decide) ?_
                refine Seq.guard_undef rfl rfl (by decide) ?_
                refine Seq.guard_undef rfl rfl (by decide) ?_
                refine Seq.guard_off' rfl rfl rfl rfl (by decide) ?_
                refine Seq.val (Does.pick_f rfl rfl) (by decide) ?_
                refine Seq.val (Does.move rfl) (by decide) ?_
                refine Seq.guard_off' rfl rfl rfl rfl (by decide) ?_
                refine Seq.guard_off' rfl rfl rfl rfl (by decide) ?_
                refine Seq.guard_undef rfl rfl (by decide) ?_
                refine Seq.guard_undef rfl rfl (by decide) ?_
                refine Seq.guard_undef rfl rfl (by decide) ?_
                refine Seq.guard_undef rfl rfl (by decide) ?_
                refine Seq.guard_off' rfl rfl rfl rfl (by decide) ?_
                refine Seq.val (Does.pick_f rfl rfl) (by decide) ?_
                refine Seq.val (Does.move rfl) (by decide) ?_
                refine Seq.guard_off' rfl rfl rfl rfl (by decide) ?_
                refine Seq.guard_off' rfl rfl rfl rfl (by decide) ?_
                refine Seq.guard_undef rfl rfl (by decide) ?_
                refine Seq.guard_undef rfl rfl (by decide) ?_
                refine Seq.guard_undef rfl rfl (by decide) ?_
                refine Seq.guard_undef rfl rfl (by decide) ?_
                refine Seq.guard_off' rfl rfl rfl rfl (by decide) ?_
                refine Seq.val (Does.pick_f rfl rfl) (by decide) ?_
                refine Seq.val (Does.move rfl) (by decide) ?_
                refine Seq.guard_off' rfl rfl rfl rfl (by decide) ?_
                refine Seq.guard_off' rfl rfl rfl rfl (by decide) ?_
                refine Seq.guard_undef rfl rfl (by decide) ?_
                refine Seq.guard_undef rfl rfl (by decide) ?_
                refine Seq.guard_undef rfl rfl (by decide) ?_
                refine Seq.guard_undef rfl rfl (by decide) ?_
                refine Seq.guard_off' rfl rfl rfl rfl (by decide) ?_
                refine Seq.val (Does.pick_f rfl rfl) (by decide) ?_
                refine Seq.val (Does.assign rfl) (by decide) ?_
                refine Seq.go (fun _ _ h => h) ?_
                obtain ⟨zU, zo⟩ := s17.out (by decide) hv
                refine Run.ret ?_
                exact post_one Try.results96 rfl ⟨_, rfl, (isBool (show (false : Bool) = (usesB en.kind en.mode en.peer en.phase (List.length en.nums) (List.length en.texts) (List.length en.proof)) from by first | rfl | (simp_all [usesB]; done; done) | (simp_all [usesB]; omega; done) | (simp_all; done) | omega) _ _), s17.leave (by decide)⟩
            · skip
              have hp6 := of_decide_eq_false hc6
              refine Run.cond_b rfl hc6 ?_
              refine Run.seq ?_
              refine Run.region ?_
              refine Seq.val (Does.eql rfl rfl) (by decide) ?_
              refine Seq.val (Does.assign rfl) (by decide) ?_
              refine Seq.go (fun _ _ h => h) ?_
              rcases bdich (decide ((en.kind : Int) = (5 : Int))) with hc7 | hc7
              · skip
                have hp7 := of_decide_eq_true hc7
                refine Run.cond_b rfl hc7 ?_
                refine Run.region ?_
                refine Seq.val (Does.assign rfl) (by decide) ?_
                refine Seq.go (fun _ _ h => h) ?_
                refine Run.seq ?_
                refine Run.region ?_
                refine Seq.val (Does.move rfl) (by decide) ?_
                refine Seq.val (Does.move rfl) (by decide) ?_
                refine Seq.guard_on' rfl rfl rfl ?_
                refine Seq.val (Does.fieldAddr' 3 Try.underlying40 rfl ty3 rfl rfl) (by decide) ?_
                refine Seq.guard_on' rfl rfl rfl ?_
                refine Seq.val (Does.load_own1 o16 ty3 rfl rfl) (by decide) ?_
                refine Seq.guard_on' rfl rfl rfl ?_
                refine Seq.val (Does.eql rfl rfl) (by decide) ?_
                refine Seq.val (Does.pick_f rfl rfl) (by decide) ?_
                refine Seq.val (Does.move rfl) (by decide) ?_
                rcases bdich (decide ((en.mode : Int) = (0 : Int))) with hc8 | hc8
                · skip
                  have hp8 := of_decide_eq_true hc8
                  refine Seq.guard_on' rfl rfl hc8 ?_
                  refine Seq.val (Does.move rfl) (by decide) ?_
                  refine Seq.guard_on' rfl rfl hc8 ?_
                  refine Seq.val (Does.move rfl) (by decide) ?_
                  refine Seq.guard_on' rfl rfl rfl ?_
                  refine Seq.val (Does.fieldAddr' 4 Try.underlying40 rfl ty3 rfl rfl) (by decide) ?_
                  refine Seq.guard_on' rfl rfl rfl ?_
                  refine Seq.val (Does.load_own1 o16 ty3 rfl rfl) (by decide) ?_
                  refine Seq.guard_on' rfl rfl rfl ?_
                  refine Seq.val (Does.eql rfl rfl) (by decide) ?_
                  refine Seq.guard_on' rfl rfl hc8 ?_
                  refine Seq.val (Does.pick_f rfl rfl) (by decide) ?_
                  refine Seq.val (Does.pick_b rfl hc8 rfl) (by decide) ?_
                  refine Seq.val (Does.move rfl) (by decide) ?_
                  rcases bdich (decide ((en.peer : Int) = (0 : Int))) with hc9 | hc9
                  · skip
                    have hp9 := of_decide_eq_true hc9
                    refine Seq.guard_on' rfl rfl hc9 ?_
                    refine Seq.val (Does.move rfl) (by decide) ?_
                    refine Seq.guard_on' rfl rfl hc9 ?_
                    refine Seq.val (Does.move rfl) (by decide) ?_
                    refine Seq.guard_on' rfl rfl rfl ?_
                    refine Seq.val (Does.fieldAddr' 5 Try.underlying40 rfl ty3 rfl rfl) (by decide) ?_
                    refine Seq.guard_on' rfl rfl rfl ?_
                    refine Seq.val (Does.load_own1 o16 ty3 rfl rfl) (by decide) ?_
                    refine Seq.guard_on' rfl rfl rfl ?_
                    refine Seq.val (Does.eql rfl rfl) (by decide) ?_
                    refine Seq.guard_on' rfl rfl hc9 ?_
                    refine Seq.val (Does.pick_f rfl rfl) (by decide) ?_
                    refine Seq.val (Does.pick_b rfl hc9 rfl) (by decide) ?_
                    refine Seq.val (Does.move rfl) (by decide) ?_
                    rcases bdich (decide ((en.phase : Int) = (0 : Int))) with hc10 | hc10
                    · skip
                      have hp10 := of_decide_eq_true hc10
                      refine Seq.guard_on' rfl rfl hc10 ?_
                      refine Seq.val (Does.move rfl) (by decide) ?_
                      refine Seq.guard_on' rfl rfl hc10 ?_
                      refine Seq.val (Does.move rfl) (by decide) ?_
                      refine Seq.guard_off' rfl rfl rfl rfl (by decide) ?_
                      refine Seq.guard_off' rfl rfl rfl rfl (by decide) ?_
                      refine Seq.guard_off' rfl rfl rfl rfl (by decide) ?_
                      refine Seq.guard_off' rfl rfl rfl rfl (by decide) ?_
                      refine Seq.guard_on' rfl rfl hc10 ?_
                      refine Seq.val (Does.pick_t rfl rfl) (by decide) ?_
                      refine Seq.val (Does.pick_b rfl hc10 rfl) (by decide) ?_
                      refine Seq.val (Does.move rfl) (by decide) ?_
                      refine Seq.guard_on' rfl rfl rfl ?_
                      refine Seq.val (Does.move rfl) (by decide) ?_
                      refine Seq.guard_on' rfl rfl rfl ?_
                      refine Seq.val (Does.move rfl) (by decide) ?_
                      refine Seq.guard_on' rfl rfl rfl ?_
                      refine Seq.val (Does.fieldAddr' 7 Try.underlying40 rfl ty34 rfl rfl) (by decide) ?_
                      refine Seq.guard_on' rfl rfl rfl ?_
                      refine Seq.val (Does.load_own1 o16 ty34 rfl rfl) (by decide) ?_
                      refine Seq.guard_on' rfl rfl rfl ?_
                      refine Seq.val (Does.len Try.underlying34 rfl) (by decide) ?_
                      refine Seq.guard_on' rfl rfl rfl ?_
                      refine Seq.val (Does.eql rfl rfl) (by decide) ?_
                      refine Seq.guard_on' rfl rfl rfl ?_
                      refine Seq.val (Does.pick_f rfl rfl) (by decide) ?_
                      refine Seq.val (Does.pick_t rfl rfl) (by decide) ?_
                      refine Seq.val (Does.move rfl) (by decide) ?_
                      rcases bdich (decide ((((List.length en.texts : Nat) : Int) : Int) = (0 : Int))) with hc11 | hc11
                      · skip
                        have hp11 := of_decide_eq_true hc11
                        refine Seq.guard_on' rfl rfl hc11 ?_
                        refine Seq.val (Does.move rfl) (by decide) ?_
                        refine Seq.guard_on' rfl rfl hc11 ?_
                        refine Seq.val (Does.move rfl) (by decide) ?_
                        refine Seq.guard_on' rfl rfl rfl ?_
                        refine Seq.val (Does.fieldAddr' 8 Try.underlying40 rfl ty22 rfl rfl) (by decide) ?_
                        refine Seq.guard_on' rfl rfl rfl ?_
                        refine Seq.val (Does.load_own1 o16 ty22 rfl rfl) (by decide) ?_
                        refine Seq.guard_on' rfl rfl rfl ?_
                        refine Seq.val (Does.len Try.underlying22 rfl) (by decide) ?_
                        refine Seq.guard_on' rfl rfl rfl ?_
                        refine Seq.val (Does.eql rfl rfl) (by decide) ?_
                        refine Seq.guard_on' rfl rfl hc11 ?_
                        refine Seq.val (Does.pick_f rfl rfl) (by decide) ?_
                        refine Seq.val (Does.pick_b rfl hc11 rfl) (by decide) ?_
                        refine Seq.val (Does.assign rfl) (by decide) ?_
                        refine Seq.go (fun _ _ h => h) ?_
                        obtain ⟨zU, zo⟩ := s17.out (by decide) hv
                        refine Run.ret ?_
                        exact post_one Try.results96 rfl ⟨_, rfl, (isBool (show ((decide ((((List.length en.proof : Nat) : Int) : Int) = (0 : Int))) : Bool) = (usesB en.kind en.mode en.peer en.phase (List.length en.nums) (List.length en.texts) (List.length en.proof)) from by first | rfl | (simp_all [usesB]; done; done) | (simp_all [usesB]; omega; done) | (simp_all; done) | omega) _ _), s17.leave (by decide)⟩
                      · skip
                        have hp11 := of_decide_eq_false hc11
                        refine Seq.guard_off' rfl rfl hc11 rfl (by decide) ?_
                        refine Seq.guard_off' rfl rfl hc11 rfl (by decide) ?_
                        refine Seq.guard_undef rfl rfl (by decide) ?_
                        refine Seq.guard_undef rfl rfl (by decide) ?_
                        refine Seq.guard_undef rfl rfl (by decide) ?_
                        refine Seq.guard_undef rfl rfl (by decide) ?_
                        refine Seq.guard_off' rfl rfl hc11 rfl (by decide) ?_
                        refine Seq.val (Does.pick_b rfl hc11 rfl) (by decide) ?_
                        refine Seq.val (Does.assign rfl) (by decide) ?_
                        refine Seq.go (fun _ _ h => h) ?_
                        obtain ⟨zU, zo⟩ := s17.out (by decide) hv
                        refine Run.ret ?_
                        exact post_one Try.results96 rfl ⟨_, rfl, (isBool (show (false : Bool) = (usesB en.kind en.mode en.peer en.phase (List.length en.nums) (List.length en.texts) (List.length en.proof)) from by first | rfl | (simp_all [usesB]; done; done) | (simp_all [usesB]; omega; done) | (simp_all; done) | omega) _ _), s17.leave (by decide)⟩
                    · skip
                      have hp10 := of_decide_eq_false hc10
                      refine Seq.guard_off' rfl rfl hc10 rfl (by decide) ?_
                      refine Seq.guard_off' rfl rfl hc10 rfl (by decide) ?_
                      refine Seq.guard_undef rfl rfl (by decide) ?_
                      refine Seq.guard_undef rfl rfl (by decide) ?_
                      refine Seq.guard_undef rfl rfl (by decide) ?_
                      refine Seq.guard_undef rfl rfl (by decide) ?_
                      refine Seq.guard_off' rfl rfl hc10 rfl (by decide) ?_
                      refine Seq.val (Does.pick_b rfl hc10 rfl) (by decide) ?_
                      refine Seq.val (Does.move rfl) (by decide) ?_
                      refine Seq.guard_off' rfl rfl rfl rfl (by decide) ?_
                      refine Seq.guard_off' rfl rfl rfl rfl (by decide) ?_
                      refine Seq.guard_undef rfl rfl (by decide) ?_
                      refine Seq.guard_undef rfl rfl (by decide) ?_
                      refine Seq.guard_undef rfl rfl (by decide) ?_
                      refine Seq.guard_undef rfl rfl (by decide) ?_
                      refine Seq.guard_off' rfl rfl rfl rfl (by decide) ?_
                      refine Seq.val (Does.pick_f rfl rfl) (by decide) ?_
                      refine Seq.val (Does.move rfl) (by decide) ?_
                      refine Seq.guard_off' rfl rfl rfl rfl (by decide) ?_
                      refine Seq.guard_off' rfl rfl rfl rfl (by decide) ?_
                      refine Seq.guard_undef rfl rfl (by decide) ?_
                      refine Seq.guard_undef rfl rfl (by decide) ?_
                      refine Seq.guard_undef rfl rfl (by decide) ?_
                      refine Seq.guard_undef rfl rfl (by decide) ?_
                      refine Seq.guard_off' rfl rfl rfl rfl (by decide) ?_
                      refine Seq.val (Does.pick_f rfl rfl) (by decide) ?_
                      refine Seq.val (Does.assign rfl) (by decide) ?_
                      refine Seq.go (fun _ _ h => h) ?_
                      obtain ⟨zU, zo⟩ := s17.out (by decide) hv
                      refine Run.ret ?_
                      exact post_one Try.results96 rfl ⟨_, rfl, (isBool (show (false : Bool) = (usesB en.kind en.mode en.peer en.phase (List.length en.nums) (List.length en.texts) (List.length en.proof)) from by first | rfl | (simp_all [usesB]; done; done) | (simp_all [usesB]; omega; done) | (simp_all; done) | omega) _ _), s17.leave (by decide)⟩
                  · skip
                    have hp9 := of_decide_eq_false hc9
                    refine Seq.guard_off' rfl rfl hc9 rfl (by decide) ?_
                    refine Seq.guard_off' rfl rfl hc9 rfl (by decide) ?_
                    refine Seq.guard_undef rfl rfl (by decide) ?_
                    refine Seq.guard_undef rfl rfl (by decide) ?_
                    refine Seq.guard_undef rfl rfl (by decide) ?_
                    refine Seq.guard_off' rfl rfl hc9 rfl (by decide) ?_
                    refine Seq.val (Does.pick_b rfl hc9 rfl) (by decide) ?_
                    refine Seq.val (Does.move rfl) (by decide) ?_
                    refine Seq.guard_off' rfl rfl rfl rfl (by decide) ?_
                    refine Seq.guard_off' rfl rfl rfl rfl (by decide) ?_
                    refine Seq.guard_undef rfl rfl (by decide) ?_
                    refine Seq.guard_undef rfl rfl (by decide) ?_
                    refine Seq.guard_undef rfl rfl (by decide) ?_
                    refine Seq.guard_undef rfl rfl (by decide) ?_
                    refine Seq.guard_off' rfl rfl rfl rfl (by decide) ?_
                    refine Seq.val (Does.pick_f rfl rfl) (by decide) ?_
                    refine Seq.val (Does.move rfl) (by decide) ?_
                    refine Seq.guard_off' rfl rfl rfl rfl (by decide) ?_
                    refine Seq.guard_off' rfl rfl rfl rfl (by decide) ?_
                    refine Seq.guard_undef rfl rfl (by decide) ?_
                    refine Seq.guard_undef rfl rfl (by decide) ?_
                    refine Seq.guard_undef rfl rfl (by decide) ?_
                    refine Seq.guard_undef rfl rfl (by decide) ?_
                    refine Seq.guard_off' rfl rfl rfl rfl (by decide) ?_
                    refine Seq.val (Does.pick_f rfl rfl) (by decide) ?_
                    refine Seq.val (Does.move rfl) (by decide) ?_
                    refine Seq.guard_off' rfl rfl rfl rfl (by decide) ?_
                    refine Seq.guard_off' rfl rfl rfl rfl (by decide) ?_
                    refine Seq.guard_undef rfl rfl (by decide) ?_
                    refine Seq.guard_undef rfl rfl (by decide) ?_
                    refine Seq.guard_undef rfl rfl (by decide) ?_
                    refine Seq.guard_undef rfl rfl (by decide) ?_
                    refine Seq.guard_off' rfl rfl rfl rfl (by decide) ?_
                    refine Seq.val (Does.pick_f rfl rfl) (by decide) ?_
                    refine Seq.val (Does.assign rfl) (by decide) ?_
                    refine Seq.go (fun _ _ h => h) ?_
                    obtain ⟨zU, zo⟩ := s17.out (by decide) hv
                    refine Run.ret ?_
                    exact post_one Try.results96 rfl ⟨_, rfl, (isBool (show (false : Bool) = (usesB en.kind en.mode en.peer en.phase (List.length en.nums) (List.length en.texts) (List.length en.proof)) from by first | rfl | (simp_all [usesB]; done; done) | (simp_all [usesB]; omega; done) | (simp_all; done) | omega) _ _), s17.leave (by decide)⟩
                · skip
                  have hp8 := of_decide_eq_false hc8
                  refine Seq.guard_off' rfl rfl hc8 rfl (by decide) ?_
                  refine Seq.guard_off' rfl rfl hc8 rfl (by decide) ?_
                  refine Seq.guard_undef rfl rfl (by decide) ?_
                  refine Seq.guard_undef rfl rfl (by decide) ?_
                  refine Seq.guard_undef rfl rfl (by decide) ?_
                  refine Seq.guard_off' rfl rfl hc8 rfl (by decide) ?_
                  refine Seq.val (Does.pick_b rfl hc8 rfl) (by decide) ?_
                  refine Seq.val (Does.move rfl) (by decide) ?_
                  refine Seq.guard_off' rfl rfl rfl rfl (by decide) ?_
                  refine Seq.guard_off' rfl rfl rfl rfl (by decide) ?_
                  refine Seq.guard_undef rfl rfl (by decide) ?_
                  refine Seq.guard_undef rfl rfl (by decide) ?_
                  refine Seq.guard_undef rfl rfl (by decide) ?_
                  refine Seq.guard_off' rfl rfl rfl rfl (by decide) ?_
                  refine Seq.val (Does.pick_f rfl rfl) (by decide) ?_
                  refine Seq.val (Does.move rfl) (by decide) ?_
                  refine Seq.guard_off' rfl rfl rfl rfl (by decide) ?_
                  refine Seq.guard_off' rfl rfl rfl rfl (by decide) ?_
                  refine Seq.guard_undef rfl rfl (by decide) ?_
                  refine Seq.guard_undef rfl rfl (by decide) ?_
                  refine Seq.guard_undef rfl rfl (by decide) ?_
                  refine Seq.guard_undef rfl rfl (by decide) ?_
                  refine Seq.guard_off' rfl rfl rfl rfl (by decide) ?_
                  refine Seq.val (Does.pick_f rfl rfl) (by decide) ?_
                  refine Seq.val (Does.move rfl) (by decide) ?_
                  refine Seq.guard_off' rfl rfl rfl rfl (by decide) ?_
                  refine Seq.guard_off' rfl rfl rfl rfl (by decide) ?_
                  refine Seq.guard_undef rfl rfl (by decide) ?_
                  refine Seq.guard_undef rfl rfl (by decide) ?_
                  refine Seq.guard_undef rfl rfl (by decide) ?_
                  refine Seq.guard_undef rfl rfl (by decide) ?_
                  refine Seq.guard_off' rfl rfl rfl rfl (by decide) ?_
                  refine Seq.val (Does.pick_f rfl rfl) (by decide) ?_
                  refine Seq.val (Does.move rfl) (by decide) ?_
                  refine Seq.guard_off' rfl rfl rfl rfl (by decide) ?_
                  refine Seq.guard_off' rfl rfl rfl rfl (by decide) ?_
                  refine Seq.guard_undef rfl rfl (by decide) ?_
                  refine Seq.guard_undef rfl rfl (by decide) ?_
                  refine Seq.guard_undef rfl rfl (by decide) ?_
                  refine Seq.guard_undef rfl rfl (by decide) ?_
                  refine Seq.guard_off' rfl rfl rfl rfl (by decide) ?_
                  refine Seq.val (Does.pick_f rfl rfl) (by decide) ?_
                  refine Seq.val (Does.assign rfl) (by decide) ?_
                  refine Seq.go (fun _ _ h => h) ?_
                  obtain ⟨zU, zo⟩ := s17.out (by decide) hv
                  refine Run.ret ?_
                  exact post_one Try.results96 rfl ⟨_, rfl, (isBool (show (false : Bool) = (usesB en.kind en.mode en.peer en.phase (List.length en.nums) (List.length en.texts) (List.length en.proof)) from by first | rfl | (simp_all [usesB]; done; done) | (simp_all [usesB]; omega; done) | (simp_all; done) | omega) _ _), s17.leave (by decide)⟩
              · skip
                have hp7 := of_decide_eq_false hc7
                refine Run.cond_b rfl hc7 ?_
                refine Run.skip_go (fun _ _ h => h) ?_
                refine Run.seq ?_
                refine Run.region ?_
                refine Seq.val (Does.move rfl) (by decide) ?_
                refine Seq.val (Does.move rfl) (by decide) ?_
                refine Seq.guard_on' rfl rfl rfl ?_
                refine Seq.val (Does.fieldAddr' 3 Try.underlying40 rfl ty3 rfl rfl) (by decide) ?_
                refine Seq.guard_on' rfl rfl rfl ?_
                refine Seq.val (Does.load_own1 o16 ty3 rfl rfl) (by decide) ?_
                refine Seq.guard_on' rfl rfl rfl ?_
                refine Seq.val (Does.eql rfl rfl) (by decide) ?_
                refine Seq.val (Does.pick_f rfl rfl) (by decide) ?_
                refine Seq.val (Does.move rfl) (by decide) ?_
                rcases bdich (decide ((en.mode : Int) = (0 : Int))) with hc8 | hc8
                · skip
                  have hp8 := of_decide_eq_true hc8
                  refine Seq.guard_on' rfl rfl hc8 ?_
                  refine Seq.val (Does.move rfl) (by decide) ?_
                  refine Seq.guard_on' rfl rfl hc8 ?_
                  refine Seq.val (Does.move rfl) (by decide) ?_
                  refine Seq.guard_on' rfl rfl rfl ?_
                  refine Seq.val (Does.fieldAddr' 4 Try.underlying40 rfl ty3 rfl rfl) (by decide) ?_
                  refine Seq.guard_on' rfl rfl rfl ?_
                  refine Seq.val (Does.load_own1 o16 ty3 rfl rfl) (by decide) ?_
                  refine Seq.guard_on' rfl rfl rfl ?_
                  refine Seq.val (Does.eql rfl rfl) (by decide) ?_
                  refine Seq.guard_on' rfl rfl hc8 ?_
                  refine Seq.val (Does.pick_f rfl rfl) (by decide) ?_
                  refine Seq.val (Does.pick_b rfl hc8 rfl) (by decide) ?_
                  refine Seq.val (Does.move rfl) (by decide) ?_
                  rcases bdich (decide ((en.peer : Int) = (0 : Int))) with hc9 | hc9
                  · skip
                    have hp9 := of_decide_eq_true hc9
                    refine Seq.guard_on' rfl rfl hc9 ?_
                    refine Seq.val (Does.move rfl) (by decide) ?_
                    refine Seq.guard_on' rfl rfl hc9 ?_
                    refine Seq.val (Does.move rfl) (by decide) ?_
                    refine Seq.guard_on' rfl rfl rfl ?_
                    refine Seq.val (Does.fieldAddr' 5 Try.underlying40 rfl ty3 rfl rfl) (by decide) ?_
                    refine Seq.guard_on' rfl rfl rfl ?_
                    refine Seq.val (Does.load_own1 o16 ty3 rfl rfl) (by decide) ?_
                    refine Seq.guard_on' rfl rfl rfl ?_
                    refine Seq.val (Does.eql rfl rfl) (by decide) ?_
                    refine Seq.guard_on' rfl rfl hc9 ?_
                    refine Seq.val (Does.pick_f rfl rfl) (by decide) ?_
                    refine Seq.val (Does.pick_b rfl hc9 rfl) (by decide) ?_
                    refine Seq.val (Does.move rfl) (by decide) ?_
                    rcases bdich (decide ((en.phase : Int) = (0 : Int))) with hc10 | hc10
                    · skip
                      have hp10 := of_decide_eq_true hc10
                      refine Seq.guard_on' rfl rfl hc10 ?_
                      refine Seq.val (Does.move rfl) (by decide) ?_
                      refine Seq.guard_on' rfl rfl hc10 ?_
                      refine Seq.val (Does.move rfl) (by decide) ?_
                      refine Seq.guard_on' rfl rfl rfl ?_
                      refine Seq.val (Does.fieldAddr' 6 Try.underlying40 rfl ty38 rfl rfl) (by decide) ?_
                      refine Seq.guard_on' rfl rfl rfl ?_
                      refine Seq.val (Does.load_own1 o16 ty38 rfl rfl) (by decide) ?_
                      refine Seq.guard_on' rfl rfl rfl ?_
                      refine Seq.val (Does.len Try.underlying38 rfl) (by decide) ?_
                      refine Seq.guard_on' rfl rfl rfl ?_
                      refine Seq.val (Does.eql rfl rfl) (by decide) ?_
                      refine Seq.guard_on' rfl rfl hc10 ?_
                      refine Seq.val (Does.pick_f rfl rfl) (by decide) ?_
                      refine Seq.val (Does.pick_b rfl hc10 rfl) (by decide) ?_
                      refine Seq.val (Does.move rfl) (by decide) ?_
                      rcases bdich (decide ((((List.length en.nums : Nat) : Int) : Int) = (0 : Int))) with hc11 | hc11
                      · skip
                        have hp11 := of_decide_eq_true hc11
                        refine Seq.guard_on' rfl rfl hc11 ?_
                        refine Seq.val (Does.move rfl) (by decide) ?_
                        refine Seq.guard_on' rfl rfl hc11 ?_
                        refine Seq.val (Does.move rfl) (by decide) ?_
                        refine Seq.guard_on' rfl rfl rfl ?_
                        refine Seq.val (Does.fieldAddr' 7 Try.underlying40 rfl ty34 rfl rfl) (by decide) ?_
                        refine Seq.guard_on' rfl rfl rfl ?_
                        refine Seq.val (Does.load_own1 o16 ty34 rfl rfl) (by decide) ?_
                        refine Seq.guard_on' rfl rfl rfl ?_
                        refine Seq.val (Does.len Try.underlying34 rfl) (by decide) ?_
                        refine Seq.guard_on' rfl rfl rfl ?_
                        refine Seq.val (Does.eql rfl rfl) (by decide) ?_
                        refine Seq.guard_on' rfl rfl hc11 ?_
                        refine Seq.val (Does.pick_f rfl rfl) (by decide) ?_
                        refine Seq.val (Does.pick_b rfl hc11 rfl) (by decide) ?_
                        refine Seq.val (Does.move rfl) (by decide) ?_
                        rcases bdich (decide ((((List.length en.texts : Nat) : Int) : Int) = (0 : Int))) with hc12 | hc12
                        · skip
                          have hp12 := of_decide_eq_true hc12
                          refine Seq.guard_on' rfl rfl hc12 ?_
                          refine Seq.val (Does.move rfl) (by decide) ?_
                          refine Seq.guard_on' rfl rfl hc12 ?_
                          refine Seq.val (Does.move rfl) (by decide) ?_
                          refine Seq.guard_on' rfl rfl rfl ?_
                          refine Seq.val (Does.fieldAddr' 8 Try.underlying40 rfl ty22 rfl rfl) (by decide) ?_
                          refine Seq.guard_on' rfl rfl rfl ?_
                          refine Seq.val (Does.load_own1 o16 ty22 rfl rfl) (by decide) ?_
                          refine Seq.guard_on' rfl rfl rfl ?_
                          refine Seq.val (Does.len Try.underlying22 rfl) (by decide) ?_
                          refine Seq.guard_on' rfl rfl rfl ?_
                          refine Seq.val (Does.eql rfl rfl) (by decide) ?_
                          refine Seq.guard_on' rfl rfl hc12 ?_
                          refine Seq.val (Does.pick_f rfl rfl) (by decide) ?_
                          refine Seq.val (Does.pick_b rfl hc12 rfl) (by decide) ?_
                          refine Seq.val (Does.assign rfl) (by decide) ?_
                          refine Seq.go (fun _ _ h => h) ?_
                          obtain ⟨zU, zo⟩ := s17.out (by decide) hv
                          refine Run.ret ?_
                          exact post_one Try.results96 rfl ⟨_, rfl, (isBool (show ((decide ((((List.length en.proof : Nat) : Int) : Int) = (0 : Int))) : Bool) = (usesB en.kind en.mode en.peer en.phase (List.length en.nums) (List.length en.texts) (List.length en.proof)) from by first | rfl | (simp_all [usesB]; done; done) | (simp_all [usesB]; omega; done) | (simp_all; done) | omega) _ _), s17.leave (by decide)⟩
                        · skip
                          have hp12 := of_decide_eq_false hc12
                          refine Seq.guard_off' rfl rfl hc12 rfl (by decide) ?_
                          refine Seq.guard_off' rfl rfl hc12 rfl (by decide) ?_
                          refine Seq.guard_undef rfl rfl (by decide) ?_
                          refine Seq.guard_undef rfl rfl (by decide) ?_
                          refine Seq.guard_undef rfl rfl (by decide) ?_
                          refine Seq.guard_undef rfl rfl (by decide) ?_
                          refine Seq.guard_off' rfl rfl hc12 rfl (by decide) ?_
                          refine Seq.val (Does.pick_b rfl hc12 rfl) (by decide) ?_
                          refine Seq.val (Does.assign rfl) (by decide) ?_
                          refine Seq.go (fun _ _ h => h) ?_
                          obtain ⟨zU, zo⟩ := s17.out (by decide) hv
                          refine Run.ret ?_
                          exact post_one Try.results96 rfl ⟨_, rfl, (isBool (show (false : Bool) = (usesB en.kind en.mode en.peer en.phase (List.length en.nums) (List.length en.texts) (List.length en.proof)) from by first | rfl | (simp_all [usesB]; done; done) | (simp_all [usesB]; omega; done) | (simp_all; done) | omega) _ _), s17.leave (by decide)⟩
                      · skip
                        have hp11 := of_decide_eq_false hc11
                        refine Seq.guard_off' rfl rfl hc11 rfl (by decide) ?_
                        refine Seq.guard_off' rfl rfl hc11 rfl (by decide) ?_
                        refine Seq.guard_undef rfl rfl (by decide) ?_
                        refine Seq.guard_undef rfl rfl (by decide) ?_
                        refine Seq.guard_undef rfl rfl (by decide) ?_
                        refine Seq.guard_undef rfl rfl (by decide) ?_
                        refine Seq.guard_off' rfl rfl hc11 rfl (by decide) ?_
                        refine Seq.val (Does.pick_b rfl hc11 rfl) (by decide) ?_
                        refine Seq.val (Does.move rfl) (by decide) ?_
                        refine Seq.guard_off' rfl rfl rfl rfl (by decide) ?_
                        refine Seq.guard_off' rfl rfl rfl rfl (by decide) ?_
                        refine Seq.guard_undef rfl rfl (by decide) ?_
                        refine Seq.guard_undef rfl rfl (by decide) ?_
                        refine Seq.guard_undef rfl rfl (by decide) ?_
                        refine Seq.guard_undef rfl rfl (by decide) ?_
                        refine Seq.guard_off' rfl rfl rfl rfl (by decide) ?_
                        refine Seq.val (Does.pick_f rfl rfl) (by decide) ?_
                        refine Seq.val (Does.assign rfl) (by decide) ?_
                        refine Seq.go (fun _ _ h => h) ?_
                        obtain ⟨zU, zo⟩ := s17.out (by decide) hv
                        refine Run.ret ?_
                        exact post_one Try.results96 rfl ⟨_, rfl, (isBool (show (false : Bool) = (usesB en.kind en.mode en.peer en.phase (List.length en.nums) (List.length en.texts) (List.length en.proof)) from by first | rfl | (simp_all [usesB]; done; done) | (simp_all [usesB]; omega; done) | (simp_all; done) | omega) _ _), s17.leave (by decide)⟩
                    · skip
                      have hp10 := of_decide_eq_false hc10
                      refine Seq.guard_off' rfl rfl hc10 rfl (by decide) ?_
                      refine Seq.guard_off' rfl rfl hc10 rfl (by decide) ?_
                      refine Seq.guard_undef rfl rfl (by decide) ?_
                      refine Seq.guard_undef rfl rfl (by decide) ?_
                      refine Seq.guard_undef rfl rfl (by decide) ?_
                      refine Seq.guard_undef rfl rfl (by decide) ?_
                      refine Seq.guard_off' rfl rfl hc10 rfl (by decide) ?_
                      refine Seq.val (Does.pick_b rfl hc10 rfl) (by decide) ?_
                      refine Seq.val (Does.move rfl) (by decide) ?_
                      refine Seq.guard_off' rfl rfl rfl rfl (by decide) ?_
                      refine Seq.guard_off' rfl rfl rfl rfl (by decide) ?_
                      refine Seq.guard_undef rfl rfl (by decide) ?_
                      refine Seq.guard_undef rfl rfl (by decide) ?_
                      refine Seq.guard_undef rfl rfl (by decide) ?_
                      refine Seq.guard_undef rfl rfl (by decide) ?_
                      refine Seq.guard_off' rfl rfl rfl rfl (by decide) ?_
                      refine Seq.val (Does.pick_f rfl rfl) (by decide) ?_
                      refine Seq.val (Does.move rfl) (by decide) ?_
                      refine Seq.guard_off' rfl rfl rfl rfl (by decide) ?_
                      refine Seq.guard_off' rfl rfl rfl rfl (by decide) ?_
                      refine Seq.guard_undef rfl rfl (by decide) ?_
                      refine Seq.guard_undef rfl rfl (by decide) ?_
                      refine Seq.guard_undef rfl rfl (by decide) ?_
                      refine Seq.guard_undef rfl rfl (by decide) ?_
                      refine Seq.guard_off' rfl rfl rfl rfl (by decide) ?_
                      refine Seq.val (Does.pick_f rfl rfl) (by decide) ?_
                      refine Seq.val (Does.assign rfl) (by decide) ?_
                      refine Seq.go (fun _ _ h => h) ?_
                      obtain ⟨zU, zo⟩ := s17.out (by decide) hv
                      refine Run.ret ?_
                      exact post_one Try.results96 rfl ⟨_, rfl, (isBool (show (false : Bool) = (usesB en.kind en.mode en.peer en.phase (List.length en.nums) (List.length en.texts) (List.length en.proof)) from by first | rfl | (simp_all [usesB]; done; done) | (simp_all [usesB]; omega; done) | (simp_all; done) | omega) _ _), s17.leave (by decide)⟩
                  · skip
                    have hp9 := of_decide_eq_false hc9
                    refine Seq.guard_off' rfl rfl hc9 rfl (by decide) ?_
                    refine Seq.guard_off' rfl rfl hc9 rfl (by decide) ?_
                    refine Seq.guard_undef rfl rfl (by decide) ?_
                    refine Seq.guard_undef rfl rfl (by decide) ?_
                    refine Seq.guard_undef rfl rfl (by decide) ?_
                    refine Seq.guard_off' rfl rfl hc9 rfl (by decide) ?_
                    refine Seq.val (Does.pick_b rfl hc9 rfl) (by decide) ?_
                    refine Seq.val (Does.move rfl) (by decide) ?_
                    refine Seq.guard_off' rfl rfl rfl rfl (by decide) ?_
                    refine Seq.guard_off' rfl rfl rfl rfl (by decide) ?_
                    refine Seq.guard_undef rfl rfl (by decide) ?_
                    refine Seq.guard_undef rfl rfl (by decide) ?_
                    refine Seq.guard_undef rfl rfl (by decide) ?_
                    refine Seq.guard_undef rfl rfl (by decide) ?_
                    refine Seq.guard_off' rfl rfl rfl rfl (by decide) ?_
                    refine Seq.val (Does.pick_f rfl rfl) (by decide) ?_
                    refine Seq.val (Does.move rfl) (by decide) ?_
                    refine Seq.guard_off' rfl rfl rfl rfl (by decide) ?_
                    refine Seq.guard_off' rfl rfl rfl rfl (by decide) ?_
                    refine Seq.guard_undef rfl rfl (by decide) ?_
                    refine Seq.guard_undef rfl rfl (by decide) ?_
                    refine Seq.guard_undef rfl rfl (by decide) ?_
                    refine Seq.guard_undef rfl rfl (by decide) ?_
                    refine Seq.guard_off' rfl rfl rfl rfl (by decide) ?_
                    refine Seq.val (Does.pick_f rfl rfl) (by decide) ?_
                    refine Seq.val (Does.move rfl) (by decide) ?_
                    refine Seq.guard_off' rfl rfl rfl rfl (by decide) ?_
                    refine Seq.guard_off' rfl rfl rfl rfl (by decide) ?_
                    refine Seq.guard_undef rfl rfl (by decide) ?_
                    refine Seq.guard_undef rfl rfl (by decide) ?_
                    refine Seq.guard_undef rfl rfl (by decide) ?_
                    refine Seq.guard_undef rfl rfl (by decide) ?_
                    refine Seq.guard_off' rfl rfl rfl rfl (by decide) ?_
                    refine Seq.val (Does.pick_f rfl rfl) (by decide) ?_
                    refine Seq.val (Does.assign rfl) (by decide) ?_
                    refine Seq.go (fun _ _ h => h) ?_
                    obtain ⟨zU, zo⟩ := s17.out (by decide) hv
                    refine Run.ret ?_
                    exact post_one Try.results96 rfl ⟨_, rfl, (isBool (show (false : Bool) = (usesB en.kind en.mode en.peer en.phase (List.length en.nums) (List.length en.texts) (List.length en.proof)) from by first | rfl | (simp_all [usesB]; done; done) | (simp_all [usesB]; omega; done) | (simp_all; done) | omega) _ _), s17.leave (by decide)⟩
                · skip
                  have hp8 := of_decide_eq_false hc8
                  refine Seq.guard_off' rfl rfl hc8 rfl (by decide) ?_
                  refine Seq.guard_off' rfl rfl hc8 rfl (by decide) ?_
                  refine Seq.guard_undef rfl rfl (by decide) ?_
                  refine Seq.guard_undef rfl rfl (by decide) ?_
                  refine Seq.guard_undef rfl rfl (by decide) ?_
                  refine Seq.guard_off' rfl rfl hc8 rfl (by decide) ?_
                  refine Seq.val (Does.pick_b rfl hc8 rfl) (by decide) ?_
                  refine Seq.val (Does.move rfl) (by decide) ?_
                  refine Seq.guard_off' rfl rfl rfl rfl (by decide) ?_
                  refine Seq.guard_off' rfl rfl rfl rfl (by decide) ?_
                  refine Seq.guard_undef rfl rfl (by decide) ?_
                  refine Seq.guard_undef rfl rfl (by decide) ?_
                  refine Seq.guard_undef rfl rfl (by decide) ?_
                  refine Seq.guard_off' rfl rfl rfl rfl (by decide) ?_
                  refine Seq.val (Does.pick_f rfl rfl) (by decide) ?_
                  refine Seq.val (Does.move rfl) (by decide) ?_
                  refine Seq.guard_off' rfl rfl rfl rfl (by decide) ?_
                  refine Seq.guard_off' rfl rfl rfl rfl (by decide) ?_
                  refine Seq.guard_undef rfl rfl (by decide) ?_
                  refine Seq.guard_undef rfl rfl (by decide) ?_
                  refine Seq.guard_undef rfl rfl (by decide) ?_
                  refine Seq.guard_undef rfl rfl (by decide) ?_
                  refine Seq.guard_off' rfl rfl rfl rfl (by decide) ?_
                  refine Seq.val (Does.pick_f rfl rfl) (by decide) ?_
                  refine Seq.val (Does.move rfl) (by decide) ?_
                  refine Seq.guard_off' rfl rfl rfl rfl (by decide) ?_
                  refine Seq.guard_off' rfl rfl rfl rfl (by decide) ?_
                  refine Seq.guard_undef rfl rfl (by decide) ?_
                  refine Seq.guard_undef rfl rfl (by decide) ?_
                  refine Seq.guard_undef rfl rfl (by decide) ?_
                  refine Seq.guard_undef rfl rfl (by decide) ?_
                  refine Seq.guard_off' rfl rfl rfl rfl (by decide) ?_
                  refine Seq.val (Does.pick_f rfl rfl) (by decide) ?_
                  refine Seq.val (Does.move rfl) (by decide) ?_
                  refine Seq.guard_off' rfl rfl rfl rfl (by decide) ?_
                  refine Seq.guard_off' rfl rfl rfl rfl (by decide) ?_
                  refine Seq.guard_undef rfl rfl (by decide) ?_
                  refine Seq.guard_undef rfl rfl (by decide) ?_
                  refine Seq.guard_undef rfl rfl (by decide) ?_
                  refine Seq.guard_undef rfl rfl (by decide) ?_
                  refine Seq.guard_off' rfl rfl rfl rfl (by decide) ?_
                  refine Seq.val (Does.pick_f rfl rfl) (by decide) ?_
                  refine Seq.val (Does.assign rfl) (by decide) ?_
                  refine Seq.go (fun _ _ h => h) ?_
                  obtain ⟨zU, zo⟩ := s17.out (by decide) hv
                  refine Run.ret ?_
                  exact post_one Try.results96 rfl ⟨_, rfl, (isBool (show (false : Bool) = (usesB en.kind en.mode en.peer en.phase (List.length en.nums) (List.length en.texts) (List.length en.proof)) from by first | rfl | (simp_all [usesB]; done; done) | (simp_all [usesB]; omega; done) | (simp_all; done) | omega) _ _), s17.leave (by decide)⟩

theorem wire_EncodeEntry {lab : Lab} {w : World} (hv : Valid lab w) {en : EntryD} {v0 : Value} (h0 : EntryV en lab w v0) (hn : ∀ k, k < List.length en.nums → nw (List.getD en.nums k 0) ≤ 1000000) :
    Calls Try.prog 25 #[v0] w (fun e w' => ∃ v, e = .returned v ∧ (And2 (BytesV (if en.no then [] else en.all)) (Is (i64 (if en.no then 3 else 0)))) lab w' v ∧ Below w.heap.size w w') := by
  have hv0 := hv.ent
  obtain ⟨zU0, z00⟩ := ent_step lab w
  replace h0 := (EntryV.pers _).step z00 h0
  obtain ⟨A1, c2, A4, c5, A7, c8, rfl, q3, q6, q9⟩ := EntryV.open h0
  have z10 := NatsV.cap q3
  have z11 := RowsV.cap q6
  have z12 := BytesV.cap q9
  refine calls_run Try.func25 rfl Try.ntmps25 (Nat.le_of_ble_eq_true rfl) ?_
  refine Run.seq ?_
  refine Run.region ?_
  refine Seq.box (k := 2) [i64 en.kind, i64 en.author, i64 en.epoch, i64 en.mode, i64 en.peer, i64 en.phase, .slice A1 (List.length en.nums) c2, .slice A4 (List.length en.texts) c5, .slice A7 (List.length en.proof) c8] hv0 rfl rfl (by decide) ?_
  intro lab13 w14 b15 o16 s17 hv18
  refine Seq.val (Does.assign rfl) (by decide) ?_
  refine Seq.val (Does.assign rfl) (by decide) ?_
  refine Seq.go (fun _ _ h => h) ?_
  refine Run.seq ?_
  refine Run.region ?_
  refine Seq.build_app (k := 902) [(0, .int .u8 69)] (List.map u8 [(69 : UInt8)]) hv18 Try.underlying22 ty5 (by decide) (by decide) rfl rfl (by kernel_rfl) (by decide) ?_
  intro lab19 w20 v21 o22 s23 hv24
  obtain ⟨A25, c26, rfl⟩ := App.shape o22
  have m27 : List.length ([(69 : UInt8)]) = 1 := App.lenMap o22
  have z28 := (App.row o22).2
  refine Seq.val (Does.build [(0, .slice A25 (1) c26)] [(0, 1), (1, 1)] [.slice A25 (1) c26, .bool false] Try.underlying144 ty144 (by kernel_rfl) rfl (by kernel_rfl)) (by decide) ?_
  refine Seq.box (k := 901) [.slice A25 (1) c26, .bool false] hv24 rfl rfl (by decide) ?_
  intro lab29 w30 b31 o32 s33 hv34
  refine Seq.val (Does.assign rfl) (by decide) ?_
  refine Seq.go (fun _ _ h => h) ?_
  refine Run.seq ?_
  refine Run.region ?_
  refine Seq.val (Does.move rfl) (by decide) ?_
  refine Seq.val (Does.fieldAddr' 0 Try.underlying40 rfl ty3 rfl rfl) (by decide) ?_
  have c36 := s23.trans s33
  have o35 := o16.lift c36 (by decide)
  refine Seq.val (Does.load_own1 o35 ty3 rfl rfl) (by decide) ?_
  have o37 := o22.lift s33 (by decide)
  refine Seq.callW (V := Is (.tuple #[])) (bs := ([(69 : UInt8)]) ++ be (u64i en.kind) (Int.toNat 1)) (bad := false || out_ en.kind 1 7) cal87 rfl (by decide) (wire_num hv34 (n := en.kind) (least := 1) (most := 7) (size := 1) (wr := [(69 : UInt8)]) (wrbad := false) (wrb := b31) (Wr.mk o32 o37) (show 0 ≤ 1 ∧ 1 ≤ 8 from by first | assumption | omega | (simp [be_length] at * <;> omega) | (simp only [List.length_append, be_length, List.length_cons, List.length_nil]; omega)) (show List.length ([(69 : UInt8)]) ≤ 1000000 from by first | assumption | omega | (simp [be_length] at * <;> omega) | (simp only [List.length_append, be_length, List.length_cons, List.length_nil]; omega))) ?_
  intro lab43 w44 v45 v46 q47 o48 o49 s50 hv51
  obtain ⟨A52, c53, rfl⟩ := App.shape o49
  have m54 : List.length (([(69 : UInt8)]) ++ be (u64i en.kind) (Int.toNat 1)) = List.length (([(69 : UInt8)]) ++ be (u64i en.kind) (Int.toNat 1)) := App.lenMap o49
  have z55 := (App.row o49).2
  have q47 := Is.out q47; subst q47
  refine Seq.go (fun _ _ h => h) ?_
  refine Run.seq ?_
  refine Run.region ?_
  refine Seq.val (Does.move rfl) (by decide) ?_
  refine Seq.val (Does.fieldAddr' 1 Try.underlying40 rfl ty3 rfl rfl) (by decide) ?_
  have o56 := o35.lift s50 (by decide)
  refine Seq.val (Does.load_own1 o56 ty3 rfl rfl) (by decide) ?_
  refine Seq.callW (V := Is (.tuple #[])) (bs := (([(69 : UInt8)]) ++ be (u64i en.kind) (Int.toNat 1)) ++ be (u64i en.author) (Int.toNat 1)) (bad := (false || out_ en.kind 1 7) || out_ en.author 1 64) cal87 rfl (by decide) (wire_num hv51 (n := en.author) (least := 1) (most := 64) (size := 1) (wr := ([(69 : UInt8)]) ++ be (u64i en.kind) (Int.toNat 1)) (wrbad := false || out_ en.kind 1 7) (wrb := b31) (Wr.mk o48 o49) (show 0 ≤ 1 ∧ 1 ≤ 8 from by first | assumption | omega | (simp [be_length] at * <;> omega) | (simp only [List.length_append, be_length, List.length_cons, List.length_nil]; omega)) (show List.length (([(69 : UInt8)]) ++ be (u64i en.kind) (Int.toNat 1)) ≤ 1000000 from by first | assumption | omega | (simp [be_length] at * <;> omega) | (simp only [List.length_append, be_length, List.length_cons, List.length_nil]; omega))) ?_
  intro lab62 w63 v64 v65 q66 o67 o68 s69 hv70
  obtain ⟨A71, c72, rfl⟩ := App.shape o68
  have m73 : List.length ((([(69 : UInt8)]) ++ be (u64i en.kind) (Int.toNat 1)) ++ be (u64i en.author) (Int.toNat 1)) = List.length ((([(69 : UInt8)]) ++ be (u64i en.kind) (Int.toNat 1)) ++ be (u64i en.author) (Int.toNat 1)) := App.lenMap o68
  have z74 := (App.row o68).2
  have q66 := Is.out q66; subst q66
  refine Seq.go (fun _ _ h => h) ?_
  refine Run.seq ?_
  refine Run.region ?_
  refine Seq.val (Does.move rfl) (by decide) ?_
  refine Seq.val (Does.fieldAddr' 2 Try.underlying40 rfl ty3 rfl rfl) (by decide) ?_
  have o75 := o56.lift s69 (by decide)
  refine Seq.val (Does.load_own1 o75 ty3 rfl rfl) (by decide) ?_
  refine Seq.callW (V := Is (.tuple #[])) (bs := ((([(69 : UInt8)]) ++ be (u64i en.kind) (Int.toNat 1)) ++ be (u64i en.author) (Int.toNat 1)) ++ be (u64i en.epoch) (Int.toNat 4)) (bad := ((false || out_ en.kind 1 7) || out_ en.author 1 64) || out_ en.epoch 0 1048576) cal87 rfl (by decide) (wire_num hv70 (n := en.epoch) (least := 0) (most := 1048576) (size := 4) (wr := (([(69 : UInt8)]) ++ be (u64i en.kind) (Int.toNat 1)) ++ be (u64i en.author) (Int.toNat 1)) (wrbad := (false || out_ en.kind 1 7) || out_ en.author 1 64) (wrb := b31) (Wr.mk o67 o68) (show 0 ≤ 4 ∧ 4 ≤ 8 from by first | assumption | omega | (simp [be_length] at * <;> omega) | (simp only [List.length_append, be_length, List.length_cons, List.length_nil]; omega)) (show List.length ((([(69 : UInt8)]) ++ be (u64i en.kind) (Int.toNat 1)) ++ be (u64i en.author) (Int.toNat 1)) ≤ 1000000 from by first | assumption | omega | (simp [be_length] at * <;> omega) | (simp only [List.length_append, be_length, List.length_cons, List.length_nil]; omega))) ?_
  intro lab81 w82 v83 v84 q85 o86 o87 s88 hv89
  obtain ⟨A90, c91, rfl⟩ := App.shape o87
  have m92 : List.length (((([(69 : UInt8)]) ++ be (u64i en.kind) (Int.toNat 1)) ++ be (u64i en.author) (Int.toNat 1)) ++ be (u64i en.epoch) (Int.toNat 4)) = List.length (((([(69 : UInt8)]) ++ be (u64i en.kind) (Int.toNat 1)) ++ be (u64i en.author) (Int.toNat 1)) ++ be (u64i en.epoch) (Int.toNat 4)) := App.lenMap o87
  have z93 := (App.row o87).2
  have q85 := Is.out q85; subst q85
  refine Seq.go (fun _ _ h => h) ?_
  refine Run.seq ?_
  refine Run.region ?_
  refine Seq.val (Does.move rfl) (by decide) ?_
  refine Seq.val (Does.fieldAddr' 3 Try.underlying40 rfl ty3 rfl rfl) (by decide) ?_
  have o94 := o75.lift s88 (by decide)
  refine Seq.val (Does.load_own1 o94 ty3 rfl rfl) (by decide) ?_
  refine Seq.callW (V := Is (.tuple #[])) (bs := (((([(69 : UInt8)]) ++ be (u64i en.kind) (Int.toNat 1)) ++ be (u64i en.author) (Int.toNat 1)) ++ be (u64i en.epoch) (Int.toNat 4)) ++ be (u64i en.mode) (Int.toNat 1)) (bad := (((false || out_ en.kind 1 7) || out_ en.author 1 64) || out_ en.epoch 0 1048576) || out_ en.mode 0 255) cal87 rfl (by decide) (wire_num hv89 (n := en.mode) (least := 0) (most := 255) (size := 1) (wr := ((([(69 : UInt8)]) ++ be (u64i en.kind) (Int.toNat 1)) ++ be (u64i en.author) (Int.toNat 1)) ++ be (u64i en.epoch) (Int.toNat 4)) (wrbad := ((false || out_ en.kind 1 7) || out_ en.author 1 64) || out_ en.epoch 0 1048576) (wrb := b31) (Wr.mk o86 o87) (show 0 ≤ 1 ∧ 1 ≤ 8 from by first | assumption | omega | (simp [be_length] at * <;> omega) | (simp only [List.length_append, be_length, List.length_cons, List.length_nil]; omega)) (show List.length (((([(69 : UInt8)]) ++ be (u64i en.kind) (Int.toNat 1)) ++ be (u64i en.author) (Int.toNat 1)) ++ be (u64i en.epoch) (Int.toNat 4)) ≤ 1000000 from by first | assumption | omega | (simp [be_length] at * <;> omega) | (simp only [List.length_append, be_length, List.length_cons, List.length_nil]; omega))) ?_
  intro lab100 w101 v102 v103 q104 o105 o106 s107 hv108
  obtain ⟨A109, c110, rfl⟩ := App.shape o106
  have m111 : List.length ((((([(69 : UInt8)]) ++ be (u64i en.kind) (Int.toNat 1)) ++ be (u64i en.author) (Int.toNat 1)) ++ be (u64i en.epoch) (Int.toNat 4)) ++ be (u64i en.mode) (Int.toNat 1)) = List.length ((((([(69 : UInt8)]) ++ be (u64i en.kind) (Int.toNat 1)) ++ be (u64i en.author) (Int.toNat 1)) ++ be (u64i en.epoch) (Int.toNat 4)) ++ be (u64i en.mode) (Int.toNat 1)) := App.lenMap o106
  have z112 := (App.row o106).2
  have q104 := Is.out q104; subst q104
  refine Seq.go (fun _ _ h => h) ?_
  refine Run.seq ?_
  refine Run.region ?_
  refine Seq.val (Does.move rfl) (by decide) ?_
  refine Seq.val (Does.fieldAddr' 4 Try.underlying40 rfl ty3 rfl rfl) (by decide) ?_
  have o113 := o94.lift s107 (by decide)
  refine Seq.val (Does.load_own1 o113 ty3 rfl rfl) (by decide) ?_
  refine Seq.callW (V := Is (.tuple #[])) (bs := ((((([(69 : UInt8)]) ++ be (u64i en.kind) (Int.toNat 1)) ++ be (u64i en.author) (Int.toNat 1)) ++ be (u64i en.epoch) (Int.toNat 4)) ++ be (u64i en.mode) (Int.toNat 1)) ++ be (u64i en.peer) (Int.toNat 1)) (bad := ((((false || out_ en.kind 1 7) || out_ en.author 1 64) || out_ en.epoch 0 1048576) || out_ en.mode 0 255) || out_ en.peer 0 255) cal87 rfl (by decide) (wire_num hv108 (n := en.peer) (least := 0) (most := 255) (size := 1) (wr := (((([(69 : UInt8)]) ++ be (u64i en.kind) (Int.toNat 1)) ++ be (u64i en.author) (Int.toNat 1)) ++ be (u64i en.epoch) (Int.toNat 4)) ++ be (u64i en.mode) (Int.toNat 1)) (wrbad := (((false || out_ en.kind 1 7) || out_ en.author 1 64) || out_ en.epoch 0 1048576) || out_ en.mode 0 255) (wrb := b31) (Wr.mk o105 o106) (show 0 ≤ 1 ∧ 1 ≤ 8 from by first | assumption | omega | (simp [be_length] at * <;> omega) | (simp only [List.length_append, be_length, List.length_cons, List.length_nil]; omega)) (show List.length ((((([(69 : UInt8)]) ++ be (u64i en.kind) (Int.toNat 1)) ++ be (u64i en.author) (Int.toNat 1)) ++ be (u64i en.epoch) (Int.toNat 4)) ++ be (u64i en.mode) (Int.toNat 1)) ≤ 1000000 from by first | assumption | omega | (simp [be_length] at * <;> omega) | (simp only [List.length_append, be_length, List.length_cons, List.length_nil]; omega))) ?_
  intro lab119 w120 v121 v122 q123 o124 o125 s126 hv127
  obtain ⟨A128, c129, rfl⟩ := App.shape o125
  have m130 : List.length (((((([(69 : UInt8)]) ++ be (u64i en.kind) (Int.toNat 1)) ++ be (u64i en.author) (Int.toNat 1)) ++ be (u64i en.epoch) (Int.toNat 4)) ++ be (u64i en.mode) (Int.toNat 1)) ++ be (u64i en.peer) (Int.toNat 1)) = List.length (((((([(69 : UInt8)]) ++ be (u64i en.kind) (Int.toNat 1)) ++ be (u64i en.author) (Int.toNat 1)) ++ be (u64i en.epoch) (Int.toNat 4)) ++ be (u64i en.mode) (Int.toNat 1)) ++ be (u64i en.peer) (Int.toNat 1)) := App.lenMap o125
  have z131 := (App.row o125).2
  have q123 := Is.out q123; subst q123
  refine Seq.go (fun _ _ h => h) ?_
  refine Run.seq ?_
  refine Run.region ?_
  refine Seq.val (Does.move rfl) (by decide) ?_
  refine Seq.val (Does.fieldAddr' 5 Try.underlying40 rfl ty3 rfl rfl) (by decide) ?_
  have o132 := o113.lift s126 (by decide)
  refine Seq.val (Does.load_own1 o132 ty3 rfl rfl) (by decide) ?_
  refine Seq.callW (V := Is (.tuple #[])) (bs := (((((([(69 : UInt8)]) ++ be (u64i en.kind) (Int.toNat 1)) ++ be (u64i en.author) (Int.toNat 1)) ++ be (u64i en.epoch) (Int.toNat 4)) ++ be (u64i en.mode) (Int.toNat 1)) ++ be (u64i en.peer) (Int.toNat 1)) ++ be (u64i en.phase) (Int.toNat 1)) (bad := (((((false || out_ en.kind 1 7) || out_ en.author 1 64) || out_ en.epoch 0 1048576) || out_ en.mode 0 255) || out_ en.peer 0 255) || out_ en.phase 0 255) cal87 rfl (by decide) (wire_num hv127 (n := en.phase) (least := 0) (most := 255) (size := 1) (wr := ((((([(69 : UInt8)]) ++ be (u64i en.kind) (Int.toNat 1)) ++ be (u64i en.author) (Int.toNat 1)) ++ be (u64i en.epoch) (Int.toNat 4)) ++ be (u64i en.mode) (Int.toNat 1)) ++ be (u64i en.peer) (Int.toNat 1)) (wrbad := ((((false || out_ en.kind 1 7) || out_ en.author 1 64) || out_ en.epoch 0 1048576) || out_ en.mode 0 255) || out_ en.peer 0 255) (wrb := b31) (Wr.mk o124 o125) (show 0 ≤ 1 ∧ 1 ≤ 8 from by first | assumption | omega | (simp [be_length] at * <;> omega) | (simp only [List.length_append, be_length, List.length_cons, List.length_nil]; omega)) (show List.length (((((([(69 : UInt8)]) ++ be (u64i en.kind) (Int.toNat 1)) ++ be (u64i en.author) (Int.toNat 1)) ++ be (u64i en.epoch) (Int.toNat 4)) ++ be (u64i en.mode) (Int.toNat 1)) ++ be (u64i en.peer) (Int.toNat 1)) ≤ 1000000 from by first | assumption | omega | (simp [be_length] at * <;> omega) | (simp only [List.length_append, be_length, List.length_cons, List.length_nil]; omega))) ?_
  intro lab138 w139 v140 v141 q142 o143 o144 s145 hv146
  obtain ⟨A147, c148, rfl⟩ := App.shape o144
  have m149 : List.length ((((((([(69 : UInt8)]) ++ be (u64i en.kind) (Int.toNat 1)) ++ be (u64i en.author) (Int.toNat 1)) ++ be (u64i en.epoch) (Int.toNat 4)) ++ be (u64i en.mode) (Int.toNat 1)) ++ be (u64i en.peer) (Int.toNat 1)) ++ be (u64i en.phase) (Int.toNat 1)) = List.length ((((((([(69 : UInt8)]) ++ be (u64i en.kind) (Int.toNat 1)) ++ be (u64i en.author) (Int.toNat 1)) ++ be (u64i en.epoch) (Int.toNat 4)) ++ be (u64i en.mode) (Int.toNat 1)) ++ be (u64i en.peer) (Int.toNat 1)) ++ be (u64i en.phase) (Int.toNat 1)) := App.lenMap o144
  have z150 := (App.row o144).2
  have q142 := Is.out q142; subst q142
  refine Seq.go (fun _ _ h => h) ?_
  refine Run.seq ?_
  refine Run.region ?_
  refine Seq.val (Does.move rfl) (by decide) ?_
  refine Seq.val (Does.fieldAddr' 6 Try.underlying40 rfl ty38 rfl rfl) (by decide) ?_
  have o151 := o132.lift s145 (by decide)
  refine Seq.val (Does.load_own1 o151 ty38 rfl rfl) (by decide) ?_
  have c153 := s126.trans s145
  have c154 := s107.trans c153
  have c155 := s88.trans c154
  have c156 := s69.trans c155
  have c157 := s50.trans c156
  have c158 := c36.trans c157
  have c159 := s17.trans c158
  have q152 := (NatsV.pers _).step c159 q3
  refine Seq.callW (V := Is (.tuple #[])) (bs := ((((((([(69 : UInt8)]) ++ be (u64i en.kind) (Int.toNat 1)) ++ be (u64i en.author) (Int.toNat 1)) ++ be (u64i en.epoch) (Int.toNat 4)) ++ be (u64i en.mode) (Int.toNat 1)) ++ be (u64i en.peer) (Int.toNat 1)) ++ be (u64i en.phase) (Int.toNat 1)) ++ natsW en.nums ((((((false || out_ en.kind 1 7) || out_ en.author 1 64) || out_ en.epoch 0 1048576) || out_ en.mode 0 255) || out_ en.peer 0 255) || out_ en.phase 0 255)) (bad := ((((((false || out_ en.kind 1 7) || out_ en.author 1 64) || out_ en.epoch 0 1048576) || out_ en.mode 0 255) || out_ en.peer 0 255) || out_ en.phase 0 255) || out_ (List.length en.nums) 0 64 || long (natsB en.nums) 128) cal94 rfl (by decide) (wire_nats hv146 (wr := (((((([(69 : UInt8)]) ++ be (u64i en.kind) (Int.toNat 1)) ++ be (u64i en.author) (Int.toNat 1)) ++ be (u64i en.epoch) (Int.toNat 4)) ++ be (u64i en.mode) (Int.toNat 1)) ++ be (u64i en.peer) (Int.toNat 1)) ++ be (u64i en.phase) (Int.toNat 1)) (wrbad := (((((false || out_ en.kind 1 7) || out_ en.author 1 64) || out_ en.epoch 0 1048576) || out_ en.mode 0 255) || out_ en.peer 0 255) || out_ en.phase 0 255) (wrb := b31) (Wr.mk o143 o144) q152 (show List.length ((((((([(69 : UInt8)]) ++ be (u64i en.kind) (Int.toNat 1)) ++ be (u64i en.author) (Int.toNat 1)) ++ be (u64i en.epoch) (Int.toNat 4)) ++ be (u64i en.mode) (Int.toNat 1)) ++ be (u64i en.peer) (Int.toNat 1)) ++ be (u64i en.phase) (Int.toNat 1)) ≤ 500000 from by first | assumption | omega | (simp [be_length] at * <;> omega) | (simp only [List.length_append, be_length, List.length_cons, List.length_nil]; omega)) (show ∀ k, k < List.length en.nums → nw (List.getD en.nums k 0) ≤ 1000000 from by first | assumption | omega | (simp [be_length] at * <;> omega) | (simp only [List.length_append, be_length, List.length_cons, List.length_nil]; omega))) ?_
  intro lab165 w166 v167 v168 q169 o170 o171 s172 hv173
  obtain ⟨A174, c175, rfl⟩ := App.shape o171
  have m176 : List.length (((((((([(69 : UInt8)]) ++ be (u64i en.kind) (Int.toNat 1)) ++ be (u64i en.author) (Int.toNat 1)) ++ be (u64i en.epoch) (Int.toNat 4)) ++ be (u64i en.mode) (Int.toNat 1)) ++ be (u64i en.peer) (Int.toNat 1)) ++ be (u64i en.phase) (Int.toNat 1)) ++ natsW en.nums ((((((false || out_ en.kind 1 7) || out_ en.author 1 64) || out_ en.epoch 0 1048576) || out_ en.mode 0 255) || out_ en.peer 0 255) || out_ en.phase 0 255)) = List.length (((((((([(69 : UInt8)]) ++ be (u64i en.kind) (Int.toNat 1)) ++ be (u64i en.author) (Int.toNat 1)) ++ be (u64i en.epoch) (Int.toNat 4)) ++ be (u64i en.mode) (Int.toNat 1)) ++ be (u64i en.peer) (Int.toNat 1)) ++ be (u64i en.phase) (Int.toNat 1)) ++ natsW en.nums ((((((false || out_ en.kind 1 7) || out_ en.author 1 64) || out_ en.epoch 0 1048576) || out_ en.mode 0 255) || out_ en.peer 0 255) || out_ en.phase 0 255)) := App.lenMap o171
  have z177 := (App.row o171).2
  have z178 := natsW_le en.nums ((((((false || out_ en.kind 1 7) || out_ en.author 1 64) || out_ en.epoch 0 1048576) || out_ en.mode 0 255) || out_ en.peer 0 255) || out_ en.phase 0 255)
  have q169 := Is.out q169; subst q169
  refine Seq.go (fun _ _ h => h) ?_
  refine Run.seq ?_
  refine Run.region ?_
  refine Seq.val (Does.move rfl) (by decide) ?_
  refine Seq.val (Does.fieldAddr' 7 Try.underlying40 rfl ty34 rfl rfl) (by decide) ?_
  have o179 := o151.lift s172 (by decide)
  refine Seq.val (Does.load_own1 o179 ty34 rfl rfl) (by decide) ?_
  have c181 := c159.trans s172
  have q180 := (RowsV.pers _).step c181 q6
  refine Seq.callW (V := Is (.tuple #[])) (bs := (((((((([(69 : UInt8)]) ++ be (u64i en.kind) (Int.toNat 1)) ++ be (u64i en.author) (Int.toNat 1)) ++ be (u64i en.epoch) (Int.toNat 4)) ++ be (u64i en.mode) (Int.toNat 1)) ++ be (u64i en.peer) (Int.toNat 1)) ++ be (u64i en.phase) (Int.toNat 1)) ++ natsW en.nums ((((((false || out_ en.kind 1 7) || out_ en.author 1 64) || out_ en.epoch 0 1048576) || out_ en.mode 0 255) || out_ en.peer 0 255) || out_ en.phase 0 255)) ++ textsW en.texts (((((((false || out_ en.kind 1 7) || out_ en.author 1 64) || out_ en.epoch 0 1048576) || out_ en.mode 0 255) || out_ en.peer 0 255) || out_ en.phase 0 255) || out_ (List.length en.nums) 0 64 || long (natsB en.nums) 128)) (bad := (((((((false || out_ en.kind 1 7) || out_ en.author 1 64) || out_ en.epoch 0 1048576) || out_ en.mode 0 255) || out_ en.peer 0 255) || out_ en.phase 0 255) || out_ (List.length en.nums) 0 64 || long (natsB en.nums) 128) || out_ (List.length en.texts) 0 64 || long en.texts 1024) cal95 rfl (by decide) (wire_texts hv173 (wr := ((((((([(69 : UInt8)]) ++ be (u64i en.kind) (Int.toNat 1)) ++ be (u64i en.author) (Int.toNat 1)) ++ be (u64i en.epoch) (Int.toNat 4)) ++ be (u64i en.mode) (Int.toNat 1)) ++ be (u64i en.peer) (Int.toNat 1)) ++ be (u64i en.phase) (Int.toNat 1)) ++ natsW en.nums ((((((false || out_ en.kind 1 7) || out_ en.author 1 64) || out_ en.epoch 0 1048576) || out_ en.mode 0 255) || out_ en.peer 0 255) || out_ en.phase 0 255)) (wrbad := ((((((false || out_ en.kind 1 7) || out_ en.author 1 64) || out_ en.epoch 0 1048576) || out_ en.mode 0 255) || out_ en.peer 0 255) || out_ en.phase 0 255) || out_ (List.length en.nums) 0 64 || long (natsB en.nums) 128) (wrb := b31) (Wr.mk o170 o171) q180 (show List.length (((((((([(69 : UInt8)]) ++ be (u64i en.kind) (Int.toNat 1)) ++ be (u64i en.author) (Int.toNat 1)) ++ be (u64i en.epoch) (Int.toNat 4)) ++ be (u64i en.mode) (Int.toNat 1)) ++ be (u64i en.peer) (Int.toNat 1)) ++ be (u64i en.phase) (Int.toNat 1)) ++ natsW en.nums ((((((false || out_ en.kind 1 7) || out_ en.author 1 64) || out_ en.epoch 0 1048576) || out_ en.mode 0 255) || out_ en.peer 0 255) || out_ en.phase 0 255)) ≤ 500000 from by first | assumption | omega | (simp [be_length] at * <;> omega) | (simp only [List.length_append, be_length, List.length_cons, List.length_nil]; omega))) ?_
  intro lab187 w188 v189 v190 q191 o192 o193 s194 hv195
  obtain ⟨A196, c197, rfl⟩ := App.shape o193
  have m198 : List.length ((((((((([(69 : UInt8)]) ++ be (u64i en.kind) (Int.toNat 1)) ++ be (u64i en.author) (Int.toNat 1)) ++ be (u64i en.epoch) (Int.toNat 4)) ++ be (u64i en.mode) (Int.toNat 1)) ++ be (u64i en.peer) (Int.toNat 1)) ++ be (u64i en.phase) (Int.toNat 1)) ++ natsW en.nums ((((((false || out_ en.kind 1 7) || out_ en.author 1 64) || out_ en.epoch 0 1048576) || out_ en.mode 0 255) || out_ en.peer 0 255) || out_ en.phase 0 255)) ++ textsW en.texts (((((((false || out_ en.kind 1 7) || out_ en.author 1 64) || out_ en.epoch 0 1048576) || out_ en.mode 0 255) || out_ en.peer 0 255) || out_ en.phase 0 255) || out_ (List.length en.nums) 0 64 || long (natsB en.nums) 128)) = List.length ((((((((([(69 : UInt8)]) ++ be (u64i en.kind) (Int.toNat 1)) ++ be (u64i en.author) (Int.toNat 1)) ++ be (u64i en.epoch) (Int.toNat 4)) ++ be (u64i en.mode) (Int.toNat 1)) ++ be (u64i en.peer) (Int.toNat 1)) ++ be (u64i en.phase) (Int.toNat 1)) ++ natsW en.nums ((((((false || out_ en.kind 1 7) || out_ en.author 1 64) || out_ en.epoch 0 1048576) || out_ en.mode 0 255) || out_ en.peer 0 255) || out_ en.phase 0 255)) ++ textsW en.texts (((((((false || out_ en.kind 1 7) || out_ en.author 1 64) || out_ en.epoch 0 1048576) || out_ en.mode 0 255) || out_ en.peer 0 255) || out_ en.phase 0 255) || out_ (List.length en.nums) 0 64 || long (natsB en.nums) 128)) := App.lenMap o193
  have z199 := (App.row o193).2
  have z200 := textsW_le en.texts (((((((false || out_ en.kind 1 7) || out_ en.author 1 64) || out_ en.epoch 0 1048576) || out_ en.mode 0 255) || out_ en.peer 0 255) || out_ en.phase 0 255) || out_ (List.length en.nums) 0 64 || long (natsB en.nums) 128)
  have q191 := Is.out q191; subst q191
  refine Seq.go (fun _ _ h => h) ?_
  refine Run.seq ?_
  refine Run.region ?_
  refine Seq.val (Does.move rfl) (by decide) ?_
  refine Seq.val (Does.fieldAddr' 8 Try.underlying40 rfl ty22 rfl rfl) (by decide) ?_
  have o201 := o179.lift s194 (by decide)
  refine Seq.val (Does.load_own1 o201 ty22 rfl rfl) (by decide) ?_
  have c203 := c181.trans s194
  have q202 := (BytesV.pers _).step c203 q9
  refine Seq.callW (V := Is (.tuple #[])) (bs := ((((((((([(69 : UInt8)]) ++ be (u64i en.kind) (Int.toNat 1)) ++ be (u64i en.author) (Int.toNat 1)) ++ be (u64i en.epoch) (Int.toNat 4)) ++ be (u64i en.mode) (Int.toNat 1)) ++ be (u64i en.peer) (Int.toNat 1)) ++ be (u64i en.phase) (Int.toNat 1)) ++ natsW en.nums ((((((false || out_ en.kind 1 7) || out_ en.author 1 64) || out_ en.epoch 0 1048576) || out_ en.mode 0 255) || out_ en.peer 0 255) || out_ en.phase 0 255)) ++ textsW en.texts (((((((false || out_ en.kind 1 7) || out_ en.author 1 64) || out_ en.epoch 0 1048576) || out_ en.mode 0 255) || out_ en.peer 0 255) || out_ en.phase 0 255) || out_ (List.length en.nums) 0 64 || long (natsB en.nums) 128)) ++ textOr en.proof 1024) (bad := ((((((((false || out_ en.kind 1 7) || out_ en.author 1 64) || out_ en.epoch 0 1048576) || out_ en.mode 0 255) || out_ en.peer 0 255) || out_ en.phase 0 255) || out_ (List.length en.nums) 0 64 || long (natsB en.nums) 128) || out_ (List.length en.texts) 0 64 || long en.texts 1024) || decide (1024 < (List.length en.proof : Int))) cal88 rfl (by decide) (wire_text hv195 (most := 1024) (wr := (((((((([(69 : UInt8)]) ++ be (u64i en.kind) (Int.toNat 1)) ++ be (u64i en.author) (Int.toNat 1)) ++ be (u64i en.epoch) (Int.toNat 4)) ++ be (u64i en.mode) (Int.toNat 1)) ++ be (u64i en.peer) (Int.toNat 1)) ++ be (u64i en.phase) (Int.toNat 1)) ++ natsW en.nums ((((((false || out_ en.kind 1 7) || out_ en.author 1 64) || out_ en.epoch 0 1048576) || out_ en.mode 0 255) || out_ en.peer 0 255) || out_ en.phase 0 255)) ++ textsW en.texts (((((((false || out_ en.kind 1 7) || out_ en.author 1 64) || out_ en.epoch 0 1048576) || out_ en.mode 0 255) || out_ en.peer 0 255) || out_ en.phase 0 255) || out_ (List.length en.nums) 0 64 || long (natsB en.nums) 128)) (wrbad := (((((((false || out_ en.kind 1 7) || out_ en.author 1 64) || out_ en.epoch 0 1048576) || out_ en.mode 0 255) || out_ en.peer 0 255) || out_ en.phase 0 255) || out_ (List.length en.nums) 0 64 || long (natsB en.nums) 128) || out_ (List.length en.texts) 0 64 || long en.texts 1024) (wrb := b31) (Wr.mk o192 o193) q202 (show 0 ≤ 1024 ∧ 1024 ≤ 10000 from by first | assumption | omega | (simp [be_length] at * <;> omega) | (simp only [List.length_append, be_length, List.length_cons, List.length_nil]; omega)) (show List.length ((((((((([(69 : UInt8)]) ++ be (u64i en.kind) (Int.toNat 1)) ++ be (u64i en.author) (Int.toNat 1)) ++ be (u64i en.epoch) (Int.toNat 4)) ++ be (u64i en.mode) (Int.toNat 1)) ++ be (u64i en.peer) (Int.toNat 1)) ++ be (u64i en.phase) (Int.toNat 1)) ++ natsW en.nums ((((((false || out_ en.kind 1 7) || out_ en.author 1 64) || out_ en.epoch 0 1048576) || out_ en.mode 0 255) || out_ en.peer 0 255) || out_ en.phase 0 255)) ++ textsW en.texts (((((((false || out_ en.kind 1 7) || out_ en.author 1 64) || out_ en.epoch 0 1048576) || out_ en.mode 0 255) || out_ en.peer 0 255) || out_ en.phase 0 255) || out_ (List.length en.nums) 0 64 || long (natsB en.nums) 128)) ≤ 900000 from by first | assumption | omega | (simp [be_length] at * <;> omega) | (simp only [List.length_append, be_length, List.length_cons, List.length_nil]; omega))) ?_
  intro lab209 w210 v211 v212 q213 o214 o215 s216 hv217
  obtain ⟨A218, c219, rfl⟩ := App.shape o215
  have m220 : List.length (((((((((([(69 : UInt8)]) ++ be (u64i en.kind) (Int.toNat 1)) ++ be (u64i en.author) (Int.toNat 1)) ++ be (u64i en.epoch) (Int.toNat 4)) ++ be (u64i en.mode) (Int.toNat 1)) ++ be (u64i en.peer) (Int.toNat 1)) ++ be (u64i en.phase) (Int.toNat 1)) ++ natsW en.nums ((((((false || out_ en.kind 1 7) || out_ en.author 1 64) || out_ en.epoch 0 1048576) || out_ en.mode 0 255) || out_ en.peer 0 255) || out_ en.phase 0 255)) ++ textsW en.texts (((((((false || out_ en.kind 1 7) || out_ en.author 1 64) || out_ en.epoch 0 1048576) || out_ en.mode 0 255) || out_ en.peer 0 255) || out_ en.phase 0 255) || out_ (List.length en.nums) 0 64 || long (natsB en.nums) 128)) ++ textOr en.proof 1024) = List.length (((((((((([(69 : UInt8)]) ++ be (u64i en.kind) (Int.toNat 1)) ++ be (u64i en.author) (Int.toNat 1)) ++ be (u64i en.epoch) (Int.toNat 4)) ++ be (u64i en.mode) (Int.toNat 1)) ++ be (u64i en.peer) (Int.toNat 1)) ++ be (u64i en.phase) (Int.toNat 1)) ++ natsW en.nums ((((((false || out_ en.kind 1 7) || out_ en.author 1 64) || out_ en.epoch 0 1048576) || out_ en.mode 0 255) || out_ en.peer 0 255) || out_ en.phase 0 255)) ++ textsW en.texts (((((((false || out_ en.kind 1 7) || out_ en.author 1 64) || out_ en.epoch 0 1048576) || out_ en.mode 0 255) || out_ en.peer 0 255) || out_ en.phase 0 255) || out_ (List.length en.nums) 0 64 || long (natsB en.nums) 128)) ++ textOr en.proof 1024) := App.lenMap o215
  have z221 := (App.row o215).2
  have q213 := Is.out q213; subst q213
  refine Seq.go (fun _ _ h => h) ?_
  refine Run.seq ?_
  refine Run.seq ?_
  refine Run.region ?_
  refine Seq.val (Does.move rfl) (by decide) ?_
  refine Seq.val (Does.nilCheck rfl) (by decide) ?_
  refine Seq.val (Does.fieldAddr' 1 Try.underlying144 rfl ty4 rfl rfl) (by decide) ?_
  refine Seq.val (Does.load_own1 o214 ty4 rfl rfl) (by decide) ?_
  refine Seq.val (Does.move rfl) (by decide) ?_
  rcases bdich (((((((((false || out_ en.kind 1 7) || out_ en.author 1 64) || out_ en.epoch 0 1048576) || out_ en.mode 0 255) || out_ en.peer 0 255) || out_ en.phase 0 255) || out_ (List.length en.nums) 0 64 || long (natsB en.nums) 128) || out_ (List.length en.texts) 0 64 || long en.texts 1024) || decide (1024 < (List.length en.proof : Int))) with hc1 | hc1
  · skip
    refine Seq.guard_off' rfl rfl hc1 rfl (by decide) ?_
    refine Seq.guard_off' rfl rfl hc1 rfl (by decide) ?_
    refine Seq.guard_off' rfl rfl hc1 rfl (by decide) ?_
    refine Seq.val (Does.pick_b rfl hc1 rfl) (by decide) ?_
    refine Seq.val (Does.move rfl) (by decide) ?_
    refine Seq.guard_off' rfl rfl rfl rfl (by decide) ?_
    refine Seq.guard_off' rfl rfl rfl rfl (by decide) ?_
    refine Seq.guard_off' rfl rfl rfl rfl (by decide) ?_
    refine Seq.guard_off' rfl rfl rfl rfl (by decide) ?_
    refine Seq.guard_off' rfl rfl rfl rfl (by decide) ?_
    refine Seq.guard_off' rfl rfl rfl rfl (by decide) ?_
    refine Seq.val (Does.pick_t rfl rfl) (by decide) ?_
    refine Seq.go (fun _ _ h => h) ?_
    refine Run.cond_b rfl rfl ?_
    refine Run.seq ?_
    refine Run.region ?_
    refine Seq.val (Does.assign rfl) (by decide) ?_
    refine Seq.val (Does.assign rfl) (by decide) ?_
    refine Seq.go (fun _ _ h => h) ?_
    have c222 := c203.trans s216
    obtain ⟨zU, zo⟩ := c222.out (by decide) hv
    refine Run.ret (ret_then ?_)
    exact post_two Try.results25 rfl rfl ⟨_, rfl, ⟨_, _, rfl, (BytesV.cast (show ([] : List UInt8) = (if en.no then [] else en.all) from by first | rfl | (rw [if_pos (EntryD.no_a hc1)]; done) | (rw [if_pos (EntryD.no_b hc2)]; done) | (rw [if_pos (EntryD.no_c hc3)]; done) | (rw [if_neg (EntryD.no_d hc1 hc2 hc3)]; done) | (rw [if_neg (EntryD.no_d hc1 hc2 hc3)]; rfl; done) | (simp_all; done) | omega) (BytesV.nil _ _)), (isI64 (show (3 : Int) = (if en.no then 3 else 0) from by first | rfl | (rw [if_pos (EntryD.no_a hc1)]; done) | (rw [if_pos (EntryD.no_b hc2)]; done) | (rw [if_pos (EntryD.no_c hc3)]; done) | (rw [if_neg (EntryD.no_d hc1 hc2 hc3)]; done) | (rw [if_neg (EntryD.no_d hc1 hc2 hc3)]; rfl; done) | (simp_all; done) | omega) _ _)⟩, c222.leave (by decide)⟩
  · skip
    refine Seq.guard_on' rfl rfl hc1 ?_
    have o223 := o201.lift s216 (by decide)
    refine Seq.val (Does.load_ownN [i64 en.kind, i64 en.author, i64 en.epoch, i64 en.mode, i64 en.peer, i64 en.phase, .slice A1 (List.length en.nums) c2, .slice A4 (List.length en.texts) c5, .slice A7 (List.length en.proof) c8] o223 ty40 rfl rfl) (by decide) ?_
    refine Seq.guard_on' rfl rfl hc1 ?_
    have c226 := s194.trans s216
    have c227 := s172.trans c226
    have q225 := (NatsV.pers _).step c227 q152
    have q228 := (RowsV.pers _).step c226 q180
    have q229 := (BytesV.pers _).step s216 q202
    have q224 : EntryV en lab209 w210 (.agg #[i64 en.kind, i64 en.author, i64 en.epoch, i64 en.mode, i64 en.peer, i64 en.phase, .slice A1 (List.length en.nums) c2, .slice A4 (List.length en.texts) c5, .slice A7 (List.length en.proof) c8]) := EntryV.mk q225 q228 q229
    refine Seq.callS (V := Is (.bool (usesB en.kind en.mode en.peer en.phase (List.length en.nums) (List.length en.texts) (List.length en.proof)))) cal96 hv217 rfl (by decide) (wire_uses hv217 q224) ?_
    intro v230 w231 q232 s233 hv234
    have q232 := Is.out q232; subst q232
    refine Seq.guard_on' rfl rfl hc1 ?_
    refine Seq.val (Does.not rfl) (by decide) ?_
    refine Seq.val (Does.pick_b rfl hc1 rfl) (by decide) ?_
    refine Seq.val (Does.move rfl) (by decide) ?_
    rcases bdich (!(usesB en.kind en.mode en.peer en.phase (List.length en.nums) (List.length en.texts) (List.length en.proof))) with hc2 | hc2
    · skip
      refine Seq.guard_off' rfl rfl hc2 rfl (by decide) ?_
      refine Seq.guard_off' rfl rfl hc2 rfl (by decide) ?_
      refine Seq.guard_off' rfl rfl hc2 rfl (by decide) ?_
      refine Seq.guard_off' rfl rfl hc2 rfl (by decide) ?_
      refine Seq.guard_off' rfl rfl hc2 rfl (by decide) ?_
      refine Seq.guard_off' rfl rfl hc2 rfl (by decide) ?_
      refine Seq.val (Does.pick_b rfl hc2 rfl) (by decide) ?_
      refine Seq.go (fun _ _ h => h) ?_
      refine Run.cond_b rfl rfl ?_
      refine Run.seq ?_
      refine Run.region ?_
      refine Seq.val (Does.assign rfl) (by decide) ?_
      refine Seq.val (Does.assign rfl) (by decide) ?_
      refine Seq.go (fun _ _ h => h) ?_
      have c235 := s216.trans s233
      have c236 := c203.trans c235
      obtain ⟨zU, zo⟩ := c236.out (by decide) hv
      refine Run.ret (ret_then ?_)
      exact post_two Try.results25 rfl rfl ⟨_, rfl, ⟨_, _, rfl, (BytesV.cast (show ([] : List UInt8) = (if en.no then [] else en.all) from by first | rfl | (rw [if_pos (EntryD.no_a hc1)]; done) | (rw [if_pos (EntryD.no_b hc2)]; done) | (rw [if_pos (EntryD.no_c hc3)]; done) | (rw [if_neg (EntryD.no_d hc1 hc2 hc3)]; done) | (rw [if_neg (EntryD.no_d hc1 hc2 hc3)]; rfl; done) | (simp_all; done) | omega) (BytesV.nil _ _)), (isI64 (show (3 : Int) = (if en.no then 3 else 0) from by first | rfl | (rw [if_pos (EntryD.no_a hc1)]; done) | (rw [if_pos (EntryD.no_b hc2)]; done) | (rw [if_pos (EntryD.no_c hc3)]; done) | (rw [if_neg (EntryD.no_d hc1 hc2 hc3)]; done) | (rw [if_neg (EntryD.no_d hc1 hc2 hc3)]; rfl; done) | (simp_all; done) | omega) _ _)⟩, c236.leave (by decide)⟩
    · skip
      refine Seq.guard_on' rfl rfl hc2 ?_
      refine Seq.val (Does.move rfl) (by decide) ?_
      refine Seq.guard_on' rfl rfl hc2 ?_
      refine Seq.val (Does.nilCheck rfl) (by decide) ?_
      refine Seq.guard_on' rfl rfl hc2 ?_
      refine Seq.val (Does.fieldAddr' 0 Try.underlying144 rfl ty22 rfl rfl) (by decide) ?_
      refine Seq.guard_on' rfl rfl hc2 ?_
      have o237 := o214.lift s233 (by decide)
      refine Seq.val (Does.load_own1 o237 ty22 rfl rfl) (by decide) ?_
      refine Seq.guard_on' rfl rfl hc2 ?_
      refine Seq.val (Does.len Try.underlying22 rfl) (by decide) ?_
      refine Seq.guard_on' rfl rfl hc2 ?_
      refine Seq.val (Does.gtr rfl rfl) (by decide) ?_
      refine Seq.val (Does.pick_b rfl hc2 rfl) (by decide) ?_
      refine Seq.go (fun _ _ h => h) ?_
      rcases bdich (decide ((4096 : Int) < (((List.length (((((((((([(69 : UInt8)]) ++ be (u64i en.kind) (Int.toNat 1)) ++ be (u64i en.author) (Int.toNat 1)) ++ be (u64i en.epoch) (Int.toNat 4)) ++ be (u64i en.mode) (Int.toNat 1)) ++ be (u64i en.peer) (Int.toNat 1)) ++ be (u64i en.phase) (Int.toNat 1)) ++ natsW en.nums ((((((false || out_ en.kind 1 7) || out_ en.author 1 64) || out_ en.epoch 0 1048576) || out_ en.mode 0 255) || out_ en.peer 0 255) || out_ en.phase 0 255)) ++ textsW en.texts (((((((false || out_ en.kind 1 7) || out_ en.author 1 64) || out_ en.epoch 0 1048576) || out_ en.mode 0 255) || out_ en.peer 0 255) || out_ en.phase 0 255) || out_ (List.length en.nums) 0 64 || long (natsB en.nums) 128)) ++ textOr en.proof 1024) : Nat) : Int) : Int))) with hc3 | hc3
      · skip
        have hp3 := of_decide_eq_true hc3
        refine Run.cond_b rfl hc3 ?_
        refine Run.seq ?_
        refine Run.region ?_
        refine Seq.val (Does.assign rfl) (by decide) ?_
        refine Seq.val (Does.assign rfl) (by decide) ?_
        refine Seq.go (fun _ _ h => h) ?_
        have c238 := s216.trans s233
        have c239 := c203.trans c238
        obtain ⟨zU, zo⟩ := c239.out (by decide) hv
        refine Run.ret (ret_then ?_)
        exact post_two Try.results25 rfl rfl ⟨_, rfl, ⟨_, _, rfl, (BytesV.cast (show ([] : List UInt8) = (if en.no then [] else en.all) from by first | rfl | (rw [if_pos (EntryD.no_a hc1)]; done) | (rw [if_pos (EntryD.no_b hc2)]; done) | (rw [if_pos (EntryD.no_c hc3)]; done) | (rw [if_neg (EntryD.no_d hc1 hc2 hc3)]; done) | (rw [if_neg (EntryD.no_d hc1 hc2 hc3)]; rfl; done) | (simp_all; done) | omega) (BytesV.nil _ _)), (isI64 (show (3 : Int) = (if en.no then 3 else 0) from by first | rfl | (rw [if_pos (EntryD.no_a hc1)]; done) | (rw [if_pos (EntryD.no_b hc2)]; done) | (rw [if_pos (EntryD.no_c hc3)]; done) | (rw [if_neg (EntryD.no_d hc1 hc2 hc3)]; done) | (rw [if_neg (EntryD.no_d hc1 hc2 hc3)]; rfl; done) | (simp_all; done) | omega) _ _)⟩, c239.leave (by decide)⟩
      · skip
        have hp3 := of_decide_eq_false hc3
        refine Run.cond_b rfl hc3 ?_
        refine Run.skip_go (fun _ _ h => h) ?_
        refine Run.seq ?_
        refine Run.region ?_
        refine Seq.val (Does.move rfl) (by decide) ?_
        refine Seq.val (Does.nilCheck rfl) (by decide) ?_
        refine Seq.val (Does.fieldAddr' 0 Try.underlying144 rfl ty22 rfl rfl) (by decide) ?_
        refine Seq.val (Does.load_own1 o237 ty22 rfl rfl) (by decide) ?_
        refine Seq.val (Does.assign rfl) (by decide) ?_
        refine Seq.val (Does.assign rfl) (by decide) ?_
        refine Seq.go (fun _ _ h => h) ?_
        have c240 := s216.trans s233
        have c241 := c203.trans c240
        obtain ⟨zU, zo⟩ := c241.out (by decide) hv
        have o242 := o215.lift s233 (by decide)
        have hv243 := Valid.release hv234 902
        have m245 : List.length (((((((((([(69 : UInt8)]) ++ be (u64i en.kind) (Int.toNat 1)) ++ be (u64i en.author) (Int.toNat 1)) ++ be (u64i en.epoch) (Int.toNat 4)) ++ be (u64i en.mode) (Int.toNat 1)) ++ be (u64i en.peer) (Int.toNat 1)) ++ be (u64i en.phase) (Int.toNat 1)) ++ natsW en.nums ((((((false || out_ en.kind 1 7) || out_ en.author 1 64) || out_ en.epoch 0 1048576) || out_ en.mode 0 255) || out_ en.peer 0 255) || out_ en.phase 0 255)) ++ textsW en.texts (((((((false || out_ en.kind 1 7) || out_ en.author 1 64) || out_ en.epoch 0 1048576) || out_ en.mode 0 255) || out_ en.peer 0 255) || out_ en.phase 0 255) || out_ (List.length en.nums) 0 64 || long (natsB en.nums) 128)) ++ textOr en.proof 1024) = List.length (((((((((([(69 : UInt8)]) ++ be (u64i en.kind) (Int.toNat 1)) ++ be (u64i en.author) (Int.toNat 1)) ++ be (u64i en.epoch) (Int.toNat 4)) ++ be (u64i en.mode) (Int.toNat 1)) ++ be (u64i en.peer) (Int.toNat 1)) ++ be (u64i en.phase) (Int.toNat 1)) ++ natsW en.nums ((((((false || out_ en.kind 1 7) || out_ en.author 1 64) || out_ en.epoch 0 1048576) || out_ en.mode 0 255) || out_ en.peer 0 255) || out_ en.phase 0 255)) ++ textsW en.texts (((((((false || out_ en.kind 1 7) || out_ en.author 1 64) || out_ en.epoch 0 1048576) || out_ en.mode 0 255) || out_ en.peer 0 255) || out_ en.phase 0 255) || out_ (List.length en.nums) 0 64 || long (natsB en.nums) 128)) ++ textOr en.proof 1024) := App.lenMap o242
        have q244 : BytesV (((((((((([(69 : UInt8)]) ++ be (u64i en.kind) (Int.toNat 1)) ++ be (u64i en.author) (Int.toNat 1)) ++ be (u64i en.epoch) (Int.toNat 4)) ++ be (u64i en.mode) (Int.toNat 1)) ++ be (u64i en.peer) (Int.toNat 1)) ++ be (u64i en.phase) (Int.toNat 1)) ++ natsW en.nums ((((((false || out_ en.kind 1 7) || out_ en.author 1 64) || out_ en.epoch 0 1048576) || out_ en.mode 0 255) || out_ en.peer 0 255) || out_ en.phase 0 255)) ++ textsW en.texts (((((((false || out_ en.kind 1 7) || out_ en.author 1 64) || out_ en.epoch 0 1048576) || out_ en.mode 0 255) || out_ en.peer 0 255) || out_ en.phase 0 255) || out_ (List.length en.nums) 0 64 || long (natsB en.nums) 128)) ++ textOr en.proof 1024) (labFree lab209 902) w231 (.slice A218 (List.length (((((((((([(69 : UInt8)]) ++ be (u64i en.kind) (Int.toNat 1)) ++ be (u64i en.author) (Int.toNat 1)) ++ be (u64i en.epoch) (Int.toNat 4)) ++ be (u64i en.mode) (Int.toNat 1)) ++ be (u64i en.peer) (Int.toNat 1)) ++ be (u64i en.phase) (Int.toNat 1)) ++ natsW en.nums ((((((false || out_ en.kind 1 7) || out_ en.author 1 64) || out_ en.epoch 0 1048576) || out_ en.mode 0 255) || out_ en.peer 0 255) || out_ en.phase 0 255)) ++ textsW en.texts (((((((false || out_ en.kind 1 7) || out_ en.author 1 64) || out_ en.epoch 0 1048576) || out_ en.mode 0 255) || out_ en.peer 0 255) || out_ en.phase 0 255) || out_ (List.length en.nums) 0 64 || long (natsB en.nums) 128)) ++ textOr en.proof 1024)) c219) := ⟨_, _, (by first | (rw [m245]; done) | rw [← m245]), (by have h9 := (App.row o242).2.1; first | (rw [m245]; exact h9) | (rw [← m245] at h9; exact h9)), (App.row o242).2.2, (App.row o242).1⟩
        have c246 := c241.trans (Stp.release (lab := lab209) (w := w231) 902)
        obtain ⟨zU, zo⟩ := c246.out (by decide) hv
        refine Run.ret ?_
        exact post_two Try.results25 rfl rfl ⟨_, rfl, ⟨_, _, rfl, (BytesV.cast (show (((((((((([(69 : UInt8)]) ++ be (u64i en.kind) (Int.toNat 1)) ++ be (u64i en.author) (Int.toNat 1)) ++ be (u64i en.epoch) (Int.toNat 4)) ++ be (u64i en.mode) (Int.toNat 1)) ++ be (u64i en.peer) (Int.toNat 1)) ++ be (u64i en.phase) (Int.toNat 1)) ++ natsW en.nums ((((((false || out_ en.kind 1 7) || out_ en.author 1 64) || out_ en.epoch 0 1048576) || out_ en.mode 0 255) || out_ en.peer 0 255) || out_ en.phase 0 255)) ++ textsW en.texts (((((((false || out_ en.kind 1 7) || out_ en.author 1 64) || out_ en.epoch 0 1048576) || out_ en.mode 0 255) || out_ en.peer 0 255) || out_ en.phase 0 255) || out_ (List.length en.nums) 0 64 || long (natsB en.nums) 128)) ++ textOr en.proof 1024) = (if en.no then [] else en.all) from by first | rfl | (rw [if_pos (EntryD.no_a hc1)]; done) | (rw [if_pos (EntryD.no_b hc2)]; done) | (rw [if_pos (EntryD.no_c hc3)]; done) | (rw [if_neg (EntryD.no_d hc1 hc2 hc3)]; done) | (rw [if_neg (EntryD.no_d hc1 hc2 hc3)]; rfl; done) | (simp_all; done) | omega) ((BytesV.pers _).step zo q244)), (isI64 (show (0 : Int) = (if en.no then 3 else 0) from by first | rfl | (rw [if_pos (EntryD.no_a hc1)]; done) | (rw [if_pos (EntryD.no_b hc2)]; done) | (rw [if_pos (EntryD.no_c hc3)]; done) | (rw [if_neg (EntryD.no_d hc1 hc2 hc3)]; done) | (rw [if_neg (EntryD.no_d hc1 hc2 hc3)]; rfl; done) | (simp_all; done) | omega) _ _)⟩, c246.leave (by decide)⟩

end Go.Proofs.Ytgfomedobfaidaa
