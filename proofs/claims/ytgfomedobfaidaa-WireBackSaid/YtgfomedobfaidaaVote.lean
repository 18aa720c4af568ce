/-
  The walks of some functions: what each call comes to.
-/
import Derived.Test.YtgfomedobfaidaaWnum
set_option linter.unusedVariables false
set_option linter.unusedSimpArgs false
set_option maxRecDepth 100000
namespace Go.Proofs.Ytgfomedobfaidaa
open Go.RowKit

theorem wire_EncodeVote {lab : Lab} {w : World} (hv : Valid lab w) {vt : VoteD} {v0 : Value} (h0 : VoteV vt lab w v0) (hl : List.length vt.value ≤ 100000) :
    Calls Try.prog 20 #[v0] w (fun e w' => ∃ v, e = .returned v ∧ (And2 (BytesV (if vt.bad then [] else vt.bytes)) (Is (i64 (if vt.bad then 3 else 0)))) lab w' v ∧ Below w.heap.size w w') := by
  have hv0 := hv.ent
  obtain ⟨zU0, z00⟩ := ent_step lab w
  replace h0 := (VoteV.pers _).step z00 h0
  obtain ⟨A1, c2, rfl, q3⟩ := VoteV.open h0
  have z4 := BytesV.cap q3
  refine calls_run Try.func20 rfl Try.ntmps20 (Nat.le_of_ble_eq_true rfl) ?_
  refine Run.seq ?_
  refine Run.region ?_
  refine Seq.box (k := 2) [i64 vt.kind, i64 vt.from_, i64 vt.slot, i64 vt.view, i64 vt.valid, .slice A1 (List.length vt.value) c2] hv0 rfl rfl (by decide) ?_
  intro lab5 w6 b7 o8 s9 hv10
  refine Seq.val (Does.assign rfl) (by decide) ?_
  refine Seq.val (Does.assign rfl) (by decide) ?_
  refine Seq.go (fun _ _ h => h) ?_
  refine Run.seq ?_
  refine Run.region ?_
  refine Seq.build_app (k := 902) [(0, .int .u8 86)] (List.map u8 [(86 : UInt8)]) hv10 Try.underlying22 ty5 (by decide) (by decide) rfl rfl (by kernel_rfl) (by decide) ?_
  intro lab11 w12 v13 o14 s15 hv16
  obtain ⟨A17, c18, rfl⟩ := App.shape o14
  have m19 : List.length ([(86 : UInt8)]) = 1 := App.lenMap o14
  have z20 := (App.row o14).2
  refine Seq.val (Does.build [(0, .slice A17 (1) c18)] [(0, 1), (1, 1)] [.slice A17 (1) c18, .bool false] Try.underlying144 ty144 (by kernel_rfl) rfl (by kernel_rfl)) (by decide) ?_
  refine Seq.box (k := 901) [.slice A17 (1) c18, .bool false] hv16 rfl rfl (by decide) ?_
  intro lab21 w22 b23 o24 s25 hv26
  refine Seq.val (Does.assign rfl) (by decide) ?_
  refine Seq.go (fun _ _ h => h) ?_
  refine Run.seq ?_
  refine Run.region ?_
  refine Seq.val (Does.move rfl) (by decide) ?_
  refine Seq.val (Does.fieldAddr' 0 Try.underlying24 rfl ty3 rfl rfl) (by decide) ?_
  have c28 := s15.trans s25
  have o27 := o8.lift c28 (by decide)
  refine Seq.val (Does.load_own1 o27 ty3 rfl rfl) (by decide) ?_
  have o29 := o14.lift s25 (by decide)
  refine Seq.callW (V := Is (.tuple #[])) (bs := ([(86 : UInt8)]) ++ be (u64i vt.kind) (Int.toNat 1)) (bad := false || out_ vt.kind 1 5) cal87 rfl (by decide) (wire_num hv26 (n := vt.kind) (least := 1) (most := 5) (size := 1) (wr := [(86 : UInt8)]) (wrbad := false) (wrb := b23) (Wr.mk o24 o29) (show 0 ≤ 1 ∧ 1 ≤ 8 from by first | assumption | omega | (simp [be_length, textB, textOr] at * <;> omega) | (simp_all; done)) (show List.length ([(86 : UInt8)]) ≤ 1000000 from by first | assumption | omega | (simp [be_length, textB, textOr] at * <;> omega) | (simp_all; done))) ?_
  intro lab35 w36 v37 v38 q39 o40 o41 s42 hv43
  obtain ⟨A44, c45, rfl⟩ := App.shape o41
  have m46 : List.length (([(86 : UInt8)]) ++ be (u64i vt.kind) (Int.toNat 1)) = List.length (([(86 : UInt8)]) ++ be (u64i vt.kind) (Int.toNat 1)) := App.lenMap o41
  have z47 := (App.row o41).2
  have q39 := Is.out q39; subst q39
  refine Seq.go (fun _ _ h => h) ?_
  refine Run.seq ?_
  refine Run.region ?_
  refine Seq.val (Does.move rfl) (by decide) ?_
  refine Seq.val (Does.fieldAddr' 1 Try.underlying24 rfl ty3 rfl rfl) (by decide) ?_
  have o48 := o27.lift s42 (by decide)
  refine Seq.val (Does.load_own1 o48 ty3 rfl rfl) (by decide) ?_
  refine Seq.callW (V := Is (.tuple #[])) (bs := (([(86 : UInt8)]) ++ be (u64i vt.kind) (Int.toNat 1)) ++ be (u64i vt.from_) (Int.toNat 1)) (bad := (false || out_ vt.kind 1 5) || out_ vt.from_ 1 64) cal87 rfl (by decide) (wire_num hv43 (n := vt.from_) (least := 1) (most := 64) (size := 1) (wr := ([(86 : UInt8)]) ++ be (u64i vt.kind) (Int.toNat 1)) (wrbad := false || out_ vt.kind 1 5) (wrb := b23) (Wr.mk o40 o41) (show 0 ≤ 1 ∧ 1 ≤ 8 from by first | assumption | omega | (simp [be_length, textB, textOr] at * <;> omega) | (simp_all; done)) (show List.length (([(86 : UInt8)]) ++ be (u64i vt.kind) (Int.toNat 1)) ≤ 1000000 from by first | assumption | omega | (simp [be_length, textB, textOr] at * <;> omega) | (simp_all; done))) ?_
  intro lab54 w55 v56 v57 q58 o59 o60 s61 hv62
  obtain ⟨A63, c64, rfl⟩ := App.shape o60
  have m65 : List.length ((([(86 : UInt8)]) ++ be (u64i vt.kind) (Int.toNat 1)) ++ be (u64i vt.from_) (Int.toNat 1)) = List.length ((([(86 : UInt8)]) ++ be (u64i vt.kind) (Int.toNat 1)) ++ be (u64i vt.from_) (Int.toNat 1)) := App.lenMap o60
  have z66 := (App.row o60).2
  have q58 := Is.out q58; subst q58
  refine Seq.go (fun _ _ h => h) ?_
  refine Run.seq ?_
  refine Run.region ?_
  refine Seq.val (Does.move rfl) (by decide) ?_
  refine Seq.val (Does.fieldAddr' 2 Try.underlying24 rfl ty3 rfl rfl) (by decide) ?_
  have o67 := o48.lift s61 (by decide)
  refine Seq.val (Does.load_own1 o67 ty3 rfl rfl) (by decide) ?_
  refine Seq.callW (V := Is (.tuple #[])) (bs := ((([(86 : UInt8)]) ++ be (u64i vt.kind) (Int.toNat 1)) ++ be (u64i vt.from_) (Int.toNat 1)) ++ be (u64i vt.slot) (Int.toNat 4)) (bad := ((false || out_ vt.kind 1 5) || out_ vt.from_ 1 64) || out_ vt.slot 0 256) cal87 rfl (by decide) (wire_num hv62 (n := vt.slot) (least := 0) (most := 256) (size := 4) (wr := (([(86 : UInt8)]) ++ be (u64i vt.kind) (Int.toNat 1)) ++ be (u64i vt.from_) (Int.toNat 1)) (wrbad := (false || out_ vt.kind 1 5) || out_ vt.from_ 1 64) (wrb := b23) (Wr.mk o59 o60) (show 0 ≤ 4 ∧ 4 ≤ 8 from by first | assumption | omega | (simp [be_length, textB, textOr] at * <;> omega) | (simp_all; done)) (show List.length ((([(86 : UInt8)]) ++ be (u64i vt.kind) (Int.toNat 1)) ++ be (u64i vt.from_) (Int.toNat 1)) ≤ 1000000 from by first | assumption | omega | (simp [be_length, textB, textOr] at * <;> omega) | (simp_all; done))) ?_
  intro lab73 w74 v75 v76 q77 o78 o79 s80 hv81
  obtain ⟨A82, c83, rfl⟩ := App.shape o79
  have m84 : List.length (((([(86 : UInt8)]) ++ be (u64i vt.kind) (Int.toNat 1)) ++ be (u64i vt.from_) (Int.toNat 1)) ++ be (u64i vt.slot) (Int.toNat 4)) = List.length (((([(86 : UInt8)]) ++ be (u64i vt.kind) (Int.toNat 1)) ++ be (u64i vt.from_) (Int.toNat 1)) ++ be (u64i vt.slot) (Int.toNat 4)) := App.lenMap o79
  have z85 := (App.row o79).2
  have q77 := Is.out q77; subst q77
  refine Seq.go (fun _ _ h => h) ?_
  refine Run.seq ?_
  refine Run.region ?_
  refine Seq.val (Does.move rfl) (by decide) ?_
  refine Seq.val (Does.fieldAddr' 3 Try.underlying24 rfl ty3 rfl rfl) (by decide) ?_
  have o86 := o67.lift s80 (by decide)
  refine Seq.val (Does.load_own1 o86 ty3 rfl rfl) (by decide) ?_
  refine Seq.callW (V := Is (.tuple #[])) (bs := (((([(86 : UInt8)]) ++ be (u64i vt.kind) (Int.toNat 1)) ++ be (u64i vt.from_) (Int.toNat 1)) ++ be (u64i vt.slot) (Int.toNat 4)) ++ be (u64i vt.view) (Int.toNat 4)) (bad := (((false || out_ vt.kind 1 5) || out_ vt.from_ 1 64) || out_ vt.slot 0 256) || out_ vt.view 0 1048576) cal87 rfl (by decide) (wire_num hv81 (n := vt.view) (least := 0) (most := 1048576) (size := 4) (wr := ((([(86 : UInt8)]) ++ be (u64i vt.kind) (Int.toNat 1)) ++ be (u64i vt.from_) (Int.toNat 1)) ++ be (u64i vt.slot) (Int.toNat 4)) (wrbad := ((false || out_ vt.kind 1 5) || out_ vt.from_ 1 64) || out_ vt.slot 0 256) (wrb := b23) (Wr.mk o78 o79) (show 0 ≤ 4 ∧ 4 ≤ 8 from by first | assumption | omega | (simp [be_length, textB, textOr] at * <;> omega) | (simp_all; done)) (show List.length (((([(86 : UInt8)]) ++ be (u64i vt.kind) (Int.toNat 1)) ++ be (u64i vt.from_) (Int.toNat 1)) ++ be (u64i vt.slot) (Int.toNat 4)) ≤ 1000000 from by first | assumption | omega | (simp [be_length, textB, textOr] at * <;> omega) | (simp_all; done))) ?_
  intro lab92 w93 v94 v95 q96 o97 o98 s99 hv100
  obtain ⟨A101, c102, rfl⟩ := App.shape o98
  have m103 : List.length ((((([(86 : UInt8)]) ++ be (u64i vt.kind) (Int.toNat 1)) ++ be (u64i vt.from_) (Int.toNat 1)) ++ be (u64i vt.slot) (Int.toNat 4)) ++ be (u64i vt.view) (Int.toNat 4)) = List.length ((((([(86 : UInt8)]) ++ be (u64i vt.kind) (Int.toNat 1)) ++ be (u64i vt.from_) (Int.toNat 1)) ++ be (u64i vt.slot) (Int.toNat 4)) ++ be (u64i vt.view) (Int.toNat 4)) := App.lenMap o98
  have z104 := (App.row o98).2
  have q96 := Is.out q96; subst q96
  refine Seq.go (fun _ _ h => h) ?_
  refine Run.seq ?_
  refine Run.seq ?_
  refine Run.region ?_
  refine Seq.val (Does.fieldAddr' 4 Try.underlying24 rfl ty3 rfl rfl) (by decide) ?_
  have o105 := o86.lift s99 (by decide)
  refine Seq.val (Does.load_own1 o105 ty3 rfl rfl) (by decide) ?_
  refine Seq.val (Does.lss rfl rfl) (by decide) ?_
  refine Seq.val (Does.move rfl) (by decide) ?_
  rcases bdich (decide ((vt.valid : Int) < (-1 : Int))) with hc1 | hc1
  · skip
    have hp1 := of_decide_eq_true hc1
    refine Seq.guard_off' rfl rfl hc1 rfl (by decide) ?_
    refine Seq.guard_off' rfl rfl hc1 rfl (by decide) ?_
    refine Seq.guard_off' rfl rfl hc1 rfl (by decide) ?_
    refine Seq.val (Does.pick_b rfl hc1 rfl) (by decide) ?_
    refine Seq.go (fun _ _ h => h) ?_
    refine Run.cond_b rfl rfl ?_
    refine Run.seq ?_
    refine Run.region ?_
    refine Seq.val (Does.assign rfl) (by decide) ?_
    refine Seq.val (Does.assign rfl) (by decide) ?_
    refine Seq.go (fun _ _ h => h) ?_
    have c106 := s80.trans s99
    have c107 := s61.trans c106
    have c108 := s42.trans c107
    have c109 := c28.trans c108
    have c110 := s9.trans c109
    obtain ⟨zU, zo⟩ := c110.out (by decide) hv
    refine Run.ret (ret_then ?_)
    exact post_two Try.results20 rfl rfl ⟨_, rfl, ⟨_, _, rfl, (BytesV.cast (show ([] : List UInt8) = (if vt.bad then [] else vt.bytes) from by first | rfl | (rw [if_pos (show vt.bad = true from by simp [VoteD.bad, out_]; omega)]; done) | (rw [if_pos (show vt.bad = true from hc3)]; done) | (rw [if_neg (show ¬ vt.bad = true from by rw [show vt.bad = false from hc3]; simp)]; done) | (rw [if_neg (show ¬ vt.bad = true from by rw [show vt.bad = false from hc3]; simp)]; exact VoteD.chain hc3; done) | (simp_all; done) | omega) (BytesV.nil _ _)), (isI64 (show (3 : Int) = (if vt.bad then 3 else 0) from by first | rfl | (rw [if_pos (show vt.bad = true from by simp [VoteD.bad, out_]; omega)]; done) | (rw [if_pos (show vt.bad = true from hc3)]; done) | (rw [if_neg (show ¬ vt.bad = true from by rw [show vt.bad = false from hc3]; simp)]; done) | (rw [if_neg (show ¬ vt.bad = true from by rw [show vt.bad = false from hc3]; simp)]; exact VoteD.chain hc3; done) | (simp_all; done) | omega) _ _)⟩, c110.leave (by decide)⟩
  · skip
    have hp1 := of_decide_eq_false hc1
    refine Seq.guard_on' rfl rfl hc1 ?_
    refine Seq.val (Does.fieldAddr' 4 Try.underlying24 rfl ty3 rfl rfl) (by decide) ?_
    refine Seq.guard_on' rfl rfl hc1 ?_
    refine Seq.val (Does.load_own1 o105 ty3 rfl rfl) (by decide) ?_
    refine Seq.guard_on' rfl rfl hc1 ?_
    refine Seq.val (Does.gtr rfl rfl) (by decide) ?_
    refine Seq.val (Does.pick_b rfl hc1 rfl) (by decide) ?_
    refine Seq.go (fun _ _ h => h) ?_
    rcases bdich (decide ((1048576 : Int) < (vt.valid : Int))) with hc2 | hc2
    · skip
      have hp2 := of_decide_eq_true hc2
      refine Run.cond_b rfl hc2 ?_
      refine Run.seq ?_
      refine Run.region ?_
      refine Seq.val (Does.assign rfl) (by decide) ?_
      refine Seq.val (Does.assign rfl) (by decide) ?_
      refine Seq.go (fun _ _ h => h) ?_
      have c111 := s80.trans s99
      have c112 := s61.trans c111
      have c113 := s42.trans c112
      have c114 := c28.trans c113
      have c115 := s9.trans c114
      obtain ⟨zU, zo⟩ := c115.out (by decide) hv
      refine Run.ret (ret_then ?_)
      exact post_two Try.results20 rfl rfl ⟨_, rfl, ⟨_, _, rfl, (BytesV.cast (show ([] : List UInt8) = (if vt.bad then [] else vt.bytes) from by first | rfl | (rw [if_pos (show vt.bad = true from by simp [VoteD.bad, out_]; omega)]; done) | (rw [if_pos (show vt.bad = true from hc3)]; done) | (rw [if_neg (show ¬ vt.bad = true from by rw [show vt.bad = false from hc3]; simp)]; done) | (rw [if_neg (show ¬ vt.bad = true from by rw [show vt.bad = false from hc3]; simp)]; exact VoteD.chain hc3; done) | (simp_all; done) | omega) (BytesV.nil _ _)), (isI64 (show (3 : Int) = (if vt.bad then 3 else 0) from by first | rfl | (rw [if_pos (show vt.bad = true from by simp [VoteD.bad, out_]; omega)]; done) | (rw [if_pos (show vt.bad = true from hc3)]; done) | (rw [if_neg (show ¬ vt.bad = true from by rw [show vt.bad = false from hc3]; simp)]; done) | (rw [if_neg (show ¬ vt.bad = true from by rw [show vt.bad = false from hc3]; simp)]; exact VoteD.chain hc3; done) | (simp_all; done) | omega) _ _)⟩, c115.leave (by decide)⟩
    · skip
      have hp2 := of_decide_eq_false hc2
      refine Run.cond_b rfl hc2 ?_
      refine Run.skip_go (fun _ _ h => h) ?_
      refine Run.seq ?_
      refine Run.region ?_
      refine Seq.val (Does.move rfl) (by decide) ?_
      refine Seq.val (Does.fieldAddr' 4 Try.underlying24 rfl ty3 rfl rfl) (by decide) ?_
      refine Seq.val (Does.load_own1 o105 ty3 rfl rfl) (by decide) ?_
      refine Seq.val (Does.add rfl rfl (by first | omega | (simp <;> omega) | (simp at * <;> omega) | (simp [be_length] at * <;> omega))) (by decide) ?_
      refine Seq.callW (V := Is (.tuple #[])) (bs := ((((([(86 : UInt8)]) ++ be (u64i vt.kind) (Int.toNat 1)) ++ be (u64i vt.from_) (Int.toNat 1)) ++ be (u64i vt.slot) (Int.toNat 4)) ++ be (u64i vt.view) (Int.toNat 4)) ++ be (u64i (vt.valid + 1)) (Int.toNat 4)) (bad := ((((false || out_ vt.kind 1 5) || out_ vt.from_ 1 64) || out_ vt.slot 0 256) || out_ vt.view 0 1048576) || out_ (vt.valid + 1) 0 1048577) cal87 rfl (by decide) (wire_num hv100 (n := vt.valid + 1) (least := 0) (most := 1048577) (size := 4) (wr := (((([(86 : UInt8)]) ++ be (u64i vt.kind) (Int.toNat 1)) ++ be (u64i vt.from_) (Int.toNat 1)) ++ be (u64i vt.slot) (Int.toNat 4)) ++ be (u64i vt.view) (Int.toNat 4)) (wrbad := (((false || out_ vt.kind 1 5) || out_ vt.from_ 1 64) || out_ vt.slot 0 256) || out_ vt.view 0 1048576) (wrb := b23) (Wr.mk o97 o98) (show 0 ≤ 4 ∧ 4 ≤ 8 from by first | assumption | omega | (simp [be_length, textB, textOr] at * <;> omega) | (simp_all; done)) (show List.length ((((([(86 : UInt8)]) ++ be (u64i vt.kind) (Int.toNat 1)) ++ be (u64i vt.from_) (Int.toNat 1)) ++ be (u64i vt.slot) (Int.toNat 4)) ++ be (u64i vt.view) (Int.toNat 4)) ≤ 1000000 from by first | assumption | omega | (simp [be_length, textB, textOr] at * <;> omega) | (simp_all; done))) ?_
      intro lab121 w122 v123 v124 q125 o126 o127 s128 hv129
      obtain ⟨A130, c131, rfl⟩ := App.shape o127
      have m132 : List.length (((((([(86 : UInt8)]) ++ be (u64i vt.kind) (Int.toNat 1)) ++ be (u64i vt.from_) (Int.toNat 1)) ++ be (u64i vt.slot) (Int.toNat 4)) ++ be (u64i vt.view) (Int.toNat 4)) ++ be (u64i (vt.valid + 1)) (Int.toNat 4)) = List.length (((((([(86 : UInt8)]) ++ be (u64i vt.kind) (Int.toNat 1)) ++ be (u64i vt.from_) (Int.toNat 1)) ++ be (u64i vt.slot) (Int.toNat 4)) ++ be (u64i vt.view) (Int.toNat 4)) ++ be (u64i (vt.valid + 1)) (Int.toNat 4)) := App.lenMap o127
      have z133 := (App.row o127).2
      have q125 := Is.out q125; subst q125
      refine Seq.go (fun _ _ h => h) ?_
      refine Run.seq ?_
      refine Run.region ?_
      refine Seq.val (Does.move rfl) (by decide) ?_
      refine Seq.val (Does.fieldAddr' 5 Try.underlying24 rfl ty22 rfl rfl) (by decide) ?_
      have o134 := o105.lift s128 (by decide)
      refine Seq.val (Does.load_own1 o134 ty22 rfl rfl) (by decide) ?_
      have c136 := s99.trans s128
      have c137 := s80.trans c136
      have c138 := s61.trans c137
      have c139 := s42.trans c138
      have c140 := c28.trans c139
      have c141 := s9.trans c140
      have q135 := (BytesV.pers _).step c141 q3
      refine Seq.callW (V := Is (.tuple #[])) (bs := (((((([(86 : UInt8)]) ++ be (u64i vt.kind) (Int.toNat 1)) ++ be (u64i vt.from_) (Int.toNat 1)) ++ be (u64i vt.slot) (Int.toNat 4)) ++ be (u64i vt.view) (Int.toNat 4)) ++ be (u64i (vt.valid + 1)) (Int.toNat 4)) ++ textOr vt.value 4096) (bad := (((((false || out_ vt.kind 1 5) || out_ vt.from_ 1 64) || out_ vt.slot 0 256) || out_ vt.view 0 1048576) || out_ (vt.valid + 1) 0 1048577) || decide (4096 < (List.length vt.value : Int))) cal88 rfl (by decide) (wire_text hv129 (most := 4096) (wr := ((((([(86 : UInt8)]) ++ be (u64i vt.kind) (Int.toNat 1)) ++ be (u64i vt.from_) (Int.toNat 1)) ++ be (u64i vt.slot) (Int.toNat 4)) ++ be (u64i vt.view) (Int.toNat 4)) ++ be (u64i (vt.valid + 1)) (Int.toNat 4)) (wrbad := ((((false || out_ vt.kind 1 5) || out_ vt.from_ 1 64) || out_ vt.slot 0 256) || out_ vt.view 0 1048576) || out_ (vt.valid + 1) 0 1048577) (wrb := b23) (Wr.mk o126 o127) q135 (show 0 ≤ 4096 ∧ 4096 ≤ 10000 from by first | assumption | omega | (simp [be_length, textB, textOr] at * <;> omega) | (simp_all; done)) (show List.length (((((([(86 : UInt8)]) ++ be (u64i vt.kind) (Int.toNat 1)) ++ be (u64i vt.from_) (Int.toNat 1)) ++ be (u64i vt.slot) (Int.toNat 4)) ++ be (u64i vt.view) (Int.toNat 4)) ++ be (u64i (vt.valid + 1)) (Int.toNat 4)) ≤ 900000 from by first | assumption | omega | (simp [be_length, textB, textOr] at * <;> omega) | (simp_all; done))) ?_
      intro lab147 w148 v149 v150 q151 o152 o153 s154 hv155
      obtain ⟨A156, c157, rfl⟩ := App.shape o153
      have m158 : List.length ((((((([(86 : UInt8)]) ++ be (u64i vt.kind) (Int.toNat 1)) ++ be (u64i vt.from_) (Int.toNat 1)) ++ be (u64i vt.slot) (Int.toNat 4)) ++ be (u64i vt.view) (Int.toNat 4)) ++ be (u64i (vt.valid + 1)) (Int.toNat 4)) ++ textOr vt.value 4096) = List.length ((((((([(86 : UInt8)]) ++ be (u64i vt.kind) (Int.toNat 1)) ++ be (u64i vt.from_) (Int.toNat 1)) ++ be (u64i vt.slot) (Int.toNat 4)) ++ be (u64i vt.view) (Int.toNat 4)) ++ be (u64i (vt.valid + 1)) (Int.toNat 4)) ++ textOr vt.value 4096) := App.lenMap o153
      have z159 := (App.row o153).2
      have q151 := Is.out q151; subst q151
      refine Seq.go (fun _ _ h => h) ?_
      refine Run.seq ?_
      refine Run.seq ?_
      refine Run.region ?_
      refine Seq.val (Does.move rfl) (by decide) ?_
      refine Seq.val (Does.nilCheck rfl) (by decide) ?_
      refine Seq.val (Does.fieldAddr' 1 Try.underlying144 rfl ty4 rfl rfl) (by decide) ?_
      refine Seq.val (Does.load_own1 o152 ty4 rfl rfl) (by decide) ?_
      refine Seq.go (fun _ _ h => h) ?_
      rcases bdich ((((((false || out_ vt.kind 1 5) || out_ vt.from_ 1 64) || out_ vt.slot 0 256) || out_ vt.view 0 1048576) || out_ (vt.valid + 1) 0 1048577) || decide (4096 < (List.length vt.value : Int))) with hc3 | hc3
      · skip
        refine Run.cond_b rfl hc3 ?_
        refine Run.seq ?_
        refine Run.region ?_
        refine Seq.val (Does.assign rfl) (by decide) ?_
        refine Seq.val (Does.assign rfl) (by decide) ?_
        refine Seq.go (fun _ _ h => h) ?_
        have c160 := c141.trans s154
        obtain ⟨zU, zo⟩ := c160.out (by decide) hv
        refine Run.ret (ret_then ?_)
        exact post_two Try.results20 rfl rfl ⟨_, rfl, ⟨_, _, rfl, (BytesV.cast (show ([] : List UInt8) = (if vt.bad then [] else vt.bytes) from by first | rfl | (rw [if_pos (show vt.bad = true from by simp [VoteD.bad, out_]; omega)]; done) | (rw [if_pos (show vt.bad = true from hc3)]; done) | (rw [if_neg (show ¬ vt.bad = true from by rw [show vt.bad = false from hc3]; simp)]; done) | (rw [if_neg (show ¬ vt.bad = true from by rw [show vt.bad = false from hc3]; simp)]; exact VoteD.chain hc3; done) | (simp_all; done) | omega) (BytesV.nil _ _)), (isI64 (show (3 : Int) = (if vt.bad then 3 else 0) from by first | rfl | (rw [if_pos (show vt.bad = true from by simp [VoteD.bad, out_]; omega)]; done) | (rw [if_pos (show vt.bad = true from hc3)]; done) | (rw [if_neg (show ¬ vt.bad = true from by rw [show vt.bad = false from hc3]; simp)]; done) | (rw [if_neg (show ¬ vt.bad = true from by rw [show vt.bad = false from hc3]; simp)]; exact VoteD.chain hc3; done) | (simp_all; done) | omega) _ _)⟩, c160.leave (by decide)⟩
      · skip
        refine Run.cond_b rfl hc3 ?_
        refine Run.skip_go (fun _ _ h => h) ?_
        refine Run.seq ?_
        refine Run.region ?_
        refine Seq.val (Does.move rfl) (by decide) ?_
        refine Seq.val (Does.nilCheck rfl) (by decide) ?_
        refine Seq.val (Does.fieldAddr' 0 Try.underlying144 rfl ty22 rfl rfl) (by decide) ?_
        refine Seq.val (Does.load_own1 o152 ty22 rfl rfl) (by decide) ?_
        refine Seq.val (Does.assign rfl) (by decide) ?_
        refine Seq.val (Does.assign rfl) (by decide) ?_
        refine Seq.go (fun _ _ h => h) ?_
        have c161 := c141.trans s154
        obtain ⟨zU, zo⟩ := c161.out (by decide) hv
        have hv162 := Valid.release hv155 902
        have m164 : List.length ((((((([(86 : UInt8)]) ++ be (u64i vt.kind) (Int.toNat 1)) ++ be (u64i vt.from_) (Int.toNat 1)) ++ be (u64i vt.slot) (Int.toNat 4)) ++ be (u64i vt.view) (Int.toNat 4)) ++ be (u64i (vt.valid + 1)) (Int.toNat 4)) ++ textOr vt.value 4096) = List.length ((((((([(86 : UInt8)]) ++ be (u64i vt.kind) (Int.toNat 1)) ++ be (u64i vt.from_) (Int.toNat 1)) ++ be (u64i vt.slot) (Int.toNat 4)) ++ be (u64i vt.view) (Int.toNat 4)) ++ be (u64i (vt.valid + 1)) (Int.toNat 4)) ++ textOr vt.value 4096) := App.lenMap o153
        have q163 : BytesV ((((((([(86 : UInt8)]) ++ be (u64i vt.kind) (Int.toNat 1)) ++ be (u64i vt.from_) (Int.toNat 1)) ++ be (u64i vt.slot) (Int.toNat 4)) ++ be (u64i vt.view) (Int.toNat 4)) ++ be (u64i (vt.valid + 1)) (Int.toNat 4)) ++ textOr vt.value 4096) (labFree lab147 902) w148 (.slice A156 (List.length ((((((([(86 : UInt8)]) ++ be (u64i vt.kind) (Int.toNat 1)) ++ be (u64i vt.from_) (Int.toNat 1)) ++ be (u64i vt.slot) (Int.toNat 4)) ++ be (u64i vt.view) (Int.toNat 4)) ++ be (u64i (vt.valid + 1)) (Int.toNat 4)) ++ textOr vt.value 4096)) c157) := ⟨_, _, (by first | (rw [m164]; done) | rw [← m164]), (by have h9 := (App.row o153).2.1; first | (rw [m164]; exact h9) | (rw [← m164] at h9; exact h9)), (App.row o153).2.2, (App.row o153).1⟩
        have c165 := c161.trans (Stp.release (lab := lab147) (w := w148) 902)
        obtain ⟨zU, zo⟩ := c165.out (by decide) hv
        refine Run.ret ?_
        exact post_two Try.results20 rfl rfl ⟨_, rfl, ⟨_, _, rfl, (BytesV.cast (show ((((((([(86 : UInt8)]) ++ be (u64i vt.kind) (Int.toNat 1)) ++ be (u64i vt.from_) (Int.toNat 1)) ++ be (u64i vt.slot) (Int.toNat 4)) ++ be (u64i vt.view) (Int.toNat 4)) ++ be (u64i (vt.valid + 1)) (Int.toNat 4)) ++ textOr vt.value 4096) = (if vt.bad then [] else vt.bytes) from by first | rfl | (rw [if_pos (show vt.bad = true from by simp [VoteD.bad, out_]; omega)]; done) | (rw [if_pos (show vt.bad = true from hc3)]; done) | (rw [if_neg (show ¬ vt.bad = true from by rw [show vt.bad = false from hc3]; simp)]; done) | (rw [if_neg (show ¬ vt.bad = true from by rw [show vt.bad = false from hc3]; simp)]; exact VoteD.chain hc3; done) | (simp_all; done) | omega) ((BytesV.pers _).step zo q163)), (isI64 (show (0 : Int) = (if vt.bad then 3 else 0) from by first | rfl | (rw [if_pos (show vt.bad = true from by simp [VoteD.bad, out_]; omega)]; done) | (rw [if_pos (show vt.bad = true from hc3)]; done) | (rw [if_neg (show ¬ vt.bad = true from by rw [show vt.bad = false from hc3]; simp)]; done) | (rw [if_neg (show ¬ vt.bad = true from by rw [show vt.bad = false from hc3]; simp)]; exact VoteD.chain hc3; done) | (simp_all; done) | omega) _ _)⟩, c165.leave (by decide)⟩

theorem ref17_EncodeVote {lab : Lab} {w : World} (hv : Valid lab w) {vt : VoteD} {v0 : Value} (h0 : VoteV vt lab w v0) (hl : List.length vt.value ≤ 5000) :
    Calls Try.prog 21 #[v0] w (fun e w' => ∃ v, e = .returned v ∧ (And2 (BytesV (if vt.bad then [] else vt.bytes)) (Is (.bool (!vt.bad)))) lab w' v ∧ Below w.heap.size w w') := by
  have hv0 := hv.ent
  obtain ⟨zU0, z00⟩ := ent_step lab w
  replace h0 := (VoteV.pers _).step z00 h0
  obtain ⟨A1, c2, rfl, q3⟩ := VoteV.open h0
  have z4 := BytesV.cap q3
  refine calls_run Try.func21 rfl Try.ntmps21 (Nat.le_of_ble_eq_true rfl) ?_
  refine Run.seq ?_
  refine Run.region ?_
  refine Seq.box (k := 2) [i64 vt.kind, i64 vt.from_, i64 vt.slot, i64 vt.view, i64 vt.valid, .slice A1 (List.length vt.value) c2] hv0 rfl rfl (by decide) ?_
  intro lab5 w6 b7 o8 s9 hv10
  refine Seq.val (Does.assign rfl) (by decide) ?_
  refine Seq.val (Does.assign rfl) (by decide) ?_
  refine Seq.go (fun _ _ h => h) ?_
  refine Run.seq ?_
  refine Run.seq ?_
  refine Run.region ?_
  refine Seq.val (Does.fieldAddr' 0 Try.underlying31 rfl ty3 rfl rfl) (by decide) ?_
  refine Seq.val (Does.load_own1 o8 ty3 rfl rfl) (by decide) ?_
  refine Seq.callS (V := Is (.bool (!(out_ vt.kind 1 5)))) cal89 hv10 rfl (by decide) (ref17_in hv10 (n := vt.kind) (least := 1) (most := 5)) ?_
  intro v11 w12 q13 s14 hv15
  have q13 := Is.out q13; subst q13
  refine Seq.val (Does.not rfl) (by decide) ?_
  refine Seq.val (Does.move rfl) (by decide) ?_
  rcases bdich (!(!(out_ vt.kind 1 5))) with hc1 | hc1
  · skip
    refine Seq.guard_off' rfl rfl hc1 rfl (by decide) ?_
    refine Seq.guard_off' rfl rfl hc1 rfl (by decide) ?_
    refine Seq.guard_off' rfl rfl hc1 rfl (by decide) ?_
    refine Seq.guard_off' rfl rfl hc1 rfl (by decide) ?_
    refine Seq.val (Does.pick_b rfl hc1 rfl) (by decide) ?_
    refine Seq.val (Does.move rfl) (by decide) ?_
    refine Seq.guard_off' rfl rfl rfl rfl (by decide) ?_
    refine Seq.guard_off' rfl rfl rfl rfl (by decide) ?_
    refine Seq.guard_off' rfl rfl rfl rfl (by decide) ?_
    refine Seq.guard_off' rfl rfl rfl rfl (by decide) ?_
    refine Seq.val (Does.pick_t rfl rfl) (by decide) ?_
    refine Seq.val (Does.move rfl) (by decide) ?_
    refine Seq.guard_off' rfl rfl rfl rfl (by decide) ?_
    refine Seq.guard_off' rfl rfl rfl rfl (by decide) ?_
    refine Seq.guard_off' rfl rfl rfl rfl (by decide) ?_
    refine Seq.guard_off' rfl rfl rfl rfl (by decide) ?_
    refine Seq.val (Does.pick_t rfl rfl) (by decide) ?_
    refine Seq.val (Does.move rfl) (by decide) ?_
    refine Seq.guard_off' rfl rfl rfl rfl (by decide) ?_
    refine Seq.guard_off' rfl rfl rfl rfl (by decide) ?_
    refine Seq.guard_off' rfl rfl rfl rfl (by decide) ?_
    refine Seq.guard_off' rfl rfl rfl rfl (by decide) ?_
    refine Seq.val (Does.pick_t rfl rfl) (by decide) ?_
    refine Seq.val (Does.move rfl) (by decide) ?_
    refine Seq.guard_off' rfl rfl rfl rfl (by decide) ?_
    refine Seq.guard_off' rfl rfl rfl rfl (by decide) ?_
    refine Seq.guard_off' rfl rfl rfl rfl (by decide) ?_
    refine Seq.guard_off' rfl rfl rfl rfl (by decide) ?_
    refine Seq.val (Does.pick_t rfl rfl) (by decide) ?_
    refine Seq.go (fun _ _ h => h) ?_
    refine Run.cond_b rfl rfl ?_
    refine Run.seq ?_
    refine Run.region ?_
    refine Seq.val (Does.assign rfl) (by decide) ?_
    refine Seq.val (Does.assign rfl) (by decide) ?_
    refine Seq.go (fun _ _ h => h) ?_
    have c16 := s9.trans s14
    obtain ⟨zU, zo⟩ := c16.out (by decide) hv
    refine Run.ret (ret_then ?_)
    exact post_two Try.results21 rfl rfl ⟨_, rfl, ⟨_, _, rfl, (BytesV.cast (show ([] : List UInt8) = (if vt.bad then [] else vt.bytes) from by first | rfl | (rw [if_pos (show vt.bad = true from by simp [VoteD.bad, out_] at * <;> omega)]; done) | (rw [show vt.bad = true from by simp [VoteD.bad, out_] at * <;> omega]; rfl; done) | (rw [show vt.bad = false from by simp [VoteD.bad, out_] at * <;> omega]; rfl; done) | (rw [if_neg (show ¬ vt.bad = true from by simp [VoteD.bad, out_] at * <;> omega)]; exact VoteD.ref (by simp [VoteD.bad, out_] at * <;> omega); done) | (simp_all; done) | omega) (BytesV.nil _ _)), (isBool (show (false : Bool) = (!vt.bad) from by first | rfl | (rw [if_pos (show vt.bad = true from by simp [VoteD.bad, out_] at * <;> omega)]; done) | (rw [show vt.bad = true from by simp [VoteD.bad, out_] at * <;> omega]; rfl; done) | (rw [show vt.bad = false from by simp [VoteD.bad, out_] at * <;> omega]; rfl; done) | (rw [if_neg (show ¬ vt.bad = true from by simp [VoteD.bad, out_] at * <;> omega)]; exact VoteD.ref (by simp [VoteD.bad, out_] at * <;> omega); done) | (simp_all; done) | omega) _ _)⟩, c16.leave (by decide)⟩
  · skip
    refine Seq.guard_on' rfl rfl hc1 ?_
    refine Seq.val (Does.fieldAddr' 1 Try.underlying31 rfl ty3 rfl rfl) (by decide) ?_
    refine Seq.guard_on' rfl rfl hc1 ?_
    have o17 := o8.lift s14 (by decide)
    refine Seq.val (Does.load_own1 o17 ty3 rfl rfl) (by decide) ?_
    refine Seq.guard_on' rfl rfl hc1 ?_
    refine Seq.callS (V := Is (.bool (!(out_ vt.from_ 1 64)))) cal89 hv15 rfl (by decide) (ref17_in hv15 (n := vt.from_) (least := 1) (most := 64)) ?_
    intro v18 w19 q20 s21 hv22
    have q20 := Is.out q20; subst q20
    refine Seq.guard_on' rfl rfl hc1 ?_
    refine Seq.val (Does.not rfl) (by decide) ?_
    refine Seq.val (Does.pick_b rfl hc1 rfl) (by decide) ?_
    refine Seq.val (Does.move rfl) (by decide) ?_
    rcases bdich (!(!(out_ vt.from_ 1 64))) with hc2 | hc2
    · skip
      refine Seq.guard_off' rfl rfl hc2 rfl (by decide) ?_
      refine Seq.guard_off' rfl rfl hc2 rfl (by decide) ?_
      refine Seq.guard_off' rfl rfl hc2 rfl (by decide) ?_
      refine Seq.guard_off' rfl rfl hc2 rfl (by decide) ?_
      refine Seq.val (Does.pick_b rfl hc2 rfl) (by decide) ?_
      refine Seq.val (Does.move rfl) (by decide) ?_
      refine Seq.guard_off' rfl rfl rfl rfl (by decide) ?_
      refine Seq.guard_off' rfl rfl rfl rfl (by decide) ?_
      refine Seq.guard_off' rfl rfl rfl rfl (by decide) ?_
      refine Seq.guard_off' rfl rfl rfl rfl (by decide) ?_
      refine Seq.val (Does.pick_t rfl rfl) (by decide) ?_
      refine Seq.val (Does.move rfl) (by decide) ?_
      refine Seq.guard_off' rfl rfl rfl rfl (by decide) ?_
      refine Seq.guard_off' rfl rfl rfl rfl (by decide) ?_
      refine Seq.guard_off' rfl rfl rfl rfl (by decide) ?_
      refine Seq.guard_off' rfl rfl rfl rfl (by decide) ?_
      refine Seq.val (Does.pick_t rfl rfl) (by decide) ?_
      refine Seq.val (Does.move rfl) (by decide) ?_
      refine Seq.guard_off' rfl rfl rfl rfl (by decide) ?_
      refine Seq.guard_off' rfl rfl rfl rfl (by decide) ?_
      refine Seq.guard_off' rfl rfl rfl rfl (by decide) ?_
      refine Seq.guard_off' rfl rfl rfl rfl (by decide) ?_
      refine Seq.val (Does.pick_t rfl rfl) (by decide) ?_
      refine Seq.go (fun _ _ h => h) ?_
      refine Run.cond_b rfl rfl ?_
      refine Run.seq ?_
      refine Run.region ?_
      refine Seq.val (Does.assign rfl) (by decide) ?_
      refine Seq.val (Does.assign rfl) (by decide) ?_
      refine Seq.go (fun _ _ h => h) ?_
      have c23 := s14.trans s21
      have c24 := s9.trans c23
      obtain ⟨zU, zo⟩ := c24.out (by decide) hv
      refine Run.ret (ret_then ?_)
      exact post_two Try.results21 rfl rfl ⟨_, rfl, ⟨_, _, rfl, (BytesV.cast (show ([] : List UInt8) = (if vt.bad then [] else vt.bytes) from by first | rfl | (rw [if_pos (show vt.bad = true from by simp [VoteD.bad, out_] at * <;> omega)]; done) | (rw [show vt.bad = true from by simp [VoteD.bad, out_] at * <;> omega]; rfl; done) | (rw [show vt.bad = false from by simp [VoteD.bad, out_] at * <;> omega]; rfl; done) | (rw [if_neg (show ¬ vt.bad = true from by simp [VoteD.bad, out_] at * <;> omega)]; exact VoteD.ref (by simp [VoteD.bad, out_] at * <;> omega); done) | (simp_all; done) | omega) (BytesV.nil _ _)), (isBool (show (false : Bool) = (!vt.bad) from by first | rfl | (rw [if_pos (show vt.bad = true from by simp [VoteD.bad, out_] at * <;> omega)]; done) | (rw [show vt.bad = true from by simp [VoteD.bad, out_] at * <;> omega]; rfl; done) | (rw [show vt.bad = false from by simp [VoteD.bad, out_] at * <;> omega]; rfl; done) | (rw [if_neg (show ¬ vt.bad = true from by simp [VoteD.bad, out_] at * <;> omega)]; exact VoteD.ref (by simp [VoteD.bad, out_] at * <;> omega); done) | (simp_all; done) | omega) _ _)⟩, c24.leave (by decide)⟩
    · skip
      refine Seq.guard_on' rfl rfl hc2 ?_
      refine Seq.val (Does.fieldAddr' 2 Try.underlying31 rfl ty3 rfl rfl) (by decide) ?_
      refine Seq.guard_on' rfl rfl hc2 ?_
      have o25 := o17.lift s21 (by decide)
      refine Seq.val (Does.load_own1 o25 ty3 rfl rfl) (by decide) ?_
      refine Seq.guard_on' rfl rfl hc2 ?_
      refine Seq.callS (V := Is (.bool (!(out_ vt.slot 0 256)))) cal89 hv22 rfl (by decide) (ref17_in hv22 (n := vt.slot) (least := 0) (most := 256)) ?_
      intro v26 w27 q28 s29 hv30
      have q28 := Is.out q28; subst q28
      refine Seq.guard_on' rfl rfl hc2 ?_
      refine Seq.val (Does.not rfl) (by decide) ?_
      refine Seq.val (Does.pick_b rfl hc2 rfl) (by decide) ?_
      refine Seq.val (Does.move rfl) (by decide) ?_
      rcases bdich (!(!(out_ vt.slot 0 256))) with hc3 | hc3
      · skip
        refine Seq.guard_off' rfl rfl hc3 rfl (by decide) ?_
        refine Seq.guard_off' rfl rfl hc3 rfl (by decide) ?_
        refine Seq.guard_off' rfl rfl hc3 rfl (by decide) ?_
        refine Seq.guard_off' rfl rfl hc3 rfl (by decide) ?_
        refine Seq.val (Does.pick_b rfl hc3 rfl) (by decide) ?_
        refine Seq.val (Does.move rfl) (by decide) ?_
        refine Seq.guard_off' rfl rfl rfl rfl (by decide) ?_
        refine Seq.guard_off' rfl rfl rfl rfl (by decide) ?_
        refine Seq.guard_off' rfl rfl rfl rfl (by decide) ?_
        refine Seq.guard_off' rfl rfl rfl rfl (by decide) ?_
        refine Seq.val (Does.pick_t rfl rfl) (by decide) ?_
        refine Seq.val (Does.move rfl) (by decide) ?_
        refine Seq.guard_off' rfl rfl rfl rfl (by decide) ?_
        refine Seq.guard_off' rfl rfl rfl rfl (by decide) ?_
        refine Seq.guard_off' rfl rfl rfl rfl (by decide) ?_
        refine Seq.guard_off' rfl rfl rfl rfl (by decide) ?_
        refine Seq.val (Does.pick_t rfl rfl) (by decide) ?_
        refine Seq.go (fun _ _ h => h) ?_
        refine Run.cond_b rfl rfl ?_
        refine Run.seq ?_
        refine Run.region ?_
        refine Seq.val (Does.assign rfl) (by decide) ?_
        refine Seq.val (Does.assign rfl) (by decide) ?_
        refine Seq.go (fun _ _ h => h) ?_
        have c31 := s21.trans s29
        have c32 := s14.trans c31
        have c33 := s9.trans c32
        obtain ⟨zU, zo⟩ := c33.out (by decide) hv
        refine Run.ret (ret_then ?_)
        exact post_two Try.results21 rfl rfl ⟨_, rfl, ⟨_, _, rfl, (BytesV.cast (show ([] : List UInt8) = (if vt.bad then [] else vt.bytes) from by first | rfl | (rw [if_pos (show vt.bad = true from by simp [VoteD.bad, out_] at * <;> omega)]; done) | (rw [show vt.bad = true from by simp [VoteD.bad, out_] at * <;> omega]; rfl; done) | (rw [show vt.bad = false from by simp [VoteD.bad, out_] at * <;> omega]; rfl; done) | (rw [if_neg (show ¬ vt.bad = true from by simp [VoteD.bad, out_] at * <;> omega)]; exact VoteD.ref (by simp [VoteD.bad, out_] at * <;> omega); done) | (simp_all; done) | omega) (BytesV.nil _ _)), (isBool (show (false : Bool) = (!vt.bad) from by first | rfl | (rw [if_pos (show vt.bad = true from by simp [VoteD.bad, out_] at * <;> omega)]; done) | (rw [show vt.bad = true from by simp [VoteD.bad, out_] at * <;> omega]; rfl; done) | (rw [show vt.bad = false from by simp [VoteD.bad, out_] at * <;> omega]; rfl; done) | (rw [if_neg (show ¬ vt.bad = true from by simp [VoteD.bad, out_] at * <;> omega)]; exact VoteD.ref (by simp [VoteD.bad, out_] at * <;> omega); done) | (simp_all; done) | omega) _ _)⟩, c33.leave (by decide)⟩
      · skip
        refine Seq.guard_on' rfl rfl hc3 ?_
        refine Seq.val (Does.fieldAddr' 3 Try.underlying31 rfl ty3 rfl rfl) (by decide) ?_
        refine Seq.guard_on' rfl rfl hc3 ?_
        have o34 := o25.lift s29 (by decide)
        refine Seq.val (Does.load_own1 o34 ty3 rfl rfl) (by decide) ?_
        refine Seq.guard_on' rfl rfl hc3 ?_
        refine Seq.callS (V := Is (.bool (!(out_ vt.view 0 1048576)))) cal89 hv30 rfl (by decide) (ref17_in hv30 (n := vt.view) (least := 0) (most := 1048576)) ?_
        intro v35 w36 q37 s38 hv39
        have q37 := Is.out q37; subst q37
        refine Seq.guard_on' rfl rfl hc3 ?_
        refine Seq.val (Does.not rfl) (by decide) ?_
        refine Seq.val (Does.pick_b rfl hc3 rfl) (by decide) ?_
        refine Seq.val (Does.move rfl) (by decide) ?_
        rcases bdich (!(!(out_ vt.view 0 1048576))) with hc4 | hc4
        · skip
          refine Seq.guard_off' rfl rfl hc4 rfl (by decide) ?_
          refine Seq.guard_off' rfl rfl hc4 rfl (by decide) ?_
          refine Seq.guard_off' rfl rfl hc4 rfl (by decide) ?_
          refine Seq.guard_off' rfl rfl hc4 rfl (by decide) ?_
          refine Seq.val (Does.pick_b rfl hc4 rfl) (by decide) ?_
          refine Seq.val (Does.move rfl) (by decide) ?_
          refine Seq.guard_off' rfl rfl rfl rfl (by decide) ?_
          refine Seq.guard_off' rfl rfl rfl rfl (by decide) ?_
          refine Seq.guard_off' rfl rfl rfl rfl (by decide) ?_
          refine Seq.guard_off' rfl rfl rfl rfl (by decide) ?_
          refine Seq.val (Does.pick_t rfl rfl) (by decide) ?_
          refine Seq.go (fun _ _ h => h) ?_
          refine Run.cond_b rfl rfl ?_
          refine Run.seq ?_
          refine Run.region ?_
          refine Seq.val (Does.assign rfl) (by decide) ?_
          refine Seq.val (Does.assign rfl) (by decide) ?_
          refine Seq.go (fun _ _ h => h) ?_
          have c40 := s29.trans s38
          have c41 := s21.trans c40
          have c42 := s14.trans c41
          have c43 := s9.trans c42
          obtain ⟨zU, zo⟩ := c43.out (by decide) hv
          refine Run.ret (ret_then ?_)
          exact post_two Try.results21 rfl rfl ⟨_, rfl, ⟨_, _, rfl, (BytesV.cast (show ([] : List UInt8) = (if vt.bad then [] else vt.bytes) from by first | rfl | (rw [if_pos (show vt.bad = true from by simp [VoteD.bad, out_] at * <;> omega)]; done) | (rw [show vt.bad = true from by simp [VoteD.bad, out_] at * <;> omega]; rfl; done) | (rw [show vt.bad = false from by simp [VoteD.bad, out_] at * <;> omega]; rfl; done) | (rw [if_neg (show ¬ vt.bad = true from by simp [VoteD.bad, out_] at * <;> omega)]; exact VoteD.ref (by simp [VoteD.bad, out_] at * <;> omega); done) | (simp_all; done) | omega) (BytesV.nil _ _)), (isBool (show (false : Bool) = (!vt.bad) from by first | rfl | (rw [if_pos (show vt.bad = true from by simp [VoteD.bad, out_] at * <;> omega)]; done) | (rw [show vt.bad = true from by simp [VoteD.bad, out_] at * <;> omega]; rfl; done) | (rw [show vt.bad = false from by simp [VoteD.bad, out_] at * <;> omega]; rfl; done) | (rw [if_neg (show ¬ vt.bad = true from by simp [VoteD.bad, out_] at * <;> omega)]; exact VoteD.ref (by simp [VoteD.bad, out_] at * <;> omega); done) | (simp_all; done) | omega) _ _)⟩, c43.leave (by decide)⟩
        · skip
          refine Seq.guard_on' rfl rfl hc4 ?_
          refine Seq.val (Does.fieldAddr' 4 Try.underlying31 rfl ty3 rfl rfl) (by decide) ?_
          refine Seq.guard_on' rfl rfl hc4 ?_
          have o44 := o34.lift s38 (by decide)
          refine Seq.val (Does.load_own1 o44 ty3 rfl rfl) (by decide) ?_
          refine Seq.guard_on' rfl rfl hc4 ?_
          refine Seq.callS (V := Is (.bool (!(out_ vt.valid (-1) 1048576)))) cal89 hv39 rfl (by decide) (ref17_in hv39 (n := vt.valid) (least := -1) (most := 1048576)) ?_
          intro v45 w46 q47 s48 hv49
          have q47 := Is.out q47; subst q47
          refine Seq.guard_on' rfl rfl hc4 ?_
          refine Seq.val (Does.not rfl) (by decide) ?_
          refine Seq.val (Does.pick_b rfl hc4 rfl) (by decide) ?_
          refine Seq.val (Does.move rfl) (by decide) ?_
          rcases bdich (!(!(out_ vt.valid (-1) 1048576))) with hc5 | hc5
          · skip
            refine Seq.guard_off' rfl rfl hc5 rfl (by decide) ?_
            refine Seq.guard_off' rfl rfl hc5 rfl (by decide) ?_
            refine Seq.guard_off' rfl rfl hc5 rfl (by decide) ?_
            refine Seq.guard_off' rfl rfl hc5 rfl (by decide) ?_
            refine Seq.val (Does.pick_b rfl hc5 rfl) (by decide) ?_
            refine Seq.go (fun _ _ h => h) ?_
            refine Run.cond_b rfl rfl ?_
            refine Run.seq ?_
            refine Run.region ?_
            refine Seq.val (Does.assign rfl) (by decide) ?_
            refine Seq.val (Does.assign rfl) (by decide) ?_
            refine Seq.go (fun _ _ h => h) ?_
            have c50 := s38.trans s48
            have c51 := s29.trans c50
            have c52 := s21.trans c51
            have c53 := s14.trans c52
            have c54 := s9.trans c53
            obtain ⟨zU, zo⟩ := c54.out (by decide) hv
            refine Run.ret (ret_then ?_)
            exact post_two Try.results21 rfl rfl ⟨_, rfl, ⟨_, _, rfl, (BytesV.cast (show ([] : List UInt8) = (if vt.bad then [] else vt.bytes) from by first | rfl | (rw [if_pos (show vt.bad = true from by simp [VoteD.bad, out_] at * <;> omega)]; done) | (rw [show vt.bad = true from by simp [VoteD.bad, out_] at * <;> omega]; rfl; done) | (rw [show vt.bad = false from by simp [VoteD.bad, out_] at * <;> omega]; rfl; done) | (rw [if_neg (show ¬ vt.bad = true from by simp [VoteD.bad, out_] at * <;> omega)]; exact VoteD.ref (by simp [VoteD.bad, out_] at * <;> omega); done) | (simp_all; done) | omega) (BytesV.nil _ _)), (isBool (show (false : Bool) = (!vt.bad) from by first | rfl | (rw [if_pos (show vt.bad = true from by simp [VoteD.bad, out_] at * <;> omega)]; done) | (rw [show vt.bad = true from by simp [VoteD.bad, out_] at * <;> omega]; rfl; done) | (rw [show vt.bad = false from by simp [VoteD.bad, out_] at * <;> omega]; rfl; done) | (rw [if_neg (show ¬ vt.bad = true from by simp [VoteD.bad, out_] at * <;> omega)]; exact VoteD.ref (by simp [VoteD.bad, out_] at * <;> omega); done) | (simp_all; done) | omega) _ _)⟩, c54.leave (by decide)⟩
          · skip
            refine Seq.guard_on' rfl rfl hc5 ?_
            refine Seq.val (Does.fieldAddr' 5 Try.underlying31 rfl ty22 rfl rfl) (by decide) ?_
            refine Seq.guard_on' rfl rfl hc5 ?_
            have o55 := o44.lift s48 (by decide)
            refine Seq.val (Does.load_own1 o55 ty22 rfl rfl) (by decide) ?_
            refine Seq.guard_on' rfl rfl hc5 ?_
            refine Seq.val (Does.len Try.underlying22 rfl) (by decide) ?_
            refine Seq.guard_on' rfl rfl hc5 ?_
            refine Seq.val (Does.gtr rfl rfl) (by decide) ?_
            refine Seq.val (Does.pick_b rfl hc5 rfl) (by decide) ?_
            refine Seq.go (fun _ _ h => h) ?_
            rcases bdich (decide ((4096 : Int) < (((List.length vt.value : Nat) : Int) : Int))) with hc6 | hc6
            · skip
              have hp6 := of_decide_eq_true hc6
              refine Run.cond_b rfl hc6 ?_
              refine Run.seq ?_
              refine Run.region ?_
              refine Seq.val (Does.assign rfl) (by decide) ?_
              refine Seq.val (Does.assign rfl) (by decide) ?_
              refine Seq.go (fun _ _ h => h) ?_
              have c56 := s38.trans s48
              have c57 := s29.trans c56
              have c58 := s21.trans c57
              have c59 := s14.trans c58
              have c60 := s9.trans c59
              obtain ⟨zU, zo⟩ := c60.out (by decide) hv
              refine Run.ret (ret_then ?_)
              exact post_two Try.results21 rfl rfl ⟨_, rfl, ⟨_, _, rfl, (BytesV.cast (show ([] : List UInt8) = (if vt.bad then [] else vt.bytes) from by first | rfl | (rw [if_pos (show vt.bad = true from by simp [VoteD.bad, out_] at * <;> omega)]; done) | (rw [show vt.bad = true from by simp [VoteD.bad, out_] at * <;> omega]; rfl; done) | (rw [show vt.bad = false from by simp [VoteD.bad, out_] at * <;> omega]; rfl; done) | (rw [if_neg (show ¬ vt.bad = true from by simp [VoteD.bad, out_] at * <;> omega)]; exact VoteD.ref (by simp [VoteD.bad, out_] at * <;> omega); done) | (simp_all; done) | omega) (BytesV.nil _ _)), (isBool (show (false : Bool) = (!vt.bad) from by first | rfl | (rw [if_pos (show vt.bad = true from by simp [VoteD.bad, out_] at * <;> omega)]; done) | (rw [show vt.bad = true from by simp [VoteD.bad, out_] at * <;> omega]; rfl; done) | (rw [show vt.bad = false from by simp [VoteD.bad, out_] at * <;> omega]; rfl; done) | (rw [if_neg (show ¬ vt.bad = true from by simp [VoteD.bad, out_] at * <;> omega)]; exact VoteD.ref (by simp [VoteD.bad, out_] at * <;> omega); done) | (simp_all; done) | omega) _ _)⟩, c60.leave (by decide)⟩
            · skip
              have hp6 := of_decide_eq_false hc6
              refine Run.cond_b rfl hc6 ?_
              refine Run.skip_go (fun _ _ h => h) ?_
              refine Run.seq ?_
              refine Run.any (m := 22) mixed (by kernel_rfl) hv49 (phi [Is (.pointer (some ⟨b7, 0, none⟩)), Is (i64 vt.kind), Is (u8 (UInt8.ofNat (vt.kind).toNat)), Is (.pointer (some ⟨b7, 1, none⟩)), Is (i64 vt.from_), Is (u8 (UInt8.ofNat (vt.from_).toNat)), BytesV ([(86 : UInt8), UInt8.ofNat (vt.kind).toNat, UInt8.ofNat (vt.from_).toNat]), Is (.pointer (some ⟨b7, 2, none⟩)), Is (i64 vt.slot), BytesV (four vt.slot), Is (.pointer (some ⟨b7, 3, none⟩)), Is (i64 vt.view), BytesV (four vt.view), Is (.pointer (some ⟨b7, 4, none⟩)), Is (i64 vt.valid), Is (i64 (vt.valid + 1)), BytesV (four (vt.valid + 1)), Is (.pointer (some ⟨b7, 5, none⟩)), Is (.slice A1 (List.length vt.value) c2), BytesV (textB vt.value), RowsV ([[(86 : UInt8), UInt8.ofNat (vt.kind).toNat, UInt8.ofNat (vt.from_).toNat], four vt.slot, four vt.view, four (vt.valid + 1), textB vt.value]), BytesV (List.flatten ([[(86 : UInt8), UInt8.ofNat (vt.kind).toNat, UInt8.ofNat (vt.from_).toNat], four vt.slot, four vt.view, four (vt.valid + 1), textB vt.value]))]) (phi_pers (L := [Is (.pointer (some ⟨b7, 0, none⟩)), Is (i64 vt.kind), Is (u8 (UInt8.ofNat (vt.kind).toNat)), Is (.pointer (some ⟨b7, 1, none⟩)), Is (i64 vt.from_), Is (u8 (UInt8.ofNat (vt.from_).toNat)), BytesV ([(86 : UInt8), UInt8.ofNat (vt.kind).toNat, UInt8.ofNat (vt.from_).toNat]), Is (.pointer (some ⟨b7, 2, none⟩)), Is (i64 vt.slot), BytesV (four vt.slot), Is (.pointer (some ⟨b7, 3, none⟩)), Is (i64 vt.view), BytesV (four vt.view), Is (.pointer (some ⟨b7, 4, none⟩)), Is (i64 vt.valid), Is (i64 (vt.valid + 1)), BytesV (four (vt.valid + 1)), Is (.pointer (some ⟨b7, 5, none⟩)), Is (.slice A1 (List.length vt.value) c2), BytesV (textB vt.value), RowsV ([[(86 : UInt8), UInt8.ofNat (vt.kind).toNat, UInt8.ofNat (vt.from_).toNat], four vt.slot, four vt.view, four (vt.valid + 1), textB vt.value]), BytesV (List.flatten ([[(86 : UInt8), UInt8.ofNat (vt.kind).toNat, UInt8.ofNat (vt.from_).toNat], four vt.slot, four vt.view, four (vt.valid + 1), textB vt.value]))]) ⟨Pers.z (Is.pers _), Pers.z (Is.pers _), Pers.z (Is.pers _), Pers.z (Is.pers _), Pers.z (Is.pers _), Pers.z (Is.pers _), Pers.z (BytesV.pers _), Pers.z (Is.pers _), Pers.z (Is.pers _), Pers.z (BytesV.pers _), Pers.z (Is.pers _), Pers.z (Is.pers _), Pers.z (BytesV.pers _), Pers.z (Is.pers _), Pers.z (Is.pers _), Pers.z (Is.pers _), Pers.z (BytesV.pers _), Pers.z (Is.pers _), Pers.z (Is.pers _), Pers.z (BytesV.pers _), Pers.z (RowsV.pers _), Pers.z (BytesV.pers _), trivial⟩) ?_ ?_
              · intro wz z0
                refine laws (n := 22) ⟨?_, ?_, ?_, ?_, ?_, ?_, ?_, ?_, ?_, ?_, ?_, ?_, ?_, ?_, ?_, ?_, ?_, ?_, ?_, ?_, ?_, ?_, trivial⟩
                · refine law_val rfl (by decide) fun lab61 w62 a63 hv64 s65 f66 d67 => ?_
                  exact ⟨_, _, _, _, f66, Does.fieldAddr' 0 Try.underlying31 rfl ty3 rfl rfl, hv64, Stp.refl _ _, rfl⟩
                · refine law_val rfl (by decide) fun lab68 w69 a70 hv71 s72 f73 d74 => ?_
                  obtain ⟨v75, e76, q77⟩ := d74 0 rfl 38 rfl
                  replace q77 : (Is (.pointer (some ⟨b7, 0, none⟩))) lab68 w69 v75 := q77
                  replace q77 := Is.out q77; subst q77
                  have f78 := f73.ext e76
                  have o79 := o55.lift (z0.trans s72) (by decide)
                  exact ⟨_, _, _, _, f78, Does.load_own1 o79 ty3 rfl rfl, hv71, Stp.refl _ _, rfl⟩
                · refine law_val rfl (by decide) fun lab80 w81 a82 hv83 s84 f85 d86 => ?_
                  obtain ⟨v87, e88, q89⟩ := d86 1 rfl 39 rfl
                  replace q89 : (Is (i64 vt.kind)) lab80 w81 v87 := q89
                  replace q89 := Is.out q89; subst q89
                  have f90 := f85.ext e88
                  exact ⟨_, _, _, _, f90, Does.conv_int Try.underlying3 Try.underlying5 rfl ((wrap_i64_u8 _ (by first | omega | (simp [out_] at * <;> omega)))), hv83, Stp.refl _ _, rfl⟩
                · refine law_val rfl (by decide) fun lab91 w92 a93 hv94 s95 f96 d97 => ?_
                  exact ⟨_, _, _, _, f96, Does.fieldAddr' 1 Try.underlying31 rfl ty3 rfl rfl, hv94, Stp.refl _ _, rfl⟩
                · refine law_val rfl (by decide) fun lab98 w99 a100 hv101 s102 f103 d104 => ?_
                  obtain ⟨v105, e106, q107⟩ := d104 3 rfl 41 rfl
                  replace q107 : (Is (.pointer (some ⟨b7, 1, none⟩))) lab98 w99 v105 := q107
                  replace q107 := Is.out q107; subst q107
                  have f108 := f103.ext e106
                  have o109 := o55.lift (z0.trans s102) (by decide)
                  exact ⟨_, _, _, _, f108, Does.load_own1 o109 ty3 rfl rfl, hv101, Stp.refl _ _, rfl⟩
                · refine law_val rfl (by decide) fun lab110 w111 a112 hv113 s114 f115 d116 => ?_
                  obtain ⟨v117, e118, q119⟩ := d116 4 rfl 42 rfl
                  replace q119 : (Is (i64 vt.from_)) lab110 w111 v117 := q119
                  replace q119 := Is.out q119; subst q119
                  have f120 := f115.ext e118
                  exact ⟨_, _, _, _, f120, Does.conv_int Try.underlying3 Try.underlying5 rfl ((wrap_i64_u8 _ (by first | omega | (simp [out_] at * <;> omega)))), hv113, Stp.refl _ _, rfl⟩
                · refine law_val rfl (by decide) fun lab121 w122 a123 hv124 s125 f126 d127 => ?_
                  obtain ⟨v128, e129, q130⟩ := d127 2 rfl 40 rfl
                  replace q130 : (Is (u8 (UInt8.ofNat (vt.kind).toNat))) lab121 w122 v128 := q130
                  replace q130 := Is.out q130; subst q130
                  have f131 := f126.ext e129
                  obtain ⟨v132, e133, q134⟩ := d127 5 rfl 43 rfl
                  replace q134 : (Is (u8 (UInt8.ofNat (vt.from_).toNat))) lab121 w122 v132 := q134
                  replace q134 := Is.out q134; subst q134
                  have f135 := f131.ext e133
                  refine build_law [(0, .int .u8 86), (1, u8 (UInt8.ofNat (vt.kind).toNat)), (2, u8 (UInt8.ofNat (vt.from_).toNat))] (List.map u8 [(86 : UInt8), UInt8.ofNat (vt.kind).toNat, UInt8.ofNat (vt.from_).toNat]) hv124 Try.underlying22 ty5 (by decide) (by decide) rfl (by kernel_rfl) f135 ?_
                  intro b136 w137 r139 s140
                  exact ⟨_, _, rfl, Nat.le_refl _, Nat.le_of_ble_eq_true rfl, r139⟩
                · refine law_val rfl (by decide) fun lab142 w143 a144 hv145 s146 f147 d148 => ?_
                  exact ⟨_, _, _, _, f147, Does.fieldAddr' 2 Try.underlying31 rfl ty3 rfl rfl, hv145, Stp.refl _ _, rfl⟩
                · refine law_val rfl (by decide) fun lab149 w150 a151 hv152 s153 f154 d155 => ?_
                  obtain ⟨v156, e157, q158⟩ := d155 7 rfl 45 rfl
                  replace q158 : (Is (.pointer (some ⟨b7, 2, none⟩))) lab149 w150 v156 := q158
                  replace q158 := Is.out q158; subst q158
                  have f159 := f154.ext e157
                  have o160 := o55.lift (z0.trans s153) (by decide)
                  exact ⟨_, _, _, _, f159, Does.load_own1 o160 ty3 rfl rfl, hv152, Stp.refl _ _, rfl⟩
                · refine law_call rfl (by decide) cal91 fun lab161 w162 a163 hv164 s165 f166 d167 => ?_
                  obtain ⟨v168, e169, q170⟩ := d167 8 rfl 46 rfl
                  replace q170 : (Is (i64 vt.slot)) lab161 w162 v168 := q170
                  replace q170 := Is.out q170; subst q170
                  have f171 := f166.ext e169
                  exact ⟨_, _, f171, rfl, (ref17_four hv164 (n := vt.slot) (show 0 ≤ vt.slot ∧ vt.slot < 4294967296 from by first | omega | (simp [out_] at *; omega) | (simp [out_, four, textB, be_length] at * <;> omega)))⟩
                · refine law_val rfl (by decide) fun lab172 w173 a174 hv175 s176 f177 d178 => ?_
                  exact ⟨_, _, _, _, f177, Does.fieldAddr' 3 Try.underlying31 rfl ty3 rfl rfl, hv175, Stp.refl _ _, rfl⟩
                · refine law_val rfl (by decide) fun lab179 w180 a181 hv182 s183 f184 d185 => ?_
                  obtain ⟨v186, e187, q188⟩ := d185 10 rfl 48 rfl
                  replace q188 : (Is (.pointer (some ⟨b7, 3, none⟩))) lab179 w180 v186 := q188
                  replace q188 := Is.out q188; subst q188
                  have f189 := f184.ext e187
                  have o190 := o55.lift (z0.trans s183) (by decide)
                  exact ⟨_, _, _, _, f189, Does.load_own1 o190 ty3 rfl rfl, hv182, Stp.refl _ _, rfl⟩
                · refine law_call rfl (by decide) cal91 fun lab191 w192 a193 hv194 s195 f196 d197 => ?_
                  obtain ⟨v198, e199, q200⟩ := d197 11 rfl 49 rfl
                  replace q200 : (Is (i64 vt.view)) lab191 w192 v198 := q200
                  replace q200 := Is.out q200; subst q200
                  have f201 := f196.ext e199
                  exact ⟨_, _, f201, rfl, (ref17_four hv194 (n := vt.view) (show 0 ≤ vt.view ∧ vt.view < 4294967296 from by first | omega | (simp [out_] at *; omega) | (simp [out_, four, textB, be_length] at * <;> omega)))⟩
                · refine law_val rfl (by decide) fun lab202 w203 a204 hv205 s206 f207 d208 => ?_
                  exact ⟨_, _, _, _, f207, Does.fieldAddr' 4 Try.underlying31 rfl ty3 rfl rfl, hv205, Stp.refl _ _, rfl⟩
                · refine law_val rfl (by decide) fun lab209 w210 a211 hv212 s213 f214 d215 => ?_
                  obtain ⟨v216, e217, q218⟩ := d215 13 rfl 51 rfl
                  replace q218 : (Is (.pointer (some ⟨b7, 4, none⟩))) lab209 w210 v216 := q218
                  replace q218 := Is.out q218; subst q218
                  have f219 := f214.ext e217
                  have o220 := o55.lift (z0.trans s213) (by decide)
                  exact ⟨_, _, _, _, f219, Does.load_own1 o220 ty3 rfl rfl, hv212, Stp.refl _ _, rfl⟩
                · refine law_val rfl (by decide) fun lab221 w222 a223 hv224 s225 f226 d227 => ?_
                  obtain ⟨v228, e229, q230⟩ := d227 14 rfl 52 rfl
                  replace q230 : (Is (i64 vt.valid)) lab221 w222 v228 := q230
                  replace q230 := Is.out q230; subst q230
                  have f231 := f226.ext e229
                  exact ⟨_, _, _, _, f231, Does.add rfl rfl (by first | omega | (simp [out_] at * <;> omega)), hv224, Stp.refl _ _, rfl⟩
                · refine law_call rfl (by decide) cal91 fun lab232 w233 a234 hv235 s236 f237 d238 => ?_
                  obtain ⟨v239, e240, q241⟩ := d238 15 rfl 53 rfl
                  replace q241 : (Is (i64 (vt.valid + 1))) lab232 w233 v239 := q241
                  replace q241 := Is.out q241; subst q241
                  have f242 := f237.ext e240
                  exact ⟨_, _, f242, rfl, (ref17_four hv235 (n := vt.valid + 1) (show 0 ≤ (vt.valid + 1) ∧ (vt.valid + 1) < 4294967296 from by first | omega | (simp [out_] at *; omega) | (simp [out_, four, textB, be_length] at * <;> omega)))⟩
                · refine law_val rfl (by decide) fun lab243 w244 a245 hv246 s247 f248 d249 => ?_
                  exact ⟨_, _, _, _, f248, Does.fieldAddr' 5 Try.underlying31 rfl ty22 rfl rfl, hv246, Stp.refl _ _, rfl⟩
                · refine law_val rfl (by decide) fun lab250 w251 a252 hv253 s254 f255 d256 => ?_
                  obtain ⟨v257, e258, q259⟩ := d256 17 rfl 55 rfl
                  replace q259 : (Is (.pointer (some ⟨b7, 5, none⟩))) lab250 w251 v257 := q259
                  replace q259 := Is.out q259; subst q259
                  have f260 := f255.ext e258
                  have o261 := o55.lift (z0.trans s254) (by decide)
                  exact ⟨_, _, _, _, f260, Does.load_own1 o261 ty22 rfl rfl, hv253, Stp.refl _ _, rfl⟩
                · refine law_call rfl (by decide) cal92 fun lab262 w263 a264 hv265 s266 f267 d268 => ?_
                  obtain ⟨v269, e270, q271⟩ := d268 18 rfl 56 rfl
                  replace q271 : (Is (.slice A1 (List.length vt.value) c2)) lab262 w263 v269 := q271
                  replace q271 := Is.out q271; subst q271
                  have f272 := f267.ext e270
                  have c274 := s48.trans (z0.trans s266)
                  have c275 := s38.trans c274
                  have c276 := s29.trans c275
                  have c277 := s21.trans c276
                  have c278 := s14.trans c277
                  have c279 := s9.trans c278
                  have q273 := (BytesV.pers _).step c279 q3
                  exact ⟨_, _, f272, rfl, (ref17_text hv265 q273 (show List.length vt.value ≤ 60000 from by first | omega | (simp [out_] at *; omega) | (simp [out_, four, textB, be_length] at * <;> omega)))⟩
                · refine law_val rfl (by decide) fun lab280 w281 a282 hv283 s284 f285 d286 => ?_
                  obtain ⟨v287, e288, q289⟩ := d286 6 rfl 44 rfl
                  replace q289 : (BytesV ([(86 : UInt8), UInt8.ofNat (vt.kind).toNat, UInt8.ofNat (vt.from_).toNat])) lab280 w281 v287 := q289
                  obtain ⟨A290, c291, rfl⟩ := BytesV.shape q289
                  have z292 := BytesV.cap q289
                  have f293 := f285.ext e288
                  obtain ⟨v294, e295, q296⟩ := d286 9 rfl 47 rfl
                  replace q296 : (BytesV (four vt.slot)) lab280 w281 v294 := q296
                  obtain ⟨A297, c298, rfl⟩ := BytesV.shape q296
                  have z299 := BytesV.cap q296
                  have f300 := f293.ext e295
                  obtain ⟨v301, e302, q303⟩ := d286 12 rfl 50 rfl
                  replace q303 : (BytesV (four vt.view)) lab280 w281 v301 := q303
                  obtain ⟨A304, c305, rfl⟩ := BytesV.shape q303
                  have z306 := BytesV.cap q303
                  have f307 := f300.ext e302
                  obtain ⟨v308, e309, q310⟩ := d286 16 rfl 54 rfl
                  replace q310 : (BytesV (four (vt.valid + 1))) lab280 w281 v308 := q310
                  obtain ⟨A311, c312, rfl⟩ := BytesV.shape q310
                  have z313 := BytesV.cap q310
                  have f314 := f307.ext e309
                  obtain ⟨v315, e316, q317⟩ := d286 19 rfl 57 rfl
                  replace q317 : (BytesV (textB vt.value)) lab280 w281 v315 := q317
                  obtain ⟨A318, c319, rfl⟩ := BytesV.shape q317
                  have z320 := BytesV.cap q317
                  have f321 := f314.ext e316
                  refine build_law [(0, .slice A290 (List.length ([(86 : UInt8), UInt8.ofNat (vt.kind).toNat, UInt8.ofNat (vt.from_).toNat])) c291), (1, .slice A297 (List.length (four vt.slot)) c298), (2, .slice A304 (List.length (four vt.view)) c305), (3, .slice A311 (List.length (four (vt.valid + 1))) c312), (4, .slice A318 (List.length (textB vt.value)) c319)] [.slice A290 (List.length ([(86 : UInt8), UInt8.ofNat (vt.kind).toNat, UInt8.ofNat (vt.from_).toNat])) c291, .slice A297 (List.length (four vt.slot)) c298, .slice A304 (List.length (four vt.view)) c305, .slice A311 (List.length (four (vt.valid + 1))) c312, .slice A318 (List.length (textB vt.value)) c319] hv283 Try.underlying34 ty22 (by decide) (by decide) rfl (by kernel_rfl) f321 ?_
                  intro b322 w323 r325 s326
                  have q328 := (BytesV.pers _).step s326 q289
                  have q329 := (BytesV.pers _).step s326 q296
                  have q330 := (BytesV.pers _).step s326 q303
                  have q331 := (BytesV.pers _).step s326 q310
                  have q332 := (BytesV.pers _).step s326 q317
                  exact RowsV.mk 5 rfl (Nat.le_refl _) (by decide) r325 rfl (EachB.get ⟨q328, q329, q330, q331, q332, trivial⟩)
                · refine law_call rfl (by decide) cal90 fun lab333 w334 a335 hv336 s337 f338 d339 => ?_
                  obtain ⟨v340, e341, q342⟩ := d339 20 rfl 58 rfl
                  replace q342 : (RowsV ([[(86 : UInt8), UInt8.ofNat (vt.kind).toNat, UInt8.ofNat (vt.from_).toNat], four vt.slot, four vt.view, four (vt.valid + 1), textB vt.value])) lab333 w334 v340 := q342
                  obtain ⟨A343, c344, rfl⟩ := RowsV.shape q342
                  have z345 := RowsV.cap q342
                  have f346 := f338.ext e341
                  exact ⟨_, _, f346, rfl, (ref04_Join hv336 q342 (show List.length (List.flatten ([[(86 : UInt8), UInt8.ofNat (vt.kind).toNat, UInt8.ofNat (vt.from_).toNat], four vt.slot, four vt.view, four (vt.valid + 1), textB vt.value])) ≤ 1000000 from by first | omega | (simp [out_] at *; omega) | (simp [out_, four, textB, be_length] at * <;> omega)))⟩
              · skip
                intro lab347 w348 a349 hv350 s351 f352 hl353
                obtain ⟨v354, e355, q356⟩ := hl353 21 (by decide) 59 rfl
                replace q356 : (BytesV (List.flatten ([[(86 : UInt8), UInt8.ofNat (vt.kind).toNat, UInt8.ofNat (vt.from_).toNat], four vt.slot, four vt.view, four (vt.valid + 1), textB vt.value]))) lab347 w348 v354 := q356
                obtain ⟨A357, c358, rfl⟩ := BytesV.shape q356
                have z359 := BytesV.cap q356
                have f360 := f352.ext e355
                refine Seq.start (m := 22) f360 ?_
                refine Seq.val (Does.assign rfl) (by decide) ?_
                refine Seq.val (Does.assign rfl) (by decide) ?_
                refine Seq.go (fun _ _ h => h) ?_
                have c361 := s48.trans s351
                have c362 := s38.trans c361
                have c363 := s29.trans c362
                have c364 := s21.trans c363
                have c365 := s14.trans c364
                have c366 := s9.trans c365
                obtain ⟨zU, zo⟩ := c366.out (by decide) hv
                refine Run.ret ?_
                exact post_two Try.results21 rfl rfl ⟨_, rfl, ⟨_, _, rfl, (BytesV.cast (show (List.flatten ([[(86 : UInt8), UInt8.ofNat (vt.kind).toNat, UInt8.ofNat (vt.from_).toNat], four vt.slot, four vt.view, four (vt.valid + 1), textB vt.value])) = (if vt.bad then [] else vt.bytes) from by first | rfl | (rw [if_pos (show vt.bad = true from by simp [VoteD.bad, out_] at * <;> omega)]; done) | (rw [show vt.bad = true from by simp [VoteD.bad, out_] at * <;> omega]; rfl; done) | (rw [show vt.bad = false from by simp [VoteD.bad, out_] at * <;> omega]; rfl; done) | (rw [if_neg (show ¬ vt.bad = true from by simp [VoteD.bad, out_] at * <;> omega)]; exact VoteD.ref (by simp [VoteD.bad, out_] at * <;> omega); done) | (simp_all; done) | omega) ((BytesV.pers _).step zo q356)), (isBool (show (true : Bool) = (!vt.bad) from by first | rfl | (rw [if_pos (show vt.bad = true from by simp [VoteD.bad, out_] at * <;> omega)]; done) | (rw [show vt.bad = true from by simp [VoteD.bad, out_] at * <;> omega]; rfl; done) | (rw [show vt.bad = false from by simp [VoteD.bad, out_] at * <;> omega]; rfl; done) | (rw [if_neg (show ¬ vt.bad = true from by simp [VoteD.bad, out_] at * <;> omega)]; exact VoteD.ref (by simp [VoteD.bad, out_] at * <;> omega); done) | (simp_all; done) | omega) _ _)⟩, c366.leave (by decide)⟩

theorem law17_vote {lab : Lab} {w : World} (hv : Valid lab w) {vt : VoteD} {v0 : Value} (h0 : VoteV vt lab w v0) :
    Calls Try.prog 22 #[v0] w (fun e w' => ∃ v, e = .returned v ∧ (VoteV vt) lab w' v ∧ Below w.heap.size w w') := by
  have hv0 := hv.ent
  obtain ⟨zU0, z00⟩ := ent_step lab w
  replace h0 := (VoteV.pers _).step z00 h0
  obtain ⟨A1, c2, rfl, q3⟩ := VoteV.open h0
  have z4 := BytesV.cap q3
  refine calls_run Try.func22 rfl Try.ntmps22 (Nat.le_of_ble_eq_true rfl) ?_
  refine Run.seq ?_
  refine Run.region ?_
  refine Seq.box (k := 2) [i64 vt.kind, i64 vt.from_, i64 vt.slot, i64 vt.view, i64 vt.valid, .slice A1 (List.length vt.value) c2] hv0 rfl rfl (by decide) ?_
  intro lab5 w6 b7 o8 s9 hv10
  refine Seq.alloc (k := 3) [.int .i64 0, .int .i64 0, .int .i64 0, .int .i64 0, .int .i64 0, .slice none 0 0] hv10 ty31 rfl (by decide) ?_
  intro lab11 w12 b13 o14 s15 hv16
  refine Seq.go (fun _ _ h => h) ?_
  refine Run.seq ?_
  refine Run.region ?_
  refine Seq.val (Does.fieldAddr' 0 Try.underlying24 rfl ty3 rfl rfl) (by decide) ?_
  have o17 := o8.lift s15 (by decide)
  refine Seq.val (Does.load_own1 o17 ty3 rfl rfl) (by decide) ?_
  refine Seq.val (Does.fieldAddr' 1 Try.underlying24 rfl ty3 rfl rfl) (by decide) ?_
  refine Seq.val (Does.load_own1 o17 ty3 rfl rfl) (by decide) ?_
  refine Seq.val (Does.fieldAddr' 2 Try.underlying24 rfl ty3 rfl rfl) (by decide) ?_
  refine Seq.val (Does.load_own1 o17 ty3 rfl rfl) (by decide) ?_
  refine Seq.val (Does.fieldAddr' 3 Try.underlying24 rfl ty3 rfl rfl) (by decide) ?_
  refine Seq.val (Does.load_own1 o17 ty3 rfl rfl) (by decide) ?_
  refine Seq.val (Does.fieldAddr' 4 Try.underlying24 rfl ty3 rfl rfl) (by decide) ?_
  refine Seq.val (Does.load_own1 o17 ty3 rfl rfl) (by decide) ?_
  refine Seq.val (Does.fieldAddr' 5 Try.underlying24 rfl ty22 rfl rfl) (by decide) ?_
  refine Seq.val (Does.load_own1 o17 ty22 rfl rfl) (by decide) ?_
  refine Seq.val (Does.build [(0, i64 vt.kind), (1, i64 vt.from_), (2, i64 vt.slot), (3, i64 vt.view), (4, i64 vt.valid), (5, .slice A1 (List.length vt.value) c2)] [(0, 1), (1, 1), (2, 1), (3, 1), (4, 1), (5, 1)] [i64 vt.kind, i64 vt.from_, i64 vt.slot, i64 vt.view, i64 vt.valid, .slice A1 (List.length vt.value) c2] Try.underlying31 ty31 (by kernel_rfl) rfl (by kernel_rfl)) (by decide) ?_
  refine Seq.store [i64 vt.kind, i64 vt.from_, i64 vt.slot, i64 vt.view, i64 vt.valid, .slice A1 (List.length vt.value) c2] hv16 o14 ty31 rfl rfl rfl (Nat.le_of_ble_eq_true rfl) rfl rfl ?_
  intro w18 o19 s20 hv21
  refine Seq.go (fun _ _ h => h) ?_
  have c22 := s15.trans s20
  have c23 := s9.trans c22
  obtain ⟨zU, zo⟩ := c23.out (by decide) hv
  have q24 := (BytesV.pers _).step c23 q3
  refine Run.ret ?_
  exact post_one Try.results22 ⟨_, rfl, Own.loadN [i64 vt.kind, i64 vt.from_, i64 vt.slot, i64 vt.view, i64 vt.valid, .slice A1 (List.length vt.value) c2] o19 ty31 rfl⟩ ⟨_, rfl, (VoteV.cast (show (⟨vt.kind, vt.from_, vt.slot, vt.view, vt.valid, vt.value⟩ : VoteD) = vt from by first | rfl | (simp_all; done) | omega | (simp_all; omega)) (VoteV.mk ((BytesV.pers _).step zo q24))), c23.leave (by decide)⟩

end Go.Proofs.Ytgfomedobfaidaa
