import Derived.Test.YtgfomedobfaidaaMSignBack8
import Derived.Deep.Upon
set_option maxHeartbeats 8000000
set_option maxRecDepth 1000000
/-
  The row of SignBack: that the law answers true of every input; part 9 of 10: what the proof needs, in order.
-/
section
set_option linter.unusedVariables false
set_option linter.unusedSimpArgs false
namespace Go.Proofs.Ytgfomedobfaidaa
open Go.RowKit
theorem QbQ {lab : Lab} {w : World} (hv : Ql lab w) {g : GroupD} {v0 : Value} (h0 : Js g lab w v0) {bases : List Nat} {v1 : Value} (h1 : Jd bases lab w v1) {exps : List Nat} {v2 : Value} (h2 : Jd exps lab w v2) (hG : okG g) (hB : ∀ x ∈ bases, nw x ≤ 1000) (hE : ∀ e ∈ exps, nw e ≤ 1000) (hL : List.length exps ≤ 1000000) :
  Calls Try.prog 47 #[v0, v1, v2] w (fun e w' => ∃ v, e = .returned v ∧ (Zo (Qi (if List.length bases = List.length exps then YP bases exps % g.p else 0)) (Is (i64 (if List.length bases = List.length exps then 0 else 1)))) lab w' v ∧ Below w.heap.size w w') := by
 obtain ⟨L0, h0L, ⟨zU0, z00⟩, hX⟩ := QZ hv
 replace h0 := up z00 h0
 obtain ⟨b1, rfl⟩ := YH.shape h0
 replace h1 := up z00 h1
 obtain ⟨A2, c3, rfl⟩ := Jd.shape h1
 have z4 := Jd.cap h1
 replace h2 := up z00 h2
 obtain ⟨A5, c6, rfl⟩ := Jd.shape h2
 have z7 := Jd.cap h2
 have ⟨gp1, gq1, gpn, gqn, ggn, ghn⟩ := hG
 refine Qu Try.func47 rfl Try.ntmps47 (lB9 rfl) ?_
 refine rsr ?_
 refine QM 7 [.slice none 0 0] h0L Qn rfl fun b10 L8 w9 o11 s12 h13 => ?_
 refine sv (Qa.assign rfl) ?_
 refine Seq.next ?_
 refine Run.seq ?_
 refine rsr ?_
 refine sv (Qa.move rfl) ?_
 refine sv (Jf Try.underlying56 rfl rfl) ?_
 refine sv (Qa.move rfl) ?_
 refine Qh rfl rfl rfl ?_
 refine sv (Qa.move rfl) ?_
 refine Qh rfl rfl rfl ?_
 refine sv (Qa.len Try.underlying38 rfl) ?_
 refine Qh rfl rfl rfl ?_
 refine sv (Qa.move rfl) ?_
 refine Qh rfl rfl rfl ?_
 refine sv (Qa.len Try.underlying38 rfl) ?_
 refine Qh rfl rfl rfl ?_
 refine sv (Qa.neq rfl rfl) ?_
 refine sv (Ju rfl rfl) ?_
 refine Seq.next ?_
 rcases Decidable.em ((((List.length bases : Nat) : Int) : Int) ≠ (((List.length exps : Nat) : Int) : Int)) with hp1 | hp1
 ·refine Qc rfl (dT9 hp1) ?_
  refine rsr ?_
  refine sv (Qa.build [] [(0, 1)] [.slice none 0 0] Try.underlying60 Qn (by kernel_rfl) rfl (by kernel_rfl)) ?_
  refine Q2 [.slice none 0 0] h13 o11 Qn rfl rfl rfl (lB9 rfl) rfl rfl fun w14 o15 s16 h17 => ?_
  refine sv (Qa.assign rfl) ?_
  refine Seq.next ?_
  have c18 := s12.trans s16
  obtain ⟨⟨zU, zo⟩, zb⟩ := hX c18 (by decide)
  have q19 := up s16 (Qi.zero L8 w9)
  refine Run.ret (Qr ?_)
  exact QP Try.results47 ⟨_, rfl, Q6 [.slice none 0 0] o15 Qn rfl⟩ rfl ⟨_, rfl, ⟨_, _, rfl, (Q1 (by rw [if_neg (by omega)]) (up zo q19)), (JF (by rw [if_neg (by omega)]) _ _)⟩, zb⟩
 refine Qc rfl (dF9 hp1) ?_
 refine Qg (fun _ _ h => h) ?_
 refine rsr ?_
 refine sv (Qa.assign rfl) ?_
 refine Seq.next ?_
 refine Run.seq ?_
 refine rsr ?_
 refine sv (Qa.move rfl) ?_
 refine sv (Qa.len Try.underlying38 rfl) ?_
 refine sv (Qa.move rfl) ?_
 refine Seq.next ?_
 refine Run.block ?_
 refine Run.loop (fun m' l' w' => ∃ (k : Nat) (lab' : Lab), m' = List.length exps - k ∧ l' = [(27, i64 ((k : Nat) : Int)), (8, i64 ((YY exps k : Nat) : Int)), (0, .pointer (some ⟨b1, 0, none⟩)), (1, .slice A2 (List.length bases) c3), (2, .slice A5 (List.length exps) c6), (6, .pointer (some ⟨b10, 0, none⟩)), (7, .int .i64 0), (25, .slice A5 (List.length exps) c6), (26, i64 ((List.length exps : Nat) : Int))] ∧ Ql lab' w' ∧ Stp [11] L8 w9 lab' w' ∧ (k ≤ List.length exps)) (List.length exps - 0) (l0 := [(27, i64 ((0 : Nat) : Int)), (8, i64 ((YY exps 0 : Nat) : Int)), (0, .pointer (some ⟨b1, 0, none⟩)), (1, .slice A2 (List.length bases) c3), (2, .slice A5 (List.length exps) c6), (6, .pointer (some ⟨b10, 0, none⟩)), (7, .int .i64 0), (25, .slice A5 (List.length exps) c6), (26, i64 ((List.length exps : Nat) : Int))]) ⟨(congrArg (fun z => some (i64 z)) (show (0 : Int) = ((0 : Nat) : Int) from by rfl)), (congrArg (fun z => some (i64 z)) (show (0 : Int) = ((YY exps 0 : Nat) : Int) from by rfl)), rfl, rfl, rfl, rfl, rfl, rfl, rfl, trivial⟩ ⟨0, L8, rfl, rfl, h13, ((Stp.refl _ _).more (by simp)), (by omega)⟩ ?_
 intro m20 l21 w22 H23
 obtain ⟨k, lab24, hzm, rfl, hv25, s26, hk⟩ := H23
 replace hzm := hzm.symm; subst hzm
 refine rsr ?_
 refine sv (Qa.lss rfl rfl) ?_
 refine Seq.next ?_
 refine Run.seq ?_
 rcases Decidable.em ((((k : Nat) : Int) : Int) < (((List.length exps : Nat) : Int) : Int)) with hp2 | hp2
 ·refine Qc rfl (dT9 hp2) ?_
  refine Qg (fun _ _ h => h) ?_
  refine Run.seq ?_
  refine Run.block ?_
  refine rsr ?_
  have c33 := s12.trans s26
  have q34 := up c33 h2
  obtain ⟨vs27, u28, m29, r30, q31, q32⟩ := Jd.at_ q34 k (by omega)
  obtain ⟨A35, c36, hz⟩ := Qi.shape q32; cases hz
  have z37 := Qi.cap q32
  refine sv (Qs k Try.underlying38 Qn rfl rfl r30 m29 (by omega) (by omega)) ?_
  refine sv (JZ Qn rfl r30 q31) ?_
  refine QM 11 [.slice none 0 0] hv25 Qn rfl fun b40 L38 w39 o41 s42 h43 => ?_
  refine Q2 [.slice A35 (nw (List.getD exps k 0)) c36] h43 o41 Qn rfl rfl rfl (lB9 rfl) rfl rfl fun w44 o45 s46 h47 => ?_
  refine Seq.next ?_
  refine Run.region ?_
  refine sv (Qa.move rfl) ?_
  refine sv (Qb [.slice A35 (nw (List.getD exps k 0)) c36] o45 Qn rfl rfl) ?_
  have c48 := s42.trans s46
  have q49 := up c48 q32
  refine Q7 (V := Is (i64 ((QL (List.getD exps k 0) : Nat) : Int))) X4 h47 rfl (ZZ h47 q49 (show nw (List.getD exps k 0) ≤ 1000000 from by exact Nat.le_trans (QeP hE _) (by omega))) fun v50 w51 q52 s53 h54 => ?_
  have q52 := Is.out q52; subst q52
  refine sv (Qa.max_ rfl rfl) ?_
  refine sv (Qa.assign rfl) ?_
  refine QH (fun _ _ h => h) ?_
  refine Run.region ?_
  refine sv (Qa.add rfl rfl (by omega)) ?_
  refine sv (Qa.move rfl) ?_
  have c55 := c48.trans s53
  have c56 := s26.trans c55
  exact Seq.nil (fun a57 h58 => ⟨_, by omega, _, h58.weaken (QG (l' := [(27, i64 (((k + 1) : Nat) : Int)), (8, i64 ((YY exps (k + 1) : Nat) : Int)), (0, .pointer (some ⟨b1, 0, none⟩)), (1, .slice A2 (List.length bases) c3), (2, .slice A5 (List.length exps) c6), (6, .pointer (some ⟨b10, 0, none⟩)), (7, .int .i64 0), (25, .slice A5 (List.length exps) c6), (26, i64 ((List.length exps : Nat) : Int))]) ⟨(congrArg (fun z => some (i64 z)) (show (((k : Nat) : Int) + 1 : Int) = (((k + 1) : Nat) : Int) from by rfl)), (congrArg (fun z => some (i64 z)) (show (max ((YY exps k : Nat) : Int) ((QL (List.getD exps k 0) : Nat) : Int) : Int) = ((YY exps (k + 1) : Nat) : Int) from by (show max _ _ = _; simp only [YY]; omega))), rfl, rfl, rfl, rfl, rfl, rfl, rfl, trivial⟩), ⟨k + 1, L38, rfl, rfl, h54, (c56.more (by decide)), (by omega)⟩⟩)
 refine Qc rfl (dF9 hp2) ?_
 refine Qv (fun _ _ h => h) ?_
 refine rsr ?_
 refine Q7 (V := Qi 1) JN hv25 rfl (QX hv25 (x := 1) (show 1 < 18446744073709551616 from by omega)) fun v59 w60 q61 s62 h63 => ?_
 obtain ⟨A64, c65, rfl⟩ := Qi.shape q61
 have z66 := Qi.cap q61
 refine QM 12 [.slice none 0 0] h63 Qn rfl fun b69 L67 w68 o70 s71 h72 => ?_
 refine Q2 [.slice A64 (nw 1) c65] h72 o70 Qn rfl rfl rfl (lB9 rfl) rfl rfl fun w73 o74 s75 h76 => ?_
 refine Seq.next ?_
 refine Run.seq ?_
 refine rsr ?_
 refine sv (Qa.move rfl) ?_
 refine sv (Qa.sub rfl rfl (by (have := UY hE k; omega))) ?_
 refine sv (Qa.assign rfl) ?_
 refine Seq.next ?_
 refine Run.block ?_
 have c77 := s71.trans s75
 have q78 := up c77 q61
 refine Run.loop (fun m' l' w' => ∃ (c : Nat) (lab' : Lab) (ub12 : Value), m' = c ∧ l' = [(12, i64 (((c : Nat) : Int) - 1)), (0, .pointer (some ⟨b1, 0, none⟩)), (1, .slice A2 (List.length bases) c3), (2, .slice A5 (List.length exps) c6), (6, .pointer (some ⟨b10, 0, none⟩)), (7, .int .i64 0), (11, .pointer (some ⟨b69, 0, none⟩))] ∧ Ql lab' w' ∧ Stp [12, 15] L67 w73 lab' w' ∧ Own lab' w' 12 b69 60 #[ub12] ∧ Qi (pp c bases exps % g.p) lab' w' (.agg #[ub12]) ∧ (c ≤ 32000)) ((YY exps k)) (l0 := [(12, i64 ((((YY exps k) : Nat) : Int) - 1)), (0, .pointer (some ⟨b1, 0, none⟩)), (1, .slice A2 (List.length bases) c3), (2, .slice A5 (List.length exps) c6), (6, .pointer (some ⟨b10, 0, none⟩)), (7, .int .i64 0), (11, .pointer (some ⟨b69, 0, none⟩))]) ⟨(congrArg (fun z => some (i64 z)) (show (((YY exps k : Nat) : Int) - 1 : Int) = (((YY exps k) : Nat) : Int) - 1 from by rfl)), rfl, rfl, rfl, rfl, rfl, rfl, trivial⟩ ⟨YY exps k, L67, (.slice A64 (nw 1) c65), rfl, rfl, h76, ((Stp.refl _ _).more (by simp)), o74, (Q1 (show 1 = (pp (YY exps k) bases exps % g.p) from by exact Qb9 gp1 (by omega)) q78), (by exact UY hE k)⟩ ?_
 intro m79 l80 w81 H82
 obtain ⟨c, lab83, u86, hzm, rfl, hv84, s85, o87, q88, hc⟩ := H82
 replace hzm := hzm.symm; subst hzm
 obtain ⟨A89, c90, hz⟩ := Qi.shape q88; cases hz
 refine Run.seq ?_
 refine rsr ?_
 refine sv (Qa.move rfl) ?_
 refine sv (Qa.geq rfl rfl) ?_
 refine Seq.next ?_
 rcases Decidable.em ((0 : Int) ≤ (((c : Nat) : Int) - 1 : Int)) with hp3 | hp3
 rotate_left
 ·refine Qc rfl (dF9 hp3) ?_
  refine Qv (fun _ _ h => h) ?_
  refine rsr ?_
  refine sv (Qb [.slice A89 (nw (pp c bases exps % g.p)) c90] o87 Qn rfl rfl) ?_
  have c313 := c77.trans s85
  have c314 := s62.trans c313
  have c315 := s26.trans c314
  have o312 := o11.up c315
  refine Q2 [.slice A89 (nw (pp c bases exps % g.p)) c90] hv84 o312 Qn rfl rfl rfl (lB9 rfl) rfl rfl fun w316 o317 s318 h319 => ?_
  refine sv (Qa.assign rfl) ?_
  refine Seq.next ?_
  have c320 := c315.trans s318
  have c321 := s12.trans c320
  obtain ⟨⟨zU, zo⟩, zb⟩ := hX c321 (by decide)
  have q322 := up s318 q88
  refine Run.ret ?_
  exact QP Try.results47 ⟨_, rfl, Q6 [.slice A89 (nw (pp c bases exps % g.p)) c90] o317 Qn rfl⟩ rfl ⟨_, rfl, ⟨_, _, rfl, (Q1 (by ((obtain rfl : c = 0 := (by omega)); rw [if_pos (by omega)]; rfl)) (up zo q322)), (JF (by omega) _ _)⟩, zb⟩
 refine Qc rfl (dT9 hp3) ?_
 refine Qg (fun _ _ h => h) ?_
 refine Run.seq ?_
 refine Run.block ?_
 refine Run.seq ?_
 have c91 := c77.trans s85
 have c92 := s62.trans c91
 have c93 := s26.trans c92
 have c94 := s12.trans c93
 have q95 := up c94 h0
 obtain ⟨bp96, bq97, A98, c99, A100, c101, r102, q103, q104, q105, q106⟩ := Js.open q95
 refine Run.open 7 (Φ := [.ex (.pointer (some ⟨b1, 0, none⟩)), .ex (.pointer (some ⟨b1, 0, none⟩)), .ex (.pointer (some ⟨b1, 0, none⟩)), .ex (.pointer (some ⟨bp96, 0, none⟩)), .ex (.agg #[.slice A89 (nw (pp c bases exps % g.p)) c90]), .ex (.agg #[.slice A89 (nw (pp c bases exps % g.p)) c90]), .v (Qi ((pp c bases exps % g.p) * (pp c bases exps % g.p) % g.p))]) [(6, 49)] Je (by kernel_rfl) rfl hv84 ⟨(oX [] rfl rfl rfl fun _ _ => Qa.move rfl), (oX [(0, 43)] rfl rfl rfl fun _ _ => Qa.nilCheck rfl), (oX [(1, 44)] rfl rfl rfl fun _ _ => Qd 0 Try.underlying169 rfl VS rfl rfl), ?_, ?_, ?_, ?_, trivial⟩ (fun L140 w141 h142 s143 v144 q145 => ?_)
 ·refine oP [(2, 45)] rfl rfl fun L119 w120 h121 s122 => ?_
  have q123 := up s122 r102
  exact ⟨_, Jh VS rfl (Ro.cell q123 0 rfl), rfl⟩
 ·refine oP [] rfl rfl fun L124 w125 h126 s127 => ?_
  have o128 := o87.up s127
  exact ⟨_, Qb [.slice A89 (nw (pp c bases exps % g.p)) c90] o128 Qn rfl rfl, rfl⟩
 ·refine oP [] rfl rfl fun L129 w130 h131 s132 => ?_
  have o133 := o87.up s132
  exact ⟨_, Qb [.slice A89 (nw (pp c bases exps % g.p)) c90] o133 Qn rfl rfl, rfl⟩
 ·refine oC [(3, 46), (4, 47), (5, 48)] rfl rfl Qai fun L134 w135 h136 s137 => ?_
  have q138 := up s137 q103
  have q139 := up s137 q88
  exact ⟨_, rfl, (Ys h136 q138 q139 q139 (show 1 < g.p from by omega) (show nw (pp c bases exps % g.p) ≤ 1000 from by exact Nat.le_trans (QW (Nat.le_of_lt (Nat.mod_lt _ (by omega)))) (by omega)) (show nw (pp c bases exps % g.p) ≤ 1000 from by exact Nat.le_trans (QW (Nat.le_of_lt (Nat.mod_lt _ (by omega)))) (by omega)) (show nw g.p ≤ 1000 from by omega))⟩
 obtain ⟨A146, c147, rfl⟩ := Qi.shape q145
 have z148 := Qi.cap q145
 have o149 := o87.up s143
 refine Q2 [.slice A146 (nw ((pp c bases exps % g.p) * (pp c bases exps % g.p) % g.p)) c147] h142 o149 Qn rfl rfl rfl (lB9 rfl) rfl rfl fun w150 o151 s152 h153 => ?_
 refine nsr ?_
 refine sv (Qa.move rfl) ?_
 refine sv (Qa.len Try.underlying38 rfl) ?_
 refine sv (Qa.move rfl) ?_
 refine Seq.next ?_
 refine Run.block ?_
 have q154 := up s152 q145
 refine Run.loop (fun m' l' w' => ∃ (m : Nat) (lab' : Lab) (ub12 : Value), m' = List.length exps - m ∧ l' = [(52, i64 ((m : Nat) : Int)), (0, .pointer (some ⟨b1, 0, none⟩)), (1, .slice A2 (List.length bases) c3), (2, .slice A5 (List.length exps) c6), (6, .pointer (some ⟨b10, 0, none⟩)), (7, .int .i64 0), (11, .pointer (some ⟨b69, 0, none⟩)), (12, i64 (((c : Nat) : Int) - 1)), (50, .slice A5 (List.length exps) c6), (51, i64 ((List.length exps : Nat) : Int))] ∧ Ql lab' w' ∧ Stp [12, 15] L140 w150 lab' w' ∧ Own lab' w' 12 b69 60 #[ub12] ∧ Qi (ppm (c - 1) m bases exps % g.p) lab' w' (.agg #[ub12]) ∧ (m ≤ List.length exps)) (List.length exps - 0) (l0 := [(52, i64 ((0 : Nat) : Int)), (0, .pointer (some ⟨b1, 0, none⟩)), (1, .slice A2 (List.length bases) c3), (2, .slice A5 (List.length exps) c6), (6, .pointer (some ⟨b10, 0, none⟩)), (7, .int .i64 0), (11, .pointer (some ⟨b69, 0, none⟩)), (12, i64 (((c : Nat) : Int) - 1)), (50, .slice A5 (List.length exps) c6), (51, i64 ((List.length exps : Nat) : Int))]) ⟨(congrArg (fun z => some (i64 z)) (show (0 : Int) = ((0 : Nat) : Int) from by rfl)), rfl, rfl, rfl, rfl, rfl, rfl, rfl, rfl, rfl, trivial⟩ ⟨0, L140, (.slice A146 (nw ((pp c bases exps % g.p) * (pp c bases exps % g.p) % g.p)) c147), rfl, rfl, h153, ((Stp.refl _ _).more (by simp)), o151, (Q1 (show ((pp c bases exps % g.p) * (pp c bases exps % g.p) % g.p) = (ppm (c - 1) 0 bases exps % g.p) from by exact Qi7 (by omega)) q154), (by omega)⟩ ?_
 intro m155 l156 w157 H158
 obtain ⟨m, lab159, u162, hzm, rfl, hv160, s161, o163, q164, hm⟩ := H158
 replace hzm := hzm.symm; subst hzm
 obtain ⟨A165, c166, hz⟩ := Qi.shape q164; cases hz
 refine rsr ?_
 refine sv (Qa.lss rfl rfl) ?_
 refine Seq.next ?_
 refine Run.seq ?_
 rcases Decidable.em ((((m : Nat) : Int) : Int) < (((List.length exps : Nat) : Int) : Int)) with hp4 | hp4
 rotate_left
 ·refine Qc rfl (dF9 hp4) ?_
  refine Qv (fun _ _ h => h) ?_
  refine Run.region ?_
  refine sv (Qa.move rfl) ?_
  refine sv (Qa.sub rfl rfl (by omega)) ?_
  refine sv (Qa.assign rfl) ?_
  have c307 := s152.trans s161
  have c308 := s143.trans c307
  have c309 := s85.trans c308
  exact Seq.nil (fun a310 h311 => ⟨_, by omega, _, h311.weaken (QG (l' := [(12, i64 ((((c - 1) : Nat) : Int) - 1)), (0, .pointer (some ⟨b1, 0, none⟩)), (1, .slice A2 (List.length bases) c3), (2, .slice A5 (List.length exps) c6), (6, .pointer (some ⟨b10, 0, none⟩)), (7, .int .i64 0), (11, .pointer (some ⟨b69, 0, none⟩))]) ⟨(congrArg (fun z => some (i64 z)) (show ((((c : Nat) : Int) - 1) - 1 : Int) = (((c - 1) : Nat) : Int) - 1 from by omega)), rfl, rfl, rfl, rfl, rfl, rfl, trivial⟩), ⟨c - 1, lab159, (.slice A165 (nw (ppm (c - 1) m bases exps % g.p)) c166), rfl, rfl, hv160, (c309.more (by decide)), o163, (Q1 (show (ppm (c - 1) m bases exps % g.p) = (pp (c - 1) bases exps % g.p) from by exact Qi9 (by omega) (by omega)) q164), (by omega)⟩⟩)
 refine Qc rfl (dT9 hp4) ?_
 refine Qg (fun _ _ h => h) ?_
 refine Run.seq ?_
 refine Run.block ?_
 refine rsr ?_
 refine sv (Qa.move rfl) ?_
 have c173 := s152.trans s161
 have c174 := s143.trans c173
 have c175 := c94.trans c174
 have q176 := up c175 h2
 obtain ⟨vs167, u168, m169, r170, q171, q172⟩ := Jd.at_ q176 m (by omega)
 obtain ⟨A177, c178, hz⟩ := Qi.shape q172; cases hz
 have z179 := Qi.cap q172
 refine sv (Qs m Try.underlying38 Qn rfl rfl r170 m169 (by omega) (by omega)) ?_
 refine sv (JZ Qn rfl r170 q171) ?_
 refine QM 15 [.slice none 0 0] hv160 Qn rfl fun b182 L180 w181 o183 s184 h185 => ?_
 refine sv (Qa.assign rfl) ?_
 refine Q2 [.slice A177 (nw (List.getD exps m 0)) c178] h185 o183 Qn rfl rfl rfl (lB9 rfl) rfl rfl fun w186 o187 s188 h189 => ?_
 refine nsr ?_
 refine sv (Qb [.slice A177 (nw (List.getD exps m 0)) c178] o187 Qn rfl rfl) ?_
 refine sv (Qa.move rfl) ?_
 have c190 := s184.trans s188
 have q191 := up c190 q172
 refine Q7 (V := Is (i64 (if 0 ≤ (((c : Nat) : Int) - 1) then (((List.getD exps m 0) / 2 ^ (((c : Nat) : Int) - 1).toNat % 2 : Nat) : Int) else 0))) U0 h189 rfl (Vx h189 (i := ((c : Nat) : Int) - 1) q191 (show (((c : Nat) : Int) - 1) < 9223372036854775808 from by omega)) fun v192 w193 q194 s195 h196 => ?_
 have q194 := Is.out q194; subst q194
 refine sv (Qa.eql rfl rfl) ?_
 refine Seq.next ?_
 rcases Decidable.em ((if 0 ≤ (((c : Nat) : Int) - 1) then (((List.getD exps m 0) / 2 ^ (((c : Nat) : Int) - 1).toNat % 2 : Nat) : Int) else 0 : Int) = (1 : Int)) with hp5 | hp5
 rotate_left
 ·refine Qc rfl (dF9 hp5) ?_
  refine Qg (fun _ _ h => h) ?_
  refine Run.region ?_
  refine sv (Qa.add rfl rfl (by omega)) ?_
  refine sv (Qa.move rfl) ?_
  have c302 := c190.trans s195
  have o301 := o163.up c302
  have q303 := up c302 q164
  have c304 := s161.trans c302
  exact Seq.nil (fun a305 h306 => ⟨_, by omega, _, h306.weaken (QG (l' := [(52, i64 (((m + 1) : Nat) : Int)), (0, .pointer (some ⟨b1, 0, none⟩)), (1, .slice A2 (List.length bases) c3), (2, .slice A5 (List.length exps) c6), (6, .pointer (some ⟨b10, 0, none⟩)), (7, .int .i64 0), (11, .pointer (some ⟨b69, 0, none⟩)), (12, i64 (((c : Nat) : Int) - 1)), (50, .slice A5 (List.length exps) c6), (51, i64 ((List.length exps : Nat) : Int))]) ⟨(congrArg (fun z => some (i64 z)) (show (((m : Nat) : Int) + 1 : Int) = (((m + 1) : Nat) : Int) from by rfl)), rfl, rfl, rfl, rfl, rfl, rfl, rfl, rfl, rfl, trivial⟩), ⟨m + 1, L180, (.slice A165 (nw (ppm (c - 1) m bases exps % g.p)) c166), rfl, rfl, h196, (c304.more (by decide)), o301, (Q1 (show (ppm (c - 1) m bases exps % g.p) = (ppm (c - 1) (m + 1) bases exps % g.p) from by exact Qi8 (by omega) (by omega) (by omega) (by assumption)) q303), (by omega)⟩⟩)
 refine Qc rfl (dT9 hp5) ?_
 refine Run.open 10 (Φ := [.ex (.pointer (some ⟨b1, 0, none⟩)), .ex (.pointer (some ⟨b1, 0, none⟩)), .ex (.pointer (some ⟨b1, 0, none⟩)), .ex (.pointer (some ⟨bp96, 0, none⟩)), .ex (.agg #[.slice A165 (nw (ppm (c - 1) m bases exps % g.p)) c166]), .ex (.slice A2 (List.length bases) c3), .ex (i64 ((m : Nat) : Int)), .ex (.pointer (Option.map (fun zq => Addr.add zq m) A2)), .v (Qi (List.getD bases m 0)), .v (Qi ((ppm (c - 1) m bases exps % g.p) * (List.getD bases m 0) % g.p))]) [(9, 70)] Je (by kernel_rfl) rfl h196 ⟨(oX [] rfl rfl rfl fun _ _ => Qa.move rfl), (oX [(0, 61)] rfl rfl rfl fun _ _ => Qa.nilCheck rfl), (oX [(1, 62)] rfl rfl rfl fun _ _ => Qd 0 Try.underlying169 rfl VS rfl rfl), ?_, ?_, (oX [] rfl rfl rfl fun _ _ => Qa.move rfl), (oX [] rfl rfl rfl fun _ _ => Qa.move rfl), ?_, ?_, ?_, trivial⟩ (fun L280 w281 h282 s283 v284 q285 => ?_)
 ·refine oP [(2, 63)] rfl rfl fun L209 w210 h211 s212 => ?_
  have c213 := s195.trans s212
  have c214 := c190.trans c213
  have c215 := c174.trans c214
  have q216 := up c215 r102
  exact ⟨_, Jh VS rfl (Ro.cell q216 0 rfl), rfl⟩
 ·refine oP [] rfl rfl fun L217 w218 h219 s220 => ?_
  have c222 := s195.trans s220
  have c223 := c190.trans c222
  have o221 := o163.up c223
  exact ⟨_, Qb [.slice A165 (nw (ppm (c - 1) m bases exps % g.p)) c166] o221 Qn rfl rfl, rfl⟩
 ·refine oP [(5, 66), (6, 67)] rfl rfl fun L232 w233 h234 s235 => ?_
  have c242 := s195.trans s235
  have c243 := c190.trans c242
  have c244 := c175.trans c243
  have q245 := up c244 h1
  obtain ⟨vs236, u237, m238, r239, q240, q241⟩ := Jd.at_ q245 m (by omega)
  obtain ⟨A246, c247, hz⟩ := Qi.shape q241; cases hz
  have z248 := Qi.cap q241
  exact ⟨_, Qs m Try.underlying38 Qn rfl rfl r239 m238 (by omega) (by omega), rfl⟩
 ·refine oP [(7, 68)] rfl rfl fun L249 w250 h251 s252 => ?_
  have c259 := s195.trans s252
  have c260 := c190.trans c259
  have c261 := c175.trans c260
  have q262 := up c261 h1
  obtain ⟨vs253, u254, m255, r256, q257, q258⟩ := Jd.at_ q262 m (by omega)
  obtain ⟨A263, c264, hz⟩ := Qi.shape q258; cases hz
  have z265 := Qi.cap q258
  exact ⟨_, JZ Qn rfl r256 q257, q258⟩
 ·refine oC [(3, 64), (4, 65), (8, 69)] rfl rfl Qai fun L266 w267 h268 s269 v270 q271 => ?_
  obtain ⟨A272, c273, rfl⟩ := Qi.shape q271
  have z274 := Qi.cap q271
  have c275 := s195.trans s269
  have c276 := c190.trans c275
  have c277 := c174.trans c276
  have q278 := up c277 q103
  have q279 := up c276 q164
  exact ⟨_, rfl, (Ys h268 q278 q279 q271 (show 1 < g.p from by omega) (show nw (ppm (c - 1) m bases exps % g.p) ≤ 1000 from by exact Nat.le_trans (QW (Nat.le_of_lt (Nat.mod_lt _ (by omega)))) (by omega)) (show nw (List.getD bases m 0) ≤ 1000 from by exact QeP hB _) (show nw g.p ≤ 1000 from by omega))⟩
 obtain ⟨A286, c287, rfl⟩ := Qi.shape q285
 have z288 := Qi.cap q285
 have c290 := s195.trans s283
 have c291 := c190.trans c290
 have o289 := o163.up c291
 refine Q2 [.slice A286 (nw ((ppm (c - 1) m bases exps % g.p) * (List.getD bases m 0) % g.p)) c287] h282 o289 Qn rfl rfl rfl (lB9 rfl) rfl rfl fun w292 o293 s294 h295 => ?_
 refine QH (fun _ _ h => h) ?_
 refine Run.region ?_
 refine sv (Qa.add rfl rfl (by omega)) ?_
 refine sv (Qa.move rfl) ?_
 have q296 := up s294 q285
 have c297 := c291.trans s294
 have c298 := s161.trans c297
 exact Seq.nil (fun a299 h300 => ⟨_, by omega, _, h300.weaken (QG (l' := [(52, i64 (((m + 1) : Nat) : Int)), (0, .pointer (some ⟨b1, 0, none⟩)), (1, .slice A2 (List.length bases) c3), (2, .slice A5 (List.length exps) c6), (6, .pointer (some ⟨b10, 0, none⟩)), (7, .int .i64 0), (11, .pointer (some ⟨b69, 0, none⟩)), (12, i64 (((c : Nat) : Int) - 1)), (50, .slice A5 (List.length exps) c6), (51, i64 ((List.length exps : Nat) : Int))]) ⟨(congrArg (fun z => some (i64 z)) (show (((m : Nat) : Int) + 1 : Int) = (((m + 1) : Nat) : Int) from by rfl)), rfl, rfl, rfl, rfl, rfl, rfl, rfl, rfl, rfl, trivial⟩), ⟨m + 1, L280, (.slice A286 (nw ((ppm (c - 1) m bases exps % g.p) * (List.getD bases m 0) % g.p)) c287), rfl, rfl, h295, (c298.more (by decide)), o293, (Q1 (show ((ppm (c - 1) m bases exps % g.p) * (List.getD bases m 0) % g.p) = (ppm (c - 1) (m + 1) bases exps % g.p) from by exact Qi6 (by omega) (by omega) (by omega) (by assumption)) q296), (by omega)⟩⟩)
theorem Ks {lab : Lab} {w : World} (hv : Ql lab w) {g : GroupD} {v0 : Value} (h0 : Js g lab w v0) {parts : List (List UInt8)} {v1 : Value} (h1 : JB parts lab w v1) (hG : okG g) (hs : List.length (X5 parts) ≤ 5000000) :
  Calls Try.prog 62 #[v0, v1] w (fun e w' => ∃ v, e = .returned v ∧ (Qi (Qkp g.q parts)) lab w' v ∧ Below w.heap.size w w') := by
 obtain ⟨L0, h0L, ⟨zU0, z00⟩, hX⟩ := QZ hv
 replace h0 := up z00 h0
 obtain ⟨b1, rfl⟩ := YH.shape h0
 replace h1 := up z00 h1
 obtain ⟨A2, c3, rfl⟩ := JB.shape h1
 have z4 := JB.cap h1
 have ⟨gp1, gq1, gpn, gqn, ggn, ghn⟩ := hG
 refine Qu Try.func62 rfl Try.ntmps62 (lB9 rfl) ?_
 refine rsr ?_
 refine QM 5 [.slice none 0 0] h0L Qn rfl fun b7 L5 w6 o8 s9 h10 => ?_
 refine Seq.next ?_
 refine Run.seq ?_
 refine rsr ?_
 refine sv (Qa.move rfl) ?_
 refine sv (Jf Try.underlying56 rfl rfl) ?_
 refine Seq.next ?_
 refine Qc rfl rfl ?_
 refine Qg (fun _ _ h => h) ?_
 refine rsr ?_
 refine ZQ QfI rfl (Qbw h10 (K := 16) (K2 := 516)   ) fun v11 L16 w12 r17 s14 h15 => ?_
 have q13 := r17
 obtain ⟨b18, rfl, o19⟩ := q13
 refine sv (Qa.assign rfl) ?_
 refine Seq.next ?_
 refine Run.seq ?_
 refine rsr ?_
 refine sv (Qa.move rfl) ?_
 refine sv (Qa.len Try.underlying34 rfl) ?_
 refine sv (Qa.move rfl) ?_
 refine Seq.next ?_
 refine Run.block ?_
 refine Run.loop (fun m' l' w' => ∃ (k : Nat) (lab' : Lab), m' = List.length parts - k ∧ l' = [(18, i64 ((k : Nat) : Int)), (0, .pointer (some ⟨b1, 0, none⟩)), (4, .pointer (some ⟨b7, 0, none⟩)), (5, .pointer (some ⟨b18, 0, none⟩)), (16, .slice A2 (List.length parts) c3), (17, i64 ((List.length parts : Nat) : Int))] ∧ Ql lab' w' ∧ Stp [16, 23, 516] L16 w12 lab' w' ∧ JI lab' w' 16 516 b18 (X5 (List.take k parts)) ∧ (k ≤ List.length parts)) (List.length parts - 0) (l0 := [(18, i64 ((0 : Nat) : Int)), (0, .pointer (some ⟨b1, 0, none⟩)), (4, .pointer (some ⟨b7, 0, none⟩)), (5, .pointer (some ⟨b18, 0, none⟩)), (16, .slice A2 (List.length parts) c3), (17, i64 ((List.length parts : Nat) : Int))]) ⟨(congrArg (fun z => some (i64 z)) (show (0 : Int) = ((0 : Nat) : Int) from by rfl)), rfl, rfl, rfl, rfl, rfl, trivial⟩ ⟨0, L16, rfl, rfl, h15, ((Stp.refl _ _).more (by simp)), (Y1 (show [] = X5 (List.take 0 parts) from by rfl) o19), (by omega)⟩ ?_
 intro m20 l21 w22 H23
 obtain ⟨k, lab24, hzm, rfl, hv25, s26, o27, hk⟩ := H23
 replace hzm := hzm.symm; subst hzm
 refine rsr ?_
 refine sv (Qa.lss rfl rfl) ?_
 refine Seq.next ?_
 refine Run.seq ?_
 rcases Decidable.em ((((k : Nat) : Int) : Int) < (((List.length parts : Nat) : Int) : Int)) with hp1 | hp1
 rotate_left
 ·refine Qc rfl (dF9 hp1) ?_
  refine Qv (fun _ _ h => h) ?_
  refine rsr ?_
  refine sv (Qa.move rfl) ?_
  refine ZQ QfH rfl (UG hv25  (h := X5 (List.take k parts)) o27 (by decide) (show  List.length (X5 (List.take k parts)) ≤ 10000000 from by exact Nat.le_trans (QaY parts k) (by omega))) fun v88 L93 w89 r94 s91 h92 => ?_
  obtain ⟨q90, o95⟩ := r94
  obtain ⟨A96, c97, rfl⟩ := Qe.shape q90
  have z98 := Qe.cap q90
  refine Q7 (V := Zo (Qi (nv (JG (X5 (List.take k parts))))) (Is (i64 0))) Qhn h92 rfl (ZY h92 q90 (show List.length (JG (X5 (List.take k parts))) ≤ 128 from by (rw [JS]; omega))) fun v99 w100 q101 s102 h103 => ?_
  obtain ⟨v104, v105, rfl, q106, q107⟩ := q101
  obtain ⟨A108, c109, rfl⟩ := Qi.shape q106
  have z110 := Qi.cap q106
  have q107 := Is.out q107; subst q107
  refine sv (Qa.move rfl) ?_
  refine sv (Qa.extract rfl rfl) ?_
  refine sv (Qa.extract rfl rfl) ?_
  refine QM 11 [.slice none 0 0] h103 Qn rfl fun b113 L111 w112 o114 s115 h116 => ?_
  refine Q2 [.slice A108 (nw (nv (JG (X5 (List.take k parts))))) c109] h116 o114 Qn rfl rfl rfl (lB9 rfl) rfl rfl fun w117 o118 s119 h120 => ?_
  refine sv (Qa.assign rfl) ?_
  refine Seq.next ?_
  refine Run.seq ?_
  have c121 := s115.trans s119
  have c122 := s102.trans c121
  have c123 := s91.trans c122
  have c124 := s26.trans c123
  have c125 := s14.trans c124
  have c126 := s9.trans c125
  have q127 := up c126 h0
  obtain ⟨bp128, bq129, A130, c131, A132, c133, r134, q135, q136, q137, q138⟩ := Js.open q127
  refine Run.open 6 (Φ := [.ex (.pointer (some ⟨b1, 0, none⟩)), .ex (.pointer (some ⟨b1, 0, none⟩)), .ex (.pointer (some ⟨b1, 1, none⟩)), .ex (.pointer (some ⟨bq129, 0, none⟩)), .ex (.agg #[.slice A108 (nw (nv (JG (X5 (List.take k parts))))) c109]), .v (Qi ((nv (JG (X5 (List.take k parts)))) % g.q))]) [(5, 57)] Je (by kernel_rfl) rfl h120 ⟨(oX [] rfl rfl rfl fun _ _ => Qa.move rfl), (oX [(0, 52)] rfl rfl rfl fun _ _ => Qa.nilCheck rfl), (oX [(1, 53)] rfl rfl rfl fun _ _ => Qd 1 Try.underlying169 rfl VS rfl rfl), ?_, ?_, ?_, trivial⟩ (fun L168 w169 h170 s171 v172 q173 => ?_)
  ·refine oP [(2, 54)] rfl rfl fun L151 w152 h153 s154 => ?_
   have q155 := up s154 r134
   exact ⟨_, Jh VS rfl (Ro.cell q155 1 rfl), rfl⟩
  ·refine oP [] rfl rfl fun L156 w157 h158 s159 => ?_
   have o160 := o118.up s159
   exact ⟨_, Qb [.slice A108 (nw (nv (JG (X5 (List.take k parts))))) c109] o160 Qn rfl rfl, rfl⟩
  ·refine oC [(3, 55), (4, 56)] rfl rfl VQ fun L161 w162 h163 s164 => ?_
   have q165 := up s164 q136
   have c166 := c121.trans s164
   have q167 := up c166 q106
   exact ⟨_, rfl, (Yk h163 q165 q167 (show 1 < g.q from by omega) (show nw (nv (JG (X5 (List.take k parts)))) ≤ 999999 from by exact Nat.le_trans (Qjh _) (by omega)) (show nw g.q ≤ 1000000 from by omega))⟩
  obtain ⟨A174, c175, rfl⟩ := Qi.shape q173
  have z176 := Qi.cap q173
  have c178 := c125.trans s171
  have o177 := o8.up c178
  refine Q2 [.slice A174 (nw ((nv (JG (X5 (List.take k parts)))) % g.q)) c175] h170 o177 Qn rfl rfl rfl (lB9 rfl) rfl rfl fun w179 o180 s181 h182 => ?_
  refine Seq.next ?_
  have c183 := s171.trans s181
  have c184 := c126.trans c183
  obtain ⟨⟨zU, zo⟩, zb⟩ := hX c184 (by decide)
  have q185 := up s181 q173
  refine Run.ret ?_
  exact Qm Try.results62 ⟨_, rfl, Q6 [.slice A174 (nw ((nv (JG (X5 (List.take k parts)))) % g.q)) c175] o180 Qn rfl⟩ ⟨_, rfl, (Q1 (by ((obtain rfl : k = List.length parts := (by omega)); rw [List.take_length]; rfl)) (up zo q185)), zb⟩
 refine Qc rfl (dT9 hp1) ?_
 refine Qg (fun _ _ h => h) ?_
 refine Run.seq ?_
 refine Run.block ?_
 refine rsr ?_
 have c34 := s14.trans s26
 have c35 := s9.trans c34
 have q36 := up c35 h1
 obtain ⟨vs28, u29, m30, r31, q32, q33⟩ := JB.at_ q36 k (by omega)
 obtain ⟨A37, c38, rfl⟩ := Qe.shape q33
 have z39 := Qe.cap q33
 refine sv (Qs k Try.underlying34 XO rfl rfl r31 m30 (by omega) (by omega)) ?_
 refine sv (Qy XO rfl r31 q32) ?_
 refine sv (Qa.assign rfl) ?_
 refine nsr ?_
 refine Jv (k := 23) u8 (0 : UInt8) 8 hv25 Try.underlying22 ty5 rfl rfl rfl (by omega) (by omega) (by omega) (by omega) (by decide) ?_
 intro lab40 w41 b42 o43 s44 hv45
 refine sv (Qa.assign rfl) ?_
 refine Seq.next ?_
 refine Run.seq ?_
 refine rsr ?_
 refine sv (Qa.move rfl) ?_
 refine sv (Qa.len Try.underlying22 rfl) ?_
 refine sv (Qa.move rfl) ?_
 refine Seq.next ?_
 refine Run.block ?_
 refine Run.loop (fun m' l' w' => ∃ (i : Nat) (lab' : Lab), m' = 8 - i ∧ l' = [(25, i64 ((i : Nat) : Int)), (0, .pointer (some ⟨b1, 0, none⟩)), (4, .pointer (some ⟨b7, 0, none⟩)), (5, .pointer (some ⟨b18, 0, none⟩)), (16, .slice A2 (List.length parts) c3), (17, i64 ((List.length parts : Nat) : Int)), (18, i64 ((k : Nat) : Int)), (7, .slice A37 (List.length (List.getD parts k [])) c38), (8, .slice (some ⟨b42, 0, none⟩) 8 8), (24, i64 ((8 : Nat) : Int))] ∧ Ql lab' w' ∧ Stp [23] lab40 w41 lab' w' ∧ Own lab' w' 23 b42 5 (List.map u8 (Qat (List.length (List.getD parts k [])) i)).toArray ∧ (i ≤ 8)) (8 - 0) (l0 := [(25, i64 ((0 : Nat) : Int)), (0, .pointer (some ⟨b1, 0, none⟩)), (4, .pointer (some ⟨b7, 0, none⟩)), (5, .pointer (some ⟨b18, 0, none⟩)), (16, .slice A2 (List.length parts) c3), (17, i64 ((List.length parts : Nat) : Int)), (18, i64 ((k : Nat) : Int)), (7, .slice A37 (List.length (List.getD parts k [])) c38), (8, .slice (some ⟨b42, 0, none⟩) 8 8), (24, i64 ((8 : Nat) : Int))]) ⟨(congrArg (fun z => some (i64 z)) (show (0 : Int) = ((0 : Nat) : Int) from by rfl)), rfl, rfl, rfl, rfl, rfl, rfl, rfl, rfl, rfl, trivial⟩ ⟨0, lab40, rfl, rfl, hv45, ((Stp.refl _ _).more (by simp)), ((show List.replicate 8 (0 : UInt8) = Qat (List.length (List.getD parts k [])) 0 from by exact Qfe _) ▸ o43), (by omega)⟩ ?_
 intro m46 l47 w48 H49
 obtain ⟨i, lab50, hzm, rfl, hv51, s52, o53, hi⟩ := H49
 replace hzm := hzm.symm; subst hzm
 refine rsr ?_
 refine sv (Qa.lss rfl rfl) ?_
 refine Seq.next ?_
 refine Run.seq ?_
 rcases Decidable.em ((((i : Nat) : Int) : Int) < (((8 : Nat) : Int) : Int)) with hp2 | hp2
 ·refine Qc rfl (dT9 hp2) ?_
  refine Qg (fun _ _ h => h) ?_
  refine Run.seq ?_
  refine Run.block ?_
  refine rsr ?_
  refine sv (Qa.move rfl) ?_
  refine sv (Qa.assign rfl) ?_
  refine Seq.next ?_
  refine Run.region ?_
  refine sv (Qa.move rfl) ?_
  refine sv (Qa.move rfl) ?_
  refine sv (Qa.move rfl) ?_
  refine sv (Qa.len Try.underlying22 rfl) ?_
  refine sv (VL Try.underlying3 Try.underlying62 rfl (by omega) (by omega)) ?_
  refine sv (Qa.move rfl) ?_
  refine sv (Qa.mul rfl rfl (by omega)) ?_
  refine sv (YB rfl rfl (by omega) (by omega)) ?_
  refine sv (KH Try.underlying62 Try.underlying5 rfl) ?_
  refine sv (Q4 i Try.underlying22 ty5 rfl rfl (by omega) (by omega)) ?_
  refine Q8 (k := 23) (j := i) (v := (UInt8.ofNat ((List.length (List.getD parts k [])) / 2 ^ (8 * ((i : Nat) : Int)).toNat))) u8 hv51 o53 ty5 (congrArg (fun o => some (Value.pointer (some ⟨b42, o, none⟩))) (Nat.mul_one i)) rfl (by (rw [YR]; omega)) rfl rfl fun w54 o55 s56 h57 => ?_
  refine QH (fun _ _ h => h) ?_
  refine Run.region ?_
  refine sv (Qa.add rfl rfl (by omega)) ?_
  refine sv (Qa.move rfl) ?_
  have c58 := s52.trans s56
  exact Seq.nil (fun a59 h60 => ⟨_, by omega, _, h60.weaken (QG (l' := [(25, i64 (((i + 1) : Nat) : Int)), (0, .pointer (some ⟨b1, 0, none⟩)), (4, .pointer (some ⟨b7, 0, none⟩)), (5, .pointer (some ⟨b18, 0, none⟩)), (16, .slice A2 (List.length parts) c3), (17, i64 ((List.length parts : Nat) : Int)), (18, i64 ((k : Nat) : Int)), (7, .slice A37 (List.length (List.getD parts k [])) c38), (8, .slice (some ⟨b42, 0, none⟩) 8 8), (24, i64 ((8 : Nat) : Int))]) ⟨(congrArg (fun z => some (i64 z)) (show (((i : Nat) : Int) + 1 : Int) = (((i + 1) : Nat) : Int) from by rfl)), rfl, rfl, rfl, rfl, rfl, rfl, rfl, rfl, rfl, trivial⟩), ⟨i + 1, lab50, rfl, rfl, h57, (c58.more (by decide)), ((show List.set (Qat (List.length (List.getD parts k [])) i) i (UInt8.ofNat ((List.length (List.getD parts k [])) / 2 ^ (8 * ((i : Nat) : Int)).toNat)) = Qat (List.length (List.getD parts k [])) (i + 1) from by exact Qff (by omega) rfl) ▸ o55), (by omega)⟩⟩)
 refine Qc rfl (dF9 hp2) ?_
 refine Qv (fun _ _ h => h) ?_
 refine rsr ?_
 refine sv (Qa.move rfl) ?_
 refine sv (Qa.move rfl) ?_
 have hv61 := Ql.release hv51 23
 have q62 : Qe (Qat (List.length (List.getD parts k [])) i) (Q5 lab50 23) w48 (.slice (some ⟨b42, 0, none⟩) 8 8) := Qe.release o53 (by (rw [YR])) (by omega)
 have c64 := s52.trans (Stp.release (lab := lab50) (w := w48) 23)
 have c65 := s44.trans c64
 have o63 := o27.up c65
 refine ZQ Uy rfl (Vs hv61  (h := X5 (List.take k parts)) o63 (by decide) q62 (show  List.length (X5 (List.take k parts)) + List.length (Qat (List.length (List.getD parts k [])) i) ≤ 100000000 from by (have h9 := QfX (L := parts) (k := k) (by omega); rw [YR]; omega))) fun v66 L71 w67 r72 s69 h70 => ?_
 obtain ⟨q68, o73⟩ := r72
 have q68 := Is.out q68; subst q68
 refine Seq.next ?_
 refine Run.region ?_
 refine sv (Qa.move rfl) ?_
 refine sv (Qa.move rfl) ?_
 have c74 := c65.trans s69
 have q75 := up c74 q33
 refine ZQ Uy rfl (Vs h70  (h := (X5 (List.take k parts)) ++ (Qat (List.length (List.getD parts k [])) i)) o73 (by decide) q75 (show  List.length ((X5 (List.take k parts)) ++ (Qat (List.length (List.getD parts k [])) i)) + List.length (List.getD parts k []) ≤ 100000000 from by (have h9 := QfX (L := parts) (k := k) (by omega); rw [List.length_append, YR]; omega))) fun v76 L81 w77 r82 s79 h80 => ?_
 obtain ⟨q78, o83⟩ := r82
 have q78 := Is.out q78; subst q78
 refine QH (fun _ _ h => h) ?_
 refine Run.region ?_
 refine sv (Qa.add rfl rfl (by omega)) ?_
 refine sv (Qa.move rfl) ?_
 have c84 := c74.trans s79
 have c85 := s26.trans c84
 exact Seq.nil (fun a86 h87 => ⟨_, by omega, _, h87.weaken (QG (l' := [(18, i64 (((k + 1) : Nat) : Int)), (0, .pointer (some ⟨b1, 0, none⟩)), (4, .pointer (some ⟨b7, 0, none⟩)), (5, .pointer (some ⟨b18, 0, none⟩)), (16, .slice A2 (List.length parts) c3), (17, i64 ((List.length parts : Nat) : Int))]) ⟨(congrArg (fun z => some (i64 z)) (show (((k : Nat) : Int) + 1 : Int) = (((k + 1) : Nat) : Int) from by rfl)), rfl, rfl, rfl, rfl, rfl, trivial⟩), ⟨k + 1, L81, rfl, rfl, h80, (c85.more (by decide)), (Y1 (show ((X5 (List.take k parts)) ++ (Qat (List.length (List.getD parts k [])) i)) ++ (List.getD parts k []) = X5 (List.take (k + 1) parts) from by (rw [Qfg _ (by omega)]; exact QaZ (by omega))) o83), (by omega)⟩⟩)
end Go.Proofs.Ytgfomedobfaidaa
end
section
set_option linter.unusedVariables false
set_option linter.unusedSimpArgs false
namespace Go.Proofs.Ytgfomedobfaidaa
open Go.RowKit
def QU (bs : List UInt8) : VP := fun lab w v => ∃ A, v = .slice A bs.length bs.length ∧ bs.length ≤ 9223372036854775807 ∧ Ja lab w A (bs.map u8)
theorem Qci (bs : List UInt8) : Pers (QU bs) := ⟨fun s ⟨A, h1, h2, h3⟩ => ⟨A, h1, h2, h3.lift s⟩⟩
instance (x : List UInt8) : Per (QU x) := ⟨Qci x⟩
theorem XJ {x y : List UInt8} (e : x = y) {lab : Lab} {w : World} {v : Value} (h : QU x lab w v) : QU y lab w v := e ▸ h
theorem QU.nil (lab : Lab) (w : World) : QU [] lab w (.slice none 0 0) := ⟨none, rfl, by simp, Ja.nil⟩
theorem QU.shape {bs : List UInt8} {lab : Lab} {w : World} {v : Value} (h : QU bs lab w v) : ∃ A, v = .slice A bs.length bs.length := by
 obtain ⟨A, h1, _⟩ := h
 exact ⟨A, h1⟩
theorem QU.v {bs : List UInt8} {lab : Lab} {w : World} {v : Value} (h : QU bs lab w v) : Qe bs lab w v := by
 obtain ⟨A, h1, h2, h3⟩ := h
 exact ⟨A, _, h1, Nat.le_refl _, h2, h3⟩
theorem QU.of {bs : List UInt8} {lab : Lab} {w : World} {A : Option Addr} {n : Nat} (h : Qe bs lab w (.slice A n n)) : QU bs lab w (.slice A n n) := by
 have h1 := h.cap
 exact ⟨A, by rw [h1.1], by omega, h.row⟩
theorem QU.release {lab : Lab} {w : World} {d b n : Nat} {t : TypeId} {ws : List UInt8} (h : Own lab w d b t (ws.map u8).toArray) (hn : ws.length = n) (hc : n ≤ 9223372036854775807) : QU ws (Q5 lab d) w (.slice (some ⟨b, 0, none⟩) n n) := .of (Qe.release h hn hc)
section
variable {ds : List Deferred} {P : Program} {N : Nat} {ops : Array Oper} {Q : Exit → Act → World → Prop} {l : List (Nat × Value)} {rest : List Oper} {w : World} {lab : Lab} {ty : TypeId} {pos : String} {af : Array Edge}
theorem Qbz {t ty' e : TypeId} {ag : Bool} {by_ : Nat} {z : Value} (ht : P.underlying t = some (.slice e)) (he : QT P e = some (ag, 1, some z, by_)) (hz : z.cells.size = 1) {xs ys : List UInt8} {v : Value} (hv : Ql lab w) (h : QU xs lab w v) {A : Option Addr} {m c : Nat} (hm : ys.length = m) (hr : Ja lab w A (ys.map u8)) (hb : (xs.length + m) * by_ ≤ 140737488355328) (h63 : xs.length + m ≤ 9223372036854775807) :
  ∃ v' w', (Builtin.append_ #[t, t] ty' #[v, .slice A m c]).run P w = .ok v' w' ∧ Qe (xs ++ ys) lab w' v' ∧ Stp [] lab w lab w' ∧ Ql lab w' := by
 obtain ⟨i, dd, hi, hu, _, his, hiz, hib⟩ := Zt he
 obtain ⟨B, rfl, hx2, hx3⟩ := h
 by_cases hm0 : m = 0
 ·subst hm0
  have hys : ys = [] := List.eq_nil_of_length_eq_zero hm
  subst hys
  have hsrc : Src P i.size t (.slice A 0 c) 0 [] w := ⟨.inl ⟨e, ht⟩, fun _ => rfl, by cases A <;> simp [Builtin.firstCells, loadCells, loadCellsFrom], by cases A <;> simp [Builtin.firstCells, loadCells, loadCellsFrom], by simp, fun _ h => by cases h⟩
  exact ⟨_, w, run_append_nothing w t t ty' e i ht hi B xs.length xs.length (Nat.le_refl _) (.slice A 0 c) hsrc, ⟨B, _, by simp, by simp, hx2, by simpa using hx3⟩, Stp.refl _ _, hv⟩
 ·have hsrc : ∃ a, A = some a := by
   cases A with
   | some a => exact ⟨a, rfl⟩
   | none =>
    have := hr.none_of rfl
    simp at this; subst this; simp at hm; exact absurd hm.symm hm0
  obtain ⟨a, rfl⟩ := hsrc
  have hold : (Builtin.firstCells i.size xs.length (.slice B xs.length xs.length)).run P w.drew = .ok (xs.map u8).toArray w.drew := by
   cases B with
   | none =>
    have := hx3.none_of rfl
    simp at this; subst this
    simp [Builtin.firstCells]
   | some bb => exact run_firstCells_some (P := P) w.drew i.size xs.length bb xs.length xs.length (xs.map u8) (by rw [his]; simp) (hx3.cells_of bb rfl)
  have hr' := run_append_grow_src (P := P) w t t ty' e i z ht hi hiz B xs.length xs.length (xs.map u8) hold (.slice (some a) m c) m (ys.map u8) (Src.ofSlice w ht a m c (ys.map u8) (by rw [his]; simp [hm]) (hr.cells_of a rfl) JQ) (by omega) (by omega) (growslice_fits (by omega) (by rw [hib]; exact hb))
  have hge := grownCap_ge w (xs.length + m) xs.length e
  have hcm := grownCap_le_maxLen w (xs.length + m) xs.length e (by unfold maxLen; omega)
  refine ⟨_, _, hr', ⟨some ⟨w.heap.size, 0, none⟩, _, by rw [List.length_append, hm], by rw [List.length_append, hm]; exact hge, by unfold maxLen at hcm; exact hcm, ?_⟩, ?_, ?_⟩
  ·refine .inr ⟨w.heap.size, 0, _, e, (0, 0), rfl, hv _ (Nat.le_refl _), JU w.drew _, fun j u hj => ?_⟩
   rw [Nat.zero_add, List.map_append] at *
   have hjl : j < (xs.map u8 ++ ys.map u8).length := (List.getElem?_eq_some_iff.1 hj).1
   rw [Array.getElem?_append_left (by simpa using hjl), List.getElem?_toArray]
   exact hj
  ·exact (Stp.drew lab w).trans (Stp.fresh (lab := lab) (w := w.drew) _)
  ·exact hv.below (by show w.heap.size ≤ (w.drew.alloc _).heap.size; rw [Yy]; show w.heap.size ≤ w.heap.size + 1; omega)
theorem Qcp {d : Nat} {t e : TypeId} {x y : Operand} {ag : Bool} {by_ : Nat} {z : Value} {v : Value} {xs : List UInt8} {A : Option Addr} {m c : Nat} (ys : List UInt8) (hv : Ql lab w) (h : QU xs lab w v) (ht : P.underlying t = some (.slice e)) (he : QT P e = some (ag, 1, some z, by_)) (hz : z.cells.size = 1) (hx : ev l x = some v) (hy : ev l y = some (.slice A m c)) (hm : ys.length = m) (hr : Ja lab w A (ys.map u8)) (hb : (xs.length + m) * by_ ≤ 140737488355328) (h63 : xs.length + m ≤ 9223372036854775807)
  (hk : ∀ w' v', Qe (xs ++ ys) lab w' v' → Stp [] lab w lab w' → Ql lab w' → Seq ds P N ops Q ((d, v') :: l) rest w') (hd : d < N := by decide) : Seq ds P N ops Q l (⟨some d, .call ⟨.builtin .append, #[x, y], #[t, t]⟩, ty, pos, af, none⟩ :: rest) w := by
 obtain ⟨v', w', hrun, h1', h2', h3'⟩ := Qbz (P := P) (ty' := ty) ht he hz hv h hm hr hb h63 (c := c)
 refine Seq.val (v := v') (w' := w') ?_ hd (hk w' v' h1' h2' h3')
 intro ρ hρ d pos af g
 simp [execOp, resolve, invoke, builtin, hρ _ _ hx, hρ _ _ hy, hrun]
theorem Qfw {b : Nat} {arr : Array Value} {t : TypeId} (h : w.heap[b]? = some (.cells arr t (0, 0))) : (w.freeze ⟨b, arr.size, none⟩ 1).heap[b]? = some (.cells arr t (arr.size, arr.size + 1)) := by
 unfold World.freeze
 rw [if_neg (by decide)]
 simp [Array.getElem?_modify, h]
theorem VC {b k o : Nat} (hk : k ≠ b) : (w.freeze ⟨b, o, none⟩ 1).heap[k]? = w.heap[k]? := by
 unfold World.freeze
 rw [if_neg (by decide)]
 simp only [Array.getElem?_modify]
 rw [if_neg (fun e => hk e.symm)]
theorem Ku {b o : Nat} : (w.freeze ⟨b, o, none⟩ 1).heap.size = w.heap.size := by
 unfold World.freeze
 rw [if_neg (by decide)]
 simp
theorem Qez {t e t' : TypeId} {b n c d : Nat} {arr : Array Value} (ht : P.underlying t = some (.slice e)) (he : P.underlying e = some (.int .u8)) (hO : Own lab w d b t' arr) : (convert t t (.slice (some ⟨b, 0, none⟩) n c)).run P w = .ok (.slice (some ⟨b, 0, none⟩) n c) (w.freeze ⟨b, arr.size, none⟩ 1) := by
 have hsh : w.shape? b = some (t', arr.size) := by unfold World.shape?; rw [hO.2]
 simp [convert, run_underlying ht, run_underlying he, markStringish, hsh]
theorem Qhm {t e t' : TypeId} {x : Operand} {b n d : Nat} {xs : List UInt8} (ht : P.underlying t = some (.slice e)) (he : P.underlying e = some (.int .u8)) (hv : Ql lab w) (hO : Own lab w d b t' (xs.map u8).toArray) (hx : ev l x = some (.slice (some ⟨b, 0, none⟩) n n)) (hn : xs.length = n) (h63 : n ≤ 9223372036854775807) :
  ∃ w', Qa P l (.convert t t x) ty w (.slice (some ⟨b, 0, none⟩) n n) w' ∧ QU xs (Q5 lab d) w' (.slice (some ⟨b, 0, none⟩) n n) ∧ Stp [d] lab w (Q5 lab d) w' ∧ Ql (Q5 lab d) w' := by
 refine ⟨w.freeze ⟨b, (xs.map u8).toArray.size, none⟩ 1, ?_, ⟨some ⟨b, 0, none⟩, by rw [hn], by omega, .inr ⟨b, 0, _, t', _, rfl, by unfold Q5; rw [if_pos hO.1], Qfw hO.2, fun j v hj => by simpa using hj⟩⟩, ?_, ?_⟩
 ·intro ρ hρ dd pos af g
  simp only [execOp, hρ _ _ hx, Sem.run_bind, Qez ht he hO, Result.andThen_ok]
  rfl
 ·refine ⟨by unfold World.freeze; rw [if_neg (by decide)], by unfold World.freeze; rw [if_neg (by decide)], by unfold World.freeze; rw [if_neg (by decide)], by rw [Ku]; omega, fun k hk e0 => ⟨by unfold Q5; split <;> simp_all, VC fun e1 => by subst e1; rw [hO.1] at e0; cases e0⟩, fun k d' hk e0 hd => ⟨by unfold Q5; rw [if_neg (by rw [e0]; simp at hd ⊢; exact hd)]; exact e0, VC fun e1 => by subst e1; rw [hO.1] at e0; cases e0; simp at hd⟩⟩
 ·exact (hv.below (by rw [Ku]; omega) : Ql lab _).release d
theorem Qew {d k b n : Nat} {t e t' : TypeId} {x : Operand} {xs : List UInt8} (ht : P.underlying t = some (.slice e)) (he : P.underlying e = some (.int .u8)) (hv : Ql lab w) (hO : Own lab w k b t' (xs.map u8).toArray) (hx : ev l x = some (.slice (some ⟨b, 0, none⟩) n n)) (hn : xs.length = n) (h63 : n ≤ 9223372036854775807)
  (hk : ∀ w', QU xs (Q5 lab k) w' (.slice (some ⟨b, 0, none⟩) n n) → Stp [k] lab w (Q5 lab k) w' → Ql (Q5 lab k) w' → Seq ds P N ops Q ((d, .slice (some ⟨b, 0, none⟩) n n) :: l) rest w') (hd : d < N := by decide) : Seq ds P N ops Q l (⟨some d, .convert t t x, ty, pos, af, none⟩ :: rest) w := by
 obtain ⟨w', h1, h2, h3, h4⟩ := Qhm (P := P) (ty := ty) ht he hv hO hx hn h63
 exact Seq.val h1 hd (hk w' h2 h3 h4)
theorem Qby {d k : Nat} {t e : TypeId} {ag : Bool} {by_ : Nat} {z : Value} {len : Nat} {parts : Array (Nat × Operand)} (pv : List (Nat × Value)) (cs : List Value) (hv : Ql lab w) (ht : P.underlying t = some (.slice e)) (he : QT P e = some (ag, 1, some z, by_)) (hl : len * 1 ≤ 16777216) (hl0 : len * 1 ≠ 0)
  (hp : parts.toList.map (fun p => (p.1, ev l p.2)) = pv.map (fun p => (p.1, some p.2))) (hf : Instr.fill (fun i => some (i * 1, 1)) ((Array.range (len * 1)).map (fun j => z.cells[j % z.cells.size]!)) pv = some cs.toArray)
  (h : ∀ lab' w' b, Own lab' w' k b e cs.toArray → Stp [] lab w lab' w' → Ql lab' w' → Seq ds P N ops Q ((d, .slice (some ⟨b, 0, none⟩) len len) :: l) rest w') (hd : d < N := by decide) : Seq ds P N ops Q l (⟨some d, .buildSlice t len parts, ty, pos, af, none⟩ :: rest) w :=
 Seq.val (Qa.buildSlice pv cs ht he hl hl0 hp hf) hd (h _ _ _ (Own.alloc lab w _ e k) (Stp.alloc _ k) (hv.alloc _ k))
end
end Go.Proofs.Ytgfomedobfaidaa
end
section
set_option linter.unusedVariables false
set_option linter.unusedSimpArgs false
namespace Go.Proofs.Ytgfomedobfaidaa
open Go.RowKit
theorem Qdw {lab : Lab} {w : World} (hv : Ql lab w) {a : Nat} {v0 : Value} (h0 : Qi a lab w v0) {size : Int} (hn : nw a ≤ 1000000) (h0s : 0 ≤ size ∧ size ≤ 10000000) :
  Calls Try.prog 129 #[v0, i64 size] w (fun e w' => ∃ v, e = .returned v ∧ (Zo (QU (if size < (((QL a + 7) / 8 : Nat) : Int) then [] else beN a (Int.toNat size))) (Is (i64 (if size < (((QL a + 7) / 8 : Nat) : Int) then 2 else 0)))) lab w' v ∧ Below w.heap.size w w') := by
 obtain ⟨L0, h0L, ⟨zU0, z00⟩, hX⟩ := QZ hv
 replace h0 := up z00 h0
 obtain ⟨A1, c2, rfl⟩ := Qi.shape h0
 have z3 := Qi.cap h0
 have hB := Zv a
 refine Qu Try.func129 rfl Try.ntmps129 (lB9 rfl) ?_
 refine rsr ?_
 refine Yz 3 [.slice A1 (nw a) c2] h0L rfl rfl fun b6 L4 w5 o7 s8 h9 => ?_
 refine sv (Qa.assign rfl) ?_
 refine sv (Qa.assign rfl) ?_
 refine Seq.next ?_
 refine Run.seq ?_
 refine rsr ?_
 refine sv (Qa.move rfl) ?_
 refine sv (Qa.lss rfl rfl) ?_
 refine Seq.next ?_
 rcases Decidable.em ((size : Int) < (0 : Int)) with hp1 | hp1
 ·refine Qc rfl (dT9 hp1) ?_
  refine rsr ?_
  refine sv (Qa.assign rfl) ?_
  refine sv (Qa.assign rfl) ?_
  refine Seq.next ?_
  obtain ⟨⟨zU, zo⟩, zb⟩ := hX s8 (by decide)
  refine Run.ret (Qr ?_)
  exact QP Try.results129 rfl rfl ⟨_, rfl, ⟨_, _, rfl, (XJ (by rw [if_pos (by omega)]) (QU.nil _ _)), (JF (by omega) _ _)⟩, zb⟩
 refine Qc rfl (dF9 hp1) ?_
 refine Qg (fun _ _ h => h) ?_
 refine rsr ?_
 refine sv (Qb [.slice A1 (nw a) c2] o7 Qn rfl rfl) ?_
 have q10 := up s8 h0
 refine Q7 (V := Is (i64 ((QL a : Nat) : Int))) X4 h9 rfl (ZZ h9 q10 (show nw a ≤ 1000000 from by assumption)) fun v11 w12 q13 s14 h15 => ?_
 have q13 := Is.out q13; subst q13
 refine sv (Qa.add rfl rfl (by omega)) ?_
 refine sv (Qa.quo rfl rfl (by omega) (by omega) (by omega)) ?_
 refine sv (Qa.assign rfl) ?_
 refine Seq.next ?_
 refine Run.seq ?_
 refine rsr ?_
 refine sv (Qa.move rfl) ?_
 refine sv (Qa.move rfl) ?_
 refine sv (Qa.gtr rfl rfl) ?_
 refine Seq.next ?_
 rcases Decidable.em ((size : Int) < ((((QL a : Nat) : Int) + 7) / 8 : Int)) with hp2 | hp2
 ·refine Qc rfl (dT9 hp2) ?_
  refine rsr ?_
  refine sv (Qa.assign rfl) ?_
  refine sv (Qa.assign rfl) ?_
  refine Seq.next ?_
  have c16 := s8.trans s14
  obtain ⟨⟨zU, zo⟩, zb⟩ := hX c16 (by decide)
  refine Run.ret (Qr ?_)
  exact QP Try.results129 rfl rfl ⟨_, rfl, ⟨_, _, rfl, (XJ (by rw [if_pos (by omega)]) (QU.nil _ _)), (JF (by rw [if_pos (by omega)]) _ _)⟩, zb⟩
 refine Qc rfl (dF9 hp2) ?_
 refine Qg (fun _ _ h => h) ?_
 refine rsr ?_
 refine sv (Qa.move rfl) ?_
 refine Jv (k := 20) u8 (0 : UInt8) ((size).toNat) h15 Try.underlying22 ty5 rfl rfl rfl (by omega) (by omega) (by omega) (by omega) (by decide) ?_
 intro lab17 w18 b19 o20 s21 hv22
 refine sv (Qa.assign rfl) ?_
 refine Seq.next ?_
 refine Run.seq ?_
 refine rsr ?_
 refine sv (Qa.move rfl) ?_
 refine sv (Qa.move rfl) ?_
 refine Seq.next ?_
 refine Run.block ?_
 refine Run.loop (fun m' l' w' => ∃ (k : Nat) (lab' : Lab), m' = (QL a + 7) / 8 - k ∧ l' = [(21, i64 ((k : Nat) : Int)), (1, i64 size), (2, .pointer (some ⟨b6, 0, none⟩)), (4, .slice none 0 0), (5, .int .i64 0), (7, .slice (some ⟨b19, 0, none⟩) ((size).toNat) ((size).toNat)), (20, i64 ((((QL a : Nat) : Int) + 7) / 8))] ∧ Ql lab' w' ∧ Stp [20] lab17 w18 lab' w' ∧ Own lab' w' 20 b19 5 (List.map u8 (VF a (Int.toNat size) k)).toArray ∧ (k ≤ (QL a + 7) / 8)) ((QL a + 7) / 8 - 0) (l0 := [(21, i64 ((0 : Nat) : Int)), (1, i64 size), (2, .pointer (some ⟨b6, 0, none⟩)), (4, .slice none 0 0), (5, .int .i64 0), (7, .slice (some ⟨b19, 0, none⟩) ((size).toNat) ((size).toNat)), (20, i64 ((((QL a : Nat) : Int) + 7) / 8))]) ⟨(congrArg (fun z => some (i64 z)) (show (0 : Int) = ((0 : Nat) : Int) from by rfl)), rfl, rfl, rfl, rfl, rfl, rfl, trivial⟩ ⟨0, lab17, rfl, rfl, hv22, ((Stp.refl _ _).more (by simp)), ((show List.replicate ((size).toNat) (0 : UInt8) = VF a (Int.toNat size) 0 from by (exact (QaW _ _).symm)) ▸ o20), (by omega)⟩ ?_
 intro m23 l24 w25 H26
 obtain ⟨k, lab27, hzm, rfl, hv28, s29, o30, hk⟩ := H26
 replace hzm := hzm.symm; subst hzm
 have hL := K6 a (Int.toNat size) k
 have hL2 : (Qj a).length = nw a := rfl
 refine rsr ?_
 refine sv (Qa.lss rfl rfl) ?_
 refine Seq.next ?_
 refine Run.seq ?_
 rcases Decidable.em ((((k : Nat) : Int) : Int) < ((((QL a : Nat) : Int) + 7) / 8 : Int)) with hp3 | hp3
 rotate_left
 ·refine Qc rfl (dF9 hp3) ?_
  refine Qv (fun _ _ h => h) ?_
  refine rsr ?_
  refine sv (Qa.move rfl) ?_
  refine sv (Qa.assign rfl) ?_
  refine sv (Qa.assign rfl) ?_
  refine Seq.next ?_
  have hv43 := Ql.release hv28 20
  have q44 : QU (VF a (Int.toNat size) k) (Q5 lab27 20) w25 (.slice (some ⟨b19, 0, none⟩) ((size).toNat) ((size).toNat)) := QU.release o30 (by assumption) (by omega)
  have c45 := s29.trans (Stp.release (lab := lab27) (w := w25) 20)
  have c46 := s21.trans c45
  have c47 := s14.trans c46
  have c48 := s8.trans c47
  obtain ⟨⟨zU, zo⟩, zb⟩ := hX c48 (by decide)
  refine Run.ret ?_
  exact QP Try.results129 rfl rfl ⟨_, rfl, ⟨_, _, rfl, (XJ (by (rw [if_neg (by omega)]; exact QaX (Nat.lt_of_lt_of_le (UZ a) (Nat.pow_le_pow_right (by omega) (by omega))))) (up zo q44)), (JF (by rw [if_neg (by omega)]) _ _)⟩, zb⟩
 refine Qc rfl (dT9 hp3) ?_
 refine Qg (fun _ _ h => h) ?_
 refine Run.seq ?_
 refine Run.block ?_
 refine rsr ?_
 refine sv (Qa.move rfl) ?_
 refine sv (Qa.assign rfl) ?_
 refine Seq.next ?_
 refine Run.region ?_
 refine sv (Qa.move rfl) ?_
 refine sv (Qa.move rfl) ?_
 refine sv (Qa.sub rfl rfl (by omega)) ?_
 refine sv (Qa.move rfl) ?_
 refine sv (Qa.sub rfl rfl (by omega)) ?_
 refine sv (Qd 0 Try.underlying60 rfl Zf rfl rfl) ?_
 have c32 := s21.trans s29
 have c33 := s14.trans c32
 have o31 := o7.up c33
 have q35 := up c33 q10
 have q34 := QA q35
 refine sv (Qf o31 Zf rfl rfl) ?_
 refine sv (Qa.move rfl) ?_
 refine sv (Qa.quo rfl rfl (by omega) (by omega) (by omega)) ?_
 refine sv (Qs ((((k : Nat) : Int) / 4).toNat) Try.underlying58 Qx rfl rfl (Qo.row q34) (by simp [nw]) (by omega) (by omega)) ?_
 refine sv (Qy Qx rfl (Qo.row q34) (Jp u32 _ (0 : UInt32) (by omega))) ?_
 refine sv (Qa.move rfl) ?_
 refine sv (Qa.rem rfl rfl (by omega) (by omega)) ?_
 refine sv (Qa.mul rfl rfl (by omega)) ?_
 refine sv (J7 rfl rfl (by omega) (by omega)) ?_
 refine sv (Qz Try.underlying167 Try.underlying5 rfl (JW _)) ?_
 refine sv (Q4 (((size - 1) - ((k : Nat) : Int)).toNat) Try.underlying22 ty5 rfl rfl (by omega) (by omega)) ?_
 refine Q8 (k := 20) (j := (((size - 1) - ((k : Nat) : Int)).toNat)) (v := (((List.getD (Qj a) ((((k : Nat) : Int) / 4).toNat) (0 : UInt32)) >>> UInt32.ofNat (8 * (((k : Nat) : Int) % 4)).toNat).toUInt8)) u8 hv28 o30 ty5 (congrArg (fun o => some (Value.pointer (some ⟨b19, o, none⟩))) (Nat.mul_one (((size - 1) - ((k : Nat) : Int)).toNat))) rfl (by omega) rfl rfl fun w36 o37 s38 h39 => ?_
 refine QH (fun _ _ h => h) ?_
 refine Run.region ?_
 refine sv (Qa.add rfl rfl (by omega)) ?_
 refine sv (Qa.move rfl) ?_
 have c40 := s29.trans s38
 exact Seq.nil (fun a41 h42 => ⟨_, by omega, _, h42.weaken (QG (l' := [(21, i64 (((k + 1) : Nat) : Int)), (1, i64 size), (2, .pointer (some ⟨b6, 0, none⟩)), (4, .slice none 0 0), (5, .int .i64 0), (7, .slice (some ⟨b19, 0, none⟩) ((size).toNat) ((size).toNat)), (20, i64 ((((QL a : Nat) : Int) + 7) / 8))]) ⟨(congrArg (fun z => some (i64 z)) (show (((k : Nat) : Int) + 1 : Int) = (((k + 1) : Nat) : Int) from by rfl)), rfl, rfl, rfl, rfl, rfl, rfl, trivial⟩), ⟨k + 1, lab27, rfl, rfl, h39, (c40.more (by decide)), ((show List.set (VF a (Int.toNat size) k) (((size - 1) - ((k : Nat) : Int)).toNat) (((List.getD (Qj a) ((((k : Nat) : Int) / 4).toNat) (0 : UInt32)) >>> UInt32.ofNat (8 * (((k : Nat) : Int) % 4)).toNat).toUInt8) = VF a (Int.toNat size) (k + 1) from by (exact U1 (by omega) (by omega))) ▸ o37), (by omega)⟩⟩)
end Go.Proofs.Ytgfomedobfaidaa
end
section
set_option linter.unusedVariables false
set_option linter.unusedSimpArgs false
namespace Go.Proofs.Ytgfomedobfaidaa
open Go.RowKit
def QC (q : Nat) : Nat := (QL q + 7) / 8
theorem U9 {q : Nat} (h : nw q ≤ 32) : QC q ≤ 128 := by have := Zv q; unfold QC; omega
theorem QiF {q x : Nat} (h : x < q) : x < 256 ^ QC q := Nat.lt_trans h (UZ q)
theorem K5 {q x : Nat} (h : x < q) : (QL x + 7) / 8 ≤ QC q := by
 have : QL x ≤ QL q := Zk.2 (Nat.lt_of_lt_of_le h (Nat.le_of_lt (Zk.1 (Nat.le_refl _))))
 unfold QC; omega
theorem Qgp {q : Nat} (h : 0 < q) : 0 < QC q := by
 have : 0 < QL q := Qaa.2 (by rw [Nat.pow_zero]; exact h)
 unfold QC; omega
def JR (g : GroupD) (x : Nat) : Prop := x ≠ 0 ∧ x < g.q
instance (g : GroupD) (x : Nat) : Decidable (JR g x) := by unfold JR; infer_instance
theorem Qlp {g : GroupD} {x : Nat} (h : x = 0) : true = decide (¬ JR g x) := (dT9 (show ¬ JR g x from fun hk => hk.1 h)).symm
theorem Qlo {g : GroupD} {x : Nat} (h : ¬ x = 0) : decide (0 ≤ Jo x g.q) = decide (¬ JR g x) := decide_eq_decide.2 (by
 rw [XB]
 exact ⟨fun h' hk => by have := hk.2; omega, fun h' => Nat.le_of_not_lt fun hlt => h' ⟨h, hlt⟩⟩)
theorem Qh6 {g : GroupD} {x : Nat} (hg : okG g) (h : JR g x) : nw x ≤ 32 := Nat.le_trans (QW (Nat.le_of_lt h.2)) hg.2.2.2.1
def gB (g : GroupD) (a : Nat) : List UInt8 := if ZU g a then beN a g.size else []
theorem QaM {g : GroupD} (hg : okG g) (a : Nat) : (gB g a).length ≤ 128 := by
 unfold gB; split
 ·rw [JE]; exact hg.size_le
 ·simp
def Z6 (g : GroupD) (a y : Nat) (msg : List UInt8) : Nat := Qkp g.q [[115, 105, 103, 110], gB g a, gB g y, msg]
theorem Qbx {g : GroupD} (hg : okG g) (a y : Nat) (msg : List UInt8) : Z6 g a y msg < g.q := Nat.mod_lt _ (by have := hg.2.1; omega)
theorem Qis {g : GroupD} (hg : okG g) (a y : Nat) (msg : List UInt8) (h : msg.length ≤ 4000000) : (X5 [[115, 105, 103, 110], gB g a, gB g y, msg]).length ≤ 5000000 := by
 rw [YU]
 have h1 := QaM hg a
 have h2 := QaM hg y
 simp; omega
def QkQ (g : GroupD) (x : Nat) (msg : List UInt8) : Nat := nv (ZH (beN x (QC g.q)) msg 64) % g.q
def QjQ (g : GroupD) (x : Nat) (msg : List UInt8) : Nat := if QkQ g x msg = 0 then 1 else QkQ g x msg
def QkR (g : GroupD) (x : Nat) (msg : List UInt8) : Nat := Z6 g (g.g ^ QjQ g x msg % g.p) (g.g ^ x % g.p) msg
def Qle (g : GroupD) (x : Nat) (msg : List UInt8) : Nat := (QjQ g x msg + QkR g x msg * x % g.q) % g.q
def Jk (g : GroupD) (x : Nat) (msg : List UInt8) : List UInt8 := beN (QkR g x msg) (QC g.q) ++ beN (Qle g x msg) (QC g.q)
theorem YO (g : GroupD) (x : Nat) (msg : List UInt8) : (Jk g x msg).length = 2 * QC g.q := by simp [Jk, JE]; omega
def Z1 (g : GroupD) (y : Nat) (msg sig : List UInt8) : Prop :=
 sig.length = 2 * QC g.q ∧ ZU g y ∧ nv (sig.take (QC g.q)) < g.q ∧ nv (sig.drop (QC g.q)) < g.q ∧
  Z6 g (g.g ^ nv (sig.drop (QC g.q)) * y ^ (g.q - nv (sig.take (QC g.q))) % g.p) y msg = nv (sig.take (QC g.q))
instance (g : GroupD) (y : Nat) (msg sig : List UInt8) : Decidable (Z1 g y msg sig) := by unfold Z1; infer_instance
theorem Qb4 {p : Nat} (h : 1 < p) : 1 % p = 1 := Nat.mod_eq_of_lt h
theorem QeX {g : GroupD} {a : Nat} (hg : okG g) (h : ZU g a) : a ^ g.q % g.p = 1 % g.p := by rw [Qb4 hg.1]; exact h.2.2
theorem Qka {g : GroupD} {a : Nat} (hg : okG g) (h : a ^ g.q % g.p = 1 % g.p) (hlt : a < g.p) : ZU g a := by
 refine ⟨fun h0 => ?_, hlt, by rw [h, Qb4 hg.1]⟩
 subst h0
 rw [Nat.zero_pow (by have := hg.2.1; omega), Nat.zero_mod, Qb4 hg.1] at h
 cases h
theorem QiD {g : GroupD} {a : Nat} (hg : okG g) (h : ZU g a) (k : Nat) : ZU g (a ^ k % g.p) := Qka hg (Qdo (QeX hg h) k) (Nat.mod_lt _ (by have := hg.1; omega))
theorem Qgz {g : GroupD} (hg : okG g) (hm : ZU g g.g) {k c x s : Nat} (hc : c ≤ g.q) (hs : s % g.q = (k + c * x) % g.q) : g.g ^ s * (g.g ^ x % g.p) ^ (g.q - c) % g.p = g.g ^ k % g.p := by
 have e1 : g.g ^ s * (g.g ^ x % g.p) ^ (g.q - c) % g.p = g.g ^ (s + x * (g.q - c)) % g.p := by
  rw [Nat.mul_mod, ← Nat.pow_mod, ← Nat.pow_mul, ← Nat.mul_mod, ← Nat.pow_add]
 rw [e1]
 refine Qg6 (QeX hg hm) ?_
 rw [Nat.add_mod, hs, ← Nat.add_mod]
 have e2 : k + c * x + x * (g.q - c) = k + x * g.q := by
  have : c * x + x * (g.q - c) = x * g.q := by rw [Nat.mul_comm c x, ← Nat.mul_add, Nat.add_sub_cancel' hc]
  omega
 rw [e2, Nat.add_mul_mod_self_right]
theorem Qh4 {q x : Nat} (h : x < q) : nv (beN x (QC q)) = x := by rw [QjX, Nat.mod_eq_of_lt (QiF h)]
theorem Qgw {q x : Nat} (l : List UInt8) : (beN x (QC q) ++ l).take (QC q) = beN x (QC q) := by
 rw [List.take_append_of_le_length (by rw [JE]; omega), List.take_of_length_le (by rw [JE]; omega)]
theorem Qgy {q x : Nat} (l : List UInt8) : (beN x (QC q) ++ l).drop (QC q) = l := by
 rw [List.drop_append_of_le_length (by rw [JE]; omega), List.drop_of_length_le (by rw [JE]; omega), List.nil_append]
theorem QdX {g : GroupD} (hg : okG g) (hm : ZU g g.g) {k c x s : Nat} {msg : List UInt8} (hc : c < g.q) (hs : s < g.q) (hsk : s = (k + c * x) % g.q) : Z1 g (g.g ^ x % g.p) msg (beN c (QC g.q) ++ beN s (QC g.q)) ↔ Z6 g (g.g ^ k % g.p) (g.g ^ x % g.p) msg = c := by
 unfold Z1
 rw [Qgw, Qgy, Qh4 hc, Qh4 hs, Qgz hg hm (Nat.le_of_lt hc) (by rw [hsk, Nat.mod_mod])]
 constructor
 ·exact fun h => h.2.2.2.2
 ·exact fun h => ⟨by rw [List.length_append, JE, JE]; omega, QiD hg hm x, hc, hs, h⟩
theorem UA {g : GroupD} (hg : okG g) (hm : ZU g g.g) (x : Nat) (msg : List UInt8) : Z1 g (g.g ^ x % g.p) msg (Jk g x msg) :=
 (QdX hg hm (k := QjQ g x msg) (Qbx hg _ _ _) (Nat.mod_lt _ (by have := hg.2.1; omega)) (Nat.add_mod_mod _ _ _)).2 rfl
section
variable {g : GroupD} {y : Nat} {msg sig : List UInt8}
theorem QjB (h : ((sig.length : Nat) : Int) ≠ 2 * ((QC g.q : Nat) : Int)) : false = decide (Z1 g y msg sig) := (dF9 fun hv => h (by have := hv.1; omega)).symm
theorem QjA (h : ¬ ZU g y) : false = decide (Z1 g y msg sig) := (dF9 fun hv => h hv.2.1).symm
theorem Qj9 (h : 0 ≤ Jo (nv (sig.take (QC g.q))) g.q) : false = decide (Z1 g y msg sig) := (dF9 fun hv => by rw [XB] at h; have := hv.2.2.1; omega).symm
theorem Qj8 (h : 0 ≤ Jo (nv (sig.drop (QC g.q))) g.q) : false = decide (Z1 g y msg sig) := (dF9 fun hv => by rw [XB] at h; have := hv.2.2.2.1; omega).symm
theorem QkW (h1 : ¬ ((sig.length : Nat) : Int) ≠ 2 * ((QC g.q : Nat) : Int)) (h2 : ZU g y) (h3 : ¬ 0 ≤ Jo (nv (sig.take (QC g.q))) g.q) (h4 : ¬ 0 ≤ Jo (nv (sig.drop (QC g.q))) g.q) {a : Nat} (ha : a = g.g ^ nv (sig.drop (QC g.q)) * y ^ (g.q - nv (sig.take (QC g.q))) % g.p) : decide (Jo (Z6 g a y msg) (nv (sig.take (QC g.q))) = 0) = decide (Z1 g y msg sig) := decide_eq_decide.2 (by
 rw [XB] at h3 h4
 rw [XC, ha]
 exact ⟨fun h => ⟨by omega, h2, by omega, by omega, h⟩, fun h => h.2.2.2.2⟩)
end
end Go.Proofs.Ytgfomedobfaidaa
end
section
set_option linter.unusedVariables false
set_option linter.unusedSimpArgs false
namespace Go.Proofs.Ytgfomedobfaidaa
open Go.RowKit
theorem XA {lab : Lab} {w : World} (hv : Ql lab w) {a : Nat} {v0 : Value} (h0 : Qi a lab w v0) {n : Nat} (ha : nw a ≤ 1000000) (hn : (QL a + 7) / 8 ≤ n) (hm : n ≤ 10000000) :
  Calls Try.prog 129 #[v0, i64 ((n : Nat) : Int)] w (fun e w' => ∃ v, e = .returned v ∧ (Zo (Qe (beN a n)) (Is (i64 0))) lab w' v ∧ Below w.heap.size w w') := by
 have h := QaB hv (size := ((n : Nat) : Int)) h0 ha (by omega)
 rw [if_neg (by omega), if_neg (by omega)] at h
 exact h
theorem V9 {lab : Lab} {w : World} (hv : Ql lab w) {a : Nat} {v0 : Value} (h0 : Qi a lab w v0) {n : Nat} (ha : nw a ≤ 1000000) (hn : (QL a + 7) / 8 ≤ n) (hm : n ≤ 10000000) :
  Calls Try.prog 129 #[v0, i64 ((n : Nat) : Int)] w (fun e w' => ∃ v, e = .returned v ∧ (Zo (QU (beN a n)) (Is (i64 0))) lab w' v ∧ Below w.heap.size w w') := by
 have h := Qdw hv (size := ((n : Nat) : Int)) h0 ha (by omega)
 rw [if_neg (by omega), if_neg (by omega)] at h
 exact h
end Go.Proofs.Ytgfomedobfaidaa
end
section
set_option linter.unusedVariables false
set_option linter.unusedSimpArgs false
namespace Go.Proofs.Ytgfomedobfaidaa
open Go.RowKit
theorem ZR {lab : Lab} {w : World} (hv : Ql lab w) {g : GroupD} {v0 : Value} (h0 : Js g lab w v0) (hG : okG g) :
  Calls Try.prog 135 #[v0] w (fun e w' => ∃ v, e = .returned v ∧ (Is (i64 ((QC g.q : Nat) : Int))) lab w' v ∧ Below w.heap.size w w') := by
 obtain ⟨L0, h0L, ⟨zU0, z00⟩, hX⟩ := QZ hv
 replace h0 := up z00 h0
 obtain ⟨b1, rfl⟩ := YH.shape h0
 have ⟨gp1, gq1, gpn, gqn, ggn, ghn⟩ := hG
 have hB := Zv g.q
 refine Qu Try.func135 rfl Try.ntmps135 (lB9 rfl) ?_
 refine rsr ?_
 refine sv (Qa.assign rfl) ?_
 refine nsr ?_
 refine sv (Qa.move rfl) ?_
 refine Q7 (V := JO g.q) QbT h0L rfl (Z8 h0L h0) fun v2 w3 q4 s5 h6 => ?_
 obtain ⟨b7, rfl⟩ := YH.shape q4
 refine Q7 (V := Qi g.q) QfE h6 rfl (Ye h6 q4) fun v8 w9 q10 s11 h12 => ?_
 obtain ⟨A13, c14, rfl⟩ := Qi.shape q10
 have z15 := Qi.cap q10
 refine Q7 (V := Is (i64 ((QL g.q : Nat) : Int))) X4 h12 rfl (ZZ h12 q10 (show nw g.q ≤ 1000000 from by omega)) fun v16 w17 q18 s19 h20 => ?_
 have q18 := Is.out q18; subst q18
 refine sv (Qa.add rfl rfl (by omega)) ?_
 refine sv (Qa.quo rfl rfl (by omega) (by omega) (by omega)) ?_
 refine sv (Qa.assign rfl) ?_
 refine Seq.next ?_
 have c21 := s11.trans s19
 have c22 := s5.trans c21
 obtain ⟨⟨zU, zo⟩, zb⟩ := hX c22 (by decide)
 refine Run.ret ?_
 exact Qm Try.results135 rfl ⟨_, rfl, (JF (by (unfold QC; omega)) _ _), zb⟩
theorem Qel {lab : Lab} {w : World} (hv : Ql lab w) {g : GroupD} {v0 : Value} (h0 : Js g lab w v0) (hG : okG g) :
  Calls Try.prog 140 #[v0] w (fun e w' => ∃ v, e = .returned v ∧ (Is (i64 (2 * ((QC g.q : Nat) : Int)))) lab w' v ∧ Below w.heap.size w w') := by
 obtain ⟨L0, h0L, ⟨zU0, z00⟩, hX⟩ := QZ hv
 replace h0 := up z00 h0
 obtain ⟨b1, rfl⟩ := YH.shape h0
 have ⟨gp1, gq1, gpn, gqn, ggn, ghn⟩ := hG
 have hW := U9 gqn
 refine Qu Try.func140 rfl Try.ntmps140 (lB9 rfl) ?_
 refine rsr ?_
 refine sv (Qa.assign rfl) ?_
 refine Seq.next ?_
 refine Run.seq ?_
 refine rsr ?_
 refine sv (Qa.move rfl) ?_
 refine sv (Jf Try.underlying56 rfl rfl) ?_
 refine Seq.next ?_
 refine Qc rfl rfl ?_
 refine Qg (fun _ _ h => h) ?_
 refine rsr ?_
 refine sv (Qa.move rfl) ?_
 refine Q7 (V := Is (i64 ((QC g.q : Nat) : Int))) K0 h0L rfl (ZR h0L h0 (show okG g from by assumption)) fun v2 w3 q4 s5 h6 => ?_
 have q4 := Is.out q4; subst q4
 refine sv (Qa.mul rfl rfl (by omega)) ?_
 refine sv (Qa.assign rfl) ?_
 refine Seq.next ?_
 obtain ⟨⟨zU, zo⟩, zb⟩ := hX s5 (by decide)
 refine Run.ret ?_
 exact Qm Try.results140 rfl ⟨_, rfl, rfl, zb⟩
theorem Qde {lab : Lab} {w : World} (hv : Ql lab w) {g : GroupD} {v0 : Value} (h0 : Js g lab w v0) {x : Nat} {v1 : Value} (h1 : Qi x lab w v1) :
  Calls Try.prog 139 #[v0, v1] w (fun e w' => ∃ v, e = .returned v ∧ (Is (.bool (decide (¬ JR g x)))) lab w' v ∧ Below w.heap.size w w') := by
 obtain ⟨L0, h0L, ⟨zU0, z00⟩, hX⟩ := QZ hv
 replace h0 := up z00 h0
 obtain ⟨b1, rfl⟩ := YH.shape h0
 replace h1 := up z00 h1
 obtain ⟨A2, c3, rfl⟩ := Qi.shape h1
 have z4 := Qi.cap h1
 refine Qu Try.func139 rfl Try.ntmps139 (lB9 rfl) ?_
 refine rsr ?_
 refine Yz 4 [.slice A2 (nw x) c3] h0L rfl rfl fun b7 L5 w6 o8 s9 h10 => ?_
 refine sv (Qa.assign rfl) ?_
 refine Seq.next ?_
 refine Run.seq ?_
 rcases Decidable.em (x = 0) with hp1 | hp1
 ·refine Run.open 14 (Φ := [.ex (.pointer (some ⟨b1, 0, none⟩)), .ex (.bool false), .ex (.bool false), .ex (.agg #[.slice A2 (nw x) c3]), .v (Is (.bool (decide (x = 0)))), .ex (.bool (decide (x = 0))), .ex (.bool (decide (x = 0))), .ex undef, .ex undef, .ex undef, .ex undef, .ex undef, .ex undef, .ex (.bool true)]) [(13, 18)] Je (by kernel_rfl) rfl h10 ⟨(oX [] rfl rfl rfl fun _ _ => Qa.move rfl), (oX [(0, 5)] rfl rfl rfl fun _ _ => Jf Try.underlying56 rfl rfl), (oX [(1, 6)] rfl rfl rfl fun _ _ => Qa.move rfl), ?_, ?_, ?_, (oX [(5, 10)] rfl rfl rfl fun _ _ => Qa.move rfl), (Ji rfl rfl rfl rfl (dT9 hp1) rfl rfl), (Ji rfl rfl rfl rfl (dT9 hp1) rfl rfl), (Ji rfl rfl rfl rfl (dT9 hp1) rfl rfl), (Ji rfl rfl rfl rfl (dT9 hp1) rfl rfl), (Ji rfl rfl rfl rfl (dT9 hp1) rfl rfl), (Ji rfl rfl rfl rfl (dT9 hp1) rfl rfl), (oX [(6, 11)] rfl rfl rfl fun _ _ => Qp rfl (dT9 hp1) rfl), trivial⟩ (fun L81 w82 h83 s84 => ?_)
  ·refine Q9 [] rfl rfl rfl rfl rfl rfl fun L56 w57 h58 s59 => ?_
   have o60 := o8.up s59
   exact ⟨_, Qb [.slice A2 (nw x) c3] o60 Qn rfl rfl, rfl⟩
  ·refine Zp [(3, 8)] rfl rfl rfl rfl rfl rfl X1 fun L61 w62 h63 s64 => ?_
   have c65 := s9.trans s64
   have q66 := up c65 h1
   exact ⟨_, rfl, (Zb h63 q66)⟩
  ·refine oP [(2, 7), (4, 9)] rfl rfl fun L67 w68 h69 s70 v71 q72 => ?_
   have q72 := Is.out q72; subst q72
   exact ⟨_, Ju rfl rfl, rfl⟩
  refine sv (Qa.assign rfl) ?_
  refine Seq.next ?_
  have c85 := s9.trans s84
  obtain ⟨⟨zU, zo⟩, zb⟩ := hX c85 (by decide)
  refine Run.ret ?_
  exact Qm Try.results139 rfl ⟨_, rfl, (Jj (by exact Qlp hp1) _ _), zb⟩
 refine Run.open 14 (Φ := [.ex (.pointer (some ⟨b1, 0, none⟩)), .ex (.bool false), .ex (.bool false), .ex (.agg #[.slice A2 (nw x) c3]), .v (Is (.bool (decide (x = 0)))), .ex (.bool (decide (x = 0))), .ex (.bool (decide (x = 0))), .ex (.agg #[.slice A2 (nw x) c3]), .ex (.pointer (some ⟨b1, 0, none⟩)), .v (JO g.q), .v (Qi g.q), .v (Is (i64 (Jo x g.q))), .ex (.bool (decide ((0 : Int) ≤ (Jo x g.q : Int)))), .ex (.bool (decide ((0 : Int) ≤ (Jo x g.q : Int))))]) [(13, 18)] Je (by kernel_rfl) rfl h10 ⟨(oX [] rfl rfl rfl fun _ _ => Qa.move rfl), (oX [(0, 5)] rfl rfl rfl fun _ _ => Jf Try.underlying56 rfl rfl), (oX [(1, 6)] rfl rfl rfl fun _ _ => Qa.move rfl), ?_, ?_, ?_, (oX [(5, 10)] rfl rfl rfl fun _ _ => Qa.move rfl), ?_, ?_, ?_, ?_, ?_, ?_, (oX [(6, 11), (12, 17)] rfl rfl rfl fun _ _ => Qp rfl (dF9 hp1) rfl), trivial⟩ (fun L162 w163 h164 s165 => ?_)
 ·refine Q9 [] rfl rfl rfl rfl rfl rfl fun L98 w99 h100 s101 => ?_
  have o102 := o8.up s101
  exact ⟨_, Qb [.slice A2 (nw x) c3] o102 Qn rfl rfl, rfl⟩
 ·refine Zp [(3, 8)] rfl rfl rfl rfl rfl rfl X1 fun L103 w104 h105 s106 => ?_
  have c107 := s9.trans s106
  have q108 := up c107 h1
  exact ⟨_, rfl, (Zb h105 q108)⟩
 ·refine oP [(2, 7), (4, 9)] rfl rfl fun L109 w110 h111 s112 v113 q114 => ?_
  have q114 := Is.out q114; subst q114
  exact ⟨_, Ju rfl rfl, rfl⟩
 ·refine Q9 [] rfl rfl rfl rfl (dF9 hp1) rfl fun L119 w120 h121 s122 => ?_
  have o123 := o8.up s122
  exact ⟨_, Qb [.slice A2 (nw x) c3] o123 Qn rfl rfl, rfl⟩
 ·refine Q9 [] rfl rfl rfl rfl (dF9 hp1) rfl fun L124 w125 h126 s127 => ?_
  exact ⟨_, Qa.move rfl, rfl⟩
 ·refine Zp [(8, 13)] rfl rfl rfl rfl (dF9 hp1) rfl QbT fun L128 w129 h130 s131 => ?_
  have c132 := s9.trans s131
  have q133 := up c132 h0
  exact ⟨_, rfl, (Z8 h130 q133)⟩
 ·refine Zp [(9, 14)] rfl rfl rfl rfl (dF9 hp1) rfl QfE fun L134 w135 h136 s137 v138 q139 => ?_
  obtain ⟨b140, rfl⟩ := YH.shape q139
  exact ⟨_, rfl, (Ye h136 q139)⟩
 ·refine Zp [(7, 12), (10, 15)] rfl rfl rfl rfl (dF9 hp1) rfl ZP fun L141 w142 h143 s144 v145 q146 => ?_
  obtain ⟨A147, c148, rfl⟩ := Qi.shape q146
  have z149 := Qi.cap q146
  have c150 := s9.trans s144
  have q151 := up c150 h1
  exact ⟨_, rfl, (J8 h143 q151 q146)⟩
 ·refine Q9 [(11, 16)] rfl rfl rfl rfl (dF9 hp1) rfl fun L152 w153 h154 s155 v156 q157 => ?_
  have q157 := Is.out q157; subst q157
  exact ⟨_, Qa.geq rfl rfl, rfl⟩
 refine sv (Qa.assign rfl) ?_
 refine Seq.next ?_
 have c166 := s9.trans s165
 obtain ⟨⟨zU, zo⟩, zb⟩ := hX c166 (by decide)
 refine Run.ret ?_
 exact Qm Try.results139 rfl ⟨_, rfl, (Jj (by exact Qlo hp1) _ _), zb⟩
theorem Kc {lab : Lab} {w : World} (hv : Ql lab w) {g : GroupD} {v0 : Value} (h0 : Js g lab w v0) {x : Nat} {v1 : Value} (h1 : Qi x lab w v1) (hG : okG g) (hx : nw x ≤ 1000) :
  Calls Try.prog 66 #[v0, v1] w (fun e w' => ∃ v, e = .returned v ∧ (Zo (Qi (if JR g x then g.g ^ x % g.p else 0)) (Is (i64 (if JR g x then 0 else 1)))) lab w' v ∧ Below w.heap.size w w') := by
 obtain ⟨L0, h0L, ⟨zU0, z00⟩, hX⟩ := QZ hv
 replace h0 := up z00 h0
 obtain ⟨b1, rfl⟩ := YH.shape h0
 replace h1 := up z00 h1
 obtain ⟨A2, c3, rfl⟩ := Qi.shape h1
 have z4 := Qi.cap h1
 have ⟨gp1, gq1, gpn, gqn, ggn, ghn⟩ := hG
 refine Qu Try.func66 rfl Try.ntmps66 (lB9 rfl) ?_
 refine rsr ?_
 refine Yz 4 [.slice A2 (nw x) c3] h0L rfl rfl fun b7 L5 w6 o8 s9 h10 => ?_
 refine QM 5 [.slice none 0 0] h10 Qn rfl fun b13 L11 w12 o14 s15 h16 => ?_
 refine sv (Qa.assign rfl) ?_
 refine Seq.next ?_
 refine Run.seq ?_
 refine rsr ?_
 refine sv (Qa.move rfl) ?_
 have o17 := o8.up s15
 refine sv (Qb [.slice A2 (nw x) c3] o17 Qn rfl rfl) ?_
 have c18 := s9.trans s15
 have q19 := up c18 h0
 have q20 := up c18 h1
 refine Q7 (V := Is (.bool (decide (¬ JR g x)))) QkA h16 rfl (Qde h16 q19 q20) fun v21 w22 q23 s24 h25 => ?_
 have q23 := Is.out q23; subst q23
 refine Seq.next ?_
 rcases Decidable.em (¬ JR g x) with hp1 | hp1
 ·refine Qc rfl (dT9 hp1) ?_
  refine rsr ?_
  refine sv (Qa.build [] [(0, 1)] [.slice none 0 0] Try.underlying60 Qn (by kernel_rfl) rfl (by kernel_rfl)) ?_
  have o26 := o14.up s24
  refine Q2 [.slice none 0 0] h25 o26 Qn rfl rfl rfl (lB9 rfl) rfl rfl fun w27 o28 s29 h30 => ?_
  refine sv (Qa.assign rfl) ?_
  refine Seq.next ?_
  have c31 := s24.trans s29
  have c32 := c18.trans c31
  obtain ⟨⟨zU, zo⟩, zb⟩ := hX c32 (by decide)
  refine Run.ret (Qr ?_)
  exact QP Try.results66 ⟨_, rfl, Q6 [.slice none 0 0] o28 Qn rfl⟩ rfl ⟨_, rfl, ⟨_, _, rfl, (Q1 (by rw [if_neg hp1]) (up zo (Qi.zero L11 w27))), (JF (by rw [if_neg hp1]) _ _)⟩, zb⟩
 refine Qc rfl (dF9 hp1) ?_
 refine Qg (fun _ _ h => h) ?_
 refine Run.seq ?_
 refine Run.open 5 (Φ := [.ex (.pointer (some ⟨b1, 0, none⟩)), .ex (.pointer (some ⟨b1, 0, none⟩)), .v (Qi g.g), .ex (.agg #[.slice A2 (nw x) c3]), .v (Qi (g.g ^ x % g.p))]) [(4, 14)] Je (by kernel_rfl) rfl h25 ⟨(oX [] rfl rfl rfl fun _ _ => Qa.move rfl), (oX [] rfl rfl rfl fun _ _ => Qa.move rfl), ?_, ?_, ?_, trivial⟩ (fun L65 w66 h67 s68 v69 q70 => ?_)
 ·refine oC [(1, 11)] rfl rfl Qhp fun L41 w42 h43 s44 => ?_
  have c45 := s24.trans s44
  have q46 := up c45 q19
  exact ⟨_, rfl, (Qad h43 q46)⟩
 ·refine oP [] rfl rfl fun L47 w48 h49 s50 => ?_
  have c52 := s24.trans s50
  have o51 := o17.up c52
  exact ⟨_, Qb [.slice A2 (nw x) c3] o51 Qn rfl rfl, rfl⟩
 ·refine oC [(0, 10), (2, 12), (3, 13)] rfl rfl Qji fun L53 w54 h55 s56 v57 q58 => ?_
  obtain ⟨A59, c60, rfl⟩ := Qi.shape q58
  have z61 := Qi.cap q58
  have c62 := s24.trans s56
  have q63 := up c62 q19
  have q64 := up c62 q20
  exact ⟨_, rfl, (Kr h55 q63 q58 q64 (show okG g from by assumption) (show nw g.g ≤ 1000 from by omega) (show nw x ≤ 1000 from by assumption))⟩
 obtain ⟨A71, c72, rfl⟩ := Qi.shape q70
 have z73 := Qi.cap q70
 have c75 := s24.trans s68
 have o74 := o14.up c75
 refine Q2 [.slice A71 (nw (g.g ^ x % g.p)) c72] h67 o74 Qn rfl rfl rfl (lB9 rfl) rfl rfl fun w76 o77 s78 h79 => ?_
 refine sv (Qa.assign rfl) ?_
 refine Seq.next ?_
 have c80 := c75.trans s78
 have c81 := c18.trans c80
 obtain ⟨⟨zU, zo⟩, zb⟩ := hX c81 (by decide)
 have q82 := up s78 q70
 refine Run.ret ?_
 exact QP Try.results66 ⟨_, rfl, Q6 [.slice A71 (nw (g.g ^ x % g.p)) c72] o77 Qn rfl⟩ rfl ⟨_, rfl, ⟨_, _, rfl, (Q1 (by rw [if_pos (Decidable.not_not.1 hp1)]) (up zo q82)), (JF (by rw [if_pos (Decidable.not_not.1 hp1)]) _ _)⟩, zb⟩
theorem Qbv {lab : Lab} {w : World} (hv : Ql lab w) {g : GroupD} {v0 : Value} (h0 : Js g lab w v0) {b : List UInt8} {v1 : Value} (h1 : Qe b lab w v1) (hG : okG g) (hb : List.length b ≤ 128) :
  Calls Try.prog 137 #[v0, v1] w (fun e w' => ∃ v, e = .returned v ∧ (Qi (nv b % g.q)) lab w' v ∧ Below w.heap.size w w') := by
 obtain ⟨L0, h0L, ⟨zU0, z00⟩, hX⟩ := QZ hv
 replace h0 := up z00 h0
 obtain ⟨b1, rfl⟩ := YH.shape h0
 replace h1 := up z00 h1
 obtain ⟨A2, c3, rfl⟩ := Qe.shape h1
 have z4 := Qe.cap h1
 have ⟨gp1, gq1, gpn, gqn, ggn, ghn⟩ := hG
 have hnv := Qi2 b
 refine Qu Try.func137 rfl Try.ntmps137 (lB9 rfl) ?_
 refine rsr ?_
 refine QM 5 [.slice none 0 0] h0L Qn rfl fun b7 L5 w6 o8 s9 h10 => ?_
 refine nsr ?_
 refine sv (Qa.move rfl) ?_
 have q11 := up s9 h1
 refine Q7 (V := Zo (Qi (nv b)) (Is (i64 0))) Qhn h10 rfl (ZY h10 q11 (show List.length b ≤ 128 from by assumption)) fun v12 w13 q14 s15 h16 => ?_
 obtain ⟨v17, v18, rfl, q19, q20⟩ := q14
 obtain ⟨A21, c22, rfl⟩ := Qi.shape q19
 have z23 := Qi.cap q19
 have q20 := Is.out q20; subst q20
 refine sv (Qa.move rfl) ?_
 refine sv (Qa.extract rfl rfl) ?_
 refine sv (Qa.extract rfl rfl) ?_
 refine QM 6 [.slice none 0 0] h16 Qn rfl fun b26 L24 w25 o27 s28 h29 => ?_
 refine Q2 [.slice A21 (nw (nv b)) c22] h29 o27 Qn rfl rfl rfl (lB9 rfl) rfl rfl fun w30 o31 s32 h33 => ?_
 refine sv (Qa.assign rfl) ?_
 refine Seq.next ?_
 refine Run.seq ?_
 refine Run.open 4 (Φ := [.ex (.pointer (some ⟨b1, 0, none⟩)), .v (JO g.q), .ex (.agg #[.slice A21 (nw (nv b)) c22]), .v (Qi ((nv b) % g.q))]) [(3, 15)] Je (by kernel_rfl) rfl h33 ⟨(oX [] rfl rfl rfl fun _ _ => Qa.move rfl), ?_, ?_, ?_, trivial⟩ (fun L62 w63 h64 s65 v66 q67 => ?_)
 ·refine oC [(0, 12)] rfl rfl QbT fun L38 w39 h40 s41 => ?_
  have c42 := s32.trans s41
  have c43 := s28.trans c42
  have c44 := s15.trans c43
  have c45 := s9.trans c44
  have q46 := up c45 h0
  exact ⟨_, rfl, (Z8 h40 q46)⟩
 ·refine oP [] rfl rfl fun L47 w48 h49 s50 => ?_
  have o51 := o31.up s50
  exact ⟨_, Qb [.slice A21 (nw (nv b)) c22] o51 Qn rfl rfl, rfl⟩
 ·refine oC [(1, 13), (2, 14)] rfl rfl VQ fun L52 w53 h54 s55 v56 q57 => ?_
  obtain ⟨b58, rfl⟩ := YH.shape q57
  have c59 := s32.trans s55
  have c60 := s28.trans c59
  have q61 := up c60 q19
  exact ⟨_, rfl, (Yk h54 q57 q61 (show 1 < g.q from by assumption) (show nw (nv b) ≤ 999999 from by omega) (show nw g.q ≤ 1000000 from by omega))⟩
 obtain ⟨A68, c69, rfl⟩ := Qi.shape q67
 have z70 := Qi.cap q67
 have c72 := s32.trans s65
 have c73 := s28.trans c72
 have c74 := s15.trans c73
 have o71 := o8.up c74
 refine Q2 [.slice A68 (nw ((nv b) % g.q)) c69] h64 o71 Qn rfl rfl rfl (lB9 rfl) rfl rfl fun w75 o76 s77 h78 => ?_
 refine Seq.next ?_
 have c79 := c74.trans s77
 have c80 := s9.trans c79
 obtain ⟨⟨zU, zo⟩, zb⟩ := hX c80 (by decide)
 have q81 := up s77 q67
 refine Run.ret ?_
 exact Qm Try.results137 ⟨_, rfl, Q6 [.slice A68 (nw ((nv b) % g.q)) c69] o76 Qn rfl⟩ ⟨_, rfl, (Q1 (by with_reducible rfl) (up zo q81)), zb⟩
theorem YD {lab : Lab} {w : World} (hv : Ql lab w) {g : GroupD} {v0 : Value} (h0 : Js g lab w v0) {a : Nat} {v1 : Value} (h1 : Qi a lab w v1) {y : Nat} {v2 : Value} (h2 : Qi y lab w v2) {msg : List UInt8} {v3 : Value} (h3 : Qe msg lab w v3) (hG : okG g) (ha : nw a ≤ 1000) (hy : nw y ≤ 1000) (hm : List.length msg ≤ 4000000) :
  Calls Try.prog 138 #[v0, v1, v2, v3] w (fun e w' => ∃ v, e = .returned v ∧ (Qi (Z6 g a y msg)) lab w' v ∧ Below w.heap.size w w') := by
 obtain ⟨L0, h0L, ⟨zU0, z00⟩, hX⟩ := QZ hv
 replace h0 := up z00 h0
 obtain ⟨b1, rfl⟩ := YH.shape h0
 replace h1 := up z00 h1
 obtain ⟨A2, c3, rfl⟩ := Qi.shape h1
 have z4 := Qi.cap h1
 replace h2 := up z00 h2
 obtain ⟨A5, c6, rfl⟩ := Qi.shape h2
 have z7 := Qi.cap h2
 replace h3 := up z00 h3
 obtain ⟨A8, c9, rfl⟩ := Qe.shape h3
 have z10 := Qe.cap h3
 have ⟨gp1, gq1, gpn, gqn, ggn, ghn⟩ := hG
 refine Qu Try.func138 rfl Try.ntmps138 (lB9 rfl) ?_
 refine rsr ?_
 refine Yz 6 [.slice A2 (nw a) c3] h0L rfl rfl fun b13 L11 w12 o14 s15 h16 => ?_
 refine Yz 7 [.slice A5 (nw y) c6] h16 rfl rfl fun b19 L17 w18 o20 s21 h22 => ?_
 refine QM 9 [.slice none 0 0] h22 Qn rfl fun b25 L23 w24 o26 s27 h28 => ?_
 refine nsr ?_
 refine sv (Qa.move rfl) ?_
 have c30 := s21.trans s27
 have o29 := o14.up c30
 refine sv (Qb [.slice A2 (nw a) c3] o29 Qn rfl rfl) ?_
 have c31 := s15.trans c30
 have q32 := up c31 h0
 have q33 := up c31 h1
 refine Q7 (V := Zo (Qe (if ZU g a then beN a g.size else [])) (Is (i64 (if ZU g a then 0 else 3)))) Qkt h28 rfl (Kt h28 q32 q33 (show okG g from by assumption) (show nw a ≤ 1000 from by assumption)) fun v34 w35 q36 s37 h38 => ?_
 obtain ⟨v39, v40, rfl, q41, q42⟩ := q36
 obtain ⟨A43, c44, rfl⟩ := Qe.shape q41
 have z45 := Qe.cap q41
 have q42 := Is.out q42; subst q42
 refine sv (Qa.move rfl) ?_
 refine sv (Qa.extract rfl rfl) ?_
 refine sv (Qa.extract rfl rfl) ?_
 refine sv (Qa.assign rfl) ?_
 refine sv (Qa.assign rfl) ?_
 refine nsr ?_
 refine sv (Qa.move rfl) ?_
 have c47 := s27.trans s37
 have o46 := o20.up c47
 refine sv (Qb [.slice A5 (nw y) c6] o46 Qn rfl rfl) ?_
 have q48 := up s37 q32
 have c49 := c31.trans s37
 have q50 := up c49 h2
 refine Q7 (V := Zo (Qe (if ZU g y then beN y g.size else [])) (Is (i64 (if ZU g y then 0 else 3)))) Qkt h38 rfl (Kt h38 q48 q50 (show okG g from by assumption) (show nw y ≤ 1000 from by assumption)) fun v51 w52 q53 s54 h55 => ?_
 obtain ⟨v56, v57, rfl, q58, q59⟩ := q53
 obtain ⟨A60, c61, rfl⟩ := Qe.shape q58
 have z62 := Qe.cap q58
 have q59 := Is.out q59; subst q59
 refine sv (Qa.move rfl) ?_
 refine sv (Qa.extract rfl rfl) ?_
 refine sv (Qa.extract rfl rfl) ?_
 refine sv (Qa.assign rfl) ?_
 refine sv (Qa.assign rfl) ?_
 refine nsr ?_
 refine sv (Qa.move rfl) ?_
 refine Qby (k := 27) [(0, .int .u8 115), (1, .int .u8 105), (2, .int .u8 103), (3, .int .u8 110)] [.int .u8 115, .int .u8 105, .int .u8 103, .int .u8 110] h55 Try.underlying22 ty5 (by decide) (by decide) rfl (by kernel_rfl) fun L63 w64 b65 o66 s67 h68 => ?_
 refine Qew (k := 27) (xs := [(115 : UInt8), (105 : UInt8), (103 : UInt8), (110 : UInt8)]) Try.underlying22 Try.underlying5 h68 o66 rfl rfl (by decide) fun w69 q70 s71 h72 => ?_
 refine sv (Qa.move rfl) ?_
 refine sv (Qa.move rfl) ?_
 refine sv (Qa.move rfl) ?_
 have q73 := QU.v q70
 refine QR [(0, .slice (some ⟨b65, 0, none⟩) 4 4), (1, .slice A43 (List.length (if ZU g a then beN a g.size else [])) c44), (2, .slice A60 (List.length (if ZU g y then beN y g.size else [])) c61), (3, .slice A8 (List.length msg) c9)] [.slice (some ⟨b65, 0, none⟩) 4 4, .slice A43 (List.length (if ZU g a then beN a g.size else [])) c44, .slice A60 (List.length (if ZU g y then beN y g.size else [])) c61, .slice A8 (List.length msg) c9] h72 Try.underlying34 XO (by decide) (by decide) rfl (by kernel_rfl) (by decide) ?_
 intro w74 b75 r76 s77 hv78
 have q80 := up s77 q73
 have c81 := s71.trans s77
 have c82 := s67.trans c81
 have c83 := s54.trans c82
 have q84 := up c83 q41
 have q85 := up c82 q58
 have c86 := c49.trans c83
 have q87 := up c86 h3
 have q79 : JB [[(115 : UInt8), (105 : UInt8), (103 : UInt8), (110 : UInt8)], if ZU g a then beN a g.size else [], if ZU g y then beN y g.size else [], msg] (Q5 L63 27) w74 (.slice (some ⟨b75, 0, none⟩) 4 4) := JB.mk 4 rfl (Nat.le_refl _) (by decide) r76 rfl (Qap.get ⟨q80, q84, q85, q87, trivial⟩)
 have q88 := up c83 q48
 refine Q7 (V := Qi (Qkp g.q ([[(115 : UInt8), (105 : UInt8), (103 : UInt8), (110 : UInt8)], if ZU g a then beN a g.size else [], if ZU g y then beN y g.size else [], msg]))) Qly hv78 rfl (Ks hv78 q88 q79 (show okG g from by assumption) (show List.length (X5 ([[(115 : UInt8), (105 : UInt8), (103 : UInt8), (110 : UInt8)], if ZU g a then beN a g.size else [], if ZU g y then beN y g.size else [], msg])) ≤ 5000000 from by exact Qis hG _ _ _ hm)) fun v89 w90 q91 s92 h93 => ?_
 obtain ⟨A94, c95, rfl⟩ := Qi.shape q91
 have z96 := Qi.cap q91
 have c98 := c83.trans s92
 have c99 := s37.trans c98
 have o97 := o26.up c99
 refine Q2 [.slice A94 (nw (Qkp g.q ([[(115 : UInt8), (105 : UInt8), (103 : UInt8), (110 : UInt8)], if ZU g a then beN a g.size else [], if ZU g y then beN y g.size else [], msg]))) c95] h93 o97 Qn rfl rfl rfl (lB9 rfl) rfl rfl fun w100 o101 s102 h103 => ?_
 refine Seq.next ?_
 have c104 := s92.trans s102
 have c105 := c86.trans c104
 obtain ⟨⟨zU, zo⟩, zb⟩ := hX c105 (by decide)
 have q106 := up s102 q91
 refine Run.ret ?_
 exact Qm Try.results138 ⟨_, rfl, Q6 [.slice A94 (nw (Qkp g.q ([[(115 : UInt8), (105 : UInt8), (103 : UInt8), (110 : UInt8)], if ZU g a then beN a g.size else [], if ZU g y then beN y g.size else [], msg]))) c95] o101 Qn rfl⟩ ⟨_, rfl, (Q1 (by rfl) (up zo q106)), zb⟩
end Go.Proofs.Ytgfomedobfaidaa
end
section
set_option linter.unusedVariables false
set_option linter.unusedSimpArgs false
namespace Go.Proofs.Ytgfomedobfaidaa
open Go.RowKit
theorem QaG {p : Prop} [Decidable p] (h : ¬ (if p then (0 : Int) else 1) ≠ 0) : p := by
 by_cases hp : p
 ·exact hp
 ·rw [if_neg hp] at h; exact absurd (by decide) h
theorem QiP {p : Prop} [Decidable p] (h : (if p then (0 : Int) else 1) ≠ 0) : ¬ p := fun hp => h (if_pos hp)
section
variable {g : GroupD} (hG : okG g)
include hG
theorem Vy (a : Nat) : nw (a % g.q) ≤ 32 := Nat.le_trans (QW (Nat.le_of_lt (Nat.mod_lt a (by have := hG.2.1; omega)))) hG.2.2.2.1
theorem Zx (a : Nat) : nw (a % g.p) ≤ 32 := Nat.le_trans (QW (Nat.le_of_lt (Nat.mod_lt a (by have := hG.1; omega)))) hG.2.2.1
theorem Qfn {c : Prop} [Decidable c] (a : Nat) : nw (if c then a % g.p else 0) ≤ 32 := by
 split
 ·exact Zx hG a
 ·rw [Yl]; omega
theorem UH (a y : Nat) (msg : List UInt8) : nw (Z6 g a y msg) ≤ 32 := Nat.le_trans (QW (Nat.le_of_lt (Qbx hG a y msg))) hG.2.2.2.1
theorem Qev (a y : Nat) (msg : List UInt8) : (QL (Z6 g a y msg) + 7) / 8 ≤ QC g.q := K5 (Qbx hG a y msg)
theorem QeW (a : Nat) : (QL (a % g.q) + 7) / 8 ≤ QC g.q := K5 (Nat.mod_lt a (by have := hG.2.1; omega))
end
theorem Qc2 {b : List UInt8} (h : b.length ≤ 128) : nw (nv b) ≤ 33 := by have := Qi2 b; omega
theorem Qh3 : nw 1 ≤ 32 := by have := Um (x := 1) (by omega); omega
theorem Qhx {a b n : Nat} (ha : nw a ≤ n) (hb : nw b ≤ n) : ∀ x ∈ [a, b], nw x ≤ n := fun x hx => by
 simp at hx
 rcases hx with rfl | rfl <;> assumption
theorem Qjb {a b : Nat} (h : ¬ 0 ≤ Jo a b) : a < b := by rw [XB] at h; omega
theorem Qir {g : GroupD} {x : Nat} {msg : List UInt8} (hk : JR g x) (h0 : nv (ZH (beN x (QC g.q)) msg 64) % g.q = 0) :
  beN (Z6 g (g.g ^ 1 % g.p) (if JR g x then g.g ^ x % g.p else 0) msg) (QC g.q) ++ beN ((1 + Z6 g (g.g ^ 1 % g.p) (if JR g x then g.g ^ x % g.p else 0) msg * x % g.q) % g.q) (QC g.q) = if JR g x then Jk g x msg else [] := by
 rw [if_pos hk, if_pos hk]; unfold Jk Qle QkR QjQ; rw [if_pos (show QkQ g x msg = 0 from h0)]
theorem Qgx {g : GroupD} {x : Nat} {msg : List UInt8} (hk : JR g x) (h0 : ¬ nv (ZH (beN x (QC g.q)) msg 64) % g.q = 0) :
  beN (Z6 g (g.g ^ (nv (ZH (beN x (QC g.q)) msg 64) % g.q) % g.p) (if JR g x then g.g ^ x % g.p else 0) msg) (QC g.q) ++ beN ((nv (ZH (beN x (QC g.q)) msg 64) % g.q + Z6 g (g.g ^ (nv (ZH (beN x (QC g.q)) msg 64) % g.q) % g.p) (if JR g x then g.g ^ x % g.p else 0) msg * x % g.q) % g.q) (QC g.q) = if JR g x then Jk g x msg else [] := by
 rw [if_pos hk, if_pos hk]; unfold Jk Qle QkR QjQ; rw [if_neg (show ¬ QkQ g x msg = 0 from h0)]; rfl
theorem Qj7 {g : GroupD} {y : Nat} {msg sig : List UInt8} (h1 : ¬ ((sig.length : Nat) : Int) ≠ 2 * ((QC g.q : Nat) : Int)) (h2 : (!decide (ZU g y)) = false) (h3 : ¬ 0 ≤ Jo (nv (sig.take (QC g.q))) g.q) (h4 : ¬ 0 ≤ Jo (nv (sig.drop (QC g.q))) g.q) :
  decide (Jo (Z6 g (if [g.g, y].length = [nv (sig.drop (QC g.q)), g.q - nv (sig.take (QC g.q))].length then YP [g.g, y] [nv (sig.drop (QC g.q)), g.q - nv (sig.take (QC g.q))] % g.p else 0) y msg) (nv (sig.take (QC g.q))) = 0) = decide (Z1 g y msg sig) :=
 QkW h1 (ZW h2) h3 h4 (by rw [if_pos (by simp), Qe7])
end Go.Proofs.Ytgfomedobfaidaa
end
section
set_option linter.unusedVariables false
set_option linter.unusedSimpArgs false
namespace Go.Proofs.Ytgfomedobfaidaa
open Go.RowKit
theorem Qem {lab : Lab} {w : World} (hv : Ql lab w) {g : GroupD} {v0 : Value} (h0 : Js g lab w v0) {x : Nat} {v1 : Value} (h1 : Qi x lab w v1) {msg : List UInt8} {v2 : Value} (h2 : Qe msg lab w v2) (hG : okG g) (hx : nw x ≤ 1000) (hm : List.length msg ≤ 4000000) :
  Calls Try.prog 65 #[v0, v1, v2] w (fun e w' => ∃ v, e = .returned v ∧ (Zo (Qe (if JR g x then Jk g x msg else [])) (Is (i64 (if JR g x then 0 else 1)))) lab w' v ∧ Below w.heap.size w w') := by
 obtain ⟨L0, h0L, ⟨zU0, z00⟩, hX⟩ := QZ hv
 replace h0 := up z00 h0
 obtain ⟨b1, rfl⟩ := YH.shape h0
 replace h1 := up z00 h1
 obtain ⟨A2, c3, rfl⟩ := Qi.shape h1
 have z4 := Qi.cap h1
 replace h2 := up z00 h2
 obtain ⟨A5, c6, rfl⟩ := Qe.shape h2
 have z7 := Qe.cap h2
 have ⟨gp1, gq1, gpn, gqn, ggn, ghn⟩ := hG
 have hW := U9 gqn
 refine Qu Try.func65 rfl Try.ntmps65 (lB9 rfl) ?_
 refine rsr ?_
 refine Yz 5 [.slice A2 (nw x) c3] h0L rfl rfl fun b10 L8 w9 o11 s12 h13 => ?_
 refine sv (Qa.assign rfl) ?_
 refine sv (Qa.assign rfl) ?_
 refine nsr ?_
 refine sv (Qa.move rfl) ?_
 refine sv (Qb [.slice A2 (nw x) c3] o11 Qn rfl rfl) ?_
 have q14 := up s12 h0
 have q15 := up s12 h1
 refine Q7 (V := Zo (Qi (if JR g x then g.g ^ x % g.p else 0)) (Is (i64 (if JR g x then 0 else 1)))) Qho h13 rfl (Kc h13 q14 q15 (show okG g from by assumption) (show nw x ≤ 1000 from by assumption)) fun v16 w17 q18 s19 h20 => ?_
 obtain ⟨v21, v22, rfl, q23, q24⟩ := q18
 obtain ⟨A25, c26, rfl⟩ := Qi.shape q23
 have z27 := Qi.cap q23
 have q24 := Is.out q24; subst q24
 refine sv (Qa.move rfl) ?_
 refine sv (Qa.extract rfl rfl) ?_
 refine sv (Qa.extract rfl rfl) ?_
 refine QM 9 [.slice none 0 0] h20 Qn rfl fun b30 L28 w29 o31 s32 h33 => ?_
 refine Q2 [.slice A25 (nw (if JR g x then g.g ^ x % g.p else 0)) c26] h33 o31 Qn rfl rfl rfl (lB9 rfl) rfl rfl fun w34 o35 s36 h37 => ?_
 refine sv (Qa.assign rfl) ?_
 refine Seq.next ?_
 refine Run.seq ?_
 refine rsr ?_
 refine sv (Qa.move rfl) ?_
 refine sv (Qa.neq rfl rfl) ?_
 refine Seq.next ?_
 rcases Decidable.em ((if JR g x then 0 else 1 : Int) ≠ (0 : Int)) with hp1 | hp1
 ·refine Qc rfl (dT9 hp1) ?_
  refine rsr ?_
  refine sv (Qa.move rfl) ?_
  refine sv (Qa.assign rfl) ?_
  refine sv (Qa.assign rfl) ?_
  refine Seq.next ?_
  have c38 := s32.trans s36
  have c39 := s19.trans c38
  have c40 := s12.trans c39
  obtain ⟨⟨zU, zo⟩, zb⟩ := hX c40 (by decide)
  refine Run.ret (Qr ?_)
  exact QP Try.results65 rfl rfl ⟨_, rfl, ⟨_, _, rfl, (Jc (by exact (if_neg (QiP hp1)).symm) (Qe.nil _ _)), rfl⟩, zb⟩
 refine Qc rfl (dF9 hp1) ?_
 refine Qg (fun _ _ h => h) ?_
 refine Run.seq ?_
 refine Run.open 9 (Φ := [.ex (.agg #[.slice A2 (nw x) c3]), .ex (.pointer (some ⟨b1, 0, none⟩)), .v (Is (i64 ((QC g.q : Nat) : Int))), .v (Zo (Qe (beN x (QC g.q))) (Is (i64 0))), .v (Zo (Qe (beN x (QC g.q))) (Is (i64 0))), .v (Qe (beN x (QC g.q))), .ex (i64 0), .v (Qe (beN x (QC g.q))), .ex (i64 0)]) [(7, 10)] Je (by kernel_rfl) rfl h37 ⟨?_, (oX [] rfl rfl rfl fun _ _ => Qa.move rfl), ?_, ?_, ?_, ?_, ?_, ?_, (oX [(6, 35)] rfl rfl rfl fun _ _ => Qa.assign rfl), trivial⟩ (fun L123 w124 h125 s126 v127 q128 => ?_)
 ·refine oP [] rfl rfl fun L41 w42 h43 s44 => ?_
  have c46 := s36.trans s44
  have c47 := s32.trans c46
  have c48 := s19.trans c47
  have o45 := o11.up c48
  exact ⟨_, Qb [.slice A2 (nw x) c3] o45 Qn rfl rfl, rfl⟩
 ·refine oC [(1, 31)] rfl rfl K0 fun L53 w54 h55 s56 => ?_
  have c57 := s36.trans s56
  have c58 := s32.trans c57
  have c59 := s19.trans c58
  have q60 := up c59 q14
  exact ⟨_, rfl, (ZR h55 q60 (show okG g from by assumption))⟩
 ·refine oC [(0, 30), (2, 32)] rfl rfl Uz fun L61 w62 h63 s64 v65 q66 => ?_
  have q66 := Is.out q66; subst q66
  have c67 := s36.trans s64
  have c68 := s32.trans c67
  have c69 := s19.trans c68
  have q70 := up c69 q15
  exact ⟨_, rfl, (XA h63 (n := (QC g.q)) q70 (show nw x ≤ 1000000 from by omega) (show (QL x + 7) / 8 ≤ (QC g.q) from by exact K5 (QaG hp1).2) (show (QC g.q) ≤ 10000000 from by omega))⟩
 ·refine oP [(3, 33)] rfl rfl fun L71 w72 h73 s74 v75 q76 => ?_
  obtain ⟨v77, v78, rfl, q79, q80⟩ := q76
  obtain ⟨A81, c82, rfl⟩ := Qe.shape q79
  have z83 := Qe.cap q79
  have q80 := Is.out q80; subst q80
  exact ⟨_, Qa.move rfl, ⟨_, _, rfl, q79, rfl⟩⟩
 ·refine oP [(4, 29)] rfl rfl fun L84 w85 h86 s87 v88 q89 => ?_
  obtain ⟨v90, v91, rfl, q92, q93⟩ := q89
  obtain ⟨A94, c95, rfl⟩ := Qe.shape q92
  have z96 := Qe.cap q92
  have q93 := Is.out q93; subst q93
  exact ⟨_, Qa.extract rfl rfl, q92⟩
 ·refine oP [(4, 29)] rfl rfl fun L97 w98 h99 s100 v101 q102 => ?_
  obtain ⟨v103, v104, rfl, q105, q106⟩ := q102
  obtain ⟨A107, c108, rfl⟩ := Qe.shape q105
  have z109 := Qe.cap q105
  have q106 := Is.out q106; subst q106
  exact ⟨_, Qa.extract rfl rfl, rfl⟩
 ·refine oP [(5, 34)] rfl rfl fun L110 w111 h112 s113 v114 q115 => ?_
  obtain ⟨A116, c117, rfl⟩ := Qe.shape q115
  have z118 := Qe.cap q115
  exact ⟨_, Qa.assign rfl, q115⟩
 obtain ⟨A129, c130, rfl⟩ := Qe.shape q128
 have z131 := Qe.cap q128
 refine nsr ?_
 refine sv (Qa.move rfl) ?_
 refine sv (Qa.move rfl) ?_
 have c132 := s36.trans s126
 have c133 := s32.trans c132
 have c134 := s19.trans c133
 have c135 := s12.trans c134
 have q136 := up c135 h2
 refine Q7 (V := Zo (Qe (ZH (beN x (QC g.q)) msg 64)) (Is (i64 0))) QhI h125 rfl (QaD h125 (n := 64) q128 q136 (show List.length (beN x (QC g.q)) ≤ 10000000 from by (rw [JE]; omega)) (show List.length msg ≤ 8000000 from by omega) (show 64 ≤ 8160 from by omega)) fun v137 w138 q139 s140 h141 => ?_
 obtain ⟨v142, v143, rfl, q144, q145⟩ := q139
 obtain ⟨A146, c147, rfl⟩ := Qe.shape q144
 have z148 := Qe.cap q144
 have q145 := Is.out q145; subst q145
 refine sv (Qa.move rfl) ?_
 refine sv (Qa.extract rfl rfl) ?_
 refine sv (Qa.extract rfl rfl) ?_
 refine sv (Qa.assign rfl) ?_
 refine sv (Qa.assign rfl) ?_
 refine Seq.next ?_
 refine Run.seq ?_
 refine rsr ?_
 refine sv (Qa.move rfl) ?_
 refine sv (Qa.neq (a := 0) (b := 0) rfl rfl) ?_
 refine Seq.next ?_
 refine Qc rfl rfl ?_
 refine Qg (fun _ _ h => h) ?_
 refine rsr ?_
 refine sv (Qa.move rfl) ?_
 refine sv (Qa.move rfl) ?_
 have c149 := c134.trans s140
 have q150 := up c149 q14
 refine Q7 (V := Qi (nv (ZH (beN x (QC g.q)) msg 64) % g.q)) QkB h141 rfl (Qbv h141 q150 q144 (show okG g from by assumption) (show List.length (ZH (beN x (QC g.q)) msg 64) ≤ 128 from by (rw [QbN]; omega))) fun v151 w152 q153 s154 h155 => ?_
 obtain ⟨A156, c157, rfl⟩ := Qi.shape q153
 have z158 := Qi.cap q153
 refine QM 14 [.slice none 0 0] h155 Qn rfl fun b161 L159 w160 o162 s163 h164 => ?_
 refine Q2 [.slice A156 (nw (nv (ZH (beN x (QC g.q)) msg 64) % g.q)) c157] h164 o162 Qn rfl rfl rfl (lB9 rfl) rfl rfl fun w165 o166 s167 h168 => ?_
 refine Seq.next ?_
 refine Run.seq ?_
 refine rsr ?_
 refine sv (Qb [.slice A156 (nw (nv (ZH (beN x (QC g.q)) msg 64) % g.q)) c157] o166 Qn rfl rfl) ?_
 have c169 := s163.trans s167
 have q170 := up c169 q153
 refine Q7 (V := Is (.bool (decide ((nv (ZH (beN x (QC g.q)) msg 64) % g.q) = 0)))) X1 h168 rfl (Zb h168 q170) fun v171 w172 q173 s174 h175 => ?_
 have q173 := Is.out q173; subst q173
 refine Seq.next ?_
 rcases Decidable.em ((nv (ZH (beN x (QC g.q)) msg 64) % g.q) = 0) with hp2 | hp2
 ·refine Qc rfl (dT9 hp2) ?_
  refine Run.region ?_
  refine Q7 (V := Qi 1) JN h175 rfl (QX h175 (x := 1) (show 1 < 18446744073709551616 from by omega)) fun v176 w177 q178 s179 h180 => ?_
  obtain ⟨A181, c182, rfl⟩ := Qi.shape q178
  have z183 := Qi.cap q178
  have c185 := s174.trans s179
  have o184 := o166.up c185
  refine Q2 [.slice A181 (nw 1) c182] h180 o184 Qn rfl rfl rfl (lB9 rfl) rfl rfl fun w186 o187 s188 h189 => ?_
  refine nsr ?_
  refine sv (Qa.move rfl) ?_
  have c190 := c185.trans s188
  have c191 := c169.trans c190
  have c192 := s154.trans c191
  have q193 := up c192 q150
  refine Q7 (V := JO g.q) QbT h189 rfl (Z8 h189 q193) fun v194 w195 q196 s197 h198 => ?_
  obtain ⟨b199, rfl⟩ := YH.shape q196
  refine sv (Qa.assign rfl) ?_
  refine Seq.next ?_
  refine Run.seq ?_
  refine Run.open 10 (Φ := [.ex (.pointer (some ⟨b1, 0, none⟩)), .ex (.pointer (some ⟨b1, 0, none⟩)), .ex (.pointer (some ⟨b1, 0, none⟩)), .v (Qi g.g), .ex (.agg #[.slice A181 (nw 1) c182]), .v (Qi (g.g ^ 1 % g.p)), .ex (.agg #[.slice A25 (nw (if JR g x then g.g ^ x % g.p else 0)) c26]), .ex (.slice A5 (List.length msg) c6), .v (Qi (Z6 g (g.g ^ 1 % g.p) (if JR g x then g.g ^ x % g.p else 0) msg)), .v (Qjv 16 60 [.slice none 0 0])]) [(8, 61), (9, 15)] Je (by kernel_rfl) rfl h198 ⟨(oX [] rfl rfl rfl fun _ _ => Qa.move rfl), (oX [] rfl rfl rfl fun _ _ => Qa.move rfl), (oX [] rfl rfl rfl fun _ _ => Qa.move rfl), ?_, ?_, ?_, ?_, (oX [] rfl rfl rfl fun _ _ => Qa.move rfl), ?_, (oN [] rfl rfl fun L266 w267 h268 s269 => ⟨_, _, _, Qa.alloc Qn, h268.alloc _ 16, Stp.alloc _ 16, ⟨_, rfl, Own.alloc _ _ _ _ 16⟩⟩), trivial⟩ (fun L270 w271 h272 s273 v274 q275 v279 q280 => ?_)
  ·refine oC [(2, 55)] rfl rfl Qhp fun L212 w213 h214 s215 => ?_
   have c216 := s197.trans s215
   have q217 := up c216 q193
   exact ⟨_, rfl, (Qad h214 q217)⟩
  ·refine oP [] rfl rfl fun L218 w219 h220 s221 => ?_
   have c223 := s197.trans s221
   have o222 := o187.up c223
   exact ⟨_, Qb [.slice A181 (nw 1) c182] o222 Qn rfl rfl, rfl⟩
  ·refine oC [(1, 54), (3, 56), (4, 57)] rfl rfl Qji fun L224 w225 h226 s227 v228 q229 => ?_
   obtain ⟨A230, c231, rfl⟩ := Qi.shape q229
   have z232 := Qi.cap q229
   have c233 := s197.trans s227
   have q234 := up c233 q193
   have c235 := s188.trans c233
   have q236 := up c235 q178
   exact ⟨_, rfl, (Kr h226 q234 q229 q236 (show okG g from by assumption) (show nw g.g ≤ 1000 from by omega) (show nw 1 ≤ 1000 from by exact Nat.le_trans Qh3 (by omega)))⟩
  ·refine oP [] rfl rfl fun L237 w238 h239 s240 => ?_
   have c242 := s197.trans s240
   have c243 := c192.trans c242
   have c244 := s140.trans c243
   have c245 := s126.trans c244
   have o241 := o35.up c245
   exact ⟨_, Qb [.slice A25 (nw (if JR g x then g.g ^ x % g.p else 0)) c26] o241 Qn rfl rfl, rfl⟩
  ·refine oC [(0, 53), (5, 58), (6, 59), (7, 60)] rfl rfl QfG fun L250 w251 h252 s253 v254 q255 => ?_
   obtain ⟨A256, c257, rfl⟩ := Qi.shape q255
   have z258 := Qi.cap q255
   have c259 := s197.trans s253
   have q260 := up c259 q193
   have c261 := c192.trans c259
   have c262 := s140.trans c261
   have c263 := c133.trans c262
   have q264 := up c263 q23
   have q265 := up c262 q136
   exact ⟨_, rfl, (YD h252 q260 q255 q264 q265 (show okG g from by assumption) (show nw (g.g ^ 1 % g.p) ≤ 1000 from by exact Nat.le_trans (Zx hG _) (by omega)) (show nw (if JR g x then g.g ^ x % g.p else 0) ≤ 1000 from by exact Nat.le_trans (Qfn hG _) (by omega)) (show List.length msg ≤ 4000000 from by assumption))⟩
  obtain ⟨A276, c277, rfl⟩ := Qi.shape q275
  have z278 := Qi.cap q275
  obtain ⟨b281, rfl, o282⟩ := q280
  refine Q2 [.slice A276 (nw (Z6 g (g.g ^ 1 % g.p) (if JR g x then g.g ^ x % g.p else 0) msg)) c277] h272 o282 Qn rfl rfl rfl (lB9 rfl) rfl rfl fun w283 o284 s285 h286 => ?_
  refine Seq.next ?_
  refine Run.seq ?_
  refine Run.open 9 (Φ := [.ex (.agg #[.slice A276 (nw (Z6 g (g.g ^ 1 % g.p) (if JR g x then g.g ^ x % g.p else 0) msg)) c277]), .ex (.pointer (some ⟨b1, 0, none⟩)), .v (Is (i64 ((QC g.q : Nat) : Int))), .v (Zo (QU (beN (Z6 g (g.g ^ 1 % g.p) (if JR g x then g.g ^ x % g.p else 0) msg) (QC g.q))) (Is (i64 0))), .v (Zo (QU (beN (Z6 g (g.g ^ 1 % g.p) (if JR g x then g.g ^ x % g.p else 0) msg) (QC g.q))) (Is (i64 0))), .v (QU (beN (Z6 g (g.g ^ 1 % g.p) (if JR g x then g.g ^ x % g.p else 0) msg) (QC g.q))), .ex (i64 0), .v (QU (beN (Z6 g (g.g ^ 1 % g.p) (if JR g x then g.g ^ x % g.p else 0) msg) (QC g.q))), .ex (i64 0)]) [(7, 16)] Je (by kernel_rfl) rfl h286 ⟨?_, (oX [] rfl rfl rfl fun _ _ => Qa.move rfl), ?_, ?_, ?_, ?_, ?_, ?_, (oX [(6, 68)] rfl rfl rfl fun _ _ => Qa.assign rfl), trivial⟩ (fun L360 w361 h362 s363 v364 q365 => ?_)
  ·refine oP [] rfl rfl fun L287 w288 h289 s290 => ?_
   have o291 := o284.up s290
   exact ⟨_, Qb [.slice A276 (nw (Z6 g (g.g ^ 1 % g.p) (if JR g x then g.g ^ x % g.p else 0) msg)) c277] o291 Qn rfl rfl, rfl⟩
  ·refine oC [(1, 64)] rfl rfl K0 fun L296 w297 h298 s299 => ?_
   have c300 := s285.trans s299
   have c301 := s273.trans c300
   have c302 := s197.trans c301
   have q303 := up c302 q193
   exact ⟨_, rfl, (ZR h298 q303 (show okG g from by assumption))⟩
  ·refine oC [(0, 63), (2, 65)] rfl rfl Uz fun L304 w305 h306 s307 v308 q309 => ?_
   have q309 := Is.out q309; subst q309
   have c310 := s285.trans s307
   have q311 := up c310 q275
   exact ⟨_, rfl, (V9 h306 (n := (QC g.q)) q311 (show nw (Z6 g (g.g ^ 1 % g.p) (if JR g x then g.g ^ x % g.p else 0) msg) ≤ 1000000 from by exact Nat.le_trans (UH hG _ _ _) (by omega)) (show (QL (Z6 g (g.g ^ 1 % g.p) (if JR g x then g.g ^ x % g.p else 0) msg) + 7) / 8 ≤ (QC g.q) from by exact Qev hG _ _ _) (show (QC g.q) ≤ 10000000 from by omega))⟩
  ·refine oP [(3, 66)] rfl rfl fun L312 w313 h314 s315 v316 q317 => ?_
   obtain ⟨v318, v319, rfl, q320, q321⟩ := q317
   obtain ⟨A322, rfl⟩ := QU.shape q320
   have z323 := Qe.cap (QU.v q320)
   have q321 := Is.out q321; subst q321
   exact ⟨_, Qa.move rfl, ⟨_, _, rfl, q320, rfl⟩⟩
  ·refine oP [(4, 62)] rfl rfl fun L324 w325 h326 s327 v328 q329 => ?_
   obtain ⟨v330, v331, rfl, q332, q333⟩ := q329
   obtain ⟨A334, rfl⟩ := QU.shape q332
   have z335 := Qe.cap (QU.v q332)
   have q333 := Is.out q333; subst q333
   exact ⟨_, Qa.extract rfl rfl, q332⟩
  ·refine oP [(4, 62)] rfl rfl fun L336 w337 h338 s339 v340 q341 => ?_
   obtain ⟨v342, v343, rfl, q344, q345⟩ := q341
   obtain ⟨A346, rfl⟩ := QU.shape q344
   have z347 := Qe.cap (QU.v q344)
   have q345 := Is.out q345; subst q345
   exact ⟨_, Qa.extract rfl rfl, rfl⟩
  ·refine oP [(5, 67)] rfl rfl fun L348 w349 h350 s351 v352 q353 => ?_
   obtain ⟨A354, rfl⟩ := QU.shape q353
   have z355 := Qe.cap (QU.v q353)
   exact ⟨_, Qa.assign rfl, q353⟩
  obtain ⟨A366, rfl⟩ := QU.shape q365
  have z367 := Qe.cap (QU.v q365)
  refine Seq.next ?_
  refine Run.seq ?_
  refine Run.open 15 (Φ := [.ex (.pointer (some ⟨b199, 0, none⟩)), .ex (.agg #[.slice A181 (nw 1) c182]), .ex (.pointer (some ⟨b199, 0, none⟩)), .ex (.agg #[.slice A276 (nw (Z6 g (g.g ^ 1 % g.p) (if JR g x then g.g ^ x % g.p else 0) msg)) c277]), .ex (.agg #[.slice A2 (nw x) c3]), .v (Qi ((Z6 g (g.g ^ 1 % g.p) (if JR g x then g.g ^ x % g.p else 0) msg) * x % g.q)), .v (Qi ((1 + ((Z6 g (g.g ^ 1 % g.p) (if JR g x then g.g ^ x % g.p else 0) msg) * x % g.q)) % g.q)), .ex (.pointer (some ⟨b1, 0, none⟩)), .v (Is (i64 ((QC g.q : Nat) : Int))), .v (Zo (Qe (beN ((1 + ((Z6 g (g.g ^ 1 % g.p) (if JR g x then g.g ^ x % g.p else 0) msg) * x % g.q)) % g.q) (QC g.q))) (Is (i64 0))), .v (Zo (Qe (beN ((1 + ((Z6 g (g.g ^ 1 % g.p) (if JR g x then g.g ^ x % g.p else 0) msg) * x % g.q)) % g.q) (QC g.q))) (Is (i64 0))), .v (Qe (beN ((1 + ((Z6 g (g.g ^ 1 % g.p) (if JR g x then g.g ^ x % g.p else 0) msg) * x % g.q)) % g.q) (QC g.q))), .ex (i64 0), .v (Qe (beN ((1 + ((Z6 g (g.g ^ 1 % g.p) (if JR g x then g.g ^ x % g.p else 0) msg) * x % g.q)) % g.q) (QC g.q))), .ex (i64 0)]) [(13, 18)] Je (by kernel_rfl) rfl h362 ⟨(oX [] rfl rfl rfl fun _ _ => Qa.move rfl), ?_, (oX [] rfl rfl rfl fun _ _ => Qa.move rfl), ?_, ?_, ?_, ?_, (oX [] rfl rfl rfl fun _ _ => Qa.move rfl), ?_, ?_, ?_, ?_, ?_, ?_, (oX [(12, 81)] rfl rfl rfl fun _ _ => Qa.assign rfl), trivial⟩ (fun L507 w508 h509 s510 v511 q512 => ?_)
  ·refine oP [] rfl rfl fun L372 w373 h374 s375 => ?_
   have c377 := s363.trans s375
   have c378 := s285.trans c377
   have c379 := s273.trans c378
   have c380 := s197.trans c379
   have o376 := o187.up c380
   exact ⟨_, Qb [.slice A181 (nw 1) c182] o376 Qn rfl rfl, rfl⟩
  ·refine oP [] rfl rfl fun L385 w386 h387 s388 => ?_
   have c390 := s363.trans s388
   have o389 := o284.up c390
   exact ⟨_, Qb [.slice A276 (nw (Z6 g (g.g ^ 1 % g.p) (if JR g x then g.g ^ x % g.p else 0) msg)) c277] o389 Qn rfl rfl, rfl⟩
  ·refine oP [] rfl rfl fun L391 w392 h393 s394 => ?_
   have c396 := s363.trans s394
   have c397 := s285.trans c396
   have c398 := s273.trans c397
   have c399 := s197.trans c398
   have c400 := c192.trans c399
   have c401 := c149.trans c400
   have o395 := o11.up c401
   exact ⟨_, Qb [.slice A2 (nw x) c3] o395 Qn rfl rfl, rfl⟩
  ·refine oC [(2, 72), (3, 73), (4, 74)] rfl rfl Qai fun L402 w403 h404 s405 => ?_
   have c406 := s363.trans s405
   have c407 := s285.trans c406
   have c408 := s273.trans c407
   have q409 := up c408 q196
   have q410 := up c407 q275
   have c411 := s197.trans c408
   have c412 := c192.trans c411
   have c413 := c149.trans c412
   have q414 := up c413 q15
   exact ⟨_, rfl, (Ys h404 q409 q410 q414 (show 1 < g.q from by assumption) (show nw (Z6 g (g.g ^ 1 % g.p) (if JR g x then g.g ^ x % g.p else 0) msg) ≤ 1000 from by exact Nat.le_trans (UH hG _ _ _) (by omega)) (show nw x ≤ 1000 from by assumption) (show nw g.q ≤ 1000 from by omega))⟩
  ·refine oC [(0, 70), (1, 71), (5, 75)] rfl rfl Qkr fun L415 w416 h417 s418 v419 q420 => ?_
   obtain ⟨A421, c422, rfl⟩ := Qi.shape q420
   have z423 := Qi.cap q420
   have c424 := s363.trans s418
   have c425 := s285.trans c424
   have c426 := s273.trans c425
   have q427 := up c426 q196
   have c428 := s197.trans c426
   have c429 := s188.trans c428
   have q430 := up c429 q178
   exact ⟨_, rfl, (Qcq h417 q427 q430 q420 (show 1 < g.q from by assumption) (show nw 1 ≤ 1000 from by exact Nat.le_trans Qh3 (by omega)) (show nw ((Z6 g (g.g ^ 1 % g.p) (if JR g x then g.g ^ x % g.p else 0) msg) * x % g.q) ≤ 1000 from by exact Nat.le_trans (Vy hG _) (by omega)) (show nw g.q ≤ 1000 from by omega))⟩
  ·refine oC [(7, 77)] rfl rfl K0 fun L435 w436 h437 s438 => ?_
   have c439 := s363.trans s438
   have c440 := s285.trans c439
   have c441 := s273.trans c440
   have c442 := s197.trans c441
   have q443 := up c442 q193
   exact ⟨_, rfl, (ZR h437 q443 (show okG g from by assumption))⟩
  ·refine oC [(6, 76), (8, 78)] rfl rfl Uz fun L444 w445 h446 s447 v448 q449 v453 q454 => ?_
   obtain ⟨A450, c451, rfl⟩ := Qi.shape q449
   have z452 := Qi.cap q449
   have q454 := Is.out q454; subst q454
   exact ⟨_, rfl, (XA h446 (n := (QC g.q)) q449 (show nw ((1 + ((Z6 g (g.g ^ 1 % g.p) (if JR g x then g.g ^ x % g.p else 0) msg) * x % g.q)) % g.q) ≤ 1000000 from by exact Nat.le_trans (Vy hG _) (by omega)) (show (QL ((1 + ((Z6 g (g.g ^ 1 % g.p) (if JR g x then g.g ^ x % g.p else 0) msg) * x % g.q)) % g.q) + 7) / 8 ≤ (QC g.q) from by exact QeW hG _) (show (QC g.q) ≤ 10000000 from by omega))⟩
  ·refine oP [(9, 79)] rfl rfl fun L455 w456 h457 s458 v459 q460 => ?_
   obtain ⟨v461, v462, rfl, q463, q464⟩ := q460
   obtain ⟨A465, c466, rfl⟩ := Qe.shape q463
   have z467 := Qe.cap q463
   have q464 := Is.out q464; subst q464
   exact ⟨_, Qa.move rfl, ⟨_, _, rfl, q463, rfl⟩⟩
  ·refine oP [(10, 69)] rfl rfl fun L468 w469 h470 s471 v472 q473 => ?_
   obtain ⟨v474, v475, rfl, q476, q477⟩ := q473
   obtain ⟨A478, c479, rfl⟩ := Qe.shape q476
   have z480 := Qe.cap q476
   have q477 := Is.out q477; subst q477
   exact ⟨_, Qa.extract rfl rfl, q476⟩
  ·refine oP [(10, 69)] rfl rfl fun L481 w482 h483 s484 v485 q486 => ?_
   obtain ⟨v487, v488, rfl, q489, q490⟩ := q486
   obtain ⟨A491, c492, rfl⟩ := Qe.shape q489
   have z493 := Qe.cap q489
   have q490 := Is.out q490; subst q490
   exact ⟨_, Qa.extract rfl rfl, rfl⟩
  ·refine oP [(11, 80)] rfl rfl fun L494 w495 h496 s497 v498 q499 => ?_
   obtain ⟨A500, c501, rfl⟩ := Qe.shape q499
   have z502 := Qe.cap q499
   exact ⟨_, Qa.assign rfl, q499⟩
  obtain ⟨A513, c514, rfl⟩ := Qe.shape q512
  have z515 := Qe.cap q512
  refine nsr ?_
  refine sv (Qa.move rfl) ?_
  refine sv (Qa.move rfl) ?_
  have q516 := up s510 q365
  refine Qcp (beN ((1 + ((Z6 g (g.g ^ 1 % g.p) (if JR g x then g.g ^ x % g.p else 0) msg) * x % g.q)) % g.q) (QC g.q)) h509 q516 Try.underlying22 ty5 rfl rfl rfl (by rfl) (Qe.row q512) (by (simp only [JE] at *; omega)) (by (simp only [JE] at *; omega)) fun w517 v518 q519 s520 h521 => ?_
  obtain ⟨A522, c523, rfl⟩ := Qe.shape q519
  have z524 := Qe.cap q519
  refine sv (Qa.assign rfl) ?_
  refine sv (Qa.assign rfl) ?_
  refine Seq.next ?_
  have c525 := s510.trans s520
  have c526 := s363.trans c525
  have c527 := s285.trans c526
  have c528 := s273.trans c527
  have c529 := s197.trans c528
  have c530 := c192.trans c529
  have c531 := s140.trans c530
  have c532 := c135.trans c531
  obtain ⟨⟨zU, zo⟩, zb⟩ := hX c532 (by decide)
  refine Run.ret ?_
  exact QP Try.results65 rfl rfl ⟨_, rfl, ⟨_, _, rfl, (Jc (by ((have h9 := Qir (QaG hp1) hp2; exact h9))) (up zo q519)), (JF (by exact (if_pos (QaG hp1)).symm) _ _)⟩, zb⟩
 refine Qc rfl (dF9 hp2) ?_
 refine Qg (fun _ _ h => h) ?_
 refine rsr ?_
 refine sv (Qa.move rfl) ?_
 have c533 := c169.trans s174
 have c534 := s154.trans c533
 have q535 := up c534 q150
 refine Q7 (V := JO g.q) QbT h175 rfl (Z8 h175 q535) fun v536 w537 q538 s539 h540 => ?_
 obtain ⟨b541, rfl⟩ := YH.shape q538
 refine sv (Qa.assign rfl) ?_
 refine Seq.next ?_
 refine Run.seq ?_
 refine Run.open 10 (Φ := [.ex (.pointer (some ⟨b1, 0, none⟩)), .ex (.pointer (some ⟨b1, 0, none⟩)), .ex (.pointer (some ⟨b1, 0, none⟩)), .v (Qi g.g), .ex (.agg #[.slice A156 (nw (nv (ZH (beN x (QC g.q)) msg 64) % g.q)) c157]), .v (Qi (g.g ^ (nv (ZH (beN x (QC g.q)) msg 64) % g.q) % g.p)), .ex (.agg #[.slice A25 (nw (if JR g x then g.g ^ x % g.p else 0)) c26]), .ex (.slice A5 (List.length msg) c6), .v (Qi (Z6 g (g.g ^ (nv (ZH (beN x (QC g.q)) msg 64) % g.q) % g.p) (if JR g x then g.g ^ x % g.p else 0) msg)), .v (Qjv 16 60 [.slice none 0 0])]) [(8, 61), (9, 15)] Je (by kernel_rfl) rfl h540 ⟨(oX [] rfl rfl rfl fun _ _ => Qa.move rfl), (oX [] rfl rfl rfl fun _ _ => Qa.move rfl), (oX [] rfl rfl rfl fun _ _ => Qa.move rfl), ?_, ?_, ?_, ?_, (oX [] rfl rfl rfl fun _ _ => Qa.move rfl), ?_, (oN [] rfl rfl fun L609 w610 h611 s612 => ⟨_, _, _, Qa.alloc Qn, h611.alloc _ 16, Stp.alloc _ 16, ⟨_, rfl, Own.alloc _ _ _ _ 16⟩⟩), trivial⟩ (fun L613 w614 h615 s616 v617 q618 v622 q623 => ?_)
 ·refine oC [(2, 55)] rfl rfl Qhp fun L554 w555 h556 s557 => ?_
  have c558 := s539.trans s557
  have q559 := up c558 q535
  exact ⟨_, rfl, (Qad h556 q559)⟩
 ·refine oP [] rfl rfl fun L560 w561 h562 s563 => ?_
  have c565 := s539.trans s563
  have c566 := s174.trans c565
  have o564 := o166.up c566
  exact ⟨_, Qb [.slice A156 (nw (nv (ZH (beN x (QC g.q)) msg 64) % g.q)) c157] o564 Qn rfl rfl, rfl⟩
 ·refine oC [(1, 54), (3, 56), (4, 57)] rfl rfl Qji fun L567 w568 h569 s570 v571 q572 => ?_
  obtain ⟨A573, c574, rfl⟩ := Qi.shape q572
  have z575 := Qi.cap q572
  have c576 := s539.trans s570
  have q577 := up c576 q535
  have c578 := s174.trans c576
  have q579 := up c578 q170
  exact ⟨_, rfl, (Kr h569 q577 q572 q579 (show okG g from by assumption) (show nw g.g ≤ 1000 from by omega) (show nw (nv (ZH (beN x (QC g.q)) msg 64) % g.q) ≤ 1000 from by exact Nat.le_trans (Vy hG _) (by omega)))⟩
 ·refine oP [] rfl rfl fun L580 w581 h582 s583 => ?_
  have c585 := s539.trans s583
  have c586 := c534.trans c585
  have c587 := s140.trans c586
  have c588 := s126.trans c587
  have o584 := o35.up c588
  exact ⟨_, Qb [.slice A25 (nw (if JR g x then g.g ^ x % g.p else 0)) c26] o584 Qn rfl rfl, rfl⟩
 ·refine oC [(0, 53), (5, 58), (6, 59), (7, 60)] rfl rfl QfG fun L593 w594 h595 s596 v597 q598 => ?_
  obtain ⟨A599, c600, rfl⟩ := Qi.shape q598
  have z601 := Qi.cap q598
  have c602 := s539.trans s596
  have q603 := up c602 q535
  have c604 := c534.trans c602
  have c605 := s140.trans c604
  have c606 := c133.trans c605
  have q607 := up c606 q23
  have q608 := up c605 q136
  exact ⟨_, rfl, (YD h595 q603 q598 q607 q608 (show okG g from by assumption) (show nw (g.g ^ (nv (ZH (beN x (QC g.q)) msg 64) % g.q) % g.p) ≤ 1000 from by exact Nat.le_trans (Zx hG _) (by omega)) (show nw (if JR g x then g.g ^ x % g.p else 0) ≤ 1000 from by exact Nat.le_trans (Qfn hG _) (by omega)) (show List.length msg ≤ 4000000 from by assumption))⟩
 obtain ⟨A619, c620, rfl⟩ := Qi.shape q618
 have z621 := Qi.cap q618
 obtain ⟨b624, rfl, o625⟩ := q623
 refine Q2 [.slice A619 (nw (Z6 g (g.g ^ (nv (ZH (beN x (QC g.q)) msg 64) % g.q) % g.p) (if JR g x then g.g ^ x % g.p else 0) msg)) c620] h615 o625 Qn rfl rfl rfl (lB9 rfl) rfl rfl fun w626 o627 s628 h629 => ?_
 refine Seq.next ?_
 refine Run.seq ?_
 refine Run.open 9 (Φ := [.ex (.agg #[.slice A619 (nw (Z6 g (g.g ^ (nv (ZH (beN x (QC g.q)) msg 64) % g.q) % g.p) (if JR g x then g.g ^ x % g.p else 0) msg)) c620]), .ex (.pointer (some ⟨b1, 0, none⟩)), .v (Is (i64 ((QC g.q : Nat) : Int))), .v (Zo (QU (beN (Z6 g (g.g ^ (nv (ZH (beN x (QC g.q)) msg 64) % g.q) % g.p) (if JR g x then g.g ^ x % g.p else 0) msg) (QC g.q))) (Is (i64 0))), .v (Zo (QU (beN (Z6 g (g.g ^ (nv (ZH (beN x (QC g.q)) msg 64) % g.q) % g.p) (if JR g x then g.g ^ x % g.p else 0) msg) (QC g.q))) (Is (i64 0))), .v (QU (beN (Z6 g (g.g ^ (nv (ZH (beN x (QC g.q)) msg 64) % g.q) % g.p) (if JR g x then g.g ^ x % g.p else 0) msg) (QC g.q))), .ex (i64 0), .v (QU (beN (Z6 g (g.g ^ (nv (ZH (beN x (QC g.q)) msg 64) % g.q) % g.p) (if JR g x then g.g ^ x % g.p else 0) msg) (QC g.q))), .ex (i64 0)]) [(7, 16)] Je (by kernel_rfl) rfl h629 ⟨?_, (oX [] rfl rfl rfl fun _ _ => Qa.move rfl), ?_, ?_, ?_, ?_, ?_, ?_, (oX [(6, 68)] rfl rfl rfl fun _ _ => Qa.assign rfl), trivial⟩ (fun L703 w704 h705 s706 v707 q708 => ?_)
 ·refine oP [] rfl rfl fun L630 w631 h632 s633 => ?_
  have o634 := o627.up s633
  exact ⟨_, Qb [.slice A619 (nw (Z6 g (g.g ^ (nv (ZH (beN x (QC g.q)) msg 64) % g.q) % g.p) (if JR g x then g.g ^ x % g.p else 0) msg)) c620] o634 Qn rfl rfl, rfl⟩
 ·refine oC [(1, 64)] rfl rfl K0 fun L639 w640 h641 s642 => ?_
  have c643 := s628.trans s642
  have c644 := s616.trans c643
  have c645 := s539.trans c644
  have q646 := up c645 q535
  exact ⟨_, rfl, (ZR h641 q646 (show okG g from by assumption))⟩
 ·refine oC [(0, 63), (2, 65)] rfl rfl Uz fun L647 w648 h649 s650 v651 q652 => ?_
  have q652 := Is.out q652; subst q652
  have c653 := s628.trans s650
  have q654 := up c653 q618
  exact ⟨_, rfl, (V9 h649 (n := (QC g.q)) q654 (show nw (Z6 g (g.g ^ (nv (ZH (beN x (QC g.q)) msg 64) % g.q) % g.p) (if JR g x then g.g ^ x % g.p else 0) msg) ≤ 1000000 from by exact Nat.le_trans (UH hG _ _ _) (by omega)) (show (QL (Z6 g (g.g ^ (nv (ZH (beN x (QC g.q)) msg 64) % g.q) % g.p) (if JR g x then g.g ^ x % g.p else 0) msg) + 7) / 8 ≤ (QC g.q) from by exact Qev hG _ _ _) (show (QC g.q) ≤ 10000000 from by omega))⟩
 ·refine oP [(3, 66)] rfl rfl fun L655 w656 h657 s658 v659 q660 => ?_
  obtain ⟨v661, v662, rfl, q663, q664⟩ := q660
  obtain ⟨A665, rfl⟩ := QU.shape q663
  have z666 := Qe.cap (QU.v q663)
  have q664 := Is.out q664; subst q664
  exact ⟨_, Qa.move rfl, ⟨_, _, rfl, q663, rfl⟩⟩
 ·refine oP [(4, 62)] rfl rfl fun L667 w668 h669 s670 v671 q672 => ?_
  obtain ⟨v673, v674, rfl, q675, q676⟩ := q672
  obtain ⟨A677, rfl⟩ := QU.shape q675
  have z678 := Qe.cap (QU.v q675)
  have q676 := Is.out q676; subst q676
  exact ⟨_, Qa.extract rfl rfl, q675⟩
 ·refine oP [(4, 62)] rfl rfl fun L679 w680 h681 s682 v683 q684 => ?_
  obtain ⟨v685, v686, rfl, q687, q688⟩ := q684
  obtain ⟨A689, rfl⟩ := QU.shape q687
  have z690 := Qe.cap (QU.v q687)
  have q688 := Is.out q688; subst q688
  exact ⟨_, Qa.extract rfl rfl, rfl⟩
 ·refine oP [(5, 67)] rfl rfl fun L691 w692 h693 s694 v695 q696 => ?_
  obtain ⟨A697, rfl⟩ := QU.shape q696
  have z698 := Qe.cap (QU.v q696)
  exact ⟨_, Qa.assign rfl, q696⟩
 obtain ⟨A709, rfl⟩ := QU.shape q708
 have z710 := Qe.cap (QU.v q708)
 refine Seq.next ?_
 refine Run.seq ?_
 refine Run.open 15 (Φ := [.ex (.pointer (some ⟨b541, 0, none⟩)), .ex (.agg #[.slice A156 (nw (nv (ZH (beN x (QC g.q)) msg 64) % g.q)) c157]), .ex (.pointer (some ⟨b541, 0, none⟩)), .ex (.agg #[.slice A619 (nw (Z6 g (g.g ^ (nv (ZH (beN x (QC g.q)) msg 64) % g.q) % g.p) (if JR g x then g.g ^ x % g.p else 0) msg)) c620]), .ex (.agg #[.slice A2 (nw x) c3]), .v (Qi ((Z6 g (g.g ^ (nv (ZH (beN x (QC g.q)) msg 64) % g.q) % g.p) (if JR g x then g.g ^ x % g.p else 0) msg) * x % g.q)), .v (Qi (((nv (ZH (beN x (QC g.q)) msg 64) % g.q) + ((Z6 g (g.g ^ (nv (ZH (beN x (QC g.q)) msg 64) % g.q) % g.p) (if JR g x then g.g ^ x % g.p else 0) msg) * x % g.q)) % g.q)), .ex (.pointer (some ⟨b1, 0, none⟩)), .v (Is (i64 ((QC g.q : Nat) : Int))), .v (Zo (Qe (beN (((nv (ZH (beN x (QC g.q)) msg 64) % g.q) + ((Z6 g (g.g ^ (nv (ZH (beN x (QC g.q)) msg 64) % g.q) % g.p) (if JR g x then g.g ^ x % g.p else 0) msg) * x % g.q)) % g.q) (QC g.q))) (Is (i64 0))), .v (Zo (Qe (beN (((nv (ZH (beN x (QC g.q)) msg 64) % g.q) + ((Z6 g (g.g ^ (nv (ZH (beN x (QC g.q)) msg 64) % g.q) % g.p) (if JR g x then g.g ^ x % g.p else 0) msg) * x % g.q)) % g.q) (QC g.q))) (Is (i64 0))), .v (Qe (beN (((nv (ZH (beN x (QC g.q)) msg 64) % g.q) + ((Z6 g (g.g ^ (nv (ZH (beN x (QC g.q)) msg 64) % g.q) % g.p) (if JR g x then g.g ^ x % g.p else 0) msg) * x % g.q)) % g.q) (QC g.q))), .ex (i64 0), .v (Qe (beN (((nv (ZH (beN x (QC g.q)) msg 64) % g.q) + ((Z6 g (g.g ^ (nv (ZH (beN x (QC g.q)) msg 64) % g.q) % g.p) (if JR g x then g.g ^ x % g.p else 0) msg) * x % g.q)) % g.q) (QC g.q))), .ex (i64 0)]) [(13, 18)] Je (by kernel_rfl) rfl h705 ⟨(oX [] rfl rfl rfl fun _ _ => Qa.move rfl), ?_, (oX [] rfl rfl rfl fun _ _ => Qa.move rfl), ?_, ?_, ?_, ?_, (oX [] rfl rfl rfl fun _ _ => Qa.move rfl), ?_, ?_, ?_, ?_, ?_, ?_, (oX [(12, 81)] rfl rfl rfl fun _ _ => Qa.assign rfl), trivial⟩ (fun L851 w852 h853 s854 v855 q856 => ?_)
 ·refine oP [] rfl rfl fun L715 w716 h717 s718 => ?_
  have c720 := s706.trans s718
  have c721 := s628.trans c720
  have c722 := s616.trans c721
  have c723 := s539.trans c722
  have c724 := s174.trans c723
  have o719 := o166.up c724
  exact ⟨_, Qb [.slice A156 (nw (nv (ZH (beN x (QC g.q)) msg 64) % g.q)) c157] o719 Qn rfl rfl, rfl⟩
 ·refine oP [] rfl rfl fun L729 w730 h731 s732 => ?_
  have c734 := s706.trans s732
  have o733 := o627.up c734
  exact ⟨_, Qb [.slice A619 (nw (Z6 g (g.g ^ (nv (ZH (beN x (QC g.q)) msg 64) % g.q) % g.p) (if JR g x then g.g ^ x % g.p else 0) msg)) c620] o733 Qn rfl rfl, rfl⟩
 ·refine oP [] rfl rfl fun L735 w736 h737 s738 => ?_
  have c740 := s706.trans s738
  have c741 := s628.trans c740
  have c742 := s616.trans c741
  have c743 := s539.trans c742
  have c744 := c534.trans c743
  have c745 := c149.trans c744
  have o739 := o11.up c745
  exact ⟨_, Qb [.slice A2 (nw x) c3] o739 Qn rfl rfl, rfl⟩
 ·refine oC [(2, 72), (3, 73), (4, 74)] rfl rfl Qai fun L746 w747 h748 s749 => ?_
  have c750 := s706.trans s749
  have c751 := s628.trans c750
  have c752 := s616.trans c751
  have q753 := up c752 q538
  have q754 := up c751 q618
  have c755 := s539.trans c752
  have c756 := c534.trans c755
  have c757 := c149.trans c756
  have q758 := up c757 q15
  exact ⟨_, rfl, (Ys h748 q753 q754 q758 (show 1 < g.q from by assumption) (show nw (Z6 g (g.g ^ (nv (ZH (beN x (QC g.q)) msg 64) % g.q) % g.p) (if JR g x then g.g ^ x % g.p else 0) msg) ≤ 1000 from by exact Nat.le_trans (UH hG _ _ _) (by omega)) (show nw x ≤ 1000 from by assumption) (show nw g.q ≤ 1000 from by omega))⟩
 ·refine oC [(0, 70), (1, 71), (5, 75)] rfl rfl Qkr fun L759 w760 h761 s762 v763 q764 => ?_
  obtain ⟨A765, c766, rfl⟩ := Qi.shape q764
  have z767 := Qi.cap q764
  have c768 := s706.trans s762
  have c769 := s628.trans c768
  have c770 := s616.trans c769
  have q771 := up c770 q538
  have c772 := s539.trans c770
  have c773 := s174.trans c772
  have q774 := up c773 q170
  exact ⟨_, rfl, (Qcq h761 q771 q774 q764 (show 1 < g.q from by assumption) (show nw (nv (ZH (beN x (QC g.q)) msg 64) % g.q) ≤ 1000 from by exact Nat.le_trans (Vy hG _) (by omega)) (show nw ((Z6 g (g.g ^ (nv (ZH (beN x (QC g.q)) msg 64) % g.q) % g.p) (if JR g x then g.g ^ x % g.p else 0) msg) * x % g.q) ≤ 1000 from by exact Nat.le_trans (Vy hG _) (by omega)) (show nw g.q ≤ 1000 from by omega))⟩
 ·refine oC [(7, 77)] rfl rfl K0 fun L779 w780 h781 s782 => ?_
  have c783 := s706.trans s782
  have c784 := s628.trans c783
  have c785 := s616.trans c784
  have c786 := s539.trans c785
  have q787 := up c786 q535
  exact ⟨_, rfl, (ZR h781 q787 (show okG g from by assumption))⟩
 ·refine oC [(6, 76), (8, 78)] rfl rfl Uz fun L788 w789 h790 s791 v792 q793 v797 q798 => ?_
  obtain ⟨A794, c795, rfl⟩ := Qi.shape q793
  have z796 := Qi.cap q793
  have q798 := Is.out q798; subst q798
  exact ⟨_, rfl, (XA h790 (n := (QC g.q)) q793 (show nw (((nv (ZH (beN x (QC g.q)) msg 64) % g.q) + ((Z6 g (g.g ^ (nv (ZH (beN x (QC g.q)) msg 64) % g.q) % g.p) (if JR g x then g.g ^ x % g.p else 0) msg) * x % g.q)) % g.q) ≤ 1000000 from by exact Nat.le_trans (Vy hG _) (by omega)) (show (QL (((nv (ZH (beN x (QC g.q)) msg 64) % g.q) + ((Z6 g (g.g ^ (nv (ZH (beN x (QC g.q)) msg 64) % g.q) % g.p) (if JR g x then g.g ^ x % g.p else 0) msg) * x % g.q)) % g.q) + 7) / 8 ≤ (QC g.q) from by exact QeW hG _) (show (QC g.q) ≤ 10000000 from by omega))⟩
 ·refine oP [(9, 79)] rfl rfl fun L799 w800 h801 s802 v803 q804 => ?_
  obtain ⟨v805, v806, rfl, q807, q808⟩ := q804
  obtain ⟨A809, c810, rfl⟩ := Qe.shape q807
  have z811 := Qe.cap q807
  have q808 := Is.out q808; subst q808
  exact ⟨_, Qa.move rfl, ⟨_, _, rfl, q807, rfl⟩⟩
 ·refine oP [(10, 69)] rfl rfl fun L812 w813 h814 s815 v816 q817 => ?_
  obtain ⟨v818, v819, rfl, q820, q821⟩ := q817
  obtain ⟨A822, c823, rfl⟩ := Qe.shape q820
  have z824 := Qe.cap q820
  have q821 := Is.out q821; subst q821
  exact ⟨_, Qa.extract rfl rfl, q820⟩
 ·refine oP [(10, 69)] rfl rfl fun L825 w826 h827 s828 v829 q830 => ?_
  obtain ⟨v831, v832, rfl, q833, q834⟩ := q830
  obtain ⟨A835, c836, rfl⟩ := Qe.shape q833
  have z837 := Qe.cap q833
  have q834 := Is.out q834; subst q834
  exact ⟨_, Qa.extract rfl rfl, rfl⟩
 ·refine oP [(11, 80)] rfl rfl fun L838 w839 h840 s841 v842 q843 => ?_
  obtain ⟨A844, c845, rfl⟩ := Qe.shape q843
  have z846 := Qe.cap q843
  exact ⟨_, Qa.assign rfl, q843⟩
 obtain ⟨A857, c858, rfl⟩ := Qe.shape q856
 have z859 := Qe.cap q856
 refine nsr ?_
 refine sv (Qa.move rfl) ?_
 refine sv (Qa.move rfl) ?_
 have q860 := up s854 q708
 refine Qcp (beN (((nv (ZH (beN x (QC g.q)) msg 64) % g.q) + ((Z6 g (g.g ^ (nv (ZH (beN x (QC g.q)) msg 64) % g.q) % g.p) (if JR g x then g.g ^ x % g.p else 0) msg) * x % g.q)) % g.q) (QC g.q)) h853 q860 Try.underlying22 ty5 rfl rfl rfl (by rfl) (Qe.row q856) (by (simp only [JE] at *; omega)) (by (simp only [JE] at *; omega)) fun w861 v862 q863 s864 h865 => ?_
 obtain ⟨A866, c867, rfl⟩ := Qe.shape q863
 have z868 := Qe.cap q863
 refine sv (Qa.assign rfl) ?_
 refine sv (Qa.assign rfl) ?_
 refine Seq.next ?_
 have c869 := s854.trans s864
 have c870 := s706.trans c869
 have c871 := s628.trans c870
 have c872 := s616.trans c871
 have c873 := s539.trans c872
 have c874 := c534.trans c873
 have c875 := s140.trans c874
 have c876 := c135.trans c875
 obtain ⟨⟨zU, zo⟩, zb⟩ := hX c876 (by decide)
 refine Run.ret ?_
 exact QP Try.results65 rfl rfl ⟨_, rfl, ⟨_, _, rfl, (Jc (by ((have h9 := Qgx (QaG hp1) hp2; exact h9))) (up zo q863)), (JF (by exact (if_pos (QaG hp1)).symm) _ _)⟩, zb⟩
end Go.Proofs.Ytgfomedobfaidaa
end
section
set_option linter.unusedVariables false
set_option linter.unusedSimpArgs false
namespace Go.Proofs.Ytgfomedobfaidaa
open Go.RowKit
theorem J0 {lab : Lab} {w : World} (hv : Ql lab w) {g : GroupD} {v0 : Value} (h0 : Js g lab w v0) {y : Nat} {v1 : Value} (h1 : Qi y lab w v1) {msg : List UInt8} {v2 : Value} (h2 : Qe msg lab w v2) {sig : List UInt8} {v3 : Value} (h3 : Qe sig lab w v3) (hG : okG g) (hy : nw y ≤ 1000) (hm : List.length msg ≤ 4000000) :
  Calls Try.prog 67 #[v0, v1, v2, v3] w (fun e w' => ∃ v, e = .returned v ∧ (Is (.bool (decide (Z1 g y msg sig)))) lab w' v ∧ Below w.heap.size w w') := by
 obtain ⟨L0, h0L, ⟨zU0, z00⟩, hX⟩ := QZ hv
 replace h0 := up z00 h0
 obtain ⟨b1, rfl⟩ := YH.shape h0
 replace h1 := up z00 h1
 obtain ⟨A2, c3, rfl⟩ := Qi.shape h1
 have z4 := Qi.cap h1
 replace h2 := up z00 h2
 obtain ⟨A5, c6, rfl⟩ := Qe.shape h2
 have z7 := Qe.cap h2
 replace h3 := up z00 h3
 obtain ⟨A8, c9, rfl⟩ := Qe.shape h3
 have z10 := Qe.cap h3
 have ⟨gp1, gq1, gpn, gqn, ggn, ghn⟩ := hG
 have hW := U9 gqn
 refine Qu Try.func67 rfl Try.ntmps67 (lB9 rfl) ?_
 refine rsr ?_
 refine Yz 6 [.slice A2 (nw y) c3] h0L rfl rfl fun b13 L11 w12 o14 s15 h16 => ?_
 refine sv (Qa.assign rfl) ?_
 refine Seq.next ?_
 refine Run.seq ?_
 refine rsr ?_
 refine sv (Qa.move rfl) ?_
 refine sv (Jf Try.underlying56 rfl rfl) ?_
 refine sv (Qa.move rfl) ?_
 refine Qh rfl rfl rfl ?_
 refine sv (Qa.move rfl) ?_
 refine Qh rfl rfl rfl ?_
 refine sv (Qa.len Try.underlying22 rfl) ?_
 refine Qh rfl rfl rfl ?_
 refine sv (Qa.move rfl) ?_
 refine Qh rfl rfl rfl ?_
 have q17 := up s15 h0
 refine Q7 (V := Is (i64 (2 * ((QC g.q : Nat) : Int)))) Qk9 h16 rfl (Qel h16 q17 (show okG g from by assumption)) fun v18 w19 q20 s21 h22 => ?_
 have q20 := Is.out q20; subst q20
 refine Qh rfl rfl rfl ?_
 refine sv (Qa.neq rfl rfl) ?_
 refine sv (Ju rfl rfl) ?_
 refine sv (Qa.move rfl) ?_
 rcases Decidable.em ((((List.length sig : Nat) : Int) : Int) ≠ (2 * ((QC g.q : Nat) : Int) : Int)) with hp1 | hp1
 ·refine Qk rfl rfl (dT9 hp1) rfl (by decide) ?_
  refine Qk rfl rfl (dT9 hp1) rfl (by decide) ?_
  refine Qk rfl rfl (dT9 hp1) rfl (by decide) ?_
  refine Qk rfl rfl (dT9 hp1) rfl (by decide) ?_
  refine sv (Qp rfl (dT9 hp1) rfl) ?_
  refine Seq.next ?_
  refine Qc rfl rfl ?_
  refine rsr ?_
  refine sv (Qa.assign rfl) ?_
  refine Seq.next ?_
  have c23 := s15.trans s21
  obtain ⟨⟨zU, zo⟩, zb⟩ := hX c23 (by decide)
  refine Run.ret (Qr ?_)
  exact Qm Try.results67 rfl ⟨_, rfl, (Jj (by exact QjB hp1) _ _), zb⟩
 refine Qh rfl rfl (dF9 hp1) ?_
 refine sv (Qa.move rfl) ?_
 refine Qh rfl rfl (dF9 hp1) ?_
 have o24 := o14.up s21
 refine sv (Qb [.slice A2 (nw y) c3] o24 Qn rfl rfl) ?_
 refine Qh rfl rfl (dF9 hp1) ?_
 have q25 := up s21 q17
 have c26 := s15.trans s21
 have q27 := up c26 h1
 refine Q7 (V := Is (.bool (decide (ZU g y)))) Qjj h22 rfl (Xm h22 q25 q27 (show okG g from by assumption) (show nw y ≤ 1000 from by assumption)) fun v28 w29 q30 s31 h32 => ?_
 have q30 := Is.out q30; subst q30
 refine Qh rfl rfl (dF9 hp1) ?_
 refine sv (Qa.not rfl) ?_
 refine sv (Qp rfl (dF9 hp1) rfl) ?_
 refine Seq.next ?_
 rcases ZN (!(decide (ZU g y))) with hc2 | hc2
 ·refine Qc rfl hc2 ?_
  refine rsr ?_
  refine sv (Qa.assign rfl) ?_
  refine Seq.next ?_
  have c33 := c26.trans s31
  obtain ⟨⟨zU, zo⟩, zb⟩ := hX c33 (by decide)
  refine Run.ret (Qr ?_)
  exact Qm Try.results67 rfl ⟨_, rfl, (Jj (by exact QjA (QcP hc2)) _ _), zb⟩
 refine Qc rfl hc2 ?_
 refine Qg (fun _ _ h => h) ?_
 refine rsr ?_
 refine sv (Qa.move rfl) ?_
 have q34 := up s31 q25
 refine Q7 (V := Is (i64 ((QC g.q : Nat) : Int))) K0 h32 rfl (ZR h32 q34 (show okG g from by assumption)) fun v35 w36 q37 s38 h39 => ?_
 have q37 := Is.out q37; subst q37
 refine sv (Qa.assign rfl) ?_
 refine nsr ?_
 refine sv (Qa.move rfl) ?_
 refine sv (Qa.move rfl) ?_
 have c41 := s31.trans s38
 have c42 := c26.trans c41
 have q43 := up c42 h3
 have q40 := Qe.takeN q43 (QC g.q) (by omega)
 refine sv (JJ (QC g.q) Try.underlying22 ty5 rfl rfl (by omega) (by have := (Qe.cap q43).2; omega)) ?_
 refine Q7 (V := Zo (Qi (nv (List.take (QC g.q) sig))) (Is (i64 0))) Qhn h39 rfl (ZY h39 q40 (show List.length (List.take (QC g.q) sig) ≤ 128 from by (rw [List.length_take]; omega))) fun v44 w45 q46 s47 h48 => ?_
 obtain ⟨v49, v50, rfl, q51, q52⟩ := q46
 obtain ⟨A53, c54, rfl⟩ := Qi.shape q51
 have z55 := Qi.cap q51
 have q52 := Is.out q52; subst q52
 refine sv (Qa.move rfl) ?_
 refine sv (Qa.extract rfl rfl) ?_
 refine sv (Qa.extract rfl rfl) ?_
 refine QM 11 [.slice none 0 0] h48 Qn rfl fun b58 L56 w57 o59 s60 h61 => ?_
 refine Q2 [.slice A53 (nw (nv (List.take (QC g.q) sig))) c54] h61 o59 Qn rfl rfl rfl (lB9 rfl) rfl rfl fun w62 o63 s64 h65 => ?_
 refine sv (Qa.assign rfl) ?_
 refine nsr ?_
 refine sv (Qa.move rfl) ?_
 refine sv (Qa.move rfl) ?_
 have c67 := s60.trans s64
 have c68 := s47.trans c67
 have q69 := up c68 q43
 have q66 := Qbn q69 (QC g.q) (by omega)
 refine sv (Vj (QC g.q) Try.underlying22 ty5 rfl rfl (by omega) (by omega)) ?_
 refine Q7 (V := Zo (Qi (nv (List.drop (QC g.q) sig))) (Is (i64 0))) Qhn h65 rfl (ZY h65 q66 (show List.length (List.drop (QC g.q) sig) ≤ 128 from by (rw [List.length_drop]; omega))) fun v71 w72 q73 s74 h75 => ?_
 obtain ⟨v76, v77, rfl, q78, q79⟩ := q73
 obtain ⟨A80, c81, rfl⟩ := Qi.shape q78
 have z82 := Qi.cap q78
 have q79 := Is.out q79; subst q79
 refine sv (Qa.move rfl) ?_
 refine sv (Qa.extract rfl rfl) ?_
 refine sv (Qa.extract rfl rfl) ?_
 refine QM 13 [.slice none 0 0] h75 Qn rfl fun b85 L83 w84 o86 s87 h88 => ?_
 refine Q2 [.slice A80 (nw (nv (List.drop (QC g.q) sig))) c81] h88 o86 Qn rfl rfl rfl (lB9 rfl) rfl rfl fun w89 o90 s91 h92 => ?_
 refine sv (Qa.assign rfl) ?_
 refine nsr ?_
 refine sv (Qa.move rfl) ?_
 have c93 := s87.trans s91
 have c94 := s74.trans c93
 have c95 := c68.trans c94
 have c96 := s38.trans c95
 have q97 := up c96 q34
 refine Q7 (V := JO g.q) QbT h92 rfl (Z8 h92 q97) fun v98 w99 q100 s101 h102 => ?_
 obtain ⟨b103, rfl⟩ := YH.shape q100
 refine Q7 (V := Qi g.q) QfE h102 rfl (Ye h102 q100) fun v104 w105 q106 s107 h108 => ?_
 obtain ⟨A109, c110, rfl⟩ := Qi.shape q106
 have z111 := Qi.cap q106
 refine QM 15 [.slice none 0 0] h108 Qn rfl fun b114 L112 w113 o115 s116 h117 => ?_
 refine Q2 [.slice A109 (nw g.q) c110] h117 o115 Qn rfl rfl rfl (lB9 rfl) rfl rfl fun w118 o119 s120 h121 => ?_
 refine Seq.next ?_
 refine Run.seq ?_
 refine rsr ?_
 have c123 := s116.trans s120
 have c124 := s107.trans c123
 have c125 := s101.trans c124
 have c126 := c94.trans c125
 have o122 := o63.up c126
 refine sv (Qb [.slice A53 (nw (nv (List.take (QC g.q) sig))) c54] o122 Qn rfl rfl) ?_
 refine sv (Qb [.slice A109 (nw g.q) c110] o119 Qn rfl rfl) ?_
 have c127 := c67.trans c126
 have q128 := up c127 q51
 have q129 := up c123 q106
 refine Q7 (V := Is (i64 (Jo (nv (List.take (QC g.q) sig)) g.q))) ZP h121 rfl (J8 h121 q128 q129) fun v130 w131 q132 s133 h134 => ?_
 have q132 := Is.out q132; subst q132
 refine sv (Qa.geq rfl rfl) ?_
 refine sv (Qa.move rfl) ?_
 rcases Decidable.em ((0 : Int) ≤ (Jo (nv (List.take (QC g.q) sig)) g.q : Int)) with hp3 | hp3
 ·refine Qk rfl rfl (dT9 hp3) rfl (by decide) ?_
  refine Qk rfl rfl (dT9 hp3) rfl (by decide) ?_
  refine Qk rfl rfl (dT9 hp3) rfl (by decide) ?_
  refine Qk rfl rfl (dT9 hp3) rfl (by decide) ?_
  refine sv (Qp rfl (dT9 hp3) rfl) ?_
  refine Seq.next ?_
  refine Qc rfl rfl ?_
  refine rsr ?_
  refine sv (Qa.assign rfl) ?_
  refine Seq.next ?_
  have c135 := c125.trans s133
  have c136 := c95.trans c135
  have c137 := c42.trans c136
  obtain ⟨⟨zU, zo⟩, zb⟩ := hX c137 (by decide)
  refine Run.ret (Qr ?_)
  exact Qm Try.results67 rfl ⟨_, rfl, (Jj (by exact Qj9 hp3) _ _), zb⟩
 refine Qh rfl rfl (dF9 hp3) ?_
 have c139 := c125.trans s133
 have o138 := o90.up c139
 refine sv (Qb [.slice A80 (nw (nv (List.drop (QC g.q) sig))) c81] o138 Qn rfl rfl) ?_
 refine Qh rfl rfl (dF9 hp3) ?_
 have o140 := o119.up s133
 refine sv (Qb [.slice A109 (nw g.q) c110] o140 Qn rfl rfl) ?_
 refine Qh rfl rfl (dF9 hp3) ?_
 have c141 := c93.trans c139
 have q142 := up c141 q78
 have q143 := up s133 q129
 refine Q7 (V := Is (i64 (Jo (nv (List.drop (QC g.q) sig)) g.q))) ZP h134 rfl (J8 h134 q142 q143) fun v144 w145 q146 s147 h148 => ?_
 have q146 := Is.out q146; subst q146
 refine Qh rfl rfl (dF9 hp3) ?_
 refine sv (Qa.geq rfl rfl) ?_
 refine sv (Qp rfl (dF9 hp3) rfl) ?_
 refine Seq.next ?_
 rcases Decidable.em ((0 : Int) ≤ (Jo (nv (List.drop (QC g.q) sig)) g.q : Int)) with hp4 | hp4
 ·refine Qc rfl (dT9 hp4) ?_
  refine rsr ?_
  refine sv (Qa.assign rfl) ?_
  refine Seq.next ?_
  have c149 := c139.trans s147
  have c150 := c95.trans c149
  have c151 := c42.trans c150
  obtain ⟨⟨zU, zo⟩, zb⟩ := hX c151 (by decide)
  refine Run.ret (Qr ?_)
  exact Qm Try.results67 rfl ⟨_, rfl, (Jj (by exact Qj8 hp4) _ _), zb⟩
 refine Qc rfl (dF9 hp4) ?_
 refine Qg (fun _ _ h => h) ?_
 refine rsr ?_
 have o152 := o140.up s147
 refine sv (Qb [.slice A109 (nw g.q) c110] o152 Qn rfl rfl) ?_
 have c154 := s133.trans s147
 have o153 := o122.up c154
 refine sv (Qb [.slice A53 (nw (nv (List.take (QC g.q) sig))) c54] o153 Qn rfl rfl) ?_
 have q155 := up s147 q143
 have q156 := up c154 q128
 refine Q7 (V := Zo (Qi (g.q - (nv (List.take (QC g.q) sig)))) (Is (.bool true))) QaT h148 rfl (Kk h148 q155 q156 (show nw g.q ≤ 1000000 from by omega) (show nw (nv (List.take (QC g.q) sig)) ≤ 1000000 from by exact Nat.le_trans (Qc2 (by rw [List.length_take]; omega)) (by omega)) (show (nv (List.take (QC g.q) sig)) ≤ g.q from by exact Nat.le_of_lt (Qjb hp3))) fun v157 w158 q159 s160 h161 => ?_
 obtain ⟨v162, v163, rfl, q164, q165⟩ := q159
 obtain ⟨A166, c167, rfl⟩ := Qi.shape q164
 have z168 := Qi.cap q164
 have q165 := Is.out q165; subst q165
 refine sv (Qa.move rfl) ?_
 refine sv (Qa.extract rfl rfl) ?_
 refine sv (Qa.extract rfl rfl) ?_
 refine QM 16 [.slice none 0 0] h161 Qn rfl fun b171 L169 w170 o172 s173 h174 => ?_
 refine Q2 [.slice A166 (nw (g.q - (nv (List.take (QC g.q) sig)))) c167] h174 o172 Qn rfl rfl rfl (lB9 rfl) rfl rfl fun w175 o176 s177 h178 => ?_
 refine sv (Qa.assign rfl) ?_
 refine Seq.next ?_
 refine Run.seq ?_
 refine Zw [⟨70, .ex (.pointer (some ⟨b1, 0, none⟩)), [], none⟩, ⟨71, .ex (.pointer (some ⟨b1, 0, none⟩)), [], none⟩, ⟨72, .v (Qi g.g), [], none⟩, ⟨73, .ex (.agg #[.slice A2 (nw y) c3]), [], none⟩, ⟨74, .v (Jd ([g.g, y])), [], none⟩, ⟨75, .ex (.agg #[.slice A80 (nw (nv (List.drop (QC g.q) sig))) c81]), [], none⟩, ⟨76, .ex (.agg #[.slice A166 (nw (g.q - (nv (List.take (QC g.q) sig)))) c167]), [], none⟩, ⟨77, .v (Jd ([nv (List.drop (QC g.q) sig), g.q - (nv (List.take (QC g.q) sig))])), [], none⟩, ⟨78, .v (Zo (Qi (if List.length ([g.g, y]) = List.length ([nv (List.drop (QC g.q) sig), g.q - (nv (List.take (QC g.q) sig))]) then YP ([g.g, y]) ([nv (List.drop (QC g.q) sig), g.q - (nv (List.take (QC g.q) sig))]) % g.p else 0)) (Is (i64 (if List.length ([g.g, y]) = List.length ([nv (List.drop (QC g.q) sig), g.q - (nv (List.take (QC g.q) sig))]) then 0 else 1)))), [], none⟩, ⟨69, .v (Zo (Qi (if List.length ([g.g, y]) = List.length ([nv (List.drop (QC g.q) sig), g.q - (nv (List.take (QC g.q) sig))]) then YP ([g.g, y]) ([nv (List.drop (QC g.q) sig), g.q - (nv (List.take (QC g.q) sig))]) % g.p else 0)) (Is (i64 (if List.length ([g.g, y]) = List.length ([nv (List.drop (QC g.q) sig), g.q - (nv (List.take (QC g.q) sig))]) then 0 else 1)))), [], none⟩, ⟨79, .v (Qi (if List.length ([g.g, y]) = List.length ([nv (List.drop (QC g.q) sig), g.q - (nv (List.take (QC g.q) sig))]) then YP ([g.g, y]) ([nv (List.drop (QC g.q) sig), g.q - (nv (List.take (QC g.q) sig))]) % g.p else 0)), [], none⟩, ⟨80, .ex (i64 (if List.length ([g.g, y]) = List.length ([nv (List.drop (QC g.q) sig), g.q - (nv (List.take (QC g.q) sig))]) then 0 else 1)), [], none⟩, ⟨17, .v (QcX 18 60 (Is (.agg #[.slice none 0 0]))), [], (some 13)⟩, ⟨17, .v (QcX 18 60 (Qi (if List.length ([g.g, y]) = List.length ([nv (List.drop (QC g.q) sig), g.q - (nv (List.take (QC g.q) sig))]) then YP ([g.g, y]) ([nv (List.drop (QC g.q) sig), g.q - (nv (List.take (QC g.q) sig))]) % g.p else 0))), [18], none⟩] [11, 13] [[], [], [], [], [], [], [], [], [], [], [], [18], [], []] Je (by kernel_rfl) (by kernel_rfl) rfl h178 ⟨QK, QK, J5, QK, J5, QK, QK, J5, J5, J5, J5, QK, ZI rfl, ZI rfl, trivial⟩ ⟨(rX [] rfl rfl rfl rfl fun _ _ => Qa.move rfl), (rX [] rfl rfl rfl rfl fun _ _ => Qa.move rfl), ?_, ?_, ?_, ?_, ?_, ?_, ?_, ?_, ?_, ?_, ?_, ?_, trivial⟩ (fun L341 w342 h343 s344 v345 q346 => ?_)
 ·refine rC [1] rfl rfl rfl rfl Qhp fun L187 w188 h189 s190 => ?_
  replace s190 : Stp [] _ _ _ _ := s190
  have c191 := s177.trans s190
  have c192 := s173.trans c191
  have c193 := s160.trans c192
  have c194 := s147.trans c193
  have c195 := c139.trans c194
  have q196 := up c195 q97
  exact ⟨_, rfl, (Qad h189 q196)⟩
 ·refine rP [] rfl rfl rfl rfl fun L197 w198 h199 s200 => ?_
  replace s200 : Stp [] _ _ _ _ := s200
  have c202 := s177.trans s200
  have c203 := s173.trans c202
  have c204 := s160.trans c203
  have c205 := s147.trans c204
  have c206 := c139.trans c205
  have c207 := c95.trans c206
  have c208 := c41.trans c207
  have o201 := o24.up c208
  exact ⟨_, Qb [.slice A2 (nw y) c3] o201 Qn rfl rfl, rfl⟩
 ·refine rN [2, 3] rfl rfl rfl rfl fun L209 w210 h211 s212 v213 q214 => ?_
  replace s212 : Stp [] _ _ _ _ := s212
  obtain ⟨A215, c216, rfl⟩ := Qi.shape q214
  have z217 := Qi.cap q214
  have c222 := s177.trans s212
  have c223 := s173.trans c222
  have c224 := s160.trans c223
  have c225 := s147.trans c224
  have c226 := c139.trans c225
  have c227 := c95.trans c226
  have c228 := c41.trans c227
  have q229 := up c228 q27
  refine Y0 [(0, .agg #[.slice A215 (nw g.g) c216]), (1, .agg #[.slice A2 (nw y) c3])] [.slice A215 (nw g.g) c216, .slice A2 (nw y) c3] h211 Try.underlying38 Qn (by decide) (by decide) rfl (by kernel_rfl) fun b218 w219 r220 s221 => ?_
  exact Jd.mk 2 rfl (Nat.le_refl _) (by decide) r220 rfl (J9.get ⟨up s221 q214, up s221 q229, trivial⟩)
 ·refine rP [] rfl rfl rfl rfl fun L230 w231 h232 s233 => ?_
  replace s233 : Stp [] _ _ _ _ := s233
  have c235 := s177.trans s233
  have c236 := s173.trans c235
  have c237 := s160.trans c236
  have c238 := s147.trans c237
  have o234 := o138.up c238
  exact ⟨_, Qb [.slice A80 (nw (nv (List.drop (QC g.q) sig))) c81] o234 Qn rfl rfl, rfl⟩
 ·refine rP [] rfl rfl rfl rfl fun L239 w240 h241 s242 => ?_
  replace s242 : Stp [] _ _ _ _ := s242
  have o243 := o176.up s242
  exact ⟨_, Qb [.slice A166 (nw (g.q - (nv (List.take (QC g.q) sig)))) c167] o243 Qn rfl rfl, rfl⟩
 ·refine rN [5, 6] rfl rfl rfl rfl fun L244 w245 h246 s247 => ?_
  replace s247 : Stp [] _ _ _ _ := s247
  have c252 := s177.trans s247
  have c253 := s173.trans c252
  have c254 := s160.trans c253
  have c255 := s147.trans c254
  have q256 := up c255 q142
  have q257 := up c253 q164
  refine Y0 [(0, .agg #[.slice A80 (nw (nv (List.drop (QC g.q) sig))) c81]), (1, .agg #[.slice A166 (nw (g.q - (nv (List.take (QC g.q) sig)))) c167])] [.slice A80 (nw (nv (List.drop (QC g.q) sig))) c81, .slice A166 (nw (g.q - (nv (List.take (QC g.q) sig)))) c167] h246 Try.underlying38 Qn (by decide) (by decide) rfl (by kernel_rfl) fun b248 w249 r250 s251 => ?_
  exact Jd.mk 2 rfl (Nat.le_refl _) (by decide) r250 rfl (J9.get ⟨up s251 q256, up s251 q257, trivial⟩)
 ·refine rC [0, 4, 7] rfl rfl rfl rfl Qlz fun L258 w259 h260 s261 v262 q263 v267 q268 => ?_
  replace s261 : Stp [] _ _ _ _ := s261
  obtain ⟨A264, c265, rfl⟩ := Jd.shape q263
  have z266 := Jd.cap q263
  obtain ⟨A269, c270, rfl⟩ := Jd.shape q268
  have z271 := Jd.cap q268
  have c272 := s177.trans s261
  have c273 := s173.trans c272
  have c274 := s160.trans c273
  have c275 := s147.trans c274
  have c276 := c139.trans c275
  have q277 := up c276 q97
  exact ⟨_, rfl, (QbQ h260 q277 q263 q268 (show okG g from by assumption) (show ∀ x ∈ ([g.g, y]), nw x ≤ 1000 from by exact Qhx (by omega) (by omega)) (show ∀ e ∈ ([nv (List.drop (QC g.q) sig), g.q - (nv (List.take (QC g.q) sig))]), nw e ≤ 1000 from by exact Qhx (Nat.le_trans (Qc2 (by rw [List.length_drop]; omega)) (by omega)) (Nat.le_trans (QW (Nat.sub_le _ _)) (by omega))) (show List.length ([nv (List.drop (QC g.q) sig), g.q - (nv (List.take (QC g.q) sig))]) ≤ 1000000 from by simp))⟩
 ·refine rP [8] rfl rfl rfl rfl fun L278 w279 h280 s281 v282 q283 => ?_
  replace s281 : Stp [] _ _ _ _ := s281
  obtain ⟨v284, v285, rfl, q286, q287⟩ := q283
  obtain ⟨A288, c289, rfl⟩ := Qi.shape q286
  have z290 := Qi.cap q286
  have q287 := Is.out q287; subst q287
  exact ⟨_, Qa.move rfl, ⟨_, _, rfl, q286, rfl⟩⟩
 ·refine rP [9] rfl rfl rfl rfl fun L291 w292 h293 s294 v295 q296 => ?_
  replace s294 : Stp [] _ _ _ _ := s294
  obtain ⟨v297, v298, rfl, q299, q300⟩ := q296
  obtain ⟨A301, c302, rfl⟩ := Qi.shape q299
  have z303 := Qi.cap q299
  have q300 := Is.out q300; subst q300
  exact ⟨_, Qa.extract rfl rfl, q299⟩
 ·refine rP [9] rfl rfl rfl rfl fun L304 w305 h306 s307 v308 q309 => ?_
  replace s307 : Stp [18] _ _ _ _ := s307
  obtain ⟨v310, v311, rfl, q312, q313⟩ := q309
  obtain ⟨A314, c315, rfl⟩ := Qi.shape q312
  have z316 := Qi.cap q312
  have q313 := Is.out q313; subst q313
  exact ⟨_, Qa.extract rfl rfl, rfl⟩
 ·refine rN [] rfl rfl rfl rfl fun L317 w318 h319 s320 => ?_
  replace s320 : Stp [] _ _ _ _ := s320
  exact ⟨_, _, _, Qa.alloc Qn, h319.alloc _ 18, Stp.alloc _ 18, ⟨_, (.agg #[.slice none 0 0]), rfl, Own.alloc _ _ _ _ 18, rfl⟩⟩
 ·refine rS [10, 12] rfl rfl rfl fun L321 w322 h323 s324 v325 q326 v330 q331 => ?_
  replace s324 : Stp [] _ _ _ _ := s324
  obtain ⟨A327, c328, rfl⟩ := Qi.shape q326
  have z329 := Qi.cap q326
  obtain ⟨b332, u333, rfl, o334, q335⟩ := q331
  replace q335 := Is.out q335; subst q335
  replace o334 : Own L321 w322 18 b332 60 #[.slice none 0 0] := o334
  refine Z2 (v := (.agg #[.slice A327 (nw (if List.length ([g.g, y]) = List.length ([nv (List.drop (QC g.q) sig), g.q - (nv (List.take (QC g.q) sig))]) then YP ([g.g, y]) ([nv (List.drop (QC g.q) sig), g.q - (nv (List.take (QC g.q) sig))]) % g.p else 0)) c328])) [.slice A327 (nw (if List.length ([g.g, y]) = List.length ([nv (List.drop (QC g.q) sig), g.q - (nv (List.take (QC g.q) sig))]) then YP ([g.g, y]) ([nv (List.drop (QC g.q) sig), g.q - (nv (List.take (QC g.q) sig))]) % g.p else 0)) c328] h323 o334 Qn rfl rfl rfl (lB9 rfl) rfl rfl fun w336 s339 o340 => ?_
  exact ⟨_, (.agg #[.slice A327 (nw (if List.length ([g.g, y]) = List.length ([nv (List.drop (QC g.q) sig), g.q - (nv (List.take (QC g.q) sig))]) then YP ([g.g, y]) ([nv (List.drop (QC g.q) sig), g.q - (nv (List.take (QC g.q) sig))]) % g.p else 0)) c328]), rfl, o340, (up s339 q326)⟩
 replace s344 : Stp [18] _ _ _ _ := s344
 obtain ⟨b347, u348, rfl, o349, q350⟩ := q346
 obtain ⟨A351, c352, rfl⟩ := Qi.shape q350
 have z353 := Qi.cap q350
 replace o349 : Own L341 w342 18 b347 60 #[.slice A351 (nw (if List.length ([g.g, y]) = List.length ([nv (List.drop (QC g.q) sig), g.q - (nv (List.take (QC g.q) sig))]) then YP ([g.g, y]) ([nv (List.drop (QC g.q) sig), g.q - (nv (List.take (QC g.q) sig))]) % g.p else 0)) c352] := o349
 refine sv (Qa.assign rfl) ?_
 refine Seq.next ?_
 refine Run.seq ?_
 rcases Decidable.em ((if List.length ([g.g, y]) = List.length ([nv (List.drop (QC g.q) sig), g.q - (nv (List.take (QC g.q) sig))]) then 0 else 1 : Int) = (0 : Int)) with hp5 | hp5
 rotate_left
 ·refine Run.open 12 (Φ := [.ex (i64 (if List.length ([g.g, y]) = List.length ([nv (List.drop (QC g.q) sig), g.q - (nv (List.take (QC g.q) sig))]) then 0 else 1)), .ex (.bool (decide ((if List.length ([g.g, y]) = List.length ([nv (List.drop (QC g.q) sig), g.q - (nv (List.take (QC g.q) sig))]) then 0 else 1 : Int) = (0 : Int)))), .ex (.bool (decide ((if List.length ([g.g, y]) = List.length ([nv (List.drop (QC g.q) sig), g.q - (nv (List.take (QC g.q) sig))]) then 0 else 1 : Int) = (0 : Int)))), .ex undef, .ex undef, .ex undef, .ex undef, .ex undef, .ex undef, .ex undef, .ex undef, .ex (.bool false)]) [(11, 92)] Je (by kernel_rfl) rfl h343 ⟨(oX [] rfl rfl rfl fun _ _ => Qa.move rfl), (oX [(0, 81)] rfl rfl rfl fun _ _ => Qa.eql rfl rfl), (oX [(1, 82)] rfl rfl rfl fun _ _ => Qa.move rfl), (Ji rfl rfl rfl rfl (dF9 hp5) rfl rfl), (Ji rfl rfl rfl rfl (dF9 hp5) rfl rfl), (Ji rfl rfl rfl rfl (dF9 hp5) rfl rfl), (Ji rfl rfl rfl rfl (dF9 hp5) rfl rfl), (Ji rfl rfl rfl rfl (dF9 hp5) rfl rfl), (Ji rfl rfl rfl rfl (dF9 hp5) rfl rfl), (Ji rfl rfl rfl rfl (dF9 hp5) rfl rfl), (Ji rfl rfl rfl rfl (dF9 hp5) rfl rfl), (oX [(2, 83)] rfl rfl rfl fun _ _ => Qp rfl (dF9 hp5) rfl), trivial⟩ (fun L482 w483 h484 s485 => ?_)
  refine sv (Qa.assign rfl) ?_
  refine Seq.next ?_
  have c486 := s344.trans s485
  have c487 := s177.trans c486
  have c488 := s173.trans c487
  have c489 := s160.trans c488
  have c490 := s147.trans c489
  have c491 := c139.trans c490
  have c492 := c95.trans c491
  have c493 := c42.trans c492
  obtain ⟨⟨zU, zo⟩, zb⟩ := hX c493 (by decide)
  refine Run.ret ?_
  exact Qm Try.results67 rfl ⟨_, rfl, (Jj (by exact absurd (if_pos rfl) hp5) _ _), zb⟩
 refine Run.open 12 (Φ := [.ex (i64 (if List.length ([g.g, y]) = List.length ([nv (List.drop (QC g.q) sig), g.q - (nv (List.take (QC g.q) sig))]) then 0 else 1)), .ex (.bool (decide ((if List.length ([g.g, y]) = List.length ([nv (List.drop (QC g.q) sig), g.q - (nv (List.take (QC g.q) sig))]) then 0 else 1 : Int) = (0 : Int)))), .ex (.bool (decide ((if List.length ([g.g, y]) = List.length ([nv (List.drop (QC g.q) sig), g.q - (nv (List.take (QC g.q) sig))]) then 0 else 1 : Int) = (0 : Int)))), .ex (.pointer (some ⟨b1, 0, none⟩)), .ex (.agg #[.slice A351 (nw (if List.length ([g.g, y]) = List.length ([nv (List.drop (QC g.q) sig), g.q - (nv (List.take (QC g.q) sig))]) then YP ([g.g, y]) ([nv (List.drop (QC g.q) sig), g.q - (nv (List.take (QC g.q) sig))]) % g.p else 0)) c352]), .ex (.agg #[.slice A2 (nw y) c3]), .ex (.slice A5 (List.length msg) c6), .v (Qi (Z6 g (if List.length ([g.g, y]) = List.length ([nv (List.drop (QC g.q) sig), g.q - (nv (List.take (QC g.q) sig))]) then YP ([g.g, y]) ([nv (List.drop (QC g.q) sig), g.q - (nv (List.take (QC g.q) sig))]) % g.p else 0) y msg)), .ex (.agg #[.slice A53 (nw (nv (List.take (QC g.q) sig))) c54]), .v (Is (i64 (Jo (Z6 g (if List.length ([g.g, y]) = List.length ([nv (List.drop (QC g.q) sig), g.q - (nv (List.take (QC g.q) sig))]) then YP ([g.g, y]) ([nv (List.drop (QC g.q) sig), g.q - (nv (List.take (QC g.q) sig))]) % g.p else 0) y msg) (nv (List.take (QC g.q) sig))))), .ex (.bool (decide ((Jo (Z6 g (if List.length ([g.g, y]) = List.length ([nv (List.drop (QC g.q) sig), g.q - (nv (List.take (QC g.q) sig))]) then YP ([g.g, y]) ([nv (List.drop (QC g.q) sig), g.q - (nv (List.take (QC g.q) sig))]) % g.p else 0) y msg) (nv (List.take (QC g.q) sig)) : Int) = (0 : Int)))), .ex (.bool (decide ((Jo (Z6 g (if List.length ([g.g, y]) = List.length ([nv (List.drop (QC g.q) sig), g.q - (nv (List.take (QC g.q) sig))]) then YP ([g.g, y]) ([nv (List.drop (QC g.q) sig), g.q - (nv (List.take (QC g.q) sig))]) % g.p else 0) y msg) (nv (List.take (QC g.q) sig)) : Int) = (0 : Int))))]) [(11, 92)] Je (by kernel_rfl) rfl h343 ⟨(oX [] rfl rfl rfl fun _ _ => Qa.move rfl), (oX [(0, 81)] rfl rfl rfl fun _ _ => Qa.eql rfl rfl), (oX [(1, 82)] rfl rfl rfl fun _ _ => Qa.move rfl), ?_, ?_, ?_, ?_, ?_, ?_, ?_, ?_, (oX [(2, 83), (10, 91)] rfl rfl rfl fun _ _ => Qp rfl (dT9 hp5) rfl), trivial⟩ (fun L454 w455 h456 s457 => ?_)
 ·refine Q9 [] rfl rfl rfl rfl (dT9 hp5) rfl fun L378 w379 h380 s381 => ?_
  exact ⟨_, Qa.move rfl, rfl⟩
 ·refine Q9 [] rfl rfl rfl rfl (dT9 hp5) rfl fun L382 w383 h384 s385 => ?_
  have o386 := o349.up s385
  exact ⟨_, Qb [.slice A351 (nw (if List.length ([g.g, y]) = List.length ([nv (List.drop (QC g.q) sig), g.q - (nv (List.take (QC g.q) sig))]) then YP ([g.g, y]) ([nv (List.drop (QC g.q) sig), g.q - (nv (List.take (QC g.q) sig))]) % g.p else 0)) c352] o386 Qn rfl rfl, rfl⟩
 ·refine Q9 [] rfl rfl rfl rfl (dT9 hp5) rfl fun L387 w388 h389 s390 => ?_
  have c392 := s344.trans s390
  have c393 := s177.trans c392
  have c394 := s173.trans c393
  have c395 := s160.trans c394
  have c396 := s147.trans c395
  have c397 := c139.trans c396
  have c398 := c95.trans c397
  have c399 := c41.trans c398
  have o391 := o24.up c399
  exact ⟨_, Qb [.slice A2 (nw y) c3] o391 Qn rfl rfl, rfl⟩
 ·refine Q9 [] rfl rfl rfl rfl (dT9 hp5) rfl fun L400 w401 h402 s403 => ?_
  exact ⟨_, Qa.move rfl, rfl⟩
 ·refine Zp [(3, 84), (4, 85), (5, 86), (6, 87)] rfl rfl rfl rfl (dT9 hp5) rfl QfG fun L404 w405 h406 s407 => ?_
  have c408 := s344.trans s407
  have c409 := s177.trans c408
  have c410 := s173.trans c409
  have c411 := s160.trans c410
  have c412 := s147.trans c411
  have c413 := c139.trans c412
  have q414 := up c413 q97
  have q415 := up s407 q350
  have c416 := c95.trans c413
  have c417 := c41.trans c416
  have q418 := up c417 q27
  have c419 := c42.trans c416
  have q420 := up c419 h2
  exact ⟨_, rfl, (YD h406 q414 q415 q418 q420 (show okG g from by assumption) (show nw (if List.length ([g.g, y]) = List.length ([nv (List.drop (QC g.q) sig), g.q - (nv (List.take (QC g.q) sig))]) then YP ([g.g, y]) ([nv (List.drop (QC g.q) sig), g.q - (nv (List.take (QC g.q) sig))]) % g.p else 0) ≤ 1000 from by exact Nat.le_trans (Qfn hG _) (by omega)) (show nw y ≤ 1000 from by assumption) (show List.length msg ≤ 4000000 from by assumption))⟩
 ·refine Q9 [] rfl rfl rfl rfl (dT9 hp5) rfl fun L421 w422 h423 s424 => ?_
  have c426 := s344.trans s424
  have c427 := s177.trans c426
  have c428 := s173.trans c427
  have c429 := s160.trans c428
  have o425 := o153.up c429
  exact ⟨_, Qb [.slice A53 (nw (nv (List.take (QC g.q) sig))) c54] o425 Qn rfl rfl, rfl⟩
 ·refine Zp [(7, 88), (8, 89)] rfl rfl rfl rfl (dT9 hp5) rfl ZP fun L430 w431 h432 s433 v434 q435 => ?_
  obtain ⟨A436, c437, rfl⟩ := Qi.shape q435
  have z438 := Qi.cap q435
  have c439 := s344.trans s433
  have c440 := s177.trans c439
  have c441 := s173.trans c440
  have c442 := s160.trans c441
  have q443 := up c442 q156
  exact ⟨_, rfl, (J8 h432 q435 q443)⟩
 ·refine Q9 [(9, 90)] rfl rfl rfl rfl (dT9 hp5) rfl fun L444 w445 h446 s447 v448 q449 => ?_
  have q449 := Is.out q449; subst q449
  exact ⟨_, Qa.eql rfl rfl, rfl⟩
 refine sv (Qa.assign rfl) ?_
 refine Seq.next ?_
 have c458 := s344.trans s457
 have c459 := s177.trans c458
 have c460 := s173.trans c459
 have c461 := s160.trans c460
 have c462 := s147.trans c461
 have c463 := c139.trans c462
 have c464 := c95.trans c463
 have c465 := c42.trans c464
 obtain ⟨⟨zU, zo⟩, zb⟩ := hX c465 (by decide)
 refine Run.ret ?_
 exact Qm Try.results67 rfl ⟨_, rfl, (Jj (by exact Qj7 hp1 hc2 hp3 hp4) _ _), zb⟩
end Go.Proofs.Ytgfomedobfaidaa
end
section
set_option linter.unusedVariables false
set_option linter.unusedSimpArgs false
namespace Go.Proofs.Ytgfomedobfaidaa
open Go.RowKit
theorem Y3 {lab : Lab} {w : World} (hv : Ql lab w) {g : GroupD} {v0 : Value} (h0 : Js g lab w v0) {x : Nat} {v1 : Value} (h1 : Qi x lab w v1) {msg : List UInt8} {v2 : Value} (h2 : Qe msg lab w v2) (hG : okG g) (hk : JR g x) (hm : msg.length ≤ 4000000) :
  Calls Try.prog 65 #[v0, v1, v2] w (fun e w' => ∃ v, e = .returned v ∧ (Zo (Qe (Jk g x msg)) (Is (i64 0))) lab w' v ∧ Below w.heap.size w w') := by
 have h := Qem hv h0 h1 h2 hG (Nat.le_trans (Qh6 hG hk) (by omega)) hm
 rw [if_pos hk, if_pos hk] at h
 exact h
theorem YM {lab : Lab} {w : World} (hv : Ql lab w) {g : GroupD} {v0 : Value} (h0 : Js g lab w v0) {x : Nat} {v1 : Value} (h1 : Qi x lab w v1) (hG : okG g) (hk : JR g x) :
  Calls Try.prog 66 #[v0, v1] w (fun e w' => ∃ v, e = .returned v ∧ (Zo (Qi (g.g ^ x % g.p)) (Is (i64 0))) lab w' v ∧ Below w.heap.size w w') := by
 have h := Kc hv h0 h1 hG (Nat.le_trans (Qh6 hG hk) (by omega))
 rw [if_pos hk, if_pos hk] at h
 exact h
theorem QlD : QC (grp 0).q = 1 := by decide
theorem Ql8 : JR (grp 0) 7 := by decide
theorem Qfc : (Jk (grp 0) 7 [109]).length = 2 := by rw [YO, QlD]
theorem QbK {g : GroupD} (hG : okG g) : JR g 1 := ⟨by omega, hG.2.1⟩
theorem QbL {g : GroupD} (hG : okG g) {x : Nat} (h : ¬ x % g.q = 0) : JR g (x % g.q) := ⟨h, Nat.mod_lt _ (by have := hG.2.1; omega)⟩
theorem Qcj {g : GroupD} {y x : Nat} {msg : List UInt8} {b : UInt8} : ¬ Z1 g y msg (Jk g x msg ++ [b]) := fun h => by
 have := h.1; rw [List.length_append, YO] at this; simp at this
theorem QdW {g : GroupD} (hG : okG g) {y x k : Nat} {msg : List UInt8} (hk : k < (Jk g x msg).length) : ¬ Z1 g y msg ((Jk g x msg).take k) := fun h => by
 have := h.1; rw [List.length_take] at this; rw [YO] at *; omega
theorem Qgq {g : GroupD} {msg sig : List UInt8} : ¬ Z1 g 0 msg sig := fun h => h.2.1.1 rfl
theorem Qd0 : ((List.length (Jk (grp 0) 7 [109]) : Nat) : Int) = 2 := by rw [Qfc]; rfl
theorem UI {g : GroupD} (hG : okG g) (x : Nat) (msg : List UInt8) : 2 ≤ (Jk g x msg).length ∧ (Jk g x msg).length ≤ 256 := by
 rw [YO]
 have := U9 hG.2.2.2.1
 have := Qgp (q := g.q) (by have := hG.2.1; omega)
 omega
theorem Qhw {g : GroupD} (hG : okG g) {y x : Nat} {msg : List UInt8} : ¬ Z1 g y msg ((Jk g x msg).take ((((Jk g x msg).length : Nat) : Int) - 1).toNat) := by
 have := UI hG x msg
 exact QdW hG (by omega)
theorem QfQ {g : GroupD} {msg sig : List UInt8} : (!decide (Z1 g 0 msg sig)) = true := by simp [Qgq]

end Go.Proofs.Ytgfomedobfaidaa
end
section
set_option linter.unusedVariables false
set_option linter.unusedSimpArgs false
namespace Go.Proofs.Ytgfomedobfaidaa
open Go.RowKit
theorem Kp {lab : Lab} {w : World} (hv : Ql lab w) :
  Calls Try.prog 64 #[] w (fun e w' => ∃ v, e = .returned v ∧ (Is (.bool true)) lab w' v ∧ Below w.heap.size w w') := by
 obtain ⟨L0, h0L, ⟨zU0, z00⟩, hX⟩ := QZ hv
 refine Qu Try.func64 rfl Try.ntmps64 (lB9 rfl) ?_
 refine rsr ?_
 refine sv (Qa.assign rfl) ?_
 refine nsr ?_
 refine Q7 (V := Js (grp 0)) Qku h0L rfl (VA h0L (n := 0)) fun v1 w2 q3 s4 h5 => ?_
 obtain ⟨b6, rfl⟩ := YH.shape q3
 refine sv (Qa.assign rfl) ?_
 refine nsr ?_
 refine sv (Qa.move rfl) ?_
 refine Q7 (V := Qi 7) JN h5 rfl (QX h5 (x := 7) (show 7 < 18446744073709551616 from by omega)) fun v7 w8 q9 s10 h11 => ?_
 obtain ⟨A12, c13, rfl⟩ := Qi.shape q9
 have z14 := Qi.cap q9
 refine Qby (k := 11) [(0, .int .u8 109)] [.int .u8 109] h11 Try.underlying22 ty5 (by decide) (by decide) rfl (by kernel_rfl) fun L15 w16 b17 o18 s19 h20 => ?_
 refine Qew (k := 11) (xs := [(109 : UInt8)]) Try.underlying22 Try.underlying5 h20 o18 rfl rfl (by decide) fun w21 q22 s23 h24 => ?_
 have q25 := QU.v q22
 have c26 := s19.trans s23
 have c27 := s10.trans c26
 have q28 := up c27 q3
 have q29 := up c26 q9
 refine Q7 (V := Zo (Qe (Jk (grp 0) 7 ([(109 : UInt8)]))) (Is (i64 0))) QfD h24 rfl (Y3 h24 q28 q29 q25 (show okG (grp 0) from by exact Vv _) (show JR (grp 0) 7 from by exact Ql8) (show List.length ([(109 : UInt8)]) ≤ 4000000 from by simp)) fun v30 w31 q32 s33 h34 => ?_
 obtain ⟨v35, v36, rfl, q37, q38⟩ := q32
 obtain ⟨A39, c40, rfl⟩ := Qe.shape q37
 have z41 := Qe.cap q37
 have q38 := Is.out q38; subst q38
 refine sv (Qa.move rfl) ?_
 refine sv (Qa.extract rfl rfl) ?_
 refine sv (Qa.extract rfl rfl) ?_
 refine sv (Qa.assign rfl) ?_
 refine sv (Qa.assign rfl) ?_
 refine nsr ?_
 refine sv (Qa.move rfl) ?_
 refine Q7 (V := Qi 7) JN h34 rfl (QX h34 (x := 7) (show 7 < 18446744073709551616 from by omega)) fun v42 w43 q44 s45 h46 => ?_
 obtain ⟨A47, c48, rfl⟩ := Qi.shape q44
 have z49 := Qi.cap q44
 have c50 := s33.trans s45
 have q51 := up c50 q28
 refine Q7 (V := Zo (Qi ((grp 0).g ^ 7 % (grp 0).p)) (Is (i64 0))) Qho h46 rfl (YM h46 q51 q44 (show okG (grp 0) from by exact Vv _) (show JR (grp 0) 7 from by exact Ql8)) fun v52 w53 q54 s55 h56 => ?_
 obtain ⟨v57, v58, rfl, q59, q60⟩ := q54
 obtain ⟨A61, c62, rfl⟩ := Qi.shape q59
 have z63 := Qi.cap q59
 have q60 := Is.out q60; subst q60
 refine sv (Qa.move rfl) ?_
 refine sv (Qa.extract rfl rfl) ?_
 refine sv (Qa.extract rfl rfl) ?_
 refine QM 5 [.slice none 0 0] h56 Qn rfl fun b66 L64 w65 o67 s68 h69 => ?_
 refine Q2 [.slice A61 (nw ((grp 0).g ^ 7 % (grp 0).p)) c62] h69 o67 Qn rfl rfl rfl (lB9 rfl) rfl rfl fun w70 o71 s72 h73 => ?_
 refine sv (Qa.assign rfl) ?_
 refine nsr ?_
 refine sv (Qa.move rfl) ?_
 refine sv (Yi Try.underlying56 rfl rfl) ?_
 refine sv (Qa.move rfl) ?_
 refine Qh rfl rfl rfl ?_
 refine sv (Qa.move rfl) ?_
 refine Qh rfl rfl rfl ?_
 refine sv (Qa.eql (a := 0) (b := 0) rfl rfl) ?_
 refine sv (Jt rfl rfl) ?_
 refine sv (Qa.move rfl) ?_
 refine Qh rfl rfl rfl ?_
 refine sv (Qa.move rfl) ?_
 refine Qh rfl rfl rfl ?_
 refine sv (Qa.eql (a := 0) (b := 0) rfl rfl) ?_
 refine sv (Jt rfl rfl) ?_
 refine sv (Qa.move rfl) ?_
 refine Qh rfl rfl rfl ?_
 refine sv (Qa.move rfl) ?_
 refine Qh rfl rfl rfl ?_
 refine sv (Qa.len Try.underlying22 rfl) ?_
 refine Qh rfl rfl rfl ?_
 refine sv (Qa.eql rfl rfl) ?_
 refine sv (Jt rfl rfl) ?_
 refine sv (Qa.move rfl) ?_
 rcases Decidable.em ((((List.length (Jk (grp 0) 7 ([(109 : UInt8)])) : Nat) : Int) : Int) = (2 : Int)) with hp1 | hp1
 rotate_left
 ·refine Qk rfl rfl (dF9 hp1) rfl (by decide) ?_
  refine Qk rfl rfl (dF9 hp1) rfl (by decide) ?_
  refine Qk rfl rfl (dF9 hp1) rfl (by decide) ?_
  refine Qk rfl rfl (dF9 hp1) rfl (by decide) ?_
  refine Qk rfl rfl (dF9 hp1) rfl (by decide) ?_
  refine Qk rfl rfl (dF9 hp1) rfl (by decide) ?_
  refine sv (Qp rfl (dF9 hp1) rfl) ?_
  refine sv (Qa.assign rfl) ?_
  refine Seq.next ?_
  have c102 := s68.trans s72
  have c103 := s55.trans c102
  have c104 := c50.trans c103
  have c105 := c27.trans c104
  have c106 := s4.trans c105
  obtain ⟨⟨zU, zo⟩, zb⟩ := hX c106 (by decide)
  refine Run.ret ?_
  exact Qm Try.results64 rfl ⟨_, rfl, (Jj (by exact absurd Qd0 hp1) _ _), zb⟩
 refine Qh rfl rfl (dT9 hp1) ?_
 refine sv (Qa.move rfl) ?_
 refine Qh rfl rfl (dT9 hp1) ?_
 refine sv (Qb [.slice A61 (nw ((grp 0).g ^ 7 % (grp 0).p)) c62] o71 Qn rfl rfl) ?_
 refine Qh rfl rfl (dT9 hp1) ?_
 refine Qby (k := 40) [(0, .int .u8 109)] [.int .u8 109] h73 Try.underlying22 ty5 (by decide) (by decide) rfl (by kernel_rfl) fun L74 w75 b76 o77 s78 h79 => ?_
 refine Qh rfl rfl (dT9 hp1) ?_
 refine Qew (k := 40) (xs := [(109 : UInt8)]) Try.underlying22 Try.underlying5 h79 o77 rfl rfl (by decide) fun w80 q81 s82 h83 => ?_
 refine Qh rfl rfl (dT9 hp1) ?_
 refine sv (Qa.move rfl) ?_
 refine Qh rfl rfl (dT9 hp1) ?_
 have q84 := QU.v q81
 have c85 := s78.trans s82
 have c86 := s72.trans c85
 have c87 := s68.trans c86
 have c88 := s55.trans c87
 have q89 := up c88 q51
 have q90 := up c87 q59
 have c91 := s45.trans c88
 have q92 := up c91 q37
 refine Q7 (V := Is (.bool (decide (Z1 (grp 0) ((grp 0).g ^ 7 % (grp 0).p) ([(109 : UInt8)]) (Jk (grp 0) 7 ([(109 : UInt8)])))))) XD h83 rfl (J0 h83 q89 q90 q84 q92 (show okG (grp 0) from by exact Vv _) (show nw ((grp 0).g ^ 7 % (grp 0).p) ≤ 1000 from by exact Nat.le_trans (Zx (Vv 0) _) (by omega)) (show List.length ([(109 : UInt8)]) ≤ 4000000 from by simp)) fun v93 w94 q95 s96 h97 => ?_
 have q95 := Is.out q95; subst q95
 refine sv (Qp rfl (dT9 hp1) rfl) ?_
 refine sv (Qa.assign rfl) ?_
 refine Seq.next ?_
 have c98 := c88.trans s96
 have c99 := c50.trans c98
 have c100 := c27.trans c99
 have c101 := s4.trans c100
 obtain ⟨⟨zU, zo⟩, zb⟩ := hX c101 (by decide)
 refine Run.ret ?_
 exact Qm Try.results64 rfl ⟨_, rfl, (Jj (by exact dT9 (UA (Vv 0) (QiE 0) 7 [109])) _ _), zb⟩
end Go.Proofs.Ytgfomedobfaidaa
end
