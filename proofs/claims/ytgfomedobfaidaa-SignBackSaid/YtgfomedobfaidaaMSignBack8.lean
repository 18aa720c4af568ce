import Derived.Test.YtgfomedobfaidaaMSignBack7
set_option maxHeartbeats 8000000
set_option maxRecDepth 1000000
/-
  The row of SignBack: that the law answers true of every input; part 8 of 10: what the proof needs, in order.
-/
section
set_option linter.unusedVariables false
set_option linter.unusedSimpArgs false
namespace Go.Proofs.Ytgfomedobfaidaa
open Go.RowKit
theorem Vz {lab : Lab} {w : World} (hv : Ql lab w) {n : Nat} {v0 : Value} (h0 : Qi n lab w v0) (hn : nw n ≤ 1000000) :
  Calls Try.prog 109 #[v0] w (fun e w' => ∃ v, e = .returned v ∧ (Is (.bool (decide (Zy n)))) lab w' v ∧ Below w.heap.size w w') := by
 obtain ⟨L0, h0L, ⟨zU0, z00⟩, hX⟩ := QZ hv
 replace h0 := up z00 h0
 obtain ⟨A1, c2, rfl⟩ := Qi.shape h0
 have z3 := Qi.cap h0
 refine Qu Try.func109 rfl Try.ntmps109 (lB9 rfl) ?_
 refine rsr ?_
 refine Yz 2 [.slice A1 (nw n) c2] h0L rfl rfl fun b6 L4 w5 o7 s8 h9 => ?_
 refine sv (Qa.assign rfl) ?_
 refine nsr ?_
 refine sv (Qb [.slice A1 (nw n) c2] o7 Qn rfl rfl) ?_
 have q10 := up s8 h0
 refine Q7 (V := Is (i64 ((QL n : Nat) : Int))) X4 h9 rfl (ZZ h9 q10 (show nw n ≤ 1000000 from by assumption)) fun v11 w12 q13 s14 h15 => ?_
 have q13 := Is.out q13; subst q13
 refine sv (Qa.gtr rfl rfl) ?_
 refine sv (Qa.assign rfl) ?_
 refine Seq.next ?_
 have c16 := s8.trans s14
 obtain ⟨⟨zU, zo⟩, zb⟩ := hX c16 (by decide)
 refine Run.ret ?_
 exact Qm Try.results109 rfl ⟨_, rfl, (Jj (by (exact decide_eq_decide.2 (by unfold Zy; omega))) _ _), zb⟩
theorem Z8 {lab : Lab} {w : World} (hv : Ql lab w) {g : GroupD} {v0 : Value} (h0 : Js g lab w v0) :
  Calls Try.prog 38 #[v0] w (fun e w' => ∃ v, e = .returned v ∧ (JO g.q) lab w' v ∧ Below w.heap.size w w') := by
 obtain ⟨L0, h0L, ⟨zU0, z00⟩, hX⟩ := QZ hv
 replace h0 := up z00 h0
 obtain ⟨b1, rfl⟩ := YH.shape h0
 refine Qu Try.func38 rfl Try.ntmps38 (lB9 rfl) ?_
 refine rsr ?_
 refine sv (Qa.assign rfl) ?_
 refine Seq.next ?_
 refine Run.seq ?_
 refine rsr ?_
 refine sv (Qa.move rfl) ?_
 refine sv (Jf Try.underlying56 rfl rfl) ?_
 refine Seq.next ?_
 refine Qc rfl rfl ?_
 refine Qg (fun _ _ h => h) ?_
 refine rsr ?_
 refine sv (Qa.move rfl) ?_
 refine sv (Qa.nilCheck rfl) ?_
 obtain ⟨bp2, bq3, A4, c5, A6, c7, r8, q9, q10, q11, q12⟩ := Js.open h0
 refine sv (Qd 1 Try.underlying169 rfl VS rfl rfl) ?_
 refine sv (Jh VS rfl (Ro.cell r8 1 rfl)) ?_
 refine sv (Qa.assign rfl) ?_
 refine Seq.next ?_
 have z9 := Stp.refl L0 w
 obtain ⟨⟨zU, zo⟩, zb⟩ := hX z9 (by decide)
 refine Run.ret ?_
 exact Qm Try.results38 rfl ⟨_, rfl, (up zo q10), zb⟩
theorem Qft {lab : Lab} {w : World} (hv : Ql lab w) {g : GroupD} {v0 : Value} (h0 : Js g lab w v0) :
  Calls Try.prog 107 #[v0] w (fun e w' => ∃ v, e = .returned v ∧ (Qi g.p) lab w' v ∧ Below w.heap.size w w') := by
 obtain ⟨L0, h0L, ⟨zU0, z00⟩, hX⟩ := QZ hv
 replace h0 := up z00 h0
 obtain ⟨b1, rfl⟩ := YH.shape h0
 refine Qu Try.func107 rfl Try.ntmps107 (lB9 rfl) ?_
 refine rsr ?_
 refine QM 3 [.slice none 0 0] h0L Qn rfl fun b4 L2 w3 o5 s6 h7 => ?_
 refine Seq.next ?_
 refine Run.seq ?_
 refine rsr ?_
 refine sv (Qa.move rfl) ?_
 refine sv (Jf Try.underlying56 rfl rfl) ?_
 refine Seq.next ?_
 refine Qc rfl rfl ?_
 refine Qg (fun _ _ h => h) ?_
 refine rsr ?_
 refine sv (Qa.move rfl) ?_
 refine sv (Qa.nilCheck rfl) ?_
 have q8 := up s6 h0
 obtain ⟨bp9, bq10, A11, c12, A13, c14, r15, q16, q17, q18, q19⟩ := Js.open q8
 refine sv (Qd 0 Try.underlying169 rfl VS rfl rfl) ?_
 refine sv (Jh VS rfl (Ro.cell r15 0 rfl)) ?_
 refine Q7 (V := Qi g.p) QfE h7 rfl (Ye h7 q16) fun v20 w21 q22 s23 h24 => ?_
 obtain ⟨A25, c26, rfl⟩ := Qi.shape q22
 have z27 := Qi.cap q22
 have o28 := o5.up s23
 refine Q2 [.slice A25 (nw g.p) c26] h24 o28 Qn rfl rfl rfl (lB9 rfl) rfl rfl fun w29 o30 s31 h32 => ?_
 refine Seq.next ?_
 have c33 := s23.trans s31
 have c34 := s6.trans c33
 obtain ⟨⟨zU, zo⟩, zb⟩ := hX c34 (by decide)
 have q35 := up s31 q22
 refine Run.ret ?_
 exact Qm Try.results107 ⟨_, rfl, Q6 [.slice A25 (nw g.p) c26] o30 Qn rfl⟩ ⟨_, rfl, (up zo q35), zb⟩
theorem Qad {lab : Lab} {w : World} (hv : Ql lab w) {g : GroupD} {v0 : Value} (h0 : Js g lab w v0) :
  Calls Try.prog 35 #[v0] w (fun e w' => ∃ v, e = .returned v ∧ (Qi g.g) lab w' v ∧ Below w.heap.size w w') := by
 obtain ⟨L0, h0L, ⟨zU0, z00⟩, hX⟩ := QZ hv
 replace h0 := up z00 h0
 obtain ⟨b1, rfl⟩ := YH.shape h0
 refine Qu Try.func35 rfl Try.ntmps35 (lB9 rfl) ?_
 refine rsr ?_
 refine QM 3 [.slice none 0 0] h0L Qn rfl fun b4 L2 w3 o5 s6 h7 => ?_
 refine Seq.next ?_
 refine Run.seq ?_
 refine rsr ?_
 refine sv (Qa.move rfl) ?_
 refine sv (Jf Try.underlying56 rfl rfl) ?_
 refine Seq.next ?_
 refine Qc rfl rfl ?_
 refine Qg (fun _ _ h => h) ?_
 refine rsr ?_
 refine sv (Qa.move rfl) ?_
 refine sv (Qa.nilCheck rfl) ?_
 have q8 := up s6 h0
 obtain ⟨bp9, bq10, A11, c12, A13, c14, r15, q16, q17, q18, q19⟩ := Js.open q8
 refine sv (Qd 2 Try.underlying169 rfl Qn rfl rfl) ?_
 refine sv (Zl (cs := [.slice A11 (nw g.g) c12]) Qn rfl (Ro.cells r15 2)) ?_
 refine Q2 [.slice A11 (nw g.g) c12] h7 o5 Qn rfl rfl rfl (lB9 rfl) rfl rfl fun w20 o21 s22 h23 => ?_
 refine Seq.next ?_
 have c24 := s6.trans s22
 obtain ⟨⟨zU, zo⟩, zb⟩ := hX c24 (by decide)
 have q25 := up s22 q18
 refine Run.ret ?_
 exact Qm Try.results35 ⟨_, rfl, Q6 [.slice A11 (nw g.g) c12] o21 Qn rfl⟩ ⟨_, rfl, (up zo q25), zb⟩
theorem Xm {lab : Lab} {w : World} (hv : Ql lab w) {g : GroupD} {v0 : Value} (h0 : Js g lab w v0) {a : Nat} {v1 : Value} (h1 : Qi a lab w v1) (hG : okG g) (ha : nw a ≤ 1000) :
  Calls Try.prog 36 #[v0, v1] w (fun e w' => ∃ v, e = .returned v ∧ (Is (.bool (decide (ZU g a)))) lab w' v ∧ Below w.heap.size w w') := by
 obtain ⟨L0, h0L, ⟨zU0, z00⟩, hX⟩ := QZ hv
 replace h0 := up z00 h0
 obtain ⟨b1, rfl⟩ := YH.shape h0
 replace h1 := up z00 h1
 obtain ⟨A2, c3, rfl⟩ := Qi.shape h1
 have z4 := Qi.cap h1
 have ⟨gp1, gq1, gpn, gqn, ggn, ghn⟩ := hG
 refine Qu Try.func36 rfl Try.ntmps36 (lB9 rfl) ?_
 refine rsr ?_
 refine Yz 4 [.slice A2 (nw a) c3] h0L rfl rfl fun b7 L5 w6 o8 s9 h10 => ?_
 refine sv (Qa.assign rfl) ?_
 refine Seq.next ?_
 refine Run.seq ?_
 rcases ZN (!(decide (a = 0))) with hc1 | hc1
 rotate_left
 ·refine Run.open 30 (Φ := ((.ex (.pointer (some ⟨b1, 0, none⟩))) :: (.ex (.bool true)) :: (.ex (.bool true)) :: (.ex (.agg #[.slice A2 (nw a) c3])) :: (.v (Is (.bool (decide (a = 0))))) :: (.ex (.bool (!(decide (a = 0))))) :: (.ex (.bool (!(decide (a = 0))))) :: (.ex (.bool (!(decide (a = 0))))) :: (.ex undef) :: (.ex undef) :: (.ex undef) :: (.ex undef) :: (.ex undef) :: (.ex (.bool false)) :: (.ex (.bool false)) :: (.ex undef) :: (.ex undef) :: (.ex undef) :: (.ex undef) :: (.ex undef) :: (.ex undef) :: (.ex undef) :: (.ex undef) :: (.ex undef) :: (.ex undef) :: (.ex undef) :: (.ex undef) :: (.ex undef) :: (.ex undef) :: (.ex (.bool false)) :: [])) [(29, 34)] Je (by kernel_rfl) rfl h10 ⟨(oX [] rfl rfl rfl fun _ _ => Qa.move rfl), (oX [(0, 5)] rfl rfl rfl fun _ _ => Yi Try.underlying56 rfl rfl), (oX [(1, 6)] rfl rfl rfl fun _ _ => Qa.move rfl), ?_, ?_, ?_, (oX [(2, 7), (5, 10)] rfl rfl rfl fun _ _ => Jt rfl rfl), (oX [(6, 11)] rfl rfl rfl fun _ _ => Qa.move rfl), (Ji rfl rfl rfl rfl hc1 rfl rfl), (Ji rfl rfl rfl rfl hc1 rfl rfl), (Ji rfl rfl rfl rfl hc1 rfl rfl), (Ji rfl rfl rfl rfl hc1 rfl rfl), (Ji rfl rfl rfl rfl hc1 rfl rfl), (oX [(7, 12)] rfl rfl rfl fun _ _ => Qp rfl hc1 rfl), (oX [(13, 18)] rfl rfl rfl fun _ _ => Qa.move rfl), (Ji rfl rfl rfl rfl rfl rfl rfl), (Ji rfl rfl rfl rfl rfl rfl rfl), (Ji rfl rfl rfl rfl rfl rfl rfl), (Ji rfl rfl rfl rfl rfl rfl rfl), (Ji rfl rfl rfl rfl rfl rfl rfl), (Ji rfl rfl rfl rfl rfl rfl rfl), (Ji rfl rfl rfl rfl rfl rfl rfl), (Ji rfl rfl rfl rfl rfl rfl rfl), (Ji rfl rfl rfl rfl rfl rfl rfl), (Ji rfl rfl rfl rfl rfl rfl rfl), (Ji rfl rfl rfl rfl rfl rfl rfl), (Ji rfl rfl rfl rfl rfl rfl rfl), (Ji rfl rfl rfl rfl rfl rfl rfl), (Ji rfl rfl rfl rfl rfl rfl rfl), (oX [(14, 19)] rfl rfl rfl fun _ _ => Ju rfl rfl), trivial⟩ (fun L460 w461 h462 s463 => ?_)
  ·refine Q9 [] rfl rfl rfl rfl rfl rfl fun L423 w424 h425 s426 => ?_
   have o427 := o8.up s426
   exact ⟨_, Qb [.slice A2 (nw a) c3] o427 Qn rfl rfl, rfl⟩
  ·refine Zp [(3, 8)] rfl rfl rfl rfl rfl rfl X1 fun L428 w429 h430 s431 => ?_
   have c432 := s9.trans s431
   have q433 := up c432 h1
   exact ⟨_, rfl, (Zb h430 q433)⟩
  ·refine Q9 [(4, 9)] rfl rfl rfl rfl rfl rfl fun L434 w435 h436 s437 v438 q439 => ?_
   have q439 := Is.out q439; subst q439
   exact ⟨_, Qa.not rfl, rfl⟩
  refine sv (Qa.assign rfl) ?_
  refine Seq.next ?_
  have c464 := s9.trans s463
  obtain ⟨⟨zU, zo⟩, zb⟩ := hX c464 (by decide)
  refine Run.ret ?_
  exact Qm Try.results36 rfl ⟨_, rfl, (Jj (by exact Qlm hc1) _ _), zb⟩
 rcases Decidable.em ((Jo a g.p : Int) < (0 : Int)) with hp2 | hp2
 rotate_left
 ·refine Run.open 30 (Φ := ((.ex (.pointer (some ⟨b1, 0, none⟩))) :: (.ex (.bool true)) :: (.ex (.bool true)) :: (.ex (.agg #[.slice A2 (nw a) c3])) :: (.v (Is (.bool (decide (a = 0))))) :: (.ex (.bool (!(decide (a = 0))))) :: (.ex (.bool (!(decide (a = 0))))) :: (.ex (.bool (!(decide (a = 0))))) :: (.ex (.agg #[.slice A2 (nw a) c3])) :: (.ex (.pointer (some ⟨b1, 0, none⟩))) :: (.v (Qi g.p)) :: (.v (Is (i64 (Jo a g.p)))) :: (.ex (.bool (decide ((Jo a g.p : Int) < (0 : Int))))) :: (.ex (.bool (decide ((Jo a g.p : Int) < (0 : Int))))) :: (.ex (.bool (decide ((Jo a g.p : Int) < (0 : Int))))) :: (.ex undef) :: (.ex undef) :: (.ex undef) :: (.ex undef) :: (.ex undef) :: (.ex undef) :: (.ex undef) :: (.ex undef) :: (.ex undef) :: (.ex undef) :: (.ex undef) :: (.ex undef) :: (.ex undef) :: (.ex undef) :: (.ex (.bool false)) :: [])) [(29, 34)] Je (by kernel_rfl) rfl h10 ⟨(oX [] rfl rfl rfl fun _ _ => Qa.move rfl), (oX [(0, 5)] rfl rfl rfl fun _ _ => Yi Try.underlying56 rfl rfl), (oX [(1, 6)] rfl rfl rfl fun _ _ => Qa.move rfl), ?_, ?_, ?_, (oX [(2, 7), (5, 10)] rfl rfl rfl fun _ _ => Jt rfl rfl), (oX [(6, 11)] rfl rfl rfl fun _ _ => Qa.move rfl), ?_, ?_, ?_, ?_, ?_, (oX [(7, 12), (12, 17)] rfl rfl rfl fun _ _ => Qp rfl hc1 rfl), (oX [(13, 18)] rfl rfl rfl fun _ _ => Qa.move rfl), (Ji rfl rfl rfl rfl (dF9 hp2) rfl rfl), (Ji rfl rfl rfl rfl (dF9 hp2) rfl rfl), (Ji rfl rfl rfl rfl (dF9 hp2) rfl rfl), (Ji rfl rfl rfl rfl (dF9 hp2) rfl rfl), (Ji rfl rfl rfl rfl (dF9 hp2) rfl rfl), (Ji rfl rfl rfl rfl (dF9 hp2) rfl rfl), (Ji rfl rfl rfl rfl (dF9 hp2) rfl rfl), (Ji rfl rfl rfl rfl (dF9 hp2) rfl rfl), (Ji rfl rfl rfl rfl (dF9 hp2) rfl rfl), (Ji rfl rfl rfl rfl (dF9 hp2) rfl rfl), (Ji rfl rfl rfl rfl (dF9 hp2) rfl rfl), (Ji rfl rfl rfl rfl (dF9 hp2) rfl rfl), (Ji rfl rfl rfl rfl (dF9 hp2) rfl rfl), (Ji rfl rfl rfl rfl (dF9 hp2) rfl rfl), (oX [(14, 19)] rfl rfl rfl fun _ _ => Qp rfl (dF9 hp2) rfl), trivial⟩ (fun L406 w407 h408 s409 => ?_)
  ·refine Q9 [] rfl rfl rfl rfl rfl rfl fun L337 w338 h339 s340 => ?_
   have o341 := o8.up s340
   exact ⟨_, Qb [.slice A2 (nw a) c3] o341 Qn rfl rfl, rfl⟩
  ·refine Zp [(3, 8)] rfl rfl rfl rfl rfl rfl X1 fun L342 w343 h344 s345 => ?_
   have c346 := s9.trans s345
   have q347 := up c346 h1
   exact ⟨_, rfl, (Zb h344 q347)⟩
  ·refine Q9 [(4, 9)] rfl rfl rfl rfl rfl rfl fun L348 w349 h350 s351 v352 q353 => ?_
   have q353 := Is.out q353; subst q353
   exact ⟨_, Qa.not rfl, rfl⟩
  ·refine Q9 [] rfl rfl rfl rfl hc1 rfl fun L362 w363 h364 s365 => ?_
   have o366 := o8.up s365
   exact ⟨_, Qb [.slice A2 (nw a) c3] o366 Qn rfl rfl, rfl⟩
  ·refine Q9 [] rfl rfl rfl rfl hc1 rfl fun L367 w368 h369 s370 => ?_
   exact ⟨_, Qa.move rfl, rfl⟩
  ·refine Zp [(9, 14)] rfl rfl rfl rfl hc1 rfl QhK fun L371 w372 h373 s374 => ?_
   have c375 := s9.trans s374
   have q376 := up c375 h0
   exact ⟨_, rfl, (Qft h373 q376)⟩
  ·refine Zp [(8, 13), (10, 15)] rfl rfl rfl rfl hc1 rfl ZP fun L377 w378 h379 s380 v381 q382 => ?_
   obtain ⟨A383, c384, rfl⟩ := Qi.shape q382
   have z385 := Qi.cap q382
   have c386 := s9.trans s380
   have q387 := up c386 h1
   exact ⟨_, rfl, (J8 h379 q387 q382)⟩
  ·refine Q9 [(11, 16)] rfl rfl rfl rfl hc1 rfl fun L388 w389 h390 s391 v392 q393 => ?_
   have q393 := Is.out q393; subst q393
   exact ⟨_, Qa.lss rfl rfl, rfl⟩
  refine sv (Qa.assign rfl) ?_
  refine Seq.next ?_
  have c410 := s9.trans s409
  obtain ⟨⟨zU, zo⟩, zb⟩ := hX c410 (by decide)
  refine Run.ret ?_
  exact Qm Try.results36 rfl ⟨_, rfl, (Jj (by exact Qll hp2) _ _), zb⟩
 have q148 := up s9 h0
 obtain ⟨bp149, bq150, A151, c152, A153, c154, r155, q156, q157, q158, q159⟩ := Js.open q148
 refine Run.open 30 (Φ := ((.ex (.pointer (some ⟨b1, 0, none⟩))) :: (.ex (.bool true)) :: (.ex (.bool true)) :: (.ex (.agg #[.slice A2 (nw a) c3])) :: (.v (Is (.bool (decide (a = 0))))) :: (.ex (.bool (!(decide (a = 0))))) :: (.ex (.bool (!(decide (a = 0))))) :: (.ex (.bool (!(decide (a = 0))))) :: (.ex (.agg #[.slice A2 (nw a) c3])) :: (.ex (.pointer (some ⟨b1, 0, none⟩))) :: (.v (Qi g.p)) :: (.v (Is (i64 (Jo a g.p)))) :: (.ex (.bool (decide ((Jo a g.p : Int) < (0 : Int))))) :: (.ex (.bool (decide ((Jo a g.p : Int) < (0 : Int))))) :: (.ex (.bool (decide ((Jo a g.p : Int) < (0 : Int))))) :: (.ex (.pointer (some ⟨b1, 0, none⟩))) :: (.ex (.pointer (some ⟨b1, 0, none⟩))) :: (.ex (.pointer (some ⟨b1, 0, none⟩))) :: (.ex (.pointer (some ⟨bp149, 0, none⟩))) :: (.ex (.agg #[.slice A2 (nw a) c3])) :: (.ex (.pointer (some ⟨b1, 0, none⟩))) :: (.ex (.pointer (some ⟨b1, 0, none⟩))) :: (.ex (.pointer (some ⟨b1, 1, none⟩))) :: (.ex (.pointer (some ⟨bq150, 0, none⟩))) :: (.v (Qi g.q)) :: (.v (Qi (a ^ g.q % g.p))) :: (.v (Qi 1)) :: (.v (Is (i64 (Jo (a ^ g.q % g.p) 1)))) :: (.ex (.bool (decide ((Jo (a ^ g.q % g.p) 1 : Int) = (0 : Int))))) :: (.ex (.bool (decide ((Jo (a ^ g.q % g.p) 1 : Int) = (0 : Int))))) :: [])) [(29, 34)] Je (by kernel_rfl) rfl h10 ⟨(oX [] rfl rfl rfl fun _ _ => Qa.move rfl), (oX [(0, 5)] rfl rfl rfl fun _ _ => Yi Try.underlying56 rfl rfl), (oX [(1, 6)] rfl rfl rfl fun _ _ => Qa.move rfl), ?_, ?_, ?_, (oX [(2, 7), (5, 10)] rfl rfl rfl fun _ _ => Jt rfl rfl), (oX [(6, 11)] rfl rfl rfl fun _ _ => Qa.move rfl), ?_, ?_, ?_, ?_, ?_, (oX [(7, 12), (12, 17)] rfl rfl rfl fun _ _ => Qp rfl hc1 rfl), (oX [(13, 18)] rfl rfl rfl fun _ _ => Qa.move rfl), ?_, ?_, ?_, ?_, ?_, ?_, ?_, ?_, ?_, ?_, ?_, ?_, ?_, ?_, (oX [(14, 19), (28, 33)] rfl rfl rfl fun _ _ => Qp rfl (dT9 hp2) rfl), trivial⟩ (fun L320 w321 h322 s323 => ?_)
 ·refine Q9 [] rfl rfl rfl rfl rfl rfl fun L172 w173 h174 s175 => ?_
  have o176 := o8.up s175
  exact ⟨_, Qb [.slice A2 (nw a) c3] o176 Qn rfl rfl, rfl⟩
 ·refine Zp [(3, 8)] rfl rfl rfl rfl rfl rfl X1 fun L177 w178 h179 s180 => ?_
  have c181 := s9.trans s180
  have q182 := up c181 h1
  exact ⟨_, rfl, (Zb h179 q182)⟩
 ·refine Q9 [(4, 9)] rfl rfl rfl rfl rfl rfl fun L183 w184 h185 s186 v187 q188 => ?_
  have q188 := Is.out q188; subst q188
  exact ⟨_, Qa.not rfl, rfl⟩
 ·refine Q9 [] rfl rfl rfl rfl hc1 rfl fun L197 w198 h199 s200 => ?_
  have o201 := o8.up s200
  exact ⟨_, Qb [.slice A2 (nw a) c3] o201 Qn rfl rfl, rfl⟩
 ·refine Q9 [] rfl rfl rfl rfl hc1 rfl fun L202 w203 h204 s205 => ?_
  exact ⟨_, Qa.move rfl, rfl⟩
 ·refine Zp [(9, 14)] rfl rfl rfl rfl hc1 rfl QhK fun L206 w207 h208 s209 => ?_
  have q210 := up s209 q148
  exact ⟨_, rfl, (Qft h208 q210)⟩
 ·refine Zp [(8, 13), (10, 15)] rfl rfl rfl rfl hc1 rfl ZP fun L211 w212 h213 s214 v215 q216 => ?_
  obtain ⟨A217, c218, rfl⟩ := Qi.shape q216
  have z219 := Qi.cap q216
  have c220 := s9.trans s214
  have q221 := up c220 h1
  exact ⟨_, rfl, (J8 h213 q221 q216)⟩
 ·refine Q9 [(11, 16)] rfl rfl rfl rfl hc1 rfl fun L222 w223 h224 s225 v226 q227 => ?_
  have q227 := Is.out q227; subst q227
  exact ⟨_, Qa.lss rfl rfl, rfl⟩
 ·refine Q9 [] rfl rfl rfl rfl (dT9 hp2) rfl fun L236 w237 h238 s239 => ?_
  exact ⟨_, Qa.move rfl, rfl⟩
 ·refine Q9 [(15, 20)] rfl rfl rfl rfl (dT9 hp2) rfl fun L240 w241 h242 s243 => ?_
  exact ⟨_, Qa.nilCheck rfl, rfl⟩
 ·refine Q9 [(16, 21)] rfl rfl rfl rfl (dT9 hp2) rfl fun L244 w245 h246 s247 => ?_
  exact ⟨_, Qd 0 Try.underlying169 rfl VS rfl rfl, rfl⟩
 ·refine Q9 [(17, 22)] rfl rfl rfl rfl (dT9 hp2) rfl fun L248 w249 h250 s251 => ?_
  have q252 := up s251 r155
  exact ⟨_, Jh VS rfl (Ro.cell q252 0 rfl), rfl⟩
 ·refine Q9 [] rfl rfl rfl rfl (dT9 hp2) rfl fun L253 w254 h255 s256 => ?_
  have o257 := o8.up s256
  exact ⟨_, Qb [.slice A2 (nw a) c3] o257 Qn rfl rfl, rfl⟩
 ·refine Q9 [] rfl rfl rfl rfl (dT9 hp2) rfl fun L258 w259 h260 s261 => ?_
  exact ⟨_, Qa.move rfl, rfl⟩
 ·refine Q9 [(20, 25)] rfl rfl rfl rfl (dT9 hp2) rfl fun L262 w263 h264 s265 => ?_
  exact ⟨_, Qa.nilCheck rfl, rfl⟩
 ·refine Q9 [(21, 26)] rfl rfl rfl rfl (dT9 hp2) rfl fun L266 w267 h268 s269 => ?_
  exact ⟨_, Qd 1 Try.underlying169 rfl VS rfl rfl, rfl⟩
 ·refine Q9 [(22, 27)] rfl rfl rfl rfl (dT9 hp2) rfl fun L270 w271 h272 s273 => ?_
  have q274 := up s273 r155
  exact ⟨_, Jh VS rfl (Ro.cell q274 1 rfl), rfl⟩
 ·refine Zp [(23, 28)] rfl rfl rfl rfl (dT9 hp2) rfl QfE fun L275 w276 h277 s278 => ?_
  have q279 := up s278 q157
  exact ⟨_, rfl, (Ye h277 q279)⟩
 ·refine Zp [(18, 23), (19, 24), (24, 29)] rfl rfl rfl rfl (dT9 hp2) rfl QaU fun L280 w281 h282 s283 v284 q285 => ?_
  obtain ⟨A286, c287, rfl⟩ := Qi.shape q285
  have z288 := Qi.cap q285
  have q289 := up s283 q156
  have c290 := s9.trans s283
  have q291 := up c290 h1
  exact ⟨_, rfl, (XT h282 q289 q291 q285 (show 1 < g.p from by omega) (show nw a ≤ 1000 from by omega) (show nw g.q ≤ 1000 from by omega) (show nw g.p ≤ 1000 from by omega))⟩
 ·refine Zp [] rfl rfl rfl rfl (dT9 hp2) rfl JN fun L292 w293 h294 s295 => ?_
  exact ⟨_, rfl, (QX h294 (x := 1) (show 1 < 18446744073709551616 from by omega))⟩
 ·refine Zp [(25, 30), (26, 31)] rfl rfl rfl rfl (dT9 hp2) rfl ZP fun L296 w297 h298 s299 v300 q301 v305 q306 => ?_
  obtain ⟨A302, c303, rfl⟩ := Qi.shape q301
  have z304 := Qi.cap q301
  obtain ⟨A307, c308, rfl⟩ := Qi.shape q306
  have z309 := Qi.cap q306
  exact ⟨_, rfl, (J8 h298 q301 q306)⟩
 ·refine Q9 [(27, 32)] rfl rfl rfl rfl (dT9 hp2) rfl fun L310 w311 h312 s313 v314 q315 => ?_
  have q315 := Is.out q315; subst q315
  exact ⟨_, Qa.eql rfl rfl, rfl⟩
 refine sv (Qa.assign rfl) ?_
 refine Seq.next ?_
 have c324 := s9.trans s323
 obtain ⟨⟨zU, zo⟩, zb⟩ := hX c324 (by decide)
 refine Run.ret ?_
 exact Qm Try.results36 rfl ⟨_, rfl, (Jj (by exact Qlk hc1 hp2) _ _), zb⟩
theorem Kr {lab : Lab} {w : World} (hv : Ql lab w) {g : GroupD} {v0 : Value} (h0 : Js g lab w v0) {a : Nat} {v1 : Value} (h1 : Qi a lab w v1) {x : Nat} {v2 : Value} (h2 : Qi x lab w v2) (hG : okG g) (ha : nw a ≤ 1000) (hx : nw x ≤ 1000) :
  Calls Try.prog 37 #[v0, v1, v2] w (fun e w' => ∃ v, e = .returned v ∧ (Qi (a ^ x % g.p)) lab w' v ∧ Below w.heap.size w w') := by
 obtain ⟨L0, h0L, ⟨zU0, z00⟩, hX⟩ := QZ hv
 replace h0 := up z00 h0
 obtain ⟨b1, rfl⟩ := YH.shape h0
 replace h1 := up z00 h1
 obtain ⟨A2, c3, rfl⟩ := Qi.shape h1
 have z4 := Qi.cap h1
 replace h2 := up z00 h2
 obtain ⟨A5, c6, rfl⟩ := Qi.shape h2
 have z7 := Qi.cap h2
 have ⟨gp1, gq1, gpn, gqn, ggn, ghn⟩ := hG
 refine Qu Try.func37 rfl Try.ntmps37 (lB9 rfl) ?_
 refine rsr ?_
 refine Yz 5 [.slice A2 (nw a) c3] h0L rfl rfl fun b10 L8 w9 o11 s12 h13 => ?_
 refine Yz 6 [.slice A5 (nw x) c6] h13 rfl rfl fun b16 L14 w15 o17 s18 h19 => ?_
 refine QM 7 [.slice none 0 0] h19 Qn rfl fun b22 L20 w21 o23 s24 h25 => ?_
 refine Seq.next ?_
 refine Run.seq ?_
 refine rsr ?_
 refine sv (Qa.move rfl) ?_
 refine sv (Jf Try.underlying56 rfl rfl) ?_
 refine Seq.next ?_
 refine Qc rfl rfl ?_
 refine Qg (fun _ _ h => h) ?_
 refine Run.seq ?_
 have c26 := s18.trans s24
 have c27 := s12.trans c26
 have q28 := up c27 h0
 obtain ⟨bp29, bq30, A31, c32, A33, c34, r35, q36, q37, q38, q39⟩ := Js.open q28
 refine Run.open 7 (Φ := [.ex (.pointer (some ⟨b1, 0, none⟩)), .ex (.pointer (some ⟨b1, 0, none⟩)), .ex (.pointer (some ⟨b1, 0, none⟩)), .ex (.pointer (some ⟨bp29, 0, none⟩)), .ex (.agg #[.slice A2 (nw a) c3]), .ex (.agg #[.slice A5 (nw x) c6]), .v (Qi (a ^ x % g.p))]) [(6, 16)] Je (by kernel_rfl) rfl h25 ⟨(oX [] rfl rfl rfl fun _ _ => Qa.move rfl), (oX [(0, 10)] rfl rfl rfl fun _ _ => Qa.nilCheck rfl), (oX [(1, 11)] rfl rfl rfl fun _ _ => Qd 0 Try.underlying169 rfl VS rfl rfl), ?_, ?_, ?_, ?_, trivial⟩ (fun L77 w78 h79 s80 v81 q82 => ?_)
 ·refine oP [(2, 12)] rfl rfl fun L52 w53 h54 s55 => ?_
  have q56 := up s55 r35
  exact ⟨_, Jh VS rfl (Ro.cell q56 0 rfl), rfl⟩
 ·refine oP [] rfl rfl fun L57 w58 h59 s60 => ?_
  have c62 := c26.trans s60
  have o61 := o11.up c62
  exact ⟨_, Qb [.slice A2 (nw a) c3] o61 Qn rfl rfl, rfl⟩
 ·refine oP [] rfl rfl fun L63 w64 h65 s66 => ?_
  have c68 := s24.trans s66
  have o67 := o17.up c68
  exact ⟨_, Qb [.slice A5 (nw x) c6] o67 Qn rfl rfl, rfl⟩
 ·refine oC [(3, 13), (4, 14), (5, 15)] rfl rfl QaU fun L69 w70 h71 s72 => ?_
  have q73 := up s72 q36
  have c74 := c27.trans s72
  have q75 := up c74 h1
  have q76 := up c74 h2
  exact ⟨_, rfl, (XT h71 q73 q75 q76 (show 1 < g.p from by omega) (show nw a ≤ 1000 from by omega) (show nw x ≤ 1000 from by omega) (show nw g.p ≤ 1000 from by omega))⟩
 obtain ⟨A83, c84, rfl⟩ := Qi.shape q82
 have z85 := Qi.cap q82
 have o86 := o23.up s80
 refine Q2 [.slice A83 (nw (a ^ x % g.p)) c84] h79 o86 Qn rfl rfl rfl (lB9 rfl) rfl rfl fun w87 o88 s89 h90 => ?_
 refine Seq.next ?_
 have c91 := s80.trans s89
 have c92 := c27.trans c91
 obtain ⟨⟨zU, zo⟩, zb⟩ := hX c92 (by decide)
 have q93 := up s89 q82
 refine Run.ret ?_
 exact Qm Try.results37 ⟨_, rfl, Q6 [.slice A83 (nw (a ^ x % g.p)) c84] o88 Qn rfl⟩ ⟨_, rfl, (up zo q93), zb⟩
theorem Kt {lab : Lab} {w : World} (hv : Ql lab w) {g : GroupD} {v0 : Value} (h0 : Js g lab w v0) {a : Nat} {v1 : Value} (h1 : Qi a lab w v1) (hG : okG g) (ha : nw a ≤ 1000) :
  Calls Try.prog 57 #[v0, v1] w (fun e w' => ∃ v, e = .returned v ∧ (Zo (Qe (if ZU g a then beN a g.size else [])) (Is (i64 (if ZU g a then 0 else 3)))) lab w' v ∧ Below w.heap.size w w') := by
 obtain ⟨L0, h0L, ⟨zU0, z00⟩, hX⟩ := QZ hv
 replace h0 := up z00 h0
 obtain ⟨b1, rfl⟩ := YH.shape h0
 replace h1 := up z00 h1
 obtain ⟨A2, c3, rfl⟩ := Qi.shape h1
 have z4 := Qi.cap h1
 have ⟨gp1, gq1, gpn, gqn, ggn, ghn⟩ := hG
 have hgs := hG.size_le
 refine Qu Try.func57 rfl Try.ntmps57 (lB9 rfl) ?_
 refine rsr ?_
 refine Yz 4 [.slice A2 (nw a) c3] h0L rfl rfl fun b7 L5 w6 o8 s9 h10 => ?_
 refine sv (Qa.assign rfl) ?_
 refine sv (Qa.assign rfl) ?_
 refine Seq.next ?_
 refine Run.seq ?_
 refine Run.block ?_
 refine rsr ?_
 refine sv (Qa.move rfl) ?_
 refine sv (Jf Try.underlying56 rfl rfl) ?_
 refine sv (Qa.assign rfl) ?_
 refine Seq.next ?_
 refine Qc rfl rfl ?_
 refine rsr ?_
 refine sv (Qa.move rfl) ?_
 refine sv (Qb [.slice A2 (nw a) c3] o8 Qn rfl rfl) ?_
 have q11 := up s9 h0
 have q12 := up s9 h1
 refine Q7 (V := Is (.bool (decide (ZU g a)))) Qjj h10 rfl (Xm h10 q11 q12 (show okG g from by omega) (show nw a ≤ 1000 from by omega)) fun v13 w14 q15 s16 h17 => ?_
 have q15 := Is.out q15; subst q15
 refine sv (Qa.not rfl) ?_
 refine sv (Qa.assign rfl) ?_
 refine Seq.next ?_
 rcases ZN (!(decide (ZU g a))) with hc1 | hc1
 ·refine Qc rfl hc1 ?_
  refine rsr ?_
  refine sv (Qa.assign rfl) ?_
  refine sv (Qa.assign rfl) ?_
  refine Seq.next ?_
  have c18 := s9.trans s16
  obtain ⟨⟨zU, zo⟩, zb⟩ := hX c18 (by decide)
  refine Run.ret (QQ (Qr ?_))
  exact QP Try.results57 rfl rfl ⟨_, rfl, ⟨_, _, rfl, (Jc (by rw [if_neg (QcP hc1)]) (Qe.nil _ _)), (JF (by rw [if_neg (QcP hc1)]) _ _)⟩, zb⟩
 refine Qc rfl hc1 ?_
 refine Qg (fun _ _ h => h) ?_
 refine Run.seq ?_
 have q19 := up s16 q11
 obtain ⟨bp20, bq21, A22, c23, A24, c25, r26, q27, q28, q29, q30⟩ := Js.open q19
 refine Run.open 8 (Φ := [.ex (.agg #[.slice A2 (nw a) c3]), .ex (.pointer (some ⟨b1, 0, none⟩)), .ex (.pointer (some ⟨b1, 0, none⟩)), .ex (.pointer (some ⟨b1, 4, none⟩)), .ex (i64 g.size), .v (Zo (Qe (if (g.size : Int) < (((QL a + 7) / 8 : Nat) : Int) then [] else beN a (Int.toNat (g.size : Int)))) (Is (i64 (if (g.size : Int) < (((QL a + 7) / 8 : Nat) : Int) then 2 else 0)))), .v (Qe (if (g.size : Int) < (((QL a + 7) / 8 : Nat) : Int) then [] else beN a (Int.toNat (g.size : Int)))), .ex (i64 (if (g.size : Int) < (((QL a + 7) / 8 : Nat) : Int) then 2 else 0))]) [(6, 20), (7, 21)] Je (by kernel_rfl) rfl h17 ⟨?_, (oX [] rfl rfl rfl fun _ _ => Qa.move rfl), (oX [(1, 15)] rfl rfl rfl fun _ _ => Qa.nilCheck rfl), (oX [(2, 16)] rfl rfl rfl fun _ _ => Qd 4 Try.underlying169 rfl ty3 rfl rfl), ?_, ?_, ?_, ?_, trivial⟩ (fun L86 w87 h88 s89 v90 q91 => ?_)
 ·refine oP [] rfl rfl fun L31 w32 h33 s34 => ?_
  have c36 := s16.trans s34
  have o35 := o8.up c36
  exact ⟨_, Qb [.slice A2 (nw a) c3] o35 Qn rfl rfl, rfl⟩
 ·refine oP [(3, 17)] rfl rfl fun L49 w50 h51 s52 => ?_
  have q53 := up s52 r26
  exact ⟨_, Jh ty3 rfl (Ro.cell q53 4 rfl), rfl⟩
 ·refine oC [(0, 14), (4, 18)] rfl rfl Uz fun L54 w55 h56 s57 => ?_
  have c58 := s16.trans s57
  have q59 := up c58 q12
  exact ⟨_, rfl, (QaB h56 (size := (g.size : Int)) q59 (show nw a ≤ 1000000 from by omega) (show 0 ≤ (g.size : Int) ∧ (g.size : Int) ≤ 10000000 from by omega))⟩
 ·refine oP [(5, 19)] rfl rfl fun L60 w61 h62 s63 v64 q65 => ?_
  obtain ⟨v66, v67, rfl, q68, q69⟩ := q65
  obtain ⟨A70, c71, rfl⟩ := Qe.shape q68
  have z72 := Qe.cap q68
  have q69 := Is.out q69; subst q69
  exact ⟨_, Qa.extract rfl rfl, q68⟩
 ·refine oP [(5, 19)] rfl rfl fun L73 w74 h75 s76 v77 q78 => ?_
  obtain ⟨v79, v80, rfl, q81, q82⟩ := q78
  obtain ⟨A83, c84, rfl⟩ := Qe.shape q81
  have z85 := Qe.cap q81
  have q82 := Is.out q82; subst q82
  exact ⟨_, Qa.extract rfl rfl, rfl⟩
 obtain ⟨A92, c93, rfl⟩ := Qe.shape q91
 have z94 := Qe.cap q91
 refine sv (Qa.assign rfl) ?_
 refine sv (Qa.assign rfl) ?_
 refine Seq.next ?_
 have c95 := s16.trans s89
 have c96 := s9.trans c95
 obtain ⟨⟨zU, zo⟩, zb⟩ := hX c96 (by decide)
 refine Run.ret ?_
 exact QP Try.results57 rfl rfl ⟨_, rfl, ⟨_, _, rfl, (Jc (by ((have h9 := Qc6 hG (ZW hc1); rw [if_neg (by omega), if_pos (ZW hc1)]; rfl))) (up zo q91)), (JF (by ((have h9 := Qc6 hG (ZW hc1); rw [if_neg (by omega), if_pos (ZW hc1)]))) _ _)⟩, zb⟩
end Go.Proofs.Ytgfomedobfaidaa
end
section
set_option linter.unusedVariables false
set_option linter.unusedSimpArgs false
namespace Go.Proofs.Ytgfomedobfaidaa
open Go.RowKit
theorem Qfu {lab : Lab} {w : World} (hv : Ql lab w) {d : ParamsD} {v0 : Value} (h0 : J3 d lab w v0) {chain : List StepD} {v1 : Value} (h1 : Jy chain lab w v1) (hn : nw d.p ≤ 100000 ∧ nw d.q ≤ 100000 ∧ nw d.g ≤ 100000 ∧ List.length d.seed ≤ 1000000) (hc : ∀ i, i < List.length chain → nw (List.getD chain i QD).n ≤ 100000 ∧ nw (List.getD chain i QD).base ≤ 100000 ∧ ∀ x ∈ (List.getD chain i QD).primes, nw x ≤ 100000) (hl : ∀ i, i < List.length chain → List.length (List.getD chain i QD).primes ≤ 100000) :
  Calls Try.prog 41 #[v0, v1] w (fun e w' => ∃ v, e = .returned v ∧ (Zo (J6 ((KM d chain).1)) (Is (i64 ((KM d chain).2)))) lab w' v ∧ Below w.heap.size w w') := by
 obtain ⟨L0, h0L, ⟨zU0, z00⟩, hX⟩ := QZ hv
 replace h0 := up z00 h0
 obtain ⟨A1, c2, A4, c5, A7, c8, A10, c11, rfl, q3, q6, q9, q12⟩ := J3.open h0
 have z13 := Qi.cap q3
 have z14 := Qi.cap q6
 have z15 := Qi.cap q9
 have z16 := Qe.cap q12
 replace h1 := up z00 h1
 obtain ⟨A17, c18, rfl⟩ := Jy.shape h1
 have z19 := Jy.cap h1
 have n1 : nw 1 = 1 := Qc1
 have ⟨hn1, hn2, hn3, hn4⟩ := hn
 have hBl := Zv d.p
 have n256 : nw 256 ≤ 1 := Um (by omega)
 refine Qu Try.func41 rfl Try.ntmps41 (lB9 rfl) ?_
 refine rsr ?_
 refine Yz 3 [.slice A1 (nw d.p) c2, .slice A4 (nw d.q) c5, .slice A7 (nw d.g) c8, .slice A10 (List.length d.seed) c11] h0L rfl rfl fun b22 L20 w21 o23 s24 h25 => ?_
 refine sv (Qa.assign rfl) ?_
 refine sv (Qa.assign rfl) ?_
 refine nsr ?_
 refine Q7 (V := Qi 1) JN h25 rfl (QX h25 (x := 1) (show 1 < 18446744073709551616 from by omega)) fun v26 w27 q28 s29 h30 => ?_
 obtain ⟨A31, c32, rfl⟩ := Qi.shape q28
 have z33 := Qi.cap q28
 refine QM 7 [.slice none 0 0] h30 Qn rfl fun b36 L34 w35 o37 s38 h39 => ?_
 refine Q2 [.slice A31 (nw 1) c32] h39 o37 Qn rfl rfl rfl (lB9 rfl) rfl rfl fun w40 o41 s42 h43 => ?_
 refine Seq.next ?_
 refine Run.seq ?_
 refine rsr ?_
 refine sv (Qd 0 Try.underlying86 rfl Qn rfl rfl) ?_
 have c45 := s38.trans s42
 have c46 := s29.trans c45
 have o44 := o23.up c46
 refine sv (Qb [.slice A1 (nw d.p) c2] o44 Qn rfl rfl) ?_
 have c47 := s24.trans c46
 have q48 := up c47 q3
 refine Q7 (V := Is (.bool (decide (Zy d.p)))) QfK h43 rfl (Vz h43 q48 (show nw d.p ≤ 1000000 from by omega)) fun v49 w50 q51 s52 h53 => ?_
 have q51 := Is.out q51; subst q51
 refine sv (Qa.move rfl) ?_
 rcases Decidable.em (Zy d.p) with hp1 | hp1
 ·refine Qk rfl rfl (dT9 hp1) rfl (by decide) ?_
  refine Qk rfl rfl (dT9 hp1) rfl (by decide) ?_
  refine Qk rfl rfl (dT9 hp1) rfl (by decide) ?_
  refine sv (Qp rfl (dT9 hp1) rfl) ?_
  refine sv (Qa.move rfl) ?_
  refine Qk rfl rfl rfl rfl (by decide) ?_
  refine Qk rfl rfl rfl rfl (by decide) ?_
  refine Qk rfl rfl rfl rfl (by decide) ?_
  refine sv (Jt rfl rfl) ?_
  refine sv (Qa.move rfl) ?_
  refine Qk rfl rfl rfl rfl (by decide) ?_
  refine Qk rfl rfl rfl rfl (by decide) ?_
  refine Qk rfl rfl rfl rfl (by decide) ?_
  refine Qk rfl rfl rfl rfl (by decide) ?_
  refine sv (Jt rfl rfl) ?_
  refine Seq.next ?_
  refine Qc rfl rfl ?_
  refine rsr ?_
  refine sv (Qa.assign rfl) ?_
  refine sv (Qa.assign rfl) ?_
  refine Seq.next ?_
  have c54 := c47.trans s52
  obtain ⟨⟨zU, zo⟩, zb⟩ := hX c54 (by decide)
  refine Run.ret (Qr ?_)
  exact QP Try.results41 rfl rfl ⟨_, rfl, ⟨_, _, rfl, (JC (by rw [Yf (.inl hp1)]) (up zo (Jz (lab := L34) (w := w50)))), (JF (by rw [Yf (.inl hp1)]) _ _)⟩, zb⟩
 refine Qh rfl rfl (dF9 hp1) ?_
 refine sv (Qd 1 Try.underlying86 rfl Qn rfl rfl) ?_
 refine Qh rfl rfl (dF9 hp1) ?_
 have o55 := o44.up s52
 refine sv (Qb [.slice A4 (nw d.q) c5] o55 Qn rfl rfl) ?_
 refine Qh rfl rfl (dF9 hp1) ?_
 have c56 := c47.trans s52
 have q57 := up c56 q6
 refine Q7 (V := Is (.bool (decide (Zy d.q)))) QfK h53 rfl (Vz h53 q57 (show nw d.q ≤ 1000000 from by omega)) fun v58 w59 q60 s61 h62 => ?_
 have q60 := Is.out q60; subst q60
 refine sv (Qp rfl (dF9 hp1) rfl) ?_
 refine sv (Qa.move rfl) ?_
 rcases Decidable.em (Zy d.q) with hp2 | hp2
 ·refine Qk rfl rfl (dT9 hp2) rfl (by decide) ?_
  refine Qk rfl rfl (dT9 hp2) rfl (by decide) ?_
  refine Qk rfl rfl (dT9 hp2) rfl (by decide) ?_
  refine sv (Qp rfl (dT9 hp2) rfl) ?_
  refine sv (Qa.move rfl) ?_
  refine Qk rfl rfl rfl rfl (by decide) ?_
  refine Qk rfl rfl rfl rfl (by decide) ?_
  refine Qk rfl rfl rfl rfl (by decide) ?_
  refine Qk rfl rfl rfl rfl (by decide) ?_
  refine sv (Jt rfl rfl) ?_
  refine Seq.next ?_
  refine Qc rfl rfl ?_
  refine rsr ?_
  refine sv (Qa.assign rfl) ?_
  refine sv (Qa.assign rfl) ?_
  refine Seq.next ?_
  have c63 := c56.trans s61
  obtain ⟨⟨zU, zo⟩, zb⟩ := hX c63 (by decide)
  refine Run.ret (Qr ?_)
  exact QP Try.results41 rfl rfl ⟨_, rfl, ⟨_, _, rfl, (JC (by rw [Yf (.inr (.inl hp2))]) (up zo (Jz (lab := L34) (w := w59)))), (JF (by rw [Yf (.inr (.inl hp2))]) _ _)⟩, zb⟩
 refine Qh rfl rfl (dF9 hp2) ?_
 refine sv (Qd 2 Try.underlying86 rfl Qn rfl rfl) ?_
 refine Qh rfl rfl (dF9 hp2) ?_
 have o64 := o55.up s61
 refine sv (Qb [.slice A7 (nw d.g) c8] o64 Qn rfl rfl) ?_
 refine Qh rfl rfl (dF9 hp2) ?_
 have c65 := c56.trans s61
 have q66 := up c65 q9
 refine Q7 (V := Is (.bool (decide (Zy d.g)))) QfK h62 rfl (Vz h62 q66 (show nw d.g ≤ 1000000 from by omega)) fun v67 w68 q69 s70 h71 => ?_
 have q69 := Is.out q69; subst q69
 refine sv (Qp rfl (dF9 hp2) rfl) ?_
 refine sv (Qa.move rfl) ?_
 rcases Decidable.em (Zy d.g) with hp3 | hp3
 ·refine Qk rfl rfl (dT9 hp3) rfl (by decide) ?_
  refine Qk rfl rfl (dT9 hp3) rfl (by decide) ?_
  refine Qk rfl rfl (dT9 hp3) rfl (by decide) ?_
  refine Qk rfl rfl (dT9 hp3) rfl (by decide) ?_
  refine sv (Qp rfl (dT9 hp3) rfl) ?_
  refine Seq.next ?_
  refine Qc rfl rfl ?_
  refine rsr ?_
  refine sv (Qa.assign rfl) ?_
  refine sv (Qa.assign rfl) ?_
  refine Seq.next ?_
  have c72 := c65.trans s70
  obtain ⟨⟨zU, zo⟩, zb⟩ := hX c72 (by decide)
  refine Run.ret (Qr ?_)
  exact QP Try.results41 rfl rfl ⟨_, rfl, ⟨_, _, rfl, (JC (by rw [Yf (.inr (.inr (.inl hp3)))]) (up zo (Jz (lab := L34) (w := w68)))), (JF (by rw [Yf (.inr (.inr (.inl hp3)))]) _ _)⟩, zb⟩
 refine Qh rfl rfl (dF9 hp3) ?_
 refine sv (Qd 3 Try.underlying86 rfl XO rfl rfl) ?_
 refine Qh rfl rfl (dF9 hp3) ?_
 have o73 := o64.up s70
 refine sv (Qf o73 XO rfl rfl) ?_
 refine Qh rfl rfl (dF9 hp3) ?_
 refine sv (Qa.len Try.underlying22 rfl) ?_
 refine Qh rfl rfl (dF9 hp3) ?_
 refine sv (Qa.gtr rfl rfl) ?_
 refine sv (Qp rfl (dF9 hp3) rfl) ?_
 refine Seq.next ?_
 rcases Decidable.em ((128 : Int) < (((List.length d.seed : Nat) : Int) : Int)) with hp4 | hp4
 ·refine Qc rfl (dT9 hp4) ?_
  refine rsr ?_
  refine sv (Qa.assign rfl) ?_
  refine sv (Qa.assign rfl) ?_
  refine Seq.next ?_
  have c74 := c65.trans s70
  obtain ⟨⟨zU, zo⟩, zb⟩ := hX c74 (by decide)
  refine Run.ret (Qr ?_)
  exact QP Try.results41 rfl rfl ⟨_, rfl, ⟨_, _, rfl, (JC (by rw [Yf (.inr (.inr (.inr (by omega))))]) (up zo (Jz (lab := L34) (w := w68)))), (JF (by rw [Yf (.inr (.inr (.inr (by omega))))]) _ _)⟩, zb⟩
 refine Qc rfl (dF9 hp4) ?_
 refine Qg (fun _ _ h => h) ?_
 refine Run.seq ?_
 refine rsr ?_
 refine sv (Qd 0 Try.underlying86 rfl Qn rfl rfl) ?_
 refine sv (Qb [.slice A1 (nw d.p) c2] o73 Qn rfl rfl) ?_
 refine sv (Qa.move rfl) ?_
 have c75 := s61.trans s70
 have c76 := s52.trans c75
 have q77 := up c76 q48
 have c78 := c65.trans s70
 have q79 := up c78 h1
 refine Q7 (V := Is (.bool (decide (Zg d.p chain)))) QhJ h71 rfl (Ux h71 q77 q79 (show ∀ i, i < List.length chain → nw (List.getD chain i QD).n ≤ 100000 ∧ nw (List.getD chain i QD).base ≤ 100000 ∧ ∀ x ∈ (List.getD chain i QD).primes, nw x ≤ 100000 from by omega) (show ∀ i, i < List.length chain → List.length (List.getD chain i QD).primes ≤ 100000 from by omega)) fun v80 w81 q82 s83 h84 => ?_
 have q82 := Is.out q82; subst q82
 refine sv (Qa.not rfl) ?_
 refine sv (Qa.move rfl) ?_
 rcases ZN (!(decide (Zg d.p chain))) with hc5 | hc5
 ·refine Qk rfl rfl hc5 rfl (by decide) ?_
  refine Qk rfl rfl hc5 rfl (by decide) ?_
  refine Qk rfl rfl hc5 rfl (by decide) ?_
  refine Qk rfl rfl hc5 rfl (by decide) ?_
  refine Qk rfl rfl hc5 rfl (by decide) ?_
  refine sv (Qp rfl hc5 rfl) ?_
  refine Seq.next ?_
  refine Qc rfl rfl ?_
  refine rsr ?_
  refine sv (Qa.assign rfl) ?_
  refine sv (Qa.assign rfl) ?_
  refine Seq.next ?_
  have c85 := c78.trans s83
  obtain ⟨⟨zU, zo⟩, zb⟩ := hX c85 (by decide)
  refine Run.ret (Qr ?_)
  exact QP Try.results41 rfl rfl ⟨_, rfl, ⟨_, _, rfl, (JC (by rw [Xw (JA hp1 hp2 hp3 hp4) (fun h => QcP hc5 h.1)]) (up zo (Jz (lab := L34) (w := w81)))), (JF (by rw [Xw (JA hp1 hp2 hp3 hp4) (fun h => QcP hc5 h.1)]) _ _)⟩, zb⟩
 refine Qh rfl rfl hc5 ?_
 refine sv (Qd 1 Try.underlying86 rfl Qn rfl rfl) ?_
 refine Qh rfl rfl hc5 ?_
 have o86 := o73.up s83
 refine sv (Qb [.slice A4 (nw d.q) c5] o86 Qn rfl rfl) ?_
 refine Qh rfl rfl hc5 ?_
 refine sv (Qa.move rfl) ?_
 refine Qh rfl rfl hc5 ?_
 have c87 := c75.trans s83
 have q88 := up c87 q57
 have q89 := up s83 q79
 refine Q7 (V := Is (.bool (decide (Zg d.q chain)))) QhJ h84 rfl (Ux h84 q88 q89 (show ∀ i, i < List.length chain → nw (List.getD chain i QD).n ≤ 100000 ∧ nw (List.getD chain i QD).base ≤ 100000 ∧ ∀ x ∈ (List.getD chain i QD).primes, nw x ≤ 100000 from by omega) (show ∀ i, i < List.length chain → List.length (List.getD chain i QD).primes ≤ 100000 from by omega)) fun v90 w91 q92 s93 h94 => ?_
 have q92 := Is.out q92; subst q92
 refine Qh rfl rfl hc5 ?_
 refine sv (Qa.not rfl) ?_
 refine sv (Qp rfl hc5 rfl) ?_
 refine Seq.next ?_
 rcases ZN (!(decide (Zg d.q chain))) with hc6 | hc6
 ·refine Qc rfl hc6 ?_
  refine rsr ?_
  refine sv (Qa.assign rfl) ?_
  refine sv (Qa.assign rfl) ?_
  refine Seq.next ?_
  have c95 := s83.trans s93
  have c96 := c78.trans c95
  obtain ⟨⟨zU, zo⟩, zb⟩ := hX c96 (by decide)
  refine Run.ret (Qr ?_)
  exact QP Try.results41 rfl rfl ⟨_, rfl, ⟨_, _, rfl, (JC (by rw [Xw (JA hp1 hp2 hp3 hp4) (fun h => QcP hc6 h.2)]) (up zo (Jz (lab := L34) (w := w91)))), (JF (by rw [Xw (JA hp1 hp2 hp3 hp4) (fun h => QcP hc6 h.2)]) _ _)⟩, zb⟩
 refine Qc rfl hc6 ?_
 refine Qg (fun _ _ h => h) ?_
 refine rsr ?_
 refine sv (Qd 0 Try.underlying86 rfl Qn rfl rfl) ?_
 have o97 := o86.up s93
 refine sv (Qb [.slice A1 (nw d.p) c2] o97 Qn rfl rfl) ?_
 have c99 := s83.trans s93
 have c100 := c76.trans c99
 have o98 := o41.up c100
 refine sv (Qb [.slice A31 (nw 1) c32] o98 Qn rfl rfl) ?_
 have q101 := up c99 q77
 have c102 := c45.trans c100
 have q103 := up c102 q28
 refine Q7 (V := Zo (Qi (d.p - 1)) (Is (.bool true))) QaT h94 rfl (Kk h94 q101 q103 (show nw d.p ≤ 1000000 from by omega) (show nw 1 ≤ 1000000 from by omega) (show 1 ≤ d.p from by (have h9 := Ze (ZW hc5); have h8 := QW (Nat.sub_le d.p 1); omega))) fun v104 w105 q106 s107 h108 => ?_
 obtain ⟨v109, v110, rfl, q111, q112⟩ := q106
 obtain ⟨A113, c114, rfl⟩ := Qi.shape q111
 have z115 := Qi.cap q111
 have q112 := Is.out q112; subst q112
 refine sv (Qa.move rfl) ?_
 refine sv (Qa.extract rfl rfl) ?_
 refine sv (Qa.extract rfl rfl) ?_
 refine QM 8 [.slice none 0 0] h108 Qn rfl fun b118 L116 w117 o119 s120 h121 => ?_
 refine Q2 [.slice A113 (nw (d.p - 1)) c114] h121 o119 Qn rfl rfl rfl (lB9 rfl) rfl rfl fun w122 o123 s124 h125 => ?_
 refine sv (Qa.assign rfl) ?_
 refine nsr ?_
 refine sv (Qb [.slice A113 (nw (d.p - 1)) c114] o123 Qn rfl rfl) ?_
 refine sv (Qd 1 Try.underlying86 rfl Qn rfl rfl) ?_
 have c127 := s120.trans s124
 have c128 := s107.trans c127
 have o126 := o97.up c128
 refine sv (Qb [.slice A4 (nw d.q) c5] o126 Qn rfl rfl) ?_
 have q129 := up c127 q111
 have c130 := s93.trans c128
 have q131 := up c130 q88
 refine Q7 (V := QdQ (Qi ((d.p - 1) / d.q)) (Qi ((d.p - 1) % d.q)) (Is (i64 0))) QaS h125 rfl (QaA h125 q129 q131 (show nw (d.p - 1) ≤ 999999 from by (have h9 := Ze (ZW hc5); have h8 := QW (Nat.sub_le d.p 1); omega)) (show nw d.q ≤ 1000000 from by omega) (show d.q ≠ 0 from by (have h9 := Ze (ZW hc6); omega))) fun v132 w133 q134 s135 h136 => ?_
 obtain ⟨v137, v138, v139, rfl, q140, q141, q142⟩ := q134
 obtain ⟨A143, c144, rfl⟩ := Qi.shape q140
 have z145 := Qi.cap q140
 obtain ⟨A146, c147, rfl⟩ := Qi.shape q141
 have z148 := Qi.cap q141
 have q142 := Is.out q142; subst q142
 refine sv (Qa.move rfl) ?_
 refine sv (Qa.extract rfl rfl) ?_
 refine sv (Qa.extract rfl rfl) ?_
 refine sv (Qa.extract rfl rfl) ?_
 refine QM 10 [.slice none 0 0] h136 Qn rfl fun b151 L149 w150 o152 s153 h154 => ?_
 refine QM 11 [.slice none 0 0] h154 Qn rfl fun b157 L155 w156 o158 s159 h160 => ?_
 have o161 := o152.up s159
 refine Q2 [.slice A143 (nw ((d.p - 1) / d.q)) c144] h160 o161 Qn rfl rfl rfl (lB9 rfl) rfl rfl fun w162 o163 s164 h165 => ?_
 have o166 := o158.up s164
 refine Q2 [.slice A146 (nw ((d.p - 1) % d.q)) c147] h165 o166 Qn rfl rfl rfl (lB9 rfl) rfl rfl fun w167 o168 s169 h170 => ?_
 refine sv (Qa.assign rfl) ?_
 refine Seq.next ?_
 refine Run.seq ?_
 refine Run.seq ?_
 rcases ZN (!(decide (((d.p - 1) % d.q) = 0))) with hc7 | hc7
 ·refine Run.open 25 (Φ := [.ex (.agg #[.slice A146 (nw ((d.p - 1) % d.q)) c147]), .v (Is (.bool (decide (((d.p - 1) % d.q) = 0)))), .ex (.bool (!(decide (((d.p - 1) % d.q) = 0)))), .ex (.bool (!(decide (((d.p - 1) % d.q) = 0)))), .ex undef, .ex undef, .ex undef, .ex undef, .ex undef, .ex (.bool true), .ex (.bool true), .ex undef, .ex undef, .ex undef, .ex undef, .ex undef, .ex (.bool true), .ex (.bool true), .ex undef, .ex undef, .ex undef, .ex undef, .ex undef, .ex undef, .ex (.bool true)]) [(24, 90)] Je (by kernel_rfl) rfl h170 ⟨?_, ?_, ?_, (oX [(2, 68)] rfl rfl rfl fun _ _ => Qa.move rfl), (Ji rfl rfl rfl rfl hc7 rfl rfl), (Ji rfl rfl rfl rfl hc7 rfl rfl), (Ji rfl rfl rfl rfl hc7 rfl rfl), (Ji rfl rfl rfl rfl hc7 rfl rfl), (Ji rfl rfl rfl rfl hc7 rfl rfl), (oX [(3, 69)] rfl rfl rfl fun _ _ => Qp rfl hc7 rfl), (oX [(9, 75)] rfl rfl rfl fun _ _ => Qa.move rfl), (Ji rfl rfl rfl rfl rfl rfl rfl), (Ji rfl rfl rfl rfl rfl rfl rfl), (Ji rfl rfl rfl rfl rfl rfl rfl), (Ji rfl rfl rfl rfl rfl rfl rfl), (Ji rfl rfl rfl rfl rfl rfl rfl), (oX [(10, 76)] rfl rfl rfl fun _ _ => Jt rfl rfl), (oX [(16, 82)] rfl rfl rfl fun _ _ => Qa.move rfl), (Ji rfl rfl rfl rfl rfl rfl rfl), (Ji rfl rfl rfl rfl rfl rfl rfl), (Ji rfl rfl rfl rfl rfl rfl rfl), (Ji rfl rfl rfl rfl rfl rfl rfl), (Ji rfl rfl rfl rfl rfl rfl rfl), (Ji rfl rfl rfl rfl rfl rfl rfl), (oX [(17, 83)] rfl rfl rfl fun _ _ => Jt rfl rfl), trivial⟩ (fun L239 w240 h241 s242 => ?_)
  ·refine oP [] rfl rfl fun L195 w196 h197 s198 => ?_
   have o199 := o168.up s198
   exact ⟨_, Qb [.slice A146 (nw ((d.p - 1) % d.q)) c147] o199 Qn rfl rfl, rfl⟩
  ·refine oC [(0, 66)] rfl rfl X1 fun L200 w201 h202 s203 => ?_
   have c204 := s169.trans s203
   have c205 := s164.trans c204
   have c206 := s159.trans c205
   have c207 := s153.trans c206
   have q208 := up c207 q141
   exact ⟨_, rfl, (Zb h202 q208)⟩
  ·refine oP [(1, 67)] rfl rfl fun L209 w210 h211 s212 v213 q214 => ?_
   have q214 := Is.out q214; subst q214
   exact ⟨_, Qa.not rfl, rfl⟩
  refine Seq.next ?_
  refine Qc rfl rfl ?_
  refine rsr ?_
  refine sv (Qa.assign rfl) ?_
  refine sv (Qa.assign rfl) ?_
  refine Seq.next ?_
  have c243 := s169.trans s242
  have c244 := s164.trans c243
  have c245 := s159.trans c244
  have c246 := s153.trans c245
  have c247 := s135.trans c246
  have c248 := c128.trans c247
  have c249 := c99.trans c248
  have c250 := c78.trans c249
  obtain ⟨⟨zU, zo⟩, zb⟩ := hX c250 (by decide)
  refine Run.ret (Qr ?_)
  exact QP Try.results41 rfl rfl ⟨_, rfl, ⟨_, _, rfl, (JC (by rw [ZC (JA hp1 hp2 hp3 hp4) ⟨ZW hc5, ZW hc6⟩ (fun h => QcP hc7 h.1)]) (up zo (Jz (lab := L239) (w := w240)))), (JF (by rw [ZC (JA hp1 hp2 hp3 hp4) ⟨ZW hc5, ZW hc6⟩ (fun h => QcP hc7 h.1)]) _ _)⟩, zb⟩
 rcases Decidable.em ((Jo d.q 64 : Int) ≤ (0 : Int)) with hp8 | hp8
 ·refine Run.open 25 (Φ := [.ex (.agg #[.slice A146 (nw ((d.p - 1) % d.q)) c147]), .v (Is (.bool (decide (((d.p - 1) % d.q) = 0)))), .ex (.bool (!(decide (((d.p - 1) % d.q) = 0)))), .ex (.bool (!(decide (((d.p - 1) % d.q) = 0)))), .ex (.pointer (some ⟨b22, 1, none⟩)), .ex (.agg #[.slice A4 (nw d.q) c5]), .v (Qi 64), .v (Is (i64 (Jo d.q 64))), .ex (.bool (decide ((Jo d.q 64 : Int) ≤ (0 : Int)))), .ex (.bool (decide ((Jo d.q 64 : Int) ≤ (0 : Int)))), .ex (.bool (decide ((Jo d.q 64 : Int) ≤ (0 : Int)))), .ex undef, .ex undef, .ex undef, .ex undef, .ex undef, .ex (.bool true), .ex (.bool true), .ex undef, .ex undef, .ex undef, .ex undef, .ex undef, .ex undef, .ex (.bool true)]) [(24, 90)] Je (by kernel_rfl) rfl h170 ⟨?_, ?_, ?_, (oX [(2, 68)] rfl rfl rfl fun _ _ => Qa.move rfl), ?_, ?_, ?_, ?_, ?_, (oX [(3, 69), (8, 74)] rfl rfl rfl fun _ _ => Qp rfl hc7 rfl), (oX [(9, 75)] rfl rfl rfl fun _ _ => Qa.move rfl), (Ji rfl rfl rfl rfl (dT9 hp8) rfl rfl), (Ji rfl rfl rfl rfl (dT9 hp8) rfl rfl), (Ji rfl rfl rfl rfl (dT9 hp8) rfl rfl), (Ji rfl rfl rfl rfl (dT9 hp8) rfl rfl), (Ji rfl rfl rfl rfl (dT9 hp8) rfl rfl), (oX [(10, 76)] rfl rfl rfl fun _ _ => Qp rfl (dT9 hp8) rfl), (oX [(16, 82)] rfl rfl rfl fun _ _ => Qa.move rfl), (Ji rfl rfl rfl rfl rfl rfl rfl), (Ji rfl rfl rfl rfl rfl rfl rfl), (Ji rfl rfl rfl rfl rfl rfl rfl), (Ji rfl rfl rfl rfl rfl rfl rfl), (Ji rfl rfl rfl rfl rfl rfl rfl), (Ji rfl rfl rfl rfl rfl rfl rfl), (oX [(17, 83)] rfl rfl rfl fun _ _ => Jt rfl rfl), trivial⟩ (fun L405 w406 h407 s408 => ?_)
  ·refine oP [] rfl rfl fun L322 w323 h324 s325 => ?_
   have o326 := o168.up s325
   exact ⟨_, Qb [.slice A146 (nw ((d.p - 1) % d.q)) c147] o326 Qn rfl rfl, rfl⟩
  ·refine oC [(0, 66)] rfl rfl X1 fun L327 w328 h329 s330 => ?_
   have c331 := s169.trans s330
   have c332 := s164.trans c331
   have c333 := s159.trans c332
   have c334 := s153.trans c333
   have q335 := up c334 q141
   exact ⟨_, rfl, (Zb h329 q335)⟩
  ·refine oP [(1, 67)] rfl rfl fun L336 w337 h338 s339 v340 q341 => ?_
   have q341 := Is.out q341; subst q341
   exact ⟨_, Qa.not rfl, rfl⟩
  ·refine Q9 [] rfl rfl rfl rfl hc7 rfl fun L346 w347 h348 s349 => ?_
   exact ⟨_, Qd 1 Try.underlying86 rfl Qn rfl rfl, rfl⟩
  ·refine Q9 [(4, 70)] rfl rfl rfl rfl hc7 rfl fun L350 w351 h352 s353 => ?_
   have c355 := s169.trans s353
   have c356 := s164.trans c355
   have c357 := s159.trans c356
   have c358 := s153.trans c357
   have c359 := s135.trans c358
   have o354 := o126.up c359
   exact ⟨_, Qb [.slice A4 (nw d.q) c5] o354 Qn rfl rfl, rfl⟩
  ·refine Zp [] rfl rfl rfl rfl hc7 rfl JN fun L360 w361 h362 s363 => ?_
   exact ⟨_, rfl, (QX h362 (x := 64) (show 64 < 18446744073709551616 from by omega))⟩
  ·refine Zp [(5, 71), (6, 72)] rfl rfl rfl rfl hc7 rfl ZP fun L364 w365 h366 s367 v368 q369 => ?_
   obtain ⟨A370, c371, rfl⟩ := Qi.shape q369
   have z372 := Qi.cap q369
   have c373 := s169.trans s367
   have c374 := s164.trans c373
   have c375 := s159.trans c374
   have c376 := s153.trans c375
   have c377 := s135.trans c376
   have q378 := up c377 q131
   exact ⟨_, rfl, (J8 h366 q378 q369)⟩
  ·refine Q9 [(7, 73)] rfl rfl rfl rfl hc7 rfl fun L379 w380 h381 s382 v383 q384 => ?_
   have q384 := Is.out q384; subst q384
   exact ⟨_, Qa.leq rfl rfl, rfl⟩
  refine Seq.next ?_
  refine Qc rfl rfl ?_
  refine rsr ?_
  refine sv (Qa.assign rfl) ?_
  refine sv (Qa.assign rfl) ?_
  refine Seq.next ?_
  have c409 := s169.trans s408
  have c410 := s164.trans c409
  have c411 := s159.trans c410
  have c412 := s153.trans c411
  have c413 := s135.trans c412
  have c414 := c128.trans c413
  have c415 := c99.trans c414
  have c416 := c78.trans c415
  obtain ⟨⟨zU, zo⟩, zb⟩ := hX c416 (by decide)
  refine Run.ret (Qr ?_)
  exact QP Try.results41 rfl rfl ⟨_, rfl, ⟨_, _, rfl, (JC (by rw [ZC (JA hp1 hp2 hp3 hp4) ⟨ZW hc5, ZW hc6⟩ (QeF hp8)]) (up zo (Jz (lab := L405) (w := w406)))), (JF (by rw [ZC (JA hp1 hp2 hp3 hp4) ⟨ZW hc5, ZW hc6⟩ (QeF hp8)]) _ _)⟩, zb⟩
 rcases Decidable.em ((Jo d.g 1 : Int) ≤ (0 : Int)) with hp9 | hp9
 ·refine Run.open 25 (Φ := [.ex (.agg #[.slice A146 (nw ((d.p - 1) % d.q)) c147]), .v (Is (.bool (decide (((d.p - 1) % d.q) = 0)))), .ex (.bool (!(decide (((d.p - 1) % d.q) = 0)))), .ex (.bool (!(decide (((d.p - 1) % d.q) = 0)))), .ex (.pointer (some ⟨b22, 1, none⟩)), .ex (.agg #[.slice A4 (nw d.q) c5]), .v (Qi 64), .v (Is (i64 (Jo d.q 64))), .ex (.bool (decide ((Jo d.q 64 : Int) ≤ (0 : Int)))), .ex (.bool (decide ((Jo d.q 64 : Int) ≤ (0 : Int)))), .ex (.bool (decide ((Jo d.q 64 : Int) ≤ (0 : Int)))), .ex (.pointer (some ⟨b22, 2, none⟩)), .ex (.agg #[.slice A7 (nw d.g) c8]), .ex (.agg #[.slice A31 (nw 1) c32]), .v (Is (i64 (Jo d.g 1))), .ex (.bool (decide ((Jo d.g 1 : Int) ≤ (0 : Int)))), .ex (.bool (decide ((Jo d.g 1 : Int) ≤ (0 : Int)))), .ex (.bool (decide ((Jo d.g 1 : Int) ≤ (0 : Int)))), .ex undef, .ex undef, .ex undef, .ex undef, .ex undef, .ex undef, .ex (.bool true)]) [(24, 90)] Je (by kernel_rfl) rfl h170 ⟨?_, ?_, ?_, (oX [(2, 68)] rfl rfl rfl fun _ _ => Qa.move rfl), ?_, ?_, ?_, ?_, ?_, (oX [(3, 69), (8, 74)] rfl rfl rfl fun _ _ => Qp rfl hc7 rfl), (oX [(9, 75)] rfl rfl rfl fun _ _ => Qa.move rfl), ?_, ?_, ?_, ?_, ?_, (oX [(10, 76), (15, 81)] rfl rfl rfl fun _ _ => Qp rfl (dF9 hp8) rfl), (oX [(16, 82)] rfl rfl rfl fun _ _ => Qa.move rfl), (Ji rfl rfl rfl rfl (dT9 hp9) rfl rfl), (Ji rfl rfl rfl rfl (dT9 hp9) rfl rfl), (Ji rfl rfl rfl rfl (dT9 hp9) rfl rfl), (Ji rfl rfl rfl rfl (dT9 hp9) rfl rfl), (Ji rfl rfl rfl rfl (dT9 hp9) rfl rfl), (Ji rfl rfl rfl rfl (dT9 hp9) rfl rfl), (oX [(17, 83)] rfl rfl rfl fun _ _ => Qp rfl (dT9 hp9) rfl), trivial⟩ (fun L669 w670 h671 s672 => ?_)
  ·refine oP [] rfl rfl fun L541 w542 h543 s544 => ?_
   have o545 := o168.up s544
   exact ⟨_, Qb [.slice A146 (nw ((d.p - 1) % d.q)) c147] o545 Qn rfl rfl, rfl⟩
  ·refine oC [(0, 66)] rfl rfl X1 fun L546 w547 h548 s549 => ?_
   have c550 := s169.trans s549
   have c551 := s164.trans c550
   have c552 := s159.trans c551
   have c553 := s153.trans c552
   have q554 := up c553 q141
   exact ⟨_, rfl, (Zb h548 q554)⟩
  ·refine oP [(1, 67)] rfl rfl fun L555 w556 h557 s558 v559 q560 => ?_
   have q560 := Is.out q560; subst q560
   exact ⟨_, Qa.not rfl, rfl⟩
  ·refine Q9 [] rfl rfl rfl rfl hc7 rfl fun L565 w566 h567 s568 => ?_
   exact ⟨_, Qd 1 Try.underlying86 rfl Qn rfl rfl, rfl⟩
  ·refine Q9 [(4, 70)] rfl rfl rfl rfl hc7 rfl fun L569 w570 h571 s572 => ?_
   have c574 := s169.trans s572
   have c575 := s164.trans c574
   have c576 := s159.trans c575
   have c577 := s153.trans c576
   have c578 := s135.trans c577
   have o573 := o126.up c578
   exact ⟨_, Qb [.slice A4 (nw d.q) c5] o573 Qn rfl rfl, rfl⟩
  ·refine Zp [] rfl rfl rfl rfl hc7 rfl JN fun L579 w580 h581 s582 => ?_
   exact ⟨_, rfl, (QX h581 (x := 64) (show 64 < 18446744073709551616 from by omega))⟩
  ·refine Zp [(5, 71), (6, 72)] rfl rfl rfl rfl hc7 rfl ZP fun L583 w584 h585 s586 v587 q588 => ?_
   obtain ⟨A589, c590, rfl⟩ := Qi.shape q588
   have z591 := Qi.cap q588
   have c592 := s169.trans s586
   have c593 := s164.trans c592
   have c594 := s159.trans c593
   have c595 := s153.trans c594
   have c596 := s135.trans c595
   have q597 := up c596 q131
   exact ⟨_, rfl, (J8 h585 q597 q588)⟩
  ·refine Q9 [(7, 73)] rfl rfl rfl rfl hc7 rfl fun L598 w599 h600 s601 v602 q603 => ?_
   have q603 := Is.out q603; subst q603
   exact ⟨_, Qa.leq rfl rfl, rfl⟩
  ·refine Q9 [] rfl rfl rfl rfl (dF9 hp8) rfl fun L612 w613 h614 s615 => ?_
   exact ⟨_, Qd 2 Try.underlying86 rfl Qn rfl rfl, rfl⟩
  ·refine Q9 [(11, 77)] rfl rfl rfl rfl (dF9 hp8) rfl fun L616 w617 h618 s619 => ?_
   have c621 := s169.trans s619
   have c622 := s164.trans c621
   have c623 := s159.trans c622
   have c624 := s153.trans c623
   have c625 := s135.trans c624
   have o620 := o126.up c625
   exact ⟨_, Qb [.slice A7 (nw d.g) c8] o620 Qn rfl rfl, rfl⟩
  ·refine Q9 [] rfl rfl rfl rfl (dF9 hp8) rfl fun L626 w627 h628 s629 => ?_
   have c631 := s169.trans s629
   have c632 := s164.trans c631
   have c633 := s159.trans c632
   have c634 := s153.trans c633
   have c635 := s135.trans c634
   have c636 := c128.trans c635
   have o630 := o98.up c636
   exact ⟨_, Qb [.slice A31 (nw 1) c32] o630 Qn rfl rfl, rfl⟩
  ·refine Zp [(12, 78), (13, 79)] rfl rfl rfl rfl (dF9 hp8) rfl ZP fun L637 w638 h639 s640 => ?_
   have c641 := s169.trans s640
   have c642 := s164.trans c641
   have c643 := s159.trans c642
   have c644 := s153.trans c643
   have c645 := s135.trans c644
   have c646 := c128.trans c645
   have c647 := c99.trans c646
   have c648 := s70.trans c647
   have q649 := up c648 q66
   have q650 := up c646 q103
   exact ⟨_, rfl, (J8 h639 q649 q650)⟩
  ·refine Q9 [(14, 80)] rfl rfl rfl rfl (dF9 hp8) rfl fun L651 w652 h653 s654 v655 q656 => ?_
   have q656 := Is.out q656; subst q656
   exact ⟨_, Qa.leq rfl rfl, rfl⟩
  refine Seq.next ?_
  refine Qc rfl rfl ?_
  refine rsr ?_
  refine sv (Qa.assign rfl) ?_
  refine sv (Qa.assign rfl) ?_
  refine Seq.next ?_
  have c673 := s169.trans s672
  have c674 := s164.trans c673
  have c675 := s159.trans c674
  have c676 := s153.trans c675
  have c677 := s135.trans c676
  have c678 := c128.trans c677
  have c679 := c99.trans c678
  have c680 := c78.trans c679
  obtain ⟨⟨zU, zo⟩, zb⟩ := hX c680 (by decide)
  refine Run.ret (Qr ?_)
  exact QP Try.results41 rfl rfl ⟨_, rfl, ⟨_, _, rfl, (JC (by rw [ZC (JA hp1 hp2 hp3 hp4) ⟨ZW hc5, ZW hc6⟩ (QeE hp9)]) (up zo (Jz (lab := L669) (w := w670)))), (JF (by rw [ZC (JA hp1 hp2 hp3 hp4) ⟨ZW hc5, ZW hc6⟩ (QeE hp9)]) _ _)⟩, zb⟩
 refine Run.open 25 (Φ := [.ex (.agg #[.slice A146 (nw ((d.p - 1) % d.q)) c147]), .v (Is (.bool (decide (((d.p - 1) % d.q) = 0)))), .ex (.bool (!(decide (((d.p - 1) % d.q) = 0)))), .ex (.bool (!(decide (((d.p - 1) % d.q) = 0)))), .ex (.pointer (some ⟨b22, 1, none⟩)), .ex (.agg #[.slice A4 (nw d.q) c5]), .v (Qi 64), .v (Is (i64 (Jo d.q 64))), .ex (.bool (decide ((Jo d.q 64 : Int) ≤ (0 : Int)))), .ex (.bool (decide ((Jo d.q 64 : Int) ≤ (0 : Int)))), .ex (.bool (decide ((Jo d.q 64 : Int) ≤ (0 : Int)))), .ex (.pointer (some ⟨b22, 2, none⟩)), .ex (.agg #[.slice A7 (nw d.g) c8]), .ex (.agg #[.slice A31 (nw 1) c32]), .v (Is (i64 (Jo d.g 1))), .ex (.bool (decide ((Jo d.g 1 : Int) ≤ (0 : Int)))), .ex (.bool (decide ((Jo d.g 1 : Int) ≤ (0 : Int)))), .ex (.bool (decide ((Jo d.g 1 : Int) ≤ (0 : Int)))), .ex (.pointer (some ⟨b22, 2, none⟩)), .ex (.agg #[.slice A7 (nw d.g) c8]), .ex (.pointer (some ⟨b22, 0, none⟩)), .ex (.agg #[.slice A1 (nw d.p) c2]), .v (Is (i64 (Jo d.g d.p))), .ex (.bool (decide ((0 : Int) ≤ (Jo d.g d.p : Int)))), .ex (.bool (decide ((0 : Int) ≤ (Jo d.g d.p : Int))))]) [(24, 90)] Je (by kernel_rfl) rfl h170 ⟨?_, ?_, ?_, (oX [(2, 68)] rfl rfl rfl fun _ _ => Qa.move rfl), ?_, ?_, ?_, ?_, ?_, (oX [(3, 69), (8, 74)] rfl rfl rfl fun _ _ => Qp rfl hc7 rfl), (oX [(9, 75)] rfl rfl rfl fun _ _ => Qa.move rfl), ?_, ?_, ?_, ?_, ?_, (oX [(10, 76), (15, 81)] rfl rfl rfl fun _ _ => Qp rfl (dF9 hp8) rfl), (oX [(16, 82)] rfl rfl rfl fun _ _ => Qa.move rfl), ?_, ?_, ?_, ?_, ?_, ?_, (oX [(17, 83), (23, 89)] rfl rfl rfl fun _ _ => Qp rfl (dF9 hp9) rfl), trivial⟩ (fun L857 w858 h859 s860 => ?_)
 ·refine oP [] rfl rfl fun L681 w682 h683 s684 => ?_
  have o685 := o168.up s684
  exact ⟨_, Qb [.slice A146 (nw ((d.p - 1) % d.q)) c147] o685 Qn rfl rfl, rfl⟩
 ·refine oC [(0, 66)] rfl rfl X1 fun L686 w687 h688 s689 => ?_
  have c690 := s169.trans s689
  have c691 := s164.trans c690
  have c692 := s159.trans c691
  have c693 := s153.trans c692
  have q694 := up c693 q141
  exact ⟨_, rfl, (Zb h688 q694)⟩
 ·refine oP [(1, 67)] rfl rfl fun L695 w696 h697 s698 v699 q700 => ?_
  have q700 := Is.out q700; subst q700
  exact ⟨_, Qa.not rfl, rfl⟩
 ·refine Q9 [] rfl rfl rfl rfl hc7 rfl fun L705 w706 h707 s708 => ?_
  exact ⟨_, Qd 1 Try.underlying86 rfl Qn rfl rfl, rfl⟩
 ·refine Q9 [(4, 70)] rfl rfl rfl rfl hc7 rfl fun L709 w710 h711 s712 => ?_
  have c714 := s169.trans s712
  have c715 := s164.trans c714
  have c716 := s159.trans c715
  have c717 := s153.trans c716
  have c718 := s135.trans c717
  have o713 := o126.up c718
  exact ⟨_, Qb [.slice A4 (nw d.q) c5] o713 Qn rfl rfl, rfl⟩
 ·refine Zp [] rfl rfl rfl rfl hc7 rfl JN fun L719 w720 h721 s722 => ?_
  exact ⟨_, rfl, (QX h721 (x := 64) (show 64 < 18446744073709551616 from by omega))⟩
 ·refine Zp [(5, 71), (6, 72)] rfl rfl rfl rfl hc7 rfl ZP fun L723 w724 h725 s726 v727 q728 => ?_
  obtain ⟨A729, c730, rfl⟩ := Qi.shape q728
  have z731 := Qi.cap q728
  have c732 := s169.trans s726
  have c733 := s164.trans c732
  have c734 := s159.trans c733
  have c735 := s153.trans c734
  have c736 := s135.trans c735
  have q737 := up c736 q131
  exact ⟨_, rfl, (J8 h725 q737 q728)⟩
 ·refine Q9 [(7, 73)] rfl rfl rfl rfl hc7 rfl fun L738 w739 h740 s741 v742 q743 => ?_
  have q743 := Is.out q743; subst q743
  exact ⟨_, Qa.leq rfl rfl, rfl⟩
 ·refine Q9 [] rfl rfl rfl rfl (dF9 hp8) rfl fun L752 w753 h754 s755 => ?_
  exact ⟨_, Qd 2 Try.underlying86 rfl Qn rfl rfl, rfl⟩
 ·refine Q9 [(11, 77)] rfl rfl rfl rfl (dF9 hp8) rfl fun L756 w757 h758 s759 => ?_
  have c761 := s169.trans s759
  have c762 := s164.trans c761
  have c763 := s159.trans c762
  have c764 := s153.trans c763
  have c765 := s135.trans c764
  have o760 := o126.up c765
  exact ⟨_, Qb [.slice A7 (nw d.g) c8] o760 Qn rfl rfl, rfl⟩
 ·refine Q9 [] rfl rfl rfl rfl (dF9 hp8) rfl fun L766 w767 h768 s769 => ?_
  have c771 := s169.trans s769
  have c772 := s164.trans c771
  have c773 := s159.trans c772
  have c774 := s153.trans c773
  have c775 := s135.trans c774
  have c776 := c128.trans c775
  have o770 := o98.up c776
  exact ⟨_, Qb [.slice A31 (nw 1) c32] o770 Qn rfl rfl, rfl⟩
 ·refine Zp [(12, 78), (13, 79)] rfl rfl rfl rfl (dF9 hp8) rfl ZP fun L777 w778 h779 s780 => ?_
  have c781 := s169.trans s780
  have c782 := s164.trans c781
  have c783 := s159.trans c782
  have c784 := s153.trans c783
  have c785 := s135.trans c784
  have c786 := c128.trans c785
  have c787 := c99.trans c786
  have c788 := s70.trans c787
  have q789 := up c788 q66
  have q790 := up c786 q103
  exact ⟨_, rfl, (J8 h779 q789 q790)⟩
 ·refine Q9 [(14, 80)] rfl rfl rfl rfl (dF9 hp8) rfl fun L791 w792 h793 s794 v795 q796 => ?_
  have q796 := Is.out q796; subst q796
  exact ⟨_, Qa.leq rfl rfl, rfl⟩
 ·refine Q9 [] rfl rfl rfl rfl (dF9 hp9) rfl fun L805 w806 h807 s808 => ?_
  exact ⟨_, Qd 2 Try.underlying86 rfl Qn rfl rfl, rfl⟩
 ·refine Q9 [(18, 84)] rfl rfl rfl rfl (dF9 hp9) rfl fun L809 w810 h811 s812 => ?_
  have c814 := s169.trans s812
  have c815 := s164.trans c814
  have c816 := s159.trans c815
  have c817 := s153.trans c816
  have c818 := s135.trans c817
  have o813 := o126.up c818
  exact ⟨_, Qb [.slice A7 (nw d.g) c8] o813 Qn rfl rfl, rfl⟩
 ·refine Q9 [] rfl rfl rfl rfl (dF9 hp9) rfl fun L819 w820 h821 s822 => ?_
  exact ⟨_, Qd 0 Try.underlying86 rfl Qn rfl rfl, rfl⟩
 ·refine Q9 [(20, 86)] rfl rfl rfl rfl (dF9 hp9) rfl fun L823 w824 h825 s826 => ?_
  have c828 := s169.trans s826
  have c829 := s164.trans c828
  have c830 := s159.trans c829
  have c831 := s153.trans c830
  have c832 := s135.trans c831
  have o827 := o126.up c832
  exact ⟨_, Qb [.slice A1 (nw d.p) c2] o827 Qn rfl rfl, rfl⟩
 ·refine Zp [(19, 85), (21, 87)] rfl rfl rfl rfl (dF9 hp9) rfl ZP fun L833 w834 h835 s836 => ?_
  have c837 := s169.trans s836
  have c838 := s164.trans c837
  have c839 := s159.trans c838
  have c840 := s153.trans c839
  have c841 := s135.trans c840
  have c842 := c128.trans c841
  have c843 := c99.trans c842
  have c844 := s70.trans c843
  have q845 := up c844 q66
  have q846 := up c842 q101
  exact ⟨_, rfl, (J8 h835 q845 q846)⟩
 ·refine Q9 [(22, 88)] rfl rfl rfl rfl (dF9 hp9) rfl fun L847 w848 h849 s850 v851 q852 => ?_
  have q852 := Is.out q852; subst q852
  exact ⟨_, Qa.geq rfl rfl, rfl⟩
 refine Seq.next ?_
 rcases Decidable.em ((0 : Int) ≤ (Jo d.g d.p : Int)) with hp10 | hp10
 ·refine Qc rfl (dT9 hp10) ?_
  refine rsr ?_
  refine sv (Qa.assign rfl) ?_
  refine sv (Qa.assign rfl) ?_
  refine Seq.next ?_
  have c861 := s169.trans s860
  have c862 := s164.trans c861
  have c863 := s159.trans c862
  have c864 := s153.trans c863
  have c865 := s135.trans c864
  have c866 := c128.trans c865
  have c867 := c99.trans c866
  have c868 := c78.trans c867
  obtain ⟨⟨zU, zo⟩, zb⟩ := hX c868 (by decide)
  refine Run.ret (Qr ?_)
  exact QP Try.results41 rfl rfl ⟨_, rfl, ⟨_, _, rfl, (JC (by rw [ZC (JA hp1 hp2 hp3 hp4) ⟨ZW hc5, ZW hc6⟩ (QeD hp10)]) (up zo (Jz (lab := L857) (w := w858)))), (JF (by rw [ZC (JA hp1 hp2 hp3 hp4) ⟨ZW hc5, ZW hc6⟩ (QeD hp10)]) _ _)⟩, zb⟩
 refine Qc rfl (dF9 hp10) ?_
 refine Qg (fun _ _ h => h) ?_
 refine Run.seq ?_
 refine Run.open 9 (Φ := [.ex (.pointer (some ⟨b22, 2, none⟩)), .ex (.agg #[.slice A7 (nw d.g) c8]), .ex (.pointer (some ⟨b22, 0, none⟩)), .ex (.agg #[.slice A1 (nw d.p) c2]), .v (Is (i64 ((QL d.p : Nat) : Int))), .ex (i64 (((QL d.p : Nat) : Int) + 7)), .ex (i64 ((((QL d.p : Nat) : Int) + 7) / 8)), .ex (.agg #[.pointer none, .pointer none, .slice A7 (nw d.g) c8, .slice none 0 0, i64 ((((QL d.p : Nat) : Int) + 7) / 8)]), .v (Qjv 100 169 [.pointer none, .pointer none, .slice A7 (nw d.g) c8, .slice none 0 0, i64 ((((QL d.p : Nat) : Int) + 7) / 8)])]) [(8, 99)] Je (by kernel_rfl) rfl h859 ⟨(oX [] rfl rfl rfl fun _ _ => Qd 2 Try.underlying86 rfl Qn rfl rfl), ?_, (oX [] rfl rfl rfl fun _ _ => Qd 0 Try.underlying86 rfl Qn rfl rfl), ?_, ?_, ?_, (oX [(5, 96)] rfl rfl rfl fun _ _ => Qa.quo rfl rfl (by omega) (by omega) (by omega)), (oX [(1, 92), (6, 97)] rfl rfl rfl fun _ _ => Qa.build [(2, .agg #[.slice A7 (nw d.g) c8]), (4, i64 ((((QL d.p : Nat) : Int) + 7) / 8))] [(0, 1), (1, 1), (2, 1), (3, 1), (4, 1)] [.pointer none, .pointer none, .slice A7 (nw d.g) c8, .slice none 0 0, i64 ((((QL d.p : Nat) : Int) + 7) / 8)] Try.underlying169 Qlb (by kernel_rfl) rfl (by kernel_rfl)), (oN [(7, 98)] rfl rfl fun L925 w926 h927 s928 => ⟨_, _, _, Qa.box rfl, h927.alloc _ 100, Stp.alloc _ 100, ⟨_, rfl, Own.alloc _ _ _ _ 100⟩⟩), trivial⟩ (fun L929 w930 h931 s932 v933 q934 => ?_)
 ·refine oP [(0, 91)] rfl rfl fun L873 w874 h875 s876 => ?_
  have c878 := s860.trans s876
  have c879 := s169.trans c878
  have c880 := s164.trans c879
  have c881 := s159.trans c880
  have c882 := s153.trans c881
  have c883 := s135.trans c882
  have o877 := o126.up c883
  exact ⟨_, Qb [.slice A7 (nw d.g) c8] o877 Qn rfl rfl, rfl⟩
 ·refine oP [(2, 93)] rfl rfl fun L888 w889 h890 s891 => ?_
  have c893 := s860.trans s891
  have c894 := s169.trans c893
  have c895 := s164.trans c894
  have c896 := s159.trans c895
  have c897 := s153.trans c896
  have c898 := s135.trans c897
  have o892 := o126.up c898
  exact ⟨_, Qb [.slice A1 (nw d.p) c2] o892 Qn rfl rfl, rfl⟩
 ·refine oC [(3, 94)] rfl rfl X4 fun L899 w900 h901 s902 => ?_
  have c903 := s860.trans s902
  have c904 := s169.trans c903
  have c905 := s164.trans c904
  have c906 := s159.trans c905
  have c907 := s153.trans c906
  have c908 := s135.trans c907
  have c909 := c128.trans c908
  have q910 := up c909 q101
  exact ⟨_, rfl, (ZZ h901 q910 (show nw d.p ≤ 1000000 from by omega))⟩
 ·refine oP [(4, 95)] rfl rfl fun L911 w912 h913 s914 v915 q916 => ?_
  have q916 := Is.out q916; subst q916
  exact ⟨_, Qa.add rfl rfl (by omega), rfl⟩
 obtain ⟨b935, rfl, o936⟩ := q934
 refine sv (Qa.assign rfl) ?_
 refine nsr ?_
 refine sv (Qa.move rfl) ?_
 refine sv (Qd 0 Try.underlying86 rfl Qn rfl rfl) ?_
 have c938 := s860.trans s932
 have c939 := s169.trans c938
 have c940 := s164.trans c939
 have c941 := s159.trans c940
 have c942 := s153.trans c941
 have c943 := s135.trans c942
 have o937 := o126.up c943
 refine sv (Qb [.slice A1 (nw d.p) c2] o937 Qn rfl rfl) ?_
 have c944 := c128.trans c943
 have q945 := up c944 q101
 refine Q7 (V := Zo (JO d.p) (Is (i64 0))) QfJ h931 rfl (QbA h931 q945 (show 1 < d.p from by (have h9 := Ze (ZW hc5); have h8 := QW (Nat.sub_le d.p 1); omega)) (show nw d.p ≤ 1000000 from by omega)) fun v946 w947 q948 s949 h950 => ?_
 obtain ⟨v951, v952, rfl, q953, q954⟩ := q948
 obtain ⟨b955, rfl⟩ := YH.shape q953
 have q954 := Is.out q954; subst q954
 refine sv (Qa.move rfl) ?_
 refine sv (Qa.extract rfl rfl) ?_
 refine sv (Qa.extract rfl rfl) ?_
 refine sv (Qa.nilCheck rfl) ?_
 refine sv (Qd 0 Try.underlying169 rfl VS rfl rfl) ?_
 have o956 := o936.up s949
 refine Q2 [.pointer (some ⟨b955, 0, none⟩), .pointer none, .slice A7 (nw d.g) c8, .slice none 0 0, i64 ((((QL d.p : Nat) : Int) + 7) / 8)] h950 o956 VS rfl rfl rfl (lB9 rfl) rfl rfl fun w957 o958 s959 h960 => ?_
 refine nsr ?_
 refine sv (Qa.move rfl) ?_
 refine sv (Qd 1 Try.underlying86 rfl Qn rfl rfl) ?_
 have c962 := s949.trans s959
 have o961 := o937.up c962
 refine sv (Qb [.slice A4 (nw d.q) c5] o961 Qn rfl rfl) ?_
 have c963 := c943.trans c962
 have q964 := up c963 q131
 refine Q7 (V := Zo (JO d.q) (Is (i64 0))) QfJ h960 rfl (QbA h960 q964 (show 1 < d.q from by (have h9 := Ze (ZW hc6); omega)) (show nw d.q ≤ 1000000 from by omega)) fun v965 w966 q967 s968 h969 => ?_
 obtain ⟨v970, v971, rfl, q972, q973⟩ := q967
 obtain ⟨b974, rfl⟩ := YH.shape q972
 have q973 := Is.out q973; subst q973
 refine sv (Qa.move rfl) ?_
 refine sv (Qa.extract rfl rfl) ?_
 refine sv (Qa.extract rfl rfl) ?_
 refine sv (Qa.nilCheck rfl) ?_
 refine sv (Qd 1 Try.underlying169 rfl VS rfl rfl) ?_
 have o975 := o958.up s968
 refine Q2 [.pointer (some ⟨b955, 0, none⟩), .pointer (some ⟨b974, 0, none⟩), .slice A7 (nw d.g) c8, .slice none 0 0, i64 ((((QL d.p : Nat) : Int) + 7) / 8)] h969 o975 VS rfl rfl rfl (lB9 rfl) rfl rfl fun w976 o977 s978 h979 => ?_
 refine Seq.next ?_
 refine Run.seq ?_
 refine rsr ?_
 refine sv (Qa.move rfl) ?_
 refine sv (Qd 2 Try.underlying86 rfl Qn rfl rfl) ?_
 have c981 := s968.trans s978
 have o980 := o961.up c981
 refine sv (Qb [.slice A7 (nw d.g) c8] o980 Qn rfl rfl) ?_
 have c983 := s959.trans c981
 have q984 := up c983 q953
 have q985 := up s978 q972
 have c986 := c962.trans c981
 have c987 := c944.trans c986
 have c988 := c99.trans c987
 have c989 := s70.trans c988
 have q990 := up c989 q66
 have q982 : Js (⟨d.p, d.q, d.g, 0⟩ : GroupD) (Q5 L929 100) w976 (.pointer (some ⟨b935, 0, none⟩)) := Js.mk o977 (X8 100 q984) (X8 100 q985) (X8 100 q990) (Qi.zero (Q5 L929 100) w976) (by (have h9 := Ze (ZW hc5); have h8 := QW (Nat.sub_le d.p 1); omega)) (by (have h9 := Ze (ZW hc5); have h8 := QW (Nat.sub_le d.p 1); omega))
 refine Q7 (V := Is (.bool (decide (ZU (⟨d.p, d.q, d.g, 0⟩ : GroupD) d.g)))) Qjj h979 rfl (Xm (Ql.release h979 100) q982 (X8 100 q990) (show okG (⟨d.p, d.q, d.g, 0⟩ : GroupD) from by exact Qc0 (Ze (ZW hc5)) (Ze (ZW hc6)) (XE hp1) (XE hp2) (XE hp3) (by rw [Yl]; omega)) (show nw d.g ≤ 1000 from by (have h9 := XE hp3; omega))) fun v991 w992 q993 s994 h995 => ?_
 have q993 := Is.out q993; subst q993
 refine sv (Qa.not rfl) ?_
 refine Seq.next ?_
 rcases ZN (!(decide (ZU (⟨d.p, d.q, d.g, 0⟩ : GroupD) d.g))) with hc11 | hc11
 ·refine Qc rfl hc11 ?_
  refine rsr ?_
  refine sv (Qa.assign rfl) ?_
  refine sv (Qa.assign rfl) ?_
  refine Seq.next ?_
  have c996 := c988.trans s994
  have c997 := c78.trans c996
  obtain ⟨⟨zU, zo⟩, zb⟩ := hX c997 (by decide)
  refine Run.ret (Qr ?_)
  exact QP Try.results41 rfl rfl ⟨_, rfl, ⟨_, _, rfl, (JC (by rw [Qc4 (JA hp1 hp2 hp3 hp4) ⟨ZW hc5, ZW hc6⟩ (Vu hc7 hp8 hp9 hp10) (QcP hc11)]) (up zo (Jz (lab := L929) (w := w992)))), (JF (by rw [Qc4 (JA hp1 hp2 hp3 hp4) ⟨ZW hc5, ZW hc6⟩ (Vu hc7 hp8 hp9 hp10) (QcP hc11)]) _ _)⟩, zb⟩
 refine Qc rfl hc11 ?_
 refine Qg (fun _ _ h => h) ?_
 refine Run.seq ?_
 refine rsr ?_
 refine sv (Qa.move rfl) ?_
 refine Seq.next ?_
 refine Run.block ?_
 have o998 := o977.up s994
 refine Run.loop (fun m' l' w' => ∃ (c : Nat) (x : Nat) (lab' : Lab) (ub100 : Value), m' = 256 - c ∧ l' = [(123, i64 ((c : Nat) : Int)), (2, .pointer (some ⟨b22, 0, none⟩)), (6, .pointer (some ⟨b36, 0, none⟩)), (9, .pointer (some ⟨b151, 0, none⟩)), (12, .pointer (some ⟨b935, 0, none⟩))] ∧ Ql lab' w' ∧ Stp [17, 100] L929 w992 lab' w' ∧ Own lab' w' 100 b935 169 #[.pointer (some ⟨b955, 0, none⟩), .pointer (some ⟨b974, 0, none⟩), .slice A7 (nw d.g) c8, ub100, i64 ((((QL d.p : Nat) : Int) + 7) / 8)] ∧ Qi x lab' w' (.agg #[ub100]) ∧ (c ≤ 256) ∧ (∀ j, j < c → ¬ 1 < QgV d.p d.q d.seed j)) (256 - 0) (l0 := [(123, i64 ((0 : Nat) : Int)), (2, .pointer (some ⟨b22, 0, none⟩)), (6, .pointer (some ⟨b36, 0, none⟩)), (9, .pointer (some ⟨b151, 0, none⟩)), (12, .pointer (some ⟨b935, 0, none⟩))]) ⟨(congrArg (fun z => some (i64 z)) (show (0 : Int) = ((0 : Nat) : Int) from by rfl)), rfl, rfl, rfl, rfl, trivial⟩ ⟨0, 0, L929, (.slice none 0 0), rfl, rfl, h995, ((Stp.refl _ _).more (by simp)), o998, (Qi.zero L929 w992), (by omega), (by omega)⟩ ?_
 intro m999 l1000 w1001 H1002
 obtain ⟨c, x, lab1003, u1006, hzm, rfl, hv1004, s1005, o1007, q1008, hcc, hall⟩ := H1002
 replace hzm := hzm.symm; subst hzm
 obtain ⟨A1009, c1010, hz⟩ := Qi.shape q1008; cases hz
 have h2p := Ze (ZW hc5)
 have h2q := Ze (ZW hc6)
 have hnp := XE hp1
 have hnq := XE hp2
 have hdv := QW (Nat.div_le_self (d.p - 1) d.q)
 have hsb := QW (Nat.sub_le d.p 1)
 have hbl : ¬ 1024 < QL d.p := hp1
 refine rsr ?_
 refine sv (Qa.lss rfl rfl) ?_
 refine Seq.next ?_
 refine Run.seq ?_
 rcases Decidable.em ((((c : Nat) : Int) : Int) < (256 : Int)) with hp12 | hp12
 rotate_left
 ·refine Qc rfl (dF9 hp12) ?_
  refine Qv (fun _ _ h => h) ?_
  refine rsr ?_
  refine sv (Qa.assign rfl) ?_
  refine sv (Qa.assign rfl) ?_
  refine Seq.next ?_
  have c1405 := s994.trans s1005
  have c1406 := c988.trans c1405
  have c1407 := c78.trans c1406
  obtain ⟨⟨zU, zo⟩, zb⟩ := hX c1407 (by decide)
  refine Run.ret ?_
  exact QP Try.results41 rfl rfl ⟨_, rfl, ⟨_, _, rfl, (JC (by rw [Qa9 (JA hp1 hp2 hp3 hp4) ⟨ZW hc5, ZW hc6⟩ (Vu hc7 hp8 hp9 hp10) (ZW hc11) (by omega) hall]) (up zo (Jz (lab := lab1003) (w := w1001)))), (JF (by rw [Qa9 (JA hp1 hp2 hp3 hp4) ⟨ZW hc5, ZW hc6⟩ (Vu hc7 hp8 hp9 hp10) (ZW hc11) (by omega) hall]) _ _)⟩, zb⟩
 refine Qc rfl (dT9 hp12) ?_
 refine Qg (fun _ _ h => h) ?_
 refine Run.seq ?_
 refine Run.block ?_
 refine rsr ?_
 refine sv (Qa.move rfl) ?_
 refine sv (Qa.assign rfl) ?_
 refine Seq.next ?_
 refine Run.seq ?_
 refine Run.open 16 (Φ := [.ex (.pointer (some ⟨b22, 3, none⟩)), .ex (.slice A10 (List.length d.seed) c11), .ex (i64 ((c : Nat) : Int)), .ex (u8 (UInt8.ofNat (((c : Nat) : Int)).toNat)), .v (Qe ([(104 : UInt8), UInt8.ofNat (((c : Nat) : Int)).toNat])), .ex (.pointer (some ⟨b935, 0, none⟩)), .ex (.pointer (some ⟨b935, 0, none⟩)), .ex (.pointer (some ⟨b935, 4, none⟩)), .ex (i64 ((((QL d.p : Nat) : Int) + 7) / 8)), .ex (i64 (((((QL d.p : Nat) : Int) + 7) / 8) + 8)), .v (Zo (Qe (QI ([]) d.seed ([(104 : UInt8), UInt8.ofNat (((c : Nat) : Int)).toNat]) (((((QL d.p : Nat) : Int) + 7) / 8) + 8).toNat)) (Is (i64 0))), .v (Zo (Qe (QI ([]) d.seed ([(104 : UInt8), UInt8.ofNat (((c : Nat) : Int)).toNat]) (((((QL d.p : Nat) : Int) + 7) / 8) + 8).toNat)) (Is (i64 0))), .v (Qe (QI ([]) d.seed ([(104 : UInt8), UInt8.ofNat (((c : Nat) : Int)).toNat]) (((((QL d.p : Nat) : Int) + 7) / 8) + 8).toNat)), .ex (i64 0), .v (Qe (QI ([]) d.seed ([(104 : UInt8), UInt8.ofNat (((c : Nat) : Int)).toNat]) (((((QL d.p : Nat) : Int) + 7) / 8) + 8).toNat)), .ex (i64 0)]) [(14, 14), (15, 15)] Je (by kernel_rfl) rfl hv1004 ⟨(oX [] rfl rfl rfl fun _ _ => Qd 3 Try.underlying86 rfl XO rfl rfl), ?_, (oX [] rfl rfl rfl fun _ _ => Qa.move rfl), (oX [(2, 129)] rfl rfl rfl fun _ _ => Qz Try.underlying3 Try.underlying5 rfl ((Qbq _ (by omega)))), ?_, (oX [] rfl rfl rfl fun _ _ => Qa.move rfl), (oX [(5, 132)] rfl rfl rfl fun _ _ => Qa.nilCheck rfl), (oX [(6, 133)] rfl rfl rfl fun _ _ => Qd 4 Try.underlying169 rfl ty3 rfl rfl), ?_, (oX [(8, 135)] rfl rfl rfl fun _ _ => Qa.add rfl rfl (by omega)), ?_, ?_, ?_, ?_, ?_, (oX [(13, 139)] rfl rfl rfl fun _ _ => Qa.assign rfl), trivial⟩ (fun L1125 w1126 h1127 s1128 v1129 q1130 => ?_)
 ·refine oP [(0, 127)] rfl rfl fun L1015 w1016 h1017 s1018 => ?_
  have c1020 := s1005.trans s1018
  have c1021 := s994.trans c1020
  have o1019 := o980.up c1021
  exact ⟨_, Qf o1019 XO rfl rfl, rfl⟩
 ·refine oN [(3, 130)] rfl rfl fun L1030 w1031 h1032 s1033 => ?_
  refine Y0 [(0, .int .u8 104), (1, u8 (UInt8.ofNat (((c : Nat) : Int)).toNat))] (List.map u8 [(104 : UInt8), UInt8.ofNat (((c : Nat) : Int)).toNat]) h1032 Try.underlying22 ty5 (by decide) (by decide) rfl (by kernel_rfl) fun b1034 w1035 r1036 s1037 => ?_
  exact ⟨_, _, rfl, Nat.le_refl _, lB9 rfl, r1036⟩
 ·refine oP [(7, 134)] rfl rfl fun L1050 w1051 h1052 s1053 => ?_
  have o1054 := o1007.up s1053
  exact ⟨_, Qf o1054 ty3 rfl rfl, rfl⟩
 ·refine oC [(1, 128), (4, 131), (9, 136)] rfl rfl QkC fun L1059 w1060 h1061 s1062 v1063 q1064 => ?_
  obtain ⟨A1065, c1066, rfl⟩ := Qe.shape q1064
  have z1067 := Qe.cap q1064
  have c1068 := s1005.trans s1062
  have c1069 := s994.trans c1068
  have c1070 := c988.trans c1069
  have c1071 := c78.trans c1070
  have q1072 := up c1071 q12
  exact ⟨_, rfl, (QbD h1061 (n := ((((QL d.p : Nat) : Int) + 7) / 8) + 8) (Qe.nil L1059 w1060) q1072 q1064 (show List.length ([]) ≤ 10000000 from by simp) (show List.length d.seed ≤ 9000000 from by omega) (show List.length ([(104 : UInt8), UInt8.ofNat (((c : Nat) : Int)).toNat]) ≤ 8000000 from by simp) (show 0 ≤ (((((QL d.p : Nat) : Int) + 7) / 8) + 8) ∧ (((((QL d.p : Nat) : Int) + 7) / 8) + 8) ≤ 8160 from by omega))⟩
 ·refine oP [(10, 137)] rfl rfl fun L1073 w1074 h1075 s1076 v1077 q1078 => ?_
  obtain ⟨v1079, v1080, rfl, q1081, q1082⟩ := q1078
  obtain ⟨A1083, c1084, rfl⟩ := Qe.shape q1081
  have z1085 := Qe.cap q1081
  have q1082 := Is.out q1082; subst q1082
  exact ⟨_, Qa.move rfl, ⟨_, _, rfl, q1081, rfl⟩⟩
 ·refine oP [(11, 126)] rfl rfl fun L1086 w1087 h1088 s1089 v1090 q1091 => ?_
  obtain ⟨v1092, v1093, rfl, q1094, q1095⟩ := q1091
  obtain ⟨A1096, c1097, rfl⟩ := Qe.shape q1094
  have z1098 := Qe.cap q1094
  have q1095 := Is.out q1095; subst q1095
  exact ⟨_, Qa.extract rfl rfl, q1094⟩
 ·refine oP [(11, 126)] rfl rfl fun L1099 w1100 h1101 s1102 v1103 q1104 => ?_
  obtain ⟨v1105, v1106, rfl, q1107, q1108⟩ := q1104
  obtain ⟨A1109, c1110, rfl⟩ := Qe.shape q1107
  have z1111 := Qe.cap q1107
  have q1108 := Is.out q1108; subst q1108
  exact ⟨_, Qa.extract rfl rfl, rfl⟩
 ·refine oP [(12, 138)] rfl rfl fun L1112 w1113 h1114 s1115 v1116 q1117 => ?_
  obtain ⟨A1118, c1119, rfl⟩ := Qe.shape q1117
  have z1120 := Qe.cap q1117
  exact ⟨_, Qa.assign rfl, q1117⟩
 obtain ⟨A1131, c1132, rfl⟩ := Qe.shape q1130
 have z1133 := Qe.cap q1130
 refine Seq.next ?_
 refine Run.seq ?_
 refine rsr ?_
 refine sv (Qa.move rfl) ?_
 refine sv (Qa.neq (a := 0) (b := 0) rfl rfl) ?_
 refine Seq.next ?_
 refine Qc rfl rfl ?_
 refine Qg (fun _ _ h => h) ?_
 refine rsr ?_
 refine sv (Qa.build [] [(0, 1)] [.slice none 0 0] Try.underlying60 Qn (by kernel_rfl) rfl (by kernel_rfl)) ?_
 refine QM 17 [.slice none 0 0] h1127 Qn rfl fun b1136 L1134 w1135 o1137 s1138 h1139 => ?_
 refine Q2 [.slice none 0 0] h1139 o1137 Qn rfl rfl rfl (lB9 rfl) rfl rfl fun w1140 o1141 s1142 h1143 => ?_
 refine Seq.next ?_
 refine Run.seq ?_
 refine rsr ?_
 refine sv (Qa.move rfl) ?_
 refine sv (Qa.len Try.underlying22 rfl) ?_
 refine sv (Qa.move rfl) ?_
 refine Seq.next ?_
 refine Run.block ?_
 refine Run.loop (fun m' l' w' => ∃ (i : Nat) (lab' : Lab) (ub17 : Value), m' = List.length (QI ([]) d.seed ([(104 : UInt8), UInt8.ofNat (((c : Nat) : Int)).toNat]) (((((QL d.p : Nat) : Int) + 7) / 8) + 8).toNat) - i ∧ l' = [(146, i64 ((i : Nat) : Int)), (2, .pointer (some ⟨b22, 0, none⟩)), (6, .pointer (some ⟨b36, 0, none⟩)), (9, .pointer (some ⟨b151, 0, none⟩)), (12, .pointer (some ⟨b935, 0, none⟩)), (123, i64 ((c : Nat) : Int)), (16, .pointer (some ⟨b1136, 0, none⟩)), (144, .slice A1131 (List.length (QI ([]) d.seed ([(104 : UInt8), UInt8.ofNat (((c : Nat) : Int)).toNat]) (((((QL d.p : Nat) : Int) + 7) / 8) + 8).toNat)) c1132), (145, i64 ((List.length (QI ([]) d.seed ([(104 : UInt8), UInt8.ofNat (((c : Nat) : Int)).toNat]) (((((QL d.p : Nat) : Int) + 7) / 8) + 8).toNat) : Nat) : Int))] ∧ Ql lab' w' ∧ Stp [17] L1134 w1140 lab' w' ∧ Own lab' w' 17 b1136 60 #[ub17] ∧ Qi (nv (List.take i (QI ([]) d.seed ([(104 : UInt8), UInt8.ofNat (((c : Nat) : Int)).toNat]) (((((QL d.p : Nat) : Int) + 7) / 8) + 8).toNat)) % d.p) lab' w' (.agg #[ub17]) ∧ (i ≤ List.length (QI ([]) d.seed ([(104 : UInt8), UInt8.ofNat (((c : Nat) : Int)).toNat]) (((((QL d.p : Nat) : Int) + 7) / 8) + 8).toNat))) (List.length (QI ([]) d.seed ([(104 : UInt8), UInt8.ofNat (((c : Nat) : Int)).toNat]) (((((QL d.p : Nat) : Int) + 7) / 8) + 8).toNat) - 0) (l0 := [(146, i64 ((0 : Nat) : Int)), (2, .pointer (some ⟨b22, 0, none⟩)), (6, .pointer (some ⟨b36, 0, none⟩)), (9, .pointer (some ⟨b151, 0, none⟩)), (12, .pointer (some ⟨b935, 0, none⟩)), (123, i64 ((c : Nat) : Int)), (16, .pointer (some ⟨b1136, 0, none⟩)), (144, .slice A1131 (List.length (QI ([]) d.seed ([(104 : UInt8), UInt8.ofNat (((c : Nat) : Int)).toNat]) (((((QL d.p : Nat) : Int) + 7) / 8) + 8).toNat)) c1132), (145, i64 ((List.length (QI ([]) d.seed ([(104 : UInt8), UInt8.ofNat (((c : Nat) : Int)).toNat]) (((((QL d.p : Nat) : Int) + 7) / 8) + 8).toNat) : Nat) : Int))]) ⟨(congrArg (fun z => some (i64 z)) (show (0 : Int) = ((0 : Nat) : Int) from by rfl)), rfl, rfl, rfl, rfl, rfl, rfl, rfl, rfl, trivial⟩ ⟨0, L1134, (.slice none 0 0), rfl, rfl, h1143, ((Stp.refl _ _).more (by simp)), o1141, (Q1 (show 0 = (nv (List.take 0 (QI ([]) d.seed ([(104 : UInt8), UInt8.ofNat (((c : Nat) : Int)).toNat]) (((((QL d.p : Nat) : Int) + 7) / 8) + 8).toNat)) % d.p) from by rfl) (Qi.zero L1134 w1140)), (by omega)⟩ ?_
 intro m1144 l1145 w1146 H1147
 obtain ⟨i, lab1148, u1151, hzm, rfl, hv1149, s1150, o1152, q1153, hi⟩ := H1147
 replace hzm := hzm.symm; subst hzm
 obtain ⟨A1154, c1155, hz⟩ := Qi.shape q1153; cases hz
 have hmd := QW (Nat.le_of_lt (Nat.mod_lt (nv (List.take i (QI ([]) d.seed ([(104 : UInt8), UInt8.ofNat (((c : Nat) : Int)).toNat]) (((((QL d.p : Nat) : Int) + 7) / 8) + 8).toNat))) (show 0 < d.p by omega)))
 have hml := QeJ (a := nv (List.take i (QI ([]) d.seed ([(104 : UInt8), UInt8.ofNat (((c : Nat) : Int)).toNat]) (((((QL d.p : Nat) : Int) + 7) / 8) + 8).toNat)) % d.p) (b := 256)
 have had := fun y : UInt8 => Nat.le_trans (Kj (nv (List.take i (QI ([]) d.seed ([(104 : UInt8), UInt8.ofNat (((c : Nat) : Int)).toNat]) (((((QL d.p : Nat) : Int) + 7) / 8) + 8).toNat)) % d.p * 256) y.toNat) (show _ ≤ 100 from by have h9 := Um (Nat.lt_of_lt_of_le (UInt8.toNat_lt y) (show 256 ≤ 4294967296 by omega)); omega)
 refine rsr ?_
 refine sv (Qa.lss rfl rfl) ?_
 refine Seq.next ?_
 refine Run.seq ?_
 rcases Decidable.em ((((i : Nat) : Int) : Int) < (((List.length (QI ([]) d.seed ([(104 : UInt8), UInt8.ofNat (((c : Nat) : Int)).toNat]) (((((QL d.p : Nat) : Int) + 7) / 8) + 8).toNat) : Nat) : Int) : Int)) with hp13 | hp13
 ·refine Qc rfl (dT9 hp13) ?_
  refine Qg (fun _ _ h => h) ?_
  refine Run.seq ?_
  refine Run.block ?_
  refine rsr ?_
  have c1156 := s1142.trans s1150
  have c1157 := s1138.trans c1156
  have q1158 := up c1157 q1130
  refine sv (Qs i Try.underlying22 ty5 rfl rfl (Qe.row q1158) (by simp [nw]) (by omega) (by omega)) ?_
  refine sv (Qy ty5 rfl (Qe.row q1158) (Jp u8 _ (0 : UInt8) (by omega))) ?_
  refine sv (Qa.assign rfl) ?_
  refine Seq.next ?_
  refine Run.open 12 (Φ := [.ex (.pointer (some ⟨b935, 0, none⟩)), .ex (.pointer (some ⟨b935, 0, none⟩)), .ex (.pointer (some ⟨b935, 0, none⟩)), .ex (.pointer (some ⟨b955, 0, none⟩)), .ex (.agg #[.slice A1154 (nw (nv (List.take i (QI ([]) d.seed ([(104 : UInt8), UInt8.ofNat (((c : Nat) : Int)).toNat]) (((((QL d.p : Nat) : Int) + 7) / 8) + 8).toNat)) % d.p)) c1155]), .v (Qi 256), .v (Qi ((nv (List.take i (QI ([]) d.seed ([(104 : UInt8), UInt8.ofNat (((c : Nat) : Int)).toNat]) (((((QL d.p : Nat) : Int) + 7) / 8) + 8).toNat)) % d.p) * 256)), .ex (u8 (List.getD (QI ([]) d.seed ([(104 : UInt8), UInt8.ofNat (((c : Nat) : Int)).toNat]) (((((QL d.p : Nat) : Int) + 7) / 8) + 8).toNat) i (0 : UInt8))), .ex (n64 ((List.getD (QI ([]) d.seed ([(104 : UInt8), UInt8.ofNat (((c : Nat) : Int)).toNat]) (((((QL d.p : Nat) : Int) + 7) / 8) + 8).toNat) i (0 : UInt8)).toNat)), .v (Qi ((List.getD (QI ([]) d.seed ([(104 : UInt8), UInt8.ofNat (((c : Nat) : Int)).toNat]) (((((QL d.p : Nat) : Int) + 7) / 8) + 8).toNat) i (0 : UInt8)).toNat)), .v (Qi (((nv (List.take i (QI ([]) d.seed ([(104 : UInt8), UInt8.ofNat (((c : Nat) : Int)).toNat]) (((((QL d.p : Nat) : Int) + 7) / 8) + 8).toNat)) % d.p) * 256) + ((List.getD (QI ([]) d.seed ([(104 : UInt8), UInt8.ofNat (((c : Nat) : Int)).toNat]) (((((QL d.p : Nat) : Int) + 7) / 8) + 8).toNat) i (0 : UInt8)).toNat))), .v (Qi ((((nv (List.take i (QI ([]) d.seed ([(104 : UInt8), UInt8.ofNat (((c : Nat) : Int)).toNat]) (((((QL d.p : Nat) : Int) + 7) / 8) + 8).toNat)) % d.p) * 256) + ((List.getD (QI ([]) d.seed ([(104 : UInt8), UInt8.ofNat (((c : Nat) : Int)).toNat]) (((((QL d.p : Nat) : Int) + 7) / 8) + 8).toNat) i (0 : UInt8)).toNat)) % d.p))]) [(11, 161)] Je (by kernel_rfl) rfl hv1149 ⟨(oX [] rfl rfl rfl fun _ _ => Qa.move rfl), (oX [(0, 150)] rfl rfl rfl fun _ _ => Qa.nilCheck rfl), (oX [(1, 151)] rfl rfl rfl fun _ _ => Qd 0 Try.underlying169 rfl VS rfl rfl), ?_, ?_, ?_, ?_, (oX [] rfl rfl rfl fun _ _ => Qa.move rfl), (oX [(7, 157)] rfl rfl rfl fun _ _ => Qce Try.underlying5 Try.underlying62 rfl), ?_, ?_, ?_, trivial⟩ (fun L1237 w1238 h1239 s1240 v1241 q1242 => ?_)
  ·refine oP [(2, 152)] rfl rfl fun L1171 w1172 h1173 s1174 => ?_
   have c1176 := c1157.trans s1174
   have c1177 := s1128.trans c1176
   have o1175 := o1007.up c1177
   exact ⟨_, Qf o1175 VS rfl rfl, rfl⟩
  ·refine oP [] rfl rfl fun L1178 w1179 h1180 s1181 => ?_
   have o1182 := o1152.up s1181
   exact ⟨_, Qb [.slice A1154 (nw (nv (List.take i (QI ([]) d.seed ([(104 : UInt8), UInt8.ofNat (((c : Nat) : Int)).toNat]) (((((QL d.p : Nat) : Int) + 7) / 8) + 8).toNat)) % d.p)) c1155] o1182 Qn rfl rfl, rfl⟩
  ·refine oC [] rfl rfl JN fun L1183 w1184 h1185 s1186 => ?_
   exact ⟨_, rfl, (QX h1185 (x := 256) (show 256 < 18446744073709551616 from by omega))⟩
  ·refine oC [(4, 154), (5, 155)] rfl rfl VD fun L1187 w1188 h1189 s1190 v1191 q1192 => ?_
   obtain ⟨A1193, c1194, rfl⟩ := Qi.shape q1192
   have z1195 := Qi.cap q1192
   have q1196 := up s1190 q1153
   exact ⟨_, rfl, (Xj h1189 q1196 q1192 (show nw (nv (List.take i (QI ([]) d.seed ([(104 : UInt8), UInt8.ofNat (((c : Nat) : Int)).toNat]) (((((QL d.p : Nat) : Int) + 7) / 8) + 8).toNat)) % d.p) ≤ 1000000 from by omega) (show nw 256 ≤ 1000000 from by omega))⟩
  ·refine oC [(8, 158)] rfl rfl JN fun L1205 w1206 h1207 s1208 => ?_
   exact ⟨_, rfl, (QX h1207 (x := (List.getD (QI ([]) d.seed ([(104 : UInt8), UInt8.ofNat (((c : Nat) : Int)).toNat]) (((((QL d.p : Nat) : Int) + 7) / 8) + 8).toNat) i (0 : UInt8)).toNat) (show ((List.getD (QI ([]) d.seed ([(104 : UInt8), UInt8.ofNat (((c : Nat) : Int)).toNat]) (((((QL d.p : Nat) : Int) + 7) / 8) + 8).toNat) i (0 : UInt8)).toNat) < 18446744073709551616 from by exact Nat.lt_of_lt_of_le (UInt8.toNat_lt _) (by omega)))⟩
  ·refine oC [(6, 156), (9, 159)] rfl rfl QcM fun L1209 w1210 h1211 s1212 v1213 q1214 v1218 q1219 => ?_
   obtain ⟨A1215, c1216, rfl⟩ := Qi.shape q1214
   have z1217 := Qi.cap q1214
   obtain ⟨A1220, c1221, rfl⟩ := Qi.shape q1219
   have z1222 := Qi.cap q1219
   exact ⟨_, rfl, (UX h1211 q1214 q1219 (show nw ((nv (List.take i (QI ([]) d.seed ([(104 : UInt8), UInt8.ofNat (((c : Nat) : Int)).toNat]) (((((QL d.p : Nat) : Int) + 7) / 8) + 8).toNat)) % d.p) * 256) ≤ 1000000 from by omega) (show nw ((List.getD (QI ([]) d.seed ([(104 : UInt8), UInt8.ofNat (((c : Nat) : Int)).toNat]) (((((QL d.p : Nat) : Int) + 7) / 8) + 8).toNat) i (0 : UInt8)).toNat) ≤ 1000000 from by exact Nat.le_trans (Um (Nat.lt_of_lt_of_le (UInt8.toNat_lt _) (by omega))) (by omega)))⟩
  ·refine oC [(3, 153), (10, 160)] rfl rfl VQ fun L1223 w1224 h1225 s1226 v1227 q1228 => ?_
   obtain ⟨A1229, c1230, rfl⟩ := Qi.shape q1228
   have z1231 := Qi.cap q1228
   have c1232 := c1157.trans s1226
   have c1233 := s1128.trans c1232
   have c1234 := s1005.trans c1233
   have c1235 := s994.trans c1234
   have q1236 := up c1235 q984
   exact ⟨_, rfl, (Yk h1225 q1236 q1228 (show 1 < d.p from by omega) (show nw (((nv (List.take i (QI ([]) d.seed ([(104 : UInt8), UInt8.ofNat (((c : Nat) : Int)).toNat]) (((((QL d.p : Nat) : Int) + 7) / 8) + 8).toNat)) % d.p) * 256) + ((List.getD (QI ([]) d.seed ([(104 : UInt8), UInt8.ofNat (((c : Nat) : Int)).toNat]) (((((QL d.p : Nat) : Int) + 7) / 8) + 8).toNat) i (0 : UInt8)).toNat)) ≤ 999999 from by exact Nat.le_trans (had _) (by omega)) (show nw d.p ≤ 1000000 from by omega))⟩
  obtain ⟨A1243, c1244, rfl⟩ := Qi.shape q1242
  have z1245 := Qi.cap q1242
  have o1246 := o1152.up s1240
  refine Q2 [.slice A1243 (nw ((((nv (List.take i (QI ([]) d.seed ([(104 : UInt8), UInt8.ofNat (((c : Nat) : Int)).toNat]) (((((QL d.p : Nat) : Int) + 7) / 8) + 8).toNat)) % d.p) * 256) + ((List.getD (QI ([]) d.seed ([(104 : UInt8), UInt8.ofNat (((c : Nat) : Int)).toNat]) (((((QL d.p : Nat) : Int) + 7) / 8) + 8).toNat) i (0 : UInt8)).toNat)) % d.p)) c1244] h1239 o1246 Qn rfl rfl rfl (lB9 rfl) rfl rfl fun w1247 o1248 s1249 h1250 => ?_
  refine QH (fun _ _ h => h) ?_
  refine Run.region ?_
  refine sv (Qa.add rfl rfl (by omega)) ?_
  refine sv (Qa.move rfl) ?_
  have q1251 := up s1249 q1242
  have c1252 := s1240.trans s1249
  have c1253 := s1150.trans c1252
  exact Seq.nil (fun a1254 h1255 => ⟨_, by omega, _, h1255.weaken (QG (l' := [(146, i64 (((i + 1) : Nat) : Int)), (2, .pointer (some ⟨b22, 0, none⟩)), (6, .pointer (some ⟨b36, 0, none⟩)), (9, .pointer (some ⟨b151, 0, none⟩)), (12, .pointer (some ⟨b935, 0, none⟩)), (123, i64 ((c : Nat) : Int)), (16, .pointer (some ⟨b1136, 0, none⟩)), (144, .slice A1131 (List.length (QI ([]) d.seed ([(104 : UInt8), UInt8.ofNat (((c : Nat) : Int)).toNat]) (((((QL d.p : Nat) : Int) + 7) / 8) + 8).toNat)) c1132), (145, i64 ((List.length (QI ([]) d.seed ([(104 : UInt8), UInt8.ofNat (((c : Nat) : Int)).toNat]) (((((QL d.p : Nat) : Int) + 7) / 8) + 8).toNat) : Nat) : Int))]) ⟨(congrArg (fun z => some (i64 z)) (show (((i : Nat) : Int) + 1 : Int) = (((i + 1) : Nat) : Int) from by rfl)), rfl, rfl, rfl, rfl, rfl, rfl, rfl, rfl, trivial⟩), ⟨i + 1, L1237, (.slice A1243 (nw ((((nv (List.take i (QI ([]) d.seed ([(104 : UInt8), UInt8.ofNat (((c : Nat) : Int)).toNat]) (((((QL d.p : Nat) : Int) + 7) / 8) + 8).toNat)) % d.p) * 256) + ((List.getD (QI ([]) d.seed ([(104 : UInt8), UInt8.ofNat (((c : Nat) : Int)).toNat]) (((((QL d.p : Nat) : Int) + 7) / 8) + 8).toNat) i (0 : UInt8)).toNat)) % d.p)) c1244), rfl, rfl, h1250, (c1253.more (by decide)), o1248, (Q1 (show ((((nv (List.take i (QI ([]) d.seed ([(104 : UInt8), UInt8.ofNat (((c : Nat) : Int)).toNat]) (((((QL d.p : Nat) : Int) + 7) / 8) + 8).toNat)) % d.p) * 256) + ((List.getD (QI ([]) d.seed ([(104 : UInt8), UInt8.ofNat (((c : Nat) : Int)).toNat]) (((((QL d.p : Nat) : Int) + 7) / 8) + 8).toNat) i (0 : UInt8)).toNat)) % d.p) = (nv (List.take (i + 1) (QI ([]) d.seed ([(104 : UInt8), UInt8.ofNat (((c : Nat) : Int)).toNat]) (((((QL d.p : Nat) : Int) + 7) / 8) + 8).toNat)) % d.p) from by exact Qi1 (by omega) rfl) q1251), (by omega)⟩⟩)
 refine Qc rfl (dF9 hp13) ?_
 refine Qv (fun _ _ h => h) ?_
 refine Run.seq ?_
 refine Run.open 9 (Φ := [.ex (.pointer (some ⟨b935, 0, none⟩)), .ex (.pointer (some ⟨b935, 0, none⟩)), .ex (.pointer (some ⟨b935, 0, none⟩)), .ex (.pointer (some ⟨b935, 0, none⟩)), .ex (.pointer (some ⟨b955, 0, none⟩)), .ex (.agg #[.slice A1154 (nw (nv (List.take i (QI ([]) d.seed ([(104 : UInt8), UInt8.ofNat (((c : Nat) : Int)).toNat]) (((((QL d.p : Nat) : Int) + 7) / 8) + 8).toNat)) % d.p)) c1155]), .ex (.agg #[.slice A143 (nw ((d.p - 1) / d.q)) c144]), .v (Qi ((nv (List.take i (QI ([]) d.seed ([(104 : UInt8), UInt8.ofNat (((c : Nat) : Int)).toNat]) (((((QL d.p : Nat) : Int) + 7) / 8) + 8).toNat)) % d.p) ^ ((d.p - 1) / d.q) % d.p)), .ex (.pointer (some ⟨b935, 0, none⟩))]) [(7, 170), (8, 171)] Je (by kernel_rfl) rfl hv1149 ⟨(oX [] rfl rfl rfl fun _ _ => Qa.move rfl), (oX [] rfl rfl rfl fun _ _ => Qa.move rfl), (oX [(1, 164)] rfl rfl rfl fun _ _ => Qa.nilCheck rfl), (oX [(2, 165)] rfl rfl rfl fun _ _ => Qd 0 Try.underlying169 rfl VS rfl rfl), ?_, ?_, ?_, ?_, (oX [(0, 163)] rfl rfl rfl fun _ _ => Qa.nilCheck rfl), trivial⟩ (fun L1318 w1319 h1320 s1321 v1322 q1323 => ?_)
 ·refine oP [(3, 166)] rfl rfl fun L1272 w1273 h1274 s1275 => ?_
  have c1277 := s1150.trans s1275
  have c1278 := s1142.trans c1277
  have c1279 := s1138.trans c1278
  have c1280 := s1128.trans c1279
  have o1276 := o1007.up c1280
  exact ⟨_, Qf o1276 VS rfl rfl, rfl⟩
 ·refine oP [] rfl rfl fun L1281 w1282 h1283 s1284 => ?_
  have o1285 := o1152.up s1284
  exact ⟨_, Qb [.slice A1154 (nw (nv (List.take i (QI ([]) d.seed ([(104 : UInt8), UInt8.ofNat (((c : Nat) : Int)).toNat]) (((((QL d.p : Nat) : Int) + 7) / 8) + 8).toNat)) % d.p)) c1155] o1285 Qn rfl rfl, rfl⟩
 ·refine oP [] rfl rfl fun L1286 w1287 h1288 s1289 => ?_
  have c1291 := s1150.trans s1289
  have c1292 := s1142.trans c1291
  have c1293 := s1138.trans c1292
  have c1294 := s1128.trans c1293
  have c1295 := s1005.trans c1294
  have c1296 := s994.trans c1295
  have c1297 := c986.trans c1296
  have c1298 := c939.trans c1297
  have o1290 := o163.up c1298
  exact ⟨_, Qb [.slice A143 (nw ((d.p - 1) / d.q)) c144] o1290 Qn rfl rfl, rfl⟩
 ·refine oC [(4, 167), (5, 168), (6, 169)] rfl rfl QaU fun L1299 w1300 h1301 s1302 => ?_
  have c1303 := s1150.trans s1302
  have c1304 := s1142.trans c1303
  have c1305 := s1138.trans c1304
  have c1306 := s1128.trans c1305
  have c1307 := s1005.trans c1306
  have c1308 := s994.trans c1307
  have q1309 := up c1308 q984
  have q1310 := up s1302 q1153
  have c1311 := c986.trans c1308
  have c1312 := c942.trans c1311
  have q1313 := up c1312 q140
  exact ⟨_, rfl, (XT h1301 q1309 q1310 q1313 (show 1 < d.p from by omega) (show nw (nv (List.take i (QI ([]) d.seed ([(104 : UInt8), UInt8.ofNat (((c : Nat) : Int)).toNat]) (((((QL d.p : Nat) : Int) + 7) / 8) + 8).toNat)) % d.p) ≤ 1000 from by omega) (show nw ((d.p - 1) / d.q) ≤ 1000 from by omega) (show nw d.p ≤ 1000 from by omega))⟩
 obtain ⟨A1324, c1325, rfl⟩ := Qi.shape q1323
 have z1326 := Qi.cap q1323
 refine sv (Qd 3 Try.underlying169 rfl Qn rfl rfl) ?_
 have c1328 := s1150.trans s1321
 have c1329 := s1142.trans c1328
 have c1330 := s1138.trans c1329
 have c1331 := s1128.trans c1330
 have o1327 := o1007.up c1331
 refine Q2 [.pointer (some ⟨b955, 0, none⟩), .pointer (some ⟨b974, 0, none⟩), .slice A7 (nw d.g) c8, .slice A1324 (nw ((nv (List.take i (QI ([]) d.seed ([(104 : UInt8), UInt8.ofNat (((c : Nat) : Int)).toNat]) (((((QL d.p : Nat) : Int) + 7) / 8) + 8).toNat)) % d.p) ^ ((d.p - 1) / d.q) % d.p)) c1325, i64 ((((QL d.p : Nat) : Int) + 7) / 8)] h1320 o1327 Qn rfl rfl rfl (lB9 rfl) rfl rfl fun w1332 o1333 s1334 h1335 => ?_
 refine Seq.next ?_
 refine Run.seq ?_
 refine Run.open 7 (Φ := [.ex (.pointer (some ⟨b935, 0, none⟩)), .ex (.pointer (some ⟨b935, 0, none⟩)), .ex (.pointer (some ⟨b935, 3, none⟩)), .ex (.agg #[.slice A1324 (nw ((nv (List.take i (QI ([]) d.seed ([(104 : UInt8), UInt8.ofNat (((c : Nat) : Int)).toNat]) (((((QL d.p : Nat) : Int) + 7) / 8) + 8).toNat)) % d.p) ^ ((d.p - 1) / d.q) % d.p)) c1325]), .ex (.agg #[.slice A31 (nw 1) c32]), .v (Is (i64 (Jo ((nv (List.take i (QI ([]) d.seed ([(104 : UInt8), UInt8.ofNat (((c : Nat) : Int)).toNat]) (((((QL d.p : Nat) : Int) + 7) / 8) + 8).toNat)) % d.p) ^ ((d.p - 1) / d.q) % d.p) 1))), .ex (.bool (decide ((0 : Int) < (Jo ((nv (List.take i (QI ([]) d.seed ([(104 : UInt8), UInt8.ofNat (((c : Nat) : Int)).toNat]) (((((QL d.p : Nat) : Int) + 7) / 8) + 8).toNat)) % d.p) ^ ((d.p - 1) / d.q) % d.p) 1 : Int))))]) [(6, 179)] Je (by kernel_rfl) rfl h1335 ⟨(oX [] rfl rfl rfl fun _ _ => Qa.move rfl), (oX [(0, 173)] rfl rfl rfl fun _ _ => Qa.nilCheck rfl), (oX [(1, 174)] rfl rfl rfl fun _ _ => Qd 3 Try.underlying169 rfl Qn rfl rfl), ?_, ?_, ?_, ?_, trivial⟩ (fun L1380 w1381 h1382 s1383 => ?_)
 ·refine oP [(2, 175)] rfl rfl fun L1348 w1349 h1350 s1351 => ?_
  have o1352 := o1333.up s1351
  exact ⟨_, Qb [.slice A1324 (nw ((nv (List.take i (QI ([]) d.seed ([(104 : UInt8), UInt8.ofNat (((c : Nat) : Int)).toNat]) (((((QL d.p : Nat) : Int) + 7) / 8) + 8).toNat)) % d.p) ^ ((d.p - 1) / d.q) % d.p)) c1325] o1352 Qn rfl rfl, rfl⟩
 ·refine oP [] rfl rfl fun L1353 w1354 h1355 s1356 => ?_
  have c1358 := s1334.trans s1356
  have c1359 := c1331.trans c1358
  have c1360 := s1005.trans c1359
  have c1361 := s994.trans c1360
  have c1362 := c987.trans c1361
  have o1357 := o98.up c1362
  exact ⟨_, Qb [.slice A31 (nw 1) c32] o1357 Qn rfl rfl, rfl⟩
 ·refine oC [(3, 176), (4, 177)] rfl rfl ZP fun L1363 w1364 h1365 s1366 => ?_
  have c1367 := s1334.trans s1366
  have q1368 := up c1367 q1323
  have c1369 := c1331.trans c1367
  have c1370 := s1005.trans c1369
  have c1371 := s994.trans c1370
  have c1372 := c987.trans c1371
  have q1373 := up c1372 q103
  exact ⟨_, rfl, (J8 h1365 q1368 q1373)⟩
 ·refine oP [(5, 178)] rfl rfl fun L1374 w1375 h1376 s1377 v1378 q1379 => ?_
  have q1379 := Is.out q1379; subst q1379
  exact ⟨_, Qa.gtr rfl rfl, rfl⟩
 refine Seq.next ?_
 rcases Decidable.em ((0 : Int) < (Jo ((nv (List.take i (QI ([]) d.seed ([(104 : UInt8), UInt8.ofNat (((c : Nat) : Int)).toNat]) (((((QL d.p : Nat) : Int) + 7) / 8) + 8).toNat)) % d.p) ^ ((d.p - 1) / d.q) % d.p) 1 : Int)) with hp14 | hp14
 rotate_left
 ·refine Qc rfl (dF9 hp14) ?_
  refine Qg (fun _ _ h => h) ?_
  refine Run.region ?_
  refine sv (Qa.add rfl rfl (by omega)) ?_
  refine sv (Qa.move rfl) ?_
  have o1398 := o1333.up s1383
  have c1399 := s1334.trans s1383
  have q1400 := up c1399 q1323
  have c1401 := c1331.trans c1399
  have c1402 := s1005.trans c1401
  exact Seq.nil (fun a1403 h1404 => ⟨_, by omega, _, h1404.weaken (QG (l' := [(123, i64 (((c + 1) : Nat) : Int)), (2, .pointer (some ⟨b22, 0, none⟩)), (6, .pointer (some ⟨b36, 0, none⟩)), (9, .pointer (some ⟨b151, 0, none⟩)), (12, .pointer (some ⟨b935, 0, none⟩))]) ⟨(congrArg (fun z => some (i64 z)) (show (((c : Nat) : Int) + 1 : Int) = (((c + 1) : Nat) : Int) from by rfl)), rfl, rfl, rfl, rfl, trivial⟩), ⟨c + 1, ((nv (List.take i (QI ([]) d.seed ([(104 : UInt8), UInt8.ofNat (((c : Nat) : Int)).toNat]) (((((QL d.p : Nat) : Int) + 7) / 8) + 8).toNat)) % d.p) ^ ((d.p - 1) / d.q) % d.p), L1380, (.slice A1324 (nw ((nv (List.take i (QI ([]) d.seed ([(104 : UInt8), UInt8.ofNat (((c : Nat) : Int)).toNat]) (((((QL d.p : Nat) : Int) + 7) / 8) + 8).toNat)) % d.p) ^ ((d.p - 1) / d.q) % d.p)) c1325), rfl, rfl, h1382, (c1402.more (by decide)), o1398, (Q1 (show ((nv (List.take i (QI ([]) d.seed ([(104 : UInt8), UInt8.ofNat (((c : Nat) : Int)).toNat]) (((((QL d.p : Nat) : Int) + 7) / 8) + 8).toNat)) % d.p) ^ ((d.p - 1) / d.q) % d.p) = ((nv (List.take i (QI ([]) d.seed ([(104 : UInt8), UInt8.ofNat (((c : Nat) : Int)).toNat]) (((((QL d.p : Nat) : Int) + 7) / 8) + 8).toNat)) % d.p) ^ ((d.p - 1) / d.q) % d.p) from by rfl) q1400), (by omega), (by exact Xu hall (fun h => hp14 (by rw [QbS, (QbO (QiS (by unfold KN; omega) rfl) (by omega))]; exact h)))⟩⟩)
 refine Qc rfl (dT9 hp14) ?_
 refine rsr ?_
 refine sv (Qa.move rfl) ?_
 refine sv (Qa.assign rfl) ?_
 refine sv (Qa.assign rfl) ?_
 refine Seq.next ?_
 have o1384 := o1333.up s1383
 have h1385 := Ql.release h1382 100
 have c1387 := s1383.trans (Stp.release (lab := L1380) (w := w1381) 100)
 have c1388 := s1334.trans c1387
 have c1389 := c1331.trans c1388
 have c1390 := s1005.trans c1389
 have c1391 := s994.trans c1390
 have q1392 := up c1391 q984
 have q1393 := up c1391 q985
 have q1394 := up c1391 q990
 have q1395 := up c1388 q1323
 have q1386 : Js (⟨d.p, d.q, d.g, (nv (List.take i (QI ([]) d.seed ([(104 : UInt8), UInt8.ofNat (((c : Nat) : Int)).toNat]) (((((QL d.p : Nat) : Int) + 7) / 8) + 8).toNat)) % d.p) ^ ((d.p - 1) / d.q) % d.p⟩ : GroupD) (Q5 L1380 100) w1381 (.pointer (some ⟨b935, 0, none⟩)) := Js.mk o1384 q1392 q1393 q1394 q1395 (by (have h9 := Ze (ZW hc5); have h8 := QW (Nat.sub_le d.p 1); omega)) (by (have h9 := Ze (ZW hc5); have h8 := QW (Nat.sub_le d.p 1); omega))
 have c1396 := c988.trans c1391
 have c1397 := c78.trans c1396
 obtain ⟨⟨zU, zo⟩, zb⟩ := hX c1397 (by decide)
 refine Run.ret (QQ (Qr (Qr (QQ (Qr ?_)))))
 exact QP Try.results41 rfl rfl ⟨_, rfl, ⟨_, _, rfl, (JC (by (rw [Vw (JA hp1 hp2 hp3 hp4) ⟨ZW hc5, ZW hc6⟩ (Vu hc7 hp8 hp9 hp10) (ZW hc11) (by omega) hall (QbO (QiS (by unfold KN; omega) rfl) (by omega)) hp14])) (up zo (show J6 (some (⟨d.p, d.q, d.g, (nv (List.take i (QI ([]) d.seed ([(104 : UInt8), UInt8.ofNat (((c : Nat) : Int)).toNat]) (((((QL d.p : Nat) : Int) + 7) / 8) + 8).toNat)) % d.p) ^ ((d.p - 1) / d.q) % d.p⟩ : GroupD)) (Q5 L1380 100) w1381 _ from q1386))), (JF (by (rw [Vw (JA hp1 hp2 hp3 hp4) ⟨ZW hc5, ZW hc6⟩ (Vu hc7 hp8 hp9 hp10) (ZW hc11) (by omega) hall (QbO (QiS (by unfold KN; omega) rfl) (by omega)) hp14])) _ _)⟩, zb⟩
end Go.Proofs.Ytgfomedobfaidaa
end
section
set_option linter.unusedVariables false
set_option linter.unusedSimpArgs false
namespace Go.Proofs.Ytgfomedobfaidaa
open Go.RowKit
theorem Qfi {lab : Lab} {w : World} (hv : Ql lab w) {high : Nat} {low : Nat} (hh : high < 18446744073709551616) (hl : low < 18446744073709551616) :
  Calls Try.prog 153 #[n64 high, n64 low] w (fun e w' => ∃ v, e = .returned v ∧ (Qi (high * 4294967296 + low)) lab w' v ∧ Below w.heap.size w w') := by
 obtain ⟨L0, h0L, ⟨zU0, z00⟩, hX⟩ := QZ hv
 have n32 : nw 4294967296 ≤ 2 := Xi (n := 2) (by decide)
 have nh : nw high ≤ 2 := Xi (n := 2) (by omega)
 have nl : nw low ≤ 2 := Xi (n := 2) (by omega)
 have nm := QeJ (a := high) (b := 4294967296)
 refine Qu Try.func153 rfl Try.ntmps153 (lB9 rfl) ?_
 refine rsr ?_
 refine QM 5 [.slice none 0 0] h0L Qn rfl fun b3 L1 w2 o4 s5 h6 => ?_
 refine nsr ?_
 refine sv (Qa.move rfl) ?_
 refine Q7 (V := Qi high) JN h6 rfl (QX h6 (x := high) (show high < 18446744073709551616 from by omega)) fun v7 w8 q9 s10 h11 => ?_
 obtain ⟨A12, c13, rfl⟩ := Qi.shape q9
 have z14 := Qi.cap q9
 refine Q7 (V := Qi 4294967296) JN h11 rfl (QX h11 (x := 4294967296) (show 4294967296 < 18446744073709551616 from by omega)) fun v15 w16 q17 s18 h19 => ?_
 obtain ⟨A20, c21, rfl⟩ := Qi.shape q17
 have z22 := Qi.cap q17
 have q23 := up s18 q9
 refine Q7 (V := Qi (high * 4294967296)) VD h19 rfl (Xj h19 q23 q17 (show nw high ≤ 1000000 from by omega) (show nw 4294967296 ≤ 1000000 from by omega)) fun v24 w25 q26 s27 h28 => ?_
 obtain ⟨A29, c30, rfl⟩ := Qi.shape q26
 have z31 := Qi.cap q26
 refine sv (Qa.move rfl) ?_
 refine Q7 (V := Qi low) JN h28 rfl (QX h28 (x := low) (show low < 18446744073709551616 from by omega)) fun v32 w33 q34 s35 h36 => ?_
 obtain ⟨A37, c38, rfl⟩ := Qi.shape q34
 have z39 := Qi.cap q34
 have q40 := up s35 q26
 refine Q7 (V := Qi ((high * 4294967296) + low)) QcM h36 rfl (UX h36 q40 q34 (show nw (high * 4294967296) ≤ 1000000 from by omega) (show nw low ≤ 1000000 from by omega)) fun v41 w42 q43 s44 h45 => ?_
 obtain ⟨A46, c47, rfl⟩ := Qi.shape q43
 have z48 := Qi.cap q43
 have c50 := s35.trans s44
 have c51 := s27.trans c50
 have c52 := s18.trans c51
 have c53 := s10.trans c52
 have o49 := o4.up c53
 refine Q2 [.slice A46 (nw ((high * 4294967296) + low)) c47] h45 o49 Qn rfl rfl rfl (lB9 rfl) rfl rfl fun w54 o55 s56 h57 => ?_
 refine Seq.next ?_
 have c58 := c53.trans s56
 have c59 := s5.trans c58
 obtain ⟨⟨zU, zo⟩, zb⟩ := hX c59 (by decide)
 have q60 := up s56 q43
 refine Run.ret ?_
 exact Qm Try.results153 ⟨_, rfl, Q6 [.slice A46 (nw ((high * 4294967296) + low)) c47] o55 Qn rfl⟩ ⟨_, rfl, (Q1 (by with_reducible rfl) (up zo q60)), zb⟩
theorem Qac {lab : Lab} {w : World} (hv : Ql lab w) {n : Int} {seed : List UInt8} {v1 : Value} (h1 : Qe seed lab w v1) :
  Calls Try.prog 104 #[i64 n, v1] w (fun e w' => ∃ v, e = .returned v ∧ (Zo (J3 (prm n seed)) (Jy (chn n))) lab w' v ∧ Below w.heap.size w w') := by
 obtain ⟨L0, h0L, ⟨zU0, z00⟩, hX⟩ := QZ hv
 replace h1 := up z00 h1
 obtain ⟨A1, c2, rfl⟩ := Qe.shape h1
 have z3 := Qe.cap h1
 refine Qu Try.func104 rfl Try.ntmps104 (lB9 rfl) ?_
 refine rsr ?_
 refine QM 5 [.slice none 0 0, .slice none 0 0, .slice none 0 0, .slice none 0 0] h0L Qgj rfl fun b6 L4 w5 o7 s8 h9 => ?_
 refine sv (Qa.assign rfl) ?_
 refine Seq.next ?_
 refine Run.seq ?_
 refine rsr ?_
 refine sv (Qa.move rfl) ?_
 refine sv (Qz Try.underlying3 Try.underlying50 rfl (XL _)) ?_
 refine sv (Qbh (b := (3 : UInt64)) rfl rfl (by decide)) ?_
 refine Seq.next ?_
 refine Run.block ?_
 refine rsr ?_
 refine sv (Qa.eql rfl rfl) ?_
 refine sv (Qa.assign rfl) ?_
 refine Seq.next ?_
 rcases Decidable.em ((((YG n) % (3 : UInt64)).toNat : Int) = (0 : Int)) with hp1 | hp1
 ·refine Qc rfl (dT9 hp1) ?_
  refine rsr ?_
  refine Q7 (V := Qi 607) JN h9 rfl (QX h9 (x := 607) (show 607 < 18446744073709551616 from by decide)) fun v10 w11 q12 s13 h14 => ?_
  obtain ⟨A15, c16, rfl⟩ := Qi.shape q12
  have z17 := Qi.cap q12
  refine Q7 (V := Qi 101) JN h14 rfl (QX h14 (x := 101) (show 101 < 18446744073709551616 from by decide)) fun v18 w19 q20 s21 h22 => ?_
  obtain ⟨A23, c24, rfl⟩ := Qi.shape q20
  have z25 := Qi.cap q20
  refine Q7 (V := Qi 64) JN h22 rfl (QX h22 (x := 64) (show 64 < 18446744073709551616 from by decide)) fun v26 w27 q28 s29 h30 => ?_
  obtain ⟨A31, c32, rfl⟩ := Qi.shape q28
  have z33 := Qi.cap q28
  refine sv (Qa.move rfl) ?_
  refine sv (Qa.build [(0, .agg #[.slice A15 (nw 607) c16]), (1, .agg #[.slice A23 (nw 101) c24]), (2, .agg #[.slice A31 (nw 64) c32]), (3, .slice A1 (List.length seed) c2)] [(0, 1), (1, 1), (2, 1), (3, 1)] [.slice A15 (nw 607) c16, .slice A23 (nw 101) c24, .slice A31 (nw 64) c32, .slice A1 (List.length seed) c2] Try.underlying86 Qgj (by kernel_rfl) rfl (by kernel_rfl)) ?_
  have c35 := s21.trans s29
  have c36 := s13.trans c35
  have o34 := o7.up c36
  refine Q2 [.slice A15 (nw 607) c16, .slice A23 (nw 101) c24, .slice A31 (nw 64) c32, .slice A1 (List.length seed) c2] h30 o34 Qgj rfl rfl rfl (lB9 rfl) rfl rfl fun w37 o38 s39 h40 => ?_
  refine sv (Qa.assign rfl) ?_
  refine Seq.next ?_
  have c41 := c36.trans s39
  have c42 := s8.trans c41
  obtain ⟨⟨zU, zo⟩, zb⟩ := hX c42 (by decide)
  have c43 := c35.trans s39
  have q44 := up c43 q12
  have c45 := s29.trans s39
  have q46 := up c45 q20
  have q47 := up s39 q28
  have q48 := up c42 h1
  refine Run.ret (QQ (Qr ?_))
  exact QP Try.results104 ⟨_, rfl, Q6 [.slice A15 (nw 607) c16, .slice A23 (nw 101) c24, .slice A31 (nw 64) c32, .slice A1 (List.length seed) c2] o38 Qgj rfl⟩ rfl ⟨_, rfl, ⟨_, _, rfl, (Xq (show (⟨607, 101, 64, seed⟩ : ParamsD) = prm n seed from by (unfold prm; rw [if_pos (by unfold gno; omega)])) (J3.mk (up zo q44) (up zo q46) (up zo q47) (up zo q48))), (XH (by (unfold chn; rw [if_pos (by unfold gno; omega)])) (Jy.nil _ _))⟩, zb⟩
 refine Qc rfl (dF9 hp1) ?_
 refine rsr ?_
 refine sv (Qa.eql rfl rfl) ?_
 refine sv (Qa.assign rfl) ?_
 refine Seq.next ?_
 rcases Decidable.em ((((YG n) % (3 : UInt64)).toNat : Int) = (1 : Int)) with hp2 | hp2
 ·refine Qc rfl (dT9 hp2) ?_
  refine rsr ?_
  refine Q7 (V := Qi 655211) JN h9 rfl (QX h9 (x := 655211) (show 655211 < 18446744073709551616 from by decide)) fun v49 w50 q51 s52 h53 => ?_
  obtain ⟨A54, c55, rfl⟩ := Qi.shape q51
  have z56 := Qi.cap q51
  refine Q7 (V := Qi 65521) JN h53 rfl (QX h53 (x := 65521) (show 65521 < 18446744073709551616 from by decide)) fun v57 w58 q59 s60 h61 => ?_
  obtain ⟨A62, c63, rfl⟩ := Qi.shape q59
  have z64 := Qi.cap q59
  refine Q7 (V := Qi 1024) JN h61 rfl (QX h61 (x := 1024) (show 1024 < 18446744073709551616 from by decide)) fun v65 w66 q67 s68 h69 => ?_
  obtain ⟨A70, c71, rfl⟩ := Qi.shape q67
  have z72 := Qi.cap q67
  refine sv (Qa.move rfl) ?_
  refine sv (Qa.build [(0, .agg #[.slice A54 (nw 655211) c55]), (1, .agg #[.slice A62 (nw 65521) c63]), (2, .agg #[.slice A70 (nw 1024) c71]), (3, .slice A1 (List.length seed) c2)] [(0, 1), (1, 1), (2, 1), (3, 1)] [.slice A54 (nw 655211) c55, .slice A62 (nw 65521) c63, .slice A70 (nw 1024) c71, .slice A1 (List.length seed) c2] Try.underlying86 Qgj (by kernel_rfl) rfl (by kernel_rfl)) ?_
  refine Q7 (V := Qi 655211) JN h69 rfl (QX h69 (x := 655211) (show 655211 < 18446744073709551616 from by decide)) fun v73 w74 q75 s76 h77 => ?_
  obtain ⟨A78, c79, rfl⟩ := Qi.shape q75
  have z80 := Qi.cap q75
  refine Q7 (V := Qi 2) JN h77 rfl (QX h77 (x := 2) (show 2 < 18446744073709551616 from by decide)) fun v81 w82 q83 s84 h85 => ?_
  obtain ⟨A86, c87, rfl⟩ := Qi.shape q83
  have z88 := Qi.cap q83
  refine Q7 (V := Qi 65521) JN h85 rfl (QX h85 (x := 65521) (show 65521 < 18446744073709551616 from by decide)) fun v89 w90 q91 s92 h93 => ?_
  obtain ⟨A94, c95, rfl⟩ := Qi.shape q91
  have z96 := Qi.cap q91
  refine QR [(0, .agg #[.slice A94 (nw 65521) c95])] [.slice A94 (nw 65521) c95] h93 Try.underlying38 Qn (by decide) (by decide) rfl (by kernel_rfl) (by decide) ?_
  intro w97 b98 r99 s100 hv101
  have q103 := up s100 q91
  have q102 := Qge r99 q103
  refine sv (Qa.build [(0, .agg #[.slice A78 (nw 655211) c79]), (1, .agg #[.slice A86 (nw 2) c87]), (2, .slice (some ⟨b98, 0, none⟩) 1 1)] [(0, 1), (1, 1), (2, 1)] [.slice A78 (nw 655211) c79, .slice A86 (nw 2) c87, .slice (some ⟨b98, 0, none⟩) 1 1] Try.underlying77 Qar (by kernel_rfl) rfl (by kernel_rfl)) ?_
  have c110 := s92.trans s100
  have c111 := s84.trans c110
  have q112 := up c111 q75
  have q113 := up c110 q83
  refine QR [(0, .agg #[.slice A78 (nw 655211) c79, .slice A86 (nw 2) c87, .slice (some ⟨b98, 0, none⟩) 1 1])] [.slice A78 (nw 655211) c79, .slice A86 (nw 2) c87, .slice (some ⟨b98, 0, none⟩) 1 1] hv101 Try.underlying71 Qar (by decide) (by decide) rfl (by kernel_rfl) (by decide) ?_
  intro w104 b105 r106 s107 h108
  have q109 : Jy [(⟨655211, 2, [65521]⟩ : StepD)] L4 w104 (.slice (some ⟨b105, 0, none⟩) 1 1) := Jy.mk 1 rfl (Nat.le_refl _) (by decide) r106 ⟨Z0.mk (up s107 q112) (up s107 q113) (up s107 q102), trivial⟩
  have c115 := c111.trans s107
  have c116 := s76.trans c115
  have c117 := s68.trans c116
  have c118 := s60.trans c117
  have c119 := s52.trans c118
  have o114 := o7.up c119
  refine Q2 [.slice A54 (nw 655211) c55, .slice A62 (nw 65521) c63, .slice A70 (nw 1024) c71, .slice A1 (List.length seed) c2] h108 o114 Qgj rfl rfl rfl (lB9 rfl) rfl rfl fun w120 o121 s122 h123 => ?_
  refine sv (Qa.assign rfl) ?_
  refine Seq.next ?_
  have c124 := c119.trans s122
  have c125 := s8.trans c124
  obtain ⟨⟨zU, zo⟩, zb⟩ := hX c125 (by decide)
  have c126 := c118.trans s122
  have q127 := up c126 q51
  have c128 := c117.trans s122
  have q129 := up c128 q59
  have c130 := c116.trans s122
  have q131 := up c130 q67
  have q132 := up c125 h1
  have q133 := up s122 q109
  refine Run.ret (QQ (Qr ?_))
  exact QP Try.results104 ⟨_, rfl, Q6 [.slice A54 (nw 655211) c55, .slice A62 (nw 65521) c63, .slice A70 (nw 1024) c71, .slice A1 (List.length seed) c2] o121 Qgj rfl⟩ rfl ⟨_, rfl, ⟨_, _, rfl, (Xq (show (⟨655211, 65521, 1024, seed⟩ : ParamsD) = prm n seed from by (unfold prm; rw [if_neg (by unfold gno; omega), if_pos (by unfold gno; omega)])) (J3.mk (up zo q127) (up zo q129) (up zo q131) (up zo q132))), (XH (by (unfold chn; rw [if_neg (by unfold gno; omega), if_pos (by unfold gno; omega)])) (up zo q133))⟩, zb⟩
 refine Qc rfl (dF9 hp2) ?_
 refine Qg (fun _ _ h => h) ?_
 refine rsr ?_
 refine Q7 (V := Qi 1152921504606847009) JN h9 rfl (QX h9 (x := 1152921504606847009) (show 1152921504606847009 < 18446744073709551616 from by decide)) fun v134 w135 q136 s137 h138 => ?_
 obtain ⟨A139, c140, rfl⟩ := Qi.shape q136
 have z141 := Qi.cap q136
 refine QM 7 [.slice none 0 0] h138 Qn rfl fun b144 L142 w143 o145 s146 h147 => ?_
 refine Q2 [.slice A139 (nw 1152921504606847009) c140] h147 o145 Qn rfl rfl rfl (lB9 rfl) rfl rfl fun w148 o149 s150 h151 => ?_
 refine nsr ?_
 refine Q7 (V := Qi (4831838208 * 4294967296 + 595)) Qk8 h151 rfl (Qfi h151 (high := 4831838208) (low := 595) (show 4831838208 < 18446744073709551616 from by decide) (show 595 < 18446744073709551616 from by decide)) fun v152 w153 q154 s155 h156 => ?_
 obtain ⟨A157, c158, rfl⟩ := Qi.shape q154
 have z159 := Qi.cap q154
 refine QM 8 [.slice none 0 0] h156 Qn rfl fun b162 L160 w161 o163 s164 h165 => ?_
 refine Q2 [.slice A157 (nw (4831838208 * 4294967296 + 595)) c158] h165 o163 Qn rfl rfl rfl (lB9 rfl) rfl rfl fun w166 o167 s168 h169 => ?_
 refine Seq.next ?_
 refine Run.seq ?_
 refine Zw [⟨33, .ex (.agg #[.slice A157 (nw (4831838208 * 4294967296 + 595)) c158]), [], none⟩, ⟨34, .ex (.agg #[.slice A139 (nw 1152921504606847009) c140]), [], none⟩, ⟨35, .v (Qi 262144), [], none⟩, ⟨36, .ex (.slice A1 (List.length seed) c2), [], none⟩, ⟨37, .v (J3 (⟨4831838208 * 4294967296 + 595, 1152921504606847009, 262144, seed⟩ : ParamsD)), [], none⟩, ⟨38, .ex (.agg #[.slice A139 (nw 1152921504606847009) c140]), [], none⟩, ⟨39, .v (Qi 13), [], none⟩, ⟨40, .v (Qi 2), [], none⟩, ⟨41, .v (Qi 3), [], none⟩, ⟨42, .v (Qi 11), [], none⟩, ⟨43, .v (Qi 683), [], none⟩, ⟨44, .v (Qi 2971), [], none⟩, ⟨45, .v (Jd ([2, 3, 11, 683, 2971])), [], none⟩, ⟨46, .v (Z0 (⟨1152921504606847009, 13, [2, 3, 11, 683, 2971]⟩ : StepD)), [], none⟩, ⟨47, .ex (.agg #[.slice A157 (nw (4831838208 * 4294967296 + 595)) c158]), [], none⟩, ⟨48, .v (Qi 2), [], none⟩, ⟨49, .ex (.agg #[.slice A139 (nw 1152921504606847009) c140]), [], none⟩, ⟨50, .v (Jd ([1152921504606847009])), [], none⟩, ⟨51, .v (Z0 (⟨4831838208 * 4294967296 + 595, 2, [1152921504606847009]⟩ : StepD)), [], none⟩, ⟨52, .v (Jy ([(⟨1152921504606847009, 13, [2, 3, 11, 683, 2971]⟩ : StepD), (⟨4831838208 * 4294967296 + 595, 2, [1152921504606847009]⟩ : StepD)])), [], none⟩, ⟨4, .v (QhT b6 5 86 (J3 (⟨(⟨4831838208 * 4294967296 + 595, 1152921504606847009, 262144, seed⟩ : ParamsD).p, (⟨4831838208 * 4294967296 + 595, 1152921504606847009, 262144, seed⟩ : ParamsD).q, (⟨4831838208 * 4294967296 + 595, 1152921504606847009, 262144, seed⟩ : ParamsD).g, (⟨4831838208 * 4294967296 + 595, 1152921504606847009, 262144, seed⟩ : ParamsD).seed⟩ : ParamsD))), [5], none⟩] [19, 20] [[], [], [], [], [], [5], [5], [5], [5], [5], [5], [5], [5], [5], [5], [], [5], [5], [5], [5], []] Je (by kernel_rfl) (by kernel_rfl) rfl h169 ⟨QK, QK, J5, QK, J5, QK, J5, J5, J5, J5, J5, J5, J5, J5, QK, J5, QK, J5, J5, J5, Xd rfl, trivial⟩ ⟨?_, ?_, ?_, (rX [] rfl rfl rfl rfl fun _ _ => Qa.move rfl), ?_, ?_, ?_, ?_, ?_, ?_, ?_, ?_, ?_, ?_, ?_, ?_, ?_, ?_, ?_, ?_, ?_, trivial⟩ (fun L413 w414 h415 s416 v417 q418 v422 q423 => ?_)
 ·refine rP [] rfl rfl rfl rfl fun L170 w171 h172 s173 => ?_
  replace s173 : Stp [] _ _ _ _ := s173
  have o174 := o167.up s173
  exact ⟨_, Qb [.slice A157 (nw (4831838208 * 4294967296 + 595)) c158] o174 Qn rfl rfl, rfl⟩
 ·refine rP [] rfl rfl rfl rfl fun L175 w176 h177 s178 => ?_
  replace s178 : Stp [] _ _ _ _ := s178
  have c180 := s168.trans s178
  have c181 := s164.trans c180
  have c182 := s155.trans c181
  have o179 := o149.up c182
  exact ⟨_, Qb [.slice A139 (nw 1152921504606847009) c140] o179 Qn rfl rfl, rfl⟩
 ·refine rC [] rfl rfl rfl rfl JN fun L183 w184 h185 s186 => ?_
  replace s186 : Stp [] _ _ _ _ := s186
  exact ⟨_, rfl, (QX h185 (x := 262144) (show 262144 < 18446744073709551616 from by decide))⟩
 ·refine rP [0, 1, 2, 3] rfl rfl rfl rfl fun L191 w192 h193 s194 v195 q196 => ?_
  replace s194 : Stp [] _ _ _ _ := s194
  obtain ⟨A197, c198, rfl⟩ := Qi.shape q196
  have z199 := Qi.cap q196
  have c200 := s168.trans s194
  have c201 := s164.trans c200
  have q202 := up c201 q154
  have c203 := s155.trans c201
  have c204 := s150.trans c203
  have c205 := s146.trans c204
  have q206 := up c205 q136
  have c207 := s137.trans c205
  have c208 := s8.trans c207
  have q209 := up c208 h1
  exact ⟨_, Qa.build [(0, .agg #[.slice A157 (nw (4831838208 * 4294967296 + 595)) c158]), (1, .agg #[.slice A139 (nw 1152921504606847009) c140]), (2, .agg #[.slice A197 (nw 262144) c198]), (3, .slice A1 (List.length seed) c2)] [(0, 1), (1, 1), (2, 1), (3, 1)] [.slice A157 (nw (4831838208 * 4294967296 + 595)) c158, .slice A139 (nw 1152921504606847009) c140, .slice A197 (nw 262144) c198, .slice A1 (List.length seed) c2] Try.underlying86 Qgj (by kernel_rfl) rfl (by kernel_rfl), J3.mk q202 q206 q196 q209⟩
 ·refine rP [] rfl rfl rfl rfl fun L210 w211 h212 s213 => ?_
  replace s213 : Stp [5] _ _ _ _ := s213
  have c215 := s168.trans s213
  have c216 := s164.trans c215
  have c217 := s155.trans c216
  have o214 := o149.up c217
  exact ⟨_, Qb [.slice A139 (nw 1152921504606847009) c140] o214 Qn rfl rfl, rfl⟩
 ·refine rC [] rfl rfl rfl rfl JN fun L218 w219 h220 s221 => ?_
  replace s221 : Stp [5] _ _ _ _ := s221
  exact ⟨_, rfl, (QX h220 (x := 13) (show 13 < 18446744073709551616 from by decide))⟩
 ·refine rC [] rfl rfl rfl rfl JN fun L222 w223 h224 s225 => ?_
  replace s225 : Stp [5] _ _ _ _ := s225
  exact ⟨_, rfl, (QX h224 (x := 2) (show 2 < 18446744073709551616 from by decide))⟩
 ·refine rC [] rfl rfl rfl rfl JN fun L226 w227 h228 s229 => ?_
  replace s229 : Stp [5] _ _ _ _ := s229
  exact ⟨_, rfl, (QX h228 (x := 3) (show 3 < 18446744073709551616 from by decide))⟩
 ·refine rC [] rfl rfl rfl rfl JN fun L230 w231 h232 s233 => ?_
  replace s233 : Stp [5] _ _ _ _ := s233
  exact ⟨_, rfl, (QX h232 (x := 11) (show 11 < 18446744073709551616 from by decide))⟩
 ·refine rC [] rfl rfl rfl rfl JN fun L234 w235 h236 s237 => ?_
  replace s237 : Stp [5] _ _ _ _ := s237
  exact ⟨_, rfl, (QX h236 (x := 683) (show 683 < 18446744073709551616 from by decide))⟩
 ·refine rC [] rfl rfl rfl rfl JN fun L238 w239 h240 s241 => ?_
  replace s241 : Stp [5] _ _ _ _ := s241
  exact ⟨_, rfl, (QX h240 (x := 2971) (show 2971 < 18446744073709551616 from by decide))⟩
 ·refine rN [7, 8, 9, 10, 11] rfl rfl rfl rfl fun L242 w243 h244 s245 v246 q247 v251 q252 v256 q257 v261 q262 v266 q267 => ?_
  replace s245 : Stp [5] _ _ _ _ := s245
  obtain ⟨A248, c249, rfl⟩ := Qi.shape q247
  have z250 := Qi.cap q247
  obtain ⟨A253, c254, rfl⟩ := Qi.shape q252
  have z255 := Qi.cap q252
  obtain ⟨A258, c259, rfl⟩ := Qi.shape q257
  have z260 := Qi.cap q257
  obtain ⟨A263, c264, rfl⟩ := Qi.shape q262
  have z265 := Qi.cap q262
  obtain ⟨A268, c269, rfl⟩ := Qi.shape q267
  have z270 := Qi.cap q267
  refine Y0 [(0, .agg #[.slice A248 (nw 2) c249]), (1, .agg #[.slice A253 (nw 3) c254]), (2, .agg #[.slice A258 (nw 11) c259]), (3, .agg #[.slice A263 (nw 683) c264]), (4, .agg #[.slice A268 (nw 2971) c269])] [.slice A248 (nw 2) c249, .slice A253 (nw 3) c254, .slice A258 (nw 11) c259, .slice A263 (nw 683) c264, .slice A268 (nw 2971) c269] h244 Try.underlying38 Qn (by decide) (by decide) rfl (by kernel_rfl) fun b271 w272 r273 s274 => ?_
  exact Jd.mk 5 rfl (Nat.le_refl _) (by decide) r273 rfl (J9.get ⟨up s274 q247, up s274 q252, up s274 q257, up s274 q262, up s274 q267, trivial⟩)
 ·refine rP [5, 6, 12] rfl rfl rfl rfl fun L275 w276 h277 s278 v279 q280 v284 q285 => ?_
  replace s278 : Stp [5] _ _ _ _ := s278
  obtain ⟨A281, c282, rfl⟩ := Qi.shape q280
  have z283 := Qi.cap q280
  obtain ⟨A286, c287, rfl⟩ := Jd.shape q285
  have z288 := Jd.cap q285
  have c289 := s168.trans s278
  have c290 := s164.trans c289
  have c291 := s155.trans c290
  have c292 := s150.trans c291
  have c293 := s146.trans c292
  have q294 := up c293 q136
  exact ⟨_, Qa.build [(0, .agg #[.slice A139 (nw 1152921504606847009) c140]), (1, .agg #[.slice A281 (nw 13) c282]), (2, .slice A286 (List.length ([2, 3, 11, 683, 2971])) c287)] [(0, 1), (1, 1), (2, 1)] [.slice A139 (nw 1152921504606847009) c140, .slice A281 (nw 13) c282, .slice A286 (List.length ([2, 3, 11, 683, 2971])) c287] Try.underlying77 Qar (by kernel_rfl) rfl (by kernel_rfl), Z0.mk q294 q280 q285⟩
 ·refine rP [] rfl rfl rfl rfl fun L295 w296 h297 s298 => ?_
  replace s298 : Stp [5] _ _ _ _ := s298
  have o299 := o167.up s298
  exact ⟨_, Qb [.slice A157 (nw (4831838208 * 4294967296 + 595)) c158] o299 Qn rfl rfl, rfl⟩
 ·refine rC [] rfl rfl rfl rfl JN fun L300 w301 h302 s303 => ?_
  replace s303 : Stp [] _ _ _ _ := s303
  exact ⟨_, rfl, (QX h302 (x := 2) (show 2 < 18446744073709551616 from by decide))⟩
 ·refine rP [] rfl rfl rfl rfl fun L304 w305 h306 s307 => ?_
  replace s307 : Stp [5] _ _ _ _ := s307
  have c309 := s168.trans s307
  have c310 := s164.trans c309
  have c311 := s155.trans c310
  have o308 := o149.up c311
  exact ⟨_, Qb [.slice A139 (nw 1152921504606847009) c140] o308 Qn rfl rfl, rfl⟩
 ·refine rN [16] rfl rfl rfl rfl fun L312 w313 h314 s315 => ?_
  replace s315 : Stp [5] _ _ _ _ := s315
  have c320 := s168.trans s315
  have c321 := s164.trans c320
  have c322 := s155.trans c321
  have c323 := s150.trans c322
  have c324 := s146.trans c323
  have q325 := up c324 q136
  refine Y0 [(0, .agg #[.slice A139 (nw 1152921504606847009) c140])] [.slice A139 (nw 1152921504606847009) c140] h314 Try.underlying38 Qn (by decide) (by decide) rfl (by kernel_rfl) fun b316 w317 r318 s319 => ?_
  exact Jd.mk 1 rfl (Nat.le_refl _) (by decide) r318 rfl (J9.get ⟨up s319 q325, trivial⟩)
 ·refine rP [14, 15, 17] rfl rfl rfl rfl fun L326 w327 h328 s329 v330 q331 v335 q336 => ?_
  replace s329 : Stp [5] _ _ _ _ := s329
  obtain ⟨A332, c333, rfl⟩ := Qi.shape q331
  have z334 := Qi.cap q331
  obtain ⟨A337, c338, rfl⟩ := Jd.shape q336
  have z339 := Jd.cap q336
  have c340 := s168.trans s329
  have c341 := s164.trans c340
  have q342 := up c341 q154
  exact ⟨_, Qa.build [(0, .agg #[.slice A157 (nw (4831838208 * 4294967296 + 595)) c158]), (1, .agg #[.slice A332 (nw 2) c333]), (2, .slice A337 (List.length ([1152921504606847009])) c338)] [(0, 1), (1, 1), (2, 1)] [.slice A157 (nw (4831838208 * 4294967296 + 595)) c158, .slice A332 (nw 2) c333, .slice A337 (List.length ([1152921504606847009])) c338] Try.underlying77 Qar (by kernel_rfl) rfl (by kernel_rfl), Z0.mk q342 q331 q336⟩
 ·refine rN [13, 18] rfl rfl rfl rfl fun L343 w344 h345 s346 v347 q348 v361 q362 => ?_
  replace s346 : Stp [5] _ _ _ _ := s346
  obtain ⟨A349, c350, A352, c353, A355, c356, rfl, q351, q354, q357⟩ := Z0.open q348
  have z358 := Qi.cap q351
  have z359 := Qi.cap q354
  have z360 := Jd.cap q357
  obtain ⟨A363, c364, A366, c367, A369, c370, rfl, q365, q368, q371⟩ := Z0.open q362
  have z372 := Qi.cap q365
  have z373 := Qi.cap q368
  have z374 := Jd.cap q371
  refine Y0 [(0, .agg #[.slice A349 (nw ((⟨1152921504606847009, 13, [2, 3, 11, 683, 2971]⟩ : StepD).n)) c350, .slice A352 (nw ((⟨1152921504606847009, 13, [2, 3, 11, 683, 2971]⟩ : StepD).base)) c353, .slice A355 (List.length (⟨1152921504606847009, 13, [2, 3, 11, 683, 2971]⟩ : StepD).primes) c356]), (1, .agg #[.slice A363 (nw ((⟨4831838208 * 4294967296 + 595, 2, [1152921504606847009]⟩ : StepD).n)) c364, .slice A366 (nw ((⟨4831838208 * 4294967296 + 595, 2, [1152921504606847009]⟩ : StepD).base)) c367, .slice A369 (List.length (⟨4831838208 * 4294967296 + 595, 2, [1152921504606847009]⟩ : StepD).primes) c370])] [.slice A349 (nw ((⟨1152921504606847009, 13, [2, 3, 11, 683, 2971]⟩ : StepD).n)) c350, .slice A352 (nw ((⟨1152921504606847009, 13, [2, 3, 11, 683, 2971]⟩ : StepD).base)) c353, .slice A355 (List.length (⟨1152921504606847009, 13, [2, 3, 11, 683, 2971]⟩ : StepD).primes) c356, .slice A363 (nw ((⟨4831838208 * 4294967296 + 595, 2, [1152921504606847009]⟩ : StepD).n)) c364, .slice A366 (nw ((⟨4831838208 * 4294967296 + 595, 2, [1152921504606847009]⟩ : StepD).base)) c367, .slice A369 (List.length (⟨4831838208 * 4294967296 + 595, 2, [1152921504606847009]⟩ : StepD).primes) c370] h345 Try.underlying71 Qar (by decide) (by decide) rfl (by kernel_rfl) fun b375 w376 r377 s378 => ?_
  exact Jy.mk 2 rfl (Nat.le_refl _) (by decide) r377 ⟨Z0.mk (up s378 q351) (up s378 q354) (up s378 q357), Z0.mk (up s378 q365) (up s378 q368) (up s378 q371), trivial⟩
 ·refine rS [4] rfl rfl rfl fun L379 w380 h381 s382 v383 q384 => ?_
  replace s382 : Stp [] _ _ _ _ := s382
  obtain ⟨A385, c386, A388, c389, A391, c392, A394, c395, rfl, q387, q390, q393, q396⟩ := J3.open q384
  have z397 := Qi.cap q387
  have z398 := Qi.cap q390
  have z399 := Qi.cap q393
  have z400 := Qe.cap q396
  have c402 := s168.trans s382
  have c403 := s164.trans c402
  have c404 := s155.trans c403
  have c405 := s150.trans c404
  have c406 := s146.trans c405
  have c407 := s137.trans c406
  have o401 := o7.up c407
  refine Z2 (v := (.agg #[.slice A385 (nw ((⟨4831838208 * 4294967296 + 595, 1152921504606847009, 262144, seed⟩ : ParamsD).p)) c386, .slice A388 (nw ((⟨4831838208 * 4294967296 + 595, 1152921504606847009, 262144, seed⟩ : ParamsD).q)) c389, .slice A391 (nw ((⟨4831838208 * 4294967296 + 595, 1152921504606847009, 262144, seed⟩ : ParamsD).g)) c392, .slice A394 (List.length (⟨4831838208 * 4294967296 + 595, 1152921504606847009, 262144, seed⟩ : ParamsD).seed) c395])) [.slice A385 (nw ((⟨4831838208 * 4294967296 + 595, 1152921504606847009, 262144, seed⟩ : ParamsD).p)) c386, .slice A388 (nw ((⟨4831838208 * 4294967296 + 595, 1152921504606847009, 262144, seed⟩ : ParamsD).q)) c389, .slice A391 (nw ((⟨4831838208 * 4294967296 + 595, 1152921504606847009, 262144, seed⟩ : ParamsD).g)) c392, .slice A394 (List.length (⟨4831838208 * 4294967296 + 595, 1152921504606847009, 262144, seed⟩ : ParamsD).seed) c395] h381 o401 Qgj rfl rfl rfl (lB9 rfl) rfl rfl fun w408 s411 o412 => ?_
  exact ⟨(.agg #[.slice A385 (nw ((⟨4831838208 * 4294967296 + 595, 1152921504606847009, 262144, seed⟩ : ParamsD).p)) c386, .slice A388 (nw ((⟨4831838208 * 4294967296 + 595, 1152921504606847009, 262144, seed⟩ : ParamsD).q)) c389, .slice A391 (nw ((⟨4831838208 * 4294967296 + 595, 1152921504606847009, 262144, seed⟩ : ParamsD).g)) c392, .slice A394 (List.length (⟨4831838208 * 4294967296 + 595, 1152921504606847009, 262144, seed⟩ : ParamsD).seed) c395]), rfl, o412, (J3.mk (up s411 q387) (up s411 q390) (up s411 q393) (up s411 q396))⟩
 replace s416 : Stp [5] _ _ _ _ := s416
 obtain ⟨A419, c420, rfl⟩ := Jy.shape q418
 have z421 := Jy.cap q418
 obtain ⟨u425, rfl, o426, q427⟩ := q423
 obtain ⟨A428, c429, A431, c432, A434, c435, A437, c438, rfl, q430, q433, q436, q439⟩ := J3.open q427
 have z440 := Qi.cap q430
 have z441 := Qi.cap q433
 have z442 := Qi.cap q436
 have z443 := Qe.cap q439
 replace o426 : Own L413 w414 5 b6 86 #[.slice A428 (nw ((⟨(⟨4831838208 * 4294967296 + 595, 1152921504606847009, 262144, seed⟩ : ParamsD).p, (⟨4831838208 * 4294967296 + 595, 1152921504606847009, 262144, seed⟩ : ParamsD).q, (⟨4831838208 * 4294967296 + 595, 1152921504606847009, 262144, seed⟩ : ParamsD).g, (⟨4831838208 * 4294967296 + 595, 1152921504606847009, 262144, seed⟩ : ParamsD).seed⟩ : ParamsD).p)) c429, .slice A431 (nw ((⟨(⟨4831838208 * 4294967296 + 595, 1152921504606847009, 262144, seed⟩ : ParamsD).p, (⟨4831838208 * 4294967296 + 595, 1152921504606847009, 262144, seed⟩ : ParamsD).q, (⟨4831838208 * 4294967296 + 595, 1152921504606847009, 262144, seed⟩ : ParamsD).g, (⟨4831838208 * 4294967296 + 595, 1152921504606847009, 262144, seed⟩ : ParamsD).seed⟩ : ParamsD).q)) c432, .slice A434 (nw ((⟨(⟨4831838208 * 4294967296 + 595, 1152921504606847009, 262144, seed⟩ : ParamsD).p, (⟨4831838208 * 4294967296 + 595, 1152921504606847009, 262144, seed⟩ : ParamsD).q, (⟨4831838208 * 4294967296 + 595, 1152921504606847009, 262144, seed⟩ : ParamsD).g, (⟨4831838208 * 4294967296 + 595, 1152921504606847009, 262144, seed⟩ : ParamsD).seed⟩ : ParamsD).g)) c435, .slice A437 (List.length (⟨(⟨4831838208 * 4294967296 + 595, 1152921504606847009, 262144, seed⟩ : ParamsD).p, (⟨4831838208 * 4294967296 + 595, 1152921504606847009, 262144, seed⟩ : ParamsD).q, (⟨4831838208 * 4294967296 + 595, 1152921504606847009, 262144, seed⟩ : ParamsD).g, (⟨4831838208 * 4294967296 + 595, 1152921504606847009, 262144, seed⟩ : ParamsD).seed⟩ : ParamsD).seed) c438] := o426
 refine sv (Qa.assign rfl) ?_
 refine Seq.next ?_
 have c444 := s168.trans s416
 have c445 := s164.trans c444
 have c446 := s155.trans c445
 have c447 := s150.trans c446
 have c448 := s146.trans c447
 have c449 := s137.trans c448
 have c450 := s8.trans c449
 obtain ⟨⟨zU, zo⟩, zb⟩ := hX c450 (by decide)
 refine Run.ret ?_
 exact QP Try.results104 ⟨_, rfl, Q6 [.slice A428 (nw ((⟨(⟨4831838208 * 4294967296 + 595, 1152921504606847009, 262144, seed⟩ : ParamsD).p, (⟨4831838208 * 4294967296 + 595, 1152921504606847009, 262144, seed⟩ : ParamsD).q, (⟨4831838208 * 4294967296 + 595, 1152921504606847009, 262144, seed⟩ : ParamsD).g, (⟨4831838208 * 4294967296 + 595, 1152921504606847009, 262144, seed⟩ : ParamsD).seed⟩ : ParamsD).p)) c429, .slice A431 (nw ((⟨(⟨4831838208 * 4294967296 + 595, 1152921504606847009, 262144, seed⟩ : ParamsD).p, (⟨4831838208 * 4294967296 + 595, 1152921504606847009, 262144, seed⟩ : ParamsD).q, (⟨4831838208 * 4294967296 + 595, 1152921504606847009, 262144, seed⟩ : ParamsD).g, (⟨4831838208 * 4294967296 + 595, 1152921504606847009, 262144, seed⟩ : ParamsD).seed⟩ : ParamsD).q)) c432, .slice A434 (nw ((⟨(⟨4831838208 * 4294967296 + 595, 1152921504606847009, 262144, seed⟩ : ParamsD).p, (⟨4831838208 * 4294967296 + 595, 1152921504606847009, 262144, seed⟩ : ParamsD).q, (⟨4831838208 * 4294967296 + 595, 1152921504606847009, 262144, seed⟩ : ParamsD).g, (⟨4831838208 * 4294967296 + 595, 1152921504606847009, 262144, seed⟩ : ParamsD).seed⟩ : ParamsD).g)) c435, .slice A437 (List.length (⟨(⟨4831838208 * 4294967296 + 595, 1152921504606847009, 262144, seed⟩ : ParamsD).p, (⟨4831838208 * 4294967296 + 595, 1152921504606847009, 262144, seed⟩ : ParamsD).q, (⟨4831838208 * 4294967296 + 595, 1152921504606847009, 262144, seed⟩ : ParamsD).g, (⟨4831838208 * 4294967296 + 595, 1152921504606847009, 262144, seed⟩ : ParamsD).seed⟩ : ParamsD).seed) c438] o426 Qgj rfl⟩ rfl ⟨_, rfl, ⟨_, _, rfl, (Xq (show (⟨(⟨(⟨4831838208 * 4294967296 + 595, 1152921504606847009, 262144, seed⟩ : ParamsD).p, (⟨4831838208 * 4294967296 + 595, 1152921504606847009, 262144, seed⟩ : ParamsD).q, (⟨4831838208 * 4294967296 + 595, 1152921504606847009, 262144, seed⟩ : ParamsD).g, (⟨4831838208 * 4294967296 + 595, 1152921504606847009, 262144, seed⟩ : ParamsD).seed⟩ : ParamsD).p, (⟨(⟨4831838208 * 4294967296 + 595, 1152921504606847009, 262144, seed⟩ : ParamsD).p, (⟨4831838208 * 4294967296 + 595, 1152921504606847009, 262144, seed⟩ : ParamsD).q, (⟨4831838208 * 4294967296 + 595, 1152921504606847009, 262144, seed⟩ : ParamsD).g, (⟨4831838208 * 4294967296 + 595, 1152921504606847009, 262144, seed⟩ : ParamsD).seed⟩ : ParamsD).q, (⟨(⟨4831838208 * 4294967296 + 595, 1152921504606847009, 262144, seed⟩ : ParamsD).p, (⟨4831838208 * 4294967296 + 595, 1152921504606847009, 262144, seed⟩ : ParamsD).q, (⟨4831838208 * 4294967296 + 595, 1152921504606847009, 262144, seed⟩ : ParamsD).g, (⟨4831838208 * 4294967296 + 595, 1152921504606847009, 262144, seed⟩ : ParamsD).seed⟩ : ParamsD).g, (⟨(⟨4831838208 * 4294967296 + 595, 1152921504606847009, 262144, seed⟩ : ParamsD).p, (⟨4831838208 * 4294967296 + 595, 1152921504606847009, 262144, seed⟩ : ParamsD).q, (⟨4831838208 * 4294967296 + 595, 1152921504606847009, 262144, seed⟩ : ParamsD).g, (⟨4831838208 * 4294967296 + 595, 1152921504606847009, 262144, seed⟩ : ParamsD).seed⟩ : ParamsD).seed⟩ : ParamsD) = prm n seed from by (unfold prm; rw [if_neg (by unfold gno; omega), if_neg (by unfold gno; omega)]; rfl)) (J3.mk (up zo q430) (up zo q433) (up zo q436) (up zo q439))), (XH (by (unfold chn; rw [if_neg (by unfold gno; omega), if_neg (by unfold gno; omega)]; rfl)) (up zo q418))⟩, zb⟩
theorem QbJ {lab : Lab} {w : World} (hv : Ql lab w) {n : Int} {seed : List UInt8} {v1 : Value} (h1 : Qe seed lab w v1) (hs : List.length seed ≤ 1000000) :
  Calls Try.prog 31 #[i64 n, v1] w (fun e w' => ∃ v, e = .returned v ∧ (J6 ((KM (prm n seed) (chn n)).1)) lab w' v ∧ Below w.heap.size w w') := by
 obtain ⟨L0, h0L, ⟨zU0, z00⟩, hX⟩ := QZ hv
 replace h1 := up z00 h1
 obtain ⟨A1, c2, rfl⟩ := Qe.shape h1
 have z3 := Qe.cap h1
 refine Qu Try.func31 rfl Try.ntmps31 (lB9 rfl) ?_
 refine rsr ?_
 refine sv (Qa.assign rfl) ?_
 refine nsr ?_
 refine sv (Qa.move rfl) ?_
 refine sv (Qa.move rfl) ?_
 refine Q7 (V := Zo (J3 (prm n seed)) (Jy (chn n))) QkE h0L rfl (Qac h0L (n := n) h1) fun v4 w5 q6 s7 h8 => ?_
 obtain ⟨v9, v10, rfl, q11, q12⟩ := q6
 obtain ⟨A13, c14, A16, c17, A19, c20, A22, c23, rfl, q15, q18, q21, q24⟩ := J3.open q11
 have z25 := Qi.cap q15
 have z26 := Qi.cap q18
 have z27 := Qi.cap q21
 have z28 := Qe.cap q24
 obtain ⟨A29, c30, rfl⟩ := Jy.shape q12
 have z31 := Jy.cap q12
 refine sv (Qa.extract rfl rfl) ?_
 refine sv (Qa.extract rfl rfl) ?_
 have q32 : J3 (prm n seed) L0 w5 (.agg #[.slice A13 (nw ((prm n seed).p)) c14, .slice A16 (nw ((prm n seed).q)) c17, .slice A19 (nw ((prm n seed).g)) c20, .slice A22 (List.length (prm n seed).seed) c23]) := J3.mk q15 q18 q21 q24
 refine Q7 (V := Zo (J6 ((KM (prm n seed) (chn n)).1)) (Is (i64 ((KM (prm n seed) (chn n)).2)))) Ql0 h8 rfl (Qfu h8 q32 q12 (show nw (prm n seed).p ≤ 100000 ∧ nw (prm n seed).q ≤ 100000 ∧ nw (prm n seed).g ≤ 100000 ∧ List.length (prm n seed).seed ≤ 1000000 from by exact QjS n seed hs) (show ∀ i, i < List.length (chn n) → nw (List.getD (chn n) i QD).n ≤ 100000 ∧ nw (List.getD (chn n) i QD).base ≤ 100000 ∧ ∀ x ∈ (List.getD (chn n) i QD).primes, nw x ≤ 100000 from by exact Qko n) (show ∀ i, i < List.length (chn n) → List.length (List.getD (chn n) i QD).primes ≤ 100000 from by exact Qjc n)) fun v33 w34 q35 s36 h37 => ?_
 obtain ⟨v38, v39, rfl, q40, q41⟩ := q35
 have q41 := Is.out q41; subst q41
 refine sv (Qa.move rfl) ?_
 refine sv (Qa.extract rfl rfl) ?_
 refine sv (Qa.extract rfl rfl) ?_
 refine sv (Qa.assign rfl) ?_
 refine sv (Qa.assign rfl) ?_
 refine nsr ?_
 refine sv (Qa.move rfl) ?_
 refine sv (Qa.assign rfl) ?_
 refine Seq.next ?_
 have c42 := s7.trans s36
 obtain ⟨⟨zU, zo⟩, zb⟩ := hX c42 (by decide)
 refine Run.ret ?_
 exact Qm Try.results31 rfl ⟨_, rfl, (up zo q40), zb⟩
end Go.Proofs.Ytgfomedobfaidaa
end
section
set_option linter.unusedVariables false
set_option linter.unusedSimpArgs false
namespace Go.Proofs.Ytgfomedobfaidaa
open Go.RowKit
def Qh0 : Nat → Nat → Nat → Nat → Nat
 | 0, _, _, m => 1 % m
 | f + 1, a, e, m => if e = 0 then 1 % m else (fun h => if e % 2 = 0 then h * h % m else h * h % m * a % m) (Qh0 f a (e / 2) m)
theorem Qb2 (a m : Nat) : ∀ (f e : Nat), e < 2 ^ f → Qh0 f a e m = a ^ e % m
 | 0, e, h => by
  obtain rfl : e = 0 := by simp at h; exact h
  rw [Qh0, Nat.pow_zero]
 | f + 1, e, h => by
  have ih := Qb2 a m f (e / 2) (by rw [Nat.pow_succ] at h; omega)
  rw [Qh0]
  split
  ·rename_i h0; subst h0; rw [Nat.pow_zero]
  ·simp only [ih]
   have he := Nat.div_add_mod e 2
   split
   ·rename_i h2
    rw [QaN]
    congr 2; omega
   ·rename_i h2
    rw [QaN, Nat.mod_mul_mod, ← Nat.pow_succ]
    congr 2; omega
theorem Ql5 {a e m r : Nat} (h : Qh0 64 a e m = r) (he : e < 18446744073709551616) : a ^ e % m = r := by rw [← Qb2 a m 64 e he]; exact h
def Qlt : List UInt8 := [182, 19, 103, 154, 8, 20, 217, 236, 119, 47, 149, 215, 120, 195, 95, 197, 255, 22, 151, 196, 147, 113, 86, 83, 198, 199, 18, 20, 66, 146, 197, 173]
def QkU : List UInt8 := [22, 9, 94, 96, 137, 201, 132, 135, 12, 215, 97, 165, 119, 173, 84, 193, 49, 3, 10, 154, 12, 144, 69, 172, 149, 177, 224, 230, 13, 253, 121, 114]
theorem hm0 : VB [] [] = Qlt := by kernel_rfl
theorem hm1 : VB Qlt [104, 0, 1] = QkU := by kernel_rfl
theorem Qlq : Uq Qlt [104, 0] 1 = QkU := by
 rw [Uq, Uq, List.nil_append, Vc, Vc, List.nil_append, show ([104, 0] ++ [UInt8.ofNat (0 + 1)] : List UInt8) = [104, 0, 1] from by decide]
 exact hm1
theorem Qd6 {s : Nat} (h : s ≤ 24) : Ur [] s 0 = QkU.take (s + 8) := by
 unfold Ur QI ZH
 rw [hm0, show (s + 8 + 31) / 32 = 1 by omega]
 rw [show ([104, UInt8.ofNat 0] : List UInt8) = [104, 0] from by decide, Qlq]
def grp (n : Int) : GroupD := if gno n = 0 then ⟨607, 101, 64, 597⟩ else if gno n = 1 then ⟨655211, 65521, 1024, 96520⟩ else ⟨QdO, KP, 262144, 12833098634328171918⟩
theorem QiR {P Q s r : Nat} (hs : KN P = s) (h24 : s ≤ 24) (hr : nv (QkU.take (s + 8)) ^ ((P - 1) / Q) % P = r) : r = QgV P Q [] 0 := by
 unfold QgV; rw [hs, Qd6 h24, hr]
theorem Qjx {p q g h a : Nat} (h1 : a ≠ 0) (h2 : a < p) (h3 : Qh0 64 a q p = 1) (he : q < 18446744073709551616) : ZU ⟨p, q, g, h⟩ a := ⟨h1, h2, Ql5 h3 he⟩
theorem QiT {N B : Nat} {b ps : List Nat} {i : Nat} (h1 : ∀ j, j < i → ps.getD j 0 ≠ ps.getD i 0) (h2 : Yo b (ps.getD i 0)) (h3 : 2 ≤ ps.getD i 0) (h4 : (N - 1) % ps.getD i 0 = 0) (he : (N - 1) / ps.getD i 0 < 18446744073709551616) (h6 : Nat.gcd (Qbo N (Qh0 64 B ((N - 1) / ps.getD i 0) N) 1) N = 1) : KR N B b ps i :=
 ⟨h1, h2, h3, h4, by rw [Ql5 (a := B) (m := N) rfl he]; exact h6⟩
theorem Qfr {n base : Nat} {ps b : List Nat} (h1 : 2 ≤ n) (h2 : 1 ≤ ps.length) (h3 : ps.length ≤ 32) (he : n - 1 < 73786976294838206464) (h5 : ∀ i, i < ps.length → KR n base b ps i) (h6 : n < Zu n ps ps.length * Zu n ps ps.length) (h4' : Qh0 66 base (n - 1) n = 1) : Zs ⟨n, base, ps⟩ b :=
 ⟨h1, h2, h3, by rw [← Qb2 base n 66 (n - 1) (by omega)]; exact h4', h5, h6⟩
theorem Qfy {p q g H : Nat} {chain : List StepD} (hl : ¬ Ko ⟨p, q, g, []⟩) (h1 : Zg p chain) (h1' : Zg q chain) (h2 : YX ⟨p, q, g, []⟩) (h3 : ZU ⟨p, q, g, 0⟩ g) (hH : H = QgV p q [] 0) (h4 : 0 < Jo H 1) : KM ⟨p, q, g, []⟩ chain = (some ⟨p, q, g, H⟩, 0) :=
 Vw (d := ⟨p, q, g, []⟩) (c := 0) hl ⟨h1, h1'⟩ h2 h3 (by omega) (fun j hj => absurd hj (by omega)) hH h4
theorem QlH : KM ⟨607, 101, 64, []⟩ [] = (some ⟨607, 101, 64, 597⟩, 0) :=
 Qfy (by decide +kernel) (.inl (by decide +kernel)) (.inl (by decide +kernel)) (by decide +kernel) (Qjx (by decide +kernel) (by decide +kernel) (by kernel_rfl) (by decide +kernel)) (QiR (s := 2) (by kernel_rfl) (by decide +kernel) (by kernel_rfl)) (by decide +kernel)
theorem Qkq : ZM [⟨655211, 2, [65521]⟩] = 0 := by
 unfold ZM
 rw [if_neg (by decide +kernel), if_pos]
 intro i hi
 obtain rfl : i = 0 := by simp at hi; omega
 refine Qfr (n := 655211) (base := 2) (ps := [65521]) (b := []) (by decide +kernel) (by decide +kernel) (by decide +kernel) (by decide +kernel) (fun i hi => ?_) (by decide +kernel) (by kernel_rfl)
 obtain rfl : i = 0 := by simp at hi; omega
 exact QiT (N := 655211) (B := 2) (b := []) (ps := [65521]) (fun j hj => absurd hj (by omega)) (.inr (by decide +kernel)) (by decide +kernel) (by decide +kernel) (by decide +kernel) (by kernel_rfl)
theorem QlG : KM ⟨655211, 65521, 1024, []⟩ [⟨655211, 2, [65521]⟩] = (some ⟨655211, 65521, 1024, 96520⟩, 0) :=
 Qfy (by decide +kernel) (.inr ⟨Qkq, by decide +kernel⟩) (.inl (by decide +kernel)) (by decide +kernel) (Qjx (by decide +kernel) (by decide +kernel) (by kernel_rfl) (by decide +kernel)) (QiR (s := 3) (by kernel_rfl) (by decide +kernel) (by kernel_rfl)) (by decide +kernel)
theorem Qlr : Zs ⟨KP, 13, [2, 3, 11, 683, 2971]⟩ [] := by
 refine Qfr (n := KP) (base := 13) (ps := [2, 3, 11, 683, 2971]) (b := []) (by decide +kernel) (by decide +kernel) (by decide +kernel) (by decide +kernel) (fun i hi => ?_) (by decide +kernel) (by kernel_rfl)
 have : i = 0 ∨ i = 1 ∨ i = 2 ∨ i = 3 ∨ i = 4 := by simp at hi; omega
 rcases this with rfl | rfl | rfl | rfl | rfl <;>
  exact QiT (N := KP) (B := 13) (b := []) (ps := [2, 3, 11, 683, 2971]) (by decide +kernel) (.inr (by decide +kernel)) (by decide +kernel) (by decide +kernel) (by decide +kernel) (by kernel_rfl)
theorem Qkf : Zs ⟨QdO, 2, [KP]⟩ [KP] := by
 refine Qfr (n := QdO) (base := 2) (ps := [KP]) (b := [KP]) (by decide +kernel) (by decide +kernel) (by decide +kernel) (by decide +kernel) (fun i hi => ?_) (by decide +kernel) (by kernel_rfl)
 obtain rfl : i = 0 := by simp at hi; omega
 exact QiT (N := QdO) (B := 2) (b := [KP]) (ps := [KP]) (fun j hj => absurd hj (by omega)) (.inl (by decide +kernel)) (by decide +kernel) (by decide +kernel) (by decide +kernel) (by kernel_rfl)
theorem Qh9 : ZM [⟨KP, 13, [2, 3, 11, 683, 2971]⟩, ⟨QdO, 2, [KP]⟩] = 0 := by
 unfold ZM
 rw [if_neg (by decide +kernel), if_pos]
 intro i hi
 have : i = 0 ∨ i = 1 := by simp at hi; omega
 rcases this with rfl | rfl
 ·exact Qlr
 ·exact Qkf
theorem QlF : KM ⟨QdO, KP, 262144, []⟩ [⟨KP, 13, [2, 3, 11, 683, 2971]⟩, ⟨QdO, 2, [KP]⟩] = (some ⟨QdO, KP, 262144, 12833098634328171918⟩, 0) :=
 Qfy (by decide +kernel) (.inr ⟨Qh9, by decide +kernel⟩) (.inr ⟨Qh9, by decide +kernel⟩) (by decide +kernel) (Qjx (by decide +kernel) (by decide +kernel) (by kernel_rfl) (by decide +kernel)) (QiR (s := 9) (by kernel_rfl) (by decide +kernel) (by kernel_rfl)) (by decide +kernel)
theorem QgE (n : Int) : KM (prm n []) (chn n) = (some (grp n), 0) := by
 unfold prm chn grp
 by_cases h0 : gno n = 0
 ·rw [if_pos h0, if_pos h0, if_pos h0]; exact QlH
 ·rw [if_neg h0, if_neg h0, if_neg h0]
  by_cases h1 : gno n = 1
  ·rw [if_pos h1, if_pos h1, if_pos h1]; exact QlG
  ·rw [if_neg h1, if_neg h1, if_neg h1]; exact QlF
theorem Qfs {p : GroupD → Prop} (h0 : p ⟨607, 101, 64, 597⟩) (h1 : p ⟨655211, 65521, 1024, 96520⟩) (h2 : p ⟨QdO, KP, 262144, 12833098634328171918⟩) (n : Int) : p (grp n) := by
 unfold grp
 split
 ·exact h0
 ·split
  ·exact h1
  ·exact h2
theorem nw3 {x : Nat} (h : x < 4294967296 ^ 3) : nw x ≤ 32 := Nat.le_trans (Xi h) (by omega)
theorem Vv (n : Int) : okG (grp n) := Qfs (p := okG) (Qc0 (by decide) (by decide) (nw3 (by decide)) (nw3 (by decide)) (nw3 (by decide)) (nw3 (by decide))) (Qc0 (by decide) (by decide) (nw3 (by decide)) (nw3 (by decide)) (nw3 (by decide)) (nw3 (by decide))) (Qc0 (by decide) (by decide) (nw3 (by decide)) (nw3 (by decide)) (nw3 (by decide)) (nw3 (by decide))) n
theorem QiE (n : Int) : ZU (grp n) (grp n).g := Qfs (p := fun G => ZU G G.g) (Qjx (by decide +kernel) (by decide +kernel) (by kernel_rfl) (by decide +kernel)) (Qjx (by decide +kernel) (by decide +kernel) (by kernel_rfl) (by decide +kernel)) (Qjx (by decide +kernel) (by decide +kernel) (by kernel_rfl) (by decide +kernel)) n
end Go.Proofs.Ytgfomedobfaidaa
end
section
set_option linter.unusedVariables false
set_option linter.unusedSimpArgs false
namespace Go.Proofs.Ytgfomedobfaidaa
open Go.RowKit
theorem VA {lab : Lab} {w : World} (hv : Ql lab w) {n : Int} :
  Calls Try.prog 31 #[i64 n, .slice none 0 0] w (fun e w' => ∃ v, e = .returned v ∧ (Js (grp n)) lab w' v ∧ Below w.heap.size w w') := by
 have h := QbJ hv (n := n) (Qe.nil lab w) (by simp)
 rw [QgE] at h
 exact h

end Go.Proofs.Ytgfomedobfaidaa
end
