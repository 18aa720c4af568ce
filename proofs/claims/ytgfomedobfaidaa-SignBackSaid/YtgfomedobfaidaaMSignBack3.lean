import Derived.Test.YtgfomedobfaidaaMSignBack2
import Derived.LoopIn
import Derived.LoopNIn
import Derived.OwnWalkIn
import Derived.RangeFuncBox
import Derived.RangeFuncLeaves
import Derived.Shelf.Abstract
import Derived.TacticsInMore
import Derived.WalkKit
set_option maxHeartbeats 8000000
set_option maxRecDepth 1000000
/-
  The row of SignBack: that the law answers true of every input; part 3 of 10: what the proof needs, in order.
-/
section
set_option linter.unusedVariables false
set_option linter.unusedSimpArgs false
namespace Go.Proofs.Ytgfomedobfaidaa
open Go.RowKit
theorem UX {lab : Lab} {w : World} (hv : Ql lab w) {a : Nat} {v0 : Value} (h0 : Qi a lab w v0) {b : Nat} {v1 : Value} (h1 : Qi b lab w v1) (ha : nw a ≤ 1000000) (hb : nw b ≤ 1000000) :
  Calls Try.prog 117 #[v0, v1] w (fun e w' => ∃ v, e = .returned v ∧ (Qi (a + b)) lab w' v ∧ Below w.heap.size w w') := by
 obtain ⟨L0, h0L, ⟨zU0, z00⟩, hX⟩ := QZ hv
 replace h0 := up z00 h0
 obtain ⟨A1, c2, rfl⟩ := Qi.shape h0
 have z3 := Qi.cap h0
 replace h1 := up z00 h1
 obtain ⟨A4, c5, rfl⟩ := Qi.shape h1
 have z6 := Qi.cap h1
 have hLa : (Qj a).length = nw a := rfl
 have hLb : (Qj b).length = nw b := rfl
 refine Qu Try.func117 rfl Try.ntmps117 (lB9 rfl) ?_
 refine rsr ?_
 refine Yz 3 [.slice A1 (nw a) c2] h0L rfl rfl fun b9 L7 w8 o10 s11 h12 => ?_
 refine Yz 4 [.slice A4 (nw b) c5] h12 rfl rfl fun b15 L13 w14 o16 s17 h18 => ?_
 refine QM 5 [.slice none 0 0] h18 Qn rfl fun b21 L19 w20 o22 s23 h24 => ?_
 refine Seq.next ?_
 refine Run.seq ?_
 refine rsr ?_
 refine sv (Qd 0 Try.underlying60 rfl Zf rfl rfl) ?_
 have c26 := s17.trans s23
 have o25 := o10.up c26
 have c28 := s11.trans c26
 have q29 := up c28 h0
 have q27 := QA q29
 refine sv (Qf o25 Zf rfl rfl) ?_
 refine sv (Qa.len Try.underlying58 rfl) ?_
 refine sv (Qd 0 Try.underlying60 rfl Zf rfl rfl) ?_
 have o30 := o16.up s23
 have q32 := up c28 h1
 have q31 := QA q32
 refine sv (Qf o30 Zf rfl rfl) ?_
 refine sv (Qa.len Try.underlying58 rfl) ?_
 refine sv (Qa.lss rfl rfl) ?_
 refine Seq.next ?_
 rcases Decidable.em ((((nw a : Nat) : Int) : Int) < (((nw b : Nat) : Int) : Int)) with hp1 | hp1
 rotate_left
 ·refine Qc rfl (dF9 hp1) ?_
  refine Qg (fun _ _ h => h) ?_
  refine rsr ?_
  refine sv (Qd 0 Try.underlying60 rfl Zf rfl rfl) ?_
  have q165 := QA q29
  refine sv (Qf o25 Zf rfl rfl) ?_
  refine sv (Qa.len Try.underlying58 rfl) ?_
  refine sv (Qa.add rfl rfl (by omega)) ?_
  refine VH (k := 23) ((((nw a : Nat) : Int) + 1).toNat) h24 Try.underlying58 Qx rfl rfl rfl (by omega) (by omega) (by omega) (by omega) (by decide) ?_
  intro lab166 w167 b168 o169 s170 hv171
  obtain ⟨A172, c173, rfl⟩ := App.shape o169
  have z175 := (App.row o169).2
  refine sv (Qa.assign rfl) ?_
  refine nsr ?_
  refine sv (Qa.assign rfl) ?_
  refine Seq.next ?_
  refine Run.seq ?_
  refine rsr ?_
  refine sv (Qd 0 Try.underlying60 rfl Zf rfl rfl) ?_
  have o176 := o25.up s170
  have q178 := up s170 q29
  have q177 := QA q178
  refine sv (Qf o176 Zf rfl rfl) ?_
  refine sv (Qa.len Try.underlying58 rfl) ?_
  refine sv (Qa.move rfl) ?_
  refine Seq.next ?_
  refine Run.block ?_
  refine Run.loop (fun m' l' w' => ∃ (k : Nat) (lab' : Lab) (ux23 : Value), m' = nw a - k ∧ l' = [(26, i64 ((k : Nat) : Int)), (6, n64 (cA a b k)), (5, ux23), (3, .pointer (some ⟨b15, 0, none⟩)), (4, .pointer (some ⟨b21, 0, none⟩)), (24, .slice A1 (nw a) c2), (25, i64 ((nw a : Nat) : Int))] ∧ Ql lab' w' ∧ Stp [23] lab166 w167 lab' w' ∧ App lab' w' 23 167 ux23 k (List.map u32 (wsN (a + b) k)) ∧ (k ≤ nw a)) (nw a - 0) (l0 := [(26, i64 ((0 : Nat) : Int)), (6, n64 (cA a b 0)), (5, .slice A172 (0) c173), (3, .pointer (some ⟨b15, 0, none⟩)), (4, .pointer (some ⟨b21, 0, none⟩)), (24, .slice A1 (nw a) c2), (25, i64 ((nw a : Nat) : Int))]) ⟨(congrArg (fun z => some (i64 z)) (show (0 : Int) = ((0 : Nat) : Int) from by rfl)), (congrArg (fun z => some (n64 z)) (show (0 : Nat) = cA a b 0 from by exact (K1 _ _).symm)), rfl, rfl, rfl, rfl, rfl, trivial⟩ ⟨0, lab166, (.slice A172 (0) c173), rfl, rfl, hv171, ((Stp.refl _ _).more (by simp)), (Yn (show [] = wsN (a + b) 0 from by rfl) (show 0 = 0 from by rfl) o169), (by omega)⟩ ?_
  intro m179 l180 w181 H182
  obtain ⟨k_186, lab183, v187, hzm, rfl, hv184, s185, o188, hk⟩ := H182
  replace hzm := hzm.symm; subst hzm
  obtain ⟨A189, c190, rfl⟩ := App.shape o188
  have m191 : List.length (wsN (a + b) k_186) = k_186 := QY o188
  have z192 := (App.row o188).2
  have hc := QfO a b k_186
  refine rsr ?_
  refine sv (Qa.lss rfl rfl) ?_
  refine Seq.next ?_
  refine Run.seq ?_
  rcases Decidable.em ((((k_186 : Nat) : Int) : Int) < (((nw a : Nat) : Int) : Int)) with hp2 | hp2
  rotate_left
  ·refine Qc rfl (dF9 hp2) ?_
   refine Qv (fun _ _ h => h) ?_
   refine rsr ?_
   refine sv (Qa.move rfl) ?_
   refine sv (Qa.move rfl) ?_
   refine sv (QF Try.underlying62 Try.underlying167 rfl) ?_
   refine QR [(0, u32 (UInt32.ofNat (cA a b k_186)))] (List.map u32 [UInt32.ofNat (cA a b k_186)]) hv184 Try.underlying58 Qx (by decide) (by decide) rfl (by kernel_rfl) (by decide) ?_
   intro w243 b244 r245 s246 hv247
   have q248 : Qo [UInt32.ofNat (cA a b k_186)] lab183 w243 (.slice (some ⟨b244, 0, none⟩) 1 1) := ⟨_, _, rfl, Nat.le_refl _, lB9 rfl, r245⟩
   have o249 := o188.up s246
   refine Seq.append (k := 23) (List.map u32 ([UInt32.ofNat (cA a b k_186)])) hv247 o249 Try.underlying58 Qx rfl rfl rfl (by simp) (Qo.row q248) ZS (by omega) (by omega) (by decide) ?_
   intro lab250 w251 v252 o253 s254 hv255
   rw [← List.map_append] at o253
   obtain ⟨A256, c257, rfl⟩ := App.shape o253
   have m258 : List.length (wsN (a + b) k_186 ++ ([UInt32.ofNat (cA a b k_186)])) = k_186 + 1 := QY o253
   have z259 := (App.row o253).2
   have hv260 := Ql.release hv255 23
   have m262 : List.length (wsN (a + b) k_186 ++ ([UInt32.ofNat (cA a b k_186)])) = k_186 + 1 := QY o253
   have q261 : Qo (wsN (a + b) k_186 ++ ([UInt32.ofNat (cA a b k_186)])) (Q5 lab250 23) w251 (.slice A256 (k_186 + 1) c257) := ⟨_, _, (by rw [m262]), (by have h9 := (App.row o253).2.1; (rw [m262]; exact h9)), (App.row o253).2.2, (App.row o253).1⟩
   refine Q7 (V := Qi (wv (wsN (a + b) k_186 ++ ([UInt32.ofNat (cA a b k_186)])))) Vf hv260 rfl (Yt hv260 q261) fun v263 w264 q265 s266 h267 => ?_
   obtain ⟨A268, c269, rfl⟩ := Qi.shape q265
   have z270 := Qi.cap q265
   have c272 := (Stp.release (lab := lab250) (w := w251) 23).trans s266
   have c273 := s254.trans c272
   have c274 := s246.trans c273
   have c275 := s185.trans c274
   have c276 := s170.trans c275
   have o271 := o22.up c276
   refine Q2 [.slice A268 (nw (wv (wsN (a + b) k_186 ++ ([UInt32.ofNat (cA a b k_186)])))) c269] h267 o271 Qn rfl rfl rfl (lB9 rfl) rfl rfl fun w277 o278 s279 h280 => ?_
   refine Seq.next ?_
   have c281 := c276.trans s279
   have c282 := c28.trans c281
   obtain ⟨⟨zU, zo⟩, zb⟩ := hX c282 (by decide)
   have q283 := up s279 q265
   refine Run.ret ?_
   exact Qm Try.results117 ⟨_, rfl, Q6 [.slice A268 (nw (wv (wsN (a + b) k_186 ++ ([UInt32.ofNat (cA a b k_186)])))) c269] o278 Qn rfl⟩ ⟨_, rfl, (Q1 (by rw [QfZ (by omega) (by omega)]) (up zo q283)), zb⟩
  refine Qc rfl (dT9 hp2) ?_
  refine Qg (fun _ _ h => h) ?_
  refine Run.seq ?_
  refine Run.block ?_
  refine rsr ?_
  refine sv (Qa.move rfl) ?_
  have q193 := up s185 q177
  refine sv (Qs k_186 Try.underlying58 Qx rfl rfl (Qo.row q193) (by simp [nw]) (by omega) (by omega)) ?_
  have t194 := UInt32.toNat_lt (List.getD (Qj a) k_186 (0 : UInt32))
  refine sv (Qy Qx rfl (Qo.row q193) (Jp u32 _ (0 : UInt32) (by omega))) ?_
  refine sv (Qa.assign rfl) ?_
  refine sv (Qa.assign rfl) ?_
  refine nsr ?_
  refine sv (Qa.move rfl) ?_
  refine sv (Qa.move rfl) ?_
  refine sv (QB Try.underlying167 Try.underlying62 rfl) ?_
  refine sv (Jn rfl rfl (by omega)) ?_
  refine sv (Qa.assign rfl) ?_
  refine Seq.next ?_
  refine Run.seq ?_
  refine rsr ?_
  refine sv (Qa.move rfl) ?_
  refine sv (Qd 0 Try.underlying60 rfl Zf rfl rfl) ?_
  have c196 := s170.trans s185
  have o195 := o30.up c196
  have q198 := up c196 q32
  have q197 := QA q198
  refine sv (Qf o195 Zf rfl rfl) ?_
  refine sv (Qa.len Try.underlying58 rfl) ?_
  refine sv (Qa.lss rfl rfl) ?_
  refine Seq.next ?_
  rcases Decidable.em ((((k_186 : Nat) : Int) : Int) < (((nw b : Nat) : Int) : Int)) with hp3 | hp3
  rotate_left
  ·refine Qc rfl (dF9 hp3) ?_
   refine Qg (fun _ _ h => h) ?_
   refine rsr ?_
   refine sv (Qa.move rfl) ?_
   refine sv (Qa.move rfl) ?_
   refine sv (QF Try.underlying62 Try.underlying167 rfl) ?_
   refine QR [(0, u32 (UInt32.ofNat ((cA a b k_186) + ((List.getD (Qj a) k_186 (0 : UInt32)).toNat))))] (List.map u32 [UInt32.ofNat ((cA a b k_186) + ((List.getD (Qj a) k_186 (0 : UInt32)).toNat))]) hv184 Try.underlying58 Qx (by decide) (by decide) rfl (by kernel_rfl) (by decide) ?_
   intro w222 b223 r224 s225 hv226
   have q227 : Qo [UInt32.ofNat ((cA a b k_186) + ((List.getD (Qj a) k_186 (0 : UInt32)).toNat))] lab183 w222 (.slice (some ⟨b223, 0, none⟩) 1 1) := ⟨_, _, rfl, Nat.le_refl _, lB9 rfl, r224⟩
   have o228 := o188.up s225
   refine Seq.append (k := 23) (List.map u32 ([UInt32.ofNat ((cA a b k_186) + ((List.getD (Qj a) k_186 (0 : UInt32)).toNat))])) hv226 o228 Try.underlying58 Qx rfl rfl rfl (by simp) (Qo.row q227) ZS (by omega) (by omega) (by decide) ?_
   intro lab229 w230 v231 o232 s233 hv234
   rw [← List.map_append] at o232
   obtain ⟨A235, c236, rfl⟩ := App.shape o232
   have m237 : List.length (wsN (a + b) k_186 ++ ([UInt32.ofNat ((cA a b k_186) + ((List.getD (Qj a) k_186 (0 : UInt32)).toNat))])) = k_186 + 1 := QY o232
   have z238 := (App.row o232).2
   refine sv (Qa.assign rfl) ?_
   refine Seq.next ?_
   refine Run.region ?_
   refine sv (Qa.move rfl) ?_
   refine sv (Jr rfl rfl) ?_
   refine sv (Qa.assign rfl) ?_
   refine QH (fun _ _ h => h) ?_
   refine Run.region ?_
   refine sv (Qa.add rfl rfl (by omega)) ?_
   refine sv (Qa.move rfl) ?_
   have c239 := s225.trans s233
   have c240 := s185.trans c239
   exact Seq.nil (fun a241 h242 => ⟨_, by omega, _, h242.weaken (QG (l' := [(26, i64 (((k_186 + 1) : Nat) : Int)), (6, n64 (cA a b (k_186 + 1))), (5, .slice A235 (k_186 + 1) c236), (3, .pointer (some ⟨b15, 0, none⟩)), (4, .pointer (some ⟨b21, 0, none⟩)), (24, .slice A1 (nw a) c2), (25, i64 ((nw a : Nat) : Int))]) ⟨(congrArg (fun z => some (i64 z)) (show (((k_186 : Nat) : Int) + 1 : Int) = (((k_186 + 1) : Nat) : Int) from by rfl)), (congrArg (fun z => some (n64 z)) (show (((cA a b k_186) + ((List.getD (Qj a) k_186 (0 : UInt32)).toNat)) / 4294967296 : Nat) = cA a b (k_186 + 1) from by exact Vi (by rw [ZL (b := b) (by omega)]; rfl))), rfl, rfl, rfl, rfl, rfl, trivial⟩), ⟨k_186 + 1, lab229, (.slice A235 (k_186 + 1) c236), rfl, rfl, hv234, (c240.more (by decide)), (Yn (show wsN (a + b) k_186 ++ ([UInt32.ofNat ((cA a b k_186) + ((List.getD (Qj a) k_186 (0 : UInt32)).toNat))]) = wsN (a + b) (k_186 + 1) from by exact Vh (by rw [ZL (b := b) (by omega)]; rfl)) (show k_186 + 1 = (k_186 + 1) from by rfl) o232), (by omega)⟩⟩)
  refine Qc rfl (dT9 hp3) ?_
  refine Run.region ?_
  refine sv (Qa.move rfl) ?_
  refine sv (Qd 0 Try.underlying60 rfl Zf rfl rfl) ?_
  have q199 := QA q198
  refine sv (Qf o195 Zf rfl rfl) ?_
  refine sv (Qa.move rfl) ?_
  refine sv (Qs k_186 Try.underlying58 Qx rfl rfl (Qo.row q199) (by simp [nw]) (by omega) (by omega)) ?_
  have t200 := UInt32.toNat_lt (List.getD (Qj b) k_186 (0 : UInt32))
  refine sv (Qy Qx rfl (Qo.row q199) (Jp u32 _ (0 : UInt32) (by omega))) ?_
  refine sv (QB Try.underlying167 Try.underlying62 rfl) ?_
  refine sv (Jn rfl rfl (by omega)) ?_
  refine sv (Qa.assign rfl) ?_
  refine nsr ?_
  refine sv (Qa.move rfl) ?_
  refine sv (Qa.move rfl) ?_
  refine sv (QF Try.underlying62 Try.underlying167 rfl) ?_
  refine QR [(0, u32 (UInt32.ofNat (((cA a b k_186) + ((List.getD (Qj a) k_186 (0 : UInt32)).toNat)) + ((List.getD (Qj b) k_186 (0 : UInt32)).toNat))))] (List.map u32 [UInt32.ofNat (((cA a b k_186) + ((List.getD (Qj a) k_186 (0 : UInt32)).toNat)) + ((List.getD (Qj b) k_186 (0 : UInt32)).toNat))]) hv184 Try.underlying58 Qx (by decide) (by decide) rfl (by kernel_rfl) (by decide) ?_
  intro w201 b202 r203 s204 hv205
  have q206 : Qo [UInt32.ofNat (((cA a b k_186) + ((List.getD (Qj a) k_186 (0 : UInt32)).toNat)) + ((List.getD (Qj b) k_186 (0 : UInt32)).toNat))] lab183 w201 (.slice (some ⟨b202, 0, none⟩) 1 1) := ⟨_, _, rfl, Nat.le_refl _, lB9 rfl, r203⟩
  have o207 := o188.up s204
  refine Seq.append (k := 23) (List.map u32 ([UInt32.ofNat (((cA a b k_186) + ((List.getD (Qj a) k_186 (0 : UInt32)).toNat)) + ((List.getD (Qj b) k_186 (0 : UInt32)).toNat))])) hv205 o207 Try.underlying58 Qx rfl rfl rfl (by simp) (Qo.row q206) ZS (by omega) (by omega) (by decide) ?_
  intro lab208 w209 v210 o211 s212 hv213
  rw [← List.map_append] at o211
  obtain ⟨A214, c215, rfl⟩ := App.shape o211
  have m216 : List.length (wsN (a + b) k_186 ++ ([UInt32.ofNat (((cA a b k_186) + ((List.getD (Qj a) k_186 (0 : UInt32)).toNat)) + ((List.getD (Qj b) k_186 (0 : UInt32)).toNat))])) = k_186 + 1 := QY o211
  have z217 := (App.row o211).2
  refine sv (Qa.assign rfl) ?_
  refine Seq.next ?_
  refine Run.region ?_
  refine sv (Qa.move rfl) ?_
  refine sv (Jr rfl rfl) ?_
  refine sv (Qa.assign rfl) ?_
  refine QH (fun _ _ h => h) ?_
  refine Run.region ?_
  refine sv (Qa.add rfl rfl (by omega)) ?_
  refine sv (Qa.move rfl) ?_
  have c218 := s204.trans s212
  have c219 := s185.trans c218
  exact Seq.nil (fun a220 h221 => ⟨_, by omega, _, h221.weaken (QG (l' := [(26, i64 (((k_186 + 1) : Nat) : Int)), (6, n64 (cA a b (k_186 + 1))), (5, .slice A214 (k_186 + 1) c215), (3, .pointer (some ⟨b15, 0, none⟩)), (4, .pointer (some ⟨b21, 0, none⟩)), (24, .slice A1 (nw a) c2), (25, i64 ((nw a : Nat) : Int))]) ⟨(congrArg (fun z => some (i64 z)) (show (((k_186 : Nat) : Int) + 1 : Int) = (((k_186 + 1) : Nat) : Int) from by rfl)), (congrArg (fun z => some (n64 z)) (show ((((cA a b k_186) + ((List.getD (Qj a) k_186 (0 : UInt32)).toNat)) + ((List.getD (Qj b) k_186 (0 : UInt32)).toNat)) / 4294967296 : Nat) = cA a b (k_186 + 1) from by exact Vi rfl)), rfl, rfl, rfl, rfl, rfl, trivial⟩), ⟨k_186 + 1, lab208, (.slice A214 (k_186 + 1) c215), rfl, rfl, hv213, (c219.more (by decide)), (Yn (show wsN (a + b) k_186 ++ ([UInt32.ofNat (((cA a b k_186) + ((List.getD (Qj a) k_186 (0 : UInt32)).toNat)) + ((List.getD (Qj b) k_186 (0 : UInt32)).toNat))]) = wsN (a + b) (k_186 + 1) from by exact Vh rfl) (show k_186 + 1 = (k_186 + 1) from by rfl) o211), (by omega)⟩⟩)
 refine Qc rfl (dT9 hp1) ?_
 refine Run.region ?_
 refine sv (Qb [.slice A4 (nw b) c5] o30 Qn rfl rfl) ?_
 refine sv (Qb [.slice A1 (nw a) c2] o25 Qn rfl rfl) ?_
 refine Q2 [.slice A4 (nw b) c5] h24 o25 Qn rfl rfl rfl (lB9 rfl) rfl rfl fun w33 o34 s35 h36 => ?_
 have o37 := o30.up s35
 refine Q2 [.slice A1 (nw a) c2] h36 o37 Qn rfl rfl rfl (lB9 rfl) rfl rfl fun w38 o39 s40 h41 => ?_
 refine nsr ?_
 refine sv (Qd 0 Try.underlying60 rfl Zf rfl rfl) ?_
 have o42 := o34.up s40
 have c44 := s35.trans s40
 have q45 := up c44 q32
 have q43 := QA q45
 refine sv (Qf o42 Zf rfl rfl) ?_
 refine sv (Qa.len Try.underlying58 rfl) ?_
 refine sv (Qa.add rfl rfl (by omega)) ?_
 refine VH (k := 23) ((((nw b : Nat) : Int) + 1).toNat) h41 Try.underlying58 Qx rfl rfl rfl (by omega) (by omega) (by omega) (by omega) (by decide) ?_
 intro lab46 w47 b48 o49 s50 hv51
 obtain ⟨A52, c53, rfl⟩ := App.shape o49
 have z55 := (App.row o49).2
 refine sv (Qa.assign rfl) ?_
 refine nsr ?_
 refine sv (Qa.assign rfl) ?_
 refine Seq.next ?_
 refine Run.seq ?_
 refine rsr ?_
 refine sv (Qd 0 Try.underlying60 rfl Zf rfl rfl) ?_
 have o56 := o42.up s50
 have q58 := up s50 q45
 have q57 := QA q58
 refine sv (Qf o56 Zf rfl rfl) ?_
 refine sv (Qa.len Try.underlying58 rfl) ?_
 refine sv (Qa.move rfl) ?_
 refine Seq.next ?_
 refine Run.block ?_
 refine Run.loop (fun m' l' w' => ∃ (k : Nat) (lab' : Lab) (ux23 : Value), m' = nw b - k ∧ l' = [(26, i64 ((k : Nat) : Int)), (6, n64 (cA b a k)), (5, ux23), (3, .pointer (some ⟨b15, 0, none⟩)), (4, .pointer (some ⟨b21, 0, none⟩)), (24, .slice A4 (nw b) c5), (25, i64 ((nw b : Nat) : Int))] ∧ Ql lab' w' ∧ Stp [23] lab46 w47 lab' w' ∧ App lab' w' 23 167 ux23 k (List.map u32 (wsN (b + a) k)) ∧ (k ≤ nw b)) (nw b - 0) (l0 := [(26, i64 ((0 : Nat) : Int)), (6, n64 (cA b a 0)), (5, .slice A52 (0) c53), (3, .pointer (some ⟨b15, 0, none⟩)), (4, .pointer (some ⟨b21, 0, none⟩)), (24, .slice A4 (nw b) c5), (25, i64 ((nw b : Nat) : Int))]) ⟨(congrArg (fun z => some (i64 z)) (show (0 : Int) = ((0 : Nat) : Int) from by rfl)), (congrArg (fun z => some (n64 z)) (show (0 : Nat) = cA b a 0 from by exact (K1 _ _).symm)), rfl, rfl, rfl, rfl, rfl, trivial⟩ ⟨0, lab46, (.slice A52 (0) c53), rfl, rfl, hv51, ((Stp.refl _ _).more (by simp)), (Yn (show [] = wsN (b + a) 0 from by rfl) (show 0 = 0 from by rfl) o49), (by omega)⟩ ?_
 intro m59 l60 w61 H62
 obtain ⟨k, lab63, v66, hzm, rfl, hv64, s65, o67, hk⟩ := H62
 replace hzm := hzm.symm; subst hzm
 obtain ⟨A68, c69, rfl⟩ := App.shape o67
 have m70 : List.length (wsN (b + a) k) = k := QY o67
 have z71 := (App.row o67).2
 have hc := QfO b a k
 refine rsr ?_
 refine sv (Qa.lss rfl rfl) ?_
 refine Seq.next ?_
 refine Run.seq ?_
 rcases Decidable.em ((((k : Nat) : Int) : Int) < (((nw b : Nat) : Int) : Int)) with hp2 | hp2
 rotate_left
 ·refine Qc rfl (dF9 hp2) ?_
  refine Qv (fun _ _ h => h) ?_
  refine rsr ?_
  refine sv (Qa.move rfl) ?_
  refine sv (Qa.move rfl) ?_
  refine sv (QF Try.underlying62 Try.underlying167 rfl) ?_
  refine QR [(0, u32 (UInt32.ofNat (cA b a k)))] (List.map u32 [UInt32.ofNat (cA b a k)]) hv64 Try.underlying58 Qx (by decide) (by decide) rfl (by kernel_rfl) (by decide) ?_
  intro w123 b124 r125 s126 hv127
  have q128 : Qo [UInt32.ofNat (cA b a k)] lab63 w123 (.slice (some ⟨b124, 0, none⟩) 1 1) := ⟨_, _, rfl, Nat.le_refl _, lB9 rfl, r125⟩
  have o129 := o67.up s126
  refine Seq.append (k := 23) (List.map u32 ([UInt32.ofNat (cA b a k)])) hv127 o129 Try.underlying58 Qx rfl rfl rfl (by simp) (Qo.row q128) ZS (by omega) (by omega) (by decide) ?_
  intro lab130 w131 v132 o133 s134 hv135
  rw [← List.map_append] at o133
  obtain ⟨A136, c137, rfl⟩ := App.shape o133
  have m138 : List.length (wsN (b + a) k ++ ([UInt32.ofNat (cA b a k)])) = k + 1 := QY o133
  have z139 := (App.row o133).2
  have hv140 := Ql.release hv135 23
  have m142 : List.length (wsN (b + a) k ++ ([UInt32.ofNat (cA b a k)])) = k + 1 := QY o133
  have q141 : Qo (wsN (b + a) k ++ ([UInt32.ofNat (cA b a k)])) (Q5 lab130 23) w131 (.slice A136 (k + 1) c137) := ⟨_, _, (by rw [m142]), (by have h9 := (App.row o133).2.1; (rw [m142]; exact h9)), (App.row o133).2.2, (App.row o133).1⟩
  refine Q7 (V := Qi (wv (wsN (b + a) k ++ ([UInt32.ofNat (cA b a k)])))) Vf hv140 rfl (Yt hv140 q141) fun v143 w144 q145 s146 h147 => ?_
  obtain ⟨A148, c149, rfl⟩ := Qi.shape q145
  have z150 := Qi.cap q145
  have c152 := (Stp.release (lab := lab130) (w := w131) 23).trans s146
  have c153 := s134.trans c152
  have c154 := s126.trans c153
  have c155 := s65.trans c154
  have c156 := s50.trans c155
  have c157 := c44.trans c156
  have o151 := o22.up c157
  refine Q2 [.slice A148 (nw (wv (wsN (b + a) k ++ ([UInt32.ofNat (cA b a k)])))) c149] h147 o151 Qn rfl rfl rfl (lB9 rfl) rfl rfl fun w158 o159 s160 h161 => ?_
  refine Seq.next ?_
  have c162 := c157.trans s160
  have c163 := c28.trans c162
  obtain ⟨⟨zU, zo⟩, zb⟩ := hX c163 (by decide)
  have q164 := up s160 q145
  refine Run.ret ?_
  exact Qm Try.results117 ⟨_, rfl, Q6 [.slice A148 (nw (wv (wsN (b + a) k ++ ([UInt32.ofNat (cA b a k)])))) c149] o159 Qn rfl⟩ ⟨_, rfl, (Q1 (by rw [QfZ (by omega) (by omega), Nat.add_comm]) (up zo q164)), zb⟩
 refine Qc rfl (dT9 hp2) ?_
 refine Qg (fun _ _ h => h) ?_
 refine Run.seq ?_
 refine Run.block ?_
 refine rsr ?_
 refine sv (Qa.move rfl) ?_
 have q72 := up s65 q57
 refine sv (Qs k Try.underlying58 Qx rfl rfl (Qo.row q72) (by simp [nw]) (by omega) (by omega)) ?_
 have t73 := UInt32.toNat_lt (List.getD (Qj b) k (0 : UInt32))
 refine sv (Qy Qx rfl (Qo.row q72) (Jp u32 _ (0 : UInt32) (by omega))) ?_
 refine sv (Qa.assign rfl) ?_
 refine sv (Qa.assign rfl) ?_
 refine nsr ?_
 refine sv (Qa.move rfl) ?_
 refine sv (Qa.move rfl) ?_
 refine sv (QB Try.underlying167 Try.underlying62 rfl) ?_
 refine sv (Jn rfl rfl (by omega)) ?_
 refine sv (Qa.assign rfl) ?_
 refine Seq.next ?_
 refine Run.seq ?_
 refine rsr ?_
 refine sv (Qa.move rfl) ?_
 refine sv (Qd 0 Try.underlying60 rfl Zf rfl rfl) ?_
 have c75 := s50.trans s65
 have o74 := o39.up c75
 have c77 := c44.trans c75
 have q78 := up c77 q29
 have q76 := QA q78
 refine sv (Qf o74 Zf rfl rfl) ?_
 refine sv (Qa.len Try.underlying58 rfl) ?_
 refine sv (Qa.lss rfl rfl) ?_
 refine Seq.next ?_
 rcases Decidable.em ((((k : Nat) : Int) : Int) < (((nw a : Nat) : Int) : Int)) with hp3 | hp3
 rotate_left
 ·refine Qc rfl (dF9 hp3) ?_
  refine Qg (fun _ _ h => h) ?_
  refine rsr ?_
  refine sv (Qa.move rfl) ?_
  refine sv (Qa.move rfl) ?_
  refine sv (QF Try.underlying62 Try.underlying167 rfl) ?_
  refine QR [(0, u32 (UInt32.ofNat ((cA b a k) + ((List.getD (Qj b) k (0 : UInt32)).toNat))))] (List.map u32 [UInt32.ofNat ((cA b a k) + ((List.getD (Qj b) k (0 : UInt32)).toNat))]) hv64 Try.underlying58 Qx (by decide) (by decide) rfl (by kernel_rfl) (by decide) ?_
  intro w102 b103 r104 s105 hv106
  have q107 : Qo [UInt32.ofNat ((cA b a k) + ((List.getD (Qj b) k (0 : UInt32)).toNat))] lab63 w102 (.slice (some ⟨b103, 0, none⟩) 1 1) := ⟨_, _, rfl, Nat.le_refl _, lB9 rfl, r104⟩
  have o108 := o67.up s105
  refine Seq.append (k := 23) (List.map u32 ([UInt32.ofNat ((cA b a k) + ((List.getD (Qj b) k (0 : UInt32)).toNat))])) hv106 o108 Try.underlying58 Qx rfl rfl rfl (by simp) (Qo.row q107) ZS (by omega) (by omega) (by decide) ?_
  intro lab109 w110 v111 o112 s113 hv114
  rw [← List.map_append] at o112
  obtain ⟨A115, c116, rfl⟩ := App.shape o112
  have m117 : List.length (wsN (b + a) k ++ ([UInt32.ofNat ((cA b a k) + ((List.getD (Qj b) k (0 : UInt32)).toNat))])) = k + 1 := QY o112
  have z118 := (App.row o112).2
  refine sv (Qa.assign rfl) ?_
  refine Seq.next ?_
  refine Run.region ?_
  refine sv (Qa.move rfl) ?_
  refine sv (Jr rfl rfl) ?_
  refine sv (Qa.assign rfl) ?_
  refine QH (fun _ _ h => h) ?_
  refine Run.region ?_
  refine sv (Qa.add rfl rfl (by omega)) ?_
  refine sv (Qa.move rfl) ?_
  have c119 := s105.trans s113
  have c120 := s65.trans c119
  exact Seq.nil (fun a121 h122 => ⟨_, by omega, _, h122.weaken (QG (l' := [(26, i64 (((k + 1) : Nat) : Int)), (6, n64 (cA b a (k + 1))), (5, .slice A115 (k + 1) c116), (3, .pointer (some ⟨b15, 0, none⟩)), (4, .pointer (some ⟨b21, 0, none⟩)), (24, .slice A4 (nw b) c5), (25, i64 ((nw b : Nat) : Int))]) ⟨(congrArg (fun z => some (i64 z)) (show (((k : Nat) : Int) + 1 : Int) = (((k + 1) : Nat) : Int) from by rfl)), (congrArg (fun z => some (n64 z)) (show (((cA b a k) + ((List.getD (Qj b) k (0 : UInt32)).toNat)) / 4294967296 : Nat) = cA b a (k + 1) from by exact Vi (by rw [ZL (b := a) (by omega)]; rfl))), rfl, rfl, rfl, rfl, rfl, trivial⟩), ⟨k + 1, lab109, (.slice A115 (k + 1) c116), rfl, rfl, hv114, (c120.more (by decide)), (Yn (show wsN (b + a) k ++ ([UInt32.ofNat ((cA b a k) + ((List.getD (Qj b) k (0 : UInt32)).toNat))]) = wsN (b + a) (k + 1) from by exact Vh (by rw [ZL (b := a) (by omega)]; rfl)) (show k + 1 = (k + 1) from by rfl) o112), (by omega)⟩⟩)
 refine Qc rfl (dT9 hp3) ?_
 refine Run.region ?_
 refine sv (Qa.move rfl) ?_
 refine sv (Qd 0 Try.underlying60 rfl Zf rfl rfl) ?_
 have q79 := QA q78
 refine sv (Qf o74 Zf rfl rfl) ?_
 refine sv (Qa.move rfl) ?_
 refine sv (Qs k Try.underlying58 Qx rfl rfl (Qo.row q79) (by simp [nw]) (by omega) (by omega)) ?_
 have t80 := UInt32.toNat_lt (List.getD (Qj a) k (0 : UInt32))
 refine sv (Qy Qx rfl (Qo.row q79) (Jp u32 _ (0 : UInt32) (by omega))) ?_
 refine sv (QB Try.underlying167 Try.underlying62 rfl) ?_
 refine sv (Jn rfl rfl (by omega)) ?_
 refine sv (Qa.assign rfl) ?_
 refine nsr ?_
 refine sv (Qa.move rfl) ?_
 refine sv (Qa.move rfl) ?_
 refine sv (QF Try.underlying62 Try.underlying167 rfl) ?_
 refine QR [(0, u32 (UInt32.ofNat (((cA b a k) + ((List.getD (Qj b) k (0 : UInt32)).toNat)) + ((List.getD (Qj a) k (0 : UInt32)).toNat))))] (List.map u32 [UInt32.ofNat (((cA b a k) + ((List.getD (Qj b) k (0 : UInt32)).toNat)) + ((List.getD (Qj a) k (0 : UInt32)).toNat))]) hv64 Try.underlying58 Qx (by decide) (by decide) rfl (by kernel_rfl) (by decide) ?_
 intro w81 b82 r83 s84 hv85
 have q86 : Qo [UInt32.ofNat (((cA b a k) + ((List.getD (Qj b) k (0 : UInt32)).toNat)) + ((List.getD (Qj a) k (0 : UInt32)).toNat))] lab63 w81 (.slice (some ⟨b82, 0, none⟩) 1 1) := ⟨_, _, rfl, Nat.le_refl _, lB9 rfl, r83⟩
 have o87 := o67.up s84
 refine Seq.append (k := 23) (List.map u32 ([UInt32.ofNat (((cA b a k) + ((List.getD (Qj b) k (0 : UInt32)).toNat)) + ((List.getD (Qj a) k (0 : UInt32)).toNat))])) hv85 o87 Try.underlying58 Qx rfl rfl rfl (by simp) (Qo.row q86) ZS (by omega) (by omega) (by decide) ?_
 intro lab88 w89 v90 o91 s92 hv93
 rw [← List.map_append] at o91
 obtain ⟨A94, c95, rfl⟩ := App.shape o91
 have m96 : List.length (wsN (b + a) k ++ ([UInt32.ofNat (((cA b a k) + ((List.getD (Qj b) k (0 : UInt32)).toNat)) + ((List.getD (Qj a) k (0 : UInt32)).toNat))])) = k + 1 := QY o91
 have z97 := (App.row o91).2
 refine sv (Qa.assign rfl) ?_
 refine Seq.next ?_
 refine Run.region ?_
 refine sv (Qa.move rfl) ?_
 refine sv (Jr rfl rfl) ?_
 refine sv (Qa.assign rfl) ?_
 refine QH (fun _ _ h => h) ?_
 refine Run.region ?_
 refine sv (Qa.add rfl rfl (by omega)) ?_
 refine sv (Qa.move rfl) ?_
 have c98 := s84.trans s92
 have c99 := s65.trans c98
 exact Seq.nil (fun a100 h101 => ⟨_, by omega, _, h101.weaken (QG (l' := [(26, i64 (((k + 1) : Nat) : Int)), (6, n64 (cA b a (k + 1))), (5, .slice A94 (k + 1) c95), (3, .pointer (some ⟨b15, 0, none⟩)), (4, .pointer (some ⟨b21, 0, none⟩)), (24, .slice A4 (nw b) c5), (25, i64 ((nw b : Nat) : Int))]) ⟨(congrArg (fun z => some (i64 z)) (show (((k : Nat) : Int) + 1 : Int) = (((k + 1) : Nat) : Int) from by rfl)), (congrArg (fun z => some (n64 z)) (show ((((cA b a k) + ((List.getD (Qj b) k (0 : UInt32)).toNat)) + ((List.getD (Qj a) k (0 : UInt32)).toNat)) / 4294967296 : Nat) = cA b a (k + 1) from by exact Vi rfl)), rfl, rfl, rfl, rfl, rfl, trivial⟩), ⟨k + 1, lab88, (.slice A94 (k + 1) c95), rfl, rfl, hv93, (c99.more (by decide)), (Yn (show wsN (b + a) k ++ ([UInt32.ofNat (((cA b a k) + ((List.getD (Qj b) k (0 : UInt32)).toNat)) + ((List.getD (Qj a) k (0 : UInt32)).toNat))]) = wsN (b + a) (k + 1) from by exact Vh rfl) (show k + 1 = (k + 1) from by rfl) o91), (by omega)⟩⟩)
theorem Xj {lab : Lab} {w : World} (hv : Ql lab w) {a : Nat} {v0 : Value} (h0 : Qi a lab w v0) {b : Nat} {v1 : Value} (h1 : Qi b lab w v1) (ha : nw a ≤ 1000000) (hb : nw b ≤ 1000000) :
  Calls Try.prog 116 #[v0, v1] w (fun e w' => ∃ v, e = .returned v ∧ (Qi (a * b)) lab w' v ∧ Below w.heap.size w w') := by
 obtain ⟨L0, h0L, ⟨zU0, z00⟩, hX⟩ := QZ hv
 replace h0 := up z00 h0
 obtain ⟨A1, c2, rfl⟩ := Qi.shape h0
 have z3 := Qi.cap h0
 replace h1 := up z00 h1
 obtain ⟨A4, c5, rfl⟩ := Qi.shape h1
 have z6 := Qi.cap h1
 have hLa : (Qj a).length = nw a := rfl
 have hLb : (Qj b).length = nw b := rfl
 refine Qu Try.func116 rfl Try.ntmps116 (lB9 rfl) ?_
 refine rsr ?_
 refine Yz 3 [.slice A1 (nw a) c2] h0L rfl rfl fun b9 L7 w8 o10 s11 h12 => ?_
 refine Yz 4 [.slice A4 (nw b) c5] h12 rfl rfl fun b15 L13 w14 o16 s17 h18 => ?_
 refine QM 5 [.slice none 0 0] h18 Qn rfl fun b21 L19 w20 o22 s23 h24 => ?_
 refine nsr ?_
 refine sv (Qd 0 Try.underlying60 rfl Zf rfl rfl) ?_
 have c26 := s17.trans s23
 have o25 := o10.up c26
 have c28 := s11.trans c26
 have q29 := up c28 h0
 have q27 := QA q29
 refine sv (Qf o25 Zf rfl rfl) ?_
 refine sv (Qa.len Try.underlying58 rfl) ?_
 refine sv (Qd 0 Try.underlying60 rfl Zf rfl rfl) ?_
 have o30 := o16.up s23
 have q32 := up c28 h1
 have q31 := QA q32
 refine sv (Qf o30 Zf rfl rfl) ?_
 refine sv (Qa.len Try.underlying58 rfl) ?_
 refine sv (Qa.add rfl rfl (by omega)) ?_
 refine Jv (k := 19) u32 (0 : UInt32) ((((nw a : Nat) : Int) + ((nw b : Nat) : Int)).toNat) h24 Try.underlying58 Qx rfl rfl rfl (by omega) (by omega) (by omega) (by omega) (by decide) ?_
 intro lab33 w34 b35 o36 s37 hv38
 refine sv (Qa.assign rfl) ?_
 refine Seq.next ?_
 refine Run.seq ?_
 refine rsr ?_
 refine sv (Qd 0 Try.underlying60 rfl Zf rfl rfl) ?_
 have o39 := o25.up s37
 have q41 := up s37 q29
 have q40 := QA q41
 refine sv (Qf o39 Zf rfl rfl) ?_
 refine sv (Qa.len Try.underlying58 rfl) ?_
 refine sv (Qa.move rfl) ?_
 refine Seq.next ?_
 refine Run.block ?_
 refine Run.loop (fun m' l' w' => ∃ (i : Nat) (lab' : Lab), m' = nw a - i ∧ l' = [(22, i64 ((i : Nat) : Int)), (3, .pointer (some ⟨b15, 0, none⟩)), (4, .pointer (some ⟨b21, 0, none⟩)), (5, .slice (some ⟨b35, 0, none⟩) ((((nw a : Nat) : Int) + ((nw b : Nat) : Int)).toNat) ((((nw a : Nat) : Int) + ((nw b : Nat) : Int)).toNat)), (20, .slice A1 (nw a) c2), (21, i64 ((nw a : Nat) : Int))] ∧ Ql lab' w' ∧ Stp [19] lab33 w34 lab' w' ∧ Own lab' w' 19 b35 167 (List.map u32 (wsN (a % 4294967296 ^ i * b) (nw a + nw b))).toArray ∧ (i ≤ nw a)) (nw a - 0) (l0 := [(22, i64 ((0 : Nat) : Int)), (3, .pointer (some ⟨b15, 0, none⟩)), (4, .pointer (some ⟨b21, 0, none⟩)), (5, .slice (some ⟨b35, 0, none⟩) ((((nw a : Nat) : Int) + ((nw b : Nat) : Int)).toNat) ((((nw a : Nat) : Int) + ((nw b : Nat) : Int)).toNat)), (20, .slice A1 (nw a) c2), (21, i64 ((nw a : Nat) : Int))]) ⟨(congrArg (fun z => some (i64 z)) (show (0 : Int) = ((0 : Nat) : Int) from by rfl)), rfl, rfl, rfl, rfl, rfl, trivial⟩ ⟨0, lab33, rfl, rfl, hv38, ((Stp.refl _ _).more (by simp)), ((show List.replicate ((((nw a : Nat) : Int) + ((nw b : Nat) : Int)).toNat) (0 : UInt32) = wsN (a % 4294967296 ^ 0 * b) (nw a + nw b) from by exact QeU) ▸ o36), (by omega)⟩ ?_
 intro m42 l43 w44 H45
 obtain ⟨i, lab46, hzm, rfl, hv47, s48, o49, hi⟩ := H45
 replace hzm := hzm.symm; subst hzm
 refine rsr ?_
 refine sv (Qa.lss rfl rfl) ?_
 refine Seq.next ?_
 refine Run.seq ?_
 rcases Decidable.em ((((i : Nat) : Int) : Int) < (((nw a : Nat) : Int) : Int)) with hp1 | hp1
 rotate_left
 ·refine Qc rfl (dF9 hp1) ?_
  refine Qv (fun _ _ h => h) ?_
  refine rsr ?_
  refine sv (Qa.move rfl) ?_
  have hv85 := Ql.release hv47 19
  have q86 : Qo (wsN (a % 4294967296 ^ i * b) (nw a + nw b)) (Q5 lab46 19) w44 (.slice (some ⟨b35, 0, none⟩) ((((nw a : Nat) : Int) + ((nw b : Nat) : Int)).toNat) ((((nw a : Nat) : Int) + ((nw b : Nat) : Int)).toNat)) := Qo.release o49 (by exact Qq _ _) (by omega)
  refine Q7 (V := Qi (wv (wsN (a % 4294967296 ^ i * b) (nw a + nw b)))) Vf hv85 rfl (Yt hv85 q86) fun v87 w88 q89 s90 h91 => ?_
  obtain ⟨A92, c93, rfl⟩ := Qi.shape q89
  have z94 := Qi.cap q89
  have c96 := (Stp.release (lab := lab46) (w := w44) 19).trans s90
  have c97 := s48.trans c96
  have c98 := s37.trans c97
  have o95 := o22.up c98
  refine Q2 [.slice A92 (nw (wv (wsN (a % 4294967296 ^ i * b) (nw a + nw b)))) c93] h91 o95 Qn rfl rfl rfl (lB9 rfl) rfl rfl fun w99 o100 s101 h102 => ?_
  refine Seq.next ?_
  have c103 := c98.trans s101
  have c104 := c28.trans c103
  obtain ⟨⟨zU, zo⟩, zb⟩ := hX c104 (by decide)
  have q105 := up s101 q89
  refine Run.ret ?_
  exact Qm Try.results116 ⟨_, rfl, Q6 [.slice A92 (nw (wv (wsN (a % 4294967296 ^ i * b) (nw a + nw b)))) c93] o100 Qn rfl⟩ ⟨_, rfl, (Q1 (by exact QiB (by omega) rfl) (up zo q105)), zb⟩
 refine Qc rfl (dT9 hp1) ?_
 refine Qg (fun _ _ h => h) ?_
 refine Run.seq ?_
 refine Run.block ?_
 refine rsr ?_
 refine sv (Qa.move rfl) ?_
 have q50 := up s48 q40
 refine sv (Qs i Try.underlying58 Qx rfl rfl (Qo.row q50) (by simp [nw]) (by omega) (by omega)) ?_
 have t51 := UInt32.toNat_lt (List.getD (Qj a) i (0 : UInt32))
 refine sv (Qy Qx rfl (Qo.row q50) (Jp u32 _ (0 : UInt32) (by omega))) ?_
 refine sv (Qa.assign rfl) ?_
 refine sv (Qa.assign rfl) ?_
 refine nsr ?_
 refine sv (Qa.assign rfl) ?_
 refine Seq.next ?_
 refine Run.seq ?_
 refine rsr ?_
 refine sv (Qd 0 Try.underlying60 rfl Zf rfl rfl) ?_
 have c53 := s37.trans s48
 have o52 := o30.up c53
 have q55 := up c53 q32
 have q54 := QA q55
 refine sv (Qf o52 Zf rfl rfl) ?_
 refine sv (Qa.len Try.underlying58 rfl) ?_
 refine sv (Qa.move rfl) ?_
 refine Seq.next ?_
 refine Run.block ?_
 refine Run.loop (fun m' l' w' => ∃ (k : Nat) (out : List UInt32) (cy : Nat) (lab' : Lab), m' = nw b - k ∧ l' = [(30, i64 ((k : Nat) : Int)), (8, n64 cy), (3, .pointer (some ⟨b15, 0, none⟩)), (4, .pointer (some ⟨b21, 0, none⟩)), (5, .slice (some ⟨b35, 0, none⟩) ((((nw a : Nat) : Int) + ((nw b : Nat) : Int)).toNat) ((((nw a : Nat) : Int) + ((nw b : Nat) : Int)).toNat)), (20, .slice A1 (nw a) c2), (21, i64 ((nw a : Nat) : Int)), (22, i64 ((i : Nat) : Int)), (6, i64 ((i : Nat) : Int)), (7, u32 (List.getD (Qj a) i (0 : UInt32))), (28, .slice A4 (nw b) c5), (29, i64 ((nw b : Nat) : Int))] ∧ Ql lab' w' ∧ Stp [19] lab46 w44 lab' w' ∧ Own lab' w' 19 b35 167 (List.map u32 out).toArray ∧ (k ≤ nw b) ∧ (List.length out = nw a + nw b) ∧ (cy < 4294967296) ∧ (wv out + cy * 4294967296 ^ (i + k) = a % 4294967296 ^ i * b + (List.getD (Qj a) i 0).toNat * 4294967296 ^ i * (b % 4294967296 ^ k)) ∧ (∀ j, i + k ≤ j → List.getD out j 0 = List.getD (wsN (a % 4294967296 ^ i * b) (nw a + nw b)) j 0)) (nw b - 0) (l0 := [(30, i64 ((0 : Nat) : Int)), (8, n64 0), (3, .pointer (some ⟨b15, 0, none⟩)), (4, .pointer (some ⟨b21, 0, none⟩)), (5, .slice (some ⟨b35, 0, none⟩) ((((nw a : Nat) : Int) + ((nw b : Nat) : Int)).toNat) ((((nw a : Nat) : Int) + ((nw b : Nat) : Int)).toNat)), (20, .slice A1 (nw a) c2), (21, i64 ((nw a : Nat) : Int)), (22, i64 ((i : Nat) : Int)), (6, i64 ((i : Nat) : Int)), (7, u32 (List.getD (Qj a) i (0 : UInt32))), (28, .slice A4 (nw b) c5), (29, i64 ((nw b : Nat) : Int))]) ⟨(congrArg (fun z => some (i64 z)) (show (0 : Int) = ((0 : Nat) : Int) from by rfl)), rfl, rfl, rfl, rfl, rfl, rfl, rfl, rfl, rfl, rfl, rfl, trivial⟩ ⟨0, wsN (a % 4294967296 ^ i * b) (nw a + nw b), 0, lab46, rfl, rfl, hv47, ((Stp.refl _ _).more (by simp)), ((show wsN (a % 4294967296 ^ i * b) (nw a + nw b) = (wsN (a % 4294967296 ^ i * b) (nw a + nw b)) from by rfl) ▸ o49), (by omega), (by (rw [Qq])), (by omega), (by (rw [JV (Nat.lt_of_lt_of_le (Nat.mul_lt_mul'' (Nat.mod_lt _ (Nat.pow_pos (by omega) : 0 < 4294967296 ^ i)) (Ym b)) (by rw [← Nat.pow_add]; exact Nat.pow_le_pow_right (by omega) (by omega)))]; simp [Nat.mod_one])), (by (intro j hj; rfl))⟩ ?_
 intro m56 l57 w58 H59
 obtain ⟨k, out, cy, lab60, hzm, rfl, hv61, s62, o63, hk, hlen, hcb, hval, htop⟩ := H59
 replace hzm := hzm.symm; subst hzm
 have hm := QgG (List.getD (Qj a) i 0) (List.getD (Qj b) k 0)
 refine rsr ?_
 refine sv (Qa.lss rfl rfl) ?_
 refine Seq.next ?_
 refine Run.seq ?_
 rcases Decidable.em ((((k : Nat) : Int) : Int) < (((nw b : Nat) : Int) : Int)) with hp2 | hp2
 rotate_left
 ·refine Qc rfl (dF9 hp2) ?_
  refine Qv (fun _ _ h => h) ?_
  refine Run.region ?_
  refine sv (Qa.move rfl) ?_
  refine sv (Qa.move rfl) ?_
  refine sv (Qd 0 Try.underlying60 rfl Zf rfl rfl) ?_
  have o74 := o52.up s62
  have q76 := up s62 q55
  have q75 := QA q76
  refine sv (Qf o74 Zf rfl rfl) ?_
  refine sv (Qa.len Try.underlying58 rfl) ?_
  refine sv (Qa.add rfl rfl (by omega)) ?_
  refine sv (Qa.move rfl) ?_
  refine sv (QF Try.underlying62 Try.underlying167 rfl) ?_
  refine sv (Q4 ((((i : Nat) : Int) + ((nw b : Nat) : Int)).toNat) Try.underlying58 Qx rfl rfl (by omega) (by omega)) ?_
  refine Q8 (k := 19) (j := ((((i : Nat) : Int) + ((nw b : Nat) : Int)).toNat)) (v := (UInt32.ofNat cy)) u32 hv61 o63 Qx (congrArg (fun o => some (Value.pointer (some ⟨b35, o, none⟩))) (Nat.mul_one ((((i : Nat) : Int) + ((nw b : Nat) : Int)).toNat))) rfl (by omega) rfl rfl fun w77 o78 s79 h80 => ?_
  refine QH (fun _ _ h => h) ?_
  refine Run.region ?_
  refine sv (Qa.add rfl rfl (by omega)) ?_
  refine sv (Qa.move rfl) ?_
  have c81 := s62.trans s79
  have c82 := s48.trans c81
  exact Seq.nil (fun a83 h84 => ⟨_, by omega, _, h84.weaken (QG (l' := [(22, i64 (((i + 1) : Nat) : Int)), (3, .pointer (some ⟨b15, 0, none⟩)), (4, .pointer (some ⟨b21, 0, none⟩)), (5, .slice (some ⟨b35, 0, none⟩) ((((nw a : Nat) : Int) + ((nw b : Nat) : Int)).toNat) ((((nw a : Nat) : Int) + ((nw b : Nat) : Int)).toNat)), (20, .slice A1 (nw a) c2), (21, i64 ((nw a : Nat) : Int))]) ⟨(congrArg (fun z => some (i64 z)) (show (((i : Nat) : Int) + 1 : Int) = (((i + 1) : Nat) : Int) from by rfl)), rfl, rfl, rfl, rfl, rfl, trivial⟩), ⟨i + 1, lab60, rfl, rfl, h80, (c82.more (by decide)), ((show List.set out ((((i : Nat) : Int) + ((nw b : Nat) : Int)).toNat) (UInt32.ofNat cy) = wsN (a % 4294967296 ^ (i + 1) * b) (nw a + nw b) from by (have hkb : k = nw b := (by omega); subst hkb; exact QiC rfl rfl (by omega) rfl hlen hcb hval htop)) ▸ o78), (by omega)⟩⟩)
 refine Qc rfl (dT9 hp2) ?_
 refine Qg (fun _ _ h => h) ?_
 refine Run.seq ?_
 refine Run.block ?_
 refine rsr ?_
 refine sv (Qa.move rfl) ?_
 have q64 := up s62 q54
 refine sv (Qs k Try.underlying58 Qx rfl rfl (Qo.row q64) (by simp [nw]) (by omega) (by omega)) ?_
 have t65 := UInt32.toNat_lt (List.getD (Qj b) k (0 : UInt32))
 refine sv (Qy Qx rfl (Qo.row q64) (Jp u32 _ (0 : UInt32) (by omega))) ?_
 refine sv (Qa.assign rfl) ?_
 refine sv (Qa.assign rfl) ?_
 refine nsr ?_
 refine sv (Qa.move rfl) ?_
 refine sv (Qa.move rfl) ?_
 refine sv (QB Try.underlying167 Try.underlying62 rfl) ?_
 refine sv (Qa.move rfl) ?_
 refine sv (QB Try.underlying167 Try.underlying62 rfl) ?_
 refine sv (ZF rfl rfl (by omega)) ?_
 refine sv (Qa.move rfl) ?_
 refine sv (Qa.move rfl) ?_
 refine sv (Qa.move rfl) ?_
 refine sv (Qa.add rfl rfl (by omega)) ?_
 refine sv (Q4 ((((i : Nat) : Int) + ((k : Nat) : Int)).toNat) Try.underlying58 Qx rfl rfl (by omega) (by omega)) ?_
 have t66 := UInt32.toNat_lt (List.getD out ((((i : Nat) : Int) + ((k : Nat) : Int)).toNat) (0 : UInt32))
 refine sv (Qf o63 Qx rfl (by rw [Nat.mul_one]; exact Zi u32 _ (0 : UInt32) (by omega))) ?_
 refine sv (QB Try.underlying167 Try.underlying62 rfl) ?_
 refine sv (Jn rfl rfl (by omega)) ?_
 refine sv (Jn rfl rfl (by omega)) ?_
 refine sv (Qa.assign rfl) ?_
 refine nsr ?_
 refine sv (Qa.move rfl) ?_
 refine sv (Qa.move rfl) ?_
 refine sv (Qa.move rfl) ?_
 refine sv (Qa.add rfl rfl (by omega)) ?_
 refine sv (Qa.move rfl) ?_
 refine sv (QF Try.underlying62 Try.underlying167 rfl) ?_
 refine sv (Q4 ((((i : Nat) : Int) + ((k : Nat) : Int)).toNat) Try.underlying58 Qx rfl rfl (by omega) (by omega)) ?_
 refine Q8 (k := 19) (j := ((((i : Nat) : Int) + ((k : Nat) : Int)).toNat)) (v := (UInt32.ofNat (cy + ((((List.getD (Qj a) i (0 : UInt32)).toNat) * ((List.getD (Qj b) k (0 : UInt32)).toNat)) + ((List.getD out ((((i : Nat) : Int) + ((k : Nat) : Int)).toNat) (0 : UInt32)).toNat))))) u32 hv61 o63 Qx (congrArg (fun o => some (Value.pointer (some ⟨b35, o, none⟩))) (Nat.mul_one ((((i : Nat) : Int) + ((k : Nat) : Int)).toNat))) rfl (by omega) rfl rfl fun w67 o68 s69 h70 => ?_
 refine Seq.next ?_
 refine Run.region ?_
 refine sv (Qa.move rfl) ?_
 refine sv (Jr rfl rfl) ?_
 refine sv (Qa.assign rfl) ?_
 refine QH (fun _ _ h => h) ?_
 refine Run.region ?_
 refine sv (Qa.add rfl rfl (by omega)) ?_
 refine sv (Qa.move rfl) ?_
 have c71 := s62.trans s69
 exact Seq.nil (fun a72 h73 => ⟨_, by omega, _, h73.weaken (QG (l' := [(30, i64 (((k + 1) : Nat) : Int)), (8, n64 ((cy + ((((List.getD (Qj a) i (0 : UInt32)).toNat) * ((List.getD (Qj b) k (0 : UInt32)).toNat)) + ((List.getD out ((((i : Nat) : Int) + ((k : Nat) : Int)).toNat) (0 : UInt32)).toNat))) / 4294967296)), (3, .pointer (some ⟨b15, 0, none⟩)), (4, .pointer (some ⟨b21, 0, none⟩)), (5, .slice (some ⟨b35, 0, none⟩) ((((nw a : Nat) : Int) + ((nw b : Nat) : Int)).toNat) ((((nw a : Nat) : Int) + ((nw b : Nat) : Int)).toNat)), (20, .slice A1 (nw a) c2), (21, i64 ((nw a : Nat) : Int)), (22, i64 ((i : Nat) : Int)), (6, i64 ((i : Nat) : Int)), (7, u32 (List.getD (Qj a) i (0 : UInt32))), (28, .slice A4 (nw b) c5), (29, i64 ((nw b : Nat) : Int))]) ⟨(congrArg (fun z => some (i64 z)) (show (((k : Nat) : Int) + 1 : Int) = (((k + 1) : Nat) : Int) from by rfl)), (congrArg (fun z => some (n64 z)) (show ((cy + ((((List.getD (Qj a) i (0 : UInt32)).toNat) * ((List.getD (Qj b) k (0 : UInt32)).toNat)) + ((List.getD out ((((i : Nat) : Int) + ((k : Nat) : Int)).toNat) (0 : UInt32)).toNat))) / 4294967296 : Nat) = ((cy + ((((List.getD (Qj a) i (0 : UInt32)).toNat) * ((List.getD (Qj b) k (0 : UInt32)).toNat)) + ((List.getD out ((((i : Nat) : Int) + ((k : Nat) : Int)).toNat) (0 : UInt32)).toNat))) / 4294967296) from by rfl)), rfl, rfl, rfl, rfl, rfl, rfl, rfl, rfl, rfl, rfl, trivial⟩), ⟨k + 1, (List.set out ((((i : Nat) : Int) + ((k : Nat) : Int)).toNat) (UInt32.ofNat (cy + ((((List.getD (Qj a) i (0 : UInt32)).toNat) * ((List.getD (Qj b) k (0 : UInt32)).toNat)) + ((List.getD out ((((i : Nat) : Int) + ((k : Nat) : Int)).toNat) (0 : UInt32)).toNat))))), ((cy + ((((List.getD (Qj a) i (0 : UInt32)).toNat) * ((List.getD (Qj b) k (0 : UInt32)).toNat)) + ((List.getD out ((((i : Nat) : Int) + ((k : Nat) : Int)).toNat) (0 : UInt32)).toNat))) / 4294967296), lab60, rfl, rfl, h70, (c71.more (by decide)), ((show List.set out ((((i : Nat) : Int) + ((k : Nat) : Int)).toNat) (UInt32.ofNat (cy + ((((List.getD (Qj a) i (0 : UInt32)).toNat) * ((List.getD (Qj b) k (0 : UInt32)).toNat)) + ((List.getD out ((((i : Nat) : Int) + ((k : Nat) : Int)).toNat) (0 : UInt32)).toNat)))) = (List.set out ((((i : Nat) : Int) + ((k : Nat) : Int)).toNat) (UInt32.ofNat (cy + ((((List.getD (Qj a) i (0 : UInt32)).toNat) * ((List.getD (Qj b) k (0 : UInt32)).toNat)) + ((List.getD out ((((i : Nat) : Int) + ((k : Nat) : Int)).toNat) (0 : UInt32)).toNat))))) from by rfl) ▸ o68), (by omega), (by (rw [List.length_set]; omega)), (by omega), (by exact QgF rfl rfl (by omega) hval), (by exact QiA htop)⟩⟩)
end Go.Proofs.Ytgfomedobfaidaa
end
section
set_option linter.unusedVariables false
set_option linter.unusedSimpArgs false
namespace Go.Proofs.Ytgfomedobfaidaa
open Go.RowKit Go.Shelf
attribute [local go_sem] Oper.semAt_some
def bk (n k : Nat) : List (Fin n) := (List.range k).filterMap fun j => if h : 0 < n then some ⟨n - 1 - j, by omega⟩ else none
theorem Qaj {n : Nat} (h : 0 < n) (k : Nat) : bk n (k + 1) = bk n k ++ [⟨n - 1 - k, by omega⟩] := by simp [bk, List.range_succ, h]
theorem QfS {n : Nat} (h : 0 < n) (k : Nat) : (bk n k).length = k := by
 induction k with
 | zero => rfl
 | succ k ih => rw [Qaj h]; simp [ih]
abbrev Qh7 (zs : List UInt32) (x : Fin zs.length) : Array Value := #[.int .i64 (x.val : Int), .int .u32 ((zs[x.val]).toNat : Int)]
def KB (Bs b : Nat) (W W' : World) : Prop := W'.heap[Bs]? = W.heap[Bs]? ∧ W'.heap[b]? = W.heap[b]?
theorem KB.refl (Bs b : Nat) (W : World) : KB Bs b W W := ⟨rfl, rfl⟩
theorem KB.trans {Bs b : Nat} {A B C : World} (h : KB Bs b A B) (k : KB Bs b B C) : KB Bs b A C := ⟨k.1.trans h.1, k.2.trans h.2⟩
theorem KB.put {Bs b : Nat} {w : World} (h1 : Bs < w.heap.size) (h2 : b < w.heap.size) (W : World) (l : Nat) (o o' : Obj) (hl : w.heap.size ≤ l) (h : W.heap[l]? = some o) (_ : o.isCells = false) (_ : o.isWalk = false) : KB Bs b W (W.putObj l o') :=
 ⟨World.putObj_heap_other (by omega), World.putObj_heap_other (by omega)⟩
theorem Y9 {W W' : World} {k : Nat} (h : W'.heap[k]? = W.heap[k]?) (o : Nat) (s : Option Nat) : W'.cell? ⟨k, o, s⟩ = W.cell? ⟨k, o, s⟩ := by unfold World.cell?; rw [h]
theorem Qhs (F : Fence) (n : Nat) (h7 : F.fn 154) (hro : F.round = none) (hn : 1 ≤ n) (l Bs b off cap : Nat) (zs : List UInt32) (hreach : zs.length ≤ 9223372036854775807) (J Jx : List (Fin zs.length) → World → Prop)
  (hY : ∀ pre x W, J pre W → pre.length < zs.length → YieldAt F (n - 1) Try.prog l (Qh7 zs x) W fun e W' =>
   (e = .returned (.bool true) ∧ J (pre ++ [x]) W' ∧ KB Bs b W W') ∨ (e = .returned (.bool false) ∧ Jx (pre ++ [x]) W'))
  (W : World) (hBs : W.cell? ⟨Bs, 0, none⟩ = some (.slice (some ⟨b, off, none⟩) zs.length cap)) (hc : ∀ j (hj : j < zs.length), W.cell? ⟨b, off + j, none⟩ = some (.int .u32 ((zs[j]).toNat : Int))) (h0 : J [] W) :
  CallsIn F n Try.prog 154 #[.func (.yield l) #[] #[], .pointer (some ⟨Bs, 0, none⟩)] W fun e W' => (∃ v, e = .returned v) ∧
   ((∃ ys, ys = bk zs.length zs.length ∧ J ys W') ∨ (∃ pre, (∃ k, k ≤ zs.length ∧ pre = bk zs.length k) ∧ Jx pre W')) := by
 refine callsIn_of_wp Try.func154 rfl h7 ?_ hro
 simp only [Try.ntmps154, List.size_toArray, List.length_cons, List.length_nil, Nat.reduceAdd, Nat.reduceSub, Array.replicate_succ, Array.replicate_zero, List.push_toArray, List.append_toArray, List.nil_append, List.cons_append]
 gi_wp2
 gi_loopw [3] (fun i wr => ∃ k : Nat, k ≤ zs.length ∧ i = .int .i64 (((zs.length - k : Nat) : Int) - 1) ∧ J (bk zs.length k) wr ∧ KB Bs b W wr)
  (fun i _ => (intOf i + 1).toNat)
 case atStart => exact ⟨0, Nat.zero_le _, by simp, h0, KB.refl _ _ _⟩
 case round =>
  obtain ⟨k, hk, rfl, hJs, hnx⟩ := hrel
  by_cases hlt : k < zs.length
  ·obtain ⟨m, hm⟩ : ∃ m, m + 1 + k = zs.length := ⟨zs.length - 1 - k, by omega⟩
   have e : (((zs.length - k : Nat) : Int) - 1) = (m : Int) := by omega
   rw [e]
   have hm2 : m < zs.length := by omega
   have hBs' : wr.cell? ⟨Bs, 0, none⟩ = some (.slice (some ⟨b, off, none⟩) zs.length cap) := (Y9 hnx.1 _ _).trans hBs
   have hcx' : wr.cell? ⟨b, off + m, none⟩ = some (.int .u32 (zs[m].toNat : Int)) := (Y9 hnx.2 _ _).trans (hc m hm2)
   obtain ⟨fn, tmps, assign, body, hy, hR⟩ := hY _ ⟨m, hm2⟩ wr hJs (by rw [QfS (by omega)]; exact hlt)
   dsimp only [Qh7] at hy
   have hbk : bk zs.length (k + 1) = bk zs.length k ++ [⟨m, hm2⟩] := by
    rw [Qaj (by omega)]; congr 2; exact Fin.ext (by show zs.length - 1 - k = m; omega)
   gi_wp2
   refine hR.mono ?_
   rintro e W3 (⟨rfl, hJ3, hk3⟩ | ⟨rfl, hJx3⟩)
   ·gi_wp2
    go_roundw
    case rel => exact ⟨k + 1, by omega, by congr 1; simp; omega, by rw [hbk]; exact hJ3, hnx.trans hk3⟩
    case measure => first | (simp [intOf]; done) | (simp [intOf]; omega)
   ·gi_wp2
    refine bodyPost_ret (results_none rfl _ _ _) rfl ?_
    exact ⟨⟨_, rfl⟩, .inr ⟨_, ⟨k + 1, by omega, hbk.symm⟩, hJx3⟩⟩
  ·obtain rfl : k = zs.length := by omega
   rw [Nat.sub_self]
   gi_wp2
   go_end0
   exact ⟨⟨_, rfl⟩, .inl ⟨_, rfl, hJs⟩⟩
theorem Qht (F : Fence) (n : Nat) (h7 : F.fn 154) (hro : F.round = none) (l Bs : Nat) (A : Option Addr) (c : Nat) {α : Type} (J : List α → World → Prop) (W : World) (hBs : W.cell? ⟨Bs, 0, none⟩ = some (.slice A 0 c)) (h0 : J [] W) :
  CallsIn F n Try.prog 154 #[.func (.yield l) #[] #[], .pointer (some ⟨Bs, 0, none⟩)] W fun e W' => (∃ v, e = .returned v) ∧ J [] W' := by
 refine callsIn_of_wp Try.func154 rfl h7 ?_ hro
 simp only [Try.ntmps154, List.size_toArray, List.length_cons, List.length_nil, Nat.reduceAdd, Nat.reduceSub, Array.replicate_succ, Array.replicate_zero, List.push_toArray, List.append_toArray, List.nil_append, List.cons_append]
 gi_wp2
 gi_loopw [3] (fun i wr => i = .int .i64 (-1) ∧ J [] wr) (fun _ _ => 0)
 case atStart => exact ⟨rfl, h0⟩
 case round =>
  obtain ⟨rfl, hJs⟩ := hrel
  gi_wp2
  go_end0
  exact ⟨⟨_, rfl⟩, hJs⟩
theorem QfW (F : Fence) (n : Nat) (h5 : F.fn 106) (hro : F.round = none) (a : Option Addr) (len cap : Nat) (w : World) :
  CallsIn F n Try.prog 106 #[.slice a len cap] w fun e w' => e = .returned (.func (.func 154) #[] #[.pointer (some ⟨w.heap.size, 0, none⟩)]) ∧ w' = w.alloc (.cells #[.slice a len cap] 58) := by
 refine callsIn_of_wp Try.func106 rfl h5 ?_ hro
 simp only [Try.ntmps106, List.size_toArray, List.length_cons, List.length_nil, Nat.reduceAdd, Nat.reduceSub, Array.replicate_succ, Array.replicate_zero, List.push_toArray, List.append_toArray, List.nil_append, List.cons_append]
 gi_wp2
 go_ret
 exact ⟨rfl, rfl⟩
theorem U3 (F : Fence) (n : Nat) (h8 : F.fn 154) (hro : F.round = none) (hn : 1 ≤ n) (Bs b off cap : Nat) (zs : List UInt32) (hreach : zs.length ≤ 9223372036854775807) (w : World) (hBs : Bs < w.heap.size) (hb : b < w.heap.size)
  (hc : w.cell? ⟨Bs, 0, none⟩ = some (.slice (some ⟨b, off, none⟩) zs.length cap)) (hcs : ∀ j (hj : j < zs.length), w.cell? ⟨b, off + j, none⟩ = some (.int .u32 ((zs[j]).toNat : Int))) :
  SeqStopsK F n Try.prog 154 #[.pointer (some ⟨Bs, 0, none⟩)] (Qh7 zs) (KB Bs b) (fun ys => ys = bk zs.length zs.length)
   (fun pre => ∃ k, k ≤ zs.length ∧ pre = bk zs.length k) zs.length w := fun l J Jx W hW _ _ hY h0 =>
 Qhs F n h8 hro hn l Bs b off cap zs hreach J Jx hY W ((hW.cell (p := ⟨Bs, 0, none⟩) hBs).trans hc) (fun j hj => (hW.cell (p := ⟨b, off + j, none⟩) hb).trans (hcs j hj)) h0
theorem K7 (F : Fence) (n : Nat) (h8 : F.fn 154) (hro : F.round = none) (Bs b : Nat) (A : Option Addr) (c : Nat) (zs : List UInt32) (hz : zs = []) (w : World) (hBs : Bs < w.heap.size)
  (hc : w.cell? ⟨Bs, 0, none⟩ = some (.slice A 0 c)) :
  SeqStopsK F n Try.prog 154 #[.pointer (some ⟨Bs, 0, none⟩)] (Qh7 zs) (KB Bs b) (fun ys => ys = bk zs.length zs.length)
   (fun pre => ∃ k, k ≤ zs.length ∧ pre = bk zs.length k) zs.length w := fun l J Jx W hW _ _ hY h0 => by
 subst hz
 exact (Qht F n h8 hro l Bs A c J W ((hW.cell (p := ⟨Bs, 0, none⟩) hBs).trans hc) h0).mono fun e W' ⟨he, hj⟩ => ⟨he, .inl ⟨_, rfl, hj⟩⟩
end Go.Proofs.Ytgfomedobfaidaa
end
section
set_option linter.unusedVariables false
set_option linter.unusedSimpArgs false
namespace Go.Proofs.Ytgfomedobfaidaa
open Go.RowKit Go.Shelf
def QlB (xs ys : List UInt32) (r : Int) : Prop :=
 (xs.length < ys.length ∧ r = -1) ∨ (ys.length < xs.length ∧ r = 1) ∨ (xs.length = ys.length ∧ (((∀ j, j < xs.length → xs.getD j 0 = ys.getD j 0) ∧ r = 0) ∨
  ∃ j, j < xs.length ∧ (∀ i, j < i → i < xs.length → xs.getD i 0 = ys.getD i 0) ∧ xs.getD j 0 ≠ ys.getD j 0 ∧ r = if (xs.getD j 0).toNat < (ys.getD j 0).toNat then -1 else 1))
def QkL (xs ys : List UInt32) (i : Nat) : Prop := xs.getD i 0 = ys.getD i 0
def Qdi (xs ys : List UInt32) (i : Nat) : Int := if (xs.getD i 0).toNat < (ys.getD i 0).toNat then -1 else 1
theorem Xy {xs : List UInt32} {i : Nat} (h : i < xs.length) : xs.getD i 0 = xs[i] := by simp [List.getD, h]
theorem Qaf {xs ys : List UInt32} {i : Nat} (h : i < xs.length) (h' : i < ys.length) : QkL xs ys i ↔ xs[i] = ys[i] := by unfold QkL; rw [Xy h, Xy h']
theorem Qg0 {xs ys : List UInt32} {i : Nat} (h : i < xs.length) (h' : i < ys.length) (hl : xs[i].toNat < ys[i].toNat) : Qdi xs ys i = -1 := by unfold Qdi; rw [Xy h, Xy h', if_pos hl]
theorem Qg1 {xs ys : List UInt32} {i : Nat} (h : i < xs.length) (h' : i < ys.length) (hl : ¬ xs[i].toNat < ys[i].toNat) : Qdi xs ys i = 1 := by unfold Qdi; rw [Xy h, Xy h', if_neg hl]
theorem QhN {n k : Nat} (hk : k ≤ n) {i : Nat} (hi : i < n) (h : n - k ≤ i) : (⟨i, hi⟩ : Fin n) ∈ bk n k := by
 simp only [bk, List.mem_filterMap, List.mem_range]
 refine ⟨n - 1 - i, by omega, ?_⟩
 rw [dif_pos (by omega)]
 exact congrArg some (Fin.ext (by show n - 1 - (n - 1 - i) = i; omega))
theorem Qfv {xs : List UInt32} {i : Nat} (h : i < xs.length) : xs.getD i 0 = xs[i] := by simp [List.getD, h]
attribute [local go_sem] Oper.semAt_some
theorem QkM (F : Fence) (n : Nat) (h4 : F.fn 34) (h6 : F.fn 106) (h8 : F.fn 154) (hro : F.round = none) (hn : 3 ≤ n) (A A' : Option Addr) (c c' : Nat) (xs ys : List UInt32) (w : World)
  (hcx : xs.length ≤ 9223372036854775807) {lab : Lab} (hx : Ja lab w A (xs.map u32)) (hy : Ja lab w A' (ys.map u32)) :
  CallsIn F n Try.prog 34 #[.agg #[.slice A xs.length c], .agg #[.slice A' ys.length c']] w fun e W' => (∃ r, e = .returned (.int .i64 r) ∧ QlB xs ys r) ∧ Below w.heap.size w W' := by
 have h1 : 1 ≤ n := by omega
 refine callsIn_of_wp_marks Try.func34 rfl h4 ?_ hro
 simp only [Try.ntmps34, List.size_toArray, List.length_cons, List.length_nil, Nat.reduceAdd, Nat.reduceSub, Array.replicate_succ, Array.replicate_zero, List.push_toArray, List.append_toArray, List.nil_append, List.cons_append]
 gi_wp2_with (gi_at_call 106; refine (QfW F (n - 1) h6 hro _ _ _ _).mono ?_; rintro e w' ⟨rfl, rfl⟩)
 ·have hlt : xs.length < ys.length := by assumption
  exact ⟨.int .i64 (-1), by simp [results, Try.f34, go_sem], ⟨-1, rfl, .inl ⟨hlt, rfl⟩⟩, (((Below.refl _ w).alloc (Nat.le_refl _) _).alloc (by simp) _).alloc (by simp; omega) _⟩
 ·have hne : ((xs.length : Int) != (ys.length : Int)) = true := by assumption
  have hge : ¬ xs.length < ys.length := by first | assumption | (simp; assumption)
  have hne2 : xs.length ≠ ys.length := by intro e; rw [e] at hne; simp at hne
  exact ⟨.int .i64 1, by simp [results, Try.f34, go_sem], ⟨1, rfl, .inr (.inl ⟨by omega, rfl⟩)⟩, (((Below.refl _ w).alloc (Nat.le_refl _) _).alloc (by simp) _).alloc (by simp; omega) _⟩
 ·have hne : ((xs.length : Int) != (ys.length : Int)) = false := by assumption
  have hlen : xs.length ≤ ys.length ∧ ys.length ≤ xs.length := by have h9 := hne; simp at h9; omega
  have bT := Boxed.new (w.alloc (.cells #[.slice A xs.length c] 60)) 60 (.slice A' ys.length c')
  have bR := Boxed.new ((w.alloc (.cells #[.slice A xs.length c] 60)).alloc (.cells #[.slice A' ys.length c'] 60)) 3 (.int .i64 0)
  have bN := Boxed.new (((w.alloc (.cells #[.slice A xs.length c] 60)).alloc (.cells #[.slice A' ys.length c'] 60)).alloc (.cells #[.int .i64 0] 3)) 58 (.slice A xs.length c)
  simp only [World.size_alloc] at bT bR bN
  have hB0 : Below w.heap.size w ((((w.alloc (.cells #[.slice A xs.length c] 60)).alloc (.cells #[.slice A' ys.length c'] 60)).alloc (.cells #[.int .i64 0] 3)).alloc (.cells #[.slice A xs.length c] 58)) :=
   ((((Below.refl _ w).alloc (Nat.le_refl _) _).alloc (by simp) _).alloc (by simp; omega) _).alloc (by simp; omega) _
  obtain ⟨W0, hW0⟩ : ∃ W0, ((((w.alloc (.cells #[.slice A xs.length c] 60)).alloc (.cells #[.slice A' ys.length c'] 60)).alloc (.cells #[.int .i64 0] 3)).alloc (.cells #[.slice A xs.length c] 58)) = W0 := ⟨_, rfl⟩
  have hsz : W0.heap.size = w.heap.size + 4 := by rw [← hW0]; simp
  have cT := ((bT.alloc (.cells #[.int .i64 0] 3)).alloc (.cells #[.slice A xs.length c] 58)).cell
  have cR := (bR.alloc (.cells #[.slice A xs.length c] 58)).cell
  have fR := (bR.alloc (.cells #[.slice A xs.length c] 58)).frozen
  have cN := bN.cell
  rw [hW0] at hB0 cT cR fR cN ⊢
  obtain ⟨b, hbW, hseq⟩ : ∃ b, b < W0.heap.size ∧ SeqStopsK F (n - 1) Try.prog 154 #[.pointer (some ⟨w.heap.size + 1 + 1 + 1, 0, none⟩)] (Qh7 xs) (KB (w.heap.size + 1 + 1 + 1) b) (fun ys => ys = bk xs.length xs.length) (fun pre => ∃ k, k ≤ xs.length ∧ pre = bk xs.length k) xs.length W0 := by
   rcases hx with h0 | ⟨b, o, arr, t, fr, hA, hl, hh, hcell⟩
   ·have hz : xs = [] := by simpa using h0
    exact ⟨w.heap.size, by omega, K7 F (n - 1) h8 hro _ _ A c xs hz W0 (by omega) (by rw [cN, hz]; rfl)⟩
   ·have hbl : b < w.heap.size := Zj hh
    subst hA
    exact ⟨b, by omega, U3 F (n - 1) h8 hro (by omega) _ b o c xs hcx W0 (by omega) (by omega) cN fun j hj => by
     rw [Y9 (hB0.block b hbl), cell_of_row w b _ arr t fr hh]
     exact hcell j _ (by simp [hj])⟩
  refine wpIn_rangeFunc_ownG hro h1 (gf := 154) (lb := #[.pointer (some ⟨w.heap.size + 1 + 1 + 1, 0, none⟩)]) rfl h8 (enters_of Try.func154 (by kernel_rfl) rfl)
   hseq KB.trans (KB.put (by omega) hbW) (Below.refl _ _) (fun _ => rfl)
   (fun pre W => ((∀ p ∈ pre, QkL xs ys p.val) ∧ W.cell? ⟨w.heap.size + 1 + 1, 0, none⟩ = some (.int .i64 0) ∧ W.frozen? ⟨w.heap.size + 1 + 1, 0, none⟩ = false ∧ W.cell? ⟨w.heap.size + 1, 0, none⟩ = some (.slice A' ys.length c')) ∧ Below w.heap.size w W)
   (fun c0 pre W => (c0 = .ret ∧ ∃ ini last, pre = ini ++ [last] ∧ (∀ p ∈ ini, QkL xs ys p.val) ∧ ¬ QkL xs ys last.val ∧ W.cell? ⟨w.heap.size + 1 + 1, 0, none⟩ = some (.int .i64 (Qdi xs ys last.val))) ∧ Below w.heap.size w W)
   (OwnFrom.and (Own.from (fun s A B row hs hg hr => ⟨hs.1, cell_kept hs.2.1 hg hr, (frozen_kept hs.2.1 hg hr).trans hs.2.2.1, cell_kept hs.2.2.2 hg hr⟩) _) (ownFrom_below (Nat.le_refl _) (by omega)))
   (fun c => OwnFrom.and (Own.from (fun s A B row hs hg hr => by obtain ⟨hc, ini, last, e1, e2, e3, e4⟩ := hs; exact ⟨hc, ini, last, e1, e2, e3, cell_kept e4 hg hr⟩) _) (ownFrom_below (Nat.le_refl _) (by omega)))
   ⟨⟨by simp, cR, fR, cT⟩, hB0⟩
   (fun x => { tmps := #[.agg #[.slice A xs.length c], .agg #[.slice A' ys.length c'],
     .pointer (some ⟨w.heap.size, 0, none⟩), .pointer (some ⟨w.heap.size + 1, 0, none⟩), .pointer (some ⟨w.heap.size + 1 + 1, 0, none⟩), .int .i64 (x.val : Int), .int .u32 ((xs[x.val]).toNat : Int),
     .pointer (some ⟨w.heap.size, 0, none⟩), .slice A xs.length c, .int .i64 xs.length, .pointer (some ⟨w.heap.size + 1, 0, none⟩),
     .slice A' ys.length c', .int .i64 ys.length, .bool false, undef, undef, undef, undef,
     undef, undef, undef, .pointer (some ⟨w.heap.size, 0, none⟩), .slice A xs.length c,
     .func (.func 154) #[] #[.pointer (some ⟨w.heap.size + 1 + 1 + 1, 0, none⟩)], .int .i64 (x.val : Int),
     .int .u32 ((xs[x.val]).toNat : Int), undef, undef, undef, undef, undef, undef, undef, undef, undef, undef, undef, undef, undef, undef], defers := [] }) ?assign ?body ?done ?stop
  case assign =>
   intro l x W K hK
   gi_wp2
   exact hK
  case body =>
   rintro l pre x W ⟨⟨hp, hcr, hfr, hbt⟩, hB⟩ _
   have hxl := x.2
   rcases hy with h0 | ⟨b', o', arr', t', fr', hA', hl', hh', hcell'⟩
   ·have hz : ys = [] := by simpa using h0
    exfalso
    have h9 := hlen.1
    rw [hz] at h9; simp only [List.length_nil] at h9
    omega
   ·subst hA'
    obtain ⟨i, hi⟩ := x
    have hi2 : i < ys.length := by omega
    have hcy : W.cell? ⟨b', o' + i, none⟩ = some (.int .u32 ((ys[i]).toNat : Int)) := by
     rw [Y9 (hB.block b' (Zj hh')), cell_of_row w b' _ arr' t' fr' hh']
     exact hcell' i _ (by simp [hi2])
    gi_wp2
    ·have hlt : xs[i].toNat < ys[i].toNat := by assumption
     exact ⟨(KeepsOthers.setCell _ _ _).from _, ⟨rfl, pre, ⟨i, hi⟩, rfl, hp, by rw [Qaf hi hi2]; intro e; rw [e] at hlt; omega, by
      rw [Qg0 hi hi2 hlt]; exact World.cell?_setCell_same' _ _ _ (by rw [hcr]; rfl)⟩, hB.setCell (p := ⟨w.heap.size + 1 + 1, 0, none⟩) (by show w.heap.size ≤ w.heap.size + 1 + 1; omega) _⟩
    ·have hne' : ((xs[i].toNat : Int) != (ys[i].toNat : Int)) = true := by assumption
     have hlt : ¬ xs[i].toNat < ys[i].toNat := by first | assumption | (simp; assumption)
     exact ⟨(KeepsOthers.setCell _ _ _).from _, ⟨rfl, pre, ⟨i, hi⟩, rfl, hp, by rw [Qaf hi hi2]; intro e; rw [e] at hne'; simp at hne', by
      rw [Qg1 hi hi2 hlt]; exact World.cell?_setCell_same' _ _ _ (by rw [hcr]; rfl)⟩, hB.setCell (p := ⟨w.heap.size + 1 + 1, 0, none⟩) (by show w.heap.size ≤ w.heap.size + 1 + 1; omega) _⟩
    ·have he : ((xs[i].toNat : Int) != (ys[i].toNat : Int)) = false := by assumption
     have he2 : xs[i] = ys[i] := by
      rw [← UInt32.toNat_inj]
      simp only [bne_eq_false_iff_eq] at he
      omega
     refine ⟨KeepsFrom.refl _ _, KB.refl _ _ _, ⟨fun p hp' => (List.mem_append.1 hp').elim (hp p) (fun e => ?_), hcr, hfr, hbt⟩, hB⟩
     simp at e; subst e
     exact (Qaf hi hi2).2 he2
  case done =>
   rintro D ys' W hD rfl ⟨⟨hp, hcr, hfr, hbt⟩, hB⟩ hK
   gi_wp2
   have hK' := (KeepsOthers.setCell W ⟨w.heap.size + 1 + 1, 0, none⟩ (.int .i64 0)).same D _ hK rfl
   refine ⟨by simp, .inl ⟨_, _, rfl, run_takeDeferred hK', ?_⟩⟩
   have hc5 := cell_kept (World.cell?_setCell_same' W ⟨w.heap.size + 1 + 1, 0, none⟩ (.int .i64 0) (by rw [hcr]; rfl)) (grownBy_putObj' _ D (.deferred none)) (fun r e => by cases e; exact ⟨_, hK', rfl⟩)
   refine ⟨.int .i64 0, ?_, ⟨0, rfl, .inr (.inr ⟨by omega, .inl ⟨fun j hj => hp ⟨j, hj⟩ (QhN (Nat.le_refl _) hj (by omega)), rfl⟩⟩)⟩, (hB.setCell (p := ⟨w.heap.size + 1 + 1, 0, none⟩) (by show w.heap.size ≤ w.heap.size + 1 + 1; omega) _).trans (belowK_b (w := w) (Nat.le_refl _) _ D _ _ (by omega) hK' rfl rfl)⟩
   simp [results, Try.f34, go_sem, hc5]
  case stop =>
   rintro D c0 pre W hD ⟨k, hk, rfl⟩ ⟨⟨rfl, ini, last, e1, e2, e3, hcr⟩, hB⟩ hK
   gi_wp2
   refine ⟨by simp, .inl ⟨_, _, rfl, run_takeDeferred hK, ?_⟩⟩
   have hc5 := cell_kept hcr (grownBy_putObj' _ D (.deferred none)) (fun r e => by cases e; exact ⟨_, hK, rfl⟩)
   have hpos : 0 < xs.length := by have := last.2; omega
   obtain ⟨k', rfl⟩ : ∃ k', k = k' + 1 := by
    cases k with
    | zero => simp [bk] at e1
    | succ k' => exact ⟨k', rfl⟩
   rw [Qaj hpos] at e1
   obtain ⟨rfl, e5⟩ := List.append_inj' e1 rfl
   obtain rfl : (⟨xs.length - 1 - k', by omega⟩ : Fin xs.length) = last := by simpa using e5
   refine ⟨.int .i64 (Qdi xs ys (xs.length - 1 - k')), ?_, ⟨_, rfl, .inr (.inr ⟨by omega, .inr ⟨xs.length - 1 - k', by omega, fun i hi hi2 => e2 ⟨i, hi2⟩ (QhN (by omega) hi2 (by omega)), e3, rfl⟩⟩)⟩, hB.trans (belowK_b (w := w) (Nat.le_refl _) W D _ _ (by omega) hK rfl rfl)⟩
   simp [results, Try.f34, go_sem, hc5]
theorem Qf8 {a b : Nat} {r : Int} (h : QlB (Qj a) (Qj b) r) : r = Jo a b := by
 have hl : ∀ {x y : Nat}, (Qj x).length < (Qj y).length → x < y := fun {x y} h => by
  refine Classical.byContradiction fun hn => ?_
  have : nw y ≤ nw x := QW (by omega)
  unfold nw at this; omega
 rcases h with ⟨h, rfl⟩ | ⟨h, rfl⟩ | ⟨h, ⟨he, rfl⟩ | ⟨j, hj, he, hne, rfl⟩⟩
 ·have := hl h
  unfold Jo; rw [if_pos this]
 ·have := hl h
  unfold Jo; rw [if_neg (by omega), if_neg (by omega)]
 ·have : Qj a = Qj b := List.ext_getElem h fun i h1 h2 => by
   have := he i h1
   rwa [Qfv h1, Qfv h2] at this
  have := QaE this
  unfold Jo; rw [if_neg (by omega), if_pos this]
 ·
  have hd : ∀ i, j < i → a / 4294967296 ^ i % 4294967296 = b / 4294967296 ^ i % 4294967296 := fun i hi => by
   by_cases hi2 : i < (Qj a).length
   ·have := he i hi hi2
    rw [← Jg, ← Jg, this]
   ·rw [Qab (show nw a ≤ i by unfold nw; omega), Qab (show nw b ≤ i by unfold nw; omega)]
  have hq : a / 4294967296 ^ (j + 1) = b / 4294967296 ^ (j + 1) := by
   refine QaE (QdS ?_)
   intro i
   rw [Jg, Jg, Nat.div_div_eq_div_mul, Nat.div_div_eq_div_mul, ← Nat.pow_add]
   exact hd _ (by omega)
  have ha := Nat.div_add_mod a (4294967296 ^ (j + 1))
  have hb := Nat.div_add_mod b (4294967296 ^ (j + 1))
  rw [Xk] at ha hb
  have hp : 0 < 4294967296 ^ j := Nat.pow_pos (by omega)
  have h1 := Nat.mod_lt a hp
  have h2 := Nat.mod_lt b hp
  have hc := Km (x := ((Qj a).getD j 0).toNat) (y := ((Qj b).getD j 0).toNat) h1 h2
  have hc' := Km (x := ((Qj b).getD j 0).toNat) (y := ((Qj a).getD j 0).toNat) h2 h1
  have hne2 : ((Qj a).getD j 0).toNat ≠ ((Qj b).getD j 0).toNat := fun e => hne (UInt32.toNat_inj.1 e)
  rw [hq] at ha
  unfold Jo
  split
  ·rename_i hlt
   rw [if_pos (by omega)]
  ·rename_i hlt
   rw [if_neg (by omega), if_neg (by omega)]
theorem J8 {lab : Lab} {w : World} (hv : Ql lab w) {a : Nat} {v0 : Value} (h0 : Qi a lab w v0) {b : Nat} {v1 : Value} (h1 : Qi b lab w v1) :
  Calls Try.prog 34 #[v0, v1] w (fun e w' => ∃ v, e = .returned v ∧ (Is (i64 (Jo a b))) lab w' v ∧ Below w.heap.size w w') := by
 obtain ⟨A, c, rfl, hc1, hc2, hr⟩ := h0
 obtain ⟨A', c', rfl, hc1', hc2', hr'⟩ := h1
 refine callsIn_wide.1 ((QkM Fence.wide 3 trivial trivial trivial rfl (Nat.le_refl _) A A' c c' (Qj a) (Qj b) w (by show nw a ≤ _; omega) hr hr').mono ?_)
 rintro e w' ⟨⟨r, rfl, hcl⟩, hb⟩
 exact ⟨_, rfl, by rw [Qf8 hcl]; rfl, hb⟩
end Go.Proofs.Ytgfomedobfaidaa
end
section
set_option linter.unusedVariables false
set_option linter.unusedSimpArgs false
namespace Go.Proofs.Ytgfomedobfaidaa
open Go.RowKit
def QkV (d : Nat) (t : TypeId) (n : Nat) (cs : List Value) : VP := fun lab w v => ∃ b, v = .slice (some ⟨b, 0, none⟩) n n ∧ cs.length = n ∧ Own lab w d b t cs.toArray
instance (d : Nat) (t : TypeId) (n : Nat) (cs : List Value) : PerT [] (QkV d t n cs) := ⟨fun s ⟨b, h1, h2, h3⟩ => ⟨b, h1, h2, h3.lift s (by simp)⟩⟩
section
variable {ds : List Deferred} {P : Program} {N : Nat} {ops : Array Oper} {Q : Exit → Act → World → Prop} {l : List (Nat × Value)}
theorem Qfh {Xl : Lab} {w0 : World} {Φ : Nat → VP} {T U : List Nat} {i d : Nat} {f : Nat} {xs : List Operand} {tys : Array TypeId} {ty : TypeId} {pos : String} {af : Array Edge} (ho : ops[i]? = some ⟨some d, .call ⟨.value (.func f), xs.toArray, tys⟩, ty, pos, af, none⟩) (hd : d < N) (hfc : Qw P f)
  (h : ∀ lab w a, Ql lab w → Stp T Xl w0 lab w → Fr ds N l a → (∀ j, Zc ops i j = true → QdP ops Φ j lab w a) → ∃ l' vs, Fr ds N l' a ∧ evs l' xs = some vs ∧ Calls P f vs.toArray w (Eff U lab w (Φ i))) : KA ds P N ops Q l Xl w0 Φ T U i := by
 intro lab w a hv hs hf hl
 obtain ⟨l', vs, hf', hx, hc⟩ := h lab w a hv hs hf hl
 unfold wpOp
 simp only [ho]
 rw [if_pos (by simp [Region.wanted])]
 refine .inl ?_
 unfold Oper.wp
 rw [XS hfc hx w a.eval (fun x u hu => hf'.eval hu)]
 refine Calls.mono hc ?_
 rintro e w' ⟨v, lab', rfl, hphi, hst, hv'⟩
 exact ⟨lab', v, fun o h => by cases h; rfl, fun d' h => by simp [Z3, ho] at h; subst h; exact hd, hv', hst, hphi⟩
variable {w : World} {lab : Lab} {Φ : List PV} {T U : List Nat} {i d : Nat} {ty : TypeId} {pos : String} {af : Array Edge}
theorem oE {f : Nat} {xs : List Operand} {tys : Array TypeId} (deps : List (Nat × Nat)) (ho : ops[i]? = some ⟨some d, .call ⟨.value (.func f), xs.toArray, tys⟩, ty, pos, af, none⟩) (hdep : QaQ ops i deps = true) (hf : Qw P f)
  (h : ∀ lab' w', Ql lab' w' → Stp T lab w lab' w' → Ask Φ lab' w' (fun l' => ∃ vs, evs l' xs = some vs ∧ Calls P f vs.toArray w' (Eff U lab' w' (Uk Φ i))) deps l) (hd : d < N := by decide) : OpL ds P N ops Q l lab w Φ T U i := fun w0 s0 =>
 Qfh ho hd hf fun lab' w' a hv hs hfr hl => by
  obtain ⟨l', hf', vs, h1, h4⟩ := Ask.elim (h lab' w' hv ((s0.trans hs).more (by simp))) hfr (YT hdep hl)
  exact ⟨l', vs, hf', h1, h4⟩
end
end Go.Proofs.Ytgfomedobfaidaa
end
section
set_option linter.unusedVariables false
set_option linter.unusedSimpArgs false
namespace Go.Proofs.Ytgfomedobfaidaa
open Go.RowKit
theorem Qb8 {lab : Lab} {w : World} (hv : Ql lab w) {a : Nat} {v0 : Value} (h0 : Qi a lab w v0) {b : Nat} {v1 : Value} (h1 : Qi b lab w v1) (ha : nw a ≤ 1000000) (hb : nw b ≤ 1000000) :
  Calls Try.prog 111 #[v0, v1] w (fun e w' => ∃ v, e = .returned v ∧ (Zo (Qi (if a < b then 0 else a - b)) (Is (.bool (decide (b ≤ a))))) lab w' v ∧ Below w.heap.size w w') := by
 obtain ⟨L0, h0L, ⟨zU0, z00⟩, hX⟩ := QZ hv
 replace h0 := up z00 h0
 obtain ⟨A1, c2, rfl⟩ := Qi.shape h0
 have z3 := Qi.cap h0
 replace h1 := up z00 h1
 obtain ⟨A4, c5, rfl⟩ := Qi.shape h1
 have z6 := Qi.cap h1
 have hLa : (Qj a).length = nw a := rfl
 have hLb : (Qj b).length = nw b := rfl
 refine Qu Try.func111 rfl Try.ntmps111 (lB9 rfl) ?_
 refine rsr ?_
 refine Yz 3 [.slice A1 (nw a) c2] h0L rfl rfl fun b9 L7 w8 o10 s11 h12 => ?_
 refine Yz 4 [.slice A4 (nw b) c5] h12 rfl rfl fun b15 L13 w14 o16 s17 h18 => ?_
 refine QM 5 [.slice none 0 0] h18 Qn rfl fun b21 L19 w20 o22 s23 h24 => ?_
 refine sv (Qa.assign rfl) ?_
 refine Seq.next ?_
 refine Run.seq ?_
 refine rsr ?_
 have c26 := s17.trans s23
 have o25 := o10.up c26
 refine sv (Qb [.slice A1 (nw a) c2] o25 Qn rfl rfl) ?_
 have o27 := o16.up s23
 refine sv (Qb [.slice A4 (nw b) c5] o27 Qn rfl rfl) ?_
 have c28 := s11.trans c26
 have q29 := up c28 h0
 have q30 := up c28 h1
 refine Q7 (V := Is (i64 (Jo a b))) ZP h24 rfl (J8 h24 q29 q30) fun v31 w32 q33 s34 h35 => ?_
 have q33 := Is.out q33; subst q33
 refine sv (Qa.lss rfl rfl) ?_
 refine Seq.next ?_
 rcases Decidable.em ((Jo a b : Int) < (0 : Int)) with hp1 | hp1
 ·refine Qc rfl (dT9 hp1) ?_
  refine rsr ?_
  refine sv (Qa.build [] [(0, 1)] [.slice none 0 0] Try.underlying60 Qn (by kernel_rfl) rfl (by kernel_rfl)) ?_
  have o36 := o22.up s34
  refine Q2 [.slice none 0 0] h35 o36 Qn rfl rfl rfl (lB9 rfl) rfl rfl fun w37 o38 s39 h40 => ?_
  refine sv (Qa.assign rfl) ?_
  refine Seq.next ?_
  have c41 := s34.trans s39
  have c42 := c28.trans c41
  obtain ⟨⟨zU, zo⟩, zb⟩ := hX c42 (by decide)
  have q43 := up s39 (Qi.zero L19 w32)
  refine Run.ret (Qr ?_)
  exact QP Try.results111 ⟨_, rfl, Q6 [.slice none 0 0] o38 Qn rfl⟩ rfl ⟨_, rfl, ⟨_, _, rfl, (Q1 (by rw [if_pos (QaR hp1)]) (up zo q43)), (Jj (by (have h9 := QaR hp1; simp; omega)) _ _)⟩, zb⟩
 refine Qc rfl (dF9 hp1) ?_
 refine Qg (fun _ _ h => h) ?_
 refine rsr ?_
 refine sv (Qd 0 Try.underlying60 rfl Zf rfl rfl) ?_
 have o44 := o25.up s34
 have q46 := up s34 q29
 have q45 := QA q46
 refine sv (Qf o44 Zf rfl rfl) ?_
 refine sv (Qa.len Try.underlying58 rfl) ?_
 refine Jv (k := 20) u32 (0 : UInt32) (nw a) h35 Try.underlying58 Qx rfl rfl rfl (by omega) (by omega) (by omega) (by omega) (by decide) ?_
 intro lab47 w48 b49 o50 s51 hv52
 refine sv (Qa.assign rfl) ?_
 refine nsr ?_
 refine sv (Qa.assign rfl) ?_
 refine Seq.next ?_
 refine Run.seq ?_
 refine rsr ?_
 refine sv (Qd 0 Try.underlying60 rfl Zf rfl rfl) ?_
 have o53 := o44.up s51
 have q55 := up s51 q46
 have q54 := QA q55
 refine sv (Qf o53 Zf rfl rfl) ?_
 refine sv (Qa.len Try.underlying58 rfl) ?_
 refine sv (Qa.move rfl) ?_
 refine Seq.next ?_
 refine Run.block ?_
 refine Run.loop (fun m' l' w' => ∃ (k : Nat) (lab' : Lab), m' = nw a - k ∧ l' = [(23, i64 ((k : Nat) : Int)), (7, i64 (bor a b k)), (3, .pointer (some ⟨b15, 0, none⟩)), (4, .pointer (some ⟨b21, 0, none⟩)), (5, .bool false), (6, .slice (some ⟨b49, 0, none⟩) (nw a) (nw a)), (21, .slice A1 (nw a) c2), (22, i64 ((nw a : Nat) : Int))] ∧ Ql lab' w' ∧ Stp [20] lab47 w48 lab' w' ∧ Own lab' w' 20 b49 167 (List.map u32 (Xc (a - b) k (nw a))).toArray ∧ (k ≤ nw a)) (nw a - 0) (l0 := [(23, i64 ((0 : Nat) : Int)), (7, i64 (bor a b 0)), (3, .pointer (some ⟨b15, 0, none⟩)), (4, .pointer (some ⟨b21, 0, none⟩)), (5, .bool false), (6, .slice (some ⟨b49, 0, none⟩) (nw a) (nw a)), (21, .slice A1 (nw a) c2), (22, i64 ((nw a : Nat) : Int))]) ⟨(congrArg (fun z => some (i64 z)) (show (0 : Int) = ((0 : Nat) : Int) from by rfl)), (congrArg (fun z => some (i64 z)) (show (0 : Int) = bor a b 0 from by exact (QcN a b).symm)), rfl, rfl, rfl, rfl, rfl, rfl, trivial⟩ ⟨0, lab47, rfl, rfl, hv52, ((Stp.refl _ _).more (by simp)), ((show List.replicate (nw a) (0 : UInt32) = Xc (a - b) 0 (nw a) from by exact (Qaw _ _).symm) ▸ o50), (by omega)⟩ ?_
 intro m56 l57 w58 H59
 obtain ⟨k, lab60, hzm, rfl, hv61, s62, o63, hk⟩ := H59
 replace hzm := hzm.symm; subst hzm
 have hz := Qln b k
 have hbl := QhM a b k
 have hba := Qah hp1
 have hs := QcO a b k
 refine rsr ?_
 refine sv (Qa.lss rfl rfl) ?_
 refine Seq.next ?_
 refine Run.seq ?_
 rcases Decidable.em ((((k : Nat) : Int) : Int) < (((nw a : Nat) : Int) : Int)) with hp2 | hp2
 rotate_left
 ·refine Qc rfl (dF9 hp2) ?_
  refine Qv (fun _ _ h => h) ?_
  refine rsr ?_
  refine sv (Qa.move rfl) ?_
  have hv101 := Ql.release hv61 20
  have q102 : Qo (Xc (a - b) k (nw a)) (Q5 lab60 20) w58 (.slice (some ⟨b49, 0, none⟩) (nw a) (nw a)) := Qo.release o63 (by (rw [Z5 (by omega)])) (by omega)
  refine Q7 (V := Qi (wv (Xc (a - b) k (nw a)))) Vf hv101 rfl (Yt hv101 q102) fun v103 w104 q105 s106 h107 => ?_
  obtain ⟨A108, c109, rfl⟩ := Qi.shape q105
  have z110 := Qi.cap q105
  have c112 := (Stp.release (lab := lab60) (w := w58) 20).trans s106
  have c113 := s62.trans c112
  have c114 := s51.trans c113
  have c115 := s34.trans c114
  have o111 := o22.up c115
  refine Q2 [.slice A108 (nw (wv (Xc (a - b) k (nw a)))) c109] h107 o111 Qn rfl rfl rfl (lB9 rfl) rfl rfl fun w116 o117 s118 h119 => ?_
  refine sv (Qa.assign rfl) ?_
  refine Seq.next ?_
  have c120 := c115.trans s118
  have c121 := c28.trans c120
  obtain ⟨⟨zU, zo⟩, zb⟩ := hX c121 (by decide)
  have q122 := up s118 q105
  refine Run.ret ?_
  exact QP Try.results111 ⟨_, rfl, Q6 [.slice A108 (nw (wv (Xc (a - b) k (nw a)))) c109] o117 Qn rfl⟩ rfl ⟨_, rfl, ⟨_, _, rfl, (Q1 (by (rw [if_neg (by have h9 := Qah hp1; omega), show k = nw a by omega, Qie (Nat.le_refl _)])) (up zo q122)), (Jj (by (have h9 := Qah hp1; simp; omega)) _ _)⟩, zb⟩
 refine Qc rfl (dT9 hp2) ?_
 refine Qg (fun _ _ h => h) ?_
 refine Run.seq ?_
 refine Run.block ?_
 refine rsr ?_
 refine sv (Qa.move rfl) ?_
 have q64 := up s62 q54
 refine sv (Qs k Try.underlying58 Qx rfl rfl (Qo.row q64) (by simp [nw]) (by omega) (by omega)) ?_
 have t65 := UInt32.toNat_lt (List.getD (Qj a) k (0 : UInt32))
 refine sv (Qy Qx rfl (Qo.row q64) (Jp u32 _ (0 : UInt32) (by omega))) ?_
 refine sv (Qa.assign rfl) ?_
 refine sv (Qa.assign rfl) ?_
 refine nsr ?_
 refine sv (Qa.move rfl) ?_
 refine sv (Qz Try.underlying167 Try.underlying2 rfl (Yc _)) ?_
 refine sv (Qa.move rfl) ?_
 refine sv (Qa.sub rfl rfl (by omega)) ?_
 refine sv (Qa.assign rfl) ?_
 refine Seq.next ?_
 refine Run.seq ?_
 refine rsr ?_
 refine sv (Qa.move rfl) ?_
 refine sv (Qd 0 Try.underlying60 rfl Zf rfl rfl) ?_
 have c67 := s51.trans s62
 have c68 := s34.trans c67
 have o66 := o27.up c68
 have q70 := up c68 q30
 have q69 := QA q70
 refine sv (Qf o66 Zf rfl rfl) ?_
 refine sv (Qa.len Try.underlying58 rfl) ?_
 refine sv (Qa.lss rfl rfl) ?_
 refine Seq.next ?_
 rcases Decidable.em ((((k : Nat) : Int) : Int) < (((nw b : Nat) : Int) : Int)) with hp3 | hp3
 rotate_left
 ·refine Qc rfl (dF9 hp3) ?_
  refine Qg (fun _ _ h => h) ?_
  refine rsr ?_
  refine sv (Qa.assign rfl) ?_
  refine Seq.next ?_
  refine Run.seq ?_
  refine rsr ?_
  refine sv (Qa.move rfl) ?_
  refine sv (Qa.lss rfl rfl) ?_
  refine Seq.next ?_
  rcases Decidable.em ((((List.getD (Qj a) k (0 : UInt32)).toNat : Int) - (bor a b k) : Int) < (0 : Int)) with hp4 | hp4
  rotate_left
  ·refine Qc rfl (dF9 hp4) ?_
   refine Qg (fun _ _ h => h) ?_
   refine Run.region ?_
   refine sv (Qa.move rfl) ?_
   refine sv (Qa.move rfl) ?_
   refine sv (Qa.move rfl) ?_
   refine sv (YC Try.underlying2 Try.underlying167 rfl (by omega)) ?_
   refine sv (Q4 k Try.underlying58 Qx rfl rfl (by omega) (by omega)) ?_
   refine Q8 (k := 20) (j := k) (v := (UInt32.ofNat (((List.getD (Qj a) k (0 : UInt32)).toNat : Int) - (bor a b k)).toNat)) u32 hv61 o63 Qx (congrArg (fun o => some (Value.pointer (some ⟨b49, o, none⟩))) (Nat.mul_one k)) rfl (by (rw [Z5 (by omega)]; omega)) rfl rfl fun w94 o95 s96 h97 => ?_
   refine QH (fun _ _ h => h) ?_
   refine Run.region ?_
   refine sv (Qa.add rfl rfl (by omega)) ?_
   refine sv (Qa.move rfl) ?_
   have c98 := s62.trans s96
   exact Seq.nil (fun a99 h100 => ⟨_, by omega, _, h100.weaken (QG (l' := [(23, i64 (((k + 1) : Nat) : Int)), (7, i64 (bor a b (k + 1))), (3, .pointer (some ⟨b15, 0, none⟩)), (4, .pointer (some ⟨b21, 0, none⟩)), (5, .bool false), (6, .slice (some ⟨b49, 0, none⟩) (nw a) (nw a)), (21, .slice A1 (nw a) c2), (22, i64 ((nw a : Nat) : Int))]) ⟨(congrArg (fun z => some (i64 z)) (show (((k : Nat) : Int) + 1 : Int) = (((k + 1) : Nat) : Int) from by rfl)), (congrArg (fun z => some (i64 z)) (show (0 : Int) = bor a b (k + 1) from by omega)), rfl, rfl, rfl, rfl, rfl, rfl, trivial⟩), ⟨k + 1, lab60, rfl, rfl, h97, (c98.more (by decide)), ((show List.set (Xc (a - b) k (nw a)) k (UInt32.ofNat (((List.getD (Qj a) k (0 : UInt32)).toNat : Int) - (bor a b k)).toNat) = Xc (a - b) (k + 1) (nw a) from by exact VU hba (by omega) ⟨by omega, by omega⟩ (by omega)) ▸ o95), (by omega)⟩⟩)
  refine Qc rfl (dT9 hp4) ?_
  refine rsr ?_
  refine sv (Qa.move rfl) ?_
  refine sv (Qa.add rfl rfl (by omega)) ?_
  refine sv (Qa.assign rfl) ?_
  refine Seq.next ?_
  refine Run.region ?_
  refine sv (Qa.assign rfl) ?_
  refine Seq.next ?_
  refine Run.region ?_
  refine sv (Qa.move rfl) ?_
  refine sv (Qa.move rfl) ?_
  refine sv (Qa.move rfl) ?_
  refine sv (YC Try.underlying2 Try.underlying167 rfl (by omega)) ?_
  refine sv (Q4 k Try.underlying58 Qx rfl rfl (by omega) (by omega)) ?_
  refine Q8 (k := 20) (j := k) (v := (UInt32.ofNat ((((List.getD (Qj a) k (0 : UInt32)).toNat : Int) - (bor a b k)) + 4294967296).toNat)) u32 hv61 o63 Qx (congrArg (fun o => some (Value.pointer (some ⟨b49, o, none⟩))) (Nat.mul_one k)) rfl (by (rw [Z5 (by omega)]; omega)) rfl rfl fun w87 o88 s89 h90 => ?_
  refine QH (fun _ _ h => h) ?_
  refine Run.region ?_
  refine sv (Qa.add rfl rfl (by omega)) ?_
  refine sv (Qa.move rfl) ?_
  have c91 := s62.trans s89
  exact Seq.nil (fun a92 h93 => ⟨_, by omega, _, h93.weaken (QG (l' := [(23, i64 (((k + 1) : Nat) : Int)), (7, i64 (bor a b (k + 1))), (3, .pointer (some ⟨b15, 0, none⟩)), (4, .pointer (some ⟨b21, 0, none⟩)), (5, .bool false), (6, .slice (some ⟨b49, 0, none⟩) (nw a) (nw a)), (21, .slice A1 (nw a) c2), (22, i64 ((nw a : Nat) : Int))]) ⟨(congrArg (fun z => some (i64 z)) (show (((k : Nat) : Int) + 1 : Int) = (((k + 1) : Nat) : Int) from by rfl)), (congrArg (fun z => some (i64 z)) (show (1 : Int) = bor a b (k + 1) from by omega)), rfl, rfl, rfl, rfl, rfl, rfl, trivial⟩), ⟨k + 1, lab60, rfl, rfl, h90, (c91.more (by decide)), ((show List.set (Xc (a - b) k (nw a)) k (UInt32.ofNat ((((List.getD (Qj a) k (0 : UInt32)).toNat : Int) - (bor a b k)) + 4294967296).toNat) = Xc (a - b) (k + 1) (nw a) from by exact VU hba (by omega) ⟨by omega, by omega⟩ (by omega)) ▸ o88), (by omega)⟩⟩)
 refine Qc rfl (dT9 hp3) ?_
 refine Run.region ?_
 refine sv (Qa.move rfl) ?_
 refine sv (Qd 0 Try.underlying60 rfl Zf rfl rfl) ?_
 have q71 := QA q70
 refine sv (Qf o66 Zf rfl rfl) ?_
 refine sv (Qa.move rfl) ?_
 refine sv (Qs k Try.underlying58 Qx rfl rfl (Qo.row q71) (by simp [nw]) (by omega) (by omega)) ?_
 have t72 := UInt32.toNat_lt (List.getD (Qj b) k (0 : UInt32))
 refine sv (Qy Qx rfl (Qo.row q71) (Jp u32 _ (0 : UInt32) (by omega))) ?_
 refine sv (Qz Try.underlying167 Try.underlying2 rfl (Yc _)) ?_
 refine sv (Qa.sub rfl rfl (by omega)) ?_
 refine sv (Qa.assign rfl) ?_
 refine nsr ?_
 refine sv (Qa.assign rfl) ?_
 refine Seq.next ?_
 refine Run.seq ?_
 refine rsr ?_
 refine sv (Qa.move rfl) ?_
 refine sv (Qa.lss rfl rfl) ?_
 refine Seq.next ?_
 rcases Decidable.em (((((List.getD (Qj a) k (0 : UInt32)).toNat : Int) - (bor a b k)) - ((List.getD (Qj b) k (0 : UInt32)).toNat : Int) : Int) < (0 : Int)) with hp4 | hp4
 rotate_left
 ·refine Qc rfl (dF9 hp4) ?_
  refine Qg (fun _ _ h => h) ?_
  refine Run.region ?_
  refine sv (Qa.move rfl) ?_
  refine sv (Qa.move rfl) ?_
  refine sv (Qa.move rfl) ?_
  refine sv (YC Try.underlying2 Try.underlying167 rfl (by omega)) ?_
  refine sv (Q4 k Try.underlying58 Qx rfl rfl (by omega) (by omega)) ?_
  refine Q8 (k := 20) (j := k) (v := (UInt32.ofNat ((((List.getD (Qj a) k (0 : UInt32)).toNat : Int) - (bor a b k)) - ((List.getD (Qj b) k (0 : UInt32)).toNat : Int)).toNat)) u32 hv61 o63 Qx (congrArg (fun o => some (Value.pointer (some ⟨b49, o, none⟩))) (Nat.mul_one k)) rfl (by (rw [Z5 (by omega)]; omega)) rfl rfl fun w80 o81 s82 h83 => ?_
  refine QH (fun _ _ h => h) ?_
  refine Run.region ?_
  refine sv (Qa.add rfl rfl (by omega)) ?_
  refine sv (Qa.move rfl) ?_
  have c84 := s62.trans s82
  exact Seq.nil (fun a85 h86 => ⟨_, by omega, _, h86.weaken (QG (l' := [(23, i64 (((k + 1) : Nat) : Int)), (7, i64 (bor a b (k + 1))), (3, .pointer (some ⟨b15, 0, none⟩)), (4, .pointer (some ⟨b21, 0, none⟩)), (5, .bool false), (6, .slice (some ⟨b49, 0, none⟩) (nw a) (nw a)), (21, .slice A1 (nw a) c2), (22, i64 ((nw a : Nat) : Int))]) ⟨(congrArg (fun z => some (i64 z)) (show (((k : Nat) : Int) + 1 : Int) = (((k + 1) : Nat) : Int) from by rfl)), (congrArg (fun z => some (i64 z)) (show (0 : Int) = bor a b (k + 1) from by omega)), rfl, rfl, rfl, rfl, rfl, rfl, trivial⟩), ⟨k + 1, lab60, rfl, rfl, h83, (c84.more (by decide)), ((show List.set (Xc (a - b) k (nw a)) k (UInt32.ofNat ((((List.getD (Qj a) k (0 : UInt32)).toNat : Int) - (bor a b k)) - ((List.getD (Qj b) k (0 : UInt32)).toNat : Int)).toNat) = Xc (a - b) (k + 1) (nw a) from by exact VU hba (by omega) ⟨by omega, by omega⟩ (by omega)) ▸ o81), (by omega)⟩⟩)
 refine Qc rfl (dT9 hp4) ?_
 refine rsr ?_
 refine sv (Qa.move rfl) ?_
 refine sv (Qa.add rfl rfl (by omega)) ?_
 refine sv (Qa.assign rfl) ?_
 refine Seq.next ?_
 refine Run.region ?_
 refine sv (Qa.assign rfl) ?_
 refine Seq.next ?_
 refine Run.region ?_
 refine sv (Qa.move rfl) ?_
 refine sv (Qa.move rfl) ?_
 refine sv (Qa.move rfl) ?_
 refine sv (YC Try.underlying2 Try.underlying167 rfl (by omega)) ?_
 refine sv (Q4 k Try.underlying58 Qx rfl rfl (by omega) (by omega)) ?_
 refine Q8 (k := 20) (j := k) (v := (UInt32.ofNat (((((List.getD (Qj a) k (0 : UInt32)).toNat : Int) - (bor a b k)) - ((List.getD (Qj b) k (0 : UInt32)).toNat : Int)) + 4294967296).toNat)) u32 hv61 o63 Qx (congrArg (fun o => some (Value.pointer (some ⟨b49, o, none⟩))) (Nat.mul_one k)) rfl (by (rw [Z5 (by omega)]; omega)) rfl rfl fun w73 o74 s75 h76 => ?_
 refine QH (fun _ _ h => h) ?_
 refine Run.region ?_
 refine sv (Qa.add rfl rfl (by omega)) ?_
 refine sv (Qa.move rfl) ?_
 have c77 := s62.trans s75
 exact Seq.nil (fun a78 h79 => ⟨_, by omega, _, h79.weaken (QG (l' := [(23, i64 (((k + 1) : Nat) : Int)), (7, i64 (bor a b (k + 1))), (3, .pointer (some ⟨b15, 0, none⟩)), (4, .pointer (some ⟨b21, 0, none⟩)), (5, .bool false), (6, .slice (some ⟨b49, 0, none⟩) (nw a) (nw a)), (21, .slice A1 (nw a) c2), (22, i64 ((nw a : Nat) : Int))]) ⟨(congrArg (fun z => some (i64 z)) (show (((k : Nat) : Int) + 1 : Int) = (((k + 1) : Nat) : Int) from by rfl)), (congrArg (fun z => some (i64 z)) (show (1 : Int) = bor a b (k + 1) from by omega)), rfl, rfl, rfl, rfl, rfl, rfl, trivial⟩), ⟨k + 1, lab60, rfl, rfl, h76, (c77.more (by decide)), ((show List.set (Xc (a - b) k (nw a)) k (UInt32.ofNat (((((List.getD (Qj a) k (0 : UInt32)).toNat : Int) - (bor a b k)) - ((List.getD (Qj b) k (0 : UInt32)).toNat : Int)) + 4294967296).toNat) = Xc (a - b) (k + 1) (nw a) from by exact VU hba (by omega) ⟨by omega, by omega⟩ (by omega)) ▸ o74), (by omega)⟩⟩)
theorem QeR {lab : Lab} {w : World} (hv : Ql lab w) {l : List UInt32} {v0 : Value} (h0 : Qo l lab w v0) {n : Nat} (hl : List.length l ≤ 1000000) (hn : n < 32) :
  Calls Try.prog 159 #[v0, i64 ((n : Nat) : Int)] w (fun e w' => ∃ v, e = .returned v ∧ (Qo (shl l n)) lab w' v ∧ Below w.heap.size w w') := by
 obtain ⟨L0, h0L, ⟨zU0, z00⟩, hX⟩ := QZ hv
 replace h0 := up z00 h0
 obtain ⟨A1, c2, rfl⟩ := Qo.shape h0
 have z3 := Qo.cap h0
 refine Qu Try.func159 rfl Try.ntmps159 (lB9 rfl) ?_
 refine rsr ?_
 refine sv (Qa.assign rfl) ?_
 refine nsr ?_
 refine sv (Qa.move rfl) ?_
 refine sv (Qa.len Try.underlying58 rfl) ?_
 refine sv (Qa.add rfl rfl (by omega)) ?_
 refine Jv (k := 13) u32 (0 : UInt32) ((List.length l) + 1) h0L Try.underlying58 Qx rfl rfl rfl (by omega) (by omega) (by omega) (by omega) (by decide) ?_
 intro lab4 w5 b6 o7 s8 hv9
 refine sv (Qa.assign rfl) ?_
 refine Seq.next ?_
 refine Run.seq ?_
 refine rsr ?_
 refine sv (Qa.move rfl) ?_
 refine sv (Qa.len Try.underlying58 rfl) ?_
 refine sv (Qa.move rfl) ?_
 refine Seq.next ?_
 refine Run.block ?_
 refine Run.loop (fun m' l' w' => ∃ (k : Nat) (lab' : Lab), m' = List.length l - k ∧ l' = [(15, i64 ((k : Nat) : Int)), (1, i64 ((n : Nat) : Int)), (4, .slice none 0 0), (5, .slice (some ⟨b6, 0, none⟩) ((List.length l) + 1) ((List.length l) + 1)), (13, .slice A1 (List.length l) c2), (14, i64 ((List.length l : Nat) : Int))] ∧ Ql lab' w' ∧ Stp [13] lab4 w5 lab' w' ∧ Own lab' w' 13 b6 167 (List.map u32 (wsN (wv (List.take k l) * 2 ^ n) (List.length l + 1))).toArray ∧ (k ≤ List.length l)) (List.length l - 0) (l0 := [(15, i64 ((0 : Nat) : Int)), (1, i64 ((n : Nat) : Int)), (4, .slice none 0 0), (5, .slice (some ⟨b6, 0, none⟩) ((List.length l) + 1) ((List.length l) + 1)), (13, .slice A1 (List.length l) c2), (14, i64 ((List.length l : Nat) : Int))]) ⟨(congrArg (fun z => some (i64 z)) (show (0 : Int) = ((0 : Nat) : Int) from by rfl)), rfl, rfl, rfl, rfl, rfl, trivial⟩ ⟨0, lab4, rfl, rfl, hv9, ((Stp.refl _ _).more (by simp)), ((show List.replicate ((List.length l) + 1) (0 : UInt32) = wsN (wv (List.take 0 l) * 2 ^ n) (List.length l + 1) from by (rw [List.take_zero]; show _ = wsN (0 * _) _; rw [Nat.zero_mul, XK])) ▸ o7), (by omega)⟩ ?_
 intro m10 l11 w12 H13
 obtain ⟨k, lab14, hzm, rfl, hv15, s16, o17, hk⟩ := H13
 replace hzm := hzm.symm; subst hzm
 refine rsr ?_
 refine sv (Qa.lss rfl rfl) ?_
 refine Seq.next ?_
 refine Run.seq ?_
 rcases Decidable.em ((((k : Nat) : Int) : Int) < (((List.length l : Nat) : Int) : Int)) with hp1 | hp1
 rotate_left
 ·refine Qc rfl (dF9 hp1) ?_
  refine Qv (fun _ _ h => h) ?_
  refine rsr ?_
  refine sv (Qa.move rfl) ?_
  refine sv (Qa.assign rfl) ?_
  refine Seq.next ?_
  have hv34 := Ql.release hv15 13
  have q35 : Qo (wsN (wv (List.take k l) * 2 ^ n) (List.length l + 1)) (Q5 lab14 13) w12 (.slice (some ⟨b6, 0, none⟩) ((List.length l) + 1) ((List.length l) + 1)) := Qo.release o17 (by exact Qq _ _) (by omega)
  have c36 := s16.trans (Stp.release (lab := lab14) (w := w12) 13)
  have c37 := s8.trans c36
  obtain ⟨⟨zU, zo⟩, zb⟩ := hX c37 (by decide)
  refine Run.ret ?_
  exact Qm Try.results159 rfl ⟨_, rfl, (XG (by (unfold shl; rw [List.take_of_length_le (by omega)])) (up zo q35)), zb⟩
 refine Qc rfl (dT9 hp1) ?_
 refine Qg (fun _ _ h => h) ?_
 refine Run.seq ?_
 refine Run.block ?_
 refine rsr ?_
 refine sv (Qa.move rfl) ?_
 have c18 := s8.trans s16
 have q19 := up c18 h0
 refine sv (Qs k Try.underlying58 Qx rfl rfl (Qo.row q19) (by simp [nw]) (by omega) (by omega)) ?_
 have t20 := UInt32.toNat_lt (List.getD l k (0 : UInt32))
 refine sv (Qy Qx rfl (Qo.row q19) (Jp u32 _ (0 : UInt32) (by omega))) ?_
 refine sv (Qa.assign rfl) ?_
 refine sv (Qa.assign rfl) ?_
 refine nsr ?_
 refine sv (Qa.move rfl) ?_
 refine sv (QB Try.underlying167 Try.underlying62 rfl) ?_
 refine sv (Qa.move rfl) ?_
 refine sv (Vk rfl rfl (by omega) (by exact Qen hn)) ?_
 refine sv (Qa.assign rfl) ?_
 refine nsr ?_
 refine sv (Qa.move rfl) ?_
 refine sv (Qa.move rfl) ?_
 refine sv (Q4 k Try.underlying58 Qx rfl rfl (by omega) (by omega)) ?_
 have t21 := UInt32.toNat_lt (List.getD (wsN (wv (List.take k l) * 2 ^ n) (List.length l + 1)) k (0 : UInt32))
 refine sv (Qf o17 Qx rfl (by rw [Nat.mul_one]; exact Zi u32 _ (0 : UInt32) (by (rw [Qq]; omega)))) ?_
 refine sv (Qa.move rfl) ?_
 refine sv (QF Try.underlying62 Try.underlying167 rfl) ?_
 refine sv (Z9 rfl rfl) ?_
 refine sv (Q4 k Try.underlying58 Qx rfl rfl (by omega) (by omega)) ?_
 refine Q8 (k := 13) (j := k) (v := ((List.getD (wsN (wv (List.take k l) * 2 ^ n) (List.length l + 1)) k (0 : UInt32)) ||| (UInt32.ofNat (((List.getD l k (0 : UInt32)).toNat) * 2 ^ n)))) u32 hv15 o17 Qx (congrArg (fun o => some (Value.pointer (some ⟨b6, o, none⟩))) (Nat.mul_one k)) rfl (by (rw [Qq]; omega)) rfl rfl fun w22 o23 s24 h25 => ?_
 refine Seq.next ?_
 refine Run.region ?_
 refine sv (Qa.move rfl) ?_
 refine sv (Qa.move rfl) ?_
 refine sv (Qa.add rfl rfl (by omega)) ?_
 refine sv (Qa.move rfl) ?_
 refine sv (Jr rfl rfl) ?_
 refine sv (QF Try.underlying62 Try.underlying167 rfl) ?_
 refine sv (Q4 (k + 1) Try.underlying58 Qx rfl rfl (by omega) (by omega)) ?_
 refine Q8 (k := 13) (j := (k + 1)) (v := (UInt32.ofNat ((((List.getD l k (0 : UInt32)).toNat) * 2 ^ n) / 4294967296))) u32 h25 o23 Qx (congrArg (fun o => some (Value.pointer (some ⟨b6, o, none⟩))) (Nat.mul_one (k + 1))) rfl (by (rw [List.length_set, Qq]; omega)) rfl rfl fun w26 o27 s28 h29 => ?_
 refine QH (fun _ _ h => h) ?_
 refine Run.region ?_
 refine sv (Qa.add rfl rfl (by omega)) ?_
 refine sv (Qa.move rfl) ?_
 have c30 := s24.trans s28
 have c31 := s16.trans c30
 exact Seq.nil (fun a32 h33 => ⟨_, by omega, _, h33.weaken (QG (l' := [(15, i64 (((k + 1) : Nat) : Int)), (1, i64 ((n : Nat) : Int)), (4, .slice none 0 0), (5, .slice (some ⟨b6, 0, none⟩) ((List.length l) + 1) ((List.length l) + 1)), (13, .slice A1 (List.length l) c2), (14, i64 ((List.length l : Nat) : Int))]) ⟨(congrArg (fun z => some (i64 z)) (show (((k : Nat) : Int) + 1 : Int) = (((k + 1) : Nat) : Int) from by rfl)), rfl, rfl, rfl, rfl, rfl, trivial⟩), ⟨k + 1, lab14, rfl, rfl, h29, (c31.more (by decide)), ((show List.set (List.set (wsN (wv (List.take k l) * 2 ^ n) (List.length l + 1)) k ((List.getD (wsN (wv (List.take k l) * 2 ^ n) (List.length l + 1)) k (0 : UInt32)) ||| (UInt32.ofNat (((List.getD l k (0 : UInt32)).toNat) * 2 ^ n)))) (k + 1) (UInt32.ofNat ((((List.getD l k (0 : UInt32)).toNat) * 2 ^ n) / 4294967296)) = wsN (wv (List.take (k + 1) l) * 2 ^ n) (List.length l + 1) from by exact Uf (by omega) (by omega) (by omega) rfl rfl) ▸ o27), (by omega)⟩⟩)
theorem Qdv {lab : Lab} {w : World} (hv : Ql lab w) {K : Nat} {l : List UInt32} {v0 : Value} (h0 : Qo l lab w v0) {n : Nat} (hl : List.length l ≤ 1000000) (hn : n < 32) :
  Calls Try.prog 159 #[v0, i64 ((n : Nat) : Int)] w (Eff [] lab w (QkV K 167 (List.length l + 1) (List.map u32 (shl l n)))) := by
 obtain ⟨L0, h0L, ⟨zU0, z00⟩, hO, hA, hX⟩ := QcF [] hv
 replace h0 := up z00 h0
 obtain ⟨A1, c2, rfl⟩ := Qo.shape h0
 have z3 := Qo.cap h0
 refine Qu Try.func159 rfl Try.ntmps159 (lB9 rfl) ?_
 refine rsr ?_
 refine sv (Qa.assign rfl) ?_
 refine nsr ?_
 refine sv (Qa.move rfl) ?_
 refine sv (Qa.len Try.underlying58 rfl) ?_
 refine sv (Qa.add rfl rfl (by omega)) ?_
 refine Jv (k := 13) u32 (0 : UInt32) ((List.length l) + 1) h0L Try.underlying58 Qx rfl rfl rfl (by omega) (by omega) (by omega) (by omega) (by decide) ?_
 intro lab4 w5 b6 o7 s8 hv9
 refine sv (Qa.assign rfl) ?_
 refine Seq.next ?_
 refine Run.seq ?_
 refine rsr ?_
 refine sv (Qa.move rfl) ?_
 refine sv (Qa.len Try.underlying58 rfl) ?_
 refine sv (Qa.move rfl) ?_
 refine Seq.next ?_
 refine Run.block ?_
 refine Run.loop (fun m' l' w' => ∃ (k : Nat) (lab' : Lab), m' = List.length l - k ∧ l' = [(15, i64 ((k : Nat) : Int)), (1, i64 ((n : Nat) : Int)), (4, .slice none 0 0), (5, .slice (some ⟨b6, 0, none⟩) ((List.length l) + 1) ((List.length l) + 1)), (13, .slice A1 (List.length l) c2), (14, i64 ((List.length l : Nat) : Int))] ∧ Ql lab' w' ∧ Stp [13] lab4 w5 lab' w' ∧ Own lab' w' 13 b6 167 (List.map u32 (wsN (wv (List.take k l) * 2 ^ n) (List.length l + 1))).toArray ∧ (k ≤ List.length l)) (List.length l - 0) (l0 := [(15, i64 ((0 : Nat) : Int)), (1, i64 ((n : Nat) : Int)), (4, .slice none 0 0), (5, .slice (some ⟨b6, 0, none⟩) ((List.length l) + 1) ((List.length l) + 1)), (13, .slice A1 (List.length l) c2), (14, i64 ((List.length l : Nat) : Int))]) ⟨(congrArg (fun z => some (i64 z)) (show (0 : Int) = ((0 : Nat) : Int) from by rfl)), rfl, rfl, rfl, rfl, rfl, trivial⟩ ⟨0, lab4, rfl, rfl, hv9, ((Stp.refl _ _).more (by simp)), ((show List.replicate ((List.length l) + 1) (0 : UInt32) = wsN (wv (List.take 0 l) * 2 ^ n) (List.length l + 1) from by (rw [List.take_zero]; show _ = wsN (0 * _) _; rw [Nat.zero_mul, XK])) ▸ o7), (by omega)⟩ ?_
 intro m10 l11 w12 H13
 obtain ⟨k, lab14, hzm, rfl, hv15, s16, o17, hk⟩ := H13
 replace hzm := hzm.symm; subst hzm
 refine rsr ?_
 refine sv (Qa.lss rfl rfl) ?_
 refine Seq.next ?_
 refine Run.seq ?_
 rcases Decidable.em ((((k : Nat) : Int) : Int) < (((List.length l : Nat) : Int) : Int)) with hp1 | hp1
 rotate_left
 ·refine Qc rfl (dF9 hp1) ?_
  refine Qv (fun _ _ h => h) ?_
  refine rsr ?_
  refine sv (Qa.move rfl) ?_
  refine sv (Qa.assign rfl) ?_
  refine Seq.next ?_
  have c34 := s8.trans s16
  obtain ⟨lab9, s9, B9⟩ := hX [(13, K)] c34 (by decide) hv15
  refine Run.ret ?_
  exact Qm Try.results159 rfl ⟨_, lab9, rfl, ⟨_, (by rw [show ((List.length l) + 1) = List.length l + 1 from by omega]), (by rw [List.length_map]; exact Qq _ _), ((show wsN (wv (List.take k l) * 2 ^ n) (List.length l + 1) = shl l n from by (unfold shl; rw [List.take_of_length_le (by omega)])) ▸ (Own.back o17 B9 K rfl (by decide) (by simp [Xa])))⟩, s9, B9.v⟩
 refine Qc rfl (dT9 hp1) ?_
 refine Qg (fun _ _ h => h) ?_
 refine Run.seq ?_
 refine Run.block ?_
 refine rsr ?_
 refine sv (Qa.move rfl) ?_
 have c18 := s8.trans s16
 have q19 := up c18 h0
 refine sv (Qs k Try.underlying58 Qx rfl rfl (Qo.row q19) (by simp [nw]) (by omega) (by omega)) ?_
 have t20 := UInt32.toNat_lt (List.getD l k (0 : UInt32))
 refine sv (Qy Qx rfl (Qo.row q19) (Jp u32 _ (0 : UInt32) (by omega))) ?_
 refine sv (Qa.assign rfl) ?_
 refine sv (Qa.assign rfl) ?_
 refine nsr ?_
 refine sv (Qa.move rfl) ?_
 refine sv (QB Try.underlying167 Try.underlying62 rfl) ?_
 refine sv (Qa.move rfl) ?_
 refine sv (Vk rfl rfl (by omega) (by exact Qen hn)) ?_
 refine sv (Qa.assign rfl) ?_
 refine nsr ?_
 refine sv (Qa.move rfl) ?_
 refine sv (Qa.move rfl) ?_
 refine sv (Q4 k Try.underlying58 Qx rfl rfl (by omega) (by omega)) ?_
 have t21 := UInt32.toNat_lt (List.getD (wsN (wv (List.take k l) * 2 ^ n) (List.length l + 1)) k (0 : UInt32))
 refine sv (Qf o17 Qx rfl (by rw [Nat.mul_one]; exact Zi u32 _ (0 : UInt32) (by (rw [Qq]; omega)))) ?_
 refine sv (Qa.move rfl) ?_
 refine sv (QF Try.underlying62 Try.underlying167 rfl) ?_
 refine sv (Z9 rfl rfl) ?_
 refine sv (Q4 k Try.underlying58 Qx rfl rfl (by omega) (by omega)) ?_
 refine Q8 (k := 13) (j := k) (v := ((List.getD (wsN (wv (List.take k l) * 2 ^ n) (List.length l + 1)) k (0 : UInt32)) ||| (UInt32.ofNat (((List.getD l k (0 : UInt32)).toNat) * 2 ^ n)))) u32 hv15 o17 Qx (congrArg (fun o => some (Value.pointer (some ⟨b6, o, none⟩))) (Nat.mul_one k)) rfl (by (rw [Qq]; omega)) rfl rfl fun w22 o23 s24 h25 => ?_
 refine Seq.next ?_
 refine Run.region ?_
 refine sv (Qa.move rfl) ?_
 refine sv (Qa.move rfl) ?_
 refine sv (Qa.add rfl rfl (by omega)) ?_
 refine sv (Qa.move rfl) ?_
 refine sv (Jr rfl rfl) ?_
 refine sv (QF Try.underlying62 Try.underlying167 rfl) ?_
 refine sv (Q4 (k + 1) Try.underlying58 Qx rfl rfl (by omega) (by omega)) ?_
 refine Q8 (k := 13) (j := (k + 1)) (v := (UInt32.ofNat ((((List.getD l k (0 : UInt32)).toNat) * 2 ^ n) / 4294967296))) u32 h25 o23 Qx (congrArg (fun o => some (Value.pointer (some ⟨b6, o, none⟩))) (Nat.mul_one (k + 1))) rfl (by (rw [List.length_set, Qq]; omega)) rfl rfl fun w26 o27 s28 h29 => ?_
 refine QH (fun _ _ h => h) ?_
 refine Run.region ?_
 refine sv (Qa.add rfl rfl (by omega)) ?_
 refine sv (Qa.move rfl) ?_
 have c30 := s24.trans s28
 have c31 := s16.trans c30
 exact Seq.nil (fun a32 h33 => ⟨_, by omega, _, h33.weaken (QG (l' := [(15, i64 (((k + 1) : Nat) : Int)), (1, i64 ((n : Nat) : Int)), (4, .slice none 0 0), (5, .slice (some ⟨b6, 0, none⟩) ((List.length l) + 1) ((List.length l) + 1)), (13, .slice A1 (List.length l) c2), (14, i64 ((List.length l : Nat) : Int))]) ⟨(congrArg (fun z => some (i64 z)) (show (((k : Nat) : Int) + 1 : Int) = (((k + 1) : Nat) : Int) from by rfl)), rfl, rfl, rfl, rfl, rfl, trivial⟩), ⟨k + 1, lab14, rfl, rfl, h29, (c31.more (by decide)), ((show List.set (List.set (wsN (wv (List.take k l) * 2 ^ n) (List.length l + 1)) k ((List.getD (wsN (wv (List.take k l) * 2 ^ n) (List.length l + 1)) k (0 : UInt32)) ||| (UInt32.ofNat (((List.getD l k (0 : UInt32)).toNat) * 2 ^ n)))) (k + 1) (UInt32.ofNat ((((List.getD l k (0 : UInt32)).toNat) * 2 ^ n) / 4294967296)) = wsN (wv (List.take (k + 1) l) * 2 ^ n) (List.length l + 1) from by exact Uf (by omega) (by omega) (by omega) rfl rfl) ▸ o27), (by omega)⟩⟩)
end Go.Proofs.Ytgfomedobfaidaa
end
section
set_option linter.unusedVariables false
set_option linter.unusedSimpArgs false
namespace Go.Proofs.Ytgfomedobfaidaa
open Go.RowKit
theorem Xb {l : List UInt32} {k : Nat} (h : k < l.length) : (l.getD k 0).toNat = wv l / 4294967296 ^ k % 4294967296 := by
 have e := Qj6 l
 have : l.getD k 0 = UInt32.ofNat (wv l / 4294967296 ^ k) := by
  conv => lhs; rw [← e]
  exact Vm h
 rw [this, UInt32.toNat_ofNat']
def seg (us : List UInt32) (o m : Nat) : Nat := wv ((us.drop o).take m)
theorem Qhz {us : List UInt32} {o m : Nat} : seg us o m < 4294967296 ^ m := Nat.lt_of_lt_of_le (U7 _) (Nat.pow_le_pow_right (by omega) (by rw [List.length_take]; omega))
theorem Yr {us : List UInt32} {o m k : Nat} (hk : k < m) (h : o + m ≤ us.length) : (us.getD (o + k) 0).toNat = seg us o m / 4294967296 ^ k % 4294967296 := by
 rw [seg, ← Xb (by simp; omega)]
 congr 1
 simp [List.getD, List.getElem?_take_of_lt hk, List.getElem?_drop]
def cP (q v k : Nat) : Nat := q * (v % 4294967296 ^ k) / 4294967296 ^ k
theorem Qjk (q v : Nat) : cP q v 0 = 0 := by simp [cP, Nat.mod_one]
theorem Ql1 (q v k : Nat) : cP q v k ≤ q - 1 := by
 unfold cP
 have hp : 0 < 4294967296 ^ k := Nat.pow_pos (by omega)
 by_cases hq : q = 0
 ·subst hq; simp
 ·have : q * (v % 4294967296 ^ k) / 4294967296 ^ k < q := by
   rw [Nat.div_lt_iff_lt_mul hp]
   exact Nat.mul_lt_mul_of_pos_left (Nat.mod_lt _ hp) (by omega)
  omega
theorem QfM (q : Nat) {v k x : Nat} (hx : x = v / 4294967296 ^ k % 4294967296) : cP q v (k + 1) = (cP q v k + q * x) / 4294967296 := by
 unfold cP
 have hp : 0 < 4294967296 ^ k := Nat.pow_pos (by omega)
 rw [Zr, ← hx, Nat.mul_add, Nat.mul_left_comm, Nat.pow_succ, ← Nat.div_div_eq_div_mul, Nat.add_mul_div_left _ _ hp]
theorem QfL (q : Nat) {v k x : Nat} (hx : x = v / 4294967296 ^ k % 4294967296) : q * v / 4294967296 ^ k % 4294967296 = (cP q v k + q * x) % 4294967296 := by
 have hp : 0 < 4294967296 ^ k := Nat.pow_pos (by omega)
 have e : q * v / 4294967296 ^ k = cP q v k + q * (v / 4294967296 ^ k) := by
  unfold cP
  conv => lhs; rw [← Nat.mod_add_div v (4294967296 ^ k)]
  rw [Nat.mul_add, Nat.mul_left_comm, Nat.add_mul_div_left _ _ hp]
 rw [e, hx]
 have := Nat.div_add_mod (v / 4294967296 ^ k) 4294967296
 conv => lhs; rw [← this, Nat.mul_add, Nat.mul_left_comm]
 omega
theorem Ql6 {q : Nat} (y : UInt32) (hq : q ≤ 4294967296) : q * y.toNat ≤ 18446744069414584320 := by
 have := Nat.mul_le_mul hq (show y.toNat ≤ 4294967295 by have := y.toNat_lt; omega)
 omega
def tkZ (W Q m : Nat) : Nat := W + 4294967296 ^ (m + 1) * Q - Q
theorem Qcl {W Q m k : Nat} (hk : k ≤ m) : ((tkZ W Q m / 4294967296 ^ k % 4294967296 : Nat) : Int) = ((W / 4294967296 ^ k % 4294967296 : Nat) - bor W Q k - ((Q / 4294967296 ^ k % 4294967296 : Nat) : Int)) % 4294967296 := by
 have hp : 0 < 4294967296 ^ k := Nat.pow_pos (by omega)
 have e : 4294967296 ^ (m + 1) = 4294967296 ^ k * (4294967296 * 4294967296 ^ (m - k)) := by
  rw [← Nat.mul_assoc, ← Nat.pow_succ, ← Nat.pow_add]; congr 1; omega
 have hle : Q ≤ W + 4294967296 ^ (m + 1) * Q := by
  have : 1 * Q ≤ 4294967296 ^ (m + 1) * Q := Nat.mul_le_mul_right _ (Nat.pow_pos (by omega))
  omega
 have h := Qcn hle k
 rw [Jg, Jg] at h
 have e1 : (W + 4294967296 ^ (m + 1) * Q) / 4294967296 ^ k % 4294967296 = W / 4294967296 ^ k % 4294967296 := by
  rw [e, Nat.mul_assoc, Nat.add_mul_div_left _ _ hp, Nat.mul_assoc, Nat.add_mul_mod_self_left]
 have e2 : bor (W + 4294967296 ^ (m + 1) * Q) Q k = bor W Q k := by
  unfold bor
  rw [e, Nat.mul_assoc, Nat.add_mul_mod_self_left]
 rw [e1, e2] at h
 exact h
theorem QjF {us vs : List UInt32} {uo q k m : Nat} (hm : m = vs.length) (hk : k < m) (hu : uo + (m + 1) ≤ us.length) :
  bor (seg us uo (m + 1)) (q * wv vs) (k + 1) = if ((us.getD (uo + k) 0).toNat : Int) - (((cP q (wv vs) k + q * (vs.getD k 0).toNat) % 4294967296 : Nat) : Int) - bor (seg us uo (m + 1)) (q * wv vs) k < 0 then 1 else 0 := by
 have h := QcO (seg us uo (m + 1)) (q * wv vs) k
 rw [Jg, Jg, ← Yr (by omega) hu, QfL q (Xb (l := vs) (by omega))] at h
 rw [h]
 split <;> split <;> omega
theorem Qhy {us vs : List UInt32} {uo q k m : Nat} (hm : m = vs.length) (hk : k < m) (hu : uo + (m + 1) ≤ us.length) {d : Int}
  (e : (d - (((us.getD (uo + k) 0).toNat : Int) - (((cP q (wv vs) k + q * (vs.getD k 0).toNat) % 4294967296 : Nat) : Int) - bor (seg us uo (m + 1)) (q * wv vs) k)) % 4294967296 = 0) :
  (Qt us uo (wsN (tkZ (seg us uo (m + 1)) (q * wv vs) m) k)).set (uo + k) (UInt32.ofNat (d % 4294967296).toNat) = Qt us uo (wsN (tkZ (seg us uo (m + 1)) (q * wv vs) m) (k + 1)) := by
 rw [XV (Qq _ _) (by omega), Y6]
 congr 3
 refine ZT ?_
 have h := Qcl (W := seg us uo (m + 1)) (Q := q * wv vs) (m := m) (k := k) (by omega)
 rw [← Yr (by omega) hu, QfL q (Xb (l := vs) (by omega))] at h
 omega
theorem QhL {q : Nat} {vs : List UInt32} : q * wv vs / 4294967296 ^ vs.length = cP q (wv vs) vs.length := by
 unfold cP
 rw [Nat.mod_eq_of_lt (U7 vs)]
theorem Qib {us vs : List UInt32} {uo q m : Nat} (hm : m = vs.length) (hu : uo + (m + 1) ≤ us.length) {d : Int}
  (e : d = ((us.getD (uo + m) 0).toNat : Int) - ((cP q (wv vs) m : Nat) : Int) - bor (seg us uo (m + 1)) (q * wv vs) m) :
  (Qt us uo (wsN (tkZ (seg us uo (m + 1)) (q * wv vs) m) m)).set (uo + m) (UInt32.ofNat (d % 4294967296).toNat) = Qt us uo (wsN (tkZ (seg us uo (m + 1)) (q * wv vs) m) (m + 1)) := by
 rw [XV (Qq _ _) (by omega), Y6]
 congr 3
 refine ZT ?_
 have h := Qcl (W := seg us uo (m + 1)) (Q := q * wv vs) (m := m) (k := m) (Nat.le_refl _)
 rw [← Yr (by omega) hu] at h
 have h2 : q * wv vs / 4294967296 ^ m = cP q (wv vs) m := by subst hm; exact QhL
 rw [h2] at h
 omega
theorem QjE {us vs : List UInt32} {uo q m : Nat} (hm : m = vs.length) (hu : uo + (m + 1) ≤ us.length) :
  ((us.getD (uo + m) 0).toNat : Int) - ((cP q (wv vs) m : Nat) : Int) - bor (seg us uo (m + 1)) (q * wv vs) m < 0 ↔ seg us uo (m + 1) < q * wv vs := by
 have hp : 0 < 4294967296 ^ m := Nat.pow_pos (by omega)
 have h2 : q * wv vs / 4294967296 ^ m = cP q (wv vs) m := by subst hm; exact QhL
 have hw : seg us uo (m + 1) / 4294967296 ^ m = (us.getD (uo + m) 0).toNat := by
  rw [Yr (by omega) hu, Nat.mod_eq_of_lt]
  rw [Nat.div_lt_iff_lt_mul hp, Nat.mul_comm, ← Nat.pow_succ]
  exact Qhz
 have e1 := Nat.div_add_mod (seg us uo (m + 1)) (4294967296 ^ m)
 have e2 := Nat.div_add_mod (q * wv vs) (4294967296 ^ m)
 have l := Km (x := (us.getD (uo + m) 0).toNat) (y := cP q (wv vs) m) (Nat.mod_lt (seg us uo (m + 1)) hp) (Nat.mod_lt (q * wv vs) hp)
 rw [hw] at e1
 rw [h2] at e2
 unfold bor
 split <;> omega
end Go.Proofs.Ytgfomedobfaidaa
end
section
set_option linter.unusedVariables false
set_option linter.unusedSimpArgs false
namespace Go.Proofs.Ytgfomedobfaidaa
open Go.RowKit
theorem UU {lab : Lab} {w : World} (hv : Ql lab w) {u_d u_b u_t : Nat} {u : List UInt32} {u_o u_n u_c : Nat} (h0 : Own lab w u_d u_b u_t (List.map u32 u).toArray) (h0b : u_o + u_n ≤ List.length u ∧ u_n ≤ u_c ∧ u_c ≤ 9223372036854775807) {v : List UInt32} {v1 : Value} (h1 : Qo v lab w v1) {q : Nat} (hn : u_n = List.length v + 1) (hq : q ≤ 4294967296) (hl : List.length v ≤ 1000000) :
  Calls Try.prog 184 #[.slice (some ⟨u_b, u_o, none⟩) u_n u_c, v1, n64 q] w (Eff [u_d] lab w (QhQ (Is (.bool (decide (seg u u_o (List.length v + 1) < q * wv v)))) (fun lab' w' => Own lab' w' u_d u_b u_t (List.map u32 (Qt u u_o (wsN (tkZ (seg u u_o (List.length v + 1)) (q * wv v) (List.length v)) (List.length v + 1)))).toArray))) := by
 obtain ⟨L0, h0L, ⟨zU0, z00⟩, hO, hA, hX⟩ := QcF [(u_d, 1)] hv
 replace h0 := hO 1 (by simp [Kn]) h0
 replace h1 := up z00 h1
 obtain ⟨A1, c2, rfl⟩ := Qo.shape h1
 have z3 := Qo.cap h1
 refine Qu Try.func184 rfl Try.ntmps184 (lB9 rfl) ?_
 refine rsr ?_
 refine sv (Qa.assign rfl) ?_
 refine nsr ?_
 refine sv (Qa.assign rfl) ?_
 refine sv (Qa.assign rfl) ?_
 refine Seq.next ?_
 refine Run.seq ?_
 refine rsr ?_
 refine sv (Qa.move rfl) ?_
 refine sv (Qa.len Try.underlying58 rfl) ?_
 refine sv (Qa.move rfl) ?_
 refine Seq.next ?_
 refine Run.block ?_
 refine Run.loop (fun m' l' w' => ∃ (k : Nat) (lab' : Lab), m' = List.length v - k ∧ l' = [(15, i64 ((k : Nat) : Int)), (7, n64 (cP q (wv v) k)), (8, i64 (bor (seg u u_o (List.length v + 1)) (q * wv v) k)), (0, .slice (some ⟨u_b, u_o, none⟩) u_n u_c), (1, .slice A1 (List.length v) c2), (2, n64 q), (6, .bool false), (13, .slice A1 (List.length v) c2), (14, i64 ((List.length v : Nat) : Int))] ∧ Ql lab' w' ∧ Stp [1] L0 w lab' w' ∧ Own lab' w' 1 u_b u_t (List.map u32 (Qt u u_o (wsN (tkZ (seg u u_o (List.length v + 1)) (q * wv v) (List.length v)) k))).toArray ∧ (k ≤ List.length v)) (List.length v - 0) (l0 := [(15, i64 ((0 : Nat) : Int)), (7, n64 (cP q (wv v) 0)), (8, i64 (bor (seg u u_o (List.length v + 1)) (q * wv v) 0)), (0, .slice (some ⟨u_b, u_o, none⟩) u_n u_c), (1, .slice A1 (List.length v) c2), (2, n64 q), (6, .bool false), (13, .slice A1 (List.length v) c2), (14, i64 ((List.length v : Nat) : Int))]) ⟨(congrArg (fun z => some (i64 z)) (show (0 : Int) = ((0 : Nat) : Int) from by rfl)), (congrArg (fun z => some (n64 z)) (show (0 : Nat) = cP q (wv v) 0 from by exact (Qjk _ _).symm)), (congrArg (fun z => some (i64 z)) (show (0 : Int) = bor (seg u u_o (List.length v + 1)) (q * wv v) 0 from by exact (QcN _ _).symm)), rfl, rfl, rfl, rfl, rfl, rfl, trivial⟩ ⟨0, L0, rfl, rfl, h0L, ((Stp.refl _ _).more (by simp)), ((show u = Qt u u_o (wsN (tkZ (seg u u_o (List.length v + 1)) (q * wv v) (List.length v)) 0) from by exact (XW _ _).symm) ▸ h0), (by omega)⟩ ?_
 intro m4 l5 w6 H7
 obtain ⟨k, lab8, hzm, rfl, hv9, s10, o11, hk⟩ := H7
 replace hzm := hzm.symm; subst hzm
 have hbl := QhM (seg u u_o (List.length v + 1)) (q * wv v) k
 have hc := Ql1 q (wv v) k
 have hm := Ql6 (List.getD v k 0) hq
 have hg := congrArg UInt32.toNat (XX (us := u) (o := u_o) (j := k) (xs := wsN (tkZ (seg u u_o (List.length v + 1)) (q * wv v) (List.length v)) k) (by rw [Qq]; omega) (by rw [Qq]; omega))
 have hs := fun h => QjF (us := u) (vs := v) (uo := u_o) (q := q) (k := k) rfl h (by omega)
 refine rsr ?_
 refine sv (Qa.lss rfl rfl) ?_
 refine Seq.next ?_
 refine Run.seq ?_
 rcases Decidable.em ((((k : Nat) : Int) : Int) < (((List.length v : Nat) : Int) : Int)) with hp1 | hp1
 rotate_left
 ·refine Qc rfl (dF9 hp1) ?_
  refine Qv (fun _ _ h => h) ?_
  refine rsr ?_
  refine sv (Qa.move rfl) ?_
  refine sv (Qa.move rfl) ?_
  refine sv (Qa.len Try.underlying58 rfl) ?_
  refine sv (QO (List.length v) Try.underlying58 Qx rfl rfl (by omega) (by omega)) ?_
  have t29 := UInt32.toNat_lt (List.getD (Qt u u_o (wsN (tkZ (seg u u_o (List.length v + 1)) (q * wv v) (List.length v)) k)) (u_o + (List.length v)) (0 : UInt32))
  refine sv (Qf o11 Qx rfl (Zi u32 _ (0 : UInt32) (by (rw [QN (by rw [Qq]; omega)]; omega)))) ?_
  refine sv (Qz Try.underlying167 Try.underlying2 rfl (Yc _)) ?_
  refine sv (Qa.move rfl) ?_
  refine sv (Qbk Try.underlying62 Try.underlying2 rfl (by omega)) ?_
  refine sv (Qa.sub rfl rfl (by omega)) ?_
  refine sv (Qa.move rfl) ?_
  refine sv (Qa.sub rfl rfl (by omega)) ?_
  refine sv (Qa.assign rfl) ?_
  refine nsr ?_
  refine sv (Qa.move rfl) ?_
  refine sv (Qa.move rfl) ?_
  refine sv (Qa.len Try.underlying58 rfl) ?_
  refine sv (Qa.move rfl) ?_
  refine sv (YV Try.underlying2 Try.underlying167 rfl) ?_
  refine sv (QO (List.length v) Try.underlying58 Qx rfl rfl (by omega) (by omega)) ?_
  refine Q8 (k := 1) (j := (u_o + (List.length v))) (v := (UInt32.ofNat (((((List.getD (Qt u u_o (wsN (tkZ (seg u u_o (List.length v + 1)) (q * wv v) (List.length v)) k)) (u_o + (List.length v)) (0 : UInt32)).toNat : Int) - ((cP q (wv v) k : Nat) : Int)) - (bor (seg u u_o (List.length v + 1)) (q * wv v) k)) % 4294967296).toNat)) u32 hv9 o11 Qx rfl rfl (by (rw [QN (by rw [Qq]; omega)]; omega)) rfl rfl fun w30 o31 s32 h33 => ?_
  refine nsr ?_
  refine sv (Qa.move rfl) ?_
  refine sv (Qa.lss rfl rfl) ?_
  refine sv (Qa.assign rfl) ?_
  refine Seq.next ?_
  have c34 := s10.trans s32
  obtain ⟨lab9, s9, B9⟩ := hX [(1, u_d)] c34 (by decide) h33
  obtain ⟨zU, zo⟩ := B9.u
  refine Run.ret ?_
  exact Qm Try.results184 rfl ⟨_, lab9, rfl, ⟨(Jj (by (exact decide_eq_decide.2 (by obtain rfl : k = List.length v := (by omega); rw [hg]; exact QjE rfl (by omega)))) _ _), ((show List.set (Qt u u_o (wsN (tkZ (seg u u_o (List.length v + 1)) (q * wv v) (List.length v)) k)) (u_o + (List.length v)) (UInt32.ofNat (((((List.getD (Qt u u_o (wsN (tkZ (seg u u_o (List.length v + 1)) (q * wv v) (List.length v)) k)) (u_o + (List.length v)) (0 : UInt32)).toNat : Int) - ((cP q (wv v) k : Nat) : Int)) - (bor (seg u u_o (List.length v + 1)) (q * wv v) k)) % 4294967296).toNat) = Qt u u_o (wsN (tkZ (seg u u_o (List.length v + 1)) (q * wv v) (List.length v)) (List.length v + 1)) from by (obtain rfl : k = List.length v := (by omega)); rw [hg]; exact Qib rfl (by omega) rfl) ▸ (Own.back o31 B9 u_d rfl (by decide) (by simp [Xa])))⟩, s9, B9.v⟩
 refine Qc rfl (dT9 hp1) ?_
 refine Qg (fun _ _ h => h) ?_
 refine Run.seq ?_
 refine Run.block ?_
 refine rsr ?_
 refine sv (Qa.move rfl) ?_
 have q12 := up s10 h1
 refine sv (Qs k Try.underlying58 Qx rfl rfl (Qo.row q12) (by simp [nw]) (by omega) (by omega)) ?_
 have t13 := UInt32.toNat_lt (List.getD v k (0 : UInt32))
 refine sv (Qy Qx rfl (Qo.row q12) (Jp u32 _ (0 : UInt32) (by omega))) ?_
 refine sv (Qa.assign rfl) ?_
 refine sv (Qa.assign rfl) ?_
 refine nsr ?_
 refine sv (Qa.move rfl) ?_
 refine sv (Qa.move rfl) ?_
 refine sv (Qa.move rfl) ?_
 refine sv (QB Try.underlying167 Try.underlying62 rfl) ?_
 refine sv (ZF rfl rfl (by omega)) ?_
 refine sv (Jn rfl rfl (by omega)) ?_
 refine sv (Qa.assign rfl) ?_
 refine nsr ?_
 refine sv (Qa.move rfl) ?_
 refine sv (Qa.move rfl) ?_
 refine sv (QO k Try.underlying58 Qx rfl rfl (by omega) (by omega)) ?_
 have t14 := UInt32.toNat_lt (List.getD (Qt u u_o (wsN (tkZ (seg u u_o (List.length v + 1)) (q * wv v) (List.length v)) k)) (u_o + k) (0 : UInt32))
 refine sv (Qf o11 Qx rfl (Zi u32 _ (0 : UInt32) (by (rw [QN (by rw [Qq]; omega)]; omega)))) ?_
 refine sv (Qz Try.underlying167 Try.underlying2 rfl (Yc _)) ?_
 refine sv (Qa.move rfl) ?_
 refine sv (QF Try.underlying62 Try.underlying167 rfl) ?_
 refine sv (KT Try.underlying167 Try.underlying2 rfl) ?_
 refine sv (Qa.sub rfl rfl (by omega)) ?_
 refine sv (Qa.move rfl) ?_
 refine sv (Qa.sub rfl rfl (by omega)) ?_
 refine sv (Qa.assign rfl) ?_
 refine nsr ?_
 refine sv (Qa.move rfl) ?_
 refine sv (Jr rfl rfl) ?_
 refine sv (Qa.assign rfl) ?_
 refine nsr ?_
 refine sv (Qa.assign rfl) ?_
 refine Seq.next ?_
 refine Run.seq ?_
 refine rsr ?_
 refine sv (Qa.move rfl) ?_
 refine sv (Qa.lss rfl rfl) ?_
 refine Seq.next ?_
 rcases Decidable.em (((((List.getD (Qt u u_o (wsN (tkZ (seg u u_o (List.length v + 1)) (q * wv v) (List.length v)) k)) (u_o + k) (0 : UInt32)).toNat : Int) - ((((cP q (wv v) k) + (q * ((List.getD v k (0 : UInt32)).toNat))) % 4294967296 : Nat) : Int)) - (bor (seg u u_o (List.length v + 1)) (q * wv v) k) : Int) < (0 : Int)) with hp2 | hp2
 rotate_left
 ·refine Qc rfl (dF9 hp2) ?_
  refine Qg (fun _ _ h => h) ?_
  refine Run.region ?_
  refine sv (Qa.move rfl) ?_
  refine sv (Qa.move rfl) ?_
  refine sv (Qa.move rfl) ?_
  refine sv (YV Try.underlying2 Try.underlying167 rfl) ?_
  refine sv (QO k Try.underlying58 Qx rfl rfl (by omega) (by omega)) ?_
  refine Q8 (k := 1) (j := (u_o + k)) (v := (UInt32.ofNat (((((List.getD (Qt u u_o (wsN (tkZ (seg u u_o (List.length v + 1)) (q * wv v) (List.length v)) k)) (u_o + k) (0 : UInt32)).toNat : Int) - ((((cP q (wv v) k) + (q * ((List.getD v k (0 : UInt32)).toNat))) % 4294967296 : Nat) : Int)) - (bor (seg u u_o (List.length v + 1)) (q * wv v) k)) % 4294967296).toNat)) u32 hv9 o11 Qx rfl rfl (by (rw [QN (by rw [Qq]; omega)]; omega)) rfl rfl fun w22 o23 s24 h25 => ?_
  refine QH (fun _ _ h => h) ?_
  refine Run.region ?_
  refine sv (Qa.add rfl rfl (by omega)) ?_
  refine sv (Qa.move rfl) ?_
  have c26 := s10.trans s24
  exact Seq.nil (fun a27 h28 => ⟨_, by omega, _, h28.weaken (QG (l' := [(15, i64 (((k + 1) : Nat) : Int)), (7, n64 (cP q (wv v) (k + 1))), (8, i64 (bor (seg u u_o (List.length v + 1)) (q * wv v) (k + 1))), (0, .slice (some ⟨u_b, u_o, none⟩) u_n u_c), (1, .slice A1 (List.length v) c2), (2, n64 q), (6, .bool false), (13, .slice A1 (List.length v) c2), (14, i64 ((List.length v : Nat) : Int))]) ⟨(congrArg (fun z => some (i64 z)) (show (((k : Nat) : Int) + 1 : Int) = (((k + 1) : Nat) : Int) from by rfl)), (congrArg (fun z => some (n64 z)) (show (((cP q (wv v) k) + (q * ((List.getD v k (0 : UInt32)).toNat))) / 4294967296 : Nat) = cP q (wv v) (k + 1) from by exact (QfM q (Xb (by omega))).symm)), (congrArg (fun z => some (i64 z)) (show (0 : Int) = bor (seg u u_o (List.length v + 1)) (q * wv v) (k + 1) from by omega)), rfl, rfl, rfl, rfl, rfl, rfl, trivial⟩), ⟨k + 1, lab8, rfl, rfl, h25, (c26.more (by decide)), ((show List.set (Qt u u_o (wsN (tkZ (seg u u_o (List.length v + 1)) (q * wv v) (List.length v)) k)) (u_o + k) (UInt32.ofNat (((((List.getD (Qt u u_o (wsN (tkZ (seg u u_o (List.length v + 1)) (q * wv v) (List.length v)) k)) (u_o + k) (0 : UInt32)).toNat : Int) - ((((cP q (wv v) k) + (q * ((List.getD v k (0 : UInt32)).toNat))) % 4294967296 : Nat) : Int)) - (bor (seg u u_o (List.length v + 1)) (q * wv v) k)) % 4294967296).toNat) = Qt u u_o (wsN (tkZ (seg u u_o (List.length v + 1)) (q * wv v) (List.length v)) (k + 1)) from by exact Qhy rfl (by omega) (by omega) (by omega)) ▸ o23), (by omega)⟩⟩)
 refine Qc rfl (dT9 hp2) ?_
 refine rsr ?_
 refine sv (Qa.move rfl) ?_
 refine sv (Qa.add rfl rfl (by omega)) ?_
 refine sv (Qa.assign rfl) ?_
 refine Seq.next ?_
 refine Run.region ?_
 refine sv (Qa.assign rfl) ?_
 refine Seq.next ?_
 refine Run.region ?_
 refine sv (Qa.move rfl) ?_
 refine sv (Qa.move rfl) ?_
 refine sv (Qa.move rfl) ?_
 refine sv (YV Try.underlying2 Try.underlying167 rfl) ?_
 refine sv (QO k Try.underlying58 Qx rfl rfl (by omega) (by omega)) ?_
 refine Q8 (k := 1) (j := (u_o + k)) (v := (UInt32.ofNat ((((((List.getD (Qt u u_o (wsN (tkZ (seg u u_o (List.length v + 1)) (q * wv v) (List.length v)) k)) (u_o + k) (0 : UInt32)).toNat : Int) - ((((cP q (wv v) k) + (q * ((List.getD v k (0 : UInt32)).toNat))) % 4294967296 : Nat) : Int)) - (bor (seg u u_o (List.length v + 1)) (q * wv v) k)) + 4294967296) % 4294967296).toNat)) u32 hv9 o11 Qx rfl rfl (by (rw [QN (by rw [Qq]; omega)]; omega)) rfl rfl fun w15 o16 s17 h18 => ?_
 refine QH (fun _ _ h => h) ?_
 refine Run.region ?_
 refine sv (Qa.add rfl rfl (by omega)) ?_
 refine sv (Qa.move rfl) ?_
 have c19 := s10.trans s17
 exact Seq.nil (fun a20 h21 => ⟨_, by omega, _, h21.weaken (QG (l' := [(15, i64 (((k + 1) : Nat) : Int)), (7, n64 (cP q (wv v) (k + 1))), (8, i64 (bor (seg u u_o (List.length v + 1)) (q * wv v) (k + 1))), (0, .slice (some ⟨u_b, u_o, none⟩) u_n u_c), (1, .slice A1 (List.length v) c2), (2, n64 q), (6, .bool false), (13, .slice A1 (List.length v) c2), (14, i64 ((List.length v : Nat) : Int))]) ⟨(congrArg (fun z => some (i64 z)) (show (((k : Nat) : Int) + 1 : Int) = (((k + 1) : Nat) : Int) from by rfl)), (congrArg (fun z => some (n64 z)) (show (((cP q (wv v) k) + (q * ((List.getD v k (0 : UInt32)).toNat))) / 4294967296 : Nat) = cP q (wv v) (k + 1) from by exact (QfM q (Xb (by omega))).symm)), (congrArg (fun z => some (i64 z)) (show (1 : Int) = bor (seg u u_o (List.length v + 1)) (q * wv v) (k + 1) from by omega)), rfl, rfl, rfl, rfl, rfl, rfl, trivial⟩), ⟨k + 1, lab8, rfl, rfl, h18, (c19.more (by decide)), ((show List.set (Qt u u_o (wsN (tkZ (seg u u_o (List.length v + 1)) (q * wv v) (List.length v)) k)) (u_o + k) (UInt32.ofNat ((((((List.getD (Qt u u_o (wsN (tkZ (seg u u_o (List.length v + 1)) (q * wv v) (List.length v)) k)) (u_o + k) (0 : UInt32)).toNat : Int) - ((((cP q (wv v) k) + (q * ((List.getD v k (0 : UInt32)).toNat))) % 4294967296 : Nat) : Int)) - (bor (seg u u_o (List.length v + 1)) (q * wv v) k)) + 4294967296) % 4294967296).toNat) = Qt u u_o (wsN (tkZ (seg u u_o (List.length v + 1)) (q * wv v) (List.length v)) (k + 1)) from by exact Qhy rfl (by omega) (by omega) (by omega)) ▸ o16), (by omega)⟩⟩)
end Go.Proofs.Ytgfomedobfaidaa
end
section
set_option linter.unusedVariables false
set_option linter.unusedSimpArgs false
namespace Go.Proofs.Ytgfomedobfaidaa
open Go.RowKit
structure Dg (W V P v1 v2 top u2 : Nat) : Prop where
 p : 0 < P
 w0 : (top * 4294967296 + u2) * P ≤ W
 w1 : W < (top * 4294967296 + u2 + 1) * P
 v0 : (v1 * 4294967296 + v2) * P ≤ V
 v9 : V < (v1 * 4294967296 + v2 + 1) * P
 a : v1 < 4294967296
 b : v2 < 4294967296
 c : u2 < 4294967296
 d : 2147483648 ≤ v1
 e : W < V * 4294967296
variable {W V P v1 v2 top u2 q r : Nat}
theorem Dg.top_lt (D : Dg W V P v1 v2 top u2) : top < v1 * 4294967296 + 4294967296 := by
 have h : (top * 4294967296 + u2) * P < ((v1 * 4294967296 + v2 + 1) * 4294967296) * P := by
  rw [Nat.mul_right_comm]
  exact Nat.lt_of_le_of_lt D.w0 (Nat.lt_of_lt_of_le D.e (Nat.mul_le_mul_right _ (Nat.le_of_lt D.v9)))
 have := Nat.lt_of_mul_lt_mul_right h
 have := D.b
 omega
theorem Dg.le_mul (D : Dg W V P v1 v2 top u2) {k : Nat} (h : top * 4294967296 + u2 + 1 ≤ k * (v1 * 4294967296 + v2)) : W < k * V := by
 refine Nat.lt_of_lt_of_le D.w1 (Nat.le_trans (Nat.mul_le_mul_right P h) ?_)
 rw [Nat.mul_assoc]
 exact Nat.mul_le_mul_left k D.v0
theorem Dg.start (D : Dg W V P v1 v2 top u2) : W < (top / v1 + 1) * V := by
 refine D.le_mul ?_
 have h1 : top + 1 ≤ (top / v1 + 1) * v1 := by
  have := Nat.div_add_mod top v1
  have := Nat.mod_lt top (show 0 < v1 by have := D.d; omega)
  rw [Nat.add_mul, Nat.one_mul, Nat.mul_comm]
  omega
 rw [Nat.mul_add, ← Nat.mul_assoc]
 have := D.c
 generalize (top / v1 + 1) * v1 = x at *
 generalize (top / v1 + 1) * v2 = y at *
 omega
theorem Dg.step (D : Dg W V P v1 v2 top u2) (hq : q * v1 + r = top) (h : 4294967296 ≤ q ∨ r * 4294967296 + u2 < q * v2) : W < q * V := by
 rcases h with h | h
 ·refine Nat.lt_of_lt_of_le D.e ?_
  rw [Nat.mul_comm]
  exact Nat.mul_le_mul_right V h
 ·refine D.le_mul ?_
  rw [Nat.mul_add, ← Nat.mul_assoc]
  generalize q * v1 = x at *
  generalize q * v2 = y at *
  omega
structure Gs (W V q : Nat) : Prop where
 lt : W < (q + 1) * V
 le : (q - 1) * V ≤ W
 b : q < 4294967296
theorem Dg.exA (D : Dg W V P v1 v2 top u2) (hq : q * v1 + r = top) (hW : W < (q + 1) * V) (hb : q < 4294967296) (h : q * v2 ≤ r * 4294967296 + u2) : Gs W V q := by
 refine ⟨hW, ?_, hb⟩
 cases q with
 | zero => simp
 | succ s =>
  rw [Nat.add_sub_cancel]
  have h1 : (s + 1) * (v1 * 4294967296 + v2) ≤ top * 4294967296 + u2 := by
   rw [Nat.mul_add, ← Nat.mul_assoc]
   generalize (s + 1) * v1 = x at *
   generalize (s + 1) * v2 = y at *
   omega
  have h2 : s * (v1 * 4294967296 + v2 + 1) ≤ (s + 1) * (v1 * 4294967296 + v2) := by
   rw [Nat.mul_succ, Nat.succ_mul]
   have := D.d
   omega
  refine Nat.le_trans (Nat.mul_le_mul_left s (Nat.le_of_lt D.v9)) ?_
  rw [← Nat.mul_assoc]
  exact Nat.le_trans (Nat.mul_le_mul_right P (Nat.le_trans h2 h1)) D.w0
theorem QcT (h1 : 1 ≤ q) (hq : q * v1 + r = top) : (q - 1) * v1 + (r + v1) = top := by
 obtain ⟨s, rfl⟩ : ∃ s, q = s + 1 := ⟨q - 1, by omega⟩
 rw [Nat.add_sub_cancel]
 rw [Nat.succ_mul] at hq
 omega
theorem Dg.exB (D : Dg W V P v1 v2 top u2) (hq : q * v1 + r = top) (h1 : 1 ≤ q) (h : 4294967296 ≤ q ∨ r * 4294967296 + u2 < q * v2) (hr : 4294967296 ≤ r + v1) : Gs W V (q - 1) := by
 have h2 := QcT h1 hq
 have hW := D.step hq h
 have ht := D.top_lt
 have hb : q - 1 < 4294967296 := by
  refine Nat.lt_of_not_le fun hn => ?_
  have := Nat.mul_le_mul_right v1 hn
  rw [Nat.mul_comm] at this
  omega
 refine D.exA h2 (by rw [Nat.sub_add_cancel h1]; exact hW) hb ?_
 have := Nat.mul_le_mul (show q - 1 ≤ 4294967295 by omega) (show v2 ≤ 4294967295 by have := D.b; omega)
 omega
theorem Gs.pos (G : Gs W V q) (h : W < q * V) : 1 ≤ q := Nat.pos_of_ne_zero fun e => by subst e; simp at h
theorem Gs.hit (G : Gs W V q) (h : ¬ W < q * V) : W / V = q := Nat.div_eq_of_lt_le (Nat.le_of_not_lt h) G.lt
theorem Gs.over (G : Gs W V q) (h : W < q * V) : W / V = q - 1 := Nat.div_eq_of_lt_le G.le (by rw [Nat.sub_add_cancel (G.pos h)]; exact h)
theorem Gs.hit_row (G : Gs W V q) (h : ¬ W < q * V) (m : Nat) : wsN (tkZ W (q * V) m) (m + 1) = wsN (W % V) (m + 1) := by
 refine QdT ?_
 have e : W % V = W - q * V := by
  have := Nat.div_add_mod W V
  rw [G.hit h, Nat.mul_comm] at this
  omega
 unfold tkZ
 rw [e, show W + 4294967296 ^ (m + 1) * (q * V) - q * V = W - q * V + 4294967296 ^ (m + 1) * (q * V) by
  generalize 4294967296 ^ (m + 1) * (q * V) = x; generalize q * V = y at *; omega, Nat.add_mul_mod_self_left]
theorem Gs.over_mod (G : Gs W V q) (h : W < q * V) (m : Nat) : (tkZ W (q * V) m + V) % 4294967296 ^ (m + 1) = W % V % 4294967296 ^ (m + 1) := by
 have hp := G.pos h
 have e : W % V = W - (q - 1) * V := by
  have := Nat.div_add_mod W V
  rw [G.over h, Nat.mul_comm] at this
  omega
 have hq : q * V = (q - 1) * V + V := by
  obtain ⟨s, rfl⟩ : ∃ s, q = s + 1 := ⟨q - 1, by omega⟩
  rw [Nat.add_sub_cancel, Nat.succ_mul]
 have hl : q * V ≤ 4294967296 ^ (m + 1) * (q * V) := by
  have := Nat.mul_le_mul_right (q * V) (show 1 ≤ 4294967296 ^ (m + 1) from Nat.pow_pos (by omega))
  rwa [Nat.one_mul] at this
 have hle := G.le
 unfold tkZ
 rw [e, show W + 4294967296 ^ (m + 1) * (q * V) - q * V + V = W - (q - 1) * V + 4294967296 ^ (m + 1) * (q * V) by
  generalize 4294967296 ^ (m + 1) * (q * V) = x at *; generalize (q - 1) * V = z at *; generalize q * V = y at *; omega, Nat.add_mul_mod_self_left]
theorem Qay {X : Nat} {n : Nat} (h : X < 4294967296 ^ (n + 1)) : X / 4294967296 ^ n < 4294967296 := by
 rw [Nat.div_lt_iff_lt_mul (Nat.pow_pos (by omega)), Nat.mul_comm]
 rwa [Nat.pow_succ] at h
theorem Qlw {us vs : List UInt32} {uo : Nat} (h2 : 2 ≤ vs.length) (hu : uo + (vs.length + 1) ≤ us.length) (hv : 2147483648 ≤ (vs.getD (vs.length - 1) 0).toNat) (hW : seg us uo (vs.length + 1) < wv vs * 4294967296) :
  Dg (seg us uo (vs.length + 1)) (wv vs) (4294967296 ^ (vs.length - 2)) (vs.getD (vs.length - 1) 0).toNat (vs.getD (vs.length - 2) 0).toNat ((us.getD (uo + vs.length) 0).toNat * 4294967296 + (us.getD (uo + (vs.length - 1)) 0).toNat) (us.getD (uo + (vs.length - 2)) 0).toNat := by
 have hw : seg us uo (vs.length + 1) < 4294967296 ^ (vs.length + 1) := Qhz
 have hvl := U7 vs
 have a1 := UInt32.toNat_lt (vs.getD (vs.length - 1) 0)
 have a2 := UInt32.toNat_lt (vs.getD (vs.length - 2) 0)
 have a3 := UInt32.toNat_lt (us.getD (uo + (vs.length - 2)) 0)
 have e1 := Xb (l := vs) (k := vs.length - 1) (by omega)
 have e2 := Xb (l := vs) (k := vs.length - 2) (by omega)
 have f0 := Yr (us := us) (o := uo) (m := vs.length + 1) (k := vs.length) (by omega) hu
 have f1 := Yr (us := us) (o := uo) (m := vs.length + 1) (k := vs.length - 1) (by omega) hu
 have f2 := Yr (us := us) (o := uo) (m := vs.length + 1) (k := vs.length - 2) (by omega) hu
 generalize hX : seg us uo (vs.length + 1) = X at *
 generalize hY : wv vs = Y at *
 obtain ⟨n, hn⟩ : ∃ n, vs.length = n + 2 := ⟨vs.length - 2, by omega⟩
 rw [hn] at e1 e2 f0 f1 f2 h2 hu hv hvl hw a1 a2 a3 ⊢
 simp only [show n + 2 - 1 = n + 1 by omega, show n + 2 - 2 = n by omega] at e1 e2 f0 f1 f2 hv a1 a2 a3 ⊢
 have hp : 0 < 4294967296 ^ n := Nat.pow_pos (by omega)
 have g1 : Y / 4294967296 ^ (n + 1) = Y / 4294967296 ^ n / 4294967296 := by rw [Nat.pow_succ, Nat.div_div_eq_div_mul]
 have g2 : X / 4294967296 ^ (n + 1) = X / 4294967296 ^ n / 4294967296 := by rw [Nat.pow_succ, Nat.div_div_eq_div_mul]
 have g3 : X / 4294967296 ^ (n + 2) = X / 4294967296 ^ n / 4294967296 / 4294967296 := by rw [Nat.pow_succ (n := 4294967296) (m := n + 1), ← Nat.div_div_eq_div_mul, g2]
 have t1 := Qay (n := n + 1) hvl
 have t2 := Qay (n := n + 2) hw
 rw [g1] at t1 e1
 rw [g3] at t2 f0
 rw [g2] at f1
 have m1 := Nat.div_add_mod X (4294967296 ^ n)
 have m2 := Nat.mod_lt X hp
 have m3 := Nat.div_add_mod Y (4294967296 ^ n)
 have m4 := Nat.mod_lt Y hp
 clear g1 g2 g3 hvl hw
 generalize hx : X / 4294967296 ^ n = X' at *
 generalize hy : Y / 4294967296 ^ n = Y' at *
 have y1 : (vs.getD (n + 1) 0).toNat * 4294967296 + (vs.getD n 0).toNat = Y' := by clear m1 m2 m3 m4; omega
 have x1 : ((us.getD (uo + (n + 2)) 0).toNat * 4294967296 + (us.getD (uo + (n + 1)) 0).toNat) * 4294967296 + (us.getD (uo + n) 0).toNat = X' := by
  have k1 := Nat.div_add_mod X' 4294967296
  have k2 := Nat.div_add_mod (X' / 4294967296) 4294967296
  rw [Nat.mod_eq_of_lt t2] at f0
  clear m1 m2 m3 m4 e1 e2 t1 t2 a1 a2 a3 hv y1 hx hy
  rw [← f0, ← f1] at k2
  rw [← k2, ← f2] at k1
  omega
 refine ⟨hp, ?_, ?_, ?_, ?_, a1, a2, a3, hv, hW⟩
 ·rw [x1, Nat.mul_comm]; exact Nat.le_trans (Nat.le_add_right _ _) (Nat.le_of_eq m1)
 ·rw [x1, Nat.add_mul, Nat.one_mul, Nat.mul_comm]; exact Nat.lt_of_le_of_lt (Nat.le_of_eq m1.symm) (Nat.add_lt_add_left m2 _)
 ·rw [y1, Nat.mul_comm]; exact Nat.le_trans (Nat.le_add_right _ _) (Nat.le_of_eq m3)
 ·rw [y1, Nat.add_mul, Nat.one_mul, Nat.mul_comm]; exact Nat.lt_of_le_of_lt (Nat.le_of_eq m3.symm) (Nat.add_lt_add_left m4 _)
theorem Qga {us vs : List UInt32} {uo k c x y : Nat} (hk : k < vs.length) (hu : uo + (vs.length + 1) ≤ us.length) (hc : c = cA (seg us uo (vs.length + 1)) (wv vs) k) (hx : x = (us.getD (uo + k) 0).toNat) (hy : y = (vs.getD k 0).toNat) :
  (c + (x + y)) / 4294967296 = cA (seg us uo (vs.length + 1)) (wv vs) (k + 1) ∧ UInt32.ofNat (c + (x + y)) = UInt32.ofNat ((seg us uo (vs.length + 1) + wv vs) / 4294967296 ^ k) := by
 rw [Yr (by omega) hu] at hx
 rw [Xb hk] at hy
 constructor
 ·rw [QfN, hc, hx, hy, Nat.add_assoc]
 ·refine ZT ?_
  rw [QbU, hc, hx, hy, Nat.add_assoc]
theorem Qgb {us vs : List UInt32} {uo k s : Nat} (hk : k < vs.length) (hu : uo + (vs.length + 1) ≤ us.length) (hs : UInt32.ofNat s = UInt32.ofNat ((seg us uo (vs.length + 1) + wv vs) / 4294967296 ^ k)) :
  (Qt us uo (wsN (seg us uo (vs.length + 1) + wv vs) k)).set (uo + k) (UInt32.ofNat s) = Qt us uo (wsN (seg us uo (vs.length + 1) + wv vs) (k + 1)) := by
 rw [XV (Qq _ _) (by omega), Y6, hs]
theorem QbX {us vs : List UInt32} {uo : Nat} {x : UInt32} (hu : uo + (vs.length + 1) ≤ us.length) (hx : x = us.getD (uo + vs.length) 0) :
  (Qt us uo (wsN (seg us uo (vs.length + 1) + wv vs) vs.length)).set (uo + vs.length) (x + UInt32.ofNat (cA (seg us uo (vs.length + 1)) (wv vs) vs.length)) = Qt us uo (wsN (seg us uo (vs.length + 1) + wv vs) (vs.length + 1)) := by
 rw [XV (Qq _ _) (by omega), Y6]
 congr 3
 have h := QbU (seg us uo (vs.length + 1)) (wv vs) vs.length
 rw [← Yr (by omega) hu, Nat.div_eq_of_lt (U7 vs)] at h
 refine UInt32.toNat_inj.1 ?_
 rw [UInt32.toNat_add, UInt32.toNat_ofNat', UInt32.toNat_ofNat', hx, h]
 omega
theorem Qgc {us vs : List UInt32} {uo Z : Nat} (hu : uo + (vs.length + 1) ≤ us.length) (R : Nat) (hR : (Z + wv vs) % 4294967296 ^ (vs.length + 1) = R % 4294967296 ^ (vs.length + 1)) :
  Qt (Qt us uo (wsN Z (vs.length + 1))) uo (wsN (seg (Qt us uo (wsN Z (vs.length + 1))) uo (vs.length + 1) + wv vs) (vs.length + 1)) = Qt us uo (wsN R (vs.length + 1)) := by
 rw [Qb1 (by rw [Qq]; omega) (by rw [Qq, Qq])]
 congr 1
 refine QdT ?_
 have e : seg (Qt us uo (wsN Z (vs.length + 1))) uo (vs.length + 1) = Z % 4294967296 ^ (vs.length + 1) := by
  unfold seg Qt
  rw [List.append_assoc, List.drop_append_of_le_length (by simp; omega), List.drop_of_length_le (by simp; omega), List.nil_append, List.take_append_of_le_length (by rw [Qq]; omega), List.take_of_length_le (by rw [Qq]; omega), V5]
 rw [e, ← hR, Nat.mod_add_mod]
end Go.Proofs.Ytgfomedobfaidaa
end
