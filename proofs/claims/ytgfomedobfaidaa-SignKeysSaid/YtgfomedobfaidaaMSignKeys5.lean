import Derived.Test.YtgfomedobfaidaaMSignKeys4
set_option maxHeartbeats 8000000
set_option maxRecDepth 1000000
/-
  The row of SignKeys: that the law answers true of every input; part 5 of 10: what the proof needs, in order.
-/
section
set_option linter.unusedVariables false
set_option linter.unusedSimpArgs false
namespace Go.Proofs.Ytgfomedobfaidaa
open Go.RowKit
theorem Js {lab : Lab} {w : World} (hv : Qm lab w) {a : Nat} {v0 : Value} (h0 : Qj a lab w v0) :
  Calls Try.prog 48 #[v0] w (fun e w' => ∃ v, e = .returned v ∧ (Is (.bool (decide (a = 0)))) lab w' v ∧ Below w.heap.size w w') := by
 obtain ⟨L0, h0L, ⟨zU0, z00⟩, hX⟩ := QX hv
 replace h0 := up z00 h0
 obtain ⟨A1, c2, rfl⟩ := Qj.shape h0
 have z3 := Qj.cap h0
 refine Qu Try.func48 rfl Try.ntmps48 (lB9 rfl) ?_
 refine rsr ?_
 refine Yo 2 [.slice A1 (nw a) c2] h0L rfl rfl fun b6 L4 w5 o7 s8 h9 => ?_
 refine sv (Qa.assign rfl) ?_
 refine nsr ?_
 refine sv (Qd 0 Try.underlying60 rfl Zb rfl rfl) ?_
 have q11 := up s8 h0
 have q10 := Q9 q11
 refine sv (Qf o7 Zb rfl rfl) ?_
 refine sv (Qa.len Try.underlying58 rfl) ?_
 refine sv (Qa.eql rfl rfl) ?_
 refine sv (Qa.assign rfl) ?_
 refine Seq.next ?_
 obtain ⟨⟨zU, zo⟩, zb⟩ := hX s8 (by decide)
 refine Run.ret ?_
 exact Qn Try.results48 rfl ⟨_, rfl, (Jb (by exact decide_eq_decide.2 Qgh) _ _), zb⟩
theorem XA {lab : Lab} {w : World} (hv : Qm lab w) {x : UInt32} :
  Calls Try.prog 158 #[u32 x] w (fun e w' => ∃ v, e = .returned v ∧ (Is (i64 ((lz x : Nat) : Int))) lab w' v ∧ Below w.heap.size w w') := by
 obtain ⟨L0, h0L, ⟨zU0, z00⟩, hX⟩ := QX hv
 have hz := QjW x
 have hbl : QM x.toNat ≤ 32 := Zh.2 (UInt32.toNat_lt _)
 refine Qu Try.func158 rfl Try.ntmps158 (lB9 rfl) ?_
 refine rsr ?_
 refine sv (Qa.assign rfl) ?_
 refine nsr ?_
 refine sv (Qa.move rfl) ?_
 refine Q4 (V := Is (i64 ((QM x.toNat : Nat) : Int))) Qh8 h0L rfl (Ut h0L (x := x)) fun v1 w2 q3 s4 h5 => ?_
 have q3 := Is.out q3; subst q3
 refine sv (Qa.sub rfl rfl (by omega)) ?_
 refine sv (Qa.assign rfl) ?_
 refine Seq.next ?_
 obtain ⟨⟨zU, zo⟩, zb⟩ := hX s4 (by decide)
 refine Run.ret ?_
 exact Qn Try.results158 rfl ⟨_, rfl, (JE (by exact hz) _ _), zb⟩
theorem UM {lab : Lab} {w : World} (hv : Qm lab w) {a : Nat} {v0 : Value} (h0 : Qj a lab w v0) {b : Nat} {v1 : Value} (h1 : Qj b lab w v1) (ha : nw a ≤ 999999) (hb : nw b ≤ 1000000) :
  Calls Try.prog 112 #[v0, v1] w (fun e w' => ∃ v, e = .returned v ∧ (QdP (Qj (a / b)) (Qj (if b = 0 then 0 else a % b)) (Is (i64 (if b = 0 then 5 else 0)))) lab w' v ∧ Below w.heap.size w w') := by
 obtain ⟨L0, h0L, ⟨zU0, z00⟩, hX⟩ := QX hv
 replace h0 := up z00 h0
 obtain ⟨A1, c2, rfl⟩ := Qj.shape h0
 have z3 := Qj.cap h0
 replace h1 := up z00 h1
 obtain ⟨A4, c5, rfl⟩ := Qj.shape h1
 have z6 := Qj.cap h1
 have hLa : (Qk a).length = nw a := rfl
 have hLb : (Qk b).length = nw b := rfl
 have hnz : b ≠ 0 → 0 < nw b := Zj
 have hsz : b ≠ 0 → sh b < 32 := Qij
 have hlz : b ≠ 0 → List.length (List.take (nw b) (shl (Qk b) (sh b))) = nw b := fun h => (by rw [Qhd h, Qq])
 have hls : List.length (shl (Qk b) (sh b)) = nw b + 1 := Qde _ _
 have hge : ¬ Ji a b < 0 → nw b ≤ nw a := QeI
 refine Qu Try.func112 rfl Try.ntmps112 (lB9 rfl) ?_
 refine rsr ?_
 refine Yo 3 [.slice A1 (nw a) c2] h0L rfl rfl fun b9 L7 w8 o10 s11 h12 => ?_
 refine Yo 4 [.slice A4 (nw b) c5] h12 rfl rfl fun b15 L13 w14 o16 s17 h18 => ?_
 refine QK 5 [.slice none 0 0] h18 Qo rfl fun b21 L19 w20 o22 s23 h24 => ?_
 refine QK 6 [.slice none 0 0] h24 Qo rfl fun b27 L25 w26 o28 s29 h30 => ?_
 refine sv (Qa.assign rfl) ?_
 refine Seq.next ?_
 refine Run.seq ?_
 refine Run.block ?_
 refine rsr ?_
 have c32 := s23.trans s29
 have o31 := o16.up c32
 refine sv (Qb [.slice A4 (nw b) c5] o31 Qo rfl rfl) ?_
 have c33 := s17.trans c32
 have c34 := s11.trans c33
 have q35 := up c34 h1
 refine Q4 (V := Is (.bool (decide (b = 0)))) ZW h30 rfl (Js h30 q35) fun v36 w37 q38 s39 h40 => ?_
 have q38 := Is.out q38; subst q38
 refine sv (Qa.assign rfl) ?_
 refine Seq.next ?_
 rcases Decidable.em (b = 0) with hp1 | hp1
 ·refine Qc rfl (dT9 hp1) ?_
  refine rsr ?_
  refine sv (Qa.build [] [(0, 1)] [.slice none 0 0] Try.underlying60 Qo (by kernel_rfl) rfl (by kernel_rfl)) ?_
  refine sv (Qa.build [] [(0, 1)] [.slice none 0 0] Try.underlying60 Qo (by kernel_rfl) rfl (by kernel_rfl)) ?_
  have c42 := s29.trans s39
  have o41 := o22.up c42
  refine Q1 [.slice none 0 0] h40 o41 Qo rfl rfl rfl (lB9 rfl) rfl rfl fun w43 o44 s45 h46 => ?_
  have c48 := s39.trans s45
  have o47 := o28.up c48
  refine Q1 [.slice none 0 0] h46 o47 Qo rfl rfl rfl (lB9 rfl) rfl rfl fun w49 o50 s51 h52 => ?_
  refine sv (Qa.assign rfl) ?_
  refine Seq.next ?_
  have o53 := o44.up s51
  have c54 := c48.trans s51
  have c55 := c34.trans c54
  obtain ⟨⟨zU, zo⟩, zb⟩ := hX c55 (by decide)
  have c56 := s45.trans s51
  have q57 := up c56 (Qj.zero L25 w37)
  have q58 := up c56 (Qj.zero L25 w37)
  refine Run.ret (QQ (Qr ?_))
  exact Xr Try.results112 ⟨_, rfl, Q6 [.slice none 0 0] o53 Qo rfl⟩ ⟨_, rfl, Q6 [.slice none 0 0] o50 Qo rfl⟩ rfl ⟨_, rfl, ⟨_, _, _, rfl, (Q2 (by rw [hp1, Nat.div_zero]) (up zo q57)), (Q2 (by rw [if_pos hp1]) (up zo q58)), (JE (by rw [if_pos hp1]) _ _)⟩, zb⟩
 refine Qc rfl (dF9 hp1) ?_
 refine rsr ?_
 have c60 := c33.trans s39
 have o59 := o10.up c60
 refine sv (Qb [.slice A1 (nw a) c2] o59 Qo rfl rfl) ?_
 have o61 := o31.up s39
 refine sv (Qb [.slice A4 (nw b) c5] o61 Qo rfl rfl) ?_
 have c62 := c34.trans s39
 have q63 := up c62 h0
 have q64 := up s39 q35
 refine Q4 (V := Is (i64 (Ji a b))) ZF h40 rfl (J1 h40 q63 q64) fun v65 w66 q67 s68 h69 => ?_
 have q67 := Is.out q67; subst q67
 refine sv (Qa.lss rfl rfl) ?_
 refine sv (Qa.assign rfl) ?_
 refine Seq.next ?_
 rcases Decidable.em ((Ji a b : Int) < (0 : Int)) with hp2 | hp2
 ·refine Qc rfl (dT9 hp2) ?_
  refine Run.seq ?_
  refine Zu [⟨26, .v (Qj 0), [], none⟩, ⟨27, .ex (.agg #[.slice A1 (nw a) c2]), [], none⟩, ⟨4, .v (QhM b21 5 60 (Qj 0)), [5], none⟩] [1, 2] [[], [5], []] Jg (by kernel_rfl) (by kernel_rfl) rfl h69 ⟨J4, QJ, Xb rfl, trivial⟩ ⟨?_, ?_, ?_, trivial⟩ (fun L98 w99 h100 s101 v102 q103 => ?_)
  ·refine rP [] rfl rfl rfl rfl fun L70 w71 h72 s73 => ?_
   replace s73 : Stp [] _ _ _ _ := s73
   exact ⟨_, Qa.build [] [(0, 1)] [.slice none 0 0] Try.underlying60 Qo (by kernel_rfl) rfl (by kernel_rfl), (Qj.zero L70 w71)⟩
  ·refine rP [] rfl rfl rfl rfl fun L74 w75 h76 s77 => ?_
   replace s77 : Stp [5] _ _ _ _ := s77
   have c79 := s68.trans s77
   have o78 := o59.up c79
   exact ⟨_, Qb [.slice A1 (nw a) c2] o78 Qo rfl rfl, rfl⟩
  ·refine rS [0] rfl rfl rfl fun L80 w81 h82 s83 v84 q85 => ?_
   replace s83 : Stp [] _ _ _ _ := s83
   obtain ⟨A86, c87, rfl⟩ := Qj.shape q85
   have z88 := Qj.cap q85
   have c90 := s68.trans s83
   have c91 := s39.trans c90
   have c92 := s29.trans c91
   have o89 := o22.up c92
   refine Zy (v := (.agg #[.slice A86 (nw 0) c87])) [.slice A86 (nw 0) c87] h82 o89 Qo rfl rfl rfl (lB9 rfl) rfl rfl fun w93 s96 o97 => ?_
   exact ⟨(.agg #[.slice A86 (nw 0) c87]), rfl, o97, (up s96 q85)⟩
  replace s101 : Stp [5] _ _ _ _ := s101
  obtain ⟨u105, rfl, o106, q107⟩ := q103
  obtain ⟨A108, c109, rfl⟩ := Qj.shape q107
  have z110 := Qj.cap q107
  replace o106 : Own L98 w99 5 b21 60 #[.slice A108 (nw 0) c109] := o106
  have c112 := s68.trans s101
  have c113 := s39.trans c112
  have o111 := o28.up c113
  refine Q1 [.slice A1 (nw a) c2] h100 o111 Qo rfl rfl rfl (lB9 rfl) rfl rfl fun w114 o115 s116 h117 => ?_
  refine sv (Qa.assign rfl) ?_
  refine Seq.next ?_
  have o118 := o106.up s116
  have c119 := c112.trans s116
  have c120 := c62.trans c119
  obtain ⟨⟨zU, zo⟩, zb⟩ := hX c120 (by decide)
  have q121 := up s116 q107
  have q122 := up c119 q63
  refine Run.ret (QQ (Qr ?_))
  exact Xr Try.results112 ⟨_, rfl, Q6 [.slice A108 (nw 0) c109] o118 Qo rfl⟩ ⟨_, rfl, Q6 [.slice A1 (nw a) c2] o115 Qo rfl⟩ rfl ⟨_, rfl, ⟨_, _, _, rfl, (Q2 (by exact (Nat.div_eq_of_lt (QaJ hp2)).symm) (up zo q121)), (Q2 (by rw [if_neg hp1, Nat.mod_eq_of_lt (QaJ hp2)]) (up zo q122)), (JE (by rw [if_neg hp1]) _ _)⟩, zb⟩
 refine Qc rfl (dF9 hp2) ?_
 refine rsr ?_
 refine sv (Qd 0 Try.underlying60 rfl Zb rfl rfl) ?_
 have o123 := o61.up s68
 have q125 := up s68 q64
 have q124 := Q9 q125
 refine sv (Qf o123 Zb rfl rfl) ?_
 refine sv (Qa.len Try.underlying58 rfl) ?_
 refine sv (Qa.eql rfl rfl) ?_
 refine sv (Qa.assign rfl) ?_
 refine Seq.next ?_
 rcases Decidable.em ((((nw b : Nat) : Int) : Int) = (1 : Int)) with hp3 | hp3
 ·refine Qc rfl (dT9 hp3) ?_
  refine Run.seq ?_
  refine Zu [⟨34, .ex (.agg #[.slice A1 (nw a) c2]), [], none⟩, ⟨35, .ex (.pointer (some ⟨b15, 0, none⟩)), [], none⟩, ⟨36, .v (Qp (Qk b)), [], none⟩, ⟨37, .v (ElV (List.map u32 (Qk b)) 0), [], none⟩, ⟨38, .ex (u32 (List.getD (Qk b) 0 (0 : UInt32))), [], none⟩, ⟨39, .v (Zl (Qj (a / (List.getD (Qk b) 0 (0 : UInt32)).toNat)) (Qj (a % (List.getD (Qk b) 0 (0 : UInt32)).toNat))), [], none⟩, ⟨33, .v (Zl (Qj (a / (List.getD (Qk b) 0 (0 : UInt32)).toNat)) (Qj (a % (List.getD (Qk b) 0 (0 : UInt32)).toNat))), [], none⟩, ⟨40, .v (Qj (a / (List.getD (Qk b) 0 (0 : UInt32)).toNat)), [], none⟩, ⟨41, .v (Qj (a % (List.getD (Qk b) 0 (0 : UInt32)).toNat)), [], none⟩, ⟨7, .v (QcV 8 60 (Is (.agg #[.slice none 0 0]))), [], (some 11)⟩, ⟨8, .v (QcV 9 60 (Is (.agg #[.slice none 0 0]))), [], none⟩, ⟨7, .v (QcV 8 60 (Qj (a / (List.getD (Qk b) 0 (0 : UInt32)).toNat))), [8], none⟩] [8, 10, 11] [[], [], [], [], [], [], [], [], [8], [], [], []] Jg (by kernel_rfl) (by kernel_rfl) rfl h69 ⟨QJ, QJ, J4, J4, QJ, J4, J4, J4, J4, ZH rfl, ZH rfl, ZH rfl, trivial⟩ ⟨?_, (rX [] rfl rfl rfl rfl fun _ _ => Qd 0 Try.underlying60 rfl Zb rfl rfl), ?_, ?_, ?_, ?_, ?_, ?_, ?_, ?_, ?_, ?_, trivial⟩ (fun L243 w244 h245 s246 v247 q248 v252 q253 v258 q259 => ?_)
  ·refine rP [] rfl rfl rfl rfl fun L126 w127 h128 s129 => ?_
   replace s129 : Stp [] _ _ _ _ := s129
   have c131 := s68.trans s129
   have o130 := o59.up c131
   exact ⟨_, Qb [.slice A1 (nw a) c2] o130 Qo rfl rfl, rfl⟩
  ·refine rP [1] rfl rfl rfl rfl fun L136 w137 h138 s139 => ?_
   replace s139 : Stp [] _ _ _ _ := s139
   have o140 := o123.up s139
   have q142 := up s139 q125
   have q141 := Q9 q142
   exact ⟨_, Qf o140 Zb rfl rfl, q141⟩
  ·refine rP [2] rfl rfl rfl rfl fun L143 w144 h145 s146 v147 q148 => ?_
   replace s146 : Stp [] _ _ _ _ := s146
   obtain ⟨A149, c150, rfl⟩ := Qp.shapeN q148 (n := nw b) (by rfl)
   have z151 := Qp.cap q148
   exact ⟨_, Qs 0 Try.underlying58 Qx rfl rfl (Qp.row q148) (by simp [nw]) (by omega) (by omega), ⟨_, rfl, (Qp.row q148)⟩⟩
  ·refine rP [3] rfl rfl rfl rfl fun L152 w153 h154 s155 v156 q157 => ?_
   replace s155 : Stp [] _ _ _ _ := s155
   obtain ⟨A158, rfl, r159⟩ := q157
   have t160 := UInt32.toNat_lt (List.getD (Qk b) 0 (0 : UInt32))
   exact ⟨_, Qy Qx rfl r159 (Jo u32 _ (0 : UInt32) (by omega)), rfl⟩
  ·refine rC [0, 4] rfl rfl rfl rfl Qkz fun L161 w162 h163 s164 => ?_
   replace s164 : Stp [] _ _ _ _ := s164
   have c165 := s68.trans s164
   have q166 := up c165 q63
   exact ⟨_, rfl, (QeO h163 (d := List.getD (Qk b) 0 (0 : UInt32)) q166 (show (List.getD (Qk b) 0 (0 : UInt32)).toNat ≠ 0 from by (rw [UI hp3]; exact hp1)) (show nw a ≤ 1000000 from by omega))⟩
  ·refine rP [5] rfl rfl rfl rfl fun L167 w168 h169 s170 v171 q172 => ?_
   replace s170 : Stp [] _ _ _ _ := s170
   obtain ⟨v173, v174, rfl, q175, q176⟩ := q172
   obtain ⟨A177, c178, rfl⟩ := Qj.shape q175
   have z179 := Qj.cap q175
   obtain ⟨A180, c181, rfl⟩ := Qj.shape q176
   have z182 := Qj.cap q176
   exact ⟨_, Qa.move rfl, ⟨_, _, rfl, q175, q176⟩⟩
  ·refine rP [6] rfl rfl rfl rfl fun L183 w184 h185 s186 v187 q188 => ?_
   replace s186 : Stp [] _ _ _ _ := s186
   obtain ⟨v189, v190, rfl, q191, q192⟩ := q188
   obtain ⟨A193, c194, rfl⟩ := Qj.shape q191
   have z195 := Qj.cap q191
   obtain ⟨A196, c197, rfl⟩ := Qj.shape q192
   have z198 := Qj.cap q192
   exact ⟨_, Qa.extract rfl rfl, q191⟩
  ·refine rP [6] rfl rfl rfl rfl fun L199 w200 h201 s202 v203 q204 => ?_
   replace s202 : Stp [8] _ _ _ _ := s202
   obtain ⟨v205, v206, rfl, q207, q208⟩ := q204
   obtain ⟨A209, c210, rfl⟩ := Qj.shape q207
   have z211 := Qj.cap q207
   obtain ⟨A212, c213, rfl⟩ := Qj.shape q208
   have z214 := Qj.cap q208
   exact ⟨_, Qa.extract rfl rfl, q208⟩
  ·refine rN [] rfl rfl rfl rfl fun L215 w216 h217 s218 => ?_
   replace s218 : Stp [] _ _ _ _ := s218
   exact ⟨_, _, _, Qa.alloc Qo, h217.alloc _ 8, Stp.alloc _ 8, ⟨_, (.agg #[.slice none 0 0]), rfl, Own.alloc _ _ _ _ 8, rfl⟩⟩
  ·refine rN [] rfl rfl rfl rfl fun L219 w220 h221 s222 => ?_
   replace s222 : Stp [] _ _ _ _ := s222
   exact ⟨_, _, _, Qa.alloc Qo, h221.alloc _ 9, Stp.alloc _ 9, ⟨_, (.agg #[.slice none 0 0]), rfl, Own.alloc _ _ _ _ 9, rfl⟩⟩
  ·refine rS [7, 9] rfl rfl rfl fun L223 w224 h225 s226 v227 q228 v232 q233 => ?_
   replace s226 : Stp [] _ _ _ _ := s226
   obtain ⟨A229, c230, rfl⟩ := Qj.shape q228
   have z231 := Qj.cap q228
   obtain ⟨b234, u235, rfl, o236, q237⟩ := q233
   replace q237 := Is.out q237; subst q237
   replace o236 : Own L223 w224 8 b234 60 #[.slice none 0 0] := o236
   refine Zy (v := (.agg #[.slice A229 (nw (a / (List.getD (Qk b) 0 (0 : UInt32)).toNat)) c230])) [.slice A229 (nw (a / (List.getD (Qk b) 0 (0 : UInt32)).toNat)) c230] h225 o236 Qo rfl rfl rfl (lB9 rfl) rfl rfl fun w238 s241 o242 => ?_
   exact ⟨_, (.agg #[.slice A229 (nw (a / (List.getD (Qk b) 0 (0 : UInt32)).toNat)) c230]), rfl, o242, (up s241 q228)⟩
  replace s246 : Stp [8] _ _ _ _ := s246
  obtain ⟨A249, c250, rfl⟩ := Qj.shape q248
  have z251 := Qj.cap q248
  obtain ⟨b254, u255, rfl, o256, q257⟩ := q253
  replace q257 := Is.out q257; subst q257
  replace o256 : Own L243 w244 9 b254 60 #[.slice none 0 0] := o256
  obtain ⟨b260, u261, rfl, o262, q263⟩ := q259
  obtain ⟨A264, c265, rfl⟩ := Qj.shape q263
  have z266 := Qj.cap q263
  replace o262 : Own L243 w244 8 b260 60 #[.slice A264 (nw (a / (List.getD (Qk b) 0 (0 : UInt32)).toNat)) c265] := o262
  refine Q1 [.slice A249 (nw (a % (List.getD (Qk b) 0 (0 : UInt32)).toNat)) c250] h245 o256 Qo rfl rfl rfl (lB9 rfl) rfl rfl fun w267 o268 s269 h270 => ?_
  refine Seq.next ?_
  refine Run.seq ?_
  refine Zu [⟨42, .ex (.agg #[.slice A264 (nw (a / (List.getD (Qk b) 0 (0 : UInt32)).toNat)) c265]), [], none⟩, ⟨43, .ex (.agg #[.slice A249 (nw (a % (List.getD (Qk b) 0 (0 : UInt32)).toNat)) c250]), [], none⟩, ⟨4, .v (QhM b21 5 60 (Is (.agg #[.slice A264 (nw (a / (List.getD (Qk b) 0 (0 : UInt32)).toNat)) c265]))), [5], none⟩] [1, 2] [[], [5], []] Jg (by kernel_rfl) (by kernel_rfl) rfl h270 ⟨QJ, QJ, Xb rfl, trivial⟩ ⟨?_, ?_, ?_, trivial⟩ (fun L297 w298 h299 s300 v301 q302 => ?_)
  ·refine rP [] rfl rfl rfl rfl fun L271 w272 h273 s274 => ?_
   replace s274 : Stp [] _ _ _ _ := s274
   have c276 := s269.trans s274
   have o275 := o262.up c276
   exact ⟨_, Qb [.slice A264 (nw (a / (List.getD (Qk b) 0 (0 : UInt32)).toNat)) c265] o275 Qo rfl rfl, rfl⟩
  ·refine rP [] rfl rfl rfl rfl fun L277 w278 h279 s280 => ?_
   replace s280 : Stp [5] _ _ _ _ := s280
   have o281 := o268.up s280
   exact ⟨_, Qb [.slice A249 (nw (a % (List.getD (Qk b) 0 (0 : UInt32)).toNat)) c250] o281 Qo rfl rfl, rfl⟩
  ·refine rS [0] rfl rfl rfl fun L282 w283 h284 s285 => ?_
   replace s285 : Stp [] _ _ _ _ := s285
   have c287 := s269.trans s285
   have c288 := s246.trans c287
   have c289 := s68.trans c288
   have c290 := s39.trans c289
   have c291 := s29.trans c290
   have o286 := o22.up c291
   refine Zy (v := (.agg #[.slice A264 (nw (a / (List.getD (Qk b) 0 (0 : UInt32)).toNat)) c265])) [.slice A264 (nw (a / (List.getD (Qk b) 0 (0 : UInt32)).toNat)) c265] h284 o286 Qo rfl rfl rfl (lB9 rfl) rfl rfl fun w292 s295 o296 => ?_
   exact ⟨(.agg #[.slice A264 (nw (a / (List.getD (Qk b) 0 (0 : UInt32)).toNat)) c265]), rfl, o296, rfl⟩
  replace s300 : Stp [5] _ _ _ _ := s300
  obtain ⟨u304, rfl, o305, q306⟩ := q302
  replace q306 := Is.out q306; subst q306
  replace o305 : Own L297 w298 5 b21 60 #[.slice A264 (nw (a / (List.getD (Qk b) 0 (0 : UInt32)).toNat)) c265] := o305
  have c308 := s269.trans s300
  have c309 := s246.trans c308
  have c310 := s68.trans c309
  have c311 := s39.trans c310
  have o307 := o28.up c311
  refine Q1 [.slice A249 (nw (a % (List.getD (Qk b) 0 (0 : UInt32)).toNat)) c250] h299 o307 Qo rfl rfl rfl (lB9 rfl) rfl rfl fun w312 o313 s314 h315 => ?_
  refine sv (Qa.assign rfl) ?_
  refine Seq.next ?_
  have o316 := o305.up s314
  have c317 := c310.trans s314
  have c318 := c62.trans c317
  obtain ⟨⟨zU, zo⟩, zb⟩ := hX c318 (by decide)
  have c319 := c308.trans s314
  have q320 := up c319 q263
  have q321 := up c319 q248
  refine Run.ret (QQ (Qr ?_))
  exact Xr Try.results112 ⟨_, rfl, Q6 [.slice A264 (nw (a / (List.getD (Qk b) 0 (0 : UInt32)).toNat)) c265] o316 Qo rfl⟩ ⟨_, rfl, Q6 [.slice A249 (nw (a % (List.getD (Qk b) 0 (0 : UInt32)).toNat)) c250] o313 Qo rfl⟩ rfl ⟨_, rfl, ⟨_, _, _, rfl, (Q2 (by rw [UI hp3]) (up zo q320)), (Q2 (by rw [if_neg hp1, UI hp3]) (up zo q321)), (JE (by rw [if_neg hp1]) _ _)⟩, zb⟩
 refine Qc rfl (dF9 hp3) ?_
 refine Qh (fun _ _ h => h) ?_
 refine rsr ?_
 refine sv (Qd 0 Try.underlying60 rfl Zb rfl rfl) ?_
 have q322 := Q9 q125
 refine sv (Qf o123 Zb rfl rfl) ?_
 refine sv (Qd 0 Try.underlying60 rfl Zb rfl rfl) ?_
 have q323 := Q9 q125
 refine sv (Qf o123 Zb rfl rfl) ?_
 refine sv (Qa.len Try.underlying58 rfl) ?_
 refine sv (Qa.sub rfl rfl (by omega)) ?_
 refine sv (Qs ((nw b) - 1) Try.underlying58 Qx rfl rfl (Qp.row q322) (by simp [nw]) (by omega) (by omega)) ?_
 have t324 := UInt32.toNat_lt (List.getD (Qk b) ((nw b) - 1) (0 : UInt32))
 refine sv (Qy Qx rfl (Qp.row q322) (Jo u32 _ (0 : UInt32) (by omega))) ?_
 refine Q4 (V := Is (i64 ((lz (List.getD (Qk b) ((nw b) - 1) (0 : UInt32)) : Nat) : Int))) Qky h69 rfl (XA h69 (x := List.getD (Qk b) ((nw b) - 1) (0 : UInt32))) fun v325 w326 q327 s328 h329 => ?_
 have q327 := Is.out q327; subst q327
 refine sv (Qa.assign rfl) ?_
 refine Seq.next ?_
 refine Run.seq ?_
 refine Run.open 14 (Φ := [.ex (.pointer (some ⟨b9, 0, none⟩)), .v (Qp (Qk a)), .ex (i64 ((lz (List.getD (Qk b) ((nw b) - 1) (0 : UInt32)) : Nat) : Int)), .v (QkO 57 167 (List.length (Qk a) + 1) (List.map u32 (shl (Qk a) (sh b)))), .ex (.pointer (some ⟨b15, 0, none⟩)), .v (Qp (Qk b)), .ex (i64 ((lz (List.getD (Qk b) ((nw b) - 1) (0 : UInt32)) : Nat) : Int)), .v (Qp (shl (Qk b) (sh b))), .ex (.pointer (some ⟨b15, 0, none⟩)), .v (Qp (Qk b)), .ex (i64 ((nw b : Nat) : Int)), .v (Qp (List.take (nw b) (shl (Qk b) (sh b)))), .v (QkO 57 167 (List.length (Qk a) + 1) (List.map u32 (shl (Qk a) (sh b)))), .v (Qp (List.take (nw b) (shl (Qk b) (sh b))))]) [(12, 10), (13, 11)] Jg (by kernel_rfl) rfl h329 ⟨(oX [] rfl rfl rfl fun _ _ => Qd 0 Try.underlying60 rfl Zb rfl rfl), ?_, (oX [] rfl rfl rfl fun _ _ => Qa.move rfl), ?_, (oX [] rfl rfl rfl fun _ _ => Qd 0 Try.underlying60 rfl Zb rfl rfl), ?_, (oX [] rfl rfl rfl fun _ _ => Qa.move rfl), ?_, (oX [] rfl rfl rfl fun _ _ => Qd 0 Try.underlying60 rfl Zb rfl rfl), ?_, ?_, ?_, (oP [(3, 56)] rfl rfl fun L412 w413 h414 s415 v q => ⟨_, Qa.assign rfl, q⟩), ?_, trivial⟩ (fun L430 w431 h432 s433 v434 q435 v439 q440 => ?_)
 ·refine oP [(0, 53)] rfl rfl fun L334 w335 h336 s337 => ?_
  have c339 := s328.trans s337
  have c340 := s68.trans c339
  have o338 := o59.up c340
  have q342 := up c340 q63
  have q341 := Q9 q342
  exact ⟨_, Qf o338 Zb rfl rfl, q341⟩
 ·refine oE [(1, 54), (2, 55)] rfl rfl Qh9 fun L347 w348 h349 s350 v351 q352 => ?_
  obtain ⟨A353, c354, rfl⟩ := Qp.shapeN q352 (n := nw a) (by rfl)
  have z355 := Qp.cap q352
  exact ⟨_, rfl, (Qdu h349 (n := (sh b)) q352 (show List.length (Qk a) ≤ 1000000 from by omega) (show (sh b) < 32 from by omega))⟩
 ·refine oP [(4, 57)] rfl rfl fun L360 w361 h362 s363 => ?_
  have c365 := s328.trans s363
  have o364 := o123.up c365
  have q367 := up c365 q125
  have q366 := Q9 q367
  exact ⟨_, Qf o364 Zb rfl rfl, q366⟩
 ·refine oC [(5, 58), (6, 59)] rfl rfl Qh9 fun L372 w373 h374 s375 v376 q377 => ?_
  obtain ⟨A378, c379, rfl⟩ := Qp.shapeN q377 (n := nw b) (by rfl)
  have z380 := Qp.cap q377
  exact ⟨_, rfl, (QeP h374 (n := (sh b)) q377 (show List.length (Qk b) ≤ 1000000 from by assumption) (show (sh b) < 32 from by omega))⟩
 ·refine oP [(8, 61)] rfl rfl fun L385 w386 h387 s388 => ?_
  have c390 := s328.trans s388
  have o389 := o123.up c390
  have q392 := up c390 q125
  have q391 := Q9 q392
  exact ⟨_, Qf o389 Zb rfl rfl, q391⟩
 ·refine oP [(9, 62)] rfl rfl fun L393 w394 h395 s396 v397 q398 => ?_
  obtain ⟨A399, c400, rfl⟩ := Qp.shapeN q398 (n := nw b) (by rfl)
  have z401 := Qp.cap q398
  exact ⟨_, Qa.len Try.underlying58 rfl, rfl⟩
 ·refine oP [(7, 60), (10, 63)] rfl rfl fun L402 w403 h404 s405 v406 q407 => ?_
  obtain ⟨A408, c409, rfl⟩ := Qp.shape q407
  have z410 := Qp.cap q407
  have q411 := Qp.takeN q407 (nw b) (by omega)
  exact ⟨_, ZN (nw b) Try.underlying58 Qx rfl rfl (by omega) (by have := (Qp.cap q407).2; omega), q411⟩
 ·refine oP [(11, 64)] rfl rfl fun L421 w422 h423 s424 v425 q426 => ?_
  obtain ⟨A427, c428, rfl⟩ := Qp.shape q426
  have z429 := Qp.cap q426
  exact ⟨_, Qa.assign rfl, q426⟩
 obtain ⟨b436, rfl, m437, o438⟩ := q435
 obtain ⟨A441, c442, rfl⟩ := Qp.shape q440
 have z443 := Qp.cap q440
 refine nsr ?_
 refine sv (Qa.move rfl) ?_
 refine sv (Qa.len Try.underlying58 rfl) ?_
 refine sv (Qa.move rfl) ?_
 refine sv (Qa.len Try.underlying58 rfl) ?_
 refine sv (Qa.sub rfl rfl (by omega)) ?_
 refine Jv (k := 71) u32 (0 : UInt32) ((((List.length (Qk a) + 1 : Nat) : Int) - ((List.length (List.take (nw b) (shl (Qk b) (sh b))) : Nat) : Int)).toNat) h432 Try.underlying58 Qx rfl rfl rfl (by omega) (by omega) (by omega) (by omega) (by decide) ?_
 intro lab444 w445 b446 o447 s448 hv449
 refine sv (Qa.assign rfl) ?_
 refine Seq.next ?_
 refine Run.seq ?_
 refine rsr ?_
 refine sv (Qa.move rfl) ?_
 refine sv (Qa.len Try.underlying58 rfl) ?_
 refine sv (Qa.sub rfl rfl (by omega)) ?_
 refine sv (Qa.assign rfl) ?_
 refine Seq.next ?_
 refine Run.block ?_
 have o450 := o438.up s448
 refine Run.loop (fun m' l' w' => ∃ (k : Nat) (lab' : Lab), m' = k ∧ l' = [(13, i64 (((k : Nat) : Int) - 1)), (4, .pointer (some ⟨b21, 0, none⟩)), (5, .pointer (some ⟨b27, 0, none⟩)), (6, .int .i64 0), (9, i64 ((lz (List.getD (Qk b) ((nw b) - 1) (0 : UInt32)) : Nat) : Int)), (10, .slice (some ⟨b436, 0, none⟩) (List.length (Qk a) + 1) (List.length (Qk a) + 1)), (11, .slice A441 (List.length (List.take (nw b) (shl (Qk b) (sh b)))) c442), (12, .slice (some ⟨b446, 0, none⟩) ((((List.length (Qk a) + 1 : Nat) : Int) - ((List.length (List.take (nw b) (shl (Qk b) (sh b))) : Nat) : Int)).toNat) ((((List.length (Qk a) + 1 : Nat) : Int) - ((List.length (List.take (nw b) (shl (Qk b) (sh b))) : Nat) : Int)).toNat))] ∧ Qm lab' w' ∧ Stp [57, 71] lab444 w445 lab' w' ∧ Own lab' w' 57 b436 167 (List.map u32 (wsN (dvU (a * 2 ^ sh b) (b * 2 ^ sh b) k) (nw a + 1))).toArray ∧ Own lab' w' 71 b446 167 (List.map u32 (dvQ (a * 2 ^ sh b) (b * 2 ^ sh b) k (nw a + 1 - nw b))).toArray ∧ (k ≤ nw a + 1 - nw b)) ((nw a + 1 - nw b)) (l0 := [(13, i64 ((((nw a + 1 - nw b) : Nat) : Int) - 1)), (4, .pointer (some ⟨b21, 0, none⟩)), (5, .pointer (some ⟨b27, 0, none⟩)), (6, .int .i64 0), (9, i64 ((lz (List.getD (Qk b) ((nw b) - 1) (0 : UInt32)) : Nat) : Int)), (10, .slice (some ⟨b436, 0, none⟩) (List.length (Qk a) + 1) (List.length (Qk a) + 1)), (11, .slice A441 (List.length (List.take (nw b) (shl (Qk b) (sh b)))) c442), (12, .slice (some ⟨b446, 0, none⟩) ((((List.length (Qk a) + 1 : Nat) : Int) - ((List.length (List.take (nw b) (shl (Qk b) (sh b))) : Nat) : Int)).toNat) ((((List.length (Qk a) + 1 : Nat) : Int) - ((List.length (List.take (nw b) (shl (Qk b) (sh b))) : Nat) : Int)).toNat))]) ⟨(congrArg (fun z => some (i64 z)) (show ((((((List.length (Qk a) + 1 : Nat) : Int) - ((List.length (List.take (nw b) (shl (Qk b) (sh b))) : Nat) : Int)).toNat : Nat) : Int) - 1 : Int) = (((nw a + 1 - nw b) : Nat) : Int) - 1 from by omega)), rfl, rfl, rfl, rfl, rfl, rfl, rfl, trivial⟩ ⟨nw a + 1 - nw b, lab444, rfl, rfl, hv449, ((Stp.refl _ _).more (by simp)), ((show shl (Qk a) (sh b) = wsN (dvU (a * 2 ^ sh b) (b * 2 ^ sh b) (nw a + 1 - nw b)) (nw a + 1) from by exact QgZ hp1 (QeI hp2)) ▸ o450), ((show List.replicate ((((List.length (Qk a) + 1 : Nat) : Int) - ((List.length (List.take (nw b) (shl (Qk b) (sh b))) : Nat) : Int)).toNat) (0 : UInt32) = dvQ (a * 2 ^ sh b) (b * 2 ^ sh b) (nw a + 1 - nw b) (nw a + 1 - nw b) from by exact Qf3 hp1 (QeI hp2) (by omega)) ▸ o447), (by omega)⟩ ?_
 intro m451 l452 w453 H454
 obtain ⟨k, lab455, hzm, rfl, hv456, s457, o458, o459, hk⟩ := H454
 replace hzm := hzm.symm; subst hzm
 have hab := QeI hp2
 have hlv : List.length (List.take (nw b) (shl (Qk b) (sh b))) = nw b := (by rw [Qhd hp1, Qq])
 have hwv : wv (List.take (nw b) (shl (Qk b) (sh b))) = b * 2 ^ sh b := (by rw [Qhd hp1, Qgj hp1])
 have hV0 := QjI hp1
 have hVl := Vl hp1
 have hnb := Zj hp1
 have hsh := Qij hp1
 refine Run.seq ?_
 refine rsr ?_
 refine sv (Qa.move rfl) ?_
 refine sv (Qa.geq rfl rfl) ?_
 refine Seq.next ?_
 rcases Decidable.em ((0 : Int) ≤ (((k : Nat) : Int) - 1 : Int)) with hp4 | hp4
 ·refine Qc rfl (dT9 hp4) ?_
  refine Qh (fun _ _ h => h) ?_
  refine Run.seq ?_
  refine Run.block ?_
  refine Run.region ?_
  refine sv (Qa.move rfl) ?_
  refine sv (Qa.move rfl) ?_
  refine sv (Qa.move rfl) ?_
  refine sv (Qa.move rfl) ?_
  refine sv (Qa.move rfl) ?_
  refine sv (Qa.move rfl) ?_
  refine sv (Qa.len Try.underlying58 rfl) ?_
  refine sv (Qa.add rfl rfl (by omega)) ?_
  refine sv (Qa.add rfl rfl (by omega)) ?_
  refine sv (KM (k - 1) ((((((k : Nat) : Int) - 1) + ((List.length (List.take (nw b) (shl (Qk b) (sh b))) : Nat) : Int)) + 1).toNat) Try.underlying58 Qx rfl rfl rfl (by omega) (by omega) (by omega) (by omega)) ?_
  refine sv (Qa.move rfl) ?_
  have c460 := s448.trans s457
  have q461 := up c460 q440
  refine ZP Qkx rfl (QeQ hv456  o458 (by (rw [Qq]; omega)) q461 (show  (((((((k : Nat) : Int) - 1) + ((List.length (List.take (nw b) (shl (Qk b) (sh b))) : Nat) : Int)) + 1).toNat) - (k - 1)) = List.length (List.take (nw b) (shl (Qk b) (sh b))) + 1 from by omega) (show  2 ≤ List.length (List.take (nw b) (shl (Qk b) (sh b))) from by omega) (show  2147483648 ≤ (List.getD (List.take (nw b) (shl (Qk b) (sh b))) (List.length (List.take (nw b) (shl (Qk b) (sh b))) - 1) 0).toNat from by exact QiR hp1 hlv (Qhd hp1)) (show  seg (wsN (dvU (a * 2 ^ sh b) (b * 2 ^ sh b) k) (nw a + 1)) (k - 1) (List.length (List.take (nw b) (shl (Qk b) (sh b))) + 1) < wv (List.take (nw b) (shl (Qk b) (sh b))) * 4294967296 from by exact Qke hlv hwv hVl hV0 (by omega) (by omega)) (show  List.length (List.take (nw b) (shl (Qk b) (sh b))) ≤ 1000000 from by omega)) fun v462 L467 w470 r469 s465 h466 => ?_
  obtain ⟨q464, o468⟩ := r469
  have q464 := Is.out q464; subst q464
  refine sv (Q5 (k - 1) Try.underlying58 Qx rfl rfl (by omega) (by omega)) ?_
  have o471 := o459.up s465
  refine Q8 (k := 71) (j := (k - 1)) (v := (UInt32.ofNat (seg (wsN (dvU (a * 2 ^ sh b) (b * 2 ^ sh b) k) (nw a + 1)) (k - 1) (List.length (List.take (nw b) (shl (Qk b) (sh b))) + 1) / wv (List.take (nw b) (shl (Qk b) (sh b)))))) u32 h466 o471 Qx (congrArg (fun o => some (Value.pointer (some ⟨b446, o, none⟩))) (Nat.mul_one (k - 1))) rfl (by (rw [Uk]; omega)) rfl rfl fun w472 o473 s474 h475 => ?_
  refine QG (fun _ _ h => h) ?_
  refine Run.region ?_
  refine sv (Qa.move rfl) ?_
  refine sv (Qa.sub rfl rfl (by omega)) ?_
  refine sv (Qa.assign rfl) ?_
  have o476 := o468.up s474
  have c477 := s465.trans s474
  have c478 := s457.trans c477
  exact Seq.nil (fun a479 h480 => ⟨_, by omega, _, h480.weaken (QF (l' := [(13, i64 ((((k - 1) : Nat) : Int) - 1)), (4, .pointer (some ⟨b21, 0, none⟩)), (5, .pointer (some ⟨b27, 0, none⟩)), (6, .int .i64 0), (9, i64 ((lz (List.getD (Qk b) ((nw b) - 1) (0 : UInt32)) : Nat) : Int)), (10, .slice (some ⟨b436, 0, none⟩) (List.length (Qk a) + 1) (List.length (Qk a) + 1)), (11, .slice A441 (List.length (List.take (nw b) (shl (Qk b) (sh b)))) c442), (12, .slice (some ⟨b446, 0, none⟩) ((((List.length (Qk a) + 1 : Nat) : Int) - ((List.length (List.take (nw b) (shl (Qk b) (sh b))) : Nat) : Int)).toNat) ((((List.length (Qk a) + 1 : Nat) : Int) - ((List.length (List.take (nw b) (shl (Qk b) (sh b))) : Nat) : Int)).toNat))]) ⟨(congrArg (fun z => some (i64 z)) (show ((((k : Nat) : Int) - 1) - 1 : Int) = (((k - 1) : Nat) : Int) - 1 from by omega)), rfl, rfl, rfl, rfl, rfl, rfl, rfl, trivial⟩), ⟨k - 1, L467, rfl, rfl, h475, (c478.more (by decide)), ((show Qt (wsN (dvU (a * 2 ^ sh b) (b * 2 ^ sh b) k) (nw a + 1)) (k - 1) (wsN (seg (wsN (dvU (a * 2 ^ sh b) (b * 2 ^ sh b) k) (nw a + 1)) (k - 1) (List.length (List.take (nw b) (shl (Qk b) (sh b))) + 1) % wv (List.take (nw b) (shl (Qk b) (sh b)))) (List.length (List.take (nw b) (shl (Qk b) (sh b))) + 1)) = wsN (dvU (a * 2 ^ sh b) (b * 2 ^ sh b) (k - 1)) (nw a + 1) from by exact QiS hlv hwv hVl hV0 (by omega) (by omega)) ▸ o476), ((show List.set (dvQ (a * 2 ^ sh b) (b * 2 ^ sh b) k (nw a + 1 - nw b)) (k - 1) (UInt32.ofNat (seg (wsN (dvU (a * 2 ^ sh b) (b * 2 ^ sh b) k) (nw a + 1)) (k - 1) (List.length (List.take (nw b) (shl (Qk b) (sh b))) + 1) / wv (List.take (nw b) (shl (Qk b) (sh b))))) = dvQ (a * 2 ^ sh b) (b * 2 ^ sh b) (k - 1) (nw a + 1 - nw b) from by exact Qlo hlv hwv hVl hV0 (by omega) (by omega) (by omega)) ▸ o473), (by omega)⟩⟩)
 refine Qc rfl (dF9 hp4) ?_
 refine Qw (fun _ _ h => h) ?_
 refine rsr ?_
 refine sv (Qa.move rfl) ?_
 refine sv (Qa.len Try.underlying58 rfl) ?_
 refine Jv (k := 94) u32 (0 : UInt32) (List.length (List.take (nw b) (shl (Qk b) (sh b)))) hv456 Try.underlying58 Qx rfl rfl rfl (by omega) (by omega) (by omega) (by omega) (by decide) ?_
 intro lab481 w482 b483 o484 s485 hv486
 refine sv (Qa.assign rfl) ?_
 refine Seq.next ?_
 refine Run.seq ?_
 refine rsr ?_
 refine sv (Qa.move rfl) ?_
 refine sv (Qa.len Try.underlying58 rfl) ?_
 refine sv (Qa.move rfl) ?_
 refine Seq.next ?_
 refine Run.block ?_
 refine Run.loop (fun m' l' w' => ∃ (i : Nat) (lab' : Lab), m' = nw b - i ∧ l' = [(96, i64 ((i : Nat) : Int)), (4, .pointer (some ⟨b21, 0, none⟩)), (5, .pointer (some ⟨b27, 0, none⟩)), (6, .int .i64 0), (9, i64 ((lz (List.getD (Qk b) ((nw b) - 1) (0 : UInt32)) : Nat) : Int)), (10, .slice (some ⟨b436, 0, none⟩) (List.length (Qk a) + 1) (List.length (Qk a) + 1)), (12, .slice (some ⟨b446, 0, none⟩) ((((List.length (Qk a) + 1 : Nat) : Int) - ((List.length (List.take (nw b) (shl (Qk b) (sh b))) : Nat) : Int)).toNat) ((((List.length (Qk a) + 1 : Nat) : Int) - ((List.length (List.take (nw b) (shl (Qk b) (sh b))) : Nat) : Int)).toNat)), (14, .slice (some ⟨b483, 0, none⟩) (List.length (List.take (nw b) (shl (Qk b) (sh b)))) (List.length (List.take (nw b) (shl (Qk b) (sh b))))), (95, i64 ((List.length (List.take (nw b) (shl (Qk b) (sh b))) : Nat) : Int))] ∧ Qm lab' w' ∧ Stp [94] lab481 w482 lab' w' ∧ Own lab' w' 94 b483 167 (List.map u32 (Xa (a % b) i (nw b))).toArray ∧ (i ≤ nw b)) (nw b - 0) (l0 := [(96, i64 ((0 : Nat) : Int)), (4, .pointer (some ⟨b21, 0, none⟩)), (5, .pointer (some ⟨b27, 0, none⟩)), (6, .int .i64 0), (9, i64 ((lz (List.getD (Qk b) ((nw b) - 1) (0 : UInt32)) : Nat) : Int)), (10, .slice (some ⟨b436, 0, none⟩) (List.length (Qk a) + 1) (List.length (Qk a) + 1)), (12, .slice (some ⟨b446, 0, none⟩) ((((List.length (Qk a) + 1 : Nat) : Int) - ((List.length (List.take (nw b) (shl (Qk b) (sh b))) : Nat) : Int)).toNat) ((((List.length (Qk a) + 1 : Nat) : Int) - ((List.length (List.take (nw b) (shl (Qk b) (sh b))) : Nat) : Int)).toNat)), (14, .slice (some ⟨b483, 0, none⟩) (List.length (List.take (nw b) (shl (Qk b) (sh b)))) (List.length (List.take (nw b) (shl (Qk b) (sh b))))), (95, i64 ((List.length (List.take (nw b) (shl (Qk b) (sh b))) : Nat) : Int))]) ⟨(congrArg (fun z => some (i64 z)) (show (0 : Int) = ((0 : Nat) : Int) from by rfl)), rfl, rfl, rfl, rfl, rfl, rfl, rfl, rfl, trivial⟩ ⟨0, lab481, rfl, rfl, hv486, ((Stp.refl _ _).more (by simp)), ((show List.replicate (List.length (List.take (nw b) (shl (Qk b) (sh b)))) (0 : UInt32) = Xa (a % b) 0 (nw b) from by rw [Qam, hlz hp1]) ▸ o484), (by omega)⟩ ?_
 intro m487 l488 w489 H490
 obtain ⟨i, lab491, hzm, rfl, hv492, s493, o494, hi⟩ := H490
 replace hzm := hzm.symm; subst hzm
 have hk0 : k = 0 := (by omega)
 have hu := QgW (a := a) (b := b) hk0
 have hw1 := UInt32.toNat_lt (List.getD (wsN (dvU (a * 2 ^ sh b) (b * 2 ^ sh b) k) (nw a + 1)) (i + 1) 0)
 have hw2 := UInt32.toNat_lt (List.getD (wsN (dvU (a * 2 ^ sh b) (b * 2 ^ sh b) k) (nw a + 1)) i 0)
 refine rsr ?_
 refine sv (Qa.lss rfl rfl) ?_
 refine Seq.next ?_
 refine Run.seq ?_
 rcases Decidable.em ((((i : Nat) : Int) : Int) < (((List.length (List.take (nw b) (shl (Qk b) (sh b))) : Nat) : Int) : Int)) with hp5 | hp5
 rotate_left
 ·refine Qc rfl (dF9 hp5) ?_
  refine Qw (fun _ _ h => h) ?_
  refine rsr ?_
  refine sv (Qa.move rfl) ?_
  have c593 := s485.trans s493
  have o592 := o459.up c593
  have hv594 := Qm.release hv492 71
  have q595 : Qp (dvQ (a * 2 ^ sh b) (b * 2 ^ sh b) k (nw a + 1 - nw b)) (Q7 lab491 71) w489 (.slice (some ⟨b446, 0, none⟩) ((((List.length (Qk a) + 1 : Nat) : Int) - ((List.length (List.take (nw b) (shl (Qk b) (sh b))) : Nat) : Int)).toNat) ((((List.length (Qk a) + 1 : Nat) : Int) - ((List.length (List.take (nw b) (shl (Qk b) (sh b))) : Nat) : Int)).toNat)) := Qp.release o592 (by (rw [Uk]; omega)) (by omega)
  refine Q4 (V := Qj (wv (dvQ (a * 2 ^ sh b) (b * 2 ^ sh b) k (nw a + 1 - nw b)))) Va hv594 rfl (Yt hv594 q595) fun v596 w597 q598 s599 h600 => ?_
  obtain ⟨A601, c602, rfl⟩ := Qj.shape q598
  have z603 := Qj.cap q598
  refine sv (Qa.move rfl) ?_
  have c605 := (Stp.release (lab := lab491) (w := w489) 71).trans s599
  have o604 := o494.up c605
  have hv606 := Qm.release h600 94
  have q607 : Qp (Xa (a % b) i (nw b)) (Q7 (Q7 lab491 71) 94) w597 (.slice (some ⟨b483, 0, none⟩) (List.length (List.take (nw b) (shl (Qk b) (sh b)))) (List.length (List.take (nw b) (shl (Qk b) (sh b))))) := Qp.release o604 (by (rw [Z1 (by omega)]; omega)) (by omega)
  refine Q4 (V := Qj (wv (Xa (a % b) i (nw b)))) Va hv606 rfl (Yt hv606 q607) fun v608 w609 q610 s611 h612 => ?_
  obtain ⟨A613, c614, rfl⟩ := Qj.shape q610
  have z615 := Qj.cap q610
  have c617 := (Stp.release (lab := (Q7 lab491 71)) (w := w597) 94).trans s611
  have c618 := c605.trans c617
  have c619 := c593.trans c618
  have c620 := s457.trans c619
  have c621 := s448.trans c620
  have c622 := s433.trans c621
  have c623 := s328.trans c622
  have c624 := s68.trans c623
  have c625 := s39.trans c624
  have c626 := s29.trans c625
  have o616 := o22.up c626
  refine Q1 [.slice A601 (nw (wv (dvQ (a * 2 ^ sh b) (b * 2 ^ sh b) k (nw a + 1 - nw b)))) c602] h612 o616 Qo rfl rfl rfl (lB9 rfl) rfl rfl fun w627 o628 s629 h630 => ?_
  have c632 := c625.trans s629
  have o631 := o28.up c632
  refine Q1 [.slice A613 (nw (wv (Xa (a % b) i (nw b)))) c614] h630 o631 Qo rfl rfl rfl (lB9 rfl) rfl rfl fun w633 o634 s635 h636 => ?_
  refine sv (Qa.assign rfl) ?_
  refine Seq.next ?_
  have o637 := o628.up s635
  have c638 := s629.trans s635
  have c639 := c624.trans c638
  have c640 := c62.trans c639
  obtain ⟨⟨zU, zo⟩, zb⟩ := hX c640 (by decide)
  have c641 := c617.trans c638
  have q642 := up c641 q598
  have q643 := up c638 q610
  refine Run.ret ?_
  exact Xr Try.results112 ⟨_, rfl, Q6 [.slice A601 (nw (wv (dvQ (a * 2 ^ sh b) (b * 2 ^ sh b) k (nw a + 1 - nw b)))) c602] o637 Qo rfl⟩ ⟨_, rfl, Q6 [.slice A613 (nw (wv (Xa (a % b) i (nw b)))) c614] o634 Qo rfl⟩ rfl ⟨_, rfl, ⟨_, _, _, rfl, (Q2 (by exact QgX (by omega) hp1 (QeI hp2)) (up zo q642)), (Q2 (by rw [if_neg hp1, Qg1 hp1 (by omega)]) (up zo q643)), (JE (by rw [if_neg hp1]) _ _)⟩, zb⟩
 refine Qc rfl (dT9 hp5) ?_
 refine Qh (fun _ _ h => h) ?_
 refine Run.seq ?_
 refine Run.block ?_
 refine rsr ?_
 refine sv (Qa.move rfl) ?_
 refine sv (Qa.assign rfl) ?_
 refine Seq.next ?_
 refine Run.open 19 (Φ := [.ex (.slice (some ⟨b483, 0, none⟩) (List.length (List.take (nw b) (shl (Qk b) (sh b)))) (List.length (List.take (nw b) (shl (Qk b) (sh b))))), .ex (i64 ((i : Nat) : Int)), .ex (.slice (some ⟨b436, 0, none⟩) (List.length (Qk a) + 1) (List.length (Qk a) + 1)), .ex (i64 ((i : Nat) : Int)), .ex (i64 (((i : Nat) : Int) + 1)), .ex (.pointer (some ⟨b436, (i + 1) * 1, none⟩)), .ex (u32 (List.getD (wsN (dvU (a * 2 ^ sh b) (b * 2 ^ sh b) k) (nw a + 1)) (i + 1) (0 : UInt32))), .ex (n64 ((List.getD (wsN (dvU (a * 2 ^ sh b) (b * 2 ^ sh b) k) (nw a + 1)) (i + 1) (0 : UInt32)).toNat)), .ex (n64 (((List.getD (wsN (dvU (a * 2 ^ sh b) (b * 2 ^ sh b) k) (nw a + 1)) (i + 1) (0 : UInt32)).toNat) * 4294967296)), .ex (.slice (some ⟨b436, 0, none⟩) (List.length (Qk a) + 1) (List.length (Qk a) + 1)), .ex (i64 ((i : Nat) : Int)), .ex (.pointer (some ⟨b436, i * 1, none⟩)), .ex (u32 (List.getD (wsN (dvU (a * 2 ^ sh b) (b * 2 ^ sh b) k) (nw a + 1)) i (0 : UInt32))), .ex (n64 ((List.getD (wsN (dvU (a * 2 ^ sh b) (b * 2 ^ sh b) k) (nw a + 1)) i (0 : UInt32)).toNat)), .ex (n64 ((((List.getD (wsN (dvU (a * 2 ^ sh b) (b * 2 ^ sh b) k) (nw a + 1)) (i + 1) (0 : UInt32)).toNat) * 4294967296) + ((List.getD (wsN (dvU (a * 2 ^ sh b) (b * 2 ^ sh b) k) (nw a + 1)) i (0 : UInt32)).toNat))), .ex (i64 ((lz (List.getD (Qk b) ((nw b) - 1) (0 : UInt32)) : Nat) : Int)), .ex (n64 (((((List.getD (wsN (dvU (a * 2 ^ sh b) (b * 2 ^ sh b) k) (nw a + 1)) (i + 1) (0 : UInt32)).toNat) * 4294967296) + ((List.getD (wsN (dvU (a * 2 ^ sh b) (b * 2 ^ sh b) k) (nw a + 1)) i (0 : UInt32)).toNat)) / 2 ^ (sh b))), .ex (u32 (UInt32.ofNat (((((List.getD (wsN (dvU (a * 2 ^ sh b) (b * 2 ^ sh b) k) (nw a + 1)) (i + 1) (0 : UInt32)).toNat) * 4294967296) + ((List.getD (wsN (dvU (a * 2 ^ sh b) (b * 2 ^ sh b) k) (nw a + 1)) i (0 : UInt32)).toNat)) / 2 ^ (sh b)))), .ex (.pointer (some ⟨b483, i * 1, none⟩))]) [(17, 116), (18, 117)] Jg (by kernel_rfl) rfl hv492 ⟨(oX [] rfl rfl rfl fun _ _ => Qa.move rfl), (oX [] rfl rfl rfl fun _ _ => Qa.move rfl), (oX [] rfl rfl rfl fun _ _ => Qa.move rfl), (oX [] rfl rfl rfl fun _ _ => Qa.move rfl), (oX [(3, 102)] rfl rfl rfl fun _ _ => Qa.add rfl rfl (by omega)), (oX [(2, 101), (4, 103)] rfl rfl rfl fun _ _ => Q5 (i + 1) Try.underlying58 Qx rfl rfl (by omega) (by omega)), ?_, (oX [(6, 105)] rfl rfl rfl fun _ _ => QA Try.underlying167 Try.underlying62 rfl), (oX [(7, 106)] rfl rfl rfl fun _ _ => Yb rfl rfl (by omega)), (oX [] rfl rfl rfl fun _ _ => Qa.move rfl), (oX [] rfl rfl rfl fun _ _ => Qa.move rfl), (oX [(9, 108), (10, 109)] rfl rfl rfl fun _ _ => Q5 i Try.underlying58 Qx rfl rfl (by omega) (by omega)), ?_, (oX [(12, 111)] rfl rfl rfl fun _ _ => QA Try.underlying167 Try.underlying62 rfl), (oX [(8, 107), (13, 112)] rfl rfl rfl fun _ _ => ZO rfl rfl (by omega) (by omega)), (oX [] rfl rfl rfl fun _ _ => Qa.move rfl), (oX [(14, 113), (15, 114)] rfl rfl rfl fun _ _ => Qag rfl rfl (by omega)), (oX [(16, 115)] rfl rfl rfl fun _ _ => QD Try.underlying62 Try.underlying167 rfl), (oX [(0, 99), (1, 100)] rfl rfl rfl fun _ _ => Q5 i Try.underlying58 Qx rfl rfl (by omega) (by omega)), trivial⟩ (fun L579 w580 h581 s582 => ?_)
 ·refine oP [(5, 104)] rfl rfl fun L519 w520 h521 s522 => ?_
  have c524 := s493.trans s522
  have c525 := s485.trans c524
  have o523 := o458.up c525
  have t526 := UInt32.toNat_lt (List.getD (wsN (dvU (a * 2 ^ sh b) (b * 2 ^ sh b) k) (nw a + 1)) (i + 1) (0 : UInt32))
  exact ⟨_, Qf o523 Qx rfl (by rw [Nat.mul_one]; exact Ze u32 _ (0 : UInt32) (by (rw [Qq]; omega))), rfl⟩
 ·refine oP [(11, 110)] rfl rfl fun L547 w548 h549 s550 => ?_
  have c552 := s493.trans s550
  have c553 := s485.trans c552
  have o551 := o458.up c553
  have t554 := UInt32.toNat_lt (List.getD (wsN (dvU (a * 2 ^ sh b) (b * 2 ^ sh b) k) (nw a + 1)) i (0 : UInt32))
  exact ⟨_, Qf o551 Qx rfl (by rw [Nat.mul_one]; exact Ze u32 _ (0 : UInt32) (by (rw [Qq]; omega))), rfl⟩
 have o583 := o494.up s582
 refine Q8 (k := 94) (j := i) (v := (UInt32.ofNat (((((List.getD (wsN (dvU (a * 2 ^ sh b) (b * 2 ^ sh b) k) (nw a + 1)) (i + 1) (0 : UInt32)).toNat) * 4294967296) + ((List.getD (wsN (dvU (a * 2 ^ sh b) (b * 2 ^ sh b) k) (nw a + 1)) i (0 : UInt32)).toNat)) / 2 ^ (sh b)))) u32 h581 o583 Qx (congrArg (fun o => some (Value.pointer (some ⟨b483, o, none⟩))) (Nat.mul_one i)) rfl (by (rw [Z1 (by omega)]; omega)) rfl rfl fun w584 o585 s586 h587 => ?_
 refine QG (fun _ _ h => h) ?_
 refine Run.region ?_
 refine sv (Qa.add rfl rfl (by omega)) ?_
 refine sv (Qa.move rfl) ?_
 have c588 := s582.trans s586
 have c589 := s493.trans c588
 exact Seq.nil (fun a590 h591 => ⟨_, by omega, _, h591.weaken (QF (l' := [(96, i64 (((i + 1) : Nat) : Int)), (4, .pointer (some ⟨b21, 0, none⟩)), (5, .pointer (some ⟨b27, 0, none⟩)), (6, .int .i64 0), (9, i64 ((lz (List.getD (Qk b) ((nw b) - 1) (0 : UInt32)) : Nat) : Int)), (10, .slice (some ⟨b436, 0, none⟩) (List.length (Qk a) + 1) (List.length (Qk a) + 1)), (12, .slice (some ⟨b446, 0, none⟩) ((((List.length (Qk a) + 1 : Nat) : Int) - ((List.length (List.take (nw b) (shl (Qk b) (sh b))) : Nat) : Int)).toNat) ((((List.length (Qk a) + 1 : Nat) : Int) - ((List.length (List.take (nw b) (shl (Qk b) (sh b))) : Nat) : Int)).toNat)), (14, .slice (some ⟨b483, 0, none⟩) (List.length (List.take (nw b) (shl (Qk b) (sh b)))) (List.length (List.take (nw b) (shl (Qk b) (sh b))))), (95, i64 ((List.length (List.take (nw b) (shl (Qk b) (sh b))) : Nat) : Int))]) ⟨(congrArg (fun z => some (i64 z)) (show (((i : Nat) : Int) + 1 : Int) = (((i + 1) : Nat) : Int) from by rfl)), rfl, rfl, rfl, rfl, rfl, rfl, rfl, rfl, trivial⟩), ⟨i + 1, L579, rfl, rfl, h587, (c589.more (by decide)), ((show List.set (Xa (a % b) i (nw b)) i (UInt32.ofNat (((((List.getD (wsN (dvU (a * 2 ^ sh b) (b * 2 ^ sh b) k) (nw a + 1)) (i + 1) (0 : UInt32)).toNat) * 4294967296) + ((List.getD (wsN (dvU (a * 2 ^ sh b) (b * 2 ^ sh b) k) (nw a + 1)) i (0 : UInt32)).toNat)) / 2 ^ (sh b))) = Xa (a % b) (i + 1) (nw b) from by exact Qcf (by omega) _ (by rw [hu]; exact Qe2 (Qij hp1) (by omega))) ▸ o585), (by omega)⟩⟩)
end Go.Proofs.Ytgfomedobfaidaa
end
section
set_option linter.unusedVariables false
set_option linter.unusedSimpArgs false
namespace Go.Proofs.Ytgfomedobfaidaa
open Go.RowKit
theorem Qi0 {lab : Lab} {w : World} (hv : Qm lab w) {a : Nat} {v0 : Value} (h0 : Qj a lab w v0) {b : Nat} {v1 : Value} (h1 : Qj b lab w v1) (ha : nw a ≤ 999999) (hb : nw b ≤ 999999) :
  Calls Try.prog 201 #[v0, v1] w (fun e w' => ∃ v, e = .returned v ∧ (Qj (Nat.gcd a b)) lab w' v ∧ Below w.heap.size w w') := by
 obtain ⟨L0, h0L, ⟨zU0, z00⟩, hX⟩ := QX hv
 replace h0 := up z00 h0
 obtain ⟨A1, c2, rfl⟩ := Qj.shape h0
 have z3 := Qj.cap h0
 replace h1 := up z00 h1
 obtain ⟨A4, c5, rfl⟩ := Qj.shape h1
 have z6 := Qj.cap h1
 refine Qu Try.func201 rfl Try.ntmps201 (lB9 rfl) ?_
 refine rsr ?_
 refine Yo 3 [.slice A1 (nw a) c2] h0L rfl rfl fun b9 L7 w8 o10 s11 h12 => ?_
 refine Yo 4 [.slice A4 (nw b) c5] h12 rfl rfl fun b15 L13 w14 o16 s17 h18 => ?_
 refine QK 5 [.slice none 0 0] h18 Qo rfl fun b21 L19 w20 o22 s23 h24 => ?_
 refine Seq.next ?_
 refine Run.seq ?_
 refine Run.block ?_
 have c26 := s17.trans s23
 have o25 := o10.up c26
 have c27 := s11.trans c26
 have q28 := up c27 h0
 have o29 := o16.up s23
 have q30 := up c27 h1
 refine Run.loop (fun m' l' w' => ∃ (x : Nat) (y : Nat) (lab' : Lab) (ub3 : Value) (ub4 : Value), m' = y ∧ l' = [(2, .pointer (some ⟨b9, 0, none⟩)), (3, .pointer (some ⟨b15, 0, none⟩)), (4, .pointer (some ⟨b21, 0, none⟩))] ∧ Qm lab' w' ∧ Stp [3, 4, 6, 7] L19 w20 lab' w' ∧ Own lab' w' 3 b9 60 #[ub3] ∧ Qj x lab' w' (.agg #[ub3]) ∧ Own lab' w' 4 b15 60 #[ub4] ∧ Qj y lab' w' (.agg #[ub4]) ∧ (nw x ≤ 999999) ∧ (nw y ≤ 999999) ∧ (Nat.gcd x y = Nat.gcd a b)) (b) (l0 := [(2, .pointer (some ⟨b9, 0, none⟩)), (3, .pointer (some ⟨b15, 0, none⟩)), (4, .pointer (some ⟨b21, 0, none⟩))]) ⟨rfl, rfl, rfl, trivial⟩ ⟨a, b, L19, (.slice A1 (nw a) c2), (.slice A4 (nw b) c5), rfl, rfl, h24, ((Stp.refl _ _).more (by simp)), o25, q28, o29, q30, (by omega), (by omega), (by omega)⟩ ?_
 intro m31 l32 w33 H34
 obtain ⟨x, y, lab35, u38, u39, hzm, rfl, hv36, s37, o40, q42, o41, q43, hx, hy, hg⟩ := H34
 replace hzm := hzm.symm; subst hzm
 obtain ⟨A44, c45, hz⟩ := Qj.shape q42; cases hz
 obtain ⟨A46, c47, hz⟩ := Qj.shape q43; cases hz
 refine Run.seq ?_
 refine rsr ?_
 refine sv (Qb [.slice A46 (nw y) c47] o41 Qo rfl rfl) ?_
 refine Q4 (V := Is (.bool (decide (y = 0)))) ZW hv36 rfl (Js hv36 q43) fun v48 w49 q50 s51 h52 => ?_
 have q50 := Is.out q50; subst q50
 refine sv (Qa.not rfl) ?_
 refine Seq.next ?_
 rcases ZM (!(decide (y = 0))) with hc1 | hc1
 rotate_left
 ·refine Qc rfl hc1 ?_
  refine Qw (fun _ _ h => h) ?_
  refine rsr ?_
  have o155 := o40.up s51
  refine sv (Qb [.slice A44 (nw x) c45] o155 Qo rfl rfl) ?_
  have c157 := s37.trans s51
  have o156 := o22.up c157
  refine Q1 [.slice A44 (nw x) c45] h52 o156 Qo rfl rfl rfl (lB9 rfl) rfl rfl fun w158 o159 s160 h161 => ?_
  refine Seq.next ?_
  have c162 := c157.trans s160
  have c163 := c27.trans c162
  obtain ⟨⟨zU, zo⟩, zb⟩ := hX c163 (by decide)
  have c164 := s51.trans s160
  have q165 := up c164 q42
  refine Run.ret ?_
  exact Qn Try.results201 ⟨_, rfl, Q6 [.slice A44 (nw x) c45] o159 Qo rfl⟩ ⟨_, rfl, (Q2 (by rw [← hg, show y = 0 by simpa using hc1, Nat.gcd_zero_right]) (up zo q165)), zb⟩
 refine Qc rfl hc1 ?_
 refine Qh (fun _ _ h => h) ?_
 refine Run.block ?_
 refine rsr ?_
 have o53 := o40.up s51
 refine sv (Qb [.slice A44 (nw x) c45] o53 Qo rfl rfl) ?_
 have o54 := o41.up s51
 refine sv (Qb [.slice A46 (nw y) c47] o54 Qo rfl rfl) ?_
 have q55 := up s51 q42
 have q56 := up s51 q43
 refine Q4 (V := QdP (Qj (x / y)) (Qj (if y = 0 then 0 else x % y)) (Is (i64 (if y = 0 then 5 else 0)))) QaK h52 rfl (UM h52 q55 q56 (show nw x ≤ 999999 from by assumption) (show nw y ≤ 1000000 from by omega)) fun v57 w58 q59 s60 h61 => ?_
 obtain ⟨v62, v63, v64, rfl, q65, q66, q67⟩ := q59
 obtain ⟨A68, c69, rfl⟩ := Qj.shape q65
 have z70 := Qj.cap q65
 obtain ⟨A71, c72, rfl⟩ := Qj.shape q66
 have z73 := Qj.cap q66
 have q67 := Is.out q67; subst q67
 refine sv (Qa.move rfl) ?_
 refine sv (Qa.extract rfl rfl) ?_
 refine sv (Qa.extract rfl rfl) ?_
 refine sv (Qa.extract rfl rfl) ?_
 refine QK 6 [.slice none 0 0] h61 Qo rfl fun b76 L74 w75 o77 s78 h79 => ?_
 refine QK 7 [.slice none 0 0] h79 Qo rfl fun b82 L80 w81 o83 s84 h85 => ?_
 have o86 := o77.up s84
 refine Q1 [.slice A68 (nw (x / y)) c69] h85 o86 Qo rfl rfl rfl (lB9 rfl) rfl rfl fun w87 o88 s89 h90 => ?_
 have o91 := o83.up s89
 refine Q1 [.slice A71 (nw (if y = 0 then 0 else x % y)) c72] h90 o91 Qo rfl rfl rfl (lB9 rfl) rfl rfl fun w92 o93 s94 h95 => ?_
 refine sv (Qa.assign rfl) ?_
 refine Seq.next ?_
 refine Zu [⟨18, .ex (.agg #[.slice A46 (nw y) c47]), [], none⟩, ⟨19, .ex (.agg #[.slice A71 (nw (if y = 0 then 0 else x % y)) c72]), [], none⟩, ⟨2, .v (QhM b9 3 60 (Is (.agg #[.slice A46 (nw y) c47]))), [3], none⟩] [1, 2] [[], [3], []] Jg (by kernel_rfl) (by kernel_rfl) rfl h95 ⟨QJ, QJ, Xb rfl, trivial⟩ ⟨?_, ?_, ?_, trivial⟩ (fun L126 w127 h128 s129 v130 q131 => ?_)
 ·refine rP [] rfl rfl rfl rfl fun L96 w97 h98 s99 => ?_
  replace s99 : Stp [] _ _ _ _ := s99
  have c101 := s94.trans s99
  have c102 := s89.trans c101
  have c103 := s84.trans c102
  have c104 := s78.trans c103
  have c105 := s60.trans c104
  have o100 := o54.up c105
  exact ⟨_, Qb [.slice A46 (nw y) c47] o100 Qo rfl rfl, rfl⟩
 ·refine rP [] rfl rfl rfl rfl fun L106 w107 h108 s109 => ?_
  replace s109 : Stp [3] _ _ _ _ := s109
  have o110 := o93.up s109
  exact ⟨_, Qb [.slice A71 (nw (if y = 0 then 0 else x % y)) c72] o110 Qo rfl rfl, rfl⟩
 ·refine rS [0] rfl rfl rfl fun L111 w112 h113 s114 => ?_
  replace s114 : Stp [] _ _ _ _ := s114
  have c116 := s94.trans s114
  have c117 := s89.trans c116
  have c118 := s84.trans c117
  have c119 := s78.trans c118
  have c120 := s60.trans c119
  have o115 := o53.up c120
  refine Zy (v := (.agg #[.slice A46 (nw y) c47])) [.slice A46 (nw y) c47] h113 o115 Qo rfl rfl rfl (lB9 rfl) rfl rfl fun w121 s124 o125 => ?_
  exact ⟨(.agg #[.slice A46 (nw y) c47]), rfl, o125, rfl⟩
 replace s129 : Stp [3] _ _ _ _ := s129
 obtain ⟨u133, rfl, o134, q135⟩ := q131
 replace q135 := Is.out q135; subst q135
 replace o134 : Own L126 w127 3 b9 60 #[.slice A46 (nw y) c47] := o134
 have c137 := s94.trans s129
 have c138 := s89.trans c137
 have c139 := s84.trans c138
 have c140 := s78.trans c139
 have c141 := s60.trans c140
 have o136 := o54.up c141
 refine Q1 [.slice A71 (nw (if y = 0 then 0 else x % y)) c72] h128 o136 Qo rfl rfl rfl (lB9 rfl) rfl rfl fun w142 o143 s144 h145 => ?_
 have o146 := o134.up s144
 have c147 := c141.trans s144
 have q148 := up c147 q56
 have c149 := c140.trans s144
 have q150 := up c149 q66
 have c151 := s51.trans c147
 have c152 := s37.trans c151
 exact Seq.nil (fun a153 h154 => ⟨_, by exact Nat.mod_lt _ (Nat.pos_of_ne_zero (by simpa using hc1)), _, h154.weaken (QF (l' := [(2, .pointer (some ⟨b9, 0, none⟩)), (3, .pointer (some ⟨b15, 0, none⟩)), (4, .pointer (some ⟨b21, 0, none⟩))]) ⟨rfl, rfl, rfl, trivial⟩), ⟨y, x % y, L126, (.slice A46 (nw y) c47), (.slice A71 (nw (if y = 0 then 0 else x % y)) c72), rfl, rfl, h145, (c152.more (by decide)), o146, q148, o143, (Q2 (show (if y = 0 then 0 else x % y) = (x % y) from by exact if_neg (by simpa using hc1)) q150), (by omega), (by exact Nat.le_trans (QT (Nat.mod_le _ _)) hx), (by (rw [Nat.gcd_comm y, ← Nat.gcd_rec, Nat.gcd_comm]; exact hg))⟩⟩)
end Go.Proofs.Ytgfomedobfaidaa
end
section
set_option linter.unusedVariables false
set_option linter.unusedSimpArgs false
namespace Go.Proofs.Ytgfomedobfaidaa
open Go.RowKit
theorem JN.mk {lab : Lab} {w : World} {L b c m s : Nat} {t : TypeId} {A : Option Addr} (hO : Own lab w L b t #[.slice A (nw m) c, .int .u64 ((s : Nat) : Int)]) (hs : s = QI m) (hn : Qj m (Q7 lab L) w (.agg #[.slice A (nw m) c])) : JN m (Q7 lab L) w (.pointer (some ⟨b, 0, none⟩)) := by
 subst hs
 exact ⟨b, t, (0, 0), _, rfl, by unfold Q7; rw [if_pos hO.1], hO.2, A, c, rfl, hn⟩
theorem Qat (r : Nat) : QI r < 4294967296 := by unfold QI; split <;> omega
theorem UA {r : Nat} (h : ((0 : Nat) : Int) < ((QI r : Nat) : Int)) : QI r = r := by unfold QI at *; split at h <;> simp_all
theorem Qdb {r : Nat} (h2 : nw r ≤ 2) (h : (if nw r ≤ 2 then r else 0) < 4294967296) : (if nw r ≤ 2 then r else 0) = QI r := by
 rw [if_pos h2] at h ⊢; unfold QI; rw [if_pos h]
theorem Qap {r : Nat} (h : ¬ r < 4294967296) : 0 = QI r := by unfold QI; rw [if_neg h]
theorem QjQ {r : Nat} (h : ¬ nw r ≤ 2) : ¬ r < 4294967296 := fun c => h (by have := YV (x := r) (n := 1) (by omega); omega)
theorem QeT {x y s : Nat} (hs : s < 4294967296) (h0 : 0 < s) : x % s * (y % s) < 18446744073709551616 := by
 have h1 := Nat.mod_lt x h0
 have h2 := Nat.mod_lt y h0
 have := Nat.mul_le_mul (show x % s ≤ 4294967295 by omega) (show y % s ≤ 4294967295 by omega)
 omega
theorem Qiz {m : Nat} (h : 1 < m) : ¬ Ji m 2 < 0 := fun c => by have := QaJ c; omega
theorem QgB {a b r : Nat} (h : ((0 : Nat) : Int) < ((QI r : Nat) : Int)) (ha : nw a ≤ 2) (hb : nw b ≤ 2) : (if nw a ≤ 2 then a else 0) % QI r * ((if nw b ≤ 2 then b else 0) % QI r) % QI r = a * b % r := by
 rw [if_pos ha, if_pos hb, UA h, ← Nat.mul_mod]
def Qbg (r a b : Nat) : Nat := (a + (r - b % r)) % r
theorem QjD {r a b : Nat} (hr : 0 < r) (h : b % r ≤ a % r) : (if a % r < b % r then 0 else a % r - b % r) = Qbg r a b := by
 unfold Qbg
 rw [if_neg (by omega), Nat.add_mod]
 have h1 := Nat.mod_lt a hr
 have h2 := Nat.mod_lt b hr
 by_cases c : b % r = 0
 ·rw [c, Nat.sub_zero, Nat.sub_zero, Nat.mod_self, Nat.add_zero, Nat.mod_mod]
 ·rw [Nat.mod_eq_of_lt (show r - b % r < r by omega), show a % r + (r - b % r) = (a % r - b % r) + r by omega, Nat.add_mod_right, Nat.mod_eq_of_lt (show a % r - b % r < r by omega)]
theorem QjC {r a b : Nat} (hr : 0 < r) (h : ¬ b % r ≤ a % r) : (if a % r + r < b % r then 0 else a % r + r - b % r) = Qbg r a b := by
 unfold Qbg
 have h1 := Nat.mod_lt a hr
 have h2 := Nat.mod_lt b hr
 rw [if_neg (by omega), Nat.add_mod, Nat.mod_eq_of_lt (show r - b % r < r by omega), Nat.mod_eq_of_lt (show a % r + (r - b % r) < r by omega)]
 omega
theorem QhY {r a b : Nat} (hr : 0 < r) : Qbg r a b < r := Nat.mod_lt _ hr

end Go.Proofs.Ytgfomedobfaidaa
end
section
set_option linter.unusedVariables false
set_option linter.unusedSimpArgs false
namespace Go.Proofs.Ytgfomedobfaidaa
open Go.RowKit
theorem Qb5 {lab : Lab} {w : World} (hv : Qm lab w) {m : Nat} {v0 : Value} (h0 : Qj m lab w v0) (h1 : 1 < m) (hn : nw m ≤ 1000000) :
  Calls Try.prog 114 #[v0] w (fun e w' => ∃ v, e = .returned v ∧ (Zl (JN m) (Is (i64 0))) lab w' v ∧ Below w.heap.size w w') := by
 obtain ⟨L0, h0L, ⟨zU0, z00⟩, hX⟩ := QX hv
 replace h0 := up z00 h0
 obtain ⟨A1, c2, rfl⟩ := Qj.shape h0
 have z3 := Qj.cap h0
 refine Qu Try.func114 rfl Try.ntmps114 (lB9 rfl) ?_
 refine rsr ?_
 refine Yo 2 [.slice A1 (nw m) c2] h0L rfl rfl fun b6 L4 w5 o7 s8 h9 => ?_
 refine sv (Qa.assign rfl) ?_
 refine sv (Qa.assign rfl) ?_
 refine Seq.next ?_
 refine Run.seq ?_
 refine Run.seq ?_
 refine Run.open 4 (Φ := [.ex (.agg #[.slice A1 (nw m) c2]), .v (Qj 2), .v (Is (i64 (Ji m 2))), .ex (.bool (decide ((Ji m 2 : Int) < (0 : Int))))]) [(3, 10)] Jg (by kernel_rfl) rfl h9 ⟨?_, ?_, ?_, ?_, trivial⟩ (fun L36 w37 h38 s39 => ?_)
 ·refine oP [] rfl rfl fun L10 w11 h12 s13 => ?_
  have o14 := o7.up s13
  exact ⟨_, Qb [.slice A1 (nw m) c2] o14 Qo rfl rfl, rfl⟩
 ·refine oC [] rfl rfl JM fun L15 w16 h17 s18 => ?_
  exact ⟨_, rfl, (QW h17 (x := 2) (show 2 < 18446744073709551616 from by omega))⟩
 ·refine oC [(0, 7), (1, 8)] rfl rfl ZF fun L19 w20 h21 s22 v23 q24 => ?_
  obtain ⟨A25, c26, rfl⟩ := Qj.shape q24
  have z27 := Qj.cap q24
  have c28 := s8.trans s22
  have q29 := up c28 h0
  exact ⟨_, rfl, (J1 h21 q29 q24)⟩
 ·refine oP [(2, 9)] rfl rfl fun L30 w31 h32 s33 v34 q35 => ?_
  have q35 := Is.out q35; subst q35
  exact ⟨_, Qa.lss rfl rfl, rfl⟩
 refine Seq.next ?_
 refine Qc rfl (dF9 (Qiz h1)) ?_
 refine Qh (fun _ _ h => h) ?_
 refine rsr ?_
 have o40 := o7.up s39
 refine sv (Qb [.slice A1 (nw m) c2] o40 Qo rfl rfl) ?_
 refine sv (Qa.build [(0, .agg #[.slice A1 (nw m) c2])] [(0, 1), (1, 1)] [.slice A1 (nw m) c2, .int .u64 0] Try.underlying174 QkT (by kernel_rfl) rfl (by kernel_rfl)) ?_
 refine Yo 14 [.slice A1 (nw m) c2, .int .u64 0] h38 rfl rfl fun b43 L41 w42 o44 s45 h46 => ?_
 refine sv (Qa.assign rfl) ?_
 refine Seq.next ?_
 refine Run.seq ?_
 refine rsr ?_
 have o47 := o40.up s45
 refine sv (Qb [.slice A1 (nw m) c2] o47 Qo rfl rfl) ?_
 have c48 := s39.trans s45
 have c49 := s8.trans c48
 have q50 := up c49 h0
 refine Q4 (V := Zl (Is (n64 (if nw m ≤ 2 then m else 0))) (Is (.bool (decide (nw m ≤ 2))))) QcK h46 rfl (VM h46 q50) fun v51 w52 q53 s54 h55 => ?_
 obtain ⟨v56, v57, rfl, q58, q59⟩ := q53
 have q58 := Is.out q58; subst q58
 have q59 := Is.out q59; subst q59
 refine sv (Qa.move rfl) ?_
 refine sv (Qa.extract rfl rfl) ?_
 refine sv (Qa.extract rfl rfl) ?_
 refine sv (Qa.assign rfl) ?_
 refine sv (Qa.assign rfl) ?_
 refine nsr ?_
 refine sv (Qa.move rfl) ?_
 refine sv (Qa.move rfl) ?_
 rcases Decidable.em (nw m ≤ 2) with hp1 | hp1
 rotate_left
 ·refine Qe rfl rfl (dF9 hp1) rfl (by decide) ?_
  refine Qe rfl rfl (dF9 hp1) rfl (by decide) ?_
  refine sv (Ql rfl (dF9 hp1) rfl) ?_
  refine Seq.next ?_
  refine Qc rfl rfl ?_
  refine Qh (fun _ _ h => h) ?_
  refine rsr ?_
  refine sv (Qa.move rfl) ?_
  refine sv (Qa.assign rfl) ?_
  refine sv (Qa.assign rfl) ?_
  refine Seq.next ?_
  have o77 := o44.up s54
  have h78 := Qm.release h55 14
  have c80 := s54.trans (Stp.release (lab := L41) (w := w52) 14)
  have q81 := up c80 q50
  have q79 := JN.mk (s := 0) o77 (by exact Qap (QjQ (by assumption))) q81
  have c82 := c49.trans c80
  obtain ⟨⟨zU, zo⟩, zb⟩ := hX c82 (by decide)
  refine Run.ret ?_
  exact QP Try.results114 rfl rfl ⟨_, rfl, ⟨_, _, rfl, (up zo q79), rfl⟩, zb⟩
 refine Qg rfl rfl (dT9 hp1) ?_
 refine sv (Qa.move rfl) ?_
 refine Qg rfl rfl (dT9 hp1) ?_
 refine sv (Qa.lss rfl rfl) ?_
 refine sv (Ql rfl (dT9 hp1) rfl) ?_
 refine Seq.next ?_
 rcases Decidable.em (((if nw m ≤ 2 then m else 0 : Nat) : Int) < (4294967296 : Int)) with hp2 | hp2
 rotate_left
 ·refine Qc rfl (dF9 hp2) ?_
  refine Qh (fun _ _ h => h) ?_
  refine rsr ?_
  refine sv (Qa.move rfl) ?_
  refine sv (Qa.assign rfl) ?_
  refine sv (Qa.assign rfl) ?_
  refine Seq.next ?_
  have o71 := o44.up s54
  have h72 := Qm.release h55 14
  have c74 := s54.trans (Stp.release (lab := L41) (w := w52) 14)
  have q75 := up c74 q50
  have q73 := JN.mk (s := 0) o71 (by (rw [if_pos hp1] at hp2; exact Qap (by omega))) q75
  have c76 := c49.trans c74
  obtain ⟨⟨zU, zo⟩, zb⟩ := hX c76 (by decide)
  refine Run.ret ?_
  exact QP Try.results114 rfl rfl ⟨_, rfl, ⟨_, _, rfl, (up zo q73), rfl⟩, zb⟩
 refine Qc rfl (dT9 hp2) ?_
 refine Run.region ?_
 refine sv (Qa.move rfl) ?_
 refine sv (Qa.move rfl) ?_
 refine sv (Qa.nilCheck rfl) ?_
 refine sv (Qd 1 Try.underlying174 rfl Qai rfl rfl) ?_
 have o60 := o44.up s54
 refine Q1 [.slice A1 (nw m) c2, n64 (if nw m ≤ 2 then m else 0)] h55 o60 Qai rfl rfl rfl (lB9 rfl) rfl rfl fun w61 o62 s63 h64 => ?_
 refine nsr ?_
 refine sv (Qa.move rfl) ?_
 refine sv (Qa.assign rfl) ?_
 refine sv (Qa.assign rfl) ?_
 refine Seq.next ?_
 have h65 := Qm.release h64 14
 have c67 := s63.trans (Stp.release (lab := L41) (w := w61) 14)
 have c68 := s54.trans c67
 have q69 := up c68 q50
 have q66 := JN.mk (s := if nw m ≤ 2 then m else 0) o62 (by exact Qdb (by assumption) (by omega)) q69
 have c70 := c49.trans c68
 obtain ⟨⟨zU, zo⟩, zb⟩ := hX c70 (by decide)
 refine Run.ret ?_
 exact QP Try.results114 rfl rfl ⟨_, rfl, ⟨_, _, rfl, (up zo q66), rfl⟩, zb⟩
theorem Yf {lab : Lab} {w : World} (hv : Qm lab w) {r : Nat} {v0 : Value} (h0 : JN r lab w v0) :
  Calls Try.prog 39 #[v0] w (fun e w' => ∃ v, e = .returned v ∧ (Qj r) lab w' v ∧ Below w.heap.size w w') := by
 obtain ⟨L0, h0L, ⟨zU0, z00⟩, hX⟩ := QX hv
 replace h0 := up z00 h0
 obtain ⟨b1, rfl⟩ := YC.shape h0
 refine Qu Try.func39 rfl Try.ntmps39 (lB9 rfl) ?_
 refine rsr ?_
 refine QK 3 [.slice none 0 0] h0L Qo rfl fun b4 L2 w3 o5 s6 h7 => ?_
 refine Seq.next ?_
 refine Run.seq ?_
 refine rsr ?_
 refine sv (Qa.move rfl) ?_
 refine sv (Jc Try.underlying67 rfl rfl) ?_
 refine Seq.next ?_
 refine Qc rfl rfl ?_
 refine Qh (fun _ _ h => h) ?_
 refine rsr ?_
 refine sv (Qa.move rfl) ?_
 refine sv (Qa.nilCheck rfl) ?_
 have q8 := up s6 h0
 obtain ⟨A9, c10, r11, q12⟩ := JN.open q8
 refine sv (Qd 0 Try.underlying174 rfl Qo rfl rfl) ?_
 refine sv (Zi (cs := [.slice A9 (nw r) c10]) Qo rfl (Ro.cells r11 0)) ?_
 refine Q1 [.slice A9 (nw r) c10] h7 o5 Qo rfl rfl rfl (lB9 rfl) rfl rfl fun w13 o14 s15 h16 => ?_
 refine Seq.next ?_
 have c17 := s6.trans s15
 obtain ⟨⟨zU, zo⟩, zb⟩ := hX c17 (by decide)
 have q18 := up s15 q12
 refine Run.ret ?_
 exact Qn Try.results39 ⟨_, rfl, Q6 [.slice A9 (nw r) c10] o14 Qo rfl⟩ ⟨_, rfl, (up zo q18), zb⟩
theorem ZR {lab : Lab} {w : World} (hv : Qm lab w) {r : Nat} {v0 : Value} (h0 : JN r lab w v0) {a : Nat} {v1 : Value} (h1 : Qj a lab w v1) (hr : 1 < r) (ha : nw a ≤ 999999) (hn : nw r ≤ 1000000) :
  Calls Try.prog 61 #[v0, v1] w (fun e w' => ∃ v, e = .returned v ∧ (Qj (a % r)) lab w' v ∧ Below w.heap.size w w') := by
 obtain ⟨L0, h0L, ⟨zU0, z00⟩, hX⟩ := QX hv
 replace h0 := up z00 h0
 obtain ⟨b1, rfl⟩ := YC.shape h0
 replace h1 := up z00 h1
 obtain ⟨A2, c3, rfl⟩ := Qj.shape h1
 have z4 := Qj.cap h1
 refine Qu Try.func61 rfl Try.ntmps61 (lB9 rfl) ?_
 refine rsr ?_
 refine Yo 4 [.slice A2 (nw a) c3] h0L rfl rfl fun b7 L5 w6 o8 s9 h10 => ?_
 refine QK 5 [.slice none 0 0] h10 Qo rfl fun b13 L11 w12 o14 s15 h16 => ?_
 refine Seq.next ?_
 refine Run.seq ?_
 refine rsr ?_
 refine sv (Qa.move rfl) ?_
 refine sv (Jc Try.underlying67 rfl rfl) ?_
 refine Seq.next ?_
 refine Qc rfl rfl ?_
 refine Qh (fun _ _ h => h) ?_
 refine Run.seq ?_
 have c17 := s9.trans s15
 have q18 := up c17 h0
 obtain ⟨A19, c20, r21, q22⟩ := JN.open q18
 refine Zu [⟨12, .ex (.agg #[.slice A2 (nw a) c3]), [], none⟩, ⟨13, .ex (.pointer (some ⟨b1, 0, none⟩)), [], none⟩, ⟨14, .ex (.pointer (some ⟨b1, 0, none⟩)), [], none⟩, ⟨15, .ex (.pointer (some ⟨b1, 0, none⟩)), [], none⟩, ⟨16, .ex (.agg #[.slice A19 (nw r) c20]), [], none⟩, ⟨17, .v (QdP (Qj (a / r)) (Qj (if r = 0 then 0 else a % r)) (Is (i64 (if r = 0 then 5 else 0)))), [], none⟩, ⟨11, .v (QdP (Qj (a / r)) (Qj (if r = 0 then 0 else a % r)) (Is (i64 (if r = 0 then 5 else 0)))), [], none⟩, ⟨18, .v (Qj (a / r)), [], none⟩, ⟨19, .v (Qj (if r = 0 then 0 else a % r)), [], none⟩, ⟨20, .ex (i64 (if r = 0 then 5 else 0)), [], none⟩, ⟨5, .v (QcV 6 60 (Is (.agg #[.slice none 0 0]))), [], (some 12)⟩, ⟨6, .v (QcV 7 60 (Is (.agg #[.slice none 0 0]))), [], (some 13)⟩, ⟨5, .v (QcV 6 60 (Qj (a / r))), [6], none⟩, ⟨6, .v (QcV 7 60 (Qj (if r = 0 then 0 else a % r))), [7], none⟩] [9, 12, 13] [[], [], [], [], [], [], [], [], [6], [6, 7], [], [], [], [6]] Jg (by kernel_rfl) (by kernel_rfl) rfl h16 ⟨QJ, QJ, QJ, QJ, QJ, J4, J4, J4, J4, QJ, ZH rfl, ZH rfl, ZH rfl, ZH rfl, trivial⟩ ⟨?_, (rX [] rfl rfl rfl rfl fun _ _ => Qa.move rfl), (rX [1] rfl rfl rfl rfl fun _ _ => Qa.nilCheck rfl), (rX [2] rfl rfl rfl rfl fun _ _ => Qd 0 Try.underlying174 rfl Qo rfl rfl), ?_, ?_, ?_, ?_, ?_, ?_, ?_, ?_, ?_, ?_, trivial⟩ (fun L173 w174 h175 s176 v177 q178 v186 q187 => ?_)
 ·refine rP [] rfl rfl rfl rfl fun L23 w24 h25 s26 => ?_
  replace s26 : Stp [] _ _ _ _ := s26
  have c28 := s15.trans s26
  have o27 := o8.up c28
  exact ⟨_, Qb [.slice A2 (nw a) c3] o27 Qo rfl rfl, rfl⟩
 ·refine rP [3] rfl rfl rfl rfl fun L41 w42 h43 s44 => ?_
  replace s44 : Stp [] _ _ _ _ := s44
  have q45 := up s44 r21
  exact ⟨_, Zi (cs := [.slice A19 (nw r) c20]) Qo rfl (Ro.cells q45 0), rfl⟩
 ·refine rC [0, 4] rfl rfl rfl rfl QaK fun L46 w47 h48 s49 => ?_
  replace s49 : Stp [] _ _ _ _ := s49
  have c50 := c17.trans s49
  have q51 := up c50 h1
  have q52 := up s49 q22
  exact ⟨_, rfl, (UM h48 q51 q52 (show nw a ≤ 999999 from by assumption) (show nw r ≤ 1000000 from by assumption))⟩
 ·refine rP [5] rfl rfl rfl rfl fun L53 w54 h55 s56 v57 q58 => ?_
  replace s56 : Stp [] _ _ _ _ := s56
  obtain ⟨v59, v60, v61, rfl, q62, q63, q64⟩ := q58
  obtain ⟨A65, c66, rfl⟩ := Qj.shape q62
  have z67 := Qj.cap q62
  obtain ⟨A68, c69, rfl⟩ := Qj.shape q63
  have z70 := Qj.cap q63
  have q64 := Is.out q64; subst q64
  exact ⟨_, Qa.move rfl, ⟨_, _, _, rfl, q62, q63, rfl⟩⟩
 ·refine rP [6] rfl rfl rfl rfl fun L71 w72 h73 s74 v75 q76 => ?_
  replace s74 : Stp [] _ _ _ _ := s74
  obtain ⟨v77, v78, v79, rfl, q80, q81, q82⟩ := q76
  obtain ⟨A83, c84, rfl⟩ := Qj.shape q80
  have z85 := Qj.cap q80
  obtain ⟨A86, c87, rfl⟩ := Qj.shape q81
  have z88 := Qj.cap q81
  have q82 := Is.out q82; subst q82
  exact ⟨_, Qa.extract rfl rfl, q80⟩
 ·refine rP [6] rfl rfl rfl rfl fun L89 w90 h91 s92 v93 q94 => ?_
  replace s92 : Stp [6] _ _ _ _ := s92
  obtain ⟨v95, v96, v97, rfl, q98, q99, q100⟩ := q94
  obtain ⟨A101, c102, rfl⟩ := Qj.shape q98
  have z103 := Qj.cap q98
  obtain ⟨A104, c105, rfl⟩ := Qj.shape q99
  have z106 := Qj.cap q99
  have q100 := Is.out q100; subst q100
  exact ⟨_, Qa.extract rfl rfl, q99⟩
 ·refine rP [6] rfl rfl rfl rfl fun L107 w108 h109 s110 v111 q112 => ?_
  replace s110 : Stp [6, 7] _ _ _ _ := s110
  obtain ⟨v113, v114, v115, rfl, q116, q117, q118⟩ := q112
  obtain ⟨A119, c120, rfl⟩ := Qj.shape q116
  have z121 := Qj.cap q116
  obtain ⟨A122, c123, rfl⟩ := Qj.shape q117
  have z124 := Qj.cap q117
  have q118 := Is.out q118; subst q118
  exact ⟨_, Qa.extract rfl rfl, rfl⟩
 ·refine rN [] rfl rfl rfl rfl fun L125 w126 h127 s128 => ?_
  replace s128 : Stp [] _ _ _ _ := s128
  exact ⟨_, _, _, Qa.alloc Qo, h127.alloc _ 6, Stp.alloc _ 6, ⟨_, (.agg #[.slice none 0 0]), rfl, Own.alloc _ _ _ _ 6, rfl⟩⟩
 ·refine rN [] rfl rfl rfl rfl fun L129 w130 h131 s132 => ?_
  replace s132 : Stp [] _ _ _ _ := s132
  exact ⟨_, _, _, Qa.alloc Qo, h131.alloc _ 7, Stp.alloc _ 7, ⟨_, (.agg #[.slice none 0 0]), rfl, Own.alloc _ _ _ _ 7, rfl⟩⟩
 ·refine rS [7, 10] rfl rfl rfl fun L133 w134 h135 s136 v137 q138 v142 q143 => ?_
  replace s136 : Stp [] _ _ _ _ := s136
  obtain ⟨A139, c140, rfl⟩ := Qj.shape q138
  have z141 := Qj.cap q138
  obtain ⟨b144, u145, rfl, o146, q147⟩ := q143
  replace q147 := Is.out q147; subst q147
  replace o146 : Own L133 w134 6 b144 60 #[.slice none 0 0] := o146
  refine Zy (v := (.agg #[.slice A139 (nw (a / r)) c140])) [.slice A139 (nw (a / r)) c140] h135 o146 Qo rfl rfl rfl (lB9 rfl) rfl rfl fun w148 s151 o152 => ?_
  exact ⟨_, (.agg #[.slice A139 (nw (a / r)) c140]), rfl, o152, (up s151 q138)⟩
 ·refine rS [8, 11] rfl rfl rfl fun L153 w154 h155 s156 v157 q158 v162 q163 => ?_
  replace s156 : Stp [6] _ _ _ _ := s156
  obtain ⟨A159, c160, rfl⟩ := Qj.shape q158
  have z161 := Qj.cap q158
  obtain ⟨b164, u165, rfl, o166, q167⟩ := q163
  replace q167 := Is.out q167; subst q167
  replace o166 : Own L153 w154 7 b164 60 #[.slice none 0 0] := o166
  refine Zy (v := (.agg #[.slice A159 (nw (if r = 0 then 0 else a % r)) c160])) [.slice A159 (nw (if r = 0 then 0 else a % r)) c160] h155 o166 Qo rfl rfl rfl (lB9 rfl) rfl rfl fun w168 s171 o172 => ?_
  exact ⟨_, (.agg #[.slice A159 (nw (if r = 0 then 0 else a % r)) c160]), rfl, o172, (up s171 q158)⟩
 replace s176 : Stp [6, 7] _ _ _ _ := s176
 obtain ⟨b179, u180, rfl, o181, q182⟩ := q178
 obtain ⟨A183, c184, rfl⟩ := Qj.shape q182
 have z185 := Qj.cap q182
 replace o181 : Own L173 w174 6 b179 60 #[.slice A183 (nw (a / r)) c184] := o181
 obtain ⟨b188, u189, rfl, o190, q191⟩ := q187
 obtain ⟨A192, c193, rfl⟩ := Qj.shape q191
 have z194 := Qj.cap q191
 replace o190 : Own L173 w174 7 b188 60 #[.slice A192 (nw (if r = 0 then 0 else a % r)) c193] := o190
 refine sv (Qa.assign rfl) ?_
 refine nsr ?_
 refine sv (Qb [.slice A192 (nw (if r = 0 then 0 else a % r)) c193] o190 Qo rfl rfl) ?_
 have o195 := o14.up s176
 refine Q1 [.slice A192 (nw (if r = 0 then 0 else a % r)) c193] h175 o195 Qo rfl rfl rfl (lB9 rfl) rfl rfl fun w196 o197 s198 h199 => ?_
 refine Seq.next ?_
 have c200 := s176.trans s198
 have c201 := c17.trans c200
 obtain ⟨⟨zU, zo⟩, zb⟩ := hX c201 (by decide)
 have q202 := up s198 q191
 refine Run.ret ?_
 exact Qn Try.results61 ⟨_, rfl, Q6 [.slice A192 (nw (if r = 0 then 0 else a % r)) c193] o197 Qo rfl⟩ ⟨_, rfl, (Q2 (by exact if_neg (by omega)) (up zo q202)), zb⟩
theorem U9 {lab : Lab} {w : World} (hv : Qm lab w) {r : Nat} {v0 : Value} (h0 : JN r lab w v0) {a : Nat} {v1 : Value} (h1 : Qj a lab w v1) {b : Nat} {v2 : Value} (h2 : Qj b lab w v2) (hr : 1 < r) (ha : nw a ≤ 1000) (hb : nw b ≤ 1000) (hn : nw r ≤ 1000) :
  Calls Try.prog 68 #[v0, v1, v2] w (fun e w' => ∃ v, e = .returned v ∧ (Qj ((a + b) % r)) lab w' v ∧ Below w.heap.size w w') := by
 obtain ⟨L0, h0L, ⟨zU0, z00⟩, hX⟩ := QX hv
 replace h0 := up z00 h0
 obtain ⟨b1, rfl⟩ := YC.shape h0
 replace h1 := up z00 h1
 obtain ⟨A2, c3, rfl⟩ := Qj.shape h1
 have z4 := Qj.cap h1
 replace h2 := up z00 h2
 obtain ⟨A5, c6, rfl⟩ := Qj.shape h2
 have z7 := Qj.cap h2
 have hs := VZ a b
 refine Qu Try.func68 rfl Try.ntmps68 (lB9 rfl) ?_
 refine rsr ?_
 refine Yo 5 [.slice A2 (nw a) c3] h0L rfl rfl fun b10 L8 w9 o11 s12 h13 => ?_
 refine Yo 6 [.slice A5 (nw b) c6] h13 rfl rfl fun b16 L14 w15 o17 s18 h19 => ?_
 refine QK 7 [.slice none 0 0] h19 Qo rfl fun b22 L20 w21 o23 s24 h25 => ?_
 refine nsr ?_
 refine sv (Qa.move rfl) ?_
 have c27 := s18.trans s24
 have o26 := o11.up c27
 refine sv (Qb [.slice A2 (nw a) c3] o26 Qo rfl rfl) ?_
 have o28 := o17.up s24
 refine sv (Qb [.slice A5 (nw b) c6] o28 Qo rfl rfl) ?_
 have c29 := s12.trans c27
 have q30 := up c29 h1
 have q31 := up c29 h2
 refine Q4 (V := Qj (a + b)) QcL h25 rfl (UN h25 q30 q31 (show nw a ≤ 1000000 from by omega) (show nw b ≤ 1000000 from by omega)) fun v32 w33 q34 s35 h36 => ?_
 obtain ⟨A37, c38, rfl⟩ := Qj.shape q34
 have z39 := Qj.cap q34
 have c40 := c29.trans s35
 have q41 := up c40 h0
 refine Q4 (V := Qj ((a + b) % r)) Vu h36 rfl (ZR h36 q41 q34 (show 1 < r from by assumption) (show nw (a + b) ≤ 999999 from by omega) (show nw r ≤ 1000000 from by omega)) fun v42 w43 q44 s45 h46 => ?_
 obtain ⟨A47, c48, rfl⟩ := Qj.shape q44
 have z49 := Qj.cap q44
 have c51 := s35.trans s45
 have o50 := o23.up c51
 refine Q1 [.slice A47 (nw ((a + b) % r)) c48] h46 o50 Qo rfl rfl rfl (lB9 rfl) rfl rfl fun w52 o53 s54 h55 => ?_
 refine Seq.next ?_
 have c56 := s45.trans s54
 have c57 := c40.trans c56
 obtain ⟨⟨zU, zo⟩, zb⟩ := hX c57 (by decide)
 have q58 := up s54 q44
 refine Run.ret ?_
 exact Qn Try.results68 ⟨_, rfl, Q6 [.slice A47 (nw ((a + b) % r)) c48] o53 Qo rfl⟩ ⟨_, rfl, (up zo q58), zb⟩
theorem Qg0 {lab : Lab} {w : World} (hv : Qm lab w) {r : Nat} {v0 : Value} (h0 : JN r lab w v0) {a : Nat} {v1 : Value} (h1 : Qj a lab w v1) {b : Nat} {v2 : Value} (h2 : Qj b lab w v2) (hr : 1 < r) (ha : nw a ≤ 1000) (hb : nw b ≤ 1000) (hn : nw r ≤ 1000) :
  Calls Try.prog 81 #[v0, v1, v2] w (fun e w' => ∃ v, e = .returned v ∧ (Qj (Qbg r a b)) lab w' v ∧ Below w.heap.size w w') := by
 obtain ⟨L0, h0L, ⟨zU0, z00⟩, hX⟩ := QX hv
 replace h0 := up z00 h0
 obtain ⟨b1, rfl⟩ := YC.shape h0
 replace h1 := up z00 h1
 obtain ⟨A2, c3, rfl⟩ := Qj.shape h1
 have z4 := Qj.cap h1
 replace h2 := up z00 h2
 obtain ⟨A5, c6, rfl⟩ := Qj.shape h2
 have z7 := Qj.cap h2
 have hm1 := QT (Nat.mod_le a r)
 have hm2 := QT (Nat.mod_le b r)
 have hm3 := VZ (a % r) r
 refine Qu Try.func81 rfl Try.ntmps81 (lB9 rfl) ?_
 refine rsr ?_
 refine Yo 5 [.slice A2 (nw a) c3] h0L rfl rfl fun b10 L8 w9 o11 s12 h13 => ?_
 refine Yo 6 [.slice A5 (nw b) c6] h13 rfl rfl fun b16 L14 w15 o17 s18 h19 => ?_
 refine QK 7 [.slice none 0 0] h19 Qo rfl fun b22 L20 w21 o23 s24 h25 => ?_
 refine Seq.next ?_
 refine Run.seq ?_
 refine Zu [⟨11, .ex (.pointer (some ⟨b1, 0, none⟩)), [], none⟩, ⟨12, .ex (.agg #[.slice A2 (nw a) c3]), [], none⟩, ⟨13, .v (Qj (a % r)), [], none⟩, ⟨14, .ex (.pointer (some ⟨b1, 0, none⟩)), [], none⟩, ⟨15, .ex (.agg #[.slice A5 (nw b) c6]), [], none⟩] [2, 3, 4] [[], [], [], [], []] Jg (by kernel_rfl) (by kernel_rfl) rfl h25 ⟨QJ, QJ, J4, QJ, QJ, trivial⟩ ⟨(rX [] rfl rfl rfl rfl fun _ _ => Qa.move rfl), ?_, ?_, (rX [] rfl rfl rfl rfl fun _ _ => Qa.move rfl), ?_, trivial⟩ (fun L56 w57 h58 s59 v60 q61 => ?_)
 ·refine rP [] rfl rfl rfl rfl fun L30 w31 h32 s33 => ?_
  replace s33 : Stp [] _ _ _ _ := s33
  have c35 := s24.trans s33
  have c36 := s18.trans c35
  have o34 := o11.up c36
  exact ⟨_, Qb [.slice A2 (nw a) c3] o34 Qo rfl rfl, rfl⟩
 ·refine rC [0, 1] rfl rfl rfl rfl Vu fun L37 w38 h39 s40 => ?_
  replace s40 : Stp [] _ _ _ _ := s40
  have c41 := s24.trans s40
  have c42 := s18.trans c41
  have c43 := s12.trans c42
  have q44 := up c43 h0
  have q45 := up c43 h1
  exact ⟨_, rfl, (ZR h39 q44 q45 (show 1 < r from by assumption) (show nw a ≤ 999999 from by omega) (show nw r ≤ 1000000 from by omega))⟩
 ·refine rP [] rfl rfl rfl rfl fun L50 w51 h52 s53 => ?_
  replace s53 : Stp [] _ _ _ _ := s53
  have c55 := s24.trans s53
  have o54 := o17.up c55
  exact ⟨_, Qb [.slice A5 (nw b) c6] o54 Qo rfl rfl, rfl⟩
 replace s59 : Stp [] _ _ _ _ := s59
 obtain ⟨A62, c63, rfl⟩ := Qj.shape q61
 have z64 := Qj.cap q61
 have c65 := s24.trans s59
 have c66 := s18.trans c65
 have c67 := s12.trans c66
 have q68 := up c67 h0
 have q69 := up c67 h2
 refine Q4 (V := Qj (b % r)) Vu h58 rfl (ZR h58 q68 q69 (show 1 < r from by assumption) (show nw b ≤ 999999 from by omega) (show nw r ≤ 1000000 from by omega)) fun v70 w71 q72 s73 h74 => ?_
 obtain ⟨A75, c76, rfl⟩ := Qj.shape q72
 have z77 := Qj.cap q72
 have c79 := c66.trans s73
 have o78 := o11.up c79
 refine Q1 [.slice A62 (nw (a % r)) c63] h74 o78 Qo rfl rfl rfl (lB9 rfl) rfl rfl fun w80 o81 s82 h83 => ?_
 have c85 := s73.trans s82
 have c86 := c65.trans c85
 have o84 := o17.up c86
 refine Q1 [.slice A75 (nw (b % r)) c76] h83 o84 Qo rfl rfl rfl (lB9 rfl) rfl rfl fun w87 o88 s89 h90 => ?_
 refine Seq.next ?_
 refine Run.seq ?_
 refine rsr ?_
 have o91 := o81.up s89
 refine sv (Qb [.slice A62 (nw (a % r)) c63] o91 Qo rfl rfl) ?_
 refine sv (Qb [.slice A75 (nw (b % r)) c76] o88 Qo rfl rfl) ?_
 have c92 := c85.trans s89
 have q93 := up c92 q61
 have c94 := s82.trans s89
 have q95 := up c94 q72
 refine Q4 (V := Zl (Qj (if (a % r) < (b % r) then 0 else (a % r) - (b % r))) (Is (.bool (decide ((b % r) ≤ (a % r)))))) QaL h90 rfl (Qb3 h90 q93 q95 (show nw (a % r) ≤ 1000000 from by omega) (show nw (b % r) ≤ 1000000 from by omega)) fun v96 w97 q98 s99 h100 => ?_
 obtain ⟨v101, v102, rfl, q103, q104⟩ := q98
 obtain ⟨A105, c106, rfl⟩ := Qj.shape q103
 have z107 := Qj.cap q103
 have q104 := Is.out q104; subst q104
 refine sv (Qa.move rfl) ?_
 refine sv (Qa.extract rfl rfl) ?_
 refine sv (Qa.extract rfl rfl) ?_
 refine QK 8 [.slice none 0 0] h100 Qo rfl fun b110 L108 w109 o111 s112 h113 => ?_
 refine Q1 [.slice A105 (nw (if (a % r) < (b % r) then 0 else (a % r) - (b % r))) c106] h113 o111 Qo rfl rfl rfl (lB9 rfl) rfl rfl fun w114 o115 s116 h117 => ?_
 refine sv (Qa.assign rfl) ?_
 refine nsr ?_
 refine sv (Qa.move rfl) ?_
 refine Seq.next ?_
 rcases Decidable.em ((b % r) ≤ (a % r)) with hp1 | hp1
 ·refine Qc rfl (dT9 hp1) ?_
  refine rsr ?_
  refine sv (Qb [.slice A105 (nw (if (a % r) < (b % r) then 0 else (a % r) - (b % r))) c106] o115 Qo rfl rfl) ?_
  have c119 := s112.trans s116
  have c120 := s99.trans c119
  have c121 := c92.trans c120
  have c122 := s59.trans c121
  have o118 := o23.up c122
  refine Q1 [.slice A105 (nw (if (a % r) < (b % r) then 0 else (a % r) - (b % r))) c106] h117 o118 Qo rfl rfl rfl (lB9 rfl) rfl rfl fun w123 o124 s125 h126 => ?_
  refine Seq.next ?_
  have c127 := c121.trans s125
  have c128 := c67.trans c127
  obtain ⟨⟨zU, zo⟩, zb⟩ := hX c128 (by decide)
  have c129 := c119.trans s125
  have q130 := up c129 q103
  refine Run.ret (Qr ?_)
  exact Qn Try.results81 ⟨_, rfl, Q6 [.slice A105 (nw (if (a % r) < (b % r) then 0 else (a % r) - (b % r))) c106] o124 Qo rfl⟩ ⟨_, rfl, (Q2 (by exact QjD (by omega) hp1) (up zo q130)), zb⟩
 refine Qc rfl (dF9 hp1) ?_
 refine Qh (fun _ _ h => h) ?_
 refine Run.seq ?_
 have c131 := s112.trans s116
 have c132 := s99.trans c131
 have c133 := c92.trans c132
 have q134 := up c133 q68
 obtain ⟨A135, c136, r137, q138⟩ := JN.open q134
 refine Zu [⟨26, .ex (.agg #[.slice A62 (nw (a % r)) c63]), [], none⟩, ⟨27, .ex (.pointer (some ⟨b1, 0, none⟩)), [], none⟩, ⟨28, .ex (.pointer (some ⟨b1, 0, none⟩)), [], none⟩, ⟨29, .ex (.pointer (some ⟨b1, 0, none⟩)), [], none⟩, ⟨30, .ex (.agg #[.slice A135 (nw r) c136]), [], none⟩, ⟨31, .v (Qj ((a % r) + r)), [], none⟩, ⟨32, .ex (.agg #[.slice A75 (nw (b % r)) c76]), [], none⟩, ⟨33, .v (Zl (Qj (if ((a % r) + r) < (b % r) then 0 else ((a % r) + r) - (b % r))) (Is (.bool (decide ((b % r) ≤ ((a % r) + r)))))), [], none⟩, ⟨25, .v (Zl (Qj (if ((a % r) + r) < (b % r) then 0 else ((a % r) + r) - (b % r))) (Is (.bool (decide ((b % r) ≤ ((a % r) + r)))))), [], none⟩, ⟨34, .v (Qj (if ((a % r) + r) < (b % r) then 0 else ((a % r) + r) - (b % r))), [], none⟩, ⟨35, .ex (.bool (decide ((b % r) ≤ ((a % r) + r)))), [], none⟩, ⟨9, .v (QcV 10 60 (Is (.agg #[.slice none 0 0]))), [], (some 12)⟩, ⟨9, .v (QcV 10 60 (Qj (if ((a % r) + r) < (b % r) then 0 else ((a % r) + r) - (b % r)))), [10], none⟩] [10, 12] [[], [], [], [], [], [], [], [], [], [], [10], [], []] Jg (by kernel_rfl) (by kernel_rfl) rfl h117 ⟨QJ, QJ, QJ, QJ, QJ, J4, QJ, J4, J4, J4, QJ, ZH rfl, ZH rfl, trivial⟩ ⟨?_, (rX [] rfl rfl rfl rfl fun _ _ => Qa.move rfl), (rX [1] rfl rfl rfl rfl fun _ _ => Qa.nilCheck rfl), (rX [2] rfl rfl rfl rfl fun _ _ => Qd 0 Try.underlying174 rfl Qo rfl rfl), ?_, ?_, ?_, ?_, ?_, ?_, ?_, ?_, ?_, trivial⟩ (fun L249 w250 h251 s252 v253 q254 => ?_)
 ·refine rP [] rfl rfl rfl rfl fun L139 w140 h141 s142 => ?_
  replace s142 : Stp [] _ _ _ _ := s142
  have c144 := c132.trans s142
  have o143 := o91.up c144
  exact ⟨_, Qb [.slice A62 (nw (a % r)) c63] o143 Qo rfl rfl, rfl⟩
 ·refine rP [3] rfl rfl rfl rfl fun L157 w158 h159 s160 => ?_
  replace s160 : Stp [] _ _ _ _ := s160
  have q161 := up s160 r137
  exact ⟨_, Zi (cs := [.slice A135 (nw r) c136]) Qo rfl (Ro.cells q161 0), rfl⟩
 ·refine rC [0, 4] rfl rfl rfl rfl QcL fun L162 w163 h164 s165 => ?_
  replace s165 : Stp [] _ _ _ _ := s165
  have c166 := c132.trans s165
  have q167 := up c166 q93
  have q168 := up s165 q138
  exact ⟨_, rfl, (UN h164 q167 q168 (show nw (a % r) ≤ 1000000 from by omega) (show nw r ≤ 1000000 from by omega))⟩
 ·refine rP [] rfl rfl rfl rfl fun L169 w170 h171 s172 => ?_
  replace s172 : Stp [] _ _ _ _ := s172
  have c174 := c132.trans s172
  have o173 := o88.up c174
  exact ⟨_, Qb [.slice A75 (nw (b % r)) c76] o173 Qo rfl rfl, rfl⟩
 ·refine rC [5, 6] rfl rfl rfl rfl QaL fun L175 w176 h177 s178 v179 q180 => ?_
  replace s178 : Stp [] _ _ _ _ := s178
  obtain ⟨A181, c182, rfl⟩ := Qj.shape q180
  have z183 := Qj.cap q180
  have c184 := c132.trans s178
  have q185 := up c184 q95
  exact ⟨_, rfl, (Qb3 h177 q180 q185 (show nw ((a % r) + r) ≤ 1000000 from by omega) (show nw (b % r) ≤ 1000000 from by omega))⟩
 ·refine rP [7] rfl rfl rfl rfl fun L186 w187 h188 s189 v190 q191 => ?_
  replace s189 : Stp [] _ _ _ _ := s189
  obtain ⟨v192, v193, rfl, q194, q195⟩ := q191
  obtain ⟨A196, c197, rfl⟩ := Qj.shape q194
  have z198 := Qj.cap q194
  have q195 := Is.out q195; subst q195
  exact ⟨_, Qa.move rfl, ⟨_, _, rfl, q194, rfl⟩⟩
 ·refine rP [8] rfl rfl rfl rfl fun L199 w200 h201 s202 v203 q204 => ?_
  replace s202 : Stp [] _ _ _ _ := s202
  obtain ⟨v205, v206, rfl, q207, q208⟩ := q204
  obtain ⟨A209, c210, rfl⟩ := Qj.shape q207
  have z211 := Qj.cap q207
  have q208 := Is.out q208; subst q208
  exact ⟨_, Qa.extract rfl rfl, q207⟩
 ·refine rP [8] rfl rfl rfl rfl fun L212 w213 h214 s215 v216 q217 => ?_
  replace s215 : Stp [10] _ _ _ _ := s215
  obtain ⟨v218, v219, rfl, q220, q221⟩ := q217
  obtain ⟨A222, c223, rfl⟩ := Qj.shape q220
  have z224 := Qj.cap q220
  have q221 := Is.out q221; subst q221
  exact ⟨_, Qa.extract rfl rfl, rfl⟩
 ·refine rN [] rfl rfl rfl rfl fun L225 w226 h227 s228 => ?_
  replace s228 : Stp [] _ _ _ _ := s228
  exact ⟨_, _, _, Qa.alloc Qo, h227.alloc _ 10, Stp.alloc _ 10, ⟨_, (.agg #[.slice none 0 0]), rfl, Own.alloc _ _ _ _ 10, rfl⟩⟩
 ·refine rS [9, 11] rfl rfl rfl fun L229 w230 h231 s232 v233 q234 v238 q239 => ?_
  replace s232 : Stp [] _ _ _ _ := s232
  obtain ⟨A235, c236, rfl⟩ := Qj.shape q234
  have z237 := Qj.cap q234
  obtain ⟨b240, u241, rfl, o242, q243⟩ := q239
  replace q243 := Is.out q243; subst q243
  replace o242 : Own L229 w230 10 b240 60 #[.slice none 0 0] := o242
  refine Zy (v := (.agg #[.slice A235 (nw (if ((a % r) + r) < (b % r) then 0 else ((a % r) + r) - (b % r))) c236])) [.slice A235 (nw (if ((a % r) + r) < (b % r) then 0 else ((a % r) + r) - (b % r))) c236] h231 o242 Qo rfl rfl rfl (lB9 rfl) rfl rfl fun w244 s247 o248 => ?_
  exact ⟨_, (.agg #[.slice A235 (nw (if ((a % r) + r) < (b % r) then 0 else ((a % r) + r) - (b % r))) c236]), rfl, o248, (up s247 q234)⟩
 replace s252 : Stp [10] _ _ _ _ := s252
 obtain ⟨b255, u256, rfl, o257, q258⟩ := q254
 obtain ⟨A259, c260, rfl⟩ := Qj.shape q258
 have z261 := Qj.cap q258
 replace o257 : Own L249 w250 10 b255 60 #[.slice A259 (nw (if ((a % r) + r) < (b % r) then 0 else ((a % r) + r) - (b % r))) c260] := o257
 refine sv (Qa.assign rfl) ?_
 refine nsr ?_
 refine sv (Qb [.slice A259 (nw (if ((a % r) + r) < (b % r) then 0 else ((a % r) + r) - (b % r))) c260] o257 Qo rfl rfl) ?_
 have c263 := c133.trans s252
 have c264 := s59.trans c263
 have o262 := o23.up c264
 refine Q1 [.slice A259 (nw (if ((a % r) + r) < (b % r) then 0 else ((a % r) + r) - (b % r))) c260] h251 o262 Qo rfl rfl rfl (lB9 rfl) rfl rfl fun w265 o266 s267 h268 => ?_
 refine Seq.next ?_
 have c269 := c263.trans s267
 have c270 := c67.trans c269
 obtain ⟨⟨zU, zo⟩, zb⟩ := hX c270 (by decide)
 have q271 := up s267 q258
 refine Run.ret ?_
 exact Qn Try.results81 ⟨_, rfl, Q6 [.slice A259 (nw (if ((a % r) + r) < (b % r) then 0 else ((a % r) + r) - (b % r))) c260] o266 Qo rfl⟩ ⟨_, rfl, (Q2 (by exact QjC (by omega) hp1) (up zo q271)), zb⟩
theorem ZY {lab : Lab} {w : World} (hv : Qm lab w) {r : Nat} {v0 : Value} (h0 : JN r lab w v0) {a : Nat} {v1 : Value} (h1 : Qj a lab w v1) {b : Nat} {v2 : Value} (h2 : Qj b lab w v2) (hr : 1 < r) (ha : nw a ≤ 1000) (hb : nw b ≤ 1000) (hn : nw r ≤ 1000) :
  Calls Try.prog 69 #[v0, v1, v2] w (fun e w' => ∃ v, e = .returned v ∧ (Qj (a * b % r)) lab w' v ∧ Below w.heap.size w w') := by
 obtain ⟨L0, h0L, ⟨zU0, z00⟩, hX⟩ := QX hv
 replace h0 := up z00 h0
 obtain ⟨b1, rfl⟩ := YC.shape h0
 replace h1 := up z00 h1
 obtain ⟨A2, c3, rfl⟩ := Qj.shape h1
 have z4 := Qj.cap h1
 replace h2 := up z00 h2
 obtain ⟨A5, c6, rfl⟩ := Qj.shape h2
 have z7 := Qj.cap h2
 have hs := QeG a b
 have hl := Qat r
 refine Qu Try.func69 rfl Try.ntmps69 (lB9 rfl) ?_
 refine rsr ?_
 refine Yo 5 [.slice A2 (nw a) c3] h0L rfl rfl fun b10 L8 w9 o11 s12 h13 => ?_
 refine Yo 6 [.slice A5 (nw b) c6] h13 rfl rfl fun b16 L14 w15 o17 s18 h19 => ?_
 refine QK 7 [.slice none 0 0] h19 Qo rfl fun b22 L20 w21 o23 s24 h25 => ?_
 refine Seq.next ?_
 refine Run.seq ?_
 refine rsr ?_
 refine sv (Qa.move rfl) ?_
 refine sv (Yj Try.underlying67 rfl rfl) ?_
 refine sv (Qa.move rfl) ?_
 refine Qg rfl rfl rfl ?_
 refine sv (Qa.move rfl) ?_
 refine Qg rfl rfl rfl ?_
 refine sv (Qa.nilCheck rfl) ?_
 refine Qg rfl rfl rfl ?_
 have c26 := s18.trans s24
 have c27 := s12.trans c26
 have q28 := up c27 h0
 obtain ⟨A29, c30, r31, q32⟩ := JN.open q28
 refine sv (Qd 1 Try.underlying174 rfl Qai rfl rfl) ?_
 refine Qg rfl rfl rfl ?_
 refine sv (Jd Qai rfl (Ro.cell r31 1 rfl)) ?_
 refine Qg rfl rfl rfl ?_
 refine sv (Qa.gtr rfl rfl) ?_
 refine sv (Jq rfl rfl) ?_
 refine Seq.next ?_
 rcases Decidable.em ((0 : Int) < ((QI r : Nat) : Int)) with hp1 | hp1
 rotate_left
 ·refine Qc rfl (dF9 hp1) ?_
  refine Qh (fun _ _ h => h) ?_
  refine rsr ?_
  refine sv (Qa.move rfl) ?_
  have o229 := o11.up c26
  refine sv (Qb [.slice A2 (nw a) c3] o229 Qo rfl rfl) ?_
  have o230 := o17.up s24
  refine sv (Qb [.slice A5 (nw b) c6] o230 Qo rfl rfl) ?_
  have q231 := up c27 h1
  have q232 := up c27 h2
  refine Q4 (V := Qj (a * b)) V8 h25 rfl (Xg h25 q231 q232 (show nw a ≤ 1000000 from by omega) (show nw b ≤ 1000000 from by omega)) fun v233 w234 q235 s236 h237 => ?_
  obtain ⟨A238, c239, rfl⟩ := Qj.shape q235
  have z240 := Qj.cap q235
  have q241 := up s236 q28
  refine Q4 (V := Qj ((a * b) % r)) Vu h237 rfl (ZR h237 q241 q235 (show 1 < r from by assumption) (show nw (a * b) ≤ 999999 from by omega) (show nw r ≤ 1000000 from by omega)) fun v242 w243 q244 s245 h246 => ?_
  obtain ⟨A247, c248, rfl⟩ := Qj.shape q244
  have z249 := Qj.cap q244
  have c251 := s236.trans s245
  have o250 := o23.up c251
  refine Q1 [.slice A247 (nw ((a * b) % r)) c248] h246 o250 Qo rfl rfl rfl (lB9 rfl) rfl rfl fun w252 o253 s254 h255 => ?_
  refine Seq.next ?_
  have c256 := c251.trans s254
  have c257 := c27.trans c256
  obtain ⟨⟨zU, zo⟩, zb⟩ := hX c257 (by decide)
  have q258 := up s254 q244
  refine Run.ret ?_
  exact Qn Try.results69 ⟨_, rfl, Q6 [.slice A247 (nw ((a * b) % r)) c248] o253 Qo rfl⟩ ⟨_, rfl, (Q2 (by with_reducible rfl) (up zo q258)), zb⟩
 refine Qc rfl (dT9 hp1) ?_
 refine rsr ?_
 have o33 := o11.up c26
 refine sv (Qb [.slice A2 (nw a) c3] o33 Qo rfl rfl) ?_
 have q34 := up c27 h1
 refine Q4 (V := Zl (Is (n64 (if nw a ≤ 2 then a else 0))) (Is (.bool (decide (nw a ≤ 2))))) QcK h25 rfl (VM h25 q34) fun v35 w36 q37 s38 h39 => ?_
 obtain ⟨v40, v41, rfl, q42, q43⟩ := q37
 have q42 := Is.out q42; subst q42
 have q43 := Is.out q43; subst q43
 refine sv (Qa.move rfl) ?_
 refine sv (Qa.extract rfl rfl) ?_
 refine sv (Qa.extract rfl rfl) ?_
 refine sv (Qa.assign rfl) ?_
 refine sv (Qa.assign rfl) ?_
 refine nsr ?_
 have c45 := s24.trans s38
 have o44 := o17.up c45
 refine sv (Qb [.slice A5 (nw b) c6] o44 Qo rfl rfl) ?_
 have c46 := c27.trans s38
 have q47 := up c46 h2
 refine Q4 (V := Zl (Is (n64 (if nw b ≤ 2 then b else 0))) (Is (.bool (decide (nw b ≤ 2))))) QcK h39 rfl (VM h39 q47) fun v48 w49 q50 s51 h52 => ?_
 obtain ⟨v53, v54, rfl, q55, q56⟩ := q50
 have q55 := Is.out q55; subst q55
 have q56 := Is.out q56; subst q56
 refine sv (Qa.move rfl) ?_
 refine sv (Qa.extract rfl rfl) ?_
 refine sv (Qa.extract rfl rfl) ?_
 refine sv (Qa.assign rfl) ?_
 refine sv (Qa.assign rfl) ?_
 refine nsr ?_
 refine sv (Qa.move rfl) ?_
 refine sv (Qa.move rfl) ?_
 rcases Decidable.em (nw a ≤ 2) with hp2 | hp2
 rotate_left
 ·refine Qe rfl rfl (dF9 hp2) rfl (by decide) ?_
  refine sv (Ql rfl (dF9 hp2) rfl) ?_
  refine Seq.next ?_
  refine Qc rfl rfl ?_
  refine Qh (fun _ _ h => h) ?_
  refine rsr ?_
  refine sv (Qa.move rfl) ?_
  have c196 := s38.trans s51
  have o195 := o33.up c196
  refine sv (Qb [.slice A2 (nw a) c3] o195 Qo rfl rfl) ?_
  have o197 := o44.up s51
  refine sv (Qb [.slice A5 (nw b) c6] o197 Qo rfl rfl) ?_
  have q198 := up c196 q34
  have q199 := up s51 q47
  refine Q4 (V := Qj (a * b)) V8 h52 rfl (Xg h52 q198 q199 (show nw a ≤ 1000000 from by omega) (show nw b ≤ 1000000 from by omega)) fun v200 w201 q202 s203 h204 => ?_
  obtain ⟨A205, c206, rfl⟩ := Qj.shape q202
  have z207 := Qj.cap q202
  have c208 := c196.trans s203
  have q209 := up c208 q28
  refine Q4 (V := Qj ((a * b) % r)) Vu h204 rfl (ZR h204 q209 q202 (show 1 < r from by assumption) (show nw (a * b) ≤ 999999 from by omega) (show nw r ≤ 1000000 from by omega)) fun v210 w211 q212 s213 h214 => ?_
  obtain ⟨A215, c216, rfl⟩ := Qj.shape q212
  have z217 := Qj.cap q212
  have c219 := c208.trans s213
  have o218 := o23.up c219
  refine Q1 [.slice A215 (nw ((a * b) % r)) c216] h214 o218 Qo rfl rfl rfl (lB9 rfl) rfl rfl fun w220 o221 s222 h223 => ?_
  refine Seq.next ?_
  have c224 := s213.trans s222
  have c225 := s203.trans c224
  have c226 := s51.trans c225
  have c227 := c46.trans c226
  obtain ⟨⟨zU, zo⟩, zb⟩ := hX c227 (by decide)
  have q228 := up s222 q212
  refine Run.ret ?_
  exact Qn Try.results69 ⟨_, rfl, Q6 [.slice A215 (nw ((a * b) % r)) c216] o221 Qo rfl⟩ ⟨_, rfl, (Q2 (by with_reducible rfl) (up zo q228)), zb⟩
 refine Qg rfl rfl (dT9 hp2) ?_
 refine sv (Qa.move rfl) ?_
 refine sv (Ql rfl (dT9 hp2) rfl) ?_
 refine Seq.next ?_
 rcases Decidable.em (nw b ≤ 2) with hp3 | hp3
 rotate_left
 ·refine Qc rfl (dF9 hp3) ?_
  refine Qh (fun _ _ h => h) ?_
  refine rsr ?_
  refine sv (Qa.move rfl) ?_
  have c162 := s38.trans s51
  have o161 := o33.up c162
  refine sv (Qb [.slice A2 (nw a) c3] o161 Qo rfl rfl) ?_
  have o163 := o44.up s51
  refine sv (Qb [.slice A5 (nw b) c6] o163 Qo rfl rfl) ?_
  have q164 := up c162 q34
  have q165 := up s51 q47
  refine Q4 (V := Qj (a * b)) V8 h52 rfl (Xg h52 q164 q165 (show nw a ≤ 1000000 from by omega) (show nw b ≤ 1000000 from by omega)) fun v166 w167 q168 s169 h170 => ?_
  obtain ⟨A171, c172, rfl⟩ := Qj.shape q168
  have z173 := Qj.cap q168
  have c174 := c162.trans s169
  have q175 := up c174 q28
  refine Q4 (V := Qj ((a * b) % r)) Vu h170 rfl (ZR h170 q175 q168 (show 1 < r from by assumption) (show nw (a * b) ≤ 999999 from by omega) (show nw r ≤ 1000000 from by omega)) fun v176 w177 q178 s179 h180 => ?_
  obtain ⟨A181, c182, rfl⟩ := Qj.shape q178
  have z183 := Qj.cap q178
  have c185 := c174.trans s179
  have o184 := o23.up c185
  refine Q1 [.slice A181 (nw ((a * b) % r)) c182] h180 o184 Qo rfl rfl rfl (lB9 rfl) rfl rfl fun w186 o187 s188 h189 => ?_
  refine Seq.next ?_
  have c190 := s179.trans s188
  have c191 := s169.trans c190
  have c192 := s51.trans c191
  have c193 := c46.trans c192
  obtain ⟨⟨zU, zo⟩, zb⟩ := hX c193 (by decide)
  have q194 := up s188 q178
  refine Run.ret ?_
  exact Qn Try.results69 ⟨_, rfl, Q6 [.slice A181 (nw ((a * b) % r)) c182] o187 Qo rfl⟩ ⟨_, rfl, (Q2 (by with_reducible rfl) (up zo q194)), zb⟩
 refine Qc rfl (dT9 hp3) ?_
 refine Run.seq ?_
 refine Run.open 19 (Φ := [.ex (n64 (if nw a ≤ 2 then a else 0)), .ex (.pointer (some ⟨b1, 0, none⟩)), .ex (.pointer (some ⟨b1, 0, none⟩)), .ex (.pointer (some ⟨b1, 1, none⟩)), .ex (n64 (QI r)), .ex (n64 ((if nw a ≤ 2 then a else 0) % (QI r))), .ex (n64 (if nw b ≤ 2 then b else 0)), .ex (.pointer (some ⟨b1, 0, none⟩)), .ex (.pointer (some ⟨b1, 0, none⟩)), .ex (.pointer (some ⟨b1, 1, none⟩)), .ex (n64 (QI r)), .ex (n64 ((if nw b ≤ 2 then b else 0) % (QI r))), .ex (n64 (((if nw a ≤ 2 then a else 0) % (QI r)) * ((if nw b ≤ 2 then b else 0) % (QI r)))), .ex (.pointer (some ⟨b1, 0, none⟩)), .ex (.pointer (some ⟨b1, 0, none⟩)), .ex (.pointer (some ⟨b1, 1, none⟩)), .ex (n64 (QI r)), .ex (n64 ((((if nw a ≤ 2 then a else 0) % (QI r)) * ((if nw b ≤ 2 then b else 0) % (QI r))) % (QI r))), .v (Qj ((((if nw a ≤ 2 then a else 0) % (QI r)) * ((if nw b ≤ 2 then b else 0) % (QI r))) % (QI r)))]) [(18, 52)] Jg (by kernel_rfl) rfl h52 ⟨(oX [] rfl rfl rfl fun _ _ => Qa.move rfl), (oX [] rfl rfl rfl fun _ _ => Qa.move rfl), (oX [(1, 35)] rfl rfl rfl fun _ _ => Qa.nilCheck rfl), (oX [(2, 36)] rfl rfl rfl fun _ _ => Qd 1 Try.underlying174 rfl Qai rfl rfl), ?_, (oX [(0, 34), (4, 38)] rfl rfl rfl fun _ _ => ZB rfl rfl (by omega)), (oX [] rfl rfl rfl fun _ _ => Qa.move rfl), (oX [] rfl rfl rfl fun _ _ => Qa.move rfl), (oX [(7, 41)] rfl rfl rfl fun _ _ => Qa.nilCheck rfl), (oX [(8, 42)] rfl rfl rfl fun _ _ => Qd 1 Try.underlying174 rfl Qai rfl rfl), ?_, (oX [(6, 40), (10, 44)] rfl rfl rfl fun _ _ => ZB rfl rfl (by omega)), (oX [(5, 39), (11, 45)] rfl rfl rfl fun _ _ => ZC rfl rfl (by exact QeT hl (by omega))), (oX [] rfl rfl rfl fun _ _ => Qa.move rfl), (oX [(13, 47)] rfl rfl rfl fun _ _ => Qa.nilCheck rfl), (oX [(14, 48)] rfl rfl rfl fun _ _ => Qd 1 Try.underlying174 rfl Qai rfl rfl), ?_, (oX [(12, 46), (16, 50)] rfl rfl rfl fun _ _ => ZB rfl rfl (by omega)), ?_, trivial⟩ (fun L142 w143 h144 s145 v146 q147 => ?_)
 ·refine oP [(3, 37)] rfl rfl fun L73 w74 h75 s76 => ?_
  have c77 := s51.trans s76
  have c78 := s38.trans c77
  have q79 := up c78 r31
  exact ⟨_, Jd Qai rfl (Ro.cell q79 1 rfl), rfl⟩
 ·refine oP [(9, 43)] rfl rfl fun L100 w101 h102 s103 => ?_
  have c104 := s51.trans s103
  have c105 := s38.trans c104
  have q106 := up c105 r31
  exact ⟨_, Jd Qai rfl (Ro.cell q106 1 rfl), rfl⟩
 ·refine oP [(15, 49)] rfl rfl fun L127 w128 h129 s130 => ?_
  have c131 := s51.trans s130
  have c132 := s38.trans c131
  have q133 := up c132 r31
  exact ⟨_, Jd Qai rfl (Ro.cell q133 1 rfl), rfl⟩
 ·refine oC [(17, 51)] rfl rfl JM fun L138 w139 h140 s141 => ?_
  exact ⟨_, rfl, (QW h140 (x := (((if nw a ≤ 2 then a else 0) % (QI r)) * ((if nw b ≤ 2 then b else 0) % (QI r))) % (QI r)) (show ((((if nw a ≤ 2 then a else 0) % (QI r)) * ((if nw b ≤ 2 then b else 0) % (QI r))) % (QI r)) < 18446744073709551616 from by exact Nat.lt_trans (Nat.mod_lt _ (by omega)) (by omega)))⟩
 obtain ⟨A148, c149, rfl⟩ := Qj.shape q147
 have z150 := Qj.cap q147
 have c152 := s51.trans s145
 have c153 := s38.trans c152
 have o151 := o23.up c153
 refine Q1 [.slice A148 (nw ((((if nw a ≤ 2 then a else 0) % (QI r)) * ((if nw b ≤ 2 then b else 0) % (QI r))) % (QI r))) c149] h144 o151 Qo rfl rfl rfl (lB9 rfl) rfl rfl fun w154 o155 s156 h157 => ?_
 refine Seq.next ?_
 have c158 := c152.trans s156
 have c159 := c46.trans c158
 obtain ⟨⟨zU, zo⟩, zb⟩ := hX c159 (by decide)
 have q160 := up s156 q147
 refine Run.ret (Qr ?_)
 exact Qn Try.results69 ⟨_, rfl, Q6 [.slice A148 (nw ((((if nw a ≤ 2 then a else 0) % (QI r)) * ((if nw b ≤ 2 then b else 0) % (QI r))) % (QI r))) c149] o155 Qo rfl⟩ ⟨_, rfl, (Q2 (by exact QgB (by assumption) (by assumption) (by assumption)) (up zo q160)), zb⟩
end Go.Proofs.Ytgfomedobfaidaa
end
section
set_option linter.unusedVariables false
set_option linter.unusedSimpArgs false
namespace Go.Proofs.Ytgfomedobfaidaa
open Go.RowKit
def Qho (lab : Lab) (w : World) (d b : Nat) (t : TypeId) (L : List Nat) : Prop := ∃ cs : List Value, Own lab w d b t cs.toArray ∧ J7 lab w L cs
theorem Qho.up {T : List Nat} {lab lab' : Lab} {w w' : World} {d b : Nat} {t : TypeId} {L : List Nat} (h : Qho lab w d b t L) (s : Stp T lab w lab' w') (hd : d ∉ T := by decide) : Qho lab' w' d b t L := by
 obtain ⟨cs, h1, h2⟩ := h
 exact ⟨cs, h1.up s hd, h2.step s⟩
theorem K4 (lab : Lab) (w : World) : ∀ n, J7 lab w (List.replicate n 0) (List.replicate n (.slice none 0 0))
 | 0 => trivial
 | n + 1 => ⟨Qj.zero lab w, K4 lab w n⟩
theorem QdJ {lab : Lab} {w : World} {d b : Nat} {t : TypeId} {arr : Array Value} (n : Nat) (h : Own lab w d b t arr) (hc : arr = (List.replicate n (.slice none 0 0)).toArray) : Qho lab w d b t (List.replicate n 0) := by
 subst hc
 exact ⟨_, h, K4 lab w n⟩
theorem QaD {L : List Nat} {j : Nat} (h : j < L.length) : L[j]? = some (L.getD j 0) := by simp [List.getD, h]
theorem J7.set {lab : Lab} {w : World} {x : Nat} {u : Value} (hx : Qj x lab w (.agg #[u])) : ∀ {L : List Nat} {vs : List Value} (j : Nat), J7 lab w L vs → J7 lab w (L.set j x) (vs.set j u)
 | [], [], _, _ => trivial
 | _ :: _, _ :: _, 0, h => ⟨hx, h.2⟩
 | _ :: _, _ :: _, j + 1, h => ⟨h.1, J7.set hx j h.2⟩
 | [], _ :: _, _, h => h.elim
 | _ :: _, [], _, h => h.elim
section
variable {ds : List Deferred} {P : Program} {N : Nat} {ops : Array Oper} {Q : Exit → Act → World → Prop} {l : List (Nat × Value)} {rest : List Oper} {w : World} {lab : Lab} {ty : TypeId} {pos : String} {af : Array Edge}
theorem X2 {t t' : TypeId} {x : Operand} {by_ d b j : Nat} {z : Option Value} {cs : List Value} {u : Value} (h : Own lab w d b t' cs.toArray) (ht : QU P t = some (true, 1, z, by_)) (hx : ev l x = some (.pointer (some ⟨b, 0 + j * 1, none⟩))) (hu : cs[j]? = some u) : Qa P l (.load t x) ty w (.agg #[u]) w := by
 have hj : j < cs.length := (List.getElem?_eq_some_iff.1 hu).1
 have e : cs[j] = u := (List.getElem?_eq_some_iff.1 hu).2
 refine Qb [u] h ht hx ?_
 show List.take 1 (List.drop (0 + j * 1) cs) = [u]
 rw [Nat.zero_add, Nat.mul_one, List.drop_eq_getElem_cons hj, e]
 rfl
theorem Qia (j : Nat) (u : Value) {cs : List Value} (hj : j < cs.length) : cs.take j ++ [u] ++ cs.drop (j + 1) = cs.set j u := by
 rw [List.set_eq_take_append_cons_drop, if_pos hj]; simp
theorem Qed {k b j x : Nat} {t t' : TypeId} {xo y : Operand} {u : Value} {by_ : Nat} {z : Option Value} {L : List Nat} (hv : Qm lab w) (h : Qho lab w k b t' L) (ht : QU P t = some (true, 1, z, by_)) (hx : ev l xo = some (.pointer (some ⟨b, 0 + j * 1, none⟩))) (hy : ev l y = some (.agg #[u])) (hn : Qj x lab w (.agg #[u])) (hj : j < L.length) (h1 : u.oneCell' = true)
  (hk : ∀ w', Qho lab w' k b t' (L.set j x) → Stp [k] lab w lab w' → Qm lab w' → Seq ds P N ops Q l rest w') : Seq ds P N ops Q l (⟨none, .store t xo y, ty, pos, af, none⟩ :: rest) w := by
 obtain ⟨cs, ho, he⟩ := h
 have hl := he.len
 refine Seq.store (cs.set j u) hv ho ht hx hy rfl (by simp; omega) (show ([u] : List Value).all (·.oneCell') = true by simp [h1]) ?_ fun w' o s v => hk w' ⟨_, o, ((J7.set hn j he).step s)⟩ s v
 show (List.take (0 + j * 1) cs ++ [u] ++ List.drop (0 + j * 1 + 1) cs).toArray = _
 rw [Nat.zero_add, Nat.mul_one, Qia j u (by omega)]
end
theorem Qcy : nw 1 = 1 := by rw [QeF (by omega), show 1 / 4294967296 = 0 from rfl, ZU]
theorem QaF (b r e : Nat) : b ^ e % r * (b ^ e % r) % r = b ^ (2 * e) % r := by
 rw [← Nat.mul_mod, ← Nat.pow_add]; congr 2; omega
theorem QiP (b r e f : Nat) : b ^ e % r * (b ^ f % r) % r = b ^ (e + f) % r := by rw [← Nat.mul_mod, ← Nat.pow_add]
theorem QcD (b r e : Nat) : b ^ e % r * b % r = b ^ (e + 1) % r := by rw [Nat.mod_mul_mod, Nat.pow_succ]
theorem Qll (x j : Nat) : x / 2 ^ j = 2 * (x / 2 ^ (j + 1)) + x / 2 ^ j % 2 := by
 rw [Nat.pow_succ, ← Nat.div_div_eq_div_mul]; omega
theorem QgU {b r x k : Nat} (hk : 1 ≤ k) (h : (if 0 ≤ ((k : Nat) : Int) - 1 then ((x / 2 ^ (((k : Nat) : Int) - 1).toNat % 2 : Nat) : Int) else 0) = 1) : b ^ (x / 2 ^ k) % r * (b ^ (x / 2 ^ k) % r) % r * b % r = b ^ (x / 2 ^ (k - 1)) % r := by
 obtain ⟨j, rfl⟩ : ∃ j, k = j + 1 := ⟨k - 1, by omega⟩
 rw [if_pos (by omega), show (((j + 1 : Nat) : Int) - 1).toNat = j by omega] at h
 rw [QaF, QcD, Nat.add_sub_cancel, Qll x j]
 congr 2; omega
theorem QgV {b r x k : Nat} (hk : 1 ≤ k) (h : ¬ (if 0 ≤ ((k : Nat) : Int) - 1 then ((x / 2 ^ (((k : Nat) : Int) - 1).toNat % 2 : Nat) : Int) else 0) = 1) : b ^ (x / 2 ^ k) % r * (b ^ (x / 2 ^ k) % r) % r = b ^ (x / 2 ^ (k - 1)) % r := by
 obtain ⟨j, rfl⟩ : ∃ j, k = j + 1 := ⟨k - 1, by omega⟩
 rw [if_pos (by omega), show (((j + 1 : Nat) : Int) - 1).toNat = j by omega] at h
 rw [QaF, Nat.add_sub_cancel, Qll x j]
 congr 2; omega
theorem Qfy (b r : Nat) {x : Nat} : 1 % r = b ^ (x / 2 ^ QM x) % r := by
 rw [Nat.div_eq_of_lt (Zh.1 (Nat.le_refl _)), Nat.pow_zero]
theorem QiQ {a r x k : Nat} (h : k = 0) : (a % r) ^ (x / 2 ^ k) % r = a ^ x % r := by
 rw [h, Nat.pow_zero, Nat.div_one, ← Nat.pow_mod]
def tab (b r i : Nat) : List Nat := (List.range 16).map fun j => if j < i then b ^ j % r else 0
theorem Vi (b r i : Nat) : (tab b r i).length = 16 := by simp [tab]
theorem U1 {b r i j : Nat} (hj : j < i) (h : j < 16) : (tab b r i).getD j 0 = b ^ j % r := by
 simp [tab, List.getD, h, hj]
theorem QhW (b r : Nat) : (List.replicate 16 0).set 0 (1 % r) = tab b r 1 := by
 simp [tab, List.range, List.range.loop]
theorem Qgo {b r i : Nat} (h1 : 1 ≤ i) (h : i < 16) : (tab b r i).set i ((tab b r i).getD (i - 1) 0 * b % r) = tab b r (i + 1) := by
 rw [U1 (by omega) (by omega), QcD, Nat.sub_add_cancel h1]
 refine List.ext_getElem (by simp [tab]) fun j a1 a2 => ?_
 simp only [tab, List.getElem_set, List.getElem_map, List.getElem_range]
 split
 ·rename_i e; subst e; rw [if_pos (by omega)]
 ·split <;> split <;> first | rfl | omega
theorem Qfv (x e : Nat) : x / 2 ^ e % 2 + 2 * (x / 2 ^ (e + 1) % 2) + 4 * (x / 2 ^ (e + 2) % 2) + 8 * (x / 2 ^ (e + 3) % 2) = x / 2 ^ e % 16 := by
 simp only [Nat.pow_add, ← Nat.div_div_eq_div_mul]
 generalize x / 2 ^ e = y
 omega
theorem QaG {x k : Nat} (hk : 1 ≤ k) : (if 0 ≤ 4 * (((k : Nat) : Int) - 1) then ((x / 2 ^ (4 * (((k : Nat) : Int) - 1)).toNat % 2 : Nat) : Int) else 0) + 2 * (if 0 ≤ 4 * (((k : Nat) : Int) - 1) + 1 then ((x / 2 ^ (4 * (((k : Nat) : Int) - 1) + 1).toNat % 2 : Nat) : Int) else 0) + 4 * (if 0 ≤ 4 * (((k : Nat) : Int) - 1) + 2 then ((x / 2 ^ (4 * (((k : Nat) : Int) - 1) + 2).toNat % 2 : Nat) : Int) else 0) + 8 * (if 0 ≤ 4 * (((k : Nat) : Int) - 1) + 3 then ((x / 2 ^ (4 * (((k : Nat) : Int) - 1) + 3).toNat % 2 : Nat) : Int) else 0) = ((x / 16 ^ (k - 1) % 16 : Nat) : Int) := by
 obtain ⟨j, rfl⟩ : ∃ j, k = j + 1 := ⟨k - 1, by omega⟩
 rw [if_pos (by omega), if_pos (by omega), if_pos (by omega), if_pos (by omega), show (4 * (((j + 1 : Nat) : Int) - 1)).toNat = 4 * j by omega, show (4 * (((j + 1 : Nat) : Int) - 1) + 1).toNat = 4 * j + 1 by omega, show (4 * (((j + 1 : Nat) : Int) - 1) + 2).toNat = 4 * j + 2 by omega, show (4 * (((j + 1 : Nat) : Int) - 1) + 3).toNat = 4 * j + 3 by omega, Nat.add_sub_cancel,
  show (16 : Nat) ^ j = 2 ^ (4 * j) by rw [Nat.pow_mul], ← Qfv x (4 * j)]
 simp
theorem Qei (x j : Nat) : x / 16 ^ j = 16 * (x / 16 ^ (j + 1)) + x / 16 ^ j % 16 := by
 rw [Nat.pow_succ, ← Nat.div_div_eq_div_mul]; omega
theorem Qd6 (b r : Nat) {x k : Nat} (hk : k = (QM x - 1) / 4 + 1) : 1 % r = b ^ (x / 16 ^ k) % r := by
 rw [Nat.div_eq_of_lt, Nat.pow_zero]
 have h : x < 2 ^ QM x := Zh.1 (Nat.le_refl _)
 refine Nat.lt_of_lt_of_le h ?_
 rw [show (16 : Nat) ^ k = 2 ^ (4 * k) by rw [Nat.pow_mul]]
 exact Nat.pow_le_pow_right (by omega) (by omega)
theorem QiO (b r e i : Nat) : b ^ (2 ^ i * e) % r * (b ^ (2 ^ i * e) % r) % r = b ^ (2 ^ (i + 1) * e) % r := by
 rw [QaF]; congr 2; rw [Nat.pow_succ, Nat.mul_comm _ 2, Nat.mul_assoc]
theorem QgT {b r x k i : Nat} {d : Int} (hk : 1 ≤ k) (hi : i = 4) (hd : d = ((x / 16 ^ (k - 1) % 16 : Nat) : Int)) (h : ¬ (0 : Int) < d) : b ^ (2 ^ i * (x / 16 ^ k)) % r = b ^ (x / 16 ^ (k - 1)) % r := by
 obtain ⟨j, rfl⟩ : ∃ j, k = j + 1 := ⟨k - 1, by omega⟩
 rw [Nat.add_sub_cancel] at hd ⊢
 rw [Qei x j, hi]
 congr 2; omega
theorem QgS {b r x k i n : Nat} {d : Int} (hk : 1 ≤ k) (hi : i = 4) (hd : d = ((x / 16 ^ (k - 1) % 16 : Nat) : Int)) (hn : 16 ≤ n) : b ^ (2 ^ i * (x / 16 ^ k)) % r * (tab b r n).getD d.toNat 0 % r = b ^ (x / 16 ^ (k - 1)) % r := by
 obtain ⟨j, rfl⟩ : ∃ j, k = j + 1 := ⟨k - 1, by omega⟩
 rw [Nat.add_sub_cancel] at hd ⊢
 rw [U1 (by omega) (by omega), QiP, Qei x j, hi]
 congr 2; omega
theorem QgR {a r x k : Nat} (h : k = 0) : (a % r) ^ (x / 16 ^ k) % r = a ^ x % r := by
 rw [h, Nat.pow_zero, Nat.div_one, ← Nat.pow_mod]
end Go.Proofs.Ytgfomedobfaidaa
end
section
set_option linter.unusedVariables false
set_option linter.unusedSimpArgs false
namespace Go.Proofs.Ytgfomedobfaidaa
open Go.RowKit
theorem XO {lab : Lab} {w : World} (hv : Qm lab w) {r : Nat} {v0 : Value} (h0 : JN r lab w v0) {a : Nat} {v1 : Value} (h1 : Qj a lab w v1) {x : Nat} {v2 : Value} (h2 : Qj x lab w v2) (hr : 1 < r) (ha : nw a ≤ 1000) (hx : nw x ≤ 1000) (hn : nw r ≤ 1000) :
  Calls Try.prog 108 #[v0, v1, v2] w (fun e w' => ∃ v, e = .returned v ∧ (Qj (a ^ x % r)) lab w' v ∧ Below w.heap.size w w') := by
 obtain ⟨L0, h0L, ⟨zU0, z00⟩, hX⟩ := QX hv
 replace h0 := up z00 h0
 obtain ⟨b1, rfl⟩ := YC.shape h0
 replace h1 := up z00 h1
 obtain ⟨A2, c3, rfl⟩ := Qj.shape h1
 have z4 := Qj.cap h1
 replace h2 := up z00 h2
 obtain ⟨A5, c6, rfl⟩ := Qj.shape h2
 have z7 := Qj.cap h2
 have hB := Zt x
 have n1 : nw 1 = 1 := Qcy
 refine Qu Try.func108 rfl Try.ntmps108 (lB9 rfl) ?_
 refine rsr ?_
 refine Yo 5 [.slice A2 (nw a) c3] h0L rfl rfl fun b10 L8 w9 o11 s12 h13 => ?_
 refine Yo 6 [.slice A5 (nw x) c6] h13 rfl rfl fun b16 L14 w15 o17 s18 h19 => ?_
 refine QK 7 [.slice none 0 0] h19 Qo rfl fun b22 L20 w21 o23 s24 h25 => ?_
 refine nsr ?_
 refine sv (Qa.move rfl) ?_
 refine Q4 (V := Qj 1) JM h25 rfl (QW h25 (x := 1) (show 1 < 18446744073709551616 from by omega)) fun v26 w27 q28 s29 h30 => ?_
 obtain ⟨A31, c32, rfl⟩ := Qj.shape q28
 have z33 := Qj.cap q28
 have c34 := s24.trans s29
 have c35 := s18.trans c34
 have c36 := s12.trans c35
 have q37 := up c36 h0
 refine Q4 (V := Qj (1 % r)) Vu h30 rfl (ZR h30 q37 q28 (show 1 < r from by omega) (show nw 1 ≤ 999999 from by omega) (show nw r ≤ 1000000 from by omega)) fun v38 w39 q40 s41 h42 => ?_
 obtain ⟨A43, c44, rfl⟩ := Qj.shape q40
 have z45 := Qj.cap q40
 refine QK 8 [.slice none 0 0] h42 Qo rfl fun b48 L46 w47 o49 s50 h51 => ?_
 refine Q1 [.slice A43 (nw (1 % r)) c44] h51 o49 Qo rfl rfl rfl (lB9 rfl) rfl rfl fun w52 o53 s54 h55 => ?_
 refine Seq.next ?_
 refine Run.seq ?_
 refine rsr ?_
 have c57 := s50.trans s54
 have c58 := s41.trans c57
 have c59 := c34.trans c58
 have o56 := o17.up c59
 refine sv (Qb [.slice A5 (nw x) c6] o56 Qo rfl rfl) ?_
 have c60 := c36.trans c58
 have q61 := up c60 h2
 refine Q4 (V := Is (.bool (decide (x = 0)))) ZW h55 rfl (Js h55 q61) fun v62 w63 q64 s65 h66 => ?_
 have q64 := Is.out q64; subst q64
 refine Seq.next ?_
 rcases Decidable.em (x = 0) with hp1 | hp1
 ·refine Qc rfl (dT9 hp1) ?_
  refine rsr ?_
  have o67 := o53.up s65
  refine sv (Qb [.slice A43 (nw (1 % r)) c44] o67 Qo rfl rfl) ?_
  have c69 := c58.trans s65
  have c70 := s29.trans c69
  have o68 := o23.up c70
  refine Q1 [.slice A43 (nw (1 % r)) c44] h66 o68 Qo rfl rfl rfl (lB9 rfl) rfl rfl fun w71 o72 s73 h74 => ?_
  refine Seq.next ?_
  have c75 := s65.trans s73
  have c76 := c60.trans c75
  obtain ⟨⟨zU, zo⟩, zb⟩ := hX c76 (by decide)
  have c77 := c57.trans c75
  have q78 := up c77 q40
  refine Run.ret (Qr ?_)
  exact Qn Try.results108 ⟨_, rfl, Q6 [.slice A43 (nw (1 % r)) c44] o72 Qo rfl⟩ ⟨_, rfl, (Q2 (by rw [hp1, Nat.pow_zero]) (up zo q78)), zb⟩
 refine Qc rfl (dF9 hp1) ?_
 refine Qh (fun _ _ h => h) ?_
 refine rsr ?_
 refine sv (Qa.move rfl) ?_
 have c80 := c58.trans s65
 have c81 := c35.trans c80
 have o79 := o11.up c81
 refine sv (Qb [.slice A2 (nw a) c3] o79 Qo rfl rfl) ?_
 have q82 := up c80 q37
 have c83 := c60.trans s65
 have q84 := up c83 h1
 refine Q4 (V := Qj (a % r)) Vu h66 rfl (ZR h66 q82 q84 (show 1 < r from by omega) (show nw a ≤ 999999 from by omega) (show nw r ≤ 1000000 from by omega)) fun v85 w86 q87 s88 h89 => ?_
 obtain ⟨A90, c91, rfl⟩ := Qj.shape q87
 have z92 := Qj.cap q87
 have o93 := o79.up s88
 refine Q1 [.slice A90 (nw (a % r)) c91] h89 o93 Qo rfl rfl rfl (lB9 rfl) rfl rfl fun w94 o95 s96 h97 => ?_
 refine Seq.next ?_
 refine Run.seq ?_
 refine rsr ?_
 have c99 := s88.trans s96
 have c100 := s65.trans c99
 have o98 := o56.up c100
 refine sv (Qb [.slice A5 (nw x) c6] o98 Qo rfl rfl) ?_
 have q101 := up c100 q61
 refine Q4 (V := Is (i64 ((QM x : Nat) : Int))) X0 h97 rfl (Ya h97 q101 (show nw x ≤ 1000000 from by omega)) fun v102 w103 q104 s105 h106 => ?_
 have q104 := Is.out q104; subst q104
 refine sv (Qa.leq rfl rfl) ?_
 refine Seq.next ?_
 rcases Decidable.em ((((QM x : Nat) : Int) : Int) ≤ (24 : Int)) with hp2 | hp2
 ·refine Qc rfl (dT9 hp2) ?_
  refine rsr ?_
  have c108 := c100.trans s105
  have o107 := o53.up c108
  refine sv (Qb [.slice A43 (nw (1 % r)) c44] o107 Qo rfl rfl) ?_
  refine QK 9 [.slice none 0 0] h106 Qo rfl fun b111 L109 w110 o112 s113 h114 => ?_
  refine Q1 [.slice A43 (nw (1 % r)) c44] h114 o112 Qo rfl rfl rfl (lB9 rfl) rfl rfl fun w115 o116 s117 h118 => ?_
  refine Seq.next ?_
  refine Run.seq ?_
  refine rsr ?_
  have c120 := s113.trans s117
  have c121 := s105.trans c120
  have o119 := o98.up c121
  refine sv (Qb [.slice A5 (nw x) c6] o119 Qo rfl rfl) ?_
  have q122 := up c121 q101
  refine Q4 (V := Is (i64 ((QM x : Nat) : Int))) X0 h118 rfl (Ya h118 q122 (show nw x ≤ 1000000 from by omega)) fun v123 w124 q125 s126 h127 => ?_
  have q125 := Is.out q125; subst q125
  refine sv (Qa.sub rfl rfl (by omega)) ?_
  refine sv (Qa.assign rfl) ?_
  refine Seq.next ?_
  refine Run.block ?_
  have o128 := o116.up s126
  have c129 := c120.trans s126
  have c130 := c108.trans c129
  have c131 := c57.trans c130
  have q132 := up c131 q40
  refine Run.loop (fun m' l' w' => ∃ (k : Nat) (lab' : Lab) (ub9 : Value), m' = k ∧ l' = [(9, i64 (((k : Nat) : Int) - 1)), (0, .pointer (some ⟨b1, 0, none⟩)), (4, .pointer (some ⟨b10, 0, none⟩)), (5, .pointer (some ⟨b16, 0, none⟩)), (6, .pointer (some ⟨b22, 0, none⟩)), (7, .pointer (some ⟨b48, 0, none⟩)), (8, .pointer (some ⟨b111, 0, none⟩))] ∧ Qm lab' w' ∧ Stp [9] L109 w124 lab' w' ∧ Own lab' w' 9 b111 60 #[ub9] ∧ Qj ((a % r) ^ (x / 2 ^ k) % r) lab' w' (.agg #[ub9]) ∧ (k ≤ QM x)) ((QM x)) (l0 := [(9, i64 ((((QM x) : Nat) : Int) - 1)), (0, .pointer (some ⟨b1, 0, none⟩)), (4, .pointer (some ⟨b10, 0, none⟩)), (5, .pointer (some ⟨b16, 0, none⟩)), (6, .pointer (some ⟨b22, 0, none⟩)), (7, .pointer (some ⟨b48, 0, none⟩)), (8, .pointer (some ⟨b111, 0, none⟩))]) ⟨(congrArg (fun z => some (i64 z)) (show (((QM x : Nat) : Int) - 1 : Int) = (((QM x) : Nat) : Int) - 1 from by rfl)), rfl, rfl, rfl, rfl, rfl, rfl, trivial⟩ ⟨QM x, L109, (.slice A43 (nw (1 % r)) c44), rfl, rfl, h127, ((Stp.refl _ _).more (by simp)), o128, (Q2 (show (1 % r) = ((a % r) ^ (x / 2 ^ (QM x)) % r) from by exact Qfy _ _) q132), (by omega)⟩ ?_
  intro m133 l134 w135 H136
  obtain ⟨k, lab137, u140, hzm, rfl, hv138, s139, o141, q142, hk⟩ := H136
  replace hzm := hzm.symm; subst hzm
  obtain ⟨A143, c144, hz⟩ := Qj.shape q142; cases hz
  refine Run.seq ?_
  refine rsr ?_
  refine sv (Qa.move rfl) ?_
  refine sv (Qa.geq rfl rfl) ?_
  refine Seq.next ?_
  rcases Decidable.em ((0 : Int) ≤ (((k : Nat) : Int) - 1 : Int)) with hp3 | hp3
  rotate_left
  ·refine Qc rfl (dF9 hp3) ?_
   refine Qw (fun _ _ h => h) ?_
   refine rsr ?_
   refine sv (Qb [.slice A143 (nw ((a % r) ^ (x / 2 ^ k) % r)) c144] o141 Qo rfl rfl) ?_
   have c207 := s126.trans s139
   have c208 := c121.trans c207
   have c209 := c99.trans c208
   have c210 := c80.trans c209
   have c211 := s29.trans c210
   have o206 := o23.up c211
   refine Q1 [.slice A143 (nw ((a % r) ^ (x / 2 ^ k) % r)) c144] hv138 o206 Qo rfl rfl rfl (lB9 rfl) rfl rfl fun w212 o213 s214 h215 => ?_
   refine Seq.next ?_
   have c216 := c209.trans s214
   have c217 := c83.trans c216
   obtain ⟨⟨zU, zo⟩, zb⟩ := hX c217 (by decide)
   have q218 := up s214 q142
   refine Run.ret (Qr ?_)
   exact Qn Try.results108 ⟨_, rfl, Q6 [.slice A143 (nw ((a % r) ^ (x / 2 ^ k) % r)) c144] o213 Qo rfl⟩ ⟨_, rfl, (Q2 (by exact QiQ (by omega)) (up zo q218)), zb⟩
  refine Qc rfl (dT9 hp3) ?_
  refine Qh (fun _ _ h => h) ?_
  refine Run.seq ?_
  refine Run.block ?_
  refine rsr ?_
  refine sv (Qa.move rfl) ?_
  refine sv (Qb [.slice A143 (nw ((a % r) ^ (x / 2 ^ k) % r)) c144] o141 Qo rfl rfl) ?_
  refine sv (Qb [.slice A143 (nw ((a % r) ^ (x / 2 ^ k) % r)) c144] o141 Qo rfl rfl) ?_
  have c145 := s126.trans s139
  have c146 := c121.trans c145
  have c147 := c99.trans c146
  have q148 := up c147 q82
  refine Q4 (V := Qj (((a % r) ^ (x / 2 ^ k) % r) * ((a % r) ^ (x / 2 ^ k) % r) % r)) KJ hv138 rfl (ZY hv138 q148 q142 q142 (show 1 < r from by omega) (show nw ((a % r) ^ (x / 2 ^ k) % r) ≤ 1000 from by exact Nat.le_trans (QT (Nat.le_of_lt (Nat.mod_lt _ (by omega)))) hn) (show nw ((a % r) ^ (x / 2 ^ k) % r) ≤ 1000 from by exact Nat.le_trans (QT (Nat.le_of_lt (Nat.mod_lt _ (by omega)))) hn) (show nw r ≤ 1000 from by omega)) fun v149 w150 q151 s152 h153 => ?_
  obtain ⟨A154, c155, rfl⟩ := Qj.shape q151
  have z156 := Qj.cap q151
  have o157 := o141.up s152
  refine Q1 [.slice A154 (nw (((a % r) ^ (x / 2 ^ k) % r) * ((a % r) ^ (x / 2 ^ k) % r) % r)) c155] h153 o157 Qo rfl rfl rfl (lB9 rfl) rfl rfl fun w158 o159 s160 h161 => ?_
  refine nsr ?_
  have c163 := s152.trans s160
  have c164 := c145.trans c163
  have o162 := o119.up c164
  refine sv (Qb [.slice A5 (nw x) c6] o162 Qo rfl rfl) ?_
  refine sv (Qa.move rfl) ?_
  have q165 := up c164 q122
  refine Q4 (V := Is (i64 (if 0 ≤ (((k : Nat) : Int) - 1) then ((x / 2 ^ (((k : Nat) : Int) - 1).toNat % 2 : Nat) : Int) else 0))) Ur h161 rfl (Vr h161 (i := ((k : Nat) : Int) - 1) q165 (show (((k : Nat) : Int) - 1) < 9223372036854775808 from by omega)) fun v166 w167 q168 s169 h170 => ?_
  have q168 := Is.out q168; subst q168
  refine sv (Qa.eql rfl rfl) ?_
  refine Seq.next ?_
  rcases Decidable.em ((if 0 ≤ (((k : Nat) : Int) - 1) then ((x / 2 ^ (((k : Nat) : Int) - 1).toNat % 2 : Nat) : Int) else 0 : Int) = (1 : Int)) with hp4 | hp4
  rotate_left
  ·refine Qc rfl (dF9 hp4) ?_
   refine Qh (fun _ _ h => h) ?_
   refine Run.region ?_
   refine sv (Qa.move rfl) ?_
   refine sv (Qa.sub rfl rfl (by omega)) ?_
   refine sv (Qa.assign rfl) ?_
   have o199 := o159.up s169
   have c200 := s160.trans s169
   have q201 := up c200 q151
   have c202 := c163.trans s169
   have c203 := s139.trans c202
   exact Seq.nil (fun a204 h205 => ⟨_, by omega, _, h205.weaken (QF (l' := [(9, i64 ((((k - 1) : Nat) : Int) - 1)), (0, .pointer (some ⟨b1, 0, none⟩)), (4, .pointer (some ⟨b10, 0, none⟩)), (5, .pointer (some ⟨b16, 0, none⟩)), (6, .pointer (some ⟨b22, 0, none⟩)), (7, .pointer (some ⟨b48, 0, none⟩)), (8, .pointer (some ⟨b111, 0, none⟩))]) ⟨(congrArg (fun z => some (i64 z)) (show ((((k : Nat) : Int) - 1) - 1 : Int) = (((k - 1) : Nat) : Int) - 1 from by omega)), rfl, rfl, rfl, rfl, rfl, rfl, trivial⟩), ⟨k - 1, lab137, (.slice A154 (nw (((a % r) ^ (x / 2 ^ k) % r) * ((a % r) ^ (x / 2 ^ k) % r) % r)) c155), rfl, rfl, h170, (c203.more (by decide)), o199, (Q2 (show (((a % r) ^ (x / 2 ^ k) % r) * ((a % r) ^ (x / 2 ^ k) % r) % r) = ((a % r) ^ (x / 2 ^ (k - 1)) % r) from by exact QgV (by omega) (by assumption)) q201), (by omega)⟩⟩)
  refine Qc rfl (dT9 hp4) ?_
  refine Run.region ?_
  refine sv (Qa.move rfl) ?_
  have o171 := o159.up s169
  refine sv (Qb [.slice A154 (nw (((a % r) ^ (x / 2 ^ k) % r) * ((a % r) ^ (x / 2 ^ k) % r) % r)) c155] o171 Qo rfl rfl) ?_
  have c173 := c163.trans s169
  have c174 := c146.trans c173
  have o172 := o95.up c174
  refine sv (Qb [.slice A90 (nw (a % r)) c91] o172 Qo rfl rfl) ?_
  have q175 := up c173 q148
  have c176 := s160.trans s169
  have q177 := up c176 q151
  have c178 := s96.trans c174
  have q179 := up c178 q87
  refine Q4 (V := Qj ((((a % r) ^ (x / 2 ^ k) % r) * ((a % r) ^ (x / 2 ^ k) % r) % r) * (a % r) % r)) KJ h170 rfl (ZY h170 q175 q177 q179 (show 1 < r from by omega) (show nw (((a % r) ^ (x / 2 ^ k) % r) * ((a % r) ^ (x / 2 ^ k) % r) % r) ≤ 1000 from by exact Nat.le_trans (QT (Nat.le_of_lt (Nat.mod_lt _ (by omega)))) hn) (show nw (a % r) ≤ 1000 from by exact Nat.le_trans (QT (Nat.le_of_lt (Nat.mod_lt _ (by omega)))) hn) (show nw r ≤ 1000 from by omega)) fun v180 w181 q182 s183 h184 => ?_
  obtain ⟨A185, c186, rfl⟩ := Qj.shape q182
  have z187 := Qj.cap q182
  have o188 := o171.up s183
  refine Q1 [.slice A185 (nw ((((a % r) ^ (x / 2 ^ k) % r) * ((a % r) ^ (x / 2 ^ k) % r) % r) * (a % r) % r)) c186] h184 o188 Qo rfl rfl rfl (lB9 rfl) rfl rfl fun w189 o190 s191 h192 => ?_
  refine QG (fun _ _ h => h) ?_
  refine Run.region ?_
  refine sv (Qa.move rfl) ?_
  refine sv (Qa.sub rfl rfl (by omega)) ?_
  refine sv (Qa.assign rfl) ?_
  have q193 := up s191 q182
  have c194 := s183.trans s191
  have c195 := c173.trans c194
  have c196 := s139.trans c195
  exact Seq.nil (fun a197 h198 => ⟨_, by omega, _, h198.weaken (QF (l' := [(9, i64 ((((k - 1) : Nat) : Int) - 1)), (0, .pointer (some ⟨b1, 0, none⟩)), (4, .pointer (some ⟨b10, 0, none⟩)), (5, .pointer (some ⟨b16, 0, none⟩)), (6, .pointer (some ⟨b22, 0, none⟩)), (7, .pointer (some ⟨b48, 0, none⟩)), (8, .pointer (some ⟨b111, 0, none⟩))]) ⟨(congrArg (fun z => some (i64 z)) (show ((((k : Nat) : Int) - 1) - 1 : Int) = (((k - 1) : Nat) : Int) - 1 from by omega)), rfl, rfl, rfl, rfl, rfl, rfl, trivial⟩), ⟨k - 1, lab137, (.slice A185 (nw ((((a % r) ^ (x / 2 ^ k) % r) * ((a % r) ^ (x / 2 ^ k) % r) % r) * (a % r) % r)) c186), rfl, rfl, h192, (c196.more (by decide)), o190, (Q2 (show ((((a % r) ^ (x / 2 ^ k) % r) * ((a % r) ^ (x / 2 ^ k) % r) % r) * (a % r) % r) = ((a % r) ^ (x / 2 ^ (k - 1)) % r) from by exact QgU (by omega) (by assumption)) q193), (by omega)⟩⟩)
 refine Qc rfl (dF9 hp2) ?_
 refine Qh (fun _ _ h => h) ?_
 refine rsr ?_
 refine QK 11 [.slice none 0 0, .slice none 0 0, .slice none 0 0, .slice none 0 0, .slice none 0 0, .slice none 0 0, .slice none 0 0, .slice none 0 0, .slice none 0 0, .slice none 0 0, .slice none 0 0, .slice none 0 0, .slice none 0 0, .slice none 0 0, .slice none 0 0, .slice none 0 0] h106 QkS rfl fun b221 L219 w220 o222 s223 h224 => ?_
 have n225 := QdJ 16 o222 rfl
 refine nsr ?_
 have c227 := s105.trans s223
 have c228 := c100.trans c227
 have o226 := o53.up c228
 refine sv (Qb [.slice A43 (nw (1 % r)) c44] o226 Qo rfl rfl) ?_
 refine sv (Q3 0 (n := 16) (e := 60) (by kernel_rfl) Qo rfl rfl (by omega) (by omega)) ?_
 have c233 := c57.trans c228
 have q234 := up c233 q40
 refine Qed (j := 0) (x := (1 % r)) h224 n225 Qo rfl rfl q234 (by simp) rfl fun w229 o230 s231 h232 => ?_
 refine Seq.next ?_
 refine Run.seq ?_
 refine rsr ?_
 refine sv (Qa.assign rfl) ?_
 refine Seq.next ?_
 refine Run.block ?_
 refine Run.loop (fun m' l' w' => ∃ (i : Nat) (lab' : Lab), m' = 16 - i ∧ l' = [(11, i64 ((i : Nat) : Int)), (0, .pointer (some ⟨b1, 0, none⟩)), (4, .pointer (some ⟨b10, 0, none⟩)), (5, .pointer (some ⟨b16, 0, none⟩)), (6, .pointer (some ⟨b22, 0, none⟩)), (7, .pointer (some ⟨b48, 0, none⟩)), (10, .pointer (some ⟨b221, 0, none⟩))] ∧ Qm lab' w' ∧ Stp [11] L219 w229 lab' w' ∧ Qho lab' w' 11 b221 211 (tab (a % r) r i) ∧ (1 ≤ i ∧ i ≤ 16)) (16 - 1) (l0 := [(11, i64 ((1 : Nat) : Int)), (0, .pointer (some ⟨b1, 0, none⟩)), (4, .pointer (some ⟨b10, 0, none⟩)), (5, .pointer (some ⟨b16, 0, none⟩)), (6, .pointer (some ⟨b22, 0, none⟩)), (7, .pointer (some ⟨b48, 0, none⟩)), (10, .pointer (some ⟨b221, 0, none⟩))]) ⟨(congrArg (fun z => some (i64 z)) (show (1 : Int) = ((1 : Nat) : Int) from by rfl)), rfl, rfl, rfl, rfl, rfl, rfl, trivial⟩ ⟨1, L219, rfl, rfl, h232, ((Stp.refl _ _).more (by simp)), ((show List.set (List.replicate 16 0) 0 (1 % r) = tab (a % r) r 1 from by exact QhW _ _) ▸ o230), (by omega)⟩ ?_
 intro m235 l236 w237 H238
 obtain ⟨i, lab239, hzm, rfl, hv240, s241, o242, hi⟩ := H238
 replace hzm := hzm.symm; subst hzm
 refine Run.seq ?_
 refine rsr ?_
 refine sv (Qa.move rfl) ?_
 refine sv (Qa.lss rfl rfl) ?_
 refine Seq.next ?_
 rcases Decidable.em ((((i : Nat) : Int) : Int) < (16 : Int)) with hp3 | hp3
 ·refine Qc rfl (dT9 hp3) ?_
  refine Qh (fun _ _ h => h) ?_
  refine Run.seq ?_
  refine Run.block ?_
  refine Run.open 9 (Φ := [.ex (i64 ((i : Nat) : Int)), .ex (.pointer (some ⟨b1, 0, none⟩)), .ex (i64 ((i : Nat) : Int)), .ex (i64 (((i : Nat) : Int) - 1)), .ex (.pointer (some ⟨b221, 0 + (i - 1) * 1, none⟩)), .v (Qj (List.getD (tab (a % r) r i) (i - 1) 0)), .ex (.agg #[.slice A90 (nw (a % r)) c91]), .v (Qj ((List.getD (tab (a % r) r i) (i - 1) 0) * (a % r) % r)), .ex (.pointer (some ⟨b221, 0 + i * 1, none⟩))]) [(7, 61), (8, 62)] Jg (by kernel_rfl) rfl hv240 ⟨(oX [] rfl rfl rfl fun _ _ => Qa.move rfl), (oX [] rfl rfl rfl fun _ _ => Qa.move rfl), (oX [] rfl rfl rfl fun _ _ => Qa.move rfl), (oX [(2, 56)] rfl rfl rfl fun _ _ => Qa.sub rfl rfl (by omega)), (oX [(3, 57)] rfl rfl rfl fun _ _ => Q3 (i - 1) (n := 16) (e := 60) (by kernel_rfl) Qo rfl rfl (by omega) (by omega)), ?_, ?_, ?_, (oX [(0, 54)] rfl rfl rfl fun _ _ => Q3 i (n := 16) (e := 60) (by kernel_rfl) Qo rfl rfl (by omega) (by omega)), trivial⟩ (fun L304 w305 h306 s307 v308 q309 => ?_)
  ·refine oP [(4, 58)] rfl rfl fun L263 w264 h265 s266 => ?_
   have o267 := o242.up s266
   obtain ⟨cs268, o269, e270⟩ := o267
   obtain ⟨u271, q272, q273⟩ := J7.get e270 (i - 1) _ (QaD (by (rw [Vi]; omega)))
   obtain ⟨A274, c275, hz⟩ := Qj.shape q273; cases hz
   exact ⟨_, X2 o269 Qo rfl q272, q273⟩
  ·refine oP [] rfl rfl fun L276 w277 h278 s279 => ?_
   have c281 := s241.trans s279
   have c282 := s231.trans c281
   have c283 := c227.trans c282
   have o280 := o95.up c283
   exact ⟨_, Qb [.slice A90 (nw (a % r)) c91] o280 Qo rfl rfl, rfl⟩
  ·refine oC [(1, 55), (5, 59), (6, 60)] rfl rfl KJ fun L284 w285 h286 s287 v288 q289 => ?_
   obtain ⟨A290, c291, rfl⟩ := Qj.shape q289
   have z292 := Qj.cap q289
   have c293 := s241.trans s287
   have c294 := s231.trans c293
   have c295 := c227.trans c294
   have c296 := c99.trans c295
   have q297 := up c296 q82
   have c298 := s96.trans c295
   have q299 := up c298 q87
   exact ⟨_, rfl, (ZY h286 q297 q289 q299 (show 1 < r from by omega) (show nw (List.getD (tab (a % r) r i) (i - 1) 0) ≤ 1000 from by (rw [U1 (by omega) (by omega)]; exact Nat.le_trans (QT (Nat.le_of_lt (Nat.mod_lt _ (by omega)))) hn)) (show nw (a % r) ≤ 1000 from by exact Nat.le_trans (QT (Nat.le_of_lt (Nat.mod_lt _ (by omega)))) hn) (show nw r ≤ 1000 from by omega))⟩
  obtain ⟨A310, c311, rfl⟩ := Qj.shape q309
  have z312 := Qj.cap q309
  have o313 := o242.up s307
  refine Qed (j := i) (x := ((List.getD (tab (a % r) r i) (i - 1) 0) * (a % r) % r)) h306 o313 Qo rfl rfl q309 (by (rw [Vi]; omega)) rfl fun w314 o315 s316 h317 => ?_
  refine QG (fun _ _ h => h) ?_
  refine Run.region ?_
  refine sv (Qa.move rfl) ?_
  refine sv (Qa.add rfl rfl (by omega)) ?_
  refine sv (Qa.assign rfl) ?_
  have c318 := s307.trans s316
  have c319 := s241.trans c318
  exact Seq.nil (fun a320 h321 => ⟨_, by omega, _, h321.weaken (QF (l' := [(11, i64 (((i + 1) : Nat) : Int)), (0, .pointer (some ⟨b1, 0, none⟩)), (4, .pointer (some ⟨b10, 0, none⟩)), (5, .pointer (some ⟨b16, 0, none⟩)), (6, .pointer (some ⟨b22, 0, none⟩)), (7, .pointer (some ⟨b48, 0, none⟩)), (10, .pointer (some ⟨b221, 0, none⟩))]) ⟨(congrArg (fun z => some (i64 z)) (show (((i : Nat) : Int) + 1 : Int) = (((i + 1) : Nat) : Int) from by rfl)), rfl, rfl, rfl, rfl, rfl, rfl, trivial⟩), ⟨i + 1, L304, rfl, rfl, h317, (c319.more (by decide)), ((show List.set (tab (a % r) r i) i ((List.getD (tab (a % r) r i) (i - 1) 0) * (a % r) % r) = tab (a % r) r (i + 1) from by exact Qgo (by omega) (by omega)) ▸ o315), (by omega)⟩⟩)
 refine Qc rfl (dF9 hp3) ?_
 refine Qw (fun _ _ h => h) ?_
 refine rsr ?_
 have c323 := s231.trans s241
 have o322 := o226.up c323
 refine sv (Qb [.slice A43 (nw (1 % r)) c44] o322 Qo rfl rfl) ?_
 refine QK 13 [.slice none 0 0] hv240 Qo rfl fun b326 L324 w325 o327 s328 h329 => ?_
 refine Q1 [.slice A43 (nw (1 % r)) c44] h329 o327 Qo rfl rfl rfl (lB9 rfl) rfl rfl fun w330 o331 s332 h333 => ?_
 refine Seq.next ?_
 refine Run.seq ?_
 refine rsr ?_
 have c335 := s328.trans s332
 have c336 := c323.trans c335
 have c337 := c227.trans c336
 have o334 := o98.up c337
 refine sv (Qb [.slice A5 (nw x) c6] o334 Qo rfl rfl) ?_
 have q338 := up c337 q101
 refine Q4 (V := Is (i64 ((QM x : Nat) : Int))) X0 h333 rfl (Ya h333 q338 (show nw x ≤ 1000000 from by omega)) fun v339 w340 q341 s342 h343 => ?_
 have q341 := Is.out q341; subst q341
 refine sv (Qa.sub rfl rfl (by omega)) ?_
 refine sv (Qa.quo rfl rfl (by omega) (by omega) (by omega)) ?_
 refine sv (Qa.assign rfl) ?_
 refine Seq.next ?_
 refine Run.block ?_
 have o344 := o331.up s342
 have c345 := c336.trans s342
 have q346 := up c345 q234
 refine Run.loop (fun m' l' w' => ∃ (c : Nat) (lab' : Lab) (ub13 : Value), m' = c ∧ l' = [(13, i64 (((c : Nat) : Int) - 1)), (0, .pointer (some ⟨b1, 0, none⟩)), (5, .pointer (some ⟨b16, 0, none⟩)), (6, .pointer (some ⟨b22, 0, none⟩)), (10, .pointer (some ⟨b221, 0, none⟩)), (12, .pointer (some ⟨b326, 0, none⟩))] ∧ Qm lab' w' ∧ Stp [13] L324 w340 lab' w' ∧ Own lab' w' 13 b326 60 #[ub13] ∧ Qj ((a % r) ^ (x / 16 ^ c) % r) lab' w' (.agg #[ub13]) ∧ (c ≤ QM x + 1)) (((QM x - 1) / 4 + 1)) (l0 := [(13, i64 (((((QM x - 1) / 4 + 1) : Nat) : Int) - 1)), (0, .pointer (some ⟨b1, 0, none⟩)), (5, .pointer (some ⟨b16, 0, none⟩)), (6, .pointer (some ⟨b22, 0, none⟩)), (10, .pointer (some ⟨b221, 0, none⟩)), (12, .pointer (some ⟨b326, 0, none⟩))]) ⟨(congrArg (fun z => some (i64 z)) (show ((((QM x : Nat) : Int) - 1) / 4 : Int) = ((((QM x - 1) / 4 + 1) : Nat) : Int) - 1 from by omega)), rfl, rfl, rfl, rfl, rfl, trivial⟩ ⟨(QM x - 1) / 4 + 1, L324, (.slice A43 (nw (1 % r)) c44), rfl, rfl, h343, ((Stp.refl _ _).more (by simp)), o344, (Q2 (show (1 % r) = ((a % r) ^ (x / 16 ^ ((QM x - 1) / 4 + 1)) % r) from by exact Qd6 _ _ rfl) q346), (by omega)⟩ ?_
 intro m347 l348 w349 H350
 obtain ⟨c, lab351, u354, hzm, rfl, hv352, s353, o355, q356, hk⟩ := H350
 replace hzm := hzm.symm; subst hzm
 obtain ⟨A357, c358, hz⟩ := Qj.shape q356; cases hz
 refine Run.seq ?_
 refine rsr ?_
 refine sv (Qa.move rfl) ?_
 refine sv (Qa.geq rfl rfl) ?_
 refine Seq.next ?_
 rcases Decidable.em ((0 : Int) ≤ (((c : Nat) : Int) - 1 : Int)) with hp4 | hp4
 rotate_left
 ·refine Qc rfl (dF9 hp4) ?_
  refine Qw (fun _ _ h => h) ?_
  refine rsr ?_
  refine sv (Qb [.slice A357 (nw ((a % r) ^ (x / 16 ^ c) % r)) c358] o355 Qo rfl rfl) ?_
  have c623 := s342.trans s353
  have c624 := c337.trans c623
  have c625 := c99.trans c624
  have c626 := c80.trans c625
  have c627 := s29.trans c626
  have o622 := o23.up c627
  refine Q1 [.slice A357 (nw ((a % r) ^ (x / 16 ^ c) % r)) c358] hv352 o622 Qo rfl rfl rfl (lB9 rfl) rfl rfl fun w628 o629 s630 h631 => ?_
  refine Seq.next ?_
  have c632 := c625.trans s630
  have c633 := c83.trans c632
  obtain ⟨⟨zU, zo⟩, zb⟩ := hX c633 (by decide)
  have q634 := up s630 q356
  refine Run.ret ?_
  exact Qn Try.results108 ⟨_, rfl, Q6 [.slice A357 (nw ((a % r) ^ (x / 16 ^ c) % r)) c358] o629 Qo rfl⟩ ⟨_, rfl, (Q2 (by exact QgR (by omega)) (up zo q634)), zb⟩
 refine Qc rfl (dT9 hp4) ?_
 refine Qh (fun _ _ h => h) ?_
 refine Run.seq ?_
 refine Run.block ?_
 refine Run.seq ?_
 refine rsr ?_
 refine sv (Qa.move rfl) ?_
 refine Seq.next ?_
 refine Run.block ?_
 refine Run.loop (fun m' l' w' => ∃ (j : Nat) (lab' : Lab) (ub13 : Value), m' = 4 - j ∧ l' = [(72, i64 ((j : Nat) : Int)), (0, .pointer (some ⟨b1, 0, none⟩)), (5, .pointer (some ⟨b16, 0, none⟩)), (6, .pointer (some ⟨b22, 0, none⟩)), (10, .pointer (some ⟨b221, 0, none⟩)), (12, .pointer (some ⟨b326, 0, none⟩)), (13, i64 (((c : Nat) : Int) - 1))] ∧ Qm lab' w' ∧ Stp [13] lab351 w349 lab' w' ∧ Own lab' w' 13 b326 60 #[ub13] ∧ Qj ((a % r) ^ (2 ^ j * (x / 16 ^ c)) % r) lab' w' (.agg #[ub13]) ∧ (j ≤ 4)) (4 - 0) (l0 := [(72, i64 ((0 : Nat) : Int)), (0, .pointer (some ⟨b1, 0, none⟩)), (5, .pointer (some ⟨b16, 0, none⟩)), (6, .pointer (some ⟨b22, 0, none⟩)), (10, .pointer (some ⟨b221, 0, none⟩)), (12, .pointer (some ⟨b326, 0, none⟩)), (13, i64 (((c : Nat) : Int) - 1))]) ⟨(congrArg (fun z => some (i64 z)) (show (0 : Int) = ((0 : Nat) : Int) from by rfl)), rfl, rfl, rfl, rfl, rfl, rfl, trivial⟩ ⟨0, lab351, (.slice A357 (nw ((a % r) ^ (x / 16 ^ c) % r)) c358), rfl, rfl, hv352, ((Stp.refl _ _).more (by simp)), o355, (Q2 (show ((a % r) ^ (x / 16 ^ c) % r) = ((a % r) ^ (2 ^ 0 * (x / 16 ^ c)) % r) from by (rw [Nat.pow_zero, Nat.one_mul])) q356), (by omega)⟩ ?_
 intro m359 l360 w361 H362
 obtain ⟨j, lab363, u366, hzm, rfl, hv364, s365, o367, q368, hj⟩ := H362
 replace hzm := hzm.symm; subst hzm
 obtain ⟨A369, c370, hz⟩ := Qj.shape q368; cases hz
 refine rsr ?_
 refine sv (Qa.lss rfl rfl) ?_
 refine Seq.next ?_
 refine Run.seq ?_
 rcases Decidable.em ((((j : Nat) : Int) : Int) < (4 : Int)) with hp5 | hp5
 ·refine Qc rfl (dT9 hp5) ?_
  refine Qh (fun _ _ h => h) ?_
  refine Run.seq ?_
  refine Run.block ?_
  refine Run.region ?_
  refine sv (Qa.move rfl) ?_
  refine sv (Qb [.slice A369 (nw ((a % r) ^ (2 ^ j * (x / 16 ^ c)) % r)) c370] o367 Qo rfl rfl) ?_
  refine sv (Qb [.slice A369 (nw ((a % r) ^ (2 ^ j * (x / 16 ^ c)) % r)) c370] o367 Qo rfl rfl) ?_
  have c371 := s353.trans s365
  have c372 := s342.trans c371
  have c373 := c337.trans c372
  have c374 := c99.trans c373
  have q375 := up c374 q82
  refine Q4 (V := Qj (((a % r) ^ (2 ^ j * (x / 16 ^ c)) % r) * ((a % r) ^ (2 ^ j * (x / 16 ^ c)) % r) % r)) KJ hv364 rfl (ZY hv364 q375 q368 q368 (show 1 < r from by omega) (show nw ((a % r) ^ (2 ^ j * (x / 16 ^ c)) % r) ≤ 1000 from by exact Nat.le_trans (QT (Nat.le_of_lt (Nat.mod_lt _ (by omega)))) hn) (show nw ((a % r) ^ (2 ^ j * (x / 16 ^ c)) % r) ≤ 1000 from by exact Nat.le_trans (QT (Nat.le_of_lt (Nat.mod_lt _ (by omega)))) hn) (show nw r ≤ 1000 from by omega)) fun v376 w377 q378 s379 h380 => ?_
  obtain ⟨A381, c382, rfl⟩ := Qj.shape q378
  have z383 := Qj.cap q378
  have o384 := o367.up s379
  refine Q1 [.slice A381 (nw (((a % r) ^ (2 ^ j * (x / 16 ^ c)) % r) * ((a % r) ^ (2 ^ j * (x / 16 ^ c)) % r) % r)) c382] h380 o384 Qo rfl rfl rfl (lB9 rfl) rfl rfl fun w385 o386 s387 h388 => ?_
  refine QG (fun _ _ h => h) ?_
  refine Run.region ?_
  refine sv (Qa.add rfl rfl (by omega)) ?_
  refine sv (Qa.move rfl) ?_
  have q389 := up s387 q378
  have c390 := s379.trans s387
  have c391 := s365.trans c390
  exact Seq.nil (fun a392 h393 => ⟨_, by omega, _, h393.weaken (QF (l' := [(72, i64 (((j + 1) : Nat) : Int)), (0, .pointer (some ⟨b1, 0, none⟩)), (5, .pointer (some ⟨b16, 0, none⟩)), (6, .pointer (some ⟨b22, 0, none⟩)), (10, .pointer (some ⟨b221, 0, none⟩)), (12, .pointer (some ⟨b326, 0, none⟩)), (13, i64 (((c : Nat) : Int) - 1))]) ⟨(congrArg (fun z => some (i64 z)) (show (((j : Nat) : Int) + 1 : Int) = (((j + 1) : Nat) : Int) from by rfl)), rfl, rfl, rfl, rfl, rfl, rfl, trivial⟩), ⟨j + 1, lab363, (.slice A381 (nw (((a % r) ^ (2 ^ j * (x / 16 ^ c)) % r) * ((a % r) ^ (2 ^ j * (x / 16 ^ c)) % r) % r)) c382), rfl, rfl, h388, (c391.more (by decide)), o386, (Q2 (show (((a % r) ^ (2 ^ j * (x / 16 ^ c)) % r) * ((a % r) ^ (2 ^ j * (x / 16 ^ c)) % r) % r) = ((a % r) ^ (2 ^ (j + 1) * (x / 16 ^ c)) % r) from by exact QiO _ _ _ _) q389), (by omega)⟩⟩)
 refine Qc rfl (dF9 hp5) ?_
 refine Qw (fun _ _ h => h) ?_
 refine Run.seq ?_
 refine Run.open 26 (Φ := [.ex (.agg #[.slice A5 (nw x) c6]), .ex (i64 (((c : Nat) : Int) - 1)), .ex (i64 (4 * (((c : Nat) : Int) - 1))), .v (Is (i64 (if 0 ≤ (4 * (((c : Nat) : Int) - 1)) then ((x / 2 ^ (4 * (((c : Nat) : Int) - 1)).toNat % 2 : Nat) : Int) else 0))), .ex (.agg #[.slice A5 (nw x) c6]), .ex (i64 (((c : Nat) : Int) - 1)), .ex (i64 (4 * (((c : Nat) : Int) - 1))), .ex (i64 ((4 * (((c : Nat) : Int) - 1)) + 1)), .v (Is (i64 (if 0 ≤ ((4 * (((c : Nat) : Int) - 1)) + 1) then ((x / 2 ^ ((4 * (((c : Nat) : Int) - 1)) + 1).toNat % 2 : Nat) : Int) else 0))), .ex (i64 (2 * (if 0 ≤ ((4 * (((c : Nat) : Int) - 1)) + 1) then ((x / 2 ^ ((4 * (((c : Nat) : Int) - 1)) + 1).toNat % 2 : Nat) : Int) else 0))), .ex (i64 ((if 0 ≤ (4 * (((c : Nat) : Int) - 1)) then ((x / 2 ^ (4 * (((c : Nat) : Int) - 1)).toNat % 2 : Nat) : Int) else 0) + (2 * (if 0 ≤ ((4 * (((c : Nat) : Int) - 1)) + 1) then ((x / 2 ^ ((4 * (((c : Nat) : Int) - 1)) + 1).toNat % 2 : Nat) : Int) else 0)))), .ex (.agg #[.slice A5 (nw x) c6]), .ex (i64 (((c : Nat) : Int) - 1)), .ex (i64 (4 * (((c : Nat) : Int) - 1))), .ex (i64 ((4 * (((c : Nat) : Int) - 1)) + 2)), .v (Is (i64 (if 0 ≤ ((4 * (((c : Nat) : Int) - 1)) + 2) then ((x / 2 ^ ((4 * (((c : Nat) : Int) - 1)) + 2).toNat % 2 : Nat) : Int) else 0))), .ex (i64 (4 * (if 0 ≤ ((4 * (((c : Nat) : Int) - 1)) + 2) then ((x / 2 ^ ((4 * (((c : Nat) : Int) - 1)) + 2).toNat % 2 : Nat) : Int) else 0))), .ex (i64 (((if 0 ≤ (4 * (((c : Nat) : Int) - 1)) then ((x / 2 ^ (4 * (((c : Nat) : Int) - 1)).toNat % 2 : Nat) : Int) else 0) + (2 * (if 0 ≤ ((4 * (((c : Nat) : Int) - 1)) + 1) then ((x / 2 ^ ((4 * (((c : Nat) : Int) - 1)) + 1).toNat % 2 : Nat) : Int) else 0))) + (4 * (if 0 ≤ ((4 * (((c : Nat) : Int) - 1)) + 2) then ((x / 2 ^ ((4 * (((c : Nat) : Int) - 1)) + 2).toNat % 2 : Nat) : Int) else 0)))), .ex (.agg #[.slice A5 (nw x) c6]), .ex (i64 (((c : Nat) : Int) - 1)), .ex (i64 (4 * (((c : Nat) : Int) - 1))), .ex (i64 ((4 * (((c : Nat) : Int) - 1)) + 3)), .v (Is (i64 (if 0 ≤ ((4 * (((c : Nat) : Int) - 1)) + 3) then ((x / 2 ^ ((4 * (((c : Nat) : Int) - 1)) + 3).toNat % 2 : Nat) : Int) else 0))), .ex (i64 (8 * (if 0 ≤ ((4 * (((c : Nat) : Int) - 1)) + 3) then ((x / 2 ^ ((4 * (((c : Nat) : Int) - 1)) + 3).toNat % 2 : Nat) : Int) else 0))), .ex (i64 ((((if 0 ≤ (4 * (((c : Nat) : Int) - 1)) then ((x / 2 ^ (4 * (((c : Nat) : Int) - 1)).toNat % 2 : Nat) : Int) else 0) + (2 * (if 0 ≤ ((4 * (((c : Nat) : Int) - 1)) + 1) then ((x / 2 ^ ((4 * (((c : Nat) : Int) - 1)) + 1).toNat % 2 : Nat) : Int) else 0))) + (4 * (if 0 ≤ ((4 * (((c : Nat) : Int) - 1)) + 2) then ((x / 2 ^ ((4 * (((c : Nat) : Int) - 1)) + 2).toNat % 2 : Nat) : Int) else 0))) + (8 * (if 0 ≤ ((4 * (((c : Nat) : Int) - 1)) + 3) then ((x / 2 ^ ((4 * (((c : Nat) : Int) - 1)) + 3).toNat % 2 : Nat) : Int) else 0)))), .ex (i64 ((((if 0 ≤ (4 * (((c : Nat) : Int) - 1)) then ((x / 2 ^ (4 * (((c : Nat) : Int) - 1)).toNat % 2 : Nat) : Int) else 0) + (2 * (if 0 ≤ ((4 * (((c : Nat) : Int) - 1)) + 1) then ((x / 2 ^ ((4 * (((c : Nat) : Int) - 1)) + 1).toNat % 2 : Nat) : Int) else 0))) + (4 * (if 0 ≤ ((4 * (((c : Nat) : Int) - 1)) + 2) then ((x / 2 ^ ((4 * (((c : Nat) : Int) - 1)) + 2).toNat % 2 : Nat) : Int) else 0))) + (8 * (if 0 ≤ ((4 * (((c : Nat) : Int) - 1)) + 3) then ((x / 2 ^ ((4 * (((c : Nat) : Int) - 1)) + 3).toNat % 2 : Nat) : Int) else 0))))]) [(25, 14)] Jg (by kernel_rfl) rfl hv364 ⟨?_, (oX [] rfl rfl rfl fun _ _ => Qa.move rfl), (oX [(1, 80)] rfl rfl rfl fun _ _ => Qa.mul rfl rfl (by omega)), ?_, ?_, (oX [] rfl rfl rfl fun _ _ => Qa.move rfl), (oX [(5, 84)] rfl rfl rfl fun _ _ => Qa.mul rfl rfl (by omega)), (oX [(6, 85)] rfl rfl rfl fun _ _ => Qa.add rfl rfl (by omega)), ?_, ?_, ?_, ?_, (oX [] rfl rfl rfl fun _ _ => Qa.move rfl), (oX [(12, 91)] rfl rfl rfl fun _ _ => Qa.mul rfl rfl (by omega)), (oX [(13, 92)] rfl rfl rfl fun _ _ => Qa.add rfl rfl (by omega)), ?_, ?_, (oX [(10, 89), (16, 95)] rfl rfl rfl fun _ _ => Qa.add rfl rfl (by omega)), ?_, (oX [] rfl rfl rfl fun _ _ => Qa.move rfl), (oX [(19, 98)] rfl rfl rfl fun _ _ => Qa.mul rfl rfl (by omega)), (oX [(20, 99)] rfl rfl rfl fun _ _ => Qa.add rfl rfl (by omega)), ?_, ?_, (oX [(17, 96), (23, 102)] rfl rfl rfl fun _ _ => Qa.add rfl rfl (by omega)), (oX [(24, 103)] rfl rfl rfl fun _ _ => Qa.assign rfl), trivial⟩ (fun L538 w539 h540 s541 => ?_)
 ·refine oP [] rfl rfl fun L394 w395 h396 s397 => ?_
  have c399 := s365.trans s397
  have c400 := s353.trans c399
  have c401 := s342.trans c400
  have o398 := o334.up c401
  exact ⟨_, Qb [.slice A5 (nw x) c6] o398 Qo rfl rfl, rfl⟩
 ·refine oC [(0, 79), (2, 81)] rfl rfl Ur fun L410 w411 h412 s413 => ?_
  have c414 := s365.trans s413
  have c415 := s353.trans c414
  have c416 := s342.trans c415
  have q417 := up c416 q338
  exact ⟨_, rfl, (Vr h412 (i := 4 * (((c : Nat) : Int) - 1)) q417 (show (4 * (((c : Nat) : Int) - 1)) < 9223372036854775808 from by omega))⟩
 ·refine oP [] rfl rfl fun L418 w419 h420 s421 => ?_
  have c423 := s365.trans s421
  have c424 := s353.trans c423
  have c425 := s342.trans c424
  have o422 := o334.up c425
  exact ⟨_, Qb [.slice A5 (nw x) c6] o422 Qo rfl rfl, rfl⟩
 ·refine oC [(4, 83), (7, 86)] rfl rfl Ur fun L438 w439 h440 s441 => ?_
  have c442 := s365.trans s441
  have c443 := s353.trans c442
  have c444 := s342.trans c443
  have q445 := up c444 q338
  exact ⟨_, rfl, (Vr h440 (i := (4 * (((c : Nat) : Int) - 1)) + 1) q445 (show ((4 * (((c : Nat) : Int) - 1)) + 1) < 9223372036854775808 from by omega))⟩
 ·refine oP [(8, 87)] rfl rfl fun L446 w447 h448 s449 v450 q451 => ?_
  have q451 := Is.out q451; subst q451
  exact ⟨_, Qa.mul rfl rfl (by omega), rfl⟩
 ·refine oP [(3, 82), (9, 88)] rfl rfl fun L452 w453 h454 s455 v456 q457 => ?_
  have q457 := Is.out q457; subst q457
  exact ⟨_, Qa.add rfl rfl (by omega), rfl⟩
 ·refine oP [] rfl rfl fun L458 w459 h460 s461 => ?_
  have c463 := s365.trans s461
  have c464 := s353.trans c463
  have c465 := s342.trans c464
  have o462 := o334.up c465
  exact ⟨_, Qb [.slice A5 (nw x) c6] o462 Qo rfl rfl, rfl⟩
 ·refine oC [(11, 90), (14, 93)] rfl rfl Ur fun L478 w479 h480 s481 => ?_
  have c482 := s365.trans s481
  have c483 := s353.trans c482
  have c484 := s342.trans c483
  have q485 := up c484 q338
  exact ⟨_, rfl, (Vr h480 (i := (4 * (((c : Nat) : Int) - 1)) + 2) q485 (show ((4 * (((c : Nat) : Int) - 1)) + 2) < 9223372036854775808 from by omega))⟩
 ·refine oP [(15, 94)] rfl rfl fun L486 w487 h488 s489 v490 q491 => ?_
  have q491 := Is.out q491; subst q491
  exact ⟨_, Qa.mul rfl rfl (by omega), rfl⟩
 ·refine oP [] rfl rfl fun L496 w497 h498 s499 => ?_
  have c501 := s365.trans s499
  have c502 := s353.trans c501
  have c503 := s342.trans c502
  have o500 := o334.up c503
  exact ⟨_, Qb [.slice A5 (nw x) c6] o500 Qo rfl rfl, rfl⟩
 ·refine oC [(18, 97), (21, 100)] rfl rfl Ur fun L516 w517 h518 s519 => ?_
  have c520 := s365.trans s519
  have c521 := s353.trans c520
  have c522 := s342.trans c521
  have q523 := up c522 q338
  exact ⟨_, rfl, (Vr h518 (i := (4 * (((c : Nat) : Int) - 1)) + 3) q523 (show ((4 * (((c : Nat) : Int) - 1)) + 3) < 9223372036854775808 from by omega))⟩
 ·refine oP [(22, 101)] rfl rfl fun L524 w525 h526 s527 v528 q529 => ?_
  have q529 := Is.out q529; subst q529
  exact ⟨_, Qa.mul rfl rfl (by omega), rfl⟩
 refine nsr ?_
 refine sv (Qa.move rfl) ?_
 refine sv (Qa.gtr rfl rfl) ?_
 refine Seq.next ?_
 rcases Decidable.em ((0 : Int) < ((((if 0 ≤ (4 * (((c : Nat) : Int) - 1)) then ((x / 2 ^ (4 * (((c : Nat) : Int) - 1)).toNat % 2 : Nat) : Int) else 0) + (2 * (if 0 ≤ ((4 * (((c : Nat) : Int) - 1)) + 1) then ((x / 2 ^ ((4 * (((c : Nat) : Int) - 1)) + 1).toNat % 2 : Nat) : Int) else 0))) + (4 * (if 0 ≤ ((4 * (((c : Nat) : Int) - 1)) + 2) then ((x / 2 ^ ((4 * (((c : Nat) : Int) - 1)) + 2).toNat % 2 : Nat) : Int) else 0))) + (8 * (if 0 ≤ ((4 * (((c : Nat) : Int) - 1)) + 3) then ((x / 2 ^ ((4 * (((c : Nat) : Int) - 1)) + 3).toNat % 2 : Nat) : Int) else 0)) : Int)) with hp6 | hp6
 rotate_left
 ·refine Qc rfl (dF9 hp6) ?_
  refine Qh (fun _ _ h => h) ?_
  refine Run.region ?_
  refine sv (Qa.move rfl) ?_
  refine sv (Qa.sub rfl rfl (by omega)) ?_
  refine sv (Qa.assign rfl) ?_
  have o616 := o367.up s541
  have q617 := up s541 q368
  have c618 := s365.trans s541
  have c619 := s353.trans c618
  exact Seq.nil (fun a620 h621 => ⟨_, by omega, _, h621.weaken (QF (l' := [(13, i64 ((((c - 1) : Nat) : Int) - 1)), (0, .pointer (some ⟨b1, 0, none⟩)), (5, .pointer (some ⟨b16, 0, none⟩)), (6, .pointer (some ⟨b22, 0, none⟩)), (10, .pointer (some ⟨b221, 0, none⟩)), (12, .pointer (some ⟨b326, 0, none⟩))]) ⟨(congrArg (fun z => some (i64 z)) (show ((((c : Nat) : Int) - 1) - 1 : Int) = (((c - 1) : Nat) : Int) - 1 from by omega)), rfl, rfl, rfl, rfl, rfl, trivial⟩), ⟨c - 1, L538, (.slice A369 (nw ((a % r) ^ (2 ^ j * (x / 16 ^ c)) % r)) c370), rfl, rfl, h540, (c619.more (by decide)), o616, (Q2 (show ((a % r) ^ (2 ^ j * (x / 16 ^ c)) % r) = ((a % r) ^ (x / 16 ^ (c - 1)) % r) from by exact QgT (by omega) (by omega) (QaG (by omega)) (by assumption)) q617), (by omega)⟩⟩)
 refine Qc rfl (dT9 hp6) ?_
 refine Run.open 6 (Φ := [.ex (.pointer (some ⟨b1, 0, none⟩)), .ex (.agg #[.slice A369 (nw ((a % r) ^ (2 ^ j * (x / 16 ^ c)) % r)) c370]), .ex (i64 ((((if 0 ≤ (4 * (((c : Nat) : Int) - 1)) then ((x / 2 ^ (4 * (((c : Nat) : Int) - 1)).toNat % 2 : Nat) : Int) else 0) + (2 * (if 0 ≤ ((4 * (((c : Nat) : Int) - 1)) + 1) then ((x / 2 ^ ((4 * (((c : Nat) : Int) - 1)) + 1).toNat % 2 : Nat) : Int) else 0))) + (4 * (if 0 ≤ ((4 * (((c : Nat) : Int) - 1)) + 2) then ((x / 2 ^ ((4 * (((c : Nat) : Int) - 1)) + 2).toNat % 2 : Nat) : Int) else 0))) + (8 * (if 0 ≤ ((4 * (((c : Nat) : Int) - 1)) + 3) then ((x / 2 ^ ((4 * (((c : Nat) : Int) - 1)) + 3).toNat % 2 : Nat) : Int) else 0)))), .ex (.pointer (some ⟨b221, 0 + (((((if 0 ≤ (4 * (((c : Nat) : Int) - 1)) then ((x / 2 ^ (4 * (((c : Nat) : Int) - 1)).toNat % 2 : Nat) : Int) else 0) + (2 * (if 0 ≤ ((4 * (((c : Nat) : Int) - 1)) + 1) then ((x / 2 ^ ((4 * (((c : Nat) : Int) - 1)) + 1).toNat % 2 : Nat) : Int) else 0))) + (4 * (if 0 ≤ ((4 * (((c : Nat) : Int) - 1)) + 2) then ((x / 2 ^ ((4 * (((c : Nat) : Int) - 1)) + 2).toNat % 2 : Nat) : Int) else 0))) + (8 * (if 0 ≤ ((4 * (((c : Nat) : Int) - 1)) + 3) then ((x / 2 ^ ((4 * (((c : Nat) : Int) - 1)) + 3).toNat % 2 : Nat) : Int) else 0))).toNat) * 1, none⟩)), .v (Qj (List.getD (tab (a % r) r i) (((((if 0 ≤ (4 * (((c : Nat) : Int) - 1)) then ((x / 2 ^ (4 * (((c : Nat) : Int) - 1)).toNat % 2 : Nat) : Int) else 0) + (2 * (if 0 ≤ ((4 * (((c : Nat) : Int) - 1)) + 1) then ((x / 2 ^ ((4 * (((c : Nat) : Int) - 1)) + 1).toNat % 2 : Nat) : Int) else 0))) + (4 * (if 0 ≤ ((4 * (((c : Nat) : Int) - 1)) + 2) then ((x / 2 ^ ((4 * (((c : Nat) : Int) - 1)) + 2).toNat % 2 : Nat) : Int) else 0))) + (8 * (if 0 ≤ ((4 * (((c : Nat) : Int) - 1)) + 3) then ((x / 2 ^ ((4 * (((c : Nat) : Int) - 1)) + 3).toNat % 2 : Nat) : Int) else 0))).toNat) 0)), .v (Qj (((a % r) ^ (2 ^ j * (x / 16 ^ c)) % r) * (List.getD (tab (a % r) r i) (((((if 0 ≤ (4 * (((c : Nat) : Int) - 1)) then ((x / 2 ^ (4 * (((c : Nat) : Int) - 1)).toNat % 2 : Nat) : Int) else 0) + (2 * (if 0 ≤ ((4 * (((c : Nat) : Int) - 1)) + 1) then ((x / 2 ^ ((4 * (((c : Nat) : Int) - 1)) + 1).toNat % 2 : Nat) : Int) else 0))) + (4 * (if 0 ≤ ((4 * (((c : Nat) : Int) - 1)) + 2) then ((x / 2 ^ ((4 * (((c : Nat) : Int) - 1)) + 2).toNat % 2 : Nat) : Int) else 0))) + (8 * (if 0 ≤ ((4 * (((c : Nat) : Int) - 1)) + 3) then ((x / 2 ^ ((4 * (((c : Nat) : Int) - 1)) + 3).toNat % 2 : Nat) : Int) else 0))).toNat) 0) % r))]) [(5, 111)] Jg (by kernel_rfl) rfl h540 ⟨(oX [] rfl rfl rfl fun _ _ => Qa.move rfl), ?_, (oX [] rfl rfl rfl fun _ _ => Qa.move rfl), (oX [(2, 108)] rfl rfl rfl fun _ _ => Q3 (((((if 0 ≤ (4 * (((c : Nat) : Int) - 1)) then ((x / 2 ^ (4 * (((c : Nat) : Int) - 1)).toNat % 2 : Nat) : Int) else 0) + (2 * (if 0 ≤ ((4 * (((c : Nat) : Int) - 1)) + 1) then ((x / 2 ^ ((4 * (((c : Nat) : Int) - 1)) + 1).toNat % 2 : Nat) : Int) else 0))) + (4 * (if 0 ≤ ((4 * (((c : Nat) : Int) - 1)) + 2) then ((x / 2 ^ ((4 * (((c : Nat) : Int) - 1)) + 2).toNat % 2 : Nat) : Int) else 0))) + (8 * (if 0 ≤ ((4 * (((c : Nat) : Int) - 1)) + 3) then ((x / 2 ^ ((4 * (((c : Nat) : Int) - 1)) + 3).toNat % 2 : Nat) : Int) else 0))).toNat) (n := 16) (e := 60) (by kernel_rfl) Qo rfl rfl (by omega) (by omega)), ?_, ?_, trivial⟩ (fun L595 w596 h597 s598 v599 q600 => ?_)
 ·refine oP [] rfl rfl fun L546 w547 h548 s549 => ?_
  have c551 := s541.trans s549
  have o550 := o367.up c551
  exact ⟨_, Qb [.slice A369 (nw ((a % r) ^ (2 ^ j * (x / 16 ^ c)) % r)) c370] o550 Qo rfl rfl, rfl⟩
 ·refine oP [(3, 109)] rfl rfl fun L560 w561 h562 s563 => ?_
  have c565 := s541.trans s563
  have c566 := s365.trans c565
  have c567 := s353.trans c566
  have c568 := s342.trans c567
  have c569 := c335.trans c568
  have o564 := o242.up c569
  obtain ⟨cs570, o571, e572⟩ := o564
  obtain ⟨u573, q574, q575⟩ := J7.get e572 (((((if 0 ≤ (4 * (((c : Nat) : Int) - 1)) then ((x / 2 ^ (4 * (((c : Nat) : Int) - 1)).toNat % 2 : Nat) : Int) else 0) + (2 * (if 0 ≤ ((4 * (((c : Nat) : Int) - 1)) + 1) then ((x / 2 ^ ((4 * (((c : Nat) : Int) - 1)) + 1).toNat % 2 : Nat) : Int) else 0))) + (4 * (if 0 ≤ ((4 * (((c : Nat) : Int) - 1)) + 2) then ((x / 2 ^ ((4 * (((c : Nat) : Int) - 1)) + 2).toNat % 2 : Nat) : Int) else 0))) + (8 * (if 0 ≤ ((4 * (((c : Nat) : Int) - 1)) + 3) then ((x / 2 ^ ((4 * (((c : Nat) : Int) - 1)) + 3).toNat % 2 : Nat) : Int) else 0))).toNat) _ (QaD (by (rw [Vi]; omega)))
  obtain ⟨A576, c577, hz⟩ := Qj.shape q575; cases hz
  exact ⟨_, X2 o571 Qo rfl q574, q575⟩
 ·refine oC [(0, 106), (1, 107), (4, 110)] rfl rfl KJ fun L578 w579 h580 s581 v582 q583 => ?_
  obtain ⟨A584, c585, rfl⟩ := Qj.shape q583
  have z586 := Qj.cap q583
  have c587 := s541.trans s581
  have c588 := s365.trans c587
  have c589 := s353.trans c588
  have c590 := s342.trans c589
  have c591 := c337.trans c590
  have c592 := c99.trans c591
  have q593 := up c592 q82
  have q594 := up c587 q368
  exact ⟨_, rfl, (ZY h580 q593 q594 q583 (show 1 < r from by omega) (show nw ((a % r) ^ (2 ^ j * (x / 16 ^ c)) % r) ≤ 1000 from by exact Nat.le_trans (QT (Nat.le_of_lt (Nat.mod_lt _ (by omega)))) hn) (show nw (List.getD (tab (a % r) r i) (((((if 0 ≤ (4 * (((c : Nat) : Int) - 1)) then ((x / 2 ^ (4 * (((c : Nat) : Int) - 1)).toNat % 2 : Nat) : Int) else 0) + (2 * (if 0 ≤ ((4 * (((c : Nat) : Int) - 1)) + 1) then ((x / 2 ^ ((4 * (((c : Nat) : Int) - 1)) + 1).toNat % 2 : Nat) : Int) else 0))) + (4 * (if 0 ≤ ((4 * (((c : Nat) : Int) - 1)) + 2) then ((x / 2 ^ ((4 * (((c : Nat) : Int) - 1)) + 2).toNat % 2 : Nat) : Int) else 0))) + (8 * (if 0 ≤ ((4 * (((c : Nat) : Int) - 1)) + 3) then ((x / 2 ^ ((4 * (((c : Nat) : Int) - 1)) + 3).toNat % 2 : Nat) : Int) else 0))).toNat) 0) ≤ 1000 from by (rw [U1 (by omega) (by omega)]; exact Nat.le_trans (QT (Nat.le_of_lt (Nat.mod_lt _ (by omega)))) hn)) (show nw r ≤ 1000 from by omega))⟩
 obtain ⟨A601, c602, rfl⟩ := Qj.shape q600
 have z603 := Qj.cap q600
 have c605 := s541.trans s598
 have o604 := o367.up c605
 refine Q1 [.slice A601 (nw (((a % r) ^ (2 ^ j * (x / 16 ^ c)) % r) * (List.getD (tab (a % r) r i) (((((if 0 ≤ (4 * (((c : Nat) : Int) - 1)) then ((x / 2 ^ (4 * (((c : Nat) : Int) - 1)).toNat % 2 : Nat) : Int) else 0) + (2 * (if 0 ≤ ((4 * (((c : Nat) : Int) - 1)) + 1) then ((x / 2 ^ ((4 * (((c : Nat) : Int) - 1)) + 1).toNat % 2 : Nat) : Int) else 0))) + (4 * (if 0 ≤ ((4 * (((c : Nat) : Int) - 1)) + 2) then ((x / 2 ^ ((4 * (((c : Nat) : Int) - 1)) + 2).toNat % 2 : Nat) : Int) else 0))) + (8 * (if 0 ≤ ((4 * (((c : Nat) : Int) - 1)) + 3) then ((x / 2 ^ ((4 * (((c : Nat) : Int) - 1)) + 3).toNat % 2 : Nat) : Int) else 0))).toNat) 0) % r)) c602] h597 o604 Qo rfl rfl rfl (lB9 rfl) rfl rfl fun w606 o607 s608 h609 => ?_
 refine QG (fun _ _ h => h) ?_
 refine Run.region ?_
 refine sv (Qa.move rfl) ?_
 refine sv (Qa.sub rfl rfl (by omega)) ?_
 refine sv (Qa.assign rfl) ?_
 have q610 := up s608 q600
 have c611 := c605.trans s608
 have c612 := s365.trans c611
 have c613 := s353.trans c612
 exact Seq.nil (fun a614 h615 => ⟨_, by omega, _, h615.weaken (QF (l' := [(13, i64 ((((c - 1) : Nat) : Int) - 1)), (0, .pointer (some ⟨b1, 0, none⟩)), (5, .pointer (some ⟨b16, 0, none⟩)), (6, .pointer (some ⟨b22, 0, none⟩)), (10, .pointer (some ⟨b221, 0, none⟩)), (12, .pointer (some ⟨b326, 0, none⟩))]) ⟨(congrArg (fun z => some (i64 z)) (show ((((c : Nat) : Int) - 1) - 1 : Int) = (((c - 1) : Nat) : Int) - 1 from by omega)), rfl, rfl, rfl, rfl, rfl, trivial⟩), ⟨c - 1, L595, (.slice A601 (nw (((a % r) ^ (2 ^ j * (x / 16 ^ c)) % r) * (List.getD (tab (a % r) r i) (((((if 0 ≤ (4 * (((c : Nat) : Int) - 1)) then ((x / 2 ^ (4 * (((c : Nat) : Int) - 1)).toNat % 2 : Nat) : Int) else 0) + (2 * (if 0 ≤ ((4 * (((c : Nat) : Int) - 1)) + 1) then ((x / 2 ^ ((4 * (((c : Nat) : Int) - 1)) + 1).toNat % 2 : Nat) : Int) else 0))) + (4 * (if 0 ≤ ((4 * (((c : Nat) : Int) - 1)) + 2) then ((x / 2 ^ ((4 * (((c : Nat) : Int) - 1)) + 2).toNat % 2 : Nat) : Int) else 0))) + (8 * (if 0 ≤ ((4 * (((c : Nat) : Int) - 1)) + 3) then ((x / 2 ^ ((4 * (((c : Nat) : Int) - 1)) + 3).toNat % 2 : Nat) : Int) else 0))).toNat) 0) % r)) c602), rfl, rfl, h609, (c613.more (by decide)), o607, (Q2 (show (((a % r) ^ (2 ^ j * (x / 16 ^ c)) % r) * (List.getD (tab (a % r) r i) (((((if 0 ≤ (4 * (((c : Nat) : Int) - 1)) then ((x / 2 ^ (4 * (((c : Nat) : Int) - 1)).toNat % 2 : Nat) : Int) else 0) + (2 * (if 0 ≤ ((4 * (((c : Nat) : Int) - 1)) + 1) then ((x / 2 ^ ((4 * (((c : Nat) : Int) - 1)) + 1).toNat % 2 : Nat) : Int) else 0))) + (4 * (if 0 ≤ ((4 * (((c : Nat) : Int) - 1)) + 2) then ((x / 2 ^ ((4 * (((c : Nat) : Int) - 1)) + 2).toNat % 2 : Nat) : Int) else 0))) + (8 * (if 0 ≤ ((4 * (((c : Nat) : Int) - 1)) + 3) then ((x / 2 ^ ((4 * (((c : Nat) : Int) - 1)) + 3).toNat % 2 : Nat) : Int) else 0))).toNat) 0) % r) = ((a % r) ^ (x / 16 ^ (c - 1)) % r) from by exact QgS (by omega) (by omega) (QaG (by omega)) (by omega)) q610), (by omega)⟩⟩)
end Go.Proofs.Ytgfomedobfaidaa
end
section
set_option linter.unusedVariables false
set_option linter.unusedSimpArgs false
namespace Go.Proofs.Ytgfomedobfaidaa
open Go.RowKit
theorem Qcr {a p q : Nat} (h : a ^ q % p = 1 % p) (n : Nat) : (a ^ q) ^ n % p = 1 % p := by rw [Nat.pow_mod, h, ← Nat.pow_mod, Nat.one_pow]
theorem Qe6 {a p q : Nat} (h : a ^ q % p = 1 % p) (k : Nat) : a ^ k % p = a ^ (k % q) % p := by
 have e : a ^ k = (a ^ q) ^ (k / q) * a ^ (k % q) := by rw [← Nat.pow_mul, ← Nat.pow_add, Nat.div_add_mod]
 rw [e, Nat.mul_mod, Qcr h, ← Nat.mul_mod, Nat.one_mul]
theorem Qcq {a p q k j : Nat} (h : a ^ q % p = 1 % p) (e : k % q = j % q) : a ^ k % p = a ^ j % p := by rw [Qe6 h k, Qe6 h j, e]
theorem Qe7 {a p q : Nat} (h : a ^ q % p = 1 % p) (k : Nat) : (a ^ k) ^ q % p = 1 % p := by rw [← Nat.pow_mul, Nat.mul_comm, Nat.pow_mul]; exact Qcr h k
theorem Qdn {a p q : Nat} (h : a ^ q % p = 1 % p) (k : Nat) : (a ^ k % p) ^ q % p = 1 % p := by rw [← Nat.pow_mod]; exact Qe7 h k
def pp (i : Nat) : List Nat → List Nat → Nat
 | b :: bs, e :: es => b ^ (e / 2 ^ i) * pp i bs es
 | _, _ => 1
def ppm (i : Nat) : Nat → List Nat → List Nat → Nat
 | 0, b :: bs, e :: es => b ^ (2 * (e / 2 ^ (i + 1))) * ppm i 0 bs es
 | k + 1, b :: bs, e :: es => b ^ (e / 2 ^ i) * ppm i k bs es
 | _, _, _ => 1
theorem Qco (i : Nat) : ∀ (bs es : List Nat), ppm i 0 bs es = pp (i + 1) bs es * pp (i + 1) bs es
 | [], es => by simp [ppm, pp]
 | b :: bs, [] => by simp [ppm, pp]
 | b :: bs, e :: es => by
  simp only [ppm, pp]
  rw [Qco i bs es, Nat.two_mul, Nat.pow_add]
  simp only [Nat.mul_assoc, Nat.mul_left_comm, Nat.mul_comm]
theorem Qcp (i : Nat) : ∀ (k : Nat) (bs es : List Nat), bs.length = es.length → es.length ≤ k → ppm i k bs es = pp i bs es
 | k, [], [], _, _ => by cases k <;> simp [ppm, pp]
 | 0, b :: bs, e :: es, _, h => by simp at h
 | k + 1, b :: bs, e :: es, h, hk => by
  simp only [ppm, pp]
  rw [Qcp i k bs es (by simpa using h) (by simpa using hk)]
 | k, [], e :: es, h, _ => by simp at h
 | k, b :: bs, [], h, _ => by simp at h
theorem UE (i : Nat) : ∀ (k : Nat) (bs es : List Nat), bs.length = es.length → k < es.length → ppm i (k + 1) bs es = ppm i k bs es * bs.getD k 0 ^ (es.getD k 0 / 2 ^ i % 2)
 | k, [], es, h, hk => by simp at h; omega
 | k, b :: bs, [], h, hk => by simp at hk
 | 0, b :: bs, e :: es, h, hk => by
  simp only [ppm, List.getD_cons_zero]
  have hh := Qll e i
  conv => lhs; rw [hh, Nat.pow_add]
  simp only [Nat.mul_assoc, Nat.mul_left_comm, Nat.mul_comm]
 | k + 1, b :: bs, e :: es, h, hk => by
  simp only [ppm, List.getD_cons_succ]
  rw [show ppm i (k + 1) bs es = _ from UE i k bs es (by simpa using h) (by simpa using hk), Nat.mul_assoc]
theorem Qe4 {n : Nat} : ∀ (bs es : List Nat), (∀ e ∈ es, QM e ≤ n) → pp n bs es = 1
 | [], es, _ => by simp [pp]
 | b :: bs, [], _ => by simp [pp]
 | b :: bs, e :: es, h => by
  simp only [pp]
  rw [Qe4 bs es (fun x hx => h x (List.mem_cons_of_mem _ hx)), Nat.div_eq_of_lt (Zh.1 (h e (by simp))), Nat.pow_zero]
def YM (bs es : List Nat) : Nat := pp 0 bs es
theorem Qe5 (a b x y : Nat) : YM [a, b] [x, y] = a ^ x * b ^ y := by simp [YM, pp]
theorem QeR {p i k : Nat} {bs es : List Nat} {x : Nat} (hl : bs.length = es.length) (hk : k < es.length) (hx : x = ppm i k bs es % p) (hb : es.getD k 0 / 2 ^ i % 2 = 1) : x * bs.getD k 0 % p = ppm i (k + 1) bs es % p := by
 rw [UE i k bs es hl hk, hb, Nat.pow_one, hx, Nat.mod_mul_mod]
theorem Qdw {p i k : Nat} {bs es : List Nat} {x : Nat} (hl : bs.length = es.length) (hk : k < es.length) (hx : x = ppm i k bs es % p) (hb : es.getD k 0 / 2 ^ i % 2 ≠ 1) : x = ppm i (k + 1) bs es % p := by
 rw [UE i k bs es hl hk, show es.getD k 0 / 2 ^ i % 2 = 0 by omega, Nat.pow_zero, Nat.mul_one, hx]
end Go.Proofs.Ytgfomedobfaidaa
end
section
set_option linter.unusedVariables false
set_option linter.unusedSimpArgs false
namespace Go.Proofs.Ytgfomedobfaidaa
open Go.RowKit
instance (x : PlainD) : Per (Xl x) := ⟨QbV x⟩
instance (x : EntryD) : Per (Xn x) := ⟨QbZ x⟩
instance (x : RentryD) : Per (Y1 x) := ⟨QaU x⟩
theorem Yh.mk {lab : Lab} {w : World} {L : List (List Bool)} {A : Option Addr} {c : Nat} {vs : List Value} (n : Nat) (hn : L.length = n) (hc : n ≤ c) (hc' : c ≤ 9223372036854775807) (hr : QY lab w A vs) (hvs : List.length vs = n) (h : ∀ (i : Nat) (bs : List Bool), L[i]? = some bs → ∃ u, vs[i]? = some u ∧ Zn bs lab w u) : Yh L lab w (.slice A n c) := by
 subst hn
 exact ⟨A, c, vs, rfl, hc, hc', hvs, hr, h⟩
theorem Jf.mk {lab : Lab} {w : World} {L : List Nat} {A : Option Addr} {c : Nat} {vs : List Value} (n : Nat) (hn : L.length = n) (hc : n ≤ c) (hc' : c ≤ 9223372036854775807) (hr : QY lab w A vs) (hvs : List.length vs = n) (h : ∀ (i : Nat) (x : Nat), L[i]? = some x → ∃ u, vs[i]? = some u ∧ Qj x lab w (.agg #[u])) : Jf L lab w (.slice A n c) := by
 subst hn
 exact ⟨A, c, vs, rfl, hc, hc', hvs, hr, h⟩

end Go.Proofs.Ytgfomedobfaidaa
end
section
set_option linter.unusedVariables false
set_option linter.unusedSimpArgs false
namespace Go.Proofs.Ytgfomedobfaidaa
open Go.RowKit
section
variable {ds : List Deferred} {P : Program} {N : Nat} {ops : Array Oper} {Q : Exit → Act → World → Prop} {l : List (Nat × Value)} {rest : List Oper} {w : World} {lab : Lab} {ty : TypeId} {pos : String} {af : Array Edge}
theorem QaB {xs : List UInt32} {tl : List Value} {j : Nat} (h : j < xs.length) : (List.map u32 xs ++ tl).toArray[0 + j * 1]? = some (u32 (xs.getD j 0)) := by
 rw [Nat.zero_add, Nat.mul_one, List.getElem?_toArray, List.getElem?_append_left (by simpa using h)]
 exact Jo u32 xs 0 h
theorem QdH {t t' : TypeId} {x : Operand} {by_ d b n : Nat} {z : Option Value} {xs : List UInt32} {tl : List Value} (h : Own lab w d b t' (List.map u32 xs ++ tl).toArray) (ht : QU P t = some (true, n, z, by_)) (hx : ev l x = some (.pointer (some ⟨b, 0, none⟩))) (hn : xs.length = n) : Qa P l (.load t x) ty w (.agg (List.map u32 xs).toArray) w := by
 refine Qb (List.map u32 xs) h (by rw [ht, List.length_map, hn]) hx ?_
 show List.take (List.map u32 xs).length (List.drop 0 (List.map u32 xs ++ tl)) = _
 rw [List.drop_zero, List.take_left]
theorem QlA (xs : List UInt32) : (Value.agg (List.map u32 xs).toArray).cells.toList.all (·.oneCell') = true := by
 show (List.map u32 xs).all _ = true
 rw [List.all_eq_true]
 intro u hu
 obtain ⟨x, _, rfl⟩ := List.mem_map.1 hu
 rfl
theorem VS {k b j : Nat} {t t' : TypeId} {xo y : Operand} {v : UInt32} {by_ : Nat} {z : Option Value} {ag : Bool} {xs : List UInt32} (tl : List Value) (hv : Qm lab w) (hO : Own lab w k b t' (List.map u32 xs ++ tl).toArray) (ht : QU P t = some (ag, 1, z, by_)) (hx : ev l xo = some (.pointer (some ⟨b, 0 + j * 1, none⟩))) (hy : ev l y = some (u32 v)) (hj : j < xs.length)
  (h : ∀ w', Own lab w' k b t' (List.map u32 (xs.set j v) ++ tl).toArray → Stp [k] lab w lab w' → Qm lab w' → Seq ds P N ops Q l rest w') : Seq ds P N ops Q l (⟨none, .store t xo y, ty, pos, af, none⟩ :: rest) w := by
 refine Seq.store (List.map u32 (xs.set j v) ++ tl) hv hO ht hx hy rfl (by simp; omega) (by show [u32 v].all _ = true; simp; rfl) ?_ h
 show (List.take (0 + j * 1) (List.map u32 xs ++ tl) ++ [u32 v] ++ List.drop (0 + j * 1 + 1) (List.map u32 xs ++ tl)).toArray = _
 rw [Nat.zero_add, Nat.mul_one, List.take_append_of_le_length (by simp; omega), List.drop_append_of_le_length (by simp; omega), ← List.append_assoc]
 congr 2
 have := KY u32 xs j v hj
 exact congrArg Array.toList this
theorem QhZ {k b n : Nat} {t t' : TypeId} {xo y : Operand} {by_ : Nat} {z : Option Value} {ag : Bool} {xs ys : List UInt32} (tl : List Value) (hv : Qm lab w) (hO : Own lab w k b t' (List.map u32 xs ++ tl).toArray) (ht : QU P t = some (ag, n, z, by_)) (hx : ev l xo = some (.pointer (some ⟨b, 0, none⟩))) (hy : ev l y = some (.agg (List.map u32 ys).toArray)) (hn : ys.length = n) (hn' : xs.length = n)
  (h : ∀ w', Own lab w' k b t' (List.map u32 ys ++ tl).toArray → Stp [k] lab w lab w' → Qm lab w' → Seq ds P N ops Q l rest w') : Seq ds P N ops Q l (⟨none, .store t xo y, ty, pos, af, none⟩ :: rest) w := by
 refine Seq.store (List.map u32 ys ++ tl) hv hO ht hx hy (by show (List.map u32 ys).toArray.size = n; simp [hn]) (by simp; omega) (QlA ys) ?_ h
 show (List.take 0 (List.map u32 xs ++ tl) ++ List.map u32 ys ++ List.drop (0 + n) (List.map u32 xs ++ tl)).toArray = _
 rw [List.take_zero, List.nil_append, Nat.zero_add, List.drop_append_of_le_length (by simp; omega), List.drop_of_length_le (by simp; omega), List.nil_append]
theorem K9 {t e : TypeId} {x y : Operand} {k : IntKind} {i : Int} {n by_ : Nat} {z : Option Value} {xs : List UInt32} (j : Nat) (ht : P.underlying t = some (.array n e)) (he : QU P e = some (false, 1, z, by_)) (hx : ev l x = some (.agg (List.map u32 xs).toArray)) (hy : ev l y = some (.int k i)) (hij : i = (j : Int)) (hj : j < n) (hn : xs.length = n) :
  Qa P l (.index t x y) ty w (u32 (xs.getD j 0)) w := by
 intro ρ hρ d pos af g
 subst hij
 have h0 : (0 : Int) ≤ (j : Int) ∧ (j : Int) < (n : Int) := by omega
 have hm : (List.map u32 xs).toArray[j * 1]? = some (u32 (xs.getD j 0)) := by rw [Nat.mul_one, List.getElem?_toArray]; exact Jo u32 xs 0 (by omega)
 simp only [execOp, Instr.index, hρ _ _ hx, hρ _ _ hy, asIntOf, Sem.run_bind, Sem.run_pure, Result.andThen_ok, run_underlying ht, h0, and_self, if_true, Int.toNat_natCast, QZ he, part, Vn he, Bool.false_eq_true, if_false, hm]
theorem Qcd {t e : TypeId} {x y : Operand} {k : IntKind} {i : Int} {b n by_ : Nat} {z : Option Value} {ag : Bool} (j : Nat) (ht : P.underlying t = some (.array n e)) (he : QU P e = some (ag, 1, z, by_)) (hx : ev l x = some (.pointer (some ⟨b, 0, none⟩))) (hy : ev l y = some (.int k i)) (hij : i = (j : Int)) (hj : j < n) :
  Qa P l (.slice t x (some y) none none) ty w (.slice (some ⟨b, j, none⟩) (n - j) (n - j)) w := by
 intro ρ hρ d pos af g
 subst hij
 have h0 : (0 : Int) ≤ (j : Int) ∧ (j : Int) ≤ (n : Int) := by omega
 simp only [execOp, Instr.sliceAt, Instr.sureAddr, Instr.sliceBounds, Instr.sliceBound, Option.map_some, Option.map_none, hρ _ _ hx, hρ _ _ hy, asIntOf, Sem.run_bind, Sem.run_pure, Result.andThen_ok, run_underlying ht, h0, and_self, if_true, Int.toNat_natCast, QZ he, JB, Nat.mul_one, Nat.zero_add, if_neg (show ¬ n = j by omega), Option.isSome_none, Bool.false_eq_true, if_false]
theorem KO {t e : TypeId} {x y : Operand} {k : IntKind} {i : Int} {b n by_ : Nat} {z : Option Value} {ag : Bool} (j : Nat) (ht : P.underlying t = some (.array n e)) (he : QU P e = some (ag, 1, z, by_)) (hx : ev l x = some (.pointer (some ⟨b, 0, none⟩))) (hy : ev l y = some (.int k i)) (hij : i = (j : Int)) (hj : j ≤ n) (hn : 0 < n) :
  Qa P l (.slice t x none (some y) none) ty w (.slice (some ⟨b, 0, none⟩) j n) w := by
 intro ρ hρ d pos af g
 subst hij
 have h0 : (0 : Int) ≤ (j : Int) ∧ (j : Int) ≤ (n : Int) := by omega
 simp only [execOp, Instr.sliceAt, Instr.sureAddr, Instr.sliceBounds, Instr.sliceBound, Option.map_some, Option.map_none, hρ _ _ hx, hρ _ _ hy, asIntOf, Sem.run_bind, Sem.run_pure, Result.andThen_ok, run_underlying ht, h0, and_self, if_true, Int.toNat_natCast, QZ he, JB, Nat.zero_mul, Nat.zero_add, Nat.sub_zero, if_neg (show ¬ n = 0 by omega), Option.isSome_none, Bool.false_eq_true, if_false]
theorem Qim {d k b m c c' : Nat} {t1 t2 e t' : TypeId} {x y : Operand} {by_ : Nat} {z : Option Value} {ag : Bool} {xs : List UInt32} (tl : List Value) (hv : Qm lab w) (hO : Own lab w k b t' (List.map u32 xs ++ tl).toArray) (ht : P.underlying t1 = some (.slice e)) (he : QU P e = some (ag, 1, z, by_)) (hx : ev l x = some (.slice (some ⟨b, 1, none⟩) m c)) (hy : ev l y = some (.slice (some ⟨b, 0, none⟩) m c')) (hm : m + 1 = xs.length)
  (h : ∀ w', Own lab w' k b t' (List.map u32 (xs.take 1 ++ xs.take m) ++ tl).toArray → Stp [k] lab w lab w' → Qm lab w' → Seq ds P N ops Q ((d, i64 (m : Int)) :: l) rest w') (hd : d < N := by decide) : Seq ds P N ops Q l (⟨some d, .call ⟨.builtin .copy, #[x, y], #[t1, t2]⟩, ty, pos, af, none⟩ :: rest) w := by
 have hlen : (List.map u32 (xs.take m)).length = m := by simp; omega
 have hrun := run_copy_row (P := P) w t1 t2 ty e b 1 m c ⟨b, 0, none⟩ m c' (List.map u32 xs ++ tl).toArray t' (List.map u32 (xs.take m)) ht (by obtain ⟨i, _, hi, _, _, his, _⟩ := Zr he; rw [hi]; simp [his]) hO.2 (by rw [hlen]; simp) (fun j u hj => by
  rw [JB, hO.cell]
  have hjl : j < (List.map u32 (xs.take m)).length := (List.getElem?_eq_some_iff.1 hj).1
  rw [hlen] at hjl
  rw [Nat.zero_add, List.getElem?_toArray, List.getElem?_append_left (by simp; omega)]
  rw [List.map_take, List.getElem?_take_of_lt hjl] at hj
  exact hj) (by rw [hlen]; simp; omega) (fun u hu => by obtain ⟨x, _, rfl⟩ := List.mem_map.1 hu; rfl)
 have earr : ((List.map u32 xs ++ tl).toArray.toList.take 1 ++ List.map u32 (xs.take m) ++ (List.map u32 xs ++ tl).toArray.toList.drop (1 + (List.map u32 (xs.take m)).length)).toArray = (List.map u32 (xs.take 1 ++ xs.take m) ++ tl).toArray := by
  rw [hlen, List.toList_toArray, List.take_append_of_le_length (by simp; omega), List.drop_append_of_le_length (by simp; omega), List.drop_of_length_le (by simp; omega), List.nil_append, List.map_append, List.map_take, List.map_take]
 rw [earr, hlen] at hrun
 refine sv (w' := w.setRow b (List.map u32 (xs.take 1 ++ xs.take m) ++ tl).toArray) ?_ (h _ (hO.set _) (Stp.set hO.1 _) (hv.set _ _)) hd
 intro ρ hρ d pos af g
 simp [execOp, resolve, invoke, builtin, hρ _ _ hx, hρ _ _ hy, hrun, goInt]
end
end Go.Proofs.Ytgfomedobfaidaa
end
section
set_option linter.unusedVariables false
set_option linter.unusedSimpArgs false
namespace Go.Proofs.Ytgfomedobfaidaa
open Go.RowKit
def JL (x : UInt32) (k : Int) : UInt32 := x <<< UInt32.ofNat ((((YF k &&& 31).toNat : Nat) : Int)).toNat ||| x >>> UInt32.ofNat ((((32 - (YF k &&& 31)).toNat : Nat) : Int)).toNat
theorem Qk9 (x : UInt64) : (x &&& 31).toNat < 32 := by
 rw [UInt64.toNat_and]
 exact Nat.lt_of_le_of_lt Nat.and_le_right (by decide)
theorem QkV (x : UInt64) : (32 - (x &&& 31)).toNat = 32 - (x &&& 31).toNat := by
 have := Qk9 x
 rw [UInt64.toNat_sub_of_le]
 ·rfl
 ·rw [UInt64.le_iff_toNat_le]; show (x &&& 31).toNat ≤ 32; omega
def QhR (b : List UInt8) (i : Nat) : UInt32 := (((b.getD (4 * i) 0).toUInt32 <<< UInt32.ofNat 24 ||| (b.getD (4 * i + 1) 0).toUInt32 <<< UInt32.ofNat 16) ||| (b.getD (4 * i + 2) 0).toUInt32 <<< UInt32.ofNat 8) ||| (b.getD (4 * i + 3) 0).toUInt32
theorem QhQ (b : List UInt8) (i : Nat) : (((b.getD (4 * ((i : Nat) : Int)).toNat 0).toUInt32 <<< UInt32.ofNat 24 ||| (b.getD (4 * ((i : Nat) : Int) + 1).toNat 0).toUInt32 <<< UInt32.ofNat 16) ||| (b.getD (4 * ((i : Nat) : Int) + 2).toNat 0).toUInt32 <<< UInt32.ofNat 8) ||| (b.getD (4 * ((i : Nat) : Int) + 3).toNat 0).toUInt32 = (((b.getD (4 * i) 0).toUInt32 <<< UInt32.ofNat 24 ||| (b.getD (4 * i + 1) 0).toUInt32 <<< UInt32.ofNat 16) ||| (b.getD (4 * i + 2) 0).toUInt32 <<< UInt32.ofNat 8) ||| (b.getD (4 * i + 3) 0).toUInt32 := by
 rw [show (4 * ((i : Nat) : Int)).toNat = 4 * i by omega, show (4 * ((i : Nat) : Int) + 1).toNat = 4 * i + 1 by omega, show (4 * ((i : Nat) : Int) + 2).toNat = 4 * i + 2 by omega, show (4 * ((i : Nat) : Int) + 3).toNat = 4 * i + 3 by omega]
def Qdt (l : List UInt32) (i : Nat) : UInt32 := ((l.getD (i - 16) 0 + l.getD (i - 7) 0) + ((JL (l.getD (i - 15) 0) (-7) ^^^ JL (l.getD (i - 15) 0) (-18)) ^^^ (l.getD (i - 15) 0) >>> UInt32.ofNat 3)) + ((JL (l.getD (i - 2) 0) (-17) ^^^ JL (l.getD (i - 2) 0) (-19)) ^^^ (l.getD (i - 2) 0) >>> UInt32.ofNat 10)
def sch (b : List UInt8) : Nat → List UInt32
 | 0 => []
 | n + 1 => sch b n ++ [if n < 16 then QhR b n else Qdt (sch b n) n]
theorem JO (b : List UInt8) : ∀ n, (sch b n).length = n
 | 0 => rfl
 | n + 1 => by simp [sch, JO b n]
def JJ (l : List UInt32) : List UInt32 := l ++ List.replicate (64 - l.length) 0
theorem Z3 {l : List UInt32} (h : l.length ≤ 64) : (JJ l).length = 64 := by simp [JJ]; omega
theorem Qg3 : List.replicate 64 0 = JJ [] := by simp [JJ]
theorem Qcs {l : List UInt32} {i : Nat} (hl : l.length = i) (h : i < 64) (v : UInt32) : (JJ l).set i v = JJ (l ++ [v]) := by
 subst hl
 unfold JJ
 rw [List.set_append_right _ _ (Nat.le_refl _), Nat.sub_self]
 obtain ⟨n, hn⟩ : ∃ n, 64 - l.length = n + 1 := ⟨64 - l.length - 1, by omega⟩
 rw [hn, List.replicate_succ, List.set_cons_zero, List.append_assoc]
 congr 3
 simp; omega
theorem Qg4 {l : List UInt32} {j : Nat} (h : j < l.length) : (JJ l).getD j 0 = l.getD j 0 := by
 simp [JJ, List.getD, List.getElem?_append_left h]
theorem QeE {l : List UInt32} (h : 64 ≤ l.length) : JJ l = l := by simp [JJ, show 64 - l.length = 0 by omega]
theorem Qev {b : List UInt8} {i : Nat} (h : i < 16) {v : UInt32} (hv : v = QhR b i) : (JJ (sch b i)).set i v = JJ (sch b (i + 1)) := by
 rw [Qcs (JO b i) (by omega), hv]; simp [sch, h]
theorem Qgy {b : List UInt8} {i : Nat} (h1 : 16 ≤ i) (h : i < 64) {v : UInt32} (hv : v = Qdt (JJ (sch b i)) i) : (JJ (sch b i)).set i v = JJ (sch b (i + 1)) := by
 have e : ∀ j, 1 ≤ j → j ≤ 16 → (JJ (sch b i)).getD (i - j) 0 = (sch b i).getD (i - j) 0 := fun j a c => Qg4 (by rw [JO]; omega)
 rw [Qcs (JO b i) h, hv]
 have : Qdt (JJ (sch b i)) i = Qdt (sch b i) i := by unfold Qdt; rw [e 16 (by omega) (by omega), e 7 (by omega) (by omega), e 15 (by omega) (by omega), e 2 (by omega) (by omega)]
 rw [this]; simp [sch, show ¬ i < 16 by omega]
def Qbh : List UInt32 := [1116352408, 1899447441, 3049323471, 3921009573, 961987163, 1508970993, 2453635748, 2870763221, 3624381080, 310598401, 607225278, 1426881987, 1925078388, 2162078206, 2614888103, 3248222580, 3835390401, 4022224774, 264347078, 604807628, 770255983, 1249150122, 1555081692, 1996064986, 2554220882, 2821834349, 2952996808, 3210313671, 3336571891, 3584528711, 113926993, 338241895, 666307205, 773529912, 1294757372, 1396182291, 1695183700, 1986661051, 2177026350, 2456956037, 2730485921, 2820302411, 3259730800, 3345764771, 3516065817, 3600352804, 4094571909, 275423344, 430227734, 506948616, 659060556, 883997877, 958139571, 1322822218, 1537002063, 1747873779, 1955562222, 2024104815, 2227730452, 2361852424, 2428436474, 2756734187, 3204031479, 3329325298]
def QjH : List UInt32 := [1779033703, 3144134277, 1013904242, 2773480762, 1359893119, 2600822924, 528734635, 1541459225]
def QkY (a : List UInt32) (k w : UInt32) : UInt32 := (((a.getD 7 0 + ((JL (a.getD 4 0) (-6) ^^^ JL (a.getD 4 0) (-11)) ^^^ JL (a.getD 4 0) (-25))) + ((a.getD 4 0 &&& a.getD 5 0) ^^^ (~~~ (a.getD 4 0) &&& a.getD 6 0))) + k) + w
def Ql0 (a : List UInt32) : UInt32 := ((JL (a.getD 0 0) (-2) ^^^ JL (a.getD 0 0) (-13)) ^^^ JL (a.getD 0 0) (-22)) + (((a.getD 0 0 &&& a.getD 1 0) ^^^ (a.getD 0 0 &&& a.getD 2 0)) ^^^ (a.getD 1 0 &&& a.getD 2 0))
def rnd (a : List UInt32) (k w : UInt32) : List UInt32 := ((a.take 1 ++ a.take 7).set 4 ((a.take 1 ++ a.take 7).getD 4 0 + QkY a k w)).set 0 (QkY a k w + Ql0 a)
def QR (b : List UInt8) (t : List UInt32) : Nat → List UInt32
 | 0 => t
 | n + 1 => rnd (QR b t n) (Qbh.getD n 0) ((sch b 64).getD n 0)
theorem Qez (b : List UInt8) (t : List UInt32) : t = QR b t 0 := rfl
theorem Qdl {a : List UInt32} {k w : UInt32} (h : a.length = 8) : (rnd a k w).length = 8 := by simp [rnd, h]
theorem J0 {b : List UInt8} {t : List UInt32} (h : t.length = 8) : ∀ n, (QR b t n).length = 8
 | 0 => h
 | n + 1 => Qdl (J0 h n)
def YX (t v : List UInt32) : Nat → List UInt32
 | 0 => t
 | n + 1 => (YX t v n).set n ((YX t v n).getD n 0 + v.getD n 0)
theorem Y8 (t v : List UInt32) : ∀ n, (YX t v n).length = t.length
 | 0 => rfl
 | n + 1 => by simp [YX, Y8 t v n]
theorem QdC (t v : List UInt32) : t = YX t v 0 := rfl
theorem QdD (t v : List UInt32) (n : Nat) : (YX t v n).set n ((YX t v n).getD n 0 + v.getD n 0) = YX t v (n + 1) := rfl
def Qii (t : List UInt32) (b : List UInt8) : List UInt32 := YX t (QR b t 64) 8
theorem VT {t : List UInt32} {b : List UInt8} (h : t.length = 8) : (Qii t b).length = 8 := by rw [Qii, Y8, h]
theorem Qe0 {b : List UInt8} {t : List UInt32} {i n : Nat} (hn : 64 ≤ n) (h : i < 64) (hn2 : n ≤ 64) : QR b t (i + 1) = rnd (QR b t i) (Qbh.getD i 0) ((JJ (sch b n)).getD i 0) := by
 obtain rfl : n = 64 := by omega
 rw [QeE (by rw [JO]; omega)]; rfl
end Go.Proofs.Ytgfomedobfaidaa
end
