import Derived.Test.YtgfomedobfaidaaMSignKeys9
import Derived.Carry
import Derived.Deep.Fields
import Derived.ProofKit
import Derived.Test.YtgfomedobfaidaaRows
set_option maxHeartbeats 8000000
set_option maxRecDepth 1000000
/-
  The row of SignKeys: that the law answers true of every input; part 10 of 10: what the proof needs, in order.
-/
section
set_option linter.unusedVariables false
set_option linter.unusedSimpArgs false
namespace Go.Proofs.Ytgfomedobfaidaa
open Go.RowKit
theorem Qab {lab : Lab} {w : World} (hv : Qm lab w) {n : Int} {x : Nat} {y : Nat} (hx : x < 18446744073709551616) (hy : y < 18446744073709551616) :
  Calls Try.prog 14 #[i64 n, n64 x, n64 y] w (fun e w' => ∃ v, e = .returned v ∧ (Is (.bool true)) lab w' v ∧ Below w.heap.size w w') := by
 obtain ⟨L0, h0L, ⟨zU0, z00⟩, hX⟩ := QX hv
 have hG := Vp n
 have gq1 := hG.2.1
 have gqn := hG.2.2.2.1
 have hnx : nw x ≤ 2 := YV (n := 2) (by omega)
 have hny : nw y ≤ 2 := YV (n := 2) (by omega)
 refine Qu Try.func14 rfl Try.ntmps14 (lB9 rfl) ?_
 refine rsr ?_
 refine sv (Qa.assign rfl) ?_
 refine Seq.next ?_
 refine Run.seq ?_
 refine rsr ?_
 refine Q4 (V := Is (.bool true)) Qlt h0L rfl (QbG h0L ) fun v1 w2 q3 s4 h5 => ?_
 have q3 := Is.out q3; subst q3
 refine sv (Qa.not rfl) ?_
 refine Seq.next ?_
 refine Qc rfl rfl ?_
 refine Qh (fun _ _ h => h) ?_
 refine rsr ?_
 refine sv (Qa.move rfl) ?_
 refine Q4 (V := Jn (grp n)) Qkn h5 rfl (V5 h5 (n := n)) fun v6 w7 q8 s9 h10 => ?_
 obtain ⟨b11, rfl⟩ := YC.shape q8
 refine sv (Qa.assign rfl) ?_
 refine Seq.next ?_
 refine Run.seq ?_
 refine rsr ?_
 refine sv (Qa.move rfl) ?_
 refine sv (Jc Try.underlying56 rfl rfl) ?_
 refine Seq.next ?_
 refine Qc rfl rfl ?_
 refine Qh (fun _ _ h => h) ?_
 refine rsr ?_
 refine sv (Qa.move rfl) ?_
 refine Q4 (V := JN ((grp n).q)) QbP h10 rfl (Z4 h10 q8) fun v12 w13 q14 s15 h16 => ?_
 obtain ⟨b17, rfl⟩ := YC.shape q14
 refine sv (Qa.assign rfl) ?_
 refine nsr ?_
 refine sv (Qa.move rfl) ?_
 refine sv (Qa.move rfl) ?_
 refine Q4 (V := Qj x) JM h16 rfl (QW h16 (x := x) (show x < 18446744073709551616 from by assumption)) fun v18 w19 q20 s21 h22 => ?_
 obtain ⟨A23, c24, rfl⟩ := Qj.shape q20
 have z25 := Qj.cap q20
 have q26 := up s21 q14
 refine Q4 (V := Qj (x % ((grp n).q))) Vu h22 rfl (ZR h22 q26 q20 (show 1 < ((grp n).q) from by assumption) (show nw x ≤ 999999 from by omega) (show nw ((grp n).q) ≤ 1000000 from by omega)) fun v27 w28 q29 s30 h31 => ?_
 obtain ⟨A32, c33, rfl⟩ := Qj.shape q29
 have z34 := Qj.cap q29
 refine sv (Qa.move rfl) ?_
 refine sv (Qa.move rfl) ?_
 refine Q4 (V := Qj y) JM h31 rfl (QW h31 (x := y) (show y < 18446744073709551616 from by assumption)) fun v35 w36 q37 s38 h39 => ?_
 obtain ⟨A40, c41, rfl⟩ := Qj.shape q37
 have z42 := Qj.cap q37
 have c43 := s30.trans s38
 have q44 := up c43 q26
 refine Q4 (V := Qj (y % ((grp n).q))) Vu h39 rfl (ZR h39 q44 q37 (show 1 < ((grp n).q) from by assumption) (show nw y ≤ 999999 from by omega) (show nw ((grp n).q) ≤ 1000000 from by omega)) fun v45 w46 q47 s48 h49 => ?_
 obtain ⟨A50, c51, rfl⟩ := Qj.shape q47
 have z52 := Qj.cap q47
 refine QK 10 [.slice none 0 0] h49 Qo rfl fun b55 L53 w54 o56 s57 h58 => ?_
 refine QK 11 [.slice none 0 0] h58 Qo rfl fun b61 L59 w60 o62 s63 h64 => ?_
 have o65 := o56.up s63
 refine Q1 [.slice A32 (nw (x % ((grp n).q))) c33] h64 o65 Qo rfl rfl rfl (lB9 rfl) rfl rfl fun w66 o67 s68 h69 => ?_
 have o70 := o62.up s68
 refine Q1 [.slice A50 (nw (y % ((grp n).q))) c51] h69 o70 Qo rfl rfl rfl (lB9 rfl) rfl rfl fun w71 o72 s73 h74 => ?_
 refine nsr ?_
 refine sv (Qa.move rfl) ?_
 have o75 := o67.up s73
 refine sv (Qb [.slice A32 (nw (x % ((grp n).q))) c33] o75 Qo rfl rfl) ?_
 refine sv (Qb [.slice A50 (nw (y % ((grp n).q))) c51] o72 Qo rfl rfl) ?_
 have c76 := s68.trans s73
 have c77 := s63.trans c76
 have c78 := s57.trans c77
 have c79 := s48.trans c78
 have q80 := up c79 q44
 have c81 := s38.trans c79
 have q82 := up c81 q29
 have q83 := up c78 q47
 refine Q4 (V := Qj (((x % ((grp n).q)) + (y % ((grp n).q))) % ((grp n).q))) Qjc h74 rfl (U9 h74 q80 q82 q83 (show 1 < ((grp n).q) from by assumption) (show nw (x % ((grp n).q)) ≤ 1000 from by exact Nat.le_trans (Xh hG _) (by omega)) (show nw (y % ((grp n).q)) ≤ 1000 from by exact Nat.le_trans (Xh hG _) (by omega)) (show nw ((grp n).q) ≤ 1000 from by omega)) fun v84 w85 q86 s87 h88 => ?_
 obtain ⟨A89, c90, rfl⟩ := Qj.shape q86
 have z91 := Qj.cap q86
 refine QK 12 [.slice none 0 0] h88 Qo rfl fun b94 L92 w93 o95 s96 h97 => ?_
 refine Q1 [.slice A89 (nw (((x % ((grp n).q)) + (y % ((grp n).q))) % ((grp n).q))) c90] h97 o95 Qo rfl rfl rfl (lB9 rfl) rfl rfl fun w98 o99 s100 h101 => ?_
 refine nsr ?_
 refine sv (Qa.move rfl) ?_
 have c103 := s96.trans s100
 have c104 := s87.trans c103
 have o102 := o75.up c104
 refine sv (Qb [.slice A32 (nw (x % ((grp n).q))) c33] o102 Qo rfl rfl) ?_
 have c105 := c79.trans c104
 have c106 := c43.trans c105
 have c107 := s21.trans c106
 have c108 := s15.trans c107
 have q109 := up c108 q8
 have q110 := up c104 q82
 refine Q4 (V := Zl (Qj (Zo (grp n) (x % ((grp n).q)))) (Is (i64 (if (x % ((grp n).q)) = 0 then 1 else 0)))) QfB h101 rfl (YK h101 q109 q110 (show okG (grp n) from by exact hG) (show (x % ((grp n).q)) < (grp n).q from by exact UP hG _)) fun v111 w112 q113 s114 h115 => ?_
 obtain ⟨v116, v117, rfl, q118, q119⟩ := q113
 obtain ⟨A120, c121, rfl⟩ := Qj.shape q118
 have z122 := Qj.cap q118
 have q119 := Is.out q119; subst q119
 refine sv (Qa.move rfl) ?_
 refine sv (Qa.extract rfl rfl) ?_
 refine sv (Qa.extract rfl rfl) ?_
 refine QK 13 [.slice none 0 0] h115 Qo rfl fun b125 L123 w124 o126 s127 h128 => ?_
 refine Q1 [.slice A120 (nw (Zo (grp n) (x % ((grp n).q)))) c121] h128 o126 Qo rfl rfl rfl (lB9 rfl) rfl rfl fun w129 o130 s131 h132 => ?_
 refine sv (Qa.assign rfl) ?_
 refine nsr ?_
 refine sv (Qa.move rfl) ?_
 have c134 := s127.trans s131
 have c135 := s114.trans c134
 have c136 := c104.trans c135
 have o133 := o72.up c136
 refine sv (Qb [.slice A50 (nw (y % ((grp n).q))) c51] o133 Qo rfl rfl) ?_
 have q137 := up c135 q109
 have q138 := up c136 q83
 refine Q4 (V := Zl (Qj (Zo (grp n) (y % ((grp n).q)))) (Is (i64 (if (y % ((grp n).q)) = 0 then 1 else 0)))) QfB h132 rfl (YK h132 q137 q138 (show okG (grp n) from by exact hG) (show (y % ((grp n).q)) < (grp n).q from by exact UP hG _)) fun v139 w140 q141 s142 h143 => ?_
 obtain ⟨v144, v145, rfl, q146, q147⟩ := q141
 obtain ⟨A148, c149, rfl⟩ := Qj.shape q146
 have z150 := Qj.cap q146
 have q147 := Is.out q147; subst q147
 refine sv (Qa.move rfl) ?_
 refine sv (Qa.extract rfl rfl) ?_
 refine sv (Qa.extract rfl rfl) ?_
 refine QK 15 [.slice none 0 0] h143 Qo rfl fun b153 L151 w152 o154 s155 h156 => ?_
 refine Q1 [.slice A148 (nw (Zo (grp n) (y % ((grp n).q)))) c149] h156 o154 Qo rfl rfl rfl (lB9 rfl) rfl rfl fun w157 o158 s159 h160 => ?_
 refine sv (Qa.assign rfl) ?_
 refine nsr ?_
 refine sv (Qa.move rfl) ?_
 have c162 := s155.trans s159
 have c163 := s142.trans c162
 have c164 := c135.trans c163
 have o161 := o99.up c164
 refine sv (Qb [.slice A89 (nw (((x % ((grp n).q)) + (y % ((grp n).q))) % ((grp n).q))) c90] o161 Qo rfl rfl) ?_
 have q165 := up c163 q137
 have c166 := c103.trans c164
 have q167 := up c166 q86
 refine Q4 (V := Zl (Qj (Zo (grp n) (((x % ((grp n).q)) + (y % ((grp n).q))) % ((grp n).q)))) (Is (i64 (if (((x % ((grp n).q)) + (y % ((grp n).q))) % ((grp n).q)) = 0 then 1 else 0)))) QfB h160 rfl (YK h160 q165 q167 (show okG (grp n) from by exact hG) (show (((x % ((grp n).q)) + (y % ((grp n).q))) % ((grp n).q)) < (grp n).q from by exact UP hG _)) fun v168 w169 q170 s171 h172 => ?_
 obtain ⟨v173, v174, rfl, q175, q176⟩ := q170
 obtain ⟨A177, c178, rfl⟩ := Qj.shape q175
 have z179 := Qj.cap q175
 have q176 := Is.out q176; subst q176
 refine sv (Qa.move rfl) ?_
 refine sv (Qa.extract rfl rfl) ?_
 refine sv (Qa.extract rfl rfl) ?_
 refine QK 17 [.slice none 0 0] h172 Qo rfl fun b182 L180 w181 o183 s184 h185 => ?_
 refine Q1 [.slice A177 (nw (Zo (grp n) (((x % ((grp n).q)) + (y % ((grp n).q))) % ((grp n).q)))) c178] h185 o183 Qo rfl rfl rfl (lB9 rfl) rfl rfl fun w186 o187 s188 h189 => ?_
 refine sv (Qa.assign rfl) ?_
 refine Seq.next ?_
 refine Run.seq ?_
 refine rsr ?_
 have c191 := s184.trans s188
 have c192 := s171.trans c191
 have c193 := c164.trans c192
 have o190 := o102.up c193
 refine sv (Qb [.slice A32 (nw (x % ((grp n).q))) c33] o190 Qo rfl rfl) ?_
 have q194 := up c193 q110
 refine Q4 (V := Is (.bool (decide ((x % ((grp n).q)) = 0)))) ZW h189 rfl (Js h189 q194) fun v195 w196 q197 s198 h199 => ?_
 have q197 := Is.out q197; subst q197
 refine sv (Qa.move rfl) ?_
 rcases Decidable.em ((x % ((grp n).q)) = 0) with hp1 | hp1
 ·refine Qe rfl rfl (dT9 hp1) rfl (by decide) ?_
  refine Qe rfl rfl (dT9 hp1) rfl (by decide) ?_
  refine sv (Ql rfl (dT9 hp1) rfl) ?_
  refine sv (Qa.move rfl) ?_
  refine Qe rfl rfl rfl rfl (by decide) ?_
  refine Qe rfl rfl rfl rfl (by decide) ?_
  refine sv (Jq rfl rfl) ?_
  refine Seq.next ?_
  refine Qc rfl rfl ?_
  refine rsr ?_
  refine sv (Qa.move rfl) ?_
  refine sv (Qa.eql rfl rfl) ?_
  have o200 := o190.up s198
  refine sv (Qb [.slice A32 (nw (x % ((grp n).q))) c33] o200 Qo rfl rfl) ?_
  have q201 := up s198 q194
  refine Q4 (V := Is (.bool (decide ((x % ((grp n).q)) = 0)))) ZW h199 rfl (Js h199 q201) fun v202 w203 q204 s205 h206 => ?_
  have q204 := Is.out q204; subst q204
  refine sv (Qa.not rfl) ?_
  refine sv (JI Try.underlying4 rfl rfl) ?_
  refine sv (Qa.move rfl) ?_
  rcases ZM ((decide ((if (x % ((grp n).q)) = 0 then 1 else 0 : Int) = (0 : Int))) == (!(decide ((x % ((grp n).q)) = 0)))) with hc2 | hc2
  rotate_left
  ·refine Qe rfl rfl hc2 rfl (by decide) ?_
   refine Qe rfl rfl hc2 rfl (by decide) ?_
   refine Qe rfl rfl hc2 rfl (by decide) ?_
   refine Qe rfl rfl hc2 rfl (by decide) ?_
   refine Qe rfl rfl hc2 rfl (by decide) ?_
   refine Qe rfl rfl hc2 rfl (by decide) ?_
   refine sv (Ql rfl hc2 rfl) ?_
   refine sv (Qa.move rfl) ?_
   refine Qe rfl rfl rfl rfl (by decide) ?_
   refine Qe rfl rfl rfl rfl (by decide) ?_
   refine Qe rfl rfl rfl rfl (by decide) ?_
   refine Qe rfl rfl rfl rfl (by decide) ?_
   refine Qe rfl rfl rfl rfl (by decide) ?_
   refine Qe rfl rfl rfl rfl (by decide) ?_
   refine sv (Ju rfl rfl) ?_
   refine sv (Qa.assign rfl) ?_
   refine Seq.next ?_
   have c236 := s198.trans s205
   have c237 := c193.trans c236
   have c238 := c108.trans c237
   have c239 := s9.trans c238
   have c240 := s4.trans c239
   obtain ⟨⟨zU, zo⟩, zb⟩ := hX c240 (by decide)
   refine Run.ret (Qr ?_)
   exact Qn Try.results14 rfl ⟨_, rfl, (Jb (by exact bzf hc2) _ _), zb⟩
  refine Qg rfl rfl hc2 ?_
  refine sv (Qa.move rfl) ?_
  refine Qg rfl rfl hc2 ?_
  refine sv (Qa.eql rfl rfl) ?_
  refine Qg rfl rfl hc2 ?_
  have c208 := s198.trans s205
  have c209 := c192.trans c208
  have c210 := c163.trans c209
  have o207 := o133.up c210
  refine sv (Qb [.slice A50 (nw (y % ((grp n).q))) c51] o207 Qo rfl rfl) ?_
  refine Qg rfl rfl hc2 ?_
  have q211 := up c210 q138
  refine Q4 (V := Is (.bool (decide ((y % ((grp n).q)) = 0)))) ZW h206 rfl (Js h206 q211) fun v212 w213 q214 s215 h216 => ?_
  have q214 := Is.out q214; subst q214
  refine Qg rfl rfl hc2 ?_
  refine sv (Qa.not rfl) ?_
  refine Qg rfl rfl hc2 ?_
  refine sv (JI Try.underlying4 rfl rfl) ?_
  refine sv (Ql rfl hc2 rfl) ?_
  refine sv (Qa.move rfl) ?_
  rcases ZM ((decide ((if (y % ((grp n).q)) = 0 then 1 else 0 : Int) = (0 : Int))) == (!(decide ((y % ((grp n).q)) = 0)))) with hc3 | hc3
  rotate_left
  ·refine Qe rfl rfl hc3 rfl (by decide) ?_
   refine Qe rfl rfl hc3 rfl (by decide) ?_
   refine Qe rfl rfl hc3 rfl (by decide) ?_
   refine Qe rfl rfl hc3 rfl (by decide) ?_
   refine Qe rfl rfl hc3 rfl (by decide) ?_
   refine Qe rfl rfl hc3 rfl (by decide) ?_
   refine sv (Ql rfl hc3 rfl) ?_
   refine sv (Qa.assign rfl) ?_
   refine Seq.next ?_
   have c231 := c208.trans s215
   have c232 := c193.trans c231
   have c233 := c108.trans c232
   have c234 := s9.trans c233
   have c235 := s4.trans c234
   obtain ⟨⟨zU, zo⟩, zb⟩ := hX c235 (by decide)
   refine Run.ret (Qr ?_)
   exact Qn Try.results14 rfl ⟨_, rfl, (Jb (by exact bzf hc3) _ _), zb⟩
  refine Qg rfl rfl hc3 ?_
  refine sv (Qa.move rfl) ?_
  refine Qg rfl rfl hc3 ?_
  refine sv (Qa.eql rfl rfl) ?_
  refine Qg rfl rfl hc3 ?_
  have c218 := c209.trans s215
  have o217 := o161.up c218
  refine sv (Qb [.slice A89 (nw (((x % ((grp n).q)) + (y % ((grp n).q))) % ((grp n).q))) c90] o217 Qo rfl rfl) ?_
  refine Qg rfl rfl hc3 ?_
  have q219 := up c218 q167
  refine Q4 (V := Is (.bool (decide ((((x % ((grp n).q)) + (y % ((grp n).q))) % ((grp n).q)) = 0)))) ZW h216 rfl (Js h216 q219) fun v220 w221 q222 s223 h224 => ?_
  have q222 := Is.out q222; subst q222
  refine Qg rfl rfl hc3 ?_
  refine sv (Qa.not rfl) ?_
  refine Qg rfl rfl hc3 ?_
  refine sv (JI Try.underlying4 rfl rfl) ?_
  refine sv (Ql rfl hc3 rfl) ?_
  refine sv (Qa.assign rfl) ?_
  refine Seq.next ?_
  have c225 := s215.trans s223
  have c226 := c208.trans c225
  have c227 := c193.trans c226
  have c228 := c108.trans c227
  have c229 := s9.trans c228
  have c230 := s4.trans c229
  obtain ⟨⟨zU, zo⟩, zb⟩ := hX c230 (by decide)
  refine Run.ret (Qr ?_)
  exact Qn Try.results14 rfl ⟨_, rfl, (Jb (by exact bz) _ _), zb⟩
 refine Qg rfl rfl (dF9 hp1) ?_
 have c242 := c192.trans s198
 have c243 := c163.trans c242
 have o241 := o133.up c243
 refine sv (Qb [.slice A50 (nw (y % ((grp n).q))) c51] o241 Qo rfl rfl) ?_
 refine Qg rfl rfl (dF9 hp1) ?_
 have q244 := up c243 q138
 refine Q4 (V := Is (.bool (decide ((y % ((grp n).q)) = 0)))) ZW h199 rfl (Js h199 q244) fun v245 w246 q247 s248 h249 => ?_
 have q247 := Is.out q247; subst q247
 refine sv (Ql rfl (dF9 hp1) rfl) ?_
 refine sv (Qa.move rfl) ?_
 rcases Decidable.em ((y % ((grp n).q)) = 0) with hp2 | hp2
 ·refine Qe rfl rfl (dT9 hp2) rfl (by decide) ?_
  refine Qe rfl rfl (dT9 hp2) rfl (by decide) ?_
  refine sv (Ql rfl (dT9 hp2) rfl) ?_
  refine Seq.next ?_
  refine Qc rfl rfl ?_
  refine rsr ?_
  refine sv (Qa.move rfl) ?_
  refine sv (Qa.eql rfl rfl) ?_
  have c251 := s198.trans s248
  have o250 := o190.up c251
  refine sv (Qb [.slice A32 (nw (x % ((grp n).q))) c33] o250 Qo rfl rfl) ?_
  have q252 := up c251 q194
  refine Q4 (V := Is (.bool (decide ((x % ((grp n).q)) = 0)))) ZW h249 rfl (Js h249 q252) fun v253 w254 q255 s256 h257 => ?_
  have q255 := Is.out q255; subst q255
  refine sv (Qa.not rfl) ?_
  refine sv (JI Try.underlying4 rfl rfl) ?_
  refine sv (Qa.move rfl) ?_
  rcases ZM ((decide ((if (x % ((grp n).q)) = 0 then 1 else 0 : Int) = (0 : Int))) == (!(decide ((x % ((grp n).q)) = 0)))) with hc3 | hc3
  rotate_left
  ·refine Qe rfl rfl hc3 rfl (by decide) ?_
   refine Qe rfl rfl hc3 rfl (by decide) ?_
   refine Qe rfl rfl hc3 rfl (by decide) ?_
   refine Qe rfl rfl hc3 rfl (by decide) ?_
   refine Qe rfl rfl hc3 rfl (by decide) ?_
   refine Qe rfl rfl hc3 rfl (by decide) ?_
   refine sv (Ql rfl hc3 rfl) ?_
   refine sv (Qa.move rfl) ?_
   refine Qe rfl rfl rfl rfl (by decide) ?_
   refine Qe rfl rfl rfl rfl (by decide) ?_
   refine Qe rfl rfl rfl rfl (by decide) ?_
   refine Qe rfl rfl rfl rfl (by decide) ?_
   refine Qe rfl rfl rfl rfl (by decide) ?_
   refine Qe rfl rfl rfl rfl (by decide) ?_
   refine sv (Ju rfl rfl) ?_
   refine sv (Qa.assign rfl) ?_
   refine Seq.next ?_
   have c288 := c251.trans s256
   have c289 := c193.trans c288
   have c290 := c108.trans c289
   have c291 := s9.trans c290
   have c292 := s4.trans c291
   obtain ⟨⟨zU, zo⟩, zb⟩ := hX c292 (by decide)
   refine Run.ret (Qr ?_)
   exact Qn Try.results14 rfl ⟨_, rfl, (Jb (by exact bzf hc3) _ _), zb⟩
  refine Qg rfl rfl hc3 ?_
  refine sv (Qa.move rfl) ?_
  refine Qg rfl rfl hc3 ?_
  refine sv (Qa.eql rfl rfl) ?_
  refine Qg rfl rfl hc3 ?_
  have c259 := s248.trans s256
  have o258 := o241.up c259
  refine sv (Qb [.slice A50 (nw (y % ((grp n).q))) c51] o258 Qo rfl rfl) ?_
  refine Qg rfl rfl hc3 ?_
  have q260 := up c259 q244
  refine Q4 (V := Is (.bool (decide ((y % ((grp n).q)) = 0)))) ZW h257 rfl (Js h257 q260) fun v261 w262 q263 s264 h265 => ?_
  have q263 := Is.out q263; subst q263
  refine Qg rfl rfl hc3 ?_
  refine sv (Qa.not rfl) ?_
  refine Qg rfl rfl hc3 ?_
  refine sv (JI Try.underlying4 rfl rfl) ?_
  refine sv (Ql rfl hc3 rfl) ?_
  refine sv (Qa.move rfl) ?_
  rcases ZM ((decide ((if (y % ((grp n).q)) = 0 then 1 else 0 : Int) = (0 : Int))) == (!(decide ((y % ((grp n).q)) = 0)))) with hc4 | hc4
  rotate_left
  ·refine Qe rfl rfl hc4 rfl (by decide) ?_
   refine Qe rfl rfl hc4 rfl (by decide) ?_
   refine Qe rfl rfl hc4 rfl (by decide) ?_
   refine Qe rfl rfl hc4 rfl (by decide) ?_
   refine Qe rfl rfl hc4 rfl (by decide) ?_
   refine Qe rfl rfl hc4 rfl (by decide) ?_
   refine sv (Ql rfl hc4 rfl) ?_
   refine sv (Qa.assign rfl) ?_
   refine Seq.next ?_
   have c282 := s256.trans s264
   have c283 := c251.trans c282
   have c284 := c193.trans c283
   have c285 := c108.trans c284
   have c286 := s9.trans c285
   have c287 := s4.trans c286
   obtain ⟨⟨zU, zo⟩, zb⟩ := hX c287 (by decide)
   refine Run.ret (Qr ?_)
   exact Qn Try.results14 rfl ⟨_, rfl, (Jb (by exact bzf hc4) _ _), zb⟩
  refine Qg rfl rfl hc4 ?_
  refine sv (Qa.move rfl) ?_
  refine Qg rfl rfl hc4 ?_
  refine sv (Qa.eql rfl rfl) ?_
  refine Qg rfl rfl hc4 ?_
  have c267 := c259.trans s264
  have c268 := c242.trans c267
  have o266 := o161.up c268
  refine sv (Qb [.slice A89 (nw (((x % ((grp n).q)) + (y % ((grp n).q))) % ((grp n).q))) c90] o266 Qo rfl rfl) ?_
  refine Qg rfl rfl hc4 ?_
  have q269 := up c268 q167
  refine Q4 (V := Is (.bool (decide ((((x % ((grp n).q)) + (y % ((grp n).q))) % ((grp n).q)) = 0)))) ZW h265 rfl (Js h265 q269) fun v270 w271 q272 s273 h274 => ?_
  have q272 := Is.out q272; subst q272
  refine Qg rfl rfl hc4 ?_
  refine sv (Qa.not rfl) ?_
  refine Qg rfl rfl hc4 ?_
  refine sv (JI Try.underlying4 rfl rfl) ?_
  refine sv (Ql rfl hc4 rfl) ?_
  refine sv (Qa.assign rfl) ?_
  refine Seq.next ?_
  have c275 := s264.trans s273
  have c276 := s256.trans c275
  have c277 := c251.trans c276
  have c278 := c193.trans c277
  have c279 := c108.trans c278
  have c280 := s9.trans c279
  have c281 := s4.trans c280
  obtain ⟨⟨zU, zo⟩, zb⟩ := hX c281 (by decide)
  refine Run.ret (Qr ?_)
  exact Qn Try.results14 rfl ⟨_, rfl, (Jb (by exact bz) _ _), zb⟩
 refine Qg rfl rfl (dF9 hp2) ?_
 have c294 := c242.trans s248
 have o293 := o161.up c294
 refine sv (Qb [.slice A89 (nw (((x % ((grp n).q)) + (y % ((grp n).q))) % ((grp n).q))) c90] o293 Qo rfl rfl) ?_
 refine Qg rfl rfl (dF9 hp2) ?_
 have q295 := up c294 q167
 refine Q4 (V := Is (.bool (decide ((((x % ((grp n).q)) + (y % ((grp n).q))) % ((grp n).q)) = 0)))) ZW h249 rfl (Js h249 q295) fun v296 w297 q298 s299 h300 => ?_
 have q298 := Is.out q298; subst q298
 refine sv (Ql rfl (dF9 hp2) rfl) ?_
 refine Seq.next ?_
 rcases Decidable.em ((((x % ((grp n).q)) + (y % ((grp n).q))) % ((grp n).q)) = 0) with hp3 | hp3
 ·refine Qc rfl (dT9 hp3) ?_
  refine rsr ?_
  refine sv (Qa.move rfl) ?_
  refine sv (Qa.eql rfl rfl) ?_
  have c302 := s248.trans s299
  have c303 := s198.trans c302
  have o301 := o190.up c303
  refine sv (Qb [.slice A32 (nw (x % ((grp n).q))) c33] o301 Qo rfl rfl) ?_
  have q304 := up c303 q194
  refine Q4 (V := Is (.bool (decide ((x % ((grp n).q)) = 0)))) ZW h300 rfl (Js h300 q304) fun v305 w306 q307 s308 h309 => ?_
  have q307 := Is.out q307; subst q307
  refine sv (Qa.not rfl) ?_
  refine sv (JI Try.underlying4 rfl rfl) ?_
  refine sv (Qa.move rfl) ?_
  rcases ZM ((decide ((if (x % ((grp n).q)) = 0 then 1 else 0 : Int) = (0 : Int))) == (!(decide ((x % ((grp n).q)) = 0)))) with hc4 | hc4
  rotate_left
  ·refine Qe rfl rfl hc4 rfl (by decide) ?_
   refine Qe rfl rfl hc4 rfl (by decide) ?_
   refine Qe rfl rfl hc4 rfl (by decide) ?_
   refine Qe rfl rfl hc4 rfl (by decide) ?_
   refine Qe rfl rfl hc4 rfl (by decide) ?_
   refine Qe rfl rfl hc4 rfl (by decide) ?_
   refine sv (Ql rfl hc4 rfl) ?_
   refine sv (Qa.move rfl) ?_
   refine Qe rfl rfl rfl rfl (by decide) ?_
   refine Qe rfl rfl rfl rfl (by decide) ?_
   refine Qe rfl rfl rfl rfl (by decide) ?_
   refine Qe rfl rfl rfl rfl (by decide) ?_
   refine Qe rfl rfl rfl rfl (by decide) ?_
   refine Qe rfl rfl rfl rfl (by decide) ?_
   refine sv (Ju rfl rfl) ?_
   refine sv (Qa.assign rfl) ?_
   refine Seq.next ?_
   have c339 := c303.trans s308
   have c340 := c193.trans c339
   have c341 := c108.trans c340
   have c342 := s9.trans c341
   have c343 := s4.trans c342
   obtain ⟨⟨zU, zo⟩, zb⟩ := hX c343 (by decide)
   refine Run.ret (Qr ?_)
   exact Qn Try.results14 rfl ⟨_, rfl, (Jb (by exact bzf hc4) _ _), zb⟩
  refine Qg rfl rfl hc4 ?_
  refine sv (Qa.move rfl) ?_
  refine Qg rfl rfl hc4 ?_
  refine sv (Qa.eql rfl rfl) ?_
  refine Qg rfl rfl hc4 ?_
  have c311 := c302.trans s308
  have o310 := o241.up c311
  refine sv (Qb [.slice A50 (nw (y % ((grp n).q))) c51] o310 Qo rfl rfl) ?_
  refine Qg rfl rfl hc4 ?_
  have q312 := up c311 q244
  refine Q4 (V := Is (.bool (decide ((y % ((grp n).q)) = 0)))) ZW h309 rfl (Js h309 q312) fun v313 w314 q315 s316 h317 => ?_
  have q315 := Is.out q315; subst q315
  refine Qg rfl rfl hc4 ?_
  refine sv (Qa.not rfl) ?_
  refine Qg rfl rfl hc4 ?_
  refine sv (JI Try.underlying4 rfl rfl) ?_
  refine sv (Ql rfl hc4 rfl) ?_
  refine sv (Qa.move rfl) ?_
  rcases ZM ((decide ((if (y % ((grp n).q)) = 0 then 1 else 0 : Int) = (0 : Int))) == (!(decide ((y % ((grp n).q)) = 0)))) with hc5 | hc5
  rotate_left
  ·refine Qe rfl rfl hc5 rfl (by decide) ?_
   refine Qe rfl rfl hc5 rfl (by decide) ?_
   refine Qe rfl rfl hc5 rfl (by decide) ?_
   refine Qe rfl rfl hc5 rfl (by decide) ?_
   refine Qe rfl rfl hc5 rfl (by decide) ?_
   refine Qe rfl rfl hc5 rfl (by decide) ?_
   refine sv (Ql rfl hc5 rfl) ?_
   refine sv (Qa.assign rfl) ?_
   refine Seq.next ?_
   have c333 := s308.trans s316
   have c334 := c303.trans c333
   have c335 := c193.trans c334
   have c336 := c108.trans c335
   have c337 := s9.trans c336
   have c338 := s4.trans c337
   obtain ⟨⟨zU, zo⟩, zb⟩ := hX c338 (by decide)
   refine Run.ret (Qr ?_)
   exact Qn Try.results14 rfl ⟨_, rfl, (Jb (by exact bzf hc5) _ _), zb⟩
  refine Qg rfl rfl hc5 ?_
  refine sv (Qa.move rfl) ?_
  refine Qg rfl rfl hc5 ?_
  refine sv (Qa.eql rfl rfl) ?_
  refine Qg rfl rfl hc5 ?_
  have c319 := s308.trans s316
  have c320 := s299.trans c319
  have o318 := o293.up c320
  refine sv (Qb [.slice A89 (nw (((x % ((grp n).q)) + (y % ((grp n).q))) % ((grp n).q))) c90] o318 Qo rfl rfl) ?_
  refine Qg rfl rfl hc5 ?_
  have q321 := up c320 q295
  refine Q4 (V := Is (.bool (decide ((((x % ((grp n).q)) + (y % ((grp n).q))) % ((grp n).q)) = 0)))) ZW h317 rfl (Js h317 q321) fun v322 w323 q324 s325 h326 => ?_
  have q324 := Is.out q324; subst q324
  refine Qg rfl rfl hc5 ?_
  refine sv (Qa.not rfl) ?_
  refine Qg rfl rfl hc5 ?_
  refine sv (JI Try.underlying4 rfl rfl) ?_
  refine sv (Ql rfl hc5 rfl) ?_
  refine sv (Qa.assign rfl) ?_
  refine Seq.next ?_
  have c327 := c319.trans s325
  have c328 := c303.trans c327
  have c329 := c193.trans c328
  have c330 := c108.trans c329
  have c331 := s9.trans c330
  have c332 := s4.trans c331
  obtain ⟨⟨zU, zo⟩, zb⟩ := hX c332 (by decide)
  refine Run.ret (Qr ?_)
  exact Qn Try.results14 rfl ⟨_, rfl, (Jb (by exact bz) _ _), zb⟩
 refine Qc rfl (dF9 hp3) ?_
 refine Qh (fun _ _ h => h) ?_
 refine Run.seq ?_
 rcases Decidable.em ((if (x % ((grp n).q)) = 0 then 1 else 0 : Int) = (0 : Int)) with hp4 | hp4
 rotate_left
 ·refine Run.open 24 (Φ := [.ex (i64 (if (x % ((grp n).q)) = 0 then 1 else 0)), .ex (.bool (decide ((if (x % ((grp n).q)) = 0 then 1 else 0 : Int) = (0 : Int)))), .ex (.bool (decide ((if (x % ((grp n).q)) = 0 then 1 else 0 : Int) = (0 : Int)))), .ex undef, .ex undef, .ex (.bool false), .ex (.bool false), .ex undef, .ex undef, .ex (.bool false), .ex (.bool false), .ex undef, .ex undef, .ex undef, .ex undef, .ex undef, .ex undef, .ex undef, .ex (.bool false), .ex (.bool false), .ex undef, .ex undef, .ex undef, .ex (.bool false)]) [(23, 111)] Jg (by kernel_rfl) rfl h300 ⟨(oX [] rfl rfl rfl fun _ _ => Qa.move rfl), (oX [(0, 88)] rfl rfl rfl fun _ _ => Qa.eql rfl rfl), (oX [(1, 89)] rfl rfl rfl fun _ _ => Qa.move rfl), (Jj rfl rfl rfl rfl (dF9 hp4) rfl rfl), (Jj rfl rfl rfl rfl (dF9 hp4) rfl rfl), (oX [(2, 90)] rfl rfl rfl fun _ _ => Ql rfl (dF9 hp4) rfl), (oX [(5, 93)] rfl rfl rfl fun _ _ => Qa.move rfl), (Jj rfl rfl rfl rfl rfl rfl rfl), (Jj rfl rfl rfl rfl rfl rfl rfl), (oX [(6, 94)] rfl rfl rfl fun _ _ => Ju rfl rfl), (oX [(9, 97)] rfl rfl rfl fun _ _ => Qa.move rfl), (Jj rfl rfl rfl rfl rfl rfl rfl), (Jj rfl rfl rfl rfl rfl rfl rfl), (Jj rfl rfl rfl rfl rfl rfl rfl), (Jj rfl rfl rfl rfl rfl rfl rfl), (Jj rfl rfl rfl rfl rfl rfl rfl), (Jj rfl rfl rfl rfl rfl rfl rfl), (Jj rfl rfl rfl rfl rfl rfl rfl), (oX [(10, 98)] rfl rfl rfl fun _ _ => Ju rfl rfl), (oX [(18, 106)] rfl rfl rfl fun _ _ => Qa.move rfl), (Jj rfl rfl rfl rfl rfl rfl rfl), (Jj rfl rfl rfl rfl rfl rfl rfl), (Jj rfl rfl rfl rfl rfl rfl rfl), (oX [(19, 107)] rfl rfl rfl fun _ _ => Ju rfl rfl), trivial⟩ (fun L985 w986 h987 s988 => ?_)
  refine sv (Qa.assign rfl) ?_
  refine Seq.next ?_
  have c989 := s299.trans s988
  have c990 := s248.trans c989
  have c991 := s198.trans c990
  have c992 := c193.trans c991
  have c993 := c108.trans c992
  have c994 := s9.trans c993
  have c995 := s4.trans c994
  obtain ⟨⟨zU, zo⟩, zb⟩ := hX c995 (by decide)
  refine Run.ret ?_
  exact Qn Try.results14 rfl ⟨_, rfl, (Jb (by exact absurd (if_neg hp1) hp4) _ _), zb⟩
 rcases Decidable.em ((if (y % ((grp n).q)) = 0 then 1 else 0 : Int) = (0 : Int)) with hp5 | hp5
 rotate_left
 ·refine Run.open 24 (Φ := [.ex (i64 (if (x % ((grp n).q)) = 0 then 1 else 0)), .ex (.bool (decide ((if (x % ((grp n).q)) = 0 then 1 else 0 : Int) = (0 : Int)))), .ex (.bool (decide ((if (x % ((grp n).q)) = 0 then 1 else 0 : Int) = (0 : Int)))), .ex (i64 (if (y % ((grp n).q)) = 0 then 1 else 0)), .ex (.bool (decide ((if (y % ((grp n).q)) = 0 then 1 else 0 : Int) = (0 : Int)))), .ex (.bool (decide ((if (y % ((grp n).q)) = 0 then 1 else 0 : Int) = (0 : Int)))), .ex (.bool (decide ((if (y % ((grp n).q)) = 0 then 1 else 0 : Int) = (0 : Int)))), .ex undef, .ex undef, .ex (.bool false), .ex (.bool false), .ex undef, .ex undef, .ex undef, .ex undef, .ex undef, .ex undef, .ex undef, .ex (.bool false), .ex (.bool false), .ex undef, .ex undef, .ex undef, .ex (.bool false)]) [(23, 111)] Jg (by kernel_rfl) rfl h300 ⟨(oX [] rfl rfl rfl fun _ _ => Qa.move rfl), (oX [(0, 88)] rfl rfl rfl fun _ _ => Qa.eql rfl rfl), (oX [(1, 89)] rfl rfl rfl fun _ _ => Qa.move rfl), ?_, ?_, (oX [(2, 90), (4, 92)] rfl rfl rfl fun _ _ => Ql rfl (dT9 hp4) rfl), (oX [(5, 93)] rfl rfl rfl fun _ _ => Qa.move rfl), (Jj rfl rfl rfl rfl (dF9 hp5) rfl rfl), (Jj rfl rfl rfl rfl (dF9 hp5) rfl rfl), (oX [(6, 94)] rfl rfl rfl fun _ _ => Ql rfl (dF9 hp5) rfl), (oX [(9, 97)] rfl rfl rfl fun _ _ => Qa.move rfl), (Jj rfl rfl rfl rfl rfl rfl rfl), (Jj rfl rfl rfl rfl rfl rfl rfl), (Jj rfl rfl rfl rfl rfl rfl rfl), (Jj rfl rfl rfl rfl rfl rfl rfl), (Jj rfl rfl rfl rfl rfl rfl rfl), (Jj rfl rfl rfl rfl rfl rfl rfl), (Jj rfl rfl rfl rfl rfl rfl rfl), (oX [(10, 98)] rfl rfl rfl fun _ _ => Ju rfl rfl), (oX [(18, 106)] rfl rfl rfl fun _ _ => Qa.move rfl), (Jj rfl rfl rfl rfl rfl rfl rfl), (Jj rfl rfl rfl rfl rfl rfl rfl), (Jj rfl rfl rfl rfl rfl rfl rfl), (oX [(19, 107)] rfl rfl rfl fun _ _ => Ju rfl rfl), trivial⟩ (fun L934 w935 h936 s937 => ?_)
  ·refine QL [] rfl rfl rfl rfl (dT9 hp4) rfl fun L898 w899 h900 s901 => ?_
   exact ⟨_, Qa.move rfl, rfl⟩
  ·refine QL [(3, 91)] rfl rfl rfl rfl (dT9 hp4) rfl fun L902 w903 h904 s905 => ?_
   exact ⟨_, Qa.eql rfl rfl, rfl⟩
  refine sv (Qa.assign rfl) ?_
  refine Seq.next ?_
  have c938 := s299.trans s937
  have c939 := s248.trans c938
  have c940 := s198.trans c939
  have c941 := c193.trans c940
  have c942 := c108.trans c941
  have c943 := s9.trans c942
  have c944 := s4.trans c943
  obtain ⟨⟨zU, zo⟩, zb⟩ := hX c944 (by decide)
  refine Run.ret ?_
  exact Qn Try.results14 rfl ⟨_, rfl, (Jb (by exact absurd (if_neg hp2) hp5) _ _), zb⟩
 rcases Decidable.em ((if (((x % ((grp n).q)) + (y % ((grp n).q))) % ((grp n).q)) = 0 then 1 else 0 : Int) = (0 : Int)) with hp6 | hp6
 rotate_left
 ·refine Run.open 24 (Φ := [.ex (i64 (if (x % ((grp n).q)) = 0 then 1 else 0)), .ex (.bool (decide ((if (x % ((grp n).q)) = 0 then 1 else 0 : Int) = (0 : Int)))), .ex (.bool (decide ((if (x % ((grp n).q)) = 0 then 1 else 0 : Int) = (0 : Int)))), .ex (i64 (if (y % ((grp n).q)) = 0 then 1 else 0)), .ex (.bool (decide ((if (y % ((grp n).q)) = 0 then 1 else 0 : Int) = (0 : Int)))), .ex (.bool (decide ((if (y % ((grp n).q)) = 0 then 1 else 0 : Int) = (0 : Int)))), .ex (.bool (decide ((if (y % ((grp n).q)) = 0 then 1 else 0 : Int) = (0 : Int)))), .ex (i64 (if (((x % ((grp n).q)) + (y % ((grp n).q))) % ((grp n).q)) = 0 then 1 else 0)), .ex (.bool (decide ((if (((x % ((grp n).q)) + (y % ((grp n).q))) % ((grp n).q)) = 0 then 1 else 0 : Int) = (0 : Int)))), .ex (.bool (decide ((if (((x % ((grp n).q)) + (y % ((grp n).q))) % ((grp n).q)) = 0 then 1 else 0 : Int) = (0 : Int)))), .ex (.bool (decide ((if (((x % ((grp n).q)) + (y % ((grp n).q))) % ((grp n).q)) = 0 then 1 else 0 : Int) = (0 : Int)))), .ex undef, .ex undef, .ex undef, .ex undef, .ex undef, .ex undef, .ex undef, .ex (.bool false), .ex (.bool false), .ex undef, .ex undef, .ex undef, .ex (.bool false)]) [(23, 111)] Jg (by kernel_rfl) rfl h300 ⟨(oX [] rfl rfl rfl fun _ _ => Qa.move rfl), (oX [(0, 88)] rfl rfl rfl fun _ _ => Qa.eql rfl rfl), (oX [(1, 89)] rfl rfl rfl fun _ _ => Qa.move rfl), ?_, ?_, (oX [(2, 90), (4, 92)] rfl rfl rfl fun _ _ => Ql rfl (dT9 hp4) rfl), (oX [(5, 93)] rfl rfl rfl fun _ _ => Qa.move rfl), ?_, ?_, (oX [(6, 94), (8, 96)] rfl rfl rfl fun _ _ => Ql rfl (dT9 hp5) rfl), (oX [(9, 97)] rfl rfl rfl fun _ _ => Qa.move rfl), (Jj rfl rfl rfl rfl (dF9 hp6) rfl rfl), (Jj rfl rfl rfl rfl (dF9 hp6) rfl rfl), (Jj rfl rfl rfl rfl (dF9 hp6) rfl rfl), (Jj rfl rfl rfl rfl (dF9 hp6) rfl rfl), (Jj rfl rfl rfl rfl (dF9 hp6) rfl rfl), (Jj rfl rfl rfl rfl (dF9 hp6) rfl rfl), (Jj rfl rfl rfl rfl (dF9 hp6) rfl rfl), (oX [(10, 98)] rfl rfl rfl fun _ _ => Ql rfl (dF9 hp6) rfl), (oX [(18, 106)] rfl rfl rfl fun _ _ => Qa.move rfl), (Jj rfl rfl rfl rfl rfl rfl rfl), (Jj rfl rfl rfl rfl rfl rfl rfl), (Jj rfl rfl rfl rfl rfl rfl rfl), (oX [(19, 107)] rfl rfl rfl fun _ _ => Ju rfl rfl), trivial⟩ (fun L875 w876 h877 s878 => ?_)
  ·refine QL [] rfl rfl rfl rfl (dT9 hp4) rfl fun L831 w832 h833 s834 => ?_
   exact ⟨_, Qa.move rfl, rfl⟩
  ·refine QL [(3, 91)] rfl rfl rfl rfl (dT9 hp4) rfl fun L835 w836 h837 s838 => ?_
   exact ⟨_, Qa.eql rfl rfl, rfl⟩
  ·refine QL [] rfl rfl rfl rfl (dT9 hp5) rfl fun L847 w848 h849 s850 => ?_
   exact ⟨_, Qa.move rfl, rfl⟩
  ·refine QL [(7, 95)] rfl rfl rfl rfl (dT9 hp5) rfl fun L851 w852 h853 s854 => ?_
   exact ⟨_, Qa.eql rfl rfl, rfl⟩
  refine sv (Qa.assign rfl) ?_
  refine Seq.next ?_
  have c879 := s299.trans s878
  have c880 := s248.trans c879
  have c881 := s198.trans c880
  have c882 := c193.trans c881
  have c883 := c108.trans c882
  have c884 := s9.trans c883
  have c885 := s4.trans c884
  obtain ⟨⟨zU, zo⟩, zb⟩ := hX c885 (by decide)
  refine Run.ret ?_
  exact Qn Try.results14 rfl ⟨_, rfl, (Jb (by exact absurd (if_neg hp3) hp6) _ _), zb⟩
 rcases Decidable.em ((Ji ((Zo (grp n) (x % ((grp n).q))) * (Zo (grp n) (y % ((grp n).q))) % (grp n).p) (Zo (grp n) (((x % ((grp n).q)) + (y % ((grp n).q))) % ((grp n).q))) : Int) = (0 : Int)) with hp7 | hp7
 rotate_left
 ·refine Run.open 24 (Φ := [.ex (i64 (if (x % ((grp n).q)) = 0 then 1 else 0)), .ex (.bool (decide ((if (x % ((grp n).q)) = 0 then 1 else 0 : Int) = (0 : Int)))), .ex (.bool (decide ((if (x % ((grp n).q)) = 0 then 1 else 0 : Int) = (0 : Int)))), .ex (i64 (if (y % ((grp n).q)) = 0 then 1 else 0)), .ex (.bool (decide ((if (y % ((grp n).q)) = 0 then 1 else 0 : Int) = (0 : Int)))), .ex (.bool (decide ((if (y % ((grp n).q)) = 0 then 1 else 0 : Int) = (0 : Int)))), .ex (.bool (decide ((if (y % ((grp n).q)) = 0 then 1 else 0 : Int) = (0 : Int)))), .ex (i64 (if (((x % ((grp n).q)) + (y % ((grp n).q))) % ((grp n).q)) = 0 then 1 else 0)), .ex (.bool (decide ((if (((x % ((grp n).q)) + (y % ((grp n).q))) % ((grp n).q)) = 0 then 1 else 0 : Int) = (0 : Int)))), .ex (.bool (decide ((if (((x % ((grp n).q)) + (y % ((grp n).q))) % ((grp n).q)) = 0 then 1 else 0 : Int) = (0 : Int)))), .ex (.bool (decide ((if (((x % ((grp n).q)) + (y % ((grp n).q))) % ((grp n).q)) = 0 then 1 else 0 : Int) = (0 : Int)))), .ex (.pointer (some ⟨b11, 0, none⟩)), .ex (.agg #[.slice A120 (nw (Zo (grp n) (x % ((grp n).q)))) c121]), .ex (.agg #[.slice A148 (nw (Zo (grp n) (y % ((grp n).q)))) c149]), .v (Qj ((Zo (grp n) (x % ((grp n).q))) * (Zo (grp n) (y % ((grp n).q))) % (grp n).p)), .ex (.agg #[.slice A177 (nw (Zo (grp n) (((x % ((grp n).q)) + (y % ((grp n).q))) % ((grp n).q)))) c178]), .v (Is (i64 (Ji ((Zo (grp n) (x % ((grp n).q))) * (Zo (grp n) (y % ((grp n).q))) % (grp n).p) (Zo (grp n) (((x % ((grp n).q)) + (y % ((grp n).q))) % ((grp n).q)))))), .ex (.bool (decide ((Ji ((Zo (grp n) (x % ((grp n).q))) * (Zo (grp n) (y % ((grp n).q))) % (grp n).p) (Zo (grp n) (((x % ((grp n).q)) + (y % ((grp n).q))) % ((grp n).q))) : Int) = (0 : Int)))), .ex (.bool (decide ((Ji ((Zo (grp n) (x % ((grp n).q))) * (Zo (grp n) (y % ((grp n).q))) % (grp n).p) (Zo (grp n) (((x % ((grp n).q)) + (y % ((grp n).q))) % ((grp n).q))) : Int) = (0 : Int)))), .ex (.bool (decide ((Ji ((Zo (grp n) (x % ((grp n).q))) * (Zo (grp n) (y % ((grp n).q))) % (grp n).p) (Zo (grp n) (((x % ((grp n).q)) + (y % ((grp n).q))) % ((grp n).q))) : Int) = (0 : Int)))), .ex undef, .ex undef, .ex undef, .ex (.bool false)]) [(23, 111)] Jg (by kernel_rfl) rfl h300 ⟨(oX [] rfl rfl rfl fun _ _ => Qa.move rfl), (oX [(0, 88)] rfl rfl rfl fun _ _ => Qa.eql rfl rfl), (oX [(1, 89)] rfl rfl rfl fun _ _ => Qa.move rfl), ?_, ?_, (oX [(2, 90), (4, 92)] rfl rfl rfl fun _ _ => Ql rfl (dT9 hp4) rfl), (oX [(5, 93)] rfl rfl rfl fun _ _ => Qa.move rfl), ?_, ?_, (oX [(6, 94), (8, 96)] rfl rfl rfl fun _ _ => Ql rfl (dT9 hp5) rfl), (oX [(9, 97)] rfl rfl rfl fun _ _ => Qa.move rfl), ?_, ?_, ?_, ?_, ?_, ?_, ?_, (oX [(10, 98), (17, 105)] rfl rfl rfl fun _ _ => Ql rfl (dT9 hp6) rfl), (oX [(18, 106)] rfl rfl rfl fun _ _ => Qa.move rfl), (Jj rfl rfl rfl rfl (dF9 hp7) rfl rfl), (Jj rfl rfl rfl rfl (dF9 hp7) rfl rfl), (Jj rfl rfl rfl rfl (dF9 hp7) rfl rfl), (oX [(19, 107)] rfl rfl rfl fun _ _ => Ql rfl (dF9 hp7) rfl), trivial⟩ (fun L808 w809 h810 s811 => ?_)
  ·refine QL [] rfl rfl rfl rfl (dT9 hp4) rfl fun L704 w705 h706 s707 => ?_
   exact ⟨_, Qa.move rfl, rfl⟩
  ·refine QL [(3, 91)] rfl rfl rfl rfl (dT9 hp4) rfl fun L708 w709 h710 s711 => ?_
   exact ⟨_, Qa.eql rfl rfl, rfl⟩
  ·refine QL [] rfl rfl rfl rfl (dT9 hp5) rfl fun L720 w721 h722 s723 => ?_
   exact ⟨_, Qa.move rfl, rfl⟩
  ·refine QL [(7, 95)] rfl rfl rfl rfl (dT9 hp5) rfl fun L724 w725 h726 s727 => ?_
   exact ⟨_, Qa.eql rfl rfl, rfl⟩
  ·refine QL [] rfl rfl rfl rfl (dT9 hp6) rfl fun L736 w737 h738 s739 => ?_
   exact ⟨_, Qa.move rfl, rfl⟩
  ·refine QL [] rfl rfl rfl rfl (dT9 hp6) rfl fun L740 w741 h742 s743 => ?_
   have c745 := s299.trans s743
   have c746 := s248.trans c745
   have c747 := c243.trans c746
   have o744 := o130.up c747
   exact ⟨_, Qb [.slice A120 (nw (Zo (grp n) (x % ((grp n).q)))) c121] o744 Qo rfl rfl, rfl⟩
  ·refine QL [] rfl rfl rfl rfl (dT9 hp6) rfl fun L748 w749 h750 s751 => ?_
   have c753 := s299.trans s751
   have c754 := c294.trans c753
   have o752 := o158.up c754
   exact ⟨_, Qb [.slice A148 (nw (Zo (grp n) (y % ((grp n).q)))) c149] o752 Qo rfl rfl, rfl⟩
  ·refine Zm [(11, 99), (12, 100), (13, 101)] rfl rfl rfl rfl (dT9 hp6) rfl Qkm fun L755 w756 h757 s758 => ?_
   have c759 := s299.trans s758
   have c760 := c294.trans c759
   have q761 := up c760 q165
   have c762 := s248.trans c759
   have c763 := c243.trans c762
   have c764 := c134.trans c763
   have q765 := up c764 q118
   have c766 := c162.trans c760
   have q767 := up c766 q146
   exact ⟨_, rfl, (QaA h757 q761 q765 q767 (show okG (grp n) from by exact hG) (show nw (Zo (grp n) (x % ((grp n).q))) ≤ 1000 from by exact Nat.le_trans (Qau hG _) (by omega)) (show nw (Zo (grp n) (y % ((grp n).q))) ≤ 1000 from by exact Nat.le_trans (Qau hG _) (by omega)))⟩
  ·refine QL [] rfl rfl rfl rfl (dT9 hp6) rfl fun L768 w769 h770 s771 => ?_
   have c773 := s299.trans s771
   have c774 := s248.trans c773
   have c775 := s198.trans c774
   have o772 := o187.up c775
   exact ⟨_, Qb [.slice A177 (nw (Zo (grp n) (((x % ((grp n).q)) + (y % ((grp n).q))) % ((grp n).q)))) c178] o772 Qo rfl rfl, rfl⟩
  ·refine Zm [(14, 102), (15, 103)] rfl rfl rfl rfl (dT9 hp6) rfl ZF fun L776 w777 h778 s779 v780 q781 => ?_
   obtain ⟨A782, c783, rfl⟩ := Qj.shape q781
   have z784 := Qj.cap q781
   have c785 := s299.trans s779
   have c786 := s248.trans c785
   have c787 := s198.trans c786
   have c788 := c191.trans c787
   have q789 := up c788 q175
   exact ⟨_, rfl, (J1 h778 q781 q789)⟩
  ·refine QL [(16, 104)] rfl rfl rfl rfl (dT9 hp6) rfl fun L790 w791 h792 s793 v794 q795 => ?_
   have q795 := Is.out q795; subst q795
   exact ⟨_, Qa.eql rfl rfl, rfl⟩
  refine sv (Qa.assign rfl) ?_
  refine Seq.next ?_
  have c812 := s299.trans s811
  have c813 := s248.trans c812
  have c814 := s198.trans c813
  have c815 := c193.trans c814
  have c816 := c108.trans c815
  have c817 := s9.trans c816
  have c818 := s4.trans c817
  obtain ⟨⟨zU, zo⟩, zb⟩ := hX c818 (by decide)
  refine Run.ret ?_
  exact Qn Try.results14 rfl ⟨_, rfl, (Jb (by exact absurd (Qip hG (Qi8 n) hp1 hp2 hp3) hp7) _ _), zb⟩
 refine Run.open 24 (Φ := [.ex (i64 (if (x % ((grp n).q)) = 0 then 1 else 0)), .ex (.bool (decide ((if (x % ((grp n).q)) = 0 then 1 else 0 : Int) = (0 : Int)))), .ex (.bool (decide ((if (x % ((grp n).q)) = 0 then 1 else 0 : Int) = (0 : Int)))), .ex (i64 (if (y % ((grp n).q)) = 0 then 1 else 0)), .ex (.bool (decide ((if (y % ((grp n).q)) = 0 then 1 else 0 : Int) = (0 : Int)))), .ex (.bool (decide ((if (y % ((grp n).q)) = 0 then 1 else 0 : Int) = (0 : Int)))), .ex (.bool (decide ((if (y % ((grp n).q)) = 0 then 1 else 0 : Int) = (0 : Int)))), .ex (i64 (if (((x % ((grp n).q)) + (y % ((grp n).q))) % ((grp n).q)) = 0 then 1 else 0)), .ex (.bool (decide ((if (((x % ((grp n).q)) + (y % ((grp n).q))) % ((grp n).q)) = 0 then 1 else 0 : Int) = (0 : Int)))), .ex (.bool (decide ((if (((x % ((grp n).q)) + (y % ((grp n).q))) % ((grp n).q)) = 0 then 1 else 0 : Int) = (0 : Int)))), .ex (.bool (decide ((if (((x % ((grp n).q)) + (y % ((grp n).q))) % ((grp n).q)) = 0 then 1 else 0 : Int) = (0 : Int)))), .ex (.pointer (some ⟨b11, 0, none⟩)), .ex (.agg #[.slice A120 (nw (Zo (grp n) (x % ((grp n).q)))) c121]), .ex (.agg #[.slice A148 (nw (Zo (grp n) (y % ((grp n).q)))) c149]), .v (Qj ((Zo (grp n) (x % ((grp n).q))) * (Zo (grp n) (y % ((grp n).q))) % (grp n).p)), .ex (.agg #[.slice A177 (nw (Zo (grp n) (((x % ((grp n).q)) + (y % ((grp n).q))) % ((grp n).q)))) c178]), .v (Is (i64 (Ji ((Zo (grp n) (x % ((grp n).q))) * (Zo (grp n) (y % ((grp n).q))) % (grp n).p) (Zo (grp n) (((x % ((grp n).q)) + (y % ((grp n).q))) % ((grp n).q)))))), .ex (.bool (decide ((Ji ((Zo (grp n) (x % ((grp n).q))) * (Zo (grp n) (y % ((grp n).q))) % (grp n).p) (Zo (grp n) (((x % ((grp n).q)) + (y % ((grp n).q))) % ((grp n).q))) : Int) = (0 : Int)))), .ex (.bool (decide ((Ji ((Zo (grp n) (x % ((grp n).q))) * (Zo (grp n) (y % ((grp n).q))) % (grp n).p) (Zo (grp n) (((x % ((grp n).q)) + (y % ((grp n).q))) % ((grp n).q))) : Int) = (0 : Int)))), .ex (.bool (decide ((Ji ((Zo (grp n) (x % ((grp n).q))) * (Zo (grp n) (y % ((grp n).q))) % (grp n).p) (Zo (grp n) (((x % ((grp n).q)) + (y % ((grp n).q))) % ((grp n).q))) : Int) = (0 : Int)))), .ex (.pointer (some ⟨b11, 0, none⟩)), .ex (.agg #[.slice A177 (nw (Zo (grp n) (((x % ((grp n).q)) + (y % ((grp n).q))) % ((grp n).q)))) c178]), .v (Is (.bool (decide (ZE (grp n) (Zo (grp n) (((x % ((grp n).q)) + (y % ((grp n).q))) % ((grp n).q))))))), .ex (.bool (decide (ZE (grp n) (Zo (grp n) (((x % ((grp n).q)) + (y % ((grp n).q))) % ((grp n).q))))))]) [(23, 111)] Jg (by kernel_rfl) rfl h300 ⟨(oX [] rfl rfl rfl fun _ _ => Qa.move rfl), (oX [(0, 88)] rfl rfl rfl fun _ _ => Qa.eql rfl rfl), (oX [(1, 89)] rfl rfl rfl fun _ _ => Qa.move rfl), ?_, ?_, (oX [(2, 90), (4, 92)] rfl rfl rfl fun _ _ => Ql rfl (dT9 hp4) rfl), (oX [(5, 93)] rfl rfl rfl fun _ _ => Qa.move rfl), ?_, ?_, (oX [(6, 94), (8, 96)] rfl rfl rfl fun _ _ => Ql rfl (dT9 hp5) rfl), (oX [(9, 97)] rfl rfl rfl fun _ _ => Qa.move rfl), ?_, ?_, ?_, ?_, ?_, ?_, ?_, (oX [(10, 98), (17, 105)] rfl rfl rfl fun _ _ => Ql rfl (dT9 hp6) rfl), (oX [(18, 106)] rfl rfl rfl fun _ _ => Qa.move rfl), ?_, ?_, ?_, ?_, trivial⟩ (fun L681 w682 h683 s684 => ?_)
 ·refine QL [] rfl rfl rfl rfl (dT9 hp4) rfl fun L552 w553 h554 s555 => ?_
  exact ⟨_, Qa.move rfl, rfl⟩
 ·refine QL [(3, 91)] rfl rfl rfl rfl (dT9 hp4) rfl fun L556 w557 h558 s559 => ?_
  exact ⟨_, Qa.eql rfl rfl, rfl⟩
 ·refine QL [] rfl rfl rfl rfl (dT9 hp5) rfl fun L568 w569 h570 s571 => ?_
  exact ⟨_, Qa.move rfl, rfl⟩
 ·refine QL [(7, 95)] rfl rfl rfl rfl (dT9 hp5) rfl fun L572 w573 h574 s575 => ?_
  exact ⟨_, Qa.eql rfl rfl, rfl⟩
 ·refine QL [] rfl rfl rfl rfl (dT9 hp6) rfl fun L584 w585 h586 s587 => ?_
  exact ⟨_, Qa.move rfl, rfl⟩
 ·refine QL [] rfl rfl rfl rfl (dT9 hp6) rfl fun L588 w589 h590 s591 => ?_
  have c593 := s299.trans s591
  have c594 := s248.trans c593
  have c595 := c243.trans c594
  have o592 := o130.up c595
  exact ⟨_, Qb [.slice A120 (nw (Zo (grp n) (x % ((grp n).q)))) c121] o592 Qo rfl rfl, rfl⟩
 ·refine QL [] rfl rfl rfl rfl (dT9 hp6) rfl fun L596 w597 h598 s599 => ?_
  have c601 := s299.trans s599
  have c602 := c294.trans c601
  have o600 := o158.up c602
  exact ⟨_, Qb [.slice A148 (nw (Zo (grp n) (y % ((grp n).q)))) c149] o600 Qo rfl rfl, rfl⟩
 ·refine Zm [(11, 99), (12, 100), (13, 101)] rfl rfl rfl rfl (dT9 hp6) rfl Qkm fun L603 w604 h605 s606 => ?_
  have c607 := s299.trans s606
  have c608 := c294.trans c607
  have q609 := up c608 q165
  have c610 := s248.trans c607
  have c611 := c243.trans c610
  have c612 := c134.trans c611
  have q613 := up c612 q118
  have c614 := c162.trans c608
  have q615 := up c614 q146
  exact ⟨_, rfl, (QaA h605 q609 q613 q615 (show okG (grp n) from by exact hG) (show nw (Zo (grp n) (x % ((grp n).q))) ≤ 1000 from by exact Nat.le_trans (Qau hG _) (by omega)) (show nw (Zo (grp n) (y % ((grp n).q))) ≤ 1000 from by exact Nat.le_trans (Qau hG _) (by omega)))⟩
 ·refine QL [] rfl rfl rfl rfl (dT9 hp6) rfl fun L616 w617 h618 s619 => ?_
  have c621 := s299.trans s619
  have c622 := s248.trans c621
  have c623 := s198.trans c622
  have o620 := o187.up c623
  exact ⟨_, Qb [.slice A177 (nw (Zo (grp n) (((x % ((grp n).q)) + (y % ((grp n).q))) % ((grp n).q)))) c178] o620 Qo rfl rfl, rfl⟩
 ·refine Zm [(14, 102), (15, 103)] rfl rfl rfl rfl (dT9 hp6) rfl ZF fun L624 w625 h626 s627 v628 q629 => ?_
  obtain ⟨A630, c631, rfl⟩ := Qj.shape q629
  have z632 := Qj.cap q629
  have c633 := s299.trans s627
  have c634 := s248.trans c633
  have c635 := s198.trans c634
  have c636 := c191.trans c635
  have q637 := up c636 q175
  exact ⟨_, rfl, (J1 h626 q629 q637)⟩
 ·refine QL [(16, 104)] rfl rfl rfl rfl (dT9 hp6) rfl fun L638 w639 h640 s641 v642 q643 => ?_
  have q643 := Is.out q643; subst q643
  exact ⟨_, Qa.eql rfl rfl, rfl⟩
 ·refine QL [] rfl rfl rfl rfl (dT9 hp7) rfl fun L652 w653 h654 s655 => ?_
  exact ⟨_, Qa.move rfl, rfl⟩
 ·refine QL [] rfl rfl rfl rfl (dT9 hp7) rfl fun L656 w657 h658 s659 => ?_
  have c661 := s299.trans s659
  have c662 := s248.trans c661
  have c663 := s198.trans c662
  have o660 := o187.up c663
  exact ⟨_, Qb [.slice A177 (nw (Zo (grp n) (((x % ((grp n).q)) + (y % ((grp n).q))) % ((grp n).q)))) c178] o660 Qo rfl rfl, rfl⟩
 ·refine Zm [(20, 108), (21, 109)] rfl rfl rfl rfl (dT9 hp7) rfl Qhi fun L664 w665 h666 s667 => ?_
  have c668 := s299.trans s667
  have c669 := c294.trans c668
  have q670 := up c669 q165
  have c671 := s248.trans c668
  have c672 := s198.trans c671
  have c673 := c191.trans c672
  have q674 := up c673 q175
  exact ⟨_, rfl, (Y6 h666 q670 q674 (show okG (grp n) from by exact hG) (show nw (Zo (grp n) (((x % ((grp n).q)) + (y % ((grp n).q))) % ((grp n).q))) ≤ 1000 from by exact Nat.le_trans (Qau hG _) (by omega)))⟩
 ·refine oP [(19, 107), (22, 110)] rfl rfl fun L675 w676 h677 s678 v679 q680 => ?_
  have q680 := Is.out q680; subst q680
  exact ⟨_, Ql rfl (dT9 hp7) rfl, rfl⟩
 refine sv (Qa.assign rfl) ?_
 refine Seq.next ?_
 have c685 := s299.trans s684
 have c686 := s248.trans c685
 have c687 := s198.trans c686
 have c688 := c193.trans c687
 have c689 := c108.trans c688
 have c690 := s9.trans c689
 have c691 := s4.trans c690
 obtain ⟨⟨zU, zo⟩, zb⟩ := hX c691 (by decide)
 refine Run.ret ?_
 exact Qn Try.results14 rfl ⟨_, rfl, (Jb (by exact dT9 (Qio hG (Qi8 n) hp3)) _ _), zb⟩
end Go.Proofs.Ytgfomedobfaidaa
end
section
set_option linter.unusedVariables false
set_option linter.unusedSimpArgs false
namespace Go.Proofs.Ytgfomedobfaidaa
open Go.ChangeShapes Go.WideShapes Go.ChangeAt Go.RowKit Go.Deep
abbrev Xu : Lab := fun _ => none
theorem Qj6 (w : World) : Qm Xu w := fun _ _ => rfl
section
variable {H : Type} {enc : TypeId × Value → H} {P : Program} {w : World} {base : Nat} {spare : Nat → Bool} {held : Bool}
theorem Qg6 {t : TypeId} {c : Value} {n : Nat} {y : DataW H × List MemPlace} (ht : P.underlying t = some (.int .i64)) (h : DataW.trod enc P w base spare held n t [c] = some y) : ∃ x, c = i64 x ∧ -9223372036854775808 ≤ x ∧ x < 9223372036854775808 := by
 obtain ⟨x, hx, _, hw⟩ := DataW.trod_int ht h
 simp at hx
 have h1 : IntKind.i64.min = -9223372036854775808 := rfl
 have h2 : IntKind.i64.max = 9223372036854775807 := rfl
 simp only [Lit.wf, Bool.and_eq_true, decide_eq_true_eq] at hw
 exact ⟨x, hx, by omega, by omega⟩
theorem UG {f : Func} {s : ChangeSpec} {apart fresh handsOn again : Bool} {W W' : World} {args : Array Value} {v : Value} {ds gs : List (DataW H)} {before pa pv : List MemPlace}
  (hW : DataW.Whole enc P f.params.toList s.vars apart W args.toList ds gs before)
  (hres : ∀ (b : Nat) (sp : Nat → Bool) (hd : Bool), DataW.TrodAll enc P W' b sp hd f.resultTypes.toList (v.resultList f.resultTypes.size) (s.fn H (ds ++ gs)).results [])
  (hargs : ∀ sp : Nat → Bool, (∀ p ∈ before, sp p.block = true) → DataW.TrodAll enc P W' 0 sp true f.params.toList args.toList (s.fn H (ds ++ gs)).args pa)
  (hvars : ∀ sp : Nat → Bool, (∀ p ∈ before, sp p.block = true) → DataW.TrodVars enc P W' sp s.vars (s.fn H (ds ++ gs)).vars pv)
  (hps : before = pa ++ pv) (hb : Below W.heap.size W W')
  (hok : ∀ (j : Nat) (t : TypeId) (r : Value), f.resultTypes[j]? = some t → (v.resultList f.resultTypes.size)[j]? = some r → Value.okWide P W' .any 0 t r) :
  s.post enc P f apart fresh handsOn again W args v W' := by
 have hlt : ∀ p ∈ before, p.block < W.heap.size := fun p hp => hW.lt p hp
 have hold : ∀ p ∈ before, (fun b => decide (b < W.heap.size)) p.block = true := fun p hp => by simpa using hlt p hp
 refine ⟨ds, gs, before, [], pa, pv, hW, hres _ _ _, hargs _ hold, hvars _ hold, World.keptBut_mono (fun p hp => ⟨hp, ?_⟩) (hb.frame (· ∈ before)), fun _ => ?_⟩
 ·rw [hps, List.mem_append] at hp
  exact Or.inr hp
 ·obtain ⟨_, _, _, _, _, hz, hn⟩ := hW
  refine ⟨hok, _, _, ([] ++ pa) ++ pv, ⟨[] ++ pa, pv, trodAll_append (hargs _ (fun _ _ => rfl)) (hres _ _ _), hvars _ (fun _ _ => rfl), rfl, ?_, ?_⟩, ?_⟩
  ·intro b off hp
   have hin : MemPlace.cell b off ∈ before := by rw [hps]; simpa using hp
   rw [hb.frozen (hlt _ hin)]
   exact hz b off hin
  ·intro ha
   have := hn ha
   rw [hps] at this
   simpa using this
  ·intro p hp _
   rw [hps]
   simpa using hp
theorem Kx {t : TypeId} (hl : laidOutB P = true) (hr : P.readableRec t = true) (hrow : t < P.types.size) {W W' : World} {v : Value} {d : DataW H} {ps : List MemPlace} (h : DataW.Trod enc P W 0 (fun _ => true) true t v d ps) (hb : Below W.heap.size W W') (hlt : ∀ x ∈ ps, x.block < W.heap.size) {sp : Nat → Bool} (hs : ∀ p ∈ ps, sp p.block = true) : DataW.Trod enc P W' 0 sp true t v d ps :=
 WideElems.Trod_stays hl hr hrow h (fun x hx => hb.same (hlt x hx)) hs
end
end Go.Proofs.Ytgfomedobfaidaa
end
section
set_option linter.unusedVariables false
set_option linter.unusedSimpArgs false
namespace Go.Proofs.Ytgfomedobfaidaa
open Go.ChangeShapes Go.WideShapes Go.ChangeAt Go.RowKit
section
variable {H : Type} {enc : TypeId × Value → H} {P : Program} {w : World} {base : Nat} {spare : Nat → Bool} {held : Bool}
theorem Qcu {t : TypeId} {c : Value} {n : Nat} {y : DataW H × List MemPlace} (ht : P.underlying t = some (.int .u64)) (h : DataW.trod enc P w base spare held n t [c] = some y) : ∃ x : Nat, c = n64 x ∧ x < 18446744073709551616 := by
 obtain ⟨x, hx, _, hw⟩ := DataW.trod_int ht h
 simp at hx
 have h1 : IntKind.u64.min = 0 := rfl
 have h2 : IntKind.u64.max = 18446744073709551615 := rfl
 simp only [Lit.wf, Bool.and_eq_true, decide_eq_true_eq] at hw
 exact ⟨x.toNat, by rw [hx]; show Value.int .u64 x = Value.int .u64 ((x.toNat : Nat) : Int); rw [Int.toNat_of_nonneg (by omega)], by omega⟩
end
end Go.Proofs.Ytgfomedobfaidaa
end
section
set_option linter.unusedVariables false
namespace Go.Proofs.Ytgfomedobfaidaa
open Go.ChangeShapes Go.WideShapes Go.ChangeAt Go.RowKit
theorem signKeys_fact0 : (Rows.signKeysRow.wf (OpenSpec.ofChange Rows.signKeysSpec)) = true := by kernel_rfl
theorem signKeys_fact1 : (laidOutB Try.prog) = true := by kernel_rfl
theorem signKeys_fact2 : (mapsRowed Try.prog) = true := by kernel_rfl
theorem signKeys_fact3 : (Try.f14.params.all (Try.prog.readableRec ·)) = true := by kernel_rfl
theorem signKeys_fact4 : (namedTie Try.prog Rows.signKeysRow.named Rows.signKeysSpec.vars) = true := by kernel_rfl
theorem signKeys_fact5 : ((Rows.signKeysRow.stops == [])) = true := by kernel_rfl
theorem signKeys_fact6 : ((Try.prog.stops == [])) = true := by kernel_rfl
theorem signKeys_fact7 : ((Rows.signKeysRow.knobs == [])) = true := by kernel_rfl
theorem signKeys_fact8 : ((Try.prog.stopKnobs == [])) = true := by kernel_rfl
theorem signKeys_fact9 : ((Rows.signKeysRow.inPlace == Try.prog.inPlace 14)) = true := by kernel_rfl
theorem signKeys_fact10 : ((Rows.signKeysRow.unfollowed == Try.prog.unfollowed 14)) = true := by kernel_rfl
theorem signKeys_fact11 : ((Rows.signKeysRow.recurses == Try.prog.recurses 14)) = true := by kernel_rfl
theorem signKeys_fact12 : ((Rows.signKeysRow.named == Try.prog.varsNamed 14)) = true := by kernel_rfl
theorem signKeys_fact13 : ((Rows.signKeysRow.maps == (Try.f14.params.toList ++ Rows.signKeysSpec.plain.varTypes Try.prog).any (Try.prog.mapsRec ·))) = true := by kernel_rfl
theorem signKeys_fact14 : ((Rows.signKeysRow.ifaces == (Try.f14.params.toList ++ Rows.signKeysSpec.plain.varTypes Try.prog).any (Try.prog.ifacesRec ·))) = true := by kernel_rfl
theorem signKeys_fact15 : ((Rows.signKeysRow.mapsOut == Try.prog.mapsAmong Try.f14.resultTypes.toList)) = true := by kernel_rfl
theorem signKeys_fact16 : ((Rows.signKeysRow.loops == (Try.f14.params.toList ++ Rows.signKeysSpec.plain.varTypes Try.prog).any (Try.prog.loopsFrom ·))) = true := by kernel_rfl
theorem signKeys_fact17 : ((Rows.signKeysRow.wideKeys == (Try.f14.params.toList ++ Rows.signKeysSpec.plain.varTypes Try.prog ++ Try.f14.resultTypes.toList).any (Try.prog.wideKeysFrom ·))) = true := by kernel_rfl
theorem signKeys_fact18 : (Rows.signKeysSpec.vars.all (Try.prog.varReadable ·)) = true := by kernel_rfl
theorem signKeys_fact19 : (Try.f14.resultTypes.all (fun t => Try.prog.readableRec t && decide (t < Try.prog.types.size))) = true := by kernel_rfl
theorem signKeys_fact20 : ((Rows.signKeysRow.ifacesOut == Try.f14.resultTypes.toList.any (Try.prog.ifacesRec ·))) = true := by kernel_rfl
theorem signKeys_fact21 : ((Rows.signKeysRow.loopsOut == Try.f14.resultTypes.toList.any (Try.prog.loopsFrom ·))) = true := by kernel_rfl
theorem signKeys_fact22 : ((Rows.signKeysRow.plainKeys == Try.prog.plainKeys)) = true := by kernel_rfl
theorem signKeys_fact23 : (Rows.signKeysRow.shortTexts.isNone) = true := by kernel_rfl
theorem signKeys_fact24 : (Try.prog.stopsHeard) = true := by kernel_rfl
theorem signKeys_fact25 : (Try.prog.mayEnter) = true := by kernel_rfl
theorem signKeys_fact26 : ((Rows.signKeysRow.lifted == Try.prog.liftsFinal)) = true := by kernel_rfl
theorem signKeys_fact27 : ((Try.prog.make == some Rows.signKeysRow.make)) = true := by kernel_rfl
theorem signKeys_fact28 : ((Rows.signKeysRow.kinds == (if Rows.signKeysRow.domain.isEmpty then [] else Try.f14.params.toList.map fun t => match Try.prog.underlying t with | some (.int k) => some k | _ => none))) = true := by kernel_rfl
theorem signKeys_fact29 : ((Rows.signKeysRow.pinned == Rows.signKeysRow.pinnedBy)) = true := by kernel_rfl
theorem signKeys_fact30 : ((Rows.signKeysRow.veiled == (Try.f14.params.toList ++ Rows.signKeysSpec.plain.varTypes Try.prog ++ Try.f14.resultTypes.toList).any (Try.prog.veiledRec ·))) = true := by kernel_rfl
theorem signKeys_fact31 : (Rows.signKeysRow.veiledFits Try.prog Try.f14.params.toList (Try.f14.params.toList ++ Rows.signKeysSpec.plain.varTypes Try.prog ++ Try.f14.resultTypes.toList)) = true := by kernel_rfl
theorem signKeys_named : Try.prog.funcNamed Rows.signKeysRow.func = some 14 := by kernel_rfl
theorem signKeys_wrap : Try.f14.isWrapper Try.prog Rows.signKeysRow.wrapper Rows.signKeysRow.mainSum := by unfold Func.isWrapper; first | (rw [if_pos (by decide +kernel)]; kernel_rfl) | (rw [if_neg (by decide +kernel)]; exact ⟨rfl, rfl⟩)
theorem signKeys_inst : Try.f14.isInstance Try.prog Rows.signKeysRow.origin Rows.signKeysRow.targs := of_decide_eq_true (by kernel_rfl)
end Go.Proofs.Ytgfomedobfaidaa
end
section
set_option linter.unusedVariables false
namespace Go.Proofs.Ytgfomedobfaidaa
open Go.ChangeShapes Go.WideShapes Go.ChangeAt Go.RowKit
theorem Qfk (P : Program) (f : FuncId) (fn : Func) (s : ChangeSpec) (c : OpenClaim) (h0 : (c.wf (OpenSpec.ofChange s)) = true) (h1 : (laidOutB P) = true) (h2 : (mapsRowed P) = true) (h3 : (fn.params.all (P.readableRec ·)) = true) (h4 : (namedTie P c.named s.vars) = true) (h5 : ((c.stops == [])) = true) (h6 : ((P.stops == [])) = true) (h7 : ((c.knobs == [])) = true) (h8 : ((P.stopKnobs == [])) = true) (h9 : ((c.inPlace == P.inPlace f)) = true) (h10 : ((c.unfollowed == P.unfollowed f)) = true) (h11 : ((c.recurses == P.recurses f)) = true) (h12 : ((c.named == P.varsNamed f)) = true) (h13 : ((c.maps == (fn.params.toList ++ s.plain.varTypes P).any (P.mapsRec ·))) = true) (h14 : ((c.ifaces == (fn.params.toList ++ s.plain.varTypes P).any (P.ifacesRec ·))) = true) (h15 : ((c.mapsOut == P.mapsAmong fn.resultTypes.toList)) = true) (h16 : ((c.loops == (fn.params.toList ++ s.plain.varTypes P).any (P.loopsFrom ·))) = true) (h17 : ((c.wideKeys == (fn.params.toList ++ s.plain.varTypes P ++ fn.resultTypes.toList).any (P.wideKeysFrom ·))) = true) (h18 : (s.vars.all (P.varReadable ·)) = true) (h19 : (fn.resultTypes.all (fun t => P.readableRec t && decide (t < P.types.size))) = true) (h20 : ((c.ifacesOut == fn.resultTypes.toList.any (P.ifacesRec ·))) = true) (h21 : ((c.loopsOut == fn.resultTypes.toList.any (P.loopsFrom ·))) = true) (h22 : ((c.plainKeys == P.plainKeys)) = true) (h23 : (c.shortTexts.isNone) = true) (h24 : (P.stopsHeard) = true) (h25 : (P.mayEnter) = true) (h26 : ((c.lifted == P.liftsFinal)) = true) (h27 : ((P.make == some c.make)) = true) (h28 : ((c.kinds == (if c.domain.isEmpty then [] else fn.params.toList.map fun t => match P.underlying t with | some (.int k) => some k | _ => none))) = true) (h29 : ((c.pinned == c.pinnedBy)) = true) (h30 : ((c.veiled == (fn.params.toList ++ s.plain.varTypes P ++ fn.resultTypes.toList).any (P.veiledRec ·))) = true) (h31 : (c.veiledFits P fn.params.toList (fn.params.toList ++ s.plain.varTypes P ++ fn.resultTypes.toList)) = true) : joinedFacts P f fn s c = true := by
 unfold joinedFacts
 repeat rw [Bool.and_eq_true]
 exact ⟨⟨⟨⟨⟨⟨⟨⟨⟨⟨⟨⟨⟨⟨⟨⟨⟨⟨⟨⟨⟨⟨⟨⟨⟨⟨⟨⟨⟨⟨⟨h0, h1⟩, h2⟩, h3⟩, h4⟩, h5⟩, h6⟩, h7⟩, h8⟩, h9⟩, h10⟩, h11⟩, h12⟩, h13⟩, h14⟩, h15⟩, h16⟩, h17⟩, h18⟩, h19⟩, h20⟩, h21⟩, h22⟩, h23⟩, h24⟩, h25⟩, h26⟩, h27⟩, h28⟩, h29⟩, h30⟩, h31⟩
end Go.Proofs.Ytgfomedobfaidaa
end
section
set_option linter.constructorNameAsVariable false
set_option linter.unusedVariables false
namespace Go.Proofs.Ytgfomedobfaidaa
open Go.ChangeShapes Go.WideShapes Go.ChangeAt Go.RowKit
theorem Qg5 : ownKnob Try.prog.godebug = none := by kernel_rfl
theorem UT : laidOutB Try.prog = true := by kernel_rfl
section
variable {H : Type} {enc : TypeId × Value → H} {P : Program} {w : World} {base : Nat} {spare : Nat → Bool} {held : Bool}
theorem signKeys_args {t0 t1 t2 : TypeId} {args : Array Value} {ds : List (DataW H)} {ps : List MemPlace} (h : DataW.TrodAll enc P w base spare held [t0, t1, t2] args.toList ds ps) :
  ∃ v0 v1 v2 d0 d1 d2 p0 p1 p2, args = #[v0, v1, v2] ∧ ds = [d0, d1, d2] ∧ ps = p0 ++ (p1 ++ p2) ∧ DataW.Trod enc P w base spare held t0 v0 d0 p0 ∧ DataW.Trod enc P w base spare held t1 v1 d1 p1 ∧ DataW.Trod enc P w base spare held t2 v2 d2 p2 := by
 obtain ⟨v0, vs0, d0, ds0, p0, q0, hargs, rfl, rfl, h0, r0⟩ := trodAll_cons h
 obtain ⟨v1, vs1, d1, ds1, p1, q1, rfl, rfl, rfl, h1, r1⟩ := trodAll_cons r0
 obtain ⟨v2, vs2, d2, ds2, p2, q2, rfl, rfl, rfl, h2, r2⟩ := trodAll_cons r1
 obtain ⟨rfl, rfl, rfl⟩ := trodAll_nil r2
 exact ⟨v0, v1, v2, d0, d1, d2, p0, p1, p2, by cases args; simp_all, rfl, by simp, h0, h1, h2⟩
theorem signKeys_mk {t0 t1 t2 : TypeId} {v0 v1 v2 : Value} {d0 d1 d2 : DataW H} {p0 p1 p2 : List MemPlace} (h0 : DataW.Trod enc P w base spare held t0 v0 d0 p0) (h1 : DataW.Trod enc P w base spare held t1 v1 d1 p1) (h2 : DataW.Trod enc P w base spare held t2 v2 d2 p2) : DataW.TrodAll enc P w base spare held [t0, t1, t2] [v0, v1, v2] [d0, d1, d2] (p0 ++ (p1 ++ p2)) :=
 ⟨_, _, h0, ⟨_, _, h1, trodAll_mk1 h2, rfl⟩, rfl⟩
end
theorem signKeys_lifted (os : Os) (started : os.Started) (H : Type) (enc : TypeId × Value → H) :
  ReturnsInHanded {} Try.checked os 14 .any (Rows.signKeysSpec.pre6 enc Try.prog Try.f14 Rows.signKeysRow.domain false) (Rows.signKeysSpec.post enc Try.prog Try.f14 false true false false) := by
 refine returnsInHanded_of_change (C := Try.checked) Qg5 started (by kernel_rfl) Try.func14
  (ChangeSpec.witness6 (enc := enc) (C := Try.checked) false ⟨#[], #[.int .i64 0, .int .u64 0, .int .u64 0], []⟩ 8 (by kernel_rfl) (by kernel_rfl) (by kernel_rfl) (by kernel_rfl)) ?_
 intro W base args ds gs before hval0 hW hcnd _
 have hval : ∀ (j : Nat) t v, Try.f14.params[j]? = some t → args[j]? = some v → Value.okWide Try.prog W .any base t v := hval0
 have hW' := hW
 obtain ⟨p, q, hA0, hV, rfl, hfz, hnd⟩ := hW
 have hA : DataW.TrodAll enc Try.prog W 0 (fun _ => true) true Try.f14.params.toList args.toList ds p := hA0
 rw [Try.params14] at hA hval
 obtain ⟨v0, v1, v2, d0, d1, d2, p0, p1, p2, rfl, rfl, rfl, h0, h1, h2⟩ := signKeys_args hA
 obtain ⟨rfl, rfl⟩ := trodVars_none hV
 obtain ⟨n, rfl⟩ := okWide_int Try.underlying3 (hval 0 3 v0 rfl rfl)
 have h0' := h0
 obtain ⟨f0, hf0⟩ := h0'
 obtain ⟨_, hx0, lo0, hi0⟩ := Qg6 Try.underlying3 hf0
 cases hx0
 obtain ⟨z1, rfl⟩ := okWide_int Try.underlying62 (hval 1 62 v1 rfl rfl)
 have h1' := h1
 obtain ⟨f1, hf1⟩ := h1'
 obtain ⟨x, hx1, hi1⟩ := Qcu Try.underlying62 hf1
 cases hx1
 obtain ⟨z2, rfl⟩ := okWide_int Try.underlying62 (hval 2 62 v2 rfl rfl)
 have h2' := h2
 obtain ⟨f2, hf2⟩ := h2'
 obtain ⟨y, hx2, hi2⟩ := Qcu Try.underlying62 hf2
 cases hx2
 clear hA0 hval0
 simp only [List.append_nil] at hW'
 refine (Qab (Qj6 W) (n := n) (x := x) (y := y) hi1 hi2).mono fun e W' ⟨v, he, hv, hb⟩ => ?_
 subst he
 have hv2 := Is.out hv
 subst hv2
 have hlt : ∀ x ∈ p0 ++ (p1 ++ p2), x.block < W.heap.size := fun x hx => by simpa using hW'.lt x hx
 have l0 : ∀ x ∈ p0, x.block < W.heap.size := fun x hx => hlt x (by simp [hx])
 have l1 : ∀ x ∈ p1, x.block < W.heap.size := fun x hx => hlt x (by simp [hx])
 have l2 : ∀ x ∈ p2, x.block < W.heap.size := fun x hx => hlt x (by simp [hx])
 exact ⟨_, rfl, UG (pa := p0 ++ (p1 ++ p2)) (pv := []) hW' (fun _ _ _ => trodAll_mk1 (shut_bool Try.underlying4 true))
  (fun sp hsp => signKeys_mk (Kx UT (by kernel_rfl) (of_decide_eq_true (by kernel_rfl)) h0 hb l0 (fun x hx => hsp x (by simp [hx]))) (Kx UT (by kernel_rfl) (of_decide_eq_true (by kernel_rfl)) h1 hb l1 (fun x hx => hsp x (by simp [hx]))) (Kx UT (by kernel_rfl) (of_decide_eq_true (by kernel_rfl)) h2 hb l2 (fun x hx => hsp x (by simp [hx]))))
  (fun _ _ => rfl) (by simp) hb (ok_one (by kernel_rfl) rfl (okWide_bool_mk Try.underlying4 _))⟩
theorem signKeys_closed : joinedFacts Try.prog 14 Try.f14 Rows.signKeysSpec Rows.signKeysRow = true :=
 Qfk Try.prog 14 Try.f14 Rows.signKeysSpec Rows.signKeysRow signKeys_fact0 signKeys_fact1 signKeys_fact2 signKeys_fact3 signKeys_fact4 signKeys_fact5 signKeys_fact6 signKeys_fact7 signKeys_fact8 signKeys_fact9 signKeys_fact10 signKeys_fact11 signKeys_fact12 signKeys_fact13 signKeys_fact14 signKeys_fact15 signKeys_fact16 signKeys_fact17 signKeys_fact18 signKeys_fact19 signKeys_fact20 signKeys_fact21 signKeys_fact22 signKeys_fact23 signKeys_fact24 signKeys_fact25 signKeys_fact26 signKeys_fact27 signKeys_fact28 signKeys_fact29 signKeys_fact30 signKeys_fact31
theorem signKeys_holds : Rows.SignKeysSaid :=
 OpenClaim.holds_of_wide 14 Try.f14 rfl rfl rfl rfl rfl rfl rfl ⟨rfl, rfl, rfl, rfl, rfl⟩ rfl rfl rfl rfl rfl signKeys_named Try.func14 signKeys_closed
  signKeys_inst signKeys_wrap (fun os started H enc _ => signKeys_lifted os started H enc)
end Go.Proofs.Ytgfomedobfaidaa
end
#print axioms Go.Proofs.Ytgfomedobfaidaa.signKeys_holds
