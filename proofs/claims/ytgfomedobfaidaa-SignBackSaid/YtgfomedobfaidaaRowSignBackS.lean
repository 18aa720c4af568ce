import Derived.Test.YtgfomedobfaidaaMSignBack9
import Derived.Carry
import Derived.Deep.Fields
import Derived.ProofKit
import Derived.Test.YtgfomedobfaidaaRows
set_option maxHeartbeats 8000000
set_option maxRecDepth 1000000
/-
  The row of SignBack: that the law answers true of every input; part 10 of 10: what the proof needs, in order.
-/
section
set_option linter.unusedVariables false
set_option linter.unusedSimpArgs false
namespace Go.Proofs.Ytgfomedobfaidaa
open Go.RowKit
theorem Qal {lab : Lab} {w : World} (hv : Ql lab w) {n : Int} {x : Nat} {msg : List UInt8} {v2 : Value} (h2 : Qe msg lab w v2) {b : UInt8} (hx : x < 18446744073709551616) :
  Calls Try.prog 13 #[i64 n, n64 x, v2, u8 b] w (fun e w' => ∃ v, e = .returned v ∧ (Is (.bool true)) lab w' v ∧ Below w.heap.size w w') := by
 obtain ⟨L0, h0L, ⟨zU0, z00⟩, hX⟩ := QZ hv
 replace h2 := up z00 h2
 obtain ⟨A1, c2, rfl⟩ := Qe.shape h2
 have z3 := Qe.cap h2
 have hG := Vv n
 have hsl1 := UI hG 1 msg
 have hsl2 := UI hG (x % (grp n).q) msg
 have gq1 := hG.2.1
 have gqn := hG.2.2.2.1
 have hnx : nw x ≤ 2 := Xi (n := 2) (by omega)
 refine Qu Try.func13 rfl Try.ntmps13 (lB9 rfl) ?_
 refine rsr ?_
 refine sv (Qa.assign rfl) ?_
 refine Seq.next ?_
 refine Run.seq ?_
 refine rsr ?_
 refine Q7 (V := Is (.bool true)) Qks h0L rfl (Kp h0L ) fun v4 w5 q6 s7 h8 => ?_
 have q6 := Is.out q6; subst q6
 refine sv (Qa.not rfl) ?_
 refine sv (Qa.move rfl) ?_
 refine Qh rfl rfl rfl ?_
 refine sv (Qa.move rfl) ?_
 refine Qh rfl rfl rfl ?_
 refine sv (Qa.len Try.underlying22 rfl) ?_
 refine Qh rfl rfl rfl ?_
 refine sv (Qa.gtr rfl rfl) ?_
 refine sv (Ju rfl rfl) ?_
 refine Seq.next ?_
 rcases Decidable.em ((300 : Int) < (((List.length msg : Nat) : Int) : Int)) with hp1 | hp1
 ·refine Qc rfl (dT9 hp1) ?_
  refine rsr ?_
  refine Q7 (V := Is (.bool true)) Qks h8 rfl (Kp h8 ) fun v9 w10 q11 s12 h13 => ?_
  have q11 := Is.out q11; subst q11
  refine sv (Qa.assign rfl) ?_
  refine Seq.next ?_
  have c14 := s7.trans s12
  obtain ⟨⟨zU, zo⟩, zb⟩ := hX c14 (by decide)
  refine Run.ret (Qr ?_)
  exact Qm Try.results13 rfl ⟨_, rfl, rfl, zb⟩
 refine Qc rfl (dF9 hp1) ?_
 refine Qg (fun _ _ h => h) ?_
 refine rsr ?_
 refine sv (Qa.move rfl) ?_
 refine Q7 (V := Js (grp n)) Qku h8 rfl (VA h8 (n := n)) fun v15 w16 q17 s18 h19 => ?_
 obtain ⟨b20, rfl⟩ := YH.shape q17
 refine sv (Qa.assign rfl) ?_
 refine Seq.next ?_
 refine Run.seq ?_
 refine rsr ?_
 refine sv (Qa.move rfl) ?_
 refine sv (Jf Try.underlying56 rfl rfl) ?_
 refine Seq.next ?_
 refine Qc rfl rfl ?_
 refine Qg (fun _ _ h => h) ?_
 refine rsr ?_
 refine sv (Qa.move rfl) ?_
 refine Q7 (V := JO ((grp n).q)) QbT h19 rfl (Z8 h19 q17) fun v21 w22 q23 s24 h25 => ?_
 obtain ⟨b26, rfl⟩ := YH.shape q23
 refine sv (Qa.move rfl) ?_
 refine Q7 (V := Qi x) JN h25 rfl (QX h25 (x := x) (show x < 18446744073709551616 from by assumption)) fun v27 w28 q29 s30 h31 => ?_
 obtain ⟨A32, c33, rfl⟩ := Qi.shape q29
 have z34 := Qi.cap q29
 have q35 := up s30 q23
 refine Q7 (V := Qi (x % ((grp n).q))) VQ h31 rfl (Yk h31 q35 q29 (show 1 < ((grp n).q) from by assumption) (show nw x ≤ 999999 from by omega) (show nw ((grp n).q) ≤ 1000000 from by omega)) fun v36 w37 q38 s39 h40 => ?_
 obtain ⟨A41, c42, rfl⟩ := Qi.shape q38
 have z43 := Qi.cap q38
 refine QM 11 [.slice none 0 0] h40 Qn rfl fun b46 L44 w45 o47 s48 h49 => ?_
 refine Q2 [.slice A41 (nw (x % ((grp n).q))) c42] h49 o47 Qn rfl rfl rfl (lB9 rfl) rfl rfl fun w50 o51 s52 h53 => ?_
 refine Seq.next ?_
 refine Run.seq ?_
 refine rsr ?_
 refine sv (Qb [.slice A41 (nw (x % ((grp n).q))) c42] o51 Qn rfl rfl) ?_
 have c54 := s48.trans s52
 have q55 := up c54 q38
 refine Q7 (V := Is (.bool (decide ((x % ((grp n).q)) = 0)))) X1 h53 rfl (Zb h53 q55) fun v56 w57 q58 s59 h60 => ?_
 have q58 := Is.out q58; subst q58
 refine Seq.next ?_
 rcases Decidable.em ((x % ((grp n).q)) = 0) with hp2 | hp2
 ·refine Qc rfl (dT9 hp2) ?_
  refine Run.region ?_
  refine Q7 (V := Qi 1) JN h60 rfl (QX h60 (x := 1) (show 1 < 18446744073709551616 from by omega)) fun v61 w62 q63 s64 h65 => ?_
  obtain ⟨A66, c67, rfl⟩ := Qi.shape q63
  have z68 := Qi.cap q63
  have c70 := s59.trans s64
  have o69 := o51.up c70
  refine Q2 [.slice A66 (nw 1) c67] h65 o69 Qn rfl rfl rfl (lB9 rfl) rfl rfl fun w71 o72 s73 h74 => ?_
  refine nsr ?_
  refine sv (Qa.move rfl) ?_
  refine sv (Qb [.slice A66 (nw 1) c67] o72 Qn rfl rfl) ?_
  refine sv (Qa.move rfl) ?_
  have c75 := c70.trans s73
  have c76 := c54.trans c75
  have c77 := s39.trans c76
  have c78 := s30.trans c77
  have c79 := s24.trans c78
  have q80 := up c79 q17
  have q81 := up s73 q63
  have c82 := s18.trans c79
  have c83 := s7.trans c82
  have q84 := up c83 h2
  refine Q7 (V := Zo (Qe (Jk (grp n) 1 msg)) (Is (i64 0))) QfD h74 rfl (Y3 h74 q80 q81 q84 (show okG (grp n) from by exact hG) (show JR (grp n) 1 from by exact QbK hG) (show List.length msg ≤ 4000000 from by omega)) fun v85 w86 q87 s88 h89 => ?_
  obtain ⟨v90, v91, rfl, q92, q93⟩ := q87
  obtain ⟨A94, c95, rfl⟩ := Qe.shape q92
  have z96 := Qe.cap q92
  have q93 := Is.out q93; subst q93
  refine sv (Qa.move rfl) ?_
  refine sv (Qa.extract rfl rfl) ?_
  refine sv (Qa.extract rfl rfl) ?_
  refine sv (Qa.assign rfl) ?_
  refine sv (Qa.assign rfl) ?_
  refine nsr ?_
  refine sv (Qa.move rfl) ?_
  have o97 := o72.up s88
  refine sv (Qb [.slice A66 (nw 1) c67] o97 Qn rfl rfl) ?_
  refine sv (Qa.move rfl) ?_
  have q98 := up s88 q80
  have q99 := up s88 q81
  have q100 := up s88 q84
  refine Q7 (V := Zo (Qe (Jk (grp n) 1 msg)) (Is (i64 0))) QfD h89 rfl (Y3 h89 q98 q99 q100 (show okG (grp n) from by exact hG) (show JR (grp n) 1 from by exact QbK hG) (show List.length msg ≤ 4000000 from by omega)) fun v101 w102 q103 s104 h105 => ?_
  obtain ⟨v106, v107, rfl, q108, q109⟩ := q103
  obtain ⟨A110, c111, rfl⟩ := Qe.shape q108
  have z112 := Qe.cap q108
  have q109 := Is.out q109; subst q109
  refine sv (Qa.move rfl) ?_
  refine sv (Qa.extract rfl rfl) ?_
  refine sv (Qa.extract rfl rfl) ?_
  refine sv (Qa.assign rfl) ?_
  refine sv (Qa.assign rfl) ?_
  refine nsr ?_
  refine sv (Qa.move rfl) ?_
  have o113 := o97.up s104
  refine sv (Qb [.slice A66 (nw 1) c67] o113 Qn rfl rfl) ?_
  have q114 := up s104 q98
  have q115 := up s104 q99
  refine Q7 (V := Zo (Qi ((grp n).g ^ 1 % (grp n).p)) (Is (i64 0))) Qho h105 rfl (YM h105 q114 q115 (show okG (grp n) from by exact hG) (show JR (grp n) 1 from by exact QbK hG)) fun v116 w117 q118 s119 h120 => ?_
  obtain ⟨v121, v122, rfl, q123, q124⟩ := q118
  obtain ⟨A125, c126, rfl⟩ := Qi.shape q123
  have z127 := Qi.cap q123
  have q124 := Is.out q124; subst q124
  refine sv (Qa.move rfl) ?_
  refine sv (Qa.extract rfl rfl) ?_
  refine sv (Qa.extract rfl rfl) ?_
  refine QM 16 [.slice none 0 0] h120 Qn rfl fun b130 L128 w129 o131 s132 h133 => ?_
  refine Q2 [.slice A125 (nw ((grp n).g ^ 1 % (grp n).p)) c126] h133 o131 Qn rfl rfl rfl (lB9 rfl) rfl rfl fun w134 o135 s136 h137 => ?_
  refine sv (Qa.assign rfl) ?_
  refine Seq.next ?_
  refine Run.seq ?_
  refine rsr ?_
  refine sv (Qa.move rfl) ?_
  refine sv (Qa.neq (a := 0) (b := 0) rfl rfl) ?_
  refine sv (Qa.move rfl) ?_
  refine Qh rfl rfl rfl ?_
  refine sv (Qa.move rfl) ?_
  refine Qh rfl rfl rfl ?_
  refine sv (Qa.neq (a := 0) (b := 0) rfl rfl) ?_
  refine sv (Ju rfl rfl) ?_
  refine sv (Qa.move rfl) ?_
  refine Qh rfl rfl rfl ?_
  refine sv (Qa.move rfl) ?_
  refine Qh rfl rfl rfl ?_
  refine sv (Qa.neq (a := 0) (b := 0) rfl rfl) ?_
  refine sv (Ju rfl rfl) ?_
  refine sv (Qa.move rfl) ?_
  refine Qh rfl rfl rfl ?_
  refine sv (Qa.move rfl) ?_
  refine Qh rfl rfl rfl ?_
  have c138 := s132.trans s136
  have c139 := s119.trans c138
  have c140 := s104.trans c139
  have q141 := up c140 q92
  refine sv (Yx Try.underlying22 Try.underlying5 Try.underlying9 rfl q141) ?_
  refine Qh rfl rfl rfl ?_
  refine sv (Qa.move rfl) ?_
  refine Qh rfl rfl rfl ?_
  have q142 := up c139 q108
  refine sv (Yx Try.underlying22 Try.underlying5 Try.underlying9 rfl q142) ?_
  refine Qh rfl rfl rfl ?_
  refine sv (VJ rfl rfl) ?_
  refine sv (Ju rfl rfl) ?_
  refine sv (Qa.move rfl) ?_
  rcases Decidable.em ((Jk (grp n) 1 msg) ≠ (Jk (grp n) 1 msg)) with hp3 | hp3
  ·refine Qk rfl rfl (dT9 hp3) rfl (by decide) ?_
   refine Qk rfl rfl (dT9 hp3) rfl (by decide) ?_
   refine Qk rfl rfl (dT9 hp3) rfl (by decide) ?_
   refine Qk rfl rfl (dT9 hp3) rfl (by decide) ?_
   refine Qk rfl rfl (dT9 hp3) rfl (by decide) ?_
   refine Qk rfl rfl (dT9 hp3) rfl (by decide) ?_
   refine sv (Qp rfl (dT9 hp3) rfl) ?_
   refine Seq.next ?_
   refine Qc rfl rfl ?_
   refine rsr ?_
   refine sv (Qa.assign rfl) ?_
   refine Seq.next ?_
   have c143 := s88.trans c140
   have c144 := c83.trans c143
   obtain ⟨⟨zU, zo⟩, zb⟩ := hX c144 (by decide)
   refine Run.ret (Qr ?_)
   exact Qm Try.results13 rfl ⟨_, rfl, (Jj (by exact absurd rfl hp3) _ _), zb⟩
  refine Qh rfl rfl (dF9 hp3) ?_
  refine sv (Qa.move rfl) ?_
  refine Qh rfl rfl (dF9 hp3) ?_
  refine sv (Qb [.slice A125 (nw ((grp n).g ^ 1 % (grp n).p)) c126] o135 Qn rfl rfl) ?_
  refine Qh rfl rfl (dF9 hp3) ?_
  refine sv (Qa.move rfl) ?_
  refine Qh rfl rfl (dF9 hp3) ?_
  refine sv (Qa.move rfl) ?_
  refine Qh rfl rfl (dF9 hp3) ?_
  have q145 := up c139 q114
  have q146 := up c138 q123
  have q147 := up c140 q100
  refine Q7 (V := Is (.bool (decide (Z1 (grp n) ((grp n).g ^ 1 % (grp n).p) msg (Jk (grp n) 1 msg))))) XD h137 rfl (J0 h137 q145 q146 q147 q141 (show okG (grp n) from by exact hG) (show nw ((grp n).g ^ 1 % (grp n).p) ≤ 1000 from by exact Nat.le_trans (Zx hG _) (by omega)) (show List.length msg ≤ 4000000 from by omega)) fun v148 w149 q150 s151 h152 => ?_
  have q150 := Is.out q150; subst q150
  refine Qh rfl rfl (dF9 hp3) ?_
  refine sv (Qa.not rfl) ?_
  refine sv (Qp rfl (dF9 hp3) rfl) ?_
  refine Seq.next ?_
  rcases ZN (!(decide (Z1 (grp n) ((grp n).g ^ 1 % (grp n).p) msg (Jk (grp n) 1 msg)))) with hc4 | hc4
  ·refine Qc rfl hc4 ?_
   refine rsr ?_
   refine sv (Qa.assign rfl) ?_
   refine Seq.next ?_
   have c153 := c140.trans s151
   have c154 := s88.trans c153
   have c155 := c83.trans c154
   obtain ⟨⟨zU, zo⟩, zb⟩ := hX c155 (by decide)
   refine Run.ret (Qr ?_)
   exact Qm Try.results13 rfl ⟨_, rfl, (Jj (by exact absurd (UA hG (QiE n) _ msg) (QcP hc4)) _ _), zb⟩
  refine Qc rfl hc4 ?_
  refine Qg (fun _ _ h => h) ?_
  refine rsr ?_
  refine Xo (k := 84) h152 Try.underlying22 ty5 (by decide) ?_
  intro lab156 w157 v158 o159 s160 hv161
  obtain ⟨A162, c163, rfl⟩ := App.shape o159
  have z165 := (App.row o159).2
  refine sv (Qa.move rfl) ?_
  have c166 := s151.trans s160
  have q167 := up c166 q141
  refine Seq.append (k := 84) (List.map u8 (Jk (grp n) 1 msg)) hv161 o159 Try.underlying22 ty5 rfl rfl rfl (by simp) (Qe.row q167) JQ (by omega) (by omega) (by decide) ?_
  intro lab168 w169 v170 o171 s172 hv173
  rw [List.nil_append] at o171
  obtain ⟨A174, c175, rfl⟩ := App.shape o171
  have m176 : List.length (Jk (grp n) 1 msg) = 0 + (List.length (Jk (grp n) 1 msg)) := QY o171
  have z177 := (App.row o171).2
  refine sv (Qa.move rfl) ?_
  refine QR [(0, u8 b)] (List.map u8 [b]) hv173 Try.underlying22 ty5 (by decide) (by decide) rfl (by kernel_rfl) (by decide) ?_
  intro w178 b179 r180 s181 hv182
  have q183 : Qe [b] lab168 w178 (.slice (some ⟨b179, 0, none⟩) 1 1) := ⟨_, _, rfl, Nat.le_refl _, lB9 rfl, r180⟩
  have o184 := o171.up s181
  refine Seq.append (k := 84) (List.map u8 ([b])) hv182 o184 Try.underlying22 ty5 rfl rfl rfl (by simp) (Qe.row q183) JQ (by omega) (by omega) (by decide) ?_
  intro lab185 w186 v187 o188 s189 hv190
  rw [← List.map_append] at o188
  obtain ⟨A191, c192, rfl⟩ := App.shape o188
  have m193 : List.length (Jk (grp n) 1 msg ++ ([b])) = 0 + (List.length (Jk (grp n) 1 msg)) + 1 := QY o188
  have z194 := (App.row o188).2
  refine sv (Qa.assign rfl) ?_
  refine Seq.next ?_
  refine Run.seq ?_
  have hv195 := Ql.release hv190 84
  have m197 : List.length (Jk (grp n) 1 msg ++ ([b])) = 0 + (List.length (Jk (grp n) 1 msg)) + 1 := QY o188
  have q196 : Qe (Jk (grp n) 1 msg ++ ([b])) (Q5 lab185 84) w186 (.slice A191 (0 + (List.length (Jk (grp n) 1 msg)) + 1) c192) := ⟨_, _, (by rw [m197]), (by have h9 := (App.row o188).2.1; (rw [m197]; exact h9)), (App.row o188).2.2, (App.row o188).1⟩
  rcases ZN (!(decide (Z1 (grp n) ((grp n).g ^ 1 % (grp n).p) msg (Jk (grp n) 1 msg ++ ([b]))))) with hc5 | hc5
  rotate_left
  ·refine Run.open 26 (Φ := [.ex (.pointer (some ⟨b20, 0, none⟩)), .ex (.agg #[.slice A125 (nw ((grp n).g ^ 1 % (grp n).p)) c126]), .ex (.slice A1 (List.length msg) c2), .ex (.slice A191 (0 + (List.length (Jk (grp n) 1 msg)) + 1) c192), .v (Is (.bool (decide (Z1 (grp n) ((grp n).g ^ 1 % (grp n).p) msg (Jk (grp n) 1 msg ++ ([b])))))), .ex (.bool (!(decide (Z1 (grp n) ((grp n).g ^ 1 % (grp n).p) msg (Jk (grp n) 1 msg ++ ([b])))))), .ex (.bool (!(decide (Z1 (grp n) ((grp n).g ^ 1 % (grp n).p) msg (Jk (grp n) 1 msg ++ ([b])))))), .ex undef, .ex undef, .ex undef, .ex undef, .ex undef, .ex undef, .ex undef, .ex undef, .ex undef, .ex undef, .ex (.bool false), .ex (.bool false), .ex undef, .ex undef, .ex undef, .ex undef, .ex undef, .ex undef, .ex (.bool false)]) [(25, 114)] Je (by kernel_rfl) rfl hv195 ⟨(oX [] rfl rfl rfl fun _ _ => Qa.move rfl), ?_, (oX [] rfl rfl rfl fun _ _ => Qa.move rfl), (oX [] rfl rfl rfl fun _ _ => Qa.move rfl), ?_, ?_, (oX [(5, 94)] rfl rfl rfl fun _ _ => Qa.move rfl), (Ji rfl rfl rfl rfl hc5 rfl rfl), (Ji rfl rfl rfl rfl hc5 rfl rfl), (Ji rfl rfl rfl rfl hc5 rfl rfl), (Ji rfl rfl rfl rfl hc5 rfl rfl), (Ji rfl rfl rfl rfl hc5 rfl rfl), (Ji rfl rfl rfl rfl hc5 rfl rfl), (Ji rfl rfl rfl rfl hc5 rfl rfl), (Ji rfl rfl rfl rfl hc5 rfl rfl), (Ji rfl rfl rfl rfl hc5 rfl rfl), (Ji rfl rfl rfl rfl hc5 rfl rfl), (oX [(6, 95)] rfl rfl rfl fun _ _ => Qp rfl hc5 rfl), (oX [(17, 106)] rfl rfl rfl fun _ _ => Qa.move rfl), (Ji rfl rfl rfl rfl rfl rfl rfl), (Ji rfl rfl rfl rfl rfl rfl rfl), (Ji rfl rfl rfl rfl rfl rfl rfl), (Ji rfl rfl rfl rfl rfl rfl rfl), (Ji rfl rfl rfl rfl rfl rfl rfl), (Ji rfl rfl rfl rfl rfl rfl rfl), (oX [(18, 107)] rfl rfl rfl fun _ _ => Ju rfl rfl), trivial⟩ (fun L726 w727 h728 s729 => ?_)
   ·refine oP [] rfl rfl fun L673 w674 h675 s676 => ?_
    have c678 := (Stp.release (lab := lab185) (w := w186) 84).trans s676
    have c679 := s189.trans c678
    have c680 := s181.trans c679
    have c681 := s172.trans c680
    have c682 := c166.trans c681
    have o677 := o135.up c682
    exact ⟨_, Qb [.slice A125 (nw ((grp n).g ^ 1 % (grp n).p)) c126] o677 Qn rfl rfl, rfl⟩
   ·refine oC [(0, 89), (1, 90), (2, 91), (3, 92)] rfl rfl XD fun L691 w692 h693 s694 => ?_
    have c695 := (Stp.release (lab := lab185) (w := w186) 84).trans s694
    have c696 := s189.trans c695
    have c697 := s181.trans c696
    have c698 := s172.trans c697
    have c699 := c166.trans c698
    have q700 := up c699 q145
    have q701 := up c699 q146
    have q702 := up c699 q147
    have q703 := up s694 q196
    exact ⟨_, rfl, (J0 h693 q700 q701 q702 q703 (show okG (grp n) from by exact hG) (show nw ((grp n).g ^ 1 % (grp n).p) ≤ 1000 from by exact Nat.le_trans (Zx hG _) (by omega)) (show List.length msg ≤ 4000000 from by omega))⟩
   ·refine oP [(4, 93)] rfl rfl fun L704 w705 h706 s707 v708 q709 => ?_
    have q709 := Is.out q709; subst q709
    exact ⟨_, Qa.not rfl, rfl⟩
   refine sv (Qa.assign rfl) ?_
   refine Seq.next ?_
   have c730 := (Stp.release (lab := lab185) (w := w186) 84).trans s729
   have c731 := s189.trans c730
   have c732 := s181.trans c731
   have c733 := s172.trans c732
   have c734 := c166.trans c733
   have c735 := c140.trans c734
   have c736 := s88.trans c735
   have c737 := c83.trans c736
   obtain ⟨⟨zU, zo⟩, zb⟩ := hX c737 (by decide)
   refine Run.ret ?_
   exact Qm Try.results13 rfl ⟨_, rfl, (Jj (by exact absurd (ZW hc5) Qcj) _ _), zb⟩
  rcases ZN (!(decide (Z1 (grp n) ((grp n).g ^ 1 % (grp n).p) msg (List.take ((((List.length (Jk (grp n) 1 msg) : Nat) : Int) - 1).toNat) (Jk (grp n) 1 msg))))) with hc6 | hc6
  rotate_left
  ·refine Run.open 26 (Φ := [.ex (.pointer (some ⟨b20, 0, none⟩)), .ex (.agg #[.slice A125 (nw ((grp n).g ^ 1 % (grp n).p)) c126]), .ex (.slice A1 (List.length msg) c2), .ex (.slice A191 (0 + (List.length (Jk (grp n) 1 msg)) + 1) c192), .v (Is (.bool (decide (Z1 (grp n) ((grp n).g ^ 1 % (grp n).p) msg (Jk (grp n) 1 msg ++ ([b])))))), .ex (.bool (!(decide (Z1 (grp n) ((grp n).g ^ 1 % (grp n).p) msg (Jk (grp n) 1 msg ++ ([b])))))), .ex (.bool (!(decide (Z1 (grp n) ((grp n).g ^ 1 % (grp n).p) msg (Jk (grp n) 1 msg ++ ([b])))))), .ex (.pointer (some ⟨b20, 0, none⟩)), .ex (.agg #[.slice A125 (nw ((grp n).g ^ 1 % (grp n).p)) c126]), .ex (.slice A1 (List.length msg) c2), .ex (.slice A94 (List.length (Jk (grp n) 1 msg)) c95), .ex (.slice A94 (List.length (Jk (grp n) 1 msg)) c95), .ex (i64 ((List.length (Jk (grp n) 1 msg) : Nat) : Int)), .ex (i64 (((List.length (Jk (grp n) 1 msg) : Nat) : Int) - 1)), .v (Qe (List.take ((((List.length (Jk (grp n) 1 msg) : Nat) : Int) - 1).toNat) (Jk (grp n) 1 msg))), .v (Is (.bool (decide (Z1 (grp n) ((grp n).g ^ 1 % (grp n).p) msg (List.take ((((List.length (Jk (grp n) 1 msg) : Nat) : Int) - 1).toNat) (Jk (grp n) 1 msg)))))), .ex (.bool (!(decide (Z1 (grp n) ((grp n).g ^ 1 % (grp n).p) msg (List.take ((((List.length (Jk (grp n) 1 msg) : Nat) : Int) - 1).toNat) (Jk (grp n) 1 msg)))))), .ex (.bool (!(decide (Z1 (grp n) ((grp n).g ^ 1 % (grp n).p) msg (List.take ((((List.length (Jk (grp n) 1 msg) : Nat) : Int) - 1).toNat) (Jk (grp n) 1 msg)))))), .ex (.bool (!(decide (Z1 (grp n) ((grp n).g ^ 1 % (grp n).p) msg (List.take ((((List.length (Jk (grp n) 1 msg) : Nat) : Int) - 1).toNat) (Jk (grp n) 1 msg)))))), .ex undef, .ex undef, .ex undef, .ex undef, .ex undef, .ex undef, .ex (.bool false)]) [(25, 114)] Je (by kernel_rfl) rfl hv195 ⟨(oX [] rfl rfl rfl fun _ _ => Qa.move rfl), ?_, (oX [] rfl rfl rfl fun _ _ => Qa.move rfl), (oX [] rfl rfl rfl fun _ _ => Qa.move rfl), ?_, ?_, (oX [(5, 94)] rfl rfl rfl fun _ _ => Qa.move rfl), ?_, ?_, ?_, ?_, ?_, ?_, ?_, ?_, ?_, ?_, (oX [(6, 95), (16, 105)] rfl rfl rfl fun _ _ => Qp rfl hc5 rfl), (oX [(17, 106)] rfl rfl rfl fun _ _ => Qa.move rfl), (Ji rfl rfl rfl rfl hc6 rfl rfl), (Ji rfl rfl rfl rfl hc6 rfl rfl), (Ji rfl rfl rfl rfl hc6 rfl rfl), (Ji rfl rfl rfl rfl hc6 rfl rfl), (Ji rfl rfl rfl rfl hc6 rfl rfl), (Ji rfl rfl rfl rfl hc6 rfl rfl), (oX [(18, 107)] rfl rfl rfl fun _ _ => Qp rfl hc6 rfl), trivial⟩ (fun L657 w658 h659 s660 => ?_)
   ·refine oP [] rfl rfl fun L537 w538 h539 s540 => ?_
    have c542 := (Stp.release (lab := lab185) (w := w186) 84).trans s540
    have c543 := s189.trans c542
    have c544 := s181.trans c543
    have c545 := s172.trans c544
    have c546 := c166.trans c545
    have o541 := o135.up c546
    exact ⟨_, Qb [.slice A125 (nw ((grp n).g ^ 1 % (grp n).p)) c126] o541 Qn rfl rfl, rfl⟩
   ·refine oC [(0, 89), (1, 90), (2, 91), (3, 92)] rfl rfl XD fun L555 w556 h557 s558 => ?_
    have c559 := (Stp.release (lab := lab185) (w := w186) 84).trans s558
    have c560 := s189.trans c559
    have c561 := s181.trans c560
    have c562 := s172.trans c561
    have c563 := c166.trans c562
    have q564 := up c563 q145
    have q565 := up c563 q146
    have q566 := up c563 q147
    have q567 := up s558 q196
    exact ⟨_, rfl, (J0 h557 q564 q565 q566 q567 (show okG (grp n) from by exact hG) (show nw ((grp n).g ^ 1 % (grp n).p) ≤ 1000 from by exact Nat.le_trans (Zx hG _) (by omega)) (show List.length msg ≤ 4000000 from by omega))⟩
   ·refine oP [(4, 93)] rfl rfl fun L568 w569 h570 s571 v572 q573 => ?_
    have q573 := Is.out q573; subst q573
    exact ⟨_, Qa.not rfl, rfl⟩
   ·refine Q9 [] rfl rfl rfl rfl hc5 rfl fun L578 w579 h580 s581 => ?_
    exact ⟨_, Qa.move rfl, rfl⟩
   ·refine Q9 [] rfl rfl rfl rfl hc5 rfl fun L582 w583 h584 s585 => ?_
    have c587 := (Stp.release (lab := lab185) (w := w186) 84).trans s585
    have c588 := s189.trans c587
    have c589 := s181.trans c588
    have c590 := s172.trans c589
    have c591 := c166.trans c590
    have o586 := o135.up c591
    exact ⟨_, Qb [.slice A125 (nw ((grp n).g ^ 1 % (grp n).p)) c126] o586 Qn rfl rfl, rfl⟩
   ·refine Q9 [] rfl rfl rfl rfl hc5 rfl fun L592 w593 h594 s595 => ?_
    exact ⟨_, Qa.move rfl, rfl⟩
   ·refine Q9 [] rfl rfl rfl rfl hc5 rfl fun L596 w597 h598 s599 => ?_
    exact ⟨_, Qa.move rfl, rfl⟩
   ·refine Q9 [] rfl rfl rfl rfl hc5 rfl fun L600 w601 h602 s603 => ?_
    exact ⟨_, Qa.move rfl, rfl⟩
   ·refine Q9 [(11, 100)] rfl rfl rfl rfl hc5 rfl fun L604 w605 h606 s607 => ?_
    exact ⟨_, Qa.len Try.underlying22 rfl, rfl⟩
   ·refine Q9 [(12, 101)] rfl rfl rfl rfl hc5 rfl fun L608 w609 h610 s611 => ?_
    exact ⟨_, Qa.sub rfl rfl (by omega), rfl⟩
   ·refine Q9 [(10, 99), (13, 102)] rfl rfl rfl rfl hc5 rfl fun L612 w613 h614 s615 => ?_
    have c617 := (Stp.release (lab := lab185) (w := w186) 84).trans s615
    have c618 := s189.trans c617
    have c619 := s181.trans c618
    have c620 := s172.trans c619
    have q621 := up c620 q167
    have q616 := Qe.takeN q621 ((((List.length (Jk (grp n) 1 msg) : Nat) : Int) - 1).toNat) (by omega)
    exact ⟨_, JJ ((((List.length (Jk (grp n) 1 msg) : Nat) : Int) - 1).toNat) Try.underlying22 ty5 rfl rfl (by omega) (by have := (Qe.cap q621).2; omega), q616⟩
   ·refine Zp [(7, 96), (8, 97), (9, 98), (14, 103)] rfl rfl rfl rfl hc5 rfl XD fun L622 w623 h624 s625 v626 q627 => ?_
    obtain ⟨A628, c629, rfl⟩ := Qe.shape q627
    have z630 := Qe.cap q627
    have c631 := (Stp.release (lab := lab185) (w := w186) 84).trans s625
    have c632 := s189.trans c631
    have c633 := s181.trans c632
    have c634 := s172.trans c633
    have c635 := c166.trans c634
    have q636 := up c635 q145
    have q637 := up c635 q146
    have q638 := up c635 q147
    exact ⟨_, rfl, (J0 h624 q636 q637 q638 q627 (show okG (grp n) from by exact hG) (show nw ((grp n).g ^ 1 % (grp n).p) ≤ 1000 from by exact Nat.le_trans (Zx hG _) (by omega)) (show List.length msg ≤ 4000000 from by omega))⟩
   ·refine Q9 [(15, 104)] rfl rfl rfl rfl hc5 rfl fun L639 w640 h641 s642 v643 q644 => ?_
    have q644 := Is.out q644; subst q644
    exact ⟨_, Qa.not rfl, rfl⟩
   refine sv (Qa.assign rfl) ?_
   refine Seq.next ?_
   have c661 := (Stp.release (lab := lab185) (w := w186) 84).trans s660
   have c662 := s189.trans c661
   have c663 := s181.trans c662
   have c664 := s172.trans c663
   have c665 := c166.trans c664
   have c666 := c140.trans c665
   have c667 := s88.trans c666
   have c668 := c83.trans c667
   obtain ⟨⟨zU, zo⟩, zb⟩ := hX c668 (by decide)
   refine Run.ret ?_
   exact Qm Try.results13 rfl ⟨_, rfl, (Jj (by exact absurd (ZW hc6) (Qhw hG)) _ _), zb⟩
  refine Run.open 26 (Φ := [.ex (.pointer (some ⟨b20, 0, none⟩)), .ex (.agg #[.slice A125 (nw ((grp n).g ^ 1 % (grp n).p)) c126]), .ex (.slice A1 (List.length msg) c2), .ex (.slice A191 (0 + (List.length (Jk (grp n) 1 msg)) + 1) c192), .v (Is (.bool (decide (Z1 (grp n) ((grp n).g ^ 1 % (grp n).p) msg (Jk (grp n) 1 msg ++ ([b])))))), .ex (.bool (!(decide (Z1 (grp n) ((grp n).g ^ 1 % (grp n).p) msg (Jk (grp n) 1 msg ++ ([b])))))), .ex (.bool (!(decide (Z1 (grp n) ((grp n).g ^ 1 % (grp n).p) msg (Jk (grp n) 1 msg ++ ([b])))))), .ex (.pointer (some ⟨b20, 0, none⟩)), .ex (.agg #[.slice A125 (nw ((grp n).g ^ 1 % (grp n).p)) c126]), .ex (.slice A1 (List.length msg) c2), .ex (.slice A94 (List.length (Jk (grp n) 1 msg)) c95), .ex (.slice A94 (List.length (Jk (grp n) 1 msg)) c95), .ex (i64 ((List.length (Jk (grp n) 1 msg) : Nat) : Int)), .ex (i64 (((List.length (Jk (grp n) 1 msg) : Nat) : Int) - 1)), .v (Qe (List.take ((((List.length (Jk (grp n) 1 msg) : Nat) : Int) - 1).toNat) (Jk (grp n) 1 msg))), .v (Is (.bool (decide (Z1 (grp n) ((grp n).g ^ 1 % (grp n).p) msg (List.take ((((List.length (Jk (grp n) 1 msg) : Nat) : Int) - 1).toNat) (Jk (grp n) 1 msg)))))), .ex (.bool (!(decide (Z1 (grp n) ((grp n).g ^ 1 % (grp n).p) msg (List.take ((((List.length (Jk (grp n) 1 msg) : Nat) : Int) - 1).toNat) (Jk (grp n) 1 msg)))))), .ex (.bool (!(decide (Z1 (grp n) ((grp n).g ^ 1 % (grp n).p) msg (List.take ((((List.length (Jk (grp n) 1 msg) : Nat) : Int) - 1).toNat) (Jk (grp n) 1 msg)))))), .ex (.bool (!(decide (Z1 (grp n) ((grp n).g ^ 1 % (grp n).p) msg (List.take ((((List.length (Jk (grp n) 1 msg) : Nat) : Int) - 1).toNat) (Jk (grp n) 1 msg)))))), .ex (.pointer (some ⟨b20, 0, none⟩)), .ex (.agg #[.slice none 0 0]), .ex (.slice A1 (List.length msg) c2), .ex (.slice A94 (List.length (Jk (grp n) 1 msg)) c95), .v (Is (.bool (decide (Z1 (grp n) 0 msg (Jk (grp n) 1 msg))))), .ex (.bool (!(decide (Z1 (grp n) 0 msg (Jk (grp n) 1 msg))))), .ex (.bool (!(decide (Z1 (grp n) 0 msg (Jk (grp n) 1 msg)))))]) [(25, 114)] Je (by kernel_rfl) rfl hv195 ⟨(oX [] rfl rfl rfl fun _ _ => Qa.move rfl), ?_, (oX [] rfl rfl rfl fun _ _ => Qa.move rfl), (oX [] rfl rfl rfl fun _ _ => Qa.move rfl), ?_, ?_, (oX [(5, 94)] rfl rfl rfl fun _ _ => Qa.move rfl), ?_, ?_, ?_, ?_, ?_, ?_, ?_, ?_, ?_, ?_, (oX [(6, 95), (16, 105)] rfl rfl rfl fun _ _ => Qp rfl hc5 rfl), (oX [(17, 106)] rfl rfl rfl fun _ _ => Qa.move rfl), ?_, ?_, ?_, ?_, ?_, ?_, (oX [(18, 107), (24, 113)] rfl rfl rfl fun _ _ => Qp rfl hc6 rfl), trivial⟩ (fun L521 w522 h523 s524 => ?_)
  ·refine oP [] rfl rfl fun L367 w368 h369 s370 => ?_
   have c372 := (Stp.release (lab := lab185) (w := w186) 84).trans s370
   have c373 := s189.trans c372
   have c374 := s181.trans c373
   have c375 := s172.trans c374
   have c376 := c166.trans c375
   have o371 := o135.up c376
   exact ⟨_, Qb [.slice A125 (nw ((grp n).g ^ 1 % (grp n).p)) c126] o371 Qn rfl rfl, rfl⟩
  ·refine oC [(0, 89), (1, 90), (2, 91), (3, 92)] rfl rfl XD fun L385 w386 h387 s388 => ?_
   have c389 := (Stp.release (lab := lab185) (w := w186) 84).trans s388
   have c390 := s189.trans c389
   have c391 := s181.trans c390
   have c392 := s172.trans c391
   have c393 := c166.trans c392
   have q394 := up c393 q145
   have q395 := up c393 q146
   have q396 := up c393 q147
   have q397 := up s388 q196
   exact ⟨_, rfl, (J0 h387 q394 q395 q396 q397 (show okG (grp n) from by exact hG) (show nw ((grp n).g ^ 1 % (grp n).p) ≤ 1000 from by exact Nat.le_trans (Zx hG _) (by omega)) (show List.length msg ≤ 4000000 from by omega))⟩
  ·refine oP [(4, 93)] rfl rfl fun L398 w399 h400 s401 v402 q403 => ?_
   have q403 := Is.out q403; subst q403
   exact ⟨_, Qa.not rfl, rfl⟩
  ·refine Q9 [] rfl rfl rfl rfl hc5 rfl fun L408 w409 h410 s411 => ?_
   exact ⟨_, Qa.move rfl, rfl⟩
  ·refine Q9 [] rfl rfl rfl rfl hc5 rfl fun L412 w413 h414 s415 => ?_
   have c417 := (Stp.release (lab := lab185) (w := w186) 84).trans s415
   have c418 := s189.trans c417
   have c419 := s181.trans c418
   have c420 := s172.trans c419
   have c421 := c166.trans c420
   have o416 := o135.up c421
   exact ⟨_, Qb [.slice A125 (nw ((grp n).g ^ 1 % (grp n).p)) c126] o416 Qn rfl rfl, rfl⟩
  ·refine Q9 [] rfl rfl rfl rfl hc5 rfl fun L422 w423 h424 s425 => ?_
   exact ⟨_, Qa.move rfl, rfl⟩
  ·refine Q9 [] rfl rfl rfl rfl hc5 rfl fun L426 w427 h428 s429 => ?_
   exact ⟨_, Qa.move rfl, rfl⟩
  ·refine Q9 [] rfl rfl rfl rfl hc5 rfl fun L430 w431 h432 s433 => ?_
   exact ⟨_, Qa.move rfl, rfl⟩
  ·refine Q9 [(11, 100)] rfl rfl rfl rfl hc5 rfl fun L434 w435 h436 s437 => ?_
   exact ⟨_, Qa.len Try.underlying22 rfl, rfl⟩
  ·refine Q9 [(12, 101)] rfl rfl rfl rfl hc5 rfl fun L438 w439 h440 s441 => ?_
   exact ⟨_, Qa.sub rfl rfl (by omega), rfl⟩
  ·refine Q9 [(10, 99), (13, 102)] rfl rfl rfl rfl hc5 rfl fun L442 w443 h444 s445 => ?_
   have c447 := (Stp.release (lab := lab185) (w := w186) 84).trans s445
   have c448 := s189.trans c447
   have c449 := s181.trans c448
   have c450 := s172.trans c449
   have q451 := up c450 q167
   have q446 := Qe.takeN q451 ((((List.length (Jk (grp n) 1 msg) : Nat) : Int) - 1).toNat) (by omega)
   exact ⟨_, JJ ((((List.length (Jk (grp n) 1 msg) : Nat) : Int) - 1).toNat) Try.underlying22 ty5 rfl rfl (by omega) (by have := (Qe.cap q451).2; omega), q446⟩
  ·refine Zp [(7, 96), (8, 97), (9, 98), (14, 103)] rfl rfl rfl rfl hc5 rfl XD fun L452 w453 h454 s455 v456 q457 => ?_
   obtain ⟨A458, c459, rfl⟩ := Qe.shape q457
   have z460 := Qe.cap q457
   have c461 := (Stp.release (lab := lab185) (w := w186) 84).trans s455
   have c462 := s189.trans c461
   have c463 := s181.trans c462
   have c464 := s172.trans c463
   have c465 := c166.trans c464
   have q466 := up c465 q145
   have q467 := up c465 q146
   have q468 := up c465 q147
   exact ⟨_, rfl, (J0 h454 q466 q467 q468 q457 (show okG (grp n) from by exact hG) (show nw ((grp n).g ^ 1 % (grp n).p) ≤ 1000 from by exact Nat.le_trans (Zx hG _) (by omega)) (show List.length msg ≤ 4000000 from by omega))⟩
  ·refine Q9 [(15, 104)] rfl rfl rfl rfl hc5 rfl fun L469 w470 h471 s472 v473 q474 => ?_
   have q474 := Is.out q474; subst q474
   exact ⟨_, Qa.not rfl, rfl⟩
  ·refine Q9 [] rfl rfl rfl rfl hc6 rfl fun L483 w484 h485 s486 => ?_
   exact ⟨_, Qa.move rfl, rfl⟩
  ·refine Q9 [] rfl rfl rfl rfl hc6 rfl fun L487 w488 h489 s490 => ?_
   exact ⟨_, Qa.build [] [(0, 1)] [.slice none 0 0] Try.underlying60 Qn (by kernel_rfl) rfl (by kernel_rfl), rfl⟩
  ·refine Q9 [] rfl rfl rfl rfl hc6 rfl fun L491 w492 h493 s494 => ?_
   exact ⟨_, Qa.move rfl, rfl⟩
  ·refine Q9 [] rfl rfl rfl rfl hc6 rfl fun L495 w496 h497 s498 => ?_
   exact ⟨_, Qa.move rfl, rfl⟩
  ·refine Zp [(19, 108), (20, 109), (21, 110), (22, 111)] rfl rfl rfl rfl hc6 rfl XD fun L499 w500 h501 s502 => ?_
   have c503 := (Stp.release (lab := lab185) (w := w186) 84).trans s502
   have c504 := s189.trans c503
   have c505 := s181.trans c504
   have c506 := s172.trans c505
   have c507 := c166.trans c506
   have q508 := up c507 q145
   have q509 := up c507 q147
   have q510 := up c506 q167
   exact ⟨_, rfl, (J0 h501 q508 (Qi.zero L499 w500) q509 q510 (show okG (grp n) from by exact hG) (show nw 0 ≤ 1000 from by exact Nat.le_trans (Um (by omega)) (by omega)) (show List.length msg ≤ 4000000 from by omega))⟩
  ·refine Q9 [(23, 112)] rfl rfl rfl rfl hc6 rfl fun L511 w512 h513 s514 v515 q516 => ?_
   have q516 := Is.out q516; subst q516
   exact ⟨_, Qa.not rfl, rfl⟩
  refine sv (Qa.assign rfl) ?_
  refine Seq.next ?_
  have c525 := (Stp.release (lab := lab185) (w := w186) 84).trans s524
  have c526 := s189.trans c525
  have c527 := s181.trans c526
  have c528 := s172.trans c527
  have c529 := c166.trans c528
  have c530 := c140.trans c529
  have c531 := s88.trans c530
  have c532 := c83.trans c531
  obtain ⟨⟨zU, zo⟩, zb⟩ := hX c532 (by decide)
  refine Run.ret ?_
  exact Qm Try.results13 rfl ⟨_, rfl, (Jj (by exact QfQ) _ _), zb⟩
 refine Qc rfl (dF9 hp2) ?_
 refine Qg (fun _ _ h => h) ?_
 refine rsr ?_
 refine sv (Qa.move rfl) ?_
 have o738 := o51.up s59
 refine sv (Qb [.slice A41 (nw (x % ((grp n).q))) c42] o738 Qn rfl rfl) ?_
 refine sv (Qa.move rfl) ?_
 have c739 := c54.trans s59
 have c740 := s39.trans c739
 have c741 := s30.trans c740
 have c742 := s24.trans c741
 have q743 := up c742 q17
 have q744 := up s59 q55
 have c745 := s18.trans c742
 have c746 := s7.trans c745
 have q747 := up c746 h2
 refine Q7 (V := Zo (Qe (Jk (grp n) (x % ((grp n).q)) msg)) (Is (i64 0))) QfD h60 rfl (Y3 h60 q743 q744 q747 (show okG (grp n) from by exact hG) (show JR (grp n) (x % ((grp n).q)) from by exact QbL hG (by assumption)) (show List.length msg ≤ 4000000 from by omega)) fun v748 w749 q750 s751 h752 => ?_
 obtain ⟨v753, v754, rfl, q755, q756⟩ := q750
 obtain ⟨A757, c758, rfl⟩ := Qe.shape q755
 have z759 := Qe.cap q755
 have q756 := Is.out q756; subst q756
 refine sv (Qa.move rfl) ?_
 refine sv (Qa.extract rfl rfl) ?_
 refine sv (Qa.extract rfl rfl) ?_
 refine sv (Qa.assign rfl) ?_
 refine sv (Qa.assign rfl) ?_
 refine nsr ?_
 refine sv (Qa.move rfl) ?_
 have o760 := o738.up s751
 refine sv (Qb [.slice A41 (nw (x % ((grp n).q))) c42] o760 Qn rfl rfl) ?_
 refine sv (Qa.move rfl) ?_
 have q761 := up s751 q743
 have q762 := up s751 q744
 have q763 := up s751 q747
 refine Q7 (V := Zo (Qe (Jk (grp n) (x % ((grp n).q)) msg)) (Is (i64 0))) QfD h752 rfl (Y3 h752 q761 q762 q763 (show okG (grp n) from by exact hG) (show JR (grp n) (x % ((grp n).q)) from by exact QbL hG (by assumption)) (show List.length msg ≤ 4000000 from by omega)) fun v764 w765 q766 s767 h768 => ?_
 obtain ⟨v769, v770, rfl, q771, q772⟩ := q766
 obtain ⟨A773, c774, rfl⟩ := Qe.shape q771
 have z775 := Qe.cap q771
 have q772 := Is.out q772; subst q772
 refine sv (Qa.move rfl) ?_
 refine sv (Qa.extract rfl rfl) ?_
 refine sv (Qa.extract rfl rfl) ?_
 refine sv (Qa.assign rfl) ?_
 refine sv (Qa.assign rfl) ?_
 refine nsr ?_
 refine sv (Qa.move rfl) ?_
 have o776 := o760.up s767
 refine sv (Qb [.slice A41 (nw (x % ((grp n).q))) c42] o776 Qn rfl rfl) ?_
 have q777 := up s767 q761
 have q778 := up s767 q762
 refine Q7 (V := Zo (Qi ((grp n).g ^ (x % ((grp n).q)) % (grp n).p)) (Is (i64 0))) Qho h768 rfl (YM h768 q777 q778 (show okG (grp n) from by exact hG) (show JR (grp n) (x % ((grp n).q)) from by exact QbL hG (by assumption))) fun v779 w780 q781 s782 h783 => ?_
 obtain ⟨v784, v785, rfl, q786, q787⟩ := q781
 obtain ⟨A788, c789, rfl⟩ := Qi.shape q786
 have z790 := Qi.cap q786
 have q787 := Is.out q787; subst q787
 refine sv (Qa.move rfl) ?_
 refine sv (Qa.extract rfl rfl) ?_
 refine sv (Qa.extract rfl rfl) ?_
 refine QM 16 [.slice none 0 0] h783 Qn rfl fun b793 L791 w792 o794 s795 h796 => ?_
 refine Q2 [.slice A788 (nw ((grp n).g ^ (x % ((grp n).q)) % (grp n).p)) c789] h796 o794 Qn rfl rfl rfl (lB9 rfl) rfl rfl fun w797 o798 s799 h800 => ?_
 refine sv (Qa.assign rfl) ?_
 refine Seq.next ?_
 refine Run.seq ?_
 refine rsr ?_
 refine sv (Qa.move rfl) ?_
 refine sv (Qa.neq (a := 0) (b := 0) rfl rfl) ?_
 refine sv (Qa.move rfl) ?_
 refine Qh rfl rfl rfl ?_
 refine sv (Qa.move rfl) ?_
 refine Qh rfl rfl rfl ?_
 refine sv (Qa.neq (a := 0) (b := 0) rfl rfl) ?_
 refine sv (Ju rfl rfl) ?_
 refine sv (Qa.move rfl) ?_
 refine Qh rfl rfl rfl ?_
 refine sv (Qa.move rfl) ?_
 refine Qh rfl rfl rfl ?_
 refine sv (Qa.neq (a := 0) (b := 0) rfl rfl) ?_
 refine sv (Ju rfl rfl) ?_
 refine sv (Qa.move rfl) ?_
 refine Qh rfl rfl rfl ?_
 refine sv (Qa.move rfl) ?_
 refine Qh rfl rfl rfl ?_
 have c801 := s795.trans s799
 have c802 := s782.trans c801
 have c803 := s767.trans c802
 have q804 := up c803 q755
 refine sv (Yx Try.underlying22 Try.underlying5 Try.underlying9 rfl q804) ?_
 refine Qh rfl rfl rfl ?_
 refine sv (Qa.move rfl) ?_
 refine Qh rfl rfl rfl ?_
 have q805 := up c802 q771
 refine sv (Yx Try.underlying22 Try.underlying5 Try.underlying9 rfl q805) ?_
 refine Qh rfl rfl rfl ?_
 refine sv (VJ rfl rfl) ?_
 refine sv (Ju rfl rfl) ?_
 refine sv (Qa.move rfl) ?_
 rcases Decidable.em ((Jk (grp n) (x % ((grp n).q)) msg) ≠ (Jk (grp n) (x % ((grp n).q)) msg)) with hp3 | hp3
 ·refine Qk rfl rfl (dT9 hp3) rfl (by decide) ?_
  refine Qk rfl rfl (dT9 hp3) rfl (by decide) ?_
  refine Qk rfl rfl (dT9 hp3) rfl (by decide) ?_
  refine Qk rfl rfl (dT9 hp3) rfl (by decide) ?_
  refine Qk rfl rfl (dT9 hp3) rfl (by decide) ?_
  refine Qk rfl rfl (dT9 hp3) rfl (by decide) ?_
  refine sv (Qp rfl (dT9 hp3) rfl) ?_
  refine Seq.next ?_
  refine Qc rfl rfl ?_
  refine rsr ?_
  refine sv (Qa.assign rfl) ?_
  refine Seq.next ?_
  have c806 := s751.trans c803
  have c807 := c746.trans c806
  obtain ⟨⟨zU, zo⟩, zb⟩ := hX c807 (by decide)
  refine Run.ret (Qr ?_)
  exact Qm Try.results13 rfl ⟨_, rfl, (Jj (by exact absurd rfl hp3) _ _), zb⟩
 refine Qh rfl rfl (dF9 hp3) ?_
 refine sv (Qa.move rfl) ?_
 refine Qh rfl rfl (dF9 hp3) ?_
 refine sv (Qb [.slice A788 (nw ((grp n).g ^ (x % ((grp n).q)) % (grp n).p)) c789] o798 Qn rfl rfl) ?_
 refine Qh rfl rfl (dF9 hp3) ?_
 refine sv (Qa.move rfl) ?_
 refine Qh rfl rfl (dF9 hp3) ?_
 refine sv (Qa.move rfl) ?_
 refine Qh rfl rfl (dF9 hp3) ?_
 have q808 := up c802 q777
 have q809 := up c801 q786
 have q810 := up c803 q763
 refine Q7 (V := Is (.bool (decide (Z1 (grp n) ((grp n).g ^ (x % ((grp n).q)) % (grp n).p) msg (Jk (grp n) (x % ((grp n).q)) msg))))) XD h800 rfl (J0 h800 q808 q809 q810 q804 (show okG (grp n) from by exact hG) (show nw ((grp n).g ^ (x % ((grp n).q)) % (grp n).p) ≤ 1000 from by exact Nat.le_trans (Zx hG _) (by omega)) (show List.length msg ≤ 4000000 from by omega)) fun v811 w812 q813 s814 h815 => ?_
 have q813 := Is.out q813; subst q813
 refine Qh rfl rfl (dF9 hp3) ?_
 refine sv (Qa.not rfl) ?_
 refine sv (Qp rfl (dF9 hp3) rfl) ?_
 refine Seq.next ?_
 rcases ZN (!(decide (Z1 (grp n) ((grp n).g ^ (x % ((grp n).q)) % (grp n).p) msg (Jk (grp n) (x % ((grp n).q)) msg)))) with hc4 | hc4
 ·refine Qc rfl hc4 ?_
  refine rsr ?_
  refine sv (Qa.assign rfl) ?_
  refine Seq.next ?_
  have c816 := c803.trans s814
  have c817 := s751.trans c816
  have c818 := c746.trans c817
  obtain ⟨⟨zU, zo⟩, zb⟩ := hX c818 (by decide)
  refine Run.ret (Qr ?_)
  exact Qm Try.results13 rfl ⟨_, rfl, (Jj (by exact absurd (UA hG (QiE n) _ msg) (QcP hc4)) _ _), zb⟩
 refine Qc rfl hc4 ?_
 refine Qg (fun _ _ h => h) ?_
 refine rsr ?_
 refine Xo (k := 84) h815 Try.underlying22 ty5 (by decide) ?_
 intro lab819 w820 v821 o822 s823 hv824
 obtain ⟨A825, c826, rfl⟩ := App.shape o822
 have z828 := (App.row o822).2
 refine sv (Qa.move rfl) ?_
 have c829 := s814.trans s823
 have q830 := up c829 q804
 refine Seq.append (k := 84) (List.map u8 (Jk (grp n) (x % ((grp n).q)) msg)) hv824 o822 Try.underlying22 ty5 rfl rfl rfl (by simp) (Qe.row q830) JQ (by omega) (by omega) (by decide) ?_
 intro lab831 w832 v833 o834 s835 hv836
 rw [List.nil_append] at o834
 obtain ⟨A837, c838, rfl⟩ := App.shape o834
 have m839 : List.length (Jk (grp n) (x % ((grp n).q)) msg) = 0 + (List.length (Jk (grp n) (x % ((grp n).q)) msg)) := QY o834
 have z840 := (App.row o834).2
 refine sv (Qa.move rfl) ?_
 refine QR [(0, u8 b)] (List.map u8 [b]) hv836 Try.underlying22 ty5 (by decide) (by decide) rfl (by kernel_rfl) (by decide) ?_
 intro w841 b842 r843 s844 hv845
 have q846 : Qe [b] lab831 w841 (.slice (some ⟨b842, 0, none⟩) 1 1) := ⟨_, _, rfl, Nat.le_refl _, lB9 rfl, r843⟩
 have o847 := o834.up s844
 refine Seq.append (k := 84) (List.map u8 ([b])) hv845 o847 Try.underlying22 ty5 rfl rfl rfl (by simp) (Qe.row q846) JQ (by omega) (by omega) (by decide) ?_
 intro lab848 w849 v850 o851 s852 hv853
 rw [← List.map_append] at o851
 obtain ⟨A854, c855, rfl⟩ := App.shape o851
 have m856 : List.length (Jk (grp n) (x % ((grp n).q)) msg ++ ([b])) = 0 + (List.length (Jk (grp n) (x % ((grp n).q)) msg)) + 1 := QY o851
 have z857 := (App.row o851).2
 refine sv (Qa.assign rfl) ?_
 refine Seq.next ?_
 refine Run.seq ?_
 have hv858 := Ql.release hv853 84
 have m860 : List.length (Jk (grp n) (x % ((grp n).q)) msg ++ ([b])) = 0 + (List.length (Jk (grp n) (x % ((grp n).q)) msg)) + 1 := QY o851
 have q859 : Qe (Jk (grp n) (x % ((grp n).q)) msg ++ ([b])) (Q5 lab848 84) w849 (.slice A854 (0 + (List.length (Jk (grp n) (x % ((grp n).q)) msg)) + 1) c855) := ⟨_, _, (by rw [m860]), (by have h9 := (App.row o851).2.1; (rw [m860]; exact h9)), (App.row o851).2.2, (App.row o851).1⟩
 rcases ZN (!(decide (Z1 (grp n) ((grp n).g ^ (x % ((grp n).q)) % (grp n).p) msg (Jk (grp n) (x % ((grp n).q)) msg ++ ([b]))))) with hc5 | hc5
 rotate_left
 ·refine Run.open 26 (Φ := [.ex (.pointer (some ⟨b20, 0, none⟩)), .ex (.agg #[.slice A788 (nw ((grp n).g ^ (x % ((grp n).q)) % (grp n).p)) c789]), .ex (.slice A1 (List.length msg) c2), .ex (.slice A854 (0 + (List.length (Jk (grp n) (x % ((grp n).q)) msg)) + 1) c855), .v (Is (.bool (decide (Z1 (grp n) ((grp n).g ^ (x % ((grp n).q)) % (grp n).p) msg (Jk (grp n) (x % ((grp n).q)) msg ++ ([b])))))), .ex (.bool (!(decide (Z1 (grp n) ((grp n).g ^ (x % ((grp n).q)) % (grp n).p) msg (Jk (grp n) (x % ((grp n).q)) msg ++ ([b])))))), .ex (.bool (!(decide (Z1 (grp n) ((grp n).g ^ (x % ((grp n).q)) % (grp n).p) msg (Jk (grp n) (x % ((grp n).q)) msg ++ ([b])))))), .ex undef, .ex undef, .ex undef, .ex undef, .ex undef, .ex undef, .ex undef, .ex undef, .ex undef, .ex undef, .ex (.bool false), .ex (.bool false), .ex undef, .ex undef, .ex undef, .ex undef, .ex undef, .ex undef, .ex (.bool false)]) [(25, 114)] Je (by kernel_rfl) rfl hv858 ⟨(oX [] rfl rfl rfl fun _ _ => Qa.move rfl), ?_, (oX [] rfl rfl rfl fun _ _ => Qa.move rfl), (oX [] rfl rfl rfl fun _ _ => Qa.move rfl), ?_, ?_, (oX [(5, 94)] rfl rfl rfl fun _ _ => Qa.move rfl), (Ji rfl rfl rfl rfl hc5 rfl rfl), (Ji rfl rfl rfl rfl hc5 rfl rfl), (Ji rfl rfl rfl rfl hc5 rfl rfl), (Ji rfl rfl rfl rfl hc5 rfl rfl), (Ji rfl rfl rfl rfl hc5 rfl rfl), (Ji rfl rfl rfl rfl hc5 rfl rfl), (Ji rfl rfl rfl rfl hc5 rfl rfl), (Ji rfl rfl rfl rfl hc5 rfl rfl), (Ji rfl rfl rfl rfl hc5 rfl rfl), (Ji rfl rfl rfl rfl hc5 rfl rfl), (oX [(6, 95)] rfl rfl rfl fun _ _ => Qp rfl hc5 rfl), (oX [(17, 106)] rfl rfl rfl fun _ _ => Qa.move rfl), (Ji rfl rfl rfl rfl rfl rfl rfl), (Ji rfl rfl rfl rfl rfl rfl rfl), (Ji rfl rfl rfl rfl rfl rfl rfl), (Ji rfl rfl rfl rfl rfl rfl rfl), (Ji rfl rfl rfl rfl rfl rfl rfl), (Ji rfl rfl rfl rfl rfl rfl rfl), (oX [(18, 107)] rfl rfl rfl fun _ _ => Ju rfl rfl), trivial⟩ (fun L1389 w1390 h1391 s1392 => ?_)
  ·refine oP [] rfl rfl fun L1336 w1337 h1338 s1339 => ?_
   have c1341 := (Stp.release (lab := lab848) (w := w849) 84).trans s1339
   have c1342 := s852.trans c1341
   have c1343 := s844.trans c1342
   have c1344 := s835.trans c1343
   have c1345 := c829.trans c1344
   have o1340 := o798.up c1345
   exact ⟨_, Qb [.slice A788 (nw ((grp n).g ^ (x % ((grp n).q)) % (grp n).p)) c789] o1340 Qn rfl rfl, rfl⟩
  ·refine oC [(0, 89), (1, 90), (2, 91), (3, 92)] rfl rfl XD fun L1354 w1355 h1356 s1357 => ?_
   have c1358 := (Stp.release (lab := lab848) (w := w849) 84).trans s1357
   have c1359 := s852.trans c1358
   have c1360 := s844.trans c1359
   have c1361 := s835.trans c1360
   have c1362 := c829.trans c1361
   have q1363 := up c1362 q808
   have q1364 := up c1362 q809
   have q1365 := up c1362 q810
   have q1366 := up s1357 q859
   exact ⟨_, rfl, (J0 h1356 q1363 q1364 q1365 q1366 (show okG (grp n) from by exact hG) (show nw ((grp n).g ^ (x % ((grp n).q)) % (grp n).p) ≤ 1000 from by exact Nat.le_trans (Zx hG _) (by omega)) (show List.length msg ≤ 4000000 from by omega))⟩
  ·refine oP [(4, 93)] rfl rfl fun L1367 w1368 h1369 s1370 v1371 q1372 => ?_
   have q1372 := Is.out q1372; subst q1372
   exact ⟨_, Qa.not rfl, rfl⟩
  refine sv (Qa.assign rfl) ?_
  refine Seq.next ?_
  have c1393 := (Stp.release (lab := lab848) (w := w849) 84).trans s1392
  have c1394 := s852.trans c1393
  have c1395 := s844.trans c1394
  have c1396 := s835.trans c1395
  have c1397 := c829.trans c1396
  have c1398 := c803.trans c1397
  have c1399 := s751.trans c1398
  have c1400 := c746.trans c1399
  obtain ⟨⟨zU, zo⟩, zb⟩ := hX c1400 (by decide)
  refine Run.ret ?_
  exact Qm Try.results13 rfl ⟨_, rfl, (Jj (by exact absurd (ZW hc5) Qcj) _ _), zb⟩
 rcases ZN (!(decide (Z1 (grp n) ((grp n).g ^ (x % ((grp n).q)) % (grp n).p) msg (List.take ((((List.length (Jk (grp n) (x % ((grp n).q)) msg) : Nat) : Int) - 1).toNat) (Jk (grp n) (x % ((grp n).q)) msg))))) with hc6 | hc6
 rotate_left
 ·refine Run.open 26 (Φ := [.ex (.pointer (some ⟨b20, 0, none⟩)), .ex (.agg #[.slice A788 (nw ((grp n).g ^ (x % ((grp n).q)) % (grp n).p)) c789]), .ex (.slice A1 (List.length msg) c2), .ex (.slice A854 (0 + (List.length (Jk (grp n) (x % ((grp n).q)) msg)) + 1) c855), .v (Is (.bool (decide (Z1 (grp n) ((grp n).g ^ (x % ((grp n).q)) % (grp n).p) msg (Jk (grp n) (x % ((grp n).q)) msg ++ ([b])))))), .ex (.bool (!(decide (Z1 (grp n) ((grp n).g ^ (x % ((grp n).q)) % (grp n).p) msg (Jk (grp n) (x % ((grp n).q)) msg ++ ([b])))))), .ex (.bool (!(decide (Z1 (grp n) ((grp n).g ^ (x % ((grp n).q)) % (grp n).p) msg (Jk (grp n) (x % ((grp n).q)) msg ++ ([b])))))), .ex (.pointer (some ⟨b20, 0, none⟩)), .ex (.agg #[.slice A788 (nw ((grp n).g ^ (x % ((grp n).q)) % (grp n).p)) c789]), .ex (.slice A1 (List.length msg) c2), .ex (.slice A757 (List.length (Jk (grp n) (x % ((grp n).q)) msg)) c758), .ex (.slice A757 (List.length (Jk (grp n) (x % ((grp n).q)) msg)) c758), .ex (i64 ((List.length (Jk (grp n) (x % ((grp n).q)) msg) : Nat) : Int)), .ex (i64 (((List.length (Jk (grp n) (x % ((grp n).q)) msg) : Nat) : Int) - 1)), .v (Qe (List.take ((((List.length (Jk (grp n) (x % ((grp n).q)) msg) : Nat) : Int) - 1).toNat) (Jk (grp n) (x % ((grp n).q)) msg))), .v (Is (.bool (decide (Z1 (grp n) ((grp n).g ^ (x % ((grp n).q)) % (grp n).p) msg (List.take ((((List.length (Jk (grp n) (x % ((grp n).q)) msg) : Nat) : Int) - 1).toNat) (Jk (grp n) (x % ((grp n).q)) msg)))))), .ex (.bool (!(decide (Z1 (grp n) ((grp n).g ^ (x % ((grp n).q)) % (grp n).p) msg (List.take ((((List.length (Jk (grp n) (x % ((grp n).q)) msg) : Nat) : Int) - 1).toNat) (Jk (grp n) (x % ((grp n).q)) msg)))))), .ex (.bool (!(decide (Z1 (grp n) ((grp n).g ^ (x % ((grp n).q)) % (grp n).p) msg (List.take ((((List.length (Jk (grp n) (x % ((grp n).q)) msg) : Nat) : Int) - 1).toNat) (Jk (grp n) (x % ((grp n).q)) msg)))))), .ex (.bool (!(decide (Z1 (grp n) ((grp n).g ^ (x % ((grp n).q)) % (grp n).p) msg (List.take ((((List.length (Jk (grp n) (x % ((grp n).q)) msg) : Nat) : Int) - 1).toNat) (Jk (grp n) (x % ((grp n).q)) msg)))))), .ex undef, .ex undef, .ex undef, .ex undef, .ex undef, .ex undef, .ex (.bool false)]) [(25, 114)] Je (by kernel_rfl) rfl hv858 ⟨(oX [] rfl rfl rfl fun _ _ => Qa.move rfl), ?_, (oX [] rfl rfl rfl fun _ _ => Qa.move rfl), (oX [] rfl rfl rfl fun _ _ => Qa.move rfl), ?_, ?_, (oX [(5, 94)] rfl rfl rfl fun _ _ => Qa.move rfl), ?_, ?_, ?_, ?_, ?_, ?_, ?_, ?_, ?_, ?_, (oX [(6, 95), (16, 105)] rfl rfl rfl fun _ _ => Qp rfl hc5 rfl), (oX [(17, 106)] rfl rfl rfl fun _ _ => Qa.move rfl), (Ji rfl rfl rfl rfl hc6 rfl rfl), (Ji rfl rfl rfl rfl hc6 rfl rfl), (Ji rfl rfl rfl rfl hc6 rfl rfl), (Ji rfl rfl rfl rfl hc6 rfl rfl), (Ji rfl rfl rfl rfl hc6 rfl rfl), (Ji rfl rfl rfl rfl hc6 rfl rfl), (oX [(18, 107)] rfl rfl rfl fun _ _ => Qp rfl hc6 rfl), trivial⟩ (fun L1320 w1321 h1322 s1323 => ?_)
  ·refine oP [] rfl rfl fun L1200 w1201 h1202 s1203 => ?_
   have c1205 := (Stp.release (lab := lab848) (w := w849) 84).trans s1203
   have c1206 := s852.trans c1205
   have c1207 := s844.trans c1206
   have c1208 := s835.trans c1207
   have c1209 := c829.trans c1208
   have o1204 := o798.up c1209
   exact ⟨_, Qb [.slice A788 (nw ((grp n).g ^ (x % ((grp n).q)) % (grp n).p)) c789] o1204 Qn rfl rfl, rfl⟩
  ·refine oC [(0, 89), (1, 90), (2, 91), (3, 92)] rfl rfl XD fun L1218 w1219 h1220 s1221 => ?_
   have c1222 := (Stp.release (lab := lab848) (w := w849) 84).trans s1221
   have c1223 := s852.trans c1222
   have c1224 := s844.trans c1223
   have c1225 := s835.trans c1224
   have c1226 := c829.trans c1225
   have q1227 := up c1226 q808
   have q1228 := up c1226 q809
   have q1229 := up c1226 q810
   have q1230 := up s1221 q859
   exact ⟨_, rfl, (J0 h1220 q1227 q1228 q1229 q1230 (show okG (grp n) from by exact hG) (show nw ((grp n).g ^ (x % ((grp n).q)) % (grp n).p) ≤ 1000 from by exact Nat.le_trans (Zx hG _) (by omega)) (show List.length msg ≤ 4000000 from by omega))⟩
  ·refine oP [(4, 93)] rfl rfl fun L1231 w1232 h1233 s1234 v1235 q1236 => ?_
   have q1236 := Is.out q1236; subst q1236
   exact ⟨_, Qa.not rfl, rfl⟩
  ·refine Q9 [] rfl rfl rfl rfl hc5 rfl fun L1241 w1242 h1243 s1244 => ?_
   exact ⟨_, Qa.move rfl, rfl⟩
  ·refine Q9 [] rfl rfl rfl rfl hc5 rfl fun L1245 w1246 h1247 s1248 => ?_
   have c1250 := (Stp.release (lab := lab848) (w := w849) 84).trans s1248
   have c1251 := s852.trans c1250
   have c1252 := s844.trans c1251
   have c1253 := s835.trans c1252
   have c1254 := c829.trans c1253
   have o1249 := o798.up c1254
   exact ⟨_, Qb [.slice A788 (nw ((grp n).g ^ (x % ((grp n).q)) % (grp n).p)) c789] o1249 Qn rfl rfl, rfl⟩
  ·refine Q9 [] rfl rfl rfl rfl hc5 rfl fun L1255 w1256 h1257 s1258 => ?_
   exact ⟨_, Qa.move rfl, rfl⟩
  ·refine Q9 [] rfl rfl rfl rfl hc5 rfl fun L1259 w1260 h1261 s1262 => ?_
   exact ⟨_, Qa.move rfl, rfl⟩
  ·refine Q9 [] rfl rfl rfl rfl hc5 rfl fun L1263 w1264 h1265 s1266 => ?_
   exact ⟨_, Qa.move rfl, rfl⟩
  ·refine Q9 [(11, 100)] rfl rfl rfl rfl hc5 rfl fun L1267 w1268 h1269 s1270 => ?_
   exact ⟨_, Qa.len Try.underlying22 rfl, rfl⟩
  ·refine Q9 [(12, 101)] rfl rfl rfl rfl hc5 rfl fun L1271 w1272 h1273 s1274 => ?_
   exact ⟨_, Qa.sub rfl rfl (by omega), rfl⟩
  ·refine Q9 [(10, 99), (13, 102)] rfl rfl rfl rfl hc5 rfl fun L1275 w1276 h1277 s1278 => ?_
   have c1280 := (Stp.release (lab := lab848) (w := w849) 84).trans s1278
   have c1281 := s852.trans c1280
   have c1282 := s844.trans c1281
   have c1283 := s835.trans c1282
   have q1284 := up c1283 q830
   have q1279 := Qe.takeN q1284 ((((List.length (Jk (grp n) (x % ((grp n).q)) msg) : Nat) : Int) - 1).toNat) (by omega)
   exact ⟨_, JJ ((((List.length (Jk (grp n) (x % ((grp n).q)) msg) : Nat) : Int) - 1).toNat) Try.underlying22 ty5 rfl rfl (by omega) (by have := (Qe.cap q1284).2; omega), q1279⟩
  ·refine Zp [(7, 96), (8, 97), (9, 98), (14, 103)] rfl rfl rfl rfl hc5 rfl XD fun L1285 w1286 h1287 s1288 v1289 q1290 => ?_
   obtain ⟨A1291, c1292, rfl⟩ := Qe.shape q1290
   have z1293 := Qe.cap q1290
   have c1294 := (Stp.release (lab := lab848) (w := w849) 84).trans s1288
   have c1295 := s852.trans c1294
   have c1296 := s844.trans c1295
   have c1297 := s835.trans c1296
   have c1298 := c829.trans c1297
   have q1299 := up c1298 q808
   have q1300 := up c1298 q809
   have q1301 := up c1298 q810
   exact ⟨_, rfl, (J0 h1287 q1299 q1300 q1301 q1290 (show okG (grp n) from by exact hG) (show nw ((grp n).g ^ (x % ((grp n).q)) % (grp n).p) ≤ 1000 from by exact Nat.le_trans (Zx hG _) (by omega)) (show List.length msg ≤ 4000000 from by omega))⟩
  ·refine Q9 [(15, 104)] rfl rfl rfl rfl hc5 rfl fun L1302 w1303 h1304 s1305 v1306 q1307 => ?_
   have q1307 := Is.out q1307; subst q1307
   exact ⟨_, Qa.not rfl, rfl⟩
  refine sv (Qa.assign rfl) ?_
  refine Seq.next ?_
  have c1324 := (Stp.release (lab := lab848) (w := w849) 84).trans s1323
  have c1325 := s852.trans c1324
  have c1326 := s844.trans c1325
  have c1327 := s835.trans c1326
  have c1328 := c829.trans c1327
  have c1329 := c803.trans c1328
  have c1330 := s751.trans c1329
  have c1331 := c746.trans c1330
  obtain ⟨⟨zU, zo⟩, zb⟩ := hX c1331 (by decide)
  refine Run.ret ?_
  exact Qm Try.results13 rfl ⟨_, rfl, (Jj (by exact absurd (ZW hc6) (Qhw hG)) _ _), zb⟩
 refine Run.open 26 (Φ := [.ex (.pointer (some ⟨b20, 0, none⟩)), .ex (.agg #[.slice A788 (nw ((grp n).g ^ (x % ((grp n).q)) % (grp n).p)) c789]), .ex (.slice A1 (List.length msg) c2), .ex (.slice A854 (0 + (List.length (Jk (grp n) (x % ((grp n).q)) msg)) + 1) c855), .v (Is (.bool (decide (Z1 (grp n) ((grp n).g ^ (x % ((grp n).q)) % (grp n).p) msg (Jk (grp n) (x % ((grp n).q)) msg ++ ([b])))))), .ex (.bool (!(decide (Z1 (grp n) ((grp n).g ^ (x % ((grp n).q)) % (grp n).p) msg (Jk (grp n) (x % ((grp n).q)) msg ++ ([b])))))), .ex (.bool (!(decide (Z1 (grp n) ((grp n).g ^ (x % ((grp n).q)) % (grp n).p) msg (Jk (grp n) (x % ((grp n).q)) msg ++ ([b])))))), .ex (.pointer (some ⟨b20, 0, none⟩)), .ex (.agg #[.slice A788 (nw ((grp n).g ^ (x % ((grp n).q)) % (grp n).p)) c789]), .ex (.slice A1 (List.length msg) c2), .ex (.slice A757 (List.length (Jk (grp n) (x % ((grp n).q)) msg)) c758), .ex (.slice A757 (List.length (Jk (grp n) (x % ((grp n).q)) msg)) c758), .ex (i64 ((List.length (Jk (grp n) (x % ((grp n).q)) msg) : Nat) : Int)), .ex (i64 (((List.length (Jk (grp n) (x % ((grp n).q)) msg) : Nat) : Int) - 1)), .v (Qe (List.take ((((List.length (Jk (grp n) (x % ((grp n).q)) msg) : Nat) : Int) - 1).toNat) (Jk (grp n) (x % ((grp n).q)) msg))), .v (Is (.bool (decide (Z1 (grp n) ((grp n).g ^ (x % ((grp n).q)) % (grp n).p) msg (List.take ((((List.length (Jk (grp n) (x % ((grp n).q)) msg) : Nat) : Int) - 1).toNat) (Jk (grp n) (x % ((grp n).q)) msg)))))), .ex (.bool (!(decide (Z1 (grp n) ((grp n).g ^ (x % ((grp n).q)) % (grp n).p) msg (List.take ((((List.length (Jk (grp n) (x % ((grp n).q)) msg) : Nat) : Int) - 1).toNat) (Jk (grp n) (x % ((grp n).q)) msg)))))), .ex (.bool (!(decide (Z1 (grp n) ((grp n).g ^ (x % ((grp n).q)) % (grp n).p) msg (List.take ((((List.length (Jk (grp n) (x % ((grp n).q)) msg) : Nat) : Int) - 1).toNat) (Jk (grp n) (x % ((grp n).q)) msg)))))), .ex (.bool (!(decide (Z1 (grp n) ((grp n).g ^ (x % ((grp n).q)) % (grp n).p) msg (List.take ((((List.length (Jk (grp n) (x % ((grp n).q)) msg) : Nat) : Int) - 1).toNat) (Jk (grp n) (x % ((grp n).q)) msg)))))), .ex (.pointer (some ⟨b20, 0, none⟩)), .ex (.agg #[.slice none 0 0]), .ex (.slice A1 (List.length msg) c2), .ex (.slice A757 (List.length (Jk (grp n) (x % ((grp n).q)) msg)) c758), .v (Is (.bool (decide (Z1 (grp n) 0 msg (Jk (grp n) (x % ((grp n).q)) msg))))), .ex (.bool (!(decide (Z1 (grp n) 0 msg (Jk (grp n) (x % ((grp n).q)) msg))))), .ex (.bool (!(decide (Z1 (grp n) 0 msg (Jk (grp n) (x % ((grp n).q)) msg)))))]) [(25, 114)] Je (by kernel_rfl) rfl hv858 ⟨(oX [] rfl rfl rfl fun _ _ => Qa.move rfl), ?_, (oX [] rfl rfl rfl fun _ _ => Qa.move rfl), (oX [] rfl rfl rfl fun _ _ => Qa.move rfl), ?_, ?_, (oX [(5, 94)] rfl rfl rfl fun _ _ => Qa.move rfl), ?_, ?_, ?_, ?_, ?_, ?_, ?_, ?_, ?_, ?_, (oX [(6, 95), (16, 105)] rfl rfl rfl fun _ _ => Qp rfl hc5 rfl), (oX [(17, 106)] rfl rfl rfl fun _ _ => Qa.move rfl), ?_, ?_, ?_, ?_, ?_, ?_, (oX [(18, 107), (24, 113)] rfl rfl rfl fun _ _ => Qp rfl hc6 rfl), trivial⟩ (fun L1184 w1185 h1186 s1187 => ?_)
 ·refine oP [] rfl rfl fun L1030 w1031 h1032 s1033 => ?_
  have c1035 := (Stp.release (lab := lab848) (w := w849) 84).trans s1033
  have c1036 := s852.trans c1035
  have c1037 := s844.trans c1036
  have c1038 := s835.trans c1037
  have c1039 := c829.trans c1038
  have o1034 := o798.up c1039
  exact ⟨_, Qb [.slice A788 (nw ((grp n).g ^ (x % ((grp n).q)) % (grp n).p)) c789] o1034 Qn rfl rfl, rfl⟩
 ·refine oC [(0, 89), (1, 90), (2, 91), (3, 92)] rfl rfl XD fun L1048 w1049 h1050 s1051 => ?_
  have c1052 := (Stp.release (lab := lab848) (w := w849) 84).trans s1051
  have c1053 := s852.trans c1052
  have c1054 := s844.trans c1053
  have c1055 := s835.trans c1054
  have c1056 := c829.trans c1055
  have q1057 := up c1056 q808
  have q1058 := up c1056 q809
  have q1059 := up c1056 q810
  have q1060 := up s1051 q859
  exact ⟨_, rfl, (J0 h1050 q1057 q1058 q1059 q1060 (show okG (grp n) from by exact hG) (show nw ((grp n).g ^ (x % ((grp n).q)) % (grp n).p) ≤ 1000 from by exact Nat.le_trans (Zx hG _) (by omega)) (show List.length msg ≤ 4000000 from by omega))⟩
 ·refine oP [(4, 93)] rfl rfl fun L1061 w1062 h1063 s1064 v1065 q1066 => ?_
  have q1066 := Is.out q1066; subst q1066
  exact ⟨_, Qa.not rfl, rfl⟩
 ·refine Q9 [] rfl rfl rfl rfl hc5 rfl fun L1071 w1072 h1073 s1074 => ?_
  exact ⟨_, Qa.move rfl, rfl⟩
 ·refine Q9 [] rfl rfl rfl rfl hc5 rfl fun L1075 w1076 h1077 s1078 => ?_
  have c1080 := (Stp.release (lab := lab848) (w := w849) 84).trans s1078
  have c1081 := s852.trans c1080
  have c1082 := s844.trans c1081
  have c1083 := s835.trans c1082
  have c1084 := c829.trans c1083
  have o1079 := o798.up c1084
  exact ⟨_, Qb [.slice A788 (nw ((grp n).g ^ (x % ((grp n).q)) % (grp n).p)) c789] o1079 Qn rfl rfl, rfl⟩
 ·refine Q9 [] rfl rfl rfl rfl hc5 rfl fun L1085 w1086 h1087 s1088 => ?_
  exact ⟨_, Qa.move rfl, rfl⟩
 ·refine Q9 [] rfl rfl rfl rfl hc5 rfl fun L1089 w1090 h1091 s1092 => ?_
  exact ⟨_, Qa.move rfl, rfl⟩
 ·refine Q9 [] rfl rfl rfl rfl hc5 rfl fun L1093 w1094 h1095 s1096 => ?_
  exact ⟨_, Qa.move rfl, rfl⟩
 ·refine Q9 [(11, 100)] rfl rfl rfl rfl hc5 rfl fun L1097 w1098 h1099 s1100 => ?_
  exact ⟨_, Qa.len Try.underlying22 rfl, rfl⟩
 ·refine Q9 [(12, 101)] rfl rfl rfl rfl hc5 rfl fun L1101 w1102 h1103 s1104 => ?_
  exact ⟨_, Qa.sub rfl rfl (by omega), rfl⟩
 ·refine Q9 [(10, 99), (13, 102)] rfl rfl rfl rfl hc5 rfl fun L1105 w1106 h1107 s1108 => ?_
  have c1110 := (Stp.release (lab := lab848) (w := w849) 84).trans s1108
  have c1111 := s852.trans c1110
  have c1112 := s844.trans c1111
  have c1113 := s835.trans c1112
  have q1114 := up c1113 q830
  have q1109 := Qe.takeN q1114 ((((List.length (Jk (grp n) (x % ((grp n).q)) msg) : Nat) : Int) - 1).toNat) (by omega)
  exact ⟨_, JJ ((((List.length (Jk (grp n) (x % ((grp n).q)) msg) : Nat) : Int) - 1).toNat) Try.underlying22 ty5 rfl rfl (by omega) (by have := (Qe.cap q1114).2; omega), q1109⟩
 ·refine Zp [(7, 96), (8, 97), (9, 98), (14, 103)] rfl rfl rfl rfl hc5 rfl XD fun L1115 w1116 h1117 s1118 v1119 q1120 => ?_
  obtain ⟨A1121, c1122, rfl⟩ := Qe.shape q1120
  have z1123 := Qe.cap q1120
  have c1124 := (Stp.release (lab := lab848) (w := w849) 84).trans s1118
  have c1125 := s852.trans c1124
  have c1126 := s844.trans c1125
  have c1127 := s835.trans c1126
  have c1128 := c829.trans c1127
  have q1129 := up c1128 q808
  have q1130 := up c1128 q809
  have q1131 := up c1128 q810
  exact ⟨_, rfl, (J0 h1117 q1129 q1130 q1131 q1120 (show okG (grp n) from by exact hG) (show nw ((grp n).g ^ (x % ((grp n).q)) % (grp n).p) ≤ 1000 from by exact Nat.le_trans (Zx hG _) (by omega)) (show List.length msg ≤ 4000000 from by omega))⟩
 ·refine Q9 [(15, 104)] rfl rfl rfl rfl hc5 rfl fun L1132 w1133 h1134 s1135 v1136 q1137 => ?_
  have q1137 := Is.out q1137; subst q1137
  exact ⟨_, Qa.not rfl, rfl⟩
 ·refine Q9 [] rfl rfl rfl rfl hc6 rfl fun L1146 w1147 h1148 s1149 => ?_
  exact ⟨_, Qa.move rfl, rfl⟩
 ·refine Q9 [] rfl rfl rfl rfl hc6 rfl fun L1150 w1151 h1152 s1153 => ?_
  exact ⟨_, Qa.build [] [(0, 1)] [.slice none 0 0] Try.underlying60 Qn (by kernel_rfl) rfl (by kernel_rfl), rfl⟩
 ·refine Q9 [] rfl rfl rfl rfl hc6 rfl fun L1154 w1155 h1156 s1157 => ?_
  exact ⟨_, Qa.move rfl, rfl⟩
 ·refine Q9 [] rfl rfl rfl rfl hc6 rfl fun L1158 w1159 h1160 s1161 => ?_
  exact ⟨_, Qa.move rfl, rfl⟩
 ·refine Zp [(19, 108), (20, 109), (21, 110), (22, 111)] rfl rfl rfl rfl hc6 rfl XD fun L1162 w1163 h1164 s1165 => ?_
  have c1166 := (Stp.release (lab := lab848) (w := w849) 84).trans s1165
  have c1167 := s852.trans c1166
  have c1168 := s844.trans c1167
  have c1169 := s835.trans c1168
  have c1170 := c829.trans c1169
  have q1171 := up c1170 q808
  have q1172 := up c1170 q810
  have q1173 := up c1169 q830
  exact ⟨_, rfl, (J0 h1164 q1171 (Qi.zero L1162 w1163) q1172 q1173 (show okG (grp n) from by exact hG) (show nw 0 ≤ 1000 from by exact Nat.le_trans (Um (by omega)) (by omega)) (show List.length msg ≤ 4000000 from by omega))⟩
 ·refine Q9 [(23, 112)] rfl rfl rfl rfl hc6 rfl fun L1174 w1175 h1176 s1177 v1178 q1179 => ?_
  have q1179 := Is.out q1179; subst q1179
  exact ⟨_, Qa.not rfl, rfl⟩
 refine sv (Qa.assign rfl) ?_
 refine Seq.next ?_
 have c1188 := (Stp.release (lab := lab848) (w := w849) 84).trans s1187
 have c1189 := s852.trans c1188
 have c1190 := s844.trans c1189
 have c1191 := s835.trans c1190
 have c1192 := c829.trans c1191
 have c1193 := c803.trans c1192
 have c1194 := s751.trans c1193
 have c1195 := c746.trans c1194
 obtain ⟨⟨zU, zo⟩, zb⟩ := hX c1195 (by decide)
 refine Run.ret ?_
 exact Qm Try.results13 rfl ⟨_, rfl, (Jj (by exact QfQ) _ _), zb⟩
end Go.Proofs.Ytgfomedobfaidaa
end
section
set_option linter.unusedVariables false
set_option linter.unusedSimpArgs false
namespace Go.Proofs.Ytgfomedobfaidaa
open Go.ChangeShapes Go.WideShapes Go.ChangeAt Go.RowKit Go.Deep
abbrev Xl : Lab := fun _ => none
theorem QjC (w : World) : Ql Xl w := fun _ _ => rfl
section
variable {H : Type} {enc : TypeId × Value → H} {P : Program} {w : World} {base : Nat} {spare : Nat → Bool} {held : Bool}
theorem Qb3 {t e : TypeId} {c : Value} {n : Nat} {y : DataW H × List MemPlace} (ht : P.underlying t = some (.slice e)) (he : P.underlying e = some (.int .u8)) (hc : P.cellsOf e = 1)
  (h : DataW.trod enc P w 0 (fun _ => true) true n t [c] = some y) : ∃ bs, Qe bs Xl w c := by
 rcases open_ints ht he hc h with ⟨hcs, _⟩ | ⟨a, len, cap, zs, hcs, _, hl, hm, hz, _, hcell, hwf⟩
 ·simp at hcs; subst hcs
  exact ⟨[], Qe.nil _ _⟩
 ·simp at hcs; subst hcs
  simp only [if_true] at hz
  refine ⟨(zs.take len).map (fun z => UInt8.ofNat z.toNat), some a, cap, by simp; omega, by simp; omega, by unfold maxLen at hm; omega, ?_⟩
  by_cases h0 : zs.length = 0
  ·have : zs = [] := List.eq_nil_of_length_eq_zero h0
   subst this
   simp
   exact Ja.nil
  ·obtain ⟨b, o, s⟩ := a
   obtain rfl : s = none := by simpa [Addr.add] using World.cell?_spot (hcell 0 (by omega))
   have hb : ∃ arr t' fr, w.heap[b]? = some (.cells arr t' fr) := by
    have := hcell 0 (by omega)
    rw [J2] at this
    unfold World.cell? at this
    dsimp only at this
    cases hq : w.heap[b]? with
    | none => rw [hq] at this; cases this
    | some ob =>
     cases ob with
     | cells arr t' fr => exact ⟨arr, t', fr, rfl⟩
     | _ => rw [hq] at this; cases this
   obtain ⟨arr, t', fr, hb⟩ := hb
   refine .inr ⟨b, o, arr, t', fr, rfl, rfl, hb, fun j v hj => ?_⟩
   rw [List.map_map, List.getElem?_map, Option.map_eq_some_iff] at hj
   obtain ⟨z, hzj, rfl⟩ := hj
   have hjl : j < len := by
    by_cases hjl : j < len
    ·exact hjl
    ·rw [List.getElem?_take, if_neg hjl] at hzj; cases hzj
   rw [List.getElem?_take_of_lt hjl] at hzj
   have hjz : j < zs.length := (List.getElem?_eq_some_iff.1 hzj).1
   have hc2 := hcell j hjz
   rw [J2, cell_of_row w b _ arr t' fr hb] at hc2
   rw [hc2]
   have e1 : zs.getD j 0 = z := by simp [List.getD, hzj]
   rw [e1]
   have hw := hwf z (List.mem_of_getElem? hzj)
   have h1 : IntKind.u8.min = 0 := rfl
   have h2 : IntKind.u8.max = 255 := rfl
   simp only [Lit.wf, Bool.and_eq_true, decide_eq_true_eq] at hw
   simp only [Function.comp_apply]
   congr 2
   simp
   omega
theorem QgC {t : TypeId} {c : Value} {n : Nat} {y : DataW H × List MemPlace} (ht : P.underlying t = some (.int .i64)) (h : DataW.trod enc P w base spare held n t [c] = some y) : ∃ x, c = i64 x ∧ -9223372036854775808 ≤ x ∧ x < 9223372036854775808 := by
 obtain ⟨x, hx, _, hw⟩ := DataW.trod_int ht h
 simp at hx
 have h1 : IntKind.i64.min = -9223372036854775808 := rfl
 have h2 : IntKind.i64.max = 9223372036854775807 := rfl
 simp only [Lit.wf, Bool.and_eq_true, decide_eq_true_eq] at hw
 exact ⟨x, hx, by omega, by omega⟩
theorem UQ {f : Func} {s : ChangeSpec} {apart fresh handsOn again : Bool} {W W' : World} {args : Array Value} {v : Value} {ds gs : List (DataW H)} {before pa pv : List MemPlace}
  (hW : DataW.Whole enc P f.params.toList s.vars apart W args.toList ds gs before)
  (hres : ∀ (b : Nat) (sp : Nat → Bool) (hd : Bool), DataW.TrodAll enc P W' b sp hd f.resultTypes.toList (v.resultList f.resultTypes.size) (s.fn H (ds ++ gs)).results [])
  (hargs : ∀ sp : Nat → Bool, (∀ p ∈ before, sp p.block = true) → DataW.TrodAll enc P W' 0 sp true f.params.toList args.toList (s.fn H (ds ++ gs)).args pa)
  (hvars : ∀ sp : Nat → Bool, (∀ p ∈ before, sp p.block = true) → DataW.TrodVars enc P W' sp s.vars (s.fn H (ds ++ gs)).vars pv)
  (hps : before = pa ++ pv) (hb : Below W.heap.size W W')
  (hok : ∀ (j : Nat) (t : TypeId) (r : Value), f.resultTypes[j]? = some t → (v.resultList f.resultTypes.size)[j]? = some r → Value.okWide P W' .any 0 t r) :
  s.post enc P f apart fresh handsOn again W args v W' := by
 have hlt : ∀ p ∈ before, p.block < W.heap.size := fun p hp => hW.lt p hp
 have hold : ∀ p ∈ before, (fun b => decide (b < W.heap.size)) p.block = true := fun p hp => by simpa using hlt p hp
 refine ⟨ds, gs, before, [], pa, pv, hW, hres _ _ _, hargs _ hold, hvars _ hold, World.keptBut_mono (fun p hp => ⟨hp, ?_⟩) (hb.frame (· ∈ before)), fun _ => ?_⟩
 ·rw [hps, List.mem_append] at hp
  exact Or.inr hp
 ·obtain ⟨_, _, _, _, _, hz, hn⟩ := hW
  refine ⟨hok, _, _, ([] ++ pa) ++ pv, ⟨[] ++ pa, pv, trodAll_append (hargs _ (fun _ _ => rfl)) (hres _ _ _), hvars _ (fun _ _ => rfl), rfl, ?_, ?_⟩, ?_⟩
  ·intro b off hp
   have hin : MemPlace.cell b off ∈ before := by rw [hps]; simpa using hp
   rw [hb.frozen (hlt _ hin)]
   exact hz b off hin
  ·intro ha
   have := hn ha
   rw [hps] at this
   simpa using this
  ·intro p hp _
   rw [hps]
   simpa using hp
theorem Vg {t : TypeId} (hl : laidOutB P = true) (hr : P.readableRec t = true) (hrow : t < P.types.size) {W W' : World} {v : Value} {d : DataW H} {ps : List MemPlace} (h : DataW.Trod enc P W 0 (fun _ => true) true t v d ps) (hb : Below W.heap.size W W') (hlt : ∀ x ∈ ps, x.block < W.heap.size) {sp : Nat → Bool} (hs : ∀ p ∈ ps, sp p.block = true) : DataW.Trod enc P W' 0 sp true t v d ps :=
 WideElems.Trod_stays hl hr hrow h (fun x hx => hb.same (hlt x hx)) hs
end
end Go.Proofs.Ytgfomedobfaidaa
end
section
set_option linter.unusedVariables false
set_option linter.unusedSimpArgs false
namespace Go.Proofs.Ytgfomedobfaidaa
open Go.ChangeShapes Go.WideShapes Go.ChangeAt Go.RowKit
section
variable {H : Type} {enc : TypeId × Value → H} {P : Program} {w : World} {base : Nat} {spare : Nat → Bool} {held : Bool}
theorem QgB {t : TypeId} {c : Value} {n : Nat} {y : DataW H × List MemPlace} (ht : P.underlying t = some (.int .u64)) (h : DataW.trod enc P w base spare held n t [c] = some y) : ∃ x : Nat, c = n64 x ∧ x < 18446744073709551616 := by
 obtain ⟨x, hx, _, hw⟩ := DataW.trod_int ht h
 simp at hx
 have h1 : IntKind.u64.min = 0 := rfl
 have h2 : IntKind.u64.max = 18446744073709551615 := rfl
 simp only [Lit.wf, Bool.and_eq_true, decide_eq_true_eq] at hw
 exact ⟨x.toNat, by rw [hx]; show Value.int .u64 x = Value.int .u64 ((x.toNat : Nat) : Int); rw [Int.toNat_of_nonneg (by omega)], by omega⟩
theorem Qiz {t : TypeId} {c : Value} {n : Nat} {y : DataW H × List MemPlace} (ht : P.underlying t = some (.int .u8)) (h : DataW.trod enc P w base spare held n t [c] = some y) : ∃ x : UInt8, c = u8 x := by
 obtain ⟨x, hx, _, hw⟩ := DataW.trod_int ht h
 simp at hx
 have h1 : IntKind.u8.min = 0 := rfl
 have h2 : IntKind.u8.max = 255 := rfl
 simp only [Lit.wf, Bool.and_eq_true, decide_eq_true_eq] at hw
 exact ⟨UInt8.ofNat x.toNat, by rw [hx]; show Value.int .u8 x = Value.int .u8 (((UInt8.ofNat x.toNat).toNat : Nat) : Int); simp; omega⟩
end
end Go.Proofs.Ytgfomedobfaidaa
end
section
set_option linter.unusedVariables false
namespace Go.Proofs.Ytgfomedobfaidaa
open Go.ChangeShapes Go.WideShapes Go.ChangeAt Go.RowKit
theorem signBack_fact0 : (Rows.signBackRow.wf (OpenSpec.ofChange Rows.signBackSpec)) = true := by kernel_rfl
theorem signBack_fact1 : (laidOutB Try.prog) = true := by kernel_rfl
theorem signBack_fact2 : (mapsRowed Try.prog) = true := by kernel_rfl
theorem signBack_fact3 : (Try.f13.params.all (Try.prog.readableRec ·)) = true := by kernel_rfl
theorem signBack_fact4 : (namedTie Try.prog Rows.signBackRow.named Rows.signBackSpec.vars) = true := by kernel_rfl
theorem signBack_fact5 : ((Rows.signBackRow.stops == [])) = true := by kernel_rfl
theorem signBack_fact6 : ((Try.prog.stops == [])) = true := by kernel_rfl
theorem signBack_fact7 : ((Rows.signBackRow.knobs == [])) = true := by kernel_rfl
theorem signBack_fact8 : ((Try.prog.stopKnobs == [])) = true := by kernel_rfl
theorem signBack_fact9 : ((Rows.signBackRow.inPlace == Try.prog.inPlace 13)) = true := by kernel_rfl
theorem signBack_fact10 : ((Rows.signBackRow.unfollowed == Try.prog.unfollowed 13)) = true := by kernel_rfl
theorem signBack_fact11 : ((Rows.signBackRow.recurses == Try.prog.recurses 13)) = true := by kernel_rfl
theorem signBack_fact12 : ((Rows.signBackRow.named == Try.prog.varsNamed 13)) = true := by kernel_rfl
theorem signBack_fact13 : ((Rows.signBackRow.maps == (Try.f13.params.toList ++ Rows.signBackSpec.plain.varTypes Try.prog).any (Try.prog.mapsRec ·))) = true := by kernel_rfl
theorem signBack_fact14 : ((Rows.signBackRow.ifaces == (Try.f13.params.toList ++ Rows.signBackSpec.plain.varTypes Try.prog).any (Try.prog.ifacesRec ·))) = true := by kernel_rfl
theorem signBack_fact15 : ((Rows.signBackRow.mapsOut == Try.prog.mapsAmong Try.f13.resultTypes.toList)) = true := by kernel_rfl
theorem signBack_fact16 : ((Rows.signBackRow.loops == (Try.f13.params.toList ++ Rows.signBackSpec.plain.varTypes Try.prog).any (Try.prog.loopsFrom ·))) = true := by kernel_rfl
theorem signBack_fact17 : ((Rows.signBackRow.wideKeys == (Try.f13.params.toList ++ Rows.signBackSpec.plain.varTypes Try.prog ++ Try.f13.resultTypes.toList).any (Try.prog.wideKeysFrom ·))) = true := by kernel_rfl
theorem signBack_fact18 : (Rows.signBackSpec.vars.all (Try.prog.varReadable ·)) = true := by kernel_rfl
theorem signBack_fact19 : (Try.f13.resultTypes.all (fun t => Try.prog.readableRec t && decide (t < Try.prog.types.size))) = true := by kernel_rfl
theorem signBack_fact20 : ((Rows.signBackRow.ifacesOut == Try.f13.resultTypes.toList.any (Try.prog.ifacesRec ·))) = true := by kernel_rfl
theorem signBack_fact21 : ((Rows.signBackRow.loopsOut == Try.f13.resultTypes.toList.any (Try.prog.loopsFrom ·))) = true := by kernel_rfl
theorem signBack_fact22 : ((Rows.signBackRow.plainKeys == Try.prog.plainKeys)) = true := by kernel_rfl
theorem signBack_fact23 : (Rows.signBackRow.shortTexts.isNone) = true := by kernel_rfl
theorem signBack_fact24 : (Try.prog.stopsHeard) = true := by kernel_rfl
theorem signBack_fact25 : (Try.prog.mayEnter) = true := by kernel_rfl
theorem signBack_fact26 : ((Rows.signBackRow.lifted == Try.prog.liftsFinal)) = true := by kernel_rfl
theorem signBack_fact27 : ((Try.prog.make == some Rows.signBackRow.make)) = true := by kernel_rfl
theorem signBack_fact28 : ((Rows.signBackRow.kinds == (if Rows.signBackRow.domain.isEmpty then [] else Try.f13.params.toList.map fun t => match Try.prog.underlying t with | some (.int k) => some k | _ => none))) = true := by kernel_rfl
theorem signBack_fact29 : ((Rows.signBackRow.pinned == Rows.signBackRow.pinnedBy)) = true := by kernel_rfl
theorem signBack_fact30 : ((Rows.signBackRow.veiled == (Try.f13.params.toList ++ Rows.signBackSpec.plain.varTypes Try.prog ++ Try.f13.resultTypes.toList).any (Try.prog.veiledRec ·))) = true := by kernel_rfl
theorem signBack_fact31 : (Rows.signBackRow.veiledFits Try.prog Try.f13.params.toList (Try.f13.params.toList ++ Rows.signBackSpec.plain.varTypes Try.prog ++ Try.f13.resultTypes.toList)) = true := by kernel_rfl
theorem signBack_named : Try.prog.funcNamed Rows.signBackRow.func = some 13 := by kernel_rfl
theorem signBack_wrap : Try.f13.isWrapper Try.prog Rows.signBackRow.wrapper Rows.signBackRow.mainSum := by unfold Func.isWrapper; first | (rw [if_pos (by decide +kernel)]; kernel_rfl) | (rw [if_neg (by decide +kernel)]; exact ⟨rfl, rfl⟩)
theorem signBack_inst : Try.f13.isInstance Try.prog Rows.signBackRow.origin Rows.signBackRow.targs := of_decide_eq_true (by kernel_rfl)
end Go.Proofs.Ytgfomedobfaidaa
end
section
set_option linter.unusedVariables false
namespace Go.Proofs.Ytgfomedobfaidaa
open Go.ChangeShapes Go.WideShapes Go.ChangeAt Go.RowKit
theorem Qfm (P : Program) (f : FuncId) (fn : Func) (s : ChangeSpec) (c : OpenClaim) (h0 : (c.wf (OpenSpec.ofChange s)) = true) (h1 : (laidOutB P) = true) (h2 : (mapsRowed P) = true) (h3 : (fn.params.all (P.readableRec ·)) = true) (h4 : (namedTie P c.named s.vars) = true) (h5 : ((c.stops == [])) = true) (h6 : ((P.stops == [])) = true) (h7 : ((c.knobs == [])) = true) (h8 : ((P.stopKnobs == [])) = true) (h9 : ((c.inPlace == P.inPlace f)) = true) (h10 : ((c.unfollowed == P.unfollowed f)) = true) (h11 : ((c.recurses == P.recurses f)) = true) (h12 : ((c.named == P.varsNamed f)) = true) (h13 : ((c.maps == (fn.params.toList ++ s.plain.varTypes P).any (P.mapsRec ·))) = true) (h14 : ((c.ifaces == (fn.params.toList ++ s.plain.varTypes P).any (P.ifacesRec ·))) = true) (h15 : ((c.mapsOut == P.mapsAmong fn.resultTypes.toList)) = true) (h16 : ((c.loops == (fn.params.toList ++ s.plain.varTypes P).any (P.loopsFrom ·))) = true) (h17 : ((c.wideKeys == (fn.params.toList ++ s.plain.varTypes P ++ fn.resultTypes.toList).any (P.wideKeysFrom ·))) = true) (h18 : (s.vars.all (P.varReadable ·)) = true) (h19 : (fn.resultTypes.all (fun t => P.readableRec t && decide (t < P.types.size))) = true) (h20 : ((c.ifacesOut == fn.resultTypes.toList.any (P.ifacesRec ·))) = true) (h21 : ((c.loopsOut == fn.resultTypes.toList.any (P.loopsFrom ·))) = true) (h22 : ((c.plainKeys == P.plainKeys)) = true) (h23 : (c.shortTexts.isNone) = true) (h24 : (P.stopsHeard) = true) (h25 : (P.mayEnter) = true) (h26 : ((c.lifted == P.liftsFinal)) = true) (h27 : ((P.make == some c.make)) = true) (h28 : ((c.kinds == (if c.domain.isEmpty then [] else fn.params.toList.map fun t => match P.underlying t with | some (.int k) => some k | _ => none))) = true) (h29 : ((c.pinned == c.pinnedBy)) = true) (h30 : ((c.veiled == (fn.params.toList ++ s.plain.varTypes P ++ fn.resultTypes.toList).any (P.veiledRec ·))) = true) (h31 : (c.veiledFits P fn.params.toList (fn.params.toList ++ s.plain.varTypes P ++ fn.resultTypes.toList)) = true) : joinedFacts P f fn s c = true := by
 unfold joinedFacts
 repeat rw [Bool.and_eq_true]
 exact ⟨⟨⟨⟨⟨⟨⟨⟨⟨⟨⟨⟨⟨⟨⟨⟨⟨⟨⟨⟨⟨⟨⟨⟨⟨⟨⟨⟨⟨⟨⟨h0, h1⟩, h2⟩, h3⟩, h4⟩, h5⟩, h6⟩, h7⟩, h8⟩, h9⟩, h10⟩, h11⟩, h12⟩, h13⟩, h14⟩, h15⟩, h16⟩, h17⟩, h18⟩, h19⟩, h20⟩, h21⟩, h22⟩, h23⟩, h24⟩, h25⟩, h26⟩, h27⟩, h28⟩, h29⟩, h30⟩, h31⟩
end Go.Proofs.Ytgfomedobfaidaa
end
section
set_option linter.constructorNameAsVariable false
set_option linter.unusedVariables false
namespace Go.Proofs.Ytgfomedobfaidaa
open Go.ChangeShapes Go.WideShapes Go.ChangeAt Go.RowKit
theorem QgA : ownKnob Try.prog.godebug = none := by kernel_rfl
theorem VY : laidOutB Try.prog = true := by kernel_rfl
section
variable {H : Type} {enc : TypeId × Value → H} {P : Program} {w : World} {base : Nat} {spare : Nat → Bool} {held : Bool}
theorem signBack_args {t0 t1 t2 t3 : TypeId} {args : Array Value} {ds : List (DataW H)} {ps : List MemPlace} (h : DataW.TrodAll enc P w base spare held [t0, t1, t2, t3] args.toList ds ps) :
  ∃ v0 v1 v2 v3 d0 d1 d2 d3 p0 p1 p2 p3, args = #[v0, v1, v2, v3] ∧ ds = [d0, d1, d2, d3] ∧ ps = p0 ++ (p1 ++ (p2 ++ p3)) ∧ DataW.Trod enc P w base spare held t0 v0 d0 p0 ∧ DataW.Trod enc P w base spare held t1 v1 d1 p1 ∧ DataW.Trod enc P w base spare held t2 v2 d2 p2 ∧ DataW.Trod enc P w base spare held t3 v3 d3 p3 := by
 obtain ⟨v0, vs0, d0, ds0, p0, q0, hargs, rfl, rfl, h0, r0⟩ := trodAll_cons h
 obtain ⟨v1, vs1, d1, ds1, p1, q1, rfl, rfl, rfl, h1, r1⟩ := trodAll_cons r0
 obtain ⟨v2, vs2, d2, ds2, p2, q2, rfl, rfl, rfl, h2, r2⟩ := trodAll_cons r1
 obtain ⟨v3, vs3, d3, ds3, p3, q3, rfl, rfl, rfl, h3, r3⟩ := trodAll_cons r2
 obtain ⟨rfl, rfl, rfl⟩ := trodAll_nil r3
 exact ⟨v0, v1, v2, v3, d0, d1, d2, d3, p0, p1, p2, p3, by cases args; simp_all, rfl, by simp, h0, h1, h2, h3⟩
theorem signBack_mk {t0 t1 t2 t3 : TypeId} {v0 v1 v2 v3 : Value} {d0 d1 d2 d3 : DataW H} {p0 p1 p2 p3 : List MemPlace} (h0 : DataW.Trod enc P w base spare held t0 v0 d0 p0) (h1 : DataW.Trod enc P w base spare held t1 v1 d1 p1) (h2 : DataW.Trod enc P w base spare held t2 v2 d2 p2) (h3 : DataW.Trod enc P w base spare held t3 v3 d3 p3) : DataW.TrodAll enc P w base spare held [t0, t1, t2, t3] [v0, v1, v2, v3] [d0, d1, d2, d3] (p0 ++ (p1 ++ (p2 ++ p3))) :=
 ⟨_, _, h0, ⟨_, _, h1, ⟨_, _, h2, trodAll_mk1 h3, rfl⟩, rfl⟩, rfl⟩
end
theorem signBack_lifted (os : Os) (started : os.Started) (H : Type) (enc : TypeId × Value → H) :
  ReturnsInHanded {} Try.checked os 13 .any (Rows.signBackSpec.pre6 enc Try.prog Try.f13 Rows.signBackRow.domain false) (Rows.signBackSpec.post enc Try.prog Try.f13 false true false false) := by
 refine returnsInHanded_of_change (C := Try.checked) QgA started (by kernel_rfl) Try.func13
  (ChangeSpec.witness6 (enc := enc) (C := Try.checked) false ⟨#[], #[.int .i64 0, .int .u64 0, .slice none 0 0, .int .u8 0], []⟩ 8 (by kernel_rfl) (by kernel_rfl) (by kernel_rfl) (by kernel_rfl)) ?_
 intro W base args ds gs before hval0 hW hcnd _
 have hval : ∀ (j : Nat) t v, Try.f13.params[j]? = some t → args[j]? = some v → Value.okWide Try.prog W .any base t v := hval0
 have hW' := hW
 obtain ⟨p, q, hA0, hV, rfl, hfz, hnd⟩ := hW
 have hA : DataW.TrodAll enc Try.prog W 0 (fun _ => true) true Try.f13.params.toList args.toList ds p := hA0
 rw [Try.params13] at hA hval
 obtain ⟨v0, v1, v2, v3, d0, d1, d2, d3, p0, p1, p2, p3, rfl, rfl, rfl, h0, h1, h2, h3⟩ := signBack_args hA
 obtain ⟨rfl, rfl⟩ := trodVars_none hV
 obtain ⟨n, rfl⟩ := okWide_int Try.underlying3 (hval 0 3 v0 rfl rfl)
 have h0' := h0
 obtain ⟨f0, hf0⟩ := h0'
 obtain ⟨_, hx0, lo0, hi0⟩ := QgC Try.underlying3 hf0
 cases hx0
 obtain ⟨z1, rfl⟩ := okWide_int Try.underlying62 (hval 1 62 v1 rfl rfl)
 have h1' := h1
 obtain ⟨f1, hf1⟩ := h1'
 obtain ⟨x, hx1, hi1⟩ := QgB Try.underlying62 hf1
 cases hx1
 obtain ⟨A2, n2, c2, rfl⟩ := okWide_slice Try.underlying22 (hval 2 22 v2 rfl rfl)
 have h2' := h2
 obtain ⟨f2, hf2⟩ := h2'
 obtain ⟨msg, g2⟩ := Qb3 Try.underlying22 Try.underlying5 (by kernel_rfl) hf2
 obtain ⟨z3, rfl⟩ := okWide_int Try.underlying5 (hval 3 5 v3 rfl rfl)
 have h3' := h3
 obtain ⟨f3, hf3⟩ := h3'
 obtain ⟨b, hx3⟩ := Qiz Try.underlying5 hf3
 cases hx3
 clear hA0 hval0
 simp only [List.append_nil] at hW'
 refine (Qal (QjC W) (n := n) (x := x) (b := b) g2 hi1).mono fun e W' ⟨v, he, hv, hb⟩ => ?_
 subst he
 have hv2 := Is.out hv
 subst hv2
 have hlt : ∀ x ∈ p0 ++ (p1 ++ (p2 ++ p3)), x.block < W.heap.size := fun x hx => by simpa using hW'.lt x hx
 have l0 : ∀ x ∈ p0, x.block < W.heap.size := fun x hx => hlt x (by simp [hx])
 have l1 : ∀ x ∈ p1, x.block < W.heap.size := fun x hx => hlt x (by simp [hx])
 have l2 : ∀ x ∈ p2, x.block < W.heap.size := fun x hx => hlt x (by simp [hx])
 have l3 : ∀ x ∈ p3, x.block < W.heap.size := fun x hx => hlt x (by simp [hx])
 exact ⟨_, rfl, UQ (pa := p0 ++ (p1 ++ (p2 ++ p3))) (pv := []) hW' (fun _ _ _ => trodAll_mk1 (shut_bool Try.underlying4 true))
  (fun sp hsp => signBack_mk (Vg VY (by kernel_rfl) (of_decide_eq_true (by kernel_rfl)) h0 hb l0 (fun x hx => hsp x (by simp [hx]))) (Vg VY (by kernel_rfl) (of_decide_eq_true (by kernel_rfl)) h1 hb l1 (fun x hx => hsp x (by simp [hx]))) (Vg VY (by kernel_rfl) (of_decide_eq_true (by kernel_rfl)) h2 hb l2 (fun x hx => hsp x (by simp [hx]))) (Vg VY (by kernel_rfl) (of_decide_eq_true (by kernel_rfl)) h3 hb l3 (fun x hx => hsp x (by simp [hx]))))
  (fun _ _ => rfl) (by simp) hb (ok_one (by kernel_rfl) rfl (okWide_bool_mk Try.underlying4 _))⟩
theorem signBack_closed : joinedFacts Try.prog 13 Try.f13 Rows.signBackSpec Rows.signBackRow = true :=
 Qfm Try.prog 13 Try.f13 Rows.signBackSpec Rows.signBackRow signBack_fact0 signBack_fact1 signBack_fact2 signBack_fact3 signBack_fact4 signBack_fact5 signBack_fact6 signBack_fact7 signBack_fact8 signBack_fact9 signBack_fact10 signBack_fact11 signBack_fact12 signBack_fact13 signBack_fact14 signBack_fact15 signBack_fact16 signBack_fact17 signBack_fact18 signBack_fact19 signBack_fact20 signBack_fact21 signBack_fact22 signBack_fact23 signBack_fact24 signBack_fact25 signBack_fact26 signBack_fact27 signBack_fact28 signBack_fact29 signBack_fact30 signBack_fact31
theorem signBack_holds : Rows.SignBackSaid :=
 OpenClaim.holds_of_wide 13 Try.f13 rfl rfl rfl rfl rfl rfl rfl ⟨rfl, rfl, rfl, rfl, rfl⟩ rfl rfl rfl rfl rfl signBack_named Try.func13 signBack_closed
  signBack_inst signBack_wrap (fun os started H enc _ => signBack_lifted os started H enc)
end Go.Proofs.Ytgfomedobfaidaa
end
#print axioms Go.Proofs.Ytgfomedobfaidaa.signBack_holds
