import Derived.Test.YtgfomedobfaidaaMSignBack3
set_option maxHeartbeats 8000000
set_option maxRecDepth 1000000
/-
  The row of SignBack: that the law answers true of every input; part 4 of 10: what the proof needs, in order.
-/
section
set_option linter.unusedVariables false
set_option linter.unusedSimpArgs false
namespace Go.Proofs.Ytgfomedobfaidaa
open Go.RowKit
theorem QeS {lab : Lab} {w : World} (hv : Ql lab w) {u_d u_b u_t : Nat} {u : List UInt32} {u_o u_n u_c : Nat} (h0 : Own lab w u_d u_b u_t (List.map u32 u).toArray) (h0b : u_o + u_n ≤ List.length u ∧ u_n ≤ u_c ∧ u_c ≤ 9223372036854775807) {v : List UInt32} {v1 : Value} (h1 : Qo v lab w v1) (hn : u_n = List.length v + 1) (h2 : 2 ≤ List.length v) (ht : 2147483648 ≤ (List.getD v (List.length v - 1) 0).toNat) (hW : seg u u_o (List.length v + 1) < wv v * 4294967296) (hl : List.length v ≤ 1000000) :
  Calls Try.prog 160 #[.slice (some ⟨u_b, u_o, none⟩) u_n u_c, v1] w (Eff [u_d] lab w (QhQ (Is (u32 (UInt32.ofNat (seg u u_o (List.length v + 1) / wv v)))) (fun lab' w' => Own lab' w' u_d u_b u_t (List.map u32 (Qt u u_o (wsN (seg u u_o (List.length v + 1) % wv v) (List.length v + 1)))).toArray))) := by
 obtain ⟨L0, h0L, ⟨zU0, z00⟩, hO, hA, hX⟩ := QcF [(u_d, 1)] hv
 replace h0 := hO 1 (by simp [Kn]) h0
 replace h1 := up z00 h1
 obtain ⟨A1, c2, rfl⟩ := Qo.shape h1
 have z3 := Qo.cap h1
 have D := Qlw (us := u) (vs := v) (uo := u_o) h2 (by omega) ht hW
 have l1 := UInt32.toNat_lt (List.getD v (List.length v - 1) 0)
 have l2 := UInt32.toNat_lt (List.getD v (List.length v - 2) 0)
 have l3 := UInt32.toNat_lt (List.getD u (u_o + List.length v) 0)
 have l4 := UInt32.toNat_lt (List.getD u (u_o + (List.length v - 1)) 0)
 have l5 := UInt32.toNat_lt (List.getD u (u_o + (List.length v - 2)) 0)
 refine Qu Try.func160 rfl Try.ntmps160 (lB9 rfl) ?_
 refine rsr ?_
 refine sv (Qa.assign rfl) ?_
 refine nsr ?_
 refine sv (Qa.move rfl) ?_
 refine sv (Qa.len Try.underlying58 rfl) ?_
 refine sv (Qa.assign rfl) ?_
 refine Seq.next ?_
 refine Run.seq ?_
 refine Run.open 14 (Φ := [.ex (.slice (some ⟨u_b, u_o, none⟩) u_n u_c), .ex (i64 ((List.length v : Nat) : Int)), .ex (.pointer (some ⟨u_b, u_o + (List.length v), none⟩)), .ex (u32 (List.getD u (u_o + (List.length v)) (0 : UInt32))), .ex (n64 ((List.getD u (u_o + (List.length v)) (0 : UInt32)).toNat)), .ex (n64 (((List.getD u (u_o + (List.length v)) (0 : UInt32)).toNat) * 4294967296)), .ex (.slice (some ⟨u_b, u_o, none⟩) u_n u_c), .ex (i64 ((List.length v : Nat) : Int)), .ex (i64 (((List.length v : Nat) : Int) - 1)), .ex (.pointer (some ⟨u_b, u_o + ((List.length v) - 1), none⟩)), .ex (u32 (List.getD u (u_o + ((List.length v) - 1)) (0 : UInt32))), .ex (n64 ((List.getD u (u_o + ((List.length v) - 1)) (0 : UInt32)).toNat)), .ex (n64 ((((List.getD u (u_o + (List.length v)) (0 : UInt32)).toNat) * 4294967296) + ((List.getD u (u_o + ((List.length v) - 1)) (0 : UInt32)).toNat))), .ex (n64 ((((List.getD u (u_o + (List.length v)) (0 : UInt32)).toNat) * 4294967296) + ((List.getD u (u_o + ((List.length v) - 1)) (0 : UInt32)).toNat)))]) [(13, 6)] Je (by kernel_rfl) rfl h0L ⟨(oX [] rfl rfl rfl fun _ _ => Qa.move rfl), (oX [] rfl rfl rfl fun _ _ => Qa.move rfl), (oX [(0, 14), (1, 15)] rfl rfl rfl fun _ _ => QO (List.length v) Try.underlying58 Qx rfl rfl (by omega) (by omega)), ?_, (oX [(3, 17)] rfl rfl rfl fun _ _ => QB Try.underlying167 Try.underlying62 rfl), (oX [(4, 18)] rfl rfl rfl fun _ _ => Ya rfl rfl (by omega)), (oX [] rfl rfl rfl fun _ _ => Qa.move rfl), (oX [] rfl rfl rfl fun _ _ => Qa.move rfl), (oX [(7, 21)] rfl rfl rfl fun _ _ => Qa.sub rfl rfl (by omega)), (oX [(6, 20), (8, 22)] rfl rfl rfl fun _ _ => QO ((List.length v) - 1) Try.underlying58 Qx rfl rfl (by omega) (by omega)), ?_, (oX [(10, 24)] rfl rfl rfl fun _ _ => QB Try.underlying167 Try.underlying62 rfl), (oX [(5, 19), (11, 25)] rfl rfl rfl fun _ _ => ZO rfl rfl (by omega) (by omega)), (oX [(12, 26)] rfl rfl rfl fun _ _ => Qa.assign rfl), trivial⟩ (fun L64 w65 h66 s67 => ?_)
 ·refine oP [(2, 16)] rfl rfl fun L16 w17 h18 s19 => ?_
  have o20 := h0.up s19
  have t21 := UInt32.toNat_lt (List.getD u (u_o + (List.length v)) (0 : UInt32))
  exact ⟨_, Qf o20 Qx rfl (Zi u32 _ (0 : UInt32) (by omega)), rfl⟩
 ·refine oP [(9, 23)] rfl rfl fun L46 w47 h48 s49 => ?_
  have o50 := h0.up s49
  have t51 := UInt32.toNat_lt (List.getD u (u_o + ((List.length v) - 1)) (0 : UInt32))
  exact ⟨_, Qf o50 Qx rfl (Zi u32 _ (0 : UInt32) (by omega)), rfl⟩
 refine Seq.next ?_
 refine Run.seq ?_
 refine Run.open 18 (Φ := [.ex (n64 ((((List.getD u (u_o + (List.length v)) (0 : UInt32)).toNat) * 4294967296) + ((List.getD u (u_o + ((List.length v) - 1)) (0 : UInt32)).toNat))), .ex (.slice A1 (List.length v) c2), .ex (i64 ((List.length v : Nat) : Int)), .ex (i64 (((List.length v : Nat) : Int) - 1)), .v (ElV (List.map u32 v) ((List.length v) - 1)), .ex (u32 (List.getD v ((List.length v) - 1) (0 : UInt32))), .ex (n64 ((List.getD v ((List.length v) - 1) (0 : UInt32)).toNat)), .ex (n64 (((((List.getD u (u_o + (List.length v)) (0 : UInt32)).toNat) * 4294967296) + ((List.getD u (u_o + ((List.length v) - 1)) (0 : UInt32)).toNat)) / ((List.getD v ((List.length v) - 1) (0 : UInt32)).toNat))), .ex (n64 ((((List.getD u (u_o + (List.length v)) (0 : UInt32)).toNat) * 4294967296) + ((List.getD u (u_o + ((List.length v) - 1)) (0 : UInt32)).toNat))), .ex (.slice A1 (List.length v) c2), .ex (i64 ((List.length v : Nat) : Int)), .ex (i64 (((List.length v : Nat) : Int) - 1)), .v (ElV (List.map u32 v) ((List.length v) - 1)), .ex (u32 (List.getD v ((List.length v) - 1) (0 : UInt32))), .ex (n64 ((List.getD v ((List.length v) - 1) (0 : UInt32)).toNat)), .ex (n64 (((((List.getD u (u_o + (List.length v)) (0 : UInt32)).toNat) * 4294967296) + ((List.getD u (u_o + ((List.length v) - 1)) (0 : UInt32)).toNat)) % ((List.getD v ((List.length v) - 1) (0 : UInt32)).toNat))), .ex (n64 (((((List.getD u (u_o + (List.length v)) (0 : UInt32)).toNat) * 4294967296) + ((List.getD u (u_o + ((List.length v) - 1)) (0 : UInt32)).toNat)) / ((List.getD v ((List.length v) - 1) (0 : UInt32)).toNat))), .ex (n64 (((((List.getD u (u_o + (List.length v)) (0 : UInt32)).toNat) * 4294967296) + ((List.getD u (u_o + ((List.length v) - 1)) (0 : UInt32)).toNat)) % ((List.getD v ((List.length v) - 1) (0 : UInt32)).toNat)))]) [(16, 7), (17, 8)] Je (by kernel_rfl) rfl h66 ⟨(oX [] rfl rfl rfl fun _ _ => Qa.move rfl), (oX [] rfl rfl rfl fun _ _ => Qa.move rfl), (oX [] rfl rfl rfl fun _ _ => Qa.move rfl), (oX [(2, 29)] rfl rfl rfl fun _ _ => Qa.sub rfl rfl (by omega)), ?_, ?_, (oX [(5, 32)] rfl rfl rfl fun _ _ => QB Try.underlying167 Try.underlying62 rfl), (oX [(0, 27), (6, 33)] rfl rfl rfl fun _ _ => VK rfl rfl (by omega) (by omega)), (oX [] rfl rfl rfl fun _ _ => Qa.move rfl), (oX [] rfl rfl rfl fun _ _ => Qa.move rfl), (oX [] rfl rfl rfl fun _ _ => Qa.move rfl), (oX [(10, 37)] rfl rfl rfl fun _ _ => Qa.sub rfl rfl (by omega)), ?_, ?_, (oX [(13, 40)] rfl rfl rfl fun _ _ => QB Try.underlying167 Try.underlying62 rfl), (oX [(8, 35), (14, 41)] rfl rfl rfl fun _ _ => ZE rfl rfl (by omega)), (oX [(7, 34)] rfl rfl rfl fun _ _ => Qa.assign rfl), (oX [(15, 42)] rfl rfl rfl fun _ _ => Qa.assign rfl), trivial⟩ (fun L154 w155 h156 s157 => ?_)
 ·refine oP [(1, 28), (3, 30)] rfl rfl fun L84 w85 h86 s87 => ?_
  have c88 := s67.trans s87
  have q89 := up c88 h1
  exact ⟨_, Qs ((List.length v) - 1) Try.underlying58 Qx rfl rfl (Qo.row q89) (by simp [nw]) (by omega) (by omega), ⟨_, rfl, (Qo.row q89)⟩⟩
 ·refine oP [(4, 31)] rfl rfl fun L90 w91 h92 s93 v94 q95 => ?_
  obtain ⟨A96, rfl, r97⟩ := q95
  have t98 := UInt32.toNat_lt (List.getD v ((List.length v) - 1) (0 : UInt32))
  exact ⟨_, Qy Qx rfl r97 (Jp u32 _ (0 : UInt32) (by omega)), rfl⟩
 ·refine oP [(9, 36), (11, 38)] rfl rfl fun L123 w124 h125 s126 => ?_
  have c127 := s67.trans s126
  have q128 := up c127 h1
  exact ⟨_, Qs ((List.length v) - 1) Try.underlying58 Qx rfl rfl (Qo.row q128) (by simp [nw]) (by omega) (by omega), ⟨_, rfl, (Qo.row q128)⟩⟩
 ·refine oP [(12, 39)] rfl rfl fun L129 w130 h131 s132 v133 q134 => ?_
  obtain ⟨A135, rfl, r136⟩ := q134
  have t137 := UInt32.toNat_lt (List.getD v ((List.length v) - 1) (0 : UInt32))
  exact ⟨_, Qy Qx rfl r136 (Jp u32 _ (0 : UInt32) (by omega)), rfl⟩
 refine Seq.next ?_
 refine Run.seq ?_
 refine Run.block ?_
 refine Run.loop (fun m' l' w' => ∃ (q : Nat) (r : Nat) (lab' : Lab), m' = q ∧ l' = [(7, n64 q), (8, n64 r), (0, .slice (some ⟨u_b, u_o, none⟩) u_n u_c), (1, .slice A1 (List.length v) c2), (4, .int .u32 0), (5, i64 ((List.length v : Nat) : Int))] ∧ Ql lab' w' ∧ Stp [] L154 w155 lab' w' ∧ (q * (List.getD v (List.length v - 1) 0).toNat + r = (List.getD u (u_o + List.length v) 0).toNat * 4294967296 + (List.getD u (u_o + (List.length v - 1)) 0).toNat) ∧ (r < 4294967296) ∧ (seg u u_o (List.length v + 1) < (q + 1) * wv v) ∧ (q ≤ 18446744069414584320 + 4294967295)) ((((((List.getD u (u_o + (List.length v)) (0 : UInt32)).toNat) * 4294967296) + ((List.getD u (u_o + ((List.length v) - 1)) (0 : UInt32)).toNat)) / ((List.getD v ((List.length v) - 1) (0 : UInt32)).toNat))) (l0 := [(7, n64 (((((List.getD u (u_o + (List.length v)) (0 : UInt32)).toNat) * 4294967296) + ((List.getD u (u_o + ((List.length v) - 1)) (0 : UInt32)).toNat)) / ((List.getD v ((List.length v) - 1) (0 : UInt32)).toNat))), (8, n64 (((((List.getD u (u_o + (List.length v)) (0 : UInt32)).toNat) * 4294967296) + ((List.getD u (u_o + ((List.length v) - 1)) (0 : UInt32)).toNat)) % ((List.getD v ((List.length v) - 1) (0 : UInt32)).toNat))), (0, .slice (some ⟨u_b, u_o, none⟩) u_n u_c), (1, .slice A1 (List.length v) c2), (4, .int .u32 0), (5, i64 ((List.length v : Nat) : Int))]) ⟨(congrArg (fun z => some (n64 z)) (show (((((List.getD u (u_o + (List.length v)) (0 : UInt32)).toNat) * 4294967296) + ((List.getD u (u_o + ((List.length v) - 1)) (0 : UInt32)).toNat)) / ((List.getD v ((List.length v) - 1) (0 : UInt32)).toNat) : Nat) = (((((List.getD u (u_o + (List.length v)) (0 : UInt32)).toNat) * 4294967296) + ((List.getD u (u_o + ((List.length v) - 1)) (0 : UInt32)).toNat)) / ((List.getD v ((List.length v) - 1) (0 : UInt32)).toNat)) from by rfl)), (congrArg (fun z => some (n64 z)) (show (((((List.getD u (u_o + (List.length v)) (0 : UInt32)).toNat) * 4294967296) + ((List.getD u (u_o + ((List.length v) - 1)) (0 : UInt32)).toNat)) % ((List.getD v ((List.length v) - 1) (0 : UInt32)).toNat) : Nat) = (((((List.getD u (u_o + (List.length v)) (0 : UInt32)).toNat) * 4294967296) + ((List.getD u (u_o + ((List.length v) - 1)) (0 : UInt32)).toNat)) % ((List.getD v ((List.length v) - 1) (0 : UInt32)).toNat)) from by rfl)), rfl, rfl, rfl, rfl, trivial⟩ ⟨(((((List.getD u (u_o + (List.length v)) (0 : UInt32)).toNat) * 4294967296) + ((List.getD u (u_o + ((List.length v) - 1)) (0 : UInt32)).toNat)) / ((List.getD v ((List.length v) - 1) (0 : UInt32)).toNat)), (((((List.getD u (u_o + (List.length v)) (0 : UInt32)).toNat) * 4294967296) + ((List.getD u (u_o + ((List.length v) - 1)) (0 : UInt32)).toNat)) % ((List.getD v ((List.length v) - 1) (0 : UInt32)).toNat)), L154, rfl, rfl, h156, ((Stp.refl _ _).more (by simp)), (by exact Nat.div_add_mod' _ _), (by exact Nat.lt_of_lt_of_le (Nat.mod_lt _ (by omega)) (by omega)), (by exact D.start), (by exact Nat.le_trans (Nat.div_le_self _ _) (by omega))⟩ ?_
 intro m158 l159 w160 H161
 obtain ⟨q, r, lab162, hzm, rfl, hv163, s164, hq, hr, hw, hqb⟩ := H161
 replace hzm := hzm.symm; subst hzm
 have hz : q = 0 → q * (List.getD v (List.length v - 2) 0).toNat = 0 := fun h => (by rw [h, Nat.zero_mul])
 have hm2 : q ≤ 4294967296 → q * (List.getD v (List.length v - 2) 0).toNat ≤ 18446744069414584320 := fun h => Ql6 _ h
 have hA := fun h1 h2 => D.exA hq hw h1 h2
 have hB := fun h1 h2 h3 => D.exB hq h1 h2 h3
 have hN := fun h1 => QcT h1 hq
 have hS := fun h => D.step hq h
 refine Run.seq ?_
 refine Run.seq ?_
 rcases Decidable.em ((4294967296 : Int) ≤ ((q : Nat) : Int)) with hp1 | hp1
 ·refine Run.open 22 (Φ := [.ex (n64 q), .ex (.bool (decide ((4294967296 : Int) ≤ ((q : Nat) : Int)))), .ex (.bool (decide ((4294967296 : Int) ≤ ((q : Nat) : Int)))), .ex undef, .ex undef, .ex undef, .ex undef, .ex undef, .ex undef, .ex undef, .ex undef, .ex undef, .ex undef, .ex undef, .ex undef, .ex undef, .ex undef, .ex undef, .ex undef, .ex undef, .ex undef, .ex (.bool true)]) [(21, 64)] Je (by kernel_rfl) rfl hv163 ⟨(oX [] rfl rfl rfl fun _ _ => Qa.move rfl), (oX [(0, 43)] rfl rfl rfl fun _ _ => Qa.geq rfl rfl), (oX [(1, 44)] rfl rfl rfl fun _ _ => Qa.move rfl), (Ji rfl rfl rfl rfl (dT9 hp1) rfl rfl), (Ji rfl rfl rfl rfl (dT9 hp1) rfl rfl), (Ji rfl rfl rfl rfl (dT9 hp1) rfl rfl), (Ji rfl rfl rfl rfl (dT9 hp1) rfl rfl), (Ji rfl rfl rfl rfl (dT9 hp1) rfl rfl), (Ji rfl rfl rfl rfl (dT9 hp1) rfl rfl), (Ji rfl rfl rfl rfl (dT9 hp1) rfl rfl), (Ji rfl rfl rfl rfl (dT9 hp1) rfl rfl), (Ji rfl rfl rfl rfl (dT9 hp1) rfl rfl), (Ji rfl rfl rfl rfl (dT9 hp1) rfl rfl), (Ji rfl rfl rfl rfl (dT9 hp1) rfl rfl), (Ji rfl rfl rfl rfl (dT9 hp1) rfl rfl), (Ji rfl rfl rfl rfl (dT9 hp1) rfl rfl), (Ji rfl rfl rfl rfl (dT9 hp1) rfl rfl), (Ji rfl rfl rfl rfl (dT9 hp1) rfl rfl), (Ji rfl rfl rfl rfl (dT9 hp1) rfl rfl), (Ji rfl rfl rfl rfl (dT9 hp1) rfl rfl), (Ji rfl rfl rfl rfl (dT9 hp1) rfl rfl), (oX [(2, 45)] rfl rfl rfl fun _ _ => Qp rfl (dT9 hp1) rfl), trivial⟩ (fun L193 w194 h195 s196 => ?_)
  refine Seq.next ?_
  refine Qc rfl rfl ?_
  refine Qg (fun _ _ h => h) ?_
  refine Run.block ?_
  refine rsr ?_
  refine sv (Qa.move rfl) ?_
  refine sv (Yj (b := 1) rfl rfl (by omega) (by omega)) ?_
  refine sv (Qa.assign rfl) ?_
  refine nsr ?_
  refine sv (Qa.move rfl) ?_
  refine sv (Qa.move rfl) ?_
  refine sv (Qa.move rfl) ?_
  refine sv (Qa.sub rfl rfl (by omega)) ?_
  have c197 := s164.trans s196
  have c198 := s157.trans c197
  have c199 := s67.trans c198
  have q200 := up c199 h1
  refine sv (Qs ((List.length v) - 1) Try.underlying58 Qx rfl rfl (Qo.row q200) (by simp [nw]) (by omega) (by omega)) ?_
  have t201 := UInt32.toNat_lt (List.getD v ((List.length v) - 1) (0 : UInt32))
  refine sv (Qy Qx rfl (Qo.row q200) (Jp u32 _ (0 : UInt32) (by omega))) ?_
  refine sv (QB Try.underlying167 Try.underlying62 rfl) ?_
  refine sv (Jn rfl rfl (by omega)) ?_
  refine sv (Qa.assign rfl) ?_
  refine nsr ?_
  refine sv (Qa.move rfl) ?_
  refine sv (Qa.geq rfl rfl) ?_
  refine Seq.next ?_
  rcases Decidable.em ((4294967296 : Int) ≤ ((r + ((List.getD v ((List.length v) - 1) (0 : UInt32)).toNat) : Nat) : Int)) with hp2 | hp2
  rotate_left
  ·refine Qc rfl (dF9 hp2) ?_
   exact Run.skip (fun a240 h241 => ⟨_, by omega, _, h241.weaken (QG (l' := [(7, n64 (q - 1)), (8, n64 (r + (List.getD v (List.length v - 1) 0).toNat)), (0, .slice (some ⟨u_b, u_o, none⟩) u_n u_c), (1, .slice A1 (List.length v) c2), (4, .int .u32 0), (5, i64 ((List.length v : Nat) : Int))]) ⟨(congrArg (fun z => some (n64 z)) (show (q - 1 : Nat) = (q - 1) from by rfl)), (congrArg (fun z => some (n64 z)) (show (r + ((List.getD v ((List.length v) - 1) (0 : UInt32)).toNat) : Nat) = (r + (List.getD v (List.length v - 1) 0).toNat) from by rfl)), rfl, rfl, rfl, rfl, trivial⟩), ⟨q - 1, r + (List.getD v (List.length v - 1) 0).toNat, L193, rfl, rfl, h195, (c197.more (by decide)), (by omega), (by omega), (by (rw [Nat.sub_add_cancel (by omega)]; exact hS (by first | exact Or.inl (by omega) | exact Or.inr (by omega)))), (by omega)⟩⟩)
  refine Qc rfl (dT9 hp2) ?_
  refine Qv (fun _ _ h => h) ?_
  refine Run.seq ?_
  refine rsr ?_
  refine sv (Qa.move rfl) ?_
  refine sv (Qa.move rfl) ?_
  refine sv (Qa.move rfl) ?_
  have o202 := h0.up c199
  refine ZQ QfF rfl (UU h195 (q := q - 1) o202 (by omega) q200  (show  u_n = List.length v + 1 from by omega) (show  (q - 1) ≤ 4294967296 from by exact Nat.le_of_lt (hB (by omega) (by first | exact Or.inl (by omega) | exact Or.inr (by omega)) (by omega)).b) (show  List.length v ≤ 1000000 from by omega)) fun v203 L208 w211 r210 s206 h207 => ?_
  obtain ⟨q205, o209⟩ := r210
  have q205 := Is.out q205; subst q205
  refine Seq.next ?_
  rcases Decidable.em (seg u u_o (List.length v + 1) < (q - 1) * wv v) with hp3 | hp3
  rotate_left
  ·refine Qc rfl (dF9 hp3) ?_
   refine Qg (fun _ _ h => h) ?_
   refine rsr ?_
   refine sv (Qa.move rfl) ?_
   refine sv (QF Try.underlying62 Try.underlying167 rfl) ?_
   refine sv (Qa.assign rfl) ?_
   refine Seq.next ?_
   have c239 := c199.trans s206
   obtain ⟨lab9, s9, B9⟩ := hX [(1, u_d)] c239 (by decide) h207
   obtain ⟨zU, zo⟩ := B9.u
   refine Run.ret ?_
   exact Qm Try.results160 rfl ⟨_, lab9, rfl, ⟨(QbM (by exact congrArg UInt32.ofNat ((hB (by omega) (by first | exact Or.inl (by omega) | exact Or.inr (by omega)) (by omega)).hit (by assumption)).symm) _ _), ((show Qt u u_o (wsN (tkZ (seg u u_o (List.length v + 1)) ((q - 1) * wv v) (List.length v)) (List.length v + 1)) = Qt u u_o (wsN (seg u u_o (List.length v + 1) % wv v) (List.length v + 1)) from by exact congrArg (Qt u u_o) ((hB (by omega) (by first | exact Or.inl (by omega) | exact Or.inr (by omega)) (by omega)).hit_row (by assumption) _)) ▸ (Own.back o209 B9 u_d rfl (by decide) (by simp [Xa])))⟩, s9, B9.v⟩
  refine Qc rfl (dT9 hp3) ?_
  refine rsr ?_
  refine sv (Qa.move rfl) ?_
  refine sv (Yj (b := 1) rfl rfl (by omega) (by omega)) ?_
  refine sv (Qa.assign rfl) ?_
  refine nsr ?_
  refine sv (Qa.assign rfl) ?_
  refine Seq.next ?_
  refine Run.seq ?_
  refine rsr ?_
  refine sv (Qa.move rfl) ?_
  refine sv (Qa.len Try.underlying58 rfl) ?_
  refine sv (Qa.move rfl) ?_
  refine Seq.next ?_
  refine Run.block ?_
  refine Run.loop (fun m' l' w' => ∃ (k : Nat) (lab' : Lab), m' = List.length v - k ∧ l' = [(85, i64 ((k : Nat) : Int)), (9, n64 (cA (seg ((Qt u u_o (wsN (tkZ (seg u u_o (List.length v + 1)) ((q - 1) * wv v) (List.length v)) (List.length v + 1)))) u_o (List.length v + 1)) (wv v) k)), (0, .slice (some ⟨u_b, u_o, none⟩) u_n u_c), (4, .int .u32 0), (5, i64 ((List.length v : Nat) : Int)), (7, n64 ((q - 1) - 1)), (83, .slice A1 (List.length v) c2), (84, i64 ((List.length v : Nat) : Int))] ∧ Ql lab' w' ∧ Stp [1] L208 w211 lab' w' ∧ Own lab' w' 1 u_b u_t (List.map u32 (Qt ((Qt u u_o (wsN (tkZ (seg u u_o (List.length v + 1)) ((q - 1) * wv v) (List.length v)) (List.length v + 1)))) u_o (wsN (seg ((Qt u u_o (wsN (tkZ (seg u u_o (List.length v + 1)) ((q - 1) * wv v) (List.length v)) (List.length v + 1)))) u_o (List.length v + 1) + wv v) k))).toArray ∧ (k ≤ List.length v)) (List.length v - 0) (l0 := [(85, i64 ((0 : Nat) : Int)), (9, n64 (cA (seg ((Qt u u_o (wsN (tkZ (seg u u_o (List.length v + 1)) ((q - 1) * wv v) (List.length v)) (List.length v + 1)))) u_o (List.length v + 1)) (wv v) 0)), (0, .slice (some ⟨u_b, u_o, none⟩) u_n u_c), (4, .int .u32 0), (5, i64 ((List.length v : Nat) : Int)), (7, n64 ((q - 1) - 1)), (83, .slice A1 (List.length v) c2), (84, i64 ((List.length v : Nat) : Int))]) ⟨(congrArg (fun z => some (i64 z)) (show (0 : Int) = ((0 : Nat) : Int) from by rfl)), (congrArg (fun z => some (n64 z)) (show (0 : Nat) = cA (seg ((Qt u u_o (wsN (tkZ (seg u u_o (List.length v + 1)) ((q - 1) * wv v) (List.length v)) (List.length v + 1)))) u_o (List.length v + 1)) (wv v) 0 from by exact (K1 _ _).symm)), rfl, rfl, rfl, rfl, rfl, rfl, trivial⟩ ⟨0, L208, rfl, rfl, h207, ((Stp.refl _ _).more (by simp)), ((show Qt u u_o (wsN (tkZ (seg u u_o (List.length v + 1)) ((q - 1) * wv v) (List.length v)) (List.length v + 1)) = Qt ((Qt u u_o (wsN (tkZ (seg u u_o (List.length v + 1)) ((q - 1) * wv v) (List.length v)) (List.length v + 1)))) u_o (wsN (seg ((Qt u u_o (wsN (tkZ (seg u u_o (List.length v + 1)) ((q - 1) * wv v) (List.length v)) (List.length v + 1)))) u_o (List.length v + 1) + wv v) 0) from by exact (XW _ _).symm) ▸ o209), (by omega)⟩ ?_
  intro m212 l213 w214 H215
  obtain ⟨k, lab216, hzm, rfl, hv217, s218, o219, hk⟩ := H215
  replace hzm := hzm.symm; subst hzm
  have hL1 : List.length ((Qt u u_o (wsN (tkZ (seg u u_o (List.length v + 1)) ((q - 1) * wv v) (List.length v)) (List.length v + 1)))) = List.length u := QN (by rw [Qq]; omega)
  have hc := QfO (seg ((Qt u u_o (wsN (tkZ (seg u u_o (List.length v + 1)) ((q - 1) * wv v) (List.length v)) (List.length v + 1)))) u_o (List.length v + 1)) (wv v) k
  have hg := XX (us := (Qt u u_o (wsN (tkZ (seg u u_o (List.length v + 1)) ((q - 1) * wv v) (List.length v)) (List.length v + 1)))) (o := u_o) (j := k) (xs := wsN (seg ((Qt u u_o (wsN (tkZ (seg u u_o (List.length v + 1)) ((q - 1) * wv v) (List.length v)) (List.length v + 1)))) u_o (List.length v + 1) + wv v) k) (by rw [Qq]; omega) (by rw [Qq]; omega)
  have hs := fun h => @Qga ((Qt u u_o (wsN (tkZ (seg u u_o (List.length v + 1)) ((q - 1) * wv v) (List.length v)) (List.length v + 1)))) v u_o k _ _ _ h (by rw [hL1]; omega) rfl rfl rfl
  refine rsr ?_
  refine sv (Qa.lss rfl rfl) ?_
  refine Seq.next ?_
  refine Run.seq ?_
  rcases Decidable.em ((((k : Nat) : Int) : Int) < (((List.length v : Nat) : Int) : Int)) with hp4 | hp4
  rotate_left
  ·refine Qc rfl (dF9 hp4) ?_
   refine Qv (fun _ _ h => h) ?_
   refine Run.region ?_
   refine sv (Qa.move rfl) ?_
   refine sv (Qa.move rfl) ?_
   refine sv (QO (List.length v) Try.underlying58 Qx rfl rfl (by omega) (by omega)) ?_
   have t231 := UInt32.toNat_lt (List.getD (Qt ((Qt u u_o (wsN (tkZ (seg u u_o (List.length v + 1)) ((q - 1) * wv v) (List.length v)) (List.length v + 1)))) u_o (wsN (seg ((Qt u u_o (wsN (tkZ (seg u u_o (List.length v + 1)) ((q - 1) * wv v) (List.length v)) (List.length v + 1)))) u_o (List.length v + 1) + wv v) k)) (u_o + (List.length v)) (0 : UInt32))
   refine sv (Qf o219 Qx rfl (Zi u32 _ (0 : UInt32) (by (rw [QN (by rw [Qq]; omega)]; omega)))) ?_
   refine sv (Qa.move rfl) ?_
   refine sv (QF Try.underlying62 Try.underlying167 rfl) ?_
   refine sv (Jw rfl rfl) ?_
   refine sv (QO (List.length v) Try.underlying58 Qx rfl rfl (by omega) (by omega)) ?_
   refine Q8 (k := 1) (j := (u_o + (List.length v))) (v := ((List.getD (Qt ((Qt u u_o (wsN (tkZ (seg u u_o (List.length v + 1)) ((q - 1) * wv v) (List.length v)) (List.length v + 1)))) u_o (wsN (seg ((Qt u u_o (wsN (tkZ (seg u u_o (List.length v + 1)) ((q - 1) * wv v) (List.length v)) (List.length v + 1)))) u_o (List.length v + 1) + wv v) k)) (u_o + (List.length v)) (0 : UInt32)) + (UInt32.ofNat (cA (seg ((Qt u u_o (wsN (tkZ (seg u u_o (List.length v + 1)) ((q - 1) * wv v) (List.length v)) (List.length v + 1)))) u_o (List.length v + 1)) (wv v) k)))) u32 hv217 o219 Qx rfl rfl (by (rw [QN (by rw [Qq]; omega)]; omega)) rfl rfl fun w232 o233 s234 h235 => ?_
   refine nsr ?_
   refine sv (Qa.move rfl) ?_
   refine sv (QF Try.underlying62 Try.underlying167 rfl) ?_
   refine sv (Qa.assign rfl) ?_
   refine Seq.next ?_
   have c236 := s218.trans s234
   have c237 := s206.trans c236
   have c238 := c199.trans c237
   obtain ⟨lab9, s9, B9⟩ := hX [(1, u_d)] c238 (by decide) h235
   obtain ⟨zU, zo⟩ := B9.u
   refine Run.ret ?_
   exact Qm Try.results160 rfl ⟨_, lab9, rfl, ⟨(QbM (by exact congrArg UInt32.ofNat ((hB (by omega) (by first | exact Or.inl (by omega) | exact Or.inr (by omega)) (by omega)).over (by assumption)).symm) _ _), ((show List.set (Qt ((Qt u u_o (wsN (tkZ (seg u u_o (List.length v + 1)) ((q - 1) * wv v) (List.length v)) (List.length v + 1)))) u_o (wsN (seg ((Qt u u_o (wsN (tkZ (seg u u_o (List.length v + 1)) ((q - 1) * wv v) (List.length v)) (List.length v + 1)))) u_o (List.length v + 1) + wv v) k)) (u_o + (List.length v)) ((List.getD (Qt ((Qt u u_o (wsN (tkZ (seg u u_o (List.length v + 1)) ((q - 1) * wv v) (List.length v)) (List.length v + 1)))) u_o (wsN (seg ((Qt u u_o (wsN (tkZ (seg u u_o (List.length v + 1)) ((q - 1) * wv v) (List.length v)) (List.length v + 1)))) u_o (List.length v + 1) + wv v) k)) (u_o + (List.length v)) (0 : UInt32)) + (UInt32.ofNat (cA (seg ((Qt u u_o (wsN (tkZ (seg u u_o (List.length v + 1)) ((q - 1) * wv v) (List.length v)) (List.length v + 1)))) u_o (List.length v + 1)) (wv v) k))) = Qt u u_o (wsN (seg u u_o (List.length v + 1) % wv v) (List.length v + 1)) from by ((obtain rfl := Nat.le_antisymm hk (by omega)); rw [hg, QbX (by omega) rfl]; exact Qgc (by omega) _ ((hB (by omega) (by first | exact Or.inl (by omega) | exact Or.inr (by omega)) (by omega)).over_mod (by assumption) _))) ▸ (Own.back o233 B9 u_d rfl (by decide) (by simp [Xa])))⟩, s9, B9.v⟩
  refine Qc rfl (dT9 hp4) ?_
  refine Qg (fun _ _ h => h) ?_
  refine Run.seq ?_
  refine Run.block ?_
  refine rsr ?_
  refine sv (Qa.move rfl) ?_
  have c220 := s206.trans s218
  have q221 := up c220 q200
  refine sv (Qs k Try.underlying58 Qx rfl rfl (Qo.row q221) (by simp [nw]) (by omega) (by omega)) ?_
  have t222 := UInt32.toNat_lt (List.getD v k (0 : UInt32))
  refine sv (Qy Qx rfl (Qo.row q221) (Jp u32 _ (0 : UInt32) (by omega))) ?_
  refine sv (Qa.assign rfl) ?_
  refine sv (Qa.assign rfl) ?_
  refine nsr ?_
  refine sv (Qa.move rfl) ?_
  refine sv (Qa.move rfl) ?_
  refine sv (Qa.move rfl) ?_
  refine sv (QO k Try.underlying58 Qx rfl rfl (by omega) (by omega)) ?_
  have t223 := UInt32.toNat_lt (List.getD (Qt ((Qt u u_o (wsN (tkZ (seg u u_o (List.length v + 1)) ((q - 1) * wv v) (List.length v)) (List.length v + 1)))) u_o (wsN (seg ((Qt u u_o (wsN (tkZ (seg u u_o (List.length v + 1)) ((q - 1) * wv v) (List.length v)) (List.length v + 1)))) u_o (List.length v + 1) + wv v) k)) (u_o + k) (0 : UInt32))
  refine sv (Qf o219 Qx rfl (Zi u32 _ (0 : UInt32) (by (rw [QN (by rw [Qq]; omega)]; omega)))) ?_
  refine sv (QB Try.underlying167 Try.underlying62 rfl) ?_
  refine sv (Qa.move rfl) ?_
  refine sv (QB Try.underlying167 Try.underlying62 rfl) ?_
  refine sv (Jn rfl rfl (by omega)) ?_
  refine sv (Jn rfl rfl (by omega)) ?_
  refine sv (Qa.assign rfl) ?_
  refine nsr ?_
  refine sv (Qa.move rfl) ?_
  refine sv (Qa.move rfl) ?_
  refine sv (Qa.move rfl) ?_
  refine sv (QF Try.underlying62 Try.underlying167 rfl) ?_
  refine sv (QO k Try.underlying58 Qx rfl rfl (by omega) (by omega)) ?_
  refine Q8 (k := 1) (j := (u_o + k)) (v := (UInt32.ofNat ((cA (seg ((Qt u u_o (wsN (tkZ (seg u u_o (List.length v + 1)) ((q - 1) * wv v) (List.length v)) (List.length v + 1)))) u_o (List.length v + 1)) (wv v) k) + (((List.getD (Qt ((Qt u u_o (wsN (tkZ (seg u u_o (List.length v + 1)) ((q - 1) * wv v) (List.length v)) (List.length v + 1)))) u_o (wsN (seg ((Qt u u_o (wsN (tkZ (seg u u_o (List.length v + 1)) ((q - 1) * wv v) (List.length v)) (List.length v + 1)))) u_o (List.length v + 1) + wv v) k)) (u_o + k) (0 : UInt32)).toNat) + ((List.getD v k (0 : UInt32)).toNat))))) u32 hv217 o219 Qx rfl rfl (by (rw [QN (by rw [Qq]; omega)]; omega)) rfl rfl fun w224 o225 s226 h227 => ?_
  refine Seq.next ?_
  refine Run.region ?_
  refine sv (Qa.move rfl) ?_
  refine sv (Jr rfl rfl) ?_
  refine sv (Qa.assign rfl) ?_
  refine QH (fun _ _ h => h) ?_
  refine Run.region ?_
  refine sv (Qa.add rfl rfl (by omega)) ?_
  refine sv (Qa.move rfl) ?_
  have c228 := s218.trans s226
  exact Seq.nil (fun a229 h230 => ⟨_, by omega, _, h230.weaken (QG (l' := [(85, i64 (((k + 1) : Nat) : Int)), (9, n64 (cA (seg ((Qt u u_o (wsN (tkZ (seg u u_o (List.length v + 1)) ((q - 1) * wv v) (List.length v)) (List.length v + 1)))) u_o (List.length v + 1)) (wv v) (k + 1))), (0, .slice (some ⟨u_b, u_o, none⟩) u_n u_c), (4, .int .u32 0), (5, i64 ((List.length v : Nat) : Int)), (7, n64 ((q - 1) - 1)), (83, .slice A1 (List.length v) c2), (84, i64 ((List.length v : Nat) : Int))]) ⟨(congrArg (fun z => some (i64 z)) (show (((k : Nat) : Int) + 1 : Int) = (((k + 1) : Nat) : Int) from by rfl)), (congrArg (fun z => some (n64 z)) (show (((cA (seg ((Qt u u_o (wsN (tkZ (seg u u_o (List.length v + 1)) ((q - 1) * wv v) (List.length v)) (List.length v + 1)))) u_o (List.length v + 1)) (wv v) k) + (((List.getD (Qt ((Qt u u_o (wsN (tkZ (seg u u_o (List.length v + 1)) ((q - 1) * wv v) (List.length v)) (List.length v + 1)))) u_o (wsN (seg ((Qt u u_o (wsN (tkZ (seg u u_o (List.length v + 1)) ((q - 1) * wv v) (List.length v)) (List.length v + 1)))) u_o (List.length v + 1) + wv v) k)) (u_o + k) (0 : UInt32)).toNat) + ((List.getD v k (0 : UInt32)).toNat))) / 4294967296 : Nat) = cA (seg ((Qt u u_o (wsN (tkZ (seg u u_o (List.length v + 1)) ((q - 1) * wv v) (List.length v)) (List.length v + 1)))) u_o (List.length v + 1)) (wv v) (k + 1) from by (rw [hg]; exact (hs (by omega)).1))), rfl, rfl, rfl, rfl, rfl, rfl, trivial⟩), ⟨k + 1, lab216, rfl, rfl, h227, (c228.more (by decide)), ((show List.set (Qt ((Qt u u_o (wsN (tkZ (seg u u_o (List.length v + 1)) ((q - 1) * wv v) (List.length v)) (List.length v + 1)))) u_o (wsN (seg ((Qt u u_o (wsN (tkZ (seg u u_o (List.length v + 1)) ((q - 1) * wv v) (List.length v)) (List.length v + 1)))) u_o (List.length v + 1) + wv v) k)) (u_o + k) (UInt32.ofNat ((cA (seg ((Qt u u_o (wsN (tkZ (seg u u_o (List.length v + 1)) ((q - 1) * wv v) (List.length v)) (List.length v + 1)))) u_o (List.length v + 1)) (wv v) k) + (((List.getD (Qt ((Qt u u_o (wsN (tkZ (seg u u_o (List.length v + 1)) ((q - 1) * wv v) (List.length v)) (List.length v + 1)))) u_o (wsN (seg ((Qt u u_o (wsN (tkZ (seg u u_o (List.length v + 1)) ((q - 1) * wv v) (List.length v)) (List.length v + 1)))) u_o (List.length v + 1) + wv v) k)) (u_o + k) (0 : UInt32)).toNat) + ((List.getD v k (0 : UInt32)).toNat)))) = Qt ((Qt u u_o (wsN (tkZ (seg u u_o (List.length v + 1)) ((q - 1) * wv v) (List.length v)) (List.length v + 1)))) u_o (wsN (seg ((Qt u u_o (wsN (tkZ (seg u u_o (List.length v + 1)) ((q - 1) * wv v) (List.length v)) (List.length v + 1)))) u_o (List.length v + 1) + wv v) (k + 1)) from by (rw [hg]; exact Qgb (by omega) (by omega) (hs (by omega)).2)) ▸ o225), (by omega)⟩⟩)
 refine Run.open 22 (Φ := [.ex (n64 q), .ex (.bool (decide ((4294967296 : Int) ≤ ((q : Nat) : Int)))), .ex (.bool (decide ((4294967296 : Int) ≤ ((q : Nat) : Int)))), .ex (n64 q), .ex (.slice A1 (List.length v) c2), .ex (i64 ((List.length v : Nat) : Int)), .ex (i64 (((List.length v : Nat) : Int) - 2)), .v (ElV (List.map u32 v) ((List.length v) - 2)), .ex (u32 (List.getD v ((List.length v) - 2) (0 : UInt32))), .ex (n64 ((List.getD v ((List.length v) - 2) (0 : UInt32)).toNat)), .ex (n64 (q * ((List.getD v ((List.length v) - 2) (0 : UInt32)).toNat))), .ex (n64 r), .ex (n64 (r * 4294967296)), .ex (.slice (some ⟨u_b, u_o, none⟩) u_n u_c), .ex (i64 ((List.length v : Nat) : Int)), .ex (i64 (((List.length v : Nat) : Int) - 2)), .ex (.pointer (some ⟨u_b, u_o + ((List.length v) - 2), none⟩)), .ex (u32 (List.getD u (u_o + ((List.length v) - 2)) (0 : UInt32))), .ex (n64 ((List.getD u (u_o + ((List.length v) - 2)) (0 : UInt32)).toNat)), .ex (n64 ((r * 4294967296) + ((List.getD u (u_o + ((List.length v) - 2)) (0 : UInt32)).toNat))), .ex (.bool (decide ((((r * 4294967296) + ((List.getD u (u_o + ((List.length v) - 2)) (0 : UInt32)).toNat) : Nat) : Int) < ((q * ((List.getD v ((List.length v) - 2) (0 : UInt32)).toNat) : Nat) : Int)))), .ex (.bool (decide ((((r * 4294967296) + ((List.getD u (u_o + ((List.length v) - 2)) (0 : UInt32)).toNat) : Nat) : Int) < ((q * ((List.getD v ((List.length v) - 2) (0 : UInt32)).toNat) : Nat) : Int))))]) [(21, 64)] Je (by kernel_rfl) rfl hv163 ⟨(oX [] rfl rfl rfl fun _ _ => Qa.move rfl), (oX [(0, 43)] rfl rfl rfl fun _ _ => Qa.geq rfl rfl), (oX [(1, 44)] rfl rfl rfl fun _ _ => Qa.move rfl), ?_, ?_, ?_, ?_, ?_, ?_, ?_, ?_, ?_, ?_, ?_, ?_, ?_, ?_, ?_, ?_, ?_, ?_, (oX [(2, 45), (20, 63)] rfl rfl rfl fun _ _ => Qp rfl (dF9 hp1) rfl), trivial⟩ (fun L344 w345 h346 s347 => ?_)
 ·refine Q9 [] rfl rfl rfl rfl (dF9 hp1) rfl fun L254 w255 h256 s257 => ?_
  exact ⟨_, Qa.move rfl, rfl⟩
 ·refine Q9 [] rfl rfl rfl rfl (dF9 hp1) rfl fun L258 w259 h260 s261 => ?_
  exact ⟨_, Qa.move rfl, rfl⟩
 ·refine Q9 [] rfl rfl rfl rfl (dF9 hp1) rfl fun L262 w263 h264 s265 => ?_
  exact ⟨_, Qa.move rfl, rfl⟩
 ·refine Q9 [(5, 48)] rfl rfl rfl rfl (dF9 hp1) rfl fun L266 w267 h268 s269 => ?_
  exact ⟨_, Qa.sub rfl rfl (by omega), rfl⟩
 ·refine Q9 [(4, 47), (6, 49)] rfl rfl rfl rfl (dF9 hp1) rfl fun L270 w271 h272 s273 => ?_
  have c274 := s164.trans s273
  have c275 := s157.trans c274
  have c276 := s67.trans c275
  have q277 := up c276 h1
  exact ⟨_, Qs ((List.length v) - 2) Try.underlying58 Qx rfl rfl (Qo.row q277) (by simp [nw]) (by omega) (by omega), ⟨_, rfl, (Qo.row q277)⟩⟩
 ·refine Q9 [(7, 50)] rfl rfl rfl rfl (dF9 hp1) rfl fun L278 w279 h280 s281 v282 q283 => ?_
  obtain ⟨A284, rfl, r285⟩ := q283
  have t286 := UInt32.toNat_lt (List.getD v ((List.length v) - 2) (0 : UInt32))
  exact ⟨_, Qy Qx rfl r285 (Jp u32 _ (0 : UInt32) (by omega)), rfl⟩
 ·refine Q9 [(8, 51)] rfl rfl rfl rfl (dF9 hp1) rfl fun L287 w288 h289 s290 => ?_
  exact ⟨_, QB Try.underlying167 Try.underlying62 rfl, rfl⟩
 ·refine Q9 [(3, 46), (9, 52)] rfl rfl rfl rfl (dF9 hp1) rfl fun L291 w292 h293 s294 => ?_
  exact ⟨_, ZF rfl rfl (by omega), rfl⟩
 ·refine Q9 [] rfl rfl rfl rfl (dF9 hp1) rfl fun L295 w296 h297 s298 => ?_
  exact ⟨_, Qa.move rfl, rfl⟩
 ·refine Q9 [(11, 54)] rfl rfl rfl rfl (dF9 hp1) rfl fun L299 w300 h301 s302 => ?_
  exact ⟨_, Ya rfl rfl (by omega), rfl⟩
 ·refine Q9 [] rfl rfl rfl rfl (dF9 hp1) rfl fun L303 w304 h305 s306 => ?_
  exact ⟨_, Qa.move rfl, rfl⟩
 ·refine Q9 [] rfl rfl rfl rfl (dF9 hp1) rfl fun L307 w308 h309 s310 => ?_
  exact ⟨_, Qa.move rfl, rfl⟩
 ·refine Q9 [(14, 57)] rfl rfl rfl rfl (dF9 hp1) rfl fun L311 w312 h313 s314 => ?_
  exact ⟨_, Qa.sub rfl rfl (by omega), rfl⟩
 ·refine Q9 [(13, 56), (15, 58)] rfl rfl rfl rfl (dF9 hp1) rfl fun L315 w316 h317 s318 => ?_
  exact ⟨_, QO ((List.length v) - 2) Try.underlying58 Qx rfl rfl (by omega) (by omega), rfl⟩
 ·refine Q9 [(16, 59)] rfl rfl rfl rfl (dF9 hp1) rfl fun L319 w320 h321 s322 => ?_
  have c324 := s164.trans s322
  have c325 := s157.trans c324
  have c326 := s67.trans c325
  have o323 := h0.up c326
  have t327 := UInt32.toNat_lt (List.getD u (u_o + ((List.length v) - 2)) (0 : UInt32))
  exact ⟨_, Qf o323 Qx rfl (Zi u32 _ (0 : UInt32) (by omega)), rfl⟩
 ·refine Q9 [(17, 60)] rfl rfl rfl rfl (dF9 hp1) rfl fun L328 w329 h330 s331 => ?_
  exact ⟨_, QB Try.underlying167 Try.underlying62 rfl, rfl⟩
 ·refine Q9 [(12, 55), (18, 61)] rfl rfl rfl rfl (dF9 hp1) rfl fun L332 w333 h334 s335 => ?_
  exact ⟨_, ZO rfl rfl (by omega) (by omega), rfl⟩
 ·refine Q9 [(10, 53), (19, 62)] rfl rfl rfl rfl (dF9 hp1) rfl fun L336 w337 h338 s339 => ?_
  exact ⟨_, Qa.gtr rfl rfl, rfl⟩
 refine Seq.next ?_
 rcases Decidable.em ((((r * 4294967296) + ((List.getD u (u_o + ((List.length v) - 2)) (0 : UInt32)).toNat) : Nat) : Int) < ((q * ((List.getD v ((List.length v) - 2) (0 : UInt32)).toNat) : Nat) : Int)) with hp2 | hp2
 rotate_left
 ·refine Qc rfl (dF9 hp2) ?_
  refine Qv (fun _ _ h => h) ?_
  refine Run.seq ?_
  refine rsr ?_
  refine sv (Qa.move rfl) ?_
  refine sv (Qa.move rfl) ?_
  refine sv (Qa.move rfl) ?_
  have c395 := s164.trans s347
  have c396 := s157.trans c395
  have c397 := s67.trans c396
  have o394 := h0.up c397
  have q398 := up c397 h1
  refine ZQ QfF rfl (UU h346 (q := q) o394 (by omega) q398  (show  u_n = List.length v + 1 from by omega) (show  q ≤ 4294967296 from by omega) (show  List.length v ≤ 1000000 from by omega)) fun v399 L404 w407 r406 s402 h403 => ?_
  obtain ⟨q401, o405⟩ := r406
  have q401 := Is.out q401; subst q401
  refine Seq.next ?_
  rcases Decidable.em (seg u u_o (List.length v + 1) < q * wv v) with hp3 | hp3
  rotate_left
  ·refine Qc rfl (dF9 hp3) ?_
   refine Qg (fun _ _ h => h) ?_
   refine rsr ?_
   refine sv (Qa.move rfl) ?_
   refine sv (QF Try.underlying62 Try.underlying167 rfl) ?_
   refine sv (Qa.assign rfl) ?_
   refine Seq.next ?_
   have c436 := c397.trans s402
   obtain ⟨lab9, s9, B9⟩ := hX [(1, u_d)] c436 (by decide) h403
   obtain ⟨zU, zo⟩ := B9.u
   refine Run.ret ?_
   exact Qm Try.results160 rfl ⟨_, lab9, rfl, ⟨(QbM (by exact congrArg UInt32.ofNat ((hA (by omega) (by omega)).hit (by assumption)).symm) _ _), ((show Qt u u_o (wsN (tkZ (seg u u_o (List.length v + 1)) (q * wv v) (List.length v)) (List.length v + 1)) = Qt u u_o (wsN (seg u u_o (List.length v + 1) % wv v) (List.length v + 1)) from by exact congrArg (Qt u u_o) ((hA (by omega) (by omega)).hit_row (by assumption) _)) ▸ (Own.back o405 B9 u_d rfl (by decide) (by simp [Xa])))⟩, s9, B9.v⟩
  refine Qc rfl (dT9 hp3) ?_
  refine rsr ?_
  refine sv (Qa.move rfl) ?_
  refine sv (Yj (b := 1) rfl rfl (by exact Gs.pos (hA (by omega) (by omega)) (by assumption)) (by omega)) ?_
  refine sv (Qa.assign rfl) ?_
  refine nsr ?_
  refine sv (Qa.assign rfl) ?_
  refine Seq.next ?_
  refine Run.seq ?_
  refine rsr ?_
  refine sv (Qa.move rfl) ?_
  refine sv (Qa.len Try.underlying58 rfl) ?_
  refine sv (Qa.move rfl) ?_
  refine Seq.next ?_
  refine Run.block ?_
  refine Run.loop (fun m' l' w' => ∃ (k : Nat) (lab' : Lab), m' = List.length v - k ∧ l' = [(85, i64 ((k : Nat) : Int)), (9, n64 (cA (seg ((Qt u u_o (wsN (tkZ (seg u u_o (List.length v + 1)) (q * wv v) (List.length v)) (List.length v + 1)))) u_o (List.length v + 1)) (wv v) k)), (0, .slice (some ⟨u_b, u_o, none⟩) u_n u_c), (4, .int .u32 0), (5, i64 ((List.length v : Nat) : Int)), (7, n64 (q - 1)), (83, .slice A1 (List.length v) c2), (84, i64 ((List.length v : Nat) : Int))] ∧ Ql lab' w' ∧ Stp [1] L404 w407 lab' w' ∧ Own lab' w' 1 u_b u_t (List.map u32 (Qt ((Qt u u_o (wsN (tkZ (seg u u_o (List.length v + 1)) (q * wv v) (List.length v)) (List.length v + 1)))) u_o (wsN (seg ((Qt u u_o (wsN (tkZ (seg u u_o (List.length v + 1)) (q * wv v) (List.length v)) (List.length v + 1)))) u_o (List.length v + 1) + wv v) k))).toArray ∧ (k ≤ List.length v)) (List.length v - 0) (l0 := [(85, i64 ((0 : Nat) : Int)), (9, n64 (cA (seg ((Qt u u_o (wsN (tkZ (seg u u_o (List.length v + 1)) (q * wv v) (List.length v)) (List.length v + 1)))) u_o (List.length v + 1)) (wv v) 0)), (0, .slice (some ⟨u_b, u_o, none⟩) u_n u_c), (4, .int .u32 0), (5, i64 ((List.length v : Nat) : Int)), (7, n64 (q - 1)), (83, .slice A1 (List.length v) c2), (84, i64 ((List.length v : Nat) : Int))]) ⟨(congrArg (fun z => some (i64 z)) (show (0 : Int) = ((0 : Nat) : Int) from by rfl)), (congrArg (fun z => some (n64 z)) (show (0 : Nat) = cA (seg ((Qt u u_o (wsN (tkZ (seg u u_o (List.length v + 1)) (q * wv v) (List.length v)) (List.length v + 1)))) u_o (List.length v + 1)) (wv v) 0 from by exact (K1 _ _).symm)), rfl, rfl, rfl, rfl, rfl, rfl, trivial⟩ ⟨0, L404, rfl, rfl, h403, ((Stp.refl _ _).more (by simp)), ((show Qt u u_o (wsN (tkZ (seg u u_o (List.length v + 1)) (q * wv v) (List.length v)) (List.length v + 1)) = Qt ((Qt u u_o (wsN (tkZ (seg u u_o (List.length v + 1)) (q * wv v) (List.length v)) (List.length v + 1)))) u_o (wsN (seg ((Qt u u_o (wsN (tkZ (seg u u_o (List.length v + 1)) (q * wv v) (List.length v)) (List.length v + 1)))) u_o (List.length v + 1) + wv v) 0) from by exact (XW _ _).symm) ▸ o405), (by omega)⟩ ?_
  intro m408 l409 w410 H411
  obtain ⟨k_415, lab412, hzm, rfl, hv413, s414, o416, hk⟩ := H411
  replace hzm := hzm.symm; subst hzm
  have hL1 : List.length ((Qt u u_o (wsN (tkZ (seg u u_o (List.length v + 1)) (q * wv v) (List.length v)) (List.length v + 1)))) = List.length u := QN (by rw [Qq]; omega)
  have hc := QfO (seg ((Qt u u_o (wsN (tkZ (seg u u_o (List.length v + 1)) (q * wv v) (List.length v)) (List.length v + 1)))) u_o (List.length v + 1)) (wv v) k_415
  have hg := XX (us := (Qt u u_o (wsN (tkZ (seg u u_o (List.length v + 1)) (q * wv v) (List.length v)) (List.length v + 1)))) (o := u_o) (j := k_415) (xs := wsN (seg ((Qt u u_o (wsN (tkZ (seg u u_o (List.length v + 1)) (q * wv v) (List.length v)) (List.length v + 1)))) u_o (List.length v + 1) + wv v) k_415) (by rw [Qq]; omega) (by rw [Qq]; omega)
  have hs := fun h => @Qga ((Qt u u_o (wsN (tkZ (seg u u_o (List.length v + 1)) (q * wv v) (List.length v)) (List.length v + 1)))) v u_o k_415 _ _ _ h (by rw [hL1]; omega) rfl rfl rfl
  refine rsr ?_
  refine sv (Qa.lss rfl rfl) ?_
  refine Seq.next ?_
  refine Run.seq ?_
  rcases Decidable.em ((((k_415 : Nat) : Int) : Int) < (((List.length v : Nat) : Int) : Int)) with hp4 | hp4
  rotate_left
  ·refine Qc rfl (dF9 hp4) ?_
   refine Qv (fun _ _ h => h) ?_
   refine Run.region ?_
   refine sv (Qa.move rfl) ?_
   refine sv (Qa.move rfl) ?_
   refine sv (QO (List.length v) Try.underlying58 Qx rfl rfl (by omega) (by omega)) ?_
   have t428 := UInt32.toNat_lt (List.getD (Qt ((Qt u u_o (wsN (tkZ (seg u u_o (List.length v + 1)) (q * wv v) (List.length v)) (List.length v + 1)))) u_o (wsN (seg ((Qt u u_o (wsN (tkZ (seg u u_o (List.length v + 1)) (q * wv v) (List.length v)) (List.length v + 1)))) u_o (List.length v + 1) + wv v) k_415)) (u_o + (List.length v)) (0 : UInt32))
   refine sv (Qf o416 Qx rfl (Zi u32 _ (0 : UInt32) (by (rw [QN (by rw [Qq]; omega)]; omega)))) ?_
   refine sv (Qa.move rfl) ?_
   refine sv (QF Try.underlying62 Try.underlying167 rfl) ?_
   refine sv (Jw rfl rfl) ?_
   refine sv (QO (List.length v) Try.underlying58 Qx rfl rfl (by omega) (by omega)) ?_
   refine Q8 (k := 1) (j := (u_o + (List.length v))) (v := ((List.getD (Qt ((Qt u u_o (wsN (tkZ (seg u u_o (List.length v + 1)) (q * wv v) (List.length v)) (List.length v + 1)))) u_o (wsN (seg ((Qt u u_o (wsN (tkZ (seg u u_o (List.length v + 1)) (q * wv v) (List.length v)) (List.length v + 1)))) u_o (List.length v + 1) + wv v) k_415)) (u_o + (List.length v)) (0 : UInt32)) + (UInt32.ofNat (cA (seg ((Qt u u_o (wsN (tkZ (seg u u_o (List.length v + 1)) (q * wv v) (List.length v)) (List.length v + 1)))) u_o (List.length v + 1)) (wv v) k_415)))) u32 hv413 o416 Qx rfl rfl (by (rw [QN (by rw [Qq]; omega)]; omega)) rfl rfl fun w429 o430 s431 h432 => ?_
   refine nsr ?_
   refine sv (Qa.move rfl) ?_
   refine sv (QF Try.underlying62 Try.underlying167 rfl) ?_
   refine sv (Qa.assign rfl) ?_
   refine Seq.next ?_
   have c433 := s414.trans s431
   have c434 := s402.trans c433
   have c435 := c397.trans c434
   obtain ⟨lab9, s9, B9⟩ := hX [(1, u_d)] c435 (by decide) h432
   obtain ⟨zU, zo⟩ := B9.u
   refine Run.ret ?_
   exact Qm Try.results160 rfl ⟨_, lab9, rfl, ⟨(QbM (by exact congrArg UInt32.ofNat ((hA (by omega) (by omega)).over (by assumption)).symm) _ _), ((show List.set (Qt ((Qt u u_o (wsN (tkZ (seg u u_o (List.length v + 1)) (q * wv v) (List.length v)) (List.length v + 1)))) u_o (wsN (seg ((Qt u u_o (wsN (tkZ (seg u u_o (List.length v + 1)) (q * wv v) (List.length v)) (List.length v + 1)))) u_o (List.length v + 1) + wv v) k_415)) (u_o + (List.length v)) ((List.getD (Qt ((Qt u u_o (wsN (tkZ (seg u u_o (List.length v + 1)) (q * wv v) (List.length v)) (List.length v + 1)))) u_o (wsN (seg ((Qt u u_o (wsN (tkZ (seg u u_o (List.length v + 1)) (q * wv v) (List.length v)) (List.length v + 1)))) u_o (List.length v + 1) + wv v) k_415)) (u_o + (List.length v)) (0 : UInt32)) + (UInt32.ofNat (cA (seg ((Qt u u_o (wsN (tkZ (seg u u_o (List.length v + 1)) (q * wv v) (List.length v)) (List.length v + 1)))) u_o (List.length v + 1)) (wv v) k_415))) = Qt u u_o (wsN (seg u u_o (List.length v + 1) % wv v) (List.length v + 1)) from by ((obtain rfl := Nat.le_antisymm hk (by omega)); rw [hg, QbX (by omega) rfl]; exact Qgc (by omega) _ ((hA (by omega) (by omega)).over_mod (by assumption) _))) ▸ (Own.back o430 B9 u_d rfl (by decide) (by simp [Xa])))⟩, s9, B9.v⟩
  refine Qc rfl (dT9 hp4) ?_
  refine Qg (fun _ _ h => h) ?_
  refine Run.seq ?_
  refine Run.block ?_
  refine rsr ?_
  refine sv (Qa.move rfl) ?_
  have c417 := s402.trans s414
  have q418 := up c417 q398
  refine sv (Qs k_415 Try.underlying58 Qx rfl rfl (Qo.row q418) (by simp [nw]) (by omega) (by omega)) ?_
  have t419 := UInt32.toNat_lt (List.getD v k_415 (0 : UInt32))
  refine sv (Qy Qx rfl (Qo.row q418) (Jp u32 _ (0 : UInt32) (by omega))) ?_
  refine sv (Qa.assign rfl) ?_
  refine sv (Qa.assign rfl) ?_
  refine nsr ?_
  refine sv (Qa.move rfl) ?_
  refine sv (Qa.move rfl) ?_
  refine sv (Qa.move rfl) ?_
  refine sv (QO k_415 Try.underlying58 Qx rfl rfl (by omega) (by omega)) ?_
  have t420 := UInt32.toNat_lt (List.getD (Qt ((Qt u u_o (wsN (tkZ (seg u u_o (List.length v + 1)) (q * wv v) (List.length v)) (List.length v + 1)))) u_o (wsN (seg ((Qt u u_o (wsN (tkZ (seg u u_o (List.length v + 1)) (q * wv v) (List.length v)) (List.length v + 1)))) u_o (List.length v + 1) + wv v) k_415)) (u_o + k_415) (0 : UInt32))
  refine sv (Qf o416 Qx rfl (Zi u32 _ (0 : UInt32) (by (rw [QN (by rw [Qq]; omega)]; omega)))) ?_
  refine sv (QB Try.underlying167 Try.underlying62 rfl) ?_
  refine sv (Qa.move rfl) ?_
  refine sv (QB Try.underlying167 Try.underlying62 rfl) ?_
  refine sv (Jn rfl rfl (by omega)) ?_
  refine sv (Jn rfl rfl (by omega)) ?_
  refine sv (Qa.assign rfl) ?_
  refine nsr ?_
  refine sv (Qa.move rfl) ?_
  refine sv (Qa.move rfl) ?_
  refine sv (Qa.move rfl) ?_
  refine sv (QF Try.underlying62 Try.underlying167 rfl) ?_
  refine sv (QO k_415 Try.underlying58 Qx rfl rfl (by omega) (by omega)) ?_
  refine Q8 (k := 1) (j := (u_o + k_415)) (v := (UInt32.ofNat ((cA (seg ((Qt u u_o (wsN (tkZ (seg u u_o (List.length v + 1)) (q * wv v) (List.length v)) (List.length v + 1)))) u_o (List.length v + 1)) (wv v) k_415) + (((List.getD (Qt ((Qt u u_o (wsN (tkZ (seg u u_o (List.length v + 1)) (q * wv v) (List.length v)) (List.length v + 1)))) u_o (wsN (seg ((Qt u u_o (wsN (tkZ (seg u u_o (List.length v + 1)) (q * wv v) (List.length v)) (List.length v + 1)))) u_o (List.length v + 1) + wv v) k_415)) (u_o + k_415) (0 : UInt32)).toNat) + ((List.getD v k_415 (0 : UInt32)).toNat))))) u32 hv413 o416 Qx rfl rfl (by (rw [QN (by rw [Qq]; omega)]; omega)) rfl rfl fun w421 o422 s423 h424 => ?_
  refine Seq.next ?_
  refine Run.region ?_
  refine sv (Qa.move rfl) ?_
  refine sv (Jr rfl rfl) ?_
  refine sv (Qa.assign rfl) ?_
  refine QH (fun _ _ h => h) ?_
  refine Run.region ?_
  refine sv (Qa.add rfl rfl (by omega)) ?_
  refine sv (Qa.move rfl) ?_
  have c425 := s414.trans s423
  exact Seq.nil (fun a426 h427 => ⟨_, by omega, _, h427.weaken (QG (l' := [(85, i64 (((k_415 + 1) : Nat) : Int)), (9, n64 (cA (seg ((Qt u u_o (wsN (tkZ (seg u u_o (List.length v + 1)) (q * wv v) (List.length v)) (List.length v + 1)))) u_o (List.length v + 1)) (wv v) (k_415 + 1))), (0, .slice (some ⟨u_b, u_o, none⟩) u_n u_c), (4, .int .u32 0), (5, i64 ((List.length v : Nat) : Int)), (7, n64 (q - 1)), (83, .slice A1 (List.length v) c2), (84, i64 ((List.length v : Nat) : Int))]) ⟨(congrArg (fun z => some (i64 z)) (show (((k_415 : Nat) : Int) + 1 : Int) = (((k_415 + 1) : Nat) : Int) from by rfl)), (congrArg (fun z => some (n64 z)) (show (((cA (seg ((Qt u u_o (wsN (tkZ (seg u u_o (List.length v + 1)) (q * wv v) (List.length v)) (List.length v + 1)))) u_o (List.length v + 1)) (wv v) k_415) + (((List.getD (Qt ((Qt u u_o (wsN (tkZ (seg u u_o (List.length v + 1)) (q * wv v) (List.length v)) (List.length v + 1)))) u_o (wsN (seg ((Qt u u_o (wsN (tkZ (seg u u_o (List.length v + 1)) (q * wv v) (List.length v)) (List.length v + 1)))) u_o (List.length v + 1) + wv v) k_415)) (u_o + k_415) (0 : UInt32)).toNat) + ((List.getD v k_415 (0 : UInt32)).toNat))) / 4294967296 : Nat) = cA (seg ((Qt u u_o (wsN (tkZ (seg u u_o (List.length v + 1)) (q * wv v) (List.length v)) (List.length v + 1)))) u_o (List.length v + 1)) (wv v) (k_415 + 1) from by (rw [hg]; exact (hs (by omega)).1))), rfl, rfl, rfl, rfl, rfl, rfl, trivial⟩), ⟨k_415 + 1, lab412, rfl, rfl, h424, (c425.more (by decide)), ((show List.set (Qt ((Qt u u_o (wsN (tkZ (seg u u_o (List.length v + 1)) (q * wv v) (List.length v)) (List.length v + 1)))) u_o (wsN (seg ((Qt u u_o (wsN (tkZ (seg u u_o (List.length v + 1)) (q * wv v) (List.length v)) (List.length v + 1)))) u_o (List.length v + 1) + wv v) k_415)) (u_o + k_415) (UInt32.ofNat ((cA (seg ((Qt u u_o (wsN (tkZ (seg u u_o (List.length v + 1)) (q * wv v) (List.length v)) (List.length v + 1)))) u_o (List.length v + 1)) (wv v) k_415) + (((List.getD (Qt ((Qt u u_o (wsN (tkZ (seg u u_o (List.length v + 1)) (q * wv v) (List.length v)) (List.length v + 1)))) u_o (wsN (seg ((Qt u u_o (wsN (tkZ (seg u u_o (List.length v + 1)) (q * wv v) (List.length v)) (List.length v + 1)))) u_o (List.length v + 1) + wv v) k_415)) (u_o + k_415) (0 : UInt32)).toNat) + ((List.getD v k_415 (0 : UInt32)).toNat)))) = Qt ((Qt u u_o (wsN (tkZ (seg u u_o (List.length v + 1)) (q * wv v) (List.length v)) (List.length v + 1)))) u_o (wsN (seg ((Qt u u_o (wsN (tkZ (seg u u_o (List.length v + 1)) (q * wv v) (List.length v)) (List.length v + 1)))) u_o (List.length v + 1) + wv v) (k_415 + 1)) from by (rw [hg]; exact Qgb (by omega) (by omega) (hs (by omega)).2)) ▸ o422), (by omega)⟩⟩)
 refine Qc rfl (dT9 hp2) ?_
 refine Qg (fun _ _ h => h) ?_
 refine Run.block ?_
 refine rsr ?_
 refine sv (Qa.move rfl) ?_
 refine sv (Yj (b := 1) rfl rfl (by omega) (by omega)) ?_
 refine sv (Qa.assign rfl) ?_
 refine nsr ?_
 refine sv (Qa.move rfl) ?_
 refine sv (Qa.move rfl) ?_
 refine sv (Qa.move rfl) ?_
 refine sv (Qa.sub rfl rfl (by omega)) ?_
 have c348 := s164.trans s347
 have c349 := s157.trans c348
 have c350 := s67.trans c349
 have q351 := up c350 h1
 refine sv (Qs ((List.length v) - 1) Try.underlying58 Qx rfl rfl (Qo.row q351) (by simp [nw]) (by omega) (by omega)) ?_
 have t352 := UInt32.toNat_lt (List.getD v ((List.length v) - 1) (0 : UInt32))
 refine sv (Qy Qx rfl (Qo.row q351) (Jp u32 _ (0 : UInt32) (by omega))) ?_
 refine sv (QB Try.underlying167 Try.underlying62 rfl) ?_
 refine sv (Jn rfl rfl (by omega)) ?_
 refine sv (Qa.assign rfl) ?_
 refine nsr ?_
 refine sv (Qa.move rfl) ?_
 refine sv (Qa.geq rfl rfl) ?_
 refine Seq.next ?_
 rcases Decidable.em ((4294967296 : Int) ≤ ((r + ((List.getD v ((List.length v) - 1) (0 : UInt32)).toNat) : Nat) : Int)) with hp3 | hp3
 rotate_left
 ·refine Qc rfl (dF9 hp3) ?_
  exact Run.skip (fun a392 h393 => ⟨_, by omega, _, h393.weaken (QG (l' := [(7, n64 (q - 1)), (8, n64 (r + (List.getD v (List.length v - 1) 0).toNat)), (0, .slice (some ⟨u_b, u_o, none⟩) u_n u_c), (1, .slice A1 (List.length v) c2), (4, .int .u32 0), (5, i64 ((List.length v : Nat) : Int))]) ⟨(congrArg (fun z => some (n64 z)) (show (q - 1 : Nat) = (q - 1) from by rfl)), (congrArg (fun z => some (n64 z)) (show (r + ((List.getD v ((List.length v) - 1) (0 : UInt32)).toNat) : Nat) = (r + (List.getD v (List.length v - 1) 0).toNat) from by rfl)), rfl, rfl, rfl, rfl, trivial⟩), ⟨q - 1, r + (List.getD v (List.length v - 1) 0).toNat, L344, rfl, rfl, h346, (c348.more (by decide)), (by omega), (by omega), (by (rw [Nat.sub_add_cancel (by omega)]; exact hS (by first | exact Or.inl (by omega) | exact Or.inr (by omega)))), (by omega)⟩⟩)
 refine Qc rfl (dT9 hp3) ?_
 refine Qv (fun _ _ h => h) ?_
 refine Run.seq ?_
 refine rsr ?_
 refine sv (Qa.move rfl) ?_
 refine sv (Qa.move rfl) ?_
 refine sv (Qa.move rfl) ?_
 have o353 := h0.up c350
 refine ZQ QfF rfl (UU h346 (q := q - 1) o353 (by omega) q351  (show  u_n = List.length v + 1 from by omega) (show  (q - 1) ≤ 4294967296 from by omega) (show  List.length v ≤ 1000000 from by omega)) fun v354 L359 w362 r361 s357 h358 => ?_
 obtain ⟨q356, o360⟩ := r361
 have q356 := Is.out q356; subst q356
 refine Seq.next ?_
 rcases Decidable.em (seg u u_o (List.length v + 1) < (q - 1) * wv v) with hp4 | hp4
 rotate_left
 ·refine Qc rfl (dF9 hp4) ?_
  refine Qg (fun _ _ h => h) ?_
  refine rsr ?_
  refine sv (Qa.move rfl) ?_
  refine sv (QF Try.underlying62 Try.underlying167 rfl) ?_
  refine sv (Qa.assign rfl) ?_
  refine Seq.next ?_
  have c391 := c350.trans s357
  obtain ⟨lab9, s9, B9⟩ := hX [(1, u_d)] c391 (by decide) h358
  obtain ⟨zU, zo⟩ := B9.u
  refine Run.ret ?_
  exact Qm Try.results160 rfl ⟨_, lab9, rfl, ⟨(QbM (by exact congrArg UInt32.ofNat ((hB (by omega) (by first | exact Or.inl (by omega) | exact Or.inr (by omega)) (by omega)).hit (by assumption)).symm) _ _), ((show Qt u u_o (wsN (tkZ (seg u u_o (List.length v + 1)) ((q - 1) * wv v) (List.length v)) (List.length v + 1)) = Qt u u_o (wsN (seg u u_o (List.length v + 1) % wv v) (List.length v + 1)) from by exact congrArg (Qt u u_o) ((hB (by omega) (by first | exact Or.inl (by omega) | exact Or.inr (by omega)) (by omega)).hit_row (by assumption) _)) ▸ (Own.back o360 B9 u_d rfl (by decide) (by simp [Xa])))⟩, s9, B9.v⟩
 refine Qc rfl (dT9 hp4) ?_
 refine rsr ?_
 refine sv (Qa.move rfl) ?_
 refine sv (Yj (b := 1) rfl rfl (by exact Gs.pos (hB (by omega) (by first | exact Or.inl (by omega) | exact Or.inr (by omega)) (by omega)) (by assumption)) (by omega)) ?_
 refine sv (Qa.assign rfl) ?_
 refine nsr ?_
 refine sv (Qa.assign rfl) ?_
 refine Seq.next ?_
 refine Run.seq ?_
 refine rsr ?_
 refine sv (Qa.move rfl) ?_
 refine sv (Qa.len Try.underlying58 rfl) ?_
 refine sv (Qa.move rfl) ?_
 refine Seq.next ?_
 refine Run.block ?_
 refine Run.loop (fun m' l' w' => ∃ (k : Nat) (lab' : Lab), m' = List.length v - k ∧ l' = [(85, i64 ((k : Nat) : Int)), (9, n64 (cA (seg ((Qt u u_o (wsN (tkZ (seg u u_o (List.length v + 1)) ((q - 1) * wv v) (List.length v)) (List.length v + 1)))) u_o (List.length v + 1)) (wv v) k)), (0, .slice (some ⟨u_b, u_o, none⟩) u_n u_c), (4, .int .u32 0), (5, i64 ((List.length v : Nat) : Int)), (7, n64 ((q - 1) - 1)), (83, .slice A1 (List.length v) c2), (84, i64 ((List.length v : Nat) : Int))] ∧ Ql lab' w' ∧ Stp [1] L359 w362 lab' w' ∧ Own lab' w' 1 u_b u_t (List.map u32 (Qt ((Qt u u_o (wsN (tkZ (seg u u_o (List.length v + 1)) ((q - 1) * wv v) (List.length v)) (List.length v + 1)))) u_o (wsN (seg ((Qt u u_o (wsN (tkZ (seg u u_o (List.length v + 1)) ((q - 1) * wv v) (List.length v)) (List.length v + 1)))) u_o (List.length v + 1) + wv v) k))).toArray ∧ (k ≤ List.length v)) (List.length v - 0) (l0 := [(85, i64 ((0 : Nat) : Int)), (9, n64 (cA (seg ((Qt u u_o (wsN (tkZ (seg u u_o (List.length v + 1)) ((q - 1) * wv v) (List.length v)) (List.length v + 1)))) u_o (List.length v + 1)) (wv v) 0)), (0, .slice (some ⟨u_b, u_o, none⟩) u_n u_c), (4, .int .u32 0), (5, i64 ((List.length v : Nat) : Int)), (7, n64 ((q - 1) - 1)), (83, .slice A1 (List.length v) c2), (84, i64 ((List.length v : Nat) : Int))]) ⟨(congrArg (fun z => some (i64 z)) (show (0 : Int) = ((0 : Nat) : Int) from by rfl)), (congrArg (fun z => some (n64 z)) (show (0 : Nat) = cA (seg ((Qt u u_o (wsN (tkZ (seg u u_o (List.length v + 1)) ((q - 1) * wv v) (List.length v)) (List.length v + 1)))) u_o (List.length v + 1)) (wv v) 0 from by exact (K1 _ _).symm)), rfl, rfl, rfl, rfl, rfl, rfl, trivial⟩ ⟨0, L359, rfl, rfl, h358, ((Stp.refl _ _).more (by simp)), ((show Qt u u_o (wsN (tkZ (seg u u_o (List.length v + 1)) ((q - 1) * wv v) (List.length v)) (List.length v + 1)) = Qt ((Qt u u_o (wsN (tkZ (seg u u_o (List.length v + 1)) ((q - 1) * wv v) (List.length v)) (List.length v + 1)))) u_o (wsN (seg ((Qt u u_o (wsN (tkZ (seg u u_o (List.length v + 1)) ((q - 1) * wv v) (List.length v)) (List.length v + 1)))) u_o (List.length v + 1) + wv v) 0) from by exact (XW _ _).symm) ▸ o360), (by omega)⟩ ?_
 intro m363 l364 w365 H366
 obtain ⟨k_370, lab367, hzm, rfl, hv368, s369, o371, hk⟩ := H366
 replace hzm := hzm.symm; subst hzm
 have hL1 : List.length ((Qt u u_o (wsN (tkZ (seg u u_o (List.length v + 1)) ((q - 1) * wv v) (List.length v)) (List.length v + 1)))) = List.length u := QN (by rw [Qq]; omega)
 have hc := QfO (seg ((Qt u u_o (wsN (tkZ (seg u u_o (List.length v + 1)) ((q - 1) * wv v) (List.length v)) (List.length v + 1)))) u_o (List.length v + 1)) (wv v) k_370
 have hg := XX (us := (Qt u u_o (wsN (tkZ (seg u u_o (List.length v + 1)) ((q - 1) * wv v) (List.length v)) (List.length v + 1)))) (o := u_o) (j := k_370) (xs := wsN (seg ((Qt u u_o (wsN (tkZ (seg u u_o (List.length v + 1)) ((q - 1) * wv v) (List.length v)) (List.length v + 1)))) u_o (List.length v + 1) + wv v) k_370) (by rw [Qq]; omega) (by rw [Qq]; omega)
 have hs := fun h => @Qga ((Qt u u_o (wsN (tkZ (seg u u_o (List.length v + 1)) ((q - 1) * wv v) (List.length v)) (List.length v + 1)))) v u_o k_370 _ _ _ h (by rw [hL1]; omega) rfl rfl rfl
 refine rsr ?_
 refine sv (Qa.lss rfl rfl) ?_
 refine Seq.next ?_
 refine Run.seq ?_
 rcases Decidable.em ((((k_370 : Nat) : Int) : Int) < (((List.length v : Nat) : Int) : Int)) with hp5 | hp5
 rotate_left
 ·refine Qc rfl (dF9 hp5) ?_
  refine Qv (fun _ _ h => h) ?_
  refine Run.region ?_
  refine sv (Qa.move rfl) ?_
  refine sv (Qa.move rfl) ?_
  refine sv (QO (List.length v) Try.underlying58 Qx rfl rfl (by omega) (by omega)) ?_
  have t383 := UInt32.toNat_lt (List.getD (Qt ((Qt u u_o (wsN (tkZ (seg u u_o (List.length v + 1)) ((q - 1) * wv v) (List.length v)) (List.length v + 1)))) u_o (wsN (seg ((Qt u u_o (wsN (tkZ (seg u u_o (List.length v + 1)) ((q - 1) * wv v) (List.length v)) (List.length v + 1)))) u_o (List.length v + 1) + wv v) k_370)) (u_o + (List.length v)) (0 : UInt32))
  refine sv (Qf o371 Qx rfl (Zi u32 _ (0 : UInt32) (by (rw [QN (by rw [Qq]; omega)]; omega)))) ?_
  refine sv (Qa.move rfl) ?_
  refine sv (QF Try.underlying62 Try.underlying167 rfl) ?_
  refine sv (Jw rfl rfl) ?_
  refine sv (QO (List.length v) Try.underlying58 Qx rfl rfl (by omega) (by omega)) ?_
  refine Q8 (k := 1) (j := (u_o + (List.length v))) (v := ((List.getD (Qt ((Qt u u_o (wsN (tkZ (seg u u_o (List.length v + 1)) ((q - 1) * wv v) (List.length v)) (List.length v + 1)))) u_o (wsN (seg ((Qt u u_o (wsN (tkZ (seg u u_o (List.length v + 1)) ((q - 1) * wv v) (List.length v)) (List.length v + 1)))) u_o (List.length v + 1) + wv v) k_370)) (u_o + (List.length v)) (0 : UInt32)) + (UInt32.ofNat (cA (seg ((Qt u u_o (wsN (tkZ (seg u u_o (List.length v + 1)) ((q - 1) * wv v) (List.length v)) (List.length v + 1)))) u_o (List.length v + 1)) (wv v) k_370)))) u32 hv368 o371 Qx rfl rfl (by (rw [QN (by rw [Qq]; omega)]; omega)) rfl rfl fun w384 o385 s386 h387 => ?_
  refine nsr ?_
  refine sv (Qa.move rfl) ?_
  refine sv (QF Try.underlying62 Try.underlying167 rfl) ?_
  refine sv (Qa.assign rfl) ?_
  refine Seq.next ?_
  have c388 := s369.trans s386
  have c389 := s357.trans c388
  have c390 := c350.trans c389
  obtain ⟨lab9, s9, B9⟩ := hX [(1, u_d)] c390 (by decide) h387
  obtain ⟨zU, zo⟩ := B9.u
  refine Run.ret ?_
  exact Qm Try.results160 rfl ⟨_, lab9, rfl, ⟨(QbM (by exact congrArg UInt32.ofNat ((hB (by omega) (by first | exact Or.inl (by omega) | exact Or.inr (by omega)) (by omega)).over (by assumption)).symm) _ _), ((show List.set (Qt ((Qt u u_o (wsN (tkZ (seg u u_o (List.length v + 1)) ((q - 1) * wv v) (List.length v)) (List.length v + 1)))) u_o (wsN (seg ((Qt u u_o (wsN (tkZ (seg u u_o (List.length v + 1)) ((q - 1) * wv v) (List.length v)) (List.length v + 1)))) u_o (List.length v + 1) + wv v) k_370)) (u_o + (List.length v)) ((List.getD (Qt ((Qt u u_o (wsN (tkZ (seg u u_o (List.length v + 1)) ((q - 1) * wv v) (List.length v)) (List.length v + 1)))) u_o (wsN (seg ((Qt u u_o (wsN (tkZ (seg u u_o (List.length v + 1)) ((q - 1) * wv v) (List.length v)) (List.length v + 1)))) u_o (List.length v + 1) + wv v) k_370)) (u_o + (List.length v)) (0 : UInt32)) + (UInt32.ofNat (cA (seg ((Qt u u_o (wsN (tkZ (seg u u_o (List.length v + 1)) ((q - 1) * wv v) (List.length v)) (List.length v + 1)))) u_o (List.length v + 1)) (wv v) k_370))) = Qt u u_o (wsN (seg u u_o (List.length v + 1) % wv v) (List.length v + 1)) from by ((obtain rfl := Nat.le_antisymm hk (by omega)); rw [hg, QbX (by omega) rfl]; exact Qgc (by omega) _ ((hB (by omega) (by first | exact Or.inl (by omega) | exact Or.inr (by omega)) (by omega)).over_mod (by assumption) _))) ▸ (Own.back o385 B9 u_d rfl (by decide) (by simp [Xa])))⟩, s9, B9.v⟩
 refine Qc rfl (dT9 hp5) ?_
 refine Qg (fun _ _ h => h) ?_
 refine Run.seq ?_
 refine Run.block ?_
 refine rsr ?_
 refine sv (Qa.move rfl) ?_
 have c372 := s357.trans s369
 have q373 := up c372 q351
 refine sv (Qs k_370 Try.underlying58 Qx rfl rfl (Qo.row q373) (by simp [nw]) (by omega) (by omega)) ?_
 have t374 := UInt32.toNat_lt (List.getD v k_370 (0 : UInt32))
 refine sv (Qy Qx rfl (Qo.row q373) (Jp u32 _ (0 : UInt32) (by omega))) ?_
 refine sv (Qa.assign rfl) ?_
 refine sv (Qa.assign rfl) ?_
 refine nsr ?_
 refine sv (Qa.move rfl) ?_
 refine sv (Qa.move rfl) ?_
 refine sv (Qa.move rfl) ?_
 refine sv (QO k_370 Try.underlying58 Qx rfl rfl (by omega) (by omega)) ?_
 have t375 := UInt32.toNat_lt (List.getD (Qt ((Qt u u_o (wsN (tkZ (seg u u_o (List.length v + 1)) ((q - 1) * wv v) (List.length v)) (List.length v + 1)))) u_o (wsN (seg ((Qt u u_o (wsN (tkZ (seg u u_o (List.length v + 1)) ((q - 1) * wv v) (List.length v)) (List.length v + 1)))) u_o (List.length v + 1) + wv v) k_370)) (u_o + k_370) (0 : UInt32))
 refine sv (Qf o371 Qx rfl (Zi u32 _ (0 : UInt32) (by (rw [QN (by rw [Qq]; omega)]; omega)))) ?_
 refine sv (QB Try.underlying167 Try.underlying62 rfl) ?_
 refine sv (Qa.move rfl) ?_
 refine sv (QB Try.underlying167 Try.underlying62 rfl) ?_
 refine sv (Jn rfl rfl (by omega)) ?_
 refine sv (Jn rfl rfl (by omega)) ?_
 refine sv (Qa.assign rfl) ?_
 refine nsr ?_
 refine sv (Qa.move rfl) ?_
 refine sv (Qa.move rfl) ?_
 refine sv (Qa.move rfl) ?_
 refine sv (QF Try.underlying62 Try.underlying167 rfl) ?_
 refine sv (QO k_370 Try.underlying58 Qx rfl rfl (by omega) (by omega)) ?_
 refine Q8 (k := 1) (j := (u_o + k_370)) (v := (UInt32.ofNat ((cA (seg ((Qt u u_o (wsN (tkZ (seg u u_o (List.length v + 1)) ((q - 1) * wv v) (List.length v)) (List.length v + 1)))) u_o (List.length v + 1)) (wv v) k_370) + (((List.getD (Qt ((Qt u u_o (wsN (tkZ (seg u u_o (List.length v + 1)) ((q - 1) * wv v) (List.length v)) (List.length v + 1)))) u_o (wsN (seg ((Qt u u_o (wsN (tkZ (seg u u_o (List.length v + 1)) ((q - 1) * wv v) (List.length v)) (List.length v + 1)))) u_o (List.length v + 1) + wv v) k_370)) (u_o + k_370) (0 : UInt32)).toNat) + ((List.getD v k_370 (0 : UInt32)).toNat))))) u32 hv368 o371 Qx rfl rfl (by (rw [QN (by rw [Qq]; omega)]; omega)) rfl rfl fun w376 o377 s378 h379 => ?_
 refine Seq.next ?_
 refine Run.region ?_
 refine sv (Qa.move rfl) ?_
 refine sv (Jr rfl rfl) ?_
 refine sv (Qa.assign rfl) ?_
 refine QH (fun _ _ h => h) ?_
 refine Run.region ?_
 refine sv (Qa.add rfl rfl (by omega)) ?_
 refine sv (Qa.move rfl) ?_
 have c380 := s369.trans s378
 exact Seq.nil (fun a381 h382 => ⟨_, by omega, _, h382.weaken (QG (l' := [(85, i64 (((k_370 + 1) : Nat) : Int)), (9, n64 (cA (seg ((Qt u u_o (wsN (tkZ (seg u u_o (List.length v + 1)) ((q - 1) * wv v) (List.length v)) (List.length v + 1)))) u_o (List.length v + 1)) (wv v) (k_370 + 1))), (0, .slice (some ⟨u_b, u_o, none⟩) u_n u_c), (4, .int .u32 0), (5, i64 ((List.length v : Nat) : Int)), (7, n64 ((q - 1) - 1)), (83, .slice A1 (List.length v) c2), (84, i64 ((List.length v : Nat) : Int))]) ⟨(congrArg (fun z => some (i64 z)) (show (((k_370 : Nat) : Int) + 1 : Int) = (((k_370 + 1) : Nat) : Int) from by rfl)), (congrArg (fun z => some (n64 z)) (show (((cA (seg ((Qt u u_o (wsN (tkZ (seg u u_o (List.length v + 1)) ((q - 1) * wv v) (List.length v)) (List.length v + 1)))) u_o (List.length v + 1)) (wv v) k_370) + (((List.getD (Qt ((Qt u u_o (wsN (tkZ (seg u u_o (List.length v + 1)) ((q - 1) * wv v) (List.length v)) (List.length v + 1)))) u_o (wsN (seg ((Qt u u_o (wsN (tkZ (seg u u_o (List.length v + 1)) ((q - 1) * wv v) (List.length v)) (List.length v + 1)))) u_o (List.length v + 1) + wv v) k_370)) (u_o + k_370) (0 : UInt32)).toNat) + ((List.getD v k_370 (0 : UInt32)).toNat))) / 4294967296 : Nat) = cA (seg ((Qt u u_o (wsN (tkZ (seg u u_o (List.length v + 1)) ((q - 1) * wv v) (List.length v)) (List.length v + 1)))) u_o (List.length v + 1)) (wv v) (k_370 + 1) from by (rw [hg]; exact (hs (by omega)).1))), rfl, rfl, rfl, rfl, rfl, rfl, trivial⟩), ⟨k_370 + 1, lab367, rfl, rfl, h379, (c380.more (by decide)), ((show List.set (Qt ((Qt u u_o (wsN (tkZ (seg u u_o (List.length v + 1)) ((q - 1) * wv v) (List.length v)) (List.length v + 1)))) u_o (wsN (seg ((Qt u u_o (wsN (tkZ (seg u u_o (List.length v + 1)) ((q - 1) * wv v) (List.length v)) (List.length v + 1)))) u_o (List.length v + 1) + wv v) k_370)) (u_o + k_370) (UInt32.ofNat ((cA (seg ((Qt u u_o (wsN (tkZ (seg u u_o (List.length v + 1)) ((q - 1) * wv v) (List.length v)) (List.length v + 1)))) u_o (List.length v + 1)) (wv v) k_370) + (((List.getD (Qt ((Qt u u_o (wsN (tkZ (seg u u_o (List.length v + 1)) ((q - 1) * wv v) (List.length v)) (List.length v + 1)))) u_o (wsN (seg ((Qt u u_o (wsN (tkZ (seg u u_o (List.length v + 1)) ((q - 1) * wv v) (List.length v)) (List.length v + 1)))) u_o (List.length v + 1) + wv v) k_370)) (u_o + k_370) (0 : UInt32)).toNat) + ((List.getD v k_370 (0 : UInt32)).toNat)))) = Qt ((Qt u u_o (wsN (tkZ (seg u u_o (List.length v + 1)) ((q - 1) * wv v) (List.length v)) (List.length v + 1)))) u_o (wsN (seg ((Qt u u_o (wsN (tkZ (seg u u_o (List.length v + 1)) ((q - 1) * wv v) (List.length v)) (List.length v + 1)))) u_o (List.length v + 1) + wv v) (k_370 + 1)) from by (rw [hg]; exact Qgb (by omega) (by omega) (hs (by omega)).2)) ▸ o377), (by omega)⟩⟩)
end Go.Proofs.Ytgfomedobfaidaa
end
section
set_option linter.unusedVariables false
set_option linter.unusedSimpArgs false
namespace Go.Proofs.Ytgfomedobfaidaa
open Go.RowKit
structure RG where
 s : Nat
 p : PV
 U : List Nat
 c : Option Nat
def rg : List RG → Nat → Option RG
 | [], _ => none
 | x :: _, 0 => some x
 | _ :: r, n + 1 => rg r n
def rgU (R : List RG) (i : Nat) : List Nat := match rg R i with
 | some x => x.U
 | none => []
def rgC (R : List RG) (i : Nat) : Option Nat := match rg R i with
 | some x => x.c
 | none => none
def rgS (R : List RG) (i : Nat) : Nat := match rg R i with
 | some x => x.s
 | none => 0
def rgP (R : List RG) (i : Nat) : VP := match rg R i with
 | some x => x.p.vp
 | none => fun _ _ _ => True
def UL (R : List RG) : List Nat := R.flatMap (·.U)
theorem Qe3 : ∀ {R : List RG} {j : Nat}, ∀ d ∈ rgU R j, d ∈ UL R
 | [], j, d, hd => by simp [rgU, rg] at hd
 | x :: r, 0, d, hd => by simp [rgU, rg] at hd; simp [UL, hd]
 | x :: r, j + 1, d, hd => by
  have := Qe3 (R := r) (j := j) d (by simpa [rgU, rg] using hd)
  simp only [UL, List.flatMap_cons, List.mem_append] at this ⊢
  exact .inr this
def oth : List (List Nat) → Nat → List Nat
 | [], _ => []
 | x :: _, 0 => x
 | _ :: r, n + 1 => oth r n
def Qdr (ops : Array Oper) (R : List RG) (O : List (List Nat)) : Bool := (List.range R.length).all fun i => (List.range R.length).all fun j => Nat.beq i j || Zc ops i j || (rgU R i).all (fun d => (oth O j).contains d)
theorem Qdq {ops : Array Oper} {R : List RG} {O : List (List Nat)} (h : Qdr ops R O = true) {i j : Nat} (hi : i < R.length) (hj : j < R.length) (hne : i ≠ j) (hw : ¬ Zc ops i j = true) : ∀ d ∈ rgU R i, d ∈ oth O j := by
 intro d hd
 have h1 := List.all_eq_true.1 (List.all_eq_true.1 h i (List.mem_range.2 hi)) j (List.mem_range.2 hj)
 rw [Bool.or_eq_true, Bool.or_eq_true] at h1
 rcases h1 with (h1 | h1) | h1
 ·exact absurd (Nat.eq_of_beq_eq_true h1) hne
 ·exact absurd h1 hw
 ·simpa using List.all_eq_true.1 h1 d hd
def Qf9 (ops : Array Oper) : Nat → (Nat → Bool) → Nat → Bool
 | 0, S => S
 | j + 1, S => Qf9 ops j (if S j then fun k => S k || Zc ops j k else S)
theorem Ky {ops : Array Oper} {L : Nat → Prop} (hd : ∀ j, L j → ∀ k, Zc ops j k = true → L k) : ∀ (n : Nat) (S : Nat → Bool), (∀ k, S k = true → L k) → ∀ k, Qf9 ops n S k = true → L k
 | 0, S, h, k, hk => h k hk
 | n + 1, S, h, k, hk => by
  refine Ky hd n _ ?_ k hk
  intro k hk
  split at hk
  ·rename_i hn
   rw [Bool.or_eq_true] at hk
   rcases hk with hk | hk
   ·exact h k hk
   ·exact hd n (h n hn) k hk
  ·exact h k hk
def Uo (ops : Array Oper) (l : List (Nat × Value)) (R : List RG) : Bool :=
  Nat.ble R.length ops.size &&
  ((List.range ops.size).all fun j => match ops[j]? with
    | some o => (o.after.all fun e => !Region.binds .any e || Nat.blt e.on j) &&
      (if j < R.length then (match o.dst with
          | some d => (lk l d).isNone && Nat.beq (rgS R j) d && ((List.range R.length).all fun k => Nat.beq k j || (!(Nat.beq (rgS R k) d) || Zc ops k j))
          | none => true)
       else if j = R.length then (List.range R.length).all fun k => Qf9 ops R.length (Zc ops j) k
       else Zc ops j (j - 1))
    | none => false)
structure ManyOk (ops : Array Oper) (l : List (Nat × Value)) (R : List RG) : Prop where
 le : R.length ≤ ops.size
 back : ∀ (j : Nat) (o : Oper), ops[j]? = some o → ∀ e ∈ o.after, Region.binds .any e = true → e.on < j
 fresh : ∀ (j : Nat) (o : Oper) (d : Nat), j < R.length → ops[j]? = some o → o.dst = some d → lk l d = none
 slot : ∀ (j : Nat) (o : Oper) (d : Nat), j < R.length → ops[j]? = some o → o.dst = some d → rgS R j = d
 once : ∀ (j k : Nat) (o : Oper) (d : Nat), j < R.length → k < R.length → k ≠ j → ops[j]? = some o → o.dst = some d → rgS R k = d → Zc ops k j = true
 atM : ∀ o, ops[R.length]? = some o → ∀ k, k < R.length → Qf9 ops R.length (Zc ops R.length) k = true
 chain : ∀ (j : Nat) (o : Oper), R.length < j → ops[j]? = some o → Zc ops j (j - 1) = true
theorem QbB {ops : Array Oper} {l : List (Nat × Value)} {R : List RG} (h : Uo ops l R = true) : ManyOk ops l R := by
  unfold Uo at h
  rw [Bool.and_eq_true, List.all_eq_true] at h
  obtain ⟨hm, h⟩ := h
  have key : ∀ (j : Nat) (o : Oper), ops[j]? = some o → (o.after.all fun e => !Region.binds .any e || Nat.blt e.on j) = true ∧
      (if j < R.length then (match o.dst with
          | some d => (lk l d).isNone && Nat.beq (rgS R j) d && ((List.range R.length).all fun k => Nat.beq k j || (!(Nat.beq (rgS R k) d) || Zc ops k j))
          | none => true)
       else if j = R.length then (List.range R.length).all fun k => Qf9 ops R.length (Zc ops j) k
       else Zc ops j (j - 1)) = true := by
    intro j o ho
    have hj : j < ops.size := (Array.getElem?_eq_some_iff.1 ho).1
    have := h j (List.mem_range.2 hj)
    simp only [ho, Bool.and_eq_true] at this
    exact this
  refine ⟨lB9 hm, ?_, ?_, ?_, ?_, ?_, ?_⟩
  · intro j o ho e he hb
    have := (Array.all_eq_true_iff_forall_mem.1 (key j o ho).1) e he
    simp only [hb, Bool.not_true, Bool.false_or] at this
    exact Nat.lt_of_not_le fun hle => by simp [Nat.blt] at this; omega
  · intro j o d hj ho hd
    have := (key j o ho).2
    rw [if_pos hj] at this
    simp only [hd, Bool.and_eq_true] at this
    simpa using this.1.1
  · intro j o d hj ho hd
    have := (key j o ho).2
    rw [if_pos hj] at this
    simp only [hd, Bool.and_eq_true] at this
    exact Nat.eq_of_beq_eq_true this.1.2
  · intro j k o d hj hk hne ho hd hs
    have := (key j o ho).2
    rw [if_pos hj] at this
    simp only [hd, Bool.and_eq_true, List.all_eq_true] at this
    have := this.2 k (List.mem_range.2 hk)
    rw [Bool.or_eq_true, Bool.or_eq_true] at this
    rcases this with h1 | h1 | h1
    · exact absurd (Nat.eq_of_beq_eq_true h1) hne
    · rw [hs] at h1; simp at h1
    · exact h1
  · intro o ho k hk
    have := (key _ o ho).2
    rw [if_neg (by omega), if_pos rfl, List.all_eq_true] at this
    exact this k (List.mem_range.2 hk)
  · intro j o hj ho
    have := (key j o ho).2
    rwa [if_neg (by omega), if_neg (by omega)] at this
section
variable {ds : List Deferred} {P : Program} {N : Nat} {ops : Array Oper} {Q : Exit → Act → World → Prop} {l : List (Nat × Value)} {w : World} {lab : Lab}
def KC (R : List RG) (j : Nat) (lab : Lab) (w : World) (a : Act) : Prop := ∃ v, a.tmps[rgS R j]? = some v ∧ rgP R j lab w v
def Qca (ds : List Deferred) (P : Program) (N : Nat) (ops : Array Oper) (Q : Exit → Act → World → Prop) (l : List (Nat × Value)) (Xl : Lab) (w0 : World) (R : List RG) (O : List (List Nat)) (i : Nat) : Prop :=
 ∀ lab w a, Ql lab w → Stp (oth O i) Xl w0 lab w → Fr ds N l a → (∀ j, Zc ops i j = true → (∀ c, rgC R j = some c → c = i ∨ Zc ops c i = true) → KC R j lab w a) →
  wpOp P ops Q i (fun a' w' => ∃ lab' v, (∀ o, ops[i]? = some o → a' = a.put o.dst v) ∧ (∀ d, Z3 ops i = some d → d < N) ∧ Ql lab' w' ∧ Stp (rgU R i) lab w lab' w' ∧ KC R i lab' w' a') a w
theorem Xt {ops : Array Oper} {i j : Nat} {o : Oper} (ho : ops[i]? = some o) : Zc ops i j = true ↔ ∃ e ∈ o.after, Region.binds .any e = true ∧ e.on = j := by
 unfold Zc
 simp only [ho, List.any_eq_true, Bool.and_eq_true]
 constructor
 ·rintro ⟨e, he, h1, h2⟩
  exact ⟨e, Array.mem_toList_iff.1 he, h1, Nat.eq_of_beq_eq_true h2⟩
 ·rintro ⟨e, he, h1, rfl⟩
  exact ⟨e, Array.mem_toList_iff.2 he, h1, by simp⟩
theorem Kl {R : List RG} (hok : ManyOk ops l R) : ∀ (fuel p : Nat) (listed : Array Bool) (a : Act) (w : World), R.length ≤ p → p ≤ ops.size → fuel + p = ops.size → listed.size = ops.size →
  (∀ k, listed.getD k false = true ↔ k < p) → wpList P ops Q (ops.toList.drop p) a w → wpAny P .any ops Q fuel listed a w
 | 0, p, listed, a, w, hm, hp, hf, hs, hl, h => by
  have hpn : p = ops.size := by omega
  subst hpn
  have hr : Region.ready .any ops listed = [] := List.eq_nil_iff_forall_not_mem.2 fun j hj => by
   obtain ⟨h0, o, ho, _⟩ := mem_ready.1 hj
   have hj' : j < ops.size := (Array.getElem?_eq_some_iff.1 ho).1
   have h1 := (hl j).2 hj'
   simp [show j < listed.size by omega] at h0 h1
   rw [h0] at h1; cases h1
  refine ⟨hr, ?_⟩
  rw [List.drop_of_length_le (by simp)] at h
  exact h
 | fuel + 1, p, listed, a, w, hm, hp, hf, hs, hl, h => by
  have hpn : p < ops.size := by omega
  have hop : ops[p]? = some ops[p] := Array.getElem?_eq_getElem hpn
  have hready : p ∈ Region.ready .any ops listed := by
   rw [mem_ready]
   refine ⟨?_, ops[p], hop, fun e he hb => (hl _).2 (hok.back p _ hop e he hb)⟩
   have h1 : ¬ listed.getD p false = true := fun e => Nat.lt_irrefl p ((hl p).1 e)
   simpa [show p < listed.size by omega] using h1
  refine ⟨fun h0 => (by rw [h0] at hready; cases hready), fun i hi => ?_⟩
  obtain ⟨hi0, o, ho, hall⟩ := mem_ready.1 hi
  have hip : i = p := by
   have h1 : ¬ i < p := fun h => by
    have := (hl i).2 h
    have hilt : i < ops.size := (Array.getElem?_eq_some_iff.1 ho).1
    simp [show i < listed.size by omega] at hi0 this
    rw [hi0] at this; cases this
   by_cases h2 : i = p
   ·exact h2
   ·exfalso
    obtain ⟨e, he, hb, hon⟩ := (Xt ho).1 (hok.chain i o (by omega) ho)
    have := (hl _).1 (hall e he hb)
    omega
  subst hip
  have hoe : o = ops[i] := by rw [hop] at ho; exact (Option.some.inj ho).symm
  have hdrop : ops.toList.drop i = ops[i] :: ops.toList.drop (i + 1) := by
   rw [List.drop_eq_getElem_cons (by simpa using hpn)]; simp
  rw [hdrop] at h
  unfold wpOp
  rw [hop]
  unfold wpList at h
  have next : ∀ a w, wpList P ops Q (ops.toList.drop (i + 1)) a w → wpAny P .any ops Q fuel (listed.setIfInBounds i true) a w := fun a w h' =>
   Kl hok fuel (i + 1) _ a w (by omega) (by omega) (by omega) (by simp [hs]) (fun k => by rw [Jm (by omega), hl]; omega) h'
  dsimp only
  split
  ·rename_i hw
   rw [if_pos hw] at h
   exact h.imp (Oper.wp_mono next) id
  ·rename_i hw
   rw [if_neg hw] at h
   exact next _ _ h
theorem QeY {R : List RG} {O : List (List Nat)} (hok : ManyOk ops l R) (hO : Qdr ops R O = true) {Xl : Lab} {w0 : World}
  (hper : ∀ j i, j < R.length → i ≠ j → rgC R j ≠ some i → ∀ {lab w lab' w' v}, Stp (rgU R i) lab w lab' w' → rgP R j lab w v → rgP R j lab' w' v)
  (hlaw : ∀ i, i < R.length → Qca ds P N ops Q l Xl w0 R O i)
  (htail : ∀ lab w a, Ql lab w → Stp (UL R) Xl w0 lab w → Fr ds N l a → (∀ i, i < R.length → (∀ c, rgC R i = some c → R.length ≤ c) → KC R i lab w a) → wpList P ops Q (ops.toList.drop R.length) a w) :
  ∀ (fuel c : Nat) (listed : Array Bool) (lab : Lab) (a : Act) (w : World), listed.size = ops.size → c ≤ R.length → c + fuel = ops.size → ((List.range R.length).filter fun k => listed.getD k false).length = c → (∀ k, listed.getD k false = true → k < R.length) →
   (∀ j, listed.getD j false = true → ∀ k, Zc ops j k = true → listed.getD k false = true) →
   Ql lab w → Stp (UL R) Xl w0 lab w → (∀ i, i < R.length → listed.getD i false = false → Stp (oth O i) Xl w0 lab w) → Fr ds N l a →
   (∀ i, i < R.length → listed.getD i false = true → (∀ c, rgC R i = some c → listed.getD c false = false) → KC R i lab w a) → wpAny P .any ops Q fuel listed a w := by
 have hfalse : ∀ {listed : Array Bool} {k : Nat}, ¬ listed.getD k false = true → listed.getD k false = false := fun {listed k} h => by
  cases hq : listed.getD k false with
  | false => rfl
  | true => exact absurd hq h
 intro fuel
 induction fuel with
 | zero =>
  intro c listed lab a w hs hc hf hcnt hlm hdn hv hst hsts hfr hleft
  have hmn : R.length = ops.size := by have := hok.le; omega
  have hall : ∀ k, k < R.length → listed.getD k false = true := by
   intro k hk
   have hlen : ((List.range R.length).filter fun k => listed.getD k false).length = (List.range R.length).length := by simp; simp at hcnt; omega
   have := List.length_filter_eq_length_iff.1 hlen k (List.mem_range.2 hk)
   simpa using this
  exact Kl hok 0 R.length listed a w (Nat.le_refl _) hok.le (by omega) hs (fun k => ⟨hlm k, hall k⟩) (htail lab w a hv hst hfr (fun i hi hcs => hleft i hi (hall i hi) fun c hc => hfalse fun e => by have := hlm c e; have := hcs c hc; omega))
 | succ fuel ih =>
  intro c listed lab a w hs hc hf hcnt hlm hdn hv hst hsts hfr hleft
  by_cases hall : ∀ k, k < R.length → listed.getD k false = true
  ·have hcm : c = R.length := by
    rw [← hcnt, List.filter_eq_self.2 (fun k hk => by simpa using hall k (List.mem_range.1 hk))]; simp
   exact Kl hok (fuel + 1) R.length listed a w (Nat.le_refl _) hok.le (by omega) hs (fun k => ⟨hlm k, hall k⟩) (htail lab w a hv hst hfr (fun i hi hcs => hleft i hi (hall i hi) fun c hc => hfalse fun e => by have := hlm c e; have := hcs c hc; omega))
  ·have hex : ∃ k, k < R.length ∧ ¬ listed.getD k false = true := by
    refine Classical.byContradiction fun hno => hall fun k hk => Classical.byContradiction fun hk' => hno ⟨k, hk, hk'⟩
   obtain ⟨k0, ⟨hk0, hk0'⟩, hmin⟩ := exists_least hex
   have hk0s : k0 < ops.size := Nat.lt_of_lt_of_le hk0 hok.le
   have hready : k0 ∈ Region.ready .any ops listed := by
    rw [mem_ready]
    refine ⟨by simpa [show k0 < listed.size by omega] using hk0', ops[k0], Array.getElem?_eq_getElem hk0s, fun e he hb => ?_⟩
    have hlt := hok.back k0 _ (Array.getElem?_eq_getElem hk0s) e he hb
    refine Classical.byContradiction fun hno => ?_
    have := hmin e.on ⟨by omega, hno⟩
    omega
   refine ⟨fun h0 => (by rw [h0] at hready; cases hready), fun i hi => ?_⟩
   obtain ⟨hi0, o, ho, hwait⟩ := mem_ready.1 hi
   have his : i < ops.size := (Array.getElem?_eq_some_iff.1 ho).1
   have him : i < R.length := by
    refine Classical.byContradiction fun hge => ?_
    by_cases hie : i = R.length
    ·subst hie
     have h1 := hok.atM o ho k0 hk0
     refine hk0' (Ky (L := fun k => listed.getD k false = true) hdn R.length _ (fun k hk => ?_) k0 h1)
     obtain ⟨e, he, hb, hon⟩ := (Xt ho).1 hk
     rw [← hon]; exact hwait e he hb
    ·obtain ⟨e, he, hb, hon⟩ := (Xt ho).1 (hok.chain i o (by omega) ho)
     have h1 := hlm _ (hwait e he hb)
     omega
   have hi0' : listed.getD i false = false := by simpa [show i < listed.size by omega] using hi0
   have hwi : ∀ j, Zc ops i j = true → listed.getD j false = true := fun j hj => by
    obtain ⟨e, he, hb, hon⟩ := (Xt ho).1 hj
    rw [← hon]; exact hwait e he hb
   have hwaits : ∀ j, Zc ops i j = true → (∀ c, rgC R j = some c → c = i ∨ Zc ops c i = true) → KC R j lab w a := fun j hj hcs => by
    have hjl := hwi j hj
    refine hleft j (hlm j hjl) hjl fun c hc => ?_
    rcases hcs c hc with rfl | hci
    ·exact hi0'
    ·exact hfalse fun e => by have := hdn c e i hci; rw [hi0'] at this; cases this
   refine wpOp_mono ?_ (hlaw i him lab w a hv (hsts i him hi0') hfr hwaits)
   rintro a' w' ⟨lab', v, hput, hdN, hv', hst', hphi⟩
   obtain rfl := hput o ho
   replace hdN : ∀ d, o.dst = some d → d < N := fun d hd => hdN d (by simp [Z3, ho, hd])
   have hfr' : Fr ds N l (a.put o.dst v) := by
    cases hd : o.dst with
    | none => exact hfr
    | some d =>
     refine ⟨hfr.defers, by simp [Act.put, hfr.size], fun t u hu => ?_⟩
     have hne : d ≠ t := fun e => by subst e; rw [hok.fresh i o d him ho hd] at hu; cases hu
     simp only [Act.put, Array.getElem?_setIfInBounds_ne hne]
     exact hfr.at_ t u hu
   refine ih (c + 1) _ lab' _ w' (by simp [hs]) ?_ (by omega) ?_ (fun k hk => by rw [Jm (by omega)] at hk; rcases hk with rfl | hk; exact him; exact hlm k hk) (fun j hj k hk => ?_) hv' ((hst.trans hst').more (fun d hd => by rcases List.mem_append.1 hd with h | h; exact h; exact Qe3 d h)) (fun j hj hjl => ?_) hfr' ?_
   ·have : ((List.range R.length).filter fun k => listed.getD k false).length < (List.range R.length).length := by
     refine Nat.lt_of_le_of_ne (List.length_filter_le _ _) fun e => ?_
     have := List.length_filter_eq_length_iff.1 e k0 (List.mem_range.2 hk0)
     exact hk0' (by simpa using this)
    rw [hcnt] at this; simp at this; omega
   ·have hcount : ∀ n, n ≤ R.length → ((List.range n).filter fun k => (listed.setIfInBounds i true).getD k false).length = ((List.range n).filter fun k => listed.getD k false).length + (if i < n then 1 else 0) := by
     intro n
     induction n with
     | zero => intro _; simp
     | succ n ihn =>
      intro hn
      rw [List.range_succ, List.filter_append, List.filter_append, List.length_append, List.length_append, ihn (by omega)]
      have h1 : (listed.setIfInBounds i true).getD n false = (if n = i then true else listed.getD n false) := by
       rw [Bool.eq_iff_iff, Jm (by omega)]
       split <;> simp_all
      by_cases hni : n = i
      ·subst hni
       simp only [List.filter_cons, h1, if_true, hi0', List.filter_nil, Bool.false_eq_true, if_false, List.length_cons, List.length_nil]
       rw [if_neg (by omega), if_pos (by omega)]
      ·rw [List.filter_cons, List.filter_cons, h1, if_neg hni]
       have h2 : (if i < n + 1 then 1 else 0) = (if i < n then 1 else 0) := by split <;> split <;> omega
       rw [h2]
       split <;> simp <;> omega
    rw [hcount R.length (Nat.le_refl _), if_pos him, hcnt]
   ·rw [Jm (by omega)] at hj ⊢
    rcases hj with rfl | hj
    ·exact .inr (hwi k hk)
    ·exact .inr (hdn j hj k hk)
   ·have hne : j ≠ i := fun e => by
     have := (Jm (l := listed) (i := i) (j := j) (by omega)).2 (.inl e)
     rw [hjl] at this; cases this
    have hj0 : listed.getD j false = false := hfalse fun e => by
     have := (Jm (l := listed) (i := i) (j := j) (by omega)).2 (.inr e)
     rw [hjl] at this; cases this
    exact ((hsts j hj hj0).trans hst').more (fun d hd => by rcases List.mem_append.1 hd with h | h; exact h; exact Qdq hO him hj hne.symm (fun hw => by have := hwi j hw; rw [hj0] at this; cases this) d h)
   ·intro j hj hlj hcs
    rw [Jm (by omega)] at hlj
    by_cases hji : j = i
    ·subst hji; exact hphi
    ·have hjl := hlj.resolve_left hji
     obtain ⟨u, hu, hpj⟩ := hleft j hj hjl fun c hc => hfalse fun e => by
      have := (Jm (l := listed) (i := i) (j := c) (by omega)).2 (.inr e)
      rw [hcs c hc] at this; cases this
     have hci : rgC R j ≠ some i := fun e => by
      have := hcs i e
      rw [(Jm (l := listed) (i := i) (j := i) (by omega)).2 (.inl rfl)] at this; cases this
     refine ⟨u, ?_, hper j i hj (fun e => hji e.symm) hci hst' hpj⟩
     cases hdi : o.dst with
     | none => exact hu
     | some di =>
      have hne : di ≠ rgS R j := fun e => by
       have := hdn j hjl i (hok.once i j o di him hj hji ho hdi e.symm)
       rw [hi0'] at this; cases this
      simp only [Act.put, Array.getElem?_setIfInBounds_ne hne]
      exact hu
theorem QgJ {R : List RG} {O : List (List Nat)} (hok : Uo ops l R = true) (hO : Qdr ops R O = true) (hv : Ql lab w)
  (hper : ∀ j i, j < R.length → i ≠ j → rgC R j ≠ some i → ∀ {lab w lab' w' v}, Stp (rgU R i) lab w lab' w' → rgP R j lab w v → rgP R j lab' w' v)
  (hlaw : ∀ w0, Stp [] lab w lab w0 → ∀ i, i < R.length → Qca ds P N ops Q l lab w0 R O i)
  (htail : ∀ lab' w' a, Ql lab' w' → Stp (UL R) lab w lab' w' → Fr ds N l a → (∀ i, i < R.length → (∀ c, rgC R i = some c → R.length ≤ c) → KC R i lab' w' a) → wpList P ops Q (ops.toList.drop R.length) a w') :
  ∀ a, Fr ds N l a → wpAny P .any ops Q ops.size (Array.replicate ops.size false) a { w with drawn := w.drawn + 1 } := by
 intro a ha
 have h0 : ∀ k, (Array.replicate ops.size false).getD k false = false := fun k => by
  simp [Array.getElem?_replicate]
  split <;> simp
 have hst : Stp [] lab w lab { w with drawn := w.drawn + 1 } := Stp.drew lab w
 refine QeY (QbB hok) hO hper (hlaw _ hst) (fun lab' w' a hv' hs' hf' hl' => htail lab' w' a hv' (hst.trans hs') hf' hl') ops.size 0 _ lab a _ (by simp) (Nat.zero_le _) (by omega) ?_ (fun k hk => by rw [h0] at hk; cases hk) (fun k hk => by rw [h0] at hk; cases hk) (hv.below (Nat.le_refl _)) ((Stp.refl _ _).more (by simp)) (fun _ _ _ => (Stp.refl _ _).more (by simp)) ha (fun i _ hi => by rw [h0] at hi; cases hi)
 simp [h0]
def KK (R : List RG) (lab : Lab) (w : World) (K : List (Nat × Value) → Prop) : List Nat → List (Nat × Value) → Prop
 | [], l => K l
 | j :: r, l => match rg R j with
  | some ⟨s, .ex u, _, _⟩ => KK R lab w K r ((s, u) :: l)
  | some ⟨s, .v V, _, _⟩ => ∀ v, V lab w v → KK R lab w K r ((s, v) :: l)
  | none => ∀ v, KK R lab w K r ((0, v) :: l)
theorem KK.elim {R : List RG} {lab : Lab} {w : World} {K : List (Nat × Value) → Prop} {a : Act} : ∀ {us : List Nat} {l : List (Nat × Value)}, KK R lab w K us l → Fr ds N l a → (∀ j, j ∈ us → KC R j lab w a) → ∃ l', Fr ds N l' a ∧ K l'
 | [], l, h, hf, _ => ⟨l, hf, h⟩
 | j :: r, l, h, hf, hl => by
  obtain ⟨v, hv, hp⟩ := hl j (by simp)
  have hr : ∀ j, j ∈ r → KC R j lab w a := fun j hm => hl j (List.mem_cons_of_mem _ hm)
  unfold KK at h
  unfold rgP at hp
  unfold rgS at hv
  split at h
  ·rename_i s u U c hn
   rw [hn] at hp hv
   have : v = u := hp
   subst this
   exact KK.elim h (hf.ext hv) hr
  ·rename_i s V U c hn
   rw [hn] at hp hv
   exact KK.elim (h v hp) (hf.ext hv) hr
  ·rename_i hn
   rw [hn] at hv
   exact KK.elim (h v) (hf.ext hv) hr
def Uu (ops : Array Oper) (R : List RG) (i : Nat) (deps : List Nat) : Bool := deps.all fun j => Zc ops i j && (match rgC R j with | none => true | some c => Nat.beq c i || Zc ops c i)
def QhZ (R : List RG) (us : List Nat) : Bool := us.all fun j => Nat.blt j R.length && (match rgC R j with | none => true | some c => Nat.ble R.length c)
theorem Qkn {R : List RG} {i : Nat} {deps : List Nat} (hdep : Uu ops R i deps = true) {lab : Lab} {w : World} {a : Act} (hl : ∀ j, Zc ops i j = true → (∀ c, rgC R j = some c → c = i ∨ Zc ops c i = true) → KC R j lab w a) : ∀ j, j ∈ deps → KC R j lab w a := fun j hm => by
 have h1 := List.all_eq_true.1 hdep _ hm
 simp only [Bool.and_eq_true] at h1
 refine hl j h1.1 fun c hc => ?_
 have h2 := h1.2
 rw [hc] at h2
 simp only [Bool.or_eq_true] at h2
 exact h2.imp Nat.eq_of_beq_eq_true id
def OpR (ds : List Deferred) (P : Program) (N : Nat) (ops : Array Oper) (Q : Exit → Act → World → Prop) (l : List (Nat × Value)) (lab : Lab) (w : World) (R : List RG) (O : List (List Nat)) (i : Nat) : Prop := ∀ w0, Stp [] lab w lab w0 → Qca ds P N ops Q l lab w0 R O i
def Qgd (R : List RG) : Nat → List RG → Prop
 | _, [] => True
 | j, x :: r => (∀ i, i ≠ j → x.c ≠ some i → ∀ {lab : Lab} {w : World} {lab' : Lab} {w' : World} {v : Value}, Stp (rgU R i) lab w lab' w' → x.p.vp lab w v → x.p.vp lab' w' v) ∧ Qgd R (j + 1) r
theorem QjK {R : List RG} : ∀ {R' : List RG} {k : Nat}, Qgd R k R' → ∀ j i, j < R'.length → i ≠ k + j → rgC R' j ≠ some i → ∀ {lab w lab' w' v}, Stp (rgU R i) lab w lab' w' → rgP R' j lab w v → rgP R' j lab' w' v
 | [], k, _, j, i, hj, _, _, _, _, _, _, _, _, _ => absurd hj (by simp)
 | x :: r, k, h, 0, i, _, hi, hc, _, _, _, _, _, s, q => h.1 i hi hc s q
 | x :: r, k, h, j + 1, i, hj, hi, hc, _, _, _, _, _, s, q => QjK (R' := r) (k := k + 1) h.2 j i (by simpa using hj) (by omega) hc s q
theorem QK {R : List RG} {j s : Nat} {u : Value} {U : List Nat} {c : Option Nat} : ∀ i, i ≠ j → (RG.mk s (.ex u) U c).c ≠ some i → ∀ {lab : Lab} {w : World} {lab' : Lab} {w' : World} {v : Value}, Stp (rgU R i) lab w lab' w' → (RG.mk s (.ex u) U c).p.vp lab w v → (RG.mk s (.ex u) U c).p.vp lab' w' v := fun _ _ _ _ _ _ _ _ _ q => q
theorem J5 {R : List RG} {j s : Nat} {V : VP} [h : Per V] {U : List Nat} {c : Option Nat} : ∀ i, i ≠ j → (RG.mk s (.v V) U c).c ≠ some i → ∀ {lab : Lab} {w : World} {lab' : Lab} {w' : World} {v : Value}, Stp (rgU R i) lab w lab' w' → (RG.mk s (.v V) U c).p.vp lab w v → (RG.mk s (.v V) U c).p.vp lab' w' v := fun _ _ _ _ _ _ _ _ st q => h.p.step st q
def QcX (k : Nat) (t : TypeId) (V : VP) : VP := fun lab w v => ∃ b u, v = .pointer (some ⟨b, 0, none⟩) ∧ Own lab w k b t (Value.cells u) ∧ V lab w u
def Qa8 (R : List RG) (j : Nat) (c : Option Nat) (k : Nat) : Bool := (List.range R.length).all fun i => Nat.beq i j || (match c with | some c => Nat.beq c i | none => false) || !((rgU R i).contains k)
theorem YQ {R : List RG} {j : Nat} {c : Option Nat} {k : Nat} (h : Qa8 R j c k = true) (i : Nat) (hi : i ≠ j) (hc : c ≠ some i) : k ∉ rgU R i := by
 intro hk
 have hil : i < R.length := by
  refine Classical.byContradiction fun hge => ?_
  have : ∀ {R : List RG} {i : Nat}, R.length ≤ i → rg R i = none := by
   intro R
   induction R with
   | nil => intro i _; rfl
   | cons x r ih =>
    intro i h
    cases i with
    | zero => simp at h
    | succ i => simp only [rg]; exact ih (by simpa using h)
  unfold rgU at hk
  rw [this (by omega)] at hk
  cases hk
 have := List.all_eq_true.1 h i (List.mem_range.2 hil)
 rw [Bool.or_eq_true, Bool.or_eq_true] at this
 rcases this with (h1 | h1) | h1
 ·exact hi (Nat.eq_of_beq_eq_true h1)
 ·cases c with
  | none => cases h1
  | some c => exact hc (by rw [Nat.eq_of_beq_eq_true h1])
 ·simp at h1; exact h1 hk
theorem ZI {R : List RG} {j s k : Nat} {t : TypeId} {V : VP} [h : Per V] {U : List Nat} {c : Option Nat} (hn : Qa8 R j c k = true) : ∀ i, i ≠ j → (RG.mk s (.v (QcX k t V)) U c).c ≠ some i → ∀ {lab : Lab} {w : World} {lab' : Lab} {w' : World} {v : Value}, Stp (rgU R i) lab w lab' w' → (RG.mk s (.v (QcX k t V)) U c).p.vp lab w v → (RG.mk s (.v (QcX k t V)) U c).p.vp lab' w' v :=
 fun i hi hc _ _ _ _ _ st ⟨b, u, h1, h2, h3⟩ => ⟨b, u, h1, h2.lift st (YQ hn i hi hc), h.p.step st h3⟩
theorem Qgt {R : List RG} {j s k n : Nat} {t : TypeId} {cs : List Value} {U : List Nat} {c : Option Nat} (hn : Qa8 R j c k = true) : ∀ i, i ≠ j → (RG.mk s (.v (QkP k t n cs)) U c).c ≠ some i → ∀ {lab : Lab} {w : World} {lab' : Lab} {w' : World} {v : Value}, Stp (rgU R i) lab w lab' w' → (RG.mk s (.v (QkP k t n cs)) U c).p.vp lab w v → (RG.mk s (.v (QkP k t n cs)) U c).p.vp lab' w' v :=
 fun i hi hc _ _ _ _ _ st h => App.lift h st (YQ hn i hi hc)
theorem Kh (R : List RG) (us : List Nat) (O : List (List Nat)) (hok : Uo ops l R = true) (hO : Qdr ops R O = true) (hus : QhZ R us = true) (hv : Ql lab w) (hper : Qgd R 0 R)
  (hlaw : Yw (fun i => OpR ds P N ops Q l lab w R O i) 0 R.length)
  (htail : ∀ lab' w', Ql lab' w' → Stp (UL R) lab w lab' w' → KK R lab' w' (fun l' => Seq ds P N ops Q l' (ops.toList.drop R.length) w') us l) : ∀ a, Fr ds N l a → wpAny P .any ops Q ops.size (Array.replicate ops.size false) a { w with drawn := w.drawn + 1 } := fun a ha =>
 QgJ hok hO hv (fun j i hj hi hc {_ _ _ _ _} st q => QjK hper j i hj (by omega) hc st q) (fun w0 s0 i hi => QkT hlaw i hi w0 s0) (fun lab' w' a hv' s hf hl => by
  obtain ⟨l', hf', hK⟩ := KK.elim (htail lab' w' hv' s) hf fun j hm => by
   have h1 := List.all_eq_true.1 hus _ hm
   simp only [Bool.and_eq_true] at h1
   refine hl j (lB9 h1.1) fun c hc => ?_
   have h2 := h1.2
   rw [hc] at h2
   exact lB9 h2
  exact hK a hf') a ha
theorem Zw {id : Nat} (R : List RG) (us : List Nat) (O : List (List Nat)) (hm : P.follows .mixedOrders = true) (hok : Uo ops l R = true) (hO : Qdr ops R O = true) (hus : QhZ R us = true) (hv : Ql lab w) (hper : Qgd R 0 R)
  (hlaw : Yw (fun i => OpR ds P N ops Q l lab w R O i) 0 R.length)
  (htail : ∀ lab' w', Ql lab' w' → Stp (UL R) lab w lab' w' → KK R lab' w' (fun l' => Seq ds P N ops Q l' (ops.toList.drop R.length) w') us l) : Run ds P N Q (.region id ops true) l w := fun a ha => wp_region_any hm (Kh R us O hok hO hus hv hper hlaw htail a ha)
variable {R : List RG} {O : List (List Nat)} {i d : Nat} {op : Op} {ty : TypeId} {pos : String} {af : Array Edge}
theorem XY {x : RG} (hx : rg R i = some x) {lab' : Lab} {w' : World} {a : Act} {v : Value} (hs : x.s = d) (hd : d < N) (ha : Fr ds N l a) (hp : x.p.vp lab' w' v) : KC R i lab' w' (a.put (some d) v) :=
 ⟨v, by unfold rgS; rw [hx]; show (a.tmps.setIfInBounds d v)[x.s]? = _; rw [hs]; have := ha.size; simp [this, hd], by unfold rgP; rw [hx]; exact hp⟩
theorem rN (deps : List Nat) {x : RG} (ho : ops[i]? = some ⟨some d, op, ty, pos, af, none⟩) (hdep : Uu ops R i deps = true) (hx : rg R i = some x) (hs : x.s = d)
  (h : ∀ lab' w', Ql lab' w' → Stp (oth O i) lab w lab' w' → KK R lab' w' (fun l' => ∃ v lab2 w2, Qa P l' op ty w' v w2 ∧ Ql lab2 w2 ∧ Stp x.U lab' w' lab2 w2 ∧ x.p.vp lab2 w2 v) deps l) (hd : d < N := by decide) : OpR ds P N ops Q l lab w R O i := fun w0 s0 lab' w' a hv st hf hl => by
 obtain ⟨l', hf', v, lab2, w2, h1, h2, h3, h4⟩ := KK.elim (h lab' w' hv ((s0.trans st).more (by simp))) hf (Qkn hdep hl)
 unfold wpOp
 simp only [ho]
 rw [if_pos (by simp [Region.wanted])]
 refine .inl ?_
 unfold Oper.wp
 rw [h1 a.eval (fun x u hu => hf'.eval hu)]
 exact ⟨lab2, v, fun o h => by cases h; rfl, fun d' h => by simp [Z3, ho] at h; subst h; exact hd, h2, by unfold rgU; rw [hx]; exact h3, XY hx hs hd hf h4⟩
theorem rP (deps : List Nat) {x : RG} (ho : ops[i]? = some ⟨some d, op, ty, pos, af, none⟩) (hdep : Uu ops R i deps = true) (hx : rg R i = some x) (hs : x.s = d)
  (h : ∀ lab' w', Ql lab' w' → Stp (oth O i) lab w lab' w' → KK R lab' w' (fun l' => ∃ v, Qa P l' op ty w' v w' ∧ x.p.vp lab' w' v) deps l) (hd : d < N := by decide) : OpR ds P N ops Q l lab w R O i := fun w0 s0 lab' w' a hv st hf hl => by
 obtain ⟨l', hf', v, h1, h4⟩ := KK.elim (h lab' w' hv ((s0.trans st).more (by simp))) hf (Qkn hdep hl)
 unfold wpOp
 simp only [ho]
 rw [if_pos (by simp [Region.wanted])]
 refine .inl ?_
 unfold Oper.wp
 rw [h1 a.eval (fun x u hu => hf'.eval hu)]
 exact ⟨lab', v, fun o h => by cases h; rfl, fun d' h => by simp [Z3, ho] at h; subst h; exact hd, hv, (Stp.refl _ _).more (by simp), XY hx hs hd hf h4⟩
theorem rX (deps : List Nat) {s : Nat} {u : Value} {U : List Nat} {c : Option Nat} (ho : ops[i]? = some ⟨some d, op, ty, pos, af, none⟩) (hdep : Uu ops R i deps = true) (hx : rg R i = some ⟨s, .ex u, U, c⟩) (hs : s = d)
  (h : ∀ lab' w', KK R lab' w' (fun l' => Qa P l' op ty w' u w') deps l) (hd : d < N := by decide) : OpR ds P N ops Q l lab w R O i := fun w0 s0 lab' w' a hv st hf hl => by
 obtain ⟨l', hf', h1⟩ := KK.elim (h lab' w') hf (Qkn hdep hl)
 unfold wpOp
 simp only [ho]
 rw [if_pos (by simp [Region.wanted])]
 refine .inl ?_
 unfold Oper.wp
 rw [h1 a.eval (fun x u hu => hf'.eval hu)]
 exact ⟨lab', u, fun o h => by cases h; rfl, fun d' h => by simp [Z3, ho] at h; subst h; exact hd, hv, (Stp.refl _ _).more (by simp), XY (x := ⟨s, .ex u, U, c⟩) hx hs hd hf rfl⟩
theorem rC {f : Nat} {xs : List Operand} {tys : Array TypeId} (deps : List Nat) {x : RG} (ho : ops[i]? = some ⟨some d, .call ⟨.value (.func f), xs.toArray, tys⟩, ty, pos, af, none⟩) (hdep : Uu ops R i deps = true) (hx : rg R i = some x) (hs : x.s = d) (hfc : Qw P f)
  (h : ∀ lab' w', Ql lab' w' → Stp (oth O i) lab w lab' w' → KK R lab' w' (fun l' => ∃ vs, evs l' xs = some vs ∧ Calls P f vs.toArray w' (fun e w2 => ∃ v, e = .returned v ∧ x.p.vp lab' w2 v ∧ Below w'.heap.size w' w2)) deps l) (hd : d < N := by decide) : OpR ds P N ops Q l lab w R O i := fun w0 s0 lab' w' a hv st hf hl => by
 obtain ⟨l', hf', vs, h1, h4⟩ := KK.elim (h lab' w' hv ((s0.trans st).more (by simp))) hf (Qkn hdep hl)
 unfold wpOp
 simp only [ho]
 rw [if_pos (by simp [Region.wanted])]
 refine .inl ?_
 unfold Oper.wp
 rw [XS hfc h1 w' a.eval (fun x u hu => hf'.eval hu)]
 refine Calls.mono h4 ?_
 rintro e w2 ⟨v, rfl, hphi, hb⟩
 exact ⟨lab', v, fun o h => by cases h; rfl, fun d' h => by simp [Z3, ho] at h; subst h; exact hd, hv.below hb.size, (Stp.below hb).more (by simp), XY hx hs hd hf hphi⟩
theorem rS (deps : List Nat) {x : RG} (ho : ops[i]? = some ⟨none, op, ty, pos, af, none⟩) (hdep : Uu ops R i deps = true) (hx : rg R i = some x)
  (h : ∀ lab' w', Ql lab' w' → Stp (oth O i) lab w lab' w' → KK R lab' w' (fun l' => ∃ v w2, Qgf P l' op ty w' w2 ∧ Ql lab' w2 ∧ Stp x.U lab' w' lab' w2 ∧ ev l' (.tmp x.s) = some v ∧ x.p.vp lab' w2 v) deps l) : OpR ds P N ops Q l lab w R O i := fun w0 s0 lab' w' a hv st hf hl => by
 obtain ⟨l', hf', v, w2, h1, h2, h3, h4, h5⟩ := KK.elim (h lab' w' hv ((s0.trans st).more (by simp))) hf (Qkn hdep hl)
 unfold wpOp
 simp only [ho]
 rw [if_pos (by simp [Region.wanted])]
 refine .inl ?_
 unfold Oper.wp
 rw [h1 a.eval (fun x u hu => hf'.eval hu)]
 exact ⟨lab', undef, fun o h => by cases h; rfl, fun d' h => by simp [Z3, ho] at h, h2, by unfold rgU; rw [hx]; exact h3, v, by unfold rgS; rw [hx]; exact hf'.at_ _ _ h4, by unfold rgP; rw [hx]; exact h5⟩
theorem Qda {k b o : Nat} {t t' : TypeId} {x y : Operand} {v : Value} {ag : Bool} {n by_ : Nat} {z : Option Value} {arr : Array Value} (arr' : List Value) (hv : Ql lab w) (hO : Own lab w k b t' arr) (ht : QT P t = some (ag, n, z, by_)) (hx : ev l x = some (.pointer (some ⟨b, o, none⟩))) (hy : ev l y = some v)
  (hn : v.cells.size = n) (ho : o + n ≤ arr.size) (h1 : v.cells.toList.all (·.oneCell') = true) (ha : (arr.toList.take o ++ v.cells.toList ++ arr.toList.drop (o + n)).toArray = arr'.toArray) : ∃ w2, Qgf P l (.store t x y) ty w w2 ∧ Ql lab w2 ∧ Stp [k] lab w lab w2 ∧ Own lab w2 k b t' arr'.toArray :=
 ⟨_, Qa.store arr'.toArray hO ht hx hy hn ho h1 ha, hv.set _ _, Stp.set hO.1 _, hO.set _⟩
theorem Z2 {s k b o : Nat} {t t' : TypeId} {y : Operand} {v : Value} {ag : Bool} {n by_ : Nat} {z : Option Value} {arr : Array Value} {V : VP} (arr' : List Value) (hv : Ql lab w) (hO : Own lab w k b t' arr) (ht : QT P t = some (ag, n, z, by_)) (hx : ev l (.tmp s) = some (.pointer (some ⟨b, o, none⟩))) (hy : ev l y = some v)
  (hn : v.cells.size = n) (ho : o + n ≤ arr.size) (h1 : v.cells.toList.all (·.oneCell') = true) (ha : (arr.toList.take o ++ v.cells.toList ++ arr.toList.drop (o + n)).toArray = arr'.toArray)
  (hk : ∀ w2, Stp [k] lab w lab w2 → Own lab w2 k b t' arr'.toArray → V lab w2 (.pointer (some ⟨b, o, none⟩))) : ∃ u w2, Qgf P l (.store t (.tmp s) y) ty w w2 ∧ Ql lab w2 ∧ Stp [k] lab w lab w2 ∧ ev l (.tmp s) = some u ∧ V lab w2 u := by
 obtain ⟨w2, h1', h2', h3', h4'⟩ := Qda (P := P) (ty := ty) arr' hv hO ht hx hy hn ho h1 ha
 exact ⟨_, w2, h1', h2', h3', hx, hk w2 h3' h4'⟩
def QhT (b k : Nat) (t : TypeId) (V : VP) : VP := fun lab w v => ∃ u, v = .pointer (some ⟨b, 0, none⟩) ∧ Own lab w k b t (Value.cells u) ∧ V lab w u
theorem Xd {R : List RG} {j s k b : Nat} {t : TypeId} {V : VP} [h : Per V] {U : List Nat} {c : Option Nat} (hn : Qa8 R j c k = true) : ∀ i, i ≠ j → (RG.mk s (.v (QhT b k t V)) U c).c ≠ some i → ∀ {lab : Lab} {w : World} {lab' : Lab} {w' : World} {v : Value}, Stp (rgU R i) lab w lab' w' → (RG.mk s (.v (QhT b k t V)) U c).p.vp lab w v → (RG.mk s (.v (QhT b k t V)) U c).p.vp lab' w' v :=
 fun i hi hc _ _ _ _ _ st ⟨u, h1, h2, h3⟩ => ⟨u, h1, h2.lift st (YQ hn i hi hc), h.p.step st h3⟩
end
end Go.Proofs.Ytgfomedobfaidaa
end
section
set_option linter.unusedVariables false
set_option linter.unusedSimpArgs false
namespace Go.Proofs.Ytgfomedobfaidaa
open Go.RowKit Go.Shelf
section
variable {l n : Nat} {P : Program} {Q : Exit → Act → World → Prop} {ops : Array Oper}
theorem Qdl {row : String} {args : Array Value} {w : World} {R : Value → World → Prop} (h : Rows P row args w R) : RowsIn (Fence.wide.inRound l) n P row args w R := fun c cs _ =>
 let ⟨v, w', r, s⟩ := h c cs
 ⟨v, w', r, stepsIn_wide.2 s⟩
theorem Qcz {o : Oper} {a : Act} {w : World} {K : Act → World → Prop} (hd : ∀ c, o.op ≠ .defer c) (h : o.wp P a w K Q) : o.wpIn (Fence.wide.inRound l) n P a w K Q := by
 refine ⟨fun f _ => trivial, ?_⟩
 show o.uponIn (Fence.wide.inRound l) n P a K Q ((o.semAt (some l) a.eval).run P w)
 rw [Oper.semAt_some l _ _ hd]
 unfold Oper.wp at h
 generalize (execOp a.eval o).run P w = r at h ⊢
 cases r with
 | ok nx w' =>
  cases nx with
  | value v => exact h
  | skip => exact h
  | defer d => exact h
  | enter f args => exact ⟨fun hh => absurd hh (by simp [Fence.wide]), (callsIn_wide (n := n - 1)).2 h⟩
  | row r args => exact ⟨fun hh => absurd hh (by simp [Fence.wide]), Qdl h⟩
  | round _ _ _ _ _ => exact h.elim
  | _ => exact h.elim
 | halt x w' =>
  cases x <;> first | exact h | exact h.elim
def QhA (ops : List Oper) : Bool := ops.all fun o => match o.op with
 | .defer _ => false
 | _ => true
theorem QfC {o : Oper} {os : List Oper} (h : QhA os = true) (ho : o ∈ os) : ∀ c, o.op ≠ .defer c := fun c e => by
 have := List.all_eq_true.1 h o ho
 rw [e] at this; cases this
theorem Xx (hlo : ¬ LetsOut Q) : ∀ {rest : List Oper} {a : Act} {w : World}, QhA rest = true → wpList P ops Q rest a w → wpListIn (Fence.wide.inRound l) n P ops Q rest a w
 | [], a, w, _, h => h
 | o :: rest, a, w, hc, h => by
  have hc' : QhA rest = true := by
   unfold QhA at hc ⊢; rw [List.all_cons, Bool.and_eq_true] at hc; exact hc.2
  unfold wpList at h
  unfold wpListIn
  split
  ·rename_i hw
   rw [if_pos hw] at h
   exact Qcz (QfC hc (by simp)) (Oper.wp_mono (fun a w h => Xx hlo hc' h) (h.resolve_right fun e => hlo e.2))
  ·rename_i hw
   rw [if_neg hw] at h
   exact ⟨fun f _ => trivial, Xx hlo hc' h⟩
theorem Xn (hlo : ¬ LetsOut Q) (hc : QhA ops.toList = true) : ∀ {fuel : Nat} {listed : Array Bool} {a : Act} {w : World}, wpAny P .any ops Q fuel listed a w → wpAnyIn (Fence.wide.inRound l) n P .any ops Q fuel listed a w
 | 0, listed, a, w, h => h
 | fuel + 1, listed, a, w, h => by
  refine ⟨h.1, fun i hi => ?_⟩
  have := h.2 i hi
  unfold wpOp at this
  unfold wpOpIn
  split
  ·rename_i ho
   rw [ho] at this
   exact Xn hlo hc this
  ·rename_i o ho
   rw [ho] at this
   dsimp only at this
   split
   ·rename_i hw
    rw [if_pos hw] at this
    exact Qcz (QfC hc (by rw [Array.mem_toList_iff]; exact Array.mem_of_getElem? ho)) (Oper.wp_mono (fun a w h => Xn hlo hc h) (this.resolve_right fun e => hlo e.2))
   ·rename_i hw
    rw [if_neg hw] at this
    exact ⟨fun f _ => trivial, Xn hlo hc this⟩
end
def K9 (l : Nat) (P : Program) (N : Nat) (Q : Exit → Act → World → Prop) (c : Code) (lst : List (Nat × Value)) (w : World) : Prop := ∀ a, Fr [] N lst a → c.wpIn (Fence.wide.inRound l) 1 P Q a w
section
variable {l : Nat} {P : Program} {N : Nat} {Q : Exit → Act → World → Prop} {lst : List (Nat × Value)} {w : World} {lab : Lab} {ops : Array Oper}
theorem K9.seq {x y : Code} (h : K9 l P N (Exit.then (y.wpIn (Fence.wide.inRound l) 1 P Q) Q) x lst w) : K9 l P N Q (.seq x y) lst w := fun a ha => wpIn_seq (h a ha)
theorem K9.block {id : Nat} {c : Code} (h : K9 l P N (Exit.inBlock id Q) c lst w) : K9 l P N Q (.block id c) lst w := fun a ha => wpIn_block (h a ha)
theorem K9.region {id : Nat} {os : List Oper} (hlo : ¬ LetsOut Q) (hc : QhA os = true) (h : Seq [] P N os.toArray Q lst os w) : K9 l P N Q (.region id os.toArray false) lst w := fun a ha => wpIn_region_lit (Xx hlo hc (h a ha))
theorem K9.next {y : Code} (h : K9 l P N Q y lst w) : Seq [] P N ops (Exit.then (y.wpIn (Fence.wide.inRound l) 1 P Q) Q) lst [] w := Seq.nil fun a ha => h a ha
theorem K9.open {id : Nat} (m : Nat) {Φ : List PV} (us : List (Nat × Nat)) (hlo : ¬ LetsOut Q) (hc : QhA ops.toList = true) (hm : P.follows .mixedOrders = true) (hok : K4 ops m lst = true) (hus : QkY ops m us = true) (hv : Ql lab w) [hper : PerL [] Φ]
  (hlaw : Yw (fun i => OpL [] P N ops Q lst lab w Φ [] [] i) 0 m)
  (htail : ∀ lab' w', Ql lab' w' → Stp [] lab w lab' w' → Ask Φ lab' w' (fun l' => Seq [] P N ops Q l' (ops.toList.drop m) w') us lst) : K9 l P N Q (.region id ops true) lst w := fun a ha =>
 wpIn_region_any hm (Xn hlo hc (Qcy m us hok hus hv hlaw htail a ha))
end
theorem QkH {l : Nat} {P : Program} {N : Nat} {Q : Exit → Act → World → Prop} {lst : List (Nat × Value)} {w : World} {lab : Lab} {ops : Array Oper} {id : Nat} (R : List RG) (us : List Nat) (O : List (List Nat)) (hlo : ¬ LetsOut Q) (hc : QhA ops.toList = true) (hm : P.follows .mixedOrders = true) (hok : Uo ops lst R = true) (hO : Qdr ops R O = true) (hus : QhZ R us = true) (hv : Ql lab w) (hper : Qgd R 0 R)
  (hlaw : Yw (fun i => OpR [] P N ops Q lst lab w R O i) 0 R.length)
  (htail : ∀ lab' w', Ql lab' w' → Stp (UL R) lab w lab' w' → KK R lab' w' (fun l' => Seq [] P N ops Q l' (ops.toList.drop R.length) w') us lst) : K9 l P N Q (.region id ops true) lst w := fun a ha =>
 wpIn_region_any hm (Xn hlo hc (Kh R us O hok hO hus hv hper hlaw htail a ha))
def Qkb (D : Nat) : Deferred := { target := .collected D, args := #[] }
def Qbf (lab : Lab) (w : World) (D : Nat) : Prop := lab D = some 998 ∧ w.heap[D]? = some (.deferred (some []))
theorem Qbf.up {T : List Nat} {lab lab' : Lab} {w w' : World} {D : Nat} (h : Qbf lab w D) (s : Stp T lab w lab' w') (hd : (998 : Nat) ∉ T := by decide) : Qbf lab' w' D := by
 obtain ⟨h1, h2⟩ := s.own D 998 (Zj h.2) h.1 hd
 exact ⟨h1, h2.trans h.2⟩
theorem Qbf.take {P : Program} {lab : Lab} {w : World} {D : Nat} (h : Qbf lab w D) (hv : Ql lab w) : ∃ w', (Instr.takeDeferred D).run P w = .ok [] w' ∧ Stp [998] lab w lab w' ∧ Ql lab w' := by
 refine ⟨_, run_takeDeferred h.2, ⟨rfl, rfl, rfl, by simp, fun k hk e => ⟨e, World.putObj_heap_other (fun e' => by subst e'; rw [h.1] at e; cases e)⟩, fun k d hk e hd => ⟨e, World.putObj_heap_other (fun e' => by subst e'; rw [h.1] at e; cases e; simp at hd)⟩⟩, hv.below (by simp)⟩
theorem Kz {P : Program} {N : Nat} {f : FuncId} {fn : Func} {c : Code} {args : List Value} {w : World} {R : Ending → World → Prop} (hf : P.funcs[f]? = some fn) (hb : fn.body = some c) (hn : fn.ntmps = N) (ha : args.length ≤ N)
  (h : Run [] P N (bodyPostM Fence.wide 3 P fn R) c (idx 0 args) w) : Calls P f args.toArray w R := by
 refine (callsIn_wide (n := 3)).1 (callsIn_of_wp_marks hf hb trivial (wpIn_wide.2 (h _ ⟨rfl, ?_, fun t v ht => ?_⟩)) rfl)
 ·simp [hn]; omega
 ·obtain ⟨_, h1⟩ := Qfb args 0 t v ht
  have hlt : t < args.length := (List.getElem?_eq_some_iff.1 h1).1
  show (args.toArray ++ Array.replicate _ undef)[t]? = some v
  rw [Array.getElem?_append_left (by simpa using hlt)]
  simpa using h1
theorem Qdp {P : Program} {N n : Nat} {fn : Func} {R : Ending → World → Prop} {l : List (Nat × Value)} {w w' : World} {D : Nat} {r s : ResultVar} {v u : Value} (ht : (Instr.takeDeferred D).run P w = .ok [] w') (hr : fn.results = #[r, s]) (h : UM P l w' r v) (h' : UM P l w' s u) (hR : R (.returned (.tuple #[v, u])) w') : ∀ a, Fr [Qkb D] N l a → bodyPostM Fence.wide n P fn R .ret a w := by
 intro a ha
 show LeavesInM _ _ _ _ _ _ a.defers _ _
 rw [ha.defers]
 refine ⟨by simp, .inl ⟨D, w', rfl, ht, ?_⟩⟩
 refine ⟨.tuple #[v, u], ?_, hR⟩
 rw [Y8, hr]
 simp only [Sem.run_bind, Qc7 (Yd ha h) (Yd ha h'), Result.andThen_ok]
 rfl
theorem Qa6 {lab : Lab} {W W' : World} {row : Option Nat} {d b : Nat} {t : TypeId} {arr : Array Value} (h : Own lab W d b t arr) (hg : W.grownBy W' row) (hr : ∀ r, row = some r → ∃ o : Obj, W.heap[r]? = some o ∧ o.isCells = false) : Own lab W' d b t arr :=
 ⟨h.1, (hg.block b (Zj h.2) (fun e => by obtain ⟨o, ho, hc⟩ := hr b e.symm; rw [h.2] at ho; cases ho; cases hc)).trans h.2⟩
theorem Qbt {β : Type} {lab : Lab} {w : World} (hv : Ql lab w) (T : List Nat) : OwnFrom w.heap.size (fun (_ : β) W => Stp T lab w lab W) := fun s W W' row hs hg hr =>
 ⟨hg.os.trans hs.os, hg.tape.trans hs.tape, hg.output.trans hs.output, Nat.le_trans hs.size hg.size, fun k hk e => ⟨e, (hg.block k (Nat.lt_of_lt_of_le hk hs.size) (fun e' => by have := (hr k e'.symm).1; omega)).trans (hs.free k hk e).2⟩,
  fun k d hk e hd => ⟨e, (hg.block k (Nat.lt_of_lt_of_le hk hs.size) (fun e' => by have := (hr k e'.symm).1; omega)).trans (hs.own k d hk e hd).2⟩⟩
theorem Stp.relab {T : List Nat} {lab lab' : Lab} {w w' : World} (s : Stp T lab w lab' w') : Stp T lab w lab w' := ⟨s.os, s.tape, s.output, s.size, fun k hk e => ⟨e, (s.free k hk e).2⟩, fun k d hk e hd => ⟨e, (s.own k d hk e hd).2⟩⟩
theorem Yv {a : Array Value} {i : Nat} {v : Value} (h : i < a.size) : (a.setIfInBounds i v)[i]? = some v := by simp [h]
theorem VG {P : Program} {l n : Nat} {a : Act} {w : World} {K : Act → World → Prop} {Q0 : Exit → Act → World → Prop} {q p r : Nat} {ty : TypeId} {pos : String} {v : Value} (hlo : ¬ LetsOut Q0) (hv : a.eval (.tmp p) = v) (h : K (a.put (some q) v) w) :
  (Code.region r #[⟨some q, .assign (.tmp p), ty, pos, #[], none⟩] false).wpIn (Fence.wide.inRound l) n P (Exit.then K Q0) a w := by
 have hlo2 : ¬ LetsOut (Exit.then K Q0) := fun ⟨a, w, h⟩ => hlo ⟨a, w, h⟩
 refine wpIn_region_lit (l := [_]) (Xx hlo2 rfl ?_)
 unfold wpList
 rw [if_pos (by simp [Region.wanted])]
 refine .inl ?_
 unfold Oper.wp
 have d1 : (execOp a.eval ⟨some q, .assign (.tmp p), ty, pos, #[], none⟩).run P w = .ok (.value v) w := by simp [execOp, hv]
 rw [d1]
 exact h
theorem Qf1 {a : Act} {p : Nat} {v : Value} (h : a.tmps[p]? = some v) : a.eval (.tmp p) = v := by simp [Act.eval, Array.getD_eq_getD_getElem?, h]
theorem Uh {a : Array Value} {i j : Nat} {v : Value} (h : i ≠ j) : (a.setIfInBounds i v)[j]? = a[j]? := Array.getElem?_setIfInBounds_ne h
theorem Qbb {N : Nat} {Q : Exit → Act → World → Prop} {lst : List (Nat × Value)} {w : World} {lab : Lab} (hv : Ql lab w) (T : List Nat) {A : Option Addr} {c : Nat} (zs : List UInt32) (hcz : zs.length ≤ 9223372036854775807) (hzs : Ja lab w A (zs.map u32))
  {Bs dB : Nat} {tB : TypeId} (hB : Own lab w dB Bs tB #[.slice A zs.length c]) (hdB : dB ∉ T) {tg p1 p2 q1 q2 r1 r2 : Nat} {ty1 ty2 : TypeId} {pos1 pos2 : String} {body : Code}
  (hg : lk lst tg = some (.func (.func 154) #[] #[.pointer (some ⟨Bs, 0, none⟩)])) (hfr : lk lst p1 = none ∧ lk lst p2 = none ∧ lk lst q1 = none ∧ lk lst q2 = none) (hN : p1 < N ∧ p2 < N ∧ q1 < N ∧ q2 < N) (hne : p1 ≠ p2 ∧ p1 ≠ q1 ∧ p1 ≠ q2 ∧ p2 ≠ q1 ∧ p2 ≠ q2 ∧ q1 ≠ q2)
  (J : List (Fin zs.length) → World → Prop) (hJ : OwnFrom w.heap.size J) (h0 : J [] w)
  (hround : ∀ l pre (x : Fin zs.length) W, Ql lab W → Stp T lab w lab W → J pre W → K9 l Try.prog N (fun e a' W' => match e with | .normal => Stp T lab W lab W' ∧ J (pre ++ [x]) W' | _ => False) body ((q2, u32 zs[x.val]) :: (q1, i64 (x.val : Int)) :: lst) W)
  (hdone : ∀ D lab' W, lab' = (fun k => if k = D then some 998 else lab k) → Ql lab' W → Stp T lab w lab' W → J (bk zs.length zs.length) W → w.heap.size ≤ D → Qbf lab' W D → ∀ a, Fr [Qkb D] N lst a → Q .normal a W) :
  Run [] Try.prog N Q (.rangeFunc (.tmp tg) #[p1, p2] (.seq (.region r1 #[⟨some q1, .assign (.tmp p1), ty1, pos1, #[], none⟩] false) (.region r2 #[⟨some q2, .assign (.tmp p2), ty2, pos2, #[], none⟩] false)) body) lst w := by
 intro a ha
 refine (wpIn_wide (n := 3)).1 ?_
 have hBl : Bs < w.heap.size := Zj hB.2
 obtain ⟨b, hbW, hbn, hseq⟩ : ∃ b, b < w.heap.size ∧ (zs ≠ [] → lab b = none) ∧ SeqStopsK Fence.wide (3 - 1) Try.prog 154 #[.pointer (some ⟨Bs, 0, none⟩)] (Qh7 zs) (KB Bs b) (fun ys => ys = bk zs.length zs.length) (fun pre => ∃ k, k ≤ zs.length ∧ pre = bk zs.length k) zs.length w := by
  have cN : w.cell? ⟨Bs, 0, none⟩ = some (.slice A zs.length c) := by rw [hB.cell]; rfl
  rcases hzs with h0 | ⟨b, o, arr, t, fr, hA, hl, hh, hcell⟩
  ·have hz : zs = [] := by simpa using h0
   exact ⟨Bs, hBl, fun h => absurd hz h, K7 Fence.wide (3 - 1) trivial rfl _ _ A c zs hz w hBl (by rw [cN, hz]; rfl)⟩
  ·have hbl : b < w.heap.size := Zj hh
   subst hA
   exact ⟨b, hbl, fun _ => hl, U3 Fence.wide (3 - 1) trivial rfl (by omega) _ b o c zs hcz w hBl hbl cN fun j hj => by
    rw [cell_of_row w b _ arr t fr hh]
    exact hcell j _ (by simp [hj])⟩
 refine wpIn_rangeFunc_ownG (F := Fence.wide) (n := 3) rfl (by omega) (gf := 154) (lb := #[.pointer (some ⟨Bs, 0, none⟩)]) (ha.eval (x := .tmp tg) hg) trivial (enters_of Try.func154 (by kernel_rfl) rfl)
  hseq KB.trans (KB.put hBl hbW) (Below.refl _ _) (fun _ => rfl)
  (fun pre W => J pre W ∧ Stp T lab w lab W) (fun _ _ _ => False) (OwnFrom.and hJ (Qbt hv T)) (fun _ _ _ _ _ hs _ _ => hs) ⟨h0, (Stp.refl lab w).more (by simp)⟩
  (fun x => { tmps := (((a.tmps.setIfInBounds p1 (i64 (x.val : Int))).setIfInBounds p2 (u32 zs[x.val])).setIfInBounds q1 (i64 (x.val : Int))).setIfInBounds q2 (u32 zs[x.val]), defers := [] }) ?assign ?body ?done ?stop
 case assign =>
  intro l x W K hK
  have hz : (#[p1, p2].zip (Qh7 zs x)).foldl (fun t (x : Tmp × Value) => match x with | (p, v) => t.setIfInBounds p v) a.tmps = (a.tmps.setIfInBounds p1 (i64 (x.val : Int))).setIfInBounds p2 (u32 zs[x.val]) := by simp [Qh7]
  rw [hz]
  have hs := ha.size
  obtain ⟨n1, n2, n3, n4, n5, n6⟩ := hne
  obtain ⟨b1, b2, b3, b4⟩ := hN
  have s1 : ∀ (v : Value), (a.tmps.setIfInBounds p1 v).size = N := fun v => by simp [hs]
  have hlo : ¬ LetsOut (fun (_ : Exit) (_ : Act) (_ : World) => False) := fun ⟨_, _, h⟩ => h
  refine wpIn_seq (VG (v := i64 (x.val : Int)) hlo (Qf1 ?_) (VG (v := u32 zs[x.val]) hlo (Qf1 ?_) hK))
  ·show ((a.tmps.setIfInBounds p1 _).setIfInBounds p2 _)[p1]? = _
   rw [Uh (fun e => n1 e.symm)]; exact Yv (by omega)
  ·show (((a.tmps.setIfInBounds p1 _).setIfInBounds p2 _).setIfInBounds q1 _)[p2]? = _
   rw [Uh (fun e => n4 e.symm)]; exact Yv (by simp; omega)
 case body =>
  rintro l pre x W ⟨hj, hs⟩ hlt
  obtain ⟨n1, n2, n3, n4, n5, n6⟩ := hne
  obtain ⟨b1, b2, b3, b4⟩ := hN
  obtain ⟨f1, f2, f3, f4⟩ := hfr
  have hsz := ha.size
  refine Code.wpIn_mono ?_ (hround l pre x W (hv.below hs.size) hs hj _ ⟨rfl, by simp [hsz], fun t v ht => ?_⟩)
  ·intro e a' W' h
   cases e with
   | normal =>
    obtain ⟨s, hj'⟩ := h
    refine ⟨⟨s.size, fun k o hk ho _ => (s.free k (Zj ho) (hv k hk)).2.trans ho⟩, ⟨(s.own Bs dB (Nat.lt_of_lt_of_le hBl hs.size) hB.1 hdB).2, (s.free b (Nat.lt_of_lt_of_le hbW hs.size) (hbn (fun e => by have := x.2; simp [e] at this))).2⟩, hj', (hs.trans s).more (by simp)⟩
   | _ => exact h.elim
  ·simp only [lk] at ht
   by_cases h2 : q2 = t
   ·subst h2
    simp at ht
    subst ht
    exact Yv (by simp; omega)
   ·have e2 : Nat.beq q2 t = false := by
     cases hb : Nat.beq q2 t with
     | false => rfl
     | true => exact absurd (Nat.eq_of_beq_eq_true hb) h2
    rw [Uh h2]
    simp only [e2, cond_false] at ht
    by_cases h1 : q1 = t
    ·subst h1
     simp at ht
     subst ht
     exact Yv (by simp; omega)
    ·have e1 : Nat.beq q1 t = false := by
      cases hb : Nat.beq q1 t with
      | false => rfl
      | true => exact absurd (Nat.eq_of_beq_eq_true hb) h1
     rw [Uh h1]
     simp only [e1, cond_false] at ht
     rw [Uh (fun e => by subst e; rw [f2] at ht; cases ht), Uh (fun e => by subst e; rw [f1] at ht; cases ht)]
     exact ha.at_ t v ht
 case done =>
  rintro D xs W hD rfl ⟨hj, hs⟩ hK
  have hDl : D < W.heap.size := Zj hK
  refine hdone D _ W rfl (fun k hk => ?_) ⟨hs.os, hs.tape, hs.output, hs.size, fun k hk e => ⟨?_, (hs.free k hk e).2⟩, fun k d hk e hd => ⟨?_, (hs.own k d hk e hd).2⟩⟩ hj hD ⟨by simp, hK⟩ _ ⟨by show _ :: a.defers = _; rw [ha.defers]; rfl, ha.size, ha.at_⟩
  ·show (if _ then _ else _) = _; rw [if_neg (by omega)]; exact (hv.below hs.size) k hk
  ·show (if _ then _ else _) = _; rw [if_neg (by omega)]; exact e
  ·show (if _ then _ else _) = _; rw [if_neg (by omega)]; exact e
 case stop =>
  rintro D c0 pre W _ _ h _
  exact h.elim
theorem Qey {ds : List Deferred} {N : Nat} {ops : Array Oper} {Q : Exit → Act → World → Prop} {l : List (Nat × Value)} {rest : List Oper} {w : World} {lab : Lab} {ty : TypeId} {pos : String} {af : Array Edge} {d : Nat} {xs : List Operand} {tys : Array TypeId} {a : Option Addr} {len cap : Nat} (hf : Qw Try.prog 106) (hv : Ql lab w) (hx : evs l xs = some [.slice a len cap])
  (h : ∀ b lab' w', Own lab' w' 997 b 58 #[.slice a len cap] → Stp [] lab w lab' w' → Ql lab' w' → Seq ds Try.prog N ops Q ((d, .func (.func 154) #[] #[.pointer (some ⟨b, 0, none⟩)]) :: l) rest w') (hd : d < N := by decide) :
  Seq ds Try.prog N ops Q l (⟨some d, .call ⟨.value (.func 106), xs.toArray, tys⟩, ty, pos, af, none⟩ :: rest) w :=
 Seq.call (R := fun v w' => v = .func (.func 154) #[] #[.pointer (some ⟨w.heap.size, 0, none⟩)] ∧ w' = w.alloc (.cells #[.slice a len cap] 58)) hf hx hd
  ((callsIn_wide (n := 3)).1 ((QfW Fence.wide 3 trivial rfl a len cap w).mono fun e w' ⟨h1, h2⟩ => ⟨_, h1, rfl, h2⟩)) fun v w' ⟨h1, h2⟩ => by
   subst h1; subst h2
   exact h w.heap.size _ _ (Own.alloc lab w _ _ 997) (Stp.alloc _ 997) (hv.alloc _ 997)
end Go.Proofs.Ytgfomedobfaidaa
end
section
set_option linter.unusedVariables false
set_option linter.unusedSimpArgs false
namespace Go.Proofs.Ytgfomedobfaidaa
open Go.RowKit Go.Shelf
def smR (zs : List UInt32) (d : Nat) (pre : List (Fin zs.length)) : Nat := pre.foldl (fun r x => (r * 4294967296 + (zs[x.val]).toNat) % d) 0
def smO (zs : List UInt32) (d : Nat) (pre : List (Fin zs.length)) : List UInt32 := (pre.foldl (fun (s : Nat × List UInt32) x => ((s.1 * 4294967296 + (zs[x.val]).toNat) % d, s.2.set x.val (UInt32.ofNat ((s.1 * 4294967296 + (zs[x.val]).toNat) / d)))) (0, List.replicate zs.length 0)).2
theorem Qei (zs : List UInt32) (d : Nat) : smR zs d [] = 0 := by simp [smR]
theorem Qej (zs : List UInt32) (d : Nat) : smO zs d [] = List.replicate zs.length 0 := by simp [smO]
theorem UD (zs : List UInt32) (d : Nat) (pre : List (Fin zs.length)) (x : Fin zs.length) : smR zs d (pre ++ [x]) = (smR zs d pre * 4294967296 + (zs[x.val]).toNat) % d := by unfold smR; rw [List.foldl_append, List.foldl_cons, List.foldl_nil]
theorem Qin (zs : List UInt32) (d : Nat) (pre : List (Fin zs.length)) : ∀ (s : Nat × List UInt32), (pre.foldl (fun (s : Nat × List UInt32) x => ((s.1 * 4294967296 + (zs[x.val]).toNat) % d, s.2.set x.val (UInt32.ofNat ((s.1 * 4294967296 + (zs[x.val]).toNat) / d)))) s).1 = pre.foldl (fun r x => (r * 4294967296 + (zs[x.val]).toNat) % d) s.1 := by
 induction pre with
 | nil => intro s; rfl
 | cons x r ih => intro s; simp only [List.foldl_cons]; rw [ih]
theorem UE (zs : List UInt32) (d : Nat) (pre : List (Fin zs.length)) (x : Fin zs.length) : smO zs d (pre ++ [x]) = (smO zs d pre).set x.val (UInt32.ofNat ((smR zs d pre * 4294967296 + (zs[x.val]).toNat) / d)) := by
 have h := Qin zs d pre (0, List.replicate zs.length 0)
 unfold smO smR
 rw [List.foldl_append, List.foldl_cons, List.foldl_nil]
 dsimp only
 rw [h]
theorem QjL {zs : List UInt32} {d : Nat} (hd : d ≠ 0) (pre : List (Fin zs.length)) : smR zs d pre < d := by
 rcases List.eq_nil_or_concat pre with rfl | ⟨p, x, rfl⟩
 ·rw [Qei]; omega
 ·rw [List.concat_eq_append, UD]; exact Nat.mod_lt _ (by omega)
theorem Ue (zs : List UInt32) (d : Nat) (pre : List (Fin zs.length)) : (smO zs d pre).length = zs.length := by
 generalize hn : pre.length = n
 induction n generalizing pre with
 | zero => rw [List.eq_nil_of_length_eq_zero hn, Qej]; simp
 | succ n ih =>
  rcases List.eq_nil_or_concat pre with rfl | ⟨p, x, rfl⟩
  ·simp at hn
  ·rw [List.concat_eq_append, UE, List.length_set]
   exact ih p (by simpa using hn)
theorem QhU {zs : List UInt32} {m : Nat} (h : m < zs.length) : wv (zs.drop m) = (zs[m]).toNat + 4294967296 * wv (zs.drop (m + 1)) := by
 rw [List.drop_eq_getElem_cons h]; rfl
theorem Vq {zs : List UInt32} {d : Nat} (hd : d ≠ 0) : ∀ {k : Nat}, k ≤ zs.length → smR zs d (bk zs.length k) = wv (zs.drop (zs.length - k)) % d ∧ smO zs d (bk zs.length k) = List.replicate (zs.length - k) 0 ++ wsN (wv (zs.drop (zs.length - k)) / d) k
 | 0, _ => by
  simp [bk, Qei, Qej, U8, wv]
 | k + 1, h => by
  obtain ⟨h1, h2⟩ := Vq (zs := zs) hd (k := k) (by omega)
  have hp : 0 < zs.length := by omega
  have hd' : 0 < d := by omega
  have hm : zs.length - 1 - k < zs.length := by omega
  have e : zs.length - (k + 1) = zs.length - 1 - k := by omega
  have e2 : zs.length - 1 - k + 1 = zs.length - k := by omega
  have hz := (zs[zs.length - 1 - k]).toNat_lt
  rw [Qaj hp, UD, UE, h1, h2, e, QhU hm, e2]
  generalize hX : wv (zs.drop (zs.length - k)) = X
  generalize (zs[zs.length - 1 - k]).toNat = z at *
  have hdm := Nat.div_add_mod X d
  have hr := Nat.mod_lt X hd'
  have key : z + 4294967296 * X = (X % d * 4294967296 + z) + d * (4294967296 * (X / d)) := by
   have : 4294967296 * X = 4294967296 * (d * (X / d) + X % d) := by rw [hdm]
   rw [this, Nat.mul_add, Nat.mul_left_comm]; omega
  constructor
  ·rw [key, Nat.add_mul_mod_self_left]
  ·rw [key, Nat.add_mul_div_left _ _ hd']
   have hq : (X % d * 4294967296 + z) / d < 4294967296 := by
    rw [Nat.div_lt_iff_lt_mul hd']
    have : (X % d + 1) * 4294967296 ≤ d * 4294967296 := Nat.mul_le_mul_right _ (by omega)
    rw [Nat.mul_comm 4294967296]
    omega
   generalize (X % d * 4294967296 + z) / d = q at *
   rw [show zs.length - k = (zs.length - 1 - k) + 1 by omega, List.replicate_succ', List.append_assoc]
   rw [List.set_append_right _ _ (by simp)]
   simp only [List.length_replicate, Nat.sub_self]
   congr 1
   show UInt32.ofNat q :: wsN (X / d) k = wsN (q + 4294967296 * (X / d)) (k + 1)
   refine Ub (by simp [Qq]) ?_
   rw [V5]
   show (UInt32.ofNat q).toNat + 4294967296 * wv (wsN (X / d) k) = _
   rw [V5, Nat.pow_succ, Nat.mul_comm (4294967296 ^ k), Nat.mod_mul, UInt32.toNat_ofNat', Nat.mod_eq_of_lt (by omega : q < 2 ^ 32)]
   rw [show (q + 4294967296 * (X / d)) % 4294967296 = q by omega, show (q + 4294967296 * (X / d)) / 4294967296 = X / d by omega]
theorem Ud {a d : Nat} (hd : d ≠ 0) : smR (Qj a) d (bk (Qj a).length (Qj a).length) = a % d := by
 rw [(Vq hd (Nat.le_refl _)).1, Nat.sub_self, List.drop_zero, Yq]
theorem Qdb {a d : Nat} (hd : d ≠ 0) : wv (smO (Qj a) d (bk (Qj a).length (Qj a).length)) = a / d := by
 rw [(Vq hd (Nat.le_refl _)).2, Nat.sub_self, List.drop_zero, Yq]
 show wv ([] ++ _) = _
 rw [List.nil_append, JV]
 exact Nat.lt_of_le_of_lt (Nat.div_le_self _ _) (Ym a)
theorem Qjn {ds : List Deferred} {P : Program} {N : Nat} {l : List (Nat × Value)} {w : World} {Q Q' : Exit → Act → World → Prop} {y : Code} (hQ : ∀ a w, y.wp P Q' a w → Q .normal a w) (h : Run ds P N Q' y l w) : ∀ a, Fr ds N l a → Q .normal a w := fun a ha => hQ a w (h a ha)
theorem Qcx {lab lab' : Lab} {W : World} {D d b : Nat} {t : TypeId} {arr : Array Value} (e : lab' = fun k => if k = D then some 998 else lab k) (m : Qbf lab' W D) (h : Own lab W d b t arr) : Own lab' W d b t arr := ⟨by
 subst e
 show (if b = D then some 998 else lab b) = some d
 rw [if_neg (fun e => by subst e; have := m.2; rw [h.2] at this; cases this)]; exact h.1, h.2⟩
theorem Qe0 {P : Program} {N : Nat} {ops : Array Oper} {l : List (Nat × Value)} {w : World} {Q : Exit → Act → World → Prop} (h : ∀ a, Q .normal a w) : Seq [] P N ops Q l [] w := Seq.nil fun a _ => h a
end Go.Proofs.Ytgfomedobfaidaa
end
section
set_option linter.unusedVariables false
set_option linter.unusedSimpArgs false
namespace Go.Proofs.Ytgfomedobfaidaa
open Go.RowKit
theorem QeQ {lab : Lab} {w : World} (hv : Ql lab w) {a : Nat} {v0 : Value} (h0 : Qi a lab w v0) {d : UInt32} (hd : d.toNat ≠ 0) (ha : nw a ≤ 1000000) :
  Calls Try.prog 157 #[v0, u32 d] w (fun e w' => ∃ v, e = .returned v ∧ (Zo (Qi (a / d.toNat)) (Qi (a % d.toNat))) lab w' v ∧ Below w.heap.size w w') := by
 obtain ⟨L0, h0L, ⟨zU0, z00⟩, hX⟩ := QZ hv
 replace h0 := up z00 h0
 obtain ⟨A1, c2, rfl⟩ := Qi.shape h0
 have z3 := Qi.cap h0
 have hdl := UInt32.toNat_lt d
 have hLa : (Qj a).length = nw a := rfl
 refine Kz Try.func157 rfl Try.ntmps157 (lB9 rfl) ?_
 refine rsr ?_
 refine Yz 3 [.slice A1 (nw a) c2] h0L rfl rfl fun b6 L4 w5 o7 s8 h9 => ?_
 refine Yz 4 [u32 d] h9 rfl rfl fun b12 L10 w11 o13 s14 h15 => ?_
 refine QM 5 [.slice none 0 0] h15 Qn rfl fun b18 L16 w17 o19 s20 h21 => ?_
 refine QM 6 [.slice none 0 0] h21 Qn rfl fun b24 L22 w23 o25 s26 h27 => ?_
 refine nsr ?_
 refine sv (Qd 0 Try.underlying60 rfl Zf rfl rfl) ?_
 have c29 := s20.trans s26
 have c30 := s14.trans c29
 have o28 := o7.up c30
 have c32 := s8.trans c30
 have q33 := up c32 h0
 have q31 := QA q33
 refine sv (Qf o28 Zf rfl rfl) ?_
 refine sv (Qa.len Try.underlying58 rfl) ?_
 refine Jv (k := 14) u32 (0 : UInt32) (nw a) h27 Try.underlying58 Qx rfl rfl rfl (by omega) (by omega) (by omega) (by omega) (by decide) ?_
 intro lab34 w35 b36 o37 s38 hv39
 refine QM 7 [.slice none 0 0] hv39 Zf rfl fun b42 L40 w41 o43 s44 h45 => ?_
 refine Q2 [.slice (some ⟨b36, 0, none⟩) (nw a) (nw a)] h45 o43 Zf rfl rfl rfl (lB9 rfl) rfl rfl fun w46 o47 s48 h49 => ?_
 refine nsr ?_
 refine QM 8 [.int .u64 0] h49 Qas rfl fun b52 L50 w51 o53 s54 h55 => ?_
 refine Q2 [.int .u64 0] h55 o53 Qas rfl rfl rfl (lB9 rfl) rfl rfl fun w56 o57 s58 h59 => ?_
 refine Seq.next ?_
 refine Run.seq ?_
 refine rsr ?_
 refine sv (Qd 0 Try.underlying60 rfl Zf rfl rfl) ?_
 have c61 := s54.trans s58
 have c62 := s48.trans c61
 have c63 := s44.trans c62
 have c64 := s38.trans c63
 have o60 := o28.up c64
 have q66 := up c64 q33
 have q65 := QA q66
 refine sv (Qf o60 Zf rfl rfl) ?_
 refine Qey QkD h59 rfl fun b69 L67 w68 o70 s71 h72 => ?_
 refine Seq.next ?_
 refine Run.block ?_
 have q73 := up s71 q65
 have c75 := c63.trans s71
 have o74 := o37.up c75
 have o76 := o57.up s71
 refine Run.weaken (l' := [(3, .pointer (some ⟨b12, 0, none⟩)), (4, .pointer (some ⟨b18, 0, none⟩)), (5, .pointer (some ⟨b24, 0, none⟩)), (6, .pointer (some ⟨b42, 0, none⟩)), (7, .pointer (some ⟨b52, 0, none⟩)), (16, .func (.func 154) #[] #[.pointer (some ⟨b69, 0, none⟩)])]) ⟨rfl, rfl, rfl, rfl, rfl, rfl, trivial⟩ ?_
 refine Qbb h72 [8, 14] (Qj a) (by show nw a ≤ _; omega) (Qo.row q73) o70 (by decide) rfl ⟨rfl, rfl, rfl, rfl⟩ (by decide) (by decide) (fun pre W => Own L67 W 14 b36 167 (List.map u32 (smO (Qj a) d.toNat pre)).toArray ∧ Own L67 W 8 b52 62 #[n64 (smR (Qj a) d.toNat pre)]) (fun _ A B row hs hg hr => ⟨Qa6 hs.1 hg (fun r e => (hr r e).2), Qa6 hs.2 hg (fun r e => (hr r e).2)⟩) ⟨((show List.replicate (nw a) (0 : UInt32) = smO (Qj a) d.toNat ([]) from by rfl) ▸ o74), ((show (0 : Nat) = smR (Qj a) d.toNat ([]) from by rfl) ▸ o76)⟩ ?_ ?_
 ·intro l77 pre78 x79 w80 h81 s82 ⟨o83, o84⟩
  have hr := QjL hd pre78
  have hx := UInt32.toNat_lt (Qj a)[x79.val]
  have hxl := x79.2
  have hol := Ue (Qj a) d.toNat pre78
  refine K9.block ?_
  refine K9.seq ?_
  refine K9.region (fun ⟨_, _, h⟩ => h) rfl ?_
  refine sv (Qf o84 Qas rfl rfl) ?_
  refine sv (Ya rfl rfl (by omega)) ?_
  refine sv (Qa.move rfl) ?_
  refine sv (QB Try.underlying167 Try.underlying62 rfl) ?_
  refine sv (ZO rfl rfl (by omega) (by omega)) ?_
  refine Q2 [n64 (((smR (Qj a) d.toNat pre78) * 4294967296) + (((Qj a)[x79.val]).toNat))] h81 o84 Qas rfl rfl rfl (lB9 rfl) rfl rfl fun w85 o86 s87 h88 => ?_
  refine K9.next ?_
  refine K9.seq ?_
  refine K9.open 8 (Φ := [.ex (.slice (some ⟨b36, 0, none⟩) (nw a) (nw a)), .ex (i64 ((x79.val : Nat) : Int)), .ex (n64 (((smR (Qj a) d.toNat pre78) * 4294967296) + (((Qj a)[x79.val]).toNat))), .ex (u32 d), .ex (n64 (d.toNat)), .ex (n64 ((((smR (Qj a) d.toNat pre78) * 4294967296) + (((Qj a)[x79.val]).toNat)) / d.toNat)), .ex (u32 (UInt32.ofNat ((((smR (Qj a) d.toNat pre78) * 4294967296) + (((Qj a)[x79.val]).toNat)) / d.toNat))), .ex (.pointer (some ⟨b36, x79.val * 1, none⟩))]) [(6, 30), (7, 31)] (fun ⟨_, _, h⟩ => h) rfl Je (by kernel_rfl) rfl h88 ⟨?_, (oX [] rfl rfl rfl fun _ _ => Qa.move rfl), ?_, ?_, (oX [(3, 27)] rfl rfl rfl fun _ _ => QB Try.underlying167 Try.underlying62 rfl), (oX [(2, 26), (4, 28)] rfl rfl rfl fun _ _ => VK rfl rfl (by omega) (by omega)), (oX [(5, 29)] rfl rfl rfl fun _ _ => QF Try.underlying62 Try.underlying167 rfl), (oX [(0, 24), (1, 25)] rfl rfl rfl fun _ _ => Q4 x79.val Try.underlying58 Qx rfl rfl (by omega) (by omega)), trivial⟩ (fun L133 w134 h135 s136 => ?_)
  ·refine oP [] rfl rfl fun L89 w90 h91 s92 => ?_
   have c94 := s87.trans s92
   have c95 := s82.trans c94
   have c96 := s71.trans c95
   have c97 := c61.trans c96
   have o93 := o47.up c97
   exact ⟨_, Qf o93 Zf rfl rfl, rfl⟩
  ·refine oP [] rfl rfl fun L102 w103 h104 s105 => ?_
   have o106 := o86.up s105
   exact ⟨_, Qf o106 Qas rfl rfl, rfl⟩
  ·refine oP [] rfl rfl fun L107 w108 h109 s110 => ?_
   have c112 := s87.trans s110
   have c113 := s82.trans c112
   have c114 := s71.trans c113
   have c115 := c64.trans c114
   have c116 := c29.trans c115
   have o111 := o13.up c116
   exact ⟨_, Qf o111 Qx rfl rfl, rfl⟩
  have c138 := s87.trans s136
  have o137 := o83.up c138
  refine Q8 (k := 14) (j := x79.val) (v := (UInt32.ofNat ((((smR (Qj a) d.toNat pre78) * 4294967296) + (((Qj a)[x79.val]).toNat)) / d.toNat))) u32 h135 o137 Qx (congrArg (fun o => some (Value.pointer (some ⟨b36, o, none⟩))) (Nat.mul_one x79.val)) rfl (by omega) rfl rfl fun w139 o140 s141 h142 => ?_
  refine K9.next ?_
  refine K9.region (fun ⟨_, _, h⟩ => h) rfl ?_
  have c144 := s136.trans s141
  have o143 := o86.up c144
  refine sv (Qf o143 Qas rfl rfl) ?_
  have c146 := c138.trans s141
  have c147 := s82.trans c146
  have c148 := s71.trans c147
  have c149 := c64.trans c148
  have c150 := c29.trans c149
  have o145 := o13.up c150
  refine sv (Qf o145 Qx rfl rfl) ?_
  refine sv (QB Try.underlying167 Try.underlying62 rfl) ?_
  refine sv (ZE rfl rfl (by omega)) ?_
  refine Q2 [n64 ((((smR (Qj a) d.toNat pre78) * 4294967296) + (((Qj a)[x79.val]).toNat)) % d.toNat)] h142 o143 Qas rfl rfl rfl (lB9 rfl) rfl rfl fun w151 o152 s153 h154 => ?_
  have o155 := o140.up s153
  have c156 := c146.trans s153
  exact Qe0 fun _ => ⟨c156.relab.more (by decide), ⟨o83.1, ((show List.set (smO (Qj a) d.toNat pre78) x79.val (UInt32.ofNat ((((smR (Qj a) d.toNat pre78) * 4294967296) + (((Qj a)[x79.val]).toNat)) / d.toNat)) = smO (Qj a) d.toNat (pre78 ++ [x79]) from by exact (UE _ _ _ _).symm) ▸ o155.2)⟩, ⟨o84.1, ((show ((((smR (Qj a) d.toNat pre78) * 4294967296) + (((Qj a)[x79.val]).toNat)) % d.toNat : Nat) = smR (Qj a) d.toNat (pre78 ++ [x79]) from by exact (UD _ _ _ _).symm) ▸ o152.2)⟩⟩
 intro D157 L158 w159 e160 h161 s162 ⟨o165, o166⟩ m163 o164
 replace o165 := Qcx e160 o164 o165
 replace o166 := Qcx e160 o164 o166
 refine Qjn (fun _ _ h => h) ?_
 refine Run.seq ?_
 have hv167 := Ql.release h161 14
 have q168 : Qo (smO (Qj a) d.toNat (bk (List.length (Qj a)) (List.length (Qj a)))) (Q5 L158 14) w159 (.slice (some ⟨b36, 0, none⟩) (nw a) (nw a)) := Qo.release o165 (by (rw [Ue]; rfl)) (by omega)
 refine Zw [⟨36, .ex (.slice (some ⟨b36, 0, none⟩) (nw a) (nw a)), [], none⟩, ⟨37, .v (Qi (wv (smO (Qj a) d.toNat (bk (List.length (Qj a)) (List.length (Qj a)))))), [], none⟩, ⟨38, .ex (n64 (smR (Qj a) d.toNat (bk (List.length (Qj a)) (List.length (Qj a))))), [], none⟩] [1, 2] [[], [], []] Je (by kernel_rfl) (by kernel_rfl) rfl hv167 ⟨QK, J5, QK, trivial⟩ ⟨?_, ?_, ?_, trivial⟩ (fun L189 w190 h191 s192 v193 q194 => ?_)
 ·refine rP [] rfl rfl rfl rfl fun L169 w170 h171 s172 => ?_
  replace s172 : Stp [] _ _ _ _ := s172
  have c174 := (Stp.release (lab := L158) (w := w159) 14).trans s172
  have c175 := s162.trans c174
  have c176 := s71.trans c175
  have c177 := c61.trans c176
  have o173 := o47.up c177
  exact ⟨_, Qf o173 Zf rfl rfl, rfl⟩
 ·refine rC [0] rfl rfl rfl rfl Vf fun L178 w179 h180 s181 => ?_
  replace s181 : Stp [] _ _ _ _ := s181
  have q182 := up s181 q168
  exact ⟨_, rfl, (Yt h180 q182)⟩
 ·refine rP [] rfl rfl rfl rfl fun L183 w184 h185 s186 => ?_
  replace s186 : Stp [] _ _ _ _ := s186
  have c188 := (Stp.release (lab := L158) (w := w159) 14).trans s186
  have o187 := o166.up c188
  exact ⟨_, Qf o187 Qas rfl rfl, rfl⟩
 replace s192 : Stp [] _ _ _ _ := s192
 obtain ⟨A195, c196, rfl⟩ := Qi.shape q194
 have z197 := Qi.cap q194
 refine Q7 (V := Qi (smR (Qj a) d.toNat (bk (List.length (Qj a)) (List.length (Qj a))))) JN h191 rfl (QX h191 (x := smR (Qj a) d.toNat (bk (List.length (Qj a)) (List.length (Qj a)))) (show (smR (Qj a) d.toNat (bk (List.length (Qj a)) (List.length (Qj a)))) < 18446744073709551616 from by (rw [Ud hd]; have := Nat.mod_lt a (Nat.pos_of_ne_zero hd); omega))) fun v198 w199 q200 s201 h202 => ?_
 obtain ⟨A203, c204, rfl⟩ := Qi.shape q200
 have z205 := Qi.cap q200
 have c207 := s192.trans s201
 have c208 := (Stp.release (lab := L158) (w := w159) 14).trans c207
 have c209 := s162.trans c208
 have c210 := s71.trans c209
 have c211 := c64.trans c210
 have c212 := s26.trans c211
 have o206 := o19.up c212
 refine Q2 [.slice A195 (nw (wv (smO (Qj a) d.toNat (bk (List.length (Qj a)) (List.length (Qj a)))))) c196] h202 o206 Qn rfl rfl rfl (lB9 rfl) rfl rfl fun w213 o214 s215 h216 => ?_
 have c218 := c211.trans s215
 have o217 := o25.up c218
 refine Q2 [.slice A203 (nw (smR (Qj a) d.toNat (bk (List.length (Qj a)) (List.length (Qj a))))) c204] h216 o217 Qn rfl rfl rfl (lB9 rfl) rfl rfl fun w219 o220 s221 h222 => ?_
 refine Seq.next ?_
 have c224 := s215.trans s221
 have c225 := c208.trans c224
 have o223 := o164.up c225
 obtain ⟨w226, e227, s228, h229⟩ := Qbf.take (P := Try.prog) o223 h222
 have c231 := s221.trans s228
 have o230 := o214.up c231
 have o232 := o220.up s228
 have c233 := c218.trans c231
 have c234 := c32.trans c233
 obtain ⟨⟨zU, zo⟩, zb⟩ := hX c234 (by decide)
 have c235 := c224.trans s228
 have c236 := s201.trans c235
 have q237 := up c236 q194
 have q238 := up c235 q200
 refine Run.ret ?_
 exact Qdp e227 Try.results157 ⟨_, rfl, Q6 [.slice A195 (nw (wv (smO (Qj a) d.toNat (bk (List.length (Qj a)) (List.length (Qj a)))))) c196] o230 Qn rfl⟩ ⟨_, rfl, Q6 [.slice A203 (nw (smR (Qj a) d.toNat (bk (List.length (Qj a)) (List.length (Qj a))))) c204] o232 Qn rfl⟩ ⟨_, rfl, ⟨_, _, rfl, (Q1 (by rw [Qdb hd]) (up zo q237)), (Q1 (by rw [Ud hd]) (up zo q238))⟩, zb⟩
end Go.Proofs.Ytgfomedobfaidaa
end
section
set_option linter.unusedVariables false
set_option linter.unusedSimpArgs false
namespace Go.Proofs.Ytgfomedobfaidaa
open Go.RowKit
def lz (x : UInt32) : Nat := 32 - QL x.toNat
theorem Qkc (x : UInt32) : (32 : Int) - ((QL x.toNat : Nat) : Int) = ((lz x : Nat) : Int) := by
 have : QL x.toNat ≤ 32 := Zk.2 (UInt32.toNat_lt _)
 unfold lz; omega
def UB (b : Nat) : UInt32 := (Qj b).getD (nw b - 1) 0
abbrev sh (b : Nat) : Nat := lz ((Qj b).getD (nw b - 1) 0)
theorem QjP (b : Nat) : sh b = 32 - QL (UB b).toNat := rfl
theorem Qbs {b : Nat} (hb : b ≠ 0) : (UB b).toNat = b / 4294967296 ^ (nw b - 1) := VT hb
theorem Qgr {b : Nat} (hb : b ≠ 0) : 1 ≤ (UB b).toNat := by
 rw [Qbs hb]
 exact (Nat.one_le_div_iff (Nat.pow_pos (by omega))).2 (XZ hb)
theorem QcQ {b : Nat} (hb : b ≠ 0) : 1 ≤ QL (UB b).toNat ∧ QL (UB b).toNat ≤ 32 :=
 ⟨Qaa.2 (by rw [Nat.pow_zero]; exact Qgr hb), Zk.2 (UInt32.toNat_lt _)⟩
theorem Qiq {b : Nat} (hb : b ≠ 0) : sh b < 32 := by have := QcQ hb; rw [QjP]; omega
theorem Qeu {b : Nat} (hb : b ≠ 0) : 2147483648 ≤ (UB b).toNat * 2 ^ sh b ∧ ((UB b).toNat + 1) * 2 ^ sh b ≤ 4294967296 := by
 have h := QcQ hb
 have h1 : 2 ^ (QL (UB b).toNat - 1) ≤ (UB b).toNat := Qaa.1 (by omega)
 have h2 : (UB b).toNat < 2 ^ QL (UB b).toNat := Zk.1 (Nat.le_refl _)
 rw [QjP]
 constructor
 ·have := Nat.mul_le_mul_right (2 ^ (32 - QL (UB b).toNat)) h1
  rw [← Nat.pow_add, show QL (UB b).toNat - 1 + (32 - QL (UB b).toNat) = 31 by omega] at this
  exact this
 ·have := Nat.mul_le_mul_right (2 ^ (32 - QL (UB b).toNat)) (Nat.succ_le_of_lt h2)
  rw [← Nat.pow_add, show QL (UB b).toNat + (32 - QL (UB b).toNat) = 32 by omega] at this
  exact this
theorem nw1 {b : Nat} (hb : b ≠ 0) : 4294967296 ^ nw b = 4294967296 * 4294967296 ^ (nw b - 1) := by
 have := Zm hb
 rw [Nat.mul_comm, ← Nat.pow_succ]; congr 1; omega
theorem Vr {b : Nat} (hb : b ≠ 0) : b * 2 ^ sh b < 4294967296 ^ nw b := by
 have hp : 0 < 4294967296 ^ (nw b - 1) := Nat.pow_pos (by omega)
 have h : b < ((UB b).toNat + 1) * 4294967296 ^ (nw b - 1) := by
  rw [Qbs hb, Nat.mul_comm]; exact Nat.lt_mul_div_succ b hp
 have h2 := Nat.mul_lt_mul_of_pos_right h (show 0 < 2 ^ sh b from Nat.pow_pos (by omega))
 refine Nat.lt_of_lt_of_le h2 ?_
 rw [Nat.mul_right_comm, nw1 hb]
 exact Nat.mul_le_mul_right _ (Qeu hb).2
theorem Qio {b : Nat} (hb : b ≠ 0) : 2147483648 * 4294967296 ^ (nw b - 1) ≤ b * 2 ^ sh b := by
 have hp : 0 < 4294967296 ^ (nw b - 1) := Nat.pow_pos (by omega)
 have h : (UB b).toNat * 4294967296 ^ (nw b - 1) ≤ b := by rw [Qbs hb]; exact Nat.div_mul_le_self _ _
 refine Nat.le_trans (Nat.mul_le_mul_right _ (Qeu hb).1) ?_
 rw [Nat.mul_right_comm]
 exact Nat.mul_le_mul_right _ h
theorem Qhj {b : Nat} (hb : b ≠ 0) : (shl (Qj b) (sh b)).take (nw b) = wsN (b * 2 ^ sh b) (nw b) := by
 have e : shl (Qj b) (sh b) = wsN (b * 2 ^ sh b) (nw b) ++ [UInt32.ofNat (b * 2 ^ sh b / 4294967296 ^ nw b)] := by
  unfold shl; rw [Yq, show (Qj b).length = nw b from rfl, Y6]
 rw [e, List.take_append_of_le_length (by rw [Qq]; omega), List.take_of_length_le (by rw [Qq]; omega)]
theorem Qgm {b : Nat} (hb : b ≠ 0) : wv (wsN (b * 2 ^ sh b) (nw b)) = b * 2 ^ sh b := JV (Vr hb)
theorem QiZ {b : Nat} (hb : b ≠ 0) : 2147483648 ≤ ((wsN (b * 2 ^ sh b) (nw b)).getD (nw b - 1) 0).toNat := by
 have h0 := Zm hb
 rw [Vm (by omega), UInt32.toNat_ofNat']
 have h1 := (Nat.le_div_iff_mul_le (show 0 < 4294967296 ^ (nw b - 1) from Nat.pow_pos (by omega))).2 (Qio hb)
 have h2 : b * 2 ^ sh b / 4294967296 ^ (nw b - 1) < 4294967296 := by
  rw [Nat.div_lt_iff_lt_mul (Nat.pow_pos (by omega)), ← nw1 hb]; exact Vr hb
 rw [Nat.mod_eq_of_lt h2]; exact h1
def dvU (A V k : Nat) : Nat := A % 4294967296 ^ k + A / 4294967296 ^ k % V * 4294967296 ^ k
theorem Qhg (A V : Nat) : dvU A V 0 = A % V := by simp [dvU, Nat.mod_one]
theorem Qf6 {A V k : Nat} (h : A / 4294967296 ^ k < V) : dvU A V k = A := by
 unfold dvU
 rw [Nat.mod_eq_of_lt h, Nat.mul_comm]
 exact Nat.mod_add_div _ _
theorem QcI (A j : Nat) : A / 4294967296 ^ (j + 1) = A / 4294967296 ^ j / 4294967296 := by rw [Nat.pow_succ, Nat.div_div_eq_div_mul]
theorem Qf4 (A V j : Nat) : dvU A V (j + 1) / 4294967296 ^ j = A / 4294967296 ^ (j + 1) % V * 4294967296 + A / 4294967296 ^ j % 4294967296 := by
 have hp : 0 < 4294967296 ^ j := Nat.pow_pos (by omega)
 unfold dvU
 rw [Zr, Nat.pow_succ (n := 4294967296) (m := j), show ∀ x : Nat, x * (4294967296 ^ j * 4294967296) = 4294967296 ^ j * (x * 4294967296) from fun x => by rw [Nat.mul_left_comm],
  Nat.add_assoc, ← Nat.mul_add, Nat.add_mul_div_left _ _ hp, Nat.div_eq_of_lt (Nat.mod_lt _ hp), Nat.zero_add, Nat.add_comm]
theorem Qkl (A V j : Nat) : dvU A V (j + 1) % 4294967296 ^ j = A % 4294967296 ^ j := by
 unfold dvU
 rw [Nat.pow_succ, show ∀ x : Nat, x * (4294967296 ^ j * 4294967296) = 4294967296 ^ j * (x * 4294967296) from fun x => by rw [Nat.mul_left_comm],
  Nat.add_mul_mod_self_left, Nat.mod_mul_right_mod]
theorem Qhe {A V j : Nat} (hV : 0 < V) : dvU A V (j + 1) / 4294967296 ^ j < V * 4294967296 := by
 rw [Qf4]
 have h1 := Nat.mod_lt (A / 4294967296 ^ (j + 1)) hV
 have h2 := Nat.mod_lt (A / 4294967296 ^ j) (show 0 < 4294967296 by omega)
 have h3 := Nat.mul_le_mul_right 4294967296 (Nat.succ_le_of_lt h1)
 rw [Nat.succ_mul] at h3
 omega
theorem Qkm (A V j : Nat) : A / 4294967296 ^ j = (A / 4294967296 ^ (j + 1) / V * 4294967296) * V + dvU A V (j + 1) / 4294967296 ^ j := by
 rw [Qf4]
 have h1 := Nat.div_add_mod (A / 4294967296 ^ (j + 1)) V
 have h2 := Nat.div_add_mod (A / 4294967296 ^ j) 4294967296
 rw [← QcI] at h2
 generalize A / 4294967296 ^ (j + 1) / V = q at *
 generalize A / 4294967296 ^ (j + 1) % V = r at *
 generalize A / 4294967296 ^ j % 4294967296 = d at *
 rw [← h1] at h2
 rw [← h2, Nat.mul_add, ← Nat.add_assoc]
 congr 1
 congr 1
 ·rw [Nat.mul_comm V q, Nat.mul_comm q 4294967296, Nat.mul_assoc]
 ·rw [Nat.mul_comm]
theorem Qki {A V j : Nat} (hV : 0 < V) : dvU A V (j + 1) / 4294967296 ^ j % V = A / 4294967296 ^ j % V := by
 conv => rhs; rw [Qkm A V j]
 exact (Nat.mul_add_mod_self_right _ _ _).symm
theorem Qkj {A V j : Nat} (hV : 0 < V) : A / V / 4294967296 ^ j = A / V / 4294967296 ^ (j + 1) * 4294967296 + dvU A V (j + 1) / 4294967296 ^ j / V := by
 have c : ∀ k, A / V / 4294967296 ^ k = A / 4294967296 ^ k / V := fun k => by rw [Nat.div_div_eq_div_mul, Nat.div_div_eq_div_mul, Nat.mul_comm]
 rw [c, c]
 conv => lhs; rw [Qkm A V j]
 rw [Nat.add_comm, Nat.add_mul_div_right _ _ hV, Nat.add_comm]
theorem Qf3 {A V j m N : Nat} (hV : V < 4294967296 ^ m) (hV0 : 0 < V) (h : j + (m + 1) ≤ N) : seg (wsN (dvU A V (j + 1)) N) j (m + 1) = dvU A V (j + 1) / 4294967296 ^ j := by
 have e : ((wsN (dvU A V (j + 1)) N).drop j).take (m + 1) = wsN (dvU A V (j + 1) / 4294967296 ^ j) (m + 1) := by
  refine List.ext_getElem (by simp [Qq]; omega) fun i h1 h2 => ?_
  simp only [wsN, List.getElem_take, List.getElem_drop, List.getElem_map, List.getElem_range]
  rw [Nat.pow_add, Nat.div_div_eq_div_mul]
 unfold seg
 rw [e, JV]
 refine Nat.lt_of_lt_of_le (Qhe hV0) ?_
 rw [Nat.pow_succ]
 exact Nat.mul_le_mul_right _ (Nat.le_of_lt hV)
theorem Qkh {A V j m N : Nat} (hV : V < 4294967296 ^ m) (hV0 : 0 < V) (h : j + (m + 1) ≤ N) : Qt (wsN (dvU A V (j + 1)) N) j (wsN (A / 4294967296 ^ j % V) (m + 1)) = wsN (dvU A V j) N := by
 have hlow := Qkl A V j
 have hR : A / 4294967296 ^ j % V < 4294967296 ^ (m + 1) := Nat.lt_of_lt_of_le (Nat.mod_lt _ hV0) (Nat.le_trans (Nat.le_of_lt hV) (Nat.pow_le_pow_right (by omega) (by omega)))
 have hp : 0 < 4294967296 ^ j := Nat.pow_pos (by omega)
 have hl2 : dvU A V j % 4294967296 ^ j = A % 4294967296 ^ j := by unfold dvU; rw [Nat.mul_comm, Nat.add_mul_mod_self_left, Nat.mod_mod]
 have hh2 : dvU A V j / 4294967296 ^ j = A / 4294967296 ^ j % V := by unfold dvU; rw [Nat.mul_comm, Nat.add_mul_div_left _ _ hp, Nat.div_eq_of_lt (Nat.mod_lt _ hp), Nat.zero_add]
 have hbig : dvU A V (j + 1) / 4294967296 ^ j < 4294967296 ^ (m + 1) := Nat.lt_of_lt_of_le (Qhe hV0) (by rw [Nat.pow_succ]; exact Nat.mul_le_mul_right _ (Nat.le_of_lt hV))
 refine List.ext_getElem (by rw [QN (by rw [Qq, Qq]; omega), Qq, Qq]) fun i h1 h2 => ?_
 rw [Qq] at h2
 have word : ∀ x y i : Nat, x / 4294967296 ^ i % 4294967296 = y / 4294967296 ^ i % 4294967296 → UInt32.ofNat (x / 4294967296 ^ i) = UInt32.ofNat (y / 4294967296 ^ i) := fun x y i e => ZT e
 have low : ∀ x i : Nat, i < j → x / 4294967296 ^ i % 4294967296 = x % 4294967296 ^ j / 4294967296 ^ i % 4294967296 := fun x i hi => by
  obtain ⟨d, rfl⟩ : ∃ d, j = i + (d + 1) := ⟨j - i - 1, by omega⟩
  rw [Nat.pow_add, Nat.mod_mul_right_div_self, Nat.pow_succ, Nat.mod_mul_left_mod]
 have high : ∀ x i : Nat, j ≤ i → x / 4294967296 ^ i = x / 4294967296 ^ j / 4294967296 ^ (i - j) := fun x i hi => by
  rw [Nat.div_div_eq_div_mul, ← Nat.pow_add]; congr 2; omega
 by_cases c1 : i < j
 ·simp only [Qt, wsN, List.getElem_append, List.getElem_take, List.getElem_drop, List.getElem_map, List.getElem_range, List.length_append, List.length_take, List.length_map, List.length_range]
  rw [dif_pos (by omega), dif_pos (by omega)]
  exact ZT (by rw [low _ i c1, hlow, low (dvU A V j) i c1, hl2])
 ·by_cases c2 : i < j + (m + 1)
  ·simp only [Qt, wsN, List.getElem_append, List.getElem_take, List.getElem_drop, List.getElem_map, List.getElem_range, List.length_append, List.length_take, List.length_map, List.length_range]
   rw [dif_pos (by omega), dif_neg (by omega)]
   refine ZT ?_
   rw [high (dvU A V j) i (by omega), hh2, show i - min j N = i - j by omega]
  ·simp only [Qt, wsN, List.getElem_append, List.getElem_take, List.getElem_drop, List.getElem_map, List.getElem_range, List.length_append, List.length_take, List.length_map, List.length_range]
   rw [dif_neg (by omega)]
   refine ZT ?_
   have z : ∀ x : Nat, x / 4294967296 ^ j < 4294967296 ^ (m + 1) → x / 4294967296 ^ i = 0 := fun x hx => by
    rw [high x i (by omega)]
    exact Nat.div_eq_of_lt (Nat.lt_of_lt_of_le hx (Nat.pow_le_pow_right (by omega) (by omega)))
   rw [show j + (m + 1) + (i - (min j N + (m + 1))) = i by omega, z _ hbig, z _ (by rw [hh2]; exact hR)]
def dvQ (A V k n : Nat) : List UInt32 := wsN (A / V / 4294967296 ^ k * 4294967296 ^ k) n
theorem Qf7 {A V n : Nat} (h : A / 4294967296 ^ n < V) : List.replicate n 0 = dvQ A V n n := by
 unfold dvQ
 rw [Nat.div_div_eq_div_mul, Nat.mul_comm V, ← Nat.div_div_eq_div_mul, Nat.div_eq_of_lt h, Nat.zero_mul, XK]
theorem Qhh (A V n : Nat) : dvQ A V 0 n = wsN (A / V) n := by simp [dvQ]
theorem Qhi {A V j n : Nat} (hV0 : 0 < V) (hj : j < n) {y : UInt32} (hy : y = UInt32.ofNat (dvU A V (j + 1) / 4294967296 ^ j / V)) : (dvQ A V (j + 1) n).set j y = dvQ A V j n := by
 have hp : 0 < 4294967296 ^ j := Nat.pow_pos (by omega)
 have hq := Qkj (A := A) (j := j) hV0
 have hd : dvU A V (j + 1) / 4294967296 ^ j / V < 4294967296 := by
  rw [Nat.div_lt_iff_lt_mul hV0, Nat.mul_comm]; exact Qhe hV0
 unfold dvQ
 refine QhV hj ?_ ?_ y ?_
 ·rw [Nat.mul_mod_left, Nat.pow_succ, ← Nat.mul_assoc, Nat.mul_right_comm, Nat.mul_mod_left]
 ·rw [Nat.mul_div_cancel _ hp, hq, Nat.pow_succ, ← Nat.mul_assoc, Nat.mul_right_comm, Nat.mul_div_cancel _ hp, ← Nat.pow_succ]
  generalize A / V / 4294967296 ^ (j + 1) = x
  generalize dvU A V (j + 1) / 4294967296 ^ j / V = z at *
  omega
 ·rw [hy, Nat.mul_div_cancel _ hp, hq]
  exact ZT (by omega)
theorem Qag {a b : Nat} (hb : b ≠ 0) (hab : nw b ≤ nw a) : a * 2 ^ sh b / 4294967296 ^ (nw a + 1 - nw b) < b * 2 ^ sh b := by
 have h0 := Zm hb
 rw [Nat.div_lt_iff_lt_mul (Nat.pow_pos (by omega))]
 have h1 := Nat.mul_lt_mul_of_pos_right (Ym a) (show 0 < 2 ^ sh b from Nat.pow_pos (by omega))
 refine Nat.lt_of_lt_of_le h1 ?_
 have h2 := Nat.mul_le_mul_right (2 ^ sh b) (Nat.mul_le_mul_right (4294967296 ^ (nw a + 1 - nw b)) (XZ hb))
 rw [← Nat.pow_add, show nw b - 1 + (nw a + 1 - nw b) = nw a by omega, Nat.mul_right_comm b] at h2
 exact h2
theorem Qja {a : Nat} (s : Nat) : shl (Qj a) s = wsN (a * 2 ^ s) (nw a + 1) := by unfold shl; rw [Yq]; rfl
theorem Qhl {a b n : Nat} (h : a * 2 ^ sh b / 4294967296 ^ n < b * 2 ^ sh b) : wv (wsN (a * 2 ^ sh b / (b * 2 ^ sh b)) n) = a / b := by
 have hp : 0 < 2 ^ sh b := Nat.pow_pos (by omega)
 have e : a * 2 ^ sh b / (b * 2 ^ sh b) = a / b := Nat.mul_div_mul_right _ _ hp
 rw [JV, e]
 rw [Nat.div_lt_iff_lt_mul (Nat.pow_pos (by omega))] at h
 rw [Nat.div_lt_iff_lt_mul (Nat.pos_of_ne_zero fun e => by rw [e, Nat.zero_mul] at h; omega), Nat.mul_comm (4294967296 ^ n)]
 exact h
theorem Qhk (a b : Nat) : a * 2 ^ sh b % (b * 2 ^ sh b) = (a % b) * 2 ^ sh b := Nat.mul_mod_mul_right _ _ _
theorem Qe4 {x s k N : Nat} (hs : s < 32) (hk : k + 1 < N) : UInt32.ofNat (((((wsN (x * 2 ^ s) N).getD (k + 1) 0).toNat * 4294967296) + ((wsN (x * 2 ^ s) N).getD k 0).toNat) / 2 ^ s) = UInt32.ofNat (x / 4294967296 ^ k) := by
 have hp : 0 < 4294967296 ^ k := Nat.pow_pos (by omega)
 have h2 : 0 < 2 ^ s := Nat.pow_pos (by omega)
 rw [Vm hk, Vm (by omega), UInt32.toNat_ofNat', UInt32.toNat_ofNat', QcI]
 refine ZT ?_
 generalize hy : x * 2 ^ s / 4294967296 ^ k = y
 have e1 : y / 4294967296 % 2 ^ 32 * 4294967296 + y % 2 ^ 32 = y % (4294967296 * 4294967296) := by
  rw [Nat.mod_mul, Nat.mul_comm, Nat.add_comm]
 rw [e1]
 have e3 : y / 2 ^ s = x / 4294967296 ^ k := by
  rw [← hy, Nat.div_div_eq_div_mul, Nat.mul_comm (4294967296 ^ k), ← Nat.div_div_eq_div_mul, Nat.mul_div_cancel _ h2]
 have e4 : (4294967296 * 4294967296 : Nat) = 2 ^ s * (4294967296 * 2 ^ (32 - s)) := by
  rw [Nat.mul_left_comm, ← Nat.pow_add, show s + (32 - s) = 32 by omega]
 rw [e4, Nat.mod_mul_right_div_self, Nat.mod_mul_right_mod, e3]
theorem Qg5 {a b k : Nat} (hb : b ≠ 0) (h : k = nw b) : wv (Xc (a % b) k (nw b)) = a % b := by
 subst h
 rw [Qax, JV]
 exact Nat.lt_trans (Nat.mod_lt _ (Nat.pos_of_ne_zero hb)) (Ym b)
theorem Qgk {a : Nat} : (((nw a : Nat) : Int) = 0) ↔ a = 0 := by
 constructor
 ·intro h; by_cases c : a = 0
  ·exact c
  ·have := Zm c; omega
 ·intro h; subst h; rw [Yl]; rfl
theorem US {b : Nat} (h : ((nw b : Nat) : Int) = 1) : ((Qj b).getD 0 0).toNat = b := by
 rw [Jg, Nat.pow_zero, Nat.div_one, Nat.mod_eq_of_lt]
 have := Ym b
 rwa [show nw b = 1 by omega, Nat.pow_one] at this
theorem QeK {a b : Nat} (h : ¬ Jo a b < 0) : nw b ≤ nw a := QW (Qah h)
theorem QjO {b : Nat} (hb : b ≠ 0) : 0 < b * 2 ^ sh b := Nat.mul_pos (Nat.pos_of_ne_zero hb) (Nat.pow_pos (by omega))
theorem Qhf {a b : Nat} (hb : b ≠ 0) (hab : nw b ≤ nw a) : shl (Qj a) (sh b) = wsN (dvU (a * 2 ^ sh b) (b * 2 ^ sh b) (nw a + 1 - nw b)) (nw a + 1) := by
 rw [Qf6 (Qag hb hab), Qja]
theorem Qf5 {a b n : Nat} (hb : b ≠ 0) (hab : nw b ≤ nw a) (hn : n = nw a + 1 - nw b) : List.replicate n 0 = dvQ (a * 2 ^ sh b) (b * 2 ^ sh b) (nw a + 1 - nw b) (nw a + 1 - nw b) := by subst hn; exact Qf7 (Qag hb hab)
theorem Ut (A V k n : Nat) : (dvQ A V k n).length = n := Qq _ _
theorem QiY {A V k m N : Nat} {vs : List UInt32} (hl : vs.length = m) (hw : wv vs = V) (hV : V < 4294967296 ^ m) (hV0 : 0 < V) (hk : 1 ≤ k) (h : k - 1 + (m + 1) ≤ N) :
  Qt (wsN (dvU A V k) N) (k - 1) (wsN (seg (wsN (dvU A V k) N) (k - 1) (vs.length + 1) % wv vs) (vs.length + 1)) = wsN (dvU A V (k - 1)) N := by
 obtain ⟨j, rfl⟩ : ∃ j, k = j + 1 := ⟨k - 1, by omega⟩
 rw [Nat.add_sub_cancel] at h ⊢
 rw [hl, hw, Qf3 hV hV0 h, Qki hV0, Qkh hV hV0 h]
theorem Qlv {A V k m N n : Nat} {vs : List UInt32} (hl : vs.length = m) (hw : wv vs = V) (hV : V < 4294967296 ^ m) (hV0 : 0 < V) (hk : 1 ≤ k) (h : k - 1 + (m + 1) ≤ N) (hn : k ≤ n) :
  (dvQ A V k n).set (k - 1) (UInt32.ofNat (seg (wsN (dvU A V k) N) (k - 1) (vs.length + 1) / wv vs)) = dvQ A V (k - 1) n := by
 obtain ⟨j, rfl⟩ : ∃ j, k = j + 1 := ⟨k - 1, by omega⟩
 rw [Nat.add_sub_cancel] at h ⊢
 rw [hl, hw, Qf3 hV hV0 h]
 exact Qhi hV0 hn rfl
theorem Qkk {A V k m N : Nat} {vs : List UInt32} (hl : vs.length = m) (hw : wv vs = V) (hV : V < 4294967296 ^ m) (hV0 : 0 < V) (hk : 1 ≤ k) (h : k - 1 + (m + 1) ≤ N) :
  seg (wsN (dvU A V k) N) (k - 1) (vs.length + 1) < wv vs * 4294967296 := by
 obtain ⟨j, rfl⟩ : ∃ j, k = j + 1 := ⟨k - 1, by omega⟩
 rw [Nat.add_sub_cancel] at h ⊢
 rw [hl, hw, Qf3 hV hV0 h]
 exact Qhe hV0
theorem QiX {b : Nat} {vs : List UInt32} (hb : b ≠ 0) (hl : vs.length = nw b) (hv : vs = wsN (b * 2 ^ sh b) (nw b)) : 2147483648 ≤ (vs.getD (vs.length - 1) 0).toNat := by
 rw [hl, hv]; exact QiZ hb
theorem Qhc {a b k : Nat} (hk : k = 0) : dvU (a * 2 ^ sh b) (b * 2 ^ sh b) k = (a % b) * 2 ^ sh b := by rw [hk, Qhg, Qhk]
theorem Qhd {a b k : Nat} (hk : k = 0) (hb : b ≠ 0) (hab : nw b ≤ nw a) : wv (dvQ (a * 2 ^ sh b) (b * 2 ^ sh b) k (nw a + 1 - nw b)) = a / b := by rw [hk, Qhh, Qhl (Qag hb hab)]
end Go.Proofs.Ytgfomedobfaidaa
end
