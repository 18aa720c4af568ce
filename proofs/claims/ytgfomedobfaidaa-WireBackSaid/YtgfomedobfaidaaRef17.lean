/-
  The walks of some functions: what each call comes to.
-/
import Derived.Test.YtgfomedobfaidaaEntry
import Derived.Test.YtgfomedobfaidaaNum
import Derived.Test.YtgfomedobfaidaaWnum
set_option linter.unusedVariables false
set_option linter.unusedSimpArgs false
set_option maxRecDepth 100000
namespace Go.Proofs.Ytgfomedobfaidaa
open Go.RowKit

theorem ref17_texts {lab : Lab} {w : World} (hv : Valid lab w) {l : List (List UInt8)} {v0 : Value} (h0 : RowsV l lab w v0) :
    Calls Try.prog 99 #[v0] w (fun e w' => ∃ v, e = .returned v ∧ (And2 (BytesV (if tooMany l 1024 then [] else listB l 1024)) (Is (.bool (!(tooMany l 1024))))) lab w' v ∧ Below w.heap.size w w') := by
  have hv0 := hv.ent
  obtain ⟨zU0, z00⟩ := ent_step lab w
  replace h0 := (RowsV.pers _).step z00 h0
  obtain ⟨A1, c2, rfl⟩ := RowsV.shape h0
  have z3 := RowsV.cap h0
  refine calls_run Try.func99 rfl Try.ntmps99 (Nat.le_of_ble_eq_true rfl) ?_
  refine Run.seq ?_
  refine Run.region ?_
  refine Seq.val (Does.assign rfl) (by decide) ?_
  refine Seq.val (Does.assign rfl) (by decide) ?_
  refine Seq.go (fun _ _ h => h) ?_
  refine Run.seq ?_
  refine Run.seq ?_
  refine Run.region ?_
  refine Seq.val (Does.move rfl) (by decide) ?_
  refine Seq.val (Does.len Try.underlying34 rfl) (by decide) ?_
  refine Seq.val (Does.gtr rfl rfl) (by decide) ?_
  refine Seq.go (fun _ _ h => h) ?_
  rcases bdich (decide ((64 : Int) < (((List.length l : Nat) : Int) : Int))) with hc1 | hc1
  · skip
    have hp1 := of_decide_eq_true hc1
    refine Run.cond_b rfl hc1 ?_
    refine Run.seq ?_
    refine Run.region ?_
    refine Seq.val (Does.assign rfl) (by decide) ?_
    refine Seq.val (Does.assign rfl) (by decide) ?_
    refine Seq.go (fun _ _ h => h) ?_
    have z9 := Stp.refl (ent lab) w
    obtain ⟨zU, zo⟩ := z9.out (by decide) hv
    refine Run.ret (ret_then ?_)
    exact post_two Try.results99 rfl rfl ⟨_, rfl, ⟨_, _, rfl, (BytesV.cast (show ([] : List UInt8) = (if tooMany l 1024 then [] else listB l 1024) from by first | rfl | (rw [if_pos (tooMany_len hp1)]; done) | (rw [tooMany_len hp1]; rfl; done) | (rw [if_pos (tooMany_at (k := k) (by omega) hp3)]; done) | (rw [tooMany_at (k := k) (by omega) hp3]; rfl; done) | (rw [if_neg (by rw [tooMany_no hp1 (k := k) (by omega) hlo]; exact Bool.false_ne_true), List.take_of_length_le (by omega)]; rfl; done) | (rw [tooMany_no hp1 (k := k) (by omega) hlo]; rfl; done) | (simp_all; done) | omega) (BytesV.nil _ _)), (isBool (show (false : Bool) = (!(tooMany l 1024)) from by first | rfl | (rw [if_pos (tooMany_len hp1)]; done) | (rw [tooMany_len hp1]; rfl; done) | (rw [if_pos (tooMany_at (k := k) (by omega) hp3)]; done) | (rw [tooMany_at (k := k) (by omega) hp3]; rfl; done) | (rw [if_neg (by rw [tooMany_no hp1 (k := k) (by omega) hlo]; exact Bool.false_ne_true), List.take_of_length_le (by omega)]; rfl; done) | (rw [tooMany_no hp1 (k := k) (by omega) hlo]; rfl; done) | (simp_all; done) | omega) _ _)⟩, z9.leave (by decide)⟩
  · skip
    have hp1 := of_decide_eq_false hc1
    refine Run.cond_b rfl hc1 ?_
    refine Run.skip_go (fun _ _ h => h) ?_
    refine Run.seq ?_
    refine Run.region ?_
    refine Seq.val (Does.move rfl) (by decide) ?_
    refine Seq.val (Does.len Try.underlying34 rfl) (by decide) ?_
    refine Seq.val (Does.conv_int Try.underlying3 Try.underlying5 rfl ((wrap_i64_u8 _ (by first | omega | (simp; omega) | (rw [hx, hy]; omega))))) (by decide) ?_
    refine Seq.build_app (k := 905) [(0, u8 (UInt8.ofNat (((List.length l : Nat) : Int)).toNat))] (List.map u8 [UInt8.ofNat (((List.length l : Nat) : Int)).toNat]) hv0 Try.underlying22 ty5 (by decide) (by decide) rfl rfl (by kernel_rfl) (by decide) ?_
    intro lab4 w5 v6 o7 s8 hv9
    obtain ⟨A10, c11, rfl⟩ := App.shape o7
    have m12 : List.length ([UInt8.ofNat (((List.length l : Nat) : Int)).toNat]) = 1 := App.lenMap o7
    have z13 := (App.row o7).2
    refine Seq.val (Does.assign rfl) (by decide) ?_
    refine Seq.go (fun _ _ h => h) ?_
    refine Run.seq ?_
    refine Run.seq ?_
    refine Run.region ?_
    refine Seq.val (Does.move rfl) (by decide) ?_
    refine Seq.val (Does.len Try.underlying34 rfl) (by decide) ?_
    refine Seq.val (Does.move rfl) (by decide) ?_
    refine Seq.go (fun _ _ h => h) ?_
    refine Run.block ?_
    refine Run.loop (fun m' l' w' => ∃ (k : Nat) (lab' : Lab) (ux905 : Value), m' = List.length l - k ∧ l' = [(16, i64 ((k : Nat) : Int)), (4, ux905), (0, .slice A1 (List.length l) c2), (7, .slice A1 (List.length l) c2), (8, i64 ((List.length l : Nat) : Int)), (9, .bool (decide ((64 : Int) < (((List.length l : Nat) : Int) : Int)))), (10, .slice A1 (List.length l) c2), (11, i64 ((List.length l : Nat) : Int)), (12, u8 (UInt8.ofNat (((List.length l : Nat) : Int)).toNat)), (14, .slice A1 (List.length l) c2), (15, i64 ((List.length l : Nat) : Int))] ∧ Valid lab' w' ∧ Stp [905] lab4 w5 lab' w' ∧ App lab' w' 905 5 ux905 (List.length (be (u64i (List.length l)) 1 ++ flat (List.take k l) 1024)) (List.map u8 (be (u64i (List.length l)) 1 ++ flat (List.take k l) 1024)) ∧ (k ≤ List.length l) ∧ (long (List.take k l) 1024 = false)) (List.length l - 0) (l0 := [(16, i64 ((0 : Nat) : Int)), (4, .slice A10 (1) c11), (0, .slice A1 (List.length l) c2), (7, .slice A1 (List.length l) c2), (8, i64 ((List.length l : Nat) : Int)), (9, .bool (decide ((64 : Int) < (((List.length l : Nat) : Int) : Int)))), (10, .slice A1 (List.length l) c2), (11, i64 ((List.length l : Nat) : Int)), (12, u8 (UInt8.ofNat (((List.length l : Nat) : Int)).toNat)), (14, .slice A1 (List.length l) c2), (15, i64 ((List.length l : Nat) : Int))]) ⟨(congrArg (fun z => some (i64 z)) (show (0 : Int) = ((0 : Nat) : Int) from by first | rfl | omega | (rw [← List.length_append, listB_step (by omega) hp3]) | (rw [← listB_start _ hp1]; rfl))), rfl, rfl, rfl, rfl, rfl, rfl, rfl, rfl, rfl, rfl, trivial⟩ ⟨0, lab4, (.slice A10 (1) c11), rfl, rfl, hv9, ((Stp.refl _ _).more (by simp)), (appCast (show [UInt8.ofNat (((List.length l : Nat) : Int)).toNat] = be (u64i (List.length l)) 1 ++ flat (List.take 0 l) 1024 from by first | rfl | (exact listB_start _ hp1) | (exact listB_step (by omega) hp3 _)) (show 1 = List.length (be (u64i (List.length l)) 1 ++ flat (List.take 0 l) 1024) from by first | rfl | omega | (rw [← List.length_append, listB_step (by omega) hp3]) | (rw [← listB_start _ hp1]; rfl)) o7), (by first | omega | rfl | (exact long_step (by omega) hp3 hlo) | (simp at *; omega)), (by first | omega | rfl | (exact long_step (by omega) hp3 hlo) | (simp at *; omega))⟩ ?_
    intro m14 l15 w16 H17
    obtain ⟨k, lab18, v21, hzm, rfl, hv19, s20, o22, hk, hlo⟩ := H17
    replace hzm := hzm.symm; subst hzm
    obtain ⟨A23, c24, rfl⟩ := App.shape o22
    have m25 : List.length (be (u64i (List.length l)) 1 ++ flat (List.take k l) 1024) = List.length (be (u64i (List.length l)) 1 ++ flat (List.take k l) 1024) := App.lenMap o22
    have z26 := (App.row o22).2
    have hf := flat_le (List.take k l) (most := 1024) (by omega)
    have ht : (List.take k l).length = k := by rw [List.length_take]; omega
    have hx := wlen [] (u64i (List.length l)) (flat (List.take k l) 1024)
    have hy := textB_length (List.getD l k [])
    simp only [List.nil_append, List.length_nil] at hx
    refine Run.seq ?_
    refine Run.region ?_
    refine Seq.val (Does.lss rfl rfl) (by decide) ?_
    refine Seq.go (fun _ _ h => h) ?_
    refine Run.seq ?_
    rcases bdich (decide ((((k : Nat) : Int) : Int) < (((List.length l : Nat) : Int) : Int))) with hc2 | hc2
    · skip
      have hp2 := of_decide_eq_true hc2
      refine Run.cond_b rfl hc2 ?_
      refine Run.skip_go (fun _ _ h => h) ?_
      refine Run.seq ?_
      refine Run.block ?_
      refine Run.seq ?_
      refine Run.region ?_
      have c34 := s8.trans s20
      have q33 := (RowsV.pers _).step c34 h0
      obtain ⟨vs27, u28, m29, r30, q31, q32⟩ := RowsV.at_ q33 k (by first | omega | (simp; omega) | (rw [hx, hy]; omega))
      obtain ⟨A35, c36, rfl⟩ := BytesV.shape q32
      have z37 := BytesV.cap q32
      refine Seq.val (Does.index_row k Try.underlying34 ty22 rfl rfl r30 m29 (by first | omega | (simp; omega) | (rw [hx, hy]; omega)) (by first | omega | (simp; omega) | (rw [hx, hy]; omega))) (by decide) ?_
      refine Seq.val (Does.load_row ty22 rfl r30 q31) (by decide) ?_
      refine Seq.val (Does.assign rfl) (by decide) ?_
      refine Seq.go (fun _ _ h => h) ?_
      refine Run.seq ?_
      refine Run.seq ?_
      refine Run.region ?_
      refine Seq.val (Does.move rfl) (by decide) ?_
      refine Seq.val (Does.len Try.underlying22 rfl) (by decide) ?_
      refine Seq.val (Does.gtr rfl rfl) (by decide) ?_
      refine Seq.go (fun _ _ h => h) ?_
      rcases bdich (decide ((1024 : Int) < (((List.length (List.getD l k []) : Nat) : Int) : Int))) with hc3 | hc3
      · skip
        have hp3 := of_decide_eq_true hc3
        refine Run.cond_b rfl hc3 ?_
        refine Run.seq ?_
        refine Run.region ?_
        refine Seq.val (Does.assign rfl) (by decide) ?_
        refine Seq.val (Does.assign rfl) (by decide) ?_
        refine Seq.go (fun _ _ h => h) ?_
        obtain ⟨zU, zo⟩ := c34.out (by decide) hv
        refine Run.ret (ret_then (ret_block (ret_then (ret_then (ret_block (ret_then ?_))))))
        exact post_two Try.results99 rfl rfl ⟨_, rfl, ⟨_, _, rfl, (BytesV.cast (show ([] : List UInt8) = (if tooMany l 1024 then [] else listB l 1024) from by first | rfl | (rw [if_pos (tooMany_len hp1)]; done) | (rw [tooMany_len hp1]; rfl; done) | (rw [if_pos (tooMany_at (k := k) (by omega) hp3)]; done) | (rw [tooMany_at (k := k) (by omega) hp3]; rfl; done) | (rw [if_neg (by rw [tooMany_no hp1 (k := k) (by omega) hlo]; exact Bool.false_ne_true), List.take_of_length_le (by omega)]; rfl; done) | (rw [tooMany_no hp1 (k := k) (by omega) hlo]; rfl; done) | (simp_all; done) | omega) (BytesV.nil _ _)), (isBool (show (false : Bool) = (!(tooMany l 1024)) from by first | rfl | (rw [if_pos (tooMany_len hp1)]; done) | (rw [tooMany_len hp1]; rfl; done) | (rw [if_pos (tooMany_at (k := k) (by omega) hp3)]; done) | (rw [tooMany_at (k := k) (by omega) hp3]; rfl; done) | (rw [if_neg (by rw [tooMany_no hp1 (k := k) (by omega) hlo]; exact Bool.false_ne_true), List.take_of_length_le (by omega)]; rfl; done) | (rw [tooMany_no hp1 (k := k) (by omega) hlo]; rfl; done) | (simp_all; done) | omega) _ _)⟩, c34.leave (by decide)⟩
      · skip
        have hp3 := of_decide_eq_false hc3
        refine Run.cond_b rfl hc3 ?_
        refine Run.skip_go (fun _ _ h => h) ?_
        refine Run.region ?_
        refine Seq.val (Does.move rfl) (by decide) ?_
        refine Seq.val (Does.move rfl) (by decide) ?_
        refine Seq.callS (V := BytesV (textB (List.getD l k []))) cal92 hv19 rfl (by decide) (ref17_text hv19 q32 (show List.length (List.getD l k []) ≤ 60000 from by first | omega)) ?_
        intro v38 w39 q40 s41 hv42
        obtain ⟨A43, c44, rfl⟩ := BytesV.shape q40
        have z45 := BytesV.cap q40
        have o46 := o22.lift s41 (by decide)
        refine Seq.append (k := 905) (List.map u8 (textB (List.getD l k []))) hv42 o46 Try.underlying22 ty5 rfl rfl rfl (by simp) (BytesV.row q40) oneCell_u8 (by first | omega | (simp; omega) | (rw [hx, hy]; omega)) (by first | omega | (simp; omega) | (rw [hx, hy]; omega)) (by decide) ?_
        intro lab47 w48 v49 o50 s51 hv52
        rw [← List.map_append] at o50
        obtain ⟨A53, c54, rfl⟩ := App.shape o50
        have m55 : List.length (be (u64i (List.length l)) 1 ++ flat (List.take k l) 1024 ++ (textB (List.getD l k []))) = List.length (be (u64i (List.length l)) 1 ++ flat (List.take k l) 1024) + (List.length (textB (List.getD l k []))) := App.lenMap o50
        have z56 := (App.row o50).2
        refine Seq.val (Does.assign rfl) (by decide) ?_
        refine Seq.go (fun _ _ h => h) ?_
        refine Run.region ?_
        refine Seq.val (Does.add rfl rfl (by first | omega | (simp; omega) | (rw [hx, hy]; omega))) (by decide) ?_
        refine Seq.val (Does.move rfl) (by decide) ?_
        have c57 := s41.trans s51
        have c58 := s20.trans c57
        exact Seq.nil (fun a59 h60 => ⟨_, by omega, _, h60.weaken (subs_lk (l' := [(16, i64 (((k + 1) : Nat) : Int)), (4, .slice A53 (List.length (be (u64i (List.length l)) 1 ++ flat (List.take k l) 1024) + (List.length (textB (List.getD l k [])))) c54), (0, .slice A1 (List.length l) c2), (7, .slice A1 (List.length l) c2), (8, i64 ((List.length l : Nat) : Int)), (9, .bool (decide ((64 : Int) < (((List.length l : Nat) : Int) : Int)))), (10, .slice A1 (List.length l) c2), (11, i64 ((List.length l : Nat) : Int)), (12, u8 (UInt8.ofNat (((List.length l : Nat) : Int)).toNat)), (14, .slice A1 (List.length l) c2), (15, i64 ((List.length l : Nat) : Int))]) ⟨(congrArg (fun z => some (i64 z)) (show (((k : Nat) : Int) + 1 : Int) = (((k + 1) : Nat) : Int) from by first | rfl | omega | (rw [← List.length_append, listB_step (by omega) hp3]) | (rw [← listB_start _ hp1]; rfl))), rfl, rfl, rfl, rfl, rfl, rfl, rfl, rfl, rfl, rfl, trivial⟩), ⟨k + 1, lab47, (.slice A53 (List.length (be (u64i (List.length l)) 1 ++ flat (List.take k l) 1024) + (List.length (textB (List.getD l k [])))) c54), rfl, rfl, hv52, (c58.more (by decide)), (appCast (show be (u64i (List.length l)) 1 ++ flat (List.take k l) 1024 ++ (textB (List.getD l k [])) = be (u64i (List.length l)) 1 ++ flat (List.take (k + 1) l) 1024 from by first | rfl | (exact listB_start _ hp1) | (exact listB_step (by omega) hp3 _)) (show List.length (be (u64i (List.length l)) 1 ++ flat (List.take k l) 1024) + (List.length (textB (List.getD l k []))) = List.length (be (u64i (List.length l)) 1 ++ flat (List.take (k + 1) l) 1024) from by first | rfl | omega | (rw [← List.length_append, listB_step (by omega) hp3]) | (rw [← listB_start _ hp1]; rfl)) o50), (by first | omega | rfl | (exact long_step (by omega) hp3 hlo) | (simp at *; omega)), (by first | omega | rfl | (exact long_step (by omega) hp3 hlo) | (simp at *; omega))⟩⟩)
    · skip
      have hp2 := of_decide_eq_false hc2
      refine Run.cond_b rfl hc2 ?_
      refine Run.exit_go (fun _ _ h => h) ?_
      refine Run.seq ?_
      refine Run.region ?_
      refine Seq.val (Does.move rfl) (by decide) ?_
      refine Seq.val (Does.assign rfl) (by decide) ?_
      refine Seq.val (Does.assign rfl) (by decide) ?_
      refine Seq.go (fun _ _ h => h) ?_
      have c61 := s8.trans s20
      obtain ⟨zU, zo⟩ := c61.out (by decide) hv
      have hv62 := Valid.release hv19 905
      have m64 : List.length (be (u64i (List.length l)) 1 ++ flat (List.take k l) 1024) = List.length (be (u64i (List.length l)) 1 ++ flat (List.take k l) 1024) := App.lenMap o22
      have q63 : BytesV (be (u64i (List.length l)) 1 ++ flat (List.take k l) 1024) (labFree lab18 905) w16 (.slice A23 (List.length (be (u64i (List.length l)) 1 ++ flat (List.take k l) 1024)) c24) := ⟨_, _, (by first | (rw [m64]; done) | rw [← m64]), (by have h9 := (App.row o22).2.1; first | (rw [m64]; exact h9) | (rw [← m64] at h9; exact h9)), (App.row o22).2.2, (App.row o22).1⟩
      have c65 := c61.trans (Stp.release (lab := lab18) (w := w16) 905)
      obtain ⟨zU, zo⟩ := c65.out (by decide) hv
      refine Run.ret ?_
      exact post_two Try.results99 rfl rfl ⟨_, rfl, ⟨_, _, rfl, (BytesV.cast (show (be (u64i (List.length l)) 1 ++ flat (List.take k l) 1024) = (if tooMany l 1024 then [] else listB l 1024) from by first | rfl | (rw [if_pos (tooMany_len hp1)]; done) | (rw [tooMany_len hp1]; rfl; done) | (rw [if_pos (tooMany_at (k := k) (by omega) hp3)]; done) | (rw [tooMany_at (k := k) (by omega) hp3]; rfl; done) | (rw [if_neg (by rw [tooMany_no hp1 (k := k) (by omega) hlo]; exact Bool.false_ne_true), List.take_of_length_le (by omega)]; rfl; done) | (rw [tooMany_no hp1 (k := k) (by omega) hlo]; rfl; done) | (simp_all; done) | omega) ((BytesV.pers _).step zo q63)), (isBool (show (true : Bool) = (!(tooMany l 1024)) from by first | rfl | (rw [if_pos (tooMany_len hp1)]; done) | (rw [tooMany_len hp1]; rfl; done) | (rw [if_pos (tooMany_at (k := k) (by omega) hp3)]; done) | (rw [tooMany_at (k := k) (by omega) hp3]; rfl; done) | (rw [if_neg (by rw [tooMany_no hp1 (k := k) (by omega) hlo]; exact Bool.false_ne_true), List.take_of_length_le (by omega)]; rfl; done) | (rw [tooMany_no hp1 (k := k) (by omega) hlo]; rfl; done) | (simp_all; done) | omega) _ _)⟩, c65.leave (by decide)⟩

theorem ref01_BytesAll {lab : Lab} {w : World} (hv : Valid lab w) {n : List Bool} {v0 : Value} (h0 : BitsV n lab w v0) {size : Int} (hl : List.length n ≤ 1000000000) (h0s : 0 ≤ size ∧ size ≤ 10000000) (hs : size = ((List.length n : Int) + 7) / 8) :
    Calls Try.prog 124 #[v0, i64 size] w (fun e w' => ∃ v, e = .returned v ∧ (And2 (BytesV (beN (bval n) ((List.length n + 7) / 8))) (Is (.bool true))) lab w' v ∧ Below w.heap.size w w') := by
  have hv0 := hv.ent
  obtain ⟨zU0, z00⟩ := ent_step lab w
  replace h0 := (BitsV.pers _).step z00 h0
  obtain ⟨A1, c2, rfl⟩ := BitsV.shape h0
  have z3 := BitsV.cap h0
  refine calls_run Try.func124 rfl Try.ntmps124 (Nat.le_of_ble_eq_true rfl) ?_
  refine Run.seq ?_
  refine Run.region ?_
  refine Seq.val (Does.assign rfl) (by decide) ?_
  refine Seq.val (Does.assign rfl) (by decide) ?_
  refine Seq.go (fun _ _ h => h) ?_
  refine Run.seq ?_
  refine Run.seq ?_
  refine Run.region ?_
  refine Seq.val (Does.move rfl) (by decide) ?_
  refine Seq.val (Does.len Try.underlying79 rfl) (by decide) ?_
  refine Seq.val (Does.add rfl rfl (by first | omega | (simp; omega) | (simp at *; omega))) (by decide) ?_
  refine Seq.val (Does.quo rfl rfl (by first | omega | (simp; omega) | (simp at *; omega)) (by first | omega | (simp; omega) | (simp at *; omega)) (by first | omega | (simp; omega) | (simp at *; omega))) (by decide) ?_
  refine Seq.val (Does.move rfl) (by decide) ?_
  refine Seq.val (Does.gtr rfl rfl) (by decide) ?_
  refine Seq.go (fun _ _ h => h) ?_
  rcases bdich (decide ((size : Int) < ((((List.length n : Nat) : Int) + 7) / 8 : Int))) with hc1 | hc1
  · skip
    have hp1 := of_decide_eq_true hc1
    refine Run.cond_b rfl hc1 ?_
    refine Run.seq ?_
    refine Run.region ?_
    refine Seq.val (Does.assign rfl) (by decide) ?_
    refine Seq.val (Does.assign rfl) (by decide) ?_
    refine Seq.go (fun _ _ h => h) ?_
    have z9 := Stp.refl (ent lab) w
    obtain ⟨zU, zo⟩ := z9.out (by decide) hv
    refine Run.ret (ret_then ?_)
    exact post_two Try.results124 rfl rfl ⟨_, rfl, ⟨_, _, rfl, (BytesV.cast (show ([] : List UInt8) = (beN (bval n) ((List.length n + 7) / 8)) from by first | rfl | (exact absurd hp1 (by omega); done) | (rw [List.take_of_length_le (by omega), show Int.toNat size = (List.length n + 7) / 8 by omega]; done) | (simp_all; done) | omega) (BytesV.nil _ _)), (isBool (show (false : Bool) = true from by first | rfl | (exact absurd hp1 (by omega); done) | (rw [List.take_of_length_le (by omega), show Int.toNat size = (List.length n + 7) / 8 by omega]; done) | (simp_all; done) | omega) _ _)⟩, z9.leave (by decide)⟩
  · skip
    have hp1 := of_decide_eq_false hc1
    refine Run.cond_b rfl hc1 ?_
    refine Run.skip_go (fun _ _ h => h) ?_
    refine Run.seq ?_
    refine Run.region ?_
    refine Seq.val (Does.move rfl) (by decide) ?_
    refine Seq.make_row (k := 17) u8 (0 : UInt8) ((size).toNat) hv0 Try.underlying22 ty5 rfl rfl rfl (by first | omega | (simp; omega) | (simp at *; omega)) (by first | omega | (simp; omega) | (simp at *; omega)) (by first | omega | (simp; omega) | (simp at *; omega)) (by first | omega | (simp; omega) | (simp at *; omega)) (by decide) ?_
    intro lab4 w5 b6 o7 s8 hv9
    refine Seq.val (Does.assign rfl) (by decide) ?_
    refine Seq.go (fun _ _ h => h) ?_
    refine Run.seq ?_
    refine Run.seq ?_
    refine Run.region ?_
    refine Seq.val (Does.move rfl) (by decide) ?_
    refine Seq.val (Does.len Try.underlying79 rfl) (by decide) ?_
    refine Seq.val (Does.move rfl) (by decide) ?_
    refine Seq.go (fun _ _ h => h) ?_
    refine Run.block ?_
    refine Run.loop (fun m' l' w' => ∃ (k : Nat) (lab' : Lab), m' = List.length n - k ∧ l' = [(19, i64 ((k : Nat) : Int)), (0, .slice A1 (List.length n) c2), (1, i64 size), (4, .slice none 0 0), (5, .bool false), (9, .slice A1 (List.length n) c2), (10, i64 ((List.length n : Nat) : Int)), (11, i64 (((List.length n : Nat) : Int) + 7)), (12, i64 ((((List.length n : Nat) : Int) + 7) / 8)), (13, i64 size), (14, .bool (decide ((size : Int) < ((((List.length n : Nat) : Int) + 7) / 8 : Int)))), (15, i64 size), (16, .slice (some ⟨b6, 0, none⟩) ((size).toNat) ((size).toNat)), (6, .slice (some ⟨b6, 0, none⟩) ((size).toNat) ((size).toNat)), (17, .slice A1 (List.length n) c2), (18, i64 ((List.length n : Nat) : Int))] ∧ Valid lab' w' ∧ Stp [17] lab4 w5 lab' w' ∧ Own lab' w' 17 b6 5 (List.map u8 (beN (bval (List.take k n)) (Int.toNat size))).toArray ∧ (k ≤ List.length n)) (List.length n - 0) (l0 := [(19, i64 ((0 : Nat) : Int)), (0, .slice A1 (List.length n) c2), (1, i64 size), (4, .slice none 0 0), (5, .bool false), (9, .slice A1 (List.length n) c2), (10, i64 ((List.length n : Nat) : Int)), (11, i64 (((List.length n : Nat) : Int) + 7)), (12, i64 ((((List.length n : Nat) : Int) + 7) / 8)), (13, i64 size), (14, .bool (decide ((size : Int) < ((((List.length n : Nat) : Int) + 7) / 8 : Int)))), (15, i64 size), (16, .slice (some ⟨b6, 0, none⟩) ((size).toNat) ((size).toNat)), (6, .slice (some ⟨b6, 0, none⟩) ((size).toNat) ((size).toNat)), (17, .slice A1 (List.length n) c2), (18, i64 ((List.length n : Nat) : Int))]) ⟨(congrArg (fun z => some (i64 z)) (show (0 : Int) = ((0 : Nat) : Int) from by first | rfl | omega | (simp; done) | (simp <;> omega))), rfl, rfl, rfl, rfl, rfl, rfl, rfl, rfl, rfl, rfl, rfl, rfl, rfl, rfl, rfl, trivial⟩ ⟨0, lab4, rfl, rfl, hv9, ((Stp.refl _ _).more (by simp)), ((show List.replicate ((size).toNat) (0 : UInt8) = beN (bval (List.take 0 n)) (Int.toNat size) from by first | rfl | (exact (beN_zero _).symm) | (exact (refbytes_skip (by omega) hc3).symm) | (exact refbytes_step h0s.1 (by omega) (by omega) hc3)) ▸ o7), (by first | omega | (simp at *; omega))⟩ ?_
    intro m10 l11 w12 H13
    obtain ⟨k, lab14, hzm, rfl, hv15, s16, o17, hk⟩ := H13
    replace hzm := hzm.symm; subst hzm
    have hL := beN_length (bval (List.take k n)) (Int.toNat size)
    refine Run.seq ?_
    refine Run.region ?_
    refine Seq.val (Does.lss rfl rfl) (by decide) ?_
    refine Seq.go (fun _ _ h => h) ?_
    refine Run.seq ?_
    rcases bdich (decide ((((k : Nat) : Int) : Int) < (((List.length n : Nat) : Int) : Int))) with hc2 | hc2
    · skip
      have hp2 := of_decide_eq_true hc2
      refine Run.cond_b rfl hc2 ?_
      refine Run.skip_go (fun _ _ h => h) ?_
      refine Run.seq ?_
      refine Run.block ?_
      refine Run.seq ?_
      refine Run.region ?_
      refine Seq.val (Does.move rfl) (by decide) ?_
      have c19 := s8.trans s16
      have q18 := (BitsV.pers _).step c19 h0
      refine Seq.val (Does.index_row k Try.underlying79 ty4 rfl rfl (BitsV.row q18) (by first | (simp [nw]; done) | (simp; omega)) (by first | omega | (simp; omega) | (simp at *; omega)) (by first | omega | (simp; omega) | (simp at *; omega))) (by decide) ?_
      refine Seq.val (Does.load_row ty4 rfl (BitsV.row q18) (map_get Value.bool _ false (by first | omega | (simp [beN_length]; omega) | (simp at *; omega)))) (by decide) ?_
      refine Seq.val (Does.assign rfl) (by decide) ?_
      refine Seq.val (Does.assign rfl) (by decide) ?_
      refine Seq.go (fun _ _ h => h) ?_
      refine Run.seq ?_
      refine Run.region ?_
      refine Seq.val (Does.move rfl) (by decide) ?_
      refine Seq.go (fun _ _ h => h) ?_
      rcases bdich (List.getD n k false) with hc3 | hc3
      · skip
        refine Run.cond_b rfl hc3 ?_
        refine Run.any (m := 12) mixed (by kernel_rfl) hv15 (phi [Is (.slice (some ⟨b6, 0, none⟩) ((size).toNat) ((size).toNat)), Is (i64 size), Is (i64 (size - 1)), Is (i64 ((k : Nat) : Int)), Is (i64 (((k : Nat) : Int) / 8)), Is (i64 ((size - 1) - (((k : Nat) : Int) / 8))), Is (.pointer (some ⟨b6, (((size - 1) - (((k : Nat) : Int) / 8)).toNat) * 1, none⟩)), Is (u8 (List.getD (beN (bval (List.take k n)) (Int.toNat size)) (((size - 1) - (((k : Nat) : Int) / 8)).toNat) (0 : UInt8))), Is (i64 ((k : Nat) : Int)), Is (i64 (((k : Nat) : Int) % 8)), Is (u8 ((1 : UInt8) <<< UInt8.ofNat (((k : Nat) : Int) % 8).toNat)), Is (u8 ((List.getD (beN (bval (List.take k n)) (Int.toNat size)) (((size - 1) - (((k : Nat) : Int) / 8)).toNat) (0 : UInt8)) + ((1 : UInt8) <<< UInt8.ofNat (((k : Nat) : Int) % 8).toNat)))]) (phi_pers (L := [Is (.slice (some ⟨b6, 0, none⟩) ((size).toNat) ((size).toNat)), Is (i64 size), Is (i64 (size - 1)), Is (i64 ((k : Nat) : Int)), Is (i64 (((k : Nat) : Int) / 8)), Is (i64 ((size - 1) - (((k : Nat) : Int) / 8))), Is (.pointer (some ⟨b6, (((size - 1) - (((k : Nat) : Int) / 8)).toNat) * 1, none⟩)), Is (u8 (List.getD (beN (bval (List.take k n)) (Int.toNat size)) (((size - 1) - (((k : Nat) : Int) / 8)).toNat) (0 : UInt8))), Is (i64 ((k : Nat) : Int)), Is (i64 (((k : Nat) : Int) % 8)), Is (u8 ((1 : UInt8) <<< UInt8.ofNat (((k : Nat) : Int) % 8).toNat)), Is (u8 ((List.getD (beN (bval (List.take k n)) (Int.toNat size)) (((size - 1) - (((k : Nat) : Int) / 8)).toNat) (0 : UInt8)) + ((1 : UInt8) <<< UInt8.ofNat (((k : Nat) : Int) % 8).toNat)))]) ⟨Pers.z (Is.pers _), Pers.z (Is.pers _), Pers.z (Is.pers _), Pers.z (Is.pers _), Pers.z (Is.pers _), Pers.z (Is.pers _), Pers.z (Is.pers _), Pers.z (Is.pers _), Pers.z (Is.pers _), Pers.z (Is.pers _), Pers.z (Is.pers _), Pers.z (Is.pers _), trivial⟩) ?_ ?_
        · intro wz z0
          refine laws (n := 12) ⟨?_, ?_, ?_, ?_, ?_, ?_, ?_, ?_, ?_, ?_, ?_, ?_, trivial⟩
          · refine law_val rfl (by decide) fun lab20 w21 a22 hv23 s24 f25 d26 => ?_
            exact ⟨_, _, _, _, f25, Does.move rfl, hv23, Stp.refl _ _, rfl⟩
          · refine law_val rfl (by decide) fun lab27 w28 a29 hv30 s31 f32 d33 => ?_
            exact ⟨_, _, _, _, f32, Does.move rfl, hv30, Stp.refl _ _, rfl⟩
          · refine law_val rfl (by decide) fun lab34 w35 a36 hv37 s38 f39 d40 => ?_
            obtain ⟨v41, e42, q43⟩ := d40 1 rfl 26 rfl
            replace q43 : (Is (i64 size)) lab34 w35 v41 := q43
            replace q43 := Is.out q43; subst q43
            have f44 := f39.ext e42
            exact ⟨_, _, _, _, f44, Does.sub rfl rfl (by first | omega | (simp; omega) | (simp at *; omega)), hv37, Stp.refl _ _, rfl⟩
          · refine law_val rfl (by decide) fun lab45 w46 a47 hv48 s49 f50 d51 => ?_
            exact ⟨_, _, _, _, f50, Does.move rfl, hv48, Stp.refl _ _, rfl⟩
          · refine law_val rfl (by decide) fun lab52 w53 a54 hv55 s56 f57 d58 => ?_
            obtain ⟨v59, e60, q61⟩ := d58 3 rfl 28 rfl
            replace q61 : (Is (i64 ((k : Nat) : Int))) lab52 w53 v59 := q61
            replace q61 := Is.out q61; subst q61
            have f62 := f57.ext e60
            exact ⟨_, _, _, _, f62, Does.quo rfl rfl (by first | omega | (simp; omega) | (simp at *; omega)) (by first | omega | (simp; omega) | (simp at *; omega)) (by first | omega | (simp; omega) | (simp at *; omega)), hv55, Stp.refl _ _, rfl⟩
          · refine law_val rfl (by decide) fun lab63 w64 a65 hv66 s67 f68 d69 => ?_
            obtain ⟨v70, e71, q72⟩ := d69 2 rfl 27 rfl
            replace q72 : (Is (i64 (size - 1))) lab63 w64 v70 := q72
            replace q72 := Is.out q72; subst q72
            have f73 := f68.ext e71
            obtain ⟨v74, e75, q76⟩ := d69 4 rfl 29 rfl
            replace q76 : (Is (i64 (((k : Nat) : Int) / 8))) lab63 w64 v74 := q76
            replace q76 := Is.out q76; subst q76
            have f77 := f73.ext e75
            exact ⟨_, _, _, _, f77, Does.sub rfl rfl (by first | omega | (simp; omega) | (simp at *; omega)), hv66, Stp.refl _ _, rfl⟩
          · refine law_val rfl (by decide) fun lab78 w79 a80 hv81 s82 f83 d84 => ?_
            obtain ⟨v85, e86, q87⟩ := d84 0 rfl 25 rfl
            replace q87 : (Is (.slice (some ⟨b6, 0, none⟩) ((size).toNat) ((size).toNat))) lab78 w79 v85 := q87
            replace q87 := Is.out q87; subst q87
            have f88 := f83.ext e86
            obtain ⟨v89, e90, q91⟩ := d84 5 rfl 30 rfl
            replace q91 : (Is (i64 ((size - 1) - (((k : Nat) : Int) / 8)))) lab78 w79 v89 := q91
            replace q91 := Is.out q91; subst q91
            have f92 := f88.ext e90
            exact ⟨_, _, _, _, f92, Does.index_own (((size - 1) - (((k : Nat) : Int) / 8)).toNat) Try.underlying22 ty5 rfl rfl (by first | omega | (simp; omega) | (simp at *; omega)) (by first | omega | (simp; omega) | (simp at *; omega)), hv81, Stp.refl _ _, rfl⟩
          · refine law_val rfl (by decide) fun lab93 w94 a95 hv96 s97 f98 d99 => ?_
            obtain ⟨v100, e101, q102⟩ := d99 6 rfl 31 rfl
            replace q102 : (Is (.pointer (some ⟨b6, (((size - 1) - (((k : Nat) : Int) / 8)).toNat) * 1, none⟩))) lab93 w94 v100 := q102
            replace q102 := Is.out q102; subst q102
            have f103 := f98.ext e101
            have o104 := o17.lift (z0.trans s97) (by decide)
            exact ⟨_, _, _, _, f103, Does.load_own1 o104 ty5 rfl (by rw [Nat.mul_one]; exact row_get u8 _ (0 : UInt8) (by first | omega | (simp [beN_length]; omega) | (simp at *; omega))), hv96, Stp.refl _ _, rfl⟩
          · refine law_val rfl (by decide) fun lab105 w106 a107 hv108 s109 f110 d111 => ?_
            exact ⟨_, _, _, _, f110, Does.move rfl, hv108, Stp.refl _ _, rfl⟩
          · refine law_val rfl (by decide) fun lab112 w113 a114 hv115 s116 f117 d118 => ?_
            obtain ⟨v119, e120, q121⟩ := d118 8 rfl 33 rfl
            replace q121 : (Is (i64 ((k : Nat) : Int))) lab112 w113 v119 := q121
            replace q121 := Is.out q121; subst q121
            have f122 := f117.ext e120
            exact ⟨_, _, _, _, f122, Does.rem rfl rfl (by first | omega | (simp; omega) | (simp at *; omega)) (by first | omega | (simp; omega) | (simp at *; omega)), hv115, Stp.refl _ _, rfl⟩
          · refine law_val rfl (by decide) fun lab123 w124 a125 hv126 s127 f128 d129 => ?_
            obtain ⟨v130, e131, q132⟩ := d129 9 rfl 34 rfl
            replace q132 : (Is (i64 (((k : Nat) : Int) % 8))) lab123 w124 v130 := q132
            replace q132 := Is.out q132; subst q132
            have f133 := f128.ext e131
            exact ⟨_, _, _, _, f133, Does.u8_shl (a := (1 : UInt8)) rfl rfl (by first | omega | (simp; omega) | (simp at *; omega)) (by first | omega | (simp; omega) | (simp at *; omega)), hv126, Stp.refl _ _, rfl⟩
          · refine law_val rfl (by decide) fun lab134 w135 a136 hv137 s138 f139 d140 => ?_
            obtain ⟨v141, e142, q143⟩ := d140 7 rfl 32 rfl
            replace q143 : (Is (u8 (List.getD (beN (bval (List.take k n)) (Int.toNat size)) (((size - 1) - (((k : Nat) : Int) / 8)).toNat) (0 : UInt8)))) lab134 w135 v141 := q143
            replace q143 := Is.out q143; subst q143
            have f144 := f139.ext e142
            obtain ⟨v145, e146, q147⟩ := d140 10 rfl 35 rfl
            replace q147 : (Is (u8 ((1 : UInt8) <<< UInt8.ofNat (((k : Nat) : Int) % 8).toNat))) lab134 w135 v145 := q147
            replace q147 := Is.out q147; subst q147
            have f148 := f144.ext e146
            exact ⟨_, _, _, _, f148, Does.u8_add rfl rfl, hv137, Stp.refl _ _, rfl⟩
        · skip
          intro lab149 w150 a151 hv152 s153 f154 hl155
          obtain ⟨v156, e157, q158⟩ := hl155 0 (by decide) 25 rfl
          replace q158 : (Is (.slice (some ⟨b6, 0, none⟩) ((size).toNat) ((size).toNat))) lab149 w150 v156 := q158
          replace q158 := Is.out q158; subst q158
          have f159 := f154.ext e157
          obtain ⟨v160, e161, q162⟩ := hl155 5 (by decide) 30 rfl
          replace q162 : (Is (i64 ((size - 1) - (((k : Nat) : Int) / 8)))) lab149 w150 v160 := q162
          replace q162 := Is.out q162; subst q162
          have f163 := f159.ext e161
          obtain ⟨v164, e165, q166⟩ := hl155 11 (by decide) 36 rfl
          replace q166 : (Is (u8 ((List.getD (beN (bval (List.take k n)) (Int.toNat size)) (((size - 1) - (((k : Nat) : Int) / 8)).toNat) (0 : UInt8)) + ((1 : UInt8) <<< UInt8.ofNat (((k : Nat) : Int) % 8).toNat)))) lab149 w150 v164 := q166
          replace q166 := Is.out q166; subst q166
          have f167 := f163.ext e165
          refine Seq.start (m := 12) f167 ?_
          refine Seq.val (Does.index_own (((size - 1) - (((k : Nat) : Int) / 8)).toNat) Try.underlying22 ty5 rfl rfl (by first | omega | (simp; omega) | (simp at *; omega)) (by first | omega | (simp; omega) | (simp at *; omega))) (by decide) ?_
          have o168 := o17.lift s153 (by decide)
          refine Seq.store_row (k := 17) (j := (((size - 1) - (((k : Nat) : Int) / 8)).toNat)) (v := ((List.getD (beN (bval (List.take k n)) (Int.toNat size)) (((size - 1) - (((k : Nat) : Int) / 8)).toNat) (0 : UInt8)) + ((1 : UInt8) <<< UInt8.ofNat (((k : Nat) : Int) % 8).toNat))) u8 hv152 o168 ty5 (congrArg (fun o => some (Value.pointer (some ⟨b6, o, none⟩))) (Nat.mul_one (((size - 1) - (((k : Nat) : Int) / 8)).toNat))) rfl (by first | omega | (simp [beN_length]; omega) | (simp at *; omega)) rfl rfl ?_
          intro w169 o170 s171 hv172
          refine Seq.go (fun _ _ h => h) ?_
          refine Run.region ?_
          refine Seq.val (Does.add rfl rfl (by first | omega | (simp; omega) | (simp at *; omega))) (by decide) ?_
          refine Seq.val (Does.move rfl) (by decide) ?_
          have c173 := s153.trans s171
          have c174 := s16.trans c173
          exact Seq.nil (fun a175 h176 => ⟨_, by omega, _, h176.weaken (subs_lk (l' := [(19, i64 (((k + 1) : Nat) : Int)), (0, .slice A1 (List.length n) c2), (1, i64 size), (4, .slice none 0 0), (5, .bool false), (9, .slice A1 (List.length n) c2), (10, i64 ((List.length n : Nat) : Int)), (11, i64 (((List.length n : Nat) : Int) + 7)), (12, i64 ((((List.length n : Nat) : Int) + 7) / 8)), (13, i64 size), (14, .bool (decide ((size : Int) < ((((List.length n : Nat) : Int) + 7) / 8 : Int)))), (15, i64 size), (16, .slice (some ⟨b6, 0, none⟩) ((size).toNat) ((size).toNat)), (6, .slice (some ⟨b6, 0, none⟩) ((size).toNat) ((size).toNat)), (17, .slice A1 (List.length n) c2), (18, i64 ((List.length n : Nat) : Int))]) ⟨(congrArg (fun z => some (i64 z)) (show (((k : Nat) : Int) + 1 : Int) = (((k + 1) : Nat) : Int) from by first | rfl | omega | (simp; done) | (simp <;> omega))), rfl, rfl, rfl, rfl, rfl, rfl, rfl, rfl, rfl, rfl, rfl, rfl, rfl, rfl, rfl, trivial⟩), ⟨k + 1, lab149, rfl, rfl, hv172, (c174.more (by decide)), ((show List.set (beN (bval (List.take k n)) (Int.toNat size)) (((size - 1) - (((k : Nat) : Int) / 8)).toNat) ((List.getD (beN (bval (List.take k n)) (Int.toNat size)) (((size - 1) - (((k : Nat) : Int) / 8)).toNat) (0 : UInt8)) + ((1 : UInt8) <<< UInt8.ofNat (((k : Nat) : Int) % 8).toNat)) = beN (bval (List.take (k + 1) n)) (Int.toNat size) from by first | rfl | (exact (beN_zero _).symm) | (exact (refbytes_skip (by omega) hc3).symm) | (exact refbytes_step h0s.1 (by omega) (by omega) hc3)) ▸ o170), (by first | omega | (simp at *; omega))⟩⟩)
      · skip
        refine Run.cond_b rfl hc3 ?_
        refine Run.skip_go (fun _ _ h => h) ?_
        refine Run.region ?_
        refine Seq.val (Does.add rfl rfl (by first | omega | (simp; omega) | (simp at *; omega))) (by decide) ?_
        refine Seq.val (Does.move rfl) (by decide) ?_
        exact Seq.nil (fun a177 h178 => ⟨_, by omega, _, h178.weaken (subs_lk (l' := [(19, i64 (((k + 1) : Nat) : Int)), (0, .slice A1 (List.length n) c2), (1, i64 size), (4, .slice none 0 0), (5, .bool false), (9, .slice A1 (List.length n) c2), (10, i64 ((List.length n : Nat) : Int)), (11, i64 (((List.length n : Nat) : Int) + 7)), (12, i64 ((((List.length n : Nat) : Int) + 7) / 8)), (13, i64 size), (14, .bool (decide ((size : Int) < ((((List.length n : Nat) : Int) + 7) / 8 : Int)))), (15, i64 size), (16, .slice (some ⟨b6, 0, none⟩) ((size).toNat) ((size).toNat)), (6, .slice (some ⟨b6, 0, none⟩) ((size).toNat) ((size).toNat)), (17, .slice A1 (List.length n) c2), (18, i64 ((List.length n : Nat) : Int))]) ⟨(congrArg (fun z => some (i64 z)) (show (((k : Nat) : Int) + 1 : Int) = (((k + 1) : Nat) : Int) from by first | rfl | omega | (simp; done) | (simp <;> omega))), rfl, rfl, rfl, rfl, rfl, rfl, rfl, rfl, rfl, rfl, rfl, rfl, rfl, rfl, rfl, trivial⟩), ⟨k + 1, lab14, rfl, rfl, hv15, (s16.more (by decide)), ((show beN (bval (List.take k n)) (Int.toNat size) = beN (bval (List.take (k + 1) n)) (Int.toNat size) from by first | rfl | (exact (beN_zero _).symm) | (exact (refbytes_skip (by omega) hc3).symm) | (exact refbytes_step h0s.1 (by omega) (by omega) hc3)) ▸ o17), (by first | omega | (simp at *; omega))⟩⟩)
    · skip
      have hp2 := of_decide_eq_false hc2
      refine Run.cond_b rfl hc2 ?_
      refine Run.exit_go (fun _ _ h => h) ?_
      refine Run.seq ?_
      refine Run.region ?_
      refine Seq.val (Does.move rfl) (by decide) ?_
      refine Seq.val (Does.assign rfl) (by decide) ?_
      refine Seq.val (Does.assign rfl) (by decide) ?_
      refine Seq.go (fun _ _ h => h) ?_
      have c179 := s8.trans s16
      obtain ⟨zU, zo⟩ := c179.out (by decide) hv
      have hv180 := Valid.release hv15 17
      have q181 : BytesV (beN (bval (List.take k n)) (Int.toNat size)) (labFree lab14 17) w12 (.slice (some ⟨b6, 0, none⟩) ((size).toNat) ((size).toNat)) := BytesV.release o17 (by first | rfl | (simp; done) | assumption | omega | (simp; omega)) (by first | omega | (simp; omega) | (simp at *; omega))
      have c182 := c179.trans (Stp.release (lab := lab14) (w := w12) 17)
      obtain ⟨zU, zo⟩ := c182.out (by decide) hv
      refine Run.ret ?_
      exact post_two Try.results124 rfl rfl ⟨_, rfl, ⟨_, _, rfl, (BytesV.cast (show (beN (bval (List.take k n)) (Int.toNat size)) = (beN (bval n) ((List.length n + 7) / 8)) from by first | rfl | (exact absurd hp1 (by omega); done) | (rw [List.take_of_length_le (by omega), show Int.toNat size = (List.length n + 7) / 8 by omega]; done) | (simp_all; done) | omega) ((BytesV.pers _).step zo q181)), rfl⟩, c182.leave (by decide)⟩

theorem ref17_nats {lab : Lab} {w : World} (hv : Valid lab w) {l : List (List Bool)} {v0 : Value} (h0 : NumsV l lab w v0) (hn : ∀ k, k < List.length l → List.length (List.getD l k []) ≤ 100000) :
    Calls Try.prog 98 #[v0] w (fun e w' => ∃ v, e = .returned v ∧ (And2 (BytesV (if tooMany (numsB l) 128 then [] else listB (numsB l) 128)) (Is (.bool (!(tooMany (numsB l) 128))))) lab w' v ∧ Below w.heap.size w w') := by
  have hv0 := hv.ent
  obtain ⟨zU0, z00⟩ := ent_step lab w
  replace h0 := (NumsV.pers _).step z00 h0
  obtain ⟨A1, c2, rfl⟩ := NumsV.shape h0
  have z3 := NumsV.cap h0
  refine calls_run Try.func98 rfl Try.ntmps98 (Nat.le_of_ble_eq_true rfl) ?_
  refine Run.seq ?_
  refine Run.region ?_
  refine Seq.val (Does.assign rfl) (by decide) ?_
  refine Seq.val (Does.assign rfl) (by decide) ?_
  refine Seq.go (fun _ _ h => h) ?_
  refine Run.seq ?_
  refine Run.seq ?_
  refine Run.region ?_
  refine Seq.val (Does.move rfl) (by decide) ?_
  refine Seq.val (Does.len Try.underlying41 rfl) (by decide) ?_
  refine Seq.val (Does.gtr rfl rfl) (by decide) ?_
  refine Seq.go (fun _ _ h => h) ?_
  rcases bdich (decide ((64 : Int) < (((List.length l : Nat) : Int) : Int))) with hc1 | hc1
  · skip
    have hp1 := of_decide_eq_true hc1
    refine Run.cond_b rfl hc1 ?_
    refine Run.seq ?_
    refine Run.region ?_
    refine Seq.val (Does.assign rfl) (by decide) ?_
    refine Seq.val (Does.assign rfl) (by decide) ?_
    refine Seq.go (fun _ _ h => h) ?_
    have z9 := Stp.refl (ent lab) w
    obtain ⟨zU, zo⟩ := z9.out (by decide) hv
    refine Run.ret (ret_then ?_)
    exact post_two Try.results98 rfl rfl ⟨_, rfl, ⟨_, _, rfl, (BytesV.cast (show ([] : List UInt8) = (if tooMany (numsB l) 128 then [] else listB (numsB l) 128) from by first | rfl | (rw [if_pos (tooMany_len (by rw [numsB_length]; exact hp1))]; done) | (rw [tooMany_len (by rw [numsB_length]; exact hp1)]; rfl; done) | (rw [if_pos (tooMany_at (k := k) (by rw [numsB_length]; omega) (by rw [numsB_get _ _ (by omega)]; exact hp3))]; done) | (rw [tooMany_at (k := k) (by rw [numsB_length]; omega) (by rw [numsB_get _ _ (by omega)]; exact hp3)]; rfl; done) | (rw [if_neg (by rw [tooMany_no (by rw [numsB_length]; exact hp1) (k := k) (by rw [numsB_length]; omega) hlo]; exact Bool.false_ne_true), List.take_of_length_le (by rw [numsB_length]; omega)]; rfl; done) | (rw [tooMany_no (by rw [numsB_length]; exact hp1) (k := k) (by rw [numsB_length]; omega) hlo]; rfl; done) | (simp_all; done) | omega) (BytesV.nil _ _)), (isBool (show (false : Bool) = (!(tooMany (numsB l) 128)) from by first | rfl | (rw [if_pos (tooMany_len (by rw [numsB_length]; exact hp1))]; done) | (rw [tooMany_len (by rw [numsB_length]; exact hp1)]; rfl; done) | (rw [if_pos (tooMany_at (k := k) (by rw [numsB_length]; omega) (by rw [numsB_get _ _ (by omega)]; exact hp3))]; done) | (rw [tooMany_at (k := k) (by rw [numsB_length]; omega) (by rw [numsB_get _ _ (by omega)]; exact hp3)]; rfl; done) | (rw [if_neg (by rw [tooMany_no (by rw [numsB_length]; exact hp1) (k := k) (by rw [numsB_length]; omega) hlo]; exact Bool.false_ne_true), List.take_of_length_le (by rw [numsB_length]; omega)]; rfl; done) | (rw [tooMany_no (by rw [numsB_length]; exact hp1) (k := k) (by rw [numsB_length]; omega) hlo]; rfl; done) | (simp_all; done) | omega) _ _)⟩, z9.leave (by decide)⟩
  · skip
    have hp1 := of_decide_eq_false hc1
    refine Run.cond_b rfl hc1 ?_
    refine Run.skip_go (fun _ _ h => h) ?_
    refine Run.seq ?_
    refine Run.region ?_
    refine Seq.val (Does.move rfl) (by decide) ?_
    refine Seq.val (Does.len Try.underlying41 rfl) (by decide) ?_
    refine Seq.val (Does.conv_int Try.underlying3 Try.underlying5 rfl ((wrap_i64_u8 _ (by first | omega | (simp; omega) | (have h9 := hn k (by omega); omega) | (rw [hx, hy]; omega))))) (by decide) ?_
    refine Seq.build_app (k := 905) [(0, u8 (UInt8.ofNat (((List.length l : Nat) : Int)).toNat))] (List.map u8 [UInt8.ofNat (((List.length l : Nat) : Int)).toNat]) hv0 Try.underlying22 ty5 (by decide) (by decide) rfl rfl (by kernel_rfl) (by decide) ?_
    intro lab4 w5 v6 o7 s8 hv9
    obtain ⟨A10, c11, rfl⟩ := App.shape o7
    have m12 : List.length ([UInt8.ofNat (((List.length l : Nat) : Int)).toNat]) = 1 := App.lenMap o7
    have z13 := (App.row o7).2
    refine Seq.val (Does.assign rfl) (by decide) ?_
    refine Seq.go (fun _ _ h => h) ?_
    refine Run.seq ?_
    refine Run.seq ?_
    refine Run.region ?_
    refine Seq.val (Does.move rfl) (by decide) ?_
    refine Seq.val (Does.len Try.underlying41 rfl) (by decide) ?_
    refine Seq.val (Does.move rfl) (by decide) ?_
    refine Seq.go (fun _ _ h => h) ?_
    refine Run.block ?_
    refine Run.loop (fun m' l' w' => ∃ (k : Nat) (lab' : Lab) (ux905 : Value), m' = List.length l - k ∧ l' = [(18, i64 ((k : Nat) : Int)), (4, ux905), (0, .slice A1 (List.length l) c2), (9, .slice A1 (List.length l) c2), (10, i64 ((List.length l : Nat) : Int)), (11, .bool (decide ((64 : Int) < (((List.length l : Nat) : Int) : Int)))), (12, .slice A1 (List.length l) c2), (13, i64 ((List.length l : Nat) : Int)), (14, u8 (UInt8.ofNat (((List.length l : Nat) : Int)).toNat)), (16, .slice A1 (List.length l) c2), (17, i64 ((List.length l : Nat) : Int))] ∧ Valid lab' w' ∧ Stp [905] lab4 w5 lab' w' ∧ App lab' w' 905 5 ux905 (List.length (be (u64i (List.length (numsB l))) 1 ++ flat (List.take k (numsB l)) 128)) (List.map u8 (be (u64i (List.length (numsB l))) 1 ++ flat (List.take k (numsB l)) 128)) ∧ (k ≤ List.length l) ∧ (long (List.take k (numsB l)) 128 = false)) (List.length l - 0) (l0 := [(18, i64 ((0 : Nat) : Int)), (4, .slice A10 (1) c11), (0, .slice A1 (List.length l) c2), (9, .slice A1 (List.length l) c2), (10, i64 ((List.length l : Nat) : Int)), (11, .bool (decide ((64 : Int) < (((List.length l : Nat) : Int) : Int)))), (12, .slice A1 (List.length l) c2), (13, i64 ((List.length l : Nat) : Int)), (14, u8 (UInt8.ofNat (((List.length l : Nat) : Int)).toNat)), (16, .slice A1 (List.length l) c2), (17, i64 ((List.length l : Nat) : Int))]) ⟨(congrArg (fun z => some (i64 z)) (show (0 : Int) = ((0 : Nat) : Int) from by first | rfl | omega | (rw [← List.length_append, ← hg (by omega), listB_step (by omega) (by rw [hg (by omega)]; exact hp3)]) | (rw [← listB_start' (numsB_length l) _ hp1]; rfl))), rfl, rfl, rfl, rfl, rfl, rfl, rfl, rfl, rfl, rfl, trivial⟩ ⟨0, lab4, (.slice A10 (1) c11), rfl, rfl, hv9, ((Stp.refl _ _).more (by simp)), (appCast (show [UInt8.ofNat (((List.length l : Nat) : Int)).toNat] = be (u64i (List.length (numsB l))) 1 ++ flat (List.take 0 (numsB l)) 128 from by first | rfl | (exact listB_start' (numsB_length l) _ hp1) | (rw [← hg (by omega)]; exact listB_step (by omega) (by rw [hg (by omega)]; exact hp3) _)) (show 1 = List.length (be (u64i (List.length (numsB l))) 1 ++ flat (List.take 0 (numsB l)) 128) from by first | rfl | omega | (rw [← List.length_append, ← hg (by omega), listB_step (by omega) (by rw [hg (by omega)]; exact hp3)]) | (rw [← listB_start' (numsB_length l) _ hp1]; rfl)) o7), (by first | omega | rfl | (exact long_step (by omega) (by rw [hg (by omega)]; exact hp3) hlo) | (simp at *; omega)), (by first | omega | rfl | (exact long_step (by omega) (by rw [hg (by omega)]; exact hp3) hlo) | (simp at *; omega))⟩ ?_
    intro m14 l15 w16 H17
    obtain ⟨k, lab18, v21, hzm, rfl, hv19, s20, o22, hk, hlo⟩ := H17
    replace hzm := hzm.symm; subst hzm
    obtain ⟨A23, c24, rfl⟩ := App.shape o22
    have m25 : List.length (be (u64i (List.length (numsB l))) 1 ++ flat (List.take k (numsB l)) 128) = List.length (be (u64i (List.length (numsB l))) 1 ++ flat (List.take k (numsB l)) 128) := App.lenMap o22
    have z26 := (App.row o22).2
    have hm := numsB_length l
    have hf := flat_le (List.take k (numsB l)) (most := 128) (by omega)
    have ht : (List.take k (numsB l)).length = k := by rw [List.length_take]; omega
    have hx := wlen [] (u64i (List.length (numsB l))) (flat (List.take k (numsB l)) 128)
    have hy := textB_length (beN (bval (List.getD l k [])) ((List.length (List.getD l k []) + 7) / 8))
    simp only [List.nil_append, List.length_nil] at hx
    have hg := fun h => numsB_get l k h
    refine Run.seq ?_
    refine Run.region ?_
    refine Seq.val (Does.lss rfl rfl) (by decide) ?_
    refine Seq.go (fun _ _ h => h) ?_
    refine Run.seq ?_
    rcases bdich (decide ((((k : Nat) : Int) : Int) < (((List.length l : Nat) : Int) : Int))) with hc2 | hc2
    · skip
      have hp2 := of_decide_eq_true hc2
      refine Run.cond_b rfl hc2 ?_
      refine Run.skip_go (fun _ _ h => h) ?_
      refine Run.seq ?_
      refine Run.block ?_
      refine Run.seq ?_
      refine Run.region ?_
      have c34 := s8.trans s20
      have q33 := (NumsV.pers _).step c34 h0
      obtain ⟨vs27, u28, m29, r30, q31, q32⟩ := NumsV.at_ q33 k (by first | omega | (simp; omega) | (have h9 := hn k (by omega); omega) | (rw [hx, hy]; omega))
      obtain ⟨A35, c36, rfl⟩ := BitsV.shape q32
      have z37 := BitsV.cap q32
      refine Seq.val (Does.index_row k Try.underlying41 ty79 rfl rfl r30 m29 (by first | omega | (simp; omega) | (have h9 := hn k (by omega); omega) | (rw [hx, hy]; omega)) (by first | omega | (simp; omega) | (have h9 := hn k (by omega); omega) | (rw [hx, hy]; omega))) (by decide) ?_
      refine Seq.val (Does.load_row ty79 rfl r30 q31) (by decide) ?_
      refine Seq.val (Does.assign rfl) (by decide) ?_
      refine Seq.go (fun _ _ h => h) ?_
      refine Run.seq ?_
      refine Run.region ?_
      refine Seq.val (Does.move rfl) (by decide) ?_
      refine Seq.val (Does.move rfl) (by decide) ?_
      refine Seq.val (Does.len Try.underlying79 rfl) (by decide) ?_
      refine Seq.val (Does.add rfl rfl (by first | omega | (simp; omega) | (have h9 := hn k (by omega); omega) | (rw [hx, hy]; omega))) (by decide) ?_
      refine Seq.val (Does.quo rfl rfl (by first | omega | (simp; omega) | (have h9 := hn k (by omega); omega) | (rw [hx, hy]; omega)) (by first | omega | (simp; omega) | (have h9 := hn k (by omega); omega) | (rw [hx, hy]; omega)) (by first | omega | (simp; omega) | (have h9 := hn k (by omega); omega) | (rw [hx, hy]; omega))) (by decide) ?_
      refine Seq.callS (V := And2 (BytesV (beN (bval (List.getD l k [])) ((List.length (List.getD l k []) + 7) / 8))) (Is (.bool true))) cal124 hv19 rfl (by decide) (ref01_BytesAll hv19 (size := (((List.length (List.getD l k []) : Nat) : Int) + 7) / 8) q32 (show List.length (List.getD l k []) ≤ 1000000000 from by first | omega | (have h9 := hn k (by omega); omega) | (rw [beN_length] at *; omega)) (show 0 ≤ ((((List.length (List.getD l k []) : Nat) : Int) + 7) / 8) ∧ ((((List.length (List.getD l k []) : Nat) : Int) + 7) / 8) ≤ 10000000 from by first | omega | (have h9 := hn k (by omega); omega) | (rw [beN_length] at *; omega)) (show ((((List.length (List.getD l k []) : Nat) : Int) + 7) / 8) = ((List.length (List.getD l k []) : Int) + 7) / 8 from by first | omega | (have h9 := hn k (by omega); omega) | (rw [beN_length] at *; omega))) ?_
      intro v38 w39 q40 s41 hv42
      obtain ⟨v43, v44, rfl, q45, q46⟩ := q40
      obtain ⟨A47, c48, rfl⟩ := BytesV.shape q45
      have z49 := BytesV.cap q45
      have q46 := Is.out q46; subst q46
      refine Seq.val (Does.move rfl) (by decide) ?_
      refine Seq.val (Does.extract rfl rfl) (by decide) ?_
      refine Seq.val (Does.extract rfl rfl) (by decide) ?_
      refine Seq.val (Does.assign rfl) (by decide) ?_
      refine Seq.val (Does.assign rfl) (by decide) ?_
      refine Seq.go (fun _ _ h => h) ?_
      refine Run.seq ?_
      refine Run.seq ?_
      refine Run.region ?_
      refine Seq.val (Does.move rfl) (by decide) ?_
      refine Seq.val (Does.len Try.underlying22 rfl) (by decide) ?_
      refine Seq.val (Does.gtr rfl rfl) (by decide) ?_
      refine Seq.go (fun _ _ h => h) ?_
      rcases bdich (decide ((128 : Int) < (((List.length (beN (bval (List.getD l k [])) ((List.length (List.getD l k []) + 7) / 8)) : Nat) : Int) : Int))) with hc3 | hc3
      · skip
        have hp3 := of_decide_eq_true hc3
        refine Run.cond_b rfl hc3 ?_
        refine Run.seq ?_
        refine Run.region ?_
        refine Seq.val (Does.assign rfl) (by decide) ?_
        refine Seq.val (Does.assign rfl) (by decide) ?_
        refine Seq.go (fun _ _ h => h) ?_
        have c50 := c34.trans s41
        obtain ⟨zU, zo⟩ := c50.out (by decide) hv
        refine Run.ret (ret_then (ret_block (ret_then (ret_then (ret_block (ret_then ?_))))))
        exact post_two Try.results98 rfl rfl ⟨_, rfl, ⟨_, _, rfl, (BytesV.cast (show ([] : List UInt8) = (if tooMany (numsB l) 128 then [] else listB (numsB l) 128) from by first | rfl | (rw [if_pos (tooMany_len (by rw [numsB_length]; exact hp1))]; done) | (rw [tooMany_len (by rw [numsB_length]; exact hp1)]; rfl; done) | (rw [if_pos (tooMany_at (k := k) (by rw [numsB_length]; omega) (by rw [numsB_get _ _ (by omega)]; exact hp3))]; done) | (rw [tooMany_at (k := k) (by rw [numsB_length]; omega) (by rw [numsB_get _ _ (by omega)]; exact hp3)]; rfl; done) | (rw [if_neg (by rw [tooMany_no (by rw [numsB_length]; exact hp1) (k := k) (by rw [numsB_length]; omega) hlo]; exact Bool.false_ne_true), List.take_of_length_le (by rw [numsB_length]; omega)]; rfl; done) | (rw [tooMany_no (by rw [numsB_length]; exact hp1) (k := k) (by rw [numsB_length]; omega) hlo]; rfl; done) | (simp_all; done) | omega) (BytesV.nil _ _)), (isBool (show (false : Bool) = (!(tooMany (numsB l) 128)) from by first | rfl | (rw [if_pos (tooMany_len (by rw [numsB_length]; exact hp1))]; done) | (rw [tooMany_len (by rw [numsB_length]; exact hp1)]; rfl; done) | (rw [if_pos (tooMany_at (k := k) (by rw [numsB_length]; omega) (by rw [numsB_get _ _ (by omega)]; exact hp3))]; done) | (rw [tooMany_at (k := k) (by rw [numsB_length]; omega) (by rw [numsB_get _ _ (by omega)]; exact hp3)]; rfl; done) | (rw [if_neg (by rw [tooMany_no (by rw [numsB_length]; exact hp1) (k := k) (by rw [numsB_length]; omega) hlo]; exact Bool.false_ne_true), List.take_of_length_le (by rw [numsB_length]; omega)]; rfl; done) | (rw [tooMany_no (by rw [numsB_length]; exact hp1) (k := k) (by rw [numsB_length]; omega) hlo]; rfl; done) | (simp_all; done) | omega) _ _)⟩, c50.leave (by decide)⟩
      · skip
        have hp3 := of_decide_eq_false hc3
        refine Run.cond_b rfl hc3 ?_
        refine Run.skip_go (fun _ _ h => h) ?_
        refine Run.region ?_
        refine Seq.val (Does.move rfl) (by decide) ?_
        refine Seq.val (Does.move rfl) (by decide) ?_
        refine Seq.callS (V := BytesV (textB (beN (bval (List.getD l k [])) ((List.length (List.getD l k []) + 7) / 8)))) cal92 hv42 rfl (by decide) (ref17_text hv42 q45 (show List.length (beN (bval (List.getD l k [])) ((List.length (List.getD l k []) + 7) / 8)) ≤ 60000 from by first | omega | (have h9 := hn k (by omega); omega) | (rw [beN_length] at *; omega))) ?_
        intro v51 w52 q53 s54 hv55
        obtain ⟨A56, c57, rfl⟩ := BytesV.shape q53
        have z58 := BytesV.cap q53
        have c60 := s41.trans s54
        have o59 := o22.lift c60 (by decide)
        refine Seq.append (k := 905) (List.map u8 (textB (beN (bval (List.getD l k [])) ((List.length (List.getD l k []) + 7) / 8)))) hv55 o59 Try.underlying22 ty5 rfl rfl rfl (by simp) (BytesV.row q53) oneCell_u8 (by first | omega | (simp; omega) | (have h9 := hn k (by omega); omega) | (rw [hx, hy]; omega)) (by first | omega | (simp; omega) | (have h9 := hn k (by omega); omega) | (rw [hx, hy]; omega)) (by decide) ?_
        intro lab61 w62 v63 o64 s65 hv66
        rw [← List.map_append] at o64
        obtain ⟨A67, c68, rfl⟩ := App.shape o64
        have m69 : List.length (be (u64i (List.length (numsB l))) 1 ++ flat (List.take k (numsB l)) 128 ++ (textB (beN (bval (List.getD l k [])) ((List.length (List.getD l k []) + 7) / 8)))) = List.length (be (u64i (List.length (numsB l))) 1 ++ flat (List.take k (numsB l)) 128) + (List.length (textB (beN (bval (List.getD l k [])) ((List.length (List.getD l k []) + 7) / 8)))) := App.lenMap o64
        have z70 := (App.row o64).2
        refine Seq.val (Does.assign rfl) (by decide) ?_
        refine Seq.go (fun _ _ h => h) ?_
        refine Run.region ?_
        refine Seq.val (Does.add rfl rfl (by first | omega | (simp; omega) | (have h9 := hn k (by omega); omega) | (rw [hx, hy]; omega))) (by decide) ?_
        refine Seq.val (Does.move rfl) (by decide) ?_
        have c71 := c60.trans s65
        have c72 := s20.trans c71
        exact Seq.nil (fun a73 h74 => ⟨_, by omega, _, h74.weaken (subs_lk (l' := [(18, i64 (((k + 1) : Nat) : Int)), (4, .slice A67 (List.length (be (u64i (List.length (numsB l))) 1 ++ flat (List.take k (numsB l)) 128) + (List.length (textB (beN (bval (List.getD l k [])) ((List.length (List.getD l k []) + 7) / 8))))) c68), (0, .slice A1 (List.length l) c2), (9, .slice A1 (List.length l) c2), (10, i64 ((List.length l : Nat) : Int)), (11, .bool (decide ((64 : Int) < (((List.length l : Nat) : Int) : Int)))), (12, .slice A1 (List.length l) c2), (13, i64 ((List.length l : Nat) : Int)), (14, u8 (UInt8.ofNat (((List.length l : Nat) : Int)).toNat)), (16, .slice A1 (List.length l) c2), (17, i64 ((List.length l : Nat) : Int))]) ⟨(congrArg (fun z => some (i64 z)) (show (((k : Nat) : Int) + 1 : Int) = (((k + 1) : Nat) : Int) from by first | rfl | omega | (rw [← List.length_append, ← hg (by omega), listB_step (by omega) (by rw [hg (by omega)]; exact hp3)]) | (rw [← listB_start' (numsB_length l) _ hp1]; rfl))), rfl, rfl, rfl, rfl, rfl, rfl, rfl, rfl, rfl, rfl, trivial⟩), ⟨k + 1, lab61, (.slice A67 (List.length (be (u64i (List.length (numsB l))) 1 ++ flat (List.take k (numsB l)) 128) + (List.length (textB (beN (bval (List.getD l k [])) ((List.length (List.getD l k []) + 7) / 8))))) c68), rfl, rfl, hv66, (c72.more (by decide)), (appCast (show be (u64i (List.length (numsB l))) 1 ++ flat (List.take k (numsB l)) 128 ++ (textB (beN (bval (List.getD l k [])) ((List.length (List.getD l k []) + 7) / 8))) = be (u64i (List.length (numsB l))) 1 ++ flat (List.take (k + 1) (numsB l)) 128 from by first | rfl | (exact listB_start' (numsB_length l) _ hp1) | (rw [← hg (by omega)]; exact listB_step (by omega) (by rw [hg (by omega)]; exact hp3) _)) (show List.length (be (u64i (List.length (numsB l))) 1 ++ flat (List.take k (numsB l)) 128) + (List.length (textB (beN (bval (List.getD l k [])) ((List.length (List.getD l k []) + 7) / 8)))) = List.length (be (u64i (List.length (numsB l))) 1 ++ flat (List.take (k + 1) (numsB l)) 128) from by first | rfl | omega | (rw [← List.length_append, ← hg (by omega), listB_step (by omega) (by rw [hg (by omega)]; exact hp3)]) | (rw [← listB_start' (numsB_length l) _ hp1]; rfl)) o64), (by first | omega | rfl | (exact long_step (by omega) (by rw [hg (by omega)]; exact hp3) hlo) | (simp at *; omega)), (by first | omega | rfl | (exact long_step (by omega) (by rw [hg (by omega)]; exact hp3) hlo) | (simp at *; omega))⟩⟩)
    · skip
      have hp2 := of_decide_eq_false hc2
      refine Run.cond_b rfl hc2 ?_
      refine Run.exit_go (fun _ _ h => h) ?_
      refine Run.seq ?_
      refine Run.region ?_
      refine Seq.val (Does.move rfl) (by decide) ?_
      refine Seq.val (Does.assign rfl) (by decide) ?_
      refine Seq.val (Does.assign rfl) (by decide) ?_
      refine Seq.go (fun _ _ h => h) ?_
      have c75 := s8.trans s20
      obtain ⟨zU, zo⟩ := c75.out (by decide) hv
      have hv76 := Valid.release hv19 905
      have m78 : List.length (be (u64i (List.length (numsB l))) 1 ++ flat (List.take k (numsB l)) 128) = List.length (be (u64i (List.length (numsB l))) 1 ++ flat (List.take k (numsB l)) 128) := App.lenMap o22
      have q77 : BytesV (be (u64i (List.length (numsB l))) 1 ++ flat (List.take k (numsB l)) 128) (labFree lab18 905) w16 (.slice A23 (List.length (be (u64i (List.length (numsB l))) 1 ++ flat (List.take k (numsB l)) 128)) c24) := ⟨_, _, (by first | (rw [m78]; done) | rw [← m78]), (by have h9 := (App.row o22).2.1; first | (rw [m78]; exact h9) | (rw [← m78] at h9; exact h9)), (App.row o22).2.2, (App.row o22).1⟩
      have c79 := c75.trans (Stp.release (lab := lab18) (w := w16) 905)
      obtain ⟨zU, zo⟩ := c79.out (by decide) hv
      refine Run.ret ?_
      exact post_two Try.results98 rfl rfl ⟨_, rfl, ⟨_, _, rfl, (BytesV.cast (show (be (u64i (List.length (numsB l))) 1 ++ flat (List.take k (numsB l)) 128) = (if tooMany (numsB l) 128 then [] else listB (numsB l) 128) from by first | rfl | (rw [if_pos (tooMany_len (by rw [numsB_length]; exact hp1))]; done) | (rw [tooMany_len (by rw [numsB_length]; exact hp1)]; rfl; done) | (rw [if_pos (tooMany_at (k := k) (by rw [numsB_length]; omega) (by rw [numsB_get _ _ (by omega)]; exact hp3))]; done) | (rw [tooMany_at (k := k) (by rw [numsB_length]; omega) (by rw [numsB_get _ _ (by omega)]; exact hp3)]; rfl; done) | (rw [if_neg (by rw [tooMany_no (by rw [numsB_length]; exact hp1) (k := k) (by rw [numsB_length]; omega) hlo]; exact Bool.false_ne_true), List.take_of_length_le (by rw [numsB_length]; omega)]; rfl; done) | (rw [tooMany_no (by rw [numsB_length]; exact hp1) (k := k) (by rw [numsB_length]; omega) hlo]; rfl; done) | (simp_all; done) | omega) ((BytesV.pers _).step zo q77)), (isBool (show (true : Bool) = (!(tooMany (numsB l) 128)) from by first | rfl | (rw [if_pos (tooMany_len (by rw [numsB_length]; exact hp1))]; done) | (rw [tooMany_len (by rw [numsB_length]; exact hp1)]; rfl; done) | (rw [if_pos (tooMany_at (k := k) (by rw [numsB_length]; omega) (by rw [numsB_get _ _ (by omega)]; exact hp3))]; done) | (rw [tooMany_at (k := k) (by rw [numsB_length]; omega) (by rw [numsB_get _ _ (by omega)]; exact hp3)]; rfl; done) | (rw [if_neg (by rw [tooMany_no (by rw [numsB_length]; exact hp1) (k := k) (by rw [numsB_length]; omega) hlo]; exact Bool.false_ne_true), List.take_of_length_le (by rw [numsB_length]; omega)]; rfl; done) | (rw [tooMany_no (by rw [numsB_length]; exact hp1) (k := k) (by rw [numsB_length]; omega) hlo]; rfl; done) | (simp_all; done) | omega) _ _)⟩, c79.leave (by decide)⟩

end Go.Proofs.Ytgfomedobfaidaa
