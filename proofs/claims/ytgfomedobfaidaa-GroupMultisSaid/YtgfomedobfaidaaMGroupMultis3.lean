/-
  The row of GroupMultis: that the law answers true of every input; part 3 of 9: what the proof needs, in order.
-/
import Derived.Test.YtgfomedobfaidaaMGroupMultis2
section
set_option linter.unusedVariables false
set_option linter.unusedSimpArgs false
namespace Go.Proofs.Ytgfomedobfaidaa
open Go.RowKit Go.Shelf
attribute [local go_sem] Oper.semAt_some
def bk (n k : Nat) : List (Fin n) := (List.range k).filterMap fun j => if h : 0 < n then some ⟨n - 1 - j, by omega⟩ else none
theorem bk_succ {n : Nat} (h : 0 < n) (k : Nat) : bk n (k + 1) = bk n k ++ [⟨n - 1 - k, by omega⟩] := by simp [bk, List.range_succ, h]
theorem bk_length {n : Nat} (h : 0 < n) (k : Nat) : (bk n k).length = k := by
 induction k with
 | zero => rfl
 | succ k ih => rw [bk_succ h]; simp [ih]
abbrev encB (zs : List UInt32) (x : Fin zs.length) : Array Value := #[.int .i64 (x.val : Int), .int .u32 ((zs[x.val]).toNat : Int)]
def KB (Bs b : Nat) (W W' : World) : Prop := W'.heap[Bs]? = W.heap[Bs]? ∧ W'.heap[b]? = W.heap[b]?
theorem KB.refl (Bs b : Nat) (W : World) : KB Bs b W W := ⟨rfl, rfl⟩
theorem KB.trans {Bs b : Nat} {A B C : World} (h : KB Bs b A B) (k : KB Bs b B C) : KB Bs b A C := ⟨k.1.trans h.1, k.2.trans h.2⟩
theorem KB.put {Bs b : Nat} {w : World} (h1 : Bs < w.heap.size) (h2 : b < w.heap.size) (W : World) (l : Nat) (o o' : Obj) (hl : w.heap.size ≤ l) (h : W.heap[l]? = some o) (_ : o.isCells = false) (_ : o.isWalk = false) : KB Bs b W (W.putObj l o') :=
 ⟨World.putObj_heap_other (by omega), World.putObj_heap_other (by omega)⟩
theorem cell_of_heap {W W' : World} {k : Nat} (h : W'.heap[k]? = W.heap[k]?) (o : Nat) (s : Option Nat) : W'.cell? ⟨k, o, s⟩ = W.cell? ⟨k, o, s⟩ := by unfold World.cell?; rw [h]
set_option maxRecDepth 100000 in
set_option maxHeartbeats 2000000 in
theorem back1_in (F : Fence) (n : Nat) (h7 : F.fn 154) (hro : F.round = none) (hn : 1 ≤ n) (l Bs b off cap : Nat) (zs : List UInt32) (hreach : zs.length ≤ 9223372036854775807) (J Jx : List (Fin zs.length) → World → Prop)
  (hY : ∀ pre x W, J pre W → pre.length < zs.length → YieldAt F (n - 1) Try.prog l (encB zs x) W fun e W' =>
   (e = .returned (.bool true) ∧ J (pre ++ [x]) W' ∧ KB Bs b W W') ∨ (e = .returned (.bool false) ∧ Jx (pre ++ [x]) W'))
  (W : World) (hBs : W.cell? ⟨Bs, 0, none⟩ = some (.slice (some ⟨b, off, none⟩) zs.length cap)) (hc : ∀ j (hj : j < zs.length), W.cell? ⟨b, off + j, none⟩ = some (.int .u32 ((zs[j]).toNat : Int))) (h0 : J [] W) :
  CallsIn F n Try.prog 154 #[.func (.yield l) #[] #[], .pointer (some ⟨Bs, 0, none⟩)] W fun e W' => (∃ v, e = .returned v) ∧
   ((∃ ys, ys = bk zs.length zs.length ∧ J ys W') ∨ (∃ pre, (∃ k, k ≤ zs.length ∧ pre = bk zs.length k) ∧ Jx pre W')) := by
 refine callsIn_of_wp Try.func154 rfl h7 ?_ hro
 simp only [Try.ntmps154, List.size_toArray, List.length_cons, List.length_nil, Nat.reduceAdd, Nat.reduceSub, Array.replicate_succ, Array.replicate_zero, List.push_toArray, List.append_toArray, List.nil_append, List.cons_append]
 gi_wp2
 gi_loopw [3] (fun i wr => ∃ k : Nat, k ≤ zs.length ∧ i = .int .i64 (((zs.length - k : Nat) : Int) - 1) ∧ J (bk zs.length k) wr ∧ KB Bs b W wr)
  (fun i _ => (intOf i + 1).toNat)
 case atStart => exact ⟨0, Nat.zero_le _, by simp, h0, KB.refl _ _ _⟩
 case round =>
  obtain ⟨k, hk, rfl, hJs, hnx⟩ := hrel
  by_cases hlt : k < zs.length
  ·obtain ⟨m, hm⟩ : ∃ m, m + 1 + k = zs.length := ⟨zs.length - 1 - k, by omega⟩
   have e : (((zs.length - k : Nat) : Int) - 1) = (m : Int) := by omega
   rw [e]
   have hm2 : m < zs.length := by omega
   have hBs' : wr.cell? ⟨Bs, 0, none⟩ = some (.slice (some ⟨b, off, none⟩) zs.length cap) := (cell_of_heap hnx.1 _ _).trans hBs
   have hcx' : wr.cell? ⟨b, off + m, none⟩ = some (.int .u32 (zs[m].toNat : Int)) := (cell_of_heap hnx.2 _ _).trans (hc m hm2)
   obtain ⟨fn, tmps, assign, body, hy, hR⟩ := hY _ ⟨m, hm2⟩ wr hJs (by rw [bk_length (by omega)]; exact hlt)
   dsimp only [encB] at hy
   have hbk : bk zs.length (k + 1) = bk zs.length k ++ [⟨m, hm2⟩] := by
    rw [bk_succ (by omega)]; congr 2; exact Fin.ext (by show zs.length - 1 - k = m; omega)
   gi_wp2
   refine hR.mono ?_
   rintro e W3 (⟨rfl, hJ3, hk3⟩ | ⟨rfl, hJx3⟩)
   ·gi_wp2
    go_roundw
    case rel => exact ⟨k + 1, by omega, by congr 1; simp; omega, by rw [hbk]; exact hJ3, hnx.trans hk3⟩
    case measure => first | (simp [intOf]; done) | (simp [intOf]; omega)
   ·gi_wp2
    refine bodyPost_ret (results_none rfl _ _ _) rfl ?_
    exact ⟨⟨_, rfl⟩, .inr ⟨_, ⟨k + 1, by omega, hbk.symm⟩, hJx3⟩⟩
  ·obtain rfl : k = zs.length := by omega
   rw [Nat.sub_self]
   gi_wp2
   go_end0
   exact ⟨⟨_, rfl⟩, .inl ⟨_, rfl, hJs⟩⟩
set_option maxRecDepth 100000 in
set_option maxHeartbeats 1000000 in
theorem back0_in (F : Fence) (n : Nat) (h7 : F.fn 154) (hro : F.round = none) (l Bs : Nat) (A : Option Addr) (c : Nat) {α : Type} (J : List α → World → Prop) (W : World) (hBs : W.cell? ⟨Bs, 0, none⟩ = some (.slice A 0 c)) (h0 : J [] W) :
  CallsIn F n Try.prog 154 #[.func (.yield l) #[] #[], .pointer (some ⟨Bs, 0, none⟩)] W fun e W' => (∃ v, e = .returned v) ∧ J [] W' := by
 refine callsIn_of_wp Try.func154 rfl h7 ?_ hro
 simp only [Try.ntmps154, List.size_toArray, List.length_cons, List.length_nil, Nat.reduceAdd, Nat.reduceSub, Array.replicate_succ, Array.replicate_zero, List.push_toArray, List.append_toArray, List.nil_append, List.cons_append]
 gi_wp2
 gi_loopw [3] (fun i wr => i = .int .i64 (-1) ∧ J [] wr) (fun _ _ => 0)
 case atStart => exact ⟨rfl, h0⟩
 case round =>
  obtain ⟨rfl, hJs⟩ := hrel
  gi_wp2
  go_end0
  exact ⟨⟨_, rfl⟩, hJs⟩
set_option maxHeartbeats 1000000 in
theorem back_in (F : Fence) (n : Nat) (h5 : F.fn 106) (hro : F.round = none) (a : Option Addr) (len cap : Nat) (w : World) :
  CallsIn F n Try.prog 106 #[.slice a len cap] w fun e w' => e = .returned (.func (.func 154) #[] #[.pointer (some ⟨w.heap.size, 0, none⟩)]) ∧ w' = w.alloc (.cells #[.slice a len cap] 58) := by
 refine callsIn_of_wp Try.func106 rfl h5 ?_ hro
 simp only [Try.ntmps106, List.size_toArray, List.length_cons, List.length_nil, Nat.reduceAdd, Nat.reduceSub, Array.replicate_succ, Array.replicate_zero, List.push_toArray, List.append_toArray, List.nil_append, List.cons_append]
 gi_wp2
 go_ret
 exact ⟨rfl, rfl⟩
theorem back_stops (F : Fence) (n : Nat) (h8 : F.fn 154) (hro : F.round = none) (hn : 1 ≤ n) (Bs b off cap : Nat) (zs : List UInt32) (hreach : zs.length ≤ 9223372036854775807) (w : World) (hBs : Bs < w.heap.size) (hb : b < w.heap.size)
  (hc : w.cell? ⟨Bs, 0, none⟩ = some (.slice (some ⟨b, off, none⟩) zs.length cap)) (hcs : ∀ j (hj : j < zs.length), w.cell? ⟨b, off + j, none⟩ = some (.int .u32 ((zs[j]).toNat : Int))) :
  SeqStopsK F n Try.prog 154 #[.pointer (some ⟨Bs, 0, none⟩)] (encB zs) (KB Bs b) (fun ys => ys = bk zs.length zs.length)
   (fun pre => ∃ k, k ≤ zs.length ∧ pre = bk zs.length k) zs.length w := fun l J Jx W hW _ _ hY h0 =>
 back1_in F n h8 hro hn l Bs b off cap zs hreach J Jx hY W ((hW.cell (p := ⟨Bs, 0, none⟩) hBs).trans hc) (fun j hj => (hW.cell (p := ⟨b, off + j, none⟩) hb).trans (hcs j hj)) h0
theorem back_stops0 (F : Fence) (n : Nat) (h8 : F.fn 154) (hro : F.round = none) (Bs b : Nat) (A : Option Addr) (c : Nat) (zs : List UInt32) (hz : zs = []) (w : World) (hBs : Bs < w.heap.size)
  (hc : w.cell? ⟨Bs, 0, none⟩ = some (.slice A 0 c)) :
  SeqStopsK F n Try.prog 154 #[.pointer (some ⟨Bs, 0, none⟩)] (encB zs) (KB Bs b) (fun ys => ys = bk zs.length zs.length)
   (fun pre => ∃ k, k ≤ zs.length ∧ pre = bk zs.length k) zs.length w := fun l J Jx W hW _ _ hY h0 => by
 subst hz
 exact (back0_in F n h8 hro l Bs A c J W ((hW.cell (p := ⟨Bs, 0, none⟩) hBs).trans hc) h0).mono fun e W' ⟨he, hj⟩ => ⟨he, .inl ⟨_, rfl, hj⟩⟩
end Go.Proofs.Ytgfomedobfaidaa
end
section
set_option linter.unusedVariables false
set_option linter.unusedSimpArgs false
namespace Go.Proofs.Ytgfomedobfaidaa
open Go.RowKit Go.Shelf
def CmpL (xs ys : List UInt32) (r : Int) : Prop :=
 (xs.length < ys.length ∧ r = -1) ∨ (ys.length < xs.length ∧ r = 1) ∨ (xs.length = ys.length ∧ (((∀ j, j < xs.length → xs.getD j 0 = ys.getD j 0) ∧ r = 0) ∨
  ∃ j, j < xs.length ∧ (∀ i, j < i → i < xs.length → xs.getD i 0 = ys.getD i 0) ∧ xs.getD j 0 ≠ ys.getD j 0 ∧ r = if (xs.getD j 0).toNat < (ys.getD j 0).toNat then -1 else 1))
def EqAt (xs ys : List UInt32) (i : Nat) : Prop := xs.getD i 0 = ys.getD i 0
def sgnAt (xs ys : List UInt32) (i : Nat) : Int := if (xs.getD i 0).toNat < (ys.getD i 0).toNat then -1 else 1
theorem getD_at0 {xs : List UInt32} {i : Nat} (h : i < xs.length) : xs.getD i 0 = xs[i] := by simp [List.getD, h]
theorem eqAt_iff {xs ys : List UInt32} {i : Nat} (h : i < xs.length) (h' : i < ys.length) : EqAt xs ys i ↔ xs[i] = ys[i] := by unfold EqAt; rw [getD_at0 h, getD_at0 h']
theorem sgnAt_lt {xs ys : List UInt32} {i : Nat} (h : i < xs.length) (h' : i < ys.length) (hl : xs[i].toNat < ys[i].toNat) : sgnAt xs ys i = -1 := by unfold sgnAt; rw [getD_at0 h, getD_at0 h', if_pos hl]
theorem sgnAt_ge {xs ys : List UInt32} {i : Nat} (h : i < xs.length) (h' : i < ys.length) (hl : ¬ xs[i].toNat < ys[i].toNat) : sgnAt xs ys i = 1 := by unfold sgnAt; rw [getD_at0 h, getD_at0 h', if_neg hl]
theorem bk_mem {n k : Nat} (hk : k ≤ n) {i : Nat} (hi : i < n) (h : n - k ≤ i) : (⟨i, hi⟩ : Fin n) ∈ bk n k := by
 simp only [bk, List.mem_filterMap, List.mem_range]
 refine ⟨n - 1 - i, by omega, ?_⟩
 rw [dif_pos (by omega)]
 exact congrArg some (Fin.ext (by show n - 1 - (n - 1 - i) = i; omega))
theorem getD_at {xs : List UInt32} {i : Nat} (h : i < xs.length) : xs.getD i 0 = xs[i] := by simp [List.getD, h]
attribute [local go_sem] Oper.semAt_some
set_option maxRecDepth 100000 in
set_option maxHeartbeats 8000000 in
theorem Cmp_in (F : Fence) (n : Nat) (h4 : F.fn 34) (h6 : F.fn 106) (h8 : F.fn 154) (hro : F.round = none) (hn : 3 ≤ n) (A A' : Option Addr) (c c' : Nat) (xs ys : List UInt32) (w : World)
  (hcx : xs.length ≤ 9223372036854775807) {lab : Lab} (hx : RowAt lab w A (xs.map u32)) (hy : RowAt lab w A' (ys.map u32)) :
  CallsIn F n Try.prog 34 #[.agg #[.slice A xs.length c], .agg #[.slice A' ys.length c']] w fun e W' => (∃ r, e = .returned (.int .i64 r) ∧ CmpL xs ys r) ∧ Below w.heap.size w W' := by
 have h1 : 1 ≤ n := by omega
 refine callsIn_of_wp_marks Try.func34 rfl h4 ?_ hro
 simp only [Try.ntmps34, List.size_toArray, List.length_cons, List.length_nil, Nat.reduceAdd, Nat.reduceSub, Array.replicate_succ, Array.replicate_zero, List.push_toArray, List.append_toArray, List.nil_append, List.cons_append]
 gi_wp2_with (gi_at_call 106; refine (back_in F (n - 1) h6 hro _ _ _ _).mono ?_; rintro e w' ⟨rfl, rfl⟩)
 ·have hlt : xs.length < ys.length := by assumption
  exact ⟨.int .i64 (-1), by simp [results, Try.f34, go_sem], ⟨-1, rfl, .inl ⟨hlt, rfl⟩⟩, (((Below.refl _ w).alloc (Nat.le_refl _) _).alloc (by simp) _).alloc (by simp; omega) _⟩
 ·have hne : ((xs.length : Int) != (ys.length : Int)) = true := by assumption
  have hge : ¬ xs.length < ys.length := by first | assumption | (simp; assumption)
  have hne2 : xs.length ≠ ys.length := by intro e; rw [e] at hne; simp at hne
  exact ⟨.int .i64 1, by simp [results, Try.f34, go_sem], ⟨1, rfl, .inr (.inl ⟨by omega, rfl⟩)⟩, (((Below.refl _ w).alloc (Nat.le_refl _) _).alloc (by simp) _).alloc (by simp; omega) _⟩
 ·have hne : ((xs.length : Int) != (ys.length : Int)) = false := by assumption
  have hlen : xs.length ≤ ys.length ∧ ys.length ≤ xs.length := by have h9 := hne; simp at h9; omega
  have bT := Boxed.new (w.alloc (.cells #[.slice A xs.length c] 60)) 60 (.slice A' ys.length c')
  have bR := Boxed.new ((w.alloc (.cells #[.slice A xs.length c] 60)).alloc (.cells #[.slice A' ys.length c'] 60)) 3 (.int .i64 0)
  have bN := Boxed.new (((w.alloc (.cells #[.slice A xs.length c] 60)).alloc (.cells #[.slice A' ys.length c'] 60)).alloc (.cells #[.int .i64 0] 3)) 58 (.slice A xs.length c)
  simp only [World.size_alloc] at bT bR bN
  have hB0 : Below w.heap.size w ((((w.alloc (.cells #[.slice A xs.length c] 60)).alloc (.cells #[.slice A' ys.length c'] 60)).alloc (.cells #[.int .i64 0] 3)).alloc (.cells #[.slice A xs.length c] 58)) :=
   ((((Below.refl _ w).alloc (Nat.le_refl _) _).alloc (by simp) _).alloc (by simp; omega) _).alloc (by simp; omega) _
  obtain ⟨W0, hW0⟩ : ∃ W0, ((((w.alloc (.cells #[.slice A xs.length c] 60)).alloc (.cells #[.slice A' ys.length c'] 60)).alloc (.cells #[.int .i64 0] 3)).alloc (.cells #[.slice A xs.length c] 58)) = W0 := ⟨_, rfl⟩
  have hsz : W0.heap.size = w.heap.size + 4 := by rw [← hW0]; simp
  have cT := ((bT.alloc (.cells #[.int .i64 0] 3)).alloc (.cells #[.slice A xs.length c] 58)).cell
  have cR := (bR.alloc (.cells #[.slice A xs.length c] 58)).cell
  have fR := (bR.alloc (.cells #[.slice A xs.length c] 58)).frozen
  have cN := bN.cell
  rw [hW0] at hB0 cT cR fR cN ⊢
  obtain ⟨b, hbW, hseq⟩ : ∃ b, b < W0.heap.size ∧ SeqStopsK F (n - 1) Try.prog 154 #[.pointer (some ⟨w.heap.size + 1 + 1 + 1, 0, none⟩)] (encB xs) (KB (w.heap.size + 1 + 1 + 1) b) (fun ys => ys = bk xs.length xs.length) (fun pre => ∃ k, k ≤ xs.length ∧ pre = bk xs.length k) xs.length W0 := by
   rcases hx with h0 | ⟨b, o, arr, t, fr, hA, hl, hh, hcell⟩
   ·have hz : xs = [] := by simpa using h0
    exact ⟨w.heap.size, by omega, back_stops0 F (n - 1) h8 hro _ _ A c xs hz W0 (by omega) (by rw [cN, hz]; rfl)⟩
   ·have hbl : b < w.heap.size := block_lt hh
    subst hA
    exact ⟨b, by omega, back_stops F (n - 1) h8 hro (by omega) _ b o c xs hcx W0 (by omega) (by omega) cN fun j hj => by
     rw [cell_of_heap (hB0.block b hbl), cell_of_row w b _ arr t fr hh]
     exact hcell j _ (by simp [hj])⟩
  refine wpIn_rangeFunc_ownG hro h1 (gf := 154) (lb := #[.pointer (some ⟨w.heap.size + 1 + 1 + 1, 0, none⟩)]) rfl h8 (enters_of Try.func154 (by kernel_rfl) rfl)
   hseq KB.trans (KB.put (by omega) hbW) (Below.refl _ _) (fun _ => rfl)
   (fun pre W => ((∀ p ∈ pre, EqAt xs ys p.val) ∧ W.cell? ⟨w.heap.size + 1 + 1, 0, none⟩ = some (.int .i64 0) ∧ W.frozen? ⟨w.heap.size + 1 + 1, 0, none⟩ = false ∧ W.cell? ⟨w.heap.size + 1, 0, none⟩ = some (.slice A' ys.length c')) ∧ Below w.heap.size w W)
   (fun c0 pre W => (c0 = .ret ∧ ∃ ini last, pre = ini ++ [last] ∧ (∀ p ∈ ini, EqAt xs ys p.val) ∧ ¬ EqAt xs ys last.val ∧ W.cell? ⟨w.heap.size + 1 + 1, 0, none⟩ = some (.int .i64 (sgnAt xs ys last.val))) ∧ Below w.heap.size w W)
   (OwnFrom.and (Own.from (fun s A B row hs hg hr => ⟨hs.1, cell_kept hs.2.1 hg hr, (frozen_kept hs.2.1 hg hr).trans hs.2.2.1, cell_kept hs.2.2.2 hg hr⟩) _) (ownFrom_below (Nat.le_refl _) (by omega)))
   (fun c => OwnFrom.and (Own.from (fun s A B row hs hg hr => by obtain ⟨hc, ini, last, e1, e2, e3, e4⟩ := hs; exact ⟨hc, ini, last, e1, e2, e3, cell_kept e4 hg hr⟩) _) (ownFrom_below (Nat.le_refl _) (by omega)))
   ⟨⟨by simp, cR, fR, cT⟩, hB0⟩
   (fun x => { tmps := #[.agg #[.slice A xs.length c], .agg #[.slice A' ys.length c'],
     .pointer (some ⟨w.heap.size, 0, none⟩), .pointer (some ⟨w.heap.size + 1, 0, none⟩), .pointer (some ⟨w.heap.size + 1 + 1, 0, none⟩), .int .i64 (x.val : Int), .int .u32 ((xs[x.val]).toNat : Int),
     .pointer (some ⟨w.heap.size, 0, none⟩), .slice A xs.length c, .int .i64 xs.length, .pointer (some ⟨w.heap.size + 1, 0, none⟩),
     .slice A' ys.length c', .int .i64 ys.length, .bool false, undef, undef, undef, undef,
     undef, undef, undef, .pointer (some ⟨w.heap.size, 0, none⟩), .slice A xs.length c,
     .func (.func 154) #[] #[.pointer (some ⟨w.heap.size + 1 + 1 + 1, 0, none⟩)], .int .i64 (x.val : Int),
     .int .u32 ((xs[x.val]).toNat : Int), undef, undef, undef, undef, undef, undef, undef, undef, undef, undef, undef, undef, undef, undef], defers := [] }) ?assign ?body ?done ?stop
  case assign =>
   intro l x W K hK
   gi_wp2
   exact hK
  case body =>
   rintro l pre x W ⟨⟨hp, hcr, hfr, hbt⟩, hB⟩ _
   have hxl := x.2
   rcases hy with h0 | ⟨b', o', arr', t', fr', hA', hl', hh', hcell'⟩
   ·have hz : ys = [] := by simpa using h0
    exfalso
    have h9 := hlen.1
    rw [hz] at h9; simp only [List.length_nil] at h9
    omega
   ·subst hA'
    obtain ⟨i, hi⟩ := x
    have hi2 : i < ys.length := by omega
    have hcy : W.cell? ⟨b', o' + i, none⟩ = some (.int .u32 ((ys[i]).toNat : Int)) := by
     rw [cell_of_heap (hB.block b' (block_lt hh')), cell_of_row w b' _ arr' t' fr' hh']
     exact hcell' i _ (by simp [hi2])
    gi_wp2
    ·have hlt : xs[i].toNat < ys[i].toNat := by assumption
     exact ⟨(KeepsOthers.setCell _ _ _).from _, ⟨rfl, pre, ⟨i, hi⟩, rfl, hp, by rw [eqAt_iff hi hi2]; intro e; rw [e] at hlt; omega, by
      rw [sgnAt_lt hi hi2 hlt]; exact World.cell?_setCell_same' _ _ _ (by rw [hcr]; rfl)⟩, hB.setCell (p := ⟨w.heap.size + 1 + 1, 0, none⟩) (by show w.heap.size ≤ w.heap.size + 1 + 1; omega) _⟩
    ·have hne' : ((xs[i].toNat : Int) != (ys[i].toNat : Int)) = true := by assumption
     have hlt : ¬ xs[i].toNat < ys[i].toNat := by first | assumption | (simp; assumption)
     exact ⟨(KeepsOthers.setCell _ _ _).from _, ⟨rfl, pre, ⟨i, hi⟩, rfl, hp, by rw [eqAt_iff hi hi2]; intro e; rw [e] at hne'; simp at hne', by
      rw [sgnAt_ge hi hi2 hlt]; exact World.cell?_setCell_same' _ _ _ (by rw [hcr]; rfl)⟩, hB.setCell (p := ⟨w.heap.size + 1 + 1, 0, none⟩) (by show w.heap.size ≤ w.heap.size + 1 + 1; omega) _⟩
    ·have he : ((xs[i].toNat : Int) != (ys[i].toNat : Int)) = false := by assumption
     have he2 : xs[i] = ys[i] := by
      rw [← UInt32.toNat_inj]
      simp only [bne_eq_false_iff_eq] at he
      omega
     refine ⟨KeepsFrom.refl _ _, KB.refl _ _ _, ⟨fun p hp' => (List.mem_append.1 hp').elim (hp p) (fun e => ?_), hcr, hfr, hbt⟩, hB⟩
     simp at e; subst e
     exact (eqAt_iff hi hi2).2 he2
  case done =>
   rintro D ys' W hD rfl ⟨⟨hp, hcr, hfr, hbt⟩, hB⟩ hK
   gi_wp2
   have hK' := (KeepsOthers.setCell W ⟨w.heap.size + 1 + 1, 0, none⟩ (.int .i64 0)).same D _ hK rfl
   refine ⟨by simp, .inl ⟨_, _, rfl, run_takeDeferred hK', ?_⟩⟩
   have hc5 := cell_kept (World.cell?_setCell_same' W ⟨w.heap.size + 1 + 1, 0, none⟩ (.int .i64 0) (by rw [hcr]; rfl)) (grownBy_putObj' _ D (.deferred none)) (fun r e => by cases e; exact ⟨_, hK', rfl⟩)
   refine ⟨.int .i64 0, ?_, ⟨0, rfl, .inr (.inr ⟨by omega, .inl ⟨fun j hj => hp ⟨j, hj⟩ (bk_mem (Nat.le_refl _) hj (by omega)), rfl⟩⟩)⟩, (hB.setCell (p := ⟨w.heap.size + 1 + 1, 0, none⟩) (by show w.heap.size ≤ w.heap.size + 1 + 1; omega) _).trans (belowK_b (w := w) (Nat.le_refl _) _ D _ _ (by omega) hK' rfl rfl)⟩
   simp [results, Try.f34, go_sem, hc5]
  case stop =>
   rintro D c0 pre W hD ⟨k, hk, rfl⟩ ⟨⟨rfl, ini, last, e1, e2, e3, hcr⟩, hB⟩ hK
   gi_wp2
   refine ⟨by simp, .inl ⟨_, _, rfl, run_takeDeferred hK, ?_⟩⟩
   have hc5 := cell_kept hcr (grownBy_putObj' _ D (.deferred none)) (fun r e => by cases e; exact ⟨_, hK, rfl⟩)
   have hpos : 0 < xs.length := by have := last.2; omega
   obtain ⟨k', rfl⟩ : ∃ k', k = k' + 1 := by
    cases k with
    | zero => simp [bk] at e1
    | succ k' => exact ⟨k', rfl⟩
   rw [bk_succ hpos] at e1
   obtain ⟨rfl, e5⟩ := List.append_inj' e1 rfl
   obtain rfl : (⟨xs.length - 1 - k', by omega⟩ : Fin xs.length) = last := by simpa using e5
   refine ⟨.int .i64 (sgnAt xs ys (xs.length - 1 - k')), ?_, ⟨_, rfl, .inr (.inr ⟨by omega, .inr ⟨xs.length - 1 - k', by omega, fun i hi hi2 => e2 ⟨i, hi2⟩ (bk_mem (by omega) hi2 (by omega)), e3, rfl⟩⟩)⟩, hB.trans (belowK_b (w := w) (Nat.le_refl _) W D _ _ (by omega) hK rfl rfl)⟩
   simp [results, Try.f34, go_sem, hc5]
theorem cmpL_cmpI {a b : Nat} {r : Int} (h : CmpL (limbs a) (limbs b) r) : r = cmpI a b := by
 have hl : ∀ {x y : Nat}, (limbs x).length < (limbs y).length → x < y := fun {x y} h => by
  refine Classical.byContradiction fun hn => ?_
  have : nw y ≤ nw x := nw_mono (by omega)
  unfold nw at this; omega
 rcases h with ⟨h, rfl⟩ | ⟨h, rfl⟩ | ⟨h, ⟨he, rfl⟩ | ⟨j, hj, he, hne, rfl⟩⟩
 ·have := hl h
  unfold cmpI; rw [if_pos this]
 ·have := hl h
  unfold cmpI; rw [if_neg (by omega), if_neg (by omega)]
 ·have : limbs a = limbs b := List.ext_getElem h fun i h1 h2 => by
   have := he i h1
   rwa [getD_at h1, getD_at h2] at this
  have := limbs_inj this
  unfold cmpI; rw [if_neg (by omega), if_pos this]
 ·
  have hd : ∀ i, j < i → a / 4294967296 ^ i % 4294967296 = b / 4294967296 ^ i % 4294967296 := fun i hi => by
   by_cases hi2 : i < (limbs a).length
   ·have := he i hi hi2
    rw [← limb_toNat, ← limb_toNat, this]
   ·rw [limb_out (show nw a ≤ i by unfold nw; omega), limb_out (show nw b ≤ i by unfold nw; omega)]
  have hq : a / 4294967296 ^ (j + 1) = b / 4294967296 ^ (j + 1) := by
   refine limbs_inj (wv_inj_of ?_)
   intro i
   rw [limb_toNat, limb_toNat, Nat.div_div_eq_div_mul, Nat.div_div_eq_div_mul, ← Nat.pow_add]
   exact hd _ (by omega)
  have ha := Nat.div_add_mod a (4294967296 ^ (j + 1))
  have hb := Nat.div_add_mod b (4294967296 ^ (j + 1))
  rw [mod_low_succ] at ha hb
  have hp : 0 < 4294967296 ^ j := Nat.pow_pos (by omega)
  have h1 := Nat.mod_lt a hp
  have h2 := Nat.mod_lt b hp
  have hc := low_cmp (x := ((limbs a).getD j 0).toNat) (y := ((limbs b).getD j 0).toNat) h1 h2
  have hc' := low_cmp (x := ((limbs b).getD j 0).toNat) (y := ((limbs a).getD j 0).toNat) h2 h1
  have hne2 : ((limbs a).getD j 0).toNat ≠ ((limbs b).getD j 0).toNat := fun e => hne (UInt32.toNat_inj.1 e)
  rw [hq] at ha
  unfold cmpI
  split
  ·rename_i hlt
   rw [if_pos (by omega)]
  ·rename_i hlt
   rw [if_neg (by omega), if_neg (by omega)]
theorem nat_Cmp {lab : Lab} {w : World} (hv : Valid lab w) {a : Nat} {v0 : Value} (h0 : NatV a lab w v0) {b : Nat} {v1 : Value} (h1 : NatV b lab w v1) :
  Calls Try.prog 34 #[v0, v1] w (fun e w' => ∃ v, e = .returned v ∧ (Is (i64 (cmpI a b))) lab w' v ∧ Below w.heap.size w w') := by
 obtain ⟨A, c, rfl, hc1, hc2, hr⟩ := h0
 obtain ⟨A', c', rfl, hc1', hc2', hr'⟩ := h1
 refine callsIn_wide.1 ((Cmp_in Fence.wide 3 trivial trivial trivial rfl (Nat.le_refl _) A A' c c' (limbs a) (limbs b) w (by show nw a ≤ _; omega) hr hr').mono ?_)
 rintro e w' ⟨⟨r, rfl, hcl⟩, hb⟩
 exact ⟨_, rfl, by rw [cmpL_cmpI hcl]; rfl, hb⟩
end Go.Proofs.Ytgfomedobfaidaa
end
section
set_option linter.unusedVariables false
set_option linter.unusedSimpArgs false
namespace Go.Proofs.Ytgfomedobfaidaa
open Go.RowKit
def RowF (d : Nat) (t : TypeId) (n : Nat) (cs : List Value) : VP := fun lab w v => ∃ b, v = .slice (some ⟨b, 0, none⟩) n n ∧ cs.length = n ∧ Own lab w d b t cs.toArray
instance (d : Nat) (t : TypeId) (n : Nat) (cs : List Value) : PerT [] (RowF d t n cs) := ⟨fun s ⟨b, h1, h2, h3⟩ => ⟨b, h1, h2, h3.lift s (by simp)⟩⟩
section
variable {ds : List Deferred} {P : Program} {N : Nat} {ops : Array Oper} {Q : Exit → Act → World → Prop} {l : List (Nat × Value)}
theorem law_callE {lab0 : Lab} {w0 : World} {Φ : Nat → VP} {T U : List Nat} {i d : Nat} {f : Nat} {xs : List Operand} {tys : Array TypeId} {ty : TypeId} {pos : String} {af : Array Edge} (ho : ops[i]? = some ⟨some d, .call ⟨.value (.func f), xs.toArray, tys⟩, ty, pos, af, none⟩) (hd : d < N) (hfc : Callable P f)
  (h : ∀ lab w a, Valid lab w → Stp T lab0 w0 lab w → Fr ds N l a → (∀ j, waits ops i j = true → Left ops Φ j lab w a) → ∃ l' vs, Fr ds N l' a ∧ evs l' xs = some vs ∧ Calls P f vs.toArray w (Eff U lab w (Φ i))) : OpLaw ds P N ops Q l lab0 w0 Φ T U i := by
 intro lab w a hv hs hf hl
 obtain ⟨l', vs, hf', hx, hc⟩ := h lab w a hv hs hf hl
 unfold wpOp
 simp only [ho]
 rw [if_pos (by simp [Region.wanted])]
 refine .inl ?_
 unfold Oper.wp
 rw [run_call hfc hx w a.eval (fun x u hu => hf'.eval hu)]
 refine Calls.mono hc ?_
 rintro e w' ⟨v, lab', rfl, hphi, hst, hv'⟩
 exact ⟨lab', v, fun o h => by cases h; rfl, fun d' h => by simp [dstOf, ho] at h; subst h; exact hd, hv', hst, hphi⟩
variable {w : World} {lab : Lab} {Φ : List PV} {T U : List Nat} {i d : Nat} {ty : TypeId} {pos : String} {af : Array Edge}
theorem oE {f : Nat} {xs : List Operand} {tys : Array TypeId} (deps : List (Nat × Nat)) (ho : ops[i]? = some ⟨some d, .call ⟨.value (.func f), xs.toArray, tys⟩, ty, pos, af, none⟩) (hdep : depOk ops i deps = true) (hf : Callable P f)
  (h : ∀ lab' w', Valid lab' w' → Stp T lab w lab' w' → Ask Φ lab' w' (fun l' => ∃ vs, evs l' xs = some vs ∧ Calls P f vs.toArray w' (Eff U lab' w' (phiV Φ i))) deps l) (hd : d < N := by decide) : OpL ds P N ops Q l lab w Φ T U i := fun w0 s0 =>
 law_callE ho hd hf fun lab' w' a hv hs hfr hl => by
  obtain ⟨l', hf', vs, h1, h4⟩ := Ask.elim (h lab' w' hv ((s0.trans hs).more (by simp))) hfr (dep_left hdep hl)
  exact ⟨l', vs, hf', h1, h4⟩
end
end Go.Proofs.Ytgfomedobfaidaa
end
section
set_option linter.unusedVariables false
set_option linter.unusedSimpArgs false
set_option maxRecDepth 100000
namespace Go.Proofs.Ytgfomedobfaidaa
open Go.RowKit
theorem nat_Sub {lab : Lab} {w : World} (hv : Valid lab w) {a : Nat} {v0 : Value} (h0 : NatV a lab w v0) {b : Nat} {v1 : Value} (h1 : NatV b lab w v1) (ha : nw a ≤ 1000000) (hb : nw b ≤ 1000000) :
  Calls Try.prog 111 #[v0, v1] w (fun e w' => ∃ v, e = .returned v ∧ (And2 (NatV (if a < b then 0 else a - b)) (Is (.bool (decide (b ≤ a))))) lab w' v ∧ Below w.heap.size w w') := by
 obtain ⟨L0, h0L, ⟨zU0, z00⟩, hX⟩ := enter0 hv
 replace h0 := up z00 h0
 obtain ⟨A1, c2, rfl⟩ := NatV.shape h0
 have z3 := NatV.cap h0
 replace h1 := up z00 h1
 obtain ⟨A4, c5, rfl⟩ := NatV.shape h1
 have z6 := NatV.cap h1
 have hLa : (limbs a).length = nw a := rfl
 have hLb : (limbs b).length = nw b := rfl
 refine calls_run Try.func111 rfl Try.ntmps111 (Nat.le_of_ble_eq_true rfl) ?_
 refine rsr ?_
 refine sbox 3 [.slice A1 (nw a) c2] h0L rfl rfl fun b9 L7 w8 o10 s11 h12 => ?_
 refine sbox 4 [.slice A4 (nw b) c5] h12 rfl rfl fun b15 L13 w14 o16 s17 h18 => ?_
 refine salloc 5 [.slice none 0 0] h18 ty60 rfl fun b21 L19 w20 o22 s23 h24 => ?_
 refine sv (Does.assign rfl) ?_
 refine Seq.next ?_
 refine Run.seq ?_
 refine rsr ?_
 have c26 := s17.trans s23
 have o25 := o10.up c26
 refine sv (Does.load_ownN [.slice A1 (nw a) c2] o25 ty60 rfl rfl) ?_
 have o27 := o16.up s23
 refine sv (Does.load_ownN [.slice A4 (nw b) c5] o27 ty60 rfl rfl) ?_
 have c28 := s11.trans c26
 have q29 := up c28 h0
 have q30 := up c28 h1
 refine scall (V := Is (i64 (cmpI a b))) cal34 h24 rfl (nat_Cmp h24 q29 q30) fun v31 w32 q33 s34 h35 => ?_
 have q33 := Is.out q33; subst q33
 refine sv (Does.lss rfl rfl) ?_
 refine Seq.next ?_
 rcases Decidable.em ((cmpI a b : Int) < (0 : Int)) with hp1 | hp1
 ·refine Run.cond_b rfl (decide_eq_true hp1) ?_
  refine rsr ?_
  refine sv (Does.build [] [(0, 1)] [.slice none 0 0] Try.underlying60 ty60 (by kernel_rfl) rfl (by kernel_rfl)) ?_
  have o36 := o22.up s34
  refine sstore [.slice none 0 0] h35 o36 ty60 rfl rfl rfl (Nat.le_of_ble_eq_true rfl) rfl rfl fun w37 o38 s39 h40 => ?_
  refine sv (Does.assign rfl) ?_
  refine Seq.next ?_
  have c41 := s34.trans s39
  have c42 := c28.trans c41
  obtain ⟨⟨zU, zo⟩, zb⟩ := hX c42 (by decide)
  have q43 := up s39 (NatV.zero L19 w32)
  refine Run.ret (ret_then ?_)
  exact post_two Try.results111 ⟨_, rfl, Own.loadN [.slice none 0 0] o38 ty60 rfl⟩ rfl ⟨_, rfl, ⟨_, _, rfl, (NatV.cast (by rw [if_pos (cmp_lt hp1)]) (up zo q43)), (isBool (by (have h9 := cmp_lt hp1; simp; omega)) _ _)⟩, zb⟩
 refine Run.cond_b rfl (decide_eq_false hp1) ?_
 refine Run.skip_go (fun _ _ h => h) ?_
 refine rsr ?_
 refine sv (Does.fieldAddr' 0 Try.underlying60 rfl ty58 rfl rfl) ?_
 have o44 := o25.up s34
 have q46 := up s34 q29
 have q45 := NatV.words q46
 refine sv (Does.load_own1 o44 ty58 rfl rfl) ?_
 refine sv (Does.len Try.underlying58 rfl) ?_
 refine Seq.make_row (k := 20) u32 (0 : UInt32) (nw a) h35 Try.underlying58 ty167 rfl rfl rfl (by omega) (by omega) (by omega) (by omega) (by decide) ?_
 intro lab47 w48 b49 o50 s51 hv52
 refine sv (Does.assign rfl) ?_
 refine nsr ?_
 refine sv (Does.assign rfl) ?_
 refine Seq.next ?_
 refine Run.seq ?_
 refine rsr ?_
 refine sv (Does.fieldAddr' 0 Try.underlying60 rfl ty58 rfl rfl) ?_
 have o53 := o44.up s51
 have q55 := up s51 q46
 have q54 := NatV.words q55
 refine sv (Does.load_own1 o53 ty58 rfl rfl) ?_
 refine sv (Does.len Try.underlying58 rfl) ?_
 refine sv (Does.move rfl) ?_
 refine Seq.next ?_
 refine Run.block ?_
 refine Run.loop (fun m' l' w' => ∃ (k : Nat) (lab' : Lab), m' = nw a - k ∧ l' = [(23, i64 ((k : Nat) : Int)), (7, i64 (bor a b k)), (3, .pointer (some ⟨b15, 0, none⟩)), (4, .pointer (some ⟨b21, 0, none⟩)), (5, .bool false), (6, .slice (some ⟨b49, 0, none⟩) (nw a) (nw a)), (21, .slice A1 (nw a) c2), (22, i64 ((nw a : Nat) : Int))] ∧ Valid lab' w' ∧ Stp [20] lab47 w48 lab' w' ∧ Own lab' w' 20 b49 167 (List.map u32 (upto (a - b) k (nw a))).toArray ∧ (k ≤ nw a)) (nw a - 0) (l0 := [(23, i64 ((0 : Nat) : Int)), (7, i64 (bor a b 0)), (3, .pointer (some ⟨b15, 0, none⟩)), (4, .pointer (some ⟨b21, 0, none⟩)), (5, .bool false), (6, .slice (some ⟨b49, 0, none⟩) (nw a) (nw a)), (21, .slice A1 (nw a) c2), (22, i64 ((nw a : Nat) : Int))]) ⟨(congrArg (fun z => some (i64 z)) (show (0 : Int) = ((0 : Nat) : Int) from by rfl)), (congrArg (fun z => some (i64 z)) (show (0 : Int) = bor a b 0 from by exact (bor_zero a b).symm)), rfl, rfl, rfl, rfl, rfl, rfl, trivial⟩ ⟨0, lab47, rfl, rfl, hv52, ((Stp.refl _ _).more (by simp)), ((show List.replicate (nw a) (0 : UInt32) = upto (a - b) 0 (nw a) from by exact (upto_zero _ _).symm) ▸ o50), (by omega)⟩ ?_
 intro m56 l57 w58 H59
 obtain ⟨k, lab60, hzm, rfl, hv61, s62, o63, hk⟩ := H59
 replace hzm := hzm.symm; subst hzm
 have hz := limbz b k
 have hbl := bor_le a b k
 have hba := cmp_nlt hp1
 have hs := bor_succ a b k
 refine rsr ?_
 refine sv (Does.lss rfl rfl) ?_
 refine Seq.next ?_
 refine Run.seq ?_
 rcases Decidable.em ((((k : Nat) : Int) : Int) < (((nw a : Nat) : Int) : Int)) with hp2 | hp2
 rotate_left
 ·refine Run.cond_b rfl (decide_eq_false hp2) ?_
  refine Run.exit_go (fun _ _ h => h) ?_
  refine rsr ?_
  refine sv (Does.move rfl) ?_
  have hv101 := Valid.release hv61 20
  have q102 : WordsV (upto (a - b) k (nw a)) (labFree lab60 20) w58 (.slice (some ⟨b49, 0, none⟩) (nw a) (nw a)) := WordsV.release o63 (by (rw [upto_length (by omega)])) (by omega)
  refine scall (V := NatV (wv (upto (a - b) k (nw a)))) cal105 hv101 rfl (nat_trim hv101 q102) fun v103 w104 q105 s106 h107 => ?_
  obtain ⟨A108, c109, rfl⟩ := NatV.shape q105
  have z110 := NatV.cap q105
  have c112 := (Stp.release (lab := lab60) (w := w58) 20).trans s106
  have c113 := s62.trans c112
  have c114 := s51.trans c113
  have c115 := s34.trans c114
  have o111 := o22.up c115
  refine sstore [.slice A108 (nw (wv (upto (a - b) k (nw a)))) c109] h107 o111 ty60 rfl rfl rfl (Nat.le_of_ble_eq_true rfl) rfl rfl fun w116 o117 s118 h119 => ?_
  refine sv (Does.assign rfl) ?_
  refine Seq.next ?_
  have c120 := c115.trans s118
  have c121 := c28.trans c120
  obtain ⟨⟨zU, zo⟩, zb⟩ := hX c121 (by decide)
  have q122 := up s118 q105
  refine Run.ret ?_
  exact post_two Try.results111 ⟨_, rfl, Own.loadN [.slice A108 (nw (wv (upto (a - b) k (nw a)))) c109] o117 ty60 rfl⟩ rfl ⟨_, rfl, ⟨_, _, rfl, (NatV.cast (by (rw [if_neg (by have h9 := cmp_nlt hp1; omega), show k = nw a by omega, sub_end (Nat.le_refl _)])) (up zo q122)), (isBool (by (have h9 := cmp_nlt hp1; simp; omega)) _ _)⟩, zb⟩
 refine Run.cond_b rfl (decide_eq_true hp2) ?_
 refine Run.skip_go (fun _ _ h => h) ?_
 refine Run.seq ?_
 refine Run.block ?_
 refine rsr ?_
 refine sv (Does.move rfl) ?_
 have q64 := up s62 q54
 refine sv (Does.index_row k Try.underlying58 ty167 rfl rfl (WordsV.row q64) (by simp [nw]) (by omega) (by omega)) ?_
 have t65 := UInt32.toNat_lt (List.getD (limbs a) k (0 : UInt32))
 refine sv (Does.load_row ty167 rfl (WordsV.row q64) (map_get u32 _ (0 : UInt32) (by omega))) ?_
 refine sv (Does.assign rfl) ?_
 refine sv (Does.assign rfl) ?_
 refine nsr ?_
 refine sv (Does.move rfl) ?_
 refine sv (Does.conv_int Try.underlying167 Try.underlying2 rfl (wrap_u32_i64 _)) ?_
 refine sv (Does.move rfl) ?_
 refine sv (Does.sub rfl rfl (by omega)) ?_
 refine sv (Does.assign rfl) ?_
 refine Seq.next ?_
 refine Run.seq ?_
 refine rsr ?_
 refine sv (Does.move rfl) ?_
 refine sv (Does.fieldAddr' 0 Try.underlying60 rfl ty58 rfl rfl) ?_
 have c67 := s51.trans s62
 have c68 := s34.trans c67
 have o66 := o27.up c68
 have q70 := up c68 q30
 have q69 := NatV.words q70
 refine sv (Does.load_own1 o66 ty58 rfl rfl) ?_
 refine sv (Does.len Try.underlying58 rfl) ?_
 refine sv (Does.lss rfl rfl) ?_
 refine Seq.next ?_
 rcases Decidable.em ((((k : Nat) : Int) : Int) < (((nw b : Nat) : Int) : Int)) with hp3 | hp3
 rotate_left
 ·refine Run.cond_b rfl (decide_eq_false hp3) ?_
  refine Run.skip_go (fun _ _ h => h) ?_
  refine rsr ?_
  refine sv (Does.assign rfl) ?_
  refine Seq.next ?_
  refine Run.seq ?_
  refine rsr ?_
  refine sv (Does.move rfl) ?_
  refine sv (Does.lss rfl rfl) ?_
  refine Seq.next ?_
  rcases Decidable.em ((((List.getD (limbs a) k (0 : UInt32)).toNat : Int) - (bor a b k) : Int) < (0 : Int)) with hp4 | hp4
  rotate_left
  ·refine Run.cond_b rfl (decide_eq_false hp4) ?_
   refine Run.skip_go (fun _ _ h => h) ?_
   refine Run.region ?_
   refine sv (Does.move rfl) ?_
   refine sv (Does.move rfl) ?_
   refine sv (Does.move rfl) ?_
   refine sv (Does.i64_u32 Try.underlying2 Try.underlying167 rfl (by omega)) ?_
   refine sv (Does.index_own k Try.underlying58 ty167 rfl rfl (by omega) (by omega)) ?_
   refine Seq.store_row (k := 20) (j := k) (v := (UInt32.ofNat (((List.getD (limbs a) k (0 : UInt32)).toNat : Int) - (bor a b k)).toNat)) u32 hv61 o63 ty167 (congrArg (fun o => some (Value.pointer (some ⟨b49, o, none⟩))) (Nat.mul_one k)) rfl (by (rw [upto_length (by omega)]; omega)) rfl rfl fun w94 o95 s96 h97 => ?_
   refine Seq.go (fun _ _ h => h) ?_
   refine Run.region ?_
   refine sv (Does.add rfl rfl (by omega)) ?_
   refine sv (Does.move rfl) ?_
   have c98 := s62.trans s96
   exact Seq.nil (fun a99 h100 => ⟨_, by omega, _, h100.weaken (subs_lk (l' := [(23, i64 (((k + 1) : Nat) : Int)), (7, i64 (bor a b (k + 1))), (3, .pointer (some ⟨b15, 0, none⟩)), (4, .pointer (some ⟨b21, 0, none⟩)), (5, .bool false), (6, .slice (some ⟨b49, 0, none⟩) (nw a) (nw a)), (21, .slice A1 (nw a) c2), (22, i64 ((nw a : Nat) : Int))]) ⟨(congrArg (fun z => some (i64 z)) (show (((k : Nat) : Int) + 1 : Int) = (((k + 1) : Nat) : Int) from by rfl)), (congrArg (fun z => some (i64 z)) (show (0 : Int) = bor a b (k + 1) from by omega)), rfl, rfl, rfl, rfl, rfl, rfl, trivial⟩), ⟨k + 1, lab60, rfl, rfl, h97, (c98.more (by decide)), ((show List.set (upto (a - b) k (nw a)) k (UInt32.ofNat (((List.getD (limbs a) k (0 : UInt32)).toNat : Int) - (bor a b k)).toNat) = upto (a - b) (k + 1) (nw a) from by exact sub_step hba (by omega) ⟨by omega, by omega⟩ (by omega)) ▸ o95), (by omega)⟩⟩)
  refine Run.cond_b rfl (decide_eq_true hp4) ?_
  refine rsr ?_
  refine sv (Does.move rfl) ?_
  refine sv (Does.add rfl rfl (by omega)) ?_
  refine sv (Does.assign rfl) ?_
  refine Seq.next ?_
  refine Run.region ?_
  refine sv (Does.assign rfl) ?_
  refine Seq.next ?_
  refine Run.region ?_
  refine sv (Does.move rfl) ?_
  refine sv (Does.move rfl) ?_
  refine sv (Does.move rfl) ?_
  refine sv (Does.i64_u32 Try.underlying2 Try.underlying167 rfl (by omega)) ?_
  refine sv (Does.index_own k Try.underlying58 ty167 rfl rfl (by omega) (by omega)) ?_
  refine Seq.store_row (k := 20) (j := k) (v := (UInt32.ofNat ((((List.getD (limbs a) k (0 : UInt32)).toNat : Int) - (bor a b k)) + 4294967296).toNat)) u32 hv61 o63 ty167 (congrArg (fun o => some (Value.pointer (some ⟨b49, o, none⟩))) (Nat.mul_one k)) rfl (by (rw [upto_length (by omega)]; omega)) rfl rfl fun w87 o88 s89 h90 => ?_
  refine Seq.go (fun _ _ h => h) ?_
  refine Run.region ?_
  refine sv (Does.add rfl rfl (by omega)) ?_
  refine sv (Does.move rfl) ?_
  have c91 := s62.trans s89
  exact Seq.nil (fun a92 h93 => ⟨_, by omega, _, h93.weaken (subs_lk (l' := [(23, i64 (((k + 1) : Nat) : Int)), (7, i64 (bor a b (k + 1))), (3, .pointer (some ⟨b15, 0, none⟩)), (4, .pointer (some ⟨b21, 0, none⟩)), (5, .bool false), (6, .slice (some ⟨b49, 0, none⟩) (nw a) (nw a)), (21, .slice A1 (nw a) c2), (22, i64 ((nw a : Nat) : Int))]) ⟨(congrArg (fun z => some (i64 z)) (show (((k : Nat) : Int) + 1 : Int) = (((k + 1) : Nat) : Int) from by rfl)), (congrArg (fun z => some (i64 z)) (show (1 : Int) = bor a b (k + 1) from by omega)), rfl, rfl, rfl, rfl, rfl, rfl, trivial⟩), ⟨k + 1, lab60, rfl, rfl, h90, (c91.more (by decide)), ((show List.set (upto (a - b) k (nw a)) k (UInt32.ofNat ((((List.getD (limbs a) k (0 : UInt32)).toNat : Int) - (bor a b k)) + 4294967296).toNat) = upto (a - b) (k + 1) (nw a) from by exact sub_step hba (by omega) ⟨by omega, by omega⟩ (by omega)) ▸ o88), (by omega)⟩⟩)
 refine Run.cond_b rfl (decide_eq_true hp3) ?_
 refine Run.region ?_
 refine sv (Does.move rfl) ?_
 refine sv (Does.fieldAddr' 0 Try.underlying60 rfl ty58 rfl rfl) ?_
 have q71 := NatV.words q70
 refine sv (Does.load_own1 o66 ty58 rfl rfl) ?_
 refine sv (Does.move rfl) ?_
 refine sv (Does.index_row k Try.underlying58 ty167 rfl rfl (WordsV.row q71) (by simp [nw]) (by omega) (by omega)) ?_
 have t72 := UInt32.toNat_lt (List.getD (limbs b) k (0 : UInt32))
 refine sv (Does.load_row ty167 rfl (WordsV.row q71) (map_get u32 _ (0 : UInt32) (by omega))) ?_
 refine sv (Does.conv_int Try.underlying167 Try.underlying2 rfl (wrap_u32_i64 _)) ?_
 refine sv (Does.sub rfl rfl (by omega)) ?_
 refine sv (Does.assign rfl) ?_
 refine nsr ?_
 refine sv (Does.assign rfl) ?_
 refine Seq.next ?_
 refine Run.seq ?_
 refine rsr ?_
 refine sv (Does.move rfl) ?_
 refine sv (Does.lss rfl rfl) ?_
 refine Seq.next ?_
 rcases Decidable.em (((((List.getD (limbs a) k (0 : UInt32)).toNat : Int) - (bor a b k)) - ((List.getD (limbs b) k (0 : UInt32)).toNat : Int) : Int) < (0 : Int)) with hp4 | hp4
 rotate_left
 ·refine Run.cond_b rfl (decide_eq_false hp4) ?_
  refine Run.skip_go (fun _ _ h => h) ?_
  refine Run.region ?_
  refine sv (Does.move rfl) ?_
  refine sv (Does.move rfl) ?_
  refine sv (Does.move rfl) ?_
  refine sv (Does.i64_u32 Try.underlying2 Try.underlying167 rfl (by omega)) ?_
  refine sv (Does.index_own k Try.underlying58 ty167 rfl rfl (by omega) (by omega)) ?_
  refine Seq.store_row (k := 20) (j := k) (v := (UInt32.ofNat ((((List.getD (limbs a) k (0 : UInt32)).toNat : Int) - (bor a b k)) - ((List.getD (limbs b) k (0 : UInt32)).toNat : Int)).toNat)) u32 hv61 o63 ty167 (congrArg (fun o => some (Value.pointer (some ⟨b49, o, none⟩))) (Nat.mul_one k)) rfl (by (rw [upto_length (by omega)]; omega)) rfl rfl fun w80 o81 s82 h83 => ?_
  refine Seq.go (fun _ _ h => h) ?_
  refine Run.region ?_
  refine sv (Does.add rfl rfl (by omega)) ?_
  refine sv (Does.move rfl) ?_
  have c84 := s62.trans s82
  exact Seq.nil (fun a85 h86 => ⟨_, by omega, _, h86.weaken (subs_lk (l' := [(23, i64 (((k + 1) : Nat) : Int)), (7, i64 (bor a b (k + 1))), (3, .pointer (some ⟨b15, 0, none⟩)), (4, .pointer (some ⟨b21, 0, none⟩)), (5, .bool false), (6, .slice (some ⟨b49, 0, none⟩) (nw a) (nw a)), (21, .slice A1 (nw a) c2), (22, i64 ((nw a : Nat) : Int))]) ⟨(congrArg (fun z => some (i64 z)) (show (((k : Nat) : Int) + 1 : Int) = (((k + 1) : Nat) : Int) from by rfl)), (congrArg (fun z => some (i64 z)) (show (0 : Int) = bor a b (k + 1) from by omega)), rfl, rfl, rfl, rfl, rfl, rfl, trivial⟩), ⟨k + 1, lab60, rfl, rfl, h83, (c84.more (by decide)), ((show List.set (upto (a - b) k (nw a)) k (UInt32.ofNat ((((List.getD (limbs a) k (0 : UInt32)).toNat : Int) - (bor a b k)) - ((List.getD (limbs b) k (0 : UInt32)).toNat : Int)).toNat) = upto (a - b) (k + 1) (nw a) from by exact sub_step hba (by omega) ⟨by omega, by omega⟩ (by omega)) ▸ o81), (by omega)⟩⟩)
 refine Run.cond_b rfl (decide_eq_true hp4) ?_
 refine rsr ?_
 refine sv (Does.move rfl) ?_
 refine sv (Does.add rfl rfl (by omega)) ?_
 refine sv (Does.assign rfl) ?_
 refine Seq.next ?_
 refine Run.region ?_
 refine sv (Does.assign rfl) ?_
 refine Seq.next ?_
 refine Run.region ?_
 refine sv (Does.move rfl) ?_
 refine sv (Does.move rfl) ?_
 refine sv (Does.move rfl) ?_
 refine sv (Does.i64_u32 Try.underlying2 Try.underlying167 rfl (by omega)) ?_
 refine sv (Does.index_own k Try.underlying58 ty167 rfl rfl (by omega) (by omega)) ?_
 refine Seq.store_row (k := 20) (j := k) (v := (UInt32.ofNat (((((List.getD (limbs a) k (0 : UInt32)).toNat : Int) - (bor a b k)) - ((List.getD (limbs b) k (0 : UInt32)).toNat : Int)) + 4294967296).toNat)) u32 hv61 o63 ty167 (congrArg (fun o => some (Value.pointer (some ⟨b49, o, none⟩))) (Nat.mul_one k)) rfl (by (rw [upto_length (by omega)]; omega)) rfl rfl fun w73 o74 s75 h76 => ?_
 refine Seq.go (fun _ _ h => h) ?_
 refine Run.region ?_
 refine sv (Does.add rfl rfl (by omega)) ?_
 refine sv (Does.move rfl) ?_
 have c77 := s62.trans s75
 exact Seq.nil (fun a78 h79 => ⟨_, by omega, _, h79.weaken (subs_lk (l' := [(23, i64 (((k + 1) : Nat) : Int)), (7, i64 (bor a b (k + 1))), (3, .pointer (some ⟨b15, 0, none⟩)), (4, .pointer (some ⟨b21, 0, none⟩)), (5, .bool false), (6, .slice (some ⟨b49, 0, none⟩) (nw a) (nw a)), (21, .slice A1 (nw a) c2), (22, i64 ((nw a : Nat) : Int))]) ⟨(congrArg (fun z => some (i64 z)) (show (((k : Nat) : Int) + 1 : Int) = (((k + 1) : Nat) : Int) from by rfl)), (congrArg (fun z => some (i64 z)) (show (1 : Int) = bor a b (k + 1) from by omega)), rfl, rfl, rfl, rfl, rfl, rfl, trivial⟩), ⟨k + 1, lab60, rfl, rfl, h76, (c77.more (by decide)), ((show List.set (upto (a - b) k (nw a)) k (UInt32.ofNat (((((List.getD (limbs a) k (0 : UInt32)).toNat : Int) - (bor a b k)) - ((List.getD (limbs b) k (0 : UInt32)).toNat : Int)) + 4294967296).toNat) = upto (a - b) (k + 1) (nw a) from by exact sub_step hba (by omega) ⟨by omega, by omega⟩ (by omega)) ▸ o74), (by omega)⟩⟩)
theorem nat_shift {lab : Lab} {w : World} (hv : Valid lab w) {l : List UInt32} {v0 : Value} (h0 : WordsV l lab w v0) {n : Nat} (hl : List.length l ≤ 1000000) (hn : n < 32) :
  Calls Try.prog 159 #[v0, i64 ((n : Nat) : Int)] w (fun e w' => ∃ v, e = .returned v ∧ (WordsV (shl l n)) lab w' v ∧ Below w.heap.size w w') := by
 obtain ⟨L0, h0L, ⟨zU0, z00⟩, hX⟩ := enter0 hv
 replace h0 := up z00 h0
 obtain ⟨A1, c2, rfl⟩ := WordsV.shape h0
 have z3 := WordsV.cap h0
 refine calls_run Try.func159 rfl Try.ntmps159 (Nat.le_of_ble_eq_true rfl) ?_
 refine rsr ?_
 refine sv (Does.assign rfl) ?_
 refine nsr ?_
 refine sv (Does.move rfl) ?_
 refine sv (Does.len Try.underlying58 rfl) ?_
 refine sv (Does.add rfl rfl (by omega)) ?_
 refine Seq.make_row (k := 13) u32 (0 : UInt32) ((List.length l) + 1) h0L Try.underlying58 ty167 rfl rfl rfl (by omega) (by omega) (by omega) (by omega) (by decide) ?_
 intro lab4 w5 b6 o7 s8 hv9
 refine sv (Does.assign rfl) ?_
 refine Seq.next ?_
 refine Run.seq ?_
 refine rsr ?_
 refine sv (Does.move rfl) ?_
 refine sv (Does.len Try.underlying58 rfl) ?_
 refine sv (Does.move rfl) ?_
 refine Seq.next ?_
 refine Run.block ?_
 refine Run.loop (fun m' l' w' => ∃ (k : Nat) (lab' : Lab), m' = List.length l - k ∧ l' = [(15, i64 ((k : Nat) : Int)), (1, i64 ((n : Nat) : Int)), (4, .slice none 0 0), (5, .slice (some ⟨b6, 0, none⟩) ((List.length l) + 1) ((List.length l) + 1)), (13, .slice A1 (List.length l) c2), (14, i64 ((List.length l : Nat) : Int))] ∧ Valid lab' w' ∧ Stp [13] lab4 w5 lab' w' ∧ Own lab' w' 13 b6 167 (List.map u32 (wsN (wv (List.take k l) * 2 ^ n) (List.length l + 1))).toArray ∧ (k ≤ List.length l)) (List.length l - 0) (l0 := [(15, i64 ((0 : Nat) : Int)), (1, i64 ((n : Nat) : Int)), (4, .slice none 0 0), (5, .slice (some ⟨b6, 0, none⟩) ((List.length l) + 1) ((List.length l) + 1)), (13, .slice A1 (List.length l) c2), (14, i64 ((List.length l : Nat) : Int))]) ⟨(congrArg (fun z => some (i64 z)) (show (0 : Int) = ((0 : Nat) : Int) from by rfl)), rfl, rfl, rfl, rfl, rfl, trivial⟩ ⟨0, lab4, rfl, rfl, hv9, ((Stp.refl _ _).more (by simp)), ((show List.replicate ((List.length l) + 1) (0 : UInt32) = wsN (wv (List.take 0 l) * 2 ^ n) (List.length l + 1) from by (rw [List.take_zero]; show _ = wsN (0 * _) _; rw [Nat.zero_mul, wsN_zeros])) ▸ o7), (by omega)⟩ ?_
 intro m10 l11 w12 H13
 obtain ⟨k, lab14, hzm, rfl, hv15, s16, o17, hk⟩ := H13
 replace hzm := hzm.symm; subst hzm
 refine rsr ?_
 refine sv (Does.lss rfl rfl) ?_
 refine Seq.next ?_
 refine Run.seq ?_
 rcases Decidable.em ((((k : Nat) : Int) : Int) < (((List.length l : Nat) : Int) : Int)) with hp1 | hp1
 rotate_left
 ·refine Run.cond_b rfl (decide_eq_false hp1) ?_
  refine Run.exit_go (fun _ _ h => h) ?_
  refine rsr ?_
  refine sv (Does.move rfl) ?_
  refine sv (Does.assign rfl) ?_
  refine Seq.next ?_
  have hv34 := Valid.release hv15 13
  have q35 : WordsV (wsN (wv (List.take k l) * 2 ^ n) (List.length l + 1)) (labFree lab14 13) w12 (.slice (some ⟨b6, 0, none⟩) ((List.length l) + 1) ((List.length l) + 1)) := WordsV.release o17 (by exact wsN_length _ _) (by omega)
  have c36 := s16.trans (Stp.release (lab := lab14) (w := w12) 13)
  have c37 := s8.trans c36
  obtain ⟨⟨zU, zo⟩, zb⟩ := hX c37 (by decide)
  refine Run.ret ?_
  exact post_one Try.results159 rfl ⟨_, rfl, (WordsV.cast (by (unfold shl; rw [List.take_of_length_le (by omega)])) (up zo q35)), zb⟩
 refine Run.cond_b rfl (decide_eq_true hp1) ?_
 refine Run.skip_go (fun _ _ h => h) ?_
 refine Run.seq ?_
 refine Run.block ?_
 refine rsr ?_
 refine sv (Does.move rfl) ?_
 have c18 := s8.trans s16
 have q19 := up c18 h0
 refine sv (Does.index_row k Try.underlying58 ty167 rfl rfl (WordsV.row q19) (by simp [nw]) (by omega) (by omega)) ?_
 have t20 := UInt32.toNat_lt (List.getD l k (0 : UInt32))
 refine sv (Does.load_row ty167 rfl (WordsV.row q19) (map_get u32 _ (0 : UInt32) (by omega))) ?_
 refine sv (Does.assign rfl) ?_
 refine sv (Does.assign rfl) ?_
 refine nsr ?_
 refine sv (Does.move rfl) ?_
 refine sv (Does.u32_n64 Try.underlying167 Try.underlying62 rfl) ?_
 refine sv (Does.move rfl) ?_
 refine sv (Does.n64_shlN rfl rfl (by omega) (by exact shl_ltN hn)) ?_
 refine sv (Does.assign rfl) ?_
 refine nsr ?_
 refine sv (Does.move rfl) ?_
 refine sv (Does.move rfl) ?_
 refine sv (Does.index_own k Try.underlying58 ty167 rfl rfl (by omega) (by omega)) ?_
 have t21 := UInt32.toNat_lt (List.getD (wsN (wv (List.take k l) * 2 ^ n) (List.length l + 1)) k (0 : UInt32))
 refine sv (Does.load_own1 o17 ty167 rfl (by rw [Nat.mul_one]; exact row_get u32 _ (0 : UInt32) (by (rw [wsN_length]; omega)))) ?_
 refine sv (Does.move rfl) ?_
 refine sv (Does.n64_u32 Try.underlying62 Try.underlying167 rfl) ?_
 refine sv (Does.u32_or rfl rfl) ?_
 refine sv (Does.index_own k Try.underlying58 ty167 rfl rfl (by omega) (by omega)) ?_
 refine Seq.store_row (k := 13) (j := k) (v := ((List.getD (wsN (wv (List.take k l) * 2 ^ n) (List.length l + 1)) k (0 : UInt32)) ||| (UInt32.ofNat (((List.getD l k (0 : UInt32)).toNat) * 2 ^ n)))) u32 hv15 o17 ty167 (congrArg (fun o => some (Value.pointer (some ⟨b6, o, none⟩))) (Nat.mul_one k)) rfl (by (rw [wsN_length]; omega)) rfl rfl fun w22 o23 s24 h25 => ?_
 refine Seq.next ?_
 refine Run.region ?_
 refine sv (Does.move rfl) ?_
 refine sv (Does.move rfl) ?_
 refine sv (Does.add rfl rfl (by omega)) ?_
 refine sv (Does.move rfl) ?_
 refine sv (Does.n64_shr32 rfl rfl) ?_
 refine sv (Does.n64_u32 Try.underlying62 Try.underlying167 rfl) ?_
 refine sv (Does.index_own (k + 1) Try.underlying58 ty167 rfl rfl (by omega) (by omega)) ?_
 refine Seq.store_row (k := 13) (j := (k + 1)) (v := (UInt32.ofNat ((((List.getD l k (0 : UInt32)).toNat) * 2 ^ n) / 4294967296))) u32 h25 o23 ty167 (congrArg (fun o => some (Value.pointer (some ⟨b6, o, none⟩))) (Nat.mul_one (k + 1))) rfl (by (rw [List.length_set, wsN_length]; omega)) rfl rfl fun w26 o27 s28 h29 => ?_
 refine Seq.go (fun _ _ h => h) ?_
 refine Run.region ?_
 refine sv (Does.add rfl rfl (by omega)) ?_
 refine sv (Does.move rfl) ?_
 have c30 := s24.trans s28
 have c31 := s16.trans c30
 exact Seq.nil (fun a32 h33 => ⟨_, by omega, _, h33.weaken (subs_lk (l' := [(15, i64 (((k + 1) : Nat) : Int)), (1, i64 ((n : Nat) : Int)), (4, .slice none 0 0), (5, .slice (some ⟨b6, 0, none⟩) ((List.length l) + 1) ((List.length l) + 1)), (13, .slice A1 (List.length l) c2), (14, i64 ((List.length l : Nat) : Int))]) ⟨(congrArg (fun z => some (i64 z)) (show (((k : Nat) : Int) + 1 : Int) = (((k + 1) : Nat) : Int) from by rfl)), rfl, rfl, rfl, rfl, rfl, trivial⟩), ⟨k + 1, lab14, rfl, rfl, h29, (c31.more (by decide)), ((show List.set (List.set (wsN (wv (List.take k l) * 2 ^ n) (List.length l + 1)) k ((List.getD (wsN (wv (List.take k l) * 2 ^ n) (List.length l + 1)) k (0 : UInt32)) ||| (UInt32.ofNat (((List.getD l k (0 : UInt32)).toNat) * 2 ^ n)))) (k + 1) (UInt32.ofNat ((((List.getD l k (0 : UInt32)).toNat) * 2 ^ n) / 4294967296)) = wsN (wv (List.take (k + 1) l) * 2 ^ n) (List.length l + 1) from by exact shift_step (by omega) (by omega) (by omega) rfl rfl) ▸ o27), (by omega)⟩⟩)
theorem nat_shiftO {lab : Lab} {w : World} (hv : Valid lab w) {K : Nat} {l : List UInt32} {v0 : Value} (h0 : WordsV l lab w v0) {n : Nat} (hl : List.length l ≤ 1000000) (hn : n < 32) :
  Calls Try.prog 159 #[v0, i64 ((n : Nat) : Int)] w (Eff [] lab w (RowF K 167 (List.length l + 1) (List.map u32 (shl l n)))) := by
 obtain ⟨L0, h0L, ⟨zU0, z00⟩, hO, hA, hX⟩ := enterM [] hv
 replace h0 := up z00 h0
 obtain ⟨A1, c2, rfl⟩ := WordsV.shape h0
 have z3 := WordsV.cap h0
 refine calls_run Try.func159 rfl Try.ntmps159 (Nat.le_of_ble_eq_true rfl) ?_
 refine rsr ?_
 refine sv (Does.assign rfl) ?_
 refine nsr ?_
 refine sv (Does.move rfl) ?_
 refine sv (Does.len Try.underlying58 rfl) ?_
 refine sv (Does.add rfl rfl (by omega)) ?_
 refine Seq.make_row (k := 13) u32 (0 : UInt32) ((List.length l) + 1) h0L Try.underlying58 ty167 rfl rfl rfl (by omega) (by omega) (by omega) (by omega) (by decide) ?_
 intro lab4 w5 b6 o7 s8 hv9
 refine sv (Does.assign rfl) ?_
 refine Seq.next ?_
 refine Run.seq ?_
 refine rsr ?_
 refine sv (Does.move rfl) ?_
 refine sv (Does.len Try.underlying58 rfl) ?_
 refine sv (Does.move rfl) ?_
 refine Seq.next ?_
 refine Run.block ?_
 refine Run.loop (fun m' l' w' => ∃ (k : Nat) (lab' : Lab), m' = List.length l - k ∧ l' = [(15, i64 ((k : Nat) : Int)), (1, i64 ((n : Nat) : Int)), (4, .slice none 0 0), (5, .slice (some ⟨b6, 0, none⟩) ((List.length l) + 1) ((List.length l) + 1)), (13, .slice A1 (List.length l) c2), (14, i64 ((List.length l : Nat) : Int))] ∧ Valid lab' w' ∧ Stp [13] lab4 w5 lab' w' ∧ Own lab' w' 13 b6 167 (List.map u32 (wsN (wv (List.take k l) * 2 ^ n) (List.length l + 1))).toArray ∧ (k ≤ List.length l)) (List.length l - 0) (l0 := [(15, i64 ((0 : Nat) : Int)), (1, i64 ((n : Nat) : Int)), (4, .slice none 0 0), (5, .slice (some ⟨b6, 0, none⟩) ((List.length l) + 1) ((List.length l) + 1)), (13, .slice A1 (List.length l) c2), (14, i64 ((List.length l : Nat) : Int))]) ⟨(congrArg (fun z => some (i64 z)) (show (0 : Int) = ((0 : Nat) : Int) from by rfl)), rfl, rfl, rfl, rfl, rfl, trivial⟩ ⟨0, lab4, rfl, rfl, hv9, ((Stp.refl _ _).more (by simp)), ((show List.replicate ((List.length l) + 1) (0 : UInt32) = wsN (wv (List.take 0 l) * 2 ^ n) (List.length l + 1) from by (rw [List.take_zero]; show _ = wsN (0 * _) _; rw [Nat.zero_mul, wsN_zeros])) ▸ o7), (by omega)⟩ ?_
 intro m10 l11 w12 H13
 obtain ⟨k, lab14, hzm, rfl, hv15, s16, o17, hk⟩ := H13
 replace hzm := hzm.symm; subst hzm
 refine rsr ?_
 refine sv (Does.lss rfl rfl) ?_
 refine Seq.next ?_
 refine Run.seq ?_
 rcases Decidable.em ((((k : Nat) : Int) : Int) < (((List.length l : Nat) : Int) : Int)) with hp1 | hp1
 rotate_left
 ·refine Run.cond_b rfl (decide_eq_false hp1) ?_
  refine Run.exit_go (fun _ _ h => h) ?_
  refine rsr ?_
  refine sv (Does.move rfl) ?_
  refine sv (Does.assign rfl) ?_
  refine Seq.next ?_
  have c34 := s8.trans s16
  obtain ⟨lab9, s9, B9⟩ := hX [(13, K)] c34 (by decide) hv15
  refine Run.ret ?_
  exact post_one Try.results159 rfl ⟨_, lab9, rfl, ⟨_, (by rw [show ((List.length l) + 1) = List.length l + 1 from by omega]), (by rw [List.length_map]; exact wsN_length _ _), ((show wsN (wv (List.take k l) * 2 ^ n) (List.length l + 1) = shl l n from by (unfold shl; rw [List.take_of_length_le (by omega)])) ▸ (Own.back o17 B9 K rfl (by decide) (by simp [keys])))⟩, s9, B9.v⟩
 refine Run.cond_b rfl (decide_eq_true hp1) ?_
 refine Run.skip_go (fun _ _ h => h) ?_
 refine Run.seq ?_
 refine Run.block ?_
 refine rsr ?_
 refine sv (Does.move rfl) ?_
 have c18 := s8.trans s16
 have q19 := up c18 h0
 refine sv (Does.index_row k Try.underlying58 ty167 rfl rfl (WordsV.row q19) (by simp [nw]) (by omega) (by omega)) ?_
 have t20 := UInt32.toNat_lt (List.getD l k (0 : UInt32))
 refine sv (Does.load_row ty167 rfl (WordsV.row q19) (map_get u32 _ (0 : UInt32) (by omega))) ?_
 refine sv (Does.assign rfl) ?_
 refine sv (Does.assign rfl) ?_
 refine nsr ?_
 refine sv (Does.move rfl) ?_
 refine sv (Does.u32_n64 Try.underlying167 Try.underlying62 rfl) ?_
 refine sv (Does.move rfl) ?_
 refine sv (Does.n64_shlN rfl rfl (by omega) (by exact shl_ltN hn)) ?_
 refine sv (Does.assign rfl) ?_
 refine nsr ?_
 refine sv (Does.move rfl) ?_
 refine sv (Does.move rfl) ?_
 refine sv (Does.index_own k Try.underlying58 ty167 rfl rfl (by omega) (by omega)) ?_
 have t21 := UInt32.toNat_lt (List.getD (wsN (wv (List.take k l) * 2 ^ n) (List.length l + 1)) k (0 : UInt32))
 refine sv (Does.load_own1 o17 ty167 rfl (by rw [Nat.mul_one]; exact row_get u32 _ (0 : UInt32) (by (rw [wsN_length]; omega)))) ?_
 refine sv (Does.move rfl) ?_
 refine sv (Does.n64_u32 Try.underlying62 Try.underlying167 rfl) ?_
 refine sv (Does.u32_or rfl rfl) ?_
 refine sv (Does.index_own k Try.underlying58 ty167 rfl rfl (by omega) (by omega)) ?_
 refine Seq.store_row (k := 13) (j := k) (v := ((List.getD (wsN (wv (List.take k l) * 2 ^ n) (List.length l + 1)) k (0 : UInt32)) ||| (UInt32.ofNat (((List.getD l k (0 : UInt32)).toNat) * 2 ^ n)))) u32 hv15 o17 ty167 (congrArg (fun o => some (Value.pointer (some ⟨b6, o, none⟩))) (Nat.mul_one k)) rfl (by (rw [wsN_length]; omega)) rfl rfl fun w22 o23 s24 h25 => ?_
 refine Seq.next ?_
 refine Run.region ?_
 refine sv (Does.move rfl) ?_
 refine sv (Does.move rfl) ?_
 refine sv (Does.add rfl rfl (by omega)) ?_
 refine sv (Does.move rfl) ?_
 refine sv (Does.n64_shr32 rfl rfl) ?_
 refine sv (Does.n64_u32 Try.underlying62 Try.underlying167 rfl) ?_
 refine sv (Does.index_own (k + 1) Try.underlying58 ty167 rfl rfl (by omega) (by omega)) ?_
 refine Seq.store_row (k := 13) (j := (k + 1)) (v := (UInt32.ofNat ((((List.getD l k (0 : UInt32)).toNat) * 2 ^ n) / 4294967296))) u32 h25 o23 ty167 (congrArg (fun o => some (Value.pointer (some ⟨b6, o, none⟩))) (Nat.mul_one (k + 1))) rfl (by (rw [List.length_set, wsN_length]; omega)) rfl rfl fun w26 o27 s28 h29 => ?_
 refine Seq.go (fun _ _ h => h) ?_
 refine Run.region ?_
 refine sv (Does.add rfl rfl (by omega)) ?_
 refine sv (Does.move rfl) ?_
 have c30 := s24.trans s28
 have c31 := s16.trans c30
 exact Seq.nil (fun a32 h33 => ⟨_, by omega, _, h33.weaken (subs_lk (l' := [(15, i64 (((k + 1) : Nat) : Int)), (1, i64 ((n : Nat) : Int)), (4, .slice none 0 0), (5, .slice (some ⟨b6, 0, none⟩) ((List.length l) + 1) ((List.length l) + 1)), (13, .slice A1 (List.length l) c2), (14, i64 ((List.length l : Nat) : Int))]) ⟨(congrArg (fun z => some (i64 z)) (show (((k : Nat) : Int) + 1 : Int) = (((k + 1) : Nat) : Int) from by rfl)), rfl, rfl, rfl, rfl, rfl, trivial⟩), ⟨k + 1, lab14, rfl, rfl, h29, (c31.more (by decide)), ((show List.set (List.set (wsN (wv (List.take k l) * 2 ^ n) (List.length l + 1)) k ((List.getD (wsN (wv (List.take k l) * 2 ^ n) (List.length l + 1)) k (0 : UInt32)) ||| (UInt32.ofNat (((List.getD l k (0 : UInt32)).toNat) * 2 ^ n)))) (k + 1) (UInt32.ofNat ((((List.getD l k (0 : UInt32)).toNat) * 2 ^ n) / 4294967296)) = wsN (wv (List.take (k + 1) l) * 2 ^ n) (List.length l + 1) from by exact shift_step (by omega) (by omega) (by omega) rfl rfl) ▸ o27), (by omega)⟩⟩)
end Go.Proofs.Ytgfomedobfaidaa
end
section
set_option linter.unusedVariables false
set_option linter.unusedSimpArgs false
namespace Go.Proofs.Ytgfomedobfaidaa
open Go.RowKit
theorem wv_word {l : List UInt32} {k : Nat} (h : k < l.length) : (l.getD k 0).toNat = wv l / 4294967296 ^ k % 4294967296 := by
 have e := wsN_wv l
 have : l.getD k 0 = UInt32.ofNat (wv l / 4294967296 ^ k) := by
  conv => lhs; rw [← e]
  exact wsN_get h
 rw [this, UInt32.toNat_ofNat']
def seg (us : List UInt32) (o m : Nat) : Nat := wv ((us.drop o).take m)
theorem seg_lt {us : List UInt32} {o m : Nat} : seg us o m < 4294967296 ^ m := Nat.lt_of_lt_of_le (wv_lt _) (Nat.pow_le_pow_right (by omega) (by rw [List.length_take]; omega))
theorem seg_word {us : List UInt32} {o m k : Nat} (hk : k < m) (h : o + m ≤ us.length) : (us.getD (o + k) 0).toNat = seg us o m / 4294967296 ^ k % 4294967296 := by
 rw [seg, ← wv_word (by simp; omega)]
 congr 1
 simp [List.getD, List.getElem?_take_of_lt hk, List.getElem?_drop]
def cP (q v k : Nat) : Nat := q * (v % 4294967296 ^ k) / 4294967296 ^ k
theorem cP_zero (q v : Nat) : cP q v 0 = 0 := by simp [cP, Nat.mod_one]
theorem cP_le (q v k : Nat) : cP q v k ≤ q - 1 := by
 unfold cP
 have hp : 0 < 4294967296 ^ k := Nat.pow_pos (by omega)
 by_cases hq : q = 0
 ·subst hq; simp
 ·have : q * (v % 4294967296 ^ k) / 4294967296 ^ k < q := by
   rw [Nat.div_lt_iff_lt_mul hp]
   exact Nat.mul_lt_mul_of_pos_left (Nat.mod_lt _ hp) (by omega)
  omega
theorem cP_succ (q : Nat) {v k x : Nat} (hx : x = v / 4294967296 ^ k % 4294967296) : cP q v (k + 1) = (cP q v k + q * x) / 4294967296 := by
 unfold cP
 have hp : 0 < 4294967296 ^ k := Nat.pow_pos (by omega)
 rw [mod_succ_pow, ← hx, Nat.mul_add, Nat.mul_left_comm, Nat.pow_succ, ← Nat.div_div_eq_div_mul, Nat.add_mul_div_left _ _ hp]
theorem cP_word (q : Nat) {v k x : Nat} (hx : x = v / 4294967296 ^ k % 4294967296) : q * v / 4294967296 ^ k % 4294967296 = (cP q v k + q * x) % 4294967296 := by
 have hp : 0 < 4294967296 ^ k := Nat.pow_pos (by omega)
 have e : q * v / 4294967296 ^ k = cP q v k + q * (v / 4294967296 ^ k) := by
  unfold cP
  conv => lhs; rw [← Nat.mod_add_div v (4294967296 ^ k)]
  rw [Nat.mul_add, Nat.mul_left_comm, Nat.add_mul_div_left _ _ hp]
 rw [e, hx]
 have := Nat.div_add_mod (v / 4294967296 ^ k) 4294967296
 conv => lhs; rw [← this, Nat.mul_add, Nat.mul_left_comm]
 omega
theorem mulq {q : Nat} (y : UInt32) (hq : q ≤ 4294967296) : q * y.toNat ≤ 18446744069414584320 := by
 have := Nat.mul_le_mul hq (show y.toNat ≤ 4294967295 by have := y.toNat_lt; omega)
 omega
def tkZ (W Q m : Nat) : Nat := W + 4294967296 ^ (m + 1) * Q - Q
theorem tkZ_word {W Q m k : Nat} (hk : k ≤ m) : ((tkZ W Q m / 4294967296 ^ k % 4294967296 : Nat) : Int) = ((W / 4294967296 ^ k % 4294967296 : Nat) - bor W Q k - ((Q / 4294967296 ^ k % 4294967296 : Nat) : Int)) % 4294967296 := by
 have hp : 0 < 4294967296 ^ k := Nat.pow_pos (by omega)
 have e : 4294967296 ^ (m + 1) = 4294967296 ^ k * (4294967296 * 4294967296 ^ (m - k)) := by
  rw [← Nat.mul_assoc, ← Nat.pow_succ, ← Nat.pow_add]; congr 1; omega
 have hle : Q ≤ W + 4294967296 ^ (m + 1) * Q := by
  have : 1 * Q ≤ 4294967296 ^ (m + 1) * Q := Nat.mul_le_mul_right _ (Nat.pow_pos (by omega))
  omega
 have h := sub_word hle k
 rw [limb_toNat, limb_toNat] at h
 have e1 : (W + 4294967296 ^ (m + 1) * Q) / 4294967296 ^ k % 4294967296 = W / 4294967296 ^ k % 4294967296 := by
  rw [e, Nat.mul_assoc, Nat.add_mul_div_left _ _ hp, Nat.mul_assoc, Nat.add_mul_mod_self_left]
 have e2 : bor (W + 4294967296 ^ (m + 1) * Q) Q k = bor W Q k := by
  unfold bor
  rw [e, Nat.mul_assoc, Nat.add_mul_mod_self_left]
 rw [e1, e2] at h
 exact h
theorem tk_bor {us vs : List UInt32} {uo q k m : Nat} (hm : m = vs.length) (hk : k < m) (hu : uo + (m + 1) ≤ us.length) :
  bor (seg us uo (m + 1)) (q * wv vs) (k + 1) = if ((us.getD (uo + k) 0).toNat : Int) - (((cP q (wv vs) k + q * (vs.getD k 0).toNat) % 4294967296 : Nat) : Int) - bor (seg us uo (m + 1)) (q * wv vs) k < 0 then 1 else 0 := by
 have h := bor_succ (seg us uo (m + 1)) (q * wv vs) k
 rw [limb_toNat, limb_toNat, ← seg_word (by omega) hu, cP_word q (wv_word (l := vs) (by omega))] at h
 rw [h]
 split <;> split <;> omega
theorem tk_row {us vs : List UInt32} {uo q k m : Nat} (hm : m = vs.length) (hk : k < m) (hu : uo + (m + 1) ≤ us.length) {d : Int}
  (e : (d - (((us.getD (uo + k) 0).toNat : Int) - (((cP q (wv vs) k + q * (vs.getD k 0).toNat) % 4294967296 : Nat) : Int) - bor (seg us uo (m + 1)) (q * wv vs) k)) % 4294967296 = 0) :
  (putAt us uo (wsN (tkZ (seg us uo (m + 1)) (q * wv vs) m) k)).set (uo + k) (UInt32.ofNat (d % 4294967296).toNat) = putAt us uo (wsN (tkZ (seg us uo (m + 1)) (q * wv vs) m) (k + 1)) := by
 rw [putAt_set (wsN_length _ _) (by omega), wsN_succ]
 congr 3
 refine ofNat32 ?_
 have h := tkZ_word (W := seg us uo (m + 1)) (Q := q * wv vs) (m := m) (k := k) (by omega)
 rw [← seg_word (by omega) hu, cP_word q (wv_word (l := vs) (by omega))] at h
 omega
theorem cP_top {q : Nat} {vs : List UInt32} : q * wv vs / 4294967296 ^ vs.length = cP q (wv vs) vs.length := by
 unfold cP
 rw [Nat.mod_eq_of_lt (wv_lt vs)]
theorem tk_last {us vs : List UInt32} {uo q m : Nat} (hm : m = vs.length) (hu : uo + (m + 1) ≤ us.length) {d : Int}
  (e : d = ((us.getD (uo + m) 0).toNat : Int) - ((cP q (wv vs) m : Nat) : Int) - bor (seg us uo (m + 1)) (q * wv vs) m) :
  (putAt us uo (wsN (tkZ (seg us uo (m + 1)) (q * wv vs) m) m)).set (uo + m) (UInt32.ofNat (d % 4294967296).toNat) = putAt us uo (wsN (tkZ (seg us uo (m + 1)) (q * wv vs) m) (m + 1)) := by
 rw [putAt_set (wsN_length _ _) (by omega), wsN_succ]
 congr 3
 refine ofNat32 ?_
 have h := tkZ_word (W := seg us uo (m + 1)) (Q := q * wv vs) (m := m) (k := m) (Nat.le_refl _)
 rw [← seg_word (by omega) hu] at h
 have h2 : q * wv vs / 4294967296 ^ m = cP q (wv vs) m := by subst hm; exact cP_top
 rw [h2] at h
 omega
theorem tk_neg {us vs : List UInt32} {uo q m : Nat} (hm : m = vs.length) (hu : uo + (m + 1) ≤ us.length) :
  ((us.getD (uo + m) 0).toNat : Int) - ((cP q (wv vs) m : Nat) : Int) - bor (seg us uo (m + 1)) (q * wv vs) m < 0 ↔ seg us uo (m + 1) < q * wv vs := by
 have hp : 0 < 4294967296 ^ m := Nat.pow_pos (by omega)
 have h2 : q * wv vs / 4294967296 ^ m = cP q (wv vs) m := by subst hm; exact cP_top
 have hw : seg us uo (m + 1) / 4294967296 ^ m = (us.getD (uo + m) 0).toNat := by
  rw [seg_word (by omega) hu, Nat.mod_eq_of_lt]
  rw [Nat.div_lt_iff_lt_mul hp, Nat.mul_comm, ← Nat.pow_succ]
  exact seg_lt
 have e1 := Nat.div_add_mod (seg us uo (m + 1)) (4294967296 ^ m)
 have e2 := Nat.div_add_mod (q * wv vs) (4294967296 ^ m)
 have l := low_cmp (x := (us.getD (uo + m) 0).toNat) (y := cP q (wv vs) m) (Nat.mod_lt (seg us uo (m + 1)) hp) (Nat.mod_lt (q * wv vs) hp)
 rw [hw] at e1
 rw [h2] at e2
 unfold bor
 split <;> omega
end Go.Proofs.Ytgfomedobfaidaa
end
section
set_option linter.unusedVariables false
set_option linter.unusedSimpArgs false
set_option maxRecDepth 100000
namespace Go.Proofs.Ytgfomedobfaidaa
open Go.RowKit
theorem nat_take {lab : Lab} {w : World} (hv : Valid lab w) {u_d u_b u_t : Nat} {u : List UInt32} {u_o u_n u_c : Nat} (h0 : Own lab w u_d u_b u_t (List.map u32 u).toArray) (h0b : u_o + u_n ≤ List.length u ∧ u_n ≤ u_c ∧ u_c ≤ 9223372036854775807) {v : List UInt32} {v1 : Value} (h1 : WordsV v lab w v1) {q : Nat} (hn : u_n = List.length v + 1) (hq : q ≤ 4294967296) (hl : List.length v ≤ 1000000) :
  Calls Try.prog 184 #[.slice (some ⟨u_b, u_o, none⟩) u_n u_c, v1, n64 q] w (Eff [u_d] lab w (With (Is (.bool (decide (seg u u_o (List.length v + 1) < q * wv v)))) (fun lab' w' => Own lab' w' u_d u_b u_t (List.map u32 (putAt u u_o (wsN (tkZ (seg u u_o (List.length v + 1)) (q * wv v) (List.length v)) (List.length v + 1)))).toArray))) := by
 obtain ⟨L0, h0L, ⟨zU0, z00⟩, hO, hA, hX⟩ := enterM [(u_d, 1)] hv
 replace h0 := hO 1 (by simp [look]) h0
 replace h1 := up z00 h1
 obtain ⟨A1, c2, rfl⟩ := WordsV.shape h1
 have z3 := WordsV.cap h1
 refine calls_run Try.func184 rfl Try.ntmps184 (Nat.le_of_ble_eq_true rfl) ?_
 refine rsr ?_
 refine sv (Does.assign rfl) ?_
 refine nsr ?_
 refine sv (Does.assign rfl) ?_
 refine sv (Does.assign rfl) ?_
 refine Seq.next ?_
 refine Run.seq ?_
 refine rsr ?_
 refine sv (Does.move rfl) ?_
 refine sv (Does.len Try.underlying58 rfl) ?_
 refine sv (Does.move rfl) ?_
 refine Seq.next ?_
 refine Run.block ?_
 refine Run.loop (fun m' l' w' => ∃ (k : Nat) (lab' : Lab), m' = List.length v - k ∧ l' = [(15, i64 ((k : Nat) : Int)), (7, n64 (cP q (wv v) k)), (8, i64 (bor (seg u u_o (List.length v + 1)) (q * wv v) k)), (0, .slice (some ⟨u_b, u_o, none⟩) u_n u_c), (1, .slice A1 (List.length v) c2), (2, n64 q), (6, .bool false), (13, .slice A1 (List.length v) c2), (14, i64 ((List.length v : Nat) : Int))] ∧ Valid lab' w' ∧ Stp [1] L0 w lab' w' ∧ Own lab' w' 1 u_b u_t (List.map u32 (putAt u u_o (wsN (tkZ (seg u u_o (List.length v + 1)) (q * wv v) (List.length v)) k))).toArray ∧ (k ≤ List.length v)) (List.length v - 0) (l0 := [(15, i64 ((0 : Nat) : Int)), (7, n64 (cP q (wv v) 0)), (8, i64 (bor (seg u u_o (List.length v + 1)) (q * wv v) 0)), (0, .slice (some ⟨u_b, u_o, none⟩) u_n u_c), (1, .slice A1 (List.length v) c2), (2, n64 q), (6, .bool false), (13, .slice A1 (List.length v) c2), (14, i64 ((List.length v : Nat) : Int))]) ⟨(congrArg (fun z => some (i64 z)) (show (0 : Int) = ((0 : Nat) : Int) from by rfl)), (congrArg (fun z => some (n64 z)) (show (0 : Nat) = cP q (wv v) 0 from by exact (cP_zero _ _).symm)), (congrArg (fun z => some (i64 z)) (show (0 : Int) = bor (seg u u_o (List.length v + 1)) (q * wv v) 0 from by exact (bor_zero _ _).symm)), rfl, rfl, rfl, rfl, rfl, rfl, trivial⟩ ⟨0, L0, rfl, rfl, h0L, ((Stp.refl _ _).more (by simp)), ((show u = putAt u u_o (wsN (tkZ (seg u u_o (List.length v + 1)) (q * wv v) (List.length v)) 0) from by exact (putAt_nil _ _).symm) ▸ h0), (by omega)⟩ ?_
 intro m4 l5 w6 H7
 obtain ⟨k, lab8, hzm, rfl, hv9, s10, o11, hk⟩ := H7
 replace hzm := hzm.symm; subst hzm
 have hbl := bor_le (seg u u_o (List.length v + 1)) (q * wv v) k
 have hc := cP_le q (wv v) k
 have hm := mulq (List.getD v k 0) hq
 have hg := congrArg UInt32.toNat (putAt_get (us := u) (o := u_o) (j := k) (xs := wsN (tkZ (seg u u_o (List.length v + 1)) (q * wv v) (List.length v)) k) (by rw [wsN_length]; omega) (by rw [wsN_length]; omega))
 have hs := fun h => tk_bor (us := u) (vs := v) (uo := u_o) (q := q) (k := k) rfl h (by omega)
 refine rsr ?_
 refine sv (Does.lss rfl rfl) ?_
 refine Seq.next ?_
 refine Run.seq ?_
 rcases Decidable.em ((((k : Nat) : Int) : Int) < (((List.length v : Nat) : Int) : Int)) with hp1 | hp1
 rotate_left
 ·refine Run.cond_b rfl (decide_eq_false hp1) ?_
  refine Run.exit_go (fun _ _ h => h) ?_
  refine rsr ?_
  refine sv (Does.move rfl) ?_
  refine sv (Does.move rfl) ?_
  refine sv (Does.len Try.underlying58 rfl) ?_
  refine sv (Does.index_sub (List.length v) Try.underlying58 ty167 rfl rfl (by omega) (by omega)) ?_
  have t29 := UInt32.toNat_lt (List.getD (putAt u u_o (wsN (tkZ (seg u u_o (List.length v + 1)) (q * wv v) (List.length v)) k)) (u_o + (List.length v)) (0 : UInt32))
  refine sv (Does.load_own1 o11 ty167 rfl (row_get u32 _ (0 : UInt32) (by (rw [putAt_length (by rw [wsN_length]; omega)]; omega)))) ?_
  refine sv (Does.conv_int Try.underlying167 Try.underlying2 rfl (wrap_u32_i64 _)) ?_
  refine sv (Does.move rfl) ?_
  refine sv (Does.n64_i64 Try.underlying62 Try.underlying2 rfl (by omega)) ?_
  refine sv (Does.sub rfl rfl (by omega)) ?_
  refine sv (Does.move rfl) ?_
  refine sv (Does.sub rfl rfl (by omega)) ?_
  refine sv (Does.assign rfl) ?_
  refine nsr ?_
  refine sv (Does.move rfl) ?_
  refine sv (Does.move rfl) ?_
  refine sv (Does.len Try.underlying58 rfl) ?_
  refine sv (Does.move rfl) ?_
  refine sv (Does.i64_u32i Try.underlying2 Try.underlying167 rfl) ?_
  refine sv (Does.index_sub (List.length v) Try.underlying58 ty167 rfl rfl (by omega) (by omega)) ?_
  refine Seq.store_row (k := 1) (j := (u_o + (List.length v))) (v := (UInt32.ofNat (((((List.getD (putAt u u_o (wsN (tkZ (seg u u_o (List.length v + 1)) (q * wv v) (List.length v)) k)) (u_o + (List.length v)) (0 : UInt32)).toNat : Int) - ((cP q (wv v) k : Nat) : Int)) - (bor (seg u u_o (List.length v + 1)) (q * wv v) k)) % 4294967296).toNat)) u32 hv9 o11 ty167 rfl rfl (by (rw [putAt_length (by rw [wsN_length]; omega)]; omega)) rfl rfl fun w30 o31 s32 h33 => ?_
  refine nsr ?_
  refine sv (Does.move rfl) ?_
  refine sv (Does.lss rfl rfl) ?_
  refine sv (Does.assign rfl) ?_
  refine Seq.next ?_
  have c34 := s10.trans s32
  obtain ⟨lab9, s9, B9⟩ := hX [(1, u_d)] c34 (by decide) h33
  obtain ⟨zU, zo⟩ := B9.u
  refine Run.ret ?_
  exact post_one Try.results184 rfl ⟨_, lab9, rfl, ⟨(isBool (by (exact decide_eq_decide.2 (by obtain rfl : k = List.length v := (by omega); rw [hg]; exact tk_neg rfl (by omega)))) _ _), ((show List.set (putAt u u_o (wsN (tkZ (seg u u_o (List.length v + 1)) (q * wv v) (List.length v)) k)) (u_o + (List.length v)) (UInt32.ofNat (((((List.getD (putAt u u_o (wsN (tkZ (seg u u_o (List.length v + 1)) (q * wv v) (List.length v)) k)) (u_o + (List.length v)) (0 : UInt32)).toNat : Int) - ((cP q (wv v) k : Nat) : Int)) - (bor (seg u u_o (List.length v + 1)) (q * wv v) k)) % 4294967296).toNat) = putAt u u_o (wsN (tkZ (seg u u_o (List.length v + 1)) (q * wv v) (List.length v)) (List.length v + 1)) from by (obtain rfl : k = List.length v := (by omega)); rw [hg]; exact tk_last rfl (by omega) rfl) ▸ (Own.back o31 B9 u_d rfl (by decide) (by simp [keys])))⟩, s9, B9.v⟩
 refine Run.cond_b rfl (decide_eq_true hp1) ?_
 refine Run.skip_go (fun _ _ h => h) ?_
 refine Run.seq ?_
 refine Run.block ?_
 refine rsr ?_
 refine sv (Does.move rfl) ?_
 have q12 := up s10 h1
 refine sv (Does.index_row k Try.underlying58 ty167 rfl rfl (WordsV.row q12) (by simp [nw]) (by omega) (by omega)) ?_
 have t13 := UInt32.toNat_lt (List.getD v k (0 : UInt32))
 refine sv (Does.load_row ty167 rfl (WordsV.row q12) (map_get u32 _ (0 : UInt32) (by omega))) ?_
 refine sv (Does.assign rfl) ?_
 refine sv (Does.assign rfl) ?_
 refine nsr ?_
 refine sv (Does.move rfl) ?_
 refine sv (Does.move rfl) ?_
 refine sv (Does.move rfl) ?_
 refine sv (Does.u32_n64 Try.underlying167 Try.underlying62 rfl) ?_
 refine sv (Does.n64_mul rfl rfl (by omega)) ?_
 refine sv (Does.n64_add rfl rfl (by omega)) ?_
 refine sv (Does.assign rfl) ?_
 refine nsr ?_
 refine sv (Does.move rfl) ?_
 refine sv (Does.move rfl) ?_
 refine sv (Does.index_sub k Try.underlying58 ty167 rfl rfl (by omega) (by omega)) ?_
 have t14 := UInt32.toNat_lt (List.getD (putAt u u_o (wsN (tkZ (seg u u_o (List.length v + 1)) (q * wv v) (List.length v)) k)) (u_o + k) (0 : UInt32))
 refine sv (Does.load_own1 o11 ty167 rfl (row_get u32 _ (0 : UInt32) (by (rw [putAt_length (by rw [wsN_length]; omega)]; omega)))) ?_
 refine sv (Does.conv_int Try.underlying167 Try.underlying2 rfl (wrap_u32_i64 _)) ?_
 refine sv (Does.move rfl) ?_
 refine sv (Does.n64_u32 Try.underlying62 Try.underlying167 rfl) ?_
 refine sv (Does.u32of_i64 Try.underlying167 Try.underlying2 rfl) ?_
 refine sv (Does.sub rfl rfl (by omega)) ?_
 refine sv (Does.move rfl) ?_
 refine sv (Does.sub rfl rfl (by omega)) ?_
 refine sv (Does.assign rfl) ?_
 refine nsr ?_
 refine sv (Does.move rfl) ?_
 refine sv (Does.n64_shr32 rfl rfl) ?_
 refine sv (Does.assign rfl) ?_
 refine nsr ?_
 refine sv (Does.assign rfl) ?_
 refine Seq.next ?_
 refine Run.seq ?_
 refine rsr ?_
 refine sv (Does.move rfl) ?_
 refine sv (Does.lss rfl rfl) ?_
 refine Seq.next ?_
 rcases Decidable.em (((((List.getD (putAt u u_o (wsN (tkZ (seg u u_o (List.length v + 1)) (q * wv v) (List.length v)) k)) (u_o + k) (0 : UInt32)).toNat : Int) - ((((cP q (wv v) k) + (q * ((List.getD v k (0 : UInt32)).toNat))) % 4294967296 : Nat) : Int)) - (bor (seg u u_o (List.length v + 1)) (q * wv v) k) : Int) < (0 : Int)) with hp2 | hp2
 rotate_left
 ·refine Run.cond_b rfl (decide_eq_false hp2) ?_
  refine Run.skip_go (fun _ _ h => h) ?_
  refine Run.region ?_
  refine sv (Does.move rfl) ?_
  refine sv (Does.move rfl) ?_
  refine sv (Does.move rfl) ?_
  refine sv (Does.i64_u32i Try.underlying2 Try.underlying167 rfl) ?_
  refine sv (Does.index_sub k Try.underlying58 ty167 rfl rfl (by omega) (by omega)) ?_
  refine Seq.store_row (k := 1) (j := (u_o + k)) (v := (UInt32.ofNat (((((List.getD (putAt u u_o (wsN (tkZ (seg u u_o (List.length v + 1)) (q * wv v) (List.length v)) k)) (u_o + k) (0 : UInt32)).toNat : Int) - ((((cP q (wv v) k) + (q * ((List.getD v k (0 : UInt32)).toNat))) % 4294967296 : Nat) : Int)) - (bor (seg u u_o (List.length v + 1)) (q * wv v) k)) % 4294967296).toNat)) u32 hv9 o11 ty167 rfl rfl (by (rw [putAt_length (by rw [wsN_length]; omega)]; omega)) rfl rfl fun w22 o23 s24 h25 => ?_
  refine Seq.go (fun _ _ h => h) ?_
  refine Run.region ?_
  refine sv (Does.add rfl rfl (by omega)) ?_
  refine sv (Does.move rfl) ?_
  have c26 := s10.trans s24
  exact Seq.nil (fun a27 h28 => ⟨_, by omega, _, h28.weaken (subs_lk (l' := [(15, i64 (((k + 1) : Nat) : Int)), (7, n64 (cP q (wv v) (k + 1))), (8, i64 (bor (seg u u_o (List.length v + 1)) (q * wv v) (k + 1))), (0, .slice (some ⟨u_b, u_o, none⟩) u_n u_c), (1, .slice A1 (List.length v) c2), (2, n64 q), (6, .bool false), (13, .slice A1 (List.length v) c2), (14, i64 ((List.length v : Nat) : Int))]) ⟨(congrArg (fun z => some (i64 z)) (show (((k : Nat) : Int) + 1 : Int) = (((k + 1) : Nat) : Int) from by rfl)), (congrArg (fun z => some (n64 z)) (show (((cP q (wv v) k) + (q * ((List.getD v k (0 : UInt32)).toNat))) / 4294967296 : Nat) = cP q (wv v) (k + 1) from by exact (cP_succ q (wv_word (by omega))).symm)), (congrArg (fun z => some (i64 z)) (show (0 : Int) = bor (seg u u_o (List.length v + 1)) (q * wv v) (k + 1) from by omega)), rfl, rfl, rfl, rfl, rfl, rfl, trivial⟩), ⟨k + 1, lab8, rfl, rfl, h25, (c26.more (by decide)), ((show List.set (putAt u u_o (wsN (tkZ (seg u u_o (List.length v + 1)) (q * wv v) (List.length v)) k)) (u_o + k) (UInt32.ofNat (((((List.getD (putAt u u_o (wsN (tkZ (seg u u_o (List.length v + 1)) (q * wv v) (List.length v)) k)) (u_o + k) (0 : UInt32)).toNat : Int) - ((((cP q (wv v) k) + (q * ((List.getD v k (0 : UInt32)).toNat))) % 4294967296 : Nat) : Int)) - (bor (seg u u_o (List.length v + 1)) (q * wv v) k)) % 4294967296).toNat) = putAt u u_o (wsN (tkZ (seg u u_o (List.length v + 1)) (q * wv v) (List.length v)) (k + 1)) from by exact tk_row rfl (by omega) (by omega) (by omega)) ▸ o23), (by omega)⟩⟩)
 refine Run.cond_b rfl (decide_eq_true hp2) ?_
 refine rsr ?_
 refine sv (Does.move rfl) ?_
 refine sv (Does.add rfl rfl (by omega)) ?_
 refine sv (Does.assign rfl) ?_
 refine Seq.next ?_
 refine Run.region ?_
 refine sv (Does.assign rfl) ?_
 refine Seq.next ?_
 refine Run.region ?_
 refine sv (Does.move rfl) ?_
 refine sv (Does.move rfl) ?_
 refine sv (Does.move rfl) ?_
 refine sv (Does.i64_u32i Try.underlying2 Try.underlying167 rfl) ?_
 refine sv (Does.index_sub k Try.underlying58 ty167 rfl rfl (by omega) (by omega)) ?_
 refine Seq.store_row (k := 1) (j := (u_o + k)) (v := (UInt32.ofNat ((((((List.getD (putAt u u_o (wsN (tkZ (seg u u_o (List.length v + 1)) (q * wv v) (List.length v)) k)) (u_o + k) (0 : UInt32)).toNat : Int) - ((((cP q (wv v) k) + (q * ((List.getD v k (0 : UInt32)).toNat))) % 4294967296 : Nat) : Int)) - (bor (seg u u_o (List.length v + 1)) (q * wv v) k)) + 4294967296) % 4294967296).toNat)) u32 hv9 o11 ty167 rfl rfl (by (rw [putAt_length (by rw [wsN_length]; omega)]; omega)) rfl rfl fun w15 o16 s17 h18 => ?_
 refine Seq.go (fun _ _ h => h) ?_
 refine Run.region ?_
 refine sv (Does.add rfl rfl (by omega)) ?_
 refine sv (Does.move rfl) ?_
 have c19 := s10.trans s17
 exact Seq.nil (fun a20 h21 => ⟨_, by omega, _, h21.weaken (subs_lk (l' := [(15, i64 (((k + 1) : Nat) : Int)), (7, n64 (cP q (wv v) (k + 1))), (8, i64 (bor (seg u u_o (List.length v + 1)) (q * wv v) (k + 1))), (0, .slice (some ⟨u_b, u_o, none⟩) u_n u_c), (1, .slice A1 (List.length v) c2), (2, n64 q), (6, .bool false), (13, .slice A1 (List.length v) c2), (14, i64 ((List.length v : Nat) : Int))]) ⟨(congrArg (fun z => some (i64 z)) (show (((k : Nat) : Int) + 1 : Int) = (((k + 1) : Nat) : Int) from by rfl)), (congrArg (fun z => some (n64 z)) (show (((cP q (wv v) k) + (q * ((List.getD v k (0 : UInt32)).toNat))) / 4294967296 : Nat) = cP q (wv v) (k + 1) from by exact (cP_succ q (wv_word (by omega))).symm)), (congrArg (fun z => some (i64 z)) (show (1 : Int) = bor (seg u u_o (List.length v + 1)) (q * wv v) (k + 1) from by omega)), rfl, rfl, rfl, rfl, rfl, rfl, trivial⟩), ⟨k + 1, lab8, rfl, rfl, h18, (c19.more (by decide)), ((show List.set (putAt u u_o (wsN (tkZ (seg u u_o (List.length v + 1)) (q * wv v) (List.length v)) k)) (u_o + k) (UInt32.ofNat ((((((List.getD (putAt u u_o (wsN (tkZ (seg u u_o (List.length v + 1)) (q * wv v) (List.length v)) k)) (u_o + k) (0 : UInt32)).toNat : Int) - ((((cP q (wv v) k) + (q * ((List.getD v k (0 : UInt32)).toNat))) % 4294967296 : Nat) : Int)) - (bor (seg u u_o (List.length v + 1)) (q * wv v) k)) + 4294967296) % 4294967296).toNat) = putAt u u_o (wsN (tkZ (seg u u_o (List.length v + 1)) (q * wv v) (List.length v)) (k + 1)) from by exact tk_row rfl (by omega) (by omega) (by omega)) ▸ o16), (by omega)⟩⟩)
end Go.Proofs.Ytgfomedobfaidaa
end
section
set_option linter.unusedVariables false
set_option linter.unusedSimpArgs false
namespace Go.Proofs.Ytgfomedobfaidaa
open Go.RowKit
structure Dg (W V P v1 v2 top u2 : Nat) : Prop where
 p : 0 < P
 w0 : (top * 4294967296 + u2) * P ≤ W
 w1 : W < (top * 4294967296 + u2 + 1) * P
 v0 : (v1 * 4294967296 + v2) * P ≤ V
 v9 : V < (v1 * 4294967296 + v2 + 1) * P
 a : v1 < 4294967296
 b : v2 < 4294967296
 c : u2 < 4294967296
 d : 2147483648 ≤ v1
 e : W < V * 4294967296
variable {W V P v1 v2 top u2 q r : Nat}
theorem Dg.top_lt (D : Dg W V P v1 v2 top u2) : top < v1 * 4294967296 + 4294967296 := by
 have h : (top * 4294967296 + u2) * P < ((v1 * 4294967296 + v2 + 1) * 4294967296) * P := by
  rw [Nat.mul_right_comm]
  exact Nat.lt_of_le_of_lt D.w0 (Nat.lt_of_lt_of_le D.e (Nat.mul_le_mul_right _ (Nat.le_of_lt D.v9)))
 have := Nat.lt_of_mul_lt_mul_right h
 have := D.b
 omega
theorem Dg.le_mul (D : Dg W V P v1 v2 top u2) {k : Nat} (h : top * 4294967296 + u2 + 1 ≤ k * (v1 * 4294967296 + v2)) : W < k * V := by
 refine Nat.lt_of_lt_of_le D.w1 (Nat.le_trans (Nat.mul_le_mul_right P h) ?_)
 rw [Nat.mul_assoc]
 exact Nat.mul_le_mul_left k D.v0
theorem Dg.start (D : Dg W V P v1 v2 top u2) : W < (top / v1 + 1) * V := by
 refine D.le_mul ?_
 have h1 : top + 1 ≤ (top / v1 + 1) * v1 := by
  have := Nat.div_add_mod top v1
  have := Nat.mod_lt top (show 0 < v1 by have := D.d; omega)
  rw [Nat.add_mul, Nat.one_mul, Nat.mul_comm]
  omega
 rw [Nat.mul_add, ← Nat.mul_assoc]
 have := D.c
 generalize (top / v1 + 1) * v1 = x at *
 generalize (top / v1 + 1) * v2 = y at *
 omega
theorem Dg.step (D : Dg W V P v1 v2 top u2) (hq : q * v1 + r = top) (h : 4294967296 ≤ q ∨ r * 4294967296 + u2 < q * v2) : W < q * V := by
 rcases h with h | h
 ·refine Nat.lt_of_lt_of_le D.e ?_
  rw [Nat.mul_comm]
  exact Nat.mul_le_mul_right V h
 ·refine D.le_mul ?_
  rw [Nat.mul_add, ← Nat.mul_assoc]
  generalize q * v1 = x at *
  generalize q * v2 = y at *
  omega
structure Gs (W V q : Nat) : Prop where
 lt : W < (q + 1) * V
 le : (q - 1) * V ≤ W
 b : q < 4294967296
theorem Dg.exA (D : Dg W V P v1 v2 top u2) (hq : q * v1 + r = top) (hW : W < (q + 1) * V) (hb : q < 4294967296) (h : q * v2 ≤ r * 4294967296 + u2) : Gs W V q := by
 refine ⟨hW, ?_, hb⟩
 cases q with
 | zero => simp
 | succ s =>
  rw [Nat.add_sub_cancel]
  have h1 : (s + 1) * (v1 * 4294967296 + v2) ≤ top * 4294967296 + u2 := by
   rw [Nat.mul_add, ← Nat.mul_assoc]
   generalize (s + 1) * v1 = x at *
   generalize (s + 1) * v2 = y at *
   omega
  have h2 : s * (v1 * 4294967296 + v2 + 1) ≤ (s + 1) * (v1 * 4294967296 + v2) := by
   rw [Nat.mul_succ, Nat.succ_mul]
   have := D.d
   omega
  refine Nat.le_trans (Nat.mul_le_mul_left s (Nat.le_of_lt D.v9)) ?_
  rw [← Nat.mul_assoc]
  exact Nat.le_trans (Nat.mul_le_mul_right P (Nat.le_trans h2 h1)) D.w0
theorem back_one (h1 : 1 ≤ q) (hq : q * v1 + r = top) : (q - 1) * v1 + (r + v1) = top := by
 obtain ⟨s, rfl⟩ : ∃ s, q = s + 1 := ⟨q - 1, by omega⟩
 rw [Nat.add_sub_cancel]
 rw [Nat.succ_mul] at hq
 omega
theorem Dg.exB (D : Dg W V P v1 v2 top u2) (hq : q * v1 + r = top) (h1 : 1 ≤ q) (h : 4294967296 ≤ q ∨ r * 4294967296 + u2 < q * v2) (hr : 4294967296 ≤ r + v1) : Gs W V (q - 1) := by
 have h2 := back_one h1 hq
 have hW := D.step hq h
 have ht := D.top_lt
 have hb : q - 1 < 4294967296 := by
  refine Nat.lt_of_not_le fun hn => ?_
  have := Nat.mul_le_mul_right v1 hn
  rw [Nat.mul_comm] at this
  omega
 refine D.exA h2 (by rw [Nat.sub_add_cancel h1]; exact hW) hb ?_
 have := Nat.mul_le_mul (show q - 1 ≤ 4294967295 by omega) (show v2 ≤ 4294967295 by have := D.b; omega)
 omega
theorem Gs.pos (G : Gs W V q) (h : W < q * V) : 1 ≤ q := Nat.pos_of_ne_zero fun e => by subst e; simp at h
theorem Gs.hit (G : Gs W V q) (h : ¬ W < q * V) : W / V = q := Nat.div_eq_of_lt_le (Nat.le_of_not_lt h) G.lt
theorem Gs.over (G : Gs W V q) (h : W < q * V) : W / V = q - 1 := Nat.div_eq_of_lt_le G.le (by rw [Nat.sub_add_cancel (G.pos h)]; exact h)
theorem Gs.hit_row (G : Gs W V q) (h : ¬ W < q * V) (m : Nat) : wsN (tkZ W (q * V) m) (m + 1) = wsN (W % V) (m + 1) := by
 refine wsN_mod ?_
 have e : W % V = W - q * V := by
  have := Nat.div_add_mod W V
  rw [G.hit h, Nat.mul_comm] at this
  omega
 unfold tkZ
 rw [e, show W + 4294967296 ^ (m + 1) * (q * V) - q * V = W - q * V + 4294967296 ^ (m + 1) * (q * V) by
  generalize 4294967296 ^ (m + 1) * (q * V) = x; generalize q * V = y at *; omega, Nat.add_mul_mod_self_left]
theorem Gs.over_mod (G : Gs W V q) (h : W < q * V) (m : Nat) : (tkZ W (q * V) m + V) % 4294967296 ^ (m + 1) = W % V % 4294967296 ^ (m + 1) := by
 have hp := G.pos h
 have e : W % V = W - (q - 1) * V := by
  have := Nat.div_add_mod W V
  rw [G.over h, Nat.mul_comm] at this
  omega
 have hq : q * V = (q - 1) * V + V := by
  obtain ⟨s, rfl⟩ : ∃ s, q = s + 1 := ⟨q - 1, by omega⟩
  rw [Nat.add_sub_cancel, Nat.succ_mul]
 have hl : q * V ≤ 4294967296 ^ (m + 1) * (q * V) := by
  have := Nat.mul_le_mul_right (q * V) (show 1 ≤ 4294967296 ^ (m + 1) from Nat.pow_pos (by omega))
  rwa [Nat.one_mul] at this
 have hle := G.le
 unfold tkZ
 rw [e, show W + 4294967296 ^ (m + 1) * (q * V) - q * V + V = W - (q - 1) * V + 4294967296 ^ (m + 1) * (q * V) by
  generalize 4294967296 ^ (m + 1) * (q * V) = x at *; generalize (q - 1) * V = z at *; generalize q * V = y at *; omega, Nat.add_mul_mod_self_left]
theorem top_lt_of {X : Nat} {n : Nat} (h : X < 4294967296 ^ (n + 1)) : X / 4294967296 ^ n < 4294967296 := by
 rw [Nat.div_lt_iff_lt_mul (Nat.pow_pos (by omega)), Nat.mul_comm]
 rwa [Nat.pow_succ] at h
theorem dg_of {us vs : List UInt32} {uo : Nat} (h2 : 2 ≤ vs.length) (hu : uo + (vs.length + 1) ≤ us.length) (hv : 2147483648 ≤ (vs.getD (vs.length - 1) 0).toNat) (hW : seg us uo (vs.length + 1) < wv vs * 4294967296) :
  Dg (seg us uo (vs.length + 1)) (wv vs) (4294967296 ^ (vs.length - 2)) (vs.getD (vs.length - 1) 0).toNat (vs.getD (vs.length - 2) 0).toNat ((us.getD (uo + vs.length) 0).toNat * 4294967296 + (us.getD (uo + (vs.length - 1)) 0).toNat) (us.getD (uo + (vs.length - 2)) 0).toNat := by
 have hw : seg us uo (vs.length + 1) < 4294967296 ^ (vs.length + 1) := seg_lt
 have hvl := wv_lt vs
 have a1 := UInt32.toNat_lt (vs.getD (vs.length - 1) 0)
 have a2 := UInt32.toNat_lt (vs.getD (vs.length - 2) 0)
 have a3 := UInt32.toNat_lt (us.getD (uo + (vs.length - 2)) 0)
 have e1 := wv_word (l := vs) (k := vs.length - 1) (by omega)
 have e2 := wv_word (l := vs) (k := vs.length - 2) (by omega)
 have f0 := seg_word (us := us) (o := uo) (m := vs.length + 1) (k := vs.length) (by omega) hu
 have f1 := seg_word (us := us) (o := uo) (m := vs.length + 1) (k := vs.length - 1) (by omega) hu
 have f2 := seg_word (us := us) (o := uo) (m := vs.length + 1) (k := vs.length - 2) (by omega) hu
 generalize hX : seg us uo (vs.length + 1) = X at *
 generalize hY : wv vs = Y at *
 obtain ⟨n, hn⟩ : ∃ n, vs.length = n + 2 := ⟨vs.length - 2, by omega⟩
 rw [hn] at e1 e2 f0 f1 f2 h2 hu hv hvl hw a1 a2 a3 ⊢
 simp only [show n + 2 - 1 = n + 1 by omega, show n + 2 - 2 = n by omega] at e1 e2 f0 f1 f2 hv a1 a2 a3 ⊢
 have hp : 0 < 4294967296 ^ n := Nat.pow_pos (by omega)
 have g1 : Y / 4294967296 ^ (n + 1) = Y / 4294967296 ^ n / 4294967296 := by rw [Nat.pow_succ, Nat.div_div_eq_div_mul]
 have g2 : X / 4294967296 ^ (n + 1) = X / 4294967296 ^ n / 4294967296 := by rw [Nat.pow_succ, Nat.div_div_eq_div_mul]
 have g3 : X / 4294967296 ^ (n + 2) = X / 4294967296 ^ n / 4294967296 / 4294967296 := by rw [Nat.pow_succ (n := 4294967296) (m := n + 1), ← Nat.div_div_eq_div_mul, g2]
 have t1 := top_lt_of (n := n + 1) hvl
 have t2 := top_lt_of (n := n + 2) hw
 rw [g1] at t1 e1
 rw [g3] at t2 f0
 rw [g2] at f1
 have m1 := Nat.div_add_mod X (4294967296 ^ n)
 have m2 := Nat.mod_lt X hp
 have m3 := Nat.div_add_mod Y (4294967296 ^ n)
 have m4 := Nat.mod_lt Y hp
 clear g1 g2 g3 hvl hw
 generalize hx : X / 4294967296 ^ n = X' at *
 generalize hy : Y / 4294967296 ^ n = Y' at *
 have y1 : (vs.getD (n + 1) 0).toNat * 4294967296 + (vs.getD n 0).toNat = Y' := by clear m1 m2 m3 m4; omega
 have x1 : ((us.getD (uo + (n + 2)) 0).toNat * 4294967296 + (us.getD (uo + (n + 1)) 0).toNat) * 4294967296 + (us.getD (uo + n) 0).toNat = X' := by
  have k1 := Nat.div_add_mod X' 4294967296
  have k2 := Nat.div_add_mod (X' / 4294967296) 4294967296
  rw [Nat.mod_eq_of_lt t2] at f0
  clear m1 m2 m3 m4 e1 e2 t1 t2 a1 a2 a3 hv y1 hx hy
  rw [← f0, ← f1] at k2
  rw [← k2, ← f2] at k1
  omega
 refine ⟨hp, ?_, ?_, ?_, ?_, a1, a2, a3, hv, hW⟩
 ·rw [x1, Nat.mul_comm]; exact Nat.le_trans (Nat.le_add_right _ _) (Nat.le_of_eq m1)
 ·rw [x1, Nat.add_mul, Nat.one_mul, Nat.mul_comm]; exact Nat.lt_of_le_of_lt (Nat.le_of_eq m1.symm) (Nat.add_lt_add_left m2 _)
 ·rw [y1, Nat.mul_comm]; exact Nat.le_trans (Nat.le_add_right _ _) (Nat.le_of_eq m3)
 ·rw [y1, Nat.add_mul, Nat.one_mul, Nat.mul_comm]; exact Nat.lt_of_le_of_lt (Nat.le_of_eq m3.symm) (Nat.add_lt_add_left m4 _)
theorem ab_sum {us vs : List UInt32} {uo k c x y : Nat} (hk : k < vs.length) (hu : uo + (vs.length + 1) ≤ us.length) (hc : c = cA (seg us uo (vs.length + 1)) (wv vs) k) (hx : x = (us.getD (uo + k) 0).toNat) (hy : y = (vs.getD k 0).toNat) :
  (c + (x + y)) / 4294967296 = cA (seg us uo (vs.length + 1)) (wv vs) (k + 1) ∧ UInt32.ofNat (c + (x + y)) = UInt32.ofNat ((seg us uo (vs.length + 1) + wv vs) / 4294967296 ^ k) := by
 rw [seg_word (by omega) hu] at hx
 rw [wv_word hk] at hy
 constructor
 ·rw [cA_succ, hc, hx, hy, Nat.add_assoc]
 ·refine ofNat32 ?_
  rw [cA_word, hc, hx, hy, Nat.add_assoc]
theorem ab_row {us vs : List UInt32} {uo k s : Nat} (hk : k < vs.length) (hu : uo + (vs.length + 1) ≤ us.length) (hs : UInt32.ofNat s = UInt32.ofNat ((seg us uo (vs.length + 1) + wv vs) / 4294967296 ^ k)) :
  (putAt us uo (wsN (seg us uo (vs.length + 1) + wv vs) k)).set (uo + k) (UInt32.ofNat s) = putAt us uo (wsN (seg us uo (vs.length + 1) + wv vs) (k + 1)) := by
 rw [putAt_set (wsN_length _ _) (by omega), wsN_succ, hs]
theorem ab_last {us vs : List UInt32} {uo : Nat} {x : UInt32} (hu : uo + (vs.length + 1) ≤ us.length) (hx : x = us.getD (uo + vs.length) 0) :
  (putAt us uo (wsN (seg us uo (vs.length + 1) + wv vs) vs.length)).set (uo + vs.length) (x + UInt32.ofNat (cA (seg us uo (vs.length + 1)) (wv vs) vs.length)) = putAt us uo (wsN (seg us uo (vs.length + 1) + wv vs) (vs.length + 1)) := by
 rw [putAt_set (wsN_length _ _) (by omega), wsN_succ]
 congr 3
 have h := cA_word (seg us uo (vs.length + 1)) (wv vs) vs.length
 rw [← seg_word (by omega) hu, Nat.div_eq_of_lt (wv_lt vs)] at h
 refine UInt32.toNat_inj.1 ?_
 rw [UInt32.toNat_add, UInt32.toNat_ofNat', UInt32.toNat_ofNat', hx, h]
 omega
theorem ab_end {us vs : List UInt32} {uo Z : Nat} (hu : uo + (vs.length + 1) ≤ us.length) (R : Nat) (hR : (Z + wv vs) % 4294967296 ^ (vs.length + 1) = R % 4294967296 ^ (vs.length + 1)) :
  putAt (putAt us uo (wsN Z (vs.length + 1))) uo (wsN (seg (putAt us uo (wsN Z (vs.length + 1))) uo (vs.length + 1) + wv vs) (vs.length + 1)) = putAt us uo (wsN R (vs.length + 1)) := by
 rw [putAt_putAt (by rw [wsN_length]; omega) (by rw [wsN_length, wsN_length])]
 congr 1
 refine wsN_mod ?_
 have e : seg (putAt us uo (wsN Z (vs.length + 1))) uo (vs.length + 1) = Z % 4294967296 ^ (vs.length + 1) := by
  unfold seg putAt
  rw [List.append_assoc, List.drop_append_of_le_length (by simp; omega), List.drop_of_length_le (by simp; omega), List.nil_append, List.take_append_of_le_length (by rw [wsN_length]; omega), List.take_of_length_le (by rw [wsN_length]; omega), wv_wsN]
 rw [e, ← hR, Nat.mod_add_mod]
end Go.Proofs.Ytgfomedobfaidaa
end
section
set_option linter.unusedVariables false
set_option linter.unusedSimpArgs false
set_option maxRecDepth 100000
namespace Go.Proofs.Ytgfomedobfaidaa
open Go.RowKit
set_option maxHeartbeats 2000000 in
theorem nat_digit {lab : Lab} {w : World} (hv : Valid lab w) {u_d u_b u_t : Nat} {u : List UInt32} {u_o u_n u_c : Nat} (h0 : Own lab w u_d u_b u_t (List.map u32 u).toArray) (h0b : u_o + u_n ≤ List.length u ∧ u_n ≤ u_c ∧ u_c ≤ 9223372036854775807) {v : List UInt32} {v1 : Value} (h1 : WordsV v lab w v1) (hn : u_n = List.length v + 1) (h2 : 2 ≤ List.length v) (ht : 2147483648 ≤ (List.getD v (List.length v - 1) 0).toNat) (hW : seg u u_o (List.length v + 1) < wv v * 4294967296) (hl : List.length v ≤ 1000000) :
  Calls Try.prog 160 #[.slice (some ⟨u_b, u_o, none⟩) u_n u_c, v1] w (Eff [u_d] lab w (With (Is (u32 (UInt32.ofNat (seg u u_o (List.length v + 1) / wv v)))) (fun lab' w' => Own lab' w' u_d u_b u_t (List.map u32 (putAt u u_o (wsN (seg u u_o (List.length v + 1) % wv v) (List.length v + 1)))).toArray))) := by
 obtain ⟨L0, h0L, ⟨zU0, z00⟩, hO, hA, hX⟩ := enterM [(u_d, 1)] hv
 replace h0 := hO 1 (by simp [look]) h0
 replace h1 := up z00 h1
 obtain ⟨A1, c2, rfl⟩ := WordsV.shape h1
 have z3 := WordsV.cap h1
 have D := dg_of (us := u) (vs := v) (uo := u_o) h2 (by omega) ht hW
 have l1 := UInt32.toNat_lt (List.getD v (List.length v - 1) 0)
 have l2 := UInt32.toNat_lt (List.getD v (List.length v - 2) 0)
 have l3 := UInt32.toNat_lt (List.getD u (u_o + List.length v) 0)
 have l4 := UInt32.toNat_lt (List.getD u (u_o + (List.length v - 1)) 0)
 have l5 := UInt32.toNat_lt (List.getD u (u_o + (List.length v - 2)) 0)
 refine calls_run Try.func160 rfl Try.ntmps160 (Nat.le_of_ble_eq_true rfl) ?_
 refine rsr ?_
 refine sv (Does.assign rfl) ?_
 refine nsr ?_
 refine sv (Does.move rfl) ?_
 refine sv (Does.len Try.underlying58 rfl) ?_
 refine sv (Does.assign rfl) ?_
 refine Seq.next ?_
 refine Run.seq ?_
 refine Run.open 14 (Φ := [.ex (.slice (some ⟨u_b, u_o, none⟩) u_n u_c), .ex (i64 ((List.length v : Nat) : Int)), .ex (.pointer (some ⟨u_b, u_o + (List.length v), none⟩)), .ex (u32 (List.getD u (u_o + (List.length v)) (0 : UInt32))), .ex (n64 ((List.getD u (u_o + (List.length v)) (0 : UInt32)).toNat)), .ex (n64 (((List.getD u (u_o + (List.length v)) (0 : UInt32)).toNat) * 4294967296)), .ex (.slice (some ⟨u_b, u_o, none⟩) u_n u_c), .ex (i64 ((List.length v : Nat) : Int)), .ex (i64 (((List.length v : Nat) : Int) - 1)), .ex (.pointer (some ⟨u_b, u_o + ((List.length v) - 1), none⟩)), .ex (u32 (List.getD u (u_o + ((List.length v) - 1)) (0 : UInt32))), .ex (n64 ((List.getD u (u_o + ((List.length v) - 1)) (0 : UInt32)).toNat)), .ex (n64 ((((List.getD u (u_o + (List.length v)) (0 : UInt32)).toNat) * 4294967296) + ((List.getD u (u_o + ((List.length v) - 1)) (0 : UInt32)).toNat))), .ex (n64 ((((List.getD u (u_o + (List.length v)) (0 : UInt32)).toNat) * 4294967296) + ((List.getD u (u_o + ((List.length v) - 1)) (0 : UInt32)).toNat)))]) [(13, 6)] mixed (by kernel_rfl) rfl h0L ⟨(oX [] rfl rfl rfl fun _ _ => Does.move rfl), (oX [] rfl rfl rfl fun _ _ => Does.move rfl), (oX [(0, 14), (1, 15)] rfl rfl rfl fun _ _ => Does.index_sub (List.length v) Try.underlying58 ty167 rfl rfl (by omega) (by omega)), ?_, (oX [(3, 17)] rfl rfl rfl fun _ _ => Does.u32_n64 Try.underlying167 Try.underlying62 rfl), (oX [(4, 18)] rfl rfl rfl fun _ _ => Does.n64_shl32 rfl rfl (by omega)), (oX [] rfl rfl rfl fun _ _ => Does.move rfl), (oX [] rfl rfl rfl fun _ _ => Does.move rfl), (oX [(7, 21)] rfl rfl rfl fun _ _ => Does.sub rfl rfl (by omega)), (oX [(6, 20), (8, 22)] rfl rfl rfl fun _ _ => Does.index_sub ((List.length v) - 1) Try.underlying58 ty167 rfl rfl (by omega) (by omega)), ?_, (oX [(10, 24)] rfl rfl rfl fun _ _ => Does.u32_n64 Try.underlying167 Try.underlying62 rfl), (oX [(5, 19), (11, 25)] rfl rfl rfl fun _ _ => Does.n64_or_low rfl rfl (by omega) (by omega)), (oX [(12, 26)] rfl rfl rfl fun _ _ => Does.assign rfl), trivial⟩ (fun L64 w65 h66 s67 => ?_)
 ·refine oP [(2, 16)] rfl rfl fun L16 w17 h18 s19 => ?_
  have o20 := h0.up s19
  have t21 := UInt32.toNat_lt (List.getD u (u_o + (List.length v)) (0 : UInt32))
  exact ⟨_, Does.load_own1 o20 ty167 rfl (row_get u32 _ (0 : UInt32) (by omega)), rfl⟩
 ·refine oP [(9, 23)] rfl rfl fun L46 w47 h48 s49 => ?_
  have o50 := h0.up s49
  have t51 := UInt32.toNat_lt (List.getD u (u_o + ((List.length v) - 1)) (0 : UInt32))
  exact ⟨_, Does.load_own1 o50 ty167 rfl (row_get u32 _ (0 : UInt32) (by omega)), rfl⟩
 refine Seq.next ?_
 refine Run.seq ?_
 refine Run.open 18 (Φ := [.ex (n64 ((((List.getD u (u_o + (List.length v)) (0 : UInt32)).toNat) * 4294967296) + ((List.getD u (u_o + ((List.length v) - 1)) (0 : UInt32)).toNat))), .ex (.slice A1 (List.length v) c2), .ex (i64 ((List.length v : Nat) : Int)), .ex (i64 (((List.length v : Nat) : Int) - 1)), .v (ElV (List.map u32 v) ((List.length v) - 1)), .ex (u32 (List.getD v ((List.length v) - 1) (0 : UInt32))), .ex (n64 ((List.getD v ((List.length v) - 1) (0 : UInt32)).toNat)), .ex (n64 (((((List.getD u (u_o + (List.length v)) (0 : UInt32)).toNat) * 4294967296) + ((List.getD u (u_o + ((List.length v) - 1)) (0 : UInt32)).toNat)) / ((List.getD v ((List.length v) - 1) (0 : UInt32)).toNat))), .ex (n64 ((((List.getD u (u_o + (List.length v)) (0 : UInt32)).toNat) * 4294967296) + ((List.getD u (u_o + ((List.length v) - 1)) (0 : UInt32)).toNat))), .ex (.slice A1 (List.length v) c2), .ex (i64 ((List.length v : Nat) : Int)), .ex (i64 (((List.length v : Nat) : Int) - 1)), .v (ElV (List.map u32 v) ((List.length v) - 1)), .ex (u32 (List.getD v ((List.length v) - 1) (0 : UInt32))), .ex (n64 ((List.getD v ((List.length v) - 1) (0 : UInt32)).toNat)), .ex (n64 (((((List.getD u (u_o + (List.length v)) (0 : UInt32)).toNat) * 4294967296) + ((List.getD u (u_o + ((List.length v) - 1)) (0 : UInt32)).toNat)) % ((List.getD v ((List.length v) - 1) (0 : UInt32)).toNat))), .ex (n64 (((((List.getD u (u_o + (List.length v)) (0 : UInt32)).toNat) * 4294967296) + ((List.getD u (u_o + ((List.length v) - 1)) (0 : UInt32)).toNat)) / ((List.getD v ((List.length v) - 1) (0 : UInt32)).toNat))), .ex (n64 (((((List.getD u (u_o + (List.length v)) (0 : UInt32)).toNat) * 4294967296) + ((List.getD u (u_o + ((List.length v) - 1)) (0 : UInt32)).toNat)) % ((List.getD v ((List.length v) - 1) (0 : UInt32)).toNat)))]) [(16, 7), (17, 8)] mixed (by kernel_rfl) rfl h66 ⟨(oX [] rfl rfl rfl fun _ _ => Does.move rfl), (oX [] rfl rfl rfl fun _ _ => Does.move rfl), (oX [] rfl rfl rfl fun _ _ => Does.move rfl), (oX [(2, 29)] rfl rfl rfl fun _ _ => Does.sub rfl rfl (by omega)), ?_, ?_, (oX [(5, 32)] rfl rfl rfl fun _ _ => Does.u32_n64 Try.underlying167 Try.underlying62 rfl), (oX [(0, 27), (6, 33)] rfl rfl rfl fun _ _ => Does.n64_quo rfl rfl (by omega) (by omega)), (oX [] rfl rfl rfl fun _ _ => Does.move rfl), (oX [] rfl rfl rfl fun _ _ => Does.move rfl), (oX [] rfl rfl rfl fun _ _ => Does.move rfl), (oX [(10, 37)] rfl rfl rfl fun _ _ => Does.sub rfl rfl (by omega)), ?_, ?_, (oX [(13, 40)] rfl rfl rfl fun _ _ => Does.u32_n64 Try.underlying167 Try.underlying62 rfl), (oX [(8, 35), (14, 41)] rfl rfl rfl fun _ _ => Does.n64_rem rfl rfl (by omega)), (oX [(7, 34)] rfl rfl rfl fun _ _ => Does.assign rfl), (oX [(15, 42)] rfl rfl rfl fun _ _ => Does.assign rfl), trivial⟩ (fun L154 w155 h156 s157 => ?_)
 ·refine oP [(1, 28), (3, 30)] rfl rfl fun L84 w85 h86 s87 => ?_
  have c88 := s67.trans s87
  have q89 := up c88 h1
  exact ⟨_, Does.index_row ((List.length v) - 1) Try.underlying58 ty167 rfl rfl (WordsV.row q89) (by simp [nw]) (by omega) (by omega), ⟨_, rfl, (WordsV.row q89)⟩⟩
 ·refine oP [(4, 31)] rfl rfl fun L90 w91 h92 s93 v94 q95 => ?_
  obtain ⟨A96, rfl, r97⟩ := q95
  have t98 := UInt32.toNat_lt (List.getD v ((List.length v) - 1) (0 : UInt32))
  exact ⟨_, Does.load_row ty167 rfl r97 (map_get u32 _ (0 : UInt32) (by omega)), rfl⟩
 ·refine oP [(9, 36), (11, 38)] rfl rfl fun L123 w124 h125 s126 => ?_
  have c127 := s67.trans s126
  have q128 := up c127 h1
  exact ⟨_, Does.index_row ((List.length v) - 1) Try.underlying58 ty167 rfl rfl (WordsV.row q128) (by simp [nw]) (by omega) (by omega), ⟨_, rfl, (WordsV.row q128)⟩⟩
 ·refine oP [(12, 39)] rfl rfl fun L129 w130 h131 s132 v133 q134 => ?_
  obtain ⟨A135, rfl, r136⟩ := q134
  have t137 := UInt32.toNat_lt (List.getD v ((List.length v) - 1) (0 : UInt32))
  exact ⟨_, Does.load_row ty167 rfl r136 (map_get u32 _ (0 : UInt32) (by omega)), rfl⟩
 refine Seq.next ?_
 refine Run.seq ?_
 refine Run.block ?_
 refine Run.loop (fun m' l' w' => ∃ (q : Nat) (r : Nat) (lab' : Lab), m' = q ∧ l' = [(7, n64 q), (8, n64 r), (0, .slice (some ⟨u_b, u_o, none⟩) u_n u_c), (1, .slice A1 (List.length v) c2), (4, .int .u32 0), (5, i64 ((List.length v : Nat) : Int))] ∧ Valid lab' w' ∧ Stp [] L154 w155 lab' w' ∧ (q * (List.getD v (List.length v - 1) 0).toNat + r = (List.getD u (u_o + List.length v) 0).toNat * 4294967296 + (List.getD u (u_o + (List.length v - 1)) 0).toNat) ∧ (r < 4294967296) ∧ (seg u u_o (List.length v + 1) < (q + 1) * wv v) ∧ (q ≤ 18446744069414584320 + 4294967295)) ((((((List.getD u (u_o + (List.length v)) (0 : UInt32)).toNat) * 4294967296) + ((List.getD u (u_o + ((List.length v) - 1)) (0 : UInt32)).toNat)) / ((List.getD v ((List.length v) - 1) (0 : UInt32)).toNat))) (l0 := [(7, n64 (((((List.getD u (u_o + (List.length v)) (0 : UInt32)).toNat) * 4294967296) + ((List.getD u (u_o + ((List.length v) - 1)) (0 : UInt32)).toNat)) / ((List.getD v ((List.length v) - 1) (0 : UInt32)).toNat))), (8, n64 (((((List.getD u (u_o + (List.length v)) (0 : UInt32)).toNat) * 4294967296) + ((List.getD u (u_o + ((List.length v) - 1)) (0 : UInt32)).toNat)) % ((List.getD v ((List.length v) - 1) (0 : UInt32)).toNat))), (0, .slice (some ⟨u_b, u_o, none⟩) u_n u_c), (1, .slice A1 (List.length v) c2), (4, .int .u32 0), (5, i64 ((List.length v : Nat) : Int))]) ⟨(congrArg (fun z => some (n64 z)) (show (((((List.getD u (u_o + (List.length v)) (0 : UInt32)).toNat) * 4294967296) + ((List.getD u (u_o + ((List.length v) - 1)) (0 : UInt32)).toNat)) / ((List.getD v ((List.length v) - 1) (0 : UInt32)).toNat) : Nat) = (((((List.getD u (u_o + (List.length v)) (0 : UInt32)).toNat) * 4294967296) + ((List.getD u (u_o + ((List.length v) - 1)) (0 : UInt32)).toNat)) / ((List.getD v ((List.length v) - 1) (0 : UInt32)).toNat)) from by rfl)), (congrArg (fun z => some (n64 z)) (show (((((List.getD u (u_o + (List.length v)) (0 : UInt32)).toNat) * 4294967296) + ((List.getD u (u_o + ((List.length v) - 1)) (0 : UInt32)).toNat)) % ((List.getD v ((List.length v) - 1) (0 : UInt32)).toNat) : Nat) = (((((List.getD u (u_o + (List.length v)) (0 : UInt32)).toNat) * 4294967296) + ((List.getD u (u_o + ((List.length v) - 1)) (0 : UInt32)).toNat)) % ((List.getD v ((List.length v) - 1) (0 : UInt32)).toNat)) from by rfl)), rfl, rfl, rfl, rfl, trivial⟩ ⟨(((((List.getD u (u_o + (List.length v)) (0 : UInt32)).toNat) * 4294967296) + ((List.getD u (u_o + ((List.length v) - 1)) (0 : UInt32)).toNat)) / ((List.getD v ((List.length v) - 1) (0 : UInt32)).toNat)), (((((List.getD u (u_o + (List.length v)) (0 : UInt32)).toNat) * 4294967296) + ((List.getD u (u_o + ((List.length v) - 1)) (0 : UInt32)).toNat)) % ((List.getD v ((List.length v) - 1) (0 : UInt32)).toNat)), L154, rfl, rfl, h156, ((Stp.refl _ _).more (by simp)), (by exact Nat.div_add_mod' _ _), (by exact Nat.lt_of_lt_of_le (Nat.mod_lt _ (by omega)) (by omega)), (by exact D.start), (by exact Nat.le_trans (Nat.div_le_self _ _) (by omega))⟩ ?_
 intro m158 l159 w160 H161
 obtain ⟨q, r, lab162, hzm, rfl, hv163, s164, hq, hr, hw, hqb⟩ := H161
 replace hzm := hzm.symm; subst hzm
 have hz : q = 0 → q * (List.getD v (List.length v - 2) 0).toNat = 0 := fun h => (by rw [h, Nat.zero_mul])
 have hm2 : q ≤ 4294967296 → q * (List.getD v (List.length v - 2) 0).toNat ≤ 18446744069414584320 := fun h => mulq _ h
 have hA := fun h1 h2 => D.exA hq hw h1 h2
 have hB := fun h1 h2 h3 => D.exB hq h1 h2 h3
 have hN := fun h1 => back_one h1 hq
 have hS := fun h => D.step hq h
 refine Run.seq ?_
 refine Run.seq ?_
 rcases Decidable.em ((4294967296 : Int) ≤ ((q : Nat) : Int)) with hp1 | hp1
 ·refine Run.open 22 (Φ := [.ex (n64 q), .ex (.bool (decide ((4294967296 : Int) ≤ ((q : Nat) : Int)))), .ex (.bool (decide ((4294967296 : Int) ≤ ((q : Nat) : Int)))), .ex undef, .ex undef, .ex undef, .ex undef, .ex undef, .ex undef, .ex undef, .ex undef, .ex undef, .ex undef, .ex undef, .ex undef, .ex undef, .ex undef, .ex undef, .ex undef, .ex undef, .ex undef, .ex (.bool true)]) [(21, 64)] mixed (by kernel_rfl) rfl hv163 ⟨(oX [] rfl rfl rfl fun _ _ => Does.move rfl), (oX [(0, 43)] rfl rfl rfl fun _ _ => Does.geq rfl rfl), (oX [(1, 44)] rfl rfl rfl fun _ _ => Does.move rfl), (oOff rfl rfl rfl rfl (decide_eq_true hp1) rfl rfl), (oOff rfl rfl rfl rfl (decide_eq_true hp1) rfl rfl), (oOff rfl rfl rfl rfl (decide_eq_true hp1) rfl rfl), (oOff rfl rfl rfl rfl (decide_eq_true hp1) rfl rfl), (oOff rfl rfl rfl rfl (decide_eq_true hp1) rfl rfl), (oOff rfl rfl rfl rfl (decide_eq_true hp1) rfl rfl), (oOff rfl rfl rfl rfl (decide_eq_true hp1) rfl rfl), (oOff rfl rfl rfl rfl (decide_eq_true hp1) rfl rfl), (oOff rfl rfl rfl rfl (decide_eq_true hp1) rfl rfl), (oOff rfl rfl rfl rfl (decide_eq_true hp1) rfl rfl), (oOff rfl rfl rfl rfl (decide_eq_true hp1) rfl rfl), (oOff rfl rfl rfl rfl (decide_eq_true hp1) rfl rfl), (oOff rfl rfl rfl rfl (decide_eq_true hp1) rfl rfl), (oOff rfl rfl rfl rfl (decide_eq_true hp1) rfl rfl), (oOff rfl rfl rfl rfl (decide_eq_true hp1) rfl rfl), (oOff rfl rfl rfl rfl (decide_eq_true hp1) rfl rfl), (oOff rfl rfl rfl rfl (decide_eq_true hp1) rfl rfl), (oOff rfl rfl rfl rfl (decide_eq_true hp1) rfl rfl), (oX [(2, 45)] rfl rfl rfl fun _ _ => Does.pick_b rfl (decide_eq_true hp1) rfl), trivial⟩ (fun L193 w194 h195 s196 => ?_)
  refine Seq.next ?_
  refine Run.cond_b rfl rfl ?_
  refine Run.skip_go (fun _ _ h => h) ?_
  refine Run.block ?_
  refine rsr ?_
  refine sv (Does.move rfl) ?_
  refine sv (Does.n64_sub (b := 1) rfl rfl (by omega) (by omega)) ?_
  refine sv (Does.assign rfl) ?_
  refine nsr ?_
  refine sv (Does.move rfl) ?_
  refine sv (Does.move rfl) ?_
  refine sv (Does.move rfl) ?_
  refine sv (Does.sub rfl rfl (by omega)) ?_
  have c197 := s164.trans s196
  have c198 := s157.trans c197
  have c199 := s67.trans c198
  have q200 := up c199 h1
  refine sv (Does.index_row ((List.length v) - 1) Try.underlying58 ty167 rfl rfl (WordsV.row q200) (by simp [nw]) (by omega) (by omega)) ?_
  have t201 := UInt32.toNat_lt (List.getD v ((List.length v) - 1) (0 : UInt32))
  refine sv (Does.load_row ty167 rfl (WordsV.row q200) (map_get u32 _ (0 : UInt32) (by omega))) ?_
  refine sv (Does.u32_n64 Try.underlying167 Try.underlying62 rfl) ?_
  refine sv (Does.n64_add rfl rfl (by omega)) ?_
  refine sv (Does.assign rfl) ?_
  refine nsr ?_
  refine sv (Does.move rfl) ?_
  refine sv (Does.geq rfl rfl) ?_
  refine Seq.next ?_
  rcases Decidable.em ((4294967296 : Int) ≤ ((r + ((List.getD v ((List.length v) - 1) (0 : UInt32)).toNat) : Nat) : Int)) with hp2 | hp2
  rotate_left
  ·refine Run.cond_b rfl (decide_eq_false hp2) ?_
   exact Run.skip (fun a240 h241 => ⟨_, by omega, _, h241.weaken (subs_lk (l' := [(7, n64 (q - 1)), (8, n64 (r + (List.getD v (List.length v - 1) 0).toNat)), (0, .slice (some ⟨u_b, u_o, none⟩) u_n u_c), (1, .slice A1 (List.length v) c2), (4, .int .u32 0), (5, i64 ((List.length v : Nat) : Int))]) ⟨(congrArg (fun z => some (n64 z)) (show (q - 1 : Nat) = (q - 1) from by rfl)), (congrArg (fun z => some (n64 z)) (show (r + ((List.getD v ((List.length v) - 1) (0 : UInt32)).toNat) : Nat) = (r + (List.getD v (List.length v - 1) 0).toNat) from by rfl)), rfl, rfl, rfl, rfl, trivial⟩), ⟨q - 1, r + (List.getD v (List.length v - 1) 0).toNat, L193, rfl, rfl, h195, (c197.more (by decide)), (by omega), (by omega), (by (rw [Nat.sub_add_cancel (by omega)]; exact hS (by first | exact Or.inl (by omega) | exact Or.inr (by omega)))), (by omega)⟩⟩)
  refine Run.cond_b rfl (decide_eq_true hp2) ?_
  refine Run.exit_go (fun _ _ h => h) ?_
  refine Run.seq ?_
  refine rsr ?_
  refine sv (Does.move rfl) ?_
  refine sv (Does.move rfl) ?_
  refine sv (Does.move rfl) ?_
  have o202 := h0.up c199
  refine scallE cal184 rfl (nat_take h195 (q := q - 1) o202 (by omega) q200  (show  u_n = List.length v + 1 from by omega) (show  (q - 1) ≤ 4294967296 from by exact Nat.le_of_lt (hB (by omega) (by first | exact Or.inl (by omega) | exact Or.inr (by omega)) (by omega)).b) (show  List.length v ≤ 1000000 from by omega)) fun v203 L208 w211 r210 s206 h207 => ?_
  obtain ⟨q205, o209⟩ := r210
  have q205 := Is.out q205; subst q205
  refine Seq.next ?_
  rcases Decidable.em (seg u u_o (List.length v + 1) < (q - 1) * wv v) with hp3 | hp3
  rotate_left
  ·refine Run.cond_b rfl (decide_eq_false hp3) ?_
   refine Run.skip_go (fun _ _ h => h) ?_
   refine rsr ?_
   refine sv (Does.move rfl) ?_
   refine sv (Does.n64_u32 Try.underlying62 Try.underlying167 rfl) ?_
   refine sv (Does.assign rfl) ?_
   refine Seq.next ?_
   have c239 := c199.trans s206
   obtain ⟨lab9, s9, B9⟩ := hX [(1, u_d)] c239 (by decide) h207
   obtain ⟨zU, zo⟩ := B9.u
   refine Run.ret ?_
   exact post_one Try.results160 rfl ⟨_, lab9, rfl, ⟨(isU32 (by exact congrArg UInt32.ofNat ((hB (by omega) (by first | exact Or.inl (by omega) | exact Or.inr (by omega)) (by omega)).hit (by assumption)).symm) _ _), ((show putAt u u_o (wsN (tkZ (seg u u_o (List.length v + 1)) ((q - 1) * wv v) (List.length v)) (List.length v + 1)) = putAt u u_o (wsN (seg u u_o (List.length v + 1) % wv v) (List.length v + 1)) from by exact congrArg (putAt u u_o) ((hB (by omega) (by first | exact Or.inl (by omega) | exact Or.inr (by omega)) (by omega)).hit_row (by assumption) _)) ▸ (Own.back o209 B9 u_d rfl (by decide) (by simp [keys])))⟩, s9, B9.v⟩
  refine Run.cond_b rfl (decide_eq_true hp3) ?_
  refine rsr ?_
  refine sv (Does.move rfl) ?_
  refine sv (Does.n64_sub (b := 1) rfl rfl (by omega) (by omega)) ?_
  refine sv (Does.assign rfl) ?_
  refine nsr ?_
  refine sv (Does.assign rfl) ?_
  refine Seq.next ?_
  refine Run.seq ?_
  refine rsr ?_
  refine sv (Does.move rfl) ?_
  refine sv (Does.len Try.underlying58 rfl) ?_
  refine sv (Does.move rfl) ?_
  refine Seq.next ?_
  refine Run.block ?_
  refine Run.loop (fun m' l' w' => ∃ (k : Nat) (lab' : Lab), m' = List.length v - k ∧ l' = [(85, i64 ((k : Nat) : Int)), (9, n64 (cA (seg ((putAt u u_o (wsN (tkZ (seg u u_o (List.length v + 1)) ((q - 1) * wv v) (List.length v)) (List.length v + 1)))) u_o (List.length v + 1)) (wv v) k)), (0, .slice (some ⟨u_b, u_o, none⟩) u_n u_c), (4, .int .u32 0), (5, i64 ((List.length v : Nat) : Int)), (7, n64 ((q - 1) - 1)), (83, .slice A1 (List.length v) c2), (84, i64 ((List.length v : Nat) : Int))] ∧ Valid lab' w' ∧ Stp [1] L208 w211 lab' w' ∧ Own lab' w' 1 u_b u_t (List.map u32 (putAt ((putAt u u_o (wsN (tkZ (seg u u_o (List.length v + 1)) ((q - 1) * wv v) (List.length v)) (List.length v + 1)))) u_o (wsN (seg ((putAt u u_o (wsN (tkZ (seg u u_o (List.length v + 1)) ((q - 1) * wv v) (List.length v)) (List.length v + 1)))) u_o (List.length v + 1) + wv v) k))).toArray ∧ (k ≤ List.length v)) (List.length v - 0) (l0 := [(85, i64 ((0 : Nat) : Int)), (9, n64 (cA (seg ((putAt u u_o (wsN (tkZ (seg u u_o (List.length v + 1)) ((q - 1) * wv v) (List.length v)) (List.length v + 1)))) u_o (List.length v + 1)) (wv v) 0)), (0, .slice (some ⟨u_b, u_o, none⟩) u_n u_c), (4, .int .u32 0), (5, i64 ((List.length v : Nat) : Int)), (7, n64 ((q - 1) - 1)), (83, .slice A1 (List.length v) c2), (84, i64 ((List.length v : Nat) : Int))]) ⟨(congrArg (fun z => some (i64 z)) (show (0 : Int) = ((0 : Nat) : Int) from by rfl)), (congrArg (fun z => some (n64 z)) (show (0 : Nat) = cA (seg ((putAt u u_o (wsN (tkZ (seg u u_o (List.length v + 1)) ((q - 1) * wv v) (List.length v)) (List.length v + 1)))) u_o (List.length v + 1)) (wv v) 0 from by exact (cA_zero _ _).symm)), rfl, rfl, rfl, rfl, rfl, rfl, trivial⟩ ⟨0, L208, rfl, rfl, h207, ((Stp.refl _ _).more (by simp)), ((show putAt u u_o (wsN (tkZ (seg u u_o (List.length v + 1)) ((q - 1) * wv v) (List.length v)) (List.length v + 1)) = putAt ((putAt u u_o (wsN (tkZ (seg u u_o (List.length v + 1)) ((q - 1) * wv v) (List.length v)) (List.length v + 1)))) u_o (wsN (seg ((putAt u u_o (wsN (tkZ (seg u u_o (List.length v + 1)) ((q - 1) * wv v) (List.length v)) (List.length v + 1)))) u_o (List.length v + 1) + wv v) 0) from by exact (putAt_nil _ _).symm) ▸ o209), (by omega)⟩ ?_
  intro m212 l213 w214 H215
  obtain ⟨k, lab216, hzm, rfl, hv217, s218, o219, hk⟩ := H215
  replace hzm := hzm.symm; subst hzm
  have hL1 : List.length ((putAt u u_o (wsN (tkZ (seg u u_o (List.length v + 1)) ((q - 1) * wv v) (List.length v)) (List.length v + 1)))) = List.length u := putAt_length (by rw [wsN_length]; omega)
  have hc := cA_le (seg ((putAt u u_o (wsN (tkZ (seg u u_o (List.length v + 1)) ((q - 1) * wv v) (List.length v)) (List.length v + 1)))) u_o (List.length v + 1)) (wv v) k
  have hg := putAt_get (us := (putAt u u_o (wsN (tkZ (seg u u_o (List.length v + 1)) ((q - 1) * wv v) (List.length v)) (List.length v + 1)))) (o := u_o) (j := k) (xs := wsN (seg ((putAt u u_o (wsN (tkZ (seg u u_o (List.length v + 1)) ((q - 1) * wv v) (List.length v)) (List.length v + 1)))) u_o (List.length v + 1) + wv v) k) (by rw [wsN_length]; omega) (by rw [wsN_length]; omega)
  have hs := fun h => @ab_sum ((putAt u u_o (wsN (tkZ (seg u u_o (List.length v + 1)) ((q - 1) * wv v) (List.length v)) (List.length v + 1)))) v u_o k _ _ _ h (by rw [hL1]; omega) rfl rfl rfl
  refine rsr ?_
  refine sv (Does.lss rfl rfl) ?_
  refine Seq.next ?_
  refine Run.seq ?_
  rcases Decidable.em ((((k : Nat) : Int) : Int) < (((List.length v : Nat) : Int) : Int)) with hp4 | hp4
  rotate_left
  ·refine Run.cond_b rfl (decide_eq_false hp4) ?_
   refine Run.exit_go (fun _ _ h => h) ?_
   refine Run.region ?_
   refine sv (Does.move rfl) ?_
   refine sv (Does.move rfl) ?_
   refine sv (Does.index_sub (List.length v) Try.underlying58 ty167 rfl rfl (by omega) (by omega)) ?_
   have t231 := UInt32.toNat_lt (List.getD (putAt ((putAt u u_o (wsN (tkZ (seg u u_o (List.length v + 1)) ((q - 1) * wv v) (List.length v)) (List.length v + 1)))) u_o (wsN (seg ((putAt u u_o (wsN (tkZ (seg u u_o (List.length v + 1)) ((q - 1) * wv v) (List.length v)) (List.length v + 1)))) u_o (List.length v + 1) + wv v) k)) (u_o + (List.length v)) (0 : UInt32))
   refine sv (Does.load_own1 o219 ty167 rfl (row_get u32 _ (0 : UInt32) (by (rw [putAt_length (by rw [wsN_length]; omega)]; omega)))) ?_
   refine sv (Does.move rfl) ?_
   refine sv (Does.n64_u32 Try.underlying62 Try.underlying167 rfl) ?_
   refine sv (Does.u32_add rfl rfl) ?_
   refine sv (Does.index_sub (List.length v) Try.underlying58 ty167 rfl rfl (by omega) (by omega)) ?_
   refine Seq.store_row (k := 1) (j := (u_o + (List.length v))) (v := ((List.getD (putAt ((putAt u u_o (wsN (tkZ (seg u u_o (List.length v + 1)) ((q - 1) * wv v) (List.length v)) (List.length v + 1)))) u_o (wsN (seg ((putAt u u_o (wsN (tkZ (seg u u_o (List.length v + 1)) ((q - 1) * wv v) (List.length v)) (List.length v + 1)))) u_o (List.length v + 1) + wv v) k)) (u_o + (List.length v)) (0 : UInt32)) + (UInt32.ofNat (cA (seg ((putAt u u_o (wsN (tkZ (seg u u_o (List.length v + 1)) ((q - 1) * wv v) (List.length v)) (List.length v + 1)))) u_o (List.length v + 1)) (wv v) k)))) u32 hv217 o219 ty167 rfl rfl (by (rw [putAt_length (by rw [wsN_length]; omega)]; omega)) rfl rfl fun w232 o233 s234 h235 => ?_
   refine nsr ?_
   refine sv (Does.move rfl) ?_
   refine sv (Does.n64_u32 Try.underlying62 Try.underlying167 rfl) ?_
   refine sv (Does.assign rfl) ?_
   refine Seq.next ?_
   have c236 := s218.trans s234
   have c237 := s206.trans c236
   have c238 := c199.trans c237
   obtain ⟨lab9, s9, B9⟩ := hX [(1, u_d)] c238 (by decide) h235
   obtain ⟨zU, zo⟩ := B9.u
   refine Run.ret ?_
   exact post_one Try.results160 rfl ⟨_, lab9, rfl, ⟨(isU32 (by exact congrArg UInt32.ofNat ((hB (by omega) (by first | exact Or.inl (by omega) | exact Or.inr (by omega)) (by omega)).over (by assumption)).symm) _ _), ((show List.set (putAt ((putAt u u_o (wsN (tkZ (seg u u_o (List.length v + 1)) ((q - 1) * wv v) (List.length v)) (List.length v + 1)))) u_o (wsN (seg ((putAt u u_o (wsN (tkZ (seg u u_o (List.length v + 1)) ((q - 1) * wv v) (List.length v)) (List.length v + 1)))) u_o (List.length v + 1) + wv v) k)) (u_o + (List.length v)) ((List.getD (putAt ((putAt u u_o (wsN (tkZ (seg u u_o (List.length v + 1)) ((q - 1) * wv v) (List.length v)) (List.length v + 1)))) u_o (wsN (seg ((putAt u u_o (wsN (tkZ (seg u u_o (List.length v + 1)) ((q - 1) * wv v) (List.length v)) (List.length v + 1)))) u_o (List.length v + 1) + wv v) k)) (u_o + (List.length v)) (0 : UInt32)) + (UInt32.ofNat (cA (seg ((putAt u u_o (wsN (tkZ (seg u u_o (List.length v + 1)) ((q - 1) * wv v) (List.length v)) (List.length v + 1)))) u_o (List.length v + 1)) (wv v) k))) = putAt u u_o (wsN (seg u u_o (List.length v + 1) % wv v) (List.length v + 1)) from by ((obtain rfl := Nat.le_antisymm hk (by omega)); rw [hg, ab_last (by omega) rfl]; exact ab_end (by omega) _ ((hB (by omega) (by first | exact Or.inl (by omega) | exact Or.inr (by omega)) (by omega)).over_mod (by assumption) _))) ▸ (Own.back o233 B9 u_d rfl (by decide) (by simp [keys])))⟩, s9, B9.v⟩
  refine Run.cond_b rfl (decide_eq_true hp4) ?_
  refine Run.skip_go (fun _ _ h => h) ?_
  refine Run.seq ?_
  refine Run.block ?_
  refine rsr ?_
  refine sv (Does.move rfl) ?_
  have c220 := s206.trans s218
  have q221 := up c220 q200
  refine sv (Does.index_row k Try.underlying58 ty167 rfl rfl (WordsV.row q221) (by simp [nw]) (by omega) (by omega)) ?_
  have t222 := UInt32.toNat_lt (List.getD v k (0 : UInt32))
  refine sv (Does.load_row ty167 rfl (WordsV.row q221) (map_get u32 _ (0 : UInt32) (by omega))) ?_
  refine sv (Does.assign rfl) ?_
  refine sv (Does.assign rfl) ?_
  refine nsr ?_
  refine sv (Does.move rfl) ?_
  refine sv (Does.move rfl) ?_
  refine sv (Does.move rfl) ?_
  refine sv (Does.index_sub k Try.underlying58 ty167 rfl rfl (by omega) (by omega)) ?_
  have t223 := UInt32.toNat_lt (List.getD (putAt ((putAt u u_o (wsN (tkZ (seg u u_o (List.length v + 1)) ((q - 1) * wv v) (List.length v)) (List.length v + 1)))) u_o (wsN (seg ((putAt u u_o (wsN (tkZ (seg u u_o (List.length v + 1)) ((q - 1) * wv v) (List.length v)) (List.length v + 1)))) u_o (List.length v + 1) + wv v) k)) (u_o + k) (0 : UInt32))
  refine sv (Does.load_own1 o219 ty167 rfl (row_get u32 _ (0 : UInt32) (by (rw [putAt_length (by rw [wsN_length]; omega)]; omega)))) ?_
  refine sv (Does.u32_n64 Try.underlying167 Try.underlying62 rfl) ?_
  refine sv (Does.move rfl) ?_
  refine sv (Does.u32_n64 Try.underlying167 Try.underlying62 rfl) ?_
  refine sv (Does.n64_add rfl rfl (by omega)) ?_
  refine sv (Does.n64_add rfl rfl (by omega)) ?_
  refine sv (Does.assign rfl) ?_
  refine nsr ?_
  refine sv (Does.move rfl) ?_
  refine sv (Does.move rfl) ?_
  refine sv (Does.move rfl) ?_
  refine sv (Does.n64_u32 Try.underlying62 Try.underlying167 rfl) ?_
  refine sv (Does.index_sub k Try.underlying58 ty167 rfl rfl (by omega) (by omega)) ?_
  refine Seq.store_row (k := 1) (j := (u_o + k)) (v := (UInt32.ofNat ((cA (seg ((putAt u u_o (wsN (tkZ (seg u u_o (List.length v + 1)) ((q - 1) * wv v) (List.length v)) (List.length v + 1)))) u_o (List.length v + 1)) (wv v) k) + (((List.getD (putAt ((putAt u u_o (wsN (tkZ (seg u u_o (List.length v + 1)) ((q - 1) * wv v) (List.length v)) (List.length v + 1)))) u_o (wsN (seg ((putAt u u_o (wsN (tkZ (seg u u_o (List.length v + 1)) ((q - 1) * wv v) (List.length v)) (List.length v + 1)))) u_o (List.length v + 1) + wv v) k)) (u_o + k) (0 : UInt32)).toNat) + ((List.getD v k (0 : UInt32)).toNat))))) u32 hv217 o219 ty167 rfl rfl (by (rw [putAt_length (by rw [wsN_length]; omega)]; omega)) rfl rfl fun w224 o225 s226 h227 => ?_
  refine Seq.next ?_
  refine Run.region ?_
  refine sv (Does.move rfl) ?_
  refine sv (Does.n64_shr32 rfl rfl) ?_
  refine sv (Does.assign rfl) ?_
  refine Seq.go (fun _ _ h => h) ?_
  refine Run.region ?_
  refine sv (Does.add rfl rfl (by omega)) ?_
  refine sv (Does.move rfl) ?_
  have c228 := s218.trans s226
  exact Seq.nil (fun a229 h230 => ⟨_, by omega, _, h230.weaken (subs_lk (l' := [(85, i64 (((k + 1) : Nat) : Int)), (9, n64 (cA (seg ((putAt u u_o (wsN (tkZ (seg u u_o (List.length v + 1)) ((q - 1) * wv v) (List.length v)) (List.length v + 1)))) u_o (List.length v + 1)) (wv v) (k + 1))), (0, .slice (some ⟨u_b, u_o, none⟩) u_n u_c), (4, .int .u32 0), (5, i64 ((List.length v : Nat) : Int)), (7, n64 ((q - 1) - 1)), (83, .slice A1 (List.length v) c2), (84, i64 ((List.length v : Nat) : Int))]) ⟨(congrArg (fun z => some (i64 z)) (show (((k : Nat) : Int) + 1 : Int) = (((k + 1) : Nat) : Int) from by rfl)), (congrArg (fun z => some (n64 z)) (show (((cA (seg ((putAt u u_o (wsN (tkZ (seg u u_o (List.length v + 1)) ((q - 1) * wv v) (List.length v)) (List.length v + 1)))) u_o (List.length v + 1)) (wv v) k) + (((List.getD (putAt ((putAt u u_o (wsN (tkZ (seg u u_o (List.length v + 1)) ((q - 1) * wv v) (List.length v)) (List.length v + 1)))) u_o (wsN (seg ((putAt u u_o (wsN (tkZ (seg u u_o (List.length v + 1)) ((q - 1) * wv v) (List.length v)) (List.length v + 1)))) u_o (List.length v + 1) + wv v) k)) (u_o + k) (0 : UInt32)).toNat) + ((List.getD v k (0 : UInt32)).toNat))) / 4294967296 : Nat) = cA (seg ((putAt u u_o (wsN (tkZ (seg u u_o (List.length v + 1)) ((q - 1) * wv v) (List.length v)) (List.length v + 1)))) u_o (List.length v + 1)) (wv v) (k + 1) from by (rw [hg]; exact (hs (by omega)).1))), rfl, rfl, rfl, rfl, rfl, rfl, trivial⟩), ⟨k + 1, lab216, rfl, rfl, h227, (c228.more (by decide)), ((show List.set (putAt ((putAt u u_o (wsN (tkZ (seg u u_o (List.length v + 1)) ((q - 1) * wv v) (List.length v)) (List.length v + 1)))) u_o (wsN (seg ((putAt u u_o (wsN (tkZ (seg u u_o (List.length v + 1)) ((q - 1) * wv v) (List.length v)) (List.length v + 1)))) u_o (List.length v + 1) + wv v) k)) (u_o + k) (UInt32.ofNat ((cA (seg ((putAt u u_o (wsN (tkZ (seg u u_o (List.length v + 1)) ((q - 1) * wv v) (List.length v)) (List.length v + 1)))) u_o (List.length v + 1)) (wv v) k) + (((List.getD (putAt ((putAt u u_o (wsN (tkZ (seg u u_o (List.length v + 1)) ((q - 1) * wv v) (List.length v)) (List.length v + 1)))) u_o (wsN (seg ((putAt u u_o (wsN (tkZ (seg u u_o (List.length v + 1)) ((q - 1) * wv v) (List.length v)) (List.length v + 1)))) u_o (List.length v + 1) + wv v) k)) (u_o + k) (0 : UInt32)).toNat) + ((List.getD v k (0 : UInt32)).toNat)))) = putAt ((putAt u u_o (wsN (tkZ (seg u u_o (List.length v + 1)) ((q - 1) * wv v) (List.length v)) (List.length v + 1)))) u_o (wsN (seg ((putAt u u_o (wsN (tkZ (seg u u_o (List.length v + 1)) ((q - 1) * wv v) (List.length v)) (List.length v + 1)))) u_o (List.length v + 1) + wv v) (k + 1)) from by (rw [hg]; exact ab_row (by omega) (by omega) (hs (by omega)).2)) ▸ o225), (by omega)⟩⟩)
 refine Run.open 22 (Φ := [.ex (n64 q), .ex (.bool (decide ((4294967296 : Int) ≤ ((q : Nat) : Int)))), .ex (.bool (decide ((4294967296 : Int) ≤ ((q : Nat) : Int)))), .ex (n64 q), .ex (.slice A1 (List.length v) c2), .ex (i64 ((List.length v : Nat) : Int)), .ex (i64 (((List.length v : Nat) : Int) - 2)), .v (ElV (List.map u32 v) ((List.length v) - 2)), .ex (u32 (List.getD v ((List.length v) - 2) (0 : UInt32))), .ex (n64 ((List.getD v ((List.length v) - 2) (0 : UInt32)).toNat)), .ex (n64 (q * ((List.getD v ((List.length v) - 2) (0 : UInt32)).toNat))), .ex (n64 r), .ex (n64 (r * 4294967296)), .ex (.slice (some ⟨u_b, u_o, none⟩) u_n u_c), .ex (i64 ((List.length v : Nat) : Int)), .ex (i64 (((List.length v : Nat) : Int) - 2)), .ex (.pointer (some ⟨u_b, u_o + ((List.length v) - 2), none⟩)), .ex (u32 (List.getD u (u_o + ((List.length v) - 2)) (0 : UInt32))), .ex (n64 ((List.getD u (u_o + ((List.length v) - 2)) (0 : UInt32)).toNat)), .ex (n64 ((r * 4294967296) + ((List.getD u (u_o + ((List.length v) - 2)) (0 : UInt32)).toNat))), .ex (.bool (decide ((((r * 4294967296) + ((List.getD u (u_o + ((List.length v) - 2)) (0 : UInt32)).toNat) : Nat) : Int) < ((q * ((List.getD v ((List.length v) - 2) (0 : UInt32)).toNat) : Nat) : Int)))), .ex (.bool (decide ((((r * 4294967296) + ((List.getD u (u_o + ((List.length v) - 2)) (0 : UInt32)).toNat) : Nat) : Int) < ((q * ((List.getD v ((List.length v) - 2) (0 : UInt32)).toNat) : Nat) : Int))))]) [(21, 64)] mixed (by kernel_rfl) rfl hv163 ⟨(oX [] rfl rfl rfl fun _ _ => Does.move rfl), (oX [(0, 43)] rfl rfl rfl fun _ _ => Does.geq rfl rfl), (oX [(1, 44)] rfl rfl rfl fun _ _ => Does.move rfl), ?_, ?_, ?_, ?_, ?_, ?_, ?_, ?_, ?_, ?_, ?_, ?_, ?_, ?_, ?_, ?_, ?_, ?_, (oX [(2, 45), (20, 63)] rfl rfl rfl fun _ _ => Does.pick_b rfl (decide_eq_false hp1) rfl), trivial⟩ (fun L344 w345 h346 s347 => ?_)
 ·refine oP_on [] rfl rfl rfl rfl (decide_eq_false hp1) rfl fun L254 w255 h256 s257 => ?_
  exact ⟨_, Does.move rfl, rfl⟩
 ·refine oP_on [] rfl rfl rfl rfl (decide_eq_false hp1) rfl fun L258 w259 h260 s261 => ?_
  exact ⟨_, Does.move rfl, rfl⟩
 ·refine oP_on [] rfl rfl rfl rfl (decide_eq_false hp1) rfl fun L262 w263 h264 s265 => ?_
  exact ⟨_, Does.move rfl, rfl⟩
 ·refine oP_on [(5, 48)] rfl rfl rfl rfl (decide_eq_false hp1) rfl fun L266 w267 h268 s269 => ?_
  exact ⟨_, Does.sub rfl rfl (by omega), rfl⟩
 ·refine oP_on [(4, 47), (6, 49)] rfl rfl rfl rfl (decide_eq_false hp1) rfl fun L270 w271 h272 s273 => ?_
  have c274 := s164.trans s273
  have c275 := s157.trans c274
  have c276 := s67.trans c275
  have q277 := up c276 h1
  exact ⟨_, Does.index_row ((List.length v) - 2) Try.underlying58 ty167 rfl rfl (WordsV.row q277) (by simp [nw]) (by omega) (by omega), ⟨_, rfl, (WordsV.row q277)⟩⟩
 ·refine oP_on [(7, 50)] rfl rfl rfl rfl (decide_eq_false hp1) rfl fun L278 w279 h280 s281 v282 q283 => ?_
  obtain ⟨A284, rfl, r285⟩ := q283
  have t286 := UInt32.toNat_lt (List.getD v ((List.length v) - 2) (0 : UInt32))
  exact ⟨_, Does.load_row ty167 rfl r285 (map_get u32 _ (0 : UInt32) (by omega)), rfl⟩
 ·refine oP_on [(8, 51)] rfl rfl rfl rfl (decide_eq_false hp1) rfl fun L287 w288 h289 s290 => ?_
  exact ⟨_, Does.u32_n64 Try.underlying167 Try.underlying62 rfl, rfl⟩
 ·refine oP_on [(3, 46), (9, 52)] rfl rfl rfl rfl (decide_eq_false hp1) rfl fun L291 w292 h293 s294 => ?_
  exact ⟨_, Does.n64_mul rfl rfl (by omega), rfl⟩
 ·refine oP_on [] rfl rfl rfl rfl (decide_eq_false hp1) rfl fun L295 w296 h297 s298 => ?_
  exact ⟨_, Does.move rfl, rfl⟩
 ·refine oP_on [(11, 54)] rfl rfl rfl rfl (decide_eq_false hp1) rfl fun L299 w300 h301 s302 => ?_
  exact ⟨_, Does.n64_shl32 rfl rfl (by omega), rfl⟩
 ·refine oP_on [] rfl rfl rfl rfl (decide_eq_false hp1) rfl fun L303 w304 h305 s306 => ?_
  exact ⟨_, Does.move rfl, rfl⟩
 ·refine oP_on [] rfl rfl rfl rfl (decide_eq_false hp1) rfl fun L307 w308 h309 s310 => ?_
  exact ⟨_, Does.move rfl, rfl⟩
 ·refine oP_on [(14, 57)] rfl rfl rfl rfl (decide_eq_false hp1) rfl fun L311 w312 h313 s314 => ?_
  exact ⟨_, Does.sub rfl rfl (by omega), rfl⟩
 ·refine oP_on [(13, 56), (15, 58)] rfl rfl rfl rfl (decide_eq_false hp1) rfl fun L315 w316 h317 s318 => ?_
  exact ⟨_, Does.index_sub ((List.length v) - 2) Try.underlying58 ty167 rfl rfl (by omega) (by omega), rfl⟩
 ·refine oP_on [(16, 59)] rfl rfl rfl rfl (decide_eq_false hp1) rfl fun L319 w320 h321 s322 => ?_
  have c324 := s164.trans s322
  have c325 := s157.trans c324
  have c326 := s67.trans c325
  have o323 := h0.up c326
  have t327 := UInt32.toNat_lt (List.getD u (u_o + ((List.length v) - 2)) (0 : UInt32))
  exact ⟨_, Does.load_own1 o323 ty167 rfl (row_get u32 _ (0 : UInt32) (by omega)), rfl⟩
 ·refine oP_on [(17, 60)] rfl rfl rfl rfl (decide_eq_false hp1) rfl fun L328 w329 h330 s331 => ?_
  exact ⟨_, Does.u32_n64 Try.underlying167 Try.underlying62 rfl, rfl⟩
 ·refine oP_on [(12, 55), (18, 61)] rfl rfl rfl rfl (decide_eq_false hp1) rfl fun L332 w333 h334 s335 => ?_
  exact ⟨_, Does.n64_or_low rfl rfl (by omega) (by omega), rfl⟩
 ·refine oP_on [(10, 53), (19, 62)] rfl rfl rfl rfl (decide_eq_false hp1) rfl fun L336 w337 h338 s339 => ?_
  exact ⟨_, Does.gtr rfl rfl, rfl⟩
 refine Seq.next ?_
 rcases Decidable.em ((((r * 4294967296) + ((List.getD u (u_o + ((List.length v) - 2)) (0 : UInt32)).toNat) : Nat) : Int) < ((q * ((List.getD v ((List.length v) - 2) (0 : UInt32)).toNat) : Nat) : Int)) with hp2 | hp2
 rotate_left
 ·refine Run.cond_b rfl (decide_eq_false hp2) ?_
  refine Run.exit_go (fun _ _ h => h) ?_
  refine Run.seq ?_
  refine rsr ?_
  refine sv (Does.move rfl) ?_
  refine sv (Does.move rfl) ?_
  refine sv (Does.move rfl) ?_
  have c395 := s164.trans s347
  have c396 := s157.trans c395
  have c397 := s67.trans c396
  have o394 := h0.up c397
  have q398 := up c397 h1
  refine scallE cal184 rfl (nat_take h346 (q := q) o394 (by omega) q398  (show  u_n = List.length v + 1 from by omega) (show  q ≤ 4294967296 from by omega) (show  List.length v ≤ 1000000 from by omega)) fun v399 L404 w407 r406 s402 h403 => ?_
  obtain ⟨q401, o405⟩ := r406
  have q401 := Is.out q401; subst q401
  refine Seq.next ?_
  rcases Decidable.em (seg u u_o (List.length v + 1) < q * wv v) with hp3 | hp3
  rotate_left
  ·refine Run.cond_b rfl (decide_eq_false hp3) ?_
   refine Run.skip_go (fun _ _ h => h) ?_
   refine rsr ?_
   refine sv (Does.move rfl) ?_
   refine sv (Does.n64_u32 Try.underlying62 Try.underlying167 rfl) ?_
   refine sv (Does.assign rfl) ?_
   refine Seq.next ?_
   have c436 := c397.trans s402
   obtain ⟨lab9, s9, B9⟩ := hX [(1, u_d)] c436 (by decide) h403
   obtain ⟨zU, zo⟩ := B9.u
   refine Run.ret ?_
   exact post_one Try.results160 rfl ⟨_, lab9, rfl, ⟨(isU32 (by exact congrArg UInt32.ofNat ((hA (by omega) (by omega)).hit (by assumption)).symm) _ _), ((show putAt u u_o (wsN (tkZ (seg u u_o (List.length v + 1)) (q * wv v) (List.length v)) (List.length v + 1)) = putAt u u_o (wsN (seg u u_o (List.length v + 1) % wv v) (List.length v + 1)) from by exact congrArg (putAt u u_o) ((hA (by omega) (by omega)).hit_row (by assumption) _)) ▸ (Own.back o405 B9 u_d rfl (by decide) (by simp [keys])))⟩, s9, B9.v⟩
  refine Run.cond_b rfl (decide_eq_true hp3) ?_
  refine rsr ?_
  refine sv (Does.move rfl) ?_
  refine sv (Does.n64_sub (b := 1) rfl rfl (by exact Gs.pos (hA (by omega) (by omega)) (by assumption)) (by omega)) ?_
  refine sv (Does.assign rfl) ?_
  refine nsr ?_
  refine sv (Does.assign rfl) ?_
  refine Seq.next ?_
  refine Run.seq ?_
  refine rsr ?_
  refine sv (Does.move rfl) ?_
  refine sv (Does.len Try.underlying58 rfl) ?_
  refine sv (Does.move rfl) ?_
  refine Seq.next ?_
  refine Run.block ?_
  refine Run.loop (fun m' l' w' => ∃ (k : Nat) (lab' : Lab), m' = List.length v - k ∧ l' = [(85, i64 ((k : Nat) : Int)), (9, n64 (cA (seg ((putAt u u_o (wsN (tkZ (seg u u_o (List.length v + 1)) (q * wv v) (List.length v)) (List.length v + 1)))) u_o (List.length v + 1)) (wv v) k)), (0, .slice (some ⟨u_b, u_o, none⟩) u_n u_c), (4, .int .u32 0), (5, i64 ((List.length v : Nat) : Int)), (7, n64 (q - 1)), (83, .slice A1 (List.length v) c2), (84, i64 ((List.length v : Nat) : Int))] ∧ Valid lab' w' ∧ Stp [1] L404 w407 lab' w' ∧ Own lab' w' 1 u_b u_t (List.map u32 (putAt ((putAt u u_o (wsN (tkZ (seg u u_o (List.length v + 1)) (q * wv v) (List.length v)) (List.length v + 1)))) u_o (wsN (seg ((putAt u u_o (wsN (tkZ (seg u u_o (List.length v + 1)) (q * wv v) (List.length v)) (List.length v + 1)))) u_o (List.length v + 1) + wv v) k))).toArray ∧ (k ≤ List.length v)) (List.length v - 0) (l0 := [(85, i64 ((0 : Nat) : Int)), (9, n64 (cA (seg ((putAt u u_o (wsN (tkZ (seg u u_o (List.length v + 1)) (q * wv v) (List.length v)) (List.length v + 1)))) u_o (List.length v + 1)) (wv v) 0)), (0, .slice (some ⟨u_b, u_o, none⟩) u_n u_c), (4, .int .u32 0), (5, i64 ((List.length v : Nat) : Int)), (7, n64 (q - 1)), (83, .slice A1 (List.length v) c2), (84, i64 ((List.length v : Nat) : Int))]) ⟨(congrArg (fun z => some (i64 z)) (show (0 : Int) = ((0 : Nat) : Int) from by rfl)), (congrArg (fun z => some (n64 z)) (show (0 : Nat) = cA (seg ((putAt u u_o (wsN (tkZ (seg u u_o (List.length v + 1)) (q * wv v) (List.length v)) (List.length v + 1)))) u_o (List.length v + 1)) (wv v) 0 from by exact (cA_zero _ _).symm)), rfl, rfl, rfl, rfl, rfl, rfl, trivial⟩ ⟨0, L404, rfl, rfl, h403, ((Stp.refl _ _).more (by simp)), ((show putAt u u_o (wsN (tkZ (seg u u_o (List.length v + 1)) (q * wv v) (List.length v)) (List.length v + 1)) = putAt ((putAt u u_o (wsN (tkZ (seg u u_o (List.length v + 1)) (q * wv v) (List.length v)) (List.length v + 1)))) u_o (wsN (seg ((putAt u u_o (wsN (tkZ (seg u u_o (List.length v + 1)) (q * wv v) (List.length v)) (List.length v + 1)))) u_o (List.length v + 1) + wv v) 0) from by exact (putAt_nil _ _).symm) ▸ o405), (by omega)⟩ ?_
  intro m408 l409 w410 H411
  obtain ⟨k_415, lab412, hzm, rfl, hv413, s414, o416, hk⟩ := H411
  replace hzm := hzm.symm; subst hzm
  have hL1 : List.length ((putAt u u_o (wsN (tkZ (seg u u_o (List.length v + 1)) (q * wv v) (List.length v)) (List.length v + 1)))) = List.length u := putAt_length (by rw [wsN_length]; omega)
  have hc := cA_le (seg ((putAt u u_o (wsN (tkZ (seg u u_o (List.length v + 1)) (q * wv v) (List.length v)) (List.length v + 1)))) u_o (List.length v + 1)) (wv v) k_415
  have hg := putAt_get (us := (putAt u u_o (wsN (tkZ (seg u u_o (List.length v + 1)) (q * wv v) (List.length v)) (List.length v + 1)))) (o := u_o) (j := k_415) (xs := wsN (seg ((putAt u u_o (wsN (tkZ (seg u u_o (List.length v + 1)) (q * wv v) (List.length v)) (List.length v + 1)))) u_o (List.length v + 1) + wv v) k_415) (by rw [wsN_length]; omega) (by rw [wsN_length]; omega)
  have hs := fun h => @ab_sum ((putAt u u_o (wsN (tkZ (seg u u_o (List.length v + 1)) (q * wv v) (List.length v)) (List.length v + 1)))) v u_o k_415 _ _ _ h (by rw [hL1]; omega) rfl rfl rfl
  refine rsr ?_
  refine sv (Does.lss rfl rfl) ?_
  refine Seq.next ?_
  refine Run.seq ?_
  rcases Decidable.em ((((k_415 : Nat) : Int) : Int) < (((List.length v : Nat) : Int) : Int)) with hp4 | hp4
  rotate_left
  ·refine Run.cond_b rfl (decide_eq_false hp4) ?_
   refine Run.exit_go (fun _ _ h => h) ?_
   refine Run.region ?_
   refine sv (Does.move rfl) ?_
   refine sv (Does.move rfl) ?_
   refine sv (Does.index_sub (List.length v) Try.underlying58 ty167 rfl rfl (by omega) (by omega)) ?_
   have t428 := UInt32.toNat_lt (List.getD (putAt ((putAt u u_o (wsN (tkZ (seg u u_o (List.length v + 1)) (q * wv v) (List.length v)) (List.length v + 1)))) u_o (wsN (seg ((putAt u u_o (wsN (tkZ (seg u u_o (List.length v + 1)) (q * wv v) (List.length v)) (List.length v + 1)))) u_o (List.length v + 1) + wv v) k_415)) (u_o + (List.length v)) (0 : UInt32))
   refine sv (Does.load_own1 o416 ty167 rfl (row_get u32 _ (0 : UInt32) (by (rw [putAt_length (by rw [wsN_length]; omega)]; omega)))) ?_
   refine sv (Does.move rfl) ?_
   refine sv (Does.n64_u32 Try.underlying62 Try.underlying167 rfl) ?_
   refine sv (Does.u32_add rfl rfl) ?_
   refine sv (Does.index_sub (List.length v) Try.underlying58 ty167 rfl rfl (by omega) (by omega)) ?_
   refine Seq.store_row (k := 1) (j := (u_o + (List.length v))) (v := ((List.getD (putAt ((putAt u u_o (wsN (tkZ (seg u u_o (List.length v + 1)) (q * wv v) (List.length v)) (List.length v + 1)))) u_o (wsN (seg ((putAt u u_o (wsN (tkZ (seg u u_o (List.length v + 1)) (q * wv v) (List.length v)) (List.length v + 1)))) u_o (List.length v + 1) + wv v) k_415)) (u_o + (List.length v)) (0 : UInt32)) + (UInt32.ofNat (cA (seg ((putAt u u_o (wsN (tkZ (seg u u_o (List.length v + 1)) (q * wv v) (List.length v)) (List.length v + 1)))) u_o (List.length v + 1)) (wv v) k_415)))) u32 hv413 o416 ty167 rfl rfl (by (rw [putAt_length (by rw [wsN_length]; omega)]; omega)) rfl rfl fun w429 o430 s431 h432 => ?_
   refine nsr ?_
   refine sv (Does.move rfl) ?_
   refine sv (Does.n64_u32 Try.underlying62 Try.underlying167 rfl) ?_
   refine sv (Does.assign rfl) ?_
   refine Seq.next ?_
   have c433 := s414.trans s431
   have c434 := s402.trans c433
   have c435 := c397.trans c434
   obtain ⟨lab9, s9, B9⟩ := hX [(1, u_d)] c435 (by decide) h432
   obtain ⟨zU, zo⟩ := B9.u
   refine Run.ret ?_
   exact post_one Try.results160 rfl ⟨_, lab9, rfl, ⟨(isU32 (by exact congrArg UInt32.ofNat ((hA (by omega) (by omega)).over (by assumption)).symm) _ _), ((show List.set (putAt ((putAt u u_o (wsN (tkZ (seg u u_o (List.length v + 1)) (q * wv v) (List.length v)) (List.length v + 1)))) u_o (wsN (seg ((putAt u u_o (wsN (tkZ (seg u u_o (List.length v + 1)) (q * wv v) (List.length v)) (List.length v + 1)))) u_o (List.length v + 1) + wv v) k_415)) (u_o + (List.length v)) ((List.getD (putAt ((putAt u u_o (wsN (tkZ (seg u u_o (List.length v + 1)) (q * wv v) (List.length v)) (List.length v + 1)))) u_o (wsN (seg ((putAt u u_o (wsN (tkZ (seg u u_o (List.length v + 1)) (q * wv v) (List.length v)) (List.length v + 1)))) u_o (List.length v + 1) + wv v) k_415)) (u_o + (List.length v)) (0 : UInt32)) + (UInt32.ofNat (cA (seg ((putAt u u_o (wsN (tkZ (seg u u_o (List.length v + 1)) (q * wv v) (List.length v)) (List.length v + 1)))) u_o (List.length v + 1)) (wv v) k_415))) = putAt u u_o (wsN (seg u u_o (List.length v + 1) % wv v) (List.length v + 1)) from by ((obtain rfl := Nat.le_antisymm hk (by omega)); rw [hg, ab_last (by omega) rfl]; exact ab_end (by omega) _ ((hA (by omega) (by omega)).over_mod (by assumption) _))) ▸ (Own.back o430 B9 u_d rfl (by decide) (by simp [keys])))⟩, s9, B9.v⟩
  refine Run.cond_b rfl (decide_eq_true hp4) ?_
  refine Run.skip_go (fun _ _ h => h) ?_
  refine Run.seq ?_
  refine Run.block ?_
  refine rsr ?_
  refine sv (Does.move rfl) ?_
  have c417 := s402.trans s414
  have q418 := up c417 q398
  refine sv (Does.index_row k_415 Try.underlying58 ty167 rfl rfl (WordsV.row q418) (by simp [nw]) (by omega) (by omega)) ?_
  have t419 := UInt32.toNat_lt (List.getD v k_415 (0 : UInt32))
  refine sv (Does.load_row ty167 rfl (WordsV.row q418) (map_get u32 _ (0 : UInt32) (by omega))) ?_
  refine sv (Does.assign rfl) ?_
  refine sv (Does.assign rfl) ?_
  refine nsr ?_
  refine sv (Does.move rfl) ?_
  refine sv (Does.move rfl) ?_
  refine sv (Does.move rfl) ?_
  refine sv (Does.index_sub k_415 Try.underlying58 ty167 rfl rfl (by omega) (by omega)) ?_
  have t420 := UInt32.toNat_lt (List.getD (putAt ((putAt u u_o (wsN (tkZ (seg u u_o (List.length v + 1)) (q * wv v) (List.length v)) (List.length v + 1)))) u_o (wsN (seg ((putAt u u_o (wsN (tkZ (seg u u_o (List.length v + 1)) (q * wv v) (List.length v)) (List.length v + 1)))) u_o (List.length v + 1) + wv v) k_415)) (u_o + k_415) (0 : UInt32))
  refine sv (Does.load_own1 o416 ty167 rfl (row_get u32 _ (0 : UInt32) (by (rw [putAt_length (by rw [wsN_length]; omega)]; omega)))) ?_
  refine sv (Does.u32_n64 Try.underlying167 Try.underlying62 rfl) ?_
  refine sv (Does.move rfl) ?_
  refine sv (Does.u32_n64 Try.underlying167 Try.underlying62 rfl) ?_
  refine sv (Does.n64_add rfl rfl (by omega)) ?_
  refine sv (Does.n64_add rfl rfl (by omega)) ?_
  refine sv (Does.assign rfl) ?_
  refine nsr ?_
  refine sv (Does.move rfl) ?_
  refine sv (Does.move rfl) ?_
  refine sv (Does.move rfl) ?_
  refine sv (Does.n64_u32 Try.underlying62 Try.underlying167 rfl) ?_
  refine sv (Does.index_sub k_415 Try.underlying58 ty167 rfl rfl (by omega) (by omega)) ?_
  refine Seq.store_row (k := 1) (j := (u_o + k_415)) (v := (UInt32.ofNat ((cA (seg ((putAt u u_o (wsN (tkZ (seg u u_o (List.length v + 1)) (q * wv v) (List.length v)) (List.length v + 1)))) u_o (List.length v + 1)) (wv v) k_415) + (((List.getD (putAt ((putAt u u_o (wsN (tkZ (seg u u_o (List.length v + 1)) (q * wv v) (List.length v)) (List.length v + 1)))) u_o (wsN (seg ((putAt u u_o (wsN (tkZ (seg u u_o (List.length v + 1)) (q * wv v) (List.length v)) (List.length v + 1)))) u_o (List.length v + 1) + wv v) k_415)) (u_o + k_415) (0 : UInt32)).toNat) + ((List.getD v k_415 (0 : UInt32)).toNat))))) u32 hv413 o416 ty167 rfl rfl (by (rw [putAt_length (by rw [wsN_length]; omega)]; omega)) rfl rfl fun w421 o422 s423 h424 => ?_
  refine Seq.next ?_
  refine Run.region ?_
  refine sv (Does.move rfl) ?_
  refine sv (Does.n64_shr32 rfl rfl) ?_
  refine sv (Does.assign rfl) ?_
  refine Seq.go (fun _ _ h => h) ?_
  refine Run.region ?_
  refine sv (Does.add rfl rfl (by omega)) ?_
  refine sv (Does.move rfl) ?_
  have c425 := s414.trans s423
  exact Seq.nil (fun a426 h427 => ⟨_, by omega, _, h427.weaken (subs_lk (l' := [(85, i64 (((k_415 + 1) : Nat) : Int)), (9, n64 (cA (seg ((putAt u u_o (wsN (tkZ (seg u u_o (List.length v + 1)) (q * wv v) (List.length v)) (List.length v + 1)))) u_o (List.length v + 1)) (wv v) (k_415 + 1))), (0, .slice (some ⟨u_b, u_o, none⟩) u_n u_c), (4, .int .u32 0), (5, i64 ((List.length v : Nat) : Int)), (7, n64 (q - 1)), (83, .slice A1 (List.length v) c2), (84, i64 ((List.length v : Nat) : Int))]) ⟨(congrArg (fun z => some (i64 z)) (show (((k_415 : Nat) : Int) + 1 : Int) = (((k_415 + 1) : Nat) : Int) from by rfl)), (congrArg (fun z => some (n64 z)) (show (((cA (seg ((putAt u u_o (wsN (tkZ (seg u u_o (List.length v + 1)) (q * wv v) (List.length v)) (List.length v + 1)))) u_o (List.length v + 1)) (wv v) k_415) + (((List.getD (putAt ((putAt u u_o (wsN (tkZ (seg u u_o (List.length v + 1)) (q * wv v) (List.length v)) (List.length v + 1)))) u_o (wsN (seg ((putAt u u_o (wsN (tkZ (seg u u_o (List.length v + 1)) (q * wv v) (List.length v)) (List.length v + 1)))) u_o (List.length v + 1) + wv v) k_415)) (u_o + k_415) (0 : UInt32)).toNat) + ((List.getD v k_415 (0 : UInt32)).toNat))) / 4294967296 : Nat) = cA (seg ((putAt u u_o (wsN (tkZ (seg u u_o (List.length v + 1)) (q * wv v) (List.length v)) (List.length v + 1)))) u_o (List.length v + 1)) (wv v) (k_415 + 1) from by (rw [hg]; exact (hs (by omega)).1))), rfl, rfl, rfl, rfl, rfl, rfl, trivial⟩), ⟨k_415 + 1, lab412, rfl, rfl, h424, (c425.more (by decide)), ((show List.set (putAt ((putAt u u_o (wsN (tkZ (seg u u_o (List.length v + 1)) (q * wv v) (List.length v)) (List.length v + 1)))) u_o (wsN (seg ((putAt u u_o (wsN (tkZ (seg u u_o (List.length v + 1)) (q * wv v) (List.length v)) (List.length v + 1)))) u_o (List.length v + 1) + wv v) k_415)) (u_o + k_415) (UInt32.ofNat ((cA (seg ((putAt u u_o (wsN (tkZ (seg u u_o (List.length v + 1)) (q * wv v) (List.length v)) (List.length v + 1)))) u_o (List.length v + 1)) (wv v) k_415) + (((List.getD (putAt ((putAt u u_o (wsN (tkZ (seg u u_o (List.length v + 1)) (q * wv v) (List.length v)) (List.length v + 1)))) u_o (wsN (seg ((putAt u u_o (wsN (tkZ (seg u u_o (List.length v + 1)) (q * wv v) (List.length v)) (List.length v + 1)))) u_o (List.length v + 1) + wv v) k_415)) (u_o + k_415) (0 : UInt32)).toNat) + ((List.getD v k_415 (0 : UInt32)).toNat)))) = putAt ((putAt u u_o (wsN (tkZ (seg u u_o (List.length v + 1)) (q * wv v) (List.length v)) (List.length v + 1)))) u_o (wsN (seg ((putAt u u_o (wsN (tkZ (seg u u_o (List.length v + 1)) (q * wv v) (List.length v)) (List.length v + 1)))) u_o (List.length v + 1) + wv v) (k_415 + 1)) from by (rw [hg]; exact ab_row (by omega) (by omega) (hs (by omega)).2)) ▸ o422), (by omega)⟩⟩)
 refine Run.cond_b rfl (decide_eq_true hp2) ?_
 refine Run.skip_go (fun _ _ h => h) ?_
 refine Run.block ?_
 refine rsr ?_
 refine sv (Does.move rfl) ?_
 refine sv (Does.n64_sub (b := 1) rfl rfl (by omega) (by omega)) ?_
 refine sv (Does.assign rfl) ?_
 refine nsr ?_
 refine sv (Does.move rfl) ?_
 refine sv (Does.move rfl) ?_
 refine sv (Does.move rfl) ?_
 refine sv (Does.sub rfl rfl (by omega)) ?_
 have c348 := s164.trans s347
 have c349 := s157.trans c348
 have c350 := s67.trans c349
 have q351 := up c350 h1
 refine sv (Does.index_row ((List.length v) - 1) Try.underlying58 ty167 rfl rfl (WordsV.row q351) (by simp [nw]) (by omega) (by omega)) ?_
 have t352 := UInt32.toNat_lt (List.getD v ((List.length v) - 1) (0 : UInt32))
 refine sv (Does.load_row ty167 rfl (WordsV.row q351) (map_get u32 _ (0 : UInt32) (by omega))) ?_
 refine sv (Does.u32_n64 Try.underlying167 Try.underlying62 rfl) ?_
 refine sv (Does.n64_add rfl rfl (by omega)) ?_
 refine sv (Does.assign rfl) ?_
 refine nsr ?_
 refine sv (Does.move rfl) ?_
 refine sv (Does.geq rfl rfl) ?_
 refine Seq.next ?_
 rcases Decidable.em ((4294967296 : Int) ≤ ((r + ((List.getD v ((List.length v) - 1) (0 : UInt32)).toNat) : Nat) : Int)) with hp3 | hp3
 rotate_left
 ·refine Run.cond_b rfl (decide_eq_false hp3) ?_
  exact Run.skip (fun a392 h393 => ⟨_, by omega, _, h393.weaken (subs_lk (l' := [(7, n64 (q - 1)), (8, n64 (r + (List.getD v (List.length v - 1) 0).toNat)), (0, .slice (some ⟨u_b, u_o, none⟩) u_n u_c), (1, .slice A1 (List.length v) c2), (4, .int .u32 0), (5, i64 ((List.length v : Nat) : Int))]) ⟨(congrArg (fun z => some (n64 z)) (show (q - 1 : Nat) = (q - 1) from by rfl)), (congrArg (fun z => some (n64 z)) (show (r + ((List.getD v ((List.length v) - 1) (0 : UInt32)).toNat) : Nat) = (r + (List.getD v (List.length v - 1) 0).toNat) from by rfl)), rfl, rfl, rfl, rfl, trivial⟩), ⟨q - 1, r + (List.getD v (List.length v - 1) 0).toNat, L344, rfl, rfl, h346, (c348.more (by decide)), (by omega), (by omega), (by (rw [Nat.sub_add_cancel (by omega)]; exact hS (by first | exact Or.inl (by omega) | exact Or.inr (by omega)))), (by omega)⟩⟩)
 refine Run.cond_b rfl (decide_eq_true hp3) ?_
 refine Run.exit_go (fun _ _ h => h) ?_
 refine Run.seq ?_
 refine rsr ?_
 refine sv (Does.move rfl) ?_
 refine sv (Does.move rfl) ?_
 refine sv (Does.move rfl) ?_
 have o353 := h0.up c350
 refine scallE cal184 rfl (nat_take h346 (q := q - 1) o353 (by omega) q351  (show  u_n = List.length v + 1 from by omega) (show  (q - 1) ≤ 4294967296 from by omega) (show  List.length v ≤ 1000000 from by omega)) fun v354 L359 w362 r361 s357 h358 => ?_
 obtain ⟨q356, o360⟩ := r361
 have q356 := Is.out q356; subst q356
 refine Seq.next ?_
 rcases Decidable.em (seg u u_o (List.length v + 1) < (q - 1) * wv v) with hp4 | hp4
 rotate_left
 ·refine Run.cond_b rfl (decide_eq_false hp4) ?_
  refine Run.skip_go (fun _ _ h => h) ?_
  refine rsr ?_
  refine sv (Does.move rfl) ?_
  refine sv (Does.n64_u32 Try.underlying62 Try.underlying167 rfl) ?_
  refine sv (Does.assign rfl) ?_
  refine Seq.next ?_
  have c391 := c350.trans s357
  obtain ⟨lab9, s9, B9⟩ := hX [(1, u_d)] c391 (by decide) h358
  obtain ⟨zU, zo⟩ := B9.u
  refine Run.ret ?_
  exact post_one Try.results160 rfl ⟨_, lab9, rfl, ⟨(isU32 (by exact congrArg UInt32.ofNat ((hB (by omega) (by first | exact Or.inl (by omega) | exact Or.inr (by omega)) (by omega)).hit (by assumption)).symm) _ _), ((show putAt u u_o (wsN (tkZ (seg u u_o (List.length v + 1)) ((q - 1) * wv v) (List.length v)) (List.length v + 1)) = putAt u u_o (wsN (seg u u_o (List.length v + 1) % wv v) (List.length v + 1)) from by exact congrArg (putAt u u_o) ((hB (by omega) (by first | exact Or.inl (by omega) | exact Or.inr (by omega)) (by omega)).hit_row (by assumption) _)) ▸ (Own.back o360 B9 u_d rfl (by decide) (by simp [keys])))⟩, s9, B9.v⟩
 refine Run.cond_b rfl (decide_eq_true hp4) ?_
 refine rsr ?_
 refine sv (Does.move rfl) ?_
 refine sv (Does.n64_sub (b := 1) rfl rfl (by exact Gs.pos (hB (by omega) (by first | exact Or.inl (by omega) | exact Or.inr (by omega)) (by omega)) (by assumption)) (by omega)) ?_
 refine sv (Does.assign rfl) ?_
 refine nsr ?_
 refine sv (Does.assign rfl) ?_
 refine Seq.next ?_
 refine Run.seq ?_
 refine rsr ?_
 refine sv (Does.move rfl) ?_
 refine sv (Does.len Try.underlying58 rfl) ?_
 refine sv (Does.move rfl) ?_
 refine Seq.next ?_
 refine Run.block ?_
 refine Run.loop (fun m' l' w' => ∃ (k : Nat) (lab' : Lab), m' = List.length v - k ∧ l' = [(85, i64 ((k : Nat) : Int)), (9, n64 (cA (seg ((putAt u u_o (wsN (tkZ (seg u u_o (List.length v + 1)) ((q - 1) * wv v) (List.length v)) (List.length v + 1)))) u_o (List.length v + 1)) (wv v) k)), (0, .slice (some ⟨u_b, u_o, none⟩) u_n u_c), (4, .int .u32 0), (5, i64 ((List.length v : Nat) : Int)), (7, n64 ((q - 1) - 1)), (83, .slice A1 (List.length v) c2), (84, i64 ((List.length v : Nat) : Int))] ∧ Valid lab' w' ∧ Stp [1] L359 w362 lab' w' ∧ Own lab' w' 1 u_b u_t (List.map u32 (putAt ((putAt u u_o (wsN (tkZ (seg u u_o (List.length v + 1)) ((q - 1) * wv v) (List.length v)) (List.length v + 1)))) u_o (wsN (seg ((putAt u u_o (wsN (tkZ (seg u u_o (List.length v + 1)) ((q - 1) * wv v) (List.length v)) (List.length v + 1)))) u_o (List.length v + 1) + wv v) k))).toArray ∧ (k ≤ List.length v)) (List.length v - 0) (l0 := [(85, i64 ((0 : Nat) : Int)), (9, n64 (cA (seg ((putAt u u_o (wsN (tkZ (seg u u_o (List.length v + 1)) ((q - 1) * wv v) (List.length v)) (List.length v + 1)))) u_o (List.length v + 1)) (wv v) 0)), (0, .slice (some ⟨u_b, u_o, none⟩) u_n u_c), (4, .int .u32 0), (5, i64 ((List.length v : Nat) : Int)), (7, n64 ((q - 1) - 1)), (83, .slice A1 (List.length v) c2), (84, i64 ((List.length v : Nat) : Int))]) ⟨(congrArg (fun z => some (i64 z)) (show (0 : Int) = ((0 : Nat) : Int) from by rfl)), (congrArg (fun z => some (n64 z)) (show (0 : Nat) = cA (seg ((putAt u u_o (wsN (tkZ (seg u u_o (List.length v + 1)) ((q - 1) * wv v) (List.length v)) (List.length v + 1)))) u_o (List.length v + 1)) (wv v) 0 from by exact (cA_zero _ _).symm)), rfl, rfl, rfl, rfl, rfl, rfl, trivial⟩ ⟨0, L359, rfl, rfl, h358, ((Stp.refl _ _).more (by simp)), ((show putAt u u_o (wsN (tkZ (seg u u_o (List.length v + 1)) ((q - 1) * wv v) (List.length v)) (List.length v + 1)) = putAt ((putAt u u_o (wsN (tkZ (seg u u_o (List.length v + 1)) ((q - 1) * wv v) (List.length v)) (List.length v + 1)))) u_o (wsN (seg ((putAt u u_o (wsN (tkZ (seg u u_o (List.length v + 1)) ((q - 1) * wv v) (List.length v)) (List.length v + 1)))) u_o (List.length v + 1) + wv v) 0) from by exact (putAt_nil _ _).symm) ▸ o360), (by omega)⟩ ?_
 intro m363 l364 w365 H366
 obtain ⟨k_370, lab367, hzm, rfl, hv368, s369, o371, hk⟩ := H366
 replace hzm := hzm.symm; subst hzm
 have hL1 : List.length ((putAt u u_o (wsN (tkZ (seg u u_o (List.length v + 1)) ((q - 1) * wv v) (List.length v)) (List.length v + 1)))) = List.length u := putAt_length (by rw [wsN_length]; omega)
 have hc := cA_le (seg ((putAt u u_o (wsN (tkZ (seg u u_o (List.length v + 1)) ((q - 1) * wv v) (List.length v)) (List.length v + 1)))) u_o (List.length v + 1)) (wv v) k_370
 have hg := putAt_get (us := (putAt u u_o (wsN (tkZ (seg u u_o (List.length v + 1)) ((q - 1) * wv v) (List.length v)) (List.length v + 1)))) (o := u_o) (j := k_370) (xs := wsN (seg ((putAt u u_o (wsN (tkZ (seg u u_o (List.length v + 1)) ((q - 1) * wv v) (List.length v)) (List.length v + 1)))) u_o (List.length v + 1) + wv v) k_370) (by rw [wsN_length]; omega) (by rw [wsN_length]; omega)
 have hs := fun h => @ab_sum ((putAt u u_o (wsN (tkZ (seg u u_o (List.length v + 1)) ((q - 1) * wv v) (List.length v)) (List.length v + 1)))) v u_o k_370 _ _ _ h (by rw [hL1]; omega) rfl rfl rfl
 refine rsr ?_
 refine sv (Does.lss rfl rfl) ?_
 refine Seq.next ?_
 refine Run.seq ?_
 rcases Decidable.em ((((k_370 : Nat) : Int) : Int) < (((List.length v : Nat) : Int) : Int)) with hp5 | hp5
 rotate_left
 ·refine Run.cond_b rfl (decide_eq_false hp5) ?_
  refine Run.exit_go (fun _ _ h => h) ?_
  refine Run.region ?_
  refine sv (Does.move rfl) ?_
  refine sv (Does.move rfl) ?_
  refine sv (Does.index_sub (List.length v) Try.underlying58 ty167 rfl rfl (by omega) (by omega)) ?_
  have t383 := UInt32.toNat_lt (List.getD (putAt ((putAt u u_o (wsN (tkZ (seg u u_o (List.length v + 1)) ((q - 1) * wv v) (List.length v)) (List.length v + 1)))) u_o (wsN (seg ((putAt u u_o (wsN (tkZ (seg u u_o (List.length v + 1)) ((q - 1) * wv v) (List.length v)) (List.length v + 1)))) u_o (List.length v + 1) + wv v) k_370)) (u_o + (List.length v)) (0 : UInt32))
  refine sv (Does.load_own1 o371 ty167 rfl (row_get u32 _ (0 : UInt32) (by (rw [putAt_length (by rw [wsN_length]; omega)]; omega)))) ?_
  refine sv (Does.move rfl) ?_
  refine sv (Does.n64_u32 Try.underlying62 Try.underlying167 rfl) ?_
  refine sv (Does.u32_add rfl rfl) ?_
  refine sv (Does.index_sub (List.length v) Try.underlying58 ty167 rfl rfl (by omega) (by omega)) ?_
  refine Seq.store_row (k := 1) (j := (u_o + (List.length v))) (v := ((List.getD (putAt ((putAt u u_o (wsN (tkZ (seg u u_o (List.length v + 1)) ((q - 1) * wv v) (List.length v)) (List.length v + 1)))) u_o (wsN (seg ((putAt u u_o (wsN (tkZ (seg u u_o (List.length v + 1)) ((q - 1) * wv v) (List.length v)) (List.length v + 1)))) u_o (List.length v + 1) + wv v) k_370)) (u_o + (List.length v)) (0 : UInt32)) + (UInt32.ofNat (cA (seg ((putAt u u_o (wsN (tkZ (seg u u_o (List.length v + 1)) ((q - 1) * wv v) (List.length v)) (List.length v + 1)))) u_o (List.length v + 1)) (wv v) k_370)))) u32 hv368 o371 ty167 rfl rfl (by (rw [putAt_length (by rw [wsN_length]; omega)]; omega)) rfl rfl fun w384 o385 s386 h387 => ?_
  refine nsr ?_
  refine sv (Does.move rfl) ?_
  refine sv (Does.n64_u32 Try.underlying62 Try.underlying167 rfl) ?_
  refine sv (Does.assign rfl) ?_
  refine Seq.next ?_
  have c388 := s369.trans s386
  have c389 := s357.trans c388
  have c390 := c350.trans c389
  obtain ⟨lab9, s9, B9⟩ := hX [(1, u_d)] c390 (by decide) h387
  obtain ⟨zU, zo⟩ := B9.u
  refine Run.ret ?_
  exact post_one Try.results160 rfl ⟨_, lab9, rfl, ⟨(isU32 (by exact congrArg UInt32.ofNat ((hB (by omega) (by first | exact Or.inl (by omega) | exact Or.inr (by omega)) (by omega)).over (by assumption)).symm) _ _), ((show List.set (putAt ((putAt u u_o (wsN (tkZ (seg u u_o (List.length v + 1)) ((q - 1) * wv v) (List.length v)) (List.length v + 1)))) u_o (wsN (seg ((putAt u u_o (wsN (tkZ (seg u u_o (List.length v + 1)) ((q - 1) * wv v) (List.length v)) (List.length v + 1)))) u_o (List.length v + 1) + wv v) k_370)) (u_o + (List.length v)) ((List.getD (putAt ((putAt u u_o (wsN (tkZ (seg u u_o (List.length v + 1)) ((q - 1) * wv v) (List.length v)) (List.length v + 1)))) u_o (wsN (seg ((putAt u u_o (wsN (tkZ (seg u u_o (List.length v + 1)) ((q - 1) * wv v) (List.length v)) (List.length v + 1)))) u_o (List.length v + 1) + wv v) k_370)) (u_o + (List.length v)) (0 : UInt32)) + (UInt32.ofNat (cA (seg ((putAt u u_o (wsN (tkZ (seg u u_o (List.length v + 1)) ((q - 1) * wv v) (List.length v)) (List.length v + 1)))) u_o (List.length v + 1)) (wv v) k_370))) = putAt u u_o (wsN (seg u u_o (List.length v + 1) % wv v) (List.length v + 1)) from by ((obtain rfl := Nat.le_antisymm hk (by omega)); rw [hg, ab_last (by omega) rfl]; exact ab_end (by omega) _ ((hB (by omega) (by first | exact Or.inl (by omega) | exact Or.inr (by omega)) (by omega)).over_mod (by assumption) _))) ▸ (Own.back o385 B9 u_d rfl (by decide) (by simp [keys])))⟩, s9, B9.v⟩
 refine Run.cond_b rfl (decide_eq_true hp5) ?_
 refine Run.skip_go (fun _ _ h => h) ?_
 refine Run.seq ?_
 refine Run.block ?_
 refine rsr ?_
 refine sv (Does.move rfl) ?_
 have c372 := s357.trans s369
 have q373 := up c372 q351
 refine sv (Does.index_row k_370 Try.underlying58 ty167 rfl rfl (WordsV.row q373) (by simp [nw]) (by omega) (by omega)) ?_
 have t374 := UInt32.toNat_lt (List.getD v k_370 (0 : UInt32))
 refine sv (Does.load_row ty167 rfl (WordsV.row q373) (map_get u32 _ (0 : UInt32) (by omega))) ?_
 refine sv (Does.assign rfl) ?_
 refine sv (Does.assign rfl) ?_
 refine nsr ?_
 refine sv (Does.move rfl) ?_
 refine sv (Does.move rfl) ?_
 refine sv (Does.move rfl) ?_
 refine sv (Does.index_sub k_370 Try.underlying58 ty167 rfl rfl (by omega) (by omega)) ?_
 have t375 := UInt32.toNat_lt (List.getD (putAt ((putAt u u_o (wsN (tkZ (seg u u_o (List.length v + 1)) ((q - 1) * wv v) (List.length v)) (List.length v + 1)))) u_o (wsN (seg ((putAt u u_o (wsN (tkZ (seg u u_o (List.length v + 1)) ((q - 1) * wv v) (List.length v)) (List.length v + 1)))) u_o (List.length v + 1) + wv v) k_370)) (u_o + k_370) (0 : UInt32))
 refine sv (Does.load_own1 o371 ty167 rfl (row_get u32 _ (0 : UInt32) (by (rw [putAt_length (by rw [wsN_length]; omega)]; omega)))) ?_
 refine sv (Does.u32_n64 Try.underlying167 Try.underlying62 rfl) ?_
 refine sv (Does.move rfl) ?_
 refine sv (Does.u32_n64 Try.underlying167 Try.underlying62 rfl) ?_
 refine sv (Does.n64_add rfl rfl (by omega)) ?_
 refine sv (Does.n64_add rfl rfl (by omega)) ?_
 refine sv (Does.assign rfl) ?_
 refine nsr ?_
 refine sv (Does.move rfl) ?_
 refine sv (Does.move rfl) ?_
 refine sv (Does.move rfl) ?_
 refine sv (Does.n64_u32 Try.underlying62 Try.underlying167 rfl) ?_
 refine sv (Does.index_sub k_370 Try.underlying58 ty167 rfl rfl (by omega) (by omega)) ?_
 refine Seq.store_row (k := 1) (j := (u_o + k_370)) (v := (UInt32.ofNat ((cA (seg ((putAt u u_o (wsN (tkZ (seg u u_o (List.length v + 1)) ((q - 1) * wv v) (List.length v)) (List.length v + 1)))) u_o (List.length v + 1)) (wv v) k_370) + (((List.getD (putAt ((putAt u u_o (wsN (tkZ (seg u u_o (List.length v + 1)) ((q - 1) * wv v) (List.length v)) (List.length v + 1)))) u_o (wsN (seg ((putAt u u_o (wsN (tkZ (seg u u_o (List.length v + 1)) ((q - 1) * wv v) (List.length v)) (List.length v + 1)))) u_o (List.length v + 1) + wv v) k_370)) (u_o + k_370) (0 : UInt32)).toNat) + ((List.getD v k_370 (0 : UInt32)).toNat))))) u32 hv368 o371 ty167 rfl rfl (by (rw [putAt_length (by rw [wsN_length]; omega)]; omega)) rfl rfl fun w376 o377 s378 h379 => ?_
 refine Seq.next ?_
 refine Run.region ?_
 refine sv (Does.move rfl) ?_
 refine sv (Does.n64_shr32 rfl rfl) ?_
 refine sv (Does.assign rfl) ?_
 refine Seq.go (fun _ _ h => h) ?_
 refine Run.region ?_
 refine sv (Does.add rfl rfl (by omega)) ?_
 refine sv (Does.move rfl) ?_
 have c380 := s369.trans s378
 exact Seq.nil (fun a381 h382 => ⟨_, by omega, _, h382.weaken (subs_lk (l' := [(85, i64 (((k_370 + 1) : Nat) : Int)), (9, n64 (cA (seg ((putAt u u_o (wsN (tkZ (seg u u_o (List.length v + 1)) ((q - 1) * wv v) (List.length v)) (List.length v + 1)))) u_o (List.length v + 1)) (wv v) (k_370 + 1))), (0, .slice (some ⟨u_b, u_o, none⟩) u_n u_c), (4, .int .u32 0), (5, i64 ((List.length v : Nat) : Int)), (7, n64 ((q - 1) - 1)), (83, .slice A1 (List.length v) c2), (84, i64 ((List.length v : Nat) : Int))]) ⟨(congrArg (fun z => some (i64 z)) (show (((k_370 : Nat) : Int) + 1 : Int) = (((k_370 + 1) : Nat) : Int) from by rfl)), (congrArg (fun z => some (n64 z)) (show (((cA (seg ((putAt u u_o (wsN (tkZ (seg u u_o (List.length v + 1)) ((q - 1) * wv v) (List.length v)) (List.length v + 1)))) u_o (List.length v + 1)) (wv v) k_370) + (((List.getD (putAt ((putAt u u_o (wsN (tkZ (seg u u_o (List.length v + 1)) ((q - 1) * wv v) (List.length v)) (List.length v + 1)))) u_o (wsN (seg ((putAt u u_o (wsN (tkZ (seg u u_o (List.length v + 1)) ((q - 1) * wv v) (List.length v)) (List.length v + 1)))) u_o (List.length v + 1) + wv v) k_370)) (u_o + k_370) (0 : UInt32)).toNat) + ((List.getD v k_370 (0 : UInt32)).toNat))) / 4294967296 : Nat) = cA (seg ((putAt u u_o (wsN (tkZ (seg u u_o (List.length v + 1)) ((q - 1) * wv v) (List.length v)) (List.length v + 1)))) u_o (List.length v + 1)) (wv v) (k_370 + 1) from by (rw [hg]; exact (hs (by omega)).1))), rfl, rfl, rfl, rfl, rfl, rfl, trivial⟩), ⟨k_370 + 1, lab367, rfl, rfl, h379, (c380.more (by decide)), ((show List.set (putAt ((putAt u u_o (wsN (tkZ (seg u u_o (List.length v + 1)) ((q - 1) * wv v) (List.length v)) (List.length v + 1)))) u_o (wsN (seg ((putAt u u_o (wsN (tkZ (seg u u_o (List.length v + 1)) ((q - 1) * wv v) (List.length v)) (List.length v + 1)))) u_o (List.length v + 1) + wv v) k_370)) (u_o + k_370) (UInt32.ofNat ((cA (seg ((putAt u u_o (wsN (tkZ (seg u u_o (List.length v + 1)) ((q - 1) * wv v) (List.length v)) (List.length v + 1)))) u_o (List.length v + 1)) (wv v) k_370) + (((List.getD (putAt ((putAt u u_o (wsN (tkZ (seg u u_o (List.length v + 1)) ((q - 1) * wv v) (List.length v)) (List.length v + 1)))) u_o (wsN (seg ((putAt u u_o (wsN (tkZ (seg u u_o (List.length v + 1)) ((q - 1) * wv v) (List.length v)) (List.length v + 1)))) u_o (List.length v + 1) + wv v) k_370)) (u_o + k_370) (0 : UInt32)).toNat) + ((List.getD v k_370 (0 : UInt32)).toNat)))) = putAt ((putAt u u_o (wsN (tkZ (seg u u_o (List.length v + 1)) ((q - 1) * wv v) (List.length v)) (List.length v + 1)))) u_o (wsN (seg ((putAt u u_o (wsN (tkZ (seg u u_o (List.length v + 1)) ((q - 1) * wv v) (List.length v)) (List.length v + 1)))) u_o (List.length v + 1) + wv v) (k_370 + 1)) from by (rw [hg]; exact ab_row (by omega) (by omega) (hs (by omega)).2)) ▸ o377), (by omega)⟩⟩)
end Go.Proofs.Ytgfomedobfaidaa
end
