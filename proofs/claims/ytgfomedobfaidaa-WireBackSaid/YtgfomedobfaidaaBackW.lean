/-
  Entries and votes that come back: the laws beside the walk.
-/
import Derived.Test.YtgfomedobfaidaaCuts
set_option linter.unusedVariables false
set_option linter.unusedSimpArgs false
namespace Go.Proofs.Ytgfomedobfaidaa
open Go.RowKit

def sameV (a b : VoteD) : Bool := decide (a.kind = b.kind ∧ a.from_ = b.from_ ∧ a.slot = b.slot ∧ a.view = b.view ∧ a.valid = b.valid ∧ a.value = b.value)
theorem sameV_iff {a b : VoteD} : sameV a b = true ↔ a = b := by
  unfold sameV
  cases a; cases b
  simp
theorem ent_back {d : EntryD} (h : (if d.no then 3 else 0 : Int) = 0) : d.no = false ∧ decOk (if d.no then [] else d.all) = true ∧ decE (if d.no then [] else d.all) = d := by
  have hn := ent_no h
  have e := entry_reads hn []
  rw [List.append_nil] at e
  rw [hn, show (if false = true then ([] : List UInt8) else d.all) = d.all from rfl]
  have ho := decOk_all hn
  exact ⟨rfl, ho, (decE_yes ho).symm.trans e.1⟩
theorem ent_same {d e : EntryD} (hd : (if d.no then 3 else 0 : Int) = 0) (he : (if e.no then 3 else 0 : Int) = 0) (h : (if e.no then [] else e.all) = (if d.no then [] else d.all)) : e = d := by
  have h1 := (ent_back hd).2.2
  have h2 := (ent_back he).2.2
  rw [h] at h2
  exact h2.symm.trans h1
theorem vot_back {d : VoteD} (h : (if d.bad then 3 else 0 : Int) = 0) : d.bad = false ∧ decVOk (if d.bad then [] else d.bytes) = true ∧ decV (if d.bad then [] else d.bytes) = d := by
  have hn := vot_no h
  have e := vote_reads hn []
  rw [List.append_nil] at e
  rw [hn, show (if false = true then ([] : List UInt8) else d.bytes) = d.bytes from rfl]
  have ho := decVOk_all hn
  exact ⟨rfl, ho, (decV_yes ho).symm.trans e.1⟩
theorem vot_same {d e : VoteD} (hd : (if d.bad then 3 else 0 : Int) = 0) (he : (if e.bad then 3 else 0 : Int) = 0) : decide ((if e.bad then [] else e.bytes) = (if d.bad then [] else d.bytes)) = sameV e d := by
  rw [Bool.eq_iff_iff, sameV_iff, decide_eq_true_iff]
  constructor
  · intro h
    have h1 := (vot_back hd).2.2
    have h2 := (vot_back he).2.2
    rw [h] at h2
    exact h2.symm.trans h1
  · intro h; rw [h]
theorem ent_ok0 {d : EntryD} (h : (if d.no then 3 else 0 : Int) = 0) : (if decOk (if d.no then [] else d.all) then 0 else 3 : Int) = 0 := by rw [(ent_back h).2.1]; rfl
theorem ent_no0 {d : EntryD} (h : (if d.no then 3 else 0 : Int) = 0) : (if (decE (if d.no then [] else d.all)).no then 3 else 0 : Int) = 0 := by rw [(ent_back h).2.2]; exact h
theorem ent_all0 {d : EntryD} (h : (if d.no then 3 else 0 : Int) = 0) : (if (decE (if d.no then [] else d.all)).no then [] else (decE (if d.no then [] else d.all)).all) = (if d.no then [] else d.all) := by rw [(ent_back h).2.2]
theorem vot_ok0 {d : VoteD} (h : (if d.bad then 3 else 0 : Int) = 0) : (if decVOk (if d.bad then [] else d.bytes) then 0 else 3 : Int) = 0 := by rw [(vot_back h).2.1]; rfl
theorem vot_sm {d : VoteD} (h : (if d.bad then 3 else 0 : Int) = 0) (h2 : (!sameV (decV (if d.bad then [] else d.bytes)) d) = true) : false = true := by
  rw [(vot_back h).2.2, sameV_iff.2 rfl] at h2; exact h2
theorem vot_df {d e : VoteD} (h : (if d.bad then 3 else 0 : Int) = 0) (he : (if e.bad then 3 else 0 : Int) = 0) (h2 : (!(decide ((if e.bad then [] else e.bytes) = (if d.bad then [] else d.bytes)) == sameV e d)) = true) : false = true := by
  rw [vot_same h he] at h2; simp at h2
section
variable {P : Program} {l : List (Nat × Value)} {w : World} {ty : TypeId}
theorem Does.bool_neq {t yt : TypeId} {x y : Operand} {a b : Bool} (ht : P.underlying t = some .bool) (hx : ev l x = some (.bool a)) (hy : ev l y = some (.bool b)) : Does P l (.binOp .neq t x y yt) ty w (.bool (!(a == b))) w := by
  intro ρ hρ d pos af g
  have hg : (eqGuard .neq t x y (.bool a) (.bool b)).run P w = .ok () w := rfl
  have he : ∀ d : Nat, (Op.equalIn (d + 1) t (.bool a) (.bool b)).run P w = .ok (a == b) w := fun d => by simp [Op.equalIn, run_underlying ht]
  have hb : (binOp .neq t (.bool a) (.bool b)).run P w = .ok (.bool (!(a == b))) w := by
    have e : binOp .neq t (.bool a) (.bool b) = (do pure (.bool (!(← Op.equal t (.bool a) (.bool b))))) := rfl
    rw [e]
    simp [Op.equal, Op.maxDepth, he 9999]
  simp only [execOp, hρ _ _ hx, hρ _ _ hy, Sem.run_bind, hg, Result.andThen_ok, hb]
  rfl
end
end Go.Proofs.Ytgfomedobfaidaa
