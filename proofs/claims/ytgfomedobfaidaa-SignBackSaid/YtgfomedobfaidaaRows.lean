/-
  No cell of these rows narrows 'for every input' (looked for: loops, veiled, ifaces, maps, wideKeys, modest, calm, conditions, laid).
  DERIVED. THE GIVEN ROWS OF THIS SEAT. 16 by the template 'for every input the law returns true; each argument reads behind the call as it read before'; 0 by the template 'total and deterministic' (their statements: YtgfomedobfaidaaTotals.lean).
  GIVEN WITH THE SEED: the statements are not yours to turn. If you find one false, say at which input.
  Laid BY PROGRAM, IN A SANDBOX (cutbox-rows.mjs): the forced cells as the released guide's own fill.sh prints them over the translation 751db37bf123166b… (all of the seat's roots in one cut). By AI agents, Wed Nov 11 2026. No macro, syntax, notation, axiom, sorry.
-/
import Derived.Test.YtgfomedobfaidaaChecked
import GoSem.Claim
import GoSem.ClaimJoined
import GoSem.ClaimMapViews
import Derived.JoinedTies
import Derived.KernelRfl
namespace Go.Proofs.Ytgfomedobfaidaa
/- THE CELL 'sum', in the pinned program and in every row, IS THE sha256 OF THE DUMP (.gsa) THAT YtgfomedobfaidaaProg.lean LOADS. Nothing in Lean hashes anything: it is a label: what it is worth is what the hold of that sum in a sandbox is worth. -/
noncomputable def Try.pinned : Pinned := { name := "ytgfomedobfaidaa", sum := "751db37bf123166b6366845b321e1848aebe30bdb603b47c281f77aeeb0e9c3f", checked := Try.checked }
namespace Rows
def none {H : Type} : Left H := { results := [], args := [] }

/-- 'sacristylaw17.WireVotes': WHATEVER THE INPUT: true; the input reads as it did. -/
def wireVotesSpec : ChangeSpec := { name := "wireVotes", fn := fun _ => fun
  | [d] => { results := [.lit (.bool true)], args := [d] }
  | _ => none }
def wireVotesRow : OpenClaim := { program := "ytgfomedobfaidaa", sum := "751db37bf123166b6366845b321e1848aebe30bdb603b47c281f77aeeb0e9c3f", func := "sacristy/sacristylaw17.WireVotes", spec := "wireVotes", apart := false }
def WireVotesSaid : Prop := wireVotesRow.holds Try.pinned (OpenSpec.ofChange wireVotesSpec)

/-- ITS FALSE NEIGHBOUR: 'it returns false'. Refute it at one input. -/
def wireVotesWrong : ChangeSpec := { name := "wireVotes", fn := fun _ => fun
  | [d] => { results := [.lit (.bool false)], args := [d] }
  | _ => none }
def WireVotesWrongFalsely : Prop := wireVotesRow.holds Try.pinned (OpenSpec.ofChange wireVotesWrong)

/-- 'sacristylaw17.WireEntries': WHATEVER THE INPUT: true; the input reads as it did. -/
def wireEntriesSpec : ChangeSpec := { name := "wireEntries", fn := fun _ => fun
  | [d] => { results := [.lit (.bool true)], args := [d] }
  | _ => none }
def wireEntriesRow : OpenClaim := { program := "ytgfomedobfaidaa", sum := "751db37bf123166b6366845b321e1848aebe30bdb603b47c281f77aeeb0e9c3f", func := "sacristy/sacristylaw17.WireEntries", spec := "wireEntries", apart := false }
def WireEntriesSaid : Prop := wireEntriesRow.holds Try.pinned (OpenSpec.ofChange wireEntriesSpec)

/-- ITS FALSE NEIGHBOUR: 'it returns false'. Refute it at one input. -/
def wireEntriesWrong : ChangeSpec := { name := "wireEntries", fn := fun _ => fun
  | [d] => { results := [.lit (.bool false)], args := [d] }
  | _ => none }
def WireEntriesWrongFalsely : Prop := wireEntriesRow.holds Try.pinned (OpenSpec.ofChange wireEntriesWrong)

/-- 'sacristylaw17.WireCuts': WHATEVER THE INPUT: true; the input reads as it did. -/
def wireCutsSpec : ChangeSpec := { name := "wireCuts", fn := fun _ => fun
  | [d1, d2, d3, d4] => { results := [.lit (.bool true)], args := [d1, d2, d3, d4] }
  | _ => none }
def wireCutsRow : OpenClaim := { program := "ytgfomedobfaidaa", sum := "751db37bf123166b6366845b321e1848aebe30bdb603b47c281f77aeeb0e9c3f", func := "sacristy/sacristylaw17.WireCuts", spec := "wireCuts", apart := false }
def WireCutsSaid : Prop := wireCutsRow.holds Try.pinned (OpenSpec.ofChange wireCutsSpec)

/-- ITS FALSE NEIGHBOUR: 'it returns false'. Refute it at one input. -/
def wireCutsWrong : ChangeSpec := { name := "wireCuts", fn := fun _ => fun
  | [d1, d2, d3, d4] => { results := [.lit (.bool false)], args := [d1, d2, d3, d4] }
  | _ => none }
def WireCutsWrongFalsely : Prop := wireCutsRow.holds Try.pinned (OpenSpec.ofChange wireCutsWrong)

/-- 'sacristylaw17.WireBack': WHATEVER THE INPUT: true; the input reads as it did. -/
def wireBackSpec : ChangeSpec := { name := "wireBack", fn := fun _ => fun
  | [d1, d2, d3, d4] => { results := [.lit (.bool true)], args := [d1, d2, d3, d4] }
  | _ => none }
def wireBackRow : OpenClaim := { program := "ytgfomedobfaidaa", sum := "751db37bf123166b6366845b321e1848aebe30bdb603b47c281f77aeeb0e9c3f", func := "sacristy/sacristylaw17.WireBack", spec := "wireBack", apart := false }
def WireBackSaid : Prop := wireBackRow.holds Try.pinned (OpenSpec.ofChange wireBackSpec)

/-- ITS FALSE NEIGHBOUR: 'it returns false'. Refute it at one input. -/
def wireBackWrong : ChangeSpec := { name := "wireBack", fn := fun _ => fun
  | [d1, d2, d3, d4] => { results := [.lit (.bool false)], args := [d1, d2, d3, d4] }
  | _ => none }
def WireBackWrongFalsely : Prop := wireBackRow.holds Try.pinned (OpenSpec.ofChange wireBackWrong)

/-- 'sacristylaw09.GroupSeeds': WHATEVER THE INPUT: true; the input reads as it did. -/
def groupSeedsSpec : ChangeSpec := { name := "groupSeeds", fn := fun _ => fun
  | [d1, d2] => { results := [.lit (.bool true)], args := [d1, d2] }
  | _ => none }
def groupSeedsRow : OpenClaim := { program := "ytgfomedobfaidaa", sum := "751db37bf123166b6366845b321e1848aebe30bdb603b47c281f77aeeb0e9c3f", func := "sacristy/sacristylaw09.GroupSeeds", spec := "groupSeeds", unfollowed := true, recurses := true, apart := false }
def GroupSeedsSaid : Prop := groupSeedsRow.holds Try.pinned (OpenSpec.ofChange groupSeedsSpec)

/-- ITS FALSE NEIGHBOUR: 'it returns false'. Refute it at one input. -/
def groupSeedsWrong : ChangeSpec := { name := "groupSeeds", fn := fun _ => fun
  | [d1, d2] => { results := [.lit (.bool false)], args := [d1, d2] }
  | _ => none }
def GroupSeedsWrongFalsely : Prop := groupSeedsRow.holds Try.pinned (OpenSpec.ofChange groupSeedsWrong)

/-- 'sacristylaw09.GroupNews': WHATEVER THE INPUT: true; the input reads as it did. -/
def groupNewsSpec : ChangeSpec := { name := "groupNews", fn := fun _ => fun
  | [d1, d2, d3, d4, d5] => { results := [.lit (.bool true)], args := [d1, d2, d3, d4, d5] }
  | _ => none }
def groupNewsRow : OpenClaim := { program := "ytgfomedobfaidaa", sum := "751db37bf123166b6366845b321e1848aebe30bdb603b47c281f77aeeb0e9c3f", func := "sacristy/sacristylaw09.GroupNews", spec := "groupNews", unfollowed := true, recurses := true, apart := false }
def GroupNewsSaid : Prop := groupNewsRow.holds Try.pinned (OpenSpec.ofChange groupNewsSpec)

/-- ITS FALSE NEIGHBOUR: 'it returns false'. Refute it at one input. -/
def groupNewsWrong : ChangeSpec := { name := "groupNews", fn := fun _ => fun
  | [d1, d2, d3, d4, d5] => { results := [.lit (.bool false)], args := [d1, d2, d3, d4, d5] }
  | _ => none }
def GroupNewsWrongFalsely : Prop := groupNewsRow.holds Try.pinned (OpenSpec.ofChange groupNewsWrong)

/-- 'sacristylaw09.GroupMultis': WHATEVER THE INPUT: true; the input reads as it did. -/
def groupMultisSpec : ChangeSpec := { name := "groupMultis", fn := fun _ => fun
  | [d1, d2, d3] => { results := [.lit (.bool true)], args := [d1, d2, d3] }
  | _ => none }
def groupMultisRow : OpenClaim := { program := "ytgfomedobfaidaa", sum := "751db37bf123166b6366845b321e1848aebe30bdb603b47c281f77aeeb0e9c3f", func := "sacristy/sacristylaw09.GroupMultis", spec := "groupMultis", unfollowed := true, recurses := true, apart := false }
def GroupMultisSaid : Prop := groupMultisRow.holds Try.pinned (OpenSpec.ofChange groupMultisSpec)

/-- ITS FALSE NEIGHBOUR: 'it returns false'. Refute it at one input. -/
def groupMultisWrong : ChangeSpec := { name := "groupMultis", fn := fun _ => fun
  | [d1, d2, d3] => { results := [.lit (.bool false)], args := [d1, d2, d3] }
  | _ => none }
def GroupMultisWrongFalsely : Prop := groupMultisRow.holds Try.pinned (OpenSpec.ofChange groupMultisWrong)

/-- 'sacristylaw09.GroupSums': WHATEVER THE INPUT: true; the input reads as it did. -/
def groupSumsSpec : ChangeSpec := { name := "groupSums", fn := fun _ => fun
  | [d1, d2, d3, d4] => { results := [.lit (.bool true)], args := [d1, d2, d3, d4] }
  | _ => none }
def groupSumsRow : OpenClaim := { program := "ytgfomedobfaidaa", sum := "751db37bf123166b6366845b321e1848aebe30bdb603b47c281f77aeeb0e9c3f", func := "sacristy/sacristylaw09.GroupSums", spec := "groupSums", unfollowed := true, recurses := true, apart := false }
def GroupSumsSaid : Prop := groupSumsRow.holds Try.pinned (OpenSpec.ofChange groupSumsSpec)

/-- ITS FALSE NEIGHBOUR: 'it returns false'. Refute it at one input. -/
def groupSumsWrong : ChangeSpec := { name := "groupSums", fn := fun _ => fun
  | [d1, d2, d3, d4] => { results := [.lit (.bool false)], args := [d1, d2, d3, d4] }
  | _ => none }
def GroupSumsWrongFalsely : Prop := groupSumsRow.holds Try.pinned (OpenSpec.ofChange groupSumsWrong)

/-- 'sacristylaw09.GroupMembers': WHATEVER THE INPUT: true; the input reads as it did. -/
def groupMembersSpec : ChangeSpec := { name := "groupMembers", fn := fun _ => fun
  | [d1, d2, d3, d4] => { results := [.lit (.bool true)], args := [d1, d2, d3, d4] }
  | _ => none }
def groupMembersRow : OpenClaim := { program := "ytgfomedobfaidaa", sum := "751db37bf123166b6366845b321e1848aebe30bdb603b47c281f77aeeb0e9c3f", func := "sacristy/sacristylaw09.GroupMembers", spec := "groupMembers", unfollowed := true, recurses := true, apart := false }
def GroupMembersSaid : Prop := groupMembersRow.holds Try.pinned (OpenSpec.ofChange groupMembersSpec)

/-- ITS FALSE NEIGHBOUR: 'it returns false'. Refute it at one input. -/
def groupMembersWrong : ChangeSpec := { name := "groupMembers", fn := fun _ => fun
  | [d1, d2, d3, d4] => { results := [.lit (.bool false)], args := [d1, d2, d3, d4] }
  | _ => none }
def GroupMembersWrongFalsely : Prop := groupMembersRow.holds Try.pinned (OpenSpec.ofChange groupMembersWrong)

/-- 'sacristylaw09.GroupAsks': WHATEVER THE INPUT: true; the input reads as it did. -/
def groupAsksSpec : ChangeSpec := { name := "groupAsks", fn := fun _ => fun
  | [d1, d2] => { results := [.lit (.bool true)], args := [d1, d2] }
  | _ => none }
def groupAsksRow : OpenClaim := { program := "ytgfomedobfaidaa", sum := "751db37bf123166b6366845b321e1848aebe30bdb603b47c281f77aeeb0e9c3f", func := "sacristy/sacristylaw09.GroupAsks", spec := "groupAsks", unfollowed := true, recurses := true, apart := false }
def GroupAsksSaid : Prop := groupAsksRow.holds Try.pinned (OpenSpec.ofChange groupAsksSpec)

/-- ITS FALSE NEIGHBOUR: 'it returns false'. Refute it at one input. -/
def groupAsksWrong : ChangeSpec := { name := "groupAsks", fn := fun _ => fun
  | [d1, d2] => { results := [.lit (.bool false)], args := [d1, d2] }
  | _ => none }
def GroupAsksWrongFalsely : Prop := groupAsksRow.holds Try.pinned (OpenSpec.ofChange groupAsksWrong)

/-- 'sacristylaw11.SignBack': WHATEVER THE INPUT: true; the input reads as it did. -/
def signBackSpec : ChangeSpec := { name := "signBack", fn := fun _ => fun
  | [d1, d2, d3, d4] => { results := [.lit (.bool true)], args := [d1, d2, d3, d4] }
  | _ => none }
def signBackRow : OpenClaim := { program := "ytgfomedobfaidaa", sum := "751db37bf123166b6366845b321e1848aebe30bdb603b47c281f77aeeb0e9c3f", func := "sacristy/sacristylaw11.SignBack", spec := "signBack", unfollowed := true, recurses := true, apart := false }
def SignBackSaid : Prop := signBackRow.holds Try.pinned (OpenSpec.ofChange signBackSpec)

/-- ITS FALSE NEIGHBOUR: 'it returns false'. Refute it at one input. -/
def signBackWrong : ChangeSpec := { name := "signBack", fn := fun _ => fun
  | [d1, d2, d3, d4] => { results := [.lit (.bool false)], args := [d1, d2, d3, d4] }
  | _ => none }
def SignBackWrongFalsely : Prop := signBackRow.holds Try.pinned (OpenSpec.ofChange signBackWrong)

/-- 'sacristylaw11.SignKeys': WHATEVER THE INPUT: true; the input reads as it did. -/
def signKeysSpec : ChangeSpec := { name := "signKeys", fn := fun _ => fun
  | [d1, d2, d3] => { results := [.lit (.bool true)], args := [d1, d2, d3] }
  | _ => none }
def signKeysRow : OpenClaim := { program := "ytgfomedobfaidaa", sum := "751db37bf123166b6366845b321e1848aebe30bdb603b47c281f77aeeb0e9c3f", func := "sacristy/sacristylaw11.SignKeys", spec := "signKeys", unfollowed := true, recurses := true, apart := false }
def SignKeysSaid : Prop := signKeysRow.holds Try.pinned (OpenSpec.ofChange signKeysSpec)

/-- ITS FALSE NEIGHBOUR: 'it returns false'. Refute it at one input. -/
def signKeysWrong : ChangeSpec := { name := "signKeys", fn := fun _ => fun
  | [d1, d2, d3] => { results := [.lit (.bool false)], args := [d1, d2, d3] }
  | _ => none }
def SignKeysWrongFalsely : Prop := signKeysRow.holds Try.pinned (OpenSpec.ofChange signKeysWrong)

/-- 'sacristylaw11.SignExact': WHATEVER THE INPUT: true; the input reads as it did. -/
def signExactSpec : ChangeSpec := { name := "signExact", fn := fun _ => fun
  | [d1, d2, d3, d4, d5] => { results := [.lit (.bool true)], args := [d1, d2, d3, d4, d5] }
  | _ => none }
def signExactRow : OpenClaim := { program := "ytgfomedobfaidaa", sum := "751db37bf123166b6366845b321e1848aebe30bdb603b47c281f77aeeb0e9c3f", func := "sacristy/sacristylaw11.SignExact", spec := "signExact", unfollowed := true, recurses := true, apart := false }
def SignExactSaid : Prop := signExactRow.holds Try.pinned (OpenSpec.ofChange signExactSpec)

/-- ITS FALSE NEIGHBOUR: 'it returns false'. Refute it at one input. -/
def signExactWrong : ChangeSpec := { name := "signExact", fn := fun _ => fun
  | [d1, d2, d3, d4, d5] => { results := [.lit (.bool false)], args := [d1, d2, d3, d4, d5] }
  | _ => none }
def SignExactWrongFalsely : Prop := signExactRow.holds Try.pinned (OpenSpec.ofChange signExactWrong)

/-- 'sacristylaw12.DleqBack': WHATEVER THE INPUT: true; the input reads as it did. -/
def dleqBackSpec : ChangeSpec := { name := "dleqBack", fn := fun _ => fun
  | [d1, d2, d3, d4, d5, d6] => { results := [.lit (.bool true)], args := [d1, d2, d3, d4, d5, d6] }
  | _ => none }
def dleqBackRow : OpenClaim := { program := "ytgfomedobfaidaa", sum := "751db37bf123166b6366845b321e1848aebe30bdb603b47c281f77aeeb0e9c3f", func := "sacristy/sacristylaw12.DleqBack", spec := "dleqBack", unfollowed := true, recurses := true, apart := false }
def DleqBackSaid : Prop := dleqBackRow.holds Try.pinned (OpenSpec.ofChange dleqBackSpec)

/-- ITS FALSE NEIGHBOUR: 'it returns false'. Refute it at one input. -/
def dleqBackWrong : ChangeSpec := { name := "dleqBack", fn := fun _ => fun
  | [d1, d2, d3, d4, d5, d6] => { results := [.lit (.bool false)], args := [d1, d2, d3, d4, d5, d6] }
  | _ => none }
def DleqBackWrongFalsely : Prop := dleqBackRow.holds Try.pinned (OpenSpec.ofChange dleqBackWrong)

/-- 'sacristylaw12.DleqSound': WHATEVER THE INPUT: true; the input reads as it did. -/
def dleqSoundSpec : ChangeSpec := { name := "dleqSound", fn := fun _ => fun
  | [d1, d2, d3, d4, d5, d6, d7, d8] => { results := [.lit (.bool true)], args := [d1, d2, d3, d4, d5, d6, d7, d8] }
  | _ => none }
def dleqSoundRow : OpenClaim := { program := "ytgfomedobfaidaa", sum := "751db37bf123166b6366845b321e1848aebe30bdb603b47c281f77aeeb0e9c3f", func := "sacristy/sacristylaw12.DleqSound", spec := "dleqSound", unfollowed := true, recurses := true, apart := false }
def DleqSoundSaid : Prop := dleqSoundRow.holds Try.pinned (OpenSpec.ofChange dleqSoundSpec)

/-- ITS FALSE NEIGHBOUR: 'it returns false'. Refute it at one input. -/
def dleqSoundWrong : ChangeSpec := { name := "dleqSound", fn := fun _ => fun
  | [d1, d2, d3, d4, d5, d6, d7, d8] => { results := [.lit (.bool false)], args := [d1, d2, d3, d4, d5, d6, d7, d8] }
  | _ => none }
def DleqSoundWrongFalsely : Prop := dleqSoundRow.holds Try.pinned (OpenSpec.ofChange dleqSoundWrong)

/-- 'sacristylaw21.LetterBack': WHATEVER THE INPUT: true; the input reads as it did. -/
def letterBackSpec : ChangeSpec := { name := "letterBack", fn := fun _ => fun
  | [d1, d2, d3, d4, d5, d6, d7] => { results := [.lit (.bool true)], args := [d1, d2, d3, d4, d5, d6, d7] }
  | _ => none }
def letterBackRow : OpenClaim := { program := "ytgfomedobfaidaa", sum := "751db37bf123166b6366845b321e1848aebe30bdb603b47c281f77aeeb0e9c3f", func := "sacristy/sacristylaw21.LetterBack", spec := "letterBack", unfollowed := true, recurses := true, apart := false }
def LetterBackSaid : Prop := letterBackRow.holds Try.pinned (OpenSpec.ofChange letterBackSpec)

/-- ITS FALSE NEIGHBOUR: 'it returns false'. Refute it at one input. -/
def letterBackWrong : ChangeSpec := { name := "letterBack", fn := fun _ => fun
  | [d1, d2, d3, d4, d5, d6, d7] => { results := [.lit (.bool false)], args := [d1, d2, d3, d4, d5, d6, d7] }
  | _ => none }
def LetterBackWrongFalsely : Prop := letterBackRow.holds Try.pinned (OpenSpec.ofChange letterBackWrong)

/- THE SECOND FORM. 'bulk': how many values and letters a reading holds, each counted each time it is reached (what is shared counts as often as it is met; a slice's spare places count too). A statement '..UptoSaid' is the law's where the arguments, and the package variables that the reading takes, are together of bulk at most 1048576: NARROWER than '..Said'. Prove '..Said' where nothing that the law and all that it calls make is longer than what came in: it says more and counts as full. Else prove '..UptoSaid'. A law counts once. -/
mutual
def uptoBulk {H : Type} : DataW H → Nat
  | .lit (.string bytes) => bytes.length + 1
  | .lit _ => 1
  | .nil => 1
  | .ptr d => uptoBulk d + 1
  | .slice elems spare => uptoBulkAll elems + uptoBulkAll spare + 1
  | .agg parts => uptoBulkAll parts + 1
  | .iface _ d => uptoBulk d + 1
  | .map entries => uptoBulkEntries entries + 1
  | .held _ => 1
def uptoBulkAll {H : Type} : List (DataW H) → Nat
  | [] => 0
  | d :: r => uptoBulk d + uptoBulkAll r
def uptoBulkEntries {H : Type} : List (Lit × DataW H) → Nat
  | [] => 0
  | x :: r => uptoBulkEntry x + uptoBulkEntries r
def uptoBulkEntry {H : Type} : Lit × DataW H → Nat
  | (.string bytes, d) => bytes.length + uptoBulk d + 1
  | (_, d) => uptoBulk d + 1
 end
def uptoSmall : (H : Type) → List (DataW H) → Bool := fun _ ds => decide (uptoBulkAll ds ≤ 1048576)
def OpenSpec.upto (s : _root_.Go.ChangeSpec) : _root_.Go.OpenSpec := { _root_.Go.OpenSpec.ofChange s with cond := some uptoSmall }

/-- 'sacristylaw17.WireVotes', WHERE WHAT IT READS IS OF BULK AT MOST 1048576: true; the input reads as it did. -/
def wireVotesUptoRow : OpenClaim := { program := "ytgfomedobfaidaa", sum := "751db37bf123166b6366845b321e1848aebe30bdb603b47c281f77aeeb0e9c3f", func := "sacristy/sacristylaw17.WireVotes", spec := "wireVotes", apart := false, narrowed := true }
def WireVotesUptoSaid : Prop := wireVotesUptoRow.holds Try.pinned (OpenSpec.upto wireVotesSpec)

/-- 'sacristylaw17.WireEntries', WHERE WHAT IT READS IS OF BULK AT MOST 1048576: true; the input reads as it did. -/
def wireEntriesUptoRow : OpenClaim := { program := "ytgfomedobfaidaa", sum := "751db37bf123166b6366845b321e1848aebe30bdb603b47c281f77aeeb0e9c3f", func := "sacristy/sacristylaw17.WireEntries", spec := "wireEntries", apart := false, narrowed := true }
def WireEntriesUptoSaid : Prop := wireEntriesUptoRow.holds Try.pinned (OpenSpec.upto wireEntriesSpec)

/-- 'sacristylaw17.WireCuts', WHERE WHAT IT READS IS OF BULK AT MOST 1048576: true; the input reads as it did. -/
def wireCutsUptoRow : OpenClaim := { program := "ytgfomedobfaidaa", sum := "751db37bf123166b6366845b321e1848aebe30bdb603b47c281f77aeeb0e9c3f", func := "sacristy/sacristylaw17.WireCuts", spec := "wireCuts", apart := false, narrowed := true }
def WireCutsUptoSaid : Prop := wireCutsUptoRow.holds Try.pinned (OpenSpec.upto wireCutsSpec)

/-- 'sacristylaw17.WireBack', WHERE WHAT IT READS IS OF BULK AT MOST 1048576: true; the input reads as it did. -/
def wireBackUptoRow : OpenClaim := { program := "ytgfomedobfaidaa", sum := "751db37bf123166b6366845b321e1848aebe30bdb603b47c281f77aeeb0e9c3f", func := "sacristy/sacristylaw17.WireBack", spec := "wireBack", apart := false, narrowed := true }
def WireBackUptoSaid : Prop := wireBackUptoRow.holds Try.pinned (OpenSpec.upto wireBackSpec)

/-- 'sacristylaw09.GroupSeeds', WHERE WHAT IT READS IS OF BULK AT MOST 1048576: true; the input reads as it did. -/
def groupSeedsUptoRow : OpenClaim := { program := "ytgfomedobfaidaa", sum := "751db37bf123166b6366845b321e1848aebe30bdb603b47c281f77aeeb0e9c3f", func := "sacristy/sacristylaw09.GroupSeeds", spec := "groupSeeds", unfollowed := true, recurses := true, apart := false, narrowed := true }
def GroupSeedsUptoSaid : Prop := groupSeedsUptoRow.holds Try.pinned (OpenSpec.upto groupSeedsSpec)

/-- 'sacristylaw09.GroupNews', WHERE WHAT IT READS IS OF BULK AT MOST 1048576: true; the input reads as it did. -/
def groupNewsUptoRow : OpenClaim := { program := "ytgfomedobfaidaa", sum := "751db37bf123166b6366845b321e1848aebe30bdb603b47c281f77aeeb0e9c3f", func := "sacristy/sacristylaw09.GroupNews", spec := "groupNews", unfollowed := true, recurses := true, apart := false, narrowed := true }
def GroupNewsUptoSaid : Prop := groupNewsUptoRow.holds Try.pinned (OpenSpec.upto groupNewsSpec)

/-- 'sacristylaw09.GroupMultis', WHERE WHAT IT READS IS OF BULK AT MOST 1048576: true; the input reads as it did. -/
def groupMultisUptoRow : OpenClaim := { program := "ytgfomedobfaidaa", sum := "751db37bf123166b6366845b321e1848aebe30bdb603b47c281f77aeeb0e9c3f", func := "sacristy/sacristylaw09.GroupMultis", spec := "groupMultis", unfollowed := true, recurses := true, apart := false, narrowed := true }
def GroupMultisUptoSaid : Prop := groupMultisUptoRow.holds Try.pinned (OpenSpec.upto groupMultisSpec)

/-- 'sacristylaw09.GroupSums', WHERE WHAT IT READS IS OF BULK AT MOST 1048576: true; the input reads as it did. -/
def groupSumsUptoRow : OpenClaim := { program := "ytgfomedobfaidaa", sum := "751db37bf123166b6366845b321e1848aebe30bdb603b47c281f77aeeb0e9c3f", func := "sacristy/sacristylaw09.GroupSums", spec := "groupSums", unfollowed := true, recurses := true, apart := false, narrowed := true }
def GroupSumsUptoSaid : Prop := groupSumsUptoRow.holds Try.pinned (OpenSpec.upto groupSumsSpec)

/-- 'sacristylaw09.GroupMembers', WHERE WHAT IT READS IS OF BULK AT MOST 1048576: true; the input reads as it did. -/
def groupMembersUptoRow : OpenClaim := { program := "ytgfomedobfaidaa", sum := "751db37bf123166b6366845b321e1848aebe30bdb603b47c281f77aeeb0e9c3f", func := "sacristy/sacristylaw09.GroupMembers", spec := "groupMembers", unfollowed := true, recurses := true, apart := false, narrowed := true }
def GroupMembersUptoSaid : Prop := groupMembersUptoRow.holds Try.pinned (OpenSpec.upto groupMembersSpec)

/-- 'sacristylaw09.GroupAsks', WHERE WHAT IT READS IS OF BULK AT MOST 1048576: true; the input reads as it did. -/
def groupAsksUptoRow : OpenClaim := { program := "ytgfomedobfaidaa", sum := "751db37bf123166b6366845b321e1848aebe30bdb603b47c281f77aeeb0e9c3f", func := "sacristy/sacristylaw09.GroupAsks", spec := "groupAsks", unfollowed := true, recurses := true, apart := false, narrowed := true }
def GroupAsksUptoSaid : Prop := groupAsksUptoRow.holds Try.pinned (OpenSpec.upto groupAsksSpec)

/-- 'sacristylaw11.SignBack', WHERE WHAT IT READS IS OF BULK AT MOST 1048576: true; the input reads as it did. -/
def signBackUptoRow : OpenClaim := { program := "ytgfomedobfaidaa", sum := "751db37bf123166b6366845b321e1848aebe30bdb603b47c281f77aeeb0e9c3f", func := "sacristy/sacristylaw11.SignBack", spec := "signBack", unfollowed := true, recurses := true, apart := false, narrowed := true }
def SignBackUptoSaid : Prop := signBackUptoRow.holds Try.pinned (OpenSpec.upto signBackSpec)

/-- 'sacristylaw11.SignKeys', WHERE WHAT IT READS IS OF BULK AT MOST 1048576: true; the input reads as it did. -/
def signKeysUptoRow : OpenClaim := { program := "ytgfomedobfaidaa", sum := "751db37bf123166b6366845b321e1848aebe30bdb603b47c281f77aeeb0e9c3f", func := "sacristy/sacristylaw11.SignKeys", spec := "signKeys", unfollowed := true, recurses := true, apart := false, narrowed := true }
def SignKeysUptoSaid : Prop := signKeysUptoRow.holds Try.pinned (OpenSpec.upto signKeysSpec)

/-- 'sacristylaw11.SignExact', WHERE WHAT IT READS IS OF BULK AT MOST 1048576: true; the input reads as it did. -/
def signExactUptoRow : OpenClaim := { program := "ytgfomedobfaidaa", sum := "751db37bf123166b6366845b321e1848aebe30bdb603b47c281f77aeeb0e9c3f", func := "sacristy/sacristylaw11.SignExact", spec := "signExact", unfollowed := true, recurses := true, apart := false, narrowed := true }
def SignExactUptoSaid : Prop := signExactUptoRow.holds Try.pinned (OpenSpec.upto signExactSpec)

/-- 'sacristylaw12.DleqBack', WHERE WHAT IT READS IS OF BULK AT MOST 1048576: true; the input reads as it did. -/
def dleqBackUptoRow : OpenClaim := { program := "ytgfomedobfaidaa", sum := "751db37bf123166b6366845b321e1848aebe30bdb603b47c281f77aeeb0e9c3f", func := "sacristy/sacristylaw12.DleqBack", spec := "dleqBack", unfollowed := true, recurses := true, apart := false, narrowed := true }
def DleqBackUptoSaid : Prop := dleqBackUptoRow.holds Try.pinned (OpenSpec.upto dleqBackSpec)

/-- 'sacristylaw12.DleqSound', WHERE WHAT IT READS IS OF BULK AT MOST 1048576: true; the input reads as it did. -/
def dleqSoundUptoRow : OpenClaim := { program := "ytgfomedobfaidaa", sum := "751db37bf123166b6366845b321e1848aebe30bdb603b47c281f77aeeb0e9c3f", func := "sacristy/sacristylaw12.DleqSound", spec := "dleqSound", unfollowed := true, recurses := true, apart := false, narrowed := true }
def DleqSoundUptoSaid : Prop := dleqSoundUptoRow.holds Try.pinned (OpenSpec.upto dleqSoundSpec)

/-- 'sacristylaw21.LetterBack', WHERE WHAT IT READS IS OF BULK AT MOST 1048576: true; the input reads as it did. -/
def letterBackUptoRow : OpenClaim := { program := "ytgfomedobfaidaa", sum := "751db37bf123166b6366845b321e1848aebe30bdb603b47c281f77aeeb0e9c3f", func := "sacristy/sacristylaw21.LetterBack", spec := "letterBack", unfollowed := true, recurses := true, apart := false, narrowed := true }
def LetterBackUptoSaid : Prop := letterBackUptoRow.holds Try.pinned (OpenSpec.upto letterBackSpec)

end Rows
end Go.Proofs.Ytgfomedobfaidaa
