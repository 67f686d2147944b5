/-
  No cell of these rows narrows 'for every input' (looked for: loops, veiled, ifaces, maps, wideKeys, modest, calm, conditions, laid).
  DERIVED. THE GIVEN ROWS OF THIS SEAT. 17 by the template 'for every input the law returns true; each argument reads behind the call as it read before'; 0 by the template 'total and deterministic' (their statements: YtbohgpdpglfepaaTotals.lean).
  GIVEN WITH THE SEED: the statements are not yours to turn. If you find one false, say at which input.
  Laid BY PROGRAM, IN A SANDBOX (cutbox-rows.mjs): the forced cells as the released guide's own fill.sh prints them over the translation a4f5bfb1015fddef… (all of the seat's roots in one cut). By AI agents, Wed Nov 11 2026. No macro, syntax, notation, axiom, sorry.
-/
import Derived.Test.YtbohgpdpglfepaaChecked
import GoSem.Claim
import GoSem.ClaimJoined
import GoSem.ClaimMapViews
import Derived.JoinedTies
import Derived.KernelRfl
namespace Go.Proofs.Ytbohgpdpglfepaa
/- THE CELL 'sum', in the pinned program and in every row, IS THE sha256 OF THE DUMP (.gsa) THAT YtbohgpdpglfepaaProg.lean LOADS. Nothing in Lean hashes anything: it is a label: what it is worth is what the hold of that sum in a sandbox is worth. -/
noncomputable def Try.pinned : Pinned := { name := "ytbohgpdpglfepaa", sum := "a4f5bfb1015fddef4c09ba43ff3f90ae4c5ccedf9e2478626ea1d03959551cde", checked := Try.checked }
namespace Rows
def none {H : Type} : Left H := { results := [], args := [] }

/-- 'althinglaw09.VecBallots': WHATEVER THE INPUT: true; the input reads as it did. -/
def vecBallotsSpec : ChangeSpec := { name := "vecBallots", fn := fun _ => fun
  | [d1, d2, d3] => { results := [.lit (.bool true)], args := [d1, d2, d3] }
  | _ => none }
def vecBallotsRow : OpenClaim := { program := "ytbohgpdpglfepaa", sum := "a4f5bfb1015fddef4c09ba43ff3f90ae4c5ccedf9e2478626ea1d03959551cde", func := "althing/althinglaw09.VecBallots", spec := "vecBallots", apart := false }
def VecBallotsSaid : Prop := vecBallotsRow.holds Try.pinned (OpenSpec.ofChange vecBallotsSpec)

/-- ITS FALSE NEIGHBOUR: 'it returns false'. Refute it at one input. -/
def vecBallotsWrong : ChangeSpec := { name := "vecBallots", fn := fun _ => fun
  | [d1, d2, d3] => { results := [.lit (.bool false)], args := [d1, d2, d3] }
  | _ => none }
def VecBallotsWrongFalsely : Prop := vecBallotsRow.holds Try.pinned (OpenSpec.ofChange vecBallotsWrong)

/-- 'althinglaw09.VecNext': WHATEVER THE INPUT: true; the input reads as it did. -/
def vecNextSpec : ChangeSpec := { name := "vecNext", fn := fun _ => fun
  | [d1, d2, d3] => { results := [.lit (.bool true)], args := [d1, d2, d3] }
  | _ => none }
def vecNextRow : OpenClaim := { program := "ytbohgpdpglfepaa", sum := "a4f5bfb1015fddef4c09ba43ff3f90ae4c5ccedf9e2478626ea1d03959551cde", func := "althing/althinglaw09.VecNext", spec := "vecNext", apart := false }
def VecNextSaid : Prop := vecNextRow.holds Try.pinned (OpenSpec.ofChange vecNextSpec)

/-- ITS FALSE NEIGHBOUR: 'it returns false'. Refute it at one input. -/
def vecNextWrong : ChangeSpec := { name := "vecNext", fn := fun _ => fun
  | [d1, d2, d3] => { results := [.lit (.bool false)], args := [d1, d2, d3] }
  | _ => none }
def VecNextWrongFalsely : Prop := vecNextRow.holds Try.pinned (OpenSpec.ofChange vecNextWrong)

/-- 'althinglaw09.VecLattice': WHATEVER THE INPUT: true; the input reads as it did. -/
def vecLatticeSpec : ChangeSpec := { name := "vecLattice", fn := fun _ => fun
  | [d1, d2, d3] => { results := [.lit (.bool true)], args := [d1, d2, d3] }
  | _ => none }
def vecLatticeRow : OpenClaim := { program := "ytbohgpdpglfepaa", sum := "a4f5bfb1015fddef4c09ba43ff3f90ae4c5ccedf9e2478626ea1d03959551cde", func := "althing/althinglaw09.VecLattice", spec := "vecLattice", apart := false }
def VecLatticeSaid : Prop := vecLatticeRow.holds Try.pinned (OpenSpec.ofChange vecLatticeSpec)

/-- ITS FALSE NEIGHBOUR: 'it returns false'. Refute it at one input. -/
def vecLatticeWrong : ChangeSpec := { name := "vecLattice", fn := fun _ => fun
  | [d1, d2, d3] => { results := [.lit (.bool false)], args := [d1, d2, d3] }
  | _ => none }
def VecLatticeWrongFalsely : Prop := vecLatticeRow.holds Try.pinned (OpenSpec.ofChange vecLatticeWrong)

/-- 'althinglaw09.VecJoins': WHATEVER THE INPUT: true; the input reads as it did. -/
def vecJoinsSpec : ChangeSpec := { name := "vecJoins", fn := fun _ => fun
  | [d1, d2] => { results := [.lit (.bool true)], args := [d1, d2] }
  | _ => none }
def vecJoinsRow : OpenClaim := { program := "ytbohgpdpglfepaa", sum := "a4f5bfb1015fddef4c09ba43ff3f90ae4c5ccedf9e2478626ea1d03959551cde", func := "althing/althinglaw09.VecJoins", spec := "vecJoins", apart := false }
def VecJoinsSaid : Prop := vecJoinsRow.holds Try.pinned (OpenSpec.ofChange vecJoinsSpec)

/-- ITS FALSE NEIGHBOUR: 'it returns false'. Refute it at one input. -/
def vecJoinsWrong : ChangeSpec := { name := "vecJoins", fn := fun _ => fun
  | [d1, d2] => { results := [.lit (.bool false)], args := [d1, d2] }
  | _ => none }
def VecJoinsWrongFalsely : Prop := vecJoinsRow.holds Try.pinned (OpenSpec.ofChange vecJoinsWrong)

/-- 'althinglaw09.VecCovers': WHATEVER THE INPUT: true; the input reads as it did. -/
def vecCoversSpec : ChangeSpec := { name := "vecCovers", fn := fun _ => fun
  | [d1, d2] => { results := [.lit (.bool true)], args := [d1, d2] }
  | _ => none }
def vecCoversRow : OpenClaim := { program := "ytbohgpdpglfepaa", sum := "a4f5bfb1015fddef4c09ba43ff3f90ae4c5ccedf9e2478626ea1d03959551cde", func := "althing/althinglaw09.VecCovers", spec := "vecCovers", apart := false }
def VecCoversSaid : Prop := vecCoversRow.holds Try.pinned (OpenSpec.ofChange vecCoversSpec)

/-- ITS FALSE NEIGHBOUR: 'it returns false'. Refute it at one input. -/
def vecCoversWrong : ChangeSpec := { name := "vecCovers", fn := fun _ => fun
  | [d1, d2] => { results := [.lit (.bool false)], args := [d1, d2] }
  | _ => none }
def VecCoversWrongFalsely : Prop := vecCoversRow.holds Try.pinned (OpenSpec.ofChange vecCoversWrong)

/-- 'althinglaw09.VecBack': WHATEVER THE INPUT: true; the input reads as it did. -/
def vecBackSpec : ChangeSpec := { name := "vecBack", fn := fun _ => fun
  | [d1, d2, d3] => { results := [.lit (.bool true)], args := [d1, d2, d3] }
  | _ => none }
def vecBackRow : OpenClaim := { program := "ytbohgpdpglfepaa", sum := "a4f5bfb1015fddef4c09ba43ff3f90ae4c5ccedf9e2478626ea1d03959551cde", func := "althing/althinglaw09.VecBack", spec := "vecBack", apart := false }
def VecBackSaid : Prop := vecBackRow.holds Try.pinned (OpenSpec.ofChange vecBackSpec)

/-- ITS FALSE NEIGHBOUR: 'it returns false'. Refute it at one input. -/
def vecBackWrong : ChangeSpec := { name := "vecBack", fn := fun _ => fun
  | [d1, d2, d3] => { results := [.lit (.bool false)], args := [d1, d2, d3] }
  | _ => none }
def VecBackWrongFalsely : Prop := vecBackRow.holds Try.pinned (OpenSpec.ofChange vecBackWrong)

/-- 'althinglaw11.EpcoreCounts': WHATEVER THE INPUT: true; the input reads as it did. -/
def epcoreCountsSpec : ChangeSpec := { name := "epcoreCounts", fn := fun _ => fun
  | [d1, d2] => { results := [.lit (.bool true)], args := [d1, d2] }
  | _ => none }
def epcoreCountsRow : OpenClaim := { program := "ytbohgpdpglfepaa", sum := "a4f5bfb1015fddef4c09ba43ff3f90ae4c5ccedf9e2478626ea1d03959551cde", func := "althing/althinglaw11.EpcoreCounts", spec := "epcoreCounts", apart := false }
def EpcoreCountsSaid : Prop := epcoreCountsRow.holds Try.pinned (OpenSpec.ofChange epcoreCountsSpec)

/-- ITS FALSE NEIGHBOUR: 'it returns false'. Refute it at one input. -/
def epcoreCountsWrong : ChangeSpec := { name := "epcoreCounts", fn := fun _ => fun
  | [d1, d2] => { results := [.lit (.bool false)], args := [d1, d2] }
  | _ => none }
def EpcoreCountsWrongFalsely : Prop := epcoreCountsRow.holds Try.pinned (OpenSpec.ofChange epcoreCountsWrong)

/-- 'althinglaw11.EpcoreVotes': WHATEVER THE INPUT: true; the input reads as it did. -/
def epcoreVotesSpec : ChangeSpec := { name := "epcoreVotes", fn := fun _ => fun
  | [d1, d2, d3] => { results := [.lit (.bool true)], args := [d1, d2, d3] }
  | _ => none }
def epcoreVotesRow : OpenClaim := { program := "ytbohgpdpglfepaa", sum := "a4f5bfb1015fddef4c09ba43ff3f90ae4c5ccedf9e2478626ea1d03959551cde", func := "althing/althinglaw11.EpcoreVotes", spec := "epcoreVotes", apart := false }
def EpcoreVotesSaid : Prop := epcoreVotesRow.holds Try.pinned (OpenSpec.ofChange epcoreVotesSpec)

/-- ITS FALSE NEIGHBOUR: 'it returns false'. Refute it at one input. -/
def epcoreVotesWrong : ChangeSpec := { name := "epcoreVotes", fn := fun _ => fun
  | [d1, d2, d3] => { results := [.lit (.bool false)], args := [d1, d2, d3] }
  | _ => none }
def EpcoreVotesWrongFalsely : Prop := epcoreVotesRow.holds Try.pinned (OpenSpec.ofChange epcoreVotesWrong)

/-- 'althinglaw11.EpcoreTallies': WHATEVER THE INPUT: true; the input reads as it did. -/
def epcoreTalliesSpec : ChangeSpec := { name := "epcoreTallies", fn := fun _ => fun
  | [d1, d2] => { results := [.lit (.bool true)], args := [d1, d2] }
  | _ => none }
def epcoreTalliesRow : OpenClaim := { program := "ytbohgpdpglfepaa", sum := "a4f5bfb1015fddef4c09ba43ff3f90ae4c5ccedf9e2478626ea1d03959551cde", func := "althing/althinglaw11.EpcoreTallies", spec := "epcoreTallies", apart := false }
def EpcoreTalliesSaid : Prop := epcoreTalliesRow.holds Try.pinned (OpenSpec.ofChange epcoreTalliesSpec)

/-- ITS FALSE NEIGHBOUR: 'it returns false'. Refute it at one input. -/
def epcoreTalliesWrong : ChangeSpec := { name := "epcoreTallies", fn := fun _ => fun
  | [d1, d2] => { results := [.lit (.bool false)], args := [d1, d2] }
  | _ => none }
def EpcoreTalliesWrongFalsely : Prop := epcoreTalliesRow.holds Try.pinned (OpenSpec.ofChange epcoreTalliesWrong)

/-- 'althinglaw11.EpcoreMeets': WHATEVER THE INPUT: true; the input reads as it did. -/
def epcoreMeetsSpec : ChangeSpec := { name := "epcoreMeets", fn := fun _ => fun
  | [d1, d2, d3] => { results := [.lit (.bool true)], args := [d1, d2, d3] }
  | _ => none }
def epcoreMeetsRow : OpenClaim := { program := "ytbohgpdpglfepaa", sum := "a4f5bfb1015fddef4c09ba43ff3f90ae4c5ccedf9e2478626ea1d03959551cde", func := "althing/althinglaw11.EpcoreMeets", spec := "epcoreMeets", apart := false }
def EpcoreMeetsSaid : Prop := epcoreMeetsRow.holds Try.pinned (OpenSpec.ofChange epcoreMeetsSpec)

/-- ITS FALSE NEIGHBOUR: 'it returns false'. Refute it at one input. -/
def epcoreMeetsWrong : ChangeSpec := { name := "epcoreMeets", fn := fun _ => fun
  | [d1, d2, d3] => { results := [.lit (.bool false)], args := [d1, d2, d3] }
  | _ => none }
def EpcoreMeetsWrongFalsely : Prop := epcoreMeetsRow.holds Try.pinned (OpenSpec.ofChange epcoreMeetsWrong)

/-- 'althinglaw12.EprecovBallots': WHATEVER THE INPUT: true; the input reads as it did. -/
def eprecovBallotsSpec : ChangeSpec := { name := "eprecovBallots", fn := fun _ => fun
  | [d] => { results := [.lit (.bool true)], args := [d] }
  | _ => none }
def eprecovBallotsRow : OpenClaim := { program := "ytbohgpdpglfepaa", sum := "a4f5bfb1015fddef4c09ba43ff3f90ae4c5ccedf9e2478626ea1d03959551cde", func := "althing/althinglaw12.EprecovBallots", spec := "eprecovBallots", unfollowed := true, recurses := true, apart := false }
def EprecovBallotsSaid : Prop := eprecovBallotsRow.holds Try.pinned (OpenSpec.ofChange eprecovBallotsSpec)

/-- ITS FALSE NEIGHBOUR: 'it returns false'. Refute it at one input. -/
def eprecovBallotsWrong : ChangeSpec := { name := "eprecovBallots", fn := fun _ => fun
  | [d] => { results := [.lit (.bool false)], args := [d] }
  | _ => none }
def EprecovBallotsWrongFalsely : Prop := eprecovBallotsRow.holds Try.pinned (OpenSpec.ofChange eprecovBallotsWrong)

/-- 'althinglaw12.EprecovNobody': WHATEVER THE INPUT: true; the input reads as it did. -/
def eprecovNobodySpec : ChangeSpec := { name := "eprecovNobody", fn := fun _ => fun
  | [d] => { results := [.lit (.bool true)], args := [d] }
  | _ => none }
def eprecovNobodyRow : OpenClaim := { program := "ytbohgpdpglfepaa", sum := "a4f5bfb1015fddef4c09ba43ff3f90ae4c5ccedf9e2478626ea1d03959551cde", func := "althing/althinglaw12.EprecovNobody", spec := "eprecovNobody", unfollowed := true, recurses := true, apart := false }
def EprecovNobodySaid : Prop := eprecovNobodyRow.holds Try.pinned (OpenSpec.ofChange eprecovNobodySpec)

/-- ITS FALSE NEIGHBOUR: 'it returns false'. Refute it at one input. -/
def eprecovNobodyWrong : ChangeSpec := { name := "eprecovNobody", fn := fun _ => fun
  | [d] => { results := [.lit (.bool false)], args := [d] }
  | _ => none }
def EprecovNobodyWrongFalsely : Prop := eprecovNobodyRow.holds Try.pinned (OpenSpec.ofChange eprecovNobodyWrong)

/-- 'althinglaw11.EpcorePlays': WHATEVER THE INPUT: true; the input reads as it did. -/
def epcorePlaysSpec : ChangeSpec := { name := "epcorePlays", fn := fun _ => fun
  | [d1, d2] => { results := [.lit (.bool true)], args := [d1, d2] }
  | _ => none }
def epcorePlaysRow : OpenClaim := { program := "ytbohgpdpglfepaa", sum := "a4f5bfb1015fddef4c09ba43ff3f90ae4c5ccedf9e2478626ea1d03959551cde", func := "althing/althinglaw11.EpcorePlays", spec := "epcorePlays", apart := false }
def EpcorePlaysSaid : Prop := epcorePlaysRow.holds Try.pinned (OpenSpec.ofChange epcorePlaysSpec)

/-- ITS FALSE NEIGHBOUR: 'it returns false'. Refute it at one input. -/
def epcorePlaysWrong : ChangeSpec := { name := "epcorePlays", fn := fun _ => fun
  | [d1, d2] => { results := [.lit (.bool false)], args := [d1, d2] }
  | _ => none }
def EpcorePlaysWrongFalsely : Prop := epcorePlaysRow.holds Try.pinned (OpenSpec.ofChange epcorePlaysWrong)

/-- 'althinglaw11.EpcoreForward': WHATEVER THE INPUT: true; the input reads as it did. -/
def epcoreForwardSpec : ChangeSpec := { name := "epcoreForward", fn := fun _ => fun
  | [d1, d2] => { results := [.lit (.bool true)], args := [d1, d2] }
  | _ => none }
def epcoreForwardRow : OpenClaim := { program := "ytbohgpdpglfepaa", sum := "a4f5bfb1015fddef4c09ba43ff3f90ae4c5ccedf9e2478626ea1d03959551cde", func := "althing/althinglaw11.EpcoreForward", spec := "epcoreForward", apart := false }
def EpcoreForwardSaid : Prop := epcoreForwardRow.holds Try.pinned (OpenSpec.ofChange epcoreForwardSpec)

/-- ITS FALSE NEIGHBOUR: 'it returns false'. Refute it at one input. -/
def epcoreForwardWrong : ChangeSpec := { name := "epcoreForward", fn := fun _ => fun
  | [d1, d2] => { results := [.lit (.bool false)], args := [d1, d2] }
  | _ => none }
def EpcoreForwardWrongFalsely : Prop := epcoreForwardRow.holds Try.pinned (OpenSpec.ofChange epcoreForwardWrong)

/-- 'althinglaw11.EpcoreAgain': WHATEVER THE INPUT: true; the input reads as it did. -/
def epcoreAgainSpec : ChangeSpec := { name := "epcoreAgain", fn := fun _ => fun
  | [d1, d2] => { results := [.lit (.bool true)], args := [d1, d2] }
  | _ => none }
def epcoreAgainRow : OpenClaim := { program := "ytbohgpdpglfepaa", sum := "a4f5bfb1015fddef4c09ba43ff3f90ae4c5ccedf9e2478626ea1d03959551cde", func := "althing/althinglaw11.EpcoreAgain", spec := "epcoreAgain", apart := false }
def EpcoreAgainSaid : Prop := epcoreAgainRow.holds Try.pinned (OpenSpec.ofChange epcoreAgainSpec)

/-- ITS FALSE NEIGHBOUR: 'it returns false'. Refute it at one input. -/
def epcoreAgainWrong : ChangeSpec := { name := "epcoreAgain", fn := fun _ => fun
  | [d1, d2] => { results := [.lit (.bool false)], args := [d1, d2] }
  | _ => none }
def EpcoreAgainWrongFalsely : Prop := epcoreAgainRow.holds Try.pinned (OpenSpec.ofChange epcoreAgainWrong)

/-- 'althinglaw12.EprecovKeeps': WHATEVER THE INPUT: true; the input reads as it did. -/
def eprecovKeepsSpec : ChangeSpec := { name := "eprecovKeeps", fn := fun _ => fun
  | [d] => { results := [.lit (.bool true)], args := [d] }
  | _ => none }
def eprecovKeepsRow : OpenClaim := { program := "ytbohgpdpglfepaa", sum := "a4f5bfb1015fddef4c09ba43ff3f90ae4c5ccedf9e2478626ea1d03959551cde", func := "althing/althinglaw12.EprecovKeeps", spec := "eprecovKeeps", unfollowed := true, recurses := true, apart := false }
def EprecovKeepsSaid : Prop := eprecovKeepsRow.holds Try.pinned (OpenSpec.ofChange eprecovKeepsSpec)

/-- ITS FALSE NEIGHBOUR: 'it returns false'. Refute it at one input. -/
def eprecovKeepsWrong : ChangeSpec := { name := "eprecovKeeps", fn := fun _ => fun
  | [d] => { results := [.lit (.bool false)], args := [d] }
  | _ => none }
def EprecovKeepsWrongFalsely : Prop := eprecovKeepsRow.holds Try.pinned (OpenSpec.ofChange eprecovKeepsWrong)

/-- 'althinglaw12.EprecovAccepted': WHATEVER THE INPUT: true; the input reads as it did. -/
def eprecovAcceptedSpec : ChangeSpec := { name := "eprecovAccepted", fn := fun _ => fun
  | [d1, d2, d3] => { results := [.lit (.bool true)], args := [d1, d2, d3] }
  | _ => none }
def eprecovAcceptedRow : OpenClaim := { program := "ytbohgpdpglfepaa", sum := "a4f5bfb1015fddef4c09ba43ff3f90ae4c5ccedf9e2478626ea1d03959551cde", func := "althing/althinglaw12.EprecovAccepted", spec := "eprecovAccepted", unfollowed := true, recurses := true, apart := false }
def EprecovAcceptedSaid : Prop := eprecovAcceptedRow.holds Try.pinned (OpenSpec.ofChange eprecovAcceptedSpec)

/-- ITS FALSE NEIGHBOUR: 'it returns false'. Refute it at one input. -/
def eprecovAcceptedWrong : ChangeSpec := { name := "eprecovAccepted", fn := fun _ => fun
  | [d1, d2, d3] => { results := [.lit (.bool false)], args := [d1, d2, d3] }
  | _ => none }
def EprecovAcceptedWrongFalsely : Prop := eprecovAcceptedRow.holds Try.pinned (OpenSpec.ofChange eprecovAcceptedWrong)

/- THE SECOND FORM. 'bulk': how many values and letters a reading holds, each counted each time it is reached (what is shared counts as often as it is met; a slice's spare places count too). A statement '..UptoSaid' is the law's where the arguments, and the package variables that the reading takes, are together of bulk at most 1048576: NARROWER than '..Said'. Prove '..Said' where nothing that the law and all that it calls make is longer than what came in: it says more and counts as full. Else prove '..UptoSaid'. A law counts once. -/
mutual
def uptoBulk {H : Type} : DataW H → Nat
  | .lit (.string bytes) => bytes.length + 1
  | .lit _ => 1
  | .nil => 1
  | .ptr d => uptoBulk d + 1
  | .slice elems spare => uptoBulkAll elems + uptoBulkAll spare + 1
  | .agg parts => uptoBulkAll parts + 1
  | .iface _ d => uptoBulk d + 1
  | .map entries => uptoBulkEntries entries + 1
  | .held _ => 1
def uptoBulkAll {H : Type} : List (DataW H) → Nat
  | [] => 0
  | d :: r => uptoBulk d + uptoBulkAll r
def uptoBulkEntries {H : Type} : List (Lit × DataW H) → Nat
  | [] => 0
  | x :: r => uptoBulkEntry x + uptoBulkEntries r
def uptoBulkEntry {H : Type} : Lit × DataW H → Nat
  | (.string bytes, d) => bytes.length + uptoBulk d + 1
  | (_, d) => uptoBulk d + 1
 end
def uptoSmall : (H : Type) → List (DataW H) → Bool := fun _ ds => decide (uptoBulkAll ds ≤ 1048576)
def OpenSpec.upto (s : _root_.Go.ChangeSpec) : _root_.Go.OpenSpec := { _root_.Go.OpenSpec.ofChange s with cond := some uptoSmall }

/-- 'althinglaw09.VecBallots', WHERE WHAT IT READS IS OF BULK AT MOST 1048576: true; the input reads as it did. -/
def vecBallotsUptoRow : OpenClaim := { program := "ytbohgpdpglfepaa", sum := "a4f5bfb1015fddef4c09ba43ff3f90ae4c5ccedf9e2478626ea1d03959551cde", func := "althing/althinglaw09.VecBallots", spec := "vecBallots", apart := false, narrowed := true }
def VecBallotsUptoSaid : Prop := vecBallotsUptoRow.holds Try.pinned (OpenSpec.upto vecBallotsSpec)

/-- 'althinglaw09.VecNext', WHERE WHAT IT READS IS OF BULK AT MOST 1048576: true; the input reads as it did. -/
def vecNextUptoRow : OpenClaim := { program := "ytbohgpdpglfepaa", sum := "a4f5bfb1015fddef4c09ba43ff3f90ae4c5ccedf9e2478626ea1d03959551cde", func := "althing/althinglaw09.VecNext", spec := "vecNext", apart := false, narrowed := true }
def VecNextUptoSaid : Prop := vecNextUptoRow.holds Try.pinned (OpenSpec.upto vecNextSpec)

/-- 'althinglaw09.VecLattice', WHERE WHAT IT READS IS OF BULK AT MOST 1048576: true; the input reads as it did. -/
def vecLatticeUptoRow : OpenClaim := { program := "ytbohgpdpglfepaa", sum := "a4f5bfb1015fddef4c09ba43ff3f90ae4c5ccedf9e2478626ea1d03959551cde", func := "althing/althinglaw09.VecLattice", spec := "vecLattice", apart := false, narrowed := true }
def VecLatticeUptoSaid : Prop := vecLatticeUptoRow.holds Try.pinned (OpenSpec.upto vecLatticeSpec)

/-- 'althinglaw09.VecJoins', WHERE WHAT IT READS IS OF BULK AT MOST 1048576: true; the input reads as it did. -/
def vecJoinsUptoRow : OpenClaim := { program := "ytbohgpdpglfepaa", sum := "a4f5bfb1015fddef4c09ba43ff3f90ae4c5ccedf9e2478626ea1d03959551cde", func := "althing/althinglaw09.VecJoins", spec := "vecJoins", apart := false, narrowed := true }
def VecJoinsUptoSaid : Prop := vecJoinsUptoRow.holds Try.pinned (OpenSpec.upto vecJoinsSpec)

/-- 'althinglaw09.VecCovers', WHERE WHAT IT READS IS OF BULK AT MOST 1048576: true; the input reads as it did. -/
def vecCoversUptoRow : OpenClaim := { program := "ytbohgpdpglfepaa", sum := "a4f5bfb1015fddef4c09ba43ff3f90ae4c5ccedf9e2478626ea1d03959551cde", func := "althing/althinglaw09.VecCovers", spec := "vecCovers", apart := false, narrowed := true }
def VecCoversUptoSaid : Prop := vecCoversUptoRow.holds Try.pinned (OpenSpec.upto vecCoversSpec)

/-- 'althinglaw09.VecBack', WHERE WHAT IT READS IS OF BULK AT MOST 1048576: true; the input reads as it did. -/
def vecBackUptoRow : OpenClaim := { program := "ytbohgpdpglfepaa", sum := "a4f5bfb1015fddef4c09ba43ff3f90ae4c5ccedf9e2478626ea1d03959551cde", func := "althing/althinglaw09.VecBack", spec := "vecBack", apart := false, narrowed := true }
def VecBackUptoSaid : Prop := vecBackUptoRow.holds Try.pinned (OpenSpec.upto vecBackSpec)

/-- 'althinglaw11.EpcoreCounts', WHERE WHAT IT READS IS OF BULK AT MOST 1048576: true; the input reads as it did. -/
def epcoreCountsUptoRow : OpenClaim := { program := "ytbohgpdpglfepaa", sum := "a4f5bfb1015fddef4c09ba43ff3f90ae4c5ccedf9e2478626ea1d03959551cde", func := "althing/althinglaw11.EpcoreCounts", spec := "epcoreCounts", apart := false, narrowed := true }
def EpcoreCountsUptoSaid : Prop := epcoreCountsUptoRow.holds Try.pinned (OpenSpec.upto epcoreCountsSpec)

/-- 'althinglaw11.EpcoreVotes', WHERE WHAT IT READS IS OF BULK AT MOST 1048576: true; the input reads as it did. -/
def epcoreVotesUptoRow : OpenClaim := { program := "ytbohgpdpglfepaa", sum := "a4f5bfb1015fddef4c09ba43ff3f90ae4c5ccedf9e2478626ea1d03959551cde", func := "althing/althinglaw11.EpcoreVotes", spec := "epcoreVotes", apart := false, narrowed := true }
def EpcoreVotesUptoSaid : Prop := epcoreVotesUptoRow.holds Try.pinned (OpenSpec.upto epcoreVotesSpec)

/-- 'althinglaw11.EpcoreTallies', WHERE WHAT IT READS IS OF BULK AT MOST 1048576: true; the input reads as it did. -/
def epcoreTalliesUptoRow : OpenClaim := { program := "ytbohgpdpglfepaa", sum := "a4f5bfb1015fddef4c09ba43ff3f90ae4c5ccedf9e2478626ea1d03959551cde", func := "althing/althinglaw11.EpcoreTallies", spec := "epcoreTallies", apart := false, narrowed := true }
def EpcoreTalliesUptoSaid : Prop := epcoreTalliesUptoRow.holds Try.pinned (OpenSpec.upto epcoreTalliesSpec)

/-- 'althinglaw11.EpcoreMeets', WHERE WHAT IT READS IS OF BULK AT MOST 1048576: true; the input reads as it did. -/
def epcoreMeetsUptoRow : OpenClaim := { program := "ytbohgpdpglfepaa", sum := "a4f5bfb1015fddef4c09ba43ff3f90ae4c5ccedf9e2478626ea1d03959551cde", func := "althing/althinglaw11.EpcoreMeets", spec := "epcoreMeets", apart := false, narrowed := true }
def EpcoreMeetsUptoSaid : Prop := epcoreMeetsUptoRow.holds Try.pinned (OpenSpec.upto epcoreMeetsSpec)

/-- 'althinglaw12.EprecovBallots', WHERE WHAT IT READS IS OF BULK AT MOST 1048576: true; the input reads as it did. -/
def eprecovBallotsUptoRow : OpenClaim := { program := "ytbohgpdpglfepaa", sum := "a4f5bfb1015fddef4c09ba43ff3f90ae4c5ccedf9e2478626ea1d03959551cde", func := "althing/althinglaw12.EprecovBallots", spec := "eprecovBallots", unfollowed := true, recurses := true, apart := false, narrowed := true }
def EprecovBallotsUptoSaid : Prop := eprecovBallotsUptoRow.holds Try.pinned (OpenSpec.upto eprecovBallotsSpec)

/-- 'althinglaw12.EprecovNobody', WHERE WHAT IT READS IS OF BULK AT MOST 1048576: true; the input reads as it did. -/
def eprecovNobodyUptoRow : OpenClaim := { program := "ytbohgpdpglfepaa", sum := "a4f5bfb1015fddef4c09ba43ff3f90ae4c5ccedf9e2478626ea1d03959551cde", func := "althing/althinglaw12.EprecovNobody", spec := "eprecovNobody", unfollowed := true, recurses := true, apart := false, narrowed := true }
def EprecovNobodyUptoSaid : Prop := eprecovNobodyUptoRow.holds Try.pinned (OpenSpec.upto eprecovNobodySpec)

/-- 'althinglaw11.EpcorePlays', WHERE WHAT IT READS IS OF BULK AT MOST 1048576: true; the input reads as it did. -/
def epcorePlaysUptoRow : OpenClaim := { program := "ytbohgpdpglfepaa", sum := "a4f5bfb1015fddef4c09ba43ff3f90ae4c5ccedf9e2478626ea1d03959551cde", func := "althing/althinglaw11.EpcorePlays", spec := "epcorePlays", apart := false, narrowed := true }
def EpcorePlaysUptoSaid : Prop := epcorePlaysUptoRow.holds Try.pinned (OpenSpec.upto epcorePlaysSpec)

/-- 'althinglaw11.EpcoreForward', WHERE WHAT IT READS IS OF BULK AT MOST 1048576: true; the input reads as it did. -/
def epcoreForwardUptoRow : OpenClaim := { program := "ytbohgpdpglfepaa", sum := "a4f5bfb1015fddef4c09ba43ff3f90ae4c5ccedf9e2478626ea1d03959551cde", func := "althing/althinglaw11.EpcoreForward", spec := "epcoreForward", apart := false, narrowed := true }
def EpcoreForwardUptoSaid : Prop := epcoreForwardUptoRow.holds Try.pinned (OpenSpec.upto epcoreForwardSpec)

/-- 'althinglaw11.EpcoreAgain', WHERE WHAT IT READS IS OF BULK AT MOST 1048576: true; the input reads as it did. -/
def epcoreAgainUptoRow : OpenClaim := { program := "ytbohgpdpglfepaa", sum := "a4f5bfb1015fddef4c09ba43ff3f90ae4c5ccedf9e2478626ea1d03959551cde", func := "althing/althinglaw11.EpcoreAgain", spec := "epcoreAgain", apart := false, narrowed := true }
def EpcoreAgainUptoSaid : Prop := epcoreAgainUptoRow.holds Try.pinned (OpenSpec.upto epcoreAgainSpec)

/-- 'althinglaw12.EprecovKeeps', WHERE WHAT IT READS IS OF BULK AT MOST 1048576: true; the input reads as it did. -/
def eprecovKeepsUptoRow : OpenClaim := { program := "ytbohgpdpglfepaa", sum := "a4f5bfb1015fddef4c09ba43ff3f90ae4c5ccedf9e2478626ea1d03959551cde", func := "althing/althinglaw12.EprecovKeeps", spec := "eprecovKeeps", unfollowed := true, recurses := true, apart := false, narrowed := true }
def EprecovKeepsUptoSaid : Prop := eprecovKeepsUptoRow.holds Try.pinned (OpenSpec.upto eprecovKeepsSpec)

/-- 'althinglaw12.EprecovAccepted', WHERE WHAT IT READS IS OF BULK AT MOST 1048576: true; the input reads as it did. -/
def eprecovAcceptedUptoRow : OpenClaim := { program := "ytbohgpdpglfepaa", sum := "a4f5bfb1015fddef4c09ba43ff3f90ae4c5ccedf9e2478626ea1d03959551cde", func := "althing/althinglaw12.EprecovAccepted", spec := "eprecovAccepted", unfollowed := true, recurses := true, apart := false, narrowed := true }
def EprecovAcceptedUptoSaid : Prop := eprecovAcceptedUptoRow.holds Try.pinned (OpenSpec.upto eprecovAcceptedSpec)

end Rows
end Go.Proofs.Ytbohgpdpglfepaa
