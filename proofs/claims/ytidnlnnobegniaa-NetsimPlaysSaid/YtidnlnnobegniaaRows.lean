/-
  No cell of these rows narrows 'for every input' (looked for: loops, veiled, ifaces, maps, wideKeys, modest, calm, conditions, laid).
  DERIVED. THE GIVEN ROWS OF THIS SEAT. 5 by the template 'for every input the law returns true; each argument reads behind the call as it read before'; 0 by the template 'total and deterministic' (their statements: YtidnlnnobegniaaTotals.lean).
  GIVEN WITH THE SEED: the statements are not yours to turn. If you find one false, say at which input.
  Laid BY PROGRAM, IN A SANDBOX (cutbox-rows.mjs): the forced cells as the released guide's own fill.sh prints them over the translation 1489c6caa37201af… (all of the seat's roots in one cut). By AI agents, Wed Nov 11 2026. No macro, syntax, notation, axiom, sorry.
-/
import Derived.Test.YtidnlnnobegniaaChecked
import GoSem.Claim
import GoSem.ClaimJoined
import GoSem.ClaimMapViews
import Derived.JoinedTies
import Derived.KernelRfl
namespace Go.Proofs.Ytidnlnnobegniaa
/- THE CELL 'sum', in the pinned program and in every row, IS THE sha256 OF THE DUMP (.gsa) THAT YtidnlnnobegniaaProg.lean LOADS. Nothing in Lean hashes anything: it is a label: what it is worth is what the hold of that sum in a sandbox is worth. -/
noncomputable def Try.pinned : Pinned := { name := "ytidnlnnobegniaa", sum := "1489c6caa37201afe56830a8a7ff30f0d219a14951ffda001b0ad42fdd8193f9", checked := Try.checked }
namespace Rows
def none {H : Type} : Left H := { results := [], args := [] }

/-- 'althinglaw06.NetsimOrder': WHATEVER THE INPUT: true; the input reads as it did. -/
def netsimOrderSpec : ChangeSpec := { name := "netsimOrder", fn := fun _ => fun
  | [d] => { results := [.lit (.bool true)], args := [d] }
  | _ => none }
def netsimOrderRow : OpenClaim := { program := "ytidnlnnobegniaa", sum := "1489c6caa37201afe56830a8a7ff30f0d219a14951ffda001b0ad42fdd8193f9", func := "althing/althinglaw06.NetsimOrder", spec := "netsimOrder", unfollowed := true, recurses := true, plainKeys := false, apart := false }
def NetsimOrderSaid : Prop := netsimOrderRow.holds Try.pinned (OpenSpec.ofChange netsimOrderSpec)

/-- ITS FALSE NEIGHBOUR: 'it returns false'. Refute it at one input. -/
def netsimOrderWrong : ChangeSpec := { name := "netsimOrder", fn := fun _ => fun
  | [d] => { results := [.lit (.bool false)], args := [d] }
  | _ => none }
def NetsimOrderWrongFalsely : Prop := netsimOrderRow.holds Try.pinned (OpenSpec.ofChange netsimOrderWrong)

/-- 'althinglaw06.NetsimApart': WHATEVER THE INPUT: true; the input reads as it did. -/
def netsimApartSpec : ChangeSpec := { name := "netsimApart", fn := fun _ => fun
  | [d1, d2, d3] => { results := [.lit (.bool true)], args := [d1, d2, d3] }
  | _ => none }
def netsimApartRow : OpenClaim := { program := "ytidnlnnobegniaa", sum := "1489c6caa37201afe56830a8a7ff30f0d219a14951ffda001b0ad42fdd8193f9", func := "althing/althinglaw06.NetsimApart", spec := "netsimApart", unfollowed := true, recurses := true, plainKeys := false, apart := false }
def NetsimApartSaid : Prop := netsimApartRow.holds Try.pinned (OpenSpec.ofChange netsimApartSpec)

/-- ITS FALSE NEIGHBOUR: 'it returns false'. Refute it at one input. -/
def netsimApartWrong : ChangeSpec := { name := "netsimApart", fn := fun _ => fun
  | [d1, d2, d3] => { results := [.lit (.bool false)], args := [d1, d2, d3] }
  | _ => none }
def NetsimApartWrongFalsely : Prop := netsimApartRow.holds Try.pinned (OpenSpec.ofChange netsimApartWrong)

/-- 'althinglaw06.NetsimOnly': WHATEVER THE INPUT: true; the input reads as it did. -/
def netsimOnlySpec : ChangeSpec := { name := "netsimOnly", fn := fun _ => fun
  | [d1, d2] => { results := [.lit (.bool true)], args := [d1, d2] }
  | _ => none }
def netsimOnlyRow : OpenClaim := { program := "ytidnlnnobegniaa", sum := "1489c6caa37201afe56830a8a7ff30f0d219a14951ffda001b0ad42fdd8193f9", func := "althing/althinglaw06.NetsimOnly", spec := "netsimOnly", unfollowed := true, recurses := true, plainKeys := false, apart := false }
def NetsimOnlySaid : Prop := netsimOnlyRow.holds Try.pinned (OpenSpec.ofChange netsimOnlySpec)

/-- ITS FALSE NEIGHBOUR: 'it returns false'. Refute it at one input. -/
def netsimOnlyWrong : ChangeSpec := { name := "netsimOnly", fn := fun _ => fun
  | [d1, d2] => { results := [.lit (.bool false)], args := [d1, d2] }
  | _ => none }
def NetsimOnlyWrongFalsely : Prop := netsimOnlyRow.holds Try.pinned (OpenSpec.ofChange netsimOnlyWrong)

/-- 'althinglaw06.NetsimPlays': WHATEVER THE INPUT: true; the input reads as it did. -/
def netsimPlaysSpec : ChangeSpec := { name := "netsimPlays", fn := fun _ => fun
  | [d1, d2, d3] => { results := [.lit (.bool true)], args := [d1, d2, d3] }
  | _ => none }
def netsimPlaysRow : OpenClaim := { program := "ytidnlnnobegniaa", sum := "1489c6caa37201afe56830a8a7ff30f0d219a14951ffda001b0ad42fdd8193f9", func := "althing/althinglaw06.NetsimPlays", spec := "netsimPlays", unfollowed := true, recurses := true, plainKeys := false, apart := false }
def NetsimPlaysSaid : Prop := netsimPlaysRow.holds Try.pinned (OpenSpec.ofChange netsimPlaysSpec)

/-- ITS FALSE NEIGHBOUR: 'it returns false'. Refute it at one input. -/
def netsimPlaysWrong : ChangeSpec := { name := "netsimPlays", fn := fun _ => fun
  | [d1, d2, d3] => { results := [.lit (.bool false)], args := [d1, d2, d3] }
  | _ => none }
def NetsimPlaysWrongFalsely : Prop := netsimPlaysRow.holds Try.pinned (OpenSpec.ofChange netsimPlaysWrong)

/-- 'althinglaw06.NetsimBound': WHATEVER THE INPUT: true; the input reads as it did. -/
def netsimBoundSpec : ChangeSpec := { name := "netsimBound", fn := fun _ => fun
  | [d1, d2, d3] => { results := [.lit (.bool true)], args := [d1, d2, d3] }
  | _ => none }
def netsimBoundRow : OpenClaim := { program := "ytidnlnnobegniaa", sum := "1489c6caa37201afe56830a8a7ff30f0d219a14951ffda001b0ad42fdd8193f9", func := "althing/althinglaw06.NetsimBound", spec := "netsimBound", unfollowed := true, recurses := true, plainKeys := false, apart := false }
def NetsimBoundSaid : Prop := netsimBoundRow.holds Try.pinned (OpenSpec.ofChange netsimBoundSpec)

/-- ITS FALSE NEIGHBOUR: 'it returns false'. Refute it at one input. -/
def netsimBoundWrong : ChangeSpec := { name := "netsimBound", fn := fun _ => fun
  | [d1, d2, d3] => { results := [.lit (.bool false)], args := [d1, d2, d3] }
  | _ => none }
def NetsimBoundWrongFalsely : Prop := netsimBoundRow.holds Try.pinned (OpenSpec.ofChange netsimBoundWrong)

/- THE SECOND FORM. 'bulk': how many values and letters a reading holds, each counted each time it is reached (what is shared counts as often as it is met; a slice's spare places count too). A statement '..UptoSaid' is the law's where the arguments, and the package variables that the reading takes, are together of bulk at most 1048576: NARROWER than '..Said'. Prove '..Said' where nothing that the law and all that it calls make is longer than what came in: it says more and counts as full. Else prove '..UptoSaid'. A law counts once. -/
mutual
def uptoBulk {H : Type} : DataW H → Nat
  | .lit (.string bytes) => bytes.length + 1
  | .lit _ => 1
  | .nil => 1
  | .ptr d => uptoBulk d + 1
  | .slice elems spare => uptoBulkAll elems + uptoBulkAll spare + 1
  | .agg parts => uptoBulkAll parts + 1
  | .iface _ d => uptoBulk d + 1
  | .map entries => uptoBulkEntries entries + 1
  | .held _ => 1
def uptoBulkAll {H : Type} : List (DataW H) → Nat
  | [] => 0
  | d :: r => uptoBulk d + uptoBulkAll r
def uptoBulkEntries {H : Type} : List (Lit × DataW H) → Nat
  | [] => 0
  | x :: r => uptoBulkEntry x + uptoBulkEntries r
def uptoBulkEntry {H : Type} : Lit × DataW H → Nat
  | (.string bytes, d) => bytes.length + uptoBulk d + 1
  | (_, d) => uptoBulk d + 1
 end
def uptoSmall : (H : Type) → List (DataW H) → Bool := fun _ ds => decide (uptoBulkAll ds ≤ 1048576)
def OpenSpec.upto (s : _root_.Go.ChangeSpec) : _root_.Go.OpenSpec := { _root_.Go.OpenSpec.ofChange s with cond := some uptoSmall }

/-- 'althinglaw06.NetsimOrder', WHERE WHAT IT READS IS OF BULK AT MOST 1048576: true; the input reads as it did. -/
def netsimOrderUptoRow : OpenClaim := { program := "ytidnlnnobegniaa", sum := "1489c6caa37201afe56830a8a7ff30f0d219a14951ffda001b0ad42fdd8193f9", func := "althing/althinglaw06.NetsimOrder", spec := "netsimOrder", unfollowed := true, recurses := true, plainKeys := false, apart := false, narrowed := true }
def NetsimOrderUptoSaid : Prop := netsimOrderUptoRow.holds Try.pinned (OpenSpec.upto netsimOrderSpec)

/-- 'althinglaw06.NetsimApart', WHERE WHAT IT READS IS OF BULK AT MOST 1048576: true; the input reads as it did. -/
def netsimApartUptoRow : OpenClaim := { program := "ytidnlnnobegniaa", sum := "1489c6caa37201afe56830a8a7ff30f0d219a14951ffda001b0ad42fdd8193f9", func := "althing/althinglaw06.NetsimApart", spec := "netsimApart", unfollowed := true, recurses := true, plainKeys := false, apart := false, narrowed := true }
def NetsimApartUptoSaid : Prop := netsimApartUptoRow.holds Try.pinned (OpenSpec.upto netsimApartSpec)

/-- 'althinglaw06.NetsimOnly', WHERE WHAT IT READS IS OF BULK AT MOST 1048576: true; the input reads as it did. -/
def netsimOnlyUptoRow : OpenClaim := { program := "ytidnlnnobegniaa", sum := "1489c6caa37201afe56830a8a7ff30f0d219a14951ffda001b0ad42fdd8193f9", func := "althing/althinglaw06.NetsimOnly", spec := "netsimOnly", unfollowed := true, recurses := true, plainKeys := false, apart := false, narrowed := true }
def NetsimOnlyUptoSaid : Prop := netsimOnlyUptoRow.holds Try.pinned (OpenSpec.upto netsimOnlySpec)

/-- 'althinglaw06.NetsimPlays', WHERE WHAT IT READS IS OF BULK AT MOST 1048576: true; the input reads as it did. -/
def netsimPlaysUptoRow : OpenClaim := { program := "ytidnlnnobegniaa", sum := "1489c6caa37201afe56830a8a7ff30f0d219a14951ffda001b0ad42fdd8193f9", func := "althing/althinglaw06.NetsimPlays", spec := "netsimPlays", unfollowed := true, recurses := true, plainKeys := false, apart := false, narrowed := true }
def NetsimPlaysUptoSaid : Prop := netsimPlaysUptoRow.holds Try.pinned (OpenSpec.upto netsimPlaysSpec)

/-- 'althinglaw06.NetsimBound', WHERE WHAT IT READS IS OF BULK AT MOST 1048576: true; the input reads as it did. -/
def netsimBoundUptoRow : OpenClaim := { program := "ytidnlnnobegniaa", sum := "1489c6caa37201afe56830a8a7ff30f0d219a14951ffda001b0ad42fdd8193f9", func := "althing/althinglaw06.NetsimBound", spec := "netsimBound", unfollowed := true, recurses := true, plainKeys := false, apart := false, narrowed := true }
def NetsimBoundUptoSaid : Prop := netsimBoundUptoRow.holds Try.pinned (OpenSpec.upto netsimBoundSpec)

end Rows
end Go.Proofs.Ytidnlnnobegniaa
