/-
  No cell of these rows narrows 'for every input' (looked for: loops, veiled, ifaces, maps, wideKeys, modest, calm, conditions, laid).
  DERIVED. THE GIVEN ROWS OF THIS SEAT. 3 by the template 'for every input the law returns true; each argument reads behind the call as it read before'; 0 by the template 'total and deterministic' (their statements: YtnoophiflnlflaaTotals.lean).
  GIVEN WITH THE SEED: the statements are not yours to turn. If you find one false, say at which input.
  Laid BY PROGRAM, IN A SANDBOX (cutbox-rows.mjs): the forced cells as the released guide's own fill.sh prints them over the translation cd89d975ad6abf20… (all of the seat's roots in one cut). By AI agents, Wed Nov 11 2026. No macro, syntax, notation, axiom, sorry.
-/
import Derived.Test.YtnoophiflnlflaaChecked
import GoSem.Claim
import GoSem.ClaimJoined
import GoSem.ClaimMapViews
import Derived.JoinedTies
import Derived.KernelRfl
namespace Go.Proofs.Ytnoophiflnlflaa
/- THE CELL 'sum', in the pinned program and in every row, IS THE sha256 OF THE DUMP (.gsa) THAT YtnoophiflnlflaaProg.lean LOADS. Nothing in Lean hashes anything: it is a label: what it is worth is what the hold of that sum in a sandbox is worth. -/
noncomputable def Try.pinned : Pinned := { name := "ytnoophiflnlflaa", sum := "cd89d975ad6abf209502b1ff878764641f2d962c16392df51dfc18ccd7a8f25e", checked := Try.checked }
namespace Rows
def none {H : Type} : Left H := { results := [], args := [] }

/-- 'drawknifelaw29.MeterCounts': WHATEVER THE INPUT: true; the input reads as it did. -/
def meterCountsSpec : ChangeSpec := { name := "meterCounts", fn := fun _ => fun
  | [d1, d2] => { results := [.lit (.bool true)], args := [d1, d2] }
  | _ => none }
def meterCountsRow : OpenClaim := { program := "ytnoophiflnlflaa", sum := "cd89d975ad6abf209502b1ff878764641f2d962c16392df51dfc18ccd7a8f25e", func := "drawknife/drawknifelaw29.MeterCounts", spec := "meterCounts", unfollowed := true, recurses := true, apart := false }
def MeterCountsSaid : Prop := meterCountsRow.holds Try.pinned (OpenSpec.ofChange meterCountsSpec)

/-- ITS FALSE NEIGHBOUR: 'it returns false'. Refute it at one input. -/
def meterCountsWrong : ChangeSpec := { name := "meterCounts", fn := fun _ => fun
  | [d1, d2] => { results := [.lit (.bool false)], args := [d1, d2] }
  | _ => none }
def MeterCountsWrongFalsely : Prop := meterCountsRow.holds Try.pinned (OpenSpec.ofChange meterCountsWrong)

/-- 'drawknifelaw29.MeterSpreads': WHATEVER THE INPUT: true; the input reads as it did. -/
def meterSpreadsSpec : ChangeSpec := { name := "meterSpreads", fn := fun _ => fun
  | [d1, d2] => { results := [.lit (.bool true)], args := [d1, d2] }
  | _ => none }
def meterSpreadsRow : OpenClaim := { program := "ytnoophiflnlflaa", sum := "cd89d975ad6abf209502b1ff878764641f2d962c16392df51dfc18ccd7a8f25e", func := "drawknife/drawknifelaw29.MeterSpreads", spec := "meterSpreads", unfollowed := true, recurses := true, apart := false }
def MeterSpreadsSaid : Prop := meterSpreadsRow.holds Try.pinned (OpenSpec.ofChange meterSpreadsSpec)

/-- ITS FALSE NEIGHBOUR: 'it returns false'. Refute it at one input. -/
def meterSpreadsWrong : ChangeSpec := { name := "meterSpreads", fn := fun _ => fun
  | [d1, d2] => { results := [.lit (.bool false)], args := [d1, d2] }
  | _ => none }
def MeterSpreadsWrongFalsely : Prop := meterSpreadsRow.holds Try.pinned (OpenSpec.ofChange meterSpreadsWrong)

/-- 'drawknifelaw29.MeterParts': WHATEVER THE INPUT: true; the input reads as it did. -/
def meterPartsSpec : ChangeSpec := { name := "meterParts", fn := fun _ => fun
  | [d1, d2, d3] => { results := [.lit (.bool true)], args := [d1, d2, d3] }
  | _ => none }
def meterPartsRow : OpenClaim := { program := "ytnoophiflnlflaa", sum := "cd89d975ad6abf209502b1ff878764641f2d962c16392df51dfc18ccd7a8f25e", func := "drawknife/drawknifelaw29.MeterParts", spec := "meterParts", unfollowed := true, recurses := true, apart := false }
def MeterPartsSaid : Prop := meterPartsRow.holds Try.pinned (OpenSpec.ofChange meterPartsSpec)

/-- ITS FALSE NEIGHBOUR: 'it returns false'. Refute it at one input. -/
def meterPartsWrong : ChangeSpec := { name := "meterParts", fn := fun _ => fun
  | [d1, d2, d3] => { results := [.lit (.bool false)], args := [d1, d2, d3] }
  | _ => none }
def MeterPartsWrongFalsely : Prop := meterPartsRow.holds Try.pinned (OpenSpec.ofChange meterPartsWrong)

/- THE SECOND FORM. 'bulk': how many values and letters a reading holds, each counted each time it is reached (what is shared counts as often as it is met; a slice's spare places count too). A statement '..UptoSaid' is the law's where the arguments, and the package variables that the reading takes, are together of bulk at most 1048576: NARROWER than '..Said'. Prove '..Said' where nothing that the law and all that it calls make is longer than what came in: it says more and counts as full. Else prove '..UptoSaid'. A law counts once. -/
mutual
def uptoBulk {H : Type} : DataW H → Nat
  | .lit (.string bytes) => bytes.length + 1
  | .lit _ => 1
  | .nil => 1
  | .ptr d => uptoBulk d + 1
  | .slice elems spare => uptoBulkAll elems + uptoBulkAll spare + 1
  | .agg parts => uptoBulkAll parts + 1
  | .iface _ d => uptoBulk d + 1
  | .map entries => uptoBulkEntries entries + 1
  | .held _ => 1
def uptoBulkAll {H : Type} : List (DataW H) → Nat
  | [] => 0
  | d :: r => uptoBulk d + uptoBulkAll r
def uptoBulkEntries {H : Type} : List (Lit × DataW H) → Nat
  | [] => 0
  | x :: r => uptoBulkEntry x + uptoBulkEntries r
def uptoBulkEntry {H : Type} : Lit × DataW H → Nat
  | (.string bytes, d) => bytes.length + uptoBulk d + 1
  | (_, d) => uptoBulk d + 1
 end
def uptoSmall : (H : Type) → List (DataW H) → Bool := fun _ ds => decide (uptoBulkAll ds ≤ 1048576)
def OpenSpec.upto (s : _root_.Go.ChangeSpec) : _root_.Go.OpenSpec := { _root_.Go.OpenSpec.ofChange s with cond := some uptoSmall }

/-- 'drawknifelaw29.MeterCounts', WHERE WHAT IT READS IS OF BULK AT MOST 1048576: true; the input reads as it did. -/
def meterCountsUptoRow : OpenClaim := { program := "ytnoophiflnlflaa", sum := "cd89d975ad6abf209502b1ff878764641f2d962c16392df51dfc18ccd7a8f25e", func := "drawknife/drawknifelaw29.MeterCounts", spec := "meterCounts", unfollowed := true, recurses := true, apart := false, narrowed := true }
def MeterCountsUptoSaid : Prop := meterCountsUptoRow.holds Try.pinned (OpenSpec.upto meterCountsSpec)

/-- 'drawknifelaw29.MeterSpreads', WHERE WHAT IT READS IS OF BULK AT MOST 1048576: true; the input reads as it did. -/
def meterSpreadsUptoRow : OpenClaim := { program := "ytnoophiflnlflaa", sum := "cd89d975ad6abf209502b1ff878764641f2d962c16392df51dfc18ccd7a8f25e", func := "drawknife/drawknifelaw29.MeterSpreads", spec := "meterSpreads", unfollowed := true, recurses := true, apart := false, narrowed := true }
def MeterSpreadsUptoSaid : Prop := meterSpreadsUptoRow.holds Try.pinned (OpenSpec.upto meterSpreadsSpec)

/-- 'drawknifelaw29.MeterParts', WHERE WHAT IT READS IS OF BULK AT MOST 1048576: true; the input reads as it did. -/
def meterPartsUptoRow : OpenClaim := { program := "ytnoophiflnlflaa", sum := "cd89d975ad6abf209502b1ff878764641f2d962c16392df51dfc18ccd7a8f25e", func := "drawknife/drawknifelaw29.MeterParts", spec := "meterParts", unfollowed := true, recurses := true, apart := false, narrowed := true }
def MeterPartsUptoSaid : Prop := meterPartsUptoRow.holds Try.pinned (OpenSpec.upto meterPartsSpec)

end Rows
end Go.Proofs.Ytnoophiflnlflaa
