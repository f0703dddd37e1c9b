/-
  No cell of these rows narrows 'for every input' (looked for: loops, veiled, ifaces, maps, wideKeys, modest, calm, conditions, laid).
  DERIVED. THE GIVEN ROWS OF THIS SEAT. 3 by the template 'for every input the law returns true; each argument reads behind the call as it read before'; 0 by the template 'total and deterministic' (their statements: YtkflpgknieoknaaTotals.lean).
  GIVEN WITH THE SEED: the statements are not yours to turn. If you find one false, say at which input.
  Laid BY PROGRAM, IN A SANDBOX (cutbox-rows.mjs): the forced cells as the released guide's own fill.sh prints them over the translation 58fdc5e5e94fa5c2… (all of the seat's roots in one cut). By AI agents, Wed Nov 11 2026. No macro, syntax, notation, axiom, sorry.
-/
import Derived.Test.YtkflpgknieoknaaChecked
import GoSem.Claim
import GoSem.ClaimJoined
import GoSem.ClaimMapViews
import Derived.JoinedTies
import Derived.KernelRfl
namespace Go.Proofs.Ytkflpgknieoknaa
/- THE CELL 'sum', in the pinned program and in every row, IS THE sha256 OF THE DUMP (.gsa) THAT YtkflpgknieoknaaProg.lean LOADS. Nothing in Lean hashes anything: it is a label: what it is worth is what the hold of that sum in a sandbox is worth. -/
noncomputable def Try.pinned : Pinned := { name := "ytkflpgknieoknaa", sum := "58fdc5e5e94fa5c25ab6e8289468c8b7c8a4d5e7cb9f07e11f8db54e149e933b", checked := Try.checked }
namespace Rows
def none {H : Type} : Left H := { results := [], args := [] }

/-- 'drawknifelaw18.AllocAgain': WHATEVER THE INPUT: true; the input reads as it did. -/
def allocAgainSpec : ChangeSpec := { name := "allocAgain", fn := fun _ => fun
  | [d1, d2, d3, d4] => { results := [.lit (.bool true)], args := [d1, d2, d3, d4] }
  | _ => none }
def allocAgainRow : OpenClaim := { program := "ytkflpgknieoknaa", sum := "58fdc5e5e94fa5c25ab6e8289468c8b7c8a4d5e7cb9f07e11f8db54e149e933b", func := "drawknife/drawknifelaw18.AllocAgain", spec := "allocAgain", apart := false }
def AllocAgainSaid : Prop := allocAgainRow.holds Try.pinned (OpenSpec.ofChange allocAgainSpec)

/-- ITS FALSE NEIGHBOUR: 'it returns false'. Refute it at one input. -/
def allocAgainWrong : ChangeSpec := { name := "allocAgain", fn := fun _ => fun
  | [d1, d2, d3, d4] => { results := [.lit (.bool false)], args := [d1, d2, d3, d4] }
  | _ => none }
def AllocAgainWrongFalsely : Prop := allocAgainRow.holds Try.pinned (OpenSpec.ofChange allocAgainWrong)

/-- 'drawknifelaw18.AllocMoves': WHATEVER THE INPUT: true; the input reads as it did. -/
def allocMovesSpec : ChangeSpec := { name := "allocMoves", fn := fun _ => fun
  | [d1, d2, d3] => { results := [.lit (.bool true)], args := [d1, d2, d3] }
  | _ => none }
def allocMovesRow : OpenClaim := { program := "ytkflpgknieoknaa", sum := "58fdc5e5e94fa5c25ab6e8289468c8b7c8a4d5e7cb9f07e11f8db54e149e933b", func := "drawknife/drawknifelaw18.AllocMoves", spec := "allocMoves", apart := false }
def AllocMovesSaid : Prop := allocMovesRow.holds Try.pinned (OpenSpec.ofChange allocMovesSpec)

/-- ITS FALSE NEIGHBOUR: 'it returns false'. Refute it at one input. -/
def allocMovesWrong : ChangeSpec := { name := "allocMoves", fn := fun _ => fun
  | [d1, d2, d3] => { results := [.lit (.bool false)], args := [d1, d2, d3] }
  | _ => none }
def AllocMovesWrongFalsely : Prop := allocMovesRow.holds Try.pinned (OpenSpec.ofChange allocMovesWrong)

/-- 'drawknifelaw21.PlaceNone': WHATEVER THE INPUT: true; the input reads as it did. -/
def placeNoneSpec : ChangeSpec := { name := "placeNone", fn := fun _ => fun
  | [d1, d2] => { results := [.lit (.bool true)], args := [d1, d2] }
  | _ => none }
def placeNoneRow : OpenClaim := { program := "ytkflpgknieoknaa", sum := "58fdc5e5e94fa5c25ab6e8289468c8b7c8a4d5e7cb9f07e11f8db54e149e933b", func := "drawknife/drawknifelaw21.PlaceNone", spec := "placeNone", apart := false }
def PlaceNoneSaid : Prop := placeNoneRow.holds Try.pinned (OpenSpec.ofChange placeNoneSpec)

/-- ITS FALSE NEIGHBOUR: 'it returns false'. Refute it at one input. -/
def placeNoneWrong : ChangeSpec := { name := "placeNone", fn := fun _ => fun
  | [d1, d2] => { results := [.lit (.bool false)], args := [d1, d2] }
  | _ => none }
def PlaceNoneWrongFalsely : Prop := placeNoneRow.holds Try.pinned (OpenSpec.ofChange placeNoneWrong)

/- THE SECOND FORM. 'bulk': how many values and letters a reading holds, each counted each time it is reached (what is shared counts as often as it is met; a slice's spare places count too). A statement '..UptoSaid' is the law's where the arguments, and the package variables that the reading takes, are together of bulk at most 1048576: NARROWER than '..Said'. Prove '..Said' where nothing that the law and all that it calls make is longer than what came in: it says more and counts as full. Else prove '..UptoSaid'. A law counts once. -/
mutual
def uptoBulk {H : Type} : DataW H → Nat
  | .lit (.string bytes) => bytes.length + 1
  | .lit _ => 1
  | .nil => 1
  | .ptr d => uptoBulk d + 1
  | .slice elems spare => uptoBulkAll elems + uptoBulkAll spare + 1
  | .agg parts => uptoBulkAll parts + 1
  | .iface _ d => uptoBulk d + 1
  | .map entries => uptoBulkEntries entries + 1
  | .held _ => 1
def uptoBulkAll {H : Type} : List (DataW H) → Nat
  | [] => 0
  | d :: r => uptoBulk d + uptoBulkAll r
def uptoBulkEntries {H : Type} : List (Lit × DataW H) → Nat
  | [] => 0
  | x :: r => uptoBulkEntry x + uptoBulkEntries r
def uptoBulkEntry {H : Type} : Lit × DataW H → Nat
  | (.string bytes, d) => bytes.length + uptoBulk d + 1
  | (_, d) => uptoBulk d + 1
 end
def uptoSmall : (H : Type) → List (DataW H) → Bool := fun _ ds => decide (uptoBulkAll ds ≤ 1048576)
def OpenSpec.upto (s : _root_.Go.ChangeSpec) : _root_.Go.OpenSpec := { _root_.Go.OpenSpec.ofChange s with cond := some uptoSmall }

/-- 'drawknifelaw18.AllocAgain', WHERE WHAT IT READS IS OF BULK AT MOST 1048576: true; the input reads as it did. -/
def allocAgainUptoRow : OpenClaim := { program := "ytkflpgknieoknaa", sum := "58fdc5e5e94fa5c25ab6e8289468c8b7c8a4d5e7cb9f07e11f8db54e149e933b", func := "drawknife/drawknifelaw18.AllocAgain", spec := "allocAgain", apart := false, narrowed := true }
def AllocAgainUptoSaid : Prop := allocAgainUptoRow.holds Try.pinned (OpenSpec.upto allocAgainSpec)

/-- 'drawknifelaw18.AllocMoves', WHERE WHAT IT READS IS OF BULK AT MOST 1048576: true; the input reads as it did. -/
def allocMovesUptoRow : OpenClaim := { program := "ytkflpgknieoknaa", sum := "58fdc5e5e94fa5c25ab6e8289468c8b7c8a4d5e7cb9f07e11f8db54e149e933b", func := "drawknife/drawknifelaw18.AllocMoves", spec := "allocMoves", apart := false, narrowed := true }
def AllocMovesUptoSaid : Prop := allocMovesUptoRow.holds Try.pinned (OpenSpec.upto allocMovesSpec)

/-- 'drawknifelaw21.PlaceNone', WHERE WHAT IT READS IS OF BULK AT MOST 1048576: true; the input reads as it did. -/
def placeNoneUptoRow : OpenClaim := { program := "ytkflpgknieoknaa", sum := "58fdc5e5e94fa5c25ab6e8289468c8b7c8a4d5e7cb9f07e11f8db54e149e933b", func := "drawknife/drawknifelaw21.PlaceNone", spec := "placeNone", apart := false, narrowed := true }
def PlaceNoneUptoSaid : Prop := placeNoneUptoRow.holds Try.pinned (OpenSpec.upto placeNoneSpec)

end Rows
end Go.Proofs.Ytkflpgknieoknaa
