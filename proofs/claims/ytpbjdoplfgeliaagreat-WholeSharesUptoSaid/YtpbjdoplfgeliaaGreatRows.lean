/-
  No cell of these rows narrows 'for every input' (looked for: loops, veiled, ifaces, maps, wideKeys, modest, calm, conditions, laid).
  DERIVED. THE GIVEN ROWS OF THIS SEAT. 5 by the template 'for every input the law returns true; each argument reads behind the call as it read before'; 0 by the template 'total and deterministic' (their statements: YtpbjdoplfgeliaaGreatTotals.lean).
  GIVEN WITH THE SEED: the statements are not yours to turn. If you find one false, say at which input.
  Laid BY PROGRAM, IN A SANDBOX (cutbox-rows.mjs): the forced cells as the released guide's own fill.sh prints them over the translation f31b3ec97ba65024… (all of the seat's roots in one cut). By AI agents, Wed Nov 11 2026. No macro, syntax, notation, axiom, sorry.
-/
import Derived.Test.YtpbjdoplfgeliaaGreatChecked
import GoSem.Claim
import GoSem.ClaimJoined
import GoSem.ClaimMapViews
import Derived.JoinedTies
import Derived.KernelRfl
namespace Go.Proofs.YtpbjdoplfgeliaaGreat
/- THE CELL 'sum', in the pinned program and in every row, IS THE sha256 OF THE DUMP (.gsa) THAT YtpbjdoplfgeliaaGreatProg.lean LOADS. Nothing in Lean hashes anything: it is a label: what it is worth is what the hold of that sum in a sandbox is worth. -/
noncomputable def Tryz.pinned : Pinned := { name := "ytpbjdoplfgeliaagreat", sum := "f31b3ec97ba65024e9ee4f2fdbbfda9920bb4942c732ae98c28af78e8d9576e4", checked := Tryz.checked }
namespace Rows
def none {H : Type} : Left H := { results := [], args := [] }

/-- 'drawknifelaw24.LoneHolds': WHATEVER THE INPUT: true; the input reads as it did. -/
def loneHoldsSpec : ChangeSpec := { name := "loneHolds", fn := fun _ => fun
  | [d1, d2, d3, d4] => { results := [.lit (.bool true)], args := [d1, d2, d3, d4] }
  | _ => none }
def loneHoldsRow : OpenClaim := { program := "ytpbjdoplfgeliaagreat", sum := "f31b3ec97ba65024e9ee4f2fdbbfda9920bb4942c732ae98c28af78e8d9576e4", func := "drawknife/drawknifelaw24.LoneHolds", spec := "loneHolds", inPlace := ["math.Float64frombits", "math.Float64bits", "math.archMin", "math.archMax"], unfollowed := true, recurses := true, apart := false }
def LoneHoldsSaid : Prop := loneHoldsRow.holds Tryz.pinned (OpenSpec.ofChange loneHoldsSpec)

/-- ITS FALSE NEIGHBOUR: 'it returns false'. Refute it at one input. -/
def loneHoldsWrong : ChangeSpec := { name := "loneHolds", fn := fun _ => fun
  | [d1, d2, d3, d4] => { results := [.lit (.bool false)], args := [d1, d2, d3, d4] }
  | _ => none }
def LoneHoldsWrongFalsely : Prop := loneHoldsRow.holds Tryz.pinned (OpenSpec.ofChange loneHoldsWrong)

/-- 'drawknifetop.WholePlaces': WHATEVER THE INPUT: true; the input reads as it did. -/
def wholePlacesSpec : ChangeSpec := { name := "wholePlaces", fn := fun _ => fun
  | [d1, d2, d3] => { results := [.lit (.bool true)], args := [d1, d2, d3] }
  | _ => none }
def wholePlacesRow : OpenClaim := { program := "ytpbjdoplfgeliaagreat", sum := "f31b3ec97ba65024e9ee4f2fdbbfda9920bb4942c732ae98c28af78e8d9576e4", func := "drawknife/drawknifetop.WholePlaces", spec := "wholePlaces", inPlace := ["math.Float64frombits", "math.Float64bits", "math.archMin", "math.archMax"], unfollowed := true, recurses := true, apart := false }
def WholePlacesSaid : Prop := wholePlacesRow.holds Tryz.pinned (OpenSpec.ofChange wholePlacesSpec)

/-- ITS FALSE NEIGHBOUR: 'it returns false'. Refute it at one input. -/
def wholePlacesWrong : ChangeSpec := { name := "wholePlaces", fn := fun _ => fun
  | [d1, d2, d3] => { results := [.lit (.bool false)], args := [d1, d2, d3] }
  | _ => none }
def WholePlacesWrongFalsely : Prop := wholePlacesRow.holds Tryz.pinned (OpenSpec.ofChange wholePlacesWrong)

/-- 'drawknifetop.WholeAlone': WHATEVER THE INPUT: true; the input reads as it did. -/
def wholeAloneSpec : ChangeSpec := { name := "wholeAlone", fn := fun _ => fun
  | [d1, d2, d3, d4] => { results := [.lit (.bool true)], args := [d1, d2, d3, d4] }
  | _ => none }
def wholeAloneRow : OpenClaim := { program := "ytpbjdoplfgeliaagreat", sum := "f31b3ec97ba65024e9ee4f2fdbbfda9920bb4942c732ae98c28af78e8d9576e4", func := "drawknife/drawknifetop.WholeAlone", spec := "wholeAlone", inPlace := ["math.Float64frombits", "math.Float64bits", "math.archMin", "math.archMax"], unfollowed := true, recurses := true, apart := false }
def WholeAloneSaid : Prop := wholeAloneRow.holds Tryz.pinned (OpenSpec.ofChange wholeAloneSpec)

/-- ITS FALSE NEIGHBOUR: 'it returns false'. Refute it at one input. -/
def wholeAloneWrong : ChangeSpec := { name := "wholeAlone", fn := fun _ => fun
  | [d1, d2, d3, d4] => { results := [.lit (.bool false)], args := [d1, d2, d3, d4] }
  | _ => none }
def WholeAloneWrongFalsely : Prop := wholeAloneRow.holds Tryz.pinned (OpenSpec.ofChange wholeAloneWrong)

/-- 'drawknifelaw18.AllocShares': WHATEVER THE INPUT: true; the input reads as it did. -/
def allocSharesSpec : ChangeSpec := { name := "allocShares", fn := fun _ => fun
  | [d1, d2, d3, d4, d5] => { results := [.lit (.bool true)], args := [d1, d2, d3, d4, d5] }
  | _ => none }
def allocSharesRow : OpenClaim := { program := "ytpbjdoplfgeliaagreat", sum := "f31b3ec97ba65024e9ee4f2fdbbfda9920bb4942c732ae98c28af78e8d9576e4", func := "drawknife/drawknifelaw18.AllocShares", spec := "allocShares", inPlace := ["math.Float64frombits", "math.Float64bits", "math.archMin", "math.archMax"], unfollowed := true, recurses := true, apart := false }
def AllocSharesSaid : Prop := allocSharesRow.holds Tryz.pinned (OpenSpec.ofChange allocSharesSpec)

/-- ITS FALSE NEIGHBOUR: 'it returns false'. Refute it at one input. -/
def allocSharesWrong : ChangeSpec := { name := "allocShares", fn := fun _ => fun
  | [d1, d2, d3, d4, d5] => { results := [.lit (.bool false)], args := [d1, d2, d3, d4, d5] }
  | _ => none }
def AllocSharesWrongFalsely : Prop := allocSharesRow.holds Tryz.pinned (OpenSpec.ofChange allocSharesWrong)

/-- 'drawknifetop.WholeShares': WHATEVER THE INPUT: true; the input reads as it did. -/
def wholeSharesSpec : ChangeSpec := { name := "wholeShares", fn := fun _ => fun
  | [d1, d2, d3, d4] => { results := [.lit (.bool true)], args := [d1, d2, d3, d4] }
  | _ => none }
def wholeSharesRow : OpenClaim := { program := "ytpbjdoplfgeliaagreat", sum := "f31b3ec97ba65024e9ee4f2fdbbfda9920bb4942c732ae98c28af78e8d9576e4", func := "drawknife/drawknifetop.WholeShares", spec := "wholeShares", inPlace := ["math.Float64frombits", "math.Float64bits", "math.archMin", "math.archMax"], unfollowed := true, recurses := true, apart := false }
def WholeSharesSaid : Prop := wholeSharesRow.holds Tryz.pinned (OpenSpec.ofChange wholeSharesSpec)

/-- ITS FALSE NEIGHBOUR: 'it returns false'. Refute it at one input. -/
def wholeSharesWrong : ChangeSpec := { name := "wholeShares", fn := fun _ => fun
  | [d1, d2, d3, d4] => { results := [.lit (.bool false)], args := [d1, d2, d3, d4] }
  | _ => none }
def WholeSharesWrongFalsely : Prop := wholeSharesRow.holds Tryz.pinned (OpenSpec.ofChange wholeSharesWrong)

/- THE SECOND FORM. 'bulk': how many values and letters a reading holds, each counted each time it is reached (what is shared counts as often as it is met; a slice's spare places count too). A statement '..UptoSaid' is the law's where the arguments, and the package variables that the reading takes, are together of bulk at most 1048576: NARROWER than '..Said'. Prove '..Said' where nothing that the law and all that it calls make is longer than what came in: it says more and counts as full. Else prove '..UptoSaid'. A law counts once. -/
mutual
def uptoBulk {H : Type} : DataW H → Nat
  | .lit (.string bytes) => bytes.length + 1
  | .lit _ => 1
  | .nil => 1
  | .ptr d => uptoBulk d + 1
  | .slice elems spare => uptoBulkAll elems + uptoBulkAll spare + 1
  | .agg parts => uptoBulkAll parts + 1
  | .iface _ d => uptoBulk d + 1
  | .map entries => uptoBulkEntries entries + 1
  | .held _ => 1
def uptoBulkAll {H : Type} : List (DataW H) → Nat
  | [] => 0
  | d :: r => uptoBulk d + uptoBulkAll r
def uptoBulkEntries {H : Type} : List (Lit × DataW H) → Nat
  | [] => 0
  | x :: r => uptoBulkEntry x + uptoBulkEntries r
def uptoBulkEntry {H : Type} : Lit × DataW H → Nat
  | (.string bytes, d) => bytes.length + uptoBulk d + 1
  | (_, d) => uptoBulk d + 1
 end
def uptoSmall : (H : Type) → List (DataW H) → Bool := fun _ ds => decide (uptoBulkAll ds ≤ 1048576)
def OpenSpec.upto (s : _root_.Go.ChangeSpec) : _root_.Go.OpenSpec := { _root_.Go.OpenSpec.ofChange s with cond := some uptoSmall }

/-- 'drawknifelaw24.LoneHolds', WHERE WHAT IT READS IS OF BULK AT MOST 1048576: true; the input reads as it did. -/
def loneHoldsUptoRow : OpenClaim := { program := "ytpbjdoplfgeliaagreat", sum := "f31b3ec97ba65024e9ee4f2fdbbfda9920bb4942c732ae98c28af78e8d9576e4", func := "drawknife/drawknifelaw24.LoneHolds", spec := "loneHolds", inPlace := ["math.Float64frombits", "math.Float64bits", "math.archMin", "math.archMax"], unfollowed := true, recurses := true, apart := false, narrowed := true }
def LoneHoldsUptoSaid : Prop := loneHoldsUptoRow.holds Tryz.pinned (OpenSpec.upto loneHoldsSpec)

/-- 'drawknifetop.WholePlaces', WHERE WHAT IT READS IS OF BULK AT MOST 1048576: true; the input reads as it did. -/
def wholePlacesUptoRow : OpenClaim := { program := "ytpbjdoplfgeliaagreat", sum := "f31b3ec97ba65024e9ee4f2fdbbfda9920bb4942c732ae98c28af78e8d9576e4", func := "drawknife/drawknifetop.WholePlaces", spec := "wholePlaces", inPlace := ["math.Float64frombits", "math.Float64bits", "math.archMin", "math.archMax"], unfollowed := true, recurses := true, apart := false, narrowed := true }
def WholePlacesUptoSaid : Prop := wholePlacesUptoRow.holds Tryz.pinned (OpenSpec.upto wholePlacesSpec)

/-- 'drawknifetop.WholeAlone', WHERE WHAT IT READS IS OF BULK AT MOST 1048576: true; the input reads as it did. -/
def wholeAloneUptoRow : OpenClaim := { program := "ytpbjdoplfgeliaagreat", sum := "f31b3ec97ba65024e9ee4f2fdbbfda9920bb4942c732ae98c28af78e8d9576e4", func := "drawknife/drawknifetop.WholeAlone", spec := "wholeAlone", inPlace := ["math.Float64frombits", "math.Float64bits", "math.archMin", "math.archMax"], unfollowed := true, recurses := true, apart := false, narrowed := true }
def WholeAloneUptoSaid : Prop := wholeAloneUptoRow.holds Tryz.pinned (OpenSpec.upto wholeAloneSpec)

/-- 'drawknifelaw18.AllocShares', WHERE WHAT IT READS IS OF BULK AT MOST 1048576: true; the input reads as it did. -/
def allocSharesUptoRow : OpenClaim := { program := "ytpbjdoplfgeliaagreat", sum := "f31b3ec97ba65024e9ee4f2fdbbfda9920bb4942c732ae98c28af78e8d9576e4", func := "drawknife/drawknifelaw18.AllocShares", spec := "allocShares", inPlace := ["math.Float64frombits", "math.Float64bits", "math.archMin", "math.archMax"], unfollowed := true, recurses := true, apart := false, narrowed := true }
def AllocSharesUptoSaid : Prop := allocSharesUptoRow.holds Tryz.pinned (OpenSpec.upto allocSharesSpec)

/-- 'drawknifetop.WholeShares', WHERE WHAT IT READS IS OF BULK AT MOST 1048576: true; the input reads as it did. -/
def wholeSharesUptoRow : OpenClaim := { program := "ytpbjdoplfgeliaagreat", sum := "f31b3ec97ba65024e9ee4f2fdbbfda9920bb4942c732ae98c28af78e8d9576e4", func := "drawknife/drawknifetop.WholeShares", spec := "wholeShares", inPlace := ["math.Float64frombits", "math.Float64bits", "math.archMin", "math.archMax"], unfollowed := true, recurses := true, apart := false, narrowed := true }
def WholeSharesUptoSaid : Prop := wholeSharesUptoRow.holds Tryz.pinned (OpenSpec.upto wholeSharesSpec)

end Rows
end Go.Proofs.YtpbjdoplfgeliaaGreat
