/-
  No cell of these rows narrows 'for every input' (looked for: loops, veiled, ifaces, maps, wideKeys, modest, calm, conditions, laid).
  DERIVED. THE GIVEN ROWS OF THIS SEAT. 6 by the template 'for every input the law returns true; each argument reads behind the call as it read before'; 0 by the template 'total and deterministic' (their statements: YtefdijgllbkmfaaGreatTotals.lean).
  GIVEN WITH THE SEED: the statements are not yours to turn. If you find one false, say at which input.
  Laid BY PROGRAM, IN A SANDBOX (cutbox-rows.mjs): the forced cells as the released guide's own fill.sh prints them over the translation d5271ef16d311534… (all of the seat's roots in one cut). By AI agents, Wed Nov 11 2026. No macro, syntax, notation, axiom, sorry.
-/
import Derived.Test.YtefdijgllbkmfaaGreatChecked
import GoSem.Claim
import GoSem.ClaimJoined
import GoSem.ClaimMapViews
import Derived.JoinedTies
import Derived.KernelRfl
namespace Go.Proofs.YtefdijgllbkmfaaGreat
/- THE CELL 'sum', in the pinned program and in every row, IS THE sha256 OF THE DUMP (.gsa) THAT YtefdijgllbkmfaaGreatProg.lean LOADS. Nothing in Lean hashes anything: it is a label: what it is worth is what the hold of that sum in a sandbox is worth. -/
noncomputable def Tryz.pinned : Pinned := { name := "ytefdijgllbkmfaagreat", sum := "d5271ef16d31153420288f95d7f3fb394102c6fa957943c3527109019823661b", checked := Tryz.checked }
namespace Rows
def none {H : Type} : Left H := { results := [], args := [] }

/-- 'drawknifelaw10.CorePlays': WHATEVER THE INPUT: true; the input reads as it did. -/
def corePlaysSpec : ChangeSpec := { name := "corePlays", fn := fun _ => fun
  | [d1, d2] => { results := [.lit (.bool true)], args := [d1, d2] }
  | _ => none }
def corePlaysRow : OpenClaim := { program := "ytefdijgllbkmfaagreat", sum := "d5271ef16d31153420288f95d7f3fb394102c6fa957943c3527109019823661b", func := "drawknife/drawknifelaw10.CorePlays", spec := "corePlays", inPlace := ["math.Float64frombits", "math.Float64bits", "math.archMin", "math.archMax"], unfollowed := true, recurses := true, apart := false }
def CorePlaysSaid : Prop := corePlaysRow.holds Tryz.pinned (OpenSpec.ofChange corePlaysSpec)

/-- ITS FALSE NEIGHBOUR: 'it returns false'. Refute it at one input. -/
def corePlaysWrong : ChangeSpec := { name := "corePlays", fn := fun _ => fun
  | [d1, d2] => { results := [.lit (.bool false)], args := [d1, d2] }
  | _ => none }
def CorePlaysWrongFalsely : Prop := corePlaysRow.holds Tryz.pinned (OpenSpec.ofChange corePlaysWrong)

/-- 'drawknifelaw24.LoneAlone': WHATEVER THE INPUT: true; the input reads as it did. -/
def loneAloneSpec : ChangeSpec := { name := "loneAlone", fn := fun _ => fun
  | [d1, d2, d3] => { results := [.lit (.bool true)], args := [d1, d2, d3] }
  | _ => none }
def loneAloneRow : OpenClaim := { program := "ytefdijgllbkmfaagreat", sum := "d5271ef16d31153420288f95d7f3fb394102c6fa957943c3527109019823661b", func := "drawknife/drawknifelaw24.LoneAlone", spec := "loneAlone", inPlace := ["math.Float64frombits", "math.Float64bits", "math.archMin", "math.archMax"], unfollowed := true, recurses := true, apart := false }
def LoneAloneSaid : Prop := loneAloneRow.holds Tryz.pinned (OpenSpec.ofChange loneAloneSpec)

/-- ITS FALSE NEIGHBOUR: 'it returns false'. Refute it at one input. -/
def loneAloneWrong : ChangeSpec := { name := "loneAlone", fn := fun _ => fun
  | [d1, d2, d3] => { results := [.lit (.bool false)], args := [d1, d2, d3] }
  | _ => none }
def LoneAloneWrongFalsely : Prop := loneAloneRow.holds Tryz.pinned (OpenSpec.ofChange loneAloneWrong)

/-- 'drawknifelaw11.OnePlays': WHATEVER THE INPUT: true; the input reads as it did. -/
def onePlaysSpec : ChangeSpec := { name := "onePlays", fn := fun _ => fun
  | [d1, d2] => { results := [.lit (.bool true)], args := [d1, d2] }
  | _ => none }
def onePlaysRow : OpenClaim := { program := "ytefdijgllbkmfaagreat", sum := "d5271ef16d31153420288f95d7f3fb394102c6fa957943c3527109019823661b", func := "drawknife/drawknifelaw11.OnePlays", spec := "onePlays", inPlace := ["math.Float64frombits", "math.Float64bits", "math.archMin", "math.archMax"], unfollowed := true, recurses := true, apart := false }
def OnePlaysSaid : Prop := onePlaysRow.holds Tryz.pinned (OpenSpec.ofChange onePlaysSpec)

/-- ITS FALSE NEIGHBOUR: 'it returns false'. Refute it at one input. -/
def onePlaysWrong : ChangeSpec := { name := "onePlays", fn := fun _ => fun
  | [d1, d2] => { results := [.lit (.bool false)], args := [d1, d2] }
  | _ => none }
def OnePlaysWrongFalsely : Prop := onePlaysRow.holds Tryz.pinned (OpenSpec.ofChange onePlaysWrong)

/-- 'drawknifelaw29.MeterBalances': WHATEVER THE INPUT: true; the input reads as it did. -/
def meterBalancesSpec : ChangeSpec := { name := "meterBalances", fn := fun _ => fun
  | [d1, d2] => { results := [.lit (.bool true)], args := [d1, d2] }
  | _ => none }
def meterBalancesRow : OpenClaim := { program := "ytefdijgllbkmfaagreat", sum := "d5271ef16d31153420288f95d7f3fb394102c6fa957943c3527109019823661b", func := "drawknife/drawknifelaw29.MeterBalances", spec := "meterBalances", inPlace := ["math.Float64frombits", "math.Float64bits", "math.archMin", "math.archMax"], unfollowed := true, recurses := true, apart := false }
def MeterBalancesSaid : Prop := meterBalancesRow.holds Tryz.pinned (OpenSpec.ofChange meterBalancesSpec)

/-- ITS FALSE NEIGHBOUR: 'it returns false'. Refute it at one input. -/
def meterBalancesWrong : ChangeSpec := { name := "meterBalances", fn := fun _ => fun
  | [d1, d2] => { results := [.lit (.bool false)], args := [d1, d2] }
  | _ => none }
def MeterBalancesWrongFalsely : Prop := meterBalancesRow.holds Tryz.pinned (OpenSpec.ofChange meterBalancesWrong)

/-- 'drawknifelaw30.HuntNexts': WHATEVER THE INPUT: true; the input reads as it did. -/
def huntNextsSpec : ChangeSpec := { name := "huntNexts", fn := fun _ => fun
  | [d1, d2] => { results := [.lit (.bool true)], args := [d1, d2] }
  | _ => none }
def huntNextsRow : OpenClaim := { program := "ytefdijgllbkmfaagreat", sum := "d5271ef16d31153420288f95d7f3fb394102c6fa957943c3527109019823661b", func := "drawknife/drawknifelaw30.HuntNexts", spec := "huntNexts", inPlace := ["math.Float64frombits", "math.Float64bits", "math.archMin", "math.archMax"], unfollowed := true, recurses := true, apart := false }
def HuntNextsSaid : Prop := huntNextsRow.holds Tryz.pinned (OpenSpec.ofChange huntNextsSpec)

/-- ITS FALSE NEIGHBOUR: 'it returns false'. Refute it at one input. -/
def huntNextsWrong : ChangeSpec := { name := "huntNexts", fn := fun _ => fun
  | [d1, d2] => { results := [.lit (.bool false)], args := [d1, d2] }
  | _ => none }
def HuntNextsWrongFalsely : Prop := huntNextsRow.holds Tryz.pinned (OpenSpec.ofChange huntNextsWrong)

/-- 'drawknifelaw20.MatchReplays': WHATEVER THE INPUT: true; the input reads as it did. -/
def matchReplaysSpec : ChangeSpec := { name := "matchReplays", fn := fun _ => fun
  | [d1, d2] => { results := [.lit (.bool true)], args := [d1, d2] }
  | _ => none }
def matchReplaysRow : OpenClaim := { program := "ytefdijgllbkmfaagreat", sum := "d5271ef16d31153420288f95d7f3fb394102c6fa957943c3527109019823661b", func := "drawknife/drawknifelaw20.MatchReplays", spec := "matchReplays", inPlace := ["math.Float64frombits", "math.Float64bits", "math.archMin", "math.archMax"], unfollowed := true, recurses := true, apart := false }
def MatchReplaysSaid : Prop := matchReplaysRow.holds Tryz.pinned (OpenSpec.ofChange matchReplaysSpec)

/-- ITS FALSE NEIGHBOUR: 'it returns false'. Refute it at one input. -/
def matchReplaysWrong : ChangeSpec := { name := "matchReplays", fn := fun _ => fun
  | [d1, d2] => { results := [.lit (.bool false)], args := [d1, d2] }
  | _ => none }
def MatchReplaysWrongFalsely : Prop := matchReplaysRow.holds Tryz.pinned (OpenSpec.ofChange matchReplaysWrong)

/- THE SECOND FORM. 'bulk': how many values and letters a reading holds, each counted each time it is reached (what is shared counts as often as it is met; a slice's spare places count too). A statement '..UptoSaid' is the law's where the arguments, and the package variables that the reading takes, are together of bulk at most 1048576: NARROWER than '..Said'. Prove '..Said' where nothing that the law and all that it calls make is longer than what came in: it says more and counts as full. Else prove '..UptoSaid'. A law counts once. -/
mutual
def uptoBulk {H : Type} : DataW H → Nat
  | .lit (.string bytes) => bytes.length + 1
  | .lit _ => 1
  | .nil => 1
  | .ptr d => uptoBulk d + 1
  | .slice elems spare => uptoBulkAll elems + uptoBulkAll spare + 1
  | .agg parts => uptoBulkAll parts + 1
  | .iface _ d => uptoBulk d + 1
  | .map entries => uptoBulkEntries entries + 1
  | .held _ => 1
def uptoBulkAll {H : Type} : List (DataW H) → Nat
  | [] => 0
  | d :: r => uptoBulk d + uptoBulkAll r
def uptoBulkEntries {H : Type} : List (Lit × DataW H) → Nat
  | [] => 0
  | x :: r => uptoBulkEntry x + uptoBulkEntries r
def uptoBulkEntry {H : Type} : Lit × DataW H → Nat
  | (.string bytes, d) => bytes.length + uptoBulk d + 1
  | (_, d) => uptoBulk d + 1
 end
def uptoSmall : (H : Type) → List (DataW H) → Bool := fun _ ds => decide (uptoBulkAll ds ≤ 1048576)
def OpenSpec.upto (s : _root_.Go.ChangeSpec) : _root_.Go.OpenSpec := { _root_.Go.OpenSpec.ofChange s with cond := some uptoSmall }

/-- 'drawknifelaw10.CorePlays', WHERE WHAT IT READS IS OF BULK AT MOST 1048576: true; the input reads as it did. -/
def corePlaysUptoRow : OpenClaim := { program := "ytefdijgllbkmfaagreat", sum := "d5271ef16d31153420288f95d7f3fb394102c6fa957943c3527109019823661b", func := "drawknife/drawknifelaw10.CorePlays", spec := "corePlays", inPlace := ["math.Float64frombits", "math.Float64bits", "math.archMin", "math.archMax"], unfollowed := true, recurses := true, apart := false, narrowed := true }
def CorePlaysUptoSaid : Prop := corePlaysUptoRow.holds Tryz.pinned (OpenSpec.upto corePlaysSpec)

/-- 'drawknifelaw24.LoneAlone', WHERE WHAT IT READS IS OF BULK AT MOST 1048576: true; the input reads as it did. -/
def loneAloneUptoRow : OpenClaim := { program := "ytefdijgllbkmfaagreat", sum := "d5271ef16d31153420288f95d7f3fb394102c6fa957943c3527109019823661b", func := "drawknife/drawknifelaw24.LoneAlone", spec := "loneAlone", inPlace := ["math.Float64frombits", "math.Float64bits", "math.archMin", "math.archMax"], unfollowed := true, recurses := true, apart := false, narrowed := true }
def LoneAloneUptoSaid : Prop := loneAloneUptoRow.holds Tryz.pinned (OpenSpec.upto loneAloneSpec)

/-- 'drawknifelaw11.OnePlays', WHERE WHAT IT READS IS OF BULK AT MOST 1048576: true; the input reads as it did. -/
def onePlaysUptoRow : OpenClaim := { program := "ytefdijgllbkmfaagreat", sum := "d5271ef16d31153420288f95d7f3fb394102c6fa957943c3527109019823661b", func := "drawknife/drawknifelaw11.OnePlays", spec := "onePlays", inPlace := ["math.Float64frombits", "math.Float64bits", "math.archMin", "math.archMax"], unfollowed := true, recurses := true, apart := false, narrowed := true }
def OnePlaysUptoSaid : Prop := onePlaysUptoRow.holds Tryz.pinned (OpenSpec.upto onePlaysSpec)

/-- 'drawknifelaw29.MeterBalances', WHERE WHAT IT READS IS OF BULK AT MOST 1048576: true; the input reads as it did. -/
def meterBalancesUptoRow : OpenClaim := { program := "ytefdijgllbkmfaagreat", sum := "d5271ef16d31153420288f95d7f3fb394102c6fa957943c3527109019823661b", func := "drawknife/drawknifelaw29.MeterBalances", spec := "meterBalances", inPlace := ["math.Float64frombits", "math.Float64bits", "math.archMin", "math.archMax"], unfollowed := true, recurses := true, apart := false, narrowed := true }
def MeterBalancesUptoSaid : Prop := meterBalancesUptoRow.holds Tryz.pinned (OpenSpec.upto meterBalancesSpec)

/-- 'drawknifelaw30.HuntNexts', WHERE WHAT IT READS IS OF BULK AT MOST 1048576: true; the input reads as it did. -/
def huntNextsUptoRow : OpenClaim := { program := "ytefdijgllbkmfaagreat", sum := "d5271ef16d31153420288f95d7f3fb394102c6fa957943c3527109019823661b", func := "drawknife/drawknifelaw30.HuntNexts", spec := "huntNexts", inPlace := ["math.Float64frombits", "math.Float64bits", "math.archMin", "math.archMax"], unfollowed := true, recurses := true, apart := false, narrowed := true }
def HuntNextsUptoSaid : Prop := huntNextsUptoRow.holds Tryz.pinned (OpenSpec.upto huntNextsSpec)

/-- 'drawknifelaw20.MatchReplays', WHERE WHAT IT READS IS OF BULK AT MOST 1048576: true; the input reads as it did. -/
def matchReplaysUptoRow : OpenClaim := { program := "ytefdijgllbkmfaagreat", sum := "d5271ef16d31153420288f95d7f3fb394102c6fa957943c3527109019823661b", func := "drawknife/drawknifelaw20.MatchReplays", spec := "matchReplays", inPlace := ["math.Float64frombits", "math.Float64bits", "math.archMin", "math.archMax"], unfollowed := true, recurses := true, apart := false, narrowed := true }
def MatchReplaysUptoSaid : Prop := matchReplaysUptoRow.holds Tryz.pinned (OpenSpec.upto matchReplaysSpec)

end Rows
end Go.Proofs.YtefdijgllbkmfaaGreat
