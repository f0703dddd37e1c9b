/-
  No cell of these rows narrows 'for every input' (looked for: loops, veiled, ifaces, maps, wideKeys, modest, calm, conditions, laid).
  DERIVED. THE GIVEN ROWS OF THIS SEAT. 12 by the template 'for every input the law returns true; each argument reads behind the call as it read before'; 0 by the template 'total and deterministic' (their statements: YtpcjdohmjmeehaaGreatTotals.lean).
  GIVEN WITH THE SEED: the statements are not yours to turn. If you find one false, say at which input.
  Laid BY PROGRAM, IN A SANDBOX (cutbox-rows.mjs): the forced cells as the released guide's own fill.sh prints them over the translation d49dd24d895fd6ed… (all of the seat's roots in one cut). By AI agents, Wed Nov 11 2026. No macro, syntax, notation, axiom, sorry.
-/
import Derived.Test.YtpcjdohmjmeehaaGreatChecked
import GoSem.Claim
import GoSem.ClaimJoined
import GoSem.ClaimMapViews
import Derived.JoinedTies
import Derived.KernelRfl
namespace Go.Proofs.YtpcjdohmjmeehaaGreat
/- THE CELL 'sum', in the pinned program and in every row, IS THE sha256 OF THE DUMP (.gsa) THAT YtpcjdohmjmeehaaGreatProg.lean LOADS. Nothing in Lean hashes anything: it is a label: what it is worth is what the hold of that sum in a sandbox is worth. -/
noncomputable def Tryz.pinned : Pinned := { name := "ytpcjdohmjmeehaagreat", sum := "d49dd24d895fd6ed752bc3e6deb0ca048e9b8dea174779f054b24ed29fd80418", checked := Tryz.checked }
namespace Rows
def none {H : Type} : Left H := { results := [], args := [] }

/-- 'drawknifelaw10.CoreBegins': WHATEVER THE INPUT: true; the input reads as it did. -/
def coreBeginsSpec : ChangeSpec := { name := "coreBegins", fn := fun _ => fun
  | [d1, d2] => { results := [.lit (.bool true)], args := [d1, d2] }
  | _ => none }
def coreBeginsRow : OpenClaim := { program := "ytpcjdohmjmeehaagreat", sum := "d49dd24d895fd6ed752bc3e6deb0ca048e9b8dea174779f054b24ed29fd80418", func := "drawknife/drawknifelaw10.CoreBegins", spec := "coreBegins", inPlace := ["math.Float64frombits", "math.Float64bits", "math.archMin", "math.archMax"], unfollowed := true, recurses := true, apart := false }
def CoreBeginsSaid : Prop := coreBeginsRow.holds Tryz.pinned (OpenSpec.ofChange coreBeginsSpec)

/-- ITS FALSE NEIGHBOUR: 'it returns false'. Refute it at one input. -/
def coreBeginsWrong : ChangeSpec := { name := "coreBegins", fn := fun _ => fun
  | [d1, d2] => { results := [.lit (.bool false)], args := [d1, d2] }
  | _ => none }
def CoreBeginsWrongFalsely : Prop := coreBeginsRow.holds Tryz.pinned (OpenSpec.ofChange coreBeginsWrong)

/-- 'drawknifelaw10.CoreWakes': WHATEVER THE INPUT: true; the input reads as it did. -/
def coreWakesSpec : ChangeSpec := { name := "coreWakes", fn := fun _ => fun
  | [d1, d2] => { results := [.lit (.bool true)], args := [d1, d2] }
  | _ => none }
def coreWakesRow : OpenClaim := { program := "ytpcjdohmjmeehaagreat", sum := "d49dd24d895fd6ed752bc3e6deb0ca048e9b8dea174779f054b24ed29fd80418", func := "drawknife/drawknifelaw10.CoreWakes", spec := "coreWakes", inPlace := ["math.Float64frombits", "math.Float64bits", "math.archMin", "math.archMax"], unfollowed := true, recurses := true, apart := false }
def CoreWakesSaid : Prop := coreWakesRow.holds Tryz.pinned (OpenSpec.ofChange coreWakesSpec)

/-- ITS FALSE NEIGHBOUR: 'it returns false'. Refute it at one input. -/
def coreWakesWrong : ChangeSpec := { name := "coreWakes", fn := fun _ => fun
  | [d1, d2] => { results := [.lit (.bool false)], args := [d1, d2] }
  | _ => none }
def CoreWakesWrongFalsely : Prop := coreWakesRow.holds Tryz.pinned (OpenSpec.ofChange coreWakesWrong)

/-- 'drawknifelaw10.CoreAgain': WHATEVER THE INPUT: true; the input reads as it did. -/
def coreAgainSpec : ChangeSpec := { name := "coreAgain", fn := fun _ => fun
  | [d1, d2] => { results := [.lit (.bool true)], args := [d1, d2] }
  | _ => none }
def coreAgainRow : OpenClaim := { program := "ytpcjdohmjmeehaagreat", sum := "d49dd24d895fd6ed752bc3e6deb0ca048e9b8dea174779f054b24ed29fd80418", func := "drawknife/drawknifelaw10.CoreAgain", spec := "coreAgain", inPlace := ["math.Float64frombits", "math.Float64bits", "math.archMin", "math.archMax"], unfollowed := true, recurses := true, apart := false }
def CoreAgainSaid : Prop := coreAgainRow.holds Tryz.pinned (OpenSpec.ofChange coreAgainSpec)

/-- ITS FALSE NEIGHBOUR: 'it returns false'. Refute it at one input. -/
def coreAgainWrong : ChangeSpec := { name := "coreAgain", fn := fun _ => fun
  | [d1, d2] => { results := [.lit (.bool false)], args := [d1, d2] }
  | _ => none }
def CoreAgainWrongFalsely : Prop := coreAgainRow.holds Tryz.pinned (OpenSpec.ofChange coreAgainWrong)

/-- 'drawknifelaw10.CorePlays': WHATEVER THE INPUT: true; the input reads as it did. -/
def corePlaysSpec : ChangeSpec := { name := "corePlays", fn := fun _ => fun
  | [d1, d2] => { results := [.lit (.bool true)], args := [d1, d2] }
  | _ => none }
def corePlaysRow : OpenClaim := { program := "ytpcjdohmjmeehaagreat", sum := "d49dd24d895fd6ed752bc3e6deb0ca048e9b8dea174779f054b24ed29fd80418", func := "drawknife/drawknifelaw10.CorePlays", spec := "corePlays", inPlace := ["math.Float64frombits", "math.Float64bits", "math.archMin", "math.archMax"], unfollowed := true, recurses := true, apart := false }
def CorePlaysSaid : Prop := corePlaysRow.holds Tryz.pinned (OpenSpec.ofChange corePlaysSpec)

/-- ITS FALSE NEIGHBOUR: 'it returns false'. Refute it at one input. -/
def corePlaysWrong : ChangeSpec := { name := "corePlays", fn := fun _ => fun
  | [d1, d2] => { results := [.lit (.bool false)], args := [d1, d2] }
  | _ => none }
def CorePlaysWrongFalsely : Prop := corePlaysRow.holds Tryz.pinned (OpenSpec.ofChange corePlaysWrong)

/-- 'drawknifelaw10.CoreNone': WHATEVER THE INPUT: true; the input reads as it did. -/
def coreNoneSpec : ChangeSpec := { name := "coreNone", fn := fun _ => fun
  | [d1, d2] => { results := [.lit (.bool true)], args := [d1, d2] }
  | _ => none }
def coreNoneRow : OpenClaim := { program := "ytpcjdohmjmeehaagreat", sum := "d49dd24d895fd6ed752bc3e6deb0ca048e9b8dea174779f054b24ed29fd80418", func := "drawknife/drawknifelaw10.CoreNone", spec := "coreNone", inPlace := ["math.Float64frombits", "math.Float64bits", "math.archMin", "math.archMax"], unfollowed := true, recurses := true, apart := false }
def CoreNoneSaid : Prop := coreNoneRow.holds Tryz.pinned (OpenSpec.ofChange coreNoneSpec)

/-- ITS FALSE NEIGHBOUR: 'it returns false'. Refute it at one input. -/
def coreNoneWrong : ChangeSpec := { name := "coreNone", fn := fun _ => fun
  | [d1, d2] => { results := [.lit (.bool false)], args := [d1, d2] }
  | _ => none }
def CoreNoneWrongFalsely : Prop := coreNoneRow.holds Tryz.pinned (OpenSpec.ofChange coreNoneWrong)

/-- 'drawknifelaw11.OneRuns': WHATEVER THE INPUT: true; the input reads as it did. -/
def oneRunsSpec : ChangeSpec := { name := "oneRuns", fn := fun _ => fun
  | [d1, d2] => { results := [.lit (.bool true)], args := [d1, d2] }
  | _ => none }
def oneRunsRow : OpenClaim := { program := "ytpcjdohmjmeehaagreat", sum := "d49dd24d895fd6ed752bc3e6deb0ca048e9b8dea174779f054b24ed29fd80418", func := "drawknife/drawknifelaw11.OneRuns", spec := "oneRuns", inPlace := ["math.Float64frombits", "math.Float64bits", "math.archMin", "math.archMax"], unfollowed := true, recurses := true, apart := false }
def OneRunsSaid : Prop := oneRunsRow.holds Tryz.pinned (OpenSpec.ofChange oneRunsSpec)

/-- ITS FALSE NEIGHBOUR: 'it returns false'. Refute it at one input. -/
def oneRunsWrong : ChangeSpec := { name := "oneRuns", fn := fun _ => fun
  | [d1, d2] => { results := [.lit (.bool false)], args := [d1, d2] }
  | _ => none }
def OneRunsWrongFalsely : Prop := oneRunsRow.holds Tryz.pinned (OpenSpec.ofChange oneRunsWrong)

/-- 'drawknifelaw11.OneApart': WHATEVER THE INPUT: true; the input reads as it did. -/
def oneApartSpec : ChangeSpec := { name := "oneApart", fn := fun _ => fun
  | [d1, d2, d3] => { results := [.lit (.bool true)], args := [d1, d2, d3] }
  | _ => none }
def oneApartRow : OpenClaim := { program := "ytpcjdohmjmeehaagreat", sum := "d49dd24d895fd6ed752bc3e6deb0ca048e9b8dea174779f054b24ed29fd80418", func := "drawknife/drawknifelaw11.OneApart", spec := "oneApart", inPlace := ["math.Float64frombits", "math.Float64bits", "math.archMin", "math.archMax"], unfollowed := true, recurses := true, apart := false }
def OneApartSaid : Prop := oneApartRow.holds Tryz.pinned (OpenSpec.ofChange oneApartSpec)

/-- ITS FALSE NEIGHBOUR: 'it returns false'. Refute it at one input. -/
def oneApartWrong : ChangeSpec := { name := "oneApart", fn := fun _ => fun
  | [d1, d2, d3] => { results := [.lit (.bool false)], args := [d1, d2, d3] }
  | _ => none }
def OneApartWrongFalsely : Prop := oneApartRow.holds Tryz.pinned (OpenSpec.ofChange oneApartWrong)

/-- 'drawknifelaw24.LoneActs': WHATEVER THE INPUT: true; the input reads as it did. -/
def loneActsSpec : ChangeSpec := { name := "loneActs", fn := fun _ => fun
  | [d1, d2] => { results := [.lit (.bool true)], args := [d1, d2] }
  | _ => none }
def loneActsRow : OpenClaim := { program := "ytpcjdohmjmeehaagreat", sum := "d49dd24d895fd6ed752bc3e6deb0ca048e9b8dea174779f054b24ed29fd80418", func := "drawknife/drawknifelaw24.LoneActs", spec := "loneActs", inPlace := ["math.Float64frombits", "math.Float64bits", "math.archMin", "math.archMax"], unfollowed := true, recurses := true, apart := false }
def LoneActsSaid : Prop := loneActsRow.holds Tryz.pinned (OpenSpec.ofChange loneActsSpec)

/-- ITS FALSE NEIGHBOUR: 'it returns false'. Refute it at one input. -/
def loneActsWrong : ChangeSpec := { name := "loneActs", fn := fun _ => fun
  | [d1, d2] => { results := [.lit (.bool false)], args := [d1, d2] }
  | _ => none }
def LoneActsWrongFalsely : Prop := loneActsRow.holds Tryz.pinned (OpenSpec.ofChange loneActsWrong)

/-- 'drawknifelaw24.LoneAlone': WHATEVER THE INPUT: true; the input reads as it did. -/
def loneAloneSpec : ChangeSpec := { name := "loneAlone", fn := fun _ => fun
  | [d1, d2, d3] => { results := [.lit (.bool true)], args := [d1, d2, d3] }
  | _ => none }
def loneAloneRow : OpenClaim := { program := "ytpcjdohmjmeehaagreat", sum := "d49dd24d895fd6ed752bc3e6deb0ca048e9b8dea174779f054b24ed29fd80418", func := "drawknife/drawknifelaw24.LoneAlone", spec := "loneAlone", inPlace := ["math.Float64frombits", "math.Float64bits", "math.archMin", "math.archMax"], unfollowed := true, recurses := true, apart := false }
def LoneAloneSaid : Prop := loneAloneRow.holds Tryz.pinned (OpenSpec.ofChange loneAloneSpec)

/-- ITS FALSE NEIGHBOUR: 'it returns false'. Refute it at one input. -/
def loneAloneWrong : ChangeSpec := { name := "loneAlone", fn := fun _ => fun
  | [d1, d2, d3] => { results := [.lit (.bool false)], args := [d1, d2, d3] }
  | _ => none }
def LoneAloneWrongFalsely : Prop := loneAloneRow.holds Tryz.pinned (OpenSpec.ofChange loneAloneWrong)

/-- 'drawknifelaw24.LoneOther': WHATEVER THE INPUT: true; the input reads as it did. -/
def loneOtherSpec : ChangeSpec := { name := "loneOther", fn := fun _ => fun
  | [d1, d2, d3, d4, d5] => { results := [.lit (.bool true)], args := [d1, d2, d3, d4, d5] }
  | _ => none }
def loneOtherRow : OpenClaim := { program := "ytpcjdohmjmeehaagreat", sum := "d49dd24d895fd6ed752bc3e6deb0ca048e9b8dea174779f054b24ed29fd80418", func := "drawknife/drawknifelaw24.LoneOther", spec := "loneOther", inPlace := ["math.Float64frombits", "math.Float64bits", "math.archMin", "math.archMax"], unfollowed := true, recurses := true, apart := false }
def LoneOtherSaid : Prop := loneOtherRow.holds Tryz.pinned (OpenSpec.ofChange loneOtherSpec)

/-- ITS FALSE NEIGHBOUR: 'it returns false'. Refute it at one input. -/
def loneOtherWrong : ChangeSpec := { name := "loneOther", fn := fun _ => fun
  | [d1, d2, d3, d4, d5] => { results := [.lit (.bool false)], args := [d1, d2, d3, d4, d5] }
  | _ => none }
def LoneOtherWrongFalsely : Prop := loneOtherRow.holds Tryz.pinned (OpenSpec.ofChange loneOtherWrong)

/-- 'drawknifelaw11.OnePlays': WHATEVER THE INPUT: true; the input reads as it did. -/
def onePlaysSpec : ChangeSpec := { name := "onePlays", fn := fun _ => fun
  | [d1, d2] => { results := [.lit (.bool true)], args := [d1, d2] }
  | _ => none }
def onePlaysRow : OpenClaim := { program := "ytpcjdohmjmeehaagreat", sum := "d49dd24d895fd6ed752bc3e6deb0ca048e9b8dea174779f054b24ed29fd80418", func := "drawknife/drawknifelaw11.OnePlays", spec := "onePlays", inPlace := ["math.Float64frombits", "math.Float64bits", "math.archMin", "math.archMax"], unfollowed := true, recurses := true, apart := false }
def OnePlaysSaid : Prop := onePlaysRow.holds Tryz.pinned (OpenSpec.ofChange onePlaysSpec)

/-- ITS FALSE NEIGHBOUR: 'it returns false'. Refute it at one input. -/
def onePlaysWrong : ChangeSpec := { name := "onePlays", fn := fun _ => fun
  | [d1, d2] => { results := [.lit (.bool false)], args := [d1, d2] }
  | _ => none }
def OnePlaysWrongFalsely : Prop := onePlaysRow.holds Tryz.pinned (OpenSpec.ofChange onePlaysWrong)

/-- 'drawknifelaw11.OneNone': WHATEVER THE INPUT: true; the input reads as it did. -/
def oneNoneSpec : ChangeSpec := { name := "oneNone", fn := fun _ => fun
  | [d1, d2, d3] => { results := [.lit (.bool true)], args := [d1, d2, d3] }
  | _ => none }
def oneNoneRow : OpenClaim := { program := "ytpcjdohmjmeehaagreat", sum := "d49dd24d895fd6ed752bc3e6deb0ca048e9b8dea174779f054b24ed29fd80418", func := "drawknife/drawknifelaw11.OneNone", spec := "oneNone", inPlace := ["math.Float64frombits", "math.Float64bits", "math.archMin", "math.archMax"], unfollowed := true, recurses := true, apart := false }
def OneNoneSaid : Prop := oneNoneRow.holds Tryz.pinned (OpenSpec.ofChange oneNoneSpec)

/-- ITS FALSE NEIGHBOUR: 'it returns false'. Refute it at one input. -/
def oneNoneWrong : ChangeSpec := { name := "oneNone", fn := fun _ => fun
  | [d1, d2, d3] => { results := [.lit (.bool false)], args := [d1, d2, d3] }
  | _ => none }
def OneNoneWrongFalsely : Prop := oneNoneRow.holds Tryz.pinned (OpenSpec.ofChange oneNoneWrong)

/- THE SECOND FORM. 'bulk': how many values and letters a reading holds, each counted each time it is reached (what is shared counts as often as it is met; a slice's spare places count too). A statement '..UptoSaid' is the law's where the arguments, and the package variables that the reading takes, are together of bulk at most 1048576: NARROWER than '..Said'. Prove '..Said' where nothing that the law and all that it calls make is longer than what came in: it says more and counts as full. Else prove '..UptoSaid'. A law counts once. -/
mutual
def uptoBulk {H : Type} : DataW H → Nat
  | .lit (.string bytes) => bytes.length + 1
  | .lit _ => 1
  | .nil => 1
  | .ptr d => uptoBulk d + 1
  | .slice elems spare => uptoBulkAll elems + uptoBulkAll spare + 1
  | .agg parts => uptoBulkAll parts + 1
  | .iface _ d => uptoBulk d + 1
  | .map entries => uptoBulkEntries entries + 1
  | .held _ => 1
def uptoBulkAll {H : Type} : List (DataW H) → Nat
  | [] => 0
  | d :: r => uptoBulk d + uptoBulkAll r
def uptoBulkEntries {H : Type} : List (Lit × DataW H) → Nat
  | [] => 0
  | x :: r => uptoBulkEntry x + uptoBulkEntries r
def uptoBulkEntry {H : Type} : Lit × DataW H → Nat
  | (.string bytes, d) => bytes.length + uptoBulk d + 1
  | (_, d) => uptoBulk d + 1
 end
def uptoSmall : (H : Type) → List (DataW H) → Bool := fun _ ds => decide (uptoBulkAll ds ≤ 1048576)
def OpenSpec.upto (s : _root_.Go.ChangeSpec) : _root_.Go.OpenSpec := { _root_.Go.OpenSpec.ofChange s with cond := some uptoSmall }

/-- 'drawknifelaw10.CoreBegins', WHERE WHAT IT READS IS OF BULK AT MOST 1048576: true; the input reads as it did. -/
def coreBeginsUptoRow : OpenClaim := { program := "ytpcjdohmjmeehaagreat", sum := "d49dd24d895fd6ed752bc3e6deb0ca048e9b8dea174779f054b24ed29fd80418", func := "drawknife/drawknifelaw10.CoreBegins", spec := "coreBegins", inPlace := ["math.Float64frombits", "math.Float64bits", "math.archMin", "math.archMax"], unfollowed := true, recurses := true, apart := false, narrowed := true }
def CoreBeginsUptoSaid : Prop := coreBeginsUptoRow.holds Tryz.pinned (OpenSpec.upto coreBeginsSpec)

/-- 'drawknifelaw10.CoreWakes', WHERE WHAT IT READS IS OF BULK AT MOST 1048576: true; the input reads as it did. -/
def coreWakesUptoRow : OpenClaim := { program := "ytpcjdohmjmeehaagreat", sum := "d49dd24d895fd6ed752bc3e6deb0ca048e9b8dea174779f054b24ed29fd80418", func := "drawknife/drawknifelaw10.CoreWakes", spec := "coreWakes", inPlace := ["math.Float64frombits", "math.Float64bits", "math.archMin", "math.archMax"], unfollowed := true, recurses := true, apart := false, narrowed := true }
def CoreWakesUptoSaid : Prop := coreWakesUptoRow.holds Tryz.pinned (OpenSpec.upto coreWakesSpec)

/-- 'drawknifelaw10.CoreAgain', WHERE WHAT IT READS IS OF BULK AT MOST 1048576: true; the input reads as it did. -/
def coreAgainUptoRow : OpenClaim := { program := "ytpcjdohmjmeehaagreat", sum := "d49dd24d895fd6ed752bc3e6deb0ca048e9b8dea174779f054b24ed29fd80418", func := "drawknife/drawknifelaw10.CoreAgain", spec := "coreAgain", inPlace := ["math.Float64frombits", "math.Float64bits", "math.archMin", "math.archMax"], unfollowed := true, recurses := true, apart := false, narrowed := true }
def CoreAgainUptoSaid : Prop := coreAgainUptoRow.holds Tryz.pinned (OpenSpec.upto coreAgainSpec)

/-- 'drawknifelaw10.CorePlays', WHERE WHAT IT READS IS OF BULK AT MOST 1048576: true; the input reads as it did. -/
def corePlaysUptoRow : OpenClaim := { program := "ytpcjdohmjmeehaagreat", sum := "d49dd24d895fd6ed752bc3e6deb0ca048e9b8dea174779f054b24ed29fd80418", func := "drawknife/drawknifelaw10.CorePlays", spec := "corePlays", inPlace := ["math.Float64frombits", "math.Float64bits", "math.archMin", "math.archMax"], unfollowed := true, recurses := true, apart := false, narrowed := true }
def CorePlaysUptoSaid : Prop := corePlaysUptoRow.holds Tryz.pinned (OpenSpec.upto corePlaysSpec)

/-- 'drawknifelaw10.CoreNone', WHERE WHAT IT READS IS OF BULK AT MOST 1048576: true; the input reads as it did. -/
def coreNoneUptoRow : OpenClaim := { program := "ytpcjdohmjmeehaagreat", sum := "d49dd24d895fd6ed752bc3e6deb0ca048e9b8dea174779f054b24ed29fd80418", func := "drawknife/drawknifelaw10.CoreNone", spec := "coreNone", inPlace := ["math.Float64frombits", "math.Float64bits", "math.archMin", "math.archMax"], unfollowed := true, recurses := true, apart := false, narrowed := true }
def CoreNoneUptoSaid : Prop := coreNoneUptoRow.holds Tryz.pinned (OpenSpec.upto coreNoneSpec)

/-- 'drawknifelaw11.OneRuns', WHERE WHAT IT READS IS OF BULK AT MOST 1048576: true; the input reads as it did. -/
def oneRunsUptoRow : OpenClaim := { program := "ytpcjdohmjmeehaagreat", sum := "d49dd24d895fd6ed752bc3e6deb0ca048e9b8dea174779f054b24ed29fd80418", func := "drawknife/drawknifelaw11.OneRuns", spec := "oneRuns", inPlace := ["math.Float64frombits", "math.Float64bits", "math.archMin", "math.archMax"], unfollowed := true, recurses := true, apart := false, narrowed := true }
def OneRunsUptoSaid : Prop := oneRunsUptoRow.holds Tryz.pinned (OpenSpec.upto oneRunsSpec)

/-- 'drawknifelaw11.OneApart', WHERE WHAT IT READS IS OF BULK AT MOST 1048576: true; the input reads as it did. -/
def oneApartUptoRow : OpenClaim := { program := "ytpcjdohmjmeehaagreat", sum := "d49dd24d895fd6ed752bc3e6deb0ca048e9b8dea174779f054b24ed29fd80418", func := "drawknife/drawknifelaw11.OneApart", spec := "oneApart", inPlace := ["math.Float64frombits", "math.Float64bits", "math.archMin", "math.archMax"], unfollowed := true, recurses := true, apart := false, narrowed := true }
def OneApartUptoSaid : Prop := oneApartUptoRow.holds Tryz.pinned (OpenSpec.upto oneApartSpec)

/-- 'drawknifelaw24.LoneActs', WHERE WHAT IT READS IS OF BULK AT MOST 1048576: true; the input reads as it did. -/
def loneActsUptoRow : OpenClaim := { program := "ytpcjdohmjmeehaagreat", sum := "d49dd24d895fd6ed752bc3e6deb0ca048e9b8dea174779f054b24ed29fd80418", func := "drawknife/drawknifelaw24.LoneActs", spec := "loneActs", inPlace := ["math.Float64frombits", "math.Float64bits", "math.archMin", "math.archMax"], unfollowed := true, recurses := true, apart := false, narrowed := true }
def LoneActsUptoSaid : Prop := loneActsUptoRow.holds Tryz.pinned (OpenSpec.upto loneActsSpec)

/-- 'drawknifelaw24.LoneAlone', WHERE WHAT IT READS IS OF BULK AT MOST 1048576: true; the input reads as it did. -/
def loneAloneUptoRow : OpenClaim := { program := "ytpcjdohmjmeehaagreat", sum := "d49dd24d895fd6ed752bc3e6deb0ca048e9b8dea174779f054b24ed29fd80418", func := "drawknife/drawknifelaw24.LoneAlone", spec := "loneAlone", inPlace := ["math.Float64frombits", "math.Float64bits", "math.archMin", "math.archMax"], unfollowed := true, recurses := true, apart := false, narrowed := true }
def LoneAloneUptoSaid : Prop := loneAloneUptoRow.holds Tryz.pinned (OpenSpec.upto loneAloneSpec)

/-- 'drawknifelaw24.LoneOther', WHERE WHAT IT READS IS OF BULK AT MOST 1048576: true; the input reads as it did. -/
def loneOtherUptoRow : OpenClaim := { program := "ytpcjdohmjmeehaagreat", sum := "d49dd24d895fd6ed752bc3e6deb0ca048e9b8dea174779f054b24ed29fd80418", func := "drawknife/drawknifelaw24.LoneOther", spec := "loneOther", inPlace := ["math.Float64frombits", "math.Float64bits", "math.archMin", "math.archMax"], unfollowed := true, recurses := true, apart := false, narrowed := true }
def LoneOtherUptoSaid : Prop := loneOtherUptoRow.holds Tryz.pinned (OpenSpec.upto loneOtherSpec)

/-- 'drawknifelaw11.OnePlays', WHERE WHAT IT READS IS OF BULK AT MOST 1048576: true; the input reads as it did. -/
def onePlaysUptoRow : OpenClaim := { program := "ytpcjdohmjmeehaagreat", sum := "d49dd24d895fd6ed752bc3e6deb0ca048e9b8dea174779f054b24ed29fd80418", func := "drawknife/drawknifelaw11.OnePlays", spec := "onePlays", inPlace := ["math.Float64frombits", "math.Float64bits", "math.archMin", "math.archMax"], unfollowed := true, recurses := true, apart := false, narrowed := true }
def OnePlaysUptoSaid : Prop := onePlaysUptoRow.holds Tryz.pinned (OpenSpec.upto onePlaysSpec)

/-- 'drawknifelaw11.OneNone', WHERE WHAT IT READS IS OF BULK AT MOST 1048576: true; the input reads as it did. -/
def oneNoneUptoRow : OpenClaim := { program := "ytpcjdohmjmeehaagreat", sum := "d49dd24d895fd6ed752bc3e6deb0ca048e9b8dea174779f054b24ed29fd80418", func := "drawknife/drawknifelaw11.OneNone", spec := "oneNone", inPlace := ["math.Float64frombits", "math.Float64bits", "math.archMin", "math.archMax"], unfollowed := true, recurses := true, apart := false, narrowed := true }
def OneNoneUptoSaid : Prop := oneNoneUptoRow.holds Tryz.pinned (OpenSpec.upto oneNoneSpec)

end Rows
end Go.Proofs.YtpcjdohmjmeehaaGreat
