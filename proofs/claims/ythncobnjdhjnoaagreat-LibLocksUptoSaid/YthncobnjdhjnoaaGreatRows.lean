/-
  No cell of these rows narrows 'for every input' (looked for: loops, veiled, ifaces, maps, wideKeys, modest, calm, conditions, laid).
  DERIVED. THE GIVEN ROWS OF THIS SEAT. 5 by the template 'for every input the law returns true; each argument reads behind the call as it read before'; 0 by the template 'total and deterministic' (their statements: YthncobnjdhjnoaaGreatTotals.lean).
  GIVEN WITH THE SEED: the statements are not yours to turn. If you find one false, say at which input.
  Laid BY PROGRAM, IN A SANDBOX (cutbox-rows.mjs): the forced cells as the released guide's own fill.sh prints them over the translation 09c1071041ef4392… (all of the seat's roots in one cut). By AI agents, Wed Nov 11 2026. No macro, syntax, notation, axiom, sorry.
-/
import Derived.Test.YthncobnjdhjnoaaGreatChecked
import GoSem.Claim
import GoSem.ClaimJoined
import GoSem.ClaimMapViews
import Derived.JoinedTies
import Derived.KernelRfl
namespace Go.Proofs.YthncobnjdhjnoaaGreat
/- THE CELL 'sum', in the pinned program and in every row, IS THE sha256 OF THE DUMP (.gsa) THAT YthncobnjdhjnoaaGreatProg.lean LOADS. Nothing in Lean hashes anything: it is a label: what it is worth is what the hold of that sum in a sandbox is worth. -/
noncomputable def Tryz.pinned : Pinned := { name := "ythncobnjdhjnoaagreat", sum := "09c1071041ef43921ee79329eb27fe416e0a7bfde09bb51d114c9eda6ec30aaf", checked := Tryz.checked }
namespace Rows
def none {H : Type} : Left H := { results := [], args := [] }

/-- 'drawknifelaw17.KernOwns': WHATEVER THE INPUT: true; the input reads as it did. -/
def kernOwnsSpec : ChangeSpec := { name := "kernOwns", fn := fun _ => fun
  | [d1, d2, d3] => { results := [.lit (.bool true)], args := [d1, d2, d3] }
  | _ => none }
def kernOwnsRow : OpenClaim := { program := "ythncobnjdhjnoaagreat", sum := "09c1071041ef43921ee79329eb27fe416e0a7bfde09bb51d114c9eda6ec30aaf", func := "drawknife/drawknifelaw17.KernOwns", spec := "kernOwns", inPlace := ["math.Float64frombits", "math.Float64bits", "math.archMin", "math.archMax"], unfollowed := true, recurses := true, apart := false }
def KernOwnsSaid : Prop := kernOwnsRow.holds Tryz.pinned (OpenSpec.ofChange kernOwnsSpec)

/-- ITS FALSE NEIGHBOUR: 'it returns false'. Refute it at one input. -/
def kernOwnsWrong : ChangeSpec := { name := "kernOwns", fn := fun _ => fun
  | [d1, d2, d3] => { results := [.lit (.bool false)], args := [d1, d2, d3] }
  | _ => none }
def KernOwnsWrongFalsely : Prop := kernOwnsRow.holds Tryz.pinned (OpenSpec.ofChange kernOwnsWrong)

/-- 'drawknifelaw17.KernGives': WHATEVER THE INPUT: true; the input reads as it did. -/
def kernGivesSpec : ChangeSpec := { name := "kernGives", fn := fun _ => fun
  | [d1, d2, d3, d4, d5] => { results := [.lit (.bool true)], args := [d1, d2, d3, d4, d5] }
  | _ => none }
def kernGivesRow : OpenClaim := { program := "ythncobnjdhjnoaagreat", sum := "09c1071041ef43921ee79329eb27fe416e0a7bfde09bb51d114c9eda6ec30aaf", func := "drawknife/drawknifelaw17.KernGives", spec := "kernGives", inPlace := ["math.Float64frombits", "math.Float64bits", "math.archMin", "math.archMax"], unfollowed := true, recurses := true, apart := false }
def KernGivesSaid : Prop := kernGivesRow.holds Tryz.pinned (OpenSpec.ofChange kernGivesSpec)

/-- ITS FALSE NEIGHBOUR: 'it returns false'. Refute it at one input. -/
def kernGivesWrong : ChangeSpec := { name := "kernGives", fn := fun _ => fun
  | [d1, d2, d3, d4, d5] => { results := [.lit (.bool false)], args := [d1, d2, d3, d4, d5] }
  | _ => none }
def KernGivesWrongFalsely : Prop := kernGivesRow.holds Tryz.pinned (OpenSpec.ofChange kernGivesWrong)

/-- 'drawknifelaw17.KernNone': WHATEVER THE INPUT: true; the input reads as it did. -/
def kernNoneSpec : ChangeSpec := { name := "kernNone", fn := fun _ => fun
  | [d1, d2] => { results := [.lit (.bool true)], args := [d1, d2] }
  | _ => none }
def kernNoneRow : OpenClaim := { program := "ythncobnjdhjnoaagreat", sum := "09c1071041ef43921ee79329eb27fe416e0a7bfde09bb51d114c9eda6ec30aaf", func := "drawknife/drawknifelaw17.KernNone", spec := "kernNone", inPlace := ["math.Float64frombits", "math.Float64bits", "math.archMin", "math.archMax"], unfollowed := true, recurses := true, apart := false }
def KernNoneSaid : Prop := kernNoneRow.holds Tryz.pinned (OpenSpec.ofChange kernNoneSpec)

/-- ITS FALSE NEIGHBOUR: 'it returns false'. Refute it at one input. -/
def kernNoneWrong : ChangeSpec := { name := "kernNone", fn := fun _ => fun
  | [d1, d2] => { results := [.lit (.bool false)], args := [d1, d2] }
  | _ => none }
def KernNoneWrongFalsely : Prop := kernNoneRow.holds Tryz.pinned (OpenSpec.ofChange kernNoneWrong)

/-- 'drawknifelaw18.AllocStays': WHATEVER THE INPUT: true; the input reads as it did. -/
def allocStaysSpec : ChangeSpec := { name := "allocStays", fn := fun _ => fun
  | [d1, d2, d3, d4] => { results := [.lit (.bool true)], args := [d1, d2, d3, d4] }
  | _ => none }
def allocStaysRow : OpenClaim := { program := "ythncobnjdhjnoaagreat", sum := "09c1071041ef43921ee79329eb27fe416e0a7bfde09bb51d114c9eda6ec30aaf", func := "drawknife/drawknifelaw18.AllocStays", spec := "allocStays", inPlace := ["math.Float64frombits", "math.Float64bits", "math.archMin", "math.archMax"], unfollowed := true, recurses := true, apart := false }
def AllocStaysSaid : Prop := allocStaysRow.holds Tryz.pinned (OpenSpec.ofChange allocStaysSpec)

/-- ITS FALSE NEIGHBOUR: 'it returns false'. Refute it at one input. -/
def allocStaysWrong : ChangeSpec := { name := "allocStays", fn := fun _ => fun
  | [d1, d2, d3, d4] => { results := [.lit (.bool false)], args := [d1, d2, d3, d4] }
  | _ => none }
def AllocStaysWrongFalsely : Prop := allocStaysRow.holds Tryz.pinned (OpenSpec.ofChange allocStaysWrong)

/-- 'drawknifelaw16.LibLocks': WHATEVER THE INPUT: true; the input reads as it did. -/
def libLocksSpec : ChangeSpec := { name := "libLocks", fn := fun _ => fun
  | [d1, d2, d3] => { results := [.lit (.bool true)], args := [d1, d2, d3] }
  | _ => none }
def libLocksRow : OpenClaim := { program := "ythncobnjdhjnoaagreat", sum := "09c1071041ef43921ee79329eb27fe416e0a7bfde09bb51d114c9eda6ec30aaf", func := "drawknife/drawknifelaw16.LibLocks", spec := "libLocks", inPlace := ["math.Float64frombits", "math.Float64bits", "math.archMin", "math.archMax"], unfollowed := true, recurses := true, apart := false }
def LibLocksSaid : Prop := libLocksRow.holds Tryz.pinned (OpenSpec.ofChange libLocksSpec)

/-- ITS FALSE NEIGHBOUR: 'it returns false'. Refute it at one input. -/
def libLocksWrong : ChangeSpec := { name := "libLocks", fn := fun _ => fun
  | [d1, d2, d3] => { results := [.lit (.bool false)], args := [d1, d2, d3] }
  | _ => none }
def LibLocksWrongFalsely : Prop := libLocksRow.holds Tryz.pinned (OpenSpec.ofChange libLocksWrong)

/- THE SECOND FORM. 'bulk': how many values and letters a reading holds, each counted each time it is reached (what is shared counts as often as it is met; a slice's spare places count too). A statement '..UptoSaid' is the law's where the arguments, and the package variables that the reading takes, are together of bulk at most 1048576: NARROWER than '..Said'. Prove '..Said' where nothing that the law and all that it calls make is longer than what came in: it says more and counts as full. Else prove '..UptoSaid'. A law counts once. -/
mutual
def uptoBulk {H : Type} : DataW H → Nat
  | .lit (.string bytes) => bytes.length + 1
  | .lit _ => 1
  | .nil => 1
  | .ptr d => uptoBulk d + 1
  | .slice elems spare => uptoBulkAll elems + uptoBulkAll spare + 1
  | .agg parts => uptoBulkAll parts + 1
  | .iface _ d => uptoBulk d + 1
  | .map entries => uptoBulkEntries entries + 1
  | .held _ => 1
def uptoBulkAll {H : Type} : List (DataW H) → Nat
  | [] => 0
  | d :: r => uptoBulk d + uptoBulkAll r
def uptoBulkEntries {H : Type} : List (Lit × DataW H) → Nat
  | [] => 0
  | x :: r => uptoBulkEntry x + uptoBulkEntries r
def uptoBulkEntry {H : Type} : Lit × DataW H → Nat
  | (.string bytes, d) => bytes.length + uptoBulk d + 1
  | (_, d) => uptoBulk d + 1
 end
def uptoSmall : (H : Type) → List (DataW H) → Bool := fun _ ds => decide (uptoBulkAll ds ≤ 1048576)
def OpenSpec.upto (s : _root_.Go.ChangeSpec) : _root_.Go.OpenSpec := { _root_.Go.OpenSpec.ofChange s with cond := some uptoSmall }

/-- 'drawknifelaw17.KernOwns', WHERE WHAT IT READS IS OF BULK AT MOST 1048576: true; the input reads as it did. -/
def kernOwnsUptoRow : OpenClaim := { program := "ythncobnjdhjnoaagreat", sum := "09c1071041ef43921ee79329eb27fe416e0a7bfde09bb51d114c9eda6ec30aaf", func := "drawknife/drawknifelaw17.KernOwns", spec := "kernOwns", inPlace := ["math.Float64frombits", "math.Float64bits", "math.archMin", "math.archMax"], unfollowed := true, recurses := true, apart := false, narrowed := true }
def KernOwnsUptoSaid : Prop := kernOwnsUptoRow.holds Tryz.pinned (OpenSpec.upto kernOwnsSpec)

/-- 'drawknifelaw17.KernGives', WHERE WHAT IT READS IS OF BULK AT MOST 1048576: true; the input reads as it did. -/
def kernGivesUptoRow : OpenClaim := { program := "ythncobnjdhjnoaagreat", sum := "09c1071041ef43921ee79329eb27fe416e0a7bfde09bb51d114c9eda6ec30aaf", func := "drawknife/drawknifelaw17.KernGives", spec := "kernGives", inPlace := ["math.Float64frombits", "math.Float64bits", "math.archMin", "math.archMax"], unfollowed := true, recurses := true, apart := false, narrowed := true }
def KernGivesUptoSaid : Prop := kernGivesUptoRow.holds Tryz.pinned (OpenSpec.upto kernGivesSpec)

/-- 'drawknifelaw17.KernNone', WHERE WHAT IT READS IS OF BULK AT MOST 1048576: true; the input reads as it did. -/
def kernNoneUptoRow : OpenClaim := { program := "ythncobnjdhjnoaagreat", sum := "09c1071041ef43921ee79329eb27fe416e0a7bfde09bb51d114c9eda6ec30aaf", func := "drawknife/drawknifelaw17.KernNone", spec := "kernNone", inPlace := ["math.Float64frombits", "math.Float64bits", "math.archMin", "math.archMax"], unfollowed := true, recurses := true, apart := false, narrowed := true }
def KernNoneUptoSaid : Prop := kernNoneUptoRow.holds Tryz.pinned (OpenSpec.upto kernNoneSpec)

/-- 'drawknifelaw18.AllocStays', WHERE WHAT IT READS IS OF BULK AT MOST 1048576: true; the input reads as it did. -/
def allocStaysUptoRow : OpenClaim := { program := "ythncobnjdhjnoaagreat", sum := "09c1071041ef43921ee79329eb27fe416e0a7bfde09bb51d114c9eda6ec30aaf", func := "drawknife/drawknifelaw18.AllocStays", spec := "allocStays", inPlace := ["math.Float64frombits", "math.Float64bits", "math.archMin", "math.archMax"], unfollowed := true, recurses := true, apart := false, narrowed := true }
def AllocStaysUptoSaid : Prop := allocStaysUptoRow.holds Tryz.pinned (OpenSpec.upto allocStaysSpec)

/-- 'drawknifelaw16.LibLocks', WHERE WHAT IT READS IS OF BULK AT MOST 1048576: true; the input reads as it did. -/
def libLocksUptoRow : OpenClaim := { program := "ythncobnjdhjnoaagreat", sum := "09c1071041ef43921ee79329eb27fe416e0a7bfde09bb51d114c9eda6ec30aaf", func := "drawknife/drawknifelaw16.LibLocks", spec := "libLocks", inPlace := ["math.Float64frombits", "math.Float64bits", "math.archMin", "math.archMax"], unfollowed := true, recurses := true, apart := false, narrowed := true }
def LibLocksUptoSaid : Prop := libLocksUptoRow.holds Tryz.pinned (OpenSpec.upto libLocksSpec)

end Rows
end Go.Proofs.YthncobnjdhjnoaaGreat
