/-
  No cell of these rows narrows 'for every input' (looked for: loops, veiled, ifaces, maps, wideKeys, modest, calm, conditions, laid).
  DERIVED. THE GIVEN ROWS OF THIS SEAT. 11 by the template 'for every input the law returns true; each argument reads behind the call as it read before'; 0 by the template 'total and deterministic' (their statements: YthlllpngkljgfaaGreatTotals.lean).
  GIVEN WITH THE SEED: the statements are not yours to turn. If you find one false, say at which input.
  Laid BY PROGRAM, IN A SANDBOX (cutbox-rows.mjs): the forced cells as the released guide's own fill.sh prints them over the translation c6578371303da05d… (all of the seat's roots in one cut). By AI agents, Wed Nov 11 2026. No macro, syntax, notation, axiom, sorry.
-/
import Derived.Test.YthlllpngkljgfaaGreatChecked
import GoSem.Claim
import GoSem.ClaimJoined
import GoSem.ClaimMapViews
import Derived.JoinedTies
import Derived.KernelRfl
namespace Go.Proofs.YthlllpngkljgfaaGreat
/- THE CELL 'sum', in the pinned program and in every row, IS THE sha256 OF THE DUMP (.gsa) THAT YthlllpngkljgfaaGreatProg.lean LOADS. Nothing in Lean hashes anything: it is a label: what it is worth is what the hold of that sum in a sandbox is worth. -/
noncomputable def Tryz.pinned : Pinned := { name := "ythlllpngkljgfaagreat", sum := "c6578371303da05db3aefa79b9be4625d42c347c95d014c1605c332304cf41f9", checked := Tryz.checked }
namespace Rows
def none {H : Type} : Left H := { results := [], args := [] }

/-- 'drawknifelaw19.SysLogs': WHATEVER THE INPUT: true; the input reads as it did. -/
def sysLogsSpec : ChangeSpec := { name := "sysLogs", fn := fun _ => fun
  | [d1, d2, d3] => { results := [.lit (.bool true)], args := [d1, d2, d3] }
  | _ => none }
def sysLogsRow : OpenClaim := { program := "ythlllpngkljgfaagreat", sum := "c6578371303da05db3aefa79b9be4625d42c347c95d014c1605c332304cf41f9", func := "drawknife/drawknifelaw19.SysLogs", spec := "sysLogs", inPlace := ["math.Float64frombits", "math.Float64bits", "math.archMin", "math.archMax"], unfollowed := true, recurses := true, apart := false }
def SysLogsSaid : Prop := sysLogsRow.holds Tryz.pinned (OpenSpec.ofChange sysLogsSpec)

/-- ITS FALSE NEIGHBOUR: 'it returns false'. Refute it at one input. -/
def sysLogsWrong : ChangeSpec := { name := "sysLogs", fn := fun _ => fun
  | [d1, d2, d3] => { results := [.lit (.bool false)], args := [d1, d2, d3] }
  | _ => none }
def SysLogsWrongFalsely : Prop := sysLogsRow.holds Tryz.pinned (OpenSpec.ofChange sysLogsWrong)

/-- 'drawknifelaw19.SysOwns': WHATEVER THE INPUT: true; the input reads as it did. -/
def sysOwnsSpec : ChangeSpec := { name := "sysOwns", fn := fun _ => fun
  | [d1, d2, d3] => { results := [.lit (.bool true)], args := [d1, d2, d3] }
  | _ => none }
def sysOwnsRow : OpenClaim := { program := "ythlllpngkljgfaagreat", sum := "c6578371303da05db3aefa79b9be4625d42c347c95d014c1605c332304cf41f9", func := "drawknife/drawknifelaw19.SysOwns", spec := "sysOwns", inPlace := ["math.Float64frombits", "math.Float64bits", "math.archMin", "math.archMax"], unfollowed := true, recurses := true, apart := false }
def SysOwnsSaid : Prop := sysOwnsRow.holds Tryz.pinned (OpenSpec.ofChange sysOwnsSpec)

/-- ITS FALSE NEIGHBOUR: 'it returns false'. Refute it at one input. -/
def sysOwnsWrong : ChangeSpec := { name := "sysOwns", fn := fun _ => fun
  | [d1, d2, d3] => { results := [.lit (.bool false)], args := [d1, d2, d3] }
  | _ => none }
def SysOwnsWrongFalsely : Prop := sysOwnsRow.holds Tryz.pinned (OpenSpec.ofChange sysOwnsWrong)

/-- 'drawknifelaw19.SysAgain': WHATEVER THE INPUT: true; the input reads as it did. -/
def sysAgainSpec : ChangeSpec := { name := "sysAgain", fn := fun _ => fun
  | [d1, d2, d3] => { results := [.lit (.bool true)], args := [d1, d2, d3] }
  | _ => none }
def sysAgainRow : OpenClaim := { program := "ythlllpngkljgfaagreat", sum := "c6578371303da05db3aefa79b9be4625d42c347c95d014c1605c332304cf41f9", func := "drawknife/drawknifelaw19.SysAgain", spec := "sysAgain", inPlace := ["math.Float64frombits", "math.Float64bits", "math.archMin", "math.archMax"], unfollowed := true, recurses := true, apart := false }
def SysAgainSaid : Prop := sysAgainRow.holds Tryz.pinned (OpenSpec.ofChange sysAgainSpec)

/-- ITS FALSE NEIGHBOUR: 'it returns false'. Refute it at one input. -/
def sysAgainWrong : ChangeSpec := { name := "sysAgain", fn := fun _ => fun
  | [d1, d2, d3] => { results := [.lit (.bool false)], args := [d1, d2, d3] }
  | _ => none }
def SysAgainWrongFalsely : Prop := sysAgainRow.holds Tryz.pinned (OpenSpec.ofChange sysAgainWrong)

/-- 'drawknifelaw19.SysNone': WHATEVER THE INPUT: true; the input reads as it did. -/
def sysNoneSpec : ChangeSpec := { name := "sysNone", fn := fun _ => fun
  | [d1, d2] => { results := [.lit (.bool true)], args := [d1, d2] }
  | _ => none }
def sysNoneRow : OpenClaim := { program := "ythlllpngkljgfaagreat", sum := "c6578371303da05db3aefa79b9be4625d42c347c95d014c1605c332304cf41f9", func := "drawknife/drawknifelaw19.SysNone", spec := "sysNone", inPlace := ["math.Float64frombits", "math.Float64bits", "math.archMin", "math.archMax"], unfollowed := true, recurses := true, apart := false }
def SysNoneSaid : Prop := sysNoneRow.holds Tryz.pinned (OpenSpec.ofChange sysNoneSpec)

/-- ITS FALSE NEIGHBOUR: 'it returns false'. Refute it at one input. -/
def sysNoneWrong : ChangeSpec := { name := "sysNone", fn := fun _ => fun
  | [d1, d2] => { results := [.lit (.bool false)], args := [d1, d2] }
  | _ => none }
def SysNoneWrongFalsely : Prop := sysNoneRow.holds Tryz.pinned (OpenSpec.ofChange sysNoneWrong)

/-- 'drawknifelaw16.LibKeeps': WHATEVER THE INPUT: true; the input reads as it did. -/
def libKeepsSpec : ChangeSpec := { name := "libKeeps", fn := fun _ => fun
  | [d1, d2, d3] => { results := [.lit (.bool true)], args := [d1, d2, d3] }
  | _ => none }
def libKeepsRow : OpenClaim := { program := "ythlllpngkljgfaagreat", sum := "c6578371303da05db3aefa79b9be4625d42c347c95d014c1605c332304cf41f9", func := "drawknife/drawknifelaw16.LibKeeps", spec := "libKeeps", inPlace := ["math.Float64frombits", "math.Float64bits", "math.archMin", "math.archMax"], unfollowed := true, recurses := true, apart := false }
def LibKeepsSaid : Prop := libKeepsRow.holds Tryz.pinned (OpenSpec.ofChange libKeepsSpec)

/-- ITS FALSE NEIGHBOUR: 'it returns false'. Refute it at one input. -/
def libKeepsWrong : ChangeSpec := { name := "libKeeps", fn := fun _ => fun
  | [d1, d2, d3] => { results := [.lit (.bool false)], args := [d1, d2, d3] }
  | _ => none }
def LibKeepsWrongFalsely : Prop := libKeepsRow.holds Tryz.pinned (OpenSpec.ofChange libKeepsWrong)

/-- 'drawknifelaw21.PlaceHolds': WHATEVER THE INPUT: true; the input reads as it did. -/
def placeHoldsSpec : ChangeSpec := { name := "placeHolds", fn := fun _ => fun
  | [d1, d2, d3] => { results := [.lit (.bool true)], args := [d1, d2, d3] }
  | _ => none }
def placeHoldsRow : OpenClaim := { program := "ythlllpngkljgfaagreat", sum := "c6578371303da05db3aefa79b9be4625d42c347c95d014c1605c332304cf41f9", func := "drawknife/drawknifelaw21.PlaceHolds", spec := "placeHolds", inPlace := ["math.Float64frombits", "math.Float64bits", "math.archMin", "math.archMax"], unfollowed := true, recurses := true, apart := false }
def PlaceHoldsSaid : Prop := placeHoldsRow.holds Tryz.pinned (OpenSpec.ofChange placeHoldsSpec)

/-- ITS FALSE NEIGHBOUR: 'it returns false'. Refute it at one input. -/
def placeHoldsWrong : ChangeSpec := { name := "placeHolds", fn := fun _ => fun
  | [d1, d2, d3] => { results := [.lit (.bool false)], args := [d1, d2, d3] }
  | _ => none }
def PlaceHoldsWrongFalsely : Prop := placeHoldsRow.holds Tryz.pinned (OpenSpec.ofChange placeHoldsWrong)

/-- 'drawknifelaw21.PlaceMoves': WHATEVER THE INPUT: true; the input reads as it did. -/
def placeMovesSpec : ChangeSpec := { name := "placeMoves", fn := fun _ => fun
  | [d1, d2, d3] => { results := [.lit (.bool true)], args := [d1, d2, d3] }
  | _ => none }
def placeMovesRow : OpenClaim := { program := "ythlllpngkljgfaagreat", sum := "c6578371303da05db3aefa79b9be4625d42c347c95d014c1605c332304cf41f9", func := "drawknife/drawknifelaw21.PlaceMoves", spec := "placeMoves", inPlace := ["math.Float64frombits", "math.Float64bits", "math.archMin", "math.archMax"], unfollowed := true, recurses := true, apart := false }
def PlaceMovesSaid : Prop := placeMovesRow.holds Tryz.pinned (OpenSpec.ofChange placeMovesSpec)

/-- ITS FALSE NEIGHBOUR: 'it returns false'. Refute it at one input. -/
def placeMovesWrong : ChangeSpec := { name := "placeMoves", fn := fun _ => fun
  | [d1, d2, d3] => { results := [.lit (.bool false)], args := [d1, d2, d3] }
  | _ => none }
def PlaceMovesWrongFalsely : Prop := placeMovesRow.holds Tryz.pinned (OpenSpec.ofChange placeMovesWrong)

/-- 'drawknifelaw23.FairBounds': WHATEVER THE INPUT: true; the input reads as it did. -/
def fairBoundsSpec : ChangeSpec := { name := "fairBounds", fn := fun _ => fun
  | [d] => { results := [.lit (.bool true)], args := [d] }
  | _ => none }
def fairBoundsRow : OpenClaim := { program := "ythlllpngkljgfaagreat", sum := "c6578371303da05db3aefa79b9be4625d42c347c95d014c1605c332304cf41f9", func := "drawknife/drawknifelaw23.FairBounds", spec := "fairBounds", inPlace := ["math.Float64frombits", "math.Float64bits", "math.archMin", "math.archMax"], unfollowed := true, recurses := true, apart := false }
def FairBoundsSaid : Prop := fairBoundsRow.holds Tryz.pinned (OpenSpec.ofChange fairBoundsSpec)

/-- ITS FALSE NEIGHBOUR: 'it returns false'. Refute it at one input. -/
def fairBoundsWrong : ChangeSpec := { name := "fairBounds", fn := fun _ => fun
  | [d] => { results := [.lit (.bool false)], args := [d] }
  | _ => none }
def FairBoundsWrongFalsely : Prop := fairBoundsRow.holds Tryz.pinned (OpenSpec.ofChange fairBoundsWrong)

/-- 'drawknifelaw23.FairMore': WHATEVER THE INPUT: true; the input reads as it did. -/
def fairMoreSpec : ChangeSpec := { name := "fairMore", fn := fun _ => fun
  | [d1, d2, d3, d4, d5, d6] => { results := [.lit (.bool true)], args := [d1, d2, d3, d4, d5, d6] }
  | _ => none }
def fairMoreRow : OpenClaim := { program := "ythlllpngkljgfaagreat", sum := "c6578371303da05db3aefa79b9be4625d42c347c95d014c1605c332304cf41f9", func := "drawknife/drawknifelaw23.FairMore", spec := "fairMore", inPlace := ["math.Float64frombits", "math.Float64bits", "math.archMin", "math.archMax"], unfollowed := true, recurses := true, apart := false }
def FairMoreSaid : Prop := fairMoreRow.holds Tryz.pinned (OpenSpec.ofChange fairMoreSpec)

/-- ITS FALSE NEIGHBOUR: 'it returns false'. Refute it at one input. -/
def fairMoreWrong : ChangeSpec := { name := "fairMore", fn := fun _ => fun
  | [d1, d2, d3, d4, d5, d6] => { results := [.lit (.bool false)], args := [d1, d2, d3, d4, d5, d6] }
  | _ => none }
def FairMoreWrongFalsely : Prop := fairMoreRow.holds Tryz.pinned (OpenSpec.ofChange fairMoreWrong)

/-- 'drawknifelaw20.MatchSame': WHATEVER THE INPUT: true; the input reads as it did. -/
def matchSameSpec : ChangeSpec := { name := "matchSame", fn := fun _ => fun
  | [d1, d2] => { results := [.lit (.bool true)], args := [d1, d2] }
  | _ => none }
def matchSameRow : OpenClaim := { program := "ythlllpngkljgfaagreat", sum := "c6578371303da05db3aefa79b9be4625d42c347c95d014c1605c332304cf41f9", func := "drawknife/drawknifelaw20.MatchSame", spec := "matchSame", inPlace := ["math.Float64frombits", "math.Float64bits", "math.archMin", "math.archMax"], unfollowed := true, recurses := true, apart := false }
def MatchSameSaid : Prop := matchSameRow.holds Tryz.pinned (OpenSpec.ofChange matchSameSpec)

/-- ITS FALSE NEIGHBOUR: 'it returns false'. Refute it at one input. -/
def matchSameWrong : ChangeSpec := { name := "matchSame", fn := fun _ => fun
  | [d1, d2] => { results := [.lit (.bool false)], args := [d1, d2] }
  | _ => none }
def MatchSameWrongFalsely : Prop := matchSameRow.holds Tryz.pinned (OpenSpec.ofChange matchSameWrong)

/-- 'drawknifelaw20.MatchEarly': WHATEVER THE INPUT: true; the input reads as it did. -/
def matchEarlySpec : ChangeSpec := { name := "matchEarly", fn := fun _ => fun
  | [d1, d2, d3, d4] => { results := [.lit (.bool true)], args := [d1, d2, d3, d4] }
  | _ => none }
def matchEarlyRow : OpenClaim := { program := "ythlllpngkljgfaagreat", sum := "c6578371303da05db3aefa79b9be4625d42c347c95d014c1605c332304cf41f9", func := "drawknife/drawknifelaw20.MatchEarly", spec := "matchEarly", inPlace := ["math.Float64frombits", "math.Float64bits", "math.archMin", "math.archMax"], unfollowed := true, recurses := true, apart := false }
def MatchEarlySaid : Prop := matchEarlyRow.holds Tryz.pinned (OpenSpec.ofChange matchEarlySpec)

/-- ITS FALSE NEIGHBOUR: 'it returns false'. Refute it at one input. -/
def matchEarlyWrong : ChangeSpec := { name := "matchEarly", fn := fun _ => fun
  | [d1, d2, d3, d4] => { results := [.lit (.bool false)], args := [d1, d2, d3, d4] }
  | _ => none }
def MatchEarlyWrongFalsely : Prop := matchEarlyRow.holds Tryz.pinned (OpenSpec.ofChange matchEarlyWrong)

/- THE SECOND FORM. 'bulk': how many values and letters a reading holds, each counted each time it is reached (what is shared counts as often as it is met; a slice's spare places count too). A statement '..UptoSaid' is the law's where the arguments, and the package variables that the reading takes, are together of bulk at most 1048576: NARROWER than '..Said'. Prove '..Said' where nothing that the law and all that it calls make is longer than what came in: it says more and counts as full. Else prove '..UptoSaid'. A law counts once. -/
mutual
def uptoBulk {H : Type} : DataW H → Nat
  | .lit (.string bytes) => bytes.length + 1
  | .lit _ => 1
  | .nil => 1
  | .ptr d => uptoBulk d + 1
  | .slice elems spare => uptoBulkAll elems + uptoBulkAll spare + 1
  | .agg parts => uptoBulkAll parts + 1
  | .iface _ d => uptoBulk d + 1
  | .map entries => uptoBulkEntries entries + 1
  | .held _ => 1
def uptoBulkAll {H : Type} : List (DataW H) → Nat
  | [] => 0
  | d :: r => uptoBulk d + uptoBulkAll r
def uptoBulkEntries {H : Type} : List (Lit × DataW H) → Nat
  | [] => 0
  | x :: r => uptoBulkEntry x + uptoBulkEntries r
def uptoBulkEntry {H : Type} : Lit × DataW H → Nat
  | (.string bytes, d) => bytes.length + uptoBulk d + 1
  | (_, d) => uptoBulk d + 1
 end
def uptoSmall : (H : Type) → List (DataW H) → Bool := fun _ ds => decide (uptoBulkAll ds ≤ 1048576)
def OpenSpec.upto (s : _root_.Go.ChangeSpec) : _root_.Go.OpenSpec := { _root_.Go.OpenSpec.ofChange s with cond := some uptoSmall }

/-- 'drawknifelaw19.SysLogs', WHERE WHAT IT READS IS OF BULK AT MOST 1048576: true; the input reads as it did. -/
def sysLogsUptoRow : OpenClaim := { program := "ythlllpngkljgfaagreat", sum := "c6578371303da05db3aefa79b9be4625d42c347c95d014c1605c332304cf41f9", func := "drawknife/drawknifelaw19.SysLogs", spec := "sysLogs", inPlace := ["math.Float64frombits", "math.Float64bits", "math.archMin", "math.archMax"], unfollowed := true, recurses := true, apart := false, narrowed := true }
def SysLogsUptoSaid : Prop := sysLogsUptoRow.holds Tryz.pinned (OpenSpec.upto sysLogsSpec)

/-- 'drawknifelaw19.SysOwns', WHERE WHAT IT READS IS OF BULK AT MOST 1048576: true; the input reads as it did. -/
def sysOwnsUptoRow : OpenClaim := { program := "ythlllpngkljgfaagreat", sum := "c6578371303da05db3aefa79b9be4625d42c347c95d014c1605c332304cf41f9", func := "drawknife/drawknifelaw19.SysOwns", spec := "sysOwns", inPlace := ["math.Float64frombits", "math.Float64bits", "math.archMin", "math.archMax"], unfollowed := true, recurses := true, apart := false, narrowed := true }
def SysOwnsUptoSaid : Prop := sysOwnsUptoRow.holds Tryz.pinned (OpenSpec.upto sysOwnsSpec)

/-- 'drawknifelaw19.SysAgain', WHERE WHAT IT READS IS OF BULK AT MOST 1048576: true; the input reads as it did. -/
def sysAgainUptoRow : OpenClaim := { program := "ythlllpngkljgfaagreat", sum := "c6578371303da05db3aefa79b9be4625d42c347c95d014c1605c332304cf41f9", func := "drawknife/drawknifelaw19.SysAgain", spec := "sysAgain", inPlace := ["math.Float64frombits", "math.Float64bits", "math.archMin", "math.archMax"], unfollowed := true, recurses := true, apart := false, narrowed := true }
def SysAgainUptoSaid : Prop := sysAgainUptoRow.holds Tryz.pinned (OpenSpec.upto sysAgainSpec)

/-- 'drawknifelaw19.SysNone', WHERE WHAT IT READS IS OF BULK AT MOST 1048576: true; the input reads as it did. -/
def sysNoneUptoRow : OpenClaim := { program := "ythlllpngkljgfaagreat", sum := "c6578371303da05db3aefa79b9be4625d42c347c95d014c1605c332304cf41f9", func := "drawknife/drawknifelaw19.SysNone", spec := "sysNone", inPlace := ["math.Float64frombits", "math.Float64bits", "math.archMin", "math.archMax"], unfollowed := true, recurses := true, apart := false, narrowed := true }
def SysNoneUptoSaid : Prop := sysNoneUptoRow.holds Tryz.pinned (OpenSpec.upto sysNoneSpec)

/-- 'drawknifelaw16.LibKeeps', WHERE WHAT IT READS IS OF BULK AT MOST 1048576: true; the input reads as it did. -/
def libKeepsUptoRow : OpenClaim := { program := "ythlllpngkljgfaagreat", sum := "c6578371303da05db3aefa79b9be4625d42c347c95d014c1605c332304cf41f9", func := "drawknife/drawknifelaw16.LibKeeps", spec := "libKeeps", inPlace := ["math.Float64frombits", "math.Float64bits", "math.archMin", "math.archMax"], unfollowed := true, recurses := true, apart := false, narrowed := true }
def LibKeepsUptoSaid : Prop := libKeepsUptoRow.holds Tryz.pinned (OpenSpec.upto libKeepsSpec)

/-- 'drawknifelaw21.PlaceHolds', WHERE WHAT IT READS IS OF BULK AT MOST 1048576: true; the input reads as it did. -/
def placeHoldsUptoRow : OpenClaim := { program := "ythlllpngkljgfaagreat", sum := "c6578371303da05db3aefa79b9be4625d42c347c95d014c1605c332304cf41f9", func := "drawknife/drawknifelaw21.PlaceHolds", spec := "placeHolds", inPlace := ["math.Float64frombits", "math.Float64bits", "math.archMin", "math.archMax"], unfollowed := true, recurses := true, apart := false, narrowed := true }
def PlaceHoldsUptoSaid : Prop := placeHoldsUptoRow.holds Tryz.pinned (OpenSpec.upto placeHoldsSpec)

/-- 'drawknifelaw21.PlaceMoves', WHERE WHAT IT READS IS OF BULK AT MOST 1048576: true; the input reads as it did. -/
def placeMovesUptoRow : OpenClaim := { program := "ythlllpngkljgfaagreat", sum := "c6578371303da05db3aefa79b9be4625d42c347c95d014c1605c332304cf41f9", func := "drawknife/drawknifelaw21.PlaceMoves", spec := "placeMoves", inPlace := ["math.Float64frombits", "math.Float64bits", "math.archMin", "math.archMax"], unfollowed := true, recurses := true, apart := false, narrowed := true }
def PlaceMovesUptoSaid : Prop := placeMovesUptoRow.holds Tryz.pinned (OpenSpec.upto placeMovesSpec)

/-- 'drawknifelaw23.FairBounds', WHERE WHAT IT READS IS OF BULK AT MOST 1048576: true; the input reads as it did. -/
def fairBoundsUptoRow : OpenClaim := { program := "ythlllpngkljgfaagreat", sum := "c6578371303da05db3aefa79b9be4625d42c347c95d014c1605c332304cf41f9", func := "drawknife/drawknifelaw23.FairBounds", spec := "fairBounds", inPlace := ["math.Float64frombits", "math.Float64bits", "math.archMin", "math.archMax"], unfollowed := true, recurses := true, apart := false, narrowed := true }
def FairBoundsUptoSaid : Prop := fairBoundsUptoRow.holds Tryz.pinned (OpenSpec.upto fairBoundsSpec)

/-- 'drawknifelaw23.FairMore', WHERE WHAT IT READS IS OF BULK AT MOST 1048576: true; the input reads as it did. -/
def fairMoreUptoRow : OpenClaim := { program := "ythlllpngkljgfaagreat", sum := "c6578371303da05db3aefa79b9be4625d42c347c95d014c1605c332304cf41f9", func := "drawknife/drawknifelaw23.FairMore", spec := "fairMore", inPlace := ["math.Float64frombits", "math.Float64bits", "math.archMin", "math.archMax"], unfollowed := true, recurses := true, apart := false, narrowed := true }
def FairMoreUptoSaid : Prop := fairMoreUptoRow.holds Tryz.pinned (OpenSpec.upto fairMoreSpec)

/-- 'drawknifelaw20.MatchSame', WHERE WHAT IT READS IS OF BULK AT MOST 1048576: true; the input reads as it did. -/
def matchSameUptoRow : OpenClaim := { program := "ythlllpngkljgfaagreat", sum := "c6578371303da05db3aefa79b9be4625d42c347c95d014c1605c332304cf41f9", func := "drawknife/drawknifelaw20.MatchSame", spec := "matchSame", inPlace := ["math.Float64frombits", "math.Float64bits", "math.archMin", "math.archMax"], unfollowed := true, recurses := true, apart := false, narrowed := true }
def MatchSameUptoSaid : Prop := matchSameUptoRow.holds Tryz.pinned (OpenSpec.upto matchSameSpec)

/-- 'drawknifelaw20.MatchEarly', WHERE WHAT IT READS IS OF BULK AT MOST 1048576: true; the input reads as it did. -/
def matchEarlyUptoRow : OpenClaim := { program := "ythlllpngkljgfaagreat", sum := "c6578371303da05db3aefa79b9be4625d42c347c95d014c1605c332304cf41f9", func := "drawknife/drawknifelaw20.MatchEarly", spec := "matchEarly", inPlace := ["math.Float64frombits", "math.Float64bits", "math.archMin", "math.archMax"], unfollowed := true, recurses := true, apart := false, narrowed := true }
def MatchEarlyUptoSaid : Prop := matchEarlyUptoRow.holds Tryz.pinned (OpenSpec.upto matchEarlySpec)

end Rows
end Go.Proofs.YthlllpngkljgfaaGreat
