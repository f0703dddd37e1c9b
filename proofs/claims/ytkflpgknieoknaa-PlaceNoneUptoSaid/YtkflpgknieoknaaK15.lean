/- The witness of the laws on places, worked out. Conditions: none, this text proves no statement. -/
import Derived.Test.YtkflpgknieoknaaK14
import Derived.KernelRfl
namespace Go.SLYtkflpgknieoknaa
open Go Go.RowKit

/-- A system. -/
def sysH (b : Nat) (k : Krn) (prio : List Int) : HProp := exP2 (fun _ _ => True) fun (kb : Nat) (v : Value) => [arr b 0 [ptr kb, v, .int .i64 0, .slice none 0 0], krnH kb k, sl intE 1 v prio]
def K21a : Krn := Krn.new 1 [P18, P18]
def K21 : Krn := (K21a.share [0, 0] 0).1
theorem a21_0 : krnErr 1 [P18, P18] = 0 := by kernel_rfl
def L21a : Lib := K21.libs.getD 0 libZ
def L21b : Lib := K21.libs.getD 1 libZ
theorem a21_1 : placeOf L21a 0 = [⟨3, 0⟩] := by kernel_rfl
theorem a21_2 : placeOf L21b 0 = [⟨4, -1⟩] := by kernel_rfl
theorem a21_3 : placeOf L21a 1 = [] := by kernel_rfl
theorem a21_4 : rightAll K21 = true := by kernel_rfl
theorem a21_5 : K21.libs.length = 2 := by kernel_rfl
theorem a21_a : K21.libs[0]? = some L21a := by kernel_rfl
theorem a21_b : K21.libs[1]? = some L21b := by kernel_rfl
def pokB (k : Krn) : Bool := k.libs.all fun l => l.vs.all (fun v => decide (v.evs.length ≤ 1000000)) && decide (l.waiting.length ≤ 1000000) && decide (l.rows.length ≤ 64) && l.rows.all (fun r => decide (r.length ≤ 1000000))
theorem pok_of {k : Krn} (h : pokB k = true) : POk k := ⟨fun l hl => by
  have := List.all_eq_true.1 h l hl
  simp only [Bool.and_eq_true, decide_eq_true_eq, List.all_eq_true] at this
  exact ⟨this.1.1.1, this.1.1.2, this.1.2, this.2⟩⟩
theorem a21_p : pokB K21 = true := by kernel_rfl
theorem prio_snoc {ps : List PrgV} {n : Nat} {x : PrgV} (h : ps[n]? = some x) : (ps.take (n + 1)).map (·.prio) = (ps.take n).map (·.prio) ++ [x.prio] := by rw [take_snoc h, List.map_append]; rfl
end Go.SLYtkflpgknieoknaa
