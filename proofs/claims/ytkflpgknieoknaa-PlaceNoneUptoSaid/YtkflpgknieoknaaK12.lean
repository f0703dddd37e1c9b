/- The witnesses of the laws on sharing, worked out. Conditions: none, this text proves no statement. -/
import Derived.Test.YtkflpgknieoknaaK11
import Derived.KernelRfl
namespace Go.SLYtkflpgknieoknaa
open Go Go.RowKit

theorem prg_grp {W : World} {H : List HProp} {v : PrgV} (h : PrgRd W H v) : PrgRd W [seps H] v := ⟨Rd.grp h.fs, fun x hx => Rd.grp (h.ins x hx), Rd.grp h.sems, Rd.grp h.pipes⟩
theorem free_le {k : Krn} (h : k.owner.length ≤ 64) : k.free.length ≤ 1000000000 := by
  rw [show k.free = posFrom (-1) k.owner 0 from free_pos _ _, pos_len]
  have := List.count_le_length (a := (-1 : Int)) (l := k.owner)
  omega
def P18 : Prg := ⟨[[⟨1, 1, 0, 0, 5⟩]], 0, 0, 0, [], [], 0, 0⟩
def K18 : Krn := Krn.new 3 [P18, P18]
theorem a18_0 : krnErr 3 [P18, P18] = 0 := by kernel_rfl
theorem a18_1 : K18.fair [0, 0] 0 = false := by kernel_rfl
theorem a18_2 : (K18.share [0, 0] 0).2 = 2 := by kernel_rfl
theorem a18_3 : (K18.share [0, 0] 0).1.fair [0, 0] 0 = true := by kernel_rfl
theorem a18_4 : (K18.share [0, 0] 0).1.targets [0, 0] 0 = [1, 1] := by kernel_rfl
theorem a18_5 : (K18.share [0, 0] 0).1.free = [2] := by kernel_rfl
def pv18 (a b : Nat) : PrgV := ⟨.slice (some ⟨b, 0, none⟩) 1 1, [(.slice (some ⟨a, 0, none⟩) 1 1, [⟨1, 1, 0, 0, 5⟩])], 0, 0, 0, .slice none 0 0, [], .slice none 0 0, [], 0, 0⟩
theorem pv18_rd {W : World} {H : List HProp} {a b : Nat} (ha : At H (arr a 0 (insE ⟨1, 1, 0, 0, 5⟩))) (hb : At H (arr b 0 [.slice (some ⟨a, 0, none⟩) 1 1])) : PrgRd W H (pv18 a b) where
  fs := Rd.lit hb rfl (fun _ _ => rfl) rfl
  ins := fun x hx => by
    obtain rfl : x = (.slice (some ⟨a, 0, none⟩) 1 1, [⟨1, 1, 0, 0, 5⟩]) := by simpa [pv18] using hx
    exact Rd.lit ha rfl (fun _ _ => rfl) rfl
  sems := Rd.nil
  pipes := Rd.nil
theorem a18_6 : ((K18.share [0, 0] 0).1.share [0] 0).2 = 0 := by kernel_rfl
def A18 (a b c : Nat) : HProp := seps [arr c 0 (prgE (pv18 a b) ++ prgE (pv18 a b)), arr b 0 [.slice (some ⟨a, 0, none⟩) 1 1], arr a 0 (insE ⟨1, 1, 0, 0, 5⟩)]
theorem pv18_two {W : World} {a b c : Nat} : Rd W [A18 a b c] prgE 8 (.slice (some ⟨c, 0, none⟩) 2 2) [pv18 a b, pv18 a b] := Rd.grp (Rd.lit .here rfl (fun _ _ => rfl) rfl)
theorem pv18_all {W : World} {a b c : Nat} : ∀ p ∈ [pv18 a b, pv18 a b], PrgRd W [A18 a b c] p := fun p hp => by
  obtain rfl : p = pv18 a b := by simpa using hp
  exact prg_grp (pv18_rd (.there (.there .here)) (.there .here))
theorem pv18_len {a b : Nat} : [pv18 a b, pv18 a b].length ≤ 1000000000 ∧ ∀ p ∈ [pv18 a b, pv18 a b], p.fs.length ≤ 1000000000 ∧ p.sems.length ≤ 1000000000 ∧ p.pipes.length ≤ 1000000000 := ⟨by simp, fun p hp => by
  obtain rfl : p = pv18 a b := by simpa using hp
  exact ⟨by simp [pv18], by simp [pv18], by simp [pv18]⟩⟩
end Go.SLYtkflpgknieoknaa
