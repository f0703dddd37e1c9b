/- Small facts for the walks of the inner layers. Conditions: none, this text proves no statement. -/
import Derived.Test.YtkflpgknieoknaaK3
import Derived.Test.YtkflpgknieoknaaSLo
namespace Go.SLYtkflpgknieoknaa
open Go Go.RowKit

theorem retI {k : IntKind} {m n : Int} (h : m = n) : Ending.returned (Value.int k m) = .returned (.int k n) := by rw [h]
theorem retB {m n : Bool} (h : m = n) : Ending.returned (Value.bool m) = .returned (.bool n) := by rw [h]
def formE (f : Form) : List Value := [.int .i64 f.regs, .bool f.mutex, .int .i64 f.n, .bool f.any]
def capsV0 (v : PrgV) : Bool :=
  decide (0 < (v.fs.length : Int)) && decide ((v.fs.length : Int) ≤ 8) && within v.words 64 && within v.mutexes 4 && within v.conds 4 && within v.blocks 64 && within v.prio 7 && decide ((v.sems.length : Int) ≤ 4) && decide ((v.pipes.length : Int) ≤ 4)
def capsV1 (v : PrgV) (k : Nat) : Bool := capsV0 v && (v.fs.take k).all fun f => decide ((f.2.length : Int) ≤ 256)
def capsV2 (v : PrgV) (k : Nat) : Bool := capsV1 v v.fs.length && (v.sems.take k).all fun n => within n 1048576
def capsV3 (v : PrgV) (k : Nat) : Bool := capsV2 v v.sems.length && (v.pipes.take k).all fun n => decide (0 < n) && within n 8
theorem all_snoc {α : Type} {p : α → Bool} {l : List α} {k : Nat} {x : α} (h : l[k]? = some x) : (l.take (k + 1)).all p = ((l.take k).all p && p x) := by rw [take_snoc h, List.all_append]; simp
theorem capsV_eq (v : PrgV) : capsV3 v v.pipes.length = capsI v.p := by
  obtain ⟨fv, fs, words, mutexes, conds, sv, sems, pv, pipes, blocks, prio⟩ := v
  have e0 : ∀ n : Nat, decide (0 < (n : Int)) = decide (0 < n) := fun n => by rw [decide_eq_decide]; omega
  have e8 : ∀ n : Nat, decide ((n : Int) ≤ 8) = decide (n ≤ 8) := fun n => by rw [decide_eq_decide]; omega
  have e4 : ∀ n : Nat, decide ((n : Int) ≤ 4) = decide (n ≤ 4) := fun n => by rw [decide_eq_decide]; omega
  have e2 : ∀ n : Nat, decide ((n : Int) ≤ 256) = decide (n ≤ 256) := fun n => by rw [decide_eq_decide]; omega
  unfold capsV3 capsV2 capsV1 capsV0 capsI PrgV.p
  simp only [List.take_length, List.length_map, List.all_map, e0, e8, e4, e2]
  rfl
theorem caps_and {p : Prg} (h : capsI p = true) : 0 < p.funcs.length ∧ p.funcs.length ≤ 8 ∧ (0 ≤ p.words ∧ p.words ≤ 64) ∧ (0 ≤ p.mutexes ∧ p.mutexes ≤ 4) ∧ (0 ≤ p.conds ∧ p.conds ≤ 4) ∧ (0 ≤ p.blocks ∧ p.blocks ≤ 64) ∧ (0 ≤ p.prio ∧ p.prio ≤ 7) ∧ p.sems.length ≤ 4 ∧ p.pipes.length ≤ 4 ∧
    (∀ f ∈ p.funcs, f.length ≤ 256) ∧ (∀ n ∈ p.sems, 0 ≤ n ∧ n ≤ 1048576) ∧ (∀ n ∈ p.pipes, 0 < n ∧ n ≤ 8) := by
  unfold capsI within at h
  simp only [Bool.and_eq_true, decide_eq_true_eq, List.all_eq_true] at h
  obtain ⟨⟨⟨⟨⟨⟨⟨⟨⟨⟨⟨h1, h2⟩, h3⟩, h4⟩, h5⟩, h6⟩, h7⟩, h8⟩, h9⟩, h10⟩, h11⟩, h12⟩ := h
  exact ⟨h1, h2, h3, h4, h5, h6, h7, h8, h9, h10, h11, fun n hn => ⟨(h12 n hn).1, (h12 n hn).2.2⟩⟩
theorem caps_fs {v : PrgV} (h : capsI v.p = true) {x : Value × List Ins} (hx : x ∈ v.fs) : x.2.length ≤ 256 :=
  (caps_and h).2.2.2.2.2.2.2.2.2.1 x.2 (List.mem_map.2 ⟨x, hx, rfl⟩)
theorem ite_n {c : Prop} [Decidable c] {x y : Form} {m : Int} (hx : x.n ≤ m) (hy : y.n ≤ m) : (if c then x else y).n ≤ m := by split <;> assumption
theorem caps_form {p : Prg} (h : capsI p = true) (op : Int) : (formOf p op).n ≤ 9223372036854775807 := by
  obtain ⟨h1, h2, _, h4, h5, _, _, h8, h9, _⟩ := caps_and h
  unfold formOf
  repeat' apply ite_n
  all_goals (show (_ : Int) ≤ _; simp only; omega)
theorem check_bad {v : PrgV} (h : capsI v.p = true) {k j : Nat} {x : Value × List Ins} {i : Ins} (hx : v.fs[k]? = some x) (hj : x.2[j]? = some i) (hs : soundI v.p i = false) : checkI v.p = 8 := by
  unfold checkI
  rw [if_pos h, if_neg]
  intro h'
  rw [List.all_eq_true] at h'
  have := h' x.2 (List.mem_map.2 ⟨x, List.mem_of_getElem? hx, rfl⟩)
  rw [List.all_eq_true] at this
  have := this i (List.mem_of_getElem? hj)
  rw [hs] at this; cases this
theorem check_ok {v : PrgV} (h : capsI v.p = true) (hs : v.fs.all (fun f : Value × List Ins => f.2.all (soundI v.p)) = true) : checkI v.p = 0 := by
  unfold checkI
  rw [if_pos h, if_pos]
  rw [List.all_eq_true] at hs ⊢
  intro f hf
  obtain ⟨x, hx, rfl⟩ := List.mem_map.1 hf
  exact hs x hx
theorem min_ite (m n : Int) : (if n < m then n else m) = min m n := by omega
theorem max_ite (m n : Int) : (if n > m then n else m) = max m n := by omega
theorem clamp_nat (n : Int) (m : Nat) : ∃ k : Nat, clamp n m = k ∧ k ≤ m := ⟨(clamp n m).toNat, by unfold clamp; omega, by unfold clamp; omega⟩
end Go.SLYtkflpgknieoknaa
