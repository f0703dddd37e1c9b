/- What is read of a program. Conditions: none, this text proves no statement. -/
import Derived.Test.YtkflpgknieoknaaRj
import Derived.Test.YtkflpgknieoknaaSLi
import Derived.Test.YtkflpgknieoknaaRows
namespace Go.Proofs.Ytkflpgknieoknaa
open Go Go.RowKit Go.ChangeShapes Go.WideShapes Go.ChangeAt Go.SLYtkflpgknieoknaa

/-! the bulk of what is read -/
theorem bulkAll_eq {H : Type} : ∀ l : List (DataW H), Rows.uptoBulkAll l = (l.map Rows.uptoBulk).sum
  | [] => by simp [Rows.uptoBulkAll]
  | d :: r => by simp [Rows.uptoBulkAll, bulkAll_eq r]
theorem bulkOk {H : Type} : BulkOk (Rows.uptoBulk (H := H)) where
  one := fun d => by
    cases d with
    | lit l => cases l <;> simp [Rows.uptoBulk]
    | nil => simp [Rows.uptoBulk]
    | ptr d => simp [Rows.uptoBulk]
    | slice elems spare => simp [Rows.uptoBulk]
    | agg parts => simp [Rows.uptoBulk]
    | iface t d => simp [Rows.uptoBulk]
    | map entries => simp [Rows.uptoBulk]
    | held h => simp [Rows.uptoBulk]
  slice := fun es sp => by rw [← bulkAll_eq]; simp only [Rows.uptoBulk]; omega
  agg := fun ds => by rw [← bulkAll_eq]; simp only [Rows.uptoBulk]; omega
theorem bound {H : Type} {l : List (DataW H)} (hk : Rows.uptoSmall H l = true) : (l.map Rows.uptoBulk).sum ≤ 1048576 := by
  rw [← bulkAll_eq]; simpa [Rows.uptoSmall] using hk

structure PrgAt (W : World) (v : PrgV) (n : Nat) : Prop where
  fs : RdAt W fstE 1 v.fv v.fs
  ins : ∀ x ∈ v.fs, RdAt W insE 5 x.1 x.2
  sems : RdAt W intE 1 v.sv v.sems
  pipes : RdAt W intE 1 v.pv v.pipes
  fl : v.fs.length ≤ n
  sl : v.sems.length ≤ n
  pl : v.pipes.length ≤ n
theorem PrgAt.rd {W : World} {v : PrgV} {n : Nat} (h : PrgAt W v n) (H : List HProp) : PrgRd W H v := ⟨.old h.fs, fun x hx => .old (h.ins x hx), .old h.sems, .old h.pipes⟩

section
variable {H : Type} {enc : TypeId × Value → H} {W : World}
theorem opensIns : Opens enc Try.prog W Rows.uptoBulk 55 insE (fun _ _ => True) := fun fuel cs x h => by
  obtain ⟨hl, hf⟩ := open_struct bulkOk Try.underlying55 (by kernel_rfl) (by
    intro i f hi
    match i, hi with
    | 0, hi => cases hi; exact ⟨rfl, by kernel_rfl⟩
    | 1, hi => cases hi; exact ⟨rfl, by kernel_rfl⟩
    | 2, hi => cases hi; exact ⟨rfl, by kernel_rfl⟩
    | 3, hi => cases hi; exact ⟨rfl, by kernel_rfl⟩
    | 4, hi => cases hi; exact ⟨rfl, by kernel_rfl⟩
    | n + 5, hi => simp at hi) h
  obtain ⟨v0, n0, y0, e0, t0, _⟩ := hf 0 _ rfl
  obtain ⟨v1, n1, y1, e1, t1, _⟩ := hf 1 _ rfl
  obtain ⟨v2, n2, y2, e2, t2, _⟩ := hf 2 _ rfl
  obtain ⟨v3, n3, y3, e3, t3, _⟩ := hf 3 _ rfl
  obtain ⟨v4, n4, y4, e4, t4, _⟩ := hf 4 _ rfl
  obtain ⟨a0, r0, _, _⟩ := DataW.trod_int Try.underlying3 t0
  obtain ⟨a1, r1, _, _⟩ := DataW.trod_int Try.underlying3 t1
  obtain ⟨a2, r2, _, _⟩ := DataW.trod_int Try.underlying3 t2
  obtain ⟨a3, r3, _, _⟩ := DataW.trod_int Try.underlying3 t3
  obtain ⟨a4, r4, _, _⟩ := DataW.trod_int Try.underlying53 t4
  cases r0; cases r1; cases r2; cases r3; cases r4
  refine ⟨⟨a0, a1, a2, a3, a4⟩, ?_, trivial⟩
  match cs, hl with
  | [w0, w1, w2, w3, w4], _ =>
    simp at e0 e1 e2 e3 e4
    subst e0 e1 e2 e3 e4
    rfl
theorem opensCode : Opens enc Try.prog W Rows.uptoBulk 56 (fstE (α := List Ins)) (fun p n => RdAt W insE 5 p.1 p.2 ∧ p.2.length + 1 ≤ n ∧ ∀ a ∈ p.2, True) :=
  Opens.slice bulkOk Try.underlying56 (by kernel_rfl) (by decide) (fun _ => rfl) opensIns (fun _ _ _ _ _ => trivial)
theorem opensFuncs : Opens enc Try.prog W Rows.uptoBulk 45 (fun p : Value × List (Value × List Ins) => [p.1]) (fun p n => RdAt W fstE 1 p.1 p.2 ∧ p.2.length + 1 ≤ n ∧ ∀ a ∈ p.2, RdAt W insE 5 a.1 a.2 ∧ a.2.length + 1 ≤ n ∧ ∀ b ∈ a.2, True) :=
  Opens.slice bulkOk Try.underlying45 (by kernel_rfl) (by decide) (fun _ => rfl) opensCode (fun _ _ _ hm h => ⟨h.1, Nat.le_trans h.2.1 hm, fun _ _ => trivial⟩)
theorem opensInts : Opens enc Try.prog W Rows.uptoBulk 23 (fun p : Value × List Int => [p.1]) (fun p n => RdAt W intE 1 p.1 p.2 ∧ p.2.length + 1 ≤ n ∧ ∀ a ∈ p.2, True) :=
  Opens.slice bulkOk Try.underlying23 (by kernel_rfl) (by decide) (fun _ => rfl) (fun fuel cs x h => by
    obtain ⟨n, rfl, _, _⟩ := DataW.trod_int Try.underlying3 h
    exact ⟨n, rfl, trivial⟩) (fun _ _ _ _ _ => trivial)
theorem opensPrg : Opens enc Try.prog W Rows.uptoBulk 47 prgE (fun v n => PrgAt W v n) := fun fuel cs x h => by
  obtain ⟨hl, hf⟩ := open_struct bulkOk Try.underlying47 (by kernel_rfl) (by
    intro i f hi
    match i, hi with
    | 0, hi => cases hi; exact ⟨rfl, by kernel_rfl⟩
    | 1, hi => cases hi; exact ⟨rfl, by kernel_rfl⟩
    | 2, hi => cases hi; exact ⟨rfl, by kernel_rfl⟩
    | 3, hi => cases hi; exact ⟨rfl, by kernel_rfl⟩
    | 4, hi => cases hi; exact ⟨rfl, by kernel_rfl⟩
    | 5, hi => cases hi; exact ⟨rfl, by kernel_rfl⟩
    | 6, hi => cases hi; exact ⟨rfl, by kernel_rfl⟩
    | 7, hi => cases hi; exact ⟨rfl, by kernel_rfl⟩
    | n + 8, hi => simp at hi) h
  obtain ⟨v0, n0, y0, e0, t0, b0⟩ := hf 0 _ rfl
  obtain ⟨v1, n1, y1, e1, t1, _⟩ := hf 1 _ rfl
  obtain ⟨v2, n2, y2, e2, t2, _⟩ := hf 2 _ rfl
  obtain ⟨v3, n3, y3, e3, t3, _⟩ := hf 3 _ rfl
  obtain ⟨v4, n4, y4, e4, t4, b4⟩ := hf 4 _ rfl
  obtain ⟨v5, n5, y5, e5, t5, b5⟩ := hf 5 _ rfl
  obtain ⟨v6, n6, y6, e6, t6, _⟩ := hf 6 _ rfl
  obtain ⟨v7, n7, y7, e7, t7, _⟩ := hf 7 _ rfl
  obtain ⟨⟨fv, fs⟩, r0, f1, f2, f3⟩ := opensFuncs _ _ _ t0
  obtain ⟨a1, r1, _, _⟩ := DataW.trod_int Try.underlying3 t1
  obtain ⟨a2, r2, _, _⟩ := DataW.trod_int Try.underlying3 t2
  obtain ⟨a3, r3, _, _⟩ := DataW.trod_int Try.underlying3 t3
  obtain ⟨⟨sv, sems⟩, r4, s1, s2, _⟩ := opensInts _ _ _ t4
  obtain ⟨⟨pv, pipes⟩, r5, p1, p2, _⟩ := opensInts _ _ _ t5
  obtain ⟨a6, r6, _, _⟩ := DataW.trod_int Try.underlying3 t6
  obtain ⟨a7, r7, _, _⟩ := DataW.trod_int Try.underlying3 t7
  cases r0; cases r1; cases r2; cases r3; cases r4; cases r5; cases r6; cases r7
  refine ⟨⟨fv, fs, a1, a2, a3, sv, sems, pv, pipes, a6, a7⟩, ?_, ⟨f1, fun x hx => (f3 x hx).1, s1, p1, ?_, ?_, ?_⟩⟩
  · match cs, hl with
    | [w0, w1, w2, w3, w4, w5, w6, w7], _ =>
      simp at e0 e1 e2 e3 e4 e5 e6 e7
      subst e0 e1 e2 e3 e4 e5 e6 e7
      rfl
  · exact Nat.le_trans (Nat.le_of_succ_le f2) b0
  · exact Nat.le_trans (Nat.le_of_succ_le s2) b4
  · exact Nat.le_trans (Nat.le_of_succ_le p2) b5
theorem opensPrgs : Opens enc Try.prog W Rows.uptoBulk 22 (fun p : Value × List PrgV => [p.1]) (fun p n => RdAt W prgE 8 p.1 p.2 ∧ p.2.length + 1 ≤ n ∧ ∀ a ∈ p.2, PrgAt W a n) :=
  Opens.slice bulkOk Try.underlying22 (by kernel_rfl) (by decide) (fun _ => rfl) opensPrg (fun _ _ _ hm h => ⟨h.fs, h.ins, h.sems, h.pipes, Nat.le_trans h.fl hm, Nat.le_trans h.sl hm, Nat.le_trans h.pl hm⟩)
end

theorem own : ownKnob Try.prog.godebug = none := by kernel_rfl
theorem laid : laidOutB Try.prog = true := by kernel_rfl
end Go.Proofs.Ytkflpgknieoknaa
