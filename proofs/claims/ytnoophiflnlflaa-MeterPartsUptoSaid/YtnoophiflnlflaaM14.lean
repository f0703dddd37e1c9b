/- Acts in two parts: what their threads' spreads and turns come to. Conditions: none, this text proves no statement. -/
import Derived.Test.YtnoophiflnlflaaM7
namespace Go.SLYtnoophiflnlflaa
open Go Go.RowKit Go.Proofs Go.Proofs.YtnoophiflnlflaaX

theorem runsOf_app (sp : Int) (l r : List ActV) : runsOf sp (l ++ r) = runsOf sp l ++ runsOf sp r := by unfold runsOf; rw [List.filter_append, List.map_append]
theorem turn_from (xs : List Int) : ∀ s : Nat × Option Int, (xs.foldl (fun s n => ((if s.2 = none ∨ s.2 = some n then s.1 else s.1 + 1), some n)) s).1 = s.1 + (xs.foldl (fun s n => ((if s.2 = none ∨ s.2 = some n then s.1 else s.1 + 1), some n)) (0, s.2)).1 := by
  induction xs with
  | nil => intro s; simp
  | cons n xs ih =>
    intro s
    simp only [List.foldl_cons]
    rw [ih, ih (if s.2 = none ∨ s.2 = some n then 0 else 0 + 1, some n)]
    split <;> simp <;> omega
theorem turn_start (xs : List Int) (o : Option Int) : (turnSt xs).1 ≤ (xs.foldl (fun s n => ((if s.2 = none ∨ s.2 = some n then s.1 else s.1 + 1), some n)) ((0 : Nat), o)).1 ∧
    (xs.foldl (fun s n => ((if s.2 = none ∨ s.2 = some n then s.1 else s.1 + 1), some n)) ((0 : Nat), o)).1 ≤ (turnSt xs).1 + 1 := by
  cases xs with
  | nil => simp [turnSt]
  | cons n xs =>
    unfold turnSt
    simp only [List.foldl_cons, true_or, if_true]
    rw [turn_from xs (if o = none ∨ o = some n then 0 else 0 + 1, some n)]
    split <;> simp <;> omega
theorem turn_app (xs ys : List Int) : (turnSt xs).1 + (turnSt ys).1 ≤ (turnSt (xs ++ ys)).1 ∧ (turnSt (xs ++ ys)).1 ≤ (turnSt xs).1 + (turnSt ys).1 + 1 := by
  have h : (turnSt (xs ++ ys)).1 = (turnSt xs).1 + (ys.foldl (fun s n => ((if s.2 = none ∨ s.2 = some n then s.1 else s.1 + 1), some n)) ((0 : Nat), (turnSt xs).2)).1 := by
    unfold turnSt; rw [List.foldl_append, turn_from]
  have := turn_start ys (turnSt xs).2
  omega
theorem turn_lt (xs : List Int) : (turnSt xs).1 = 0 ∨ (turnSt xs).1 < xs.length := by
  cases xs with
  | nil => simp [turnSt]
  | cons n xs =>
    have h : (turnSt (n :: xs)).1 = (xs.foldl (fun s n => ((if s.2 = none ∨ s.2 = some n then s.1 else s.1 + 1), some n)) ((0 : Nat), some n)).1 := by
      unfold turnSt; simp
    have h2 : ∀ (xs : List Int) (s : Nat × Option Int), (xs.foldl (fun s n => ((if s.2 = none ∨ s.2 = some n then s.1 else s.1 + 1), some n)) s).1 ≤ s.1 + xs.length := by
      intro xs
      induction xs with
      | nil => intro s; simp
      | cons m xs ih =>
        intro s
        simp only [List.foldl_cons, List.length_cons]
        have := ih (if s.2 = none ∨ s.2 = some m then s.1 else s.1 + 1, some m)
        have h3 : (if s.2 = none ∨ s.2 = some m then s.1 else s.1 + 1) ≤ s.1 + 1 := by split <;> omega
        simp only at this
        omega
    have := h2 xs (0, some n)
    simp only [List.length_cons]
    omega
theorem spr_getD (xs : List Int) {i : Nat} (hi : i < 16) : (spr xs).getD i 0 = ((xs.count (i : Int) : Nat) : Int) := by
  rw [List.getD_eq_getElem?_getD, spr_get xs hi]; rfl
theorem spr_app (xs ys : List Int) {i : Nat} (hi : i < 16) : (spr (xs ++ ys)).getD i 0 = (spr xs).getD i 0 + (spr ys).getD i 0 := by
  rw [spr_getD _ hi, spr_getD _ hi, spr_getD _ hi, List.count_append]; omega
theorem sum_take_succ (l : List Int) {n : Nat} (hn : n < l.length) : (l.take (n + 1)).sum = (l.take n).sum + l.getD n 0 := by
  rw [List.take_succ_eq_append_getElem hn, List.sum_append, List.getD_eq_getElem?_getD, List.getElem?_eq_getElem hn]; simp
def below (n : Nat) (x : Int) : Nat := if 0 ≤ x ∧ x < (n : Int) then 1 else 0
theorem below_succ (n : Nat) (x : Int) : below (n + 1) x = below n x + if x = (n : Int) then 1 else 0 := by
  unfold below
  by_cases h1 : x = n
  · subst h1
    rw [if_pos (by omega), if_neg (by omega), if_pos rfl]
  · rw [if_neg h1]
    by_cases h2 : 0 ≤ x ∧ x < (n : Int)
    · rw [if_pos h2, if_pos (by omega)]
    · rw [if_neg h2, if_neg (by omega)]
theorem below_sum (xs : List Int) (n : Nat) : (xs.map (below (n + 1))).sum = (xs.map (below n)).sum + xs.count (n : Int) := by
  induction xs with
  | nil => simp
  | cons x xs ih =>
    simp only [List.map_cons, List.sum_cons, List.count_cons, ih, below_succ]
    by_cases h : x = (n : Int)
    · subst h; simp; omega
    · simp [h]; omega
theorem below_le (xs : List Int) (n : Nat) : (xs.map (below n)).sum ≤ xs.length := by
  induction xs with
  | nil => simp
  | cons x xs ih =>
    simp only [List.map_cons, List.sum_cons, List.length_cons]
    have : below n x ≤ 1 := by unfold below; split <;> omega
    omega
theorem spr_sum (xs : List Int) : ∀ n, n ≤ 16 → ((spr xs).take n).sum = (((xs.map (below n)).sum : Nat) : Int)
  | 0, _ => by
    have : xs.map (below 0) = List.replicate xs.length 0 := by
      apply List.ext_getElem?
      intro i
      rw [List.getElem?_map, List.getElem?_replicate]
      by_cases hi : i < xs.length
      · rw [if_pos hi, List.getElem?_eq_getElem hi]
        simp only [Option.map_some, Option.some.injEq]
        unfold below
        exact if_neg (by omega)
      · rw [if_neg hi, List.getElem?_eq_none (by omega)]; rfl
    rw [this]; simp
  | n + 1, hn => by
    rw [sum_take_succ _ (by rw [spr_length]; omega), spr_sum xs n (by omega), spr_getD _ (by omega), below_sum]; omega
end Go.SLYtnoophiflnlflaa
