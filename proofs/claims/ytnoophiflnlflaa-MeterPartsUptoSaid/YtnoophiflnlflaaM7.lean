/- Walks of functions, and what they compute. Conditions: none, this text proves no statement. -/
import Derived.Test.YtnoophiflnlflaaM6
namespace Go.SLYtnoophiflnlflaa
open Go Go.RowKit Go.Proofs Go.Proofs.YtnoophiflnlflaaX

/-! what MeterSpreads computes -/
def pr (sp : Int) (acts : List ActV) (k : Nat) : List Int := runsOf sp (acts.take k)
def dF (sp : Int) (acts : List ActV) (k : Nat) : List Int := (List.range 16).map fun (i : Nat) => (((runsOf sp acts).count (i : Int) : Nat) : Int) - (((pr sp acts k).count (i : Int) : Nat) : Int)
theorem dF_len (sp : Int) (acts : List ActV) (k : Nat) : (dF sp acts k).length = 16 := by unfold dF; simp
theorem dF_get (sp : Int) (acts : List ActV) (k : Nat) {i : Nat} (hi : i < 16) : (dF sp acts k)[i]? = some ((((runsOf sp acts).count (i : Int) : Nat) : Int) - (((pr sp acts k).count (i : Int) : Nat) : Int)) := by
  unfold dF; rw [List.getElem?_map, List.getElem?_range hi]; rfl
theorem dF_zero (sp : Int) (acts : List ActV) : dF sp acts 0 = spr (runsOf sp acts) := by
  unfold dF spr pr; simp [runsOf]
def z16 : List Int := [0,0,0,0,0,0,0,0,0,0,0,0,0,0,0,0]
theorem dF_all (sp : Int) (acts : List ActV) : dF sp acts acts.length = z16 := by
  unfold dF pr; rw [List.take_length]
  simp; rfl
theorem pr_hit {sp : Int} {acts : List ActV} {k : Nat} {a : ActV} (h : acts[k]? = some a) (hh : hits sp a = true) : pr sp acts (k + 1) = pr sp acts k ++ [a.thread] := by
  unfold pr; rw [runsOf_take sp acts h, if_pos hh]
theorem pr_miss {sp : Int} {acts : List ActV} {k : Nat} {a : ActV} (h : acts[k]? = some a) (hh : hits sp a = false) : pr sp acts (k + 1) = pr sp acts k := by
  unfold pr; rw [runsOf_take sp acts h, if_neg (by rw [hh]; decide), List.append_nil]
theorem pr_len (sp : Int) (acts : List ActV) (k : Nat) : (pr sp acts k).length ≤ acts.length := by
  unfold pr; exact Nat.le_trans (runsOf_le _ _) (by rw [List.length_take]; omega)
theorem dF_step {sp : Int} {acts : List ActV} {k : Nat} (h : pr sp acts (k + 1) = pr sp acts k) : dF sp acts (k + 1) = dF sp acts k := by unfold dF; rw [h]
theorem dF_out {sp : Int} {acts : List ActV} {k : Nat} {x : Int} (h : pr sp acts (k + 1) = pr sp acts k ++ [x]) (hx : ¬ (0 ≤ x ∧ x < 16)) : dF sp acts (k + 1) = dF sp acts k := by
  apply List.ext_getElem?
  intro i
  by_cases hi : i < 16
  · rw [dF_get _ _ _ hi, dF_get _ _ _ hi, h, count_snoc, if_neg (by omega)]; simp
  · rw [List.getElem?_eq_none (by rw [dF_len]; omega), List.getElem?_eq_none (by rw [dF_len]; omega)]
theorem dF_in {sp : Int} {acts : List ActV} {k : Nat} {x : Int} (h : pr sp acts (k + 1) = pr sp acts k ++ [x]) (h0 : 0 ≤ x) (h1 : x < 16) : (dF sp acts k).set x.toNat ((dF sp acts k).getD x.toNat 0 - 1) = dF sp acts (k + 1) := by
  apply List.ext_getElem?
  intro i
  by_cases hi : i < 16
  · rw [dF_get _ _ _ hi, h, count_snoc]
    by_cases e : x.toNat = i
    · subst e
      rw [List.getElem?_set_self (by rw [dF_len]; exact hi), List.getD_eq_getElem?_getD, dF_get _ _ _ hi, Int.toNat_of_nonneg h0, if_pos rfl]
      simp; omega
    · rw [List.getElem?_set_ne e, dF_get _ _ _ hi, if_neg (by omega)]; simp
  · rw [List.getElem?_eq_none (by rw [List.length_set, dF_len]; omega), List.getElem?_eq_none (by rw [dF_len]; omega)]
theorem dF_bound {sp : Int} {acts : List ActV} {k : Nat} (hl : acts.length ≤ 1048576) {i : Nat} (hi : i < 16) : -1048576 ≤ (dF sp acts k).getD i 0 ∧ (dF sp acts k).getD i 0 ≤ 1048576 := by
  rw [List.getD_eq_getElem?_getD, dF_get _ _ _ hi]
  have h1 : (runsOf sp acts).count (i : Int) ≤ (runsOf sp acts).length := List.count_le_length
  have h2 : (pr sp acts k).count (i : Int) ≤ (pr sp acts k).length := List.count_le_length
  have h3 := runsOf_le sp acts
  have h4 := pr_len sp acts k
  simp only [Option.getD_some]
  omega
theorem map_get {l : List Int} {i : Nat} (hi : i < l.length) : (l.map (Value.int .i64))[i]? = some (.int .i64 (l.getD i 0)) := by
  rw [List.getElem?_map, List.getD_eq_getElem?_getD, List.getElem?_eq_getElem hi]; rfl
theorem map_one (l : List Int) : (l.map (Value.int .i64)).all (·.oneCell') = true := by simp [Value.oneCell']
theorem map_set' {l : List Int} (i : Nat) (v : Int) : (l.map (Value.int .i64)).set i (.int .i64 v) = (l.set i v).map (Value.int .i64) := List.map_set.symm

def tF (sp : Int) (acts : List ActV) (k : Nat) : Nat := (turnSt (pr sp acts k)).1
def lF (sp : Int) (acts : List ActV) (k : Nat) : Int := (turnSt (pr sp acts k)).2.getD 0
def aF (sp : Int) (acts : List ActV) (k : Nat) : Bool := (turnSt (pr sp acts k)).2.isSome
theorem tF_le (sp : Int) (acts : List ActV) (k : Nat) : tF sp acts k ≤ acts.length := Nat.le_trans (turnSt_le _) (pr_len _ _ _)
theorem tF_same {sp : Int} {acts : List ActV} {k : Nat} (h : pr sp acts (k + 1) = pr sp acts k) : tF sp acts (k + 1) = tF sp acts k ∧ lF sp acts (k + 1) = lF sp acts k ∧ aF sp acts (k + 1) = aF sp acts k := by
  unfold tF lF aF; rw [h]; exact ⟨rfl, rfl, rfl⟩
theorem lF_hit {sp : Int} {acts : List ActV} {k : Nat} {x : Int} (h : pr sp acts (k + 1) = pr sp acts k ++ [x]) : lF sp acts (k + 1) = x ∧ aF sp acts (k + 1) = true := by
  unfold lF aF; rw [h, turnSt_snoc]; exact ⟨rfl, rfl⟩
theorem tF_none {sp : Int} {acts : List ActV} {k : Nat} {x : Int} (h : pr sp acts (k + 1) = pr sp acts k ++ [x]) (ha : aF sp acts k = false) : tF sp acts (k + 1) = tF sp acts k := by
  unfold tF; rw [h, turnSt_snoc]
  unfold aF at ha
  cases e : (turnSt (pr sp acts k)).2 with
  | none => simp
  | some z => rw [e] at ha; cases ha
theorem tF_eq {sp : Int} {acts : List ActV} {k : Nat} {x : Int} (h : pr sp acts (k + 1) = pr sp acts k ++ [x]) (ha : aF sp acts k = true) (hx : ¬ x ≠ lF sp acts k) : tF sp acts (k + 1) = tF sp acts k := by
  unfold tF; rw [h, turnSt_snoc]
  unfold aF at ha
  unfold lF at hx
  cases e : (turnSt (pr sp acts k)).2 with
  | none => simp
  | some z => rw [e] at hx; simp at hx; simp [hx]
theorem tF_ne {sp : Int} {acts : List ActV} {k : Nat} {x : Int} (h : pr sp acts (k + 1) = pr sp acts k ++ [x]) (ha : aF sp acts k = true) (hx : x ≠ lF sp acts k) : tF sp acts (k + 1) = tF sp acts k + 1 := by
  unfold tF; rw [h, turnSt_snoc]
  unfold aF at ha
  unfold lF at hx
  cases e : (turnSt (pr sp acts k)).2 with
  | none => rw [e] at ha; cases ha
  | some z => rw [e] at hx; simp at hx; simp [Ne.symm hx]
theorem tF_all (sp : Int) (acts : List ActV) : tF sp acts acts.length = (turnSt (runsOf sp acts)).1 := by unfold tF pr; rw [List.take_length]
theorem tF_zero (sp : Int) (acts : List ActV) : tF sp acts 0 = 0 ∧ lF sp acts 0 = 0 ∧ aF sp acts 0 = false := by unfold tF lF aF pr; simp [runsOf, turnSt]
end Go.SLYtnoophiflnlflaa
