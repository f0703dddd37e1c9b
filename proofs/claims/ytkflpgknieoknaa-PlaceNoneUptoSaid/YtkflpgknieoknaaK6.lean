/- Small facts about a library's and the processors' things. Conditions: none, this text proves no statement. -/
import Derived.Test.YtkflpgknieoknaaK5
namespace Go.SLYtkflpgknieoknaa
open Go Go.RowKit

theorem all_out {α : Type} {f : α → HProp} {xs : List α} {i : Nat} {x : α} (h : xs[i]? = some x) : ∀ g, allH f xs g → seps [f x, allH f (xs.eraseIdx i)] g := fun g a => by
  rw [allH_get f h] at a; simpa only [seps, sep_emp] using a
theorem all_in {α : Type} {f : α → HProp} {xs : List α} {i : Nat} {x : α} (y : α) (h : xs[i]? = some x) : ∀ g, seps [f y, allH f (xs.eraseIdx i)] g → allH f (xs.set i y) g := fun g a => by
  rw [allH_set f y (List.getElem?_eq_some_iff.1 h).1]; simpa only [seps, sep_emp] using a
theorem all_back {α : Type} {f : α → HProp} {xs : List α} {i : Nat} {x : α} (h : xs[i]? = some x) : ∀ g, seps [f x, allH f (xs.eraseIdx i)] g → allH f xs g := fun g a => by
  rw [allH_get f h]; simpa only [seps, sep_emp] using a
theorem map_back {α β : Type} {f : α → β} {xs : List α} {ys : List β} (h : xs.map f = ys) {i : Nat} {y : β} (hy : ys[i]? = some y) : ∃ x, xs[i]? = some x ∧ f x = y := by
  rw [← h, List.getElem?_map] at hy
  cases e : xs[i]? with
  | none => rw [e] at hy; cases hy
  | some x => rw [e] at hy; exact ⟨x, rfl, by simpa using hy⟩
theorem map_set {α β : Type} {f : α → β} {xs : List α} {ys : List β} (h : xs.map f = ys) (i : Nat) (y : α) : (xs.set i y).map f = ys.set i (f y) := by rw [List.map_set, h]

theorem vsl_one {u : Value} {x : Vsl} (h : isSl u = true) : (vslE (u, x)).all (·.oneCell') = true := by
  have := isSl_one h
  show (true && (true && (u.oneCell' && true))) = true
  rw [this]; rfl
theorem has_nat {l : Lib} {p : Int} (h : libIn l p = true) : ∃ (i : Nat) (v : Vsl), p = (i : Int) ∧ l.vs[i]? = some v := by
  unfold libIn at h
  simp only [Bool.and_eq_true, decide_eq_true_eq] at h
  obtain ⟨v, hv⟩ := at_some (show p.toNat < l.vs.length by omega)
  exact ⟨p.toNat, v, by omega, hv⟩
theorem has_in {l : Lib} {p : Int} (h : l.has p = true) : libIn l p = true := by
  rw [lib_has, Bool.and_eq_true] at h; exact h.1
theorem grant_no {l : Lib} {p : Int} (h : libIn l p = false ∨ l.has p = true) : l.grant p = (false, l) := by
  unfold Lib.grant
  rcases h with h | h
  · have : geti l.vs p = none := by
      unfold libIn at h
      unfold geti
      split
      · rfl
      · simp only [Bool.and_eq_false_iff, decide_eq_false_iff_not] at h
        simp; omega
    rw [this]
  · obtain ⟨i, v, rfl, hv⟩ := has_nat (has_in h)
    have e : geti l.vs (i : Int) = some v := by unfold geti; rw [if_neg (by omega), Int.toNat_natCast, hv]
    rw [lib_has, Bool.and_eq_true, decide_eq_true_eq, ← mode_at hv] at h
    rw [e]; simp only; rw [if_neg h.2]
theorem grant_yes {l : Lib} {p : Int} (h1 : libIn l p = true) (h : l.has p = false) : ∃ (i : Nat) (v : Vsl), p = (i : Int) ∧ l.vs[i]? = some v ∧ l.grant p = (true, { l with vs := l.vs.set i (Vsl.new (⟨1, -1, 0⟩ :: l.waiting)), waiting := [] }) := by
  obtain ⟨i, v, rfl, hv⟩ := has_nat h1
  refine ⟨i, v, rfl, hv, ?_⟩
  have e : geti l.vs (i : Int) = some v := by unfold geti; rw [if_neg (by omega), Int.toNat_natCast, hv]
  rw [lib_has, h1, Bool.true_and, decide_eq_false_iff_not, ← mode_at hv, Decidable.not_not] at h
  unfold Lib.grant; rw [e]; simp only; rw [if_pos h]; rfl
theorem tell_nil (l : Lib) : l.tell [] = l := by unfold Lib.tell; rw [if_pos rfl]
theorem tell_wait {l : Lib} {ys : List Ev} (h : ys ≠ []) (hp : l.procs = []) : l.tell ys = { l with waiting := l.waiting ++ ys } := by unfold Lib.tell; rw [if_neg h, hp]
theorem tell_some {l : Lib} {ys : List Ev} (h : ys ≠ []) {i : Nat} {v : Vsl} {r : List Int} (hp : l.procs = (i : Int) :: r) (hv : l.vs[i]? = some v) : l.tell ys = { l with vs := l.vs.set i (v.told ys) } := by
  unfold Lib.tell; rw [if_neg h, hp]; simp only [Int.toNat_natCast]; rw [getD_of hv]
theorem revoke_no {l : Lib} {p : Int} (h : l.has p = false) : l.revoke p = (false, l) := by unfold Lib.revoke; rw [if_neg (by rw [h]; simp)]
theorem revoke_yes {l : Lib} {i : Nat} {v : Vsl} (h : l.has (i : Int) = true) (hv : l.vs[i]? = some v) : l.revoke (i : Int) = (true, ({ l with vs := l.vs.set i Vsl.z } : Lib).tell v.strip) := by
  unfold Lib.revoke; rw [if_pos h]; simp only [Int.toNat_natCast]; rw [getD_of hv]
/-! processors -/
/-- The processors; where their libraries lie. -/
def krnX (b : Nat) (bl : List Nat) (k : Krn) : HProp := exP3 (fun _ _ (xs : List (Nat × Lib)) => xs.map (·.1) = bl ∧ xs.map (·.2) = k.libs) fun vo vl xs => [arr b 0 [vo, vl], sl intE 1 vo k.owner, sl ptrE 1 vl xs, allH (fun x => libH x.1 x.2) xs]
def krnH (b : Nat) (k : Krn) : HProp := exP1 (fun _ => True) fun bl => [krnX b bl k]
theorem prg_all {W : World} {H : List HProp} {A : HProp} {v : PrgV} (hp : PrgRd W [A] v) (ha : At H A) : ∀ w, Sat W w (seps H) → (prgE v).all (·.oneCell') = true := fun w s => by
  have h1 := isSl_one ((hp.fs.at ha).isSl w s)
  have h2 := isSl_one ((hp.sems.at ha).isSl w s)
  have h3 := isSl_one ((hp.pipes.at ha).isSl w s)
  show (v.fv.oneCell' && (true && (true && (true && (v.sv.oneCell' && (v.pv.oneCell' && (true && (true && true)))))))) = true
  rw [h1, h2, h3]; rfl
def evSum (l : Lib) : Nat := l.waiting.length + (l.vs.map (fun v => v.evs.length)).sum
structure LOk (m : Nat) (l : Lib) : Prop where
  ev : evSum l ≤ m
  vl : l.vs.length ≤ 64
  th : l.spc.thr.length = 16
structure KOk (m : Nat) (k : Krn) : Prop where
  own : ∀ v ∈ k.owner, v = -1 ∨ (0 ≤ v ∧ v < (k.libs.length : Int))
  ol : k.owner.length ≤ 64
  ll : k.libs.length ≤ 8
  lib : ∀ l ∈ k.libs, LOk m l
def isThere (k : Krn) (p : Int) : Bool := decide (0 ≤ p) && decide (p < (k.owner.length : Int))
def ownAt (o : List Int) (p : Int) : Int := o.getD p.toNat 0
theorem there_nat {k : Krn} {p : Int} (h : isThere k p = true) : ∃ (i : Nat) (o : Int), p = (i : Int) ∧ k.owner[i]? = some o := by
  unfold isThere at h
  simp only [Bool.and_eq_true, decide_eq_true_eq] at h
  obtain ⟨v, hv⟩ := at_some (show p.toNat < k.owner.length by omega)
  exact ⟨p.toNat, v, by omega, hv⟩
theorem there_no {k : Krn} {p : Int} (h : isThere k p = false) : geti k.owner p = none := by
  unfold isThere at h
  unfold geti
  split
  · rfl
  · simp only [Bool.and_eq_false_iff, decide_eq_false_iff_not] at h
    simp; omega
theorem geti_nat {α : Type} (l : List α) (i : Nat) : geti l (i : Int) = l[i]? := by unfold geti; rw [if_neg (by omega), Int.toNat_natCast]
theorem own_at {o : List Int} {i : Nat} {v : Int} (h : o[i]? = some v) : v = ownAt o (i : Int) := by unfold ownAt; rw [Int.toNat_natCast, getD_of h]
theorem owner_no {k : Krn} {p : Int} (h : isThere k p = false ∨ ownAt k.owner p = -1) : k.ownerOf p = (0, false) := by
  unfold Krn.ownerOf
  by_cases ht : isThere k p = true
  · obtain ⟨i, o, rfl, ho⟩ := there_nat ht
    rw [geti_nat, ho]
    simp only
    rw [if_pos]
    rcases h with h | h
    · rw [ht] at h; cases h
    · rw [own_at ho]; exact h
  · rw [there_no (by simpa using ht)]
theorem owner_yes {k : Krn} {i : Nat} {o : Int} (h : k.owner[i]? = some o) (hn : o ≠ -1) : k.ownerOf (i : Int) = (o, true) := by
  unfold Krn.ownerOf; rw [geti_nat, h]; simp only; rw [if_neg hn]
theorem free_yes {o : List Int} {k : Nat} {v : Int} (h : o[k]? = some v) (hv : v = -1) : freeFrom (o.drop k) k = (k : Int) :: freeFrom (o.drop (k + 1)) (k + 1) := by rw [drop_cons h, freeFrom, if_pos hv]
theorem free_no {o : List Int} {k : Nat} {v : Int} (h : o[k]? = some v) (hv : ¬ v = -1) : freeFrom (o.drop k) k = freeFrom (o.drop (k + 1)) (k + 1) := by rw [drop_cons h, freeFrom, if_neg hv]
theorem free_end {o : List Int} {k : Nat} (h : o.length ≤ k) : freeFrom (o.drop k) k = [] := by rw [List.drop_of_length_le h]; rfl
theorem dem_snoc {k : Krn} {n : Nat} {l : Lib} (h : k.libs[n]? = some l) : k.demand.take (n + 1) = k.demand.take n ++ [(l.spc.ready.length : Int)] := by
  refine take_snoc ?_
  unfold Krn.demand; rw [List.getElem?_map, h]; rfl
/-- Whose it is that is to be taken, or why not. -/
def mineE (k : Krn) (p : Int) : Int := match geti k.owner p with | none => 1 | some o => if o = -1 then 11 else 0
def mineB (bl : List Nat) (k : Krn) (p : Int) : Option Nat := match geti k.owner p with | none => none | some o => if o = -1 then none else bl[o.toNat]?
theorem mine_none {k : Krn} {bl : List Nat} {p : Int} (h : isThere k p = false) : mineE k p = 1 ∧ mineB bl k p = none := by
  unfold mineE mineB; rw [there_no h]; exact ⟨rfl, rfl⟩
theorem mine_free {k : Krn} {bl : List Nat} {p : Int} (ht : isThere k p = true) (h : (k.ownerOf p).2 = false) : mineE k p = 11 ∧ mineB bl k p = none := by
  obtain ⟨i, o, rfl, ho⟩ := there_nat ht
  unfold Krn.ownerOf at h
  unfold mineE mineB
  rw [geti_nat, ho] at *
  simp only at *
  by_cases e : o = -1
  · rw [if_pos e, if_pos e]; exact ⟨rfl, rfl⟩
  · rw [if_neg e] at h; cases h
theorem mine_own {k : Krn} {p : Int} (ht : isThere k p = true) (h : (k.ownerOf p).2 = true) : ∃ (i : Nat) (o : Int), p = (i : Int) ∧ k.owner[i]? = some o ∧ o ≠ -1 ∧ k.ownerOf p = (o, true) := by
  obtain ⟨i, o, rfl, ho⟩ := there_nat ht
  by_cases e : o = -1
  · subst e; rw [owner_no (.inr (own_at ho).symm)] at h; cases h
  · exact ⟨i, o, rfl, ho, e, owner_yes ho e⟩
theorem KOk.nat {m : Nat} {k : Krn} (h : KOk m k) {i : Nat} {o : Int} (ho : k.owner[i]? = some o) (hn : o ≠ -1) : ∃ (n : Nat) (l : Lib), o = (n : Int) ∧ k.libs[n]? = some l := by
  rcases h.own o (List.mem_of_getElem? ho) with e | ⟨h0, h1⟩
  · exact absurd e hn
  · obtain ⟨l, hl⟩ := at_some (show o.toNat < k.libs.length by omega)
    exact ⟨o.toNat, l, by omega, hl⟩
theorem mine_yes {k : Krn} {bl : List Nat} {i n : Nat} (ho : k.owner[i]? = some (n : Int)) : mineE k (i : Int) = 0 ∧ mineB bl k (i : Int) = bl[n]? := by
  unfold mineE mineB; rw [geti_nat, ho]; simp only; rw [if_neg (by omega), if_neg (by omega), Int.toNat_natCast]; exact ⟨rfl, rfl⟩
theorem mine_ok {m : Nat} {k : Krn} (hk : KOk m k) {p : Int} (h : mineE k p = 0) : ∃ (i n : Nat) (l : Lib), p = (i : Int) ∧ k.owner[i]? = some (n : Int) ∧ k.libs[n]? = some l ∧ k.take p = (0, ⟨k.owner.set i (-1), k.libs.set n (l.revoke (i : Int)).2⟩) := by
  unfold mineE at h
  cases e : geti k.owner p with
  | none => rw [e] at h; cases h
  | some o =>
    rw [e] at h
    simp only at h
    by_cases eo : o = -1
    · rw [if_pos eo] at h; cases h
    · have hp : 0 ≤ p := by
        unfold geti at e
        split at e
        · cases e
        · omega
      obtain ⟨i, rfl⟩ : ∃ i : Nat, p = (i : Int) := ⟨p.toNat, by omega⟩
      rw [geti_nat] at e
      obtain ⟨n, l, rfl, hl⟩ := hk.nat e eo
      refine ⟨i, n, l, rfl, e, hl, ?_⟩
      unfold Krn.take; rw [geti_nat, e]; simp only; rw [if_neg eo]; simp only [Int.toNat_natCast]; rw [getD_of hl]
theorem mine_bad {k : Krn} {p : Int} (h : ¬ mineE k p = 0) : k.take p = (mineE k p, k) := by
  unfold mineE Krn.take at *
  cases e : geti k.owner p with
  | none => rfl
  | some o =>
    rw [e] at h
    simp only at h ⊢
    by_cases eo : o = -1
    · rw [if_pos eo, if_pos eo]
    · rw [if_neg eo] at h; exact absurd rfl h
theorem give_none {k : Krn} {p n : Int} (h : isThere k p = false ∨ geti k.libs n = none) : k.give p n = (1, k) := by
  unfold Krn.give
  rcases h with h | h
  · rw [there_no h]
  · rw [h]; cases geti k.owner p <;> rfl
theorem give_taken {k : Krn} {i : Nat} {o n : Int} {l : Lib} (ho : k.owner[i]? = some o) (hl : geti k.libs n = some l) (h : o ≠ -1) : k.give (i : Int) n = (4, k) := by
  unfold Krn.give; rw [geti_nat, ho, hl]; simp only; rw [if_neg h]
theorem give_yes {k : Krn} {i n : Nat} {l : Lib} (ho : k.owner[i]? = some (-1)) (hl : k.libs[n]? = some l) : k.give (i : Int) (n : Int) = (0, ⟨k.owner.set i (n : Int), k.libs.set n (l.grant (i : Int)).2⟩) := by
  unfold Krn.give; rw [geti_nat, geti_nat, ho, hl]; simp only [if_true, Int.toNat_natCast]
theorem lib_no {k : Krn} {bl : List Nat} {n : Int} (hb : bl.length = k.libs.length) (h : n < 0 ∨ (k.libs.length : Int) ≤ n) : geti bl n = none ∧ geti k.libs n = none := by
  unfold geti
  by_cases h0 : n < 0
  · rw [if_pos h0, if_pos h0]; exact ⟨rfl, rfl⟩
  · rw [if_neg h0, if_neg h0]; constructor <;> · simp; omega
/-- A thing of two rows of parts. -/
theorem two_back {xs : List (Nat × Lib)} {bl : List Nat} {ls : List Lib} (hb : xs.map (·.1) = bl) (hl : xs.map (·.2) = ls) {n : Nat} {l : Lib} (h : ls[n]? = some l) : ∃ x, xs[n]? = some x ∧ x.2 = l ∧ bl[n]? = some x.1 := by
  obtain ⟨x, hx, e⟩ := map_back hl h
  exact ⟨x, hx, e, map_get hb hx⟩
theorem two_set {xs : List (Nat × Lib)} {bl : List Nat} {ls : List Lib} (hb : xs.map (·.1) = bl) (hl : xs.map (·.2) = ls) {n : Nat} {x : Nat × Lib} (h : xs[n]? = some x) (l : Lib) : (xs.set n (x.1, l)).map (·.1) = bl ∧ (xs.set n (x.1, l)).map (·.2) = ls.set n l := by
  refine ⟨?_, map_set hl n _⟩
  rw [map_set hb n (x.1, l)]
  refine List.ext_getElem? fun i => ?_
  by_cases e : n = i
  · subst e
    have := map_get hb h
    rw [List.getElem?_set_self (List.getElem?_eq_some_iff.1 this).1, this]
  · rw [List.getElem?_set_ne e]
theorem libs_len {xs : List (Nat × Lib)} {bl : List Nat} {ls : List Lib} (hb : xs.map (·.1) = bl) (hl : xs.map (·.2) = ls) : bl.length = ls.length := by rw [← hb, ← hl, List.length_map, List.length_map]
theorem give_none' {k : Krn} {bl : List Nat} {p n : Int} {g : Nat → Addr} (hb : bl.length = k.libs.length) (h : isThere k p = false ∨ ((geti bl n).map g).isNone = true) : k.give p n = (1, k) := by
  refine give_none (h.imp id fun h => ?_)
  cases e : geti bl n with
  | some x => rw [e] at h; cases h
  | none =>
    unfold geti at *
    split at e
    · rename_i h0; rw [if_pos h0]
    · rename_i h0; rw [if_neg h0]; simp at e ⊢; omega
theorem give_some {k : Krn} {bl : List Nat} {xs : List (Nat × Lib)} {p n : Int} {g : Nat → Addr} (hb : xs.map (·.1) = bl) (hl : xs.map (·.2) = k.libs) (h : isThere k p = true ∧ ((geti bl n).map g).isNone = false) : ∃ (i j : Nat) (o : Int) (x : Nat × Lib), p = (i : Int) ∧ n = (j : Int) ∧ k.owner[i]? = some o ∧ xs[j]? = some x ∧ k.libs[j]? = some x.2 ∧ geti bl (j : Int) = some x.1 := by
  obtain ⟨i, o, rfl, ho⟩ := there_nat h.1
  have h2 := h.2
  cases e : geti bl n with
  | none => rw [e] at h2; cases h2
  | some b =>
    have hn : 0 ≤ n := by
      unfold geti at e
      split at e
      · cases e
      · omega
    obtain ⟨j, rfl⟩ : ∃ j : Nat, n = (j : Int) := ⟨n.toNat, by omega⟩
    rw [geti_nat] at e
    obtain ⟨x, hx, rfl⟩ := map_back hb e
    exact ⟨i, j, o, x, rfl, rfl, ho, hx, map_get hl hx, by rw [geti_nat, e]⟩
theorem sl_ptr {α : Type} {v : Value} {xs ys : List (Nat × α)} (h : xs.map (·.1) = ys.map (·.1)) : ∀ g, seps [sl ptrE 1 v xs] g → sl ptrE 1 v ys g := fun g a => by
  have hl : xs.length = ys.length := by have := congrArg List.length h; simpa using this
  have hr : ∀ zs : List (Nat × α), rows ptrE zs = (zs.map (·.1)).map ptr := fun zs => by
    unfold rows
    induction zs with
    | nil => rfl
    | cons z zs ih => simp only [List.flatMap_cons, List.map_cons, ih]; rfl
  have a' : sl ptrE 1 v xs g := by simpa only [seps, sep_emp] using a
  rcases a' with ⟨e, h0, he⟩ | ⟨b, cap, sp, hv, hc, hk, hs, ha⟩
  · subst h0
    exact .inl ⟨e, List.eq_nil_of_length_eq_zero hl.symm, he⟩
  · exact .inr ⟨b, cap, sp, by rw [← hl]; exact hv, by rw [← hl]; exact hc, fun _ _ => rfl, by rw [← hl]; exact hs, by rw [hr ys, ← h, ← hr xs]; exact ha⟩
theorem nsum_mem {l : List Nat} {n : Nat} (h : n ∈ l) : n ≤ l.sum := by
  induction l with
  | nil => cases h
  | cons x l ih =>
    rw [List.sum_cons]
    rcases List.mem_cons.1 h with h | h
    · omega
    · have := ih h; omega
theorem LOk.w {m : Nat} {l : Lib} (h : LOk m l) : l.waiting.length ≤ m := by have := h.ev; unfold evSum at this; omega
theorem LOk.e {m : Nat} {l : Lib} (h : LOk m l) : ∀ v ∈ l.vs, v.evs.length ≤ m := fun v hv => by
  have := h.ev; unfold evSum at this
  have := nsum_mem (List.mem_map_of_mem (f := fun v : Vsl => v.evs.length) hv)
  omega
end Go.SLYtkflpgknieoknaa
