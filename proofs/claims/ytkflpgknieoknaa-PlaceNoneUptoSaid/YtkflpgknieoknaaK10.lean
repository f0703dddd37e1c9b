/- Sharing, seen from the owners alone: all of it. Conditions: none, this text proves no statement. -/
import Derived.Test.YtkflpgknieoknaaK9
namespace Go.SLYtkflpgknieoknaa
open Go Go.RowKit

def trims : List Int → Nat → List Int → List Int
  | [], _, o => o
  | w :: l, n, o => trims l (n + 1) (trim (n : Int) w.toNat o)
theorem setAll_len {k : Nat} : ∀ (ps o : List Int), (setAll k ps o).length = o.length
  | [], _ => rfl
  | p :: ps, o => by rw [setAll, setAll_len ps, List.length_set]
theorem pos_nonneg {n : Int} {o : List Int} : ∀ p ∈ pos n o, (0 : Int) ≤ p := fun p hp => by have := pos_ge p hp; omega
/-- One library's surplus is taken. -/
theorem takeOne {m : Nat} {k : Krn} (h : Inv m k) {n : Nat} (hn : n < k.libs.length) (w : Nat) : Inv (m + 2 * ((libProcs k n).drop w).length) (takeAll ((libProcs k n).drop w) k) ∧ (takeAll ((libProcs k n).drop w) k).owner = trim (n : Int) w k.owner ∧ (takeAll ((libProcs k n).drop w) k).libs.length = k.libs.length := by
  have e := h.ag.libProcs hn
  rw [e]
  obtain ⟨h1, h2, h3⟩ := takeAll_facts ((pos (n : Int) k.owner).drop w) h fun p hp => pos_nonneg p (List.mem_of_mem_drop hp)
  exact ⟨h1, by rw [h2]; exact setAll_trim _ _ _ _, h3⟩
theorem trim_len (n : Int) : ∀ (o : List Int) (w : Nat), (trim n w o).length = o.length
  | [], w => by cases w <;> rfl
  | x :: o, 0 => by rw [trim]; split <;> simp [trim_len n o]
  | x :: o, w + 1 => by rw [trim]; split <;> simp [trim_len n o]
theorem takeFrom_facts : ∀ (l : List Int) (n : Nat) {m : Nat} {k : Krn} (mv : Nat), Inv m k → n + l.length ≤ k.libs.length → (∃ m', Inv m' (takeFrom l n (k, mv)).1) ∧ (takeFrom l n (k, mv)).1.owner = trims l n k.owner ∧ (takeFrom l n (k, mv)).1.libs.length = k.libs.length
  | [], n, m, k, mv, h, _ => ⟨⟨m, h⟩, rfl, rfl⟩
  | w :: l, n, m, k, mv, h, hl => by
    simp only [List.length_cons] at hl
    obtain ⟨h1, h2, h3⟩ := takeOne h (n := n) (by omega) w.toNat
    obtain ⟨g1, g2, g3⟩ := takeFrom_facts l (n + 1) (mv + ((libProcs k n).drop w.toNat).length) h1 (by omega)
    rw [takeFrom, trims]
    exact ⟨g1, by rw [g2, h2], by rw [g3, h3]⟩
theorem trims_len : ∀ (l : List Int) (n : Nat) (o : List Int), (trims l n o).length = o.length
  | [], _, _ => rfl
  | w :: l, n, o => by rw [trims, trims_len l, trim_len]
theorem trims_count : ∀ (l : List Int) (n : Nat) (o : List Int) (j : Nat), (trims l n o).count (j : Int) = match (if j < n then none else l[j - n]?) with | none => o.count (j : Int) | some w => min w.toNat (o.count (j : Int))
  | [], n, o, j => by rw [trims]; split <;> simp_all
  | w :: l, n, o, j => by
    rw [trims, trims_count l (n + 1), trim_count _ _ (by omega) (by omega)]
    by_cases h1 : j < n
    · rw [if_pos h1, if_pos (by omega), if_neg (by omega)]
    · rw [if_neg h1]
      by_cases h2 : j = n
      · subst h2; rw [if_pos (by omega), if_pos rfl, Nat.sub_self]; rfl
      · rw [if_neg (by omega), if_neg (by omega), show j - n = (j - (n + 1)) + 1 from by omega, List.getElem?_cons_succ]
theorem room_take {m : Nat} {k : Krn} (h : Inv m k) {want : List Int} (hl : want.length = k.libs.length) (hs : natSum want ≤ k.owner.length) : Room want (takeFrom want 0 (k, 0)).1 := by
  obtain ⟨_, h2, h3⟩ := takeFrom_facts want 0 0 h (by omega)
  refine ⟨by rw [h3, hl], by rw [h2, trims_len]; exact hs, fun i w hw => ?_⟩
  rw [h2, trims_count, if_neg (by omega), Nat.sub_zero, hw]
  exact Nat.min_le_left _ _

/-! what is dealt out is there -/
theorem natSum_set : ∀ {o : List Int} {i : Nat} {a : Int} (b : Int), o[i]? = some a → natSum (o.set i b) + a.toNat = natSum o + b.toNat
  | [], _, _, _, h => by simp at h
  | x :: o, 0, a, b, h => by simp at h; subst h; simp [natSum]; omega
  | x :: o, i + 1, a, b, h => by
    have := natSum_set b (o := o) (i := i) (by simpa using h)
    rw [List.set_cons_succ]
    simp only [natSum, List.map_cons, List.sum_cons] at *
    omega
theorem step_sum {d : Deal} (h : DOk d) (p : Int) (n : Nat) (hn : n < d.demand.length) : natSum (d.step p n).1.out + (d.step p n).1.left.toNat = natSum d.out + d.left.toNat := by
  by_cases c : 0 < d.left ∧ d.wants n p = true
  · rw [step_yes c]
    obtain ⟨y, hy⟩ := at_some (show n < d.out.length by rw [h.ol]; exact hn)
    have := natSum_set (d.out.getD n 0 + 1) hy
    have hy0 := h.om y (List.mem_of_getElem? hy)
    rw [getD_of hy] at *
    simp only
    omega
  · rw [step_no c]
theorem go_sum (p : Int) (f : Nat) : ∀ (m k : Nat) (d : Deal) (any : Bool), DOk d → natSum (Deal.go p f m k d any).1.out + (Deal.go p f m k d any).1.left.toNat = natSum d.out + d.left.toNat
  | 0, _, _, _, _ => rfl
  | m + 1, k, d, any, h => by
    rw [Deal.go]
    by_cases h0 : 0 < d.demand.length
    · rw [go_sum p f m (k + 1) _ _ (step_ok h p _), step_sum h p _ (Nat.mod_lt _ h0)]
    · have hs : (d.step p ((f + k) % d.demand.length)) = (d, false) := step_no fun c => by
        have hw := c.2
        unfold Deal.wants at hw
        have e1 : d.demand = [] := List.eq_nil_of_length_eq_zero (by omega)
        have e2 : d.out = [] := List.eq_nil_of_length_eq_zero (by rw [h.ol]; omega)
        rw [e1, e2] at hw
        simp at hw
      rw [hs]
      exact go_sum p f m (k + 1) d _ h
theorem rounds_sum (p : Int) (f : Nat) : ∀ (a : Nat) (d : Deal), DOk d → DOk (Deal.rounds p f a d) ∧ (Deal.rounds p f a d).demand = d.demand ∧ natSum (Deal.rounds p f a d).out + (Deal.rounds p f a d).left.toNat = natSum d.out + d.left.toNat
  | 0, _, h => ⟨h, rfl, rfl⟩
  | a + 1, d, h => by
    obtain ⟨_, _, _, r4, _, r6⟩ := round_facts d p f
    have rs := go_sum p f d.demand.length 0 d false h
    rw [Deal.rounds]
    split
    · obtain ⟨h1, h2, h3⟩ := rounds_sum p f a _ (r6 h)
      exact ⟨h1, h2.trans r4, h3.trans rs⟩
    · exact ⟨r6 h, r4, rs⟩
theorem prios_sum (f : Nat) : ∀ (r : Nat) (d : Deal), DOk d → DOk (priosN f r d) ∧ (priosN f r d).demand = d.demand ∧ natSum (priosN f r d).out + (priosN f r d).left.toNat = natSum d.out + d.left.toNat
  | 0, _, h => ⟨h, rfl, rfl⟩
  | r + 1, d, h => by
    obtain ⟨h1, h2, h3⟩ := rounds_sum (r : Int) f (d.left.toNat + 1) d h
    obtain ⟨g1, g2, g3⟩ := prios_sum f r _ h1
    rw [priosN]
    exact ⟨g1, g2.trans h2, g3.trans h3⟩
theorem natSum_zeros (n : Nat) : natSum (List.replicate n 0) = 0 := by
  induction n with
  | zero => rfl
  | succ n ih => rw [List.replicate_succ]; unfold natSum at *; simp only [List.map_cons, List.sum_cons]; rw [ih]; rfl
theorem fair_facts {procs turn : Int} {demand prio out : List Int} (hd : ∀ z ∈ demand, z ≤ 1000000) (h : fair? procs demand prio turn = some out) : out.length = demand.length ∧ (∀ w ∈ out, 0 ≤ w) ∧ (natSum out : Int) ≤ procs ∧ natSum out ≤ 64 := by
  by_cases c : demand.length = prio.length ∧ demand.length ≤ 8 ∧ within procs 64 = true
  · by_cases hp : prio.all (fun p => within p 7) = true
    · have hw := c.2.2
      unfold within at hw
      simp only [Bool.and_eq_true, decide_eq_true_eq] at hw
      by_cases h0 : demand.length = 0
      · rw [fair_nil c hp h0] at h
        obtain rfl := Option.some.inj h
        exact ⟨h0.symm, fun w hw => (by cases hw), by simp [natSum]; omega, by simp [natSum]⟩
      · rw [fair_yes c hp h0] at h
        obtain rfl := Option.some.inj h
        obtain ⟨h1, h2, h3⟩ := prios_sum (pick turn demand.length) 8 _ (dl0_ok (procs := procs) c hd)
        have hz : natSum (dl0 procs demand prio).out = 0 := natSum_zeros _
        have hl : (dl0 procs demand prio).left = procs := rfl
        refine ⟨by rw [h1.ol, h2]; rfl, h1.om, ?_, ?_⟩ <;> · rw [hz, hl] at h3; omega
    · obtain ⟨p, hp2, hb⟩ : ∃ p ∈ prio, within p 7 = false := by
        refine Decidable.of_not_not fun e => hp (List.all_eq_true.2 fun p hp => ?_)
        cases e2 : within p 7 with
        | true => rfl
        | false => exact absurd ⟨p, hp, e2⟩ e
      obtain ⟨i, hi⟩ := List.getElem?_of_mem hp2
      rw [fair_bad hi hb] at h; cases h
  · rw [fair_no (by
      by_cases c1 : demand.length = prio.length
      · by_cases c2 : demand.length ≤ 8
        · exact .inr (Bool.eq_false_iff.2 fun e => c ⟨c1, c2, e⟩)
        · exact .inl (.inr (by omega))
      · exact .inl (.inl (by omega)))] at h
    cases h
theorem dem_le {m : Nat} {k : Krn} (hk : KOk m k) : ∀ z ∈ k.demand, z ≤ 1000000 := fun z hz => by
  unfold Krn.demand at hz
  obtain ⟨l, hl, rfl⟩ := List.mem_map.1 hz
  have := (hk.lib l hl).th
  have := ready_len l.spc.thr 0
  show ((readyFrom l.spc.thr 0).length : Int) ≤ _
  omega
theorem targets_facts {m : Nat} {k : Krn} (hk : KOk m k) (prio : List Int) (turn : Int) : (k.targets prio turn).length ≤ k.libs.length ∧ (∀ w ∈ k.targets prio turn, 0 ≤ w ∧ w ≤ 64) ∧ natSum (k.targets prio turn) ≤ k.owner.length ∧ (k.targets prio turn ≠ [] → (k.targets prio turn).length = k.libs.length) := by
  unfold Krn.targets
  cases e : fair? (k.owner.length : Int) k.demand prio turn with
  | none => exact ⟨Nat.zero_le _, fun w hw => (by cases hw), Nat.zero_le _, fun h => absurd rfl h⟩
  | some out =>
    obtain ⟨h1, h2, h3, h4⟩ := fair_facts (dem_le hk) e
    have hdl : k.demand.length = k.libs.length := by unfold Krn.demand; exact List.length_map ..
    refine ⟨by show out.length ≤ _; omega, fun w hw => ⟨h2 w hw, ?_⟩, by show natSum out ≤ _; omega, fun _ => by show out.length = _; omega⟩
    have h5 := nsum_mem (List.mem_map_of_mem (f := Int.toNat) hw)
    have h6 : w.toNat ≤ natSum out := h5
    omega
theorem fold1 {A : HProp} : ∀ h, seps [A] h → A h := fun h a => by simpa only [seps, sep_emp] using a
theorem fair_len {k : Krn} {prio : List Int} {turn : Int} (h : ¬ ((k.targets prio turn).length : Int) = (k.libs.length : Int)) : k.fair prio turn = false := by
  unfold Krn.fair; rw [decide_eq_false (show ¬ (k.targets prio turn).length = k.libs.length from fun e => h (by rw [e]))]; rfl
theorem fair_dif {k : Krn} {prio : List Int} {turn : Int} {n : Nat} {l : Lib} {w : Int} (hl : k.libs[n]? = some l) (hw : (k.targets prio turn)[n]? = some w) (h : ¬ (l.procs.length : Int) = w) : k.fair prio turn = false := by
  unfold Krn.fair
  rw [decide_eq_false (p := (k.libs.map fun l => (l.procs.length : Int)) = k.targets prio turn) fun e => h ?_, Bool.and_false]
  have : (k.libs.map fun l => (l.procs.length : Int))[n]? = some (l.procs.length : Int) := by rw [List.getElem?_map, hl]; rfl
  rw [e, hw] at this
  exact (Option.some.inj this).symm
theorem fair_eq {k : Krn} {prio : List Int} {turn : Int} (h : (k.targets prio turn).length = k.libs.length) (h2 : (k.libs.map fun l => (l.procs.length : Int)) = k.targets prio turn) : k.fair prio turn = true := by
  unfold Krn.fair; rw [decide_eq_true h, decide_eq_true h2]; rfl
theorem drop_min {α : Type} (l : List α) (w : Nat) : l.drop (min l.length w) = l.drop w := by
  by_cases h : w ≤ l.length
  · rw [show min l.length w = w from by omega]
  · rw [show min l.length w = l.length from by omega, List.drop_length, List.drop_of_length_le (by omega)]
theorem take_next {want : List Int} {k : Krn} {n mv : Nat} {w : Int} {l : Lib} {ps : List Int} (hw : want[n]? = some w) (hl : k.libs[n]? = some l) (hp : ps = l.procs.drop w.toNat) : takeFrom (want.drop n) n (k, mv) = takeFrom (want.drop (n + 1)) (n + 1) (takeAll ps k, mv + ps.length) := by
  rw [drop_cons hw, takeFrom, hp]
  unfold libProcs; rw [getD_of hl]
theorem give_next {want : List Int} {k : Krn} {m n mv : Nat} {w : Int} (hw : want[n]? = some w) (hi : Inv m k) (hn : n < k.libs.length) : giveFrom (want.drop n) n (k, mv) = giveFrom (want.drop (n + 1)) (n + 1) (giveTo (w.toNat - k.owner.count (n : Int)) (n : Int) k, mv + (w.toNat - k.owner.count (n : Int))) := by
  rw [drop_cons hw, giveFrom, hi.ag.libProcs hn, show (pos (n : Int) k.owner).length = k.owner.count (n : Int) from pos_len _ _ _]
end Go.SLYtkflpgknieoknaa
