/- Small facts about dealing processors out. Conditions: none, this text proves no statement. -/
import Derived.Test.YtkflpgknieoknaaK6
namespace Go.SLYtkflpgknieoknaa
open Go Go.RowKit

structure DOk (d : Deal) : Prop where
  left : 0 ≤ d.left ∧ d.left ≤ 64
  pl : d.prio.length = d.demand.length
  ol : d.out.length = d.demand.length
  dm : ∀ z ∈ d.demand, z ≤ 1000000
  om : ∀ y ∈ d.out, 0 ≤ y
  dl : d.demand.length ≤ 8
theorem step_yes {d : Deal} {p : Int} {n : Nat} (h : 0 < d.left ∧ d.wants n p = true) : d.step p n = ({ d with out := d.out.set n (d.out.getD n 0 + 1), left := d.left - 1 }, true) := by unfold Deal.step; rw [if_pos h]
theorem step_no {d : Deal} {p : Int} {n : Nat} (h : ¬ (0 < d.left ∧ d.wants n p = true)) : d.step p n = (d, false) := by unfold Deal.step; rw [if_neg h]
theorem step_ok {d : Deal} (h : DOk d) (p : Int) (n : Nat) : DOk (d.step p n).1 := by
  by_cases c : 0 < d.left ∧ d.wants n p = true
  · rw [step_yes c]
    refine ⟨by show 0 ≤ d.left - 1 ∧ d.left - 1 ≤ 64; have := h.left; omega, h.pl, by show (d.out.set _ _).length = _; rw [List.length_set]; exact h.ol, h.dm, fun y hy => ?_, h.dl⟩
    rcases List.mem_or_eq_of_mem_set hy with e | e
    · exact h.om y e
    · subst e
      rw [List.getD_eq_getElem?_getD]
      cases e : d.out[n]? with
      | none => simp
      | some x => have := h.om x (List.mem_of_getElem? e); simp; omega
  · rw [step_no c]; exact h
theorem step_dem (d : Deal) (p : Int) (n : Nat) : (d.step p n).1.demand = d.demand ∧ (d.step p n).1.prio = d.prio := by
  by_cases c : 0 < d.left ∧ d.wants n p = true
  · rw [step_yes c]; exact ⟨rfl, rfl⟩
  · rw [step_no c]; exact ⟨rfl, rfl⟩
theorem go_next {p : Int} {f m k : Nat} {d d' : Deal} {any : Bool} {r : Deal × Bool} (h : r = Deal.go p f m k d any) (hk : k < d.demand.length) (hm : m = d.demand.length - k) {n : Nat} (hn : n = (f + k) % d.demand.length) {t : Bool} (hs : d.step p n = (d', t)) : r = Deal.go p f (d.demand.length - (k + 1)) (k + 1) d' (any || t) := by
  obtain ⟨j, rfl⟩ : ∃ j, m = j + 1 := ⟨m - 1, by omega⟩
  rw [h, Deal.go, ← hn, hs, show j = d.demand.length - (k + 1) from by omega]
theorem go_facts (p : Int) (f : Nat) : ∀ (m k : Nat) (d : Deal) (any : Bool), (Deal.go p f m k d any).1.left ≤ d.left ∧ (0 ≤ d.left → 0 ≤ (Deal.go p f m k d any).1.left) ∧ ((Deal.go p f m k d any).2 = true → any = true ∨ (Deal.go p f m k d any).1.left < d.left) ∧ (Deal.go p f m k d any).1.demand = d.demand ∧ (Deal.go p f m k d any).1.prio = d.prio ∧ (DOk d → DOk (Deal.go p f m k d any).1)
  | 0, k, d, any => ⟨Int.le_refl _, id, .inl, rfl, rfl, id⟩
  | m + 1, k, d, any => by
    rw [Deal.go]
    by_cases c : 0 < d.left ∧ d.wants ((f + k) % d.demand.length) p = true
    · have ok := step_ok (d := d) (p := p) (n := (f + k) % d.demand.length)
      rw [step_yes c] at ok ⊢
      obtain ⟨h1, h2, h3, h4, h5, h6⟩ := go_facts p f m (k + 1) { d with out := d.out.set ((f + k) % d.demand.length) (d.out.getD ((f + k) % d.demand.length) 0 + 1), left := d.left - 1 } (any || true)
      simp only at *
      exact ⟨by omega, fun h => h2 (by omega), fun h => .inr (by omega), h4, h5, fun h => h6 (ok h)⟩
    · rw [step_no c]
      simpa only [Bool.or_false] using go_facts p f m (k + 1) d (any || false)
theorem round_facts (d : Deal) (p : Int) (f : Nat) : (d.round p f).1.left ≤ d.left ∧ (0 ≤ d.left → 0 ≤ (d.round p f).1.left) ∧ ((d.round p f).2 = true → (d.round p f).1.left < d.left) ∧ (d.round p f).1.demand = d.demand ∧ (d.round p f).1.prio = d.prio ∧ (DOk d → DOk (d.round p f).1) := by
  obtain ⟨h1, h2, h3, h4⟩ := go_facts p f d.demand.length 0 d false
  exact ⟨h1, h2, fun h => (h3 h).resolve_left (by simp), h4⟩
theorem rounds_fuel (p : Int) (f : Nat) : ∀ (a b : Nat) (d : Deal), 0 ≤ d.left → d.left.toNat < a → d.left.toNat < b → Deal.rounds p f a d = Deal.rounds p f b d
  | 0, _, _, _, h, _ => absurd h (by omega)
  | _, 0, _, _, _, h => absurd h (by omega)
  | a + 1, b + 1, d, h0, ha, hb => by
    rw [Deal.rounds, Deal.rounds]
    obtain ⟨h1, h2, h3, h4, h5⟩ := round_facts d p f
    by_cases c : (d.round p f).2 = true
    · rw [if_pos c, if_pos c]
      have := h3 c
      have := h2 h0
      exact rounds_fuel p f a b _ (h2 h0) (by omega) (by omega)
    · rw [if_neg c, if_neg c]
/-- Rounds, so long as somebody gets one. -/
def dr (p : Int) (f : Nat) (d : Deal) : Deal := Deal.rounds p f (d.left.toNat + 1) d
theorem dr_yes {p : Int} {f : Nat} {d : Deal} (h0 : 0 ≤ d.left) (h : (d.round p f).2 = true) : dr p f d = dr p f (d.round p f).1 := by
  obtain ⟨h1, h2, h3, h4, h5⟩ := round_facts d p f
  unfold dr
  rw [Deal.rounds, if_pos h]
  have := h3 h
  have := h2 h0
  exact rounds_fuel p f _ _ _ (h2 h0) (by omega) (by omega)
theorem dr_no {p : Int} {f : Nat} {d : Deal} (h : (d.round p f).2 = false) : dr p f d = (d.round p f).1 := by
  unfold dr
  rw [Deal.rounds, if_neg (by rw [h]; simp)]
def priosN (f : Nat) : Nat → Deal → Deal
  | 0, d => d
  | p + 1, d => priosN f p (dr (p : Int) f d)
theorem prios_eq (f : Nat) : ∀ (p : Nat) (d : Deal), Deal.prios f p d = priosN f (p + 1) d
  | 0, d => rfl
  | p + 1, d => by rw [Deal.prios, prios_eq f p]; rfl
theorem pick_int {t : Int} {n : Nat} (hn : 0 < n) : ((t.tmod n + n).tmod n) = ((pick t n : Nat) : Int) := by
  unfold pick
  have h1 : -(n : Int) < t.tmod n := Int.lt_tmod_of_pos t (show (0 : Int) < n by omega)
  have h2 : 0 ≤ (t.tmod n + n).tmod n := Int.tmod_nonneg _ (by omega)
  omega
theorem pick_lt {t : Int} {n : Nat} (hn : 0 < n) : pick t n < n := by
  have := pick_int (t := t) hn
  have h2 := Int.tmod_lt_of_pos (t.tmod n + n) (show (0 : Int) < n by omega)
  omega
def dl0 (procs : Int) (demand prio : List Int) : Deal := ⟨procs, demand, prio, List.replicate demand.length 0⟩
theorem fair_no {procs : Int} {demand prio : List Int} {turn : Int} (h : (¬ (demand.length : Int) = (prio.length : Int) ∨ 8 < (demand.length : Int)) ∨ within procs 64 = false) : fair? procs demand prio turn = none := by
  unfold fair?; rw [if_pos]
  rcases h with (h | h) | h
  · exact .inl (by omega)
  · exact .inr (.inl (by omega))
  · exact .inr (.inr (.inl h))
theorem fair_bad {procs : Int} {demand prio : List Int} {turn : Int} {k : Nat} {p : Int} (hp : prio[k]? = some p) (h : within p 7 = false) : fair? procs demand prio turn = none := by
  unfold fair?; rw [if_pos]
  refine .inr (.inr (.inr ?_))
  refine Bool.eq_false_iff.2 fun e => ?_
  have := List.all_eq_true.1 e p (List.mem_of_getElem? hp)
  rw [h] at this; cases this
theorem fair_nil {procs : Int} {demand prio : List Int} {turn : Int} (h : demand.length = prio.length ∧ demand.length ≤ 8 ∧ within procs 64 = true) (hp : prio.all (fun p => within p 7) = true) (h0 : demand.length = 0) : fair? procs demand prio turn = some [] := by
  unfold fair?; rw [if_neg, if_pos h0]
  rintro (e | e | e | e)
  · exact e h.1
  · omega
  · rw [h.2.2] at e; cases e
  · rw [hp] at e; cases e
theorem fair_yes {procs : Int} {demand prio : List Int} {turn : Int} (h : demand.length = prio.length ∧ demand.length ≤ 8 ∧ within procs 64 = true) (hp : prio.all (fun p => within p 7) = true) (h0 : ¬ demand.length = 0) : fair? procs demand prio turn = some (priosN (pick turn demand.length) 8 (dl0 procs demand prio)).out := by
  unfold fair?; rw [if_neg, if_neg h0, prios_eq]; rfl
  rintro (e | e | e | e)
  · exact e h.1
  · omega
  · rw [h.2.2] at e; cases e
  · rw [hp] at e; cases e
theorem dl0_ok {procs : Int} {demand prio : List Int} (h : demand.length = prio.length ∧ demand.length ≤ 8 ∧ within procs 64 = true) (hd : ∀ z ∈ demand, z ≤ 1000000) : DOk (dl0 procs demand prio) := by
  have hw := h.2.2
  unfold within at hw
  simp only [Bool.and_eq_true, decide_eq_true_eq] at hw
  exact ⟨hw, h.1.symm, by simp [dl0], hd, fun y hy => by rw [List.eq_of_mem_replicate hy]; exact Int.le_refl _, h.2.1⟩
theorem deal_room {d : Deal} (h : DOk d) {n : Nat} {p y : Int} (hw : d.wants n p = true) (hy : d.out[n]? = some y) (hn : n < d.demand.length) : y < 1000000 ∧ 0 ≤ y := by
  unfold Deal.wants at hw
  obtain ⟨z, hz⟩ := at_some hn
  rw [getD_of hy, getD_of hz] at hw
  simp only [Bool.and_eq_true, decide_eq_true_eq] at hw
  have := h.dm z (List.mem_of_getElem? hz)
  exact ⟨by omega, h.om y (List.mem_of_getElem? hy)⟩
/-! what New makes -/
theorem check_snoc {l : List Prg} {n : Nat} {p : Prg} (h : l[n]? = some p) (hc : checkI p = 0) : checkAll (l.drop n) = checkAll (l.drop (n + 1)) := by rw [drop_cons h, checkAll, if_pos hc]
theorem check_stop {l : List Prg} {n : Nat} {p : Prg} (h : l[n]? = some p) (hc : ¬ checkI p = 0) : checkAll (l.drop n) = checkI p := by rw [drop_cons h, checkAll, if_neg hc]
theorem kerr_bad {procs : Int} {l : List Prg} (h : ((procs < 1 ∨ 64 < procs) ∨ (l.length : Int) < 1) ∨ 8 < (l.length : Int)) : krnErr procs l = 1 := by unfold krnErr; rw [if_pos]; omega
theorem kerr_ok {procs : Int} {l : List Prg} (h : 1 ≤ procs ∧ procs ≤ 64 ∧ 1 ≤ l.length ∧ l.length ≤ 8) : krnErr procs l = checkAll l := by unfold krnErr; rw [if_neg]; omega
theorem begin_thr (s : Spc) (f arg : Int) : (s.begin f arg).2.2.thr.length = s.thr.length := by
  unfold Spc.begin
  split
  · rfl
  · simp
theorem new_thr (p : Prg) : (Spc.new p).thr.length = 16 := by rw [new_eq, begin_thr]; simp [spc0]
end Go.SLYtkflpgknieoknaa
