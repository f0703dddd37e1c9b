/- Walks of functions, and what they compute. Conditions: none, this text proves no statement. -/
import Derived.Test.YtpcjdohmjmeehaaGreatG09
import Derived.Test.YtpcjdohmjmeehaaGreatProg
import Derived.KernelRfl
namespace Go.SLYtpcjdohmjmeehaaGreat
open Go Go.RowKit

/-- One, if it is so. -/
def b2 (p : Prop) [Decidable p] : Nat := if p then 1 else 0
theorem cRow_app {w : Int} {l : List Wtr} {a b : Int} : cRow w (l ++ [⟨a, b⟩]) = cRow w l + b2 (a = w) := by
  unfold cRow b2 isW; rw [List.countP_append]; simp [List.countP_cons]
theorem cRow_take {w : Int} {l : List Wtr} {c : Int} : cRow w (takeW l c).2.2 + b2 ((takeW l c).2.1 = true ∧ (takeW l c).1.who = w) = cRow w l := by
  by_cases h0 : l.length = 0
  · rw [take_no h0]; unfold b2; rw [if_neg (by rintro ⟨a, b⟩; cases a)]; rfl
  · rw [take_ok h0]
    have hp := pick_lt (t := c) (n := l.length) (by omega)
    have hx : l[pick c l.length]? = some (l.getD (pick c l.length) ⟨0, 0⟩) := getD_some hp
    have := countP_erase (P := isW w) hx
    unfold cRow b2
    rw [← this]
    simp only [true_and, isW, decide_eq_true_eq]
theorem hasW_zero {w : Int} {l : List Wtr} (h : cRow w l = 0) : hasW l w = false := by
  unfold hasW
  rw [List.any_eq_false]
  intro x hx e
  have : 0 < cRow w l := List.countP_pos_iff.2 ⟨x, hx, e⟩
  omega
theorem waits_zero {g : Gates} {w : Int} (h : cG g w = 0) : g.waits w = false := by
  unfold cG at h
  unfold Gates.waits
  rw [Bool.or_eq_false_iff, Bool.or_eq_false_iff, List.any_eq_false, List.any_eq_false, List.any_eq_false]
  refine ⟨⟨fun x hx => ?_, fun x hx => ?_⟩, fun x hx => ?_⟩
  · have := sumN_ge (f := fun m : Mtx => cRow w m.wait) hx
    rw [hasW_zero (by omega)]; simp
  · have := sumN_ge (f := cRow w) hx
    rw [hasW_zero (by omega)]; simp
  · have := sumN_ge (f := fun m : Smp => cRow w m.wait) hx
    rw [hasW_zero (by omega)]; simp
theorem d1 : (1 : Int) ≠ 0 := by decide
theorem d4 : (4 : Int) ≠ 0 := by decide
theorem d5 : (5 : Int) ≠ 0 := by decide
section
variable {g : Gates} {p : Prg}
theorem cG_mtx {i : Nat} {x y : Mtx} (h : g.mtx[i]? = some x) (w : Int) : cG { g with mtx := g.mtx.set i y } w + cRow w x.wait = cG g w + cRow w y.wait := by
  have := sumN_set (f := fun m : Mtx => cRow w m.wait) y h
  unfold cG; simp only at this ⊢; omega
theorem cG_cnd {i : Nat} {x y : List Wtr} (h : g.cnd[i]? = some x) (w : Int) : cG { g with cnd := g.cnd.set i y } w + cRow w x = cG g w + cRow w y := by
  have := sumN_set (f := cRow w) y h
  unfold cG; simp only at this ⊢; omega
theorem cG_sem {i : Nat} {x y : Smp} (h : g.sem[i]? = some x) (w : Int) : cG { g with sem := g.sem.set i y } w + cRow w x.wait = cG g w + cRow w y.wait := by
  have := sumN_set (f := fun m : Smp => cRow w m.wait) y h
  unfold cG; simp only at this ⊢; omega
theorem GOk.mtx (h : GOk p g) {i : Nat} {y : Mtx} : GOk p { g with mtx := g.mtx.set i y } := ⟨by simp only [List.length_set]; exact h.m, h.c, h.s, h.sc, fun r hr w hw => by simp only [List.length_set]; exact h.cm r hr w hw⟩
theorem GOk.cnd (h : GOk p g) {i : Nat} {y : List Wtr} (hy : ∀ w ∈ y, 0 ≤ w.mutex ∧ w.mutex < (g.mtx.length : Int)) : GOk p { g with cnd := g.cnd.set i y } := ⟨h.m, by simp only [List.length_set]; exact h.c, h.s, h.sc, fun r hr w hw => by
  rcases List.mem_or_eq_of_mem_set hr with hr | rfl
  · exact h.cm r hr w hw
  · exact hy w hw⟩
theorem GOk.sem (h : GOk p g) {i : Nat} {y : Smp} (hy : 0 ≤ y.count ∧ y.count ≤ 1048576) : GOk p { g with sem := g.sem.set i y } := ⟨h.m, h.c, by simp only [List.length_set]; exact h.s, fun x hx => by
  rcases List.mem_or_eq_of_mem_set hx with hx | rfl
  · exact h.sc x hx
  · exact hy, h.cm⟩
theorem b2_no {q : Prop} [Decidable q] (h : ¬ q) : b2 q = 0 := if_neg h
theorem b2_yes {q : Prop} [Decidable q] (h : q) : b2 q = 1 := if_pos h
theorem lock_c (h : GOk p g) {n m : Int} : GOk p (g.lock n m).2.2 ∧ ∀ w, cG (g.lock n m).2.2 w = cG g w + b2 (((g.lock n m).2.1 = 0 ∧ (g.lock n m).1 = false) ∧ n = w) := by
  have nope : ∀ (b : Bool) (e : Int), (e ≠ 0 ∨ b = true) → ∀ w, cG g w = cG g w + b2 ((e = 0 ∧ b = false) ∧ n = w) := fun b e he w => by
    rw [b2_no (by rintro ⟨⟨a, c⟩, -⟩; rcases he with he | he; exact he a; rw [he] at c; cases c)]; rfl
  by_cases hm : 0 ≤ m ∧ m < (g.mtx.length : Int)
  · obtain ⟨x, hx, hgx⟩ := geti_some hm
    cases hb : (g.waits n || x.is n) with
    | true => rw [g_lock_busy hgx hb]; exact ⟨h, nope _ _ (.inl d4)⟩
    | false =>
      rw [g_lock_go hgx hb]
      cases hh : x.held with
      | true =>
        rw [lock_no hh]
        refine ⟨h.mtx, fun w => ?_⟩
        have := cG_mtx (y := { x with wait := x.wait ++ [⟨n, 0⟩] }) hx w
        rw [cRow_app] at this
        have e : b2 (((0 : Int) = 0 ∧ false = false) ∧ n = w) = b2 (n = w) := by unfold b2; simp
        rw [e]; simp only at this ⊢; omega
      | false =>
        rw [lock_ok hh]
        refine ⟨h.mtx, fun w => ?_⟩
        have := cG_mtx (y := { x with held := true, owner := n }) hx w
        rw [b2_no (by rintro ⟨⟨a, c⟩, -⟩; cases c)]
        simp only at this ⊢; omega
  · rw [g_lock_no hm]; exact ⟨h, nope _ _ (.inl d1)⟩
theorem cRow_unlock {x : Mtx} {c w : Int} : cRow w (x.unlock c).2.2.wait + b2 ((x.unlock c).2.1 = true ∧ (x.unlock c).1 = w) = cRow w x.wait := cRow_take
theorem unlock_c (h : GOk p g) {n m c : Int} : GOk p (g.unlock n m c).2.2.2 ∧ ∀ w, cG (g.unlock n m c).2.2.2 w + b2 ((g.unlock n m c).2.1 = true ∧ (g.unlock n m c).1 = w) = cG g w := by
  have nope : ∀ w, cG g w + b2 (false = true ∧ (0 : Int) = w) = cG g w := fun w => by rw [b2_no (by rintro ⟨a, -⟩; cases a)]; rfl
  by_cases hm : 0 ≤ m ∧ m < (g.mtx.length : Int)
  · obtain ⟨x, hx, hgx⟩ := geti_some hm
    cases hb : x.is n with
    | false => rw [g_unlock_own hgx hb]; exact ⟨h, nope⟩
    | true =>
      rw [g_unlock_go hgx hb]
      refine ⟨h.mtx, fun w => ?_⟩
      have := cG_mtx (y := (x.unlock c).2.2) hx w
      have := cRow_unlock (x := x) (c := c) (w := w)
      simp only at *; omega
  · rw [g_unlock_no hm]; exact ⟨h, nope⟩
theorem wait_c (h : GOk p g) {n c m ch : Int} (hw0 : g.waits n = false) : GOk p (g.wait n c m ch).2.2.2 ∧ ∀ w, cG (g.wait n c m ch).2.2.2 w + b2 ((g.wait n c m ch).2.1 = true ∧ (g.wait n c m ch).1 = w) = cG g w + b2 ((g.wait n c m ch).2.2.1 = 0 ∧ n = w) := by
  have nope : ∀ e : Int, e ≠ 0 → ∀ w, cG g w + b2 (false = true ∧ (0 : Int) = w) = cG g w + b2 (e = 0 ∧ n = w) := fun e he w => by rw [b2_no (by rintro ⟨a, -⟩; cases a), b2_no (fun h => he h.1)]
  by_cases hm : 0 ≤ m ∧ m < (g.mtx.length : Int)
  · by_cases hc : 0 ≤ c ∧ c < (g.cnd.length : Int)
    · obtain ⟨x, hx, hgx⟩ := geti_some hm
      obtain ⟨r, hr, hgr⟩ := geti_some hc
      cases hb : x.is n with
      | false => rw [g_wait_own hgx hgr hw0 hb]; exact ⟨h, nope _ d5⟩
      | true =>
        rw [g_wait_go hgx hgr hw0 hb]
        have h1 := h.mtx (i := m.toNat) (y := (x.unlock ch).2.2)
        refine ⟨h1.cnd (i := c.toNat) (y := r ++ [⟨n, m⟩]) (fun w hw => ?_), fun w => ?_⟩
        · simp only [List.length_set]
          rcases List.mem_append.1 hw with hw | hw
          · exact h.cm r (List.mem_of_getElem? hr) w hw
          · rw [List.mem_singleton] at hw; rw [hw]; exact hm
        · have a1 := cG_mtx (y := (x.unlock ch).2.2) hx w
          have a2 := cRow_unlock (x := x) (c := ch) (w := w)
          have a3 := cG_cnd (g := { g with mtx := g.mtx.set m.toNat (x.unlock ch).2.2 }) (y := r ++ [⟨n, m⟩]) hr w
          rw [cRow_app] at a3
          have e : b2 ((0 : Int) = 0 ∧ n = w) = b2 (n = w) := by unfold b2; simp
          simp only [e] at *
          omega
    · rw [g_wait_no2 hc]; exact ⟨h, nope _ d1⟩
  · rw [g_wait_no1 hm]; exact ⟨h, nope _ d1⟩
theorem down_c (h : GOk p g) {n s : Int} (hw0 : g.waits n = false) : GOk p (g.down n s).2.2 ∧ ∀ w, cG (g.down n s).2.2 w = cG g w + b2 (((g.down n s).2.1 = 0 ∧ (g.down n s).1 = false) ∧ n = w) := by
  by_cases hs : 0 ≤ s ∧ s < (g.sem.length : Int)
  · obtain ⟨x, hx, hgx⟩ := geti_some hs
    have hxc := h.sc x (List.mem_of_getElem? hx)
    by_cases hc : 0 < x.count
    · rw [g_down_go hgx hw0 hc]
      refine ⟨h.sem (by simp only; omega), fun w => ?_⟩
      have := cG_sem (y := { x with count := x.count - 1 }) hx w
      rw [b2_no (by rintro ⟨⟨a, c⟩, -⟩; cases c)]
      simp only at this ⊢; omega
    · rw [g_down_wait hgx hw0 hc]
      refine ⟨h.sem hxc, fun w => ?_⟩
      have := cG_sem (y := { x with wait := x.wait ++ [⟨n, 0⟩] }) hx w
      rw [cRow_app] at this
      have e : b2 (((0 : Int) = 0 ∧ false = false) ∧ n = w) = b2 (n = w) := by unfold b2; simp
      rw [e]; simp only at this ⊢; omega
  · rw [g_down_no hs]
    exact ⟨h, fun w => by rw [b2_no (by rintro ⟨⟨a, c⟩, -⟩; exact d1 a)]; rfl⟩
theorem up_c (h : GOk p g) {s c : Int} : GOk p (g.up s c).2.2.2 ∧ ∀ w, cG (g.up s c).2.2.2 w + b2 ((g.up s c).2.1 = true ∧ (g.up s c).1 = w) = cG g w := by
  have no : ∀ w, b2 (false = true ∧ (0 : Int) = w) = 0 := fun w => b2_no (by rintro ⟨a, -⟩; cases a)
  by_cases hs : 0 ≤ s ∧ s < (g.sem.length : Int)
  · obtain ⟨x, hx, hgx⟩ := geti_some hs
    have hxc := h.sc x (List.mem_of_getElem? hx)
    cases ht : (takeW x.wait c).2.1 with
    | true =>
      rw [g_up_take hgx ht]
      refine ⟨h.sem hxc, fun w => ?_⟩
      have a1 := cG_sem (y := { x with wait := (takeW x.wait c).2.2 }) hx w
      have a2 := cRow_take (w := w) (l := x.wait) (c := c)
      rw [ht] at a2
      simp only at *; omega
    | false =>
      by_cases hc : 1048576 ≤ x.count
      · rw [g_up_full hgx ht hc]; exact ⟨h, fun w => by rw [no]; rfl⟩
      · rw [g_up_go hgx ht hc]
        refine ⟨h.sem (by simp only; omega), fun w => ?_⟩
        have := cG_sem (y := { x with count := x.count + 1 }) hx w
        rw [no]; simp only at this ⊢; omega
  · rw [g_up_no hs]; exact ⟨h, fun w => by rw [no]; rfl⟩
theorem sig_c : ∀ (n : Nat) (c : Int) (r : List Wtr) (ms : List Mtx) (out : List Int) (w : Int), n ≤ r.length → (∀ y ∈ r, 0 ≤ y.mutex ∧ y.mutex < (ms.length : Int)) →
    cRow w (sigLoop n c r ms out).1 + sumN (fun m : Mtx => cRow w m.wait) (sigLoop n c r ms out).2.1 + (sigLoop n c r ms out).2.2.count w = cRow w r + sumN (fun m : Mtx => cRow w m.wait) ms + out.count w ∧ ∀ y ∈ (sigLoop n c r ms out).1, y ∈ r
  | 0, _, _, _, _, _, _, _ => ⟨rfl, fun _ h => h⟩
  | n + 1, c, r, ms, out, w, hn, hr => by
    obtain ⟨h1, h2, h3⟩ := take_mem (l := r) (c := c) (by omega)
    have hm := hr _ h1
    obtain ⟨x, hx⟩ := at_some (show (takeW r c).1.mutex.toNat < ms.length by omega)
    have ht : (takeW r c).2.1 = true := by rw [take_ok (by omega)]
    have hgx : ms.getD (takeW r c).1.mutex.toNat ⟨[], false, 0⟩ = x := by rw [List.getD_eq_getElem?_getD, hx]; rfl
    unfold sigLoop
    simp only
    rw [hgx]
    obtain ⟨a1, a2⟩ := sig_c n c (takeW r c).2.2 (ms.set (takeW r c).1.mutex.toNat (x.lock (takeW r c).1.who).2) (if (x.lock (takeW r c).1.who).1 = true then out ++ [(takeW r c).1.who] else out) w (by omega) (fun y hy => by rw [List.length_set]; exact hr y (h3 y hy))
    refine ⟨a1.trans ?_, fun y hy => h3 y (a2 y hy)⟩
    have b1 := cRow_take (w := w) (l := r) (c := c)
    have b3 := sumN_set (f := fun m : Mtx => cRow w m.wait) (x.lock (takeW r c).1.who).2 hx
    have e : b2 ((takeW r c).2.1 = true ∧ (takeW r c).1.who = w) = b2 ((takeW r c).1.who = w) := by unfold b2; simp [ht]
    rw [e] at b1
    cases hh : x.held with
    | true =>
      rw [lock_no hh] at b3 ⊢
      simp only [Bool.false_eq_true, if_false] at b3 ⊢
      rw [cRow_app] at b3
      omega
    | false =>
      rw [lock_ok hh] at b3 ⊢
      simp only [if_true] at b3 ⊢
      rw [List.count_append, List.count_singleton]
      have e2 : (if ((takeW r c).1.who == w) = true then 1 else 0) = b2 ((takeW r c).1.who = w) := by unfold b2; simp
      rw [e2]; omega
theorem signal_c (h : GOk p g) {c ch : Int} {all : Bool} : GOk p (g.signal c ch all).2.2 ∧ ∀ w, cG (g.signal c ch all).2.2 w + (g.signal c ch all).1.count w = cG g w := by
  by_cases hc : 0 ≤ c ∧ c < (g.cnd.length : Int)
  · obtain ⟨r, hr, hgr⟩ := geti_some hc
    have hrm := h.cm r (List.mem_of_getElem? hr)
    rw [g_signal_go hgr rfl]
    have hs := fun w => sig_c (if all = true then r.length else min r.length 1) (if all = true then 0 else ch) r g.mtx [] w (by split <;> omega) hrm
    refine ⟨⟨?_, ?_, h.s, h.sc, fun y hy w hw => ?_⟩, fun w => ?_⟩
    · rw [sig_mlen]; exact h.m
    · simp only [List.length_set]; exact h.c
    · rw [sig_mlen]
      rcases List.mem_or_eq_of_mem_set hy with hy | rfl
      · exact h.cm y hy w hw
      · exact hrm w ((hs 0).2 w hw)
    · have a1 := (hs w).1
      have a2 := sumN_set (f := cRow w) (sigLoop (if all = true then r.length else min r.length 1) (if all = true then 0 else ch) r g.mtx []).1 hr
      unfold cG
      simp only [List.count_nil] at *
      omega
  · rw [g_signal_no hc]; exact ⟨h, fun w => rfl⟩
end
end Go.SLYtpcjdohmjmeehaaGreat
namespace Go.SLYtpcjdohmjmeehaaGreat
open Go Go.RowKit

theorem cnt1 {n w : Int} : [n].count w = b2 (n = w) := by rw [List.count_singleton]; unfold b2; simp
theorem cntIf {ok : Bool} {n w : Int} : (if ok = true then [n] else []).count w = b2 (ok = true ∧ n = w) := by
  cases ok
  · simp [b2]
  · simp only [if_true, cnt1, true_and]
/-- A thread that runs, and its instruction. -/
structure St (k : Nat) (s0 : Spc) (d : Dng) (t : Thr) : Prop where
  h : GoI k s0 d [] []
  ht : d.s.thr[d.n]? = some (some t)
  hw : t.why = 0
  hs : d.out.stopped = false
  he : d.out.ended = false
  I : InsOk d.i
section
variable {k : Nat} {s0 : Spc} {d : Dng} {p q : List Int} {t : Thr}
theorem St.o (S : St k s0 d t) : HOk (d.s.table.getD d.n (false, 0)) d.n t := S.h.ok.th d.n t S.ht
theorem St.zero (S : St k s0 d t) : cnt d.s d.n = 0 := by
  have := S.h.ok.bal d.n
  have e : blkS d.s d.n = 0 := by unfold blkS; rw [at_of S.ht]; exact bT_run S.hw
  simp at this; omega
theorem St.a (S : St k s0 d t) : W64 d.a := by unfold Dng.a; rw [dng_t S.ht]; exact S.o.R.r _
theorem St.b (S : St k s0 d t) : W64 d.b := by unfold Dng.b; rw [dng_t S.ht]; exact S.o.R.r _
theorem St.pass (S : St k s0 d t) {x y e : Int} (he : 0 ≤ e ∧ e ≤ 11) : GoI k s0 (d.pass x y e) [] [] := S.h.pass S.ht he
theorem GoI.given {ok : Bool} {n : Int} (h : GoI k s0 d (if ok = true then [n] else []) []) : GoI k s0 (d.given n ok) [] [] := by
  unfold Dng.given
  cases ok with
  | false => exact h
  | true =>
    have := GoI.goes (y := 0) h (w0 := n) (by simp) ⟨by decide, by decide⟩
    exact this.bal (fun w => by simp)
theorem wait_err {g : Gates} {n c m ch : Int} (h : (g.wait n c m ch).2.2.1 ≠ 0) : (g.wait n c m ch).2.1 = false := by
  unfold Gates.wait at h ⊢
  repeat' split
  all_goals first | rfl | skip
  rename_i h1 h2 h3 h4
  rw [h1, h2] at h
  simp only at h
  rw [if_neg h3, if_pos h4] at h
  exact absurd rfl h
theorem St.waits (S : St k s0 d t) : d.s.gates.waits d.n = false := waits_zero (by have := S.zero; unfold cnt at this; omega)
theorem St.mutex (S : St k s0 d t) : GoI k s0 d.mutex [] [] := by
  unfold Dng.mutex
  simp only
  split
  · obtain ⟨hg, hc⟩ := lock_c (n := d.n) (m := d.i.n) S.h.ok.gt
    split
    · rename_i hb
      have h1 := S.h.withG hg (p' := []) (q' := [(d.n : Int)]) (fun w => by
        rw [hc w, cnt1]
        have : b2 (((d.s.gates.lock d.n d.i.n).2.1 = 0 ∧ (d.s.gates.lock d.n d.i.n).1 = false) ∧ (d.n : Int) = w) = b2 ((d.n : Int) = w) := by unfold b2; simp [hb]
        rw [this]; simp)
      exact h1.block S.ht S.hw S.hs S.he ⟨by decide, by decide⟩ (by decide)
    · rename_i hb
      have h1 := S.h.withG hg (p' := []) (q' := []) (fun w => by rw [hc w, b2_no (fun h => hb h.1)]; rfl)
      exact h1.pass S.ht lock_bd
  · split
    · obtain ⟨hg, hc⟩ := unlock_c (n := d.n) (m := d.i.n) (c := d.choice) S.h.ok.gt
      have h1 := S.h.withG hg (p' := if (d.s.gates.unlock d.n d.i.n d.choice).2.1 = true then [(d.s.gates.unlock d.n d.i.n d.choice).1] else []) (q' := []) (fun w => by rw [cntIf]; have := hc w; simp; omega)
      exact (h1.pass S.ht unlock_bd).given
    · obtain ⟨hg, hc⟩ := wait_c (n := d.n) (c := d.i.n) (m := d.i.c) (ch := d.choice) S.h.ok.gt S.waits
      have hc2 := fun w => hc w
      split
      · rename_i he
        have h1 := S.h.withG hg (p' := []) (q' := []) (fun w => by
          have := hc w
          rw [b2_no (fun h => by rw [wait_err he] at h; exact absurd h.1 (by simp)), b2_no (fun h => he h.1)] at this
          simp; omega)
        exact h1.pass S.ht wait_bd
      · rename_i he
        have he : (d.s.gates.wait d.n d.i.n d.i.c d.choice).2.2.1 = 0 := Decidable.not_not.mp he
        have h1 := S.h.withG hg (p' := if (d.s.gates.wait d.n d.i.n d.i.c d.choice).2.1 = true then [(d.s.gates.wait d.n d.i.n d.i.c d.choice).1] else []) (q' := [(d.n : Int)]) (fun w => by
          rw [cntIf, cnt1]
          have := hc w
          have e : b2 ((d.s.gates.wait d.n d.i.n d.i.c d.choice).2.2.1 = 0 ∧ (d.n : Int) = w) = b2 ((d.n : Int) = w) := by unfold b2; simp [he]
          rw [e] at this
          simp; omega)
        exact (h1.block S.ht S.hw S.hs S.he ⟨by decide, by decide⟩ (by decide)).given
theorem St.sem (S : St k s0 d t) : GoI k s0 d.sem [] [] := by
  unfold Dng.sem
  simp only
  split
  · obtain ⟨hg, hc⟩ := up_c (s := d.i.n) (c := d.choice) S.h.ok.gt
    have h1 := S.h.withG hg (p' := if (d.s.gates.up d.i.n d.choice).2.1 = true then [(d.s.gates.up d.i.n d.choice).1] else []) (q' := []) (fun w => by rw [cntIf]; have := hc w; simp; omega)
    exact (h1.pass S.ht up_bd).given
  · obtain ⟨hg, hc⟩ := down_c (n := d.n) (s := d.i.n) S.h.ok.gt S.waits
    split
    · rename_i hb
      have h1 := S.h.withG hg (p' := []) (q' := [(d.n : Int)]) (fun w => by
        rw [hc w, cnt1]
        have : b2 (((d.s.gates.down d.n d.i.n).2.1 = 0 ∧ (d.s.gates.down d.n d.i.n).1 = false) ∧ (d.n : Int) = w) = b2 ((d.n : Int) = w) := by unfold b2; simp [hb]
        rw [this]; simp)
      exact h1.block S.ht S.hw S.hs S.he ⟨by decide, by decide⟩ (by decide)
    · rename_i hb
      have h1 := S.h.withG hg (p' := []) (q' := []) (fun w => by rw [hc w, b2_no (fun h => hb h.1)]; rfl)
      exact h1.pass S.ht down_bd
/-! those who go on by a signal -/
theorem Ok.why1 {s : Spc} (h : Ok k s p q) {w0 : Int} {u : Thr} (hu : s.at w0 = some u) (hu0 : u.why ≠ 0) (hu9 : u.why ≠ 9) : Ok k (s.setT w0.toNat { u with why := 1 }) p q := by
  obtain ⟨h0, hat⟩ := of_at hu
  have ho := h.th _ u hat
  refine h.setT (t' := { u with why := 1 }) hat ⟨ho.h, ⟨ho.R.l, ho.R.r, ho.R.i, ho.R.v, ho.R.h⟩, ho.pc, ho.d, fun e => absurd (show (1 : Int) = 9 from e) (by decide)⟩ (fun w => ?_)
  have e1 : bT u = 1 := bT_blk hu0 hu9
  have e2 : bT { u with why := 1 } = 1 := bT_blk (t := { u with why := 1 }) (by show (1 : Int) ≠ 0; decide) (by show (1 : Int) ≠ 9; decide)
  have e3 : jn w (some { u with why := 1 }) = jn w (some u) := rfl
  rw [e1, e2, e3]
theorem blk_why1 {s : Spc} {w0 : Int} {u : Thr} (hu : s.at w0 = some u) (hu0 : u.why ≠ 0) (hu9 : u.why ≠ 9) (w : Int) : blkS (s.setT w0.toNat { u with why := 1 }) w = blkS s w ∧ rdy (s.setT w0.toNat { u with why := 1 }) w = rdy s w := by
  obtain ⟨h0, hat⟩ := of_at hu
  have hc : ((w0.toNat : Nat) : Int) = w0 := by omega
  have e : (s.setT w0.toNat { u with why := 1 }).at w = if w = w0 then some { u with why := 1 } else s.at w := by
    have := at_set (s := s) (n := w0.toNat) (o := some { u with why := 1 }) (List.getElem?_eq_some_iff.1 hat).1 w
    rw [hc] at this; exact this
  unfold blkS rdy
  rw [e]
  by_cases hw : w = w0
  · rw [if_pos hw, hw, hu]
    refine ⟨?_, ?_⟩
    · show bT { u with why := 1 } = bT u
      exact (bT_blk (t := { u with why := 1 }) (by show (1 : Int) ≠ 0; decide) (by show (1 : Int) ≠ 9; decide)).trans (bT_blk hu0 hu9).symm
    · rw [rO_some, rO_some, if_neg (by show ¬ (1 : Int) = 0; decide), if_neg hu0]
  · rw [if_neg hw]; exact ⟨rfl, rfl⟩
theorem GoI.whyAll : ∀ (l : List Int) (d : Dng), GoI k s0 d p q → (∀ w ∈ l, 0 < blkS d.s w) → GoI k s0 { d with s := whyAll d.s l } p q
  | [], _, h, _ => h
  | w :: l, d, h, hl => by
    obtain ⟨u, hu, hu0, hu9⟩ := blk_pos (hl w List.mem_cons_self)
    have hat := (of_at hu).2
    have hk := blk_why1 hu hu0 hu9
    have h2 : GoI k s0 { d with s := d.s.setT w.toNat { u with why := 1 } } p q := ⟨h.ok.why1 hu hu0 hu9, fun w' => by
      have := h.rd w'
      show rdy (d.s.setT w.toNat { u with why := 1 }) w' + _ = _
      rw [(hk w').2]; exact this⟩
    have h3 := GoI.whyAll l _ h2 (fun w' hw' => by
      show 0 < blkS (d.s.setT w.toNat { u with why := 1 }) w'
      rw [(hk w').1]; exact hl w' (List.mem_cons_of_mem _ hw'))
    show GoI k s0 { d with s := Go.SLYtpcjdohmjmeehaaGreat.whyAll (d.s.setT w.toNat { d.s.t w.toNat with why := 1 }) l } p q
    rw [show d.s.t w.toNat = u from spc_t hat]
    exact h3
theorem GoI.goesAll : ∀ (l : List Int) (d : Dng), GoI k s0 d l [] → GoI k s0 (d.goesAll l) [] []
  | [], _, h => h
  | w :: l, d, h => by
    have h1 := h.goes (w0 := w) (y := 0) (by simp) ⟨by decide, by decide⟩
    exact GoI.goesAll l _ (h1.bal (fun w' => by simp [List.count_cons]))
theorem GoI.moved {l : List Int} (h : GoI k s0 d l []) : GoI k s0 (d.moved l) [] [] := by
  unfold Dng.moved
  refine GoI.goesAll l _ (GoI.whyAll d.waits d h (fun w hw => ?_))
  have := h.ok.bal w
  have h1 : 0 < cG d.s.gates w := by
    obtain ⟨x, hx, hw⟩ := List.mem_flatMap.1 hw
    obtain ⟨y, hy, rfl⟩ := List.mem_map.1 hw
    have h2 := sumN_ge (f := fun m : Mtx => cRow y.who m.wait) (List.mem_of_mem_take hx)
    have h3 : 0 < cRow y.who x.wait := List.countP_pos_iff.2 ⟨y, hy, by simp [isW]⟩
    unfold cG; omega
  unfold cnt at this
  simp at this; omega
theorem St.signal (S : St k s0 d t) {all : Bool} : GoI k s0 (((d.withG (d.s.gates.signal d.i.n d.choice all).2.2).pass d.i.n 0 (d.s.gates.signal d.i.n d.choice all).2.1).moved (d.s.gates.signal d.i.n d.choice all).1) [] [] := by
  obtain ⟨hg, hc⟩ := signal_c (c := d.i.n) (ch := d.choice) (all := all) S.h.ok.gt
  have h1 := S.h.withG hg (p' := (d.s.gates.signal d.i.n d.choice all).1) (q' := []) (fun w => by have := hc w; simp; omega)
  exact (h1.pass S.ht signal_bd).moved
end
end Go.SLYtpcjdohmjmeehaaGreat
namespace Go.SLYtpcjdohmjmeehaaGreat
open Go Go.RowKit

section
variable {k : Nat} {s0 : Spc} {d : Dng} {p q : List Int} {t : Thr}
theorem regs_W {l : List Int} (h : ∀ n, W64 (l.getD n 0)) {i n : Nat} {x : Int} (hx : W64 x) : W64 ((l.set i x).getD n 0) := getD_set_all hx h
theorem getD_W {l : List Int} (h : ∀ x ∈ l, W64 x) {i : Nat} (hi : i < l.length) : W64 (l.getD i 0) := h _ (List.mem_of_getElem? (getD_some hi))
theorem doI_ok {f : Frm} {m : List Int} {i : Ins} {z : Frm × List Int} (h : doI f m i = some z) (hI : InsOk i) (hl : f.regs.length = 8) (hr : ∀ n, W64 (f.regs.getD n 0)) (hp : 0 ≤ f.pc ∧ f.pc ≤ 256) (hm : ∀ x ∈ m, W64 x) :
    z.1.regs.length = 8 ∧ (∀ n, W64 (z.1.regs.getD n 0)) ∧ (0 ≤ z.1.pc ∧ z.1.pc ≤ 257) ∧ z.2.length = m.length ∧ ∀ x ∈ z.2, W64 x := by
  have hn := hI.n
  have hj := hI.j
  unfold doI at h
  split at h
  · cases h; exact ⟨hl, hr, ⟨hn.1, by have := hj (.inl ‹_›); show i.n ≤ 257; omega⟩, rfl, hm⟩
  split at h
  · cases h
    refine ⟨hl, hr, ?_, rfl, hm⟩
    show 0 ≤ (if f.reg i.a = 0 then i.n else f.pc + 1) ∧ (if f.reg i.a = 0 then i.n else f.pc + 1) ≤ 257
    have := hj (.inr ‹_›)
    split <;> omega
  split at h
  · cases h
    exact ⟨by show (f.regs.set _ _).length = 8; rw [List.length_set]; exact hl, fun n => regs_W hr ⟨hn.1, hn.2⟩, by show 0 ≤ f.pc + 1 ∧ f.pc + 1 ≤ 257; omega, rfl, hm⟩
  split at h
  · split at h
    · cases h
      refine ⟨by show (f.regs.set _ _).length = 8; rw [List.length_set]; exact hl, fun n => regs_W hr (getD_W hm ?_), by show 0 ≤ f.pc + 1 ∧ f.pc + 1 ≤ 257; omega, rfl, hm⟩
      have := (hr i.b.toNat).1
      unfold Frm.reg at *; omega
    · cases h
  split at h
  · split at h
    · cases h
      refine ⟨hl, hr, by show 0 ≤ f.pc + 1 ∧ f.pc + 1 ≤ 257; omega, by show (m.set _ _).length = _; rw [List.length_set], fun x hx => ?_⟩
      rcases List.mem_or_eq_of_mem_set hx with hx | rfl
      · exact hm x hx
      · exact hr _
    · cases h
  · cases h
    refine ⟨by show (f.regs.set _ _).length = 8; rw [List.length_set]; exact hl, fun n => regs_W hr (arith_W (hr _) ?_), by show 0 ≤ f.pc + 1 ∧ f.pc + 1 ≤ 257; omega, rfl, hm⟩
    split
    · exact ⟨by decide, by decide⟩
    · exact hr _
theorem St.told (S : St k s0 d t) : GoI k s0 d.told [] [] ∧ d.told.s.thr = d.s.thr ∧ d.told.s.mem = d.s.mem ∧ d.told.n = d.n ∧ d.told.out = d.out := by
  unfold Dng.told
  split
  · exact ⟨S.h.tell, rfl, rfl, rfl, rfl⟩
  · split
    · exact ⟨S.h.tell, rfl, rfl, rfl, rfl⟩
    · exact ⟨S.h, rfl, rfl, rfl, rfl⟩
theorem St.plain (S : St k s0 d t) (hpc : t.pc ≤ 256) : GoI k s0 d.plain [] [] := by
  have ho := S.o
  cases hd : doI t.frm d.s.mem d.i with
  | none =>
    rw [dplain_none S.ht hd]
    have hm : W64 18446744073709551615 := ⟨by decide, by decide⟩
    split
    · exact GoI.fin (d := d.tell d.b 0 6 true) S.h.tell S.ht S.hw S.hs S.he hm
    · exact GoI.fin (d := d.tell d.a d.b 6 true) S.h.tell S.ht S.hw S.hs S.he hm
  | some z =>
    rw [dplain_some S.ht hd]
    obtain ⟨h1, e1, e2, e3, e4⟩ := S.told
    obtain ⟨a1, a2, a3, a4, a5⟩ := doI_ok hd S.I ho.R.l ho.R.r ⟨ho.pc.1, hpc⟩ S.h.ok.me.2
    have h2 : GoI k s0 (d.told.setT (t.setF z.1)) [] [] := h1.own (t := t) (by rw [e1, e3]; exact S.ht) ⟨a1, a2, ho.R.i, ho.R.v, ho.R.h⟩ a3 rfl rfl rfl rfl
    have h3 : GoI k s0 { d.told.setT (t.setF z.1) with s := { (d.told.setT (t.setF z.1)).s with mem := z.2 } } [] [] := ⟨h2.ok.mem (by show z.2.length = d.told.s.mem.length; rw [e2]; exact a4) a5, h2.rd⟩
    have e5 : ({ d.told with s := { d.told.s.setT d.n (t.setF z.1) with mem := z.2 } } : Dng) = { d.told.setT (t.setF z.1) with s := { (d.told.setT (t.setF z.1)).s with mem := z.2 } } := by
      rw [← e3]; rfl
    rw [e5]; exact h3
theorem St.spawn (S : St k s0 d t) (hk : k ≤ 1000000) : GoI (k + 1) s0 d.spawn [] [] := by
  have hb := S.b
  have hok := S.h.ok.begin hk (f := d.i.n) hb
  have hrd := S.h.rd
  unfold Dng.spawn
  simp only
  cases hf : slotFree? d.s.table 0 with
  | none =>
    have e : d.s.begin d.i.n d.b = (0, 2, d.s) := begin_no hf
    rw [e] at hok ⊢
    simp only [show ¬ ((2 : Int) = 0) from by decide, if_false]
    rw [dng_t (d := { d with s := d.s, out := d.out }) S.ht]
    have h1 : GoI (k + 1) s0 d [] [] := ⟨hok, hrd⟩
    have ho := S.o
    have h2 := h1.own S.ht (t' := t.put d.i.a 0) (ho.R.put (by decide)) ho.pc rfl rfl rfl rfl
    exact h2.pass (t := t.put d.i.a 0) (setT_same S.ht) (by decide)
  | some n =>
    obtain ⟨t1, ht1, ht1e⟩ := spawn_thr (f := d.i.n) (arg := d.b) hf (by
      have := S.h.ok.lt
      have hfr : ∀ (l : List (Bool × Int)) (i n : Nat), slotFree? l i = some n → n < i + l.length := by
        intro l
        induction l with
        | nil => intro i n h; cases h
        | cons o l ih =>
          intro i n h
          unfold slotFree? at h
          split at h
          · have := ih (i + 1) n h; simp only [List.length_cons]; omega
          · cases h; simp only [List.length_cons]; omega
      have := hfr _ _ _ hf
      have := S.h.ok.ll
      omega)
    have e1 : (d.s.begin d.i.n d.b).1 = (n : Int) := by rw [begin_ok hf]
    have e2 : (d.s.begin d.i.n d.b).2.1 = 0 := by rw [begin_ok hf]
    have e3 : (d.s.begin d.i.n d.b).2.2.thr = d.s.thr.set n (some t1) := by rw [ht1e, begin_ok hf]
    have hn : n < d.s.thr.length := by
      have := (List.getElem?_eq_some_iff.1 ht1).1
      rw [e3, List.length_set] at this; exact this
    have hno : d.s.thr[n]? = some none := by
      obtain ⟨x, hx⟩ := at_some hn
      cases x with
      | none => exact hx
      | some u =>
        have hfr : ∀ (l : List (Bool × Int)) (i n : Nat), slotFree? l i = some n → i ≤ n ∧ ∃ o, l[n - i]? = some o ∧ o.1 = false := by
          intro l
          induction l with
          | nil => intro i n h; cases h
          | cons o l ih =>
            intro i n h
            unfold slotFree? at h
            split at h
            · obtain ⟨a, o', b, c⟩ := ih (i + 1) n h
              exact ⟨by omega, o', by rw [show n - i = (n - (i + 1)) + 1 from by omega]; simpa using b, c⟩
            · cases h; rename_i hb
              exact ⟨Nat.le_refl _, o, by simp, by simpa using hb⟩
        obtain ⟨-, o, ho, ho1⟩ := hfr _ _ _ hf
        rw [Nat.sub_zero] at ho
        have := (S.h.ok.us n (S.h.ok.lt ▸ hn)).2 ⟨u, hx⟩
        rw [List.getD_eq_getElem?_getD, ho] at this
        rw [show (Option.getD (some o) (false, (0 : Int))) = o from rfl, ho1] at this
        cases this
    have hne : n ≠ d.n := fun e => by rw [e, S.ht] at hno; cases hno
    have ht2 : (d.s.begin d.i.n d.b).2.2.thr[d.n]? = some (some t) := by rw [e3, List.getElem?_set_ne hne]; exact S.ht
    rw [e2, e1]
    simp only [if_true, Int.toNat_natCast]
    rw [spc_t ht1]
    have h1 : GoI (k + 1) s0 { d with s := (d.s.begin d.i.n d.b).2.2, out := { d.out with woken := d.out.woken ++ [(n : Int)] } } [] [] := ⟨hok, fun w => by
      have h2 := hrd w
      rw [if_neg (by rw [S.hs, S.he]; simp)] at h2
      show rdy (d.s.begin d.i.n d.b).2.2 w + (if (d.out.stopped = true ∨ d.out.ended = true) ∧ w = (d.n : Int) then 1 else 0) = rdy s0 w + (d.out.woken ++ [(n : Int)]).count w
      rw [if_neg (by rw [S.hs, S.he]; simp), List.count_append, cnt1]
      have h3 : rdy (d.s.begin d.i.n d.b).2.2 w = if w = (n : Int) then 1 else rdy d.s w := by
        unfold rdy
        have := at_set (s := d.s) (n := n) (o := some t1) hn w
        rw [show (d.s.begin d.i.n d.b).2.2.at w = ({ d.s with thr := d.s.thr.set n (some t1) } : Spc).at w from by unfold Spc.at; rw [e3], this]
        split
        · rw [rO_some, ht1e]; exact if_pos rfl
        · rfl
      rw [h3]
      have h4 : rdy d.s (n : Int) = 0 := by unfold rdy; rw [at_nat, hno]; rfl
      by_cases e : w = (n : Int)
      · rw [if_pos e, b2_yes e.symm]; rw [e] at h2 ⊢; omega
      · rw [if_neg e, b2_no (fun h => e h.symm)]; omega⟩
    rw [dng_t (d := { d with s := (d.s.begin d.i.n d.b).2.2, out := { d.out with woken := d.out.woken ++ [(n : Int)] } }) ht2]
    have ho := h1.ok.th d.n t ht2
    have hh1 := h1.ok.th n t1 ht1
    have h2 := h1.own ht2 (t' := t.put d.i.a t1.handle) (ho.R.put hh1.R.h) ho.pc rfl rfl rfl rfl
    exact h2.pass (t := t.put d.i.a t1.handle) (setT_same ht2) (by decide)
/-- Another thread's word is changed, which does not count. -/
theorem GoI.other (h : GoI k s0 d p q) {m : Nat} {u u' : Thr} (hu : d.s.thr[m]? = some (some u)) (hh : HOk (d.s.table.getD m (false, 0)) m u') (hw : u'.why = u.why) {q' : List Int} (e : ∀ w, jn w (some u') + q.count w = jn w (some u) + q'.count w) : GoI k s0 { d with s := d.s.setT m u' } p q' := by
  refine ⟨h.ok.setT hu hh (fun w => ?_), fun w => ?_⟩
  · have e1 : bT u' = bT u := by unfold bT; rw [hw]
    have := e w
    rw [e1]; omega
  · have h1 := h.rd w
    show rdy (d.s.setT m u') w + _ = _
    have : rdy (d.s.setT m u') w = rdy d.s w := by
      rw [rdy_setT hu]
      split
      · rename_i e; rw [e, rdy_of hu, rO_some, rO_some, hw]
      · rfl
    rw [this]; exact h1
theorem slot_live (h : Ok k d.s p q) (x : Int) (m : Nat) (e : slotFind d.s.table x = some m) : ∃ u, d.s.thr[m]? = some (some u) := by
  obtain ⟨h1, h2, h3, h4⟩ := find_lt e
  exact (h.us m (h.ll ▸ h1)).1 h3
theorem other_zero2 (h : Ok k d.s p q) {x : Int} (e : (d.other x).2 = 0) : ∃ m u, (d.other x).1 = m ∧ m ≠ d.n ∧ d.s.thr[m]? = some (some u) ∧ u.detached = false ∧ u.joiner = -1 := by
  cases hf : slotFind d.s.table x with
  | none => rw [other_no hf] at e; cases e
  | some m =>
    obtain ⟨u, hu⟩ := slot_live h x m hf
    by_cases h1 : m = d.n ∨ u.detached = true
    · rw [other_self hf hu h1] at e; cases e
    · by_cases h2 : u.joiner = -1
      · exact ⟨m, u, by rw [other_ok hf hu h1 h2], fun h => h1 (.inl h), hu, by cases hd : u.detached with | false => rfl | true => exact absurd (.inr hd) h1, h2⟩
      · rw [other_join hf hu h1 h2] at e; cases e
theorem free_thr {s : Spc} {n m : Nat} {u : Thr} (h : s.thr[m]? = some (some u)) (hne : n ≠ m) : (s.free n).thr[m]? = some (some u) := by
  unfold Spc.free; simp only; rw [List.getElem?_set_ne hne]; exact h
theorem St.detach (S : St k s0 d t) : GoI k s0 d.detach [] [] := by
  unfold Dng.detach
  simp only
  split
  · exact S.pass other_bd
  · rename_i e
    obtain ⟨m, u, e1, hne, hu, hd, hj⟩ := other_zero2 S.h.ok (Decidable.not_not.mp e)
    have hOu := S.h.ok.th m u hu
    rw [e1, spc_t hu]
    split
    · rename_i h9
      exact (S.h.free hu h9).pass (t := t) (free_thr S.ht hne) (by decide)
    · exact (S.h.other hu (u' := { u with detached := true }) ⟨hOu.h, ⟨hOu.R.l, hOu.R.r, hOu.R.i, hOu.R.v, hOu.R.h⟩, hOu.pc, fun _ => hj, hOu.f⟩ rfl (fun w => rfl)).pass (t := t) (setT_thr S.ht hne) (by decide)
theorem St.join (S : St k s0 d t) : GoI k s0 d.join [] [] := by
  have ho := S.o
  unfold Dng.join
  simp only
  split
  · exact S.pass other_bd
  · rename_i e
    obtain ⟨m, u, e1, hne, hu, hd, hj⟩ := other_zero2 S.h.ok (Decidable.not_not.mp e)
    have hOu := S.h.ok.th m u hu
    rw [e1, spc_t hu]
    split
    · rename_i h9
      rw [dng_t S.ht]
      have h1 := S.h.own S.ht (t' := t.put d.i.a u.value) (ho.R.put hOu.R.v) ho.pc rfl rfl rfl rfl
      have hu2 : (d.setT (t.put d.i.a u.value)).s.thr[m]? = some (some u) := setT_thr hu (Ne.symm hne)
      exact (h1.free hu2 h9).pass (t := t.put d.i.a u.value) (free_thr (setT_same S.ht) hne) (by decide)
    · rename_i h9
      have h1 : GoI k s0 { d with s := d.s.setT m { u with joiner := d.n } } [] [(d.n : Int)] := S.h.other hu (u' := { u with joiner := d.n }) ⟨hOu.h, ⟨hOu.R.l, hOu.R.r, hOu.R.i, hOu.R.v, hOu.R.h⟩, hOu.pc, fun e => absurd (show u.detached = true from e) (by rw [hd]; simp), fun e => absurd (show u.why = 9 from e) h9⟩ rfl (fun w => by
        rw [jn_some, jn_some, hj, if_neg (show ¬ ((-1 : Int) = w ∧ ¬ w = -1) from fun h => h.2 h.1.symm), cnt1]
        unfold b2
        by_cases e : (d.n : Int) = w
        · rw [if_pos (show (d.n : Int) = w ∧ ¬ w = -1 from ⟨e, by omega⟩), if_pos e]; simp
        · rw [if_neg (show ¬ ((d.n : Int) = w ∧ ¬ w = -1) from fun h => e h.1), if_neg e]; simp)
      exact h1.block (setT_thr S.ht hne) S.hw S.hs S.he ⟨by decide, by decide⟩ (by have := S.I.a; omega)
end
end Go.SLYtpcjdohmjmeehaaGreat
namespace Go.SLYtpcjdohmjmeehaaGreat
open Go Go.RowKit

theorem w0W : W64 0 := ⟨by decide, by decide⟩
theorem count_pos_mem {l : List Int} {w : Int} (h : l.count w = 0) : l.contains w = false := by
  cases e : l.contains w with
  | false => rfl
  | true =>
    have : w ∈ l := by simpa using e
    have := List.count_pos_iff.2 this
    omega
theorem tub_waits_zero {u : Tub} {n : Int} (h : cU n u = 0) : u.waits n = false := by
  unfold cU at h
  unfold Tub.waits
  rw [count_pos_mem (by omega), Bool.false_or, List.any_eq_false]
  intro x hx e
  have : 0 < u.puts.countP fun x => decide (x.who = n) := List.countP_pos_iff.2 ⟨x, hx, e⟩
  omega
theorem cons_count {l : List Int} {x w : Int} : (x :: l).count w = l.count w + b2 (x = w) := by rw [List.count_cons]; unfold b2; simp
theorem puts_app {l : List Ptr} {a b w : Int} : (l ++ [(⟨a, b⟩ : Ptr)]).countP (fun x : Ptr => decide (x.who = w)) = l.countP (fun x => decide (x.who = w)) + b2 (a = w) := by
  rw [List.countP_append]; unfold b2; simp [List.countP_cons]
theorem puts_cons {l : List Ptr} {x : Ptr} {w : Int} : (x :: l).countP (fun x => decide (x.who = w)) = l.countP (fun x => decide (x.who = w)) + b2 (x.who = w) := by
  rw [List.countP_cons]; unfold b2; simp
theorem put_c {u : Tub} (h : TOk u) {n x : Int} (hx : W64 x) (hw : u.waits n = false) : TOk (u.put n x).2.2.2 ∧ ∀ w, cU w (u.put n x).2.2.2 + b2 ((u.put n x).2.2.1 = true ∧ (u.put n x).2.1 = w) = cU w u + b2 ((u.put n x).1 = false ∧ n = w) := by
  cases hg : u.gets with
  | cons a r =>
    rw [put_get hw hg]
    refine ⟨⟨h.r, h.l, h.w, h.p⟩, fun w => ?_⟩
    have e1 : b2 (true = true ∧ a = w) = b2 (a = w) := by unfold b2; simp
    rw [b2_no (q := true = false ∧ n = w) (by rintro ⟨a, -⟩; cases a), e1]
    unfold cU
    rw [hg, cons_count]; simp only; omega
  | nil =>
    by_cases hr : (u.words.length : Int) < u.room
    · rw [put_room hw hg hr]
      refine ⟨⟨h.r, ?_, ?_, h.p⟩, fun w => ?_⟩
      · have := h.r; rw [List.length_append]; simp only [List.length_cons, List.length_nil]; omega
      · intro y hy
        rcases List.mem_append.1 hy with hy | hy
        · exact h.w y hy
        · rw [List.mem_singleton] at hy; rw [hy]; exact hx
      · rw [b2_no (q := true = false ∧ n = w) (by rintro ⟨a, -⟩; cases a), b2_no (q := false = true ∧ (0 : Int) = w) (by rintro ⟨a, -⟩; cases a)]; rfl
    · rw [put_full hw hg hr]
      refine ⟨⟨h.r, h.l, h.w, fun y hy => ?_⟩, fun w => ?_⟩
      · rcases List.mem_append.1 hy with hy | hy
        · exact h.p y hy
        · rw [List.mem_singleton] at hy; rw [hy]; exact hx
      · have e1 : b2 (false = false ∧ n = w) = b2 (n = w) := by unfold b2; simp
        rw [b2_no (q := false = true ∧ (0 : Int) = w) (by rintro ⟨a, -⟩; cases a), e1]
        unfold cU
        rw [puts_app]; simp only; omega
theorem get_c {u : Tub} (h : TOk u) {n : Int} (hw : u.waits n = false) : TOk (u.get n).2.2.2.2 ∧ W64 (u.get n).1 ∧ ∀ w, cU w (u.get n).2.2.2.2 + b2 ((u.get n).2.2.2.1 = true ∧ (u.get n).2.2.1 = w) = cU w u + b2 ((u.get n).2.1 = false ∧ n = w) := by
  have n1 : ∀ w, b2 (true = false ∧ n = w) = 0 := fun w => b2_no (by rintro ⟨a, -⟩; cases a)
  have n2 : ∀ w, b2 (false = true ∧ (0 : Int) = w) = 0 := fun w => b2_no (by rintro ⟨a, -⟩; cases a)
  cases hg : u.words with
  | nil =>
    rw [get_none hw hg]
    refine ⟨⟨h.r, h.l, h.w, h.p⟩, w0W, fun w => ?_⟩
    have e1 : b2 (false = false ∧ n = w) = b2 (n = w) := by unfold b2; simp
    rw [n2, e1]
    unfold cU
    rw [List.count_append, cnt1]; simp only; omega
  | cons x r =>
    have hwx := h.w x (by rw [hg]; exact List.mem_cons_self)
    have hwr : ∀ y ∈ r, W64 y := fun y hy => h.w y (by rw [hg]; exact List.mem_cons_of_mem _ hy)
    have hl := h.l
    rw [hg, List.length_cons] at hl
    cases hp : u.puts with
    | nil =>
      rw [get_one hw hg hp]
      refine ⟨⟨h.r, by show r.length ≤ 8; omega, hwr, h.p⟩, hwx, fun w => ?_⟩
      rw [n1, n2]; rfl
    | cons y q =>
      rw [get_two hw hg hp]
      refine ⟨⟨h.r, ?_, ?_, fun z hz => h.p z (by rw [hp]; exact List.mem_cons_of_mem _ hz)⟩, hwx, fun w => ?_⟩
      · show (r ++ [y.x]).length ≤ 8
        rw [List.length_append]; simp only [List.length_cons, List.length_nil]; omega
      · intro z hz
        rcases List.mem_append.1 hz with hz | hz
        · exact hwr z hz
        · rw [List.mem_singleton] at hz; rw [hz]; exact h.p y (by rw [hp]; exact List.mem_cons_self)
      · have e1 : b2 (true = true ∧ y.who = w) = b2 (y.who = w) := by unfold b2; simp
        rw [n1, e1]
        unfold cU
        rw [hp, puts_cons]; simp only; omega
theorem cD_app {d : Dsk} {r : Rqs} {w : Int} : cD { d with wait := d.wait ++ [r] } w = cD d w + b2 (r.who = w) := by
  unfold cD; rw [List.countP_append]; unfold b2; simp [List.countP_cons]
theorem ask_c {d : Dsk} (h : DkOk d) {r : Rqs} (hx : W64 r.x) (hw : cD d r.who = 0) : DkOk (d.ask r).2 ∧ ∀ w, cD (d.ask r).2 w = cD d w + b2 ((d.ask r).1 = 0 ∧ r.who = w) := by
  cases hb : (decide (r.block < 0) || decide ((d.blocks.length : Int) ≤ r.block)) with
  | true =>
    rw [ask_arg hb]
    exact ⟨h, fun w => by rw [b2_no (fun h => d1 h.1)]; rfl⟩
  | false =>
    have hn : d.wait.any (fun x => decide (x.who = r.who)) = false := by
      rw [List.any_eq_false]
      intro x hx e
      have : 0 < cD d r.who := List.countP_pos_iff.2 ⟨x, hx, e⟩
      omega
    rw [ask_go hb hn]
    refine ⟨⟨h.l, h.b, fun y hy => ?_⟩, fun w => ?_⟩
    · rcases List.mem_append.1 hy with hy | hy
      · exact h.w y hy
      · rw [List.mem_singleton] at hy
        subst hy
        simp only [Bool.or_eq_false_iff, decide_eq_false_iff_not] at hb
        exact ⟨by omega, by show _ < (d.blocks.length : Int); omega, hx⟩
    · rw [cD_app]
      have e1 : b2 ((0 : Int) = 0 ∧ r.who = w) = b2 (r.who = w) := by unfold b2; simp
      rw [e1]
theorem cL_set {l : List (Int × Int)} {n v w : Int} (h : l.countP (fun x => decide (x.1 = n)) = 0) : (mapSet l n v).countP (fun x => decide (x.1 = w)) = l.countP (fun x => decide (x.1 = w)) + b2 (n = w) := by
  induction l with
  | nil => unfold mapSet b2; simp [List.countP_cons]
  | cons a l ih =>
    rw [List.countP_cons] at h
    have ha : ¬ a.1 = n := fun e => by rw [if_pos (by simpa using e)] at h; omega
    unfold mapSet
    rw [if_neg ha, List.countP_cons, List.countP_cons, ih (by omega)]
    omega
theorem mapGet_zero {l : List (Int × Int)} {n : Int} (h : l.countP (fun x => decide (x.1 = n)) = 0) : mapGet l n = none := by
  unfold mapGet
  rw [List.find?_eq_none.2]
  · rfl
  · intro x hx e
    have : 0 < l.countP (fun x => decide (x.1 = n)) := List.countP_pos_iff.2 ⟨x, hx, e⟩
    omega
theorem sleep_c {u : Whl} (h : 0 ≤ u.now ∧ u.now ≤ 1099511627776) {n x : Int} (hx : 1 ≤ x ∧ x ≤ 1099511627776) (hz : cL u n = 0) : (0 ≤ (u.sleep n x).2.now ∧ (u.sleep n x).2.now ≤ 1099511627776) ∧ ∀ w, cL (u.sleep n x).2 w = cL u w + b2 (n = w) := by
  unfold Whl.sleep
  rw [if_neg (by omega), mapGet_zero hz, if_neg (by simp)]
  exact ⟨h, fun w => cL_set hz⟩
section
variable {k : Nat} {s0 : Spc} {d : Dng} {p q : List Int} {t : Thr}
theorem St.tube (S : St k s0 d t) (ht : d.i.n < (d.s.tubes.length : Int)) : d.s.tubes[d.i.n.toNat]? = some d.tube ∧ TOk d.tube ∧ d.tube.waits d.n = false := by
  have hn := S.I.n
  have h1 : d.s.tubes[d.i.n.toNat]? = some d.tube := getD_some (by omega)
  have hm := List.mem_of_getElem? h1
  refine ⟨h1, S.h.ok.tb.2 _ hm, tub_waits_zero ?_⟩
  have h2 : cU d.n d.tube ≤ cT d.s.tubes d.n := sumN_ge (f := cU d.n) hm
  have := S.zero
  unfold cnt at this; omega
theorem St.put (S : St k s0 d t) (ht : d.i.n < (d.s.tubes.length : Int)) : GoI k s0 d.put [] [] := by
  obtain ⟨h1, h2, h3⟩ := S.tube ht
  obtain ⟨h4, h5⟩ := put_c h2 S.a h3
  unfold Dng.put
  simp only
  split
  · rename_i hb
    have hg : (d.tube.put d.n d.a).2.2.1 = false := by
      cases hg : d.tube.gets with
      | cons a r => rw [put_get h3 hg] at hb; cases hb
      | nil =>
        by_cases hr : (d.tube.words.length : Int) < d.tube.room
        · rw [put_room h3 hg hr] at hb; cases hb
        · rw [put_full h3 hg hr]
    have h6 := S.h.withU h1 h4 (p' := []) (q' := [(d.n : Int)]) (fun w => by
      have := h5 w
      rw [b2_no (fun h => by rw [hg] at h; exact absurd h.1 (by simp))] at this
      have e : b2 ((d.tube.put d.n d.a).1 = false ∧ (d.n : Int) = w) = b2 ((d.n : Int) = w) := by unfold b2; simp [hb]
      rw [e] at this; rw [cnt1]; simp; omega)
    exact h6.block S.ht S.hw S.hs S.he ⟨by decide, by decide⟩ (by decide)
  · rename_i hb
    have hb : (d.tube.put d.n d.a).1 = true := by simpa using hb
    have h6 := S.h.withU h1 h4 (p' := if (d.tube.put d.n d.a).2.2.1 = true then [(d.tube.put d.n d.a).2.1] else []) (q' := []) (fun w => by
      have := h5 w
      rw [b2_no (q := (d.tube.put d.n d.a).1 = false ∧ _) (fun h => by rw [hb] at h; exact absurd h.1 (by simp))] at this
      rw [cntIf]; simp; omega)
    have h7 := h6.pass S.ht (x := d.i.n) (y := d.a) (e := 0) (by decide)
    split
    · rename_i hg
      rw [if_pos hg] at h7
      exact (h7.goes (by simp) S.a).bal (fun w => by simp)
    · rename_i hg
      rw [if_neg hg] at h7
      exact h7
theorem St.get (S : St k s0 d t) (ht : d.i.n < (d.s.tubes.length : Int)) : GoI k s0 d.get [] [] := by
  have ho := S.o
  obtain ⟨h1, h2, h3⟩ := S.tube ht
  obtain ⟨h4, hW, h5⟩ := get_c h2 h3
  unfold Dng.get
  simp only
  split
  · rename_i hb
    have hg : (d.tube.get d.n).2.2.2.1 = false := by
      cases hg : d.tube.words with
      | nil => rw [get_none h3 hg]
      | cons x r =>
        cases hp : d.tube.puts with
        | nil => rw [get_one h3 hg hp]
        | cons y q => rw [get_two h3 hg hp] at hb; cases hb
    have h6 := S.h.withU h1 h4 (p' := []) (q' := [(d.n : Int)]) (fun w => by
      have := h5 w
      rw [b2_no (fun h => by rw [hg] at h; exact absurd h.1 (by simp))] at this
      have e : b2 ((d.tube.get d.n).2.1 = false ∧ (d.n : Int) = w) = b2 ((d.n : Int) = w) := by unfold b2; simp [hb]
      rw [e] at this; rw [cnt1]; simp; omega)
    exact h6.block S.ht S.hw S.hs S.he ⟨by decide, by decide⟩ (by have := S.I.a; omega)
  · rename_i hb
    have hb : (d.tube.get d.n).2.1 = true := by simpa using hb
    have h6 := S.h.withU h1 h4 (p' := if (d.tube.get d.n).2.2.2.1 = true then [(d.tube.get d.n).2.2.1] else []) (q' := []) (fun w => by
      have := h5 w
      rw [b2_no (q := (d.tube.get d.n).2.1 = false ∧ _) (fun h => by rw [hb] at h; exact absurd h.1 (by simp))] at this
      rw [cntIf]; simp; omega)
    rw [show (d.withU d.i.n.toNat (d.tube.get d.n).2.2.2.2).t = t from dng_t S.ht]
    have h8 := h6.own S.ht (t' := t.put d.i.a (d.tube.get d.n).1) (ho.R.put hW) ho.pc rfl rfl rfl rfl
    have h7 := h8.pass (t := t.put d.i.a (d.tube.get d.n).1) (setT_same S.ht) (x := d.i.n) (y := (d.tube.get d.n).1) (e := 0) (by decide)
    split
    · rename_i hg
      rw [if_pos hg] at h7
      exact (h7.goes (by simp) ⟨by decide, by decide⟩).bal (fun w => by simp)
    · rename_i hg
      rw [if_neg hg] at h7
      exact h7
theorem St.ask (S : St k s0 d t) {b y i : Int} (hy : W64 y) (hi : -1 ≤ i ∧ i < 8) : GoI k s0 (d.ask b y i) [] [] := by
  unfold Dng.ask
  simp only
  split
  · have hz : cD d.s.disk d.n = 0 := by have := S.zero; unfold cnt at this; omega
    obtain ⟨h1, h2⟩ := ask_c S.h.ok.dk (r := ⟨d.n, b, decide (d.i.op = 34), y⟩) hy hz
    split
    · rename_i he
      have h6 := S.h.withD h1 (p' := []) (q' := []) (fun w => by rw [h2 w, b2_no (fun h => he h.1)]; rfl)
      exact h6.pass S.ht ask_bd
    · rename_i he
      have he := Decidable.not_not.mp he
      have h6 := S.h.withD h1 (p' := []) (q' := [(d.n : Int)]) (fun w => by
        rw [h2 w, cnt1]
        have e : b2 ((d.s.disk.ask ⟨d.n, b, decide (d.i.op = 34), y⟩).1 = 0 ∧ (d.n : Int) = w) = b2 ((d.n : Int) = w) := by unfold b2; simp [he]
        simp only [e]; simp)
      exact h6.block S.ht S.hw S.hs S.he ⟨by decide, by decide⟩ hi
  · exact S.pass (by decide)
theorem St.sleep (S : St k s0 d t) : GoI k s0 d.sleep [] [] := by
  have ha := S.a
  unfold Dng.sleep
  simp only
  split
  · exact S.pass (by decide)
  · split
    · exact S.pass (by decide)
    · rename_i h0 h1
      have hz : cL d.s.wheel d.n = 0 := by have := S.zero; unfold cnt at this; omega
      obtain ⟨h2, h3⟩ := sleep_c S.h.ok.wl (n := d.n) (x := d.a) ⟨by have := ha.1; omega, by omega⟩ hz
      have h6 := S.h.withW h2 (p' := []) (q' := [(d.n : Int)]) (fun w => by rw [h3 w, cnt1]; simp)
      exact h6.block S.ht S.hw S.hs S.he ⟨by decide, by decide⟩ (by decide)
theorem St.kernel (S : St k s0 d t) (ht : d.i.op = 35 ∨ d.i.op = 36 → d.i.n < (d.s.tubes.length : Int)) : GoI k s0 d.kernel [] [] := by
  have hi := S.I.a
  unfold Dng.kernel
  split
  · exact S.ask ⟨by decide, by decide⟩ (by omega)
  split
  · exact S.ask S.b (by decide)
  split
  · exact S.put (ht (.inl ‹_›))
  split
  · exact S.get (ht (.inr ‹_›))
  split
  · exact S.sleep
  · exact S.pass (by decide)
theorem GoI.more (h : GoI k s0 d p q) {k' : Nat} (hk : k ≤ k') : GoI k' s0 d p q := ⟨h.ok.more hk, h.rd⟩
theorem St.call (S : St k s0 d t) (hk : k ≤ 1000000) (ht : d.i.op = 35 ∨ d.i.op = 36 → d.i.n < (d.s.tubes.length : Int)) : GoI (k + 1) s0 d.call [] [] := by
  have ho := S.o
  have up : ∀ {e : Dng}, GoI k s0 e [] [] → GoI (k + 1) s0 e [] [] := fun h => h.more (Nat.le_succ _)
  unfold Dng.call
  simp only
  split
  · exact S.spawn hk
  split
  · rw [dng_t S.ht]
    have h1 := S.h.own S.ht (t' := t.put d.i.a t.handle) (ho.R.put ho.R.h) ho.pc rfl rfl rfl rfl
    exact up (h1.pass (t := t.put d.i.a t.handle) (setT_same S.ht) (by decide))
  split
  · have h1 := S.pass (x := 0) (y := 0) (e := 0) (by decide)
    exact up ⟨h1.ok, h1.rd⟩
  split
  · exact up S.join
  split
  · exact up S.detach
  split
  · exact up (GoI.fin (d := d.tell d.a 0 0 true) S.h.tell S.ht S.hw S.hs S.he S.a)
  split
  · exact up S.mutex
  split
  · exact up S.signal
  split
  · exact up S.sem
  · exact up (S.kernel ht)
end
end Go.SLYtpcjdohmjmeehaaGreat
namespace Go.SLYtpcjdohmjmeehaaGreat
open Go Go.RowKit

theorem pig : ∀ (n : Nat) (l : List Int), (∀ x ∈ l, 0 ≤ x ∧ x < (n : Int)) → (∀ w, l.count w ≤ 1) → l.length ≤ n
  | 0, l, h, _ => by
    cases l with
    | nil => exact Nat.le_refl _
    | cons a l => have := h a List.mem_cons_self; omega
  | n + 1, l, h, hc => by
    have h1 := pig n (l.filter fun x => !decide (x = (n : Int))) (fun x hx => by
      obtain ⟨a, b⟩ := List.mem_filter.1 hx
      have := h x a
      have : ¬ x = (n : Int) := by simpa using b
      omega) (fun w => Nat.le_trans (List.Sublist.count_le w List.filter_sublist) (hc w))
    have h2 := List.length_eq_countP_add_countP (fun x => decide (x = (n : Int))) (l := l)
    have h3 : l.countP (fun x => decide (x = (n : Int))) = l.count (n : Int) := by unfold List.count; congr 1
    rw [← List.countP_eq_length_filter] at h1
    have h4 := hc (n : Int)
    have h5 : l.countP (fun x => !decide (x = (n : Int))) = l.countP (fun a => decide ¬(decide (a = (n : Int))) = true) := by congr 1; funext x; simp
    omega
section
variable {k : Nat} {s : Spc}
theorem len16 {α : Type} {f : α → Int} {l : List α} (hl : s.thr.length = 16) (h : ∀ w, l.countP (fun x => decide (f x = w)) ≤ blkS s w) : l.length ≤ 16 := by
  have e : ∀ w, (l.map f).count w = l.countP (fun x => decide (f x = w)) := fun w => by
    unfold List.count; rw [List.countP_map]; congr 1
  have := pig 16 (l.map f) (fun x hx => by
    obtain ⟨y, hy, rfl⟩ := List.mem_map.1 hx
    have h1 : 0 < l.countP (fun x => decide (f x = f y)) := List.countP_pos_iff.2 ⟨y, hy, by simp⟩
    obtain ⟨t, ht, -, -⟩ := blk_pos (Nat.lt_of_lt_of_le h1 (h (f y)))
    obtain ⟨h0, hat⟩ := of_at ht
    have := (List.getElem?_eq_some_iff.1 hat).1
    exact ⟨h0, by omega⟩) (fun w => by rw [e]; exact Nat.le_trans (h w) blk_le)
  rw [List.length_map] at this; exact this
theorem live_blk {w : Int} (h : 0 < blkS s w) : 0 ≤ w ∧ ∃ u, s.thr[w.toNat]? = some (some u) := by
  obtain ⟨t, ht, -, -⟩ := blk_pos h
  exact ⟨(of_at ht).1, t, (of_at ht).2⟩
theorem form_n {p : Prg} (hc : ((((((((((0 < p.funcs.length ∧ p.funcs.length ≤ 8) ∧ 0 ≤ p.words ∧ p.words ≤ 64) ∧ 0 ≤ p.mutexes ∧ p.mutexes ≤ 4) ∧ 0 ≤ p.conds ∧ p.conds ≤ 4) ∧ 0 ≤ p.blocks ∧ p.blocks ≤ 64) ∧ 0 ≤ p.prio ∧ p.prio ≤ 7) ∧ p.sems.length ≤ 4) ∧ p.pipes.length ≤ 4) ∧ (p.funcs.all fun f => decide (f.length ≤ 256)) = true) ∧ (p.sems.all fun n => decide (0 ≤ n) && decide (n ≤ 1048576)) = true) ∧ (p.pipes.all fun n => decide (0 < n) && (decide (0 ≤ n) && decide (n ≤ 8))) = true) {op : Int} (h : ¬ op = 1) : (formOf p op).any = false ∧ (formOf p op).n ≤ 1000 := by
  unfold formOf
  rw [if_neg h]
  repeat' split
  all_goals exact ⟨rfl, by simp only; omega⟩
theorem sound_ok {p : Prg} (hc : capsI p = true) {i : Ins} (h : soundI p i = true) (hn : W64 i.n) : InsOk i ∧ (cls i.op ≠ 1 → i.n ≤ 1099511627776) ∧ (i.op = 35 ∨ i.op = 36 → i.n < (p.pipes.length : Int)) := by
  unfold capsI at hc
  simp only [Bool.and_eq_true, decide_eq_true_eq, within] at hc
  unfold soundI at h
  split at h
  · cases h
  · rename_i hcl
    simp only [Bool.and_eq_true] at h
    obtain ⟨⟨⟨h1, h2⟩, h3⟩, h4⟩ := h
    have hr : ∀ {n : Int} {b : Bool}, regOk n b = true → 0 ≤ n ∧ n < 8 := fun h => by
      simp [regOk] at h; omega
    refine ⟨⟨hr h1, hr h2, ?_, hn, fun hj => ?_⟩, fun hc1 => ?_, fun ho => ?_⟩
    · split at h3
      · simp at h3; omega
      · exact hr h3
    · unfold Form.below at h4
      rcases hj with hj | hj
      · rw [show formOf p i.op = ⟨0, false, 257, false⟩ from by unfold formOf; repeat (first | rw [if_pos (by omega)] | rw [if_neg (by omega)])] at h4
        simp at h4; omega
      · rw [show formOf p i.op = ⟨1, false, 257, false⟩ from by unfold formOf; repeat (first | rw [if_pos (by omega)] | rw [if_neg (by omega)])] at h4
        simp at h4; omega
    · have hn1 : ¬ i.op = 1 := fun e => hc1 (by unfold cls; rw [if_pos (by omega)])
      obtain ⟨g1, g2⟩ := form_n hc hn1
      unfold Form.below at h4
      rw [g1] at h4
      simp at h4
      split at h4
      · omega
      · have := (by simpa using h4 : _ ∧ _).2
        omega
    · unfold Form.below at h4
      rw [show formOf p i.op = ⟨1, false, p.pipes.length, false⟩ from by unfold formOf; repeat (first | rw [if_pos (by omega)] | rw [if_neg (by omega)])] at h4
      simp at h4
      exact h4.2
/-- A space in order is one whose steps may be done. -/
theorem Ok.spc (h : Ok k s [] []) (hk : k ≤ 1000000) (hr : s.recs.length ≤ 80000000) : SpcOk s := by
  have hcap : capsI s.prg = true := by
    have := h.chk.1; unfold checkI at this
    split at this
    · assumption
    · cases this
  have hall : ∀ f ∈ s.prg.funcs, ∀ i ∈ f, soundI s.prg i = true := by
    have := h.chk.1; unfold checkI at this
    rw [if_pos hcap] at this
    split at this
    · rename_i ha
      intro f hf i hi
      have := List.all_eq_true.1 (List.all_eq_true.1 ha f hf) i hi
      exact this
    · cases this
  have hc := hcap
  unfold capsI at hc
  simp only [Bool.and_eq_true, decide_eq_true_eq, within, List.all_eq_true] at hc
  obtain ⟨⟨⟨⟨⟨⟨⟨⟨⟨⟨⟨c1, c2⟩, c3⟩, c4⟩, c5⟩, c6⟩, c7⟩, c8⟩, c9⟩, c10⟩, c11⟩, c12⟩ := hc
  have hbal : ∀ w, cnt s w = blkS s w := fun w => by have := h.bal w; simpa using this
  have bG : ∀ w, cG s.gates w ≤ blkS s w := fun w => by have := hbal w; unfold cnt at this; omega
  have bU : ∀ w, cT s.tubes w ≤ blkS s w := fun w => by have := hbal w; unfold cnt at this; omega
  have bD : ∀ w, cD s.disk w ≤ blkS s w := fun w => by have := hbal w; unfold cnt at this; omega
  have bL : ∀ w, cL s.wheel w ≤ blkS s w := fun w => by have := hbal w; unfold cnt at this; omega
  have hm : ∀ x ∈ s.gates.mtx, x.wait.length ≤ 16 := fun x hx => len16 (f := fun y : Wtr => y.who) h.lt fun w => by
    have := sumN_ge (f := fun m : Mtx => cRow w m.wait) hx
    have := bG w
    have e : x.wait.countP (fun y => decide (y.who = w)) = cRow w x.wait := rfl
    unfold cG at this; omega
  have hcn : ∀ x ∈ s.gates.cnd, x.length ≤ 16 := fun x hx => len16 (f := fun y : Wtr => y.who) h.lt fun w => by
    have := sumN_ge (f := cRow w) hx
    have := bG w
    have e : x.countP (fun y => decide (y.who = w)) = cRow w x := rfl
    unfold cG at this; omega
  have hsm : ∀ x ∈ s.gates.sem, x.wait.length ≤ 16 := fun x hx => len16 (f := fun y : Wtr => y.who) h.lt fun w => by
    have := sumN_ge (f := fun m : Smp => cRow w m.wait) hx
    have := bG w
    have e : x.wait.countP (fun y => decide (y.who = w)) = cRow w x.wait := rfl
    unfold cG at this; omega
  have hug : ∀ u ∈ s.tubes, ∀ w, u.gets.count w ≤ blkS s w ∧ u.puts.countP (fun x => decide (x.who = w)) ≤ blkS s w := fun u hu w => by
    have h1 : cU w u ≤ cT s.tubes w := sumN_ge (f := cU w) hu
    have h2 := bU w
    unfold cU at h1; exact ⟨by omega, by omega⟩
  have hd16 : s.disk.wait.length ≤ 16 := len16 (f := fun r : Rqs => r.who) h.lt bD
  have hw16 : s.wheel.till.length ≤ 16 := len16 (f := fun r : Int × Int => r.1) h.lt bL
  refine ⟨h.lt, ⟨by rw [h.ll]; decide, fun o ho => ?_⟩, fun n t e => ⟨(h.th n t e).R, (h.th n t e).pc⟩, fun x m e => slot_live (d := ⟨s, 0, ⟨0, 0, 0, 0, 0⟩, 0, Eff.z, []⟩) h x m e, fun n e => ?_, fun n t ht hw hj => ?_, hr, by rw [h.me.1]; omega, ⟨by rw [h.gt.m]; omega, by rw [h.gt.c]; omega, by rw [h.gt.s]; omega, fun x hx => Nat.le_trans (hm x hx) (by decide), fun x hx => Nat.le_trans (hcn x hx) (by decide), fun x hx => Nat.le_trans (hsm x hx) (by decide)⟩, h.gt.sc, h.gt.cm, fun w hw => live_blk ?_, by rw [h.gt.m]; omega, ⟨fun x hx => Nat.le_trans (hm x hx) (by decide), fun x hx => Nat.le_trans (hcn x hx) (by decide)⟩, fun f hf i hi => ?_, ⟨by omega, fun f hf => c10 f hf⟩, fun u hu => ?_, fun u hu => ⟨fun w hw => live_blk ?_, fun x hx => live_blk ?_⟩, fun u hu => (h.tb.2 u hu).w, by omega, fun r hr => ?_, fun r hr => live_blk ?_, h.wl, by omega, fun x hx => live_blk ?_⟩
  · have := h.tk o ho; omega
  · obtain ⟨o, ho, hb⟩ : ∃ o, s.table[n]? = some o ∧ o.1 = false := by
      have hfr : ∀ (l : List (Bool × Int)) (i n : Nat), slotFree? l i = some n → i ≤ n ∧ ∃ o, l[n - i]? = some o ∧ o.1 = false := by
        intro l
        induction l with
        | nil => intro i n h; cases h
        | cons o l ih =>
          intro i n h
          unfold slotFree? at h
          split at h
          · obtain ⟨a, o', b, c⟩ := ih (i + 1) n h
            exact ⟨by omega, o', by rw [show n - i = (n - (i + 1)) + 1 from by omega]; simpa using b, c⟩
          · cases h; rename_i hb
            exact ⟨Nat.le_refl _, o, by simp, by simpa using hb⟩
      obtain ⟨-, o, ho, hb⟩ := hfr _ _ _ e
      exact ⟨o, by simpa using ho, hb⟩
    have hn : n < 16 := h.ll ▸ (List.getElem?_eq_some_iff.1 ho).1
    obtain ⟨x, hx⟩ := at_some (show n < s.thr.length by rw [h.lt]; exact hn)
    cases x with
    | none => exact hx
    | some t =>
      have := (h.us n hn).2 ⟨t, hx⟩
      rw [List.getD_eq_getElem?_getD, ho, show (Option.getD (some o) (false, (0 : Int))) = o from rfl, hb] at this
      cases this
  · have h1 : 1 ≤ cJ s.thr t.joiner := by
      have : jn t.joiner (some t) = 1 := by rw [jn_some]; exact if_pos ⟨rfl, hj⟩
      have h2 : jn t.joiner (some t) ≤ cJ s.thr t.joiner := sumN_ge (f := jn t.joiner) (List.mem_of_getElem? ht)
      omega
    have h2 := hbal t.joiner
    obtain ⟨u, hu, hu0, hu9⟩ := blk_pos (s := s) (w := t.joiner) (by unfold cnt at h2; omega)
    obtain ⟨h0, hat⟩ := of_at hu
    exact ⟨h0, fun e => by rw [e, ht] at hat; cases hat; exact hu0 hw, u, hat⟩
  · refine Nat.lt_of_lt_of_le ?_ (bG w)
    unfold cG
    rcases hw with ⟨x, hx, y, hy, rfl⟩ | ⟨x, hx, y, hy, rfl⟩ | ⟨x, hx, y, hy, rfl⟩
    · have h1 := sumN_ge (f := fun m : Mtx => cRow y.who m.wait) hx
      have h2 : 0 < cRow y.who x.wait := List.countP_pos_iff.2 ⟨y, hy, by simp [isW]⟩
      omega
    · have h1 := sumN_ge (f := cRow y.who) hx
      have h2 : 0 < cRow y.who x := List.countP_pos_iff.2 ⟨y, hy, by simp [isW]⟩
      omega
    · have h1 := sumN_ge (f := fun m : Smp => cRow y.who m.wait) hx
      have h2 : 0 < cRow y.who x.wait := List.countP_pos_iff.2 ⟨y, hy, by simp [isW]⟩
      omega
  · have := sound_ok hcap (hall f hf i hi) (h.chk.2 f hf i hi)
    rw [h.tb.1]; exact this
  · have h1 := h.tb.2 u hu
    exact ⟨Nat.le_trans h1.l (by decide), Nat.le_trans (len16 (f := fun x : Ptr => x.who) h.lt fun w => (hug u hu w).2) (by decide), Nat.le_trans (len16 (f := fun x : Int => x) h.lt fun w => by
      have := (hug u hu w).1
      have e : u.gets.countP (fun x => decide (x = w)) = u.gets.count w := by unfold List.count; congr 1
      omega) (by decide)⟩
  · exact Nat.lt_of_lt_of_le (List.count_pos_iff.2 hw) (hug u hu w).1
  · exact Nat.lt_of_lt_of_le (List.countP_pos_iff.2 ⟨x, hx, by simp⟩) (hug u hu x.who).2
  · have := h.dk.w r hr; exact ⟨this.1, this.2.1⟩
  · exact Nat.lt_of_lt_of_le (List.countP_pos_iff.2 ⟨r, hr, by simp⟩) (bD r.who)
  · exact Nat.lt_of_lt_of_le (List.countP_pos_iff.2 ⟨x, hx, by simp⟩) (bL x.1)
end
end Go.SLYtpcjdohmjmeehaaGreat
namespace Go.SLYtpcjdohmjmeehaaGreat
open Go Go.RowKit

section
variable {k : Nat} {s : Spc}
theorem GoI.start (h : Ok k s [] []) {n : Nat} {i : Ins} {c : Int} : GoI k s (s.doing n i c) [] [] := ⟨h, fun w => by simp [Spc.doing, Eff.z]⟩
theorem fin_rd {d : Dng} (h : GoI k s d [] []) {n : Int} (hn : n = (d.n : Int)) : Ok k d.finish.2 [] [] ∧ ∀ w, rdy d.finish.2 w + (if (d.finish.1.stopped = true ∨ d.finish.1.ended = true) ∧ w = n then 1 else 0) = rdy s w + d.finish.1.woken.count w := by
  subst hn
  exact ⟨h.ok.recs _, h.rd⟩
theorem goesAll_n (d : Dng) (a : List Int) : (d.goesAll a).n = d.n := by
  induction a generalizing d with
  | nil => rfl
  | cons x l ih => exact (ih _).trans rfl
theorem fin_n {d : Dng} {v : Int} : (d.fin v).n = d.n := by
  unfold Dng.fin
  split
  · rfl
  · split <;> rfl
theorem plain_n {d : Dng} : d.plain.n = d.n := by
  unfold Dng.plain
  split
  · simp only
    split
    · rfl
    · split <;> rfl
  · split
    · exact fin_n
    · exact fin_n
theorem given_n {d : Dng} {n : Int} {ok : Bool} : (d.given n ok).n = d.n := by unfold Dng.given; split <;> rfl
theorem ask_n {d : Dng} {b y i : Int} : (d.ask b y i).n = d.n := by
  unfold Dng.ask
  simp only
  repeat' split
  all_goals rfl
theorem call_n {d : Dng} : d.call.n = d.n := by
  unfold Dng.call
  simp only
  split
  · rfl
  split
  · rfl
  split
  · rfl
  split
  · unfold Dng.join; simp only; repeat' split
    all_goals rfl
  split
  · unfold Dng.detach; simp only; repeat' split
    all_goals rfl
  split
  · exact fin_n
  split
  · unfold Dng.mutex; simp only; repeat' split
    all_goals first | rfl | exact given_n
  split
  · exact goesAll_n _ _
  split
  · unfold Dng.sem; simp only; repeat' split
    all_goals first | rfl | exact given_n
  · unfold Dng.kernel
    split
    · exact ask_n
    split
    · exact ask_n
    split
    · unfold Dng.put; simp only; repeat' split
      all_goals rfl
    split
    · unfold Dng.get; simp only; repeat' split
      all_goals rfl
    split
    · unfold Dng.sleep; simp only; repeat' split
      all_goals rfl
    · rfl
theorem next_lt {s : Spc} (hO : SpcOk s) {f : Frm} {i : Ins} (e : nextI s.prg f = some i) : f.pc ≤ 256 := by
  unfold nextI at e
  split at e
  · cases e
  · have hlt := (List.getElem?_eq_some_iff.1 e).1
    cases hf : s.prg.funcs[f.fn.toNat]? with
    | none => rw [List.getD_eq_getElem?_getD, hf] at hlt; exact absurd hlt (Nat.not_lt_zero _)
    | some g =>
      rw [List.getD_eq_getElem?_getD, hf] at hlt
      have h1 : f.pc.toNat < g.length := hlt
      have h2 := hO.codel.2 g (List.mem_of_getElem? hf)
      omega
/-- What a thread's step leaves. -/
theorem Ok.run (h : Ok k s [] []) (hk : k ≤ 1000000) (hr : s.recs.length ≤ 80000000) {n c : Int} :
    Ok (k + 1) (s.run n c).2.2 [] [] ∧ (∀ w, rdy (s.run n c).2.2 w + (if ((s.run n c).1.stopped = true ∨ (s.run n c).1.ended = true) ∧ w = n then 1 else 0) = rdy s w + (s.run n c).1.woken.count w) ∧
    ((s.run n c).2.1 ≠ 0 → (s.run n c).2.2 = s ∧ (s.run n c).1 = Eff.z) ∧ (s.run n c).2.2.recs.length ≤ s.recs.length + 400002 ∧ ((s.run n c).2.1 = 0 ↔ rdy s n = 1) := by
  have hO := h.spc hk hr
  have hup : Ok (k + 1) s [] [] := h.more (Nat.le_succ _)
  cases hat : s.at n with
  | none =>
    rw [run_none hat]
    refine ⟨hup, fun w => by simp [Eff.z], fun _ => ⟨rfl, rfl⟩, by simp only; omega, ?_⟩
    simp only
    unfold rdy; rw [hat]; simp [rO]
  | some t =>
    by_cases hw : t.why ≠ 0
    · rw [run_wait hat hw]
      refine ⟨hup, fun w => by simp [Eff.z], fun _ => ⟨rfl, rfl⟩, by simp only; omega, ?_⟩
      simp only
      unfold rdy; rw [hat, rO_some, if_neg hw]; simp
    · have hw0 : t.why = 0 := Decidable.not_not.mp hw
      obtain ⟨h0, ht⟩ := of_at hat
      obtain ⟨m, rfl⟩ : ∃ m : Nat, n = (m : Int) := ⟨n.toNat, by omega⟩
      rw [Int.toNat_natCast] at ht
      have hrd : rdy s (m : Int) = 1 := by unfold rdy; rw [hat, rO_some, if_pos hw0]
      have fin : ∀ {z : Dng} {a b : Nat}, GoI (k + 1) s z [] [] → z.n = m → Grew (s.doing m ⟨0, 0, 0, 0, 0⟩ c) z a b → a ≤ 1 → b ≤ 400001 → s.run (m : Int) c = (z.finish.1, 0, z.finish.2) →
          Ok (k + 1) (s.run (m : Int) c).2.2 [] [] ∧ (∀ w, rdy (s.run (m : Int) c).2.2 w + (if ((s.run (m : Int) c).1.stopped = true ∨ (s.run (m : Int) c).1.ended = true) ∧ w = (m : Int) then 1 else 0) = rdy s w + (s.run (m : Int) c).1.woken.count w) ∧
          ((s.run (m : Int) c).2.1 ≠ 0 → (s.run (m : Int) c).2.2 = s ∧ (s.run (m : Int) c).1 = Eff.z) ∧ (s.run (m : Int) c).2.2.recs.length ≤ s.recs.length + 400002 ∧ ((s.run (m : Int) c).2.1 = 0 ↔ rdy s (m : Int) = 1) := fun {z a b} hz hzn hg ha hb e => by
        rw [e]
        obtain ⟨g1, g2⟩ := fin_rd hz (n := (m : Int)) (by rw [hzn])
        refine ⟨g1, g2, fun hne => absurd rfl hne, ?_, ⟨fun _ => hrd, fun _ => rfl⟩⟩
        show (z.s.recs ++ z.ends).length ≤ _
        rw [List.length_append]
        have h1 : z.s.recs.length ≤ s.recs.length + a := hg.1
        have h2 : z.ends.length ≤ 0 + b := hg.2
        omega
      cases hn : nextI s.prg t.frm with
      | none =>
        have h1 : GoI k s (((s.doing m ⟨23, 0, 0, 0, 0⟩ c).tell 0 0 0 true).fin 0) [] [] := GoI.fin (GoI.tell (GoI.start h)) ht hw0 rfl rfl w0W
        exact fin (h1.more (Nat.le_succ _)) fin_n (grew_of (grew_tell.trans grew_fin) rfl rfl) (by decide) (by decide) (run_end hat hw hn rfl)
      | some i =>
        obtain ⟨hI, hIn, hIt⟩ := next_code hO hn
        have hpc := next_lt hO hn
        have hpc : t.pc ≤ 256 := hpc
        by_cases hc : cls i.op = 1
        · have S : St k s (s.doing m i c) t := ⟨GoI.start h, ht, hw0, rfl, rfl, hI⟩
          exact fin ((S.plain hpc).more (Nat.le_succ _)) plain_n (grew_of grew_plain rfl rfl) (by decide) (by decide) (run_plain hat hw hn hc rfl)
        · have ho := h.th m t ht
          have h1 : GoI k s ((s.doing m i c).setT { t with pc := t.pc + 1 }) [] [] := GoI.own (GoI.start h) ht (t' := { t with pc := t.pc + 1 }) ⟨ho.R.l, ho.R.r, ho.R.i, ho.R.v, ho.R.h⟩ (by have := ho.pc; show 0 ≤ t.pc + 1 ∧ t.pc + 1 ≤ 257; omega) rfl rfl rfl rfl
          have S : St k s ((s.doing m i c).setT { t with pc := t.pc + 1 }) { t with pc := t.pc + 1 } := ⟨h1, setT_same ht, hw0, rfl, rfl, hI⟩
          exact fin (S.call hk hIt) call_n (grew_of (grew_call hO.gsm.2) rfl rfl) (by decide) (by decide) (run_call hat hw hn hc rfl)
/-! a request is done -/
theorem done_c {d : Dsk} (h : DkOk d) {c : Int} (hd : (d.done c).2.2.1 = true) : DkOk (d.done c).2.2.2 ∧ W64 (d.done c).2.1 ∧ ∀ w, cD (d.done c).2.2.2 w + b2 ((d.done c).1.who = w) = cD d w := by
  by_cases h0 : d.wait.length = 0
  · rw [done_none h0] at hd; cases hd
  · have hp := pick_lt (t := c) (n := d.wait.length) (by omega)
    have hx : d.wait[pick c d.wait.length]? = some (d.wait.getD (pick c d.wait.length) rqsZ) := getD_some hp
    have hm := List.mem_of_getElem? hx
    generalize hr : d.wait.getD (pick c d.wait.length) rqsZ = r at hx hm
    have hrw := h.w r hm
    have hcn : ∀ w, (d.wait.eraseIdx (pick c d.wait.length)).countP (fun r => decide (r.who = w)) + b2 (r.who = w) = d.wait.countP (fun r => decide (r.who = w)) := fun w => by
      have := countP_erase (P := fun r : Rqs => decide (r.who = w)) hx
      unfold b2; simpa using this
    cases hw : r.write with
    | true =>
      rw [done_write h0 hr hw]
      refine ⟨⟨by simp only [List.length_set]; exact h.l, fun x hx => ?_, fun y hy => ?_⟩, w0W, fun w => hcn w⟩
      · rcases List.mem_or_eq_of_mem_set hx with hx | rfl
        · exact h.b x hx
        · exact hrw.2.2
      · simp only [List.length_set]; exact h.w y (List.mem_of_mem_eraseIdx hy)
    | false =>
      rw [done_read h0 hr hw]
      exact ⟨⟨h.l, h.b, fun y hy => h.w y (List.mem_of_mem_eraseIdx hy)⟩, getD_W h.b (by omega), fun w => hcn w⟩
theorem Ok.doneS (h : Ok k s [] []) {c : Int} :
    Ok k (s.done c).2.2 [] [] ∧ (∀ w, rdy (s.done c).2.2 w + (if ((s.done c).1.stopped = true ∨ (s.done c).1.ended = true) then 1 else 0) = rdy s w + (s.done c).1.woken.count w) ∧
    ((s.done c).2.1 ≠ 0 → (s.done c).2.2 = s ∧ (s.done c).1 = Eff.z) ∧ (s.done c).2.2.recs.length ≤ s.recs.length + 1 ∧ (s.done c).1.stopped = false ∧ (s.done c).1.ended = false := by
  cases hd : (s.disk.done c).2.2.1 with
  | false =>
    rw [spc_done_no hd]
    exact ⟨h, fun w => by simp [Eff.z], fun _ => ⟨rfl, rfl⟩, by simp, rfl, rfl⟩
  | true =>
    obtain ⟨g1, g2, g3⟩ := done_c h.dk hd
    have h1 : Ok k { s with disk := (s.disk.done c).2.2.2 } [(s.disk.done c).1.who] [] := h.disk g1 (fun w => by rw [cnt1]; have := g3 w; simp; omega)
    have hb := h1.bal (s.disk.done c).1.who
    obtain ⟨u, hu, hu0, hu9⟩ := blk_pos (s := { s with disk := (s.disk.done c).2.2.2 }) (w := (s.disk.done c).1.who) (by simp at hb; omega)
    obtain ⟨h0, hat⟩ := of_at hu
    rw [spc_done_ok hd hat]
    have h2 := h1.wake hu hu0 hu9 g2
    refine ⟨(h2.bal' (p' := []) (q' := []) (fun w => by simp)).recs _, fun w => ?_, fun hne => absurd rfl hne, by simp [Spc.tell, Spc.wake, Spc.setT], rfl, rfl⟩
    show rdy (({ s with disk := (s.disk.done c).2.2.2 } : Spc).wake (s.disk.done c).1.who.toNat (s.disk.done c).2.1) w + (if (false = true ∨ false = true) then 1 else 0) = rdy s w + [(s.disk.done c).1.who].count w
    simp only [Bool.false_eq_true, or_self, if_false, Nat.add_zero]
    rw [rdy_wake hu, cnt1]
    have hs : ∀ w, rdy { s with disk := (s.disk.done c).2.2.2 } w = rdy s w := fun w => rfl
    by_cases e : w = (s.disk.done c).1.who
    · have : rdy s w = 0 := by rw [← hs, e]; unfold rdy; rw [hu, rO_some]; exact if_neg hu0
      rw [if_pos e, b2_yes e.symm]; omega
    · rw [if_neg e, b2_no (fun h => e h.symm), hs]; rfl
/-! a moment -/
theorem sortI_count (l : List Int) (w : Int) : (sortI l).count w = l.count w := by
  have hi : ∀ (a : Int) (m : List Int), (insSorted a m).count w = m.count w + b2 (a = w) := by
    intro a m
    induction m with
    | nil => rw [show insSorted a [] = [a] from rfl, cnt1]; simp
    | cons b m ih =>
      unfold insSorted
      split
      · rw [cons_count]
      · rw [cons_count, ih, cons_count]; omega
  induction l with
  | nil => rfl
  | cons a l ih => show (insSorted a (sortI l)).count w = _; rw [hi, ih, cons_count]
theorem del_count (l : List (Int × Int)) (n w : Int) : (mapDel l n).countP (fun x => decide (x.1 = w)) = if w = n then 0 else l.countP (fun x => decide (x.1 = w)) := by
  unfold mapDel
  rw [List.countP_filter]
  by_cases e : w = n
  · rw [if_pos e, List.countP_eq_zero]
    intro x hx
    simp [e]
  · rw [if_neg e]
    apply List.countP_congr
    intro x hx
    simp only [Bool.and_eq_true, decide_eq_true_eq, Bool.not_eq_true', decide_eq_false_iff_not]
    exact ⟨fun h => h.1, fun h => ⟨h, fun h2 => e (h.symm.trans h2)⟩⟩
theorem dels_count : ∀ (a : List Int) (l : List (Int × Int)) (w : Int), (a.foldl mapDel l).countP (fun x => decide (x.1 = w)) = if w ∈ a then 0 else l.countP (fun x => decide (x.1 = w))
  | [], _, _ => by simp
  | n :: a, l, w => by
    rw [List.foldl_cons, dels_count a, del_count]
    by_cases h : w ∈ a
    · rw [if_pos h, if_pos (List.mem_cons_of_mem _ h)]
    · rw [if_neg h]
      by_cases e : w = n
      · rw [if_pos e, if_pos (by rw [e]; exact List.mem_cons_self)]
      · rw [if_neg e, if_neg (by simp [e, h])]
theorem tick_c {u : Whl} (h : 0 ≤ u.now ∧ u.now ≤ 1099511627776) (hb : ∀ w, cL u w ≤ 1) : (0 ≤ u.tick.2.now ∧ u.tick.2.now ≤ 1099511627776) ∧ ∀ w, cL u.tick.2 w + u.due.count w = cL u w := by
  refine ⟨by show 0 ≤ min (u.now + 1) 1099511627776 ∧ min (u.now + 1) 1099511627776 ≤ _; omega, fun w => ?_⟩
  have h1 : cL u.tick.2 w = if w ∈ u.due then 0 else cL u w := dels_count u.due u.till w
  have h2 : u.due.count w = (u.till.filter fun p => decide (p.2 ≤ min (u.now + 1) 1099511627776)).countP (fun x => decide (x.1 = w)) := by
    unfold Whl.due; rw [sortI_count]; unfold List.count; rw [List.countP_map]; congr 1
  have h3 : (u.till.filter fun p => decide (p.2 ≤ min (u.now + 1) 1099511627776)).countP (fun x => decide (x.1 = w)) ≤ cL u w := List.Sublist.countP_le List.filter_sublist
  rw [h1]
  by_cases hm : w ∈ u.due
  · have := List.count_pos_iff.2 hm
    have := hb w
    rw [if_pos hm]; omega
  · have := List.count_eq_zero.2 hm
    rw [if_neg hm]; omega
theorem Ok.wakeAll : ∀ (l : List Int) (s : Spc), Ok k s l [] → Ok k (wakeAll s l) [] [] ∧ ∀ w, rdy (wakeAll s l) w = rdy s w + l.count w
  | [], _, h => ⟨h, fun w => rfl⟩
  | n :: l, s, h => by
    have hb := h.bal n
    rw [cons_count, b2_yes rfl] at hb
    obtain ⟨u, hu, hu0, hu9⟩ := blk_pos (s := s) (w := n) (by simp at hb; omega)
    have h1 := h.wake hu hu0 hu9 (y := 0) w0W
    have h2 : Ok k ((s.wake n.toNat 0).tell ((s.t n.toNat).woke 0)) l [] := (h1.bal' (fun w => by rw [cons_count, cons_count]; simp)).recs _
    obtain ⟨h3, h4⟩ := Ok.wakeAll l _ h2
    refine ⟨h3, fun w => (h4 w).trans ?_⟩
    have h5 : rdy ((s.wake n.toNat 0).tell ((s.t n.toNat).woke 0)) w = rdy (s.wake n.toNat 0) w := rfl
    rw [h5, rdy_wake hu, cons_count]
    by_cases e : w = n
    · have : rdy s w = 0 := by rw [e]; unfold rdy; rw [hu, rO_some]; exact if_neg hu0
      rw [if_pos e, b2_yes e.symm]; omega
    · rw [if_neg e, b2_no (fun h => e h.symm)]; omega
theorem Ok.tickS (h : Ok k s [] []) :
    Ok k s.tick.2 [] [] ∧ (∀ w, rdy s.tick.2 w = rdy s w + s.tick.1.woken.count w) ∧ s.tick.2.recs.length ≤ s.recs.length + 16 ∧ s.tick.1.stopped = false ∧ s.tick.1.ended = false := by
  have hbal : ∀ w, cnt s w = blkS s w := fun w => by have := h.bal w; simpa using this
  have bL : ∀ w, cL s.wheel w ≤ blkS s w := fun w => by have := hbal w; unfold cnt at this; omega
  obtain ⟨g1, g2⟩ := tick_c h.wl (fun w => Nat.le_trans (bL w) blk_le)
  have h1 : Ok k { s with wheel := s.wheel.tick.2 } s.wheel.due [] := h.wheel g1 (fun w => by have := g2 w; simp; omega)
  obtain ⟨h2, h3⟩ := Ok.wakeAll s.wheel.due _ h1
  refine ⟨h2, fun w => (h3 w).trans rfl, ?_, rfl, rfl⟩
  show (Go.SLYtpcjdohmjmeehaaGreat.wakeAll _ s.wheel.due).recs.length ≤ _
  rw [wakeAll_recs]
  have := due_len2 s.wheel
  have : s.wheel.till.length ≤ 16 := len16 (f := fun r : Int × Int => r.1) h.lt bL
  show s.recs.length + _ ≤ _
  omega
end
end Go.SLYtpcjdohmjmeehaaGreat
namespace Go.SLYtpcjdohmjmeehaaGreat
open Go Go.RowKit

theorem sumN_rep {α : Type} {f : α → Nat} {n : Nat} {x : α} (h : f x = 0) : sumN f (List.replicate n x) = 0 := sumN_zero (fun y hy => by rw [(List.mem_replicate.1 hy).2]; exact h)
theorem Ok.new {p : Prg} (h : PrgOk p) : Ok 1 (Spc.new p) [] [] := by
  have hcap : capsI p = true := by
    have := h.1; unfold checkI at this
    split at this
    · assumption
    · cases this
  have hc := hcap
  unfold capsI at hc
  simp only [Bool.and_eq_true, decide_eq_true_eq, within, List.all_eq_true] at hc
  obtain ⟨⟨⟨⟨⟨⟨⟨⟨⟨⟨⟨c1, c2⟩, c3⟩, c4⟩, c5⟩, c6⟩, c7⟩, c8⟩, c9⟩, c10⟩, c11⟩, c12⟩ := hc
  have cl : ∀ {n : Int}, 0 ≤ n → n ≤ 4 → clamp n 4 = n := fun a b => by unfold clamp; omega
  have h0 : Ok 0 ⟨p, List.replicate 16 (false, 0), List.replicate 16 none, List.replicate p.words.toNat 0, Gates.new p.mutexes p.conds p.sems, p.pipes.map Tub.new, Dsk.new p.blocks, Whl.new, []⟩ [] [] := by
    refine ⟨h, by simp, by simp, fun o ho => ?_, fun n hn => ?_, fun n t ht => ?_, ⟨by simp, fun x hx => ?_⟩, ⟨?_, ?_, ?_, fun x hx => ?_, fun r hr w hw => ?_⟩, ⟨by simp, fun u hu => ?_⟩, ⟨?_, fun x hx => ?_, fun r hr => ?_⟩, (by show (0 : Int) ≤ 0 ∧ (0 : Int) ≤ 1099511627776; decide), fun w => ?_⟩
    · rw [(List.mem_replicate.1 ho).2]; decide
    · rw [List.getD_eq_getElem?_getD, List.getElem?_replicate, List.getElem?_replicate, if_pos hn, if_pos hn]
      exact ⟨fun h => (by cases h), fun ⟨t, h⟩ => (by cases h)⟩
    · have ht : (List.replicate 16 (none : Option Thr))[n]? = some (some t) := ht
      rw [List.getElem?_replicate] at ht
      split at ht <;> cases ht
    · rw [(List.mem_replicate.1 hx).2]; exact w0W
    · show (List.replicate (clamp p.mutexes 4).toNat _).length = _; rw [List.length_replicate, cl (by omega) (by omega)]
    · show (List.replicate (clamp p.conds 4).toNat _).length = _; rw [List.length_replicate, cl (by omega) (by omega)]
    · show ((p.sems.take 4).map _).length = p.sems.length; rw [List.length_map, List.length_take]; omega
    · obtain ⟨n, hn, rfl⟩ := List.mem_map.1 (show x ∈ (p.sems.take 4).map fun n => (⟨[], clamp n 1048576⟩ : Smp) from hx)
      show 0 ≤ clamp n 1048576 ∧ clamp n 1048576 ≤ 1048576; unfold clamp; omega
    · have hr : r ∈ List.replicate (clamp p.conds 4).toNat ([] : List Wtr) := hr
      rw [(List.mem_replicate.1 hr).2] at hw; cases hw
    · obtain ⟨n, hn, rfl⟩ := List.mem_map.1 (show u ∈ p.pipes.map Tub.new from hu)
      exact ⟨by show min (max n 1) 8 ≤ 8; omega, by show 0 ≤ 8; decide, fun x hx => (by cases hx), fun x hx => (by cases hx)⟩
    · show (List.replicate (clamp p.blocks 64).toNat _).length ≤ 64; rw [List.length_replicate]; unfold clamp; omega
    · have hx : x ∈ List.replicate (clamp p.blocks 64).toNat (0 : Int) := hx
      rw [(List.mem_replicate.1 hx).2]; exact w0W
    · cases hr
    · have e1 : cG (Gates.new p.mutexes p.conds p.sems) w = 0 := by
        unfold cG Gates.new
        simp only
        rw [sumN_rep (f := fun m : Mtx => cRow w m.wait) rfl, sumN_rep (f := cRow w) rfl, sumN_zero (fun x hx => by
          obtain ⟨n, hn, rfl⟩ := List.mem_map.1 hx; rfl)]
      have e2 : cT (p.pipes.map Tub.new) w = 0 := sumN_zero (fun x hx => by obtain ⟨n, hn, rfl⟩ := List.mem_map.1 hx; rfl)
      have e3 : cJ (List.replicate 16 none) w = 0 := sumN_rep rfl
      unfold cnt blkS
      simp only [e1, e2, e3]
      have e4 : ∀ (s : Spc), s.thr = List.replicate 16 none → s.at w = none := fun s hs => by
        unfold Spc.at geti
        split
        · rfl
        · rw [hs, List.getElem?_replicate]; split <;> rfl
      rw [e4 _ rfl]
      rfl
  exact Ok.begin h0 (by decide) w0W
end Go.SLYtpcjdohmjmeehaaGreat
namespace Go.SLYtpcjdohmjmeehaaGreat
open Go Go.RowKit

def Okr (k : Nat) (s : Spc) : Prop := Ok k s [] [] ∧ s.recs.length ≤ 400002 * k
theorem Okr.rec {k : Nat} {s : Spc} (h : Okr k s) (hk : k ≤ 190) : s.recs.length ≤ 80000000 := by have := h.2; omega
theorem Okr.spc {k : Nat} {s : Spc} (h : Okr k s) (hk : k ≤ 190) : SpcOk s := h.1.spc (by omega) (h.rec hk)
theorem Okr.run {k : Nat} {s : Spc} (h : Okr k s) (hk : k ≤ 190) (n c : Int) : Okr (k + 1) (s.run n c).2.2 := by
  obtain ⟨a, -, -, b, -⟩ := h.1.run (n := n) (c := c) (by omega) (h.rec hk)
  have := h.2
  exact ⟨a, by omega⟩
theorem Okr.done {k : Nat} {s : Spc} (h : Okr k s) (c : Int) : Okr (k + 1) (s.done c).2.2 := by
  obtain ⟨a, -, -, b, -⟩ := h.1.doneS (c := c)
  have := h.2
  exact ⟨a.more (Nat.le_succ _), by omega⟩
theorem Okr.tick {k : Nat} {s : Spc} (h : Okr k s) : Okr (k + 1) s.tick.2 := by
  obtain ⟨a, -, b, -⟩ := h.1.tickS
  have := h.2
  exact ⟨a.more (Nat.le_succ _), by omega⟩
theorem Okr.new {p : Prg} (h : PrgOk p) : Okr 1 (Spc.new p) := ⟨Ok.new h, by
  have : (Spc.new p).recs = [] := by unfold Spc.new; rw [begin_recs]
  rw [this]; simp⟩

/-! the laws' own fact -/
def I10a : List Ins := [⟨20, 1, 0, 0, 1⟩, ⟨21, 2, 1, 0, 0⟩, ⟨38, 2, 0, 0, 0⟩]
def I10b : List Ins := [⟨1, 3, 0, 0, 9⟩, ⟨23, 3, 0, 0, 0⟩]
def P10 : Prg := ⟨[I10a, I10b], 4, 1, 1, [0], [1], 2, 0⟩
def sl3 (b n : Nat) : Value := .slice (some ⟨b, 0, none⟩) n n
def pv10 (x y z1 z2 z3 : Nat) : PrgV := ⟨sl3 z1 2, [(sl3 x 3, I10a), (sl3 y 2, I10b)], 4, 1, 1, sl3 z2 1, [0], sl3 z3 1, [1], 2, 0⟩
def A10 (x y z1 z2 z3 : Nat) : HProp := seps [arr z1 0 [sl3 x 3, sl3 y 2], arr z2 0 [.int .i64 0], arr z3 0 [.int .i64 1], arr x 0 (rows insE I10a), arr y 0 (rows insE I10b)]
theorem pv10_rd {W : World} {x y z1 z2 z3 : Nat} : PrgRd W [A10 x y z1 z2 z3] (pv10 x y z1 z2 z3) := by
  refine ⟨Rd.grp (Rd.lit .here rfl (fun _ _ => rfl) rfl), fun q hq => ?_, Rd.grp (Rd.lit (.there .here) rfl (fun _ _ => rfl) rfl), Rd.grp (Rd.lit (.there (.there .here)) rfl (fun _ _ => rfl) rfl)⟩
  rcases List.mem_cons.1 hq with rfl | hq
  · exact Rd.grp (Rd.lit (.there (.there (.there .here))) rfl (fun _ _ => rfl) rfl)
  · rw [List.mem_singleton] at hq; subst hq
    exact Rd.grp (Rd.lit (.there (.there (.there (.there .here)))) rfl (fun _ _ => rfl) rfl)
theorem chk10 : checkI P10 = 0 := by decide +kernel
theorem ok10 : PrgOk P10 := ⟨chk10, fun f hf i hi => by
  have : (P10.funcs.all fun f => f.all fun i => decide (0 ≤ i.n) && decide (i.n ≤ 18446744073709551615)) = true := by decide +kernel
  have := List.all_eq_true.1 (List.all_eq_true.1 this f hf) i hi
  exact (by simpa using this : 0 ≤ i.n ∧ i.n ≤ 18446744073709551615)⟩
def s10a : Spc := Spc.new P10
def s10b : Spc := (s10a.run 0 0).2.2
def s10c : Spc := (s10b.run 0 0).2.2
def s10d : Spc := (s10c.run 1 0).2.2
def s10e : Spc := (s10d.run 1 0).2.2
theorem ok10a : Okr 1 s10a := Okr.new ok10
theorem ok10b : Okr 2 s10b := ok10a.run (by decide) 0 0
theorem ok10c : Okr 3 s10c := ok10b.run (by decide) 0 0
theorem ok10d : Okr 4 s10d := ok10c.run (by decide) 1 0
theorem ok10e : Okr 5 s10e := ok10d.run (by decide) 1 0
theorem f10a : (s10a.run 0 0).1 = ⟨[1], false, false, false⟩ := by decide +kernel
theorem f10b : (s10b.run 0 0).1 = ⟨[], true, false, false⟩ := by decide +kernel
theorem f10c : (s10d.run 1 0).1 = ⟨[0], false, true, false⟩ := by decide +kernel
def R10 : List Rec := [⟨65537, 20, 1, 65538, 0, true⟩, ⟨65537, 21, 65538, 0, 0, false⟩, ⟨65538, 23, 9, 0, 0, true⟩, ⟨65537, 21, 0, 9, 0, true⟩]
theorem r10 : s10e.recs = R10 := by decide +kernel
def thr10 : Thr := ⟨0, 2, [0, 65538, 9, 0, 0, 0, 0, 0], 65537, 0, 0, false, -1, 21, -1⟩
deriving instance DecidableEq for Thr
theorem t10 : s10e.at 0 = some thr10 := by decide +kernel
end Go.SLYtpcjdohmjmeehaaGreat
namespace Go.SLYtpcjdohmjmeehaaGreat
open Go Go.RowKit Go.Proofs

set_option maxRecDepth 20000 in
theorem ref_Ints {W : World} {A : HProp} {v u : Value} {xs ys : List Int} (hv : Rd W [A] intE 1 v xs) (hu : Rd W [A] intE 1 u ys) (hl : xs.length ≤ 1000000000) : Fn Tryz.prog W 23 [v, u] [A] Unit (fun _ => .bool (decide (xs = ys))) (fun _ => True) (fun _ => [A]) := by
  refine Fn.intro (N := 26) Tryz.func23 rfl Tryz.ntmps23 rfl fun F => ?_
  haveI hRI : ∀ (H : List HProp) [HasH H A], ReadsC W H v intE 1 xs := fun H h => ⟨hv.at h.has⟩
  haveI hRJ : ∀ (H : List HProp) [HasH H A], ReadsC W H u intE 1 ys := fun H h => ⟨hu.at h.has⟩
  show GoC _ _ _ _ _ _ [A, F]
  refine GoC.seq ?_
  refine GoC.region ?_
  refine GoL.y rfl (Y.assign rfl) ?_
  refine GoL.nil ?_
  refine GoE.then_normal ?_
  refine GoC.seq ?_
  refine GoC.seq ?_
  refine GoC.region ?_
  refine GoL.y rfl (Y.move rfl) ?_
  refine GoL.y rfl (Y.lenRd Tryz.underlying23 rfl Rd.s) ?_
  refine GoL.y rfl (Y.move rfl) ?_
  refine GoL.y rfl (Y.lenRd Tryz.underlying23 rfl Rd.s) ?_
  refine GoL.y rfl (Y.neq rfl rfl) ?_
  refine GoL.nil ?_
  refine GoE.then_normal ?_
  refine GoC.condD rfl (fun h10 => ?_) (fun h10 => ?_)
  · refine GoC.seq ?_
    refine GoC.region ?_
    refine GoL.y rfl (Y.assign rfl) ?_
    refine GoL.nil ?_
    refine GoE.then_normal ?_
    refine GoC.ret ?_
    refine GoE.then_ret ?_
    refine GoE.ret1 rfl rfl fun w s => ⟨(), ?_, trivial, finE .auto s⟩
    rw [decide_eq_false (fun e => h10 (by rw [e]))]
  · refine GoC.skip ?_
    refine GoE.then_normal ?_
    refine GoC.seq ?_
    refine GoC.seq ?_
    refine GoC.region ?_
    refine GoL.y rfl (Y.assign rfl) ?_
    refine GoL.nil ?_
    refine GoE.then_normal ?_
    refine GoC.block ?_
    refine GoC.loopK (X := Nat) [4, 5, 11, 12, 13, 14, 15, 16, 17, 18, 19, 20, 21, 22, 23, 24, 25] (fun k => xs.length - k) (fun k => k ≤ xs.length ∧ xs.take k = ys.take k) (fun k => [(5, some (.int .i64 (k : Int)))]) (fun k => [A, F]) 0 ?_ ?_ ?_ ?_
    · exact ⟨Nat.zero_le _, rfl⟩
    · exact ⟨rfl, trivial⟩
    · exact fun w s => Ent.kept .auto w s
    rintro k ⟨hk, hn⟩
    refine GoC.seq ?_
    refine GoC.seq ?_
    refine GoC.region ?_
    refine GoL.y rfl (Y.move rfl) ?_
    refine GoL.y rfl (Y.move rfl) ?_
    refine GoL.y rfl (Y.lenRd Tryz.underlying23 rfl Rd.s) ?_
    refine GoL.y rfl (Y.lss rfl rfl) ?_
    refine GoL.nil ?_
    refine GoE.then_normal ?_
    refine GoC.condD rfl (fun h14 => ?_) (fun h14 => ?_)
    · refine GoC.skip ?_
      refine GoE.then_normal ?_
      refine GoC.seq ?_
      refine GoC.block ?_
      refine GoC.seq ?_
      refine GoC.draw [] [1, 1, 1, 1, 1, 1, 1, 1, 1] rfl (by kernel_rfl) ?_
      obtain ⟨x, hx⟩ := at_some (show k < xs.length by omega)
      obtain ⟨y, hy⟩ := at_some (show k < ys.length by omega)
      refine GoK.s rfl (Y.move rfl) ?_
      refine GoK.s rfl (Y.move rfl) ?_
      refine GoK.s rfl (Y.ixRd _ Tryz.underlying23 Tryz.sizeOf3 rfl rfl Rd.s rfl (by first | omega | decide)) ?_
      refine GoK.s rfl (Y.load Tryz.isAgg3 rfl (Cell.rd0 Rd.s hx rfl)) ?_
      refine GoK.s rfl (Y.move rfl) ?_
      refine GoK.s rfl (Y.move rfl) ?_
      refine GoK.s rfl (Y.ixRd _ Tryz.underlying23 Tryz.sizeOf3 rfl rfl Rd.s rfl (by first | omega | decide)) ?_
      refine GoK.s rfl (Y.load Tryz.isAgg3 rfl (Cell.rd0 Rd.s hy rfl)) ?_
      refine GoK.s rfl (Y.neq rfl rfl) ?_
      refine GoK.nil ?_
      refine GoE.then_normal ?_
      refine GoC.condD rfl (fun h25 => ?_) (fun h25 => ?_)
      · refine GoC.seq ?_
        refine GoC.region ?_
        refine GoL.y rfl (Y.assign rfl) ?_
        refine GoL.nil ?_
        refine GoE.then_normal ?_
        refine GoC.ret ?_
        refine GoE.block_ret (GoE.then_ret (GoE.then_ret (GoE.block_ret (GoE.then_ret ?_))))
        refine GoE.ret1 rfl rfl fun w s => ⟨(), ?_, trivial, finE .auto s⟩
        rw [decide_eq_false (fun e => h25 (by rw [e] at hx; exact Option.some.inj (hx.symm.trans hy)))]
      · refine GoC.skip ?_
        refine GoE.block_normal (GoE.then_normal ?_)
        refine GoC.region ?_
        refine GoL.y rfl (Y.move rfl) ?_
        refine GoL.y rfl (Y.inc rfl rfl (by omega)) ?_
        refine GoL.y rfl (Y.assign rfl) ?_
        refine GoL.nil ?_
        refine GoE.againK (k + 1) .auto rfl ?_ ?_ ?_ ?_
        · first | omega | (dsimp only; omega)
        · exact ⟨by omega, by rw [take_snoc hx, take_snoc hy, hn, Decidable.of_not_not h25]⟩
        · exact ⟨rfl, trivial⟩
        · exact fun w s => Ent.kept .auto w s
    · refine GoC.exit ?_
      refine GoE.then_exit (GoE.then_exit (GoE.block_here (GoE.then_normal ?_)))
      refine GoC.seq ?_
      refine GoC.region ?_
      refine GoL.y rfl (Y.assign rfl) ?_
      refine GoL.nil ?_
      refine GoE.then_normal ?_
      refine GoC.ret ?_
      obtain rfl : k = xs.length := by omega
      rw [List.take_length, List.take_of_length_le (by omega)] at hn
      refine GoE.ret1 rfl rfl fun w s => ⟨(), ?_, trivial, finE .auto s⟩
      rw [decide_eq_true hn]

set_option maxRecDepth 20000 in
theorem law10_two {W : World} {x y : Nat} : Fn Tryz.prog W 58 [sl3 x 3, sl3 y 2] [] (Nat × Nat × Nat) (fun z => .agg (prgE (pv10 x y z.1 z.2.1 z.2.2)).toArray) (fun _ => True) (fun z => [arr z.1 0 [sl3 x 3, sl3 y 2], arr z.2.1 0 [.int .i64 0], arr z.2.2 0 [.int .i64 1]]) := by
  refine Fn.intro (N := 11) Tryz.func58 rfl Tryz.ntmps58 rfl fun F => ?_
  show GoC _ _ _ _ _ _ [F]
  refine GoC.seq ?_
  refine GoC.region ?_
  refine GoL.does rfl (Does.alloc rfl Tryz.zeroValue25 rfl) ?_
  rintro _ _ ⟨b4, rfl, rfl⟩
  refine GoL.nil ?_
  refine GoE.then_normal ?_
  refine GoC.seq ?_
  refine GoC.region ?_
  refine GoL.y rfl (Y.move rfl) ?_
  refine GoL.y rfl (Y.move rfl) ?_
  refine GoL.does rfl (Does.bsl 120 rfl rfl (by kernel_rfl)) ?_
  rintro _ _ ⟨b7, rfl, rfl⟩
  refine GoL.does rfl (Does.bsl 3 rfl rfl (by kernel_rfl)) ?_
  rintro _ _ ⟨b8, rfl, rfl⟩
  refine GoL.does rfl (Does.bsl 3 rfl rfl (by kernel_rfl)) ?_
  rintro _ _ ⟨b9, rfl, rfl⟩
  refine GoL.y rfl (Y.bld7 (fun _ _ _ _ _ _ _ => prgE (pv10 x y b7 b8 b9)) rfl rfl rfl rfl rfl rfl rfl (by kernel_rfl)) ?_
  refine GoL.does rfl (Does.sta (by exact Tryz.sizeOf25) rfl rfl rfl (by rfl)) ?_
  rintro _ _ ⟨rfl, rfl⟩
  refine GoL.nil ?_
  refine GoE.then_normal ?_
  refine GoC.ret ?_
  refine GoE.retC rfl rfl Tryz.isAgg25 (by exact Tryz.sizeOf25) Cells.a fun w s => ⟨(b7, b8, b9), ?_, trivial, finE .auto s⟩
  rfl

set_option maxRecDepth 20000 in
theorem law10_awake {W : World}  : Fn Tryz.prog W 16 [] [] Unit (fun _ => .bool true) (fun _ => True) (fun _ => []) := by
  refine Fn.intro (N := 104) Tryz.func16 rfl Tryz.ntmps16 rfl fun F => ?_
  show GoC _ _ _ _ _ _ [F]
  refine GoC.seq ?_
  refine GoC.region ?_
  refine GoL.y rfl (Y.assign rfl) ?_
  refine GoL.nil ?_
  refine GoE.then_normal ?_
  refine GoC.seq ?_
  refine GoC.region ?_
  refine GoL.y rfl (Y.bld3 (fun v1 v2 v3 => [v1, v2, (.int .i64 0), (.int .i64 0), v3]) rfl rfl rfl (by kernel_rfl)) ?_
  refine GoL.y rfl (Y.bld3 (fun v1 v2 v3 => [v1, v2, v3, (.int .i64 0), (.int .u64 0)]) rfl rfl rfl (by kernel_rfl)) ?_
  refine GoL.y rfl (Y.bld2 (fun v1 v2 => [v1, v2, (.int .i64 0), (.int .i64 0), (.int .u64 0)]) rfl rfl (by kernel_rfl)) ?_
  refine GoL.does rfl (Does.bsl 123 rfl rfl (by kernel_rfl)) ?_
  rintro _ _ ⟨b16, rfl, rfl⟩
  refine GoL.y rfl (Y.bld3 (fun v1 v2 v3 => [v1, v2, (.int .i64 0), (.int .i64 0), v3]) rfl rfl rfl (by kernel_rfl)) ?_
  refine GoL.y rfl (Y.bld2 (fun v1 v2 => [v1, v2, (.int .i64 0), (.int .i64 0), (.int .u64 0)]) rfl rfl (by kernel_rfl)) ?_
  refine GoL.does rfl (Does.bsl 123 rfl rfl (by kernel_rfl)) ?_
  rintro _ _ ⟨b19, rfl, rfl⟩
  refine GoL.does rfl (Does.callE rfl Tryz.call58 rfl (law10_two (x := b16) (y := b19)) .auto) ?_
  rintro _ _ ⟨⟨z1, z2, z3⟩, -, rfl, rfl⟩
  refine GoL.does rfl (Does.callE rfl Tryz.call15 rfl (core_New (A := A10 b16 b19 z1 z2 z3) (v := pv10 b16 b19 z1 z2 z3) pv10_rd ⟨by show 2 ≤ _; decide, by show 1 ≤ _; decide, by show 1 ≤ _; decide⟩) .auto) ?_
  rintro _ _ ⟨o, ho, rfl, rfl⟩
  rw [show (pv10 b16 b19 z1 z2 z3).p = P10 from rfl, chk10] at ho ⊢
  obtain ⟨kb, rfl⟩ := Option.isSome_iff_exists.1 ho
  refine GoL.fr (A := optH (fun b => spcH b (Spc.new P10)) (some kb)) (Bs := [spcH kb s10a]) .auto opt_some ?_
  refine GoL.y rfl (Y.move rfl) ?_
  refine GoL.y rfl (Y.extract rfl rfl) ?_
  refine GoL.y rfl (Y.extract rfl rfl) ?_
  refine GoL.y rfl (Y.assign rfl) ?_
  refine GoL.y rfl (Y.assign rfl) ?_
  refine GoL.nil ?_
  refine GoE.then_normal ?_
  refine GoC.seq ?_
  refine GoC.seq ?_
  refine GoC.region ?_
  refine GoL.y rfl (Y.move rfl) ?_
  refine GoL.y rfl (Y.neq rfl rfl) ?_
  refine GoL.y rfl (Y.move rfl) ?_
  refine GoL.yg rfl rfl rfl (Y.move rfl) ?_
  refine GoL.yg rfl rfl rfl (Y.eqPtrNil Tryz.underlying27 rfl rfl) ?_
  refine GoL.y rfl (Y.pickF rfl rfl) ?_
  refine GoL.nil ?_
  refine GoE.then_normal ?_
  refine GoC.cond rfl (fun h29 => ?_) (fun h29 => ?_)
  · cases h29
  · refine GoC.skip ?_
    refine GoE.then_normal ?_
    refine GoC.seq ?_
    refine GoC.region ?_
    refine GoL.y rfl (Y.move rfl) ?_
    refine GoL.does rfl (Does.callE rfl Tryz.call17 rfl (core_Run (s := s10a) (ok10a.spc (by decide))) .auto) ?_
    rintro _ _ ⟨u32, -, rfl, rfl⟩
    rw [f10a, show (s10a.run 0 0).2.2 = s10b from rfl]
    refine GoL.y rfl (Y.move rfl) ?_
    refine GoL.y rfl (Y.extract rfl rfl) ?_
    refine GoL.y rfl (Y.extract rfl rfl) ?_
    refine GoL.does rfl (Does.alloc rfl Tryz.zeroValue36 rfl) ?_
    rintro _ _ ⟨b3, rfl, rfl⟩
    refine GoL.does rfl (Does.staS (vs := [.bool false, .bool false, .bool false]) (by exact Tryz.sizeOf36) rfl rfl rfl rfl) ?_
    rintro _ _ ⟨rfl, rfl⟩
    refine GoL.y rfl (Y.assign rfl) ?_
    refine GoL.nil ?_
    refine GoE.then_normal ?_
    refine GoC.seq ?_
    refine GoC.region ?_
    refine GoL.y rfl (Y.move rfl) ?_
    refine GoL.does rfl (Does.callE rfl Tryz.call17 rfl (core_Run (s := s10b) (ok10b.spc (by decide))) .auto) ?_
    rintro _ _ ⟨u37, -, rfl, rfl⟩
    rw [f10b, show (s10b.run 0 0).2.2 = s10c from rfl]
    refine GoL.y rfl (Y.move rfl) ?_
    refine GoL.y rfl (Y.extract rfl rfl) ?_
    refine GoL.y rfl (Y.extract rfl rfl) ?_
    refine GoL.does rfl (Does.alloc rfl Tryz.zeroValue36 rfl) ?_
    rintro _ _ ⟨b5, rfl, rfl⟩
    refine GoL.does rfl (Does.staS (vs := [.bool true, .bool false, .bool false]) (by exact Tryz.sizeOf36) rfl rfl rfl rfl) ?_
    rintro _ _ ⟨rfl, rfl⟩
    refine GoL.y rfl (Y.assign rfl) ?_
    refine GoL.nil ?_
    refine GoE.then_normal ?_
    refine GoC.seq ?_
    refine GoC.region ?_
    refine GoL.y rfl (Y.move rfl) ?_
    refine GoL.does rfl (Does.callE rfl Tryz.call17 rfl (core_Run (s := s10c) (ok10c.spc (by decide))) .auto) ?_
    rintro _ _ ⟨u41, -, rfl, rfl⟩
    rw [show (s10c.run 1 0).2.2 = s10d from rfl]
    refine GoL.nil ?_
    refine GoE.then_normal ?_
    refine GoC.seq ?_
    refine GoC.region ?_
    refine GoL.y rfl (Y.move rfl) ?_
    refine GoL.does rfl (Does.callE rfl Tryz.call17 rfl (core_Run (s := s10d) (ok10d.spc (by decide))) .auto) ?_
    rintro _ _ ⟨u44, -, rfl, rfl⟩
    rw [f10c, show (s10d.run 1 0).2.2 = s10e from rfl]
    refine GoL.y rfl (Y.move rfl) ?_
    refine GoL.y rfl (Y.extract rfl rfl) ?_
    refine GoL.y rfl (Y.extract rfl rfl) ?_
    refine GoL.does rfl (Does.alloc rfl Tryz.zeroValue36 rfl) ?_
    rintro _ _ ⟨b7, rfl, rfl⟩
    refine GoL.does rfl (Does.staS (vs := [.bool false, .bool true, .bool false]) (by exact Tryz.sizeOf36) rfl rfl rfl rfl) ?_
    rintro _ _ ⟨rfl, rfl⟩
    refine GoL.y rfl (Y.assign rfl) ?_
    refine GoL.nil ?_
    refine GoE.then_normal ?_
    refine GoC.seq ?_
    refine GoC.region ?_
    refine GoL.y rfl (Y.move rfl) ?_
    refine GoL.does rfl (Does.callE rfl Tryz.call30 rfl (core_Look (s := s10e) (ok10e.spc (by decide))) .auto) ?_
    rintro _ _ ⟨⟨⟩, -, rfl, rfl⟩
    rw [t10]
    refine GoL.y rfl (Y.move rfl) ?_
    refine GoL.y rfl (Y.extract rfl rfl) ?_
    refine GoL.y rfl (Y.extract rfl rfl) ?_
    refine GoL.does rfl (Does.alloc rfl Tryz.zeroValue59 rfl) ?_
    rintro _ _ ⟨b9, rfl, rfl⟩
    refine GoL.does rfl (Does.sta (by exact Tryz.sizeOf59) rfl rfl rfl (by rfl)) ?_
    rintro _ _ ⟨rfl, rfl⟩
    refine GoL.y rfl (Y.assign rfl) ?_
    refine GoL.nil ?_
    refine GoE.then_normal ?_
    refine GoC.seq ?_
    refine GoC.region ?_
    refine GoL.y rfl (Y.move rfl) ?_
    refine GoL.does rfl (Does.callE rfl Tryz.call20 rfl (core_Records (s := s10e) (by rw [r10]; decide)) .auto) ?_
    rintro _ _ ⟨u53, -, rfl, rfl⟩
    rw [r10]
    refine GoL.y rfl (Y.assign rfl) ?_
    refine GoL.nil ?_
    refine GoE.then_normal ?_
    refine GoC.seq ?_
    refine GoC.region ?_
    refine GoL.y rfl (Y.fieldAddrZ 23 Tryz.underlying36 rfl Tryz.sizeOf23 rfl) ?_
    refine GoL.y rfl (Y.load Tryz.isAgg23 rfl (Cell.a (by rfl))) ?_
    refine GoL.does rfl (Does.bsl 3 rfl rfl (by kernel_rfl)) ?_
    rintro _ _ ⟨b56, rfl, rfl⟩
    refine GoL.does rfl (Does.callE rfl Tryz.call23 rfl (ref_Ints (A := seps [sl intE 1 u32 [1], arr b56 0 [.int .i64 1]]) (xs := [1]) (ys := [1]) (Rd.grp (Rd.sl .here)) (Rd.grp (Rd.lit (.there .here) rfl (fun _ _ => rfl) rfl)) (by decide)) .auto) ?_
    rintro _ _ ⟨⟨⟩, -, rfl, rfl⟩
    refine GoL.y rfl (Y.move rfl) ?_
    refine GoL.yg rfl rfl rfl (Y.fieldAddr0 1 4 Tryz.underlying36 rfl Tryz.sizeOf4 rfl) ?_
    refine GoL.yg rfl rfl rfl (Y.load Tryz.isAgg4 rfl (Cell.a (by rfl))) ?_
    refine GoL.y rfl (Y.pickT rfl rfl) ?_
    refine GoL.y rfl (Y.move rfl) ?_
    refine GoL.yg rfl rfl rfl (Y.fieldAddr0 2 4 Tryz.underlying36 rfl Tryz.sizeOf4 rfl) ?_
    refine GoL.yg rfl rfl rfl (Y.load Tryz.isAgg4 rfl (Cell.a (by rfl))) ?_
    refine GoL.y rfl (Y.pickT rfl rfl) ?_
    refine GoL.y rfl (Y.move rfl) ?_
    refine GoL.yg rfl rfl rfl (Y.fieldAddrZ 23 Tryz.underlying36 rfl Tryz.sizeOf23 rfl) ?_
    refine GoL.yg rfl rfl rfl (Y.load Tryz.isAgg23 rfl (Cell.a (by rfl))) ?_
    refine GoL.dg rfl rfl rfl (Does.bsl 3 rfl rfl (by kernel_rfl)) ?_
    rintro _ _ ⟨b69, rfl, rfl⟩
    refine GoL.dg rfl rfl rfl (Does.callE rfl Tryz.call23 rfl (ref_Ints (A := seps [sl intE 1 u44 [0], arr b69 0 [.int .i64 0]]) (xs := [0]) (ys := [0]) (Rd.grp (Rd.sl .here)) (Rd.grp (Rd.lit (.there .here) rfl (fun _ _ => rfl) rfl)) (by decide)) .auto) ?_
    rintro _ _ ⟨⟨⟩, -, rfl, rfl⟩
    refine GoL.y rfl (Y.pickT rfl rfl) ?_
    refine GoL.y rfl (Y.move rfl) ?_
    refine GoL.yg rfl rfl rfl (Y.move rfl) ?_
    refine GoL.y rfl (Y.pickT rfl rfl) ?_
    refine GoL.y rfl (Y.move rfl) ?_
    refine GoL.yg rfl rfl rfl (Y.fieldAddr0 4 57 Tryz.underlying59 rfl Tryz.sizeOf57 rfl) ?_
    refine GoL.yg rfl rfl rfl (Y.ixArr _ Tryz.underlying57 Tryz.sizeOf43 rfl rfl rfl (by first | omega | decide)) ?_
    refine GoL.yg rfl rfl rfl (Y.load Tryz.isAgg43 rfl (Cell.a (by rfl))) ?_
    refine GoL.yg rfl rfl rfl (Y.eql rfl rfl) ?_
    refine GoL.y rfl (Y.pickT rfl rfl) ?_
    refine GoL.y rfl (Y.move rfl) ?_
    refine GoL.yg rfl rfl rfl (Y.fieldAddr0 1 3 Tryz.underlying59 rfl Tryz.sizeOf3 rfl) ?_
    refine GoL.yg rfl rfl rfl (Y.load Tryz.isAgg3 rfl (Cell.a (by rfl))) ?_
    refine GoL.yg rfl rfl rfl (Y.eql rfl rfl) ?_
    refine GoL.y rfl (Y.pickT rfl rfl) ?_
    refine GoL.y rfl (Y.move rfl) ?_
    refine GoL.yg rfl rfl rfl (Y.move rfl) ?_
    refine GoL.yg rfl rfl rfl (Y.lenRd Tryz.underlying32 rfl Rd.s) ?_
    refine GoL.yg rfl rfl rfl (Y.eql rfl rfl) ?_
    refine GoL.y rfl (Y.pickT rfl rfl) ?_
    refine GoL.y rfl (Y.move rfl) ?_
    refine GoL.yg rfl rfl rfl (Y.move rfl) ?_
    refine GoL.yg rfl rfl rfl (Y.ixRd _ Tryz.underlying32 Tryz.sizeOf45 rfl rfl Rd.s rfl (by first | omega | decide)) ?_
    refine GoL.yg rfl rfl rfl (Y.fieldAddr 3 43 Tryz.underlying45 rfl Tryz.sizeOf43 rfl) ?_
    refine GoL.yg rfl rfl rfl (Y.load Tryz.isAgg43 rfl (Cell.rd Rd.s (show R10[3]? = some ⟨65537, 21, 0, 9, 0, true⟩ from rfl) (by rfl))) ?_
    refine GoL.yg rfl rfl rfl (Y.eql rfl rfl) ?_
    refine GoL.y rfl (Y.pickT rfl rfl) ?_
    refine GoL.y rfl (Y.move rfl) ?_
    refine GoL.yg rfl rfl rfl (Y.move rfl) ?_
    refine GoL.yg rfl rfl rfl (Y.ixRd _ Tryz.underlying32 Tryz.sizeOf45 rfl rfl Rd.s rfl (by first | omega | decide)) ?_
    refine GoL.yg rfl rfl rfl (Y.fieldAddr 5 4 Tryz.underlying45 rfl Tryz.sizeOf4 rfl) ?_
    refine GoL.yg rfl rfl rfl (Y.load Tryz.isAgg4 rfl (Cell.rd Rd.s (show R10[3]? = some ⟨65537, 21, 0, 9, 0, true⟩ from rfl) (by rfl))) ?_
    refine GoL.y rfl (Y.pickT rfl rfl) ?_
    refine GoL.y rfl (Y.assign rfl) ?_
    refine GoL.nil ?_
    refine GoE.then_normal ?_
    refine GoC.ret ?_
    refine GoE.ret1 rfl rfl fun w s => ⟨(), ?_, trivial, finE .auto s⟩
    rfl

set_option maxRecDepth 20000 in
theorem law10_same {W : World} {A : HProp} {u v : Value} {e f : Eff} (hu : Rd W [A] intE 1 u e.woken) (hv : Rd W [A] intE 1 v f.woken) (hl : e.woken.length ≤ 1000000000) : Fn Tryz.prog W 35 [.agg (effE u e).toArray, .agg (effE v f).toArray] [A] Unit (fun _ => .bool (decide (e = f))) (fun _ => True) (fun _ => [A]) := by
  refine Fn.intro (N := 31) Tryz.func35 rfl Tryz.ntmps35 rfl fun F => ?_
  show GoC _ _ _ _ _ _ [A, F]
  refine GoC.seq ?_
  refine GoC.region ?_
  refine GoL.does rfl (Does.box rfl rfl rfl) ?_
  rintro _ _ ⟨b2, rfl, rfl⟩
  refine GoL.mem (H' := [arr b2 0 (effE u e), A, F]) (fun w s => s) ?_
  refine GoL.does rfl (Does.box rfl rfl rfl) ?_
  rintro _ _ ⟨b3, rfl, rfl⟩
  refine GoL.mem (H' := [arr b3 0 (effE v f), arr b2 0 (effE u e), A, F]) (fun w s => s) ?_
  refine GoL.y rfl (Y.assign rfl) ?_
  refine GoL.nil ?_
  refine GoE.then_normal ?_
  refine GoC.seq ?_
  refine GoC.region ?_
  refine GoL.y rfl (Y.fieldAddrZ 23 Tryz.underlying36 rfl Tryz.sizeOf23 rfl) ?_
  refine GoL.y rfl (Y.load Tryz.isAgg23 rfl (Cell.a (by rfl))) ?_
  refine GoL.y rfl (Y.fieldAddrZ 23 Tryz.underlying77 rfl Tryz.sizeOf23 rfl) ?_
  refine GoL.y rfl (Y.load Tryz.isAgg23 rfl (Cell.a (by rfl))) ?_
  refine GoL.does rfl (Does.callE rfl Tryz.call23 rfl (ref_Ints hu hv hl) .auto) ?_
  rintro _ _ ⟨⟨⟩, -, rfl, rfl⟩
  refine GoL.y rfl (Y.move rfl) ?_
  apply GoL.segAD 6 16 10 [10, 11, 12, 13, 14, 15, 16] rfl
  · intro h10
    refine GoL.yg rfl rfl rfl (Y.fieldAddr0 1 4 Tryz.underlying36 rfl Tryz.sizeOf4 rfl) ?_
    refine GoL.yg rfl rfl rfl (Y.load Tryz.isAgg4 rfl (Cell.a (by rfl))) ?_
    refine GoL.yg rfl rfl rfl (Y.fieldAddr0 1 4 Tryz.underlying77 rfl Tryz.sizeOf4 rfl) ?_
    refine GoL.yg rfl rfl rfl (Y.load Tryz.isAgg4 rfl (Cell.a (by rfl))) ?_
    refine GoL.yg rfl rfl rfl (Y.eqBool Tryz.underlying4 rfl rfl) ?_
    refine GoL.y rfl (Y.pickT rfl rfl) ?_
    refine GoL.nil ?_
    refine GoE.seg .auto rfl (by first | exact fun _ h => h | exact Ent.kept .auto)
  · intro h10
    refine GoL.skip rfl rfl rfl rfl ?_
    refine GoL.skip rfl rfl rfl rfl ?_
    refine GoL.skip rfl rfl rfl rfl ?_
    refine GoL.skip rfl rfl rfl rfl ?_
    refine GoL.skip rfl rfl rfl rfl ?_
    refine GoL.y rfl (Y.pickF rfl rfl) ?_
    refine GoL.nil ?_
    refine GoE.seg .auto rfl (by first | exact fun _ h => h | exact Ent.kept .auto)
  refine GoL.y rfl (Y.move rfl) ?_
  apply GoL.segA 6 23 17 [17, 18, 19, 20, 21, 22, 23] rfl
  · intro h17
    refine GoL.yg rfl rfl rfl (Y.fieldAddr0 2 4 Tryz.underlying36 rfl Tryz.sizeOf4 rfl) ?_
    refine GoL.yg rfl rfl rfl (Y.load Tryz.isAgg4 rfl (Cell.a (by rfl))) ?_
    refine GoL.yg rfl rfl rfl (Y.fieldAddr0 2 4 Tryz.underlying77 rfl Tryz.sizeOf4 rfl) ?_
    refine GoL.yg rfl rfl rfl (Y.load Tryz.isAgg4 rfl (Cell.a (by rfl))) ?_
    refine GoL.yg rfl rfl rfl (Y.eqBool Tryz.underlying4 rfl rfl) ?_
    refine GoL.y rfl (Y.pickT rfl rfl) ?_
    refine GoL.nil ?_
    refine GoE.seg .auto rfl (by first | exact fun _ h => h | exact Ent.kept .auto)
  · intro h17
    refine GoL.skip rfl rfl rfl rfl ?_
    refine GoL.skip rfl rfl rfl rfl ?_
    refine GoL.skip rfl rfl rfl rfl ?_
    refine GoL.skip rfl rfl rfl rfl ?_
    refine GoL.skip rfl rfl rfl rfl ?_
    refine GoL.y rfl (Y.pickF rfl rfl) ?_
    refine GoL.nil ?_
    refine GoE.seg .auto rfl (by first | exact fun _ h => h | exact Ent.kept .auto)
  refine GoL.y rfl (Y.move rfl) ?_
  apply GoL.segA 6 30 24 [24, 25, 26, 27, 28, 29, 30] rfl
  · intro h24
    refine GoL.yg rfl rfl rfl (Y.fieldAddr0 3 4 Tryz.underlying36 rfl Tryz.sizeOf4 rfl) ?_
    refine GoL.yg rfl rfl rfl (Y.load Tryz.isAgg4 rfl (Cell.a (by rfl))) ?_
    refine GoL.yg rfl rfl rfl (Y.fieldAddr0 3 4 Tryz.underlying77 rfl Tryz.sizeOf4 rfl) ?_
    refine GoL.yg rfl rfl rfl (Y.load Tryz.isAgg4 rfl (Cell.a (by rfl))) ?_
    refine GoL.yg rfl rfl rfl (Y.eqBool Tryz.underlying4 rfl rfl) ?_
    refine GoL.y rfl (Y.pickT rfl rfl) ?_
    refine GoL.nil ?_
    refine GoE.seg .auto rfl (by first | exact fun _ h => h | exact Ent.kept .auto)
  · intro h24
    refine GoL.skip rfl rfl rfl rfl ?_
    refine GoL.skip rfl rfl rfl rfl ?_
    refine GoL.skip rfl rfl rfl rfl ?_
    refine GoL.skip rfl rfl rfl rfl ?_
    refine GoL.skip rfl rfl rfl rfl ?_
    refine GoL.y rfl (Y.pickF rfl rfl) ?_
    refine GoL.nil ?_
    refine GoE.seg .auto rfl (by first | exact fun _ h => h | exact Ent.kept .auto)
  refine GoL.y rfl (Y.assign rfl) ?_
  refine GoL.nil ?_
  refine GoE.then_normal ?_
  refine GoC.ret ?_
  refine GoE.ret1 rfl rfl fun w s => ⟨(), ?_, trivial, finE .auto s⟩
  refine retB ?_
  obtain ⟨a1, a2, a3, a4⟩ := e
  obtain ⟨c1, c2, c3, c4⟩ := f
  simp only [Eff.mk.injEq]
  by_cases h : a1 = c1
  · subst h; cases a2 <;> cases a3 <;> cases a4 <;> cases c2 <;> cases c3 <;> cases c4 <;> simp
  · simp [h]

end Go.SLYtpcjdohmjmeehaaGreat
namespace Go.SLYtpcjdohmjmeehaaGreat
open Go Go.RowKit Go.Proofs

set_option maxRecDepth 20000 in
theorem law10_None {W : World} {n k : Int} : Fn Tryz.prog W 7 [.int .i64 n, .int .i64 k] [] Unit (fun _ => .bool true) (fun _ => True) (fun _ => []) := by
  refine Fn.intro (N := 72) Tryz.func7 rfl Tryz.ntmps7 rfl fun F => ?_
  show GoC _ _ _ _ _ _ [F]
  refine GoC.seq ?_
  refine GoC.region ?_
  refine GoL.y rfl (Y.assign rfl) ?_
  refine GoL.nil ?_
  refine GoE.then_normal ?_
  refine GoC.seq ?_
  refine GoC.region ?_
  refine GoL.y rfl (Y.assign rfl) ?_
  refine GoL.nil ?_
  refine GoE.then_normal ?_
  refine GoC.seq ?_
  refine GoC.region ?_
  refine GoL.y rfl (Y.move rfl) ?_
  refine GoL.y rfl (Y.move rfl) ?_
  refine GoL.y rfl (Y.move rfl) ?_
  refine GoL.does rfl (Does.callE rfl Tryz.call17 rfl core_RunN .auto) ?_
  rintro _ _ ⟨⟨⟩, -, rfl, rfl⟩
  refine GoL.y rfl (Y.move rfl) ?_
  refine GoL.y rfl (Y.extract rfl rfl) ?_
  refine GoL.y rfl (Y.extract rfl rfl) ?_
  refine GoL.does rfl (Does.alloc rfl Tryz.zeroValue36 rfl) ?_
  rintro _ _ ⟨b6, rfl, rfl⟩
  refine GoL.does rfl (Does.sta (by exact Tryz.sizeOf36) rfl rfl rfl (by rfl)) ?_
  rintro _ _ ⟨rfl, rfl⟩
  refine GoL.y rfl (Y.assign rfl) ?_
  refine GoL.nil ?_
  refine GoE.then_normal ?_
  refine GoC.seq ?_
  refine GoC.region ?_
  refine GoL.y rfl (Y.move rfl) ?_
  refine GoL.y rfl (Y.move rfl) ?_
  refine GoL.does rfl (Does.callE rfl Tryz.call18 rfl core_DoneN .auto) ?_
  rintro _ _ ⟨⟨⟩, -, rfl, rfl⟩
  refine GoL.y rfl (Y.move rfl) ?_
  refine GoL.y rfl (Y.extract rfl rfl) ?_
  refine GoL.y rfl (Y.extract rfl rfl) ?_
  refine GoL.does rfl (Does.alloc rfl Tryz.zeroValue36 rfl) ?_
  rintro _ _ ⟨b8, rfl, rfl⟩
  refine GoL.does rfl (Does.sta (by exact Tryz.sizeOf36) rfl rfl rfl (by rfl)) ?_
  rintro _ _ ⟨rfl, rfl⟩
  refine GoL.y rfl (Y.assign rfl) ?_
  refine GoL.nil ?_
  refine GoE.then_normal ?_
  refine GoC.seq ?_
  refine GoC.region ?_
  refine GoL.y rfl (Y.move rfl) ?_
  refine GoL.does rfl (Does.callE rfl Tryz.call19 rfl core_TickN .auto) ?_
  rintro _ _ ⟨⟨⟩, -, rfl, rfl⟩
  refine GoL.does rfl (Does.alloc rfl Tryz.zeroValue36 rfl) ?_
  rintro _ _ ⟨b10, rfl, rfl⟩
  refine GoL.does rfl (Does.sta (by exact Tryz.sizeOf36) rfl rfl rfl (by rfl)) ?_
  rintro _ _ ⟨rfl, rfl⟩
  refine GoL.nil ?_
  refine GoE.then_normal ?_
  refine GoC.seq ?_
  refine GoC.region ?_
  refine GoL.y rfl (Y.move rfl) ?_
  refine GoL.y rfl (Y.move rfl) ?_
  refine GoL.does rfl (Does.callE rfl Tryz.call30 rfl core_LookN .auto) ?_
  rintro _ _ ⟨⟨⟩, -, rfl, rfl⟩
  refine GoL.y rfl (Y.move rfl) ?_
  refine GoL.y rfl (Y.extract rfl rfl) ?_
  refine GoL.y rfl (Y.extract rfl rfl) ?_
  refine GoL.does rfl (Does.alloc rfl Tryz.zeroValue59 rfl) ?_
  rintro _ _ ⟨b11, rfl, rfl⟩
  refine GoL.does rfl (Does.sta (by exact Tryz.sizeOf59) rfl rfl rfl (by rfl)) ?_
  rintro _ _ ⟨rfl, rfl⟩
  refine GoL.y rfl (Y.assign rfl) ?_
  refine GoL.nil ?_
  refine GoE.then_normal ?_
  refine GoC.seq ?_
  refine GoC.region ?_
  refine GoL.does rfl (Does.callE rfl Tryz.call16 rfl law10_awake .auto) ?_
  rintro _ _ ⟨⟨⟩, -, rfl, rfl⟩
  refine GoL.y rfl (Y.move rfl) ?_
  refine GoL.yg rfl rfl rfl (Y.move rfl) ?_
  refine GoL.yg rfl rfl rfl (Y.eql rfl rfl) ?_
  refine GoL.y rfl (Y.pickT rfl rfl) ?_
  refine GoL.y rfl (Y.move rfl) ?_
  refine GoL.yg rfl rfl rfl (Y.move rfl) ?_
  refine GoL.yg rfl rfl rfl (Y.eql rfl rfl) ?_
  refine GoL.y rfl (Y.pickT rfl rfl) ?_
  refine GoL.y rfl (Y.move rfl) ?_
  refine GoL.yg rfl rfl rfl (Y.lda Tryz.isAgg36 rfl Cells.a (by exact Tryz.sizeOf36)) ?_
  refine GoL.yg rfl rfl rfl (Y.bld0 ([(.slice none 0 0), (.bool false), (.bool false), (.bool false)]) (by kernel_rfl)) ?_
  refine GoL.dg rfl rfl rfl (Does.callE rfl Tryz.call35 rfl (law10_same (A := emp) (e := Eff.z) (f := Eff.z) Rd.nil Rd.nil (by decide)) .auto) ?_
  rintro _ _ ⟨⟨⟩, -, rfl, rfl⟩
  refine GoL.y rfl (Y.pickT rfl rfl) ?_
  refine GoL.y rfl (Y.move rfl) ?_
  refine GoL.yg rfl rfl rfl (Y.move rfl) ?_
  refine GoL.yg rfl rfl rfl (Y.not rfl) ?_
  refine GoL.y rfl (Y.pickT rfl rfl) ?_
  refine GoL.y rfl (Y.move rfl) ?_
  refine GoL.yg rfl rfl rfl (Y.move rfl) ?_
  refine GoL.yg rfl rfl rfl (Y.move rfl) ?_
  refine GoL.dg rfl rfl rfl (Does.callE rfl Tryz.call32 rfl core_ClassN .auto) ?_
  rintro _ _ ⟨⟨⟩, -, rfl, rfl⟩
  refine GoL.yg rfl rfl rfl (Y.eql rfl rfl) ?_
  refine GoL.y rfl (Y.pickT rfl rfl) ?_
  refine GoL.y rfl (Y.move rfl) ?_
  refine GoL.yg rfl rfl rfl (Y.move rfl) ?_
  refine GoL.dg rfl rfl rfl (Does.callE rfl Tryz.call22 rfl core_ReadyN .auto) ?_
  rintro _ _ ⟨⟨⟩, -, rfl, rfl⟩
  refine GoL.yg rfl rfl rfl (Y.lenSlice Tryz.underlying23 rfl) ?_
  refine GoL.yg rfl rfl rfl (Y.move rfl) ?_
  refine GoL.dg rfl rfl rfl (Does.callE rfl Tryz.call20 rfl core_RecordsN .auto) ?_
  rintro _ _ ⟨⟨⟩, -, rfl, rfl⟩
  refine GoL.yg rfl rfl rfl (Y.lenSlice Tryz.underlying32 rfl) ?_
  refine GoL.yg rfl rfl rfl (Y.add rfl rfl (by omega)) ?_
  refine GoL.yg rfl rfl rfl (Y.move rfl) ?_
  refine GoL.dg rfl rfl rfl (Does.callE rfl Tryz.call26 rfl core_MemoryN .auto) ?_
  rintro _ _ ⟨⟨⟩, -, rfl, rfl⟩
  refine GoL.yg rfl rfl rfl (Y.lenSlice Tryz.underlying51 rfl) ?_
  refine GoL.yg rfl rfl rfl (Y.add rfl rfl (by omega)) ?_
  refine GoL.yg rfl rfl rfl (Y.eql rfl rfl) ?_
  refine GoL.y rfl (Y.pickT rfl rfl) ?_
  refine GoL.y rfl (Y.assign rfl) ?_
  refine GoL.nil ?_
  refine GoE.then_normal ?_
  refine GoC.ret ?_
  refine GoE.ret1 rfl rfl fun w s => ⟨(), ?_, trivial, finE .auto s⟩
  rfl

end Go.SLYtpcjdohmjmeehaaGreat
