/- Walks of functions, and what they compute. Conditions: none, this text proves no statement. -/
import Derived.Test.YtnoophiflnlflaaM2
namespace Go.Proofs.YtnoophiflnlflaaX
open Go Go.RowKit Go.Shelf Go.SLYtnoophiflnlflaa
attribute [local go_sem] Oper.semAt_some

/-- how often another one -/
def turnSt (xs : List Int) : Nat × Option Int := xs.foldl (fun s n => ((if s.2 = none ∨ s.2 = some n then s.1 else s.1 + 1), some n)) (0, none)
theorem turnSt_snoc (xs : List Int) (n : Int) : turnSt (xs ++ [n]) = ((if (turnSt xs).2 = none ∨ (turnSt xs).2 = some n then (turnSt xs).1 else (turnSt xs).1 + 1), some n) := by
  unfold turnSt; rw [List.foldl_append]; rfl
theorem turnSt_le_rev (xs : List Int) : (turnSt xs.reverse).1 ≤ xs.length := by
  induction xs with
  | nil => simp [turnSt]
  | cons n xs ih => rw [List.reverse_cons, turnSt_snoc]; simp only [List.length_cons]; split <;> omega
theorem turnSt_le (xs : List Int) : (turnSt xs).1 ≤ xs.length := by
  have := turnSt_le_rev xs.reverse
  simpa using this

def One (b : Nat) (W : World) (v : Value) : Prop := W.cell? ⟨b, 0, none⟩ = some v ∧ W.frozen? ⟨b, 0, none⟩ = false
theorem One.set {b : Nat} {W : World} {v : Value} (h : One b W v) (u : Value) : One b (W.setCell ⟨b, 0, none⟩ u) u :=
  ⟨World.cell?_setCell_same' _ _ _ (by rw [h.1]; rfl), (World.frozen?_setCell ..).trans h.2⟩
theorem One.other {b b' : Nat} {W : World} {v : Value} (h : One b W v) (hb : b' ≠ b) (u : Value) : One b (W.setCell ⟨b', 0, none⟩ u) v :=
  ⟨(World.cell?_setCell_other _ _ _ _ (fun e' => hb (congrArg Addr.block e'))).trans h.1, (World.frozen?_setCell ..).trans h.2⟩

theorem Kp.set {n₀ Bp b i : Nat} (hb : n₀ ≤ b) (hne : b ≠ Bp) (W : World) (v : Value) : Kp n₀ Bp W (W.setCell ⟨b, i, none⟩ v) :=
  ⟨(Below.refl n₀ W).setCell (p := ⟨b, i, none⟩) hb _, World.cell?_setCell_other _ _ _ _ (fun e' => hne (congrArg Addr.block e'))⟩

set_option maxRecDepth 100000 in
set_option maxHeartbeats 4000000 in
theorem Turns_in (F : Fence) (n : Nat) (h11 : F.fn 11) (h14 : F.fn 14) (h16 : F.fn 16) (hro : F.round = none) (hn : 3 ≤ n) (a : Option Addr) (len cap : Nat) (sp : Int) (acts : List ActV) (hreach : acts.length ≤ 1048576) (w : World) (hI : ActsAt w.heap.size w (.slice a len cap) acts) :
    CallsIn F n Try.prog 11 #[.slice a len cap, .int .i64 sp] w fun e W' => e = .returned (.int .i64 (turnSt (runsOf sp acts)).1) ∧ Below w.heap.size w W' := by
  have h1 : 1 ≤ n := by omega
  refine callsIn_of_wp_marks Try.func11 rfl h11 ?_ hro
  simp only [Try.ntmps11, List.size_toArray, List.length_cons, List.length_nil, Nat.reduceAdd, Nat.reduceSub, Array.replicate_succ, Array.replicate_zero, List.push_toArray, List.append_toArray, List.nil_append, List.cons_append]
  gi_wp2_with (gi_at_call 14; refine (runs_in F (n - 1) h14 hro _ _ _ _ _).mono ?_; rintro e w' ⟨rfl, rfl⟩)
  obtain ⟨w1, hw1⟩ : ∃ w1, w1 = (((((w.alloc (.cells #[.int .i64 0] 3)).alloc (.cells #[.int .i64 0] 3)).alloc (.cells #[.bool false] 4)).alloc (.cells #[.slice a len cap] 30)).alloc (.cells #[.int .i64 sp] 3)) := ⟨_, rfl⟩
  have hs1 : w1.heap.size = w.heap.size + 5 := by rw [hw1]; simp
  have hB0 : Below w.heap.size w w1 := by rw [hw1]; exact (((((Below.refl _ w).alloc (Nat.le_refl _) _).alloc (by simp) _).alloc (by simp; omega) _).alloc (by simp; omega) _).alloc (by simp; omega) _
  have e0 : w1.heap[w.heap.size]? = some (.cells #[.int .i64 0] 3) := by
    rw [hw1, Below.heap_alloc _ _ _ (by first | (simp; done) | (simp; omega)), Below.heap_alloc _ _ _ (by first | (simp; done) | (simp; omega)), Below.heap_alloc _ _ _ (by first | (simp; done) | (simp; omega)), Below.heap_alloc _ _ _ (by first | (simp; done) | (simp; omega))]; exact World.alloc_heap_new w _
  have e1 : w1.heap[w.heap.size + 1]? = some (.cells #[.int .i64 0] 3) := by
    rw [hw1, Below.heap_alloc _ _ _ (by first | (simp; done) | (simp; omega)), Below.heap_alloc _ _ _ (by first | (simp; done) | (simp; omega)), Below.heap_alloc _ _ _ (by first | (simp; done) | (simp; omega))]
    have := World.alloc_heap_new (w.alloc (.cells #[.int .i64 0] 3)) (.cells #[.int .i64 0] 3); simpa using this
  have e2 : w1.heap[w.heap.size + 2]? = some (.cells #[.bool false] 4) := by
    rw [hw1, Below.heap_alloc _ _ _ (by first | (simp; done) | (simp; omega)), Below.heap_alloc _ _ _ (by simp)]
    have := World.alloc_heap_new ((w.alloc (.cells #[.int .i64 0] 3)).alloc (.cells #[.int .i64 0] 3)) (.cells #[.bool false] 4); simpa using this
  have e3 : w1.heap[w.heap.size + 3]? = some (.cells #[.slice a len cap] 30) := by
    rw [hw1, Below.heap_alloc _ _ _ (by simp)]
    have := World.alloc_heap_new (((w.alloc (.cells #[.int .i64 0] 3)).alloc (.cells #[.int .i64 0] 3)).alloc (.cells #[.bool false] 4)) (.cells #[.slice a len cap] 30); simpa using this
  have e4 : w1.heap[w.heap.size + 4]? = some (.cells #[.int .i64 sp] 3) := by
    rw [hw1]
    have := World.alloc_heap_new ((((w.alloc (.cells #[.int .i64 0] 3)).alloc (.cells #[.int .i64 0] 3)).alloc (.cells #[.bool false] 4)).alloc (.cells #[.slice a len cap] 30)) (.cells #[.int .i64 sp] 3); simpa using this
  have cS : w1.cell? ⟨w.heap.size + 3, 0, none⟩ = some (.slice a len cap) := by unfold World.cell?; rw [e3]; rfl
  have cP : w1.cell? ⟨w.heap.size + 4, 0, none⟩ = some (.int .i64 sp) := by unfold World.cell?; rw [e4]; rfl
  have o0 : One w.heap.size w1 (.int .i64 0) := by unfold One World.cell? World.frozen?; rw [e0]; exact ⟨rfl, rfl⟩
  have o1 : One (w.heap.size + 1) w1 (.int .i64 0) := by unfold One World.cell? World.frozen?; rw [e1]; exact ⟨rfl, rfl⟩
  have o2 : One (w.heap.size + 2) w1 (.bool false) := by unfold One World.cell? World.frozen?; rw [e2]; exact ⟨rfl, rfl⟩
  have hI1 := hI.below hB0
  rw [← hw1]
  refine wpIn_rangeFunc_ownG hro h1 (gf := 16) (lb := #[.pointer (some ⟨w.heap.size + 3, 0, none⟩), .pointer (some ⟨w.heap.size + 4, 0, none⟩)]) rfl h16 (enters_of Try.func16 (by kernel_rfl) rfl)
    (runs_stops F (n - 1) h16 hro (by omega) (w.heap.size + 3) (w.heap.size + 4) w.heap.size _ sp acts (by omega) w1 (by omega) (by omega) (by omega) cS cP hI1) Kp.trans
    (fun W l o o' hl hW hc hk => ⟨belowK_b (w := w1) (by omega) W l o o' hl hW hc hk, World.cell?_of_block (w := W) (World.putObj_heap_other (by show w.heap.size + 4 ≠ l; omega))⟩)
    (Below.refl _ _) (fun _ => rfl)
    (fun pre W => (One w.heap.size W (.int .i64 (turnSt pre).1) ∧ One (w.heap.size + 1) W (.int .i64 ((turnSt pre).2.getD 0)) ∧ One (w.heap.size + 2) W (.bool (turnSt pre).2.isSome)) ∧ Below w.heap.size w W)
    (fun _ _ _ => False)
    (OwnFrom.and (Own.from (fun s A B row hs hg hr => ⟨⟨cell_kept hs.1.1 hg hr, (frozen_kept hs.1.1 hg hr).trans hs.1.2⟩, ⟨cell_kept hs.2.1.1 hg hr, (frozen_kept hs.2.1.1 hg hr).trans hs.2.1.2⟩, ⟨cell_kept hs.2.2.1 hg hr, (frozen_kept hs.2.2.1 hg hr).trans hs.2.2.2⟩⟩) _) (ownFrom_below (Nat.le_refl _) (by omega)))
    (fun _ _ _ _ _ hs _ _ => hs)
    ⟨⟨o0, o1, o2⟩, hB0⟩
    (fun x => { tmps := #[.slice a len cap, .int .i64 sp, undef, undef, .int .i64 0, .pointer (some ⟨w.heap.size, 0, none⟩), .pointer (some ⟨w.heap.size + 1, 0, none⟩), .pointer (some ⟨w.heap.size + 2, 0, none⟩), .int .i64 x, .slice a len cap, .int .i64 sp, .func (.func 16) #[] #[.pointer (some ⟨w.heap.size + 3, 0, none⟩), .pointer (some ⟨w.heap.size + 4, 0, none⟩)], .int .i64 x, undef, undef, undef, undef, undef, undef, undef, undef, undef, undef], defers := [] }) ?assign ?body ?done ?stop
  case assign =>
    intro l x W K hK
    gi_wp2
    exact hK
  case body =>
    rintro l pre x W ⟨⟨h0, hl1, hl2⟩, hB⟩ hlen
    have hle := turnSt_le pre
    have hsn := turnSt_snoc pre x
    obtain ⟨c0, f0⟩ := id h0
    obtain ⟨c1, f1⟩ := id hl1
    obtain ⟨c2, f2⟩ := id hl2
    clear hI hI1 hw1 e0 e1 e2 e3 e4 o0 o1 o2
    rcases hst : turnSt pre with ⟨m, lo⟩
    rw [hst] at h0 hl1 hl2 c0 c1 c2 hle hsn
    simp only at h0 hl1 hl2 c0 c1 c2 hle hsn
    cases lo with
    | none =>
      simp only [Option.getD_none, Option.isSome_none] at c1 c2 hl1 hl2
      simp only [true_or, if_true] at hsn
      gi_wp2
      exact ⟨((KeepsOthers.setCell _ _ _).trans (KeepsOthers.setCell _ _ _)).from _, (Kp.set (by omega) (by omega) _ _).trans (Kp.set (by omega) (by omega) _ _),
        by simp only [hsn]; exact ⟨⟨(h0.other (by omega) _).other (by omega) _, (hl1.set _).other (by omega) _, (hl2.other (by omega) _).set _⟩, (hB.setCell (p := ⟨w.heap.size + 1, 0, none⟩) (by simp) _).setCell (p := ⟨w.heap.size + 2, 0, none⟩) (by simp) _⟩⟩
    | some z =>
      simp only [Option.getD_some, Option.isSome_some] at c1 c2 hl1 hl2
      by_cases hz : x = z
      · subst hz
        simp only [or_true, if_true] at hsn
        gi_wp2
        exact ⟨((KeepsOthers.setCell _ _ _).trans (KeepsOthers.setCell _ _ _)).from _, (Kp.set (by omega) (by omega) _ _).trans (Kp.set (by omega) (by omega) _ _),
        by simp only [hsn]; exact ⟨⟨(h0.other (by omega) _).other (by omega) _, (hl1.set _).other (by omega) _, (hl2.other (by omega) _).set _⟩, (hB.setCell (p := ⟨w.heap.size + 1, 0, none⟩) (by simp) _).setCell (p := ⟨w.heap.size + 2, 0, none⟩) (by simp) _⟩⟩
      · have : ¬ (some z = none ∨ some z = some x) := by simp [Ne.symm hz]
        rw [if_neg this] at hsn
        gi_wp2
        exact ⟨(((KeepsOthers.setCell _ _ _).trans (KeepsOthers.setCell _ _ _)).trans (KeepsOthers.setCell _ _ _)).from _, ((Kp.set (by omega) (by omega) _ _).trans (Kp.set (by omega) (by omega) _ _)).trans (Kp.set (by omega) (by omega) _ _),
        by simp only [hsn]; exact ⟨⟨((h0.set _).other (by omega) _).other (by omega) _, ((hl1.other (by omega) _).set _).other (by omega) _, ((hl2.other (by omega) _).other (by omega) _).set _⟩, ((hB.setCell (p := ⟨w.heap.size, 0, none⟩) (by simp) _).setCell (p := ⟨w.heap.size + 1, 0, none⟩) (by simp) _).setCell (p := ⟨w.heap.size + 2, 0, none⟩) (by simp) _⟩⟩
  case done =>
    rintro D ys W hD rfl ⟨⟨h0, hl1, hl2⟩, hB⟩ hK
    obtain ⟨c0, f0⟩ := id h0
    gi_wp2
    refine ⟨by simp, .inl ⟨_, _, rfl, run_takeDeferred hK, ?_⟩⟩
    exact ⟨_, results_tmp rfl _ _ _, rfl, hB.trans (belowK_b (w := w) (Nat.le_refl _) W D _ _ (by omega) hK rfl rfl)⟩
  case stop =>
    rintro D c pre W _ _ h _
    exact h.elim

end Go.Proofs.YtnoophiflnlflaaX
