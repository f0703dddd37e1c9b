/- Walks of functions, and what they compute. Conditions: none, this text proves no statement. -/
import Derived.RangeFuncNested
import Derived.RangeFuncBound
import Derived.RangeFuncCalls
import Derived.RangeFuncLeaves
import Derived.RangeFuncBox
import Derived.Shelf.Abstract
import Derived.WalkKit
import Derived.OwnWalkIn
import Derived.TacticsInMore
import Derived.LoopNIn
import Derived.LoopIn
import Derived.Test.YtnoophiflnlflaaProg
import Derived.Test.YtnoophiflnlflaaSLg
namespace Go.Proofs.YtnoophiflnlflaaX
open Go Go.RowKit Go.Shelf Go.SLYtnoophiflnlflaa
attribute [local go_sem] Oper.semAt_some

structure ActV where
  kind : Int
  space : Int
  thread : Int
  choice : Int
def actE (a : ActV) : List Value := [.int .i64 a.kind, .int .i64 a.space, .int .i64 a.thread, .int .i64 a.choice]

def hits (sp : Int) (a : ActV) : Bool := decide (a.kind = 1) && decide (a.space = sp)
def runsOf (sp : Int) (acts : List ActV) : List Int := (acts.filter (hits sp)).map (·.thread)
theorem runsOf_snoc (sp : Int) (l : List ActV) (a : ActV) : runsOf sp (l ++ [a]) = runsOf sp l ++ (if hits sp a then [a.thread] else []) := by
  unfold runsOf; rw [List.filter_append, List.map_append]; congr 1; by_cases h : hits sp a <;> simp [h]
theorem runsOf_le (sp : Int) (l : List ActV) : (runsOf sp l).length ≤ l.length := by
  unfold runsOf; rw [List.length_map]; exact List.length_filter_le _ _

set_option maxRecDepth 100000 in
set_option maxHeartbeats 1000000 in
theorem runs_in (F : Fence) (n : Nat) (hf : F.fn 14) (hro : F.round = none) (a : Option Addr) (len cap : Nat) (sp : Int) (w : World) :
    CallsIn F n Try.prog 14 #[.slice a len cap, .int .i64 sp] w fun e w' => e = .returned (.func (.func 16) #[] #[.pointer (some ⟨w.heap.size, 0, none⟩), .pointer (some ⟨w.heap.size + 1, 0, none⟩)]) ∧ w' = (w.alloc (.cells #[.slice a len cap] 30)).alloc (.cells #[.int .i64 sp] 3) := by
  refine callsIn_of_wp Try.func14 rfl hf ?_ hro
  simp only [Try.ntmps14, List.size_toArray, List.length_cons, List.length_nil, Nat.reduceAdd, Nat.reduceSub, Array.replicate_succ, Array.replicate_zero, List.push_toArray, List.append_toArray, List.nil_append, List.cons_append]
  gi_wp2
  go_ret
  exact ⟨rfl, rfl⟩

theorem runsOf_take (sp : Int) (acts : List ActV) {k : Nat} {a : ActV} (h : acts[k]? = some a) : runsOf sp (acts.take (k + 1)) = runsOf sp (acts.take k) ++ (if hits sp a then [a.thread] else []) := by
  rw [← runsOf_snoc]; congr 1
  have hi := (List.getElem?_eq_some_iff.1 h).1
  have he := (List.getElem?_eq_some_iff.1 h).2
  rw [List.take_succ_eq_append_getElem hi, he]

def Kp (n₀ Bp : Nat) (W W' : World) : Prop := Below n₀ W W' ∧ W'.cell? ⟨Bp, 0, none⟩ = W.cell? ⟨Bp, 0, none⟩
theorem Kp.refl (n₀ Bp : Nat) (W : World) : Kp n₀ Bp W W := ⟨Below.refl _ _, rfl⟩
theorem Kp.trans {n₀ Bp : Nat} {A B C : World} (h : Kp n₀ Bp A B) (k : Kp n₀ Bp B C) : Kp n₀ Bp A C := ⟨h.1.trans k.1, k.2.trans h.2⟩

set_option maxRecDepth 100000 in
set_option maxHeartbeats 4000000 in
theorem runs1_in (F : Fence) (n : Nat) (hf : F.fn 16) (hro : F.round = none) (hn : 1 ≤ n) (l Bs Bp n₀ b off cap : Nat) (W : World) (sp : Int) (acts : List ActV) (hreach : acts.length * 32 ≤ 140737488351232) (hb : b < n₀) (hn₀ : n₀ ≤ W.heap.size) (hBp' : Bp < W.heap.size) (J Jx : List Int → World → Prop)
    (hAb : AbidesFrom W.heap.size J)
    (hY : ∀ pre x W, J pre W → pre.length < acts.length → YieldAt F (n - 1) Try.prog l #[.int .i64 x] W fun e W' =>
      (e = .returned (.bool true) ∧ J (pre ++ [x]) W' ∧ Kp n₀ Bp W W') ∨ (e = .returned (.bool false) ∧ Jx (pre ++ [x]) W'))
    (hBs : W.cell? ⟨Bs, 0, none⟩ = some (.slice (some ⟨b, off, none⟩) acts.length cap)) (hBp : W.cell? ⟨Bp, 0, none⟩ = some (.int .i64 sp))
    (hc : ∀ j x, acts[j]? = some x → ∀ c u, (actE x)[c]? = some u → W.cell? ⟨b, off + j * 4 + c, none⟩ = some u) (h0 : J [] W) :
    CallsIn F n Try.prog 16 #[.func (.yield l) #[] #[], .pointer (some ⟨Bs, 0, none⟩), .pointer (some ⟨Bp, 0, none⟩)] W fun e W' => (∃ v, e = .returned v) ∧
      ((∃ ys, ys = runsOf sp acts ∧ J ys W') ∨ (∃ pre, True ∧ Jx pre W')) := by
  refine callsIn_of_wp Try.func16 rfl hf ?_ hro
  simp only [Try.ntmps16, List.size_toArray, List.length_cons, List.length_nil, Nat.reduceAdd, Nat.reduceSub, Array.replicate_succ, Array.replicate_zero, List.push_toArray, List.append_toArray, List.nil_append, List.cons_append]
  gi_wp2
  gi_loopw [8] (fun i wr => ∃ k : Nat, k ≤ acts.length ∧ i = .int .i64 k ∧ J (runsOf sp (acts.take k)) wr ∧ Kp n₀ Bp W wr)
    (fun i _ => acts.length - (intOf i).toNat)
  case atStart => exact ⟨0, Nat.zero_le _, rfl, h0, Kp.refl _ _ _⟩
  case round =>
    obtain ⟨k, hk, rfl, hJs, hnx, cP0⟩ := hrel
    by_cases hlt : k < acts.length
    · obtain ⟨a, ha⟩ : ∃ a, acts[k]? = some a := ⟨acts[k], by simp [hlt]⟩
      have c0 : wr.cell? ⟨b, off + k * 4, none⟩ = some (.int .i64 a.kind) := (hnx.cell (p := ⟨b, off + k * 4, none⟩) hb).trans (hc k a ha 0 _ rfl)
      have c1 : wr.cell? ⟨b, off + k * 4 + 1, none⟩ = some (.int .i64 a.space) := (hnx.cell (p := ⟨b, off + k * 4 + 1, none⟩) hb).trans (hc k a ha 1 _ rfl)
      have c2 : wr.cell? ⟨b, off + k * 4 + 2, none⟩ = some (.int .i64 a.thread) := (hnx.cell (p := ⟨b, off + k * 4 + 2, none⟩) hb).trans (hc k a ha 2 _ rfl)
      have c3 : wr.cell? ⟨b, off + k * 4 + 3, none⟩ = some (.int .i64 a.choice) := (hnx.cell (p := ⟨b, off + k * 4 + 3, none⟩) hb).trans (hc k a ha 3 _ rfl)
      have cP : wr.cell? ⟨Bp, 0, none⟩ = some (.int .i64 sp) := cP0.trans hBp
      have hsz : n₀ ≤ wr.heap.size := Nat.le_trans hn₀ hnx.size
      have hsz' : Bp < wr.heap.size := Nat.lt_of_lt_of_le hBp' hnx.size
      have cP' : ∀ o, (wr.alloc o).cell? ⟨Bp, 0, none⟩ = some (.int .i64 sp) := fun o => (World.cell?_of_block (w := wr) (a := ⟨Bp, 0, none⟩) (Below.heap_alloc wr o Bp hsz')).trans cP
      have hJa : ∀ o, J (runsOf sp (acts.take k)) (wr.alloc o) := fun o => hAb _ wr _ none hJs (World.grownBy_alloc wr o none) (fun r e => by cases e)
      have hBa : ∀ o, Kp n₀ Bp W (wr.alloc o) := fun o => ⟨hnx.alloc hsz o, (cP' o).trans hBp.symm⟩
      have hstep := runsOf_take sp acts ha
      by_cases hh : a.kind = 1 ∧ a.space = sp
      · obtain ⟨h1, h2⟩ := hh
        have hit : hits sp a = true := by simp [hits, h1, h2]
        rw [if_pos hit] at hstep
        obtain ⟨kind, space, thread, choice⟩ := a
        simp only at h1 h2 hstep c0 c1 c2 c3
        subst h1; subst h2
        obtain ⟨fn, tmps, assign, body, hy, hR⟩ := hY _ thread (wr.alloc (.cells #[.int .i64 1, .int .i64 space, .int .i64 thread, .int .i64 choice] 34)) (hJa _) (by have := runsOf_le space (acts.take (k + 1)); rw [hstep, List.length_append, List.length_take] at this; simp at this; omega)
        clear hY hJa hc hAb
        gi_wp2
        refine hR.mono ?_
        rintro e W3 (⟨rfl, hJ3, hk3⟩ | ⟨rfl, hJx3⟩)
        · gi_wp2
          go_roundw
          case rel => exact ⟨k + 1, by omega, by simp, by rw [hstep]; exact hJ3, (hBa _).trans hk3⟩
          case measure => simp [intOf]; omega
        · gi_wp2
          refine bodyPost_ret (results_none rfl _ _ _) rfl ?_
          exact ⟨⟨_, rfl⟩, .inr ⟨_, trivial, hJx3⟩⟩
      · have hit : hits sp a = false := by
          simp only [hits, Bool.and_eq_false_iff, decide_eq_false_iff_not]
          by_cases h1 : a.kind = 1
          · exact .inr fun h2 => hh ⟨h1, h2⟩
          · exact .inl h1
        rw [hit] at hstep
        simp only [Bool.false_eq_true, if_false, List.append_nil] at hstep
        have hJn := hJa (.cells #[.int .i64 a.kind, .int .i64 a.space, .int .i64 a.thread, .int .i64 a.choice] 34)
        have hBn := hBa (.cells #[.int .i64 a.kind, .int .i64 a.space, .int .i64 a.thread, .int .i64 a.choice] 34)
        rw [← hstep] at hJn
        clear hY hJa hc hAb
        gi_wp2
        · have h1 : a.kind = 1 := by assumption
          refine ⟨fun _ h => (by cases h), ?_⟩
          gi_wp2
          go_roundw
          case rel => exact ⟨k + 1, by omega, by simp, by rw [h1] at hJn; exact hJn, by rw [h1] at hBn; exact hBn⟩
          case measure => simp [intOf]; omega
        · refine ⟨fun _ h => (by cases h), ?_⟩
          gi_wp2
          go_roundw
          case rel => exact ⟨k + 1, by omega, by simp, hJn, hBn⟩
          case measure => simp [intOf]; omega
    · obtain rfl : k = acts.length := by omega
      gi_wp2
      go_end0
      exact ⟨⟨_, rfl⟩, .inl ⟨_, rfl, by rw [List.take_length] at hJs; exact hJs⟩⟩

def ActsAt (n₀ : Nat) (W : World) (v : Value) (acts : List ActV) : Prop :=
  (∃ a cap, v = .slice a 0 cap ∧ acts = []) ∨ ∃ b off cap, v = .slice (some ⟨b, off, none⟩) acts.length cap ∧ b < n₀ ∧ ∀ j x, acts[j]? = some x → ∀ c u, (actE x)[c]? = some u → W.cell? ⟨b, off + j * 4 + c, none⟩ = some u
theorem ActsAt.below {n₀ : Nat} {A B : World} (h : Below n₀ A B) {v : Value} {zs : List ActV} : ActsAt n₀ A v zs → ActsAt n₀ B v zs
  | .inl e => .inl e
  | .inr ⟨b, off, cap, e, hb, hc⟩ => .inr ⟨b, off, cap, e, hb, fun j x hj c u hu => (h.cell (p := ⟨b, off + j * 4 + c, none⟩) hb).trans (hc j x hj c u hu)⟩

set_option maxRecDepth 100000 in
set_option maxHeartbeats 1000000 in
theorem runs1_nil_in (F : Fence) (n : Nat) (hf : F.fn 16) (hro : F.round = none) (l Bs Bp : Nat) (J : List Int → World → Prop) (W : World) (a : Option Addr) (cap : Nat) (hBs : W.cell? ⟨Bs, 0, none⟩ = some (.slice a 0 cap)) (h0 : J [] W) :
    CallsIn F n Try.prog 16 #[.func (.yield l) #[] #[], .pointer (some ⟨Bs, 0, none⟩), .pointer (some ⟨Bp, 0, none⟩)] W fun e W' => (∃ v, e = .returned v) ∧ J [] W' := by
  refine callsIn_of_wp Try.func16 rfl hf ?_ hro
  simp only [Try.ntmps16, List.size_toArray, List.length_cons, List.length_nil, Nat.reduceAdd, Nat.reduceSub, Array.replicate_succ, Array.replicate_zero, List.push_toArray, List.append_toArray, List.nil_append, List.cons_append]
  gi_wp2
  gi_loopw [8] (fun i wr => i = .int .i64 0 ∧ J [] wr) (fun _ _ => 0)
  case atStart => exact ⟨rfl, h0⟩
  case round =>
    obtain ⟨rfl, hJs⟩ := hrel
    gi_wp2
    go_end0
    exact ⟨⟨_, rfl⟩, hJs⟩

theorem runs_stops (F : Fence) (n : Nat) (hf : F.fn 16) (hro : F.round = none) (hn : 1 ≤ n) (Bs Bp n₀ : Nat) (v : Value) (sp : Int) (acts : List ActV) (hreach : acts.length * 32 ≤ 140737488351232) (w : World) (hBs : Bs < w.heap.size) (hBp : Bp < w.heap.size) (hn₀ : n₀ ≤ w.heap.size)
    (hc : w.cell? ⟨Bs, 0, none⟩ = some v) (hp : w.cell? ⟨Bp, 0, none⟩ = some (.int .i64 sp)) (hI : ActsAt n₀ w v acts) :
    SeqStopsK F n Try.prog 16 #[.pointer (some ⟨Bs, 0, none⟩), .pointer (some ⟨Bp, 0, none⟩)] (fun x : Int => #[Value.int .i64 x]) (Kp n₀ Bp) (fun ys => ys = runsOf sp acts) (fun _ => True) acts.length w := fun l J Jx W hW hJ hJx hY h0 => by
  have hc' := (hW.cell (p := ⟨Bs, 0, none⟩) hBs).trans hc
  have hp' := (hW.cell (p := ⟨Bp, 0, none⟩) hBp).trans hp
  rcases hI.below (hW.mono hn₀) with ⟨a, cap, rfl, rfl⟩ | ⟨b, off, cap, rfl, hb, hcs⟩
  · exact (runs1_nil_in F n hf hro l Bs Bp J W a cap hc' h0).mono fun e W' ⟨he, hj⟩ => ⟨he, .inl ⟨_, rfl, hj⟩⟩
  · exact runs1_in F n hf hro hn l Bs Bp n₀ b off cap W sp acts hreach hb (Nat.le_trans hn₀ hW.size) (Nat.lt_of_lt_of_le hBp hW.size) J Jx hJ (fun pre x W1 h1 h2 => (hY pre x W1 h1 h2)) hc' hp' hcs h0

end Go.Proofs.YtnoophiflnlflaaX
