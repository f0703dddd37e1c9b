/- Walks of functions, and what they compute. Conditions: none, this text proves no statement. -/
import Derived.Test.YtnoophiflnlflaaM3
namespace Go.SLYtnoophiflnlflaa
open Go Go.RowKit Go.Shelf Go.Proofs Go.Proofs.YtnoophiflnlflaaX

theorem ActsAt.of {w : World} {v : Value} {acts : List ActV} (h : RdAt w actE 4 v acts) : ActsAt w.heap.size w v acts ∧ ∃ a cap, v = .slice a acts.length cap := by
  obtain ⟨⟨a, cap, hv, hle, hsp, hnn⟩, _, hc⟩ := h
  refine ⟨?_, a, cap, hv⟩
  cases acts with
  | nil => exact .inl ⟨a, cap, hv, rfl⟩
  | cons x r =>
    cases a with
    | none => cases hnn rfl
    | some p =>
      obtain ⟨b, o, s⟩ := p
      have : s = none := hsp _ rfl (by simp)
      subst this
      subst hv
      refine .inr ⟨b, o, cap, rfl, ?_, fun j x hj c u hu => hc j x hj c u hu⟩
      exact cell_lt (hc 0 x rfl 0 _ rfl)

section
variable {W : World} {v : Value} {sp : Int} {acts : List ActV} {pre : List HProp}
theorem Spread_fn (hr : Rd W pre actE 4 v acts) (hlen : acts.length ≤ 1048576) :
    Fn Try.prog W 10 [v, .int .i64 sp] pre Unit (fun _ => .agg ((spr (runsOf sp acts)).map (Value.int .i64)).toArray) (fun _ => True) (fun _ => pre) := fun F w hs => by
  obtain ⟨hI, a, cap, rfl⟩ := ActsAt.of (hr w hs.left)
  exact (callsIn_wide.1 (Spread_in Fence.wide 9 trivial trivial trivial rfl (by omega) a _ cap sp acts hlen w hI)).mono fun e w' ⟨he, hb⟩ => ⟨(), he, trivial, hs.below hb⟩
theorem Turns_fn (hr : Rd W pre actE 4 v acts) (hlen : acts.length ≤ 1048576) :
    Fn Try.prog W 11 [v, .int .i64 sp] pre Unit (fun _ => .int .i64 (turnSt (runsOf sp acts)).1) (fun _ => True) (fun _ => pre) := fun F w hs => by
  obtain ⟨hI, a, cap, rfl⟩ := ActsAt.of (hr w hs.left)
  exact (callsIn_wide.1 (Turns_in Fence.wide 9 trivial trivial trivial rfl (by omega) a _ cap sp acts hlen w hI)).mono fun e w' ⟨he, hb⟩ => ⟨(), he, trivial, hs.below hb⟩
end
end Go.SLYtnoophiflnlflaa
