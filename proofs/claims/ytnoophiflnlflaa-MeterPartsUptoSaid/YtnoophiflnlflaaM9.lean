/- Walks of functions, and what they compute. Conditions: none, this text proves no statement. -/
import Derived.Test.YtnoophiflnlflaaM8
import Derived.Test.YtnoophiflnlflaaSLi
import Derived.Test.YtnoophiflnlflaaRows
namespace Go.Proofs.Ytnoophiflnlflaa
open Go Go.RowKit Go.ChangeShapes Go.WideShapes Go.ChangeAt Go.SLYtnoophiflnlflaa Go.Proofs.YtnoophiflnlflaaX

/-! the bulk of what is read -/
theorem bulkAll_eq {H : Type} : ∀ l : List (DataW H), Rows.uptoBulkAll l = (l.map Rows.uptoBulk).sum
  | [] => by simp [Rows.uptoBulkAll]
  | d :: r => by simp [Rows.uptoBulkAll, bulkAll_eq r]
theorem bulkOk {H : Type} : BulkOk (Rows.uptoBulk (H := H)) where
  one := fun d => by
    cases d with
    | lit l => cases l <;> simp [Rows.uptoBulk]
    | nil => simp [Rows.uptoBulk]
    | ptr d => simp [Rows.uptoBulk]
    | slice elems spare => simp [Rows.uptoBulk]
    | agg parts => simp [Rows.uptoBulk]
    | iface t d => simp [Rows.uptoBulk]
    | map entries => simp [Rows.uptoBulk]
    | held h => simp [Rows.uptoBulk]
  slice := fun es sp => by rw [← bulkAll_eq]; simp only [Rows.uptoBulk]; omega
  agg := fun ds => by rw [← bulkAll_eq]; simp only [Rows.uptoBulk]; omega
theorem bound {H : Type} {l : List (DataW H)} (hk : Rows.uptoSmall H l = true) : (l.map Rows.uptoBulk).sum ≤ 1048576 := by
  rw [← bulkAll_eq]; simpa [Rows.uptoSmall] using hk

section
variable {H : Type} {enc : TypeId × Value → H} {W : World}
theorem opensAct : Opens enc Try.prog W Rows.uptoBulk 34 actE (fun _ _ => True) := fun fuel cs x h => by
  obtain ⟨hl, hf⟩ := open_struct bulkOk Try.underlying34 (by kernel_rfl) (by
    intro i f hi
    match i, hi with
    | 0, hi => cases hi; exact ⟨rfl, by kernel_rfl⟩
    | 1, hi => cases hi; exact ⟨rfl, by kernel_rfl⟩
    | 2, hi => cases hi; exact ⟨rfl, by kernel_rfl⟩
    | 3, hi => cases hi; exact ⟨rfl, by kernel_rfl⟩
    | n + 4, hi => simp at hi) h
  obtain ⟨v0, n0, y0, e0, t0, _⟩ := hf 0 _ rfl
  obtain ⟨v1, n1, y1, e1, t1, _⟩ := hf 1 _ rfl
  obtain ⟨v2, n2, y2, e2, t2, _⟩ := hf 2 _ rfl
  obtain ⟨v3, n3, y3, e3, t3, _⟩ := hf 3 _ rfl
  obtain ⟨a0, r0, _, _⟩ := DataW.trod_int Try.underlying3 t0
  obtain ⟨a1, r1, _, _⟩ := DataW.trod_int Try.underlying3 t1
  obtain ⟨a2, r2, _, _⟩ := DataW.trod_int Try.underlying3 t2
  obtain ⟨a3, r3, _, _⟩ := DataW.trod_int Try.underlying3 t3
  cases r0; cases r1; cases r2; cases r3
  refine ⟨⟨a0, a1, a2, a3⟩, ?_, trivial⟩
  match cs, hl with
  | [w0, w1, w2, w3], _ =>
    simp at e0 e1 e2 e3
    subst e0 e1 e2 e3
    rfl
theorem opensActs : Opens enc Try.prog W Rows.uptoBulk 30 (fun p : Value × List ActV => [p.1]) (fun p n => RdAt W actE 4 p.1 p.2 ∧ p.2.length + 1 ≤ n ∧ ∀ a ∈ p.2, True) :=
  Opens.slice bulkOk Try.underlying30 (by kernel_rfl) (by decide) (fun _ => rfl) opensAct (fun _ _ _ _ _ => trivial)
end

theorem own : ownKnob Try.prog.godebug = none := by kernel_rfl
theorem laid : laidOutB Try.prog = true := by kernel_rfl
end Go.Proofs.Ytnoophiflnlflaa

namespace Go.Proofs.Ytnoophiflnlflaa.meterSpreads
open Go Go.RowKit Go.ChangeShapes Go.WideShapes Go.ChangeAt Go.SLYtnoophiflnlflaa Go.Proofs.YtnoophiflnlflaaX

theorem contract (H : Type) (enc : TypeId × Value → H) (W : World) (base : Nat) (args : Array Value) (ds gs : List (DataW H)) (before : List MemPlace)
    (hval : ∀ (j : Nat) t v, Try.f4.params[j]? = some t → args[j]? = some v → Value.okWide Try.prog W .any base t v)
    (hW : DataW.Whole enc Try.prog Try.f4.params.toList Rows.meterSpreadsSpec.vars false W args.toList ds gs before) (hk : Rows.uptoSmall H (ds ++ gs) = true) :
    Calls Try.prog 4 args W fun e W' => ∃ v, e = .returned v ∧ Rows.meterSpreadsSpec.post enc Try.prog Try.f4 false true false false W args v W' := by
  have hW' := hW
  obtain ⟨p, q, hA0, hV, rfl, hfz, hnd⟩ := hW
  have hA : DataW.TrodAll enc Try.prog W 0 (fun _ => true) true Try.f4.params.toList args.toList ds p := hA0
  rw [Try.params4] at hA hval
  obtain ⟨v0, vs0, d0, ds0, p0, q0, hargs, rfl, rfl, h0, r0⟩ := trodAll_cons hA
  obtain ⟨v1, vs1, d1, ds1, p1, q1, rfl, rfl, rfl, h1, r1⟩ := trodAll_cons r0
  obtain ⟨rfl, rfl, rfl⟩ := trodAll_nil r1
  obtain rfl : args = #[v0, v1] := by cases args; simp_all
  obtain ⟨rfl, rfl⟩ := trodVars_none hV
  have hb := bound hk
  obtain ⟨sp, rfl, rfl, rfl, _⟩ := open_int Try.underlying3 (hval 1 3 v1 rfl rfl) h1
  obtain ⟨s0, len0, cap0, rfl⟩ := okWide_slice Try.underlying30 (hval 0 30 v0 rfl rfl)
  obtain ⟨n0, t0⟩ := h0
  obtain ⟨⟨v, acts⟩, e0, hr, hl, _⟩ := opensActs _ _ _ t0
  obtain rfl : Value.slice s0 len0 cap0 = v := by simpa [Value.cells] using e0
  have hlen : acts.length ≤ 1048576 := by
    simp only [List.append_nil, List.map_cons, List.sum_cons] at hb
    have : acts.length + 1 ≤ Rows.uptoBulk d0 := hl
    omega
  refine (Fn.done (MeterSpreads_fn (sp := sp) hr hlen)).mono fun e W' ⟨he, hb⟩ => ?_
  exact ⟨_, he, law_post laid (by kernel_rfl) rfl (by kernel_rfl) Try.underlying4 hW' rfl rfl rfl hb⟩
end Go.Proofs.Ytnoophiflnlflaa.meterSpreads
