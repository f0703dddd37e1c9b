/- MeterParts: whatever acts, cut anywhere, of whatever space: the law's call returns true, and its arguments read as they did. Conditions: what is read is of bulk at most 1048576 (the statement's own). -/
import Derived.Test.YtnoophiflnlflaaM9
import Derived.Test.YtnoophiflnlflaaM15
namespace Go.Proofs.Ytnoophiflnlflaa.meterParts
open Go Go.RowKit Go.ChangeShapes Go.WideShapes Go.ChangeAt Go.SLYtnoophiflnlflaa Go.Proofs.YtnoophiflnlflaaX

theorem contract (H : Type) (enc : TypeId × Value → H) (W : World) (base : Nat) (args : Array Value) (ds gs : List (DataW H)) (before : List MemPlace)
    (hval : ∀ (j : Nat) t v, Try.f5.params[j]? = some t → args[j]? = some v → Value.okWide Try.prog W .any base t v)
    (hW : DataW.Whole enc Try.prog Try.f5.params.toList Rows.meterPartsSpec.vars false W args.toList ds gs before) (hk : Rows.uptoSmall H (ds ++ gs) = true) :
    Calls Try.prog 5 args W fun e W' => ∃ v, e = .returned v ∧ Rows.meterPartsSpec.post enc Try.prog Try.f5 false true false false W args v W' := by
  have hW' := hW
  obtain ⟨p, q, hA0, hV, rfl, hfz, hnd⟩ := hW
  have hA : DataW.TrodAll enc Try.prog W 0 (fun _ => true) true Try.f5.params.toList args.toList ds p := hA0
  rw [Try.params5] at hA hval
  obtain ⟨v0, vs0, d0, ds0, p0, q0, hargs, rfl, rfl, h0, r0⟩ := trodAll_cons hA
  obtain ⟨v1, vs1, d1, ds1, p1, q1, rfl, rfl, rfl, h1, r1⟩ := trodAll_cons r0
  obtain ⟨v2, vs2, d2, ds2, p2, q2, rfl, rfl, rfl, h2, r2⟩ := trodAll_cons r1
  obtain ⟨rfl, rfl, rfl⟩ := trodAll_nil r2
  obtain rfl : args = #[v0, v1, v2] := by cases args; simp_all
  obtain ⟨rfl, rfl⟩ := trodVars_none hV
  have hb := bound hk
  obtain ⟨cu, rfl, rfl, rfl, wc⟩ := open_int Try.underlying5 (hval 1 5 v1 rfl rfl) h1
  obtain ⟨sp, rfl, rfl, rfl, _⟩ := open_int Try.underlying3 (hval 2 3 v2 rfl rfl) h2
  obtain ⟨s0, len0, cap0, rfl⟩ := okWide_slice Try.underlying30 (hval 0 30 v0 rfl rfl)
  obtain ⟨n0, t0⟩ := h0
  obtain ⟨⟨v, acts⟩, e0, hr, hl, _⟩ := opensActs _ _ _ t0
  obtain rfl : Value.slice s0 len0 cap0 = v := by simpa [Value.cells] using e0
  have hlen : acts.length ≤ 1048576 := by
    simp only [List.append_nil, List.map_cons, List.sum_cons] at hb
    have : acts.length + 1 ≤ Rows.uptoBulk d0 := hl
    omega
  have hcu : 0 ≤ cu ∧ cu ≤ 255 := bounds_u8 wc
  refine (Fn.done (MeterParts_fn (sp := sp) hr hcu hlen)).mono fun e W' ⟨he, hb⟩ => ?_
  exact ⟨_, he, law_post laid (by kernel_rfl) rfl (by kernel_rfl) Try.underlying4 hW' rfl rfl rfl hb⟩

set_option maxRecDepth 100000 in
theorem lifted (os : Os) (started : os.Started) (H : Type) (enc : TypeId × Value → H) (F : Stop.Interp) :
    ReturnsInHanded {} Try.checked os 5 .any ((Rows.OpenSpec.upto Rows.meterPartsSpec).pre6 enc Try.prog Try.f5 Rows.meterPartsUptoRow.domain false) (((Rows.OpenSpec.upto Rows.meterPartsSpec).at F).post enc Try.prog Try.f5 false true false false) := by
  refine returnsInHanded_of_cond (C := Try.checked) (s := Rows.OpenSpec.upto Rows.meterPartsSpec) (k := Rows.uptoSmall) rfl own started (by kernel_rfl) Try.func5
    (OpenSpec.witness (enc := enc) (C := Try.checked) (s := Rows.OpenSpec.upto Rows.meterPartsSpec) (k := Rows.uptoSmall) rfl false ⟨#[], #[.slice none 0 0, .int .u8 0, .int .i64 0], []⟩ 8 (by kernel_rfl) (by kernel_rfl) (by kernel_rfl)
      (x := ([.nil, .lit (.int .u8 0), .lit (.int .i64 0)], [], [])) (by kernel_rfl) rfl (by kernel_rfl)) ?_
  intro W base args ds gs before hval hW _ hk _
  exact contract H enc W base args ds gs before hval hW hk

theorem over : Rows.meterPartsUptoRow.holds Try.pinned (Rows.OpenSpec.upto Rows.meterPartsSpec) :=
  OpenClaim.holds_of_cond 5 Try.f5 rfl rfl rfl rfl rfl rfl rfl ⟨rfl, rfl, rfl, rfl, rfl⟩ rfl rfl rfl rfl rfl (by kernel_rfl) Try.func5 (by kernel_rfl)
    (of_decide_eq_true (by kernel_rfl)) (by unfold Func.isWrapper; first | (rw [if_pos (by decide +kernel)]; kernel_rfl) | (rw [if_neg (by decide +kernel)]; exact ⟨rfl, rfl⟩))
    (fun os started H enc _ F => lifted os started H enc F)

theorem proved : Rows.MeterPartsUptoSaid := over
end Go.Proofs.Ytnoophiflnlflaa.meterParts
