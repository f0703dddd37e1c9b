/- AllocMoves: whatever processors, turn, programs: the law's call returns true, and its arguments read as they did. Conditions: what is read is of bulk at most 1048576 (the statement's own). -/
import Derived.Test.YtkflpgknieoknaaT1
import Derived.Test.YtkflpgknieoknaaRk
namespace Go.Proofs.Ytkflpgknieoknaa.allocMoves
open Go Go.RowKit Go.ChangeShapes Go.WideShapes Go.ChangeAt Go.SLYtkflpgknieoknaa

set_option maxRecDepth 100000 in
theorem contract (H : Type) (enc : TypeId × Value → H) (W : World) (base : Nat) (args : Array Value) (ds gs : List (DataW H)) (before : List MemPlace)
    (hval : ∀ (j : Nat) t v, Try.f4.params[j]? = some t → args[j]? = some v → Value.okWide Try.prog W .any base t v)
    (hW : DataW.Whole enc Try.prog Try.f4.params.toList Rows.allocMovesSpec.vars false W args.toList ds gs before) (hk : Rows.uptoSmall H (ds ++ gs) = true) :
    Calls Try.prog 4 args W fun e W' => ∃ v, e = .returned v ∧ Rows.allocMovesSpec.post enc Try.prog Try.f4 false true false false W args v W' := by
  have hW' := hW
  obtain ⟨p, q, hA0, hV, rfl, hfz, hnd⟩ := hW
  have hA : DataW.TrodAll enc Try.prog W 0 (fun _ => true) true Try.f4.params.toList args.toList ds p := hA0
  rw [Try.params4] at hA hval
  obtain ⟨v0, vs0, d0, ds0, p0, q0, hargs, rfl, rfl, h0, r0⟩ := trodAll_cons hA
  obtain ⟨v1, vs1, d1, ds1, p1, q1, rfl, rfl, rfl, h1, r1⟩ := trodAll_cons r0
  obtain ⟨v2, vs2, d2, ds2, p2, q2, rfl, rfl, rfl, h2, r2⟩ := trodAll_cons r1
  obtain ⟨rfl, rfl, rfl⟩ := trodAll_nil r2
  obtain rfl : args = #[v0, v1, v2] := by cases args; simp_all
  obtain ⟨rfl, rfl⟩ := trodVars_none hV
  have hb := bound hk
  obtain ⟨pn, rfl, rfl, rfl, wc⟩ := open_int Try.underlying5 (hval 0 5 v0 rfl rfl) h0
  obtain ⟨tn, rfl, rfl, rfl, wt⟩ := open_int Try.underlying5 (hval 1 5 v1 rfl rfl) h1
  obtain ⟨s2, len2, cap2, rfl⟩ := okWide_slice Try.underlying22 (hval 2 22 v2 rfl rfl)
  obtain ⟨n2, t2⟩ := h2
  obtain ⟨⟨v, ps⟩, e2, hr, hl, hps⟩ := opensPrgs _ _ _ t2
  obtain rfl : Value.slice s2 len2 cap2 = v := by simpa [Value.cells] using e2
  simp only [List.append_nil, List.map_cons, List.sum_cons] at hb
  have hlen : ps.length + 1 ≤ Rows.uptoBulk d2 := hl
  have hp1 : ps.length ≤ 1000000000 := by omega
  have hcu : 0 ≤ pn ∧ pn ≤ 255 := bounds_u8 wc
  have hct : 0 ≤ tn ∧ tn ≤ 255 := bounds_u8 wt
  refine (Fn.done (Fn.emp (law18_Moves (A := emp) hcu hct (Rd.old hr) (fun x hx => (hps x hx).rd _) ⟨hp1, fun x hx => ?_⟩))).mono fun e W' ⟨he, hb⟩ => ?_
  · have h := hps x hx
    have := h.fl
    have := h.sl
    have := h.pl
    have hle : Rows.uptoBulk d2 ≤ 1048576 := by omega
    refine ⟨?_, ?_, ?_⟩ <;> refine Nat.le_trans ‹_› (Nat.le_trans ?_ (show 1048576 ≤ 1000000000 by decide)) <;> exact hle
  · exact ⟨_, he, law_post laid (by kernel_rfl) rfl (by kernel_rfl) Try.underlying4 hW' rfl rfl rfl hb⟩

set_option maxRecDepth 100000 in
theorem lifted (os : Os) (started : os.Started) (H : Type) (enc : TypeId × Value → H) (F : Stop.Interp) :
    ReturnsInHanded {} Try.checked os 4 .any ((Rows.OpenSpec.upto Rows.allocMovesSpec).pre6 enc Try.prog Try.f4 Rows.allocMovesUptoRow.domain false) (((Rows.OpenSpec.upto Rows.allocMovesSpec).at F).post enc Try.prog Try.f4 false true false false) := by
  refine returnsInHanded_of_cond (C := Try.checked) (s := Rows.OpenSpec.upto Rows.allocMovesSpec) (k := Rows.uptoSmall) rfl own started (by kernel_rfl) Try.func4
    (OpenSpec.witness (enc := enc) (C := Try.checked) (s := Rows.OpenSpec.upto Rows.allocMovesSpec) (k := Rows.uptoSmall) rfl false ⟨#[], #[.int .u8 0, .int .u8 0, .slice none 0 0], []⟩ 8 (by kernel_rfl) (by kernel_rfl) (by kernel_rfl)
      (x := ([.lit (.int .u8 0), .lit (.int .u8 0), .nil], [], [])) (by kernel_rfl) rfl (by kernel_rfl)) ?_
  intro W base args ds gs before hval hW _ hk _
  exact contract H enc W base args ds gs before hval hW hk

theorem over : Rows.allocMovesUptoRow.holds Try.pinned (Rows.OpenSpec.upto Rows.allocMovesSpec) :=
  OpenClaim.holds_of_cond 4 Try.f4 rfl rfl rfl rfl rfl rfl rfl ⟨rfl, rfl, rfl, rfl, rfl⟩ rfl rfl rfl rfl rfl (by kernel_rfl) Try.func4 (by kernel_rfl)
    (of_decide_eq_true (by kernel_rfl)) (by unfold Func.isWrapper; first | (rw [if_pos (by decide +kernel)]; kernel_rfl) | (rw [if_neg (by decide +kernel)]; exact ⟨rfl, rfl⟩))
    (fun os started H enc _ F => lifted os started H enc F)

theorem proved : Rows.AllocMovesUptoSaid := over
end Go.Proofs.Ytkflpgknieoknaa.allocMoves
