/- AllocAgain: whatever processors, programs, priorities, turn: the law's call returns true, and its arguments read as they did. Conditions: what is read is of bulk at most 1048576 (the statement's own). -/
import Derived.Test.YtkflpgknieoknaaT1
namespace Go.Proofs.Ytkflpgknieoknaa.allocAgain
open Go Go.RowKit Go.ChangeShapes Go.WideShapes Go.ChangeAt Go.SLYtkflpgknieoknaa

set_option maxRecDepth 100000 in
theorem contract (H : Type) (enc : TypeId × Value → H) (W : World) (base : Nat) (args : Array Value) (ds gs : List (DataW H)) (before : List MemPlace)
    (hval : ∀ (j : Nat) t v, Try.f3.params[j]? = some t → args[j]? = some v → Value.okWide Try.prog W .any base t v)
    (hW : DataW.Whole enc Try.prog Try.f3.params.toList Rows.allocAgainSpec.vars false W args.toList ds gs before) (hk : Rows.uptoSmall H (ds ++ gs) = true) :
    Calls Try.prog 3 args W fun e W' => ∃ v, e = .returned v ∧ Rows.allocAgainSpec.post enc Try.prog Try.f3 false true false false W args v W' := by
  have hW' := hW
  obtain ⟨p, q, hA0, hV, rfl, hfz, hnd⟩ := hW
  have hA : DataW.TrodAll enc Try.prog W 0 (fun _ => true) true Try.f3.params.toList args.toList ds p := hA0
  rw [Try.params3] at hA hval
  obtain ⟨v0, vs0, d0, ds0, p0, q0, hargs, rfl, rfl, h0, r0⟩ := trodAll_cons hA
  obtain ⟨v1, vs1, d1, ds1, p1, q1, rfl, rfl, rfl, h1, r1⟩ := trodAll_cons r0
  obtain ⟨v2, vs2, d2, ds2, p2, q2, rfl, rfl, rfl, h2, r2⟩ := trodAll_cons r1
  obtain ⟨v3, vs3, d3, ds3, p3, q3, rfl, rfl, rfl, h3, r3⟩ := trodAll_cons r2
  obtain ⟨rfl, rfl, rfl⟩ := trodAll_nil r3
  obtain rfl : args = #[v0, v1, v2, v3] := by cases args; simp_all
  obtain ⟨rfl, rfl⟩ := trodVars_none hV
  have hb := bound hk
  obtain ⟨pn, rfl, rfl, rfl, wc⟩ := open_int Try.underlying5 (hval 0 5 v0 rfl rfl) h0
  obtain ⟨turn, rfl, rfl, rfl, _⟩ := open_int Try.underlying3 (hval 3 3 v3 rfl rfl) h3
  obtain ⟨s1, len1, cap1, rfl⟩ := okWide_slice Try.underlying22 (hval 1 22 v1 rfl rfl)
  obtain ⟨s2, len2, cap2, rfl⟩ := okWide_slice Try.underlying23 (hval 2 23 v2 rfl rfl)
  obtain ⟨n1, t1⟩ := h1
  obtain ⟨n2, t2⟩ := h2
  obtain ⟨⟨v, ps⟩, e1, hr, hl, hps⟩ := opensPrgs _ _ _ t1
  obtain ⟨⟨u, prio⟩, e2, hr2, hl2, _⟩ := opensInts _ _ _ t2
  obtain rfl : Value.slice s1 len1 cap1 = v := by simpa [Value.cells] using e1
  obtain rfl : Value.slice s2 len2 cap2 = u := by simpa [Value.cells] using e2
  simp only [List.append_nil, List.map_cons, List.sum_cons] at hb
  have hlen : ps.length + 1 ≤ Rows.uptoBulk d1 := hl
  have hlen2 : prio.length + 1 ≤ Rows.uptoBulk d2 := hl2
  have hp1 : ps.length ≤ 1000000000 := by omega
  have hp2 : prio.length ≤ 1000000000 := by omega
  have hcu : 0 ≤ pn ∧ pn ≤ 255 := bounds_u8 wc
  refine (Fn.done (Fn.emp (law18_Again (A := emp) (turn := turn) hcu (Rd.old hr) (fun x hx => (hps x hx).rd _) ⟨hp1, fun x hx => ?_⟩ (Rd.old hr2) hp2))).mono fun e W' ⟨he, hb⟩ => ?_
  · have h := hps x hx
    have := h.fl
    have := h.sl
    have := h.pl
    have hle : Rows.uptoBulk d1 ≤ 1048576 := by omega
    refine ⟨?_, ?_, ?_⟩ <;> refine Nat.le_trans ‹_› (Nat.le_trans ?_ (show 1048576 ≤ 1000000000 by decide)) <;> exact hle
  · exact ⟨_, he, law_post laid (by kernel_rfl) rfl (by kernel_rfl) Try.underlying4 hW' rfl rfl rfl hb⟩

set_option maxRecDepth 100000 in
theorem lifted (os : Os) (started : os.Started) (H : Type) (enc : TypeId × Value → H) (F : Stop.Interp) :
    ReturnsInHanded {} Try.checked os 3 .any ((Rows.OpenSpec.upto Rows.allocAgainSpec).pre6 enc Try.prog Try.f3 Rows.allocAgainUptoRow.domain false) (((Rows.OpenSpec.upto Rows.allocAgainSpec).at F).post enc Try.prog Try.f3 false true false false) := by
  refine returnsInHanded_of_cond (C := Try.checked) (s := Rows.OpenSpec.upto Rows.allocAgainSpec) (k := Rows.uptoSmall) rfl own started (by kernel_rfl) Try.func3
    (OpenSpec.witness (enc := enc) (C := Try.checked) (s := Rows.OpenSpec.upto Rows.allocAgainSpec) (k := Rows.uptoSmall) rfl false ⟨#[], #[.int .u8 0, .slice none 0 0, .slice none 0 0, .int .i64 0], []⟩ 8 (by kernel_rfl) (by kernel_rfl) (by kernel_rfl)
      (x := ([.lit (.int .u8 0), .nil, .nil, .lit (.int .i64 0)], [], [])) (by kernel_rfl) rfl (by kernel_rfl)) ?_
  intro W base args ds gs before hval hW _ hk _
  exact contract H enc W base args ds gs before hval hW hk

theorem over : Rows.allocAgainUptoRow.holds Try.pinned (Rows.OpenSpec.upto Rows.allocAgainSpec) :=
  OpenClaim.holds_of_cond 3 Try.f3 rfl rfl rfl rfl rfl rfl rfl ⟨rfl, rfl, rfl, rfl, rfl⟩ rfl rfl rfl rfl rfl (by kernel_rfl) Try.func3 (by kernel_rfl)
    (of_decide_eq_true (by kernel_rfl)) (by unfold Func.isWrapper; first | (rw [if_pos (by decide +kernel)]; kernel_rfl) | (rw [if_neg (by decide +kernel)]; exact ⟨rfl, rfl⟩))
    (fun os started H enc _ F => lifted os started H enc F)

theorem proved : Rows.AllocAgainUptoSaid := over
end Go.Proofs.Ytkflpgknieoknaa.allocAgain
