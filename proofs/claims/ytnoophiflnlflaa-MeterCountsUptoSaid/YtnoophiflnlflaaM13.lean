/- MeterCounts: whatever records in two lists: the law's call returns true, and its arguments read as they did. Conditions: what is read is of bulk at most 1048576 (the statement's own). -/
import Derived.Test.YtnoophiflnlflaaM9
import Derived.Test.YtnoophiflnlflaaM12
namespace Go.Proofs.Ytnoophiflnlflaa
open Go Go.RowKit Go.ChangeShapes Go.WideShapes Go.ChangeAt Go.SLYtnoophiflnlflaa Go.Proofs.YtnoophiflnlflaaX
section
variable {H : Type} {enc : TypeId × Value → H} {W : World}
theorem opensRec : Opens enc Try.prog W Rows.uptoBulk 41 recE (fun _ _ => True) := fun fuel cs x h => by
  obtain ⟨hl, hf⟩ := open_struct bulkOk Try.underlying41 (by kernel_rfl) (by
    intro i f hi
    match i, hi with
    | 0, hi => cases hi; exact ⟨rfl, by kernel_rfl⟩
    | 1, hi => cases hi; exact ⟨rfl, by kernel_rfl⟩
    | 2, hi => cases hi; exact ⟨rfl, by kernel_rfl⟩
    | 3, hi => cases hi; exact ⟨rfl, by kernel_rfl⟩
    | 4, hi => cases hi; exact ⟨rfl, by kernel_rfl⟩
    | 5, hi => cases hi; exact ⟨rfl, by kernel_rfl⟩
    | n + 6, hi => simp at hi) h
  obtain ⟨v0, n0, y0, e0, t0, _⟩ := hf 0 _ rfl
  obtain ⟨v1, n1, y1, e1, t1, _⟩ := hf 1 _ rfl
  obtain ⟨v2, n2, y2, e2, t2, _⟩ := hf 2 _ rfl
  obtain ⟨v3, n3, y3, e3, t3, _⟩ := hf 3 _ rfl
  obtain ⟨v4, n4, y4, e4, t4, _⟩ := hf 4 _ rfl
  obtain ⟨v5, n5, y5, e5, t5, _⟩ := hf 5 _ rfl
  obtain ⟨a0, r0, _, _⟩ := DataW.trod_int (show Try.prog.underlying _ = some (.int .u64) by kernel_rfl) t0
  obtain ⟨a1, r1, _, _⟩ := DataW.trod_int Try.underlying3 t1
  obtain ⟨a2, r2, _, _⟩ := DataW.trod_int (show Try.prog.underlying _ = some (.int .u64) by kernel_rfl) t2
  obtain ⟨a3, r3, _, _⟩ := DataW.trod_int (show Try.prog.underlying _ = some (.int .u64) by kernel_rfl) t3
  obtain ⟨a4, r4, _, _⟩ := DataW.trod_int (show Try.prog.underlying _ = some (.int .i64) by kernel_rfl) t4
  obtain ⟨a5, r5, _⟩ := DataW.trod_bool (show Try.prog.underlying _ = some .bool by kernel_rfl) t5
  cases r0; cases r1; cases r2; cases r3; cases r4; cases r5
  refine ⟨⟨a0, a1, a2, a3, a4, a5⟩, ?_, trivial⟩
  match cs, hl with
  | [w0, w1, w2, w3, w4, w5], _ =>
    simp at e0 e1 e2 e3 e4 e5
    subst e0 e1 e2 e3 e4 e5
    rfl
theorem opensRecs : Opens enc Try.prog W Rows.uptoBulk 22 (fun p : Value × List RecV => [p.1]) (fun p n => RdAt W recE 6 p.1 p.2 ∧ p.2.length + 1 ≤ n ∧ ∀ a ∈ p.2, True) :=
  Opens.slice bulkOk Try.underlying22 (by kernel_rfl) (by decide) (fun _ => rfl) opensRec (fun _ _ _ _ _ => trivial)
end
end Go.Proofs.Ytnoophiflnlflaa

namespace Go.Proofs.Ytnoophiflnlflaa.meterCounts
open Go Go.RowKit Go.ChangeShapes Go.WideShapes Go.ChangeAt Go.SLYtnoophiflnlflaa Go.Proofs.YtnoophiflnlflaaX

theorem contract (H : Type) (enc : TypeId × Value → H) (W : World) (base : Nat) (args : Array Value) (ds gs : List (DataW H)) (before : List MemPlace)
    (hval : ∀ (j : Nat) t v, Try.f3.params[j]? = some t → args[j]? = some v → Value.okWide Try.prog W .any base t v)
    (hW : DataW.Whole enc Try.prog Try.f3.params.toList Rows.meterCountsSpec.vars false W args.toList ds gs before) (hk : Rows.uptoSmall H (ds ++ gs) = true) :
    Calls Try.prog 3 args W fun e W' => ∃ v, e = .returned v ∧ Rows.meterCountsSpec.post enc Try.prog Try.f3 false true false false W args v W' := by
  have hW' := hW
  obtain ⟨p, q, hA0, hV, rfl, hfz, hnd⟩ := hW
  have hA : DataW.TrodAll enc Try.prog W 0 (fun _ => true) true Try.f3.params.toList args.toList ds p := hA0
  rw [Try.params3] at hA hval
  obtain ⟨v0, vs0, d0, ds0, p0, q0, hargs, rfl, rfl, h0, r0⟩ := trodAll_cons hA
  obtain ⟨v1, vs1, d1, ds1, p1, q1, rfl, rfl, rfl, h1, r1⟩ := trodAll_cons r0
  obtain ⟨rfl, rfl, rfl⟩ := trodAll_nil r1
  obtain rfl : args = #[v0, v1] := by cases args; simp_all
  obtain ⟨rfl, rfl⟩ := trodVars_none hV
  have hb := bound hk
  obtain ⟨s0, len0, cap0, rfl⟩ := okWide_slice Try.underlying22 (hval 0 22 v0 rfl rfl)
  obtain ⟨s1, len1, cap1, rfl⟩ := okWide_slice Try.underlying22 (hval 1 22 v1 rfl rfl)
  obtain ⟨n0, t0⟩ := h0
  obtain ⟨n1, t1⟩ := h1
  obtain ⟨⟨va, la⟩, e0, hra, hla, _⟩ := opensRecs _ _ _ t0
  obtain ⟨⟨vb, lb⟩, e1, hrb, hlb, _⟩ := opensRecs _ _ _ t1
  obtain rfl : Value.slice s0 len0 cap0 = va := by simpa [Value.cells] using e0
  obtain rfl : Value.slice s1 len1 cap1 = vb := by simpa [Value.cells] using e1
  have hsum : la.length ≤ 1048576 ∧ lb.length ≤ 1048576 := by
    simp only [List.append_nil, List.map_cons, List.sum_cons, List.map_nil, List.sum_nil] at hb
    have h1 : la.length + 1 ≤ Rows.uptoBulk d0 := hla
    have h2 : lb.length + 1 ≤ Rows.uptoBulk d1 := hlb
    omega
  refine (Fn.done (MeterCounts_fn hra hrb hsum.1 hsum.2)).mono fun e W' ⟨he, hb⟩ => ?_
  exact ⟨_, he, law_post laid (by kernel_rfl) rfl (by kernel_rfl) Try.underlying4 hW' rfl rfl rfl hb⟩

set_option maxRecDepth 100000 in
theorem lifted (os : Os) (started : os.Started) (H : Type) (enc : TypeId × Value → H) (F : Stop.Interp) :
    ReturnsInHanded {} Try.checked os 3 .any ((Rows.OpenSpec.upto Rows.meterCountsSpec).pre6 enc Try.prog Try.f3 Rows.meterCountsUptoRow.domain false) (((Rows.OpenSpec.upto Rows.meterCountsSpec).at F).post enc Try.prog Try.f3 false true false false) := by
  refine returnsInHanded_of_cond (C := Try.checked) (s := Rows.OpenSpec.upto Rows.meterCountsSpec) (k := Rows.uptoSmall) rfl own started (by kernel_rfl) Try.func3
    (OpenSpec.witness (enc := enc) (C := Try.checked) (s := Rows.OpenSpec.upto Rows.meterCountsSpec) (k := Rows.uptoSmall) rfl false ⟨#[], #[.slice none 0 0, .slice none 0 0], []⟩ 8 (by kernel_rfl) (by kernel_rfl) (by kernel_rfl)
      (x := ([.nil, .nil], [], [])) (by kernel_rfl) rfl (by kernel_rfl)) ?_
  intro W base args ds gs before hval hW _ hk _
  exact contract H enc W base args ds gs before hval hW hk

theorem over : Rows.meterCountsUptoRow.holds Try.pinned (Rows.OpenSpec.upto Rows.meterCountsSpec) :=
  OpenClaim.holds_of_cond 3 Try.f3 rfl rfl rfl rfl rfl rfl rfl ⟨rfl, rfl, rfl, rfl, rfl⟩ rfl rfl rfl rfl rfl (by kernel_rfl) Try.func3 (by kernel_rfl)
    (of_decide_eq_true (by kernel_rfl)) (by unfold Func.isWrapper; first | (rw [if_pos (by decide +kernel)]; kernel_rfl) | (rw [if_neg (by decide +kernel)]; exact ⟨rfl, rfl⟩))
    (fun os started H enc _ F => lifted os started H enc F)

theorem proved : Rows.MeterCountsUptoSaid := over
end Go.Proofs.Ytnoophiflnlflaa.meterCounts
