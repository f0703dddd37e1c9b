/- LoneActs: whatever acts and space: the law's call returns true, and its arguments read as they did. Conditions: what is read is of bulk at most 1048576 (the statement's own). -/
import Derived.Test.YtpcjdohmjmeehaaGreatG05
import Derived.Test.YtpcjdohmjmeehaaGreatG10
namespace Go.Proofs.YtpcjdohmjmeehaaGreat.loneActs
open Go Go.RowKit Go.ChangeShapes Go.WideShapes Go.ChangeAt Go.SLYtpcjdohmjmeehaaGreat

set_option maxRecDepth 100000 in
theorem contract (H : Type) (enc : TypeId × Value → H) (W : World) (base : Nat) (args : Array Value) (ds gs : List (DataW H)) (before : List MemPlace)
    (hval : ∀ (j : Nat) t v, Tryz.f10.params[j]? = some t → args[j]? = some v → Value.okWide Tryz.prog W .any base t v)
    (hW : DataW.Whole enc Tryz.prog Tryz.f10.params.toList Rows.loneActsSpec.vars false W args.toList ds gs before) (hk : Rows.uptoSmall H (ds ++ gs) = true) :
    Calls Tryz.prog 10 args W fun e W' => ∃ v, e = .returned v ∧ Rows.loneActsSpec.post enc Tryz.prog Tryz.f10 false true false false W args v W' := by
  have hW' := hW
  obtain ⟨p, q, hA0, hV, rfl, hfz, hnd⟩ := hW
  have hA : DataW.TrodAll enc Tryz.prog W 0 (fun _ => true) true Tryz.f10.params.toList args.toList ds p := hA0
  rw [Tryz.params10] at hA hval
  obtain ⟨v0, vs0, d0, ds0, p0, q0, hargs, rfl, rfl, h0, r0⟩ := trodAll_cons hA
  obtain ⟨v1, vs1, d1, ds1, p1, q1, rfl, rfl, rfl, h1, r1⟩ := trodAll_cons r0
  obtain ⟨rfl, rfl, rfl⟩ := trodAll_nil r1
  obtain rfl : args = #[v0, v1] := by cases args; simp_all
  obtain ⟨rfl, rfl⟩ := trodVars_none hV
  have hb := bound hk
  obtain ⟨s0, len0, cap0, rfl⟩ := okWide_slice Tryz.underlying80 (hval 0 80 v0 rfl rfl)
  obtain ⟨n0, t0⟩ := h0
  obtain ⟨⟨u0, xs0⟩, e0, hr0, hl0, hp0⟩ := opensActs _ _ _ t0
  obtain rfl : Value.slice s0 len0 cap0 = u0 := by simpa [Value.cells] using e0
  have hll0 : xs0.length + 1 ≤ Rows.uptoBulk d0 := hl0
  obtain ⟨x1, rfl, rfl, rfl, w1⟩ := open_int Tryz.underlying3 (hval 1 3 v1 rfl rfl) h1
  simp only [List.append_nil, List.map_cons, List.sum_cons] at hb
  have hlen0 : xs0.length ≤ 1000000000 := by omega
  refine (Fn.done (Fn.emp (law24_Acts (A := emp) (n := x1) (Rd.old hr0) hlen0))).mono fun e W' ⟨he, hb⟩ => ?_
  exact ⟨_, he, law_post laid (by kernel_rfl) rfl (by kernel_rfl) Tryz.underlying4 hW' rfl rfl rfl hb⟩

set_option maxRecDepth 100000 in
theorem lifted (os : Os) (started : os.Started) (H : Type) (enc : TypeId × Value → H) (F : Stop.Interp) :
    ReturnsInHanded {} Tryz.checked os 10 .any ((Rows.OpenSpec.upto Rows.loneActsSpec).pre6 enc Tryz.prog Tryz.f10 Rows.loneActsUptoRow.domain false) (((Rows.OpenSpec.upto Rows.loneActsSpec).at F).post enc Tryz.prog Tryz.f10 false true false false) := by
  refine returnsInHanded_of_cond (C := Tryz.checked) (s := Rows.OpenSpec.upto Rows.loneActsSpec) (k := Rows.uptoSmall) rfl own started (by kernel_rfl) Tryz.func10
    (OpenSpec.witness (enc := enc) (C := Tryz.checked) (s := Rows.OpenSpec.upto Rows.loneActsSpec) (k := Rows.uptoSmall) rfl false ⟨#[], #[.slice none 0 0, .int .i64 0], []⟩ 8 (by kernel_rfl) (by kernel_rfl) (by kernel_rfl)
      (x := ([.nil, .lit (.int .i64 0)], [], [])) (by kernel_rfl) rfl (by kernel_rfl)) ?_
  intro W base args ds gs before hval hW _ hk _
  exact contract H enc W base args ds gs before hval hW hk

theorem c1 : (Rows.loneActsUptoRow.inPlace == Tryz.prog.inPlace 10) = true := by kernel_rfl
theorem c2 : (Rows.loneActsUptoRow.unfollowed == Tryz.prog.unfollowed 10) = true := by kernel_rfl
theorem c3 : (Rows.loneActsUptoRow.recurses == Tryz.prog.recurses 10) = true := by kernel_rfl
theorem c4 : (Rows.loneActsUptoRow.named == Tryz.prog.varsNamed 10) = true := by kernel_rfl
theorem closed : joinedFacts Tryz.prog 10 Tryz.f10 (Rows.OpenSpec.upto Rows.loneActsSpec).bare Rows.loneActsUptoRow = true := by
  unfold joinedFacts
  rw [c1, c2, c3, c4]
  kernel_rfl
theorem over : Rows.loneActsUptoRow.holds Tryz.pinned (Rows.OpenSpec.upto Rows.loneActsSpec) :=
  OpenClaim.holds_of_cond 10 Tryz.f10 rfl rfl rfl rfl rfl rfl rfl ⟨rfl, rfl, rfl, rfl, rfl⟩ rfl rfl rfl rfl rfl (by kernel_rfl) Tryz.func10 closed
    (of_decide_eq_true (by kernel_rfl)) (by unfold Func.isWrapper; first | (rw [if_pos (by decide +kernel)]; kernel_rfl) | (rw [if_neg (by decide +kernel)]; exact ⟨rfl, rfl⟩))
    (fun os started H enc _ F => lifted os started H enc F)

theorem proved : Rows.LoneActsUptoSaid := over
end Go.Proofs.YtpcjdohmjmeehaaGreat.loneActs
