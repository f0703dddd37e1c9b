/- OneNone: whatever act, space and slot: the law's call returns true, and its arguments read as they did. Conditions: what is read is of bulk at most 1048576 (the statement's own). -/
import Derived.Test.YtpcjdohmjmeehaaGreatG05
import Derived.Test.YtpcjdohmjmeehaaGreatG10
namespace Go.Proofs.YtpcjdohmjmeehaaGreat.oneNone
open Go Go.RowKit Go.ChangeShapes Go.WideShapes Go.ChangeAt Go.SLYtpcjdohmjmeehaaGreat

set_option maxRecDepth 100000 in
theorem contract (H : Type) (enc : TypeId × Value → H) (W : World) (base : Nat) (args : Array Value) (ds gs : List (DataW H)) (before : List MemPlace)
    (hval : ∀ (j : Nat) t v, Tryz.f14.params[j]? = some t → args[j]? = some v → Value.okWide Tryz.prog W .any base t v)
    (hW : DataW.Whole enc Tryz.prog Tryz.f14.params.toList Rows.oneNoneSpec.vars false W args.toList ds gs before) (hk : Rows.uptoSmall H (ds ++ gs) = true) :
    Calls Tryz.prog 14 args W fun e W' => ∃ v, e = .returned v ∧ Rows.oneNoneSpec.post enc Tryz.prog Tryz.f14 false true false false W args v W' := by
  have hW' := hW
  obtain ⟨p, q, hA0, hV, rfl, hfz, hnd⟩ := hW
  have hA : DataW.TrodAll enc Tryz.prog W 0 (fun _ => true) true Tryz.f14.params.toList args.toList ds p := hA0
  rw [Tryz.params14] at hA hval
  obtain ⟨v0, vs0, d0, ds0, p0, q0, hargs, rfl, rfl, h0, r0⟩ := trodAll_cons hA
  obtain ⟨v1, vs1, d1, ds1, p1, q1, rfl, rfl, rfl, h1, r1⟩ := trodAll_cons r0
  obtain ⟨v2, vs2, d2, ds2, p2, q2, rfl, rfl, rfl, h2, r2⟩ := trodAll_cons r1
  obtain ⟨rfl, rfl, rfl⟩ := trodAll_nil r2
  obtain rfl : args = #[v0, v1, v2] := by cases args; simp_all
  obtain ⟨rfl, rfl⟩ := trodVars_none hV
  have hb := bound hk
  obtain ⟨cs0, rfl, _⟩ := okWide_struct Tryz.underlying85 (hval 0 85 v0 rfl rfl)
  obtain ⟨n0, t0⟩ := h0
  obtain ⟨x0, e0, hp0⟩ := opensAct _ _ _ t0
  obtain rfl : cs0 = (actE x0).toArray := by
    have h := e0
    simp only [Value.cells] at h
    rw [← h]
  obtain ⟨x1, rfl, rfl, rfl, w1⟩ := open_int Tryz.underlying3 (hval 1 3 v1 rfl rfl) h1
  obtain ⟨x2, rfl, rfl, rfl, w2⟩ := open_int Tryz.underlying3 (hval 2 3 v2 rfl rfl) h2
  simp only [List.append_nil, List.map_cons, List.sum_cons] at hb
  refine (Fn.done (law11_None (a := x0) (n := x1) (k := x2))).mono fun e W' ⟨he, hb⟩ => ?_
  exact ⟨_, he, law_post laid (by kernel_rfl) rfl (by kernel_rfl) Tryz.underlying4 hW' rfl rfl rfl hb⟩

set_option maxRecDepth 100000 in
theorem lifted (os : Os) (started : os.Started) (H : Type) (enc : TypeId × Value → H) (F : Stop.Interp) :
    ReturnsInHanded {} Tryz.checked os 14 .any ((Rows.OpenSpec.upto Rows.oneNoneSpec).pre6 enc Tryz.prog Tryz.f14 Rows.oneNoneUptoRow.domain false) (((Rows.OpenSpec.upto Rows.oneNoneSpec).at F).post enc Tryz.prog Tryz.f14 false true false false) := by
  refine returnsInHanded_of_cond (C := Tryz.checked) (s := Rows.OpenSpec.upto Rows.oneNoneSpec) (k := Rows.uptoSmall) rfl own started (by kernel_rfl) Tryz.func14
    (OpenSpec.witness (enc := enc) (C := Tryz.checked) (s := Rows.OpenSpec.upto Rows.oneNoneSpec) (k := Rows.uptoSmall) rfl false ⟨#[], #[.agg #[.int .i64 0, .int .i64 0, .int .i64 0, .int .i64 0], .int .i64 0, .int .i64 0], []⟩ 8 (by kernel_rfl) (by kernel_rfl) (by kernel_rfl)
      (x := ([.agg [.lit (.int .i64 0), .lit (.int .i64 0), .lit (.int .i64 0), .lit (.int .i64 0)], .lit (.int .i64 0), .lit (.int .i64 0)], [], [])) (by kernel_rfl) rfl (by kernel_rfl)) ?_
  intro W base args ds gs before hval hW _ hk _
  exact contract H enc W base args ds gs before hval hW hk

theorem c1 : (Rows.oneNoneUptoRow.inPlace == Tryz.prog.inPlace 14) = true := by kernel_rfl
theorem c2 : (Rows.oneNoneUptoRow.unfollowed == Tryz.prog.unfollowed 14) = true := by kernel_rfl
theorem c3 : (Rows.oneNoneUptoRow.recurses == Tryz.prog.recurses 14) = true := by kernel_rfl
theorem c4 : (Rows.oneNoneUptoRow.named == Tryz.prog.varsNamed 14) = true := by kernel_rfl
theorem closed : joinedFacts Tryz.prog 14 Tryz.f14 (Rows.OpenSpec.upto Rows.oneNoneSpec).bare Rows.oneNoneUptoRow = true := by
  unfold joinedFacts
  rw [c1, c2, c3, c4]
  kernel_rfl
theorem over : Rows.oneNoneUptoRow.holds Tryz.pinned (Rows.OpenSpec.upto Rows.oneNoneSpec) :=
  OpenClaim.holds_of_cond 14 Tryz.f14 rfl rfl rfl rfl rfl rfl rfl ⟨rfl, rfl, rfl, rfl, rfl⟩ rfl rfl rfl rfl rfl (by kernel_rfl) Tryz.func14 closed
    (of_decide_eq_true (by kernel_rfl)) (by unfold Func.isWrapper; first | (rw [if_pos (by decide +kernel)]; kernel_rfl) | (rw [if_neg (by decide +kernel)]; exact ⟨rfl, rfl⟩))
    (fun os started H enc _ F => lifted os started H enc F)

theorem proved : Rows.OneNoneUptoSaid := over
end Go.Proofs.YtpcjdohmjmeehaaGreat.oneNone
