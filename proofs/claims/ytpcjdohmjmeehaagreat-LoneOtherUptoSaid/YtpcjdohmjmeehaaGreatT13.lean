/- LoneOther: whatever programs, acts and spaces: the law's call returns true, and its arguments read as they did. Conditions: what is read is of bulk at most 1048576 (the statement's own). -/
import Derived.Test.YtpcjdohmjmeehaaGreatG05
import Derived.Test.YtpcjdohmjmeehaaGreatG10
namespace Go.Proofs.YtpcjdohmjmeehaaGreat.loneOther
open Go Go.RowKit Go.ChangeShapes Go.WideShapes Go.ChangeAt Go.SLYtpcjdohmjmeehaaGreat

set_option maxRecDepth 100000 in
theorem contract (H : Type) (enc : TypeId × Value → H) (W : World) (base : Nat) (args : Array Value) (ds gs : List (DataW H)) (before : List MemPlace)
    (hval : ∀ (j : Nat) t v, Tryz.f12.params[j]? = some t → args[j]? = some v → Value.okWide Tryz.prog W .any base t v)
    (hW : DataW.Whole enc Tryz.prog Tryz.f12.params.toList Rows.loneOtherSpec.vars false W args.toList ds gs before) (hk : Rows.uptoSmall H (ds ++ gs) = true) :
    Calls Tryz.prog 12 args W fun e W' => ∃ v, e = .returned v ∧ Rows.loneOtherSpec.post enc Tryz.prog Tryz.f12 false true false false W args v W' := by
  have hW' := hW
  obtain ⟨p, q, hA0, hV, rfl, hfz, hnd⟩ := hW
  have hA : DataW.TrodAll enc Tryz.prog W 0 (fun _ => true) true Tryz.f12.params.toList args.toList ds p := hA0
  rw [Tryz.params12] at hA hval
  obtain ⟨v0, vs0, d0, ds0, p0, q0, hargs, rfl, rfl, h0, r0⟩ := trodAll_cons hA
  obtain ⟨v1, vs1, d1, ds1, p1, q1, rfl, rfl, rfl, h1, r1⟩ := trodAll_cons r0
  obtain ⟨v2, vs2, d2, ds2, p2, q2, rfl, rfl, rfl, h2, r2⟩ := trodAll_cons r1
  obtain ⟨v3, vs3, d3, ds3, p3, q3, rfl, rfl, rfl, h3, r3⟩ := trodAll_cons r2
  obtain ⟨v4, vs4, d4, ds4, p4, q4, rfl, rfl, rfl, h4, r4⟩ := trodAll_cons r3
  obtain ⟨rfl, rfl, rfl⟩ := trodAll_nil r4
  obtain rfl : args = #[v0, v1, v2, v3, v4] := by cases args; simp_all
  obtain ⟨rfl, rfl⟩ := trodVars_none hV
  have hb := bound hk
  obtain ⟨s0, len0, cap0, rfl⟩ := okWide_slice Tryz.underlying79 (hval 0 79 v0 rfl rfl)
  obtain ⟨n0, t0⟩ := h0
  obtain ⟨⟨u0, xs0⟩, e0, hr0, hl0, hp0⟩ := opensPrgs _ _ _ t0
  obtain rfl : Value.slice s0 len0 cap0 = u0 := by simpa [Value.cells] using e0
  have hll0 : xs0.length + 1 ≤ Rows.uptoBulk d0 := hl0
  obtain ⟨cs1, rfl, _⟩ := okWide_struct Tryz.underlying25 (hval 1 25 v1 rfl rfl)
  obtain ⟨n1, t1⟩ := h1
  obtain ⟨x1, e1, hp1⟩ := opensPrg _ _ _ t1
  obtain rfl : cs1 = (prgE x1).toArray := by
    have h := e1
    simp only [Value.cells] at h
    rw [← h]
  obtain ⟨s2, len2, cap2, rfl⟩ := okWide_slice Tryz.underlying80 (hval 2 80 v2 rfl rfl)
  obtain ⟨n2, t2⟩ := h2
  obtain ⟨⟨u2, xs2⟩, e2, hr2, hl2, hp2⟩ := opensActs _ _ _ t2
  obtain rfl : Value.slice s2 len2 cap2 = u2 := by simpa [Value.cells] using e2
  have hll2 : xs2.length + 1 ≤ Rows.uptoBulk d2 := hl2
  obtain ⟨x3, rfl, rfl, rfl, w3⟩ := open_int Tryz.underlying5 (hval 3 5 v3 rfl rfl) h3
  have hx3 : 0 ≤ x3 ∧ x3 ≤ 255 := bounds_u8 w3
  obtain ⟨x4, rfl, rfl, rfl, w4⟩ := open_int Tryz.underlying5 (hval 4 5 v4 rfl rfl) h4
  have hx4 : 0 ≤ x4 ∧ x4 ≤ 255 := bounds_u8 w4
  simp only [List.append_nil, List.map_cons, List.sum_cons] at hb
  have hlen0 : xs0.length ≤ 1000000000 := by omega
  have hle0 : Rows.uptoBulk d0 ≤ 1000000000 := by omega
  have hbb0 : xs0.length ≤ 1000000000 ∧ ∀ p ∈ xs0, p.fs.length ≤ 1000000000 ∧ p.sems.length ≤ 1000000000 ∧ p.pipes.length ≤ 1000000000 := ⟨hlen0, fun p hp => ⟨Nat.le_trans (hp0 p hp).fl hle0, Nat.le_trans (hp0 p hp).sl hle0, Nat.le_trans (hp0 p hp).pl hle0⟩⟩
  have hw0 : ∀ p ∈ xs0.map PrgV.p, ∀ f ∈ p.funcs, ∀ i ∈ f, W64 i.n := fun p hp => by
    obtain ⟨q, hq, rfl⟩ := List.mem_map.1 hp
    exact (hp0 q hq).wo
  have hle1 : Rows.uptoBulk d1 ≤ 1000000000 := by omega
  have hlen2 : xs2.length ≤ 1000000000 := by omega
  refine (Fn.done (Fn.emp (law24_Other (A := emp) (Rd.old hr0) (fun p hp => (hp0 p hp).rd _) hbb0 hw0 (hp1.rd _) ⟨Nat.le_trans hp1.fl hle1, Nat.le_trans hp1.sl hle1, Nat.le_trans hp1.pl hle1⟩ hp1.wo (Rd.old hr2) hlen2 hx3 hx4))).mono fun e W' ⟨he, hb⟩ => ?_
  exact ⟨_, he, law_post laid (by kernel_rfl) rfl (by kernel_rfl) Tryz.underlying4 hW' rfl rfl rfl hb⟩

set_option maxRecDepth 100000 in
theorem lifted (os : Os) (started : os.Started) (H : Type) (enc : TypeId × Value → H) (F : Stop.Interp) :
    ReturnsInHanded {} Tryz.checked os 12 .any ((Rows.OpenSpec.upto Rows.loneOtherSpec).pre6 enc Tryz.prog Tryz.f12 Rows.loneOtherUptoRow.domain false) (((Rows.OpenSpec.upto Rows.loneOtherSpec).at F).post enc Tryz.prog Tryz.f12 false true false false) := by
  refine returnsInHanded_of_cond (C := Tryz.checked) (s := Rows.OpenSpec.upto Rows.loneOtherSpec) (k := Rows.uptoSmall) rfl own started (by kernel_rfl) Tryz.func12
    (OpenSpec.witness (enc := enc) (C := Tryz.checked) (s := Rows.OpenSpec.upto Rows.loneOtherSpec) (k := Rows.uptoSmall) rfl false ⟨#[], #[.slice none 0 0, .agg #[.slice none 0 0, .int .i64 0, .int .i64 0, .int .i64 0, .slice none 0 0, .slice none 0 0, .int .i64 0, .int .i64 0], .slice none 0 0, .int .u8 0, .int .u8 0], []⟩ 8 (by kernel_rfl) (by kernel_rfl) (by kernel_rfl)
      (x := ([.nil, .agg [.nil, .lit (.int .i64 0), .lit (.int .i64 0), .lit (.int .i64 0), .nil, .nil, .lit (.int .i64 0), .lit (.int .i64 0)], .nil, .lit (.int .u8 0), .lit (.int .u8 0)], [], [])) (by kernel_rfl) rfl (by kernel_rfl)) ?_
  intro W base args ds gs before hval hW _ hk _
  exact contract H enc W base args ds gs before hval hW hk

theorem c1 : (Rows.loneOtherUptoRow.inPlace == Tryz.prog.inPlace 12) = true := by kernel_rfl
theorem c2 : (Rows.loneOtherUptoRow.unfollowed == Tryz.prog.unfollowed 12) = true := by kernel_rfl
theorem c3 : (Rows.loneOtherUptoRow.recurses == Tryz.prog.recurses 12) = true := by kernel_rfl
theorem c4 : (Rows.loneOtherUptoRow.named == Tryz.prog.varsNamed 12) = true := by kernel_rfl
theorem closed : joinedFacts Tryz.prog 12 Tryz.f12 (Rows.OpenSpec.upto Rows.loneOtherSpec).bare Rows.loneOtherUptoRow = true := by
  unfold joinedFacts
  rw [c1, c2, c3, c4]
  kernel_rfl
theorem over : Rows.loneOtherUptoRow.holds Tryz.pinned (Rows.OpenSpec.upto Rows.loneOtherSpec) :=
  OpenClaim.holds_of_cond 12 Tryz.f12 rfl rfl rfl rfl rfl rfl rfl ⟨rfl, rfl, rfl, rfl, rfl⟩ rfl rfl rfl rfl rfl (by kernel_rfl) Tryz.func12 closed
    (of_decide_eq_true (by kernel_rfl)) (by unfold Func.isWrapper; first | (rw [if_pos (by decide +kernel)]; kernel_rfl) | (rw [if_neg (by decide +kernel)]; exact ⟨rfl, rfl⟩))
    (fun os started H enc _ F => lifted os started H enc F)

theorem proved : Rows.LoneOtherUptoSaid := over
end Go.Proofs.YtpcjdohmjmeehaaGreat.loneOther
