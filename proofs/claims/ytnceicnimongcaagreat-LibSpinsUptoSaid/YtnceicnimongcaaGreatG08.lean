/- Walks of functions, and what they compute. Conditions: none, this text proves no statement. -/
import Derived.Test.YtnceicnimongcaaGreatG05
import Derived.Test.YtnceicnimongcaaGreatProg
import Derived.Test.YtnceicnimongcaaGreatG03
import Derived.KernelRfl
import Derived.Test.YtnceicnimongcaaGreatG06
import Derived.Test.YtnceicnimongcaaGreatG07
set_option maxRecDepth 20000
namespace Go.SLYtnceicnimongcaaGreat
open Go Go.RowKit Go.Proofs Go.Proofs.Tryz

theorem num_of {W : World} {a : Int} : Fn Tryz.prog W 171 [.int .u64 a] [] Unit (fun _ => .float .f64 a.toNat) (fun _ => True) (fun _ => []) := by
  refine Fn.intro (N := 5) func171 rfl ntmps171 rfl fun F => ?_
  show GoC _ _ _ _ _ _ [F]
  refine .s (.r (.p (.a rfl) (.n (.t (.s (.r (.p (.m rfl) ?_)))))))
  refine .p (.ext (e := Extern.MathFloatBits.float64frombits) func187 rfl rfl rfl (by kernel_rfl) rfl (fun w => rfl)) ?_
  refine .p (.a rfl) (.n (.t (.e (.ret1 rfl rfl fun w s => ⟨(), ?_, trivial, finE .auto s⟩))))
  rfl

theorem math_IsNaN {W : World} {n : Nat} : Fn Tryz.prog W 193 [.float .f64 n] [] Unit (fun _ => .bool (fOrd n n != some .eq)) (fun _ => True) (fun _ => []) := by
  refine Fn.intro (N := 6) func193 rfl ntmps193 rfl fun F => ?_
  show GoC _ _ _ _ _ _ [F]
  refine .s (.r (.p (.a rfl) (.n (.t (.s (.r (.p (.m rfl) (.p (.m rfl) ?_))))))))
  refine .p (.fNeq rfl rfl (fun w => rfl)) ?_
  refine .p (.a rfl) (.n (.t (.e (.ret1 rfl rfl fun w s => ⟨(), ?_, trivial, finE .auto s⟩))))
  rfl

theorem num_isNone {W : World} {n : Nat} : Fn Tryz.prog W 176 [.float .f64 n] [] Unit (fun _ => .bool (fOrd n n != some .eq)) (fun _ => True) (fun _ => []) := by
  refine Fn.intro (N := 5) func176 rfl ntmps176 rfl fun F => ?_
  show GoC _ _ _ _ _ _ [F]
  refine .s (.r (.p (.a rfl) (.n (.t (.s (.r (.p (.m rfl) ?_)))))))
  refine .does rfl (Does.callE rfl call193 rfl math_IsNaN .auto) ?_
  rintro _ _ ⟨⟨⟩, -, rfl, rfl⟩
  refine .p (.a rfl) (.n (.t (.e (.ret1 rfl rfl fun w s => ⟨(), ?_, trivial, finE .auto s⟩))))
  rfl

theorem num_word {W : World} {n : Nat} : Fn Tryz.prog W 172 [.float .f64 n] [] Unit (fun _ => .int .u64 (fClean (n : Int))) (fun _ => True) (fun _ => []) := by
  refine Fn.intro (N := 7) func172 rfl ntmps172 rfl fun F => ?_
  show GoC _ _ _ _ _ _ [F]
  refine .s (.r (.p (.a rfl) (.n (.t (.s (.s (.r (.p (.m rfl) ?_))))))))
  refine .does rfl (Does.callE rfl call176 rfl num_isNone .auto) ?_
  rintro _ _ ⟨⟨⟩, -, rfl, rfl⟩
  refine .n (.t (.cond rfl (fun h4 => ?_) (fun h4 => ?_)))
  · refine .s (.r (.p (.a rfl) (.n (.t (.e (.tr (.ret1 rfl rfl fun w s => ⟨(), ?_, trivial, finE .auto s⟩)))))))
    rw [clean_nat, if_pos h4]; rfl
  · refine .v (.t (.s (.r (.p (.m rfl) ?_))))
    refine .p (.ext (e := Extern.MathFloatBits.float64bits) func188 rfl rfl rfl (by kernel_rfl) rfl (fun w => rfl)) ?_
    refine .p (.a rfl) (.n (.t (.e (.ret1 rfl rfl fun w s => ⟨(), ?_, trivial, finE .auto s⟩))))
    rw [clean_nat, if_neg (by rw [h4]; simp)]

theorem num_Add {W : World} {a b : Int} : Fn Tryz.prog W 149 [.int .u64 a, .int .u64 b] [] Unit (fun _ => .int .u64 (fAdd a b)) (fun _ => True) (fun _ => []) := by
  refine Fn.intro (N := 11) func149 rfl ntmps149 rfl fun F => ?_
  show GoC _ _ _ _ _ _ [F]
  refine .s (.r (.p (.a rfl) (.n (.t (.s (.r (.p (.m rfl) ?_)))))))
  refine .does rfl (Does.callE rfl call171 rfl num_of .auto) ?_
  rintro _ _ ⟨⟨⟩, -, rfl, rfl⟩
  refine .p (.m rfl) ?_
  refine .does rfl (Does.callE rfl call171 rfl num_of .auto) ?_
  rintro _ _ ⟨⟨⟩, -, rfl, rfl⟩
  refine .does rfl (Does.fBin (Ieee.double.add _ _) rfl rfl rfl (fun w => rfl)) ?_
  rintro _ _ ⟨r9, hr9, rfl, rfl⟩
  refine .does rfl (Does.callE rfl call172 rfl num_word .auto) ?_
  rintro _ _ ⟨⟨⟩, -, rfl, rfl⟩
  refine .p (.a rfl) (.n (.t (.e (.ret1 rfl rfl fun w s => ⟨(), ?_, trivial, finE .auto s⟩))))
  rw [out_res hr9]; rfl

theorem num_Sub {W : World} {a b : Int} : Fn Tryz.prog W 150 [.int .u64 a, .int .u64 b] [] Unit (fun _ => .int .u64 (fSub a b)) (fun _ => True) (fun _ => []) := by
  refine Fn.intro (N := 11) func150 rfl ntmps150 rfl fun F => ?_
  show GoC _ _ _ _ _ _ [F]
  refine .s (.r (.p (.a rfl) (.n (.t (.s (.r (.p (.m rfl) ?_)))))))
  refine .does rfl (Does.callE rfl call171 rfl num_of .auto) ?_
  rintro _ _ ⟨⟨⟩, -, rfl, rfl⟩
  refine .p (.m rfl) ?_
  refine .does rfl (Does.callE rfl call171 rfl num_of .auto) ?_
  rintro _ _ ⟨⟨⟩, -, rfl, rfl⟩
  refine .does rfl (Does.fBin (Ieee.double.sub _ _) rfl rfl rfl (fun w => rfl)) ?_
  rintro _ _ ⟨r9, hr9, rfl, rfl⟩
  refine .does rfl (Does.callE rfl call172 rfl num_word .auto) ?_
  rintro _ _ ⟨⟨⟩, -, rfl, rfl⟩
  refine .p (.a rfl) (.n (.t (.e (.ret1 rfl rfl fun w s => ⟨(), ?_, trivial, finE .auto s⟩))))
  rw [out_res hr9]; rfl

theorem num_Mul {W : World} {a b : Int} : Fn Tryz.prog W 151 [.int .u64 a, .int .u64 b] [] Unit (fun _ => .int .u64 (fMul a b)) (fun _ => True) (fun _ => []) := by
  refine Fn.intro (N := 11) func151 rfl ntmps151 rfl fun F => ?_
  show GoC _ _ _ _ _ _ [F]
  refine .s (.r (.p (.a rfl) (.n (.t (.s (.r (.p (.m rfl) ?_)))))))
  refine .does rfl (Does.callE rfl call171 rfl num_of .auto) ?_
  rintro _ _ ⟨⟨⟩, -, rfl, rfl⟩
  refine .p (.m rfl) ?_
  refine .does rfl (Does.callE rfl call171 rfl num_of .auto) ?_
  rintro _ _ ⟨⟨⟩, -, rfl, rfl⟩
  refine .does rfl (Does.fBin (Ieee.double.mul _ _) rfl rfl rfl (fun w => rfl)) ?_
  rintro _ _ ⟨r9, hr9, rfl, rfl⟩
  refine .does rfl (Does.callE rfl call172 rfl num_word .auto) ?_
  rintro _ _ ⟨⟨⟩, -, rfl, rfl⟩
  refine .p (.a rfl) (.n (.t (.e (.ret1 rfl rfl fun w s => ⟨(), ?_, trivial, finE .auto s⟩))))
  rw [out_res hr9]; rfl

theorem num_Div {W : World} {a b : Int} : Fn Tryz.prog W 152 [.int .u64 a, .int .u64 b] [] Unit (fun _ => .int .u64 (fDiv a b)) (fun _ => True) (fun _ => []) := by
  refine Fn.intro (N := 11) func152 rfl ntmps152 rfl fun F => ?_
  show GoC _ _ _ _ _ _ [F]
  refine .s (.r (.p (.a rfl) (.n (.t (.s (.r (.p (.m rfl) ?_)))))))
  refine .does rfl (Does.callE rfl call171 rfl num_of .auto) ?_
  rintro _ _ ⟨⟨⟩, -, rfl, rfl⟩
  refine .p (.m rfl) ?_
  refine .does rfl (Does.callE rfl call171 rfl num_of .auto) ?_
  rintro _ _ ⟨⟨⟩, -, rfl, rfl⟩
  refine .does rfl (Does.fBin (Ieee.double.div _ _) rfl rfl rfl (fun w => rfl)) ?_
  rintro _ _ ⟨r9, hr9, rfl, rfl⟩
  refine .does rfl (Does.callE rfl call172 rfl num_word .auto) ?_
  rintro _ _ ⟨⟨⟩, -, rfl, rfl⟩
  refine .p (.a rfl) (.n (.t (.e (.ret1 rfl rfl fun w s => ⟨(), ?_, trivial, finE .auto s⟩))))
  rw [out_res hr9]; rfl

theorem math_Min {W : World} {m n : Nat} : Fn Tryz.prog W 173 [.float .f64 m, .float .f64 n] [] Unit (fun _ => .float .f64 (archPick true .lt m n)) (fun _ => True) (fun _ => []) := by
  refine Fn.intro (N := 11) func173 rfl ntmps173 rfl fun F => ?_
  show GoC _ _ _ _ _ _ [F]
  refine .s (.r (.p (.a rfl) (.n (.t (.s (.condT rfl ?_))))))
  refine .s (.r (.p (.m rfl) (.p (.m rfl) ?_)))
  refine .p (.ext (e := Extern.MathDim.pick "math.archMin" true .lt) func189 rfl rfl rfl (by kernel_rfl) rfl (fun w => rfl)) ?_
  refine .p (.a rfl) (.n (.t (.e (.tr (.ret1 rfl rfl fun w s => ⟨(), ?_, trivial, finE .auto s⟩)))))
  rfl

theorem math_Max {W : World} {m n : Nat} : Fn Tryz.prog W 175 [.float .f64 m, .float .f64 n] [] Unit (fun _ => .float .f64 (archPick false .gt m n)) (fun _ => True) (fun _ => []) := by
  refine Fn.intro (N := 11) func175 rfl ntmps175 rfl fun F => ?_
  show GoC _ _ _ _ _ _ [F]
  refine .s (.r (.p (.a rfl) (.n (.t (.s (.condT rfl ?_))))))
  refine .s (.r (.p (.m rfl) (.p (.m rfl) ?_)))
  refine .p (.ext (e := Extern.MathDim.pick "math.archMax" false .gt) func191 rfl rfl rfl (by kernel_rfl) rfl (fun w => rfl)) ?_
  refine .p (.a rfl) (.n (.t (.e (.tr (.ret1 rfl rfl fun w s => ⟨(), ?_, trivial, finE .auto s⟩)))))
  rfl

theorem num_nan {W : World} {n : Nat} {a b : Int} (ha : 0 ≤ a) (hb : 0 ≤ b) : Fn Tryz.prog W 174 [.float .f64 n, .int .u64 a, .int .u64 b] [] Unit (fun _ => .int .u64 (if (fNan a || fNan b) = true then fNone else fClean (n : Int))) (fun _ => True) (fun _ => []) := by
  refine Fn.intro (N := 17) func174 rfl ntmps174 rfl fun F => ?_
  show GoC _ _ _ _ _ _ [F]
  refine .s (.r (.p (.a rfl) (.n (.t (.s (.s (.r (.p (.m rfl) ?_))))))))
  refine .does rfl (Does.callE rfl call171 rfl num_of .auto) ?_
  rintro _ _ ⟨⟨⟩, -, rfl, rfl⟩
  refine .does rfl (Does.callE rfl call176 rfl num_isNone .auto) ?_
  rintro _ _ ⟨⟨⟩, -, rfl, rfl⟩
  refine .p (.m rfl) ?_
  apply GoL.segO 4 14 10 [10, 11, 12, 13, 14] rfl
  · intro h10
    refine .g (.m rfl) ?_
    refine .dg rfl rfl rfl (Does.callE rfl call171 rfl num_of .auto) ?_
    rintro _ _ ⟨⟨⟩, -, rfl, rfl⟩
    refine .dg rfl rfl rfl (Does.callE rfl call176 rfl num_isNone .auto) ?_
    rintro _ _ ⟨⟨⟩, -, rfl, rfl⟩
    refine .p (.u rfl rfl) (.n ?_)
    refine .seg .auto rfl (by first | exact fun _ h => h | exact Ent.kept .auto)
  · intro h10
    refine .u (.u (.u (.p (.t rfl rfl) (.n ?_))))
    refine .seg .auto rfl (by first | exact fun _ h => h | exact Ent.kept .auto)
  refine .n (.t (.cond rfl (fun h14 => ?_) (fun h14 => ?_)))
  · rw [nan_toNat ha, nan_toNat hb] at h14
    refine .s (.r (.p (.a rfl) (.n (.t (.e (.tr (.ret1 rfl rfl fun w s => ⟨(), ?_, trivial, finE .auto s⟩)))))))
    rw [if_pos h14]; rfl
  · rw [nan_toNat ha, nan_toNat hb] at h14
    refine .v (.t (.s (.r (.p (.m rfl) ?_))))
    refine .does rfl (Does.callE rfl call172 rfl num_word .auto) ?_
    rintro _ _ ⟨⟨⟩, -, rfl, rfl⟩
    refine .p (.a rfl) (.n (.t (.e (.ret1 rfl rfl fun w s => ⟨(), ?_, trivial, finE .auto s⟩))))
    rw [if_neg (by rw [h14]; simp)]

theorem num_Min {W : World} {a b : Int} (ha : 0 ≤ a) (hb : 0 ≤ b) : Fn Tryz.prog W 153 [.int .u64 a, .int .u64 b] [] Unit (fun _ => .int .u64 (fMinW a b)) (fun _ => True) (fun _ => []) := by
  refine Fn.intro (N := 13) func153 rfl ntmps153 rfl fun F => ?_
  show GoC _ _ _ _ _ _ [F]
  refine .s (.r (.p (.a rfl) (.n (.t (.s (.r (.p (.m rfl) ?_)))))))
  refine .does rfl (Does.callE rfl call171 rfl num_of .auto) ?_
  rintro _ _ ⟨⟨⟩, -, rfl, rfl⟩
  refine .p (.m rfl) ?_
  refine .does rfl (Does.callE rfl call171 rfl num_of .auto) ?_
  rintro _ _ ⟨⟨⟩, -, rfl, rfl⟩
  refine .does rfl (Does.callE rfl call173 rfl math_Min .auto) ?_
  rintro _ _ ⟨⟨⟩, -, rfl, rfl⟩
  refine .p (.m rfl) (.p (.m rfl) ?_)
  refine .does rfl (Does.callE rfl call174 rfl (num_nan ha hb) .auto) ?_
  rintro _ _ ⟨⟨⟩, -, rfl, rfl⟩
  refine .p (.a rfl) (.n (.t (.e (.ret1 rfl rfl fun w s => ⟨(), ?_, trivial, finE .auto s⟩))))
  rfl

theorem num_Max {W : World} {a b : Int} (ha : 0 ≤ a) (hb : 0 ≤ b) : Fn Tryz.prog W 154 [.int .u64 a, .int .u64 b] [] Unit (fun _ => .int .u64 (fMaxW a b)) (fun _ => True) (fun _ => []) := by
  refine Fn.intro (N := 13) func154 rfl ntmps154 rfl fun F => ?_
  show GoC _ _ _ _ _ _ [F]
  refine .s (.r (.p (.a rfl) (.n (.t (.s (.r (.p (.m rfl) ?_)))))))
  refine .does rfl (Does.callE rfl call171 rfl num_of .auto) ?_
  rintro _ _ ⟨⟨⟩, -, rfl, rfl⟩
  refine .p (.m rfl) ?_
  refine .does rfl (Does.callE rfl call171 rfl num_of .auto) ?_
  rintro _ _ ⟨⟨⟩, -, rfl, rfl⟩
  refine .does rfl (Does.callE rfl call175 rfl math_Max .auto) ?_
  rintro _ _ ⟨⟨⟩, -, rfl, rfl⟩
  refine .p (.m rfl) (.p (.m rfl) ?_)
  refine .does rfl (Does.callE rfl call174 rfl (num_nan ha hb) .auto) ?_
  rintro _ _ ⟨⟨⟩, -, rfl, rfl⟩
  refine .p (.a rfl) (.n (.t (.e (.ret1 rfl rfl fun w s => ⟨(), ?_, trivial, finE .auto s⟩))))
  rfl

theorem num_Less {W : World} {a b : Int} : Fn Tryz.prog W 155 [.int .u64 a, .int .u64 b] [] Unit (fun _ => .bool (fLt a b)) (fun _ => True) (fun _ => []) := by
  refine Fn.intro (N := 10) func155 rfl ntmps155 rfl fun F => ?_
  show GoC _ _ _ _ _ _ [F]
  refine .s (.r (.p (.a rfl) (.n (.t (.s (.r (.p (.m rfl) ?_)))))))
  refine .does rfl (Does.callE rfl call171 rfl num_of .auto) ?_
  rintro _ _ ⟨⟨⟩, -, rfl, rfl⟩
  refine .p (.m rfl) ?_
  refine .does rfl (Does.callE rfl call171 rfl num_of .auto) ?_
  rintro _ _ ⟨⟨⟩, -, rfl, rfl⟩
  refine .p (.fLss rfl rfl) (.p (.a rfl) (.n (.t (.e (.ret1 rfl rfl fun w s => ⟨(), ?_, trivial, finE .auto s⟩)))))
  rfl

theorem num_ToInt {W : World} {a : Int} (ha : 0 ≤ a) : Fn Tryz.prog W 156 [.int .u64 a] [] Unit (fun _ => .int .u64 (fToInt a)) (fun _ => True) (fun _ => []) := by
  refine Fn.intro (N := 18) func156 rfl ntmps156 rfl fun F => ?_
  show GoC _ _ _ _ _ _ [F]
  refine .s (.r (.p (.a rfl) (.n (.t (.s (.r (.p (.m rfl) ?_)))))))
  refine .does rfl (Does.callE rfl call171 rfl num_of .auto) ?_
  rintro _ _ ⟨⟨⟩, -, rfl, rfl⟩
  refine .p (.a rfl) (.n (.t (.b (.s (.r (.p (.m rfl) ?_))))))
  refine .does rfl (Does.callE rfl call176 rfl num_isNone .auto) ?_
  rintro _ _ ⟨⟨⟩, -, rfl, rfl⟩
  refine .p (.a rfl) (.n (.t (.cond rfl (fun h9 => ?_) (fun h9 => ?_))))
  · refine .s (.r (.p (.a rfl) (.n (.t (.e (.br (.ret1 rfl rfl fun w s => ⟨(), ?_, trivial, finE .auto s⟩)))))))
    rw [fToInt, if_pos (by rw [← nan_toNat ha]; exact h9)]
  · refine .s (.r (.p (.m rfl) (.p (.fGeq rfl rfl) (.p (.a rfl) (.n (.t (.cond rfl (fun h12 => ?_) (fun h12 => ?_))))))))
    · have g12 : (Ieee.double.order a.toNat fFar == some .gt || Ieee.double.order a.toNat fFar == some .eq) = true := h12
      refine .s (.r (.p (.a rfl) (.n (.t (.e (.br (.ret1 rfl rfl fun w s => ⟨(), ?_, trivial, finE .auto s⟩)))))))
      rw [fToInt, if_neg (by rw [← nan_toNat ha, h9]; simp), if_pos g12]
    · have g12 : (Ieee.double.order a.toNat fFar == some .gt || Ieee.double.order a.toNat fFar == some .eq) = false := h12
      refine .s (.r (.p (.m rfl) (.p (.fLss rfl rfl) (.p (.a rfl) (.n (.t (.cond rfl (fun h15 => ?_) (fun h15 => ?_))))))))
      · have g15 : (Ieee.double.order a.toNat fMFar == some .lt) = true := h15
        refine .s (.r (.p (.a rfl) (.n (.t (.e (.br (.ret1 rfl rfl fun w s => ⟨(), ?_, trivial, finE .auto s⟩)))))))
        rw [fToInt, if_neg (by rw [← nan_toNat ha, h9]; simp), if_neg (by rw [g12]; simp), if_pos g15]
      · have g15 : (Ieee.double.order a.toNat fMFar == some .lt) = false := h15
        refine .s (.r (.p (.m rfl) ?_))
        obtain ⟨k, hk, hk1, hk2⟩ := toInt_ok2 h9 g12 g15
        refine .p (.toIntF (fun w => run_toInt hk hk1 hk2) rfl) ?_
        refine .p (.conv underlying2 underlying78 rfl) ?_
        refine .p (.a rfl) (.n (.t (.e (.br (.ret1 rfl rfl fun w s => ⟨(), ?_, trivial, finE .auto s⟩)))))
        rw [fToInt, if_neg (by rw [← nan_toNat ha, h9]; simp), if_neg (by rw [g12]; simp), if_neg (by rw [g15]; simp), hk]; exact retI (wrap_w64 k)

theorem num_ToFloat {W : World} {a : Int} : Fn Tryz.prog W 157 [.int .u64 a] [] Unit (fun _ => .int .u64 (fToFloat a)) (fun _ => True) (fun _ => []) := by
  refine Fn.intro (N := 7) func157 rfl ntmps157 rfl fun F => ?_
  show GoC _ _ _ _ _ _ [F]
  refine .s (.r (.p (.a rfl) (.n (.t (.s (.r (.p (.m rfl) ?_)))))))
  refine .p (.conv underlying78 underlying2 rfl) ?_
  refine .p (.toFloat (fun w => rfl) rfl) ?_
  refine .does rfl (Does.callE rfl call172 rfl num_word .auto) ?_
  rintro _ _ ⟨⟨⟩, -, rfl, rfl⟩
  refine .p (.a rfl) (.n (.t (.e (.ret1 rfl rfl fun w s => ⟨(), ?_, trivial, finE .auto s⟩))))
  rfl

end Go.SLYtnceicnimongcaaGreat
namespace Go.SLYtnceicnimongcaaGreat
open Go Go.RowKit Go.Proofs Go.Proofs.Tryz

theorem frame_Next {W : World} {A : HProp} {fv c1 c2 c3 c4 c5 c6 c7 : Value} {fs : List (Value × List Ins)} {f : Frm} {p : Prg} (hr : Rd W [A] fstE 1 fv fs) (hi : ∀ x ∈ fs, Rd W [A] insE 5 x.1 x.2) (hp : fs.map (·.2) = p.funcs) (_hl : fs.length ≤ 1000000) (_hl2 : ∀ x ∈ fs, x.2.length ≤ 1000000) : Fn Tryz.prog W 81 [.agg #[fv, c1, c2, c3, c4, c5, c6, c7], .agg (frmE f).toArray] [A] Unit (fun _ => nextR (nextI p f)) (fun _ => True) (fun _ => [A]) := by
  refine Fn.intro (N := 45) func81 rfl ntmps81 rfl fun F => ?_
  haveI hRI : ∀ (H : List HProp) [HasH H A], ReadsC W H fv fstE 1 fs := fun H h => ⟨hr.at h.has⟩
  show GoC _ _ _ _ _ _ [A, F]
  obtain ⟨x, hxd⟩ : ∃ x : Value × List Ins, fs.getD f.fn.toNat (.slice none 0 0, []) = x := ⟨_, rfl⟩
  have hx : f.fn.toNat < fs.length → fs[f.fn.toNat]? = some x := fun h => hxd ▸ getD_some h
  refine .s (.r ?_)
  refine .does rfl (Does.box rfl rfl rfl) ?_
  rintro _ _ ⟨b2, rfl, rfl⟩
  refine .mem (H' := [arr b2 0 [fv, c1, c2, c3, c4, c5, c6, c7], A, F]) (fun w s => s) ?_
  refine .does rfl (Does.box rfl rfl rfl) ?_
  rintro _ _ ⟨b3, rfl, rfl⟩
  refine .mem (H' := [arr b3 0 (frmE f), arr b2 0 [fv, c1, c2, c3, c4, c5, c6, c7], A, F]) (fun w s => s) ?_
  refine .does rfl (Does.alloc rfl zeroValue80 rfl) ?_
  rintro _ _ ⟨b4, rfl, rfl⟩
  refine .p (.a rfl) (.n (.t (.s (.s ?_))))
  refine .draw [] [1, 1, 1, 1, 1, 1, 1, 1, 1, 1, 1, 1, 1, 1, 1, 1, 1, 1, 1, 1, 1, 1, 1, 1, 1, 1, 1, 1] rfl (by kernel_rfl) ?_
  refine .p (.z rfl) (.p (.l rfl) (.p (.lss rfl rfl) (.p (.m rfl) ?_)))
  apply GoK.segOD 7 16 9 [9, 10, 11, 12, 13, 14, 15, 16] rfl
  · intro h9
    refine .g (.z rfl) (.g (.l rfl) (.g (.z rfl) (.g (.l rfl) (.g (.len rfl) (.g (.geq rfl rfl) (.p (.u rfl rfl) (.n ?_)))))))
    refine .seg .auto rfl (by first | exact fun _ h => h | exact Ent.kept .auto)
  · intro h9
    refine .w (.w (.w (.w (.w (.w (.p (.t rfl rfl) (.n ?_)))))))
    refine .seg .auto rfl (by first | exact fun _ h => h | exact Ent.kept .auto)
  refine .p (.m rfl) ?_
  apply GoK.segO 4 21 17 [17, 18, 19, 20, 21] rfl
  · intro h17
    refine .g (.f rfl) (.g (.l rfl) (.g (.lss rfl rfl) (.p (.u rfl rfl) (.n ?_))))
    refine .seg .auto rfl (by first | exact fun _ h => h | exact Ent.kept .auto)
  · intro h17
    refine .w (.w (.w (.p (.t rfl rfl) (.n ?_))))
    refine .seg .auto rfl (by first | exact fun _ h => h | exact Ent.kept .auto)
  refine .p (.m rfl) ?_
  apply GoK.segO 11 33 22 [22, 23, 24, 25, 26, 27, 28, 29, 30, 31, 32, 33] rfl
  · intro h22
    simp only [Bool.or_eq_false_iff, decide_eq_false_iff_not] at h22
    have hlt : f.fn.toNat < fs.length := by omega
    have hix := hi x (List.mem_of_getElem? (hx hlt))
    haveI hI4 : ∀ (H : List HProp) [HasH H A], ReadsC W H x.1 insE 5 x.2 := fun H h => ⟨hix.at h.has⟩
    refine .g (.f rfl) (.g (.l rfl) (.g (.z rfl) (.g (.l rfl) (.g (.z rfl) (.g (.l rfl) ?_)))))
    refine .g (.ix f.fn.toNat rfl rfl (by omega) hlt) ?_
    refine .g (.ld rfl (Cell.rd0 Rd.s (hx hlt) (by rfl))) ?_
    refine .g (.len rfl) (.g (.geq rfl rfl) (.p (.u rfl rfl) (.n ?_)))
    refine .seg .auto rfl (by first | exact fun _ h => h | exact Ent.kept .auto)
  · intro h22
    refine .w (.w (.w (.w (.w (.w (.w (.w (.w (.w (.p (.t rfl rfl) (.n ?_)))))))))))
    refine .seg .auto rfl (by first | exact fun _ h => h | exact Ent.kept .auto)
  refine .n (.t (.cond rfl (fun h33 => ?_) (fun h33 => ?_)))
  · refine .s (.r ?_)
    refine .p (.bld0 ([(.int .i64 0), (.int .i64 0), (.int .i64 0), (.int .i64 0), (.int .u64 0)]) (by kernel_rfl)) ?_
    refine .does rfl (Does.sta (by exact sizeOf80) rfl rfl rfl (by rfl)) ?_
    rintro _ _ ⟨rfl, rfl⟩
    refine .p (.a rfl) (.n (.t (.e (.tr ?_))))
    refine .retCT rfl rfl isAgg80 (by exact sizeOf80) Cells.a rfl fun w s => ⟨(), ?_, trivial, finE .auto s⟩
    rw [next_no (z := (.slice none 0 0, [])) hp (by rw [hxd]; exact h33) rfl]; rfl
  · refine .v (.t (.s ?_))
    refine .draw [] [1, 1, 1, 1, 1, 1, 1, 1, 1, 1, 3, 1] rfl (by kernel_rfl) ?_
    simp only [Bool.or_eq_false_iff, decide_eq_false_iff_not] at h33
    have hlt : f.fn.toNat < fs.length := by omega
    have hix := hi x (List.mem_of_getElem? (hx hlt))
    haveI hI4 : ∀ (H : List HProp) [HasH H A], ReadsC W H x.1 insE 5 x.2 := fun H h => ⟨hix.at h.has⟩
    obtain ⟨i, hin⟩ := at_some (show f.pc.toNat < x.2.length by omega)
    refine .p (.z rfl) (.p (.l rfl) (.p (.z rfl) (.p (.l rfl) ?_)))
    refine .p (.ix f.fn.toNat rfl rfl (by omega) hlt) ?_
    refine .p (.ld rfl (Cell.rd0 Rd.s (hx hlt) (by rfl))) ?_
    refine .p (.f rfl) (.p (.l rfl) ?_)
    refine .p (.ix f.pc.toNat rfl rfl (by omega) (by omega)) ?_
    refine .p (.la rfl (Cells.rd Rd.s hin)) ?_
    refine .d3 rfl (Does.sta (by exact sizeOf80) rfl rfl rfl (by rfl)) ?_
    rintro _ _ ⟨rfl, rfl⟩
    refine .p (.a rfl) (.n (.t (.e ?_)))
    refine .retCT rfl rfl isAgg80 (by exact sizeOf80) Cells.a rfl fun w s => ⟨(), ?_, trivial, finE .auto s⟩
    rw [next_yes hp (by omega) (by omega) (hx hlt) hin]; rfl

theorem frame_yes {W : World} {b : Bool} : Fn Tryz.prog W 148 [.bool b] [] Unit (fun _ => .int .u64 (yesI b)) (fun _ => True) (fun _ => []) := by
  refine Fn.intro (N := 4) func148 rfl ntmps148 rfl fun F => ?_
  show GoC _ _ _ _ _ _ [F]
  refine .s (.r (.p (.a rfl) (.n (.t (.s (.s (.r (.p (.m rfl) (.n (.t (.cond rfl (fun h => ?_) (fun h => ?_))))))))))))
  · refine .s (.r (.p (.a rfl) (.n (.t (.e (.tr (.ret1 rfl rfl fun w s => ⟨(), ?_, trivial, finE .auto s⟩)))))))
    subst h; rfl
  · refine .v (.t (.s (.r (.p (.a rfl) (.n (.t (.e (.ret1 rfl rfl fun w s => ⟨(), ?_, trivial, finE .auto s⟩))))))))
    subst h; rfl

theorem frame_short {W : World} {n : Int} : Fn Tryz.prog W 134 [.int .i64 n] [] Unit (fun _ => .bool (shortB n)) (fun _ => True) (fun _ => []) := by
  refine Fn.intro (N := 13) func134 rfl ntmps134 rfl fun F => ?_
  show GoC _ _ _ _ _ _ [F]
  refine .s (.r (.p (.a rfl) (.n (.t (.s (.r (.p (.m rfl) (.p (.eql rfl rfl) (.p (.m rfl) ?_)))))))))
  apply GoL.segOD 3 8 5 [5, 6, 7, 8] rfl
  · intro h5
    refine .g (.m rfl) (.g (.eql rfl rfl) (.p (.u rfl rfl) (.n ?_)))
    refine .seg .auto rfl (by first | exact fun _ h => h | exact Ent.kept .auto)
  · intro h5
    refine .u (.u (.p (.t rfl rfl) (.n ?_)))
    refine .seg .auto rfl (by first | exact fun _ h => h | exact Ent.kept .auto)
  refine .p (.m rfl) ?_
  apply GoL.segO 3 12 9 [9, 10, 11, 12] rfl
  · intro h9
    refine .g (.m rfl) (.g (.eql rfl rfl) (.p (.u rfl rfl) (.n ?_)))
    refine .seg .auto rfl (by first | exact fun _ h => h | exact Ent.kept .auto)
  · intro h9
    refine .u (.u (.p (.t rfl rfl) (.n ?_)))
    refine .seg .auto rfl (by first | exact fun _ h => h | exact Ent.kept .auto)
  refine .p (.a rfl) (.n (.t (.e (.ret1 rfl rfl fun w s => ⟨(), ?_, trivial, finE .auto s⟩))))
  rfl

theorem frame_Arith {W : World} {op a b : Int} (ha : 0 ≤ a) (hb : 0 ≤ b) : Fn Tryz.prog W 135 [.int .i64 op, .int .u64 a, .int .u64 b] [] Bool (fun t => .tuple #[.int .u64 (arithI op a b), .bool t]) (fun _ => True) (fun _ => []) := by
  refine Fn.intro (N := 77) func135 rfl ntmps135 rfl fun F => ?_
  show GoC _ _ _ _ _ _ [F]
  refine .s (.r (.p (.a rfl) (.p (.a rfl) (.n (.t (.s (.s (.r (.p (.m rfl) (.n (.t (.b (.s (.r (.p (.eql rfl rfl) (.p (.a rfl) (.n (.t (.condD rfl (fun h9 => ?_) (fun h9 => ?_))))))))))))))))))))
  · refine .s (.r (.p (.m rfl) (.p (.a rfl) (.p (.a rfl) (.n (.t (.e (.br (.tr (.ret2 rfl rfl rfl fun w s => ⟨true, ?_, trivial, finE .auto s⟩))))))))))
    rw [show arithI op a b = a from by unfold arithI; rw [if_pos h9]]
  · refine .s (.r (.p (.eql rfl rfl) (.p (.a rfl) (.n (.t (.condD rfl (fun h12 => ?_) (fun h12 => ?_)))))))
    · refine .s (.r (.p (.m rfl) (.p (.m rfl) (.p (.addW rfl rfl) (.p (.a rfl) (.p (.a rfl) (.n (.t (.e (.br (.tr (.ret2 rfl rfl rfl fun w s => ⟨true, ?_, trivial, finE .auto s⟩))))))))))))
      rw [show arithI op a b = w64 (a + b) from by unfold arithI; rw [if_neg h9, if_pos h12]]
      rfl
    · refine .s (.r (.p (.eql rfl rfl) (.p (.a rfl) (.n (.t (.condD rfl (fun h17 => ?_) (fun h17 => ?_)))))))
      · refine .s (.r (.p (.m rfl) (.p (.m rfl) (.p (.subW rfl rfl) (.p (.a rfl) (.p (.a rfl) (.n (.t (.e (.br (.tr (.ret2 rfl rfl rfl fun w s => ⟨true, ?_, trivial, finE .auto s⟩))))))))))))
        rw [show arithI op a b = w64 (a - b) from by unfold arithI; rw [if_neg h9, if_neg h12, if_pos h17]]
        rfl
      · refine .s (.r (.p (.eql rfl rfl) (.p (.a rfl) (.n (.t (.condD rfl (fun h22 => ?_) (fun h22 => ?_)))))))
        · refine .s (.r (.p (.m rfl) (.p (.m rfl) (.p (.mulW rfl rfl) (.p (.a rfl) (.p (.a rfl) (.n (.t (.e (.br (.tr (.ret2 rfl rfl rfl fun w s => ⟨true, ?_, trivial, finE .auto s⟩))))))))))))
          rw [show arithI op a b = w64 (a * b) from by unfold arithI; rw [if_neg h9, if_neg h12, if_neg h17, if_pos h22]]
          rfl
        · refine .s (.r (.p (.eql rfl rfl) (.p (.a rfl) (.n (.t (.condD rfl (fun h27 => ?_) (fun h27 => ?_)))))))
          · refine .s (.r (.p (.m rfl) (.p (.m rfl) (.p (.lss rfl rfl) ?_))))
            refine .does rfl (Does.callE rfl call148 rfl frame_yes .auto) ?_
            rintro _ _ ⟨⟨⟩, -, rfl, rfl⟩
            refine .p (.a rfl) (.p (.a rfl) (.n (.t (.e (.br (.tr (.ret2 rfl rfl rfl fun w s => ⟨true, ?_, trivial, finE .auto s⟩)))))))
            rw [show arithI op a b = yesI (decide (a < b)) from by unfold arithI; rw [if_neg h9, if_neg h12, if_neg h17, if_neg h22, if_pos h27]]
          · refine .s (.r (.p (.eql rfl rfl) (.p (.a rfl) (.n (.t (.condD rfl (fun h33 => ?_) (fun h33 => ?_)))))))
            · refine .s (.r (.p (.m rfl) (.p (.m rfl) ?_)))
              refine .does rfl (Does.callE rfl call149 rfl num_Add .auto) ?_
              rintro _ _ ⟨⟨⟩, -, rfl, rfl⟩
              refine .p (.a rfl) (.p (.a rfl) (.n (.t (.e (.br (.tr (.ret2 rfl rfl rfl fun w s => ⟨true, ?_, trivial, finE .auto s⟩)))))))
              rw [show arithI op a b = fAdd a b from by unfold arithI; rw [if_neg h9, if_neg h12, if_neg h17, if_neg h22, if_neg h27, if_pos h33]]
            · refine .s (.r (.p (.eql rfl rfl) (.p (.a rfl) (.n (.t (.condD rfl (fun h38 => ?_) (fun h38 => ?_)))))))
              · refine .s (.r (.p (.m rfl) (.p (.m rfl) ?_)))
                refine .does rfl (Does.callE rfl call150 rfl num_Sub .auto) ?_
                rintro _ _ ⟨⟨⟩, -, rfl, rfl⟩
                refine .p (.a rfl) (.p (.a rfl) (.n (.t (.e (.br (.tr (.ret2 rfl rfl rfl fun w s => ⟨true, ?_, trivial, finE .auto s⟩)))))))
                rw [show arithI op a b = fSub a b from by unfold arithI; rw [if_neg h9, if_neg h12, if_neg h17, if_neg h22, if_neg h27, if_neg h33, if_pos h38]]
              · refine .s (.r (.p (.eql rfl rfl) (.p (.a rfl) (.n (.t (.condD rfl (fun h43 => ?_) (fun h43 => ?_)))))))
                · refine .s (.r (.p (.m rfl) (.p (.m rfl) ?_)))
                  refine .does rfl (Does.callE rfl call151 rfl num_Mul .auto) ?_
                  rintro _ _ ⟨⟨⟩, -, rfl, rfl⟩
                  refine .p (.a rfl) (.p (.a rfl) (.n (.t (.e (.br (.tr (.ret2 rfl rfl rfl fun w s => ⟨true, ?_, trivial, finE .auto s⟩)))))))
                  rw [show arithI op a b = fMul a b from by unfold arithI; rw [if_neg h9, if_neg h12, if_neg h17, if_neg h22, if_neg h27, if_neg h33, if_neg h38, if_pos h43]]
                · refine .s (.r (.p (.eql rfl rfl) (.p (.a rfl) (.n (.t (.condD rfl (fun h48 => ?_) (fun h48 => ?_)))))))
                  · refine .s (.r (.p (.m rfl) (.p (.m rfl) ?_)))
                    refine .does rfl (Does.callE rfl call152 rfl num_Div .auto) ?_
                    rintro _ _ ⟨⟨⟩, -, rfl, rfl⟩
                    refine .p (.a rfl) (.p (.a rfl) (.n (.t (.e (.br (.tr (.ret2 rfl rfl rfl fun w s => ⟨true, ?_, trivial, finE .auto s⟩)))))))
                    rw [show arithI op a b = fDiv a b from by unfold arithI; rw [if_neg h9, if_neg h12, if_neg h17, if_neg h22, if_neg h27, if_neg h33, if_neg h38, if_neg h43, if_pos h48]]
                  · refine .s (.r (.p (.eql rfl rfl) (.p (.a rfl) (.n (.t (.condD rfl (fun h53 => ?_) (fun h53 => ?_)))))))
                    · refine .s (.r (.p (.m rfl) (.p (.m rfl) ?_)))
                      refine .does rfl (Does.callE rfl call153 rfl (num_Min ha hb) .auto) ?_
                      rintro _ _ ⟨⟨⟩, -, rfl, rfl⟩
                      refine .p (.a rfl) (.p (.a rfl) (.n (.t (.e (.br (.tr (.ret2 rfl rfl rfl fun w s => ⟨true, ?_, trivial, finE .auto s⟩)))))))
                      rw [show arithI op a b = fMinW a b from by unfold arithI; rw [if_neg h9, if_neg h12, if_neg h17, if_neg h22, if_neg h27, if_neg h33, if_neg h38, if_neg h43, if_neg h48, if_pos h53]]
                    · refine .s (.r (.p (.eql rfl rfl) (.p (.a rfl) (.n (.t (.condD rfl (fun h58 => ?_) (fun h58 => ?_)))))))
                      · refine .s (.r (.p (.m rfl) (.p (.m rfl) ?_)))
                        refine .does rfl (Does.callE rfl call154 rfl (num_Max ha hb) .auto) ?_
                        rintro _ _ ⟨⟨⟩, -, rfl, rfl⟩
                        refine .p (.a rfl) (.p (.a rfl) (.n (.t (.e (.br (.tr (.ret2 rfl rfl rfl fun w s => ⟨true, ?_, trivial, finE .auto s⟩)))))))
                        rw [show arithI op a b = fMaxW a b from by unfold arithI; rw [if_neg h9, if_neg h12, if_neg h17, if_neg h22, if_neg h27, if_neg h33, if_neg h38, if_neg h43, if_neg h48, if_neg h53, if_pos h58]]
                      · refine .s (.r (.p (.eql rfl rfl) (.p (.a rfl) (.n (.t (.condD rfl (fun h63 => ?_) (fun h63 => ?_)))))))
                        · refine .s (.r (.p (.m rfl) (.p (.m rfl) ?_)))
                          refine .does rfl (Does.callE rfl call155 rfl num_Less .auto) ?_
                          rintro _ _ ⟨⟨⟩, -, rfl, rfl⟩
                          refine .does rfl (Does.callE rfl call148 rfl frame_yes .auto) ?_
                          rintro _ _ ⟨⟨⟩, -, rfl, rfl⟩
                          refine .p (.a rfl) (.p (.a rfl) (.n (.t (.e (.br (.tr (.ret2 rfl rfl rfl fun w s => ⟨true, ?_, trivial, finE .auto s⟩)))))))
                          rw [show arithI op a b = yesI (fLt a b) from by unfold arithI; rw [if_neg h9, if_neg h12, if_neg h17, if_neg h22, if_neg h27, if_neg h33, if_neg h38, if_neg h43, if_neg h48, if_neg h53, if_neg h58, if_pos h63]]
                        · refine .s (.r (.p (.eql rfl rfl) (.p (.a rfl) (.n (.t (.condD rfl (fun h69 => ?_) (fun h69 => ?_)))))))
                          · refine .s (.r (.p (.m rfl) ?_))
                            refine .does rfl (Does.callE rfl call156 rfl (num_ToInt ha) .auto) ?_
                            rintro _ _ ⟨⟨⟩, -, rfl, rfl⟩
                            refine .p (.a rfl) (.p (.a rfl) (.n (.t (.e (.br (.tr (.ret2 rfl rfl rfl fun w s => ⟨true, ?_, trivial, finE .auto s⟩)))))))
                            rw [show arithI op a b = fToInt a from by unfold arithI; rw [if_neg h9, if_neg h12, if_neg h17, if_neg h22, if_neg h27, if_neg h33, if_neg h38, if_neg h43, if_neg h48, if_neg h53, if_neg h58, if_neg h63, if_pos h69]]
                          · refine .s (.r (.p (.eql rfl rfl) (.p (.a rfl) (.n (.t (.condD rfl (fun h73 => ?_) (fun h73 => ?_)))))))
                            · refine .s (.r (.p (.m rfl) ?_))
                              refine .does rfl (Does.callE rfl call157 rfl num_ToFloat .auto) ?_
                              rintro _ _ ⟨⟨⟩, -, rfl, rfl⟩
                              refine .p (.a rfl) (.p (.a rfl) (.n (.t (.e (.br (.tr (.ret2 rfl rfl rfl fun w s => ⟨true, ?_, trivial, finE .auto s⟩)))))))
                              rw [show arithI op a b = fToFloat a from by unfold arithI; rw [if_neg h9, if_neg h12, if_neg h17, if_neg h22, if_neg h27, if_neg h33, if_neg h38, if_neg h43, if_neg h48, if_neg h53, if_neg h58, if_neg h63, if_neg h69, if_pos h73]]
                            · refine .v (.b (.t (.s (.r (.p (.a rfl) (.p (.a rfl) (.n (.t (.e (.ret2 rfl rfl rfl fun w s => ⟨false, ?_, trivial, finE .auto s⟩))))))))))
                              rw [show arithI op a b = 0 from by unfold arithI; rw [if_neg h9, if_neg h12, if_neg h17, if_neg h22, if_neg h27, if_neg h33, if_neg h38, if_neg h43, if_neg h48, if_neg h53, if_neg h58, if_neg h63, if_neg h69, if_neg h73]]

theorem frame_reg {W : World} {b : Nat} {n : Int} (hn : 0 ≤ n ∧ n < 8) : Fn Tryz.prog W 132 [ptr b, .int .i64 n] [] Unit (fun _ => .pointer (some ⟨b, 2 + n.toNat, none⟩)) (fun _ => True) (fun _ => []) := by
  refine Fn.intro (N := 19) func132 rfl ntmps132 rfl fun F => ?_
  show GoC _ _ _ _ _ _ [F]
  refine .s (.r (.p (.a rfl) (.n (.t (.s (.s (.r (.p (.m rfl) (.p (.lss rfl rfl) (.p (.m rfl) ?_))))))))))
  apply GoL.segOD 3 10 7 [7, 8, 9, 10] rfl
  · intro h7
    refine .g (.m rfl) (.g (.geq rfl rfl) (.p (.u rfl rfl) (.n ?_)))
    refine .seg .auto rfl (by first | exact fun _ h => h | exact Ent.kept .auto)
  · intro h7
    refine .u (.u (.p (.t rfl rfl) (.n ?_)))
    refine .seg .auto rfl (by first | exact fun _ h => h | exact Ent.kept .auto)
  refine .n (.t (.cond rfl (fun h10 => ?_) (fun h10 => ?_)))
  · simp only [Bool.or_eq_true, decide_eq_true_eq] at h10
    exact absurd h10 (by omega)
  · simp only [Bool.or_eq_false_iff, decide_eq_false_iff_not] at h10
    refine .v (.t (.s (.r (.p (.m rfl) (.p (.m rfl) (.p (.n rfl) (.p (.z rfl) (.p (.f rfl) ?_))))))))
    refine .p (.ixArr n.toNat underlying126 sizeOf78 rfl rfl (by omega) (by omega)) ?_
    refine .p (.a rfl) (.n (.t (.e (.ret1 rfl rfl fun w s => ⟨(), ?_, trivial, finE .auto s⟩))))
    rw [Nat.mul_one]

theorem frame_cell {W : World} {b : Nat} {f : Frm} {v : Value} {m : List Int} {at_ : Int} (h0 : 0 ≤ at_) (hl : m.length ≤ 1000000) : FnB Tryz.prog W 133 [ptr b, .int .u64 at_] [arr b 0 (dwC f v), sl wrdE 1 v m] Unit (fun _ => if at_ < m.length then .returned (.pointer (some ⟨blk v, ofs v + at_.toNat * 1, none⟩)) else .panicked (stopC 196 6)) (fun _ => True) (fun _ => [arr b 0 (dwC f v), sl wrdE 1 v m]) := by
  refine FnB.intro (N := 21) func133 rfl ntmps133 rfl fun F => ?_
  show GoC _ _ _ _ _ _ [arr b 0 (dwC f v), sl wrdE 1 v m, F]
  refine .s (.r (.p (.a rfl) (.n (.t (.s (.s (.r (.p (.m rfl) (.p (.m rfl) (.p (.n rfl) (.p (.f rfl) (.p (.l rfl) (.p (.len rfl) ?_)))))))))))))
  refine .p (.convU underlying3 underlying78 rfl (by omega)) ?_
  refine .p (.geq rfl rfl) (.n (.t (.condD rfl (fun h12 => ?_) (fun h12 => ?_))))
  · refine .r ?_
    refine .p (.bld1 (fun v1 => [v1]) rfl (by kernel_rfl)) ?_
    refine .p (.mkIface underlying196 rfl rfl) ?_
    refine .panic rfl ?_
    refine fun a w ha s => And.intro ha.defers (Exists.intro () (And.intro ?_ (And.intro trivial (finE .auto s))))
    rw [if_neg (by omega)]; rfl
  · refine .v (.t (.s (.r (.p (.m rfl) (.p (.n rfl) (.p (.f rfl) (.p (.l rfl) (.p (.m rfl) ?_))))))))
    refine .p (.ix at_.toNat rfl rfl (by omega) (by omega)) ?_
    refine .p (.a rfl) (.n (.t (.e (.ret1 rfl rfl fun w s => ⟨(), ?_, trivial, finE .auto s⟩))))
    rw [if_pos (by omega)]

end Go.SLYtnceicnimongcaaGreat
namespace Go.SLYtnceicnimongcaaGreat
open Go Go.RowKit Go.Proofs Go.Proofs.Tryz

theorem frame_do {W : World} {b : Nat} {f : Frm} {v : Value} {m : List Int} {i : Ins} (hI : InsOk i) (hF : FrmOk f) (hl : m.length ≤ 1000000) : FnB Tryz.prog W 112 [ptr b, .agg (insE i).toArray] [arr b 0 (dwC f v), sl wrdE 1 v m] Unit (fun _ => doEnd 196 (doI f m i)) (fun _ => True) (fun _ => doH b v (doI f m i)) := by
  refine FnB.intro (N := 127) func112 rfl ntmps112 rfl fun F => ?_
  show GoC _ _ _ _ _ _ [arr b 0 (dwC f v), sl wrdE 1 v m, F]
  have hia := hI.a
  have hib := hI.b
  have hic := hI.c
  have hin := hI.n
  have hpc := hF.pc
  refine .s (.r ?_)
  refine .does rfl (Does.box rfl rfl rfl) ?_
  rintro _ _ ⟨b3, rfl, rfl⟩
  refine .mem (H' := [arr b3 0 (insE i), arr b 0 (dwC f v), sl wrdE 1 v m, F]) (fun w s => s) ?_
  refine .n (.t (.s (.r (.p (.m rfl) (.p (.n rfl) (.p (.z rfl) (.p (.f rfl) (.p (.l rfl) ?_))))))))
  refine .p (.add rfl rfl (by omega)) ?_
  refine .p (.a rfl) (.n (.t ?_))
  refine .cutK (X := List Int × Int × List Int) [4, 5, 6, 7, 8, 9, 10, 11, 18, 19, 20, 21, 22, 23, 24, 25, 26, 27, 28, 29, 30, 31, 32, 33, 34, 35, 36, 37, 38, 39, 40, 41, 42, 43, 44, 45, 46, 47, 48, 49, 50, 51, 52, 53, 54, 55, 56, 57, 58, 59, 60, 61, 62, 63, 64, 65, 66, 67, 68, 69, 70, 71, 72, 73, 74, 75, 76, 77, 78, 79, 80, 81, 82, 83, 84, 85, 86, 87, 88, 89, 90, 91, 92, 93, 94, 95, 96, 97, 98, 99, 100, 101, 102, 103, 104, 105, 106, 107, 108, 109, 110, 111, 112, 113, 114, 115, 116, 117, 118, 119, 120, 121] (fun z => doI f m i = some (⟨f.fn, z.2.1, z.1⟩, z.2.2)) (fun z => [(4, some (.int .i64 z.2.1))]) (fun z => [arr b 0 (dwC ⟨f.fn, f.pc, z.1⟩ v), sl wrdE 1 v z.2.2, F]) ?_ ?_
  · refine .b (.s (.r (.p (.z rfl) (.p (.l rfl) (.p (.eql rfl rfl) (.p (.a rfl) (.n (.t (.condD rfl (fun h48 => ?_) (fun h48 => ?_))))))))))
    · refine .r (.p (.f rfl) (.p (.l rfl) ?_))
      refine .p (.convI underlying78 underlying3 rfl (by have := hI.j (.inl h48); omega)) ?_
      refine .p (.a rfl) (.n (.b ?_))
      refine .midK (f.regs, i.n, m) .auto ?_ ?_ ?_
      · unfold doI; rw [if_pos h48]
      · exact ⟨rfl, trivial⟩
      · exact fun w s => Ent.kept .auto w s
    · refine .s (.r (.p (.z rfl) (.p (.l rfl) (.p (.eql rfl rfl) (.p (.a rfl) (.n (.t (.condD rfl (fun h55 => ?_) (fun h55 => ?_)))))))))
      · refine .s (.r (.p (.m rfl) (.p (.f rfl) (.p (.l rfl) ?_))))
        refine .does rfl (Does.callE rfl call132 rfl (frame_reg hI.a) .auto) ?_
        rintro _ _ ⟨⟨⟩, -, rfl, rfl⟩
        refine .p (.n rfl) ?_
        refine .p (.ld rfl (Cell.a (dw_get (by omega)))) ?_
        refine .p (.eql rfl rfl) (.n (.t (.condD rfl (fun h65 => ?_) (fun h65 => ?_))))
        · refine .r (.p (.f rfl) (.p (.l rfl) ?_))
          refine .p (.convI underlying78 underlying3 rfl (by have := hI.j (.inr h55); omega)) ?_
          refine .p (.a rfl) (.n (.b ?_))
          refine .midK (f.regs, i.n, m) .auto ?_ ?_ ?_
          · unfold doI; rw [if_neg h48, if_pos h55, if_pos (show f.reg i.a = 0 from h65)]
          · exact ⟨rfl, trivial⟩
          · exact fun w s => Ent.kept .auto w s
        · refine .v (.b ?_)
          refine .midK (f.regs, f.pc + 1, m) .auto ?_ ?_ ?_
          · unfold doI; rw [if_neg h48, if_pos h55, if_neg (show ¬ f.reg i.a = 0 from h65)]
          · exact ⟨rfl, trivial⟩
          · exact fun w s => Ent.kept .auto w s
      · refine .s (.r (.p (.z rfl) (.p (.l rfl) (.p (.eql rfl rfl) (.p (.a rfl) (.n (.t (.condD rfl (fun h69 => ?_) (fun h69 => ?_)))))))))
        · refine .draw [arr b3 0 (insE i)] [1, 1, 1, 2, 0, 0, 1, 3] rfl (by kernel_rfl) ?_
          refine .p (.m rfl) (.p (.f rfl) (.p (.l rfl) ?_))
          refine .d2 rfl Kept.auto (Does.callE rfl call132 rfl (frame_reg hI.a) .auto) (by rintro _ _ ⟨⟨⟩, -, rfl, rfl⟩; exact Kept.auto) ?_
          rintro _ _ ⟨⟨⟩, -, rfl, rfl⟩
          refine .q (.f rfl) (.q (.l rfl) ?_)
          refine .p (.n rfl) ?_
          refine .d3 rfl (Does.st sizeOf78 rfl rfl rfl (Nat.blt_eq.mpr (by show 2 + i.a.toNat < 11; omega))) ?_
          rintro _ _ ⟨rfl, rfl⟩
          rw [dw_set _ (show i.a.toNat < 8 by omega) hF.l]
          refine .n (.b ?_)
          refine .midK (f.regs.set i.a.toNat i.n, f.pc + 1, m) .auto ?_ ?_ ?_
          · unfold doI; rw [if_neg h48, if_neg h55, if_pos h69]; rfl
          · exact ⟨rfl, trivial⟩
          · exact fun w s => Ent.kept .auto w s
        · refine .s (.r (.p (.z rfl) (.p (.l rfl) (.p (.eql rfl rfl) (.p (.a rfl) (.n (.t (.condD rfl (fun h80 => ?_) (fun h80 => ?_)))))))))
          · refine .s ?_
            refine .draw [arr b3 0 (insE i)] [1, 1, 1, 2, 0, 0, 0, 3, 1, 1] rfl (by kernel_rfl) ?_
            refine .p (.m rfl) (.p (.f rfl) (.p (.l rfl) ?_))
            refine .d2 rfl Kept.auto (Does.callE rfl call132 rfl (frame_reg hI.a) .auto) (by rintro _ _ ⟨⟨⟩, -, rfl, rfl⟩; exact Kept.auto) ?_
            rintro _ _ ⟨⟨⟩, -, rfl, rfl⟩
            refine .q (.m rfl) (.q (.f rfl) (.q (.l rfl) ?_))
            refine .d3 rfl (Does.callE rfl call132 rfl (frame_reg hI.b) .auto) ?_
            rintro _ _ ⟨⟨⟩, -, rfl, rfl⟩
            refine .p (.a rfl) (.p (.a rfl) (.n (.t (.r (.p (.m rfl) (.p (.m rfl) (.p (.m rfl) (.p (.n rfl) ?_))))))))
            refine .p (.ld rfl (Cell.a (dw_get (by omega)))) ?_
            refine .callB rfl call133 rfl (frame_cell (f := f) (m := m) (at_ := f.regs.getD i.b.toNat 0) (hF.r _).1 hl) .auto (fun _ h => by split at h <;> cases h) ?_ ?_
            · rintro ⟨⟩ u e -
              have hlt : f.regs.getD i.b.toNat 0 < m.length := Decidable.byContradiction fun hn => by
                rw [if_neg hn] at e
                cases e
              rw [if_pos hlt] at e
              cases e
              have h0 := (hF.r i.b.toNat).1
              refine .p (.n rfl) ?_
              refine .p (.ld rfl (Cell.rd0 Rd.s (getD_some (d := (0 : Int)) (show (f.regs.getD i.b.toNat 0).toNat < m.length by omega)) (by rfl))) ?_
              refine .p (.n rfl) ?_
              refine .does rfl (Does.st sizeOf78 rfl rfl rfl (Nat.blt_eq.mpr (by show 2 + i.a.toNat < 11; omega))) ?_
              rintro _ _ ⟨rfl, rfl⟩
              rw [dw_set _ (show i.a.toNat < 8 by omega) hF.l]
              refine .n (.b ?_)
              refine .midK (f.regs.set i.a.toNat (m.getD (f.regs.getD i.b.toNat 0).toNat 0), f.pc + 1, m) .auto ?_ ?_ ?_
              · unfold doI; rw [if_neg h48, if_neg h55, if_neg h69, if_pos h80, if_pos (show f.reg i.b < m.length from hlt)]; rfl
              · exact ⟨rfl, trivial⟩
              · exact fun w s => Ent.kept .auto w s
            · rintro ⟨⟩ c e -
              have hge : ¬ f.regs.getD i.b.toNat 0 < m.length := fun h => by
                rw [if_pos h] at e
                cases e
              rw [if_neg hge] at e
              cases e
              have hz : doI f m i = none := by
                unfold doI; rw [if_neg h48, if_neg h55, if_neg h69, if_pos h80, if_neg (show ¬ f.reg i.b < m.length from hge)]
              rw [hz]
              refine fun a w ha s => And.intro ha.defers (Exists.intro () (And.intro ?_ (And.intro trivial (finE .auto s))))
              rfl
          · refine .s (.r (.p (.z rfl) (.p (.l rfl) (.p (.eql rfl rfl) (.p (.a rfl) (.n (.t (.condD rfl (fun h101 => ?_) (fun h101 => ?_)))))))))
            · refine .s ?_
              refine .draw [arr b3 0 (insE i)] [1, 1, 1, 2, 0, 0, 0, 3, 1, 1] rfl (by kernel_rfl) ?_
              refine .p (.m rfl) (.p (.f rfl) (.p (.l rfl) ?_))
              refine .d2 rfl Kept.auto (Does.callE rfl call132 rfl (frame_reg hI.a) .auto) (by rintro _ _ ⟨⟨⟩, -, rfl, rfl⟩; exact Kept.auto) ?_
              rintro _ _ ⟨⟨⟩, -, rfl, rfl⟩
              refine .q (.m rfl) (.q (.f rfl) (.q (.l rfl) ?_))
              refine .d3 rfl (Does.callE rfl call132 rfl (frame_reg hI.b) .auto) ?_
              rintro _ _ ⟨⟨⟩, -, rfl, rfl⟩
              refine .p (.a rfl) (.p (.a rfl) (.n (.t ?_)))
              rcases Nat.lt_or_ge (f.regs.getD i.a.toNat 0).toNat m.length with hlt | hge
              · have h0 := (hF.r i.a.toNat).1
                refine .draw [arr b 0 (dwC f v)] [1, 1, 1, 1, 2, 0, 0, 0, 1, 3] rfl (by kernel_rfl) ?_
                refine .p (.m rfl) (.p (.m rfl) (.p (.n rfl) ?_))
                refine .p (.ld rfl (Cell.a (dw_get (by omega)))) ?_
                refine .d2 rfl Kept.auto (Does.callE rfl call133 rfl (FnB.ok (fun _ => .pointer (some ⟨blk v, ofs v + (f.regs.getD i.a.toNat 0).toNat * 1, none⟩)) (frame_cell (f := f) (m := m) (at_ := f.regs.getD i.a.toNat 0) (hF.r _).1 hl) (fun _ => if_pos (by omega))) .auto) (by rintro _ _ ⟨⟨⟩, -, rfl, rfl⟩; exact Kept.auto) ?_
                rintro _ _ ⟨⟨⟩, -, rfl, rfl⟩
                refine .q (.m rfl) (.q (.n rfl) ?_)
                refine .q (.ld rfl (Cell.a (dw_get (by omega)))) ?_
                refine .p (.n rfl) ?_
                refine .d3 rfl (Does.storeSl0 (x' := f.regs.getD i.b.toNat 0) rfl rfl sizeOf78 rfl (getD_some (d := (0 : Int)) hlt) (by decide) rfl .auto) ?_
                rintro _ _ ⟨rfl, rfl⟩
                refine .n (.b ?_)
                refine .midK (f.regs, f.pc + 1, m.set (f.regs.getD i.a.toNat 0).toNat (f.regs.getD i.b.toNat 0)) .auto ?_ ?_ ?_
                · unfold doI; rw [if_neg h48, if_neg h55, if_neg h69, if_neg h80, if_pos h101, if_pos (show f.reg i.a < m.length by show f.regs.getD i.a.toNat 0 < _; omega)]; rfl
                · exact ⟨rfl, trivial⟩
                · exact fun w s => Ent.kept .auto w s
              · have h0 := (hF.r i.a.toNat).1
                refine .held [arr b 0 (dwC f v)] rfl ?_
                refine GoH.take 0 rfl (by kernel_rfl) (by kernel_rfl) (by kernel_rfl) (fun _ _ _ _ _ h => h) rfl Kept.auto (Y.m rfl) ?_
                refine GoH.take 1 rfl (by kernel_rfl) (by kernel_rfl) (by kernel_rfl) (fun _ _ _ _ _ h => h) rfl Kept.auto (Y.m rfl) ?_
                refine GoH.take 2 rfl (by kernel_rfl) (by kernel_rfl) (by kernel_rfl) (fun _ _ _ _ _ h => h) rfl Kept.auto (Y.n rfl) ?_
                refine GoH.take 3 rfl (by kernel_rfl) (by kernel_rfl) (by kernel_rfl) (fun _ _ _ _ _ h => h) rfl Kept.auto (Y.load isAgg78 rfl (Cell.a (dw_get (by omega)))) ?_
                refine GoH.take 5 rfl (by kernel_rfl) (by kernel_rfl) (by kernel_rfl) (fun _ _ _ _ _ h => h) rfl Kept.auto (Y.m rfl) ?_
                refine GoH.take 6 rfl (by kernel_rfl) (by kernel_rfl) (by kernel_rfl) (fun _ _ _ _ _ h => h) rfl Kept.auto (Y.n rfl) ?_
                refine GoH.take 7 rfl (by kernel_rfl) (by kernel_rfl) (by kernel_rfl) (fun _ _ _ _ _ h => h) rfl Kept.auto (Y.load isAgg78 rfl (Cell.a (dw_get (by omega)))) ?_
                refine GoH.callP 4 rfl (by kernel_rfl) call133 rfl (frame_cell (f := f) (m := m) (at_ := f.regs.getD i.a.toNat 0) (hF.r _).1 hl) .auto ?_ ?_
                · exact fun _ => ⟨_, if_neg (by omega)⟩
                rintro ⟨⟩ c e -
                rw [if_neg (by omega)] at e
                cases e
                have hz : doI f m i = none := by
                  unfold doI; rw [if_neg h48, if_neg h55, if_neg h69, if_neg h80, if_pos h101, if_neg (show ¬ f.reg i.a < m.length by show ¬ f.regs.getD i.a.toNat 0 < _; omega)]
                rw [hz]
                refine fun a w ha s => And.intro ha.defers (Exists.intro () (And.intro ?_ (And.intro trivial (finE .auto s))))
                rfl
            · refine .s ?_
              refine .draw [arr b3 0 (insE i), arr b 0 (dwC f v)] [1, 1, 1, 2, 0, 0, 0, 3, 1, 1, 1, 1, 1] rfl (by kernel_rfl) ?_
              refine .p (.m rfl) (.p (.f rfl) (.p (.l rfl) ?_))
              refine .d2 rfl Kept.auto (Does.callE rfl call132 rfl (frame_reg hI.a) .auto) (by rintro _ _ ⟨⟨⟩, -, rfl, rfl⟩; exact Kept.auto) ?_
              rintro _ _ ⟨⟨⟩, -, rfl, rfl⟩
              refine .q (.m rfl) (.q (.f rfl) (.q (.l rfl) ?_))
              refine .d3 rfl (Does.callE rfl call132 rfl (frame_reg hI.b) .auto) ?_
              rintro _ _ ⟨⟨⟩, -, rfl, rfl⟩
              refine .p (.n rfl) ?_
              refine .p (.ld rfl (Cell.a (dw_get (by omega)))) ?_
              refine .p (.a rfl) (.p (.a rfl) (.p (.a rfl) (.n (.t ?_))))
              refine .cutK (X := Unit) [11, 28, 29, 30, 31, 32, 33, 34, 35, 36, 37] (fun _ => True) (fun _ => [(11, some (.int .u64 (if shortB i.op = true then 0 else f.reg i.c)))]) (fun _ => [arr b3 0 (insE i), arr b 0 (dwC f v), sl wrdE 1 v m, F]) ?_ ?_
              · refine .s (.r (.p (.z rfl) (.p (.l rfl) ?_)))
                refine .does rfl (Does.callE rfl call134 rfl frame_short .auto) ?_
                rintro _ _ ⟨⟨⟩, -, rfl, rfl⟩
                refine .p (.not rfl) (.n (.t (.cond rfl (fun h31 => ?_) (fun h31 => ?_))))
                · refine .r (.p (.m rfl) (.p (.f rfl) (.p (.l rfl) ?_)))
                  refine .does rfl (Does.callE rfl call132 rfl (frame_reg hI.c) .auto) ?_
                  rintro _ _ ⟨⟨⟩, -, rfl, rfl⟩
                  refine .p (.n rfl) ?_
                  refine .p (.ld rfl (Cell.a (dw_get (by omega)))) ?_
                  refine .p (.a rfl) (.n ?_)
                  refine .midK () .auto ?_ ?_ ?_
                  · trivial
                  · rw [if_neg (show ¬ shortB i.op = true by rw [Bool.not_eq_true'] at h31; rw [h31]; simp)]; exact ⟨rfl, trivial⟩
                  · exact fun w s => Ent.kept .auto w s
                · refine .v ?_
                  refine .midK () .auto ?_ ?_ ?_
                  · trivial
                  · rw [if_pos (show shortB i.op = true by simpa using h31)]; exact ⟨rfl, trivial⟩
                  · exact fun w s => Ent.kept .auto w s
              · rintro ⟨⟩ -
                obtain ⟨y, hy⟩ : ∃ y, y = (if shortB i.op = true then 0 else f.reg i.c) := ⟨_, rfl⟩
                have hy0 : 0 ≤ y := by
                  subst hy
                  split
                  · exact Int.le_refl _
                  · exact (hF.r _).1
                rw [← hy]
                refine .r (.p (.m rfl) (.p (.z rfl) (.p (.l rfl) (.p (.m rfl) (.p (.m rfl) ?_)))))
                refine .does rfl (Does.callE rfl call135 rfl (frame_Arith (hF.r _).1 hy0) .auto) ?_
                rintro _ _ ⟨t38, -, rfl, rfl⟩
                refine .p (.m rfl) ?_
                refine .p (.extract (v := .int .u64 (arithI i.op (f.regs.getD i.b.toNat 0) y)) rfl rfl) ?_
                refine .p (.extract rfl rfl) (.p (.n rfl) ?_)
                refine .does rfl (Does.st sizeOf78 rfl rfl rfl (Nat.blt_eq.mpr (by show 2 + i.a.toNat < 11; omega))) ?_
                rintro _ _ ⟨rfl, rfl⟩
                rw [dw_set _ (show i.a.toNat < 8 by omega) hF.l]
                refine .n (.b ?_)
                refine .midK (f.regs.set i.a.toNat (arithI i.op (f.regs.getD i.b.toNat 0) y), f.pc + 1, m) .auto ?_ ?_ ?_
                · unfold doI; rw [if_neg h48, if_neg h55, if_neg h69, if_neg h80, if_neg h101]; subst hy; rfl
                · exact ⟨rfl, trivial⟩
                · exact fun w s => Ent.kept .auto w s
  · rintro ⟨rs, nx, m2⟩ hz
    simp only at hz
    refine .r (.p (.m rfl) (.p (.m rfl) (.p (.n rfl) (.p (.z rfl) (.p (.f rfl) ?_)))))
    refine .does rfl (Does.st sizeOf3 rfl rfl rfl rfl) ?_
    rintro _ _ ⟨rfl, rfl⟩
    refine .n ?_
    rw [hz]
    refine .end0 rfl fun w s => ⟨(), ?_, trivial, finE .auto s⟩
    rfl

theorem plain_ret {W : World} {p6 p7 p8 : Nat} {Hs : List HProp} {w : World} (hs : Sat W w (seps Hs)) : CallsD Tryz.prog 111 #[ptr p6, ptr p7, ptr p8] .returning w (fun e u2 w2 => u2 = .returning ∧ e = .returned (.tuple #[]) ∧ Sat W w2 (seps Hs)) := by
  refine callsD_recover (d := 6) (N := 15) (v := .nilIface) (u2 := .returning) (args := [ptr p6, ptr p7, ptr p8]) func111 rfl ntmps111 rfl rfl rfl (fun c cs hc => .inr ⟨by simp [recoverD, hc], rfl, rfl⟩) hs ?_
  refine .b (.s (.r ?_))
  refine .p (.eqIf0 underlying20 rfl) ?_
  refine .n (.t (.condT rfl ?_))
  refine .r (.p (.a rfl) (.n (.b (.endC fun w s => ⟨rfl, rfl, ?_⟩))))
  first | exact s | exact Ent.kept .auto _ s

theorem plain_pan {W : World} {p6 p7 p8 : Nat} {F : HProp} {w : World} (hs : Sat W w (seps [arr p6 0 (frmE Frm.z), arr p7 0 [.slice none 0 0], arr p8 0 [.int .i64 0], F])) : CallsD Tryz.prog 111 #[ptr p6, ptr p7, ptr p8] (.panicking (stopC 196 6)) w (fun e u2 w2 => u2 = .panicking [{ v := .iface 196 (.agg #[.int .i64 6]), recovered := true }] ∧ e = .returned (.tuple #[]) ∧ Sat W w2 (seps [arr p6 0 (frmE Frm.z), arr p7 0 [.slice none 0 0], arr p8 0 [.int .i64 6], F])) := by
  refine callsD_recover (d := 6) (N := 15) (v := .iface 196 (.agg #[.int .i64 6])) (u2 := .panicking [{ v := .iface 196 (.agg #[.int .i64 6]), recovered := true }]) (args := [ptr p6, ptr p7, ptr p8]) func111 rfl ntmps111 rfl rfl rfl (fun c cs hc => .inl (by simp [recoverD, hc, stopC])) hs ?_
  refine .b (.s (.r ?_))
  refine .p (.eqIf1 underlying20 rfl) ?_
  refine .n (.t (.condF rfl ?_))
  refine .s (.r ?_)
  refine .p (.tAssert (r := .tuple #[.agg #[.int .i64 6], .bool true]) rfl (fun w => by simp [Instr.typeAssert, run_underlying underlying196])) ?_
  refine .p (.extract (v := .bool true) rfl rfl) ?_
  refine .p (.extract (v := .agg #[.int .i64 6]) rfl rfl) ?_
  refine .n (.t (.condT rfl ?_))
  refine .s (.r ?_)
  refine .does rfl (Does.alloc rfl zeroValue196 rfl) ?_
  rintro _ _ ⟨b4, rfl, rfl⟩
  refine .does rfl (Does.sta (by exact sizeOf196) rfl rfl rfl (by rfl)) ?_
  rintro _ _ ⟨rfl, rfl⟩
  refine .n (.t ?_)
  refine .draw [arr b4 0 [.int .i64 6]] [1, 0, 0, 2, 2, 3] rfl (by kernel_rfl) ?_
  refine .p (.bld0 ([(.int .i64 0), (.int .i64 0), (.int .u64 0), (.int .u64 0), (.int .u64 0), (.int .u64 0), (.int .u64 0), (.int .u64 0), (.int .u64 0), (.int .u64 0)]) (by kernel_rfl)) ?_
  refine .q (.z rfl) (.q (.l rfl) ?_)
  refine .d2 rfl Kept.auto (Does.sta (by exact sizeOf128) rfl rfl rfl (by rfl)) (by rintro _ _ ⟨rfl, rfl⟩; exact Kept.auto) ?_
  rintro _ _ ⟨rfl, rfl⟩
  refine .d2 rfl Kept.auto (Does.st sizeOf62 rfl rfl rfl rfl) (by rintro _ _ ⟨rfl, rfl⟩; exact Kept.auto) ?_
  rintro _ _ ⟨rfl, rfl⟩
  refine .d3 rfl (Does.st sizeOf28 rfl rfl rfl rfl) ?_
  rintro _ _ ⟨rfl, rfl⟩
  refine .n (.b (.endC fun w s => ⟨rfl, rfl, ?_⟩))
  first | exact s | exact Ent.kept .auto _ s

theorem plain_panR {W : World} {p6 p7 p8 : Nat} {R : List HProp} {w : World} (hs : Sat W w (seps ([arr p6 0 (frmE Frm.z), arr p7 0 [.slice none 0 0], arr p8 0 [.int .i64 0]] ++ R))) : CallsD Tryz.prog 111 #[ptr p6, ptr p7, ptr p8] (.panicking (stopC 196 6)) w (fun e u2 w2 => u2 = .panicking [{ v := .iface 196 (.agg #[.int .i64 6]), recovered := true }] ∧ e = .returned (.tuple #[]) ∧ Sat W w2 (seps ([arr p6 0 (frmE Frm.z), arr p7 0 [.slice none 0 0], arr p8 0 [.int .i64 6]] ++ R))) :=
  (plain_pan (F := seps R) (hs.eq (by rw [seps_append]; simp only [seps, sep_emp, sep_assoc]))).mono fun _ _ _ ⟨a, b, c⟩ => ⟨a, b, c.eq (by rw [seps_append]; simp only [seps, sep_emp, sep_assoc])⟩

theorem frame_Plain {W : World} {A : HProp} {f : Frm} {i : Ins} {v : Value} {m : List Int} (hr : Rd W [A] wrdE 1 v m) (hl : m.length ≤ 1000000) (hI : InsOk i) (hF : FrmOk f) (hc : cls i.op = 1) : Fn Tryz.prog W 97 [.agg (frmE f).toArray, .agg (insE i).toArray, v] [A] Value (fun u => .tuple #[.agg (frmE (plainR f m i).1).toArray, u, .int .i64 (plainR f m i).2.2]) (fun _ => True) (fun u => [sl wrdE 1 u (plainR f m i).2.1, A]) := by
  refine Fn.introD (N := 39) func97 rfl ntmps97 rfl fun F => ?_
  haveI hRI : ∀ (H : List HProp) [HasH H A], ReadsC W H v wrdE 1 m := fun H h => ⟨hr.at h.has⟩
  show GoC _ _ _ _ _ _ [A, F]
  refine .s (.r ?_)
  refine .does rfl (Does.box rfl rfl rfl) ?_
  rintro _ _ ⟨b3, rfl, rfl⟩
  refine .mem (H' := [arr b3 0 (frmE f), A, F]) (fun w s => s) ?_
  refine .does rfl (Does.box rfl rfl rfl) ?_
  rintro _ _ ⟨b4, rfl, rfl⟩
  refine .mem (H' := [arr b4 0 (insE i), arr b3 0 (frmE f), A, F]) (fun w s => s) ?_
  refine .does rfl (Does.alloc rfl zeroValue128 rfl) ?_
  rintro _ _ ⟨b6, rfl, rfl⟩
  refine .does rfl (Does.alloc rfl zeroValue62 rfl) ?_
  rintro _ _ ⟨b7, rfl, rfl⟩
  refine .does rfl (Does.alloc rfl zeroValue28 rfl) ?_
  rintro _ _ ⟨b8, rfl, rfl⟩
  refine .n (.t (.s (.s (.r (.p (.z rfl) (.p (.l rfl) ?_))))))
  refine .does rfl (Does.callE rfl call68 rfl inst_Class .auto) ?_
  rintro _ _ ⟨⟨⟩, -, rfl, rfl⟩
  refine .p (.neq rfl rfl) (.n (.t (.condD rfl (fun h13 => ?_) (fun h13 => ?_))))
  · exact absurd hc h13
  · refine .v (.t (.s (.r (.p (.makeFunc rfl rfl) ?_))))
    refine .deferD rfl ?_
    refine GoLD.nil ?_
    refine GoED.then_normal ?_
    refine GoCD.seq ?_
    refine GoCD.draw [arr b3 0 (frmE f), A] [0, 1, 1, 2, 1, 3, 1] rfl (by kernel_rfl) ?_
    refine GoKD.k rfl Kept.auto (Y.lda isAgg128 rfl Cells.a (by exact sizeOf128)) ?_
    refine GoKD.s rfl (Y.m rfl) ?_
    refine GoKD.s rfl (Y.lenRd underlying62 rfl Rd.s) ?_
    refine GoKD.d2 rfl Kept.auto (Does.mkSl (enc := wrdE) (k := 1) 0 m.length rfl underlying62 typeInfo78 rfl rfl rfl rfl (by decide) (by decide) rfl rfl rfl rfl (by omega)) (by rintro _ _ ⟨b19, rfl, rfl⟩; exact Kept.auto) ?_
    rintro _ _ ⟨b19, rfl, rfl⟩
    refine GoKD.s rfl (Y.bld2 (fun _ v2 => dwC f v2) rfl rfl (by kernel_rfl)) ?_
    refine GoKD.d3 rfl (Does.box rfl rfl rfl) ?_
    rintro _ _ ⟨b21, rfl, rfl⟩
    refine GoKD.s rfl (Y.a rfl) ?_
    refine GoKD.nil ?_
    refine GoED.then_normal ?_
    refine GoCD.seq ?_
    refine GoCD.region ?_
    refine GoLD.y rfl (Y.m rfl) ?_
    refine GoLD.y rfl (Y.n rfl) ?_
    refine GoLD.y rfl (Y.fieldAddr0 10 62 underlying199 rfl sizeOf62 rfl) ?_
    refine GoLD.y rfl (Y.load isAgg62 rfl (Cell.a (by rfl))) ?_
    refine GoLD.y rfl (Y.m rfl) ?_
    refine GoLD.does rfl (Does.copyAll rfl underlying62 sizeOf78 rfl rfl Rd.s .auto (by simp) rfl (wrdE_one _)) ?_
    rintro _ _ ⟨rfl, rfl⟩
    refine GoLD.nil ?_
    refine GoED.then_normal ?_
    refine GoCD.seq ?_
    refine GoCD.region ?_
    refine GoLD.y rfl (Y.m rfl) ?_
    refine GoLD.y rfl (Y.lda isAgg80 rfl Cells.a (by exact sizeOf80)) ?_
    refine GoLD.callB_ (fun d h => by cases h; rfl) call112 rfl (frame_do (f := f) (v := .slice (some ⟨b19, 0, none⟩) m.length m.length) (m := m) (i := i) hI hF hl) .auto (fun _ h => by unfold doEnd at h; split at h <;> cases h) ?_ ?_
    · rintro ⟨⟩ u e -
      obtain ⟨z, hz⟩ : ∃ z, doI f m i = some z := by
        cases h : doI f m i with
        | none => rw [h] at e; cases e
        | some z => exact ⟨z, rfl⟩
      rw [hz] at e
      cases e
      rw [show doH b21 (.slice (some ⟨b19, 0, none⟩) m.length m.length) (doI f m i) = [arr b21 0 (dwC z.1 (.slice (some ⟨b19, 0, none⟩) m.length m.length)), sl wrdE 1 (.slice (some ⟨b19, 0, none⟩) m.length m.length) z.2] from by rw [hz]; rfl]
      refine GoLD.nil ?_
      refine GoED.then_normal ?_
      refine GoCD.seq ?_
      refine GoCD.draw [arr b21 0 (dwC z.1 (.slice (some ⟨b19, 0, none⟩) m.length m.length))] [1, 1, 1, 1, 0, 0, 0, 0, 2, 3, 3] rfl (by kernel_rfl) ?_
      refine GoKD.s rfl (Y.m rfl) ?_
      refine GoKD.s rfl (Y.n rfl) ?_
      refine GoKD.s rfl (Y.fieldAddrZ 128 underlying199 rfl sizeOf128 rfl) ?_
      refine GoKD.s rfl (Y.lda isAgg128 rfl (Cells.part0 (ds := frmE z.1) Cells.a rfl) (by exact sizeOf128)) ?_
      refine GoKD.k rfl Kept.auto (Y.m rfl) ?_
      refine GoKD.k rfl Kept.auto (Y.n rfl) ?_
      refine GoKD.k rfl Kept.auto (Y.fieldAddr0 10 62 underlying199 rfl sizeOf62 rfl) ?_
      refine GoKD.k rfl Kept.auto (Y.load isAgg62 rfl (Cell.a (by rfl))) ?_
      refine GoKD.d2 rfl Kept.auto (Does.sta (by exact sizeOf128) rfl rfl rfl (by rfl)) (by rintro _ _ ⟨rfl, rfl⟩; exact Kept.auto) ?_
      rintro _ _ ⟨rfl, rfl⟩
      refine GoKD.d3 rfl (Does.stS sizeOf62 rfl rfl rfl) ?_
      rintro _ _ ⟨rfl, rfl⟩
      refine GoKD.d3 rfl (Does.st sizeOf28 rfl rfl rfl rfl) ?_
      rintro _ _ ⟨rfl, rfl⟩
      refine GoKD.nil ?_
      refine GoED.then_normal ?_
      refine GoCD.ret ?_
      refine fun a w ha s => ?_
      show Leaves Tryz.prog Tryz.f97 a.tmps _ a.defers .returning w
      rw [ha.defers]
      refine leaves_cons (by intro h; cases h) (by simp [invoke, call111]) ((plain_ret (p6 := b6) (p7 := b7) (p8 := b8) s).mono ?_)
      rintro e2 u2 w2 ⟨rfl, rfl, s2⟩
      exact ⟨_, (results_3 ha s2 rfl rfl rfl rfl isAgg128 (by exact sizeOf128) isAgg62 isAgg28 Cells.a (Cell.a rfl) (Cell.a rfl)), .slice (some ⟨b19, 0, none⟩) m.length m.length, by rw [plainR, hz], trivial, by rw [plainR, hz]; exact finE .auto s2⟩
    · rintro ⟨⟩ c e -
      have hz : doI f m i = none := by
        cases h : doI f m i with
        | none => rfl
        | some z => rw [h] at e; cases e
      rw [hz] at e
      cases e
      rw [show doH b21 (.slice (some ⟨b19, 0, none⟩) m.length m.length) (doI f m i) = [] from by rw [hz]; rfl]
      refine fun a w ha s => ?_
      show Leaves Tryz.prog Tryz.f97 a.tmps _ a.defers (.panicking (stopC 196 6)) w
      rw [ha.defers]
      have s1 := Ent.sat (As := [arr b6 0 (frmE Frm.z), arr b7 0 [.slice none 0 0], arr b8 0 [.int .i64 0]]) .auto s
      refine leaves_cons (by intro h; cases h) (by simp [invoke, call111]) ((plain_panR (p6 := b6) (p7 := b7) (p8 := b8) s1).mono ?_)
      rintro e2 u2 w2 ⟨rfl, rfl, s2⟩
      exact ⟨_, (results_3 ha s2 rfl rfl rfl rfl isAgg128 (by exact sizeOf128) isAgg62 isAgg28 Cells.a (Cell.a rfl) (Cell.a rfl)), .slice none 0 0, by rw [plainR, hz], trivial, by rw [plainR, hz]; exact finE .auto s2⟩

end Go.SLYtnceicnimongcaaGreat
namespace Go.SLYtnceicnimongcaaGreat
open Go Go.RowKit Go.Proofs Go.Proofs.Tryz

theorem dng_goesI {W : World} {bd b p q : Nat} {ps : List (Option Nat)} {d : Dng} {t : Thr} {n : Int} (h0 : 0 ≤ n) (hp : ps[n.toNat]? = some (some q)) (ht : d.s.thr[n.toNat]? = some (some t)) (hn16 : n.toNat < 16) (hR : ThrR t) (he : d.ends.length ≤ 1000000) (hw : d.out.woken.length ≤ 1000000) {y : Int} : Fn Tryz.prog W 96 [ptr bd, .int .i64 n, .int .u64 y] [dngX bd b p ps d] Unit (fun _ => .tuple #[]) (fun _ => True) (fun _ => [dngX bd b p ps (d.goes n.toNat y)]) := by
  have := dng_goes (W := W) (bd := bd) (b := b) (p := p) hp ht hn16 hR he hw (y := y)
  rwa [show ((n.toNat : Nat) : Int) = n from by omega] at this

theorem dng_fin {W : World} {bd b p : Nat} {ps : List (Option Nat)} {d : Dng} {t : Thr} (hp : ps[d.n]? = some (some p)) (ht : d.s.thr[d.n]? = some (some t)) {v : Int} (hl : d.s.thr.length = 16) (hpl : ps.length = 16) (hT : TakeOk d.s.table) (hR : ThrR t) (he : d.ends.length ≤ 1000000) (hw : d.out.woken.length ≤ 1000000) (hj : ¬ t.joiner = -1 → 0 ≤ t.joiner ∧ t.joiner.toNat ≠ d.n ∧ LiveAt ps d.s t.joiner.toNat) : Fn Tryz.prog W 89 [ptr bd, .int .u64 v] [dngX bd b p ps d] (List (Option Nat)) (fun _ => .tuple #[]) (fun _ => True) (fun qs => [dngX bd b p qs (d.fin v)]) := by
  refine Fn.intro (N := 66) func89 rfl ntmps89 rfl fun F => ?_
  show GoC _ _ _ _ _ _ [dngX bd b p ps d, F]
  refine .o2 (C := dngX bd b p ps d) .auto rfl ?_
  rintro vw ve -
  refine .o10 (C := spcX b ps d.s) .auto rfl ?_
  rintro fv sv pv bt vm bg vt bk bw vr -
  refine .fr .auto (thrs_out hp ht) ?_
  refine .s (.r (.p (.m rfl) (.p (.n rfl) (.p (.f rfl) (.p (.o rfl) ?_)))))
  refine .does rfl (Does.st sizeOf4 rfl rfl rfl rfl) ?_
  rintro _ _ ⟨rfl, rfl⟩
  rw [dng_ended]
  refine .n (.t (.b (.s (.r (.p (.m rfl) (.p (.n rfl) (.p (.f rfl) (.p (.l rfl) ?_))))))))
  refine .p (.n rfl) (.p (.f rfl) (.p (.l rfl) (.p (.a rfl) (.n (.t (.cond rfl (fun h21 => ?_) (fun h21 => ?_)))))))
  · refine .to (A := thrsH ps d.s.thr) (Bs := [arr p 0 (thrC t), thrsH (ps.set d.n none) (d.s.thr.set d.n none)]) .auto (thrs_keep hp ht) ?_
    refine .draw [arr bd 0 (dngC b p (d.ended) vw ve)] [1, 1, 1, 1, 1, 1, 1, 1, 3] rfl (by kernel_rfl) ?_
    refine .p (.m rfl) (.p (.n rfl) (.p (.z rfl) (.p (.l rfl) (.p (.m rfl) ?_))))
    refine .p (.n rfl) (.p (.f rfl) (.p (.l rfl) ?_))
    refine .d3 rfl (Does.callE rfl call95 rfl (core_free hp ht hl hpl hT hR.h.1) .auto) ?_
    rintro _ _ ⟨⟨⟩, -, rfl, rfl⟩
    refine .n (.b ?_)
    rw [fin_det ht h21]
    refine .end0 rfl fun w s => ⟨ps.set d.n none, ?_, trivial, finE .auto s⟩
    rfl
  · refine .s (.r (.p (.m rfl) (.p (.n rfl) (.p (.f rfl) (.p (.l rfl) ?_)))))
    refine .p (.n rfl) (.p (.f rfl) (.p (.l rfl) (.p (.neq rfl rfl) (.p (.a rfl) (.n (.t (.condD rfl (fun h38 => ?_) (fun h38 => ?_))))))))
    · refine .s (.r (.p (.m rfl) (.p (.m rfl) (.p (.n rfl) (.p (.f rfl) (.p (.l rfl) ?_))))))
      refine .p (.n rfl) (.p (.f rfl) (.p (.l rfl) (.p (.m rfl) ?_)))
      obtain ⟨hj0, hjn, hj16, q, tj, hq, htj, hRj⟩ := hj h38
      refine .to (A := thrsH ps d.s.thr) (Bs := [arr p 0 (thrC t), thrsH (ps.set d.n none) (d.s.thr.set d.n none)]) .auto (thrs_keep hp ht) ?_
      refine .does rfl (Does.callE rfl call96 rfl (dng_goesI (d := d.ended) hj0 hq htj hj16 hRj he hw) .auto) ?_
      rintro _ _ ⟨⟨⟩, -, rfl, rfl⟩
      refine .o2 (C := dngX bd b p ps (d.ended.goes t.joiner.toNat v)) .auto rfl ?_
      rintro vw ve -
      have ht2 : (d.ended.goes t.joiner.toNat v).s.thr[d.n]? = some (some t) := goes_thr ht hjn
      refine .n (.t ?_)
      refine .draw [arr bd 0 (dngC b p (d.ended.goes t.joiner.toNat v) vw ve)] [1, 1, 1, 1, 1, 1, 1, 1, 3] rfl (by kernel_rfl) ?_
      refine .p (.m rfl) (.p (.n rfl) (.p (.z rfl) (.p (.l rfl) (.p (.m rfl) ?_))))
      refine .p (.n rfl) (.p (.f rfl) (.p (.l rfl) ?_))
      refine .d3 rfl (Does.callE rfl call95 rfl (core_free (s := (d.ended.goes t.joiner.toNat v).s) hp ht2 (by simp [Dng.goes, Spc.wake, Spc.setT, Dng.ended, hl]) hpl hT hR.h.1) .auto) ?_
      rintro _ _ ⟨⟨⟩, -, rfl, rfl⟩
      refine .n (.b ?_)
      rw [fin_join ht h21 h38]
      refine .end0 rfl fun w s => ⟨ps.set d.n none, ?_, trivial, finE .auto s⟩
      rfl
    · have h38 : t.joiner = -1 := Decidable.byContradiction h38
      refine .draw [arr bd 0 (dngC b p (d.ended) vw ve)] [1, 1, 1, 1, 1, 1, 1, 1, 0, 1, 1, 2, 1, 1, 3] rfl (by kernel_rfl) ?_
      refine .p (.m rfl) (.p (.n rfl) (.p (.f rfl) (.p (.l rfl) (.p (.m rfl) ?_))))
      refine .p (.n rfl) (.p (.f rfl) (.p (.l rfl) (.q (.m rfl) ?_)))
      refine .p (.n rfl) (.p (.f rfl) ?_)
      refine .d2 rfl Kept.auto (Does.st sizeOf3 rfl rfl rfl rfl) (by rintro _ _ ⟨rfl, rfl⟩; exact Kept.auto) ?_
      rintro _ _ ⟨rfl, rfl⟩
      rw [thr_why]
      refine .p (.n rfl) (.p (.f rfl) ?_)
      refine .d3 rfl (Does.st sizeOf78 rfl rfl rfl rfl) ?_
      rintro _ _ ⟨rfl, rfl⟩
      rw [thr_value]
      refine .n (.b ?_)
      rw [fin_none ht h21 h38]
      refine .to (A := thrsH ps (d.s.thr.set d.n (some ({ t with why := 9, value := v })))) (Bs := [arr p 0 (thrC ({ t with why := 9, value := v })), thrsH (ps.set d.n none) (d.s.thr.set d.n none)]) .auto (thrs_shut (List.getElem?_eq_some_iff.1 ht).1 hp) ?_
      refine .end0 rfl fun w s => ⟨ps, ?_, trivial, finE .auto s⟩
      rfl

theorem dng_given {W : World} {bd b p : Nat} {ps : List (Option Nat)} {d : Dng} {n : Int} {ok : Bool} (hg : ok = true → 0 ≤ n ∧ LiveAt ps d.s n.toNat) (he : d.ends.length ≤ 1000000) (hw : d.out.woken.length ≤ 1000000) : Fn Tryz.prog W 118 [ptr bd, .int .i64 n, .bool ok] [dngX bd b p ps d] Unit (fun _ => .tuple #[]) (fun _ => True) (fun _ => [dngX bd b p ps (d.given n ok)]) := by
  refine Fn.intro (N := 10) func118 rfl ntmps118 rfl fun F => ?_
  show GoC _ _ _ _ _ _ [dngX bd b p ps d, F]
  refine .s (.r (.p (.m rfl) (.n (.t (.cond rfl (fun h6 => ?_) (fun h6 => ?_))))))
  · refine .r ?_
    obtain ⟨h0, hn16, q, t, hq, ht, hR⟩ := hg h6
    refine .p (.m rfl) (.p (.m rfl) ?_)
    refine .does rfl (Does.callE rfl call96 rfl (dng_goesI h0 hq ht hn16 hR he hw) .auto) ?_
    rintro _ _ ⟨⟨⟩, -, rfl, rfl⟩
    refine .n ?_
    rw [show d.given n ok = d.goes n.toNat 0 from by unfold Dng.given; rw [if_pos h6]]
    refine .end0 rfl fun w s => ⟨(), ?_, trivial, finE .auto s⟩
    rfl
  · refine .v ?_
    rw [show d.given n ok = d from by unfold Dng.given; rw [if_neg (by rw [h6]; simp)]]
    refine .end0 rfl fun w s => ⟨(), ?_, trivial, finE .auto s⟩
    rfl

theorem dng_plain {W : World} {bd b p : Nat} {ps : List (Option Nat)} {d : Dng} {t : Thr} (hp : ps[d.n]? = some (some p)) (ht : d.s.thr[d.n]? = some (some t)) (hI : InsOk d.i) (hF : FrmOk t.frm) (hc : cls d.i.op = 1) (hm : d.s.mem.length ≤ 1000000) (hr : d.s.recs.length ≤ 100000000) (hl : d.s.thr.length = 16) (hpl : ps.length = 16) (hT : TakeOk d.s.table) (hR : ThrR t) (he : d.ends.length ≤ 1000000) (hw : d.out.woken.length ≤ 1000000) (hj : ¬ t.joiner = -1 → 0 ≤ t.joiner ∧ t.joiner.toNat ≠ d.n ∧ LiveAt ps d.s t.joiner.toNat) : Fn Tryz.prog W 90 [ptr bd] [dngX bd b p ps d] (List (Option Nat)) (fun _ => .tuple #[]) (fun _ => True) (fun qs => [dngX bd b p qs d.plain]) := by
  refine Fn.intro (N := 124) func90 rfl ntmps90 rfl fun F => ?_
  show GoC _ _ _ _ _ _ [dngX bd b p ps d, F]
  refine .o2 (C := dngX bd b p ps d) .auto rfl ?_
  rintro vw ve -
  refine .o10 (C := spcX b ps d.s) .auto rfl ?_
  rintro fv sv pv bt vm bg vt bk bw vr -
  refine .fr .auto (thrs_out hp ht) ?_
  have hIa := hI.a
  have hIb := hI.b
  have hb : d.b = t.regs.getD d.i.b.toNat 0 := by unfold Dng.b; rw [dng_t ht]; rfl
  have ha : d.a = t.regs.getD d.i.a.toNat 0 := by unfold Dng.a; rw [dng_t ht]; rfl
  have hbr := hR.r d.i.b.toNat
  refine .s ?_
  refine .draw [] [1, 1, 1, 1, 1, 1, 1, 1, 1, 1, 1, 1, 1, 1, 1, 1, 1, 1, 1, 1, 1, 1, 1, 1, 1, 1, 1, 1, 1, 1] rfl (by kernel_rfl) ?_
  refine .p (.m rfl) (.p (.n rfl) (.p (.f rfl) (.p (.l rfl) (.p (.m rfl) ?_))))
  refine .p (.n rfl) (.p (.f rfl) (.p (.o rfl) (.p (.l rfl) ?_)))
  refine .p (.n rfl) (.p (.z rfl) (.p (.f rfl) ?_))
  refine .p (.ixArr d.i.a.toNat underlying126 sizeOf78 rfl rfl (by omega) (by omega)) ?_
  refine .p (.ld rfl (Cell.a (thr_get (by omega)))) ?_
  refine .p (.m rfl) (.p (.n rfl) (.p (.f rfl) (.p (.l rfl) (.p (.m rfl) ?_))))
  refine .p (.n rfl) (.p (.f rfl) (.p (.o rfl) (.p (.l rfl) ?_)))
  refine .p (.n rfl) (.p (.z rfl) (.p (.f rfl) ?_))
  refine .p (.ixArr d.i.b.toNat underlying126 sizeOf78 rfl rfl (by omega) (by omega)) ?_
  refine .p (.ld rfl (Cell.a (thr_get (by omega)))) ?_
  refine .p (.a rfl) (.p (.a rfl) (.n (.t (.s ?_))))
  refine .drawF [arr bd 0 (dngC b p d vw ve), arr b 0 (spcC fv sv pv d.s.prg bt ps vm bg vt bk bw vr), arr p 0 (thrC t), sl wrdE 1 vm d.s.mem] [0, 0, 0, 0, 0, 0, 0, 0, 0, 0, 0, 0, 0, 0, 0, 0, 0, 0, 2, 0, 0, 0, 0, 4, 2, 0, 0] [0, 1, 2, 3, 4, 5, 6, 7, 8, 9, 10, 11, 12, 13, 14, 15, 16, 17, 18, 19, 20, 21, 22, 23, 24, 25, 26] rfl (by kernel_rfl) ?_
  refine GoF.q rfl rfl rfl Kept.auto (Y.m rfl) ?_
  refine GoF.q rfl rfl rfl Kept.auto (Y.n rfl) ?_
  refine GoF.q rfl rfl rfl Kept.auto (Y.fieldAddr0 2 69 underlying177 rfl sizeOf69 rfl) ?_
  refine GoF.q rfl rfl rfl Kept.auto (Y.load isAgg69 rfl (Cell.a (by rfl))) ?_
  refine GoF.q rfl rfl rfl Kept.auto (Y.n rfl) ?_
  refine GoF.q rfl rfl rfl Kept.auto (Y.fieldAddrZ 128 underlying130 rfl sizeOf128 rfl) ?_
  refine GoF.q rfl rfl rfl Kept.auto (Y.lda isAgg128 rfl (Cells.part0 (ds := frmE t.frm) (Cells.a (cs := thrC t)) rfl) (by exact sizeOf128)) ?_
  refine GoF.q rfl rfl rfl Kept.auto (Y.m rfl) ?_
  refine GoF.q rfl rfl rfl Kept.auto (Y.n rfl) ?_
  refine GoF.q rfl rfl rfl Kept.auto (Y.fieldAddr0 3 80 underlying177 rfl sizeOf80 rfl) ?_
  refine GoF.q rfl rfl rfl Kept.auto (Y.lda isAgg80 rfl (Cells.part0 (ds := insE d.i) (Cells.a (cs := dngC b p d vw ve)) rfl) (by exact sizeOf80)) ?_
  refine GoF.q rfl rfl rfl Kept.auto (Y.m rfl) ?_
  refine GoF.q rfl rfl rfl Kept.auto (Y.n rfl) ?_
  refine GoF.q rfl rfl rfl Kept.auto (Y.fieldAddrZ 27 underlying177 rfl sizeOf27 rfl) ?_
  refine GoF.q rfl rfl rfl Kept.auto (Y.load isAgg27 rfl (Cell.a (by rfl))) ?_
  refine GoF.q rfl rfl rfl Kept.auto (Y.n rfl) ?_
  refine GoF.q rfl rfl rfl Kept.auto (Y.fieldAddr0 25 62 underlying74 rfl sizeOf62 rfl) ?_
  refine GoF.q rfl rfl rfl Kept.auto (Y.load isAgg62 rfl (Cell.a (by rfl))) ?_
  refine GoF.callE rfl (.inl rfl) rfl (fun _ => Kept.auto) call97 rfl (frame_Plain (A := sl wrdE 1 vm d.s.mem) Rd.s hm hI hF hc) .auto (fun _ _ => Kept.auto) ?_
  rintro u5 -
  refine GoF.q rfl rfl rfl Kept.auto (Y.m rfl) ?_
  refine GoF.q rfl rfl rfl Kept.auto (Y.extract (v := .agg (frmE (plainR t.frm d.s.mem d.i).1).toArray) rfl rfl) ?_
  refine GoF.q rfl rfl rfl Kept.auto (Y.extract (v := u5) rfl rfl) ?_
  refine GoF.q rfl rfl rfl Kept.auto (Y.extract (v := .int .i64 (plainR t.frm d.s.mem d.i).2.2) rfl rfl) ?_
  refine GoF.fresh rfl rfl rfl (by decide) Kept.auto (fresh_alloc zeroValue128 rfl) ?_
  rintro b4
  refine GoF.sta2 rfl rfl (by exact sizeOf128) rfl rfl rfl (by rfl) Kept.auto Kept.auto ?_
  refine GoF.q rfl rfl rfl Kept.auto (Y.a rfl) ?_
  refine GoF.q rfl rfl rfl Kept.auto (Y.a rfl) ?_
  refine GoF.nil ?_
  refine .t (.s (.b (.s (.r (.p (.m rfl) (.p (.n rfl) (.p (.f rfl) (.p (.z rfl) (.p (.l rfl) (.p (.eql rfl rfl) (.p (.m rfl) ?_)))))))))))
  apply GoL.segAD 3 68 65 [65, 66, 67, 68] rfl
  · intro h65
    refine .g (.m rfl) (.g (.eql rfl rfl) (.p (.t rfl rfl) (.n ?_)))
    refine .seg .auto rfl (by first | exact fun _ h => h | exact Ent.kept .auto)
  · intro h65
    refine .u (.u (.p (.u rfl rfl) (.n ?_)))
    refine .seg .auto rfl (by first | exact fun _ h => h | exact Ent.kept .auto)
  refine .p (.a rfl) (.n (.t (.cond rfl (fun h58 => ?_) (fun h58 => ?_))))
  · simp only [Bool.and_eq_true, decide_eq_true_eq] at h58
    obtain ⟨h1, h0⟩ := h58
    obtain ⟨z, hz⟩ := plain_zero h0
    rw [plain_some hz]
    have hlt : t.regs.getD d.i.b.toNat 0 < d.s.mem.length := doI_load hz h1
    refine .r (.p (.m rfl) (.p (.m rfl) (.p (.m rfl) (.p (.n rfl) (.p (.z rfl) (.p (.l rfl) ?_))))))
    refine .p (.n rfl) (.p (.f rfl) (.p (.l rfl) (.p (.m rfl) ?_)))
    refine .p (.ixRd (t.regs.getD d.i.b.toNat 0).toNat underlying62 sizeOf78 rfl rfl Rd.s (by omega) (by omega)) ?_
    refine .p (.ld rfl (Cell.rd0 Rd.s (getD_some (d := (0 : Int)) (show (t.regs.getD d.i.b.toNat 0).toNat < d.s.mem.length by omega)) (by rfl))) ?_
    refine .to (A := thrsH ps d.s.thr) (Bs := [arr p 0 (thrC t), thrsH (ps.set d.n none) (d.s.thr.set d.n none)]) .auto (thrs_keep hp ht) ?_
    refine .p (.m rfl) ?_
    refine .does rfl (Does.callE rfl call88 rfl (dng_tell hp ht hr) .auto) ?_
    rintro _ _ ⟨⟨⟩, -, rfl, rfl⟩
    refine .n (.b (.t (.s (.s (.r (.p (.m rfl) (.p (.neq rfl rfl) (.n (.t (.condF rfl ?_))))))))))
    refine .v (.t ?_)
    refine .o2 (C := dngX bd b p ps (d.tell (t.regs.getD d.i.b.toNat 0) (d.s.mem.getD (t.regs.getD d.i.b.toNat 0).toNat 0) 0 true)) .auto rfl ?_
    rintro vw ve -
    refine .o10 (C := spcX b ps (d.tell (t.regs.getD d.i.b.toNat 0) (d.s.mem.getD (t.regs.getD d.i.b.toNat 0).toNat 0) 0 true).s) .auto rfl ?_
    rintro fv sv pv bt vm bg vt bk bw vr -
    refine .fr .auto (thrs_out hp (show (d.tell (t.regs.getD d.i.b.toNat 0) (d.s.mem.getD (t.regs.getD d.i.b.toNat 0).toNat 0) 0 true).s.thr[(d.tell (t.regs.getD d.i.b.toNat 0) (d.s.mem.getD (t.regs.getD d.i.b.toNat 0).toNat 0) 0 true).n]? = some (some t) from ht)) ?_
    refine .draw [arr bd 0 (dngC b p (d.tell (t.regs.getD d.i.b.toNat 0) (d.s.mem.getD (t.regs.getD d.i.b.toNat 0).toNat 0) 0 true) vw ve), arr b4 0 (frmE z.1)] [1, 1, 1, 1, 1, 1, 1, 1, 1, 0, 1, 1, 2, 1, 1, 3] rfl (by kernel_rfl) ?_
    refine .p (.m rfl) (.p (.n rfl) (.p (.f rfl) (.p (.l rfl) (.p (.m rfl) ?_))))
    refine .p (.n rfl) (.p (.z rfl) (.p (.l rfl) (.p (.lA rfl) (.q (.m rfl) ?_))))
    refine .p (.n rfl) (.p (.z rfl) ?_)
    refine .d2 rfl Kept.auto (Does.stp (vs := frmE z.1) (by exact sizeOf128) rfl rfl rfl rfl) (by rintro _ _ ⟨rfl, rfl⟩; exact Kept.auto) ?_
    rintro _ _ ⟨rfl, rfl⟩
    rw [thr_setF]
    refine .p (.n rfl) (.p (.f rfl) ?_)
    refine .d3 rfl (Does.stS sizeOf62 rfl rfl rfl) ?_
    rintro _ _ ⟨rfl, rfl⟩
    rw [spc_mem]
    refine .n ?_
    refine .to (A := thrsH ps ((d.tell (t.regs.getD d.i.b.toNat 0) (d.s.mem.getD (t.regs.getD d.i.b.toNat 0).toNat 0) 0 true).s.thr.set (d.tell (t.regs.getD d.i.b.toNat 0) (d.s.mem.getD (t.regs.getD d.i.b.toNat 0).toNat 0) 0 true).n (some (t.setF z.1)))) (Bs := [arr p 0 (thrC (t.setF z.1)), thrsH (ps.set (d.tell (t.regs.getD d.i.b.toNat 0) (d.s.mem.getD (t.regs.getD d.i.b.toNat 0).toNat 0) 0 true).n none) ((d.tell (t.regs.getD d.i.b.toNat 0) (d.s.mem.getD (t.regs.getD d.i.b.toNat 0).toNat 0) 0 true).s.thr.set (d.tell (t.regs.getD d.i.b.toNat 0) (d.s.mem.getD (t.regs.getD d.i.b.toNat 0).toNat 0) 0 true).n none)]) .auto (thrs_shut (List.getElem?_eq_some_iff.1 ht).1 hp) ?_
    rw [dplain_some ht hz, show d.told = d.tell (t.regs.getD d.i.b.toNat 0) (d.s.mem.getD (t.regs.getD d.i.b.toNat 0).toNat 0) 0 true from by unfold Dng.told; rw [if_pos h1, hb]]
    refine .end0 rfl fun w s => ⟨ps, ?_, trivial, finE .auto s⟩
    rfl
  · simp only [Bool.and_eq_false_iff, decide_eq_false_iff_not] at h58
    refine .s (.r (.p (.m rfl) (.p (.n rfl) (.p (.f rfl) (.p (.z rfl) (.p (.l rfl) (.p (.eql rfl rfl) (.p (.a rfl) (.n (.t (.condD rfl (fun h83 => ?_) (fun h83 => ?_))))))))))))
    · have hz := plain_six (h58.resolve_left (fun h => h h83))
      rw [plain_none hz]
      refine .r ?_
      refine .to (A := thrsH ps d.s.thr) (Bs := [arr p 0 (thrC t), thrsH (ps.set d.n none) (d.s.thr.set d.n none)]) .auto (thrs_keep hp ht) ?_
      refine .p (.m rfl) (.p (.m rfl) (.p (.m rfl) ?_))
      refine .does rfl (Does.callE rfl call88 rfl (dng_tell hp ht hr) .auto) ?_
      rintro _ _ ⟨⟨⟩, -, rfl, rfl⟩
      refine .n (.b (.t (.s (.s (.r (.p (.m rfl) (.p (.neq rfl rfl) (.n (.t (.condT rfl ?_))))))))))
      refine .s (.r (.p (.m rfl) ?_))
      refine .does rfl (Does.callE rfl call89 rfl (dng_fin (d := (d.tell (t.regs.getD d.i.b.toNat 0) 0 6 true)) hp ht hl hpl hT hR he hw hj) .auto) ?_
      rintro _ _ ⟨qs, -, rfl, rfl⟩
      refine .n (.t (.e (.tr ?_)))
      rw [dplain_none ht hz, if_pos h83, hb]
      refine .ret0 rfl fun w s => ⟨qs, ?_, trivial, finE .auto s⟩
      rfl
    · refine .s (.r (.p (.m rfl) (.p (.n rfl) (.p (.f rfl) (.p (.z rfl) (.p (.l rfl) (.p (.eql rfl rfl) (.p (.a rfl) (.n (.t (.condD rfl (fun h94 => ?_) (fun h94 => ?_))))))))))))
      · refine .r ?_
        refine .to (A := thrsH ps d.s.thr) (Bs := [arr p 0 (thrC t), thrsH (ps.set d.n none) (d.s.thr.set d.n none)]) .auto (thrs_keep hp ht) ?_
        refine .p (.m rfl) (.p (.m rfl) (.p (.m rfl) (.p (.m rfl) ?_)))
        refine .does rfl (Does.callE rfl call88 rfl (dng_tell hp ht hr) .auto) ?_
        rintro _ _ ⟨⟨⟩, -, rfl, rfl⟩
        refine .n (.b (.t (.s (.s (.r (.p (.m rfl) (.p (.neq rfl rfl) (.n (.t (.condD rfl (fun h107 => ?_) (fun h107 => ?_)))))))))))
        · have hz := plain_six h107
          rw [plain_none hz]
          refine .s (.r (.p (.m rfl) ?_))
          refine .does rfl (Does.callE rfl call89 rfl (dng_fin (d := (d.tell (t.regs.getD d.i.a.toNat 0) (t.regs.getD d.i.b.toNat 0) 6 true)) hp ht hl hpl hT hR he hw hj) .auto) ?_
          rintro _ _ ⟨qs, -, rfl, rfl⟩
          refine .n (.t (.e (.tr ?_)))
          rw [dplain_none ht hz, if_neg h83, ha, hb]
          refine .ret0 rfl fun w s => ⟨qs, ?_, trivial, finE .auto s⟩
          rfl
        · obtain ⟨z, hz⟩ := plain_zero (Decidable.not_not.mp h107)
          rw [plain_some hz]
          refine .v (.t ?_)
          refine .o2 (C := dngX bd b p ps (d.tell (t.regs.getD d.i.a.toNat 0) (t.regs.getD d.i.b.toNat 0) 0 true)) .auto rfl ?_
          rintro vw ve -
          refine .o10 (C := spcX b ps (d.tell (t.regs.getD d.i.a.toNat 0) (t.regs.getD d.i.b.toNat 0) 0 true).s) .auto rfl ?_
          rintro fv sv pv bt vm bg vt bk bw vr -
          refine .fr .auto (thrs_out hp (show (d.tell (t.regs.getD d.i.a.toNat 0) (t.regs.getD d.i.b.toNat 0) 0 true).s.thr[(d.tell (t.regs.getD d.i.a.toNat 0) (t.regs.getD d.i.b.toNat 0) 0 true).n]? = some (some t) from ht)) ?_
          refine .draw [arr bd 0 (dngC b p (d.tell (t.regs.getD d.i.a.toNat 0) (t.regs.getD d.i.b.toNat 0) 0 true) vw ve), arr b4 0 (frmE z.1)] [1, 1, 1, 1, 1, 1, 1, 1, 1, 0, 1, 1, 2, 1, 1, 3] rfl (by kernel_rfl) ?_
          refine .p (.m rfl) (.p (.n rfl) (.p (.f rfl) (.p (.l rfl) (.p (.m rfl) ?_))))
          refine .p (.n rfl) (.p (.z rfl) (.p (.l rfl) (.p (.lA rfl) (.q (.m rfl) ?_))))
          refine .p (.n rfl) (.p (.z rfl) ?_)
          refine .d2 rfl Kept.auto (Does.stp (vs := frmE z.1) (by exact sizeOf128) rfl rfl rfl rfl) (by rintro _ _ ⟨rfl, rfl⟩; exact Kept.auto) ?_
          rintro _ _ ⟨rfl, rfl⟩
          rw [thr_setF]
          refine .p (.n rfl) (.p (.f rfl) ?_)
          refine .d3 rfl (Does.stS sizeOf62 rfl rfl rfl) ?_
          rintro _ _ ⟨rfl, rfl⟩
          rw [spc_mem]
          refine .n ?_
          refine .to (A := thrsH ps ((d.tell (t.regs.getD d.i.a.toNat 0) (t.regs.getD d.i.b.toNat 0) 0 true).s.thr.set (d.tell (t.regs.getD d.i.a.toNat 0) (t.regs.getD d.i.b.toNat 0) 0 true).n (some (t.setF z.1)))) (Bs := [arr p 0 (thrC (t.setF z.1)), thrsH (ps.set (d.tell (t.regs.getD d.i.a.toNat 0) (t.regs.getD d.i.b.toNat 0) 0 true).n none) ((d.tell (t.regs.getD d.i.a.toNat 0) (t.regs.getD d.i.b.toNat 0) 0 true).s.thr.set (d.tell (t.regs.getD d.i.a.toNat 0) (t.regs.getD d.i.b.toNat 0) 0 true).n none)]) .auto (thrs_shut (List.getElem?_eq_some_iff.1 ht).1 hp) ?_
          rw [dplain_some ht hz, show d.told = d.tell (t.regs.getD d.i.a.toNat 0) (t.regs.getD d.i.b.toNat 0) 0 true from by unfold Dng.told; rw [if_neg h83, if_pos h94, ha, hb]]
          refine .end0 rfl fun w s => ⟨ps, ?_, trivial, finE .auto s⟩
          rfl
      · refine .v (.b (.t (.s (.s (.r (.p (.m rfl) (.p (.neq rfl rfl) (.n (.t (.condD rfl (fun h107 => ?_) (fun h107 => ?_)))))))))))
        · exact absurd (doI_none (plain_six h107)) (by omega)
        · obtain ⟨z, hz⟩ := plain_zero (Decidable.not_not.mp h107)
          rw [plain_some hz]
          refine .v (.t ?_)
          refine .draw [arr bd 0 (dngC b p (d) vw ve), arr b4 0 (frmE z.1)] [1, 1, 1, 1, 1, 1, 1, 1, 1, 0, 1, 1, 2, 1, 1, 3] rfl (by kernel_rfl) ?_
          refine .p (.m rfl) (.p (.n rfl) (.p (.f rfl) (.p (.l rfl) (.p (.m rfl) ?_))))
          refine .p (.n rfl) (.p (.z rfl) (.p (.l rfl) (.p (.lA rfl) (.q (.m rfl) ?_))))
          refine .p (.n rfl) (.p (.z rfl) ?_)
          refine .d2 rfl Kept.auto (Does.stp (vs := frmE z.1) (by exact sizeOf128) rfl rfl rfl rfl) (by rintro _ _ ⟨rfl, rfl⟩; exact Kept.auto) ?_
          rintro _ _ ⟨rfl, rfl⟩
          rw [thr_setF]
          refine .p (.n rfl) (.p (.f rfl) ?_)
          refine .d3 rfl (Does.stS sizeOf62 rfl rfl rfl) ?_
          rintro _ _ ⟨rfl, rfl⟩
          rw [spc_mem]
          refine .n ?_
          refine .to (A := thrsH ps ((d).s.thr.set (d).n (some (t.setF z.1)))) (Bs := [arr p 0 (thrC (t.setF z.1)), thrsH (ps.set (d).n none) ((d).s.thr.set (d).n none)]) .auto (thrs_shut (List.getElem?_eq_some_iff.1 ht).1 hp) ?_
          rw [dplain_some ht hz, show d.told = d from by unfold Dng.told; rw [if_neg h83, if_neg h94]]
          refine .end0 rfl fun w s => ⟨ps, ?_, trivial, finE .auto s⟩
          rfl

end Go.SLYtnceicnimongcaaGreat
namespace Go.SLYtnceicnimongcaaGreat
open Go Go.RowKit Go.Proofs Go.Proofs.Tryz

theorem gate_Lock {W : World} {b : Nat} {g : Gates} {who m : Int} (hg : GatesLen g) : Fn Tryz.prog W 116 [ptr b, .int .i64 who, .int .i64 m] [gatesH b g] Unit (fun _ => .tuple #[.bool (g.lock who m).1, .int .i64 (g.lock who m).2.1]) (fun _ => True) (fun _ => [gatesH b (g.lock who m).2.2]) := by
  refine Fn.intro (N := 27) func116 rfl ntmps116 rfl fun F => ?_
  show GoC _ _ _ _ _ _ [gatesH b g, F]
  refine .o3 (C := gatesH b g) .auto rfl ?_
  rintro vm vc vs -
  refine .s (.r (.p (.a rfl) (.p (.a rfl) (.n (.t (.s (.r (.p (.m rfl) (.p (.m rfl) ?_)))))))))
  refine .does rfl (Does.callE rfl call136 rfl gate_mutex .auto) ?_
  rintro _ _ ⟨⟨⟩, -, rfl, rfl⟩
  refine .p (.a rfl) (.n (.t (.s (.b (.s (.r (.p (.m rfl) (.p (.eqp rfl rfl) (.p (.a rfl) (.n (.t (.cond rfl (fun h12 => ?_) (fun h12 => ?_)))))))))))))
  · refine .s (.r (.p (.a rfl) (.p (.a rfl) (.n (.t (.e (.br (.tr ?_))))))))
    rw [g_lock_no (isNone_no h12)]
    refine .ret2 rfl rfl rfl fun w s => ⟨(), ?_, trivial, finE .auto s⟩
    rfl
  · refine .s (.r ?_)
    have hmhx := isNone_yes h12
    rw [elP_some hmhx]
    obtain ⟨x, hx, hgx⟩ := geti_some hmhx
    refine .p (.m rfl) (.p (.m rfl) ?_)
    refine .does rfl (Does.callE rfl call137 rfl (gate_waits hg) .auto) ?_
    rintro _ _ ⟨⟨⟩, -, rfl, rfl⟩
    refine .fr .auto (mtx_out hx) ?_
    refine .p (.m rfl) ?_
    apply GoL.segO 4 23 19 [19, 20, 21, 22, 23] rfl
    · intro h19
      refine .g (.m rfl) (.g (.m rfl) ?_)
      refine .dg rfl rfl rfl (Does.callE rfl call138 rfl mutex_is .auto) ?_
      rintro _ _ ⟨⟨⟩, -, rfl, rfl⟩
      refine .p (.u rfl rfl) (.n ?_)
      refine .seg .auto rfl (by first | exact fun _ h => h | exact Ent.kept .auto)
    · intro h19
      refine .u (.u (.u (.p (.t rfl rfl) (.n ?_))))
      refine .seg .auto rfl (by first | exact fun _ h => h | exact Ent.kept .auto)
    refine .p (.a rfl) (.n (.t (.cond rfl (fun h15 => ?_) (fun h15 => ?_))))
    · refine .s (.r (.p (.a rfl) (.p (.a rfl) (.n (.t (.e (.br (.tr ?_))))))))
      rw [g_lock_busy hgx h15]
      refine .to (A := mtxsH vm g.mtx) (Bs := [mtxAt (blk vm) (ofs vm + m.toNat * 3) x, mtxR vm g.mtx m.toNat]) .auto (mtx_back hx) ?_
      refine .ret2 rfl rfl rfl fun w s => ⟨(), ?_, trivial, finE .auto s⟩
      rfl
    · refine .v (.b (.t (.s (.r (.p (.m rfl) (.p (.m rfl) ?_))))))
      refine .does rfl (Does.callE rfl call122 rfl (mutex_lock (Nat.le_trans (hg.mw x (List.mem_of_getElem? hx)) (by decide))) .auto) ?_
      rintro _ _ ⟨⟨⟩, -, rfl, rfl⟩
      refine .p (.a rfl) (.p (.a rfl) (.n (.t (.e ?_))))
      rw [g_lock_go hgx h15]
      refine .to (A := mtxsH vm (g.mtx.set m.toNat (x.lock who).2)) (Bs := [mtxAt (blk vm) (ofs vm + m.toNat * 3) (x.lock who).2, mtxR vm g.mtx m.toNat]) .auto (mtx_in (x.lock who).2) ?_
      refine .ret2 rfl rfl rfl fun w s => ⟨(), ?_, trivial, finE .auto s⟩
      rfl

theorem gate_Unlock {W : World} {b : Nat} {g : Gates} {who m c : Int} (hg : GatesLen g) : Fn Tryz.prog W 117 [ptr b, .int .i64 who, .int .i64 m, .int .i64 c] [gatesH b g] Unit (fun _ => .tuple #[.int .i64 (g.unlock who m c).1, .bool (g.unlock who m c).2.1, .int .i64 (g.unlock who m c).2.2.1]) (fun _ => True) (fun _ => [gatesH b (g.unlock who m c).2.2.2]) := by
  refine Fn.intro (N := 33) func117 rfl ntmps117 rfl fun F => ?_
  show GoC _ _ _ _ _ _ [gatesH b g, F]
  refine .o3 (C := gatesH b g) .auto rfl ?_
  rintro vm vc vs -
  refine .s (.r (.p (.a rfl) (.p (.a rfl) (.p (.a rfl) (.n (.t (.s (.r (.p (.m rfl) (.p (.m rfl) ?_))))))))))
  refine .does rfl (Does.callE rfl call136 rfl gate_mutex .auto) ?_
  rintro _ _ ⟨⟨⟩, -, rfl, rfl⟩
  refine .p (.a rfl) (.n (.t (.s (.b (.s (.r (.p (.m rfl) (.p (.eqp rfl rfl) (.p (.a rfl) (.n (.t (.cond rfl (fun h17 => ?_) (fun h17 => ?_)))))))))))))
  · refine .s (.r (.p (.a rfl) (.p (.a rfl) (.p (.a rfl) (.n (.t (.e (.br (.tr ?_)))))))))
    rw [g_unlock_no (isNone_no h17)]
    refine .ret3 rfl rfl rfl rfl fun w s => ⟨(), ?_, trivial, finE .auto s⟩
    rfl
  · refine .s (.r ?_)
    have hmhx := isNone_yes h17
    rw [elP_some hmhx]
    obtain ⟨x, hx, hgx⟩ := geti_some hmhx
    refine .fr .auto (mtx_out hx) ?_
    refine .p (.m rfl) (.p (.m rfl) ?_)
    refine .does rfl (Does.callE rfl call138 rfl mutex_is .auto) ?_
    rintro _ _ ⟨⟨⟩, -, rfl, rfl⟩
    refine .p (.not rfl) (.p (.a rfl) (.n (.t (.cond rfl (fun h20 => ?_) (fun h20 => ?_)))))
    · refine .s (.r (.p (.a rfl) (.p (.a rfl) (.p (.a rfl) (.n (.t (.e (.br (.tr ?_)))))))))
      rw [g_unlock_own hgx (by simpa using h20)]
      refine .to (A := mtxsH vm g.mtx) (Bs := [mtxAt (blk vm) (ofs vm + m.toNat * 3) x, mtxR vm g.mtx m.toNat]) .auto (mtx_back hx) ?_
      refine .ret3 rfl rfl rfl rfl fun w s => ⟨(), ?_, trivial, finE .auto s⟩
      rfl
    · refine .v (.b (.t (.s (.r (.p (.m rfl) (.p (.m rfl) ?_))))))
      refine .does rfl (Does.callE rfl call139 rfl (mutex_unlock (hg.mw x (List.mem_of_getElem? hx))) .auto) ?_
      rintro _ _ ⟨⟨⟩, -, rfl, rfl⟩
      refine .p (.m rfl) (.p (.extract rfl rfl) (.p (.extract rfl rfl) (.p (.a rfl) (.p (.a rfl) (.n (.t (.s (.r (.p (.m rfl) (.p (.m rfl) (.p (.a rfl) (.p (.a rfl) (.p (.a rfl) (.n (.t (.e ?_))))))))))))))))
      rw [g_unlock_go hgx (by simpa using h20)]
      refine .to (A := mtxsH vm (g.mtx.set m.toNat (x.unlock c).2.2)) (Bs := [mtxAt (blk vm) (ofs vm + m.toNat * 3) (x.unlock c).2.2, mtxR vm g.mtx m.toNat]) .auto (mtx_in (x.unlock c).2.2) ?_
      refine .ret3 rfl rfl rfl rfl fun w s => ⟨(), ?_, trivial, finE .auto s⟩
      rfl

theorem gate_Wait {W : World} {b : Nat} {g : Gates} {who c m ch : Int} (hg : GatesLen g) : Fn Tryz.prog W 119 [ptr b, .int .i64 who, .int .i64 c, .int .i64 m, .int .i64 ch] [gatesH b g] Unit (fun _ => .tuple #[.int .i64 (g.wait who c m ch).1, .bool (g.wait who c m ch).2.1, .int .i64 (g.wait who c m ch).2.2.1]) (fun _ => True) (fun _ => [gatesH b (g.wait who c m ch).2.2.2]) := by
  refine Fn.intro (N := 52) func119 rfl ntmps119 rfl fun F => ?_
  show GoC _ _ _ _ _ _ [gatesH b g, F]
  refine .o3 (C := gatesH b g) .auto rfl ?_
  rintro vm vc vs -
  refine .s (.r (.p (.a rfl) (.p (.a rfl) (.p (.a rfl) (.n (.t (.s (.r (.p (.m rfl) (.p (.m rfl) ?_))))))))))
  refine .does rfl (Does.callE rfl call136 rfl gate_mutex .auto) ?_
  rintro _ _ ⟨⟨⟩, -, rfl, rfl⟩
  refine .p (.m rfl) (.p (.m rfl) ?_)
  refine .does rfl (Does.callE rfl call120 rfl gate_cond .auto) ?_
  rintro _ _ ⟨⟨⟩, -, rfl, rfl⟩
  refine .p (.a rfl) (.p (.a rfl) (.n (.t (.s (.b (.s (.r (.p (.m rfl) (.p (.eqp rfl rfl) (.p (.m rfl) ?_))))))))))
  apply GoL.segO 3 29 26 [26, 27, 28, 29] rfl
  · intro h26
    refine .g (.m rfl) (.g (.eqp rfl rfl) (.p (.u rfl rfl) (.n ?_)))
    refine .seg .auto rfl (by first | exact fun _ h => h | exact Ent.kept .auto)
  · intro h26
    refine .u (.u (.p (.t rfl rfl) (.n ?_)))
    refine .seg .auto rfl (by first | exact fun _ h => h | exact Ent.kept .auto)
  refine .p (.a rfl) (.n (.t (.cond rfl (fun h23 => ?_) (fun h23 => ?_))))
  · have hw : g.wait who c m ch = (0, false, 1, g) := by
      rcases (Bool.or_eq_true _ _).mp h23 with h | h
      · exact g_wait_no1 (isNone_no h)
      · exact g_wait_no2 (isNone_no h)
    refine .s (.r (.p (.a rfl) (.p (.a rfl) (.p (.a rfl) (.n (.t (.e (.br (.tr ?_)))))))))
    rw [hw]
    refine .ret3 rfl rfl rfl rfl fun w s => ⟨(), ?_, trivial, finE .auto s⟩
    rfl
  · refine .s (.r ?_)
    rw [Bool.or_eq_false_iff] at h23
    have hmhx := isNone_yes h23.1
    rw [elP_some hmhx]
    obtain ⟨x, hx, hgx⟩ := geti_some hmhx
    have hmhr := isNone_yes h23.2
    rw [elP_some hmhr]
    obtain ⟨r, hr, hgr⟩ := geti_some hmhr
    refine .p (.m rfl) (.p (.m rfl) ?_)
    refine .does rfl (Does.callE rfl call137 rfl (gate_waits hg) .auto) ?_
    rintro _ _ ⟨⟨⟩, -, rfl, rfl⟩
    refine .p (.a rfl) (.n (.t (.cond rfl (fun h30 => ?_) (fun h30 => ?_))))
    · refine .s (.r (.p (.a rfl) (.p (.a rfl) (.p (.a rfl) (.n (.t (.e (.br (.tr ?_)))))))))
      rw [g_wait_busy hgx hgr h30]
      refine .ret3 rfl rfl rfl rfl fun w s => ⟨(), ?_, trivial, finE .auto s⟩
      rfl
    · refine .s (.r ?_)
      refine .fr .auto (mtx_out hx) ?_
      refine .p (.m rfl) (.p (.m rfl) ?_)
      refine .does rfl (Does.callE rfl call138 rfl mutex_is .auto) ?_
      rintro _ _ ⟨⟨⟩, -, rfl, rfl⟩
      refine .p (.not rfl) (.p (.a rfl) (.n (.t (.cond rfl (fun h34 => ?_) (fun h34 => ?_)))))
      · refine .s (.r (.p (.a rfl) (.p (.a rfl) (.p (.a rfl) (.n (.t (.e (.br (.tr ?_)))))))))
        rw [g_wait_own hgx hgr h30 (by simpa using h34)]
        refine .to (A := mtxsH vm g.mtx) (Bs := [mtxAt (blk vm) (ofs vm + m.toNat * 3) x, mtxR vm g.mtx m.toNat]) .auto (mtx_back hx) ?_
        refine .ret3 rfl rfl rfl rfl fun w s => ⟨(), ?_, trivial, finE .auto s⟩
        rfl
      · refine .v (.b (.t (.s (.r (.p (.m rfl) (.p (.m rfl) ?_))))))
        refine .does rfl (Does.callE rfl call139 rfl (mutex_unlock (hg.mw x (List.mem_of_getElem? hx))) .auto) ?_
        rintro _ _ ⟨⟨⟩, -, rfl, rfl⟩
        refine .p (.m rfl) (.p (.extract rfl rfl) (.p (.extract rfl rfl) (.p (.a rfl) (.p (.a rfl) (.n (.t (.s (.r ?_))))))))
        refine .to (A := mtxsH vm (g.mtx.set m.toNat (x.unlock ch).2.2)) (Bs := [mtxAt (blk vm) (ofs vm + m.toNat * 3) (x.unlock ch).2.2, mtxR vm g.mtx m.toNat]) .auto (mtx_in (x.unlock ch).2.2) ?_
        refine .fr .auto (cnd_out hr) ?_
        refine .p (.m rfl) (.p (.m rfl) (.p (.m rfl) ?_))
        refine .p (.bld2 (fun v1 v2 => [v1, v2]) rfl rfl (by kernel_rfl)) ?_
        refine .does rfl (Does.callE rfl call140 rfl (row_add (x := ⟨who, m⟩) (Nat.le_trans (hg.cw r (List.mem_of_getElem? hr)) (by decide))) .auto) ?_
        rintro _ _ ⟨⟨⟩, -, rfl, rfl⟩
        refine .n (.t (.s (.r (.p (.m rfl) (.p (.m rfl) (.p (.a rfl) (.p (.a rfl) (.p (.a rfl) (.n (.t (.e ?_)))))))))))
        rw [g_wait_go hgx hgr h30 (by simpa using h34)]
        refine .to (A := cndsH vc (g.cnd.set c.toNat (r ++ [⟨who, m⟩]))) (Bs := [rowH (blk vc) (ofs vc + c.toNat * 1) (r ++ [⟨who, m⟩]), cndR vc g.cnd c.toNat]) .auto (cnd_in (r ++ [⟨who, m⟩])) ?_
        refine .ret3 rfl rfl rfl rfl fun w s => ⟨(), ?_, trivial, finE .auto s⟩
        rfl

theorem gate_Down {W : World} {b : Nat} {g : Gates} {who s : Int} (hg : GatesLen g) (hc : ∀ x ∈ g.sem, 0 ≤ x.count ∧ x.count ≤ 1048576) : Fn Tryz.prog W 125 [ptr b, .int .i64 who, .int .i64 s] [gatesH b g] Unit (fun _ => .tuple #[.bool (g.down who s).1, .int .i64 (g.down who s).2.1]) (fun _ => True) (fun _ => [gatesH b (g.down who s).2.2]) := by
  refine Fn.intro (N := 38) func125 rfl ntmps125 rfl fun F => ?_
  show GoC _ _ _ _ _ _ [gatesH b g, F]
  refine .o3 (C := gatesH b g) .auto rfl ?_
  rintro vm vc vs -
  refine .s (.r (.p (.a rfl) (.p (.a rfl) (.n (.t (.s (.r (.p (.m rfl) (.p (.m rfl) ?_)))))))))
  refine .does rfl (Does.callE rfl call143 rfl gate_sem .auto) ?_
  rintro _ _ ⟨⟨⟩, -, rfl, rfl⟩
  refine .p (.a rfl) (.n (.t (.s (.b (.s (.r (.p (.m rfl) (.p (.eqp rfl rfl) (.p (.a rfl) (.n (.t (.cond rfl (fun h12 => ?_) (fun h12 => ?_)))))))))))))
  · refine .s (.r (.p (.a rfl) (.p (.a rfl) (.n (.t (.e (.br (.tr ?_))))))))
    rw [g_down_no (isNone_no h12)]
    refine .ret2 rfl rfl rfl fun w s => ⟨(), ?_, trivial, finE .auto s⟩
    rfl
  · refine .s (.r ?_)
    have hmhx := isNone_yes h12
    rw [elP_some hmhx]
    obtain ⟨x, hx, hgx⟩ := geti_some hmhx
    refine .p (.m rfl) (.p (.m rfl) ?_)
    refine .does rfl (Does.callE rfl call137 rfl (gate_waits hg) .auto) ?_
    rintro _ _ ⟨⟨⟩, -, rfl, rfl⟩
    refine .p (.a rfl) (.n (.t (.cond rfl (fun h15 => ?_) (fun h15 => ?_))))
    · refine .s (.r (.p (.a rfl) (.p (.a rfl) (.n (.t (.e (.br (.tr ?_))))))))
      rw [g_down_busy hgx h15]
      refine .ret2 rfl rfl rfl fun w s => ⟨(), ?_, trivial, finE .auto s⟩
      rfl
    · refine .s (.r ?_)
      refine .fr .auto (smp_out hx) ?_
      have hcx := hc x (List.mem_of_getElem? hx)
      refine .o1 (C := smpAt (blk vs) (ofs vs + s.toNat * 2) x) .auto rfl ?_
      rintro u -
      refine .p (.m rfl) (.p (.n rfl) (.p (.o rfl) (.p (.lo rfl) (.p (.gtr rfl rfl) (.p (.a rfl) (.n (.t (.condD rfl (fun h19 => ?_) (fun h19 => ?_)))))))))
      · refine .s (.r (.p (.m rfl) (.p (.n rfl) (.p (.o rfl) (.p (.lo rfl) ?_)))))
        refine .p (.sub rfl rfl (by omega)) ?_
        refine .p (.n rfl) (.p (.o rfl) ?_)
        refine .does rfl (Does.sto sizeOf3 rfl rfl rfl rfl) ?_
        rintro _ _ ⟨rfl, rfl⟩
        refine .n (.t (.s (.r (.p (.a rfl) (.p (.a rfl) (.n (.t (.e (.br (.tr ?_))))))))))
        rw [g_down_go hgx h15 h19]
        refine .to (A := smpsH vs (g.sem.set s.toNat { x with count := x.count - 1 })) (Bs := [smpAt (blk vs) (ofs vs + s.toNat * 2) { x with count := x.count - 1 }, smpR vs g.sem s.toNat]) .auto (smp_in { x with count := x.count - 1 }) ?_
        refine .ret2 rfl rfl rfl fun w s => ⟨(), ?_, trivial, finE .auto s⟩
        rfl
      · refine .v (.b (.t (.s (.r (.p (.m rfl) (.p (.n rfl) ?_))))))
        refine .fr .auto (arr_cut1 (b := blk vs) (o := ofs vs + s.toNat * 2) (u := u)) ?_
        refine .p (.z rfl) (.p (.m rfl) ?_)
        refine .p (.bld1 (fun v1 => [v1, (.int .i64 0)]) rfl (by kernel_rfl)) ?_
        refine .does rfl (Does.callE rfl call140 rfl (row_add (x := ⟨who, 0⟩) (Nat.le_trans (hg.sw x (List.mem_of_getElem? hx)) (by decide))) .auto) ?_
        rintro _ _ ⟨⟨⟩, -, rfl, rfl⟩
        refine .n (.t (.s (.r (.p (.a rfl) (.p (.a rfl) (.n (.t (.e ?_))))))))
        rw [g_down_wait hgx h15 h19]
        refine .to (A := smpAt (blk vs) (ofs vs + s.toNat * 2) { x with wait := x.wait ++ [⟨who, 0⟩] }) (Bs := [rowH (blk vs) (ofs vs + s.toNat * 2) (x.wait ++ [⟨who, 0⟩]), arr (blk vs) (ofs vs + s.toNat * 2 + 1) [.int .i64 x.count]]) .auto (row_smp (m := { x with wait := x.wait ++ [⟨who, 0⟩] })) ?_
        refine .to (A := smpsH vs (g.sem.set s.toNat { x with wait := x.wait ++ [⟨who, 0⟩] })) (Bs := [smpAt (blk vs) (ofs vs + s.toNat * 2) { x with wait := x.wait ++ [⟨who, 0⟩] }, smpR vs g.sem s.toNat]) .auto (smp_in { x with wait := x.wait ++ [⟨who, 0⟩] }) ?_
        refine .ret2 rfl rfl rfl fun w s => ⟨(), ?_, trivial, finE .auto s⟩
        rfl

theorem gate_Up {W : World} {b : Nat} {g : Gates} {s c : Int} (hg : GatesLen g) (hc : ∀ x ∈ g.sem, 0 ≤ x.count ∧ x.count ≤ 1048576) : Fn Tryz.prog W 124 [ptr b, .int .i64 s, .int .i64 c] [gatesH b g] Unit (fun _ => .tuple #[.int .i64 (g.up s c).1, .bool (g.up s c).2.1, .int .i64 (g.up s c).2.2.1]) (fun _ => True) (fun _ => [gatesH b (g.up s c).2.2.2]) := by
  refine Fn.intro (N := 40) func124 rfl ntmps124 rfl fun F => ?_
  show GoC _ _ _ _ _ _ [gatesH b g, F]
  refine .o3 (C := gatesH b g) .auto rfl ?_
  rintro vm vc vs -
  refine .s (.r (.p (.a rfl) (.p (.a rfl) (.p (.a rfl) (.n (.t (.s (.r (.p (.m rfl) (.p (.m rfl) ?_))))))))))
  refine .does rfl (Does.callE rfl call143 rfl gate_sem .auto) ?_
  rintro _ _ ⟨⟨⟩, -, rfl, rfl⟩
  refine .p (.a rfl) (.n (.t (.s (.s (.r (.p (.m rfl) (.p (.eqp rfl rfl) (.n (.t (.cond rfl (fun h16 => ?_) (fun h16 => ?_)))))))))))
  · refine .s (.r (.p (.a rfl) (.p (.a rfl) (.p (.a rfl) (.n (.t (.e (.tr ?_))))))))
    rw [g_up_no (isNone_no h16)]
    refine .ret3 rfl rfl rfl rfl fun w s => ⟨(), ?_, trivial, finE .auto s⟩
    rfl
  · refine .v (.t (.s (.s (.r ?_))))
    have hmhx := isNone_yes h16
    rw [elP_some hmhx]
    obtain ⟨x, hx, hgx⟩ := geti_some hmhx
    refine .fr .auto (smp_out hx) ?_
    have hcx := hc x (List.mem_of_getElem? hx)
    refine .o1 (C := smpAt (blk vs) (ofs vs + s.toNat * 2) x) .auto rfl ?_
    rintro u -
    refine .fr .auto (arr_cut1 (b := blk vs) (o := ofs vs + s.toNat * 2) (u := u)) ?_
    refine .p (.m rfl) (.p (.n rfl) (.p (.z rfl) (.p (.m rfl) ?_)))
    refine .does rfl (Does.callE rfl call121 rfl (row_take (hg.sw x (List.mem_of_getElem? hx))) .auto) ?_
    rintro _ _ ⟨⟨⟩, -, rfl, rfl⟩
    refine .p (.m rfl) (.p (.extract rfl rfl) (.p (.extract rfl rfl) ?_))
    refine .does rfl (Does.alloc rfl zeroValue212 rfl) ?_
    rintro _ _ ⟨b10, rfl, rfl⟩
    refine .does rfl (Does.sta (by exact sizeOf212) rfl rfl rfl (by rfl)) ?_
    rintro _ _ ⟨rfl, rfl⟩
    refine .p (.a rfl) (.n (.t (.s (.r (.p (.m rfl) (.n (.t (.cond rfl (fun h25 => ?_) (fun h25 => ?_)))))))))
    · refine .s (.r (.p (.z rfl) (.p (.l rfl) (.p (.a rfl) (.p (.a rfl) (.p (.a rfl) (.n (.t (.e (.tr ?_))))))))))
      rw [g_up_take hgx h25]
      refine .to (A := smpAt (blk vs) (ofs vs + s.toNat * 2) { x with wait := (takeW x.wait c).2.2 }) (Bs := [rowH (blk vs) (ofs vs + s.toNat * 2) (takeW x.wait c).2.2, arr (blk vs) (ofs vs + s.toNat * 2 + 1) [.int .i64 x.count]]) .auto (row_smp (m := { x with wait := (takeW x.wait c).2.2 })) ?_
      refine .to (A := smpsH vs (g.sem.set s.toNat { x with wait := (takeW x.wait c).2.2 })) (Bs := [smpAt (blk vs) (ofs vs + s.toNat * 2) { x with wait := (takeW x.wait c).2.2 }, smpR vs g.sem s.toNat]) .auto (smp_in { x with wait := (takeW x.wait c).2.2 }) ?_
      refine .ret3 rfl rfl rfl rfl fun w s => ⟨(), ?_, trivial, finE .auto s⟩
      rfl
    · have htw := take_none h25
      refine .v (.t (.s (.s (.r (.p (.m rfl) (.p (.n rfl) (.p (.o rfl) ?_)))))))
      refine .p (.ld rfl (Cell.az (cs := [.int .i64 x.count]) rfl)) ?_
      refine .p (.geq rfl rfl) (.n (.t (.condD rfl (fun h32 => ?_) (fun h32 => ?_))))
      · refine .s (.r (.p (.a rfl) (.p (.a rfl) (.p (.a rfl) (.n (.t (.e (.tr ?_))))))))
        rw [g_up_full hgx h25 h32]
        rw [htw]
        refine .to (A := smpAt (blk vs) (ofs vs + s.toNat * 2) x) (Bs := [rowH (blk vs) (ofs vs + s.toNat * 2) x.wait, arr (blk vs) (ofs vs + s.toNat * 2 + 1) [.int .i64 x.count]]) .auto row_smp ?_
        refine .to (A := smpsH vs g.sem) (Bs := [smpAt (blk vs) (ofs vs + s.toNat * 2) x, smpR vs g.sem s.toNat]) .auto (smp_back hx) ?_
        refine .ret3 rfl rfl rfl rfl fun w s => ⟨(), ?_, trivial, finE .auto s⟩
        rfl
      · refine .v (.t (.s (.r (.p (.m rfl) (.p (.n rfl) (.p (.o rfl) ?_))))))
        refine .p (.ld rfl (Cell.az (cs := [.int .i64 x.count]) rfl)) ?_
        refine .p (.add rfl rfl (by omega)) ?_
        refine .p (.n rfl) (.p (.o rfl) ?_)
        refine .does rfl (Does.stz sizeOf3 rfl rfl rfl rfl) ?_
        rintro _ _ ⟨rfl, rfl⟩
        refine .n (.t (.s (.r (.p (.a rfl) (.p (.a rfl) (.p (.a rfl) (.n (.t (.e ?_)))))))))
        rw [g_up_go hgx h25 h32, htw]
        refine .to (A := smpAt (blk vs) (ofs vs + s.toNat * 2) { x with count := x.count + 1 }) (Bs := [rowH (blk vs) (ofs vs + s.toNat * 2) x.wait, arr (blk vs) (ofs vs + s.toNat * 2 + 1) [.int .i64 (x.count + 1)]]) .auto (row_smp (m := { x with count := x.count + 1 })) ?_
        refine .to (A := smpsH vs (g.sem.set s.toNat { x with count := x.count + 1 })) (Bs := [smpAt (blk vs) (ofs vs + s.toNat * 2) { x with count := x.count + 1 }, smpR vs g.sem s.toNat]) .auto (smp_in { x with count := x.count + 1 }) ?_
        refine .ret3 rfl rfl rfl rfl fun w s => ⟨(), ?_, trivial, finE .auto s⟩
        rfl

theorem gate_Signal {W : World} {b : Nat} {g : Gates} {c ch : Int} {all : Bool} (hg : GatesLen g) (hm : ∀ r ∈ g.cnd, ∀ w ∈ r, 0 ≤ w.mutex ∧ w.mutex < (g.mtx.length : Int)) : Fn Tryz.prog W 104 [ptr b, .int .i64 c, .int .i64 ch, .bool all] [gatesH b g] Value (fun u => .tuple #[u, .int .i64 (g.signal c ch all).2.1]) (fun _ => True) (fun u => [sl intE 1 u (g.signal c ch all).1, gatesH b (g.signal c ch all).2.2]) := by
  refine Fn.intro (N := 58) func104 rfl ntmps104 rfl fun F => ?_
  show GoC _ _ _ _ _ _ [gatesH b g, F]
  refine .o3 (C := gatesH b g) .auto rfl ?_
  rintro vm vc vs -
  refine .s (.r (.p (.a rfl) (.p (.a rfl) (.n (.t (.s (.r (.p (.m rfl) (.p (.m rfl) ?_)))))))))
  refine .does rfl (Does.callE rfl call120 rfl gate_cond .auto) ?_
  rintro _ _ ⟨⟨⟩, -, rfl, rfl⟩
  refine .p (.a rfl) (.n (.t (.s (.s (.r (.p (.m rfl) (.p (.eqp rfl rfl) (.n (.t (.cond rfl (fun h19 => ?_) (fun h19 => ?_)))))))))))
  · refine .s (.r (.p (.a rfl) (.p (.a rfl) (.n (.t (.e (.tr ?_)))))))
    rw [g_signal_no (isNone_no h19)]
    refine .ret2 rfl rfl rfl fun w s => ⟨.slice none 0 0, ?_, trivial, finE .auto s⟩
    rfl
  · refine .v (.t (.s (.r ?_)))
    have hmhr := isNone_yes h19
    rw [elP_some hmhr]
    obtain ⟨r, hr, hgr⟩ := geti_some hmhr
    refine .fr .auto (cnd_out hr) ?_
    have hrl := hg.cw r (List.mem_of_getElem? hr)
    have hrm := hm r (List.mem_of_getElem? hr)
    refine .o1 (C := rowH (blk vc) (ofs vc + c.toNat * 1) r) .auto rfl ?_
    rintro u0 -
    refine .p (.m rfl) (.p (.n rfl) (.p (.z rfl) (.p (.lz rfl) (.p (.len rfl) ?_))))
    refine .p (.min2m rfl rfl) ?_
    refine .p (.a rfl) (.n (.t ?_))
    refine .cutK (X := Unit) [2, 11, 26, 27, 28, 29, 30, 31] (fun _ => True) (fun _ => [(11, some (.int .i64 (((if all = true then r.length else min r.length 1) : Nat) : Int))), (2, some (.int .i64 (if all = true then 0 else ch)))]) (fun _ => [arr (blk vc) (ofs vc + c.toNat * 1) [u0], sl wtrE 2 u0 r, cndR vc g.cnd c.toNat, arr b 0 [vm, vc, vs], mtxsH vm g.mtx, smpsH vs g.sem, F]) ?_ ?_
    · refine .s (.r (.p (.m rfl) (.n (.t (.cond rfl (fun h26 => ?_) (fun h26 => ?_))))))
      · refine .r (.p (.m rfl) (.p (.n rfl) (.p (.z rfl) (.p (.lz rfl) (.p (.len rfl) (.p (.a rfl) (.p (.a rfl) (.n ?_))))))))
        refine .midK () .auto ?_ ?_ ?_
        · trivial
        · subst h26; exact ⟨rfl, rfl, trivial⟩
        · exact fun w s => Ent.kept .auto w s
      · refine .v ?_
        refine .midK () .auto ?_ ?_ ?_
        · trivial
        · rw [if_neg (by rw [h26]; simp), if_neg (by rw [h26]; simp)]; exact ⟨by show some _ = some _; congr 2; omega, rfl, trivial⟩
        · exact fun w s => Ent.kept .auto w s
    · rintro ⟨⟩ -
      obtain ⟨n0, hn0⟩ : ∃ n0, n0 = (if all = true then r.length else min r.length 1) := ⟨_, rfl⟩
      obtain ⟨c2, hc2⟩ : ∃ c2, c2 = (if all = true then 0 else ch) := ⟨_, rfl⟩
      have h0 : n0 ≤ r.length := by subst hn0; split <;> omega
      rw [← hn0, ← hc2]
      refine .s (.r (.p (.a rfl) (.n (.t (.s (.s (.r (.p (.m rfl) (.p (.m rfl) (.n (.t (.b ?_))))))))))))
      refine .loopK (X := Nat × List Wtr × List Mtx × Value × List Int) [12, 13, 14, 33, 34, 35, 36, 37, 38, 39, 40, 41, 42, 43, 44, 45, 46, 47, 48, 49, 50, 51, 52, 53, 54, 55, 56] (fun z => n0 - z.1) (fun z => SigOk r g.mtx n0 c2 z.1 z.2.1 z.2.2.1 z.2.2.2.2) (fun z => [(33, some (.int .i64 (z.1 : Int))), (12, some z.2.2.2.1)]) (fun z => [rowH (blk vc) (ofs vc + c.toNat * 1) z.2.1, mtxsH vm z.2.2.1, sl intE 1 z.2.2.2.1 z.2.2.2.2, cndR vc g.cnd c.toNat, arr b 0 [vm, vc, vs], smpsH vs g.sem, F]) (0, r, g.mtx, .slice none 0 0, []) ?_ ?_ ?_ ?_
      · exact SigOk.zero hg.mw
      · exact ⟨rfl, rfl, trivial⟩
      · exact fun w s => Ent.kept .auto w s
      rintro ⟨k, r1, ms, u, out⟩ hS
      simp only at hS
      refine .s (.r (.p (.lss rfl rfl) (.n (.t (.s (.condD rfl (fun h34 => ?_) (fun h34 => ?_)))))))
      · simp only at h34
        refine .v (.t (.s (.b (.s (.r (.p (.m rfl) (.p (.m rfl) ?_)))))))
        refine .does rfl (Does.callE rfl call121 rfl (row_take (l := r1) (by have := hS.len; omega)) .auto) ?_
        rintro _ _ ⟨⟨⟩, -, rfl, rfl⟩
        refine .p (.m rfl) (.p (.extract rfl rfl) (.p (.extract rfl rfl) ?_))
        refine .does rfl (Does.alloc rfl zeroValue212 rfl) ?_
        rintro _ _ ⟨b13, rfl, rfl⟩
        refine .does rfl (Does.sta (by exact sizeOf212) rfl rfl rfl (by rfl)) ?_
        rintro _ _ ⟨rfl, rfl⟩
        refine .p (.a rfl) (.n (.t (.s ?_)))
        refine .draw [] [1, 1, 1, 1, 1, 1, 1, 1, 1, 3] rfl (by kernel_rfl) ?_
        obtain ⟨hw1, hw2, hw3⟩ := take_mem (l := r1) (c := c2) (by have := hS.len; omega)
        have hwm := hrm _ (hS.mem _ hw1)
        have hml := hS.ml
        obtain ⟨x, hx⟩ := at_some (show (takeW r1 c2).1.mutex.toNat < ms.length by omega)
        have hxl := hS.mw x (List.mem_of_getElem? hx)
        refine .o1 (C := mtxsH vm ms) .auto rfl ?_
        rintro xs hxs
        have hxsl := map_len hxs
        refine .p (.m rfl) (.p (.n rfl) (.p (.z rfl) (.p (.l rfl) (.p (.f rfl) (.p (.l rfl) ?_)))))
        refine .p (.ixRd (takeW r1 c2).1.mutex.toNat underlying104 sizeOf216 rfl rfl Rd.s (by omega) (by omega)) ?_
        refine .p (.z rfl) (.p (.l rfl) ?_)
        refine .to (A := mtxsH vm ms) .auto (Bs := [sl mtxE 3 vm xs, allH (fun x => sl wtrE 2 x.1 x.2.wait) xs]) (fun h a => ⟨xs, hxs, a⟩) ?_
        refine .fr .auto (mtx_out hx) ?_
        refine .d3 rfl (Does.callE rfl call122 rfl (mutex_lock (m := x) (by omega)) .auto) ?_
        rintro _ _ ⟨⟨⟩, -, rfl, rfl⟩
        refine .to (A := mtxsH vm (ms.set (takeW r1 c2).1.mutex.toNat (x.lock (takeW r1 c2).1.who).2)) (Bs := [mtxAt (blk vm) (ofs vm + (takeW r1 c2).1.mutex.toNat * 3) (x.lock (takeW r1 c2).1.who).2, mtxR vm ms (takeW r1 c2).1.mutex.toNat]) .auto (mtx_in (x.lock (takeW r1 c2).1.who).2) ?_
        have hnx := hS.next (by omega) h0
        have hsl : sigL r1 c2 ms = x.lock (takeW r1 c2).1.who := by unfold sigL; rw [getD_of hx]
        rw [hsl] at hnx
        refine .n (.t (.cond rfl (fun h50 => ?_) (fun h50 => ?_)))
        · rw [if_pos h50] at hnx
          refine .r (.p (.m rfl) (.p (.z rfl) (.p (.l rfl) ?_)))
          refine .does rfl (Does.bsl 3 rfl rfl (by kernel_rfl)) ?_
          rintro _ _ ⟨b54, rfl, rfl⟩
          refine .does rfl (Does.app1 (enc := intE) (k := 1) (takeW r1 c2).1.who rfl underlying23 underlying23 typeInfo3 rfl rfl rfl (by decide) rfl rfl rfl .auto rfl .auto (by have := hS.ol; have := hS.hk; dsimp only; omega) rfl) ?_
          rintro _ _ ⟨v55, rfl, rfl⟩
          refine .p (.a rfl) (.n (.b (.t (.r ?_))))
          refine .p (.inc rfl rfl (by omega)) ?_
          refine .p (.m rfl) (.n ?_)
          refine .againK (k + 1, (takeW r1 c2).2.2, ms.set (takeW r1 c2).1.mutex.toNat (x.lock (takeW r1 c2).1.who).2, v55, out ++ [(takeW r1 c2).1.who]) .auto rfl ?_ ?_ ?_ ?_
          · show n0 - (k + 1) < n0 - k; omega
          · exact hnx
          · exact ⟨rfl, rfl, trivial⟩
          · exact fun w s => Ent.kept .auto w s
        · rw [if_neg (by rw [h50]; simp)] at hnx
          refine .v (.b (.t (.r ?_)))
          refine .p (.inc rfl rfl (by omega)) ?_
          refine .p (.m rfl) (.n ?_)
          refine .againK (k + 1, (takeW r1 c2).2.2, ms.set (takeW r1 c2).1.mutex.toNat (x.lock (takeW r1 c2).1.who).2, u, out) .auto rfl ?_ ?_ ?_ ?_
          · show n0 - (k + 1) < n0 - k; omega
          · exact hnx
          · exact ⟨rfl, rfl, trivial⟩
          · exact fun w s => Ent.kept .auto w s
      · simp only at h34
        refine .x (.tx (.tx (.bh (.t (.s (.r (.p (.m rfl) (.p (.a rfl) (.p (.a rfl) (.n (.t (.e ?_))))))))))))
        rw [g_signal_go (z := (r1, ms, out)) hgr (by rw [← hn0, ← hc2]; exact hS.done (by omega))]
        refine .to (A := cndsH vc (g.cnd.set c.toNat r1)) (Bs := [rowH (blk vc) (ofs vc + c.toNat * 1) r1, cndR vc g.cnd c.toNat]) .auto (cnd_in r1) ?_
        refine .ret2 rfl rfl rfl fun w s => ⟨u, ?_, trivial, finE .auto s⟩
        rfl

theorem gate_row1 {W : World} {b : Nat} {l : List Mtx} {n : Int} {vm vc vs : Value} : Fn Tryz.prog W 142 [ptr b, .int .i64 1, .int .i64 n] [arr b 0 [vm, vc, vs], mtxsH vm l] Unit (fun _ => elP vm l.length 3 n) (fun _ => True) (fun _ => [arr b 0 [vm, vc, vs], mtxsH vm l]) := by
  refine Fn.intro (N := 35) func142 rfl ntmps142 rfl fun F => ?_
  show GoC _ _ _ _ _ _ [arr b 0 [vm, vc, vs], mtxsH vm l, F]
  refine .s (.r (.p (.a rfl) (.n (.t (.s (.s (.r (.p (.m rfl) (.n (.t (.b (.s (.r (.p (.eql rfl rfl) (.p (.a rfl) (.n (.t (.condD rfl (fun _ => ?_) (fun hc => absurd rfl hc)))))))))))))))))))
  refine .s (.r (.p (.m rfl) (.p (.m rfl) ?_)))
  refine .does rfl (Does.callE rfl call136 rfl gate_mutex .auto) ?_
  rintro _ _ ⟨⟨⟩, -, rfl, rfl⟩
  refine .p (.a rfl) (.n (.t (.s (.r (.p (.m rfl) (.p (.neqp rfl rfl) (.n (.t (.cond rfl (fun h16 => ?_) (fun h16 => ?_))))))))))
  · refine .s (.r ?_)
    have hm := isNone_yes2 h16
    rw [elP_some hm]
    refine .p (.m rfl) (.p (.n rfl) (.p (.z rfl) (.p (.a rfl) (.n (.t (.e (.br (.tr (.ret1 rfl rfl fun w s => ⟨(), ?_, trivial, finE .auto s⟩)))))))))
    rfl
  · refine .v (.b (.t (.s (.r (.p (.a rfl) (.n (.t (.e (.ret1 rfl rfl fun w s => ⟨(), ?_, trivial, finE .auto s⟩)))))))))
    rw [elP_nil (isNone_no2 h16)]

theorem gate_Waiters1 {W : World} {b : Nat} {g : Gates} {n : Nat} {x : Mtx} (hx : g.mtx[n]? = some x) (hl : x.wait.length ≤ 1000000) : Fn Tryz.prog W 123 [ptr b, .int .i64 1, .int .i64 (n : Int)] [gatesH b g] Value (fun u => u) (fun _ => True) (fun u => [sl intE 1 u (x.wait.map (·.who)), gatesH b g]) := by
  refine Fn.intro (N := 33) func123 rfl ntmps123 rfl fun F => ?_
  show GoC _ _ _ _ _ _ [gatesH b g, F]
  refine .o3 (C := gatesH b g) .auto rfl ?_
  rintro vm vc vs -
  have hn := (List.getElem?_eq_some_iff.1 hx).1
  refine .s (.r (.p (.a rfl) (.n (.t (.s (.r (.p (.m rfl) (.p (.m rfl) (.p (.m rfl) ?_)))))))))
  refine .does rfl (Does.callE rfl call142 rfl gate_row1 .auto) ?_
  rintro _ _ ⟨⟨⟩, -, rfl, rfl⟩
  refine .p (.a rfl) (.n (.t (.s (.s (.r (.p (.m rfl) (.p (.eqp rfl rfl) (.n (.t (.cond rfl (fun h16 => ?_) (fun h16 => ?_)))))))))))
  · exact absurd (show (0 : Int) ≤ (n : Int) ∧ (n : Int) < (g.mtx.length : Int) by omega) (isNone_no h16)
  · refine .v (.t (.s (.r (.p (.a rfl) (.n (.t (.s (.s (.r ?_)))))))))
    rw [elP_some (by omega), Int.toNat_natCast]
    refine .fr .auto (mtx_out hx) ?_
    refine .o1 (C := mtxAt (blk vm) (ofs vm + n * 3) x) .auto rfl ?_
    rintro u0 -
    refine .p (.m rfl) (.p (.n rfl) (.p (.z rfl) (.p (.lz rfl) (.p (.len rfl) (.p (.m rfl) (.n (.t (.b ?_))))))))
    refine .loopK (X := Nat × Value) [8, 10, 22, 23, 24, 25, 26, 27, 28, 29, 30, 31] (fun z => x.wait.length - z.1) (fun z => z.1 ≤ x.wait.length) (fun z => [(22, some (.int .i64 (z.1 : Int))), (8, some z.2)]) (fun z => [sl intE 1 z.2 ((x.wait.map (·.who)).take z.1), arr (blk vm) (ofs vm + n * 3) [u0, .bool x.held, .int .i64 x.owner], sl wtrE 2 u0 x.wait, mtxR vm g.mtx n, arr b 0 [vm, vc, vs], cndsH vc g.cnd, smpsH vs g.sem, F]) (0, .slice none 0 0) ?_ ?_ ?_ ?_
    · exact Nat.zero_le _
    · exact ⟨rfl, rfl, trivial⟩
    · exact fun w s => Ent.kept .auto w s
    rintro ⟨k, u⟩ hk
    simp only at hk
    refine .s (.r (.p (.lss rfl rfl) (.n (.t (.s (.condD rfl (fun h23 => ?_) (fun h23 => ?_)))))))
    · refine .v (.t (.s (.b (.s (.r ?_)))))
      obtain ⟨w, hw⟩ := at_some (show k < x.wait.length by omega)
      refine .p (.ix _ rfl rfl rfl (by first | omega | decide)) ?_
      refine .p (.la rfl (Cells.rd Rd.s ‹_›)) ?_
      refine .does rfl (Does.alloc rfl zeroValue212 rfl) ?_
      rintro _ _ ⟨b10, rfl, rfl⟩
      refine .does rfl (Does.sta (by exact sizeOf212) rfl rfl rfl (by rfl)) ?_
      rintro _ _ ⟨rfl, rfl⟩
      refine .n (.t (.r (.p (.m rfl) (.p (.z rfl) (.p (.l rfl) ?_)))))
      refine .does rfl (Does.bsl 3 rfl rfl (by kernel_rfl)) ?_
      rintro _ _ ⟨b29, rfl, rfl⟩
      refine .does rfl (Does.app1 (enc := intE) (k := 1) w.who rfl underlying23 underlying23 typeInfo3 rfl rfl rfl (by decide) rfl rfl rfl .auto rfl .auto (by rw [List.length_take, List.length_map]; omega) rfl) ?_
      rintro _ _ ⟨v30, rfl, rfl⟩
      refine .p (.a rfl) (.n (.b (.t (.r ?_))))
      refine .p (.inc rfl rfl (by omega)) ?_
      refine .p (.m rfl) (.n ?_)
      refine .againK (k + 1, v30) .auto rfl ?_ ?_ ?_ ?_
      · show x.wait.length - (k + 1) < x.wait.length - k; omega
      · show k + 1 ≤ _; omega
      · exact ⟨rfl, rfl, trivial⟩
      · show ∀ w, Sat _ w _ → Sat _ w (seps [sl intE 1 v30 ((x.wait.map (·.who)).take (k + 1)), _, _, _, _, _, _, F])
        rw [take_snoc (show (x.wait.map (·.who))[k]? = some w.who by rw [List.getElem?_map, hw]; rfl)]
        exact fun w s => Ent.kept .auto w s
    · refine .x (.tx (.tx (.bh (.t (.s (.r (.p (.m rfl) (.p (.a rfl) (.n (.t (.e ?_)))))))))))
      obtain rfl : k = x.wait.length := by omega
      rw [List.take_of_length_le (by simp)]
      refine .to (A := mtxsH vm g.mtx) (Bs := [mtxAt (blk vm) (ofs vm + n * 3) x, mtxR vm g.mtx n]) .auto (mtx_back hx) ?_
      refine .ret1 rfl rfl fun w s => ⟨_, ?_, trivial, finE .auto s⟩
      rfl

end Go.SLYtnceicnimongcaaGreat
namespace Go.SLYtnceicnimongcaaGreat
open Go Go.RowKit Go.Proofs Go.Proofs.Tryz

theorem putter_f {W : World} {A : HProp} {x : Ptr} {c : Nat} {who : Int} : Fn Tryz.prog W 184 [.agg (putE x).toArray, ptr c] [seps [arr c 0 [.int .i64 who], A]] Unit (fun _ => .bool (decide (x.who = who))) (fun _ => True) (fun _ => [seps [arr c 0 [.int .i64 who], A]]) := by
  refine Fn.intro (N := 8) func184 rfl ntmps184 rfl fun F => ?_
  show GoC _ _ _ _ _ _ [seps [arr c 0 [.int .i64 who], A], F]
  refine .ungrp .auto ?_
  refine .s (.r ?_)
  refine .does rfl (Does.box rfl rfl rfl) ?_
  rintro _ _ ⟨b2, rfl, rfl⟩
  refine .p (.a rfl) (.n (.t (.s (.r (.p (.z rfl) (.p (.l rfl) (.p (.l rfl) (.p (.eql rfl rfl) (.p (.a rfl) (.n (.t (.e (.ret1 rfl rfl fun w s => ⟨(), ?_, trivial, finE .auto s⟩)))))))))))))
  rfl

theorem tube_waits {W : World} {b : Nat} {t : Tub} {who : Int} (hl : TubLen t) : Fn Tryz.prog W 167 [ptr b, .int .i64 who] [tubH b t] Unit (fun _ => .bool (t.waits who)) (fun _ => True) (fun _ => [tubH b t]) := by
  refine Fn.intro (N := 19) func167 rfl ntmps167 rfl fun F => ?_
  show GoC _ _ _ _ _ _ [tubH b t, F]
  refine .o3 (C := tubH b t) .auto rfl ?_
  rintro vw vp vg -
  obtain ⟨hl1, hl2, hl3⟩ := hl
  refine .s (.r ?_)
  refine .does rfl (Does.box rfl rfl rfl) ?_
  rintro _ _ ⟨b3, rfl, rfl⟩
  refine .p (.a rfl) (.n (.t (.s ?_)))
  refine .draw [] [1, 1, 1, 1, 1, 3, 1, 1, 1, 1, 1, 1, 3, 1, 1] rfl (by kernel_rfl) ?_
  refine .p (.m rfl) (.p (.n rfl) (.p (.f rfl) (.p (.l rfl) (.p (.l rfl) ?_))))
  refine .d3 rfl (Does.callE rfl call108 rfl (ContainsI (A := sl intE 1 vg t.gets) (Rd.sl .here) (by omega)) .auto) ?_
  rintro _ _ ⟨⟨⟩, -, rfl, rfl⟩
  refine .p (.m rfl) ?_
  apply GoK.segO 7 18 11 [11, 12, 13, 14, 15, 16, 17, 18] rfl
  · intro h11
    refine .g (.m rfl) (.g (.n rfl) (.g (.f rfl) (.g (.l rfl) (.g (.makeFunc rfl rfl) ?_))))
    refine .dg rfl rfl rfl (Does.callE rfl call183 rfl (ContainsFuncP (A := seps [arr b3 0 [.int .i64 who], sl putE 2 vp t.puts]) (p := fun p => decide (p.who = who)) (Rd.grp (Rd.sl (.there .here))) (by omega) call184 (fun x _ => putter_f)) .auto) ?_
    rintro _ _ ⟨⟨⟩, -, rfl, rfl⟩
    refine .ungrp .auto ?_
    refine .p (.u rfl rfl) (.n ?_)
    refine .seg .auto rfl (by first | exact fun _ h => h | exact Ent.kept .auto)
  · intro h11
    refine .w (.w (.w (.w (.w ?_))))
    refine .dskip rfl rfl rfl rfl ?_
    refine .p (.t rfl rfl) (.n ?_)
    refine .seg .auto rfl (by first | exact fun _ h => h | exact Ent.kept .auto)
  refine .p (.a rfl) (.n (.t (.e (.ret1 rfl rfl fun w s => ⟨(), ?_, trivial, finE .auto s⟩))))
  rfl

theorem firstI {W : World} {b i : Nat} {cs : List Value} {v : Value} {xs : List Int} {x : Int} (hi : cs[i]? = some v) (hx : xs[0]? = some x) (hl : xs.length ≤ 1000000) : Fn Tryz.prog W 168 [.pointer (some ⟨b, i, none⟩)] [arr b 0 cs, sl intE 1 v xs] Value (fun _ => .int .i64 x) (fun _ => True) (fun u => [arr b 0 (cs.set i u), sl intE 1 u (xs.eraseIdx 0)]) := by
  refine Fn.intro (N := 16) func168 rfl ntmps168 rfl fun F => ?_
  show GoC _ _ _ _ _ _ [arr b 0 cs, sl intE 1 v xs, F]
  have hil := (List.getElem?_eq_some_iff.1 hi).1
  have hxl := (List.getElem?_eq_some_iff.1 hx).1
  refine .s (.r (.p (.a rfl) (.n (.t (.s (.r (.p (.m rfl) (.p (.n rfl) ?_))))))))
  refine .p (.ld rfl (Cell.a hi)) ?_
  refine .p (.ix _ rfl rfl rfl (by first | omega | decide)) ?_
  refine .p (.lr rfl ‹_›) ?_
  refine .p (.a rfl) (.n (.t (.s (.r (.p (.m rfl) (.p (.m rfl) (.p (.n rfl) ?_)))))))
  refine .p (.ld rfl (Cell.a hi)) ?_
  refine .does rfl (Does.callE rfl call94 rfl (DeleteI (i := 0) hxl (by omega)) .auto) ?_
  rintro _ _ ⟨u13, -, rfl, rfl⟩
  refine .p (.n rfl) ?_
  refine .does rfl (Does.stS sizeOf23 rfl rfl (Nat.blt_eq.mpr hil)) ?_
  rintro _ _ ⟨rfl, rfl⟩
  refine .n (.t (.s (.r (.p (.m rfl) (.p (.a rfl) (.n (.t (.e (.ret1 rfl rfl fun w s => ⟨u13, ?_, trivial, finE .auto s⟩)))))))))
  rfl

theorem firstW {W : World} {b i : Nat} {cs : List Value} {v : Value} {xs : List Int} {x : Int} (hi : cs[i]? = some v) (hx : xs[0]? = some x) (hl : xs.length ≤ 1000000) : Fn Tryz.prog W 169 [.pointer (some ⟨b, i, none⟩)] [arr b 0 cs, sl wrdE 1 v xs] Value (fun _ => .int .u64 x) (fun _ => True) (fun u => [arr b 0 (cs.set i u), sl wrdE 1 u (xs.eraseIdx 0)]) := by
  refine Fn.intro (N := 16) func169 rfl ntmps169 rfl fun F => ?_
  show GoC _ _ _ _ _ _ [arr b 0 cs, sl wrdE 1 v xs, F]
  have hil := (List.getElem?_eq_some_iff.1 hi).1
  have hxl := (List.getElem?_eq_some_iff.1 hx).1
  refine .s (.r (.p (.a rfl) (.n (.t (.s (.r (.p (.m rfl) (.p (.n rfl) ?_))))))))
  refine .p (.ld rfl (Cell.a hi)) ?_
  refine .p (.ix _ rfl rfl rfl (by first | omega | decide)) ?_
  refine .p (.lr rfl ‹_›) ?_
  refine .p (.a rfl) (.n (.t (.s (.r (.p (.m rfl) (.p (.m rfl) (.p (.n rfl) ?_)))))))
  refine .p (.ld rfl (Cell.a hi)) ?_
  refine .does rfl (Does.callE rfl call185 rfl (DeleteW (i := 0) hxl (by omega)) .auto) ?_
  rintro _ _ ⟨u13, -, rfl, rfl⟩
  refine .p (.n rfl) ?_
  refine .does rfl (Does.stS sizeOf62 rfl rfl (Nat.blt_eq.mpr hil)) ?_
  rintro _ _ ⟨rfl, rfl⟩
  refine .n (.t (.s (.r (.p (.m rfl) (.p (.a rfl) (.n (.t (.e (.ret1 rfl rfl fun w s => ⟨u13, ?_, trivial, finE .auto s⟩)))))))))
  rfl

theorem firstP {W : World} {b i : Nat} {cs : List Value} {v : Value} {xs : List Ptr} {x : Ptr} (hi : cs[i]? = some v) (hx : xs[0]? = some x) (hl : xs.length ≤ 1000000) : Fn Tryz.prog W 170 [.pointer (some ⟨b, i, none⟩)] [arr b 0 cs, sl putE 2 v xs] Value (fun _ => .agg (putE x).toArray) (fun _ => True) (fun u => [arr b 0 (cs.set i u), sl putE 2 u (xs.eraseIdx 0)]) := by
  refine Fn.intro (N := 16) func170 rfl ntmps170 rfl fun F => ?_
  show GoC _ _ _ _ _ _ [arr b 0 cs, sl putE 2 v xs, F]
  have hil := (List.getElem?_eq_some_iff.1 hi).1
  have hxl := (List.getElem?_eq_some_iff.1 hx).1
  refine .s (.r ?_)
  refine .does rfl (Does.alloc rfl zeroValue257 rfl) ?_
  rintro _ _ ⟨b2, rfl, rfl⟩
  refine .n (.t (.s (.r (.p (.m rfl) (.p (.n rfl) ?_)))))
  refine .p (.ld rfl (Cell.a hi)) ?_
  refine .p (.ix _ rfl rfl rfl (by first | omega | decide)) ?_
  refine .p (.la rfl (Cells.rd Rd.s ‹_›)) ?_
  refine .does rfl (Does.alloc rfl zeroValue257 rfl) ?_
  rintro _ _ ⟨b3, rfl, rfl⟩
  refine .does rfl (Does.sta (by exact sizeOf257) rfl rfl rfl (by rfl)) ?_
  rintro _ _ ⟨rfl, rfl⟩
  refine .n (.t (.s (.r (.p (.m rfl) (.p (.m rfl) (.p (.n rfl) ?_))))))
  refine .p (.ld rfl (Cell.a hi)) ?_
  refine .does rfl (Does.callE rfl call186 rfl (DeleteP (i := 0) hxl (by omega)) .auto) ?_
  rintro _ _ ⟨u13, -, rfl, rfl⟩
  refine .p (.n rfl) ?_
  refine .does rfl (Does.stS sizeOf121 rfl rfl (Nat.blt_eq.mpr hil)) ?_
  rintro _ _ ⟨rfl, rfl⟩
  refine .n (.t (.s (.r (.p (.lA rfl) ?_))))
  refine .does rfl (Does.sta (by exact sizeOf257) rfl rfl rfl (by rfl)) ?_
  rintro _ _ ⟨rfl, rfl⟩
  refine .n (.t (.e ?_))
  refine .retC rfl rfl isAgg257 (by exact sizeOf257) Cells.a fun w s => ⟨u13, ?_, trivial, finE .auto s⟩
  rfl

theorem tube_Put {W : World} {b : Nat} {t : Tub} {who : Int} (hl : TubLen t) {x : Int} : Fn Tryz.prog W 145 [ptr b, .int .i64 who, .int .u64 x] [tubH b t] Unit (fun _ => .tuple #[.bool (t.put who x).1, .int .i64 (t.put who x).2.1, .bool (t.put who x).2.2.1]) (fun _ => True) (fun _ => [tubH b (t.put who x).2.2.2]) := by
  refine Fn.intro (N := 61) func145 rfl ntmps145 rfl fun F => ?_
  show GoC _ _ _ _ _ _ [tubH b t, F]
  refine .s (.r (.p (.a rfl) (.p (.a rfl) (.p (.a rfl) (.n (.t (.s (.b (.s (.r (.p (.m rfl) (.p (.eqp rfl rfl) (.p (.m rfl) (.g (.m rfl) (.g (.m rfl) ?_)))))))))))))))
  refine .dg rfl rfl rfl (Does.callE rfl call167 rfl (tube_waits hl) .auto) ?_
  rintro _ _ ⟨⟨⟩, -, rfl, rfl⟩
  refine .p (.u rfl rfl) (.p (.a rfl) (.n (.t (.cond rfl (fun h9 => ?_) (fun h9 => ?_)))))
  · refine .s (.r (.p (.a rfl) (.p (.a rfl) (.p (.a rfl) (.n (.t (.e (.br (.tr ?_)))))))))
    rw [put_waits h9]
    refine .ret3 rfl rfl rfl rfl fun w s => ⟨(), ?_, trivial, finE .auto s⟩
    rfl
  · refine .s (.r ?_)
    refine .o3 (C := tubH b t) .auto rfl ?_
    rintro vw vp vg -
    obtain ⟨hl1, hl2, hl3⟩ := hl
    refine .p (.m rfl) (.p (.n rfl) (.p (.f rfl) (.p (.l rfl) (.p (.len rfl) (.p (.gtr rfl rfl) (.p (.a rfl) (.n (.t (.condD rfl (fun h17 => ?_) (fun h17 => ?_))))))))))
    · refine .s (.r ?_)
      obtain ⟨w, r, hw⟩ := cons_of (l := t.gets) (by omega)
      refine .p (.m rfl) (.p (.n rfl) (.p (.f rfl) ?_))
      refine .does rfl (Does.callE rfl call168 rfl (firstI (i := 3) (v := vg) (xs := t.gets) (x := w) rfl (by rw [hw]; rfl) (by omega)) .auto) ?_
      rintro _ _ ⟨u27, -, rfl, rfl⟩
      rw [show t.gets.eraseIdx 0 = r from by rw [hw]; rfl]
      refine .p (.a rfl) (.p (.a rfl) (.p (.a rfl) (.n (.t (.e (.br (.tr ?_)))))))
      rw [put_get h9 hw]
      refine .ret3 rfl rfl rfl rfl fun w s => ⟨(), ?_, trivial, finE .auto s⟩
      rfl
    · refine .s ?_
      refine .draw [] [1, 1, 1, 1, 1, 1, 1, 1, 1, 1, 1] rfl (by kernel_rfl) ?_
      have hg0 : t.gets = [] := nil_of (by omega)
      refine .p (.m rfl) (.p (.n rfl) (.p (.f rfl) (.p (.l rfl) (.p (.len rfl) (.p (.m rfl) ?_)))))
      refine .p (.n rfl) (.p (.z rfl) (.p (.l rfl) (.p (.lss rfl rfl) (.p (.a rfl) (.n (.t (.condD rfl (fun h28 => ?_) (fun h28 => ?_))))))))
      · refine .s (.r (.p (.m rfl) (.p (.m rfl) (.p (.n rfl) (.p (.f rfl) (.p (.l rfl) (.p (.m rfl) ?_)))))))
        refine .does rfl (Does.bsl 78 rfl rfl (by kernel_rfl)) ?_
        rintro _ _ ⟨b45, rfl, rfl⟩
        refine .does rfl (Does.app1 (enc := wrdE) (k := 1) x rfl underlying62 underlying62 typeInfo78 rfl rfl rfl (by decide) rfl rfl rfl .auto rfl .auto (by omega) rfl) ?_
        rintro _ _ ⟨v46, rfl, rfl⟩
        refine .p (.n rfl) (.p (.f rfl) ?_)
        refine .does rfl (Does.stS sizeOf62 rfl rfl rfl) ?_
        rintro _ _ ⟨rfl, rfl⟩
        refine .n (.t (.s (.r (.p (.a rfl) (.p (.a rfl) (.p (.a rfl) (.n (.t (.e (.br (.tr ?_)))))))))))
        rw [put_room h9 hg0 h28]
        refine .ret3 rfl rfl rfl rfl fun w s => ⟨(), ?_, trivial, finE .auto s⟩
        rfl
      · refine .v (.b (.t (.s (.r (.p (.m rfl) (.p (.m rfl) (.p (.n rfl) (.p (.f rfl) (.p (.l rfl) (.p (.m rfl) (.p (.m rfl) ?_)))))))))))
        refine .p (.bld2 (fun v1 v2 => [v1, v2]) rfl rfl (by kernel_rfl)) ?_
        refine .does rfl (Does.bsl 257 rfl rfl (by kernel_rfl)) ?_
        rintro _ _ ⟨b57, rfl, rfl⟩
        refine .does rfl (Does.app1 (enc := putE) (k := 2) (⟨who, x⟩ : Ptr) rfl underlying121 underlying121 typeInfo257 rfl rfl rfl (by decide) rfl rfl rfl .auto rfl .auto (by omega) rfl) ?_
        rintro _ _ ⟨v58, rfl, rfl⟩
        refine .p (.n rfl) (.p (.f rfl) ?_)
        refine .does rfl (Does.stS sizeOf121 rfl rfl rfl) ?_
        rintro _ _ ⟨rfl, rfl⟩
        refine .n (.t (.s (.r (.p (.a rfl) (.p (.a rfl) (.p (.a rfl) (.n (.t (.e ?_)))))))))
        rw [put_full h9 hg0 h28]
        refine .ret3 rfl rfl rfl rfl fun w s => ⟨(), ?_, trivial, finE .auto s⟩
        rfl

theorem tube_Get {W : World} {b : Nat} {t : Tub} {who : Int} (hl : TubLen t) : Fn Tryz.prog W 146 [ptr b, .int .i64 who] [tubH b t] Unit (fun _ => .tuple #[.int .u64 (t.get who).1, .bool (t.get who).2.1, .int .i64 (t.get who).2.2.1, .bool (t.get who).2.2.2.1]) (fun _ => True) (fun _ => [tubH b (t.get who).2.2.2.2]) := by
  refine Fn.intro (N := 64) func146 rfl ntmps146 rfl fun F => ?_
  show GoC _ _ _ _ _ _ [tubH b t, F]
  refine .s (.r (.p (.a rfl) (.p (.a rfl) (.p (.a rfl) (.p (.a rfl) (.n (.t (.s (.b (.s (.r (.p (.m rfl) (.p (.eqp rfl rfl) (.p (.m rfl) (.g (.m rfl) (.g (.m rfl) ?_))))))))))))))))
  refine .dg rfl rfl rfl (Does.callE rfl call167 rfl (tube_waits hl) .auto) ?_
  rintro _ _ ⟨⟨⟩, -, rfl, rfl⟩
  refine .p (.u rfl rfl) (.p (.a rfl) (.n (.t (.cond rfl (fun h10 => ?_) (fun h10 => ?_)))))
  · refine .s (.r (.p (.a rfl) (.p (.a rfl) (.p (.a rfl) (.p (.a rfl) (.n (.t (.e (.br (.tr ?_))))))))))
    rw [get_waits h10]
    refine .ret4 rfl rfl rfl rfl rfl fun w s => ⟨(), ?_, trivial, finE .auto s⟩
    rfl
  · refine .s (.r ?_)
    refine .o3 (C := tubH b t) .auto rfl ?_
    rintro vw vp vg -
    obtain ⟨hl1, hl2, hl3⟩ := hl
    refine .p (.m rfl) (.p (.n rfl) (.p (.f rfl) (.p (.l rfl) (.p (.len rfl) (.p (.eql rfl rfl) (.p (.a rfl) (.n (.t (.condD rfl (fun h18 => ?_) (fun h18 => ?_))))))))))
    · refine .s (.r ?_)
      have hw0 : t.words = [] := nil_of (by omega)
      refine .p (.m rfl) (.p (.m rfl) (.p (.n rfl) (.p (.f rfl) (.p (.l rfl) (.p (.m rfl) ?_)))))
      refine .does rfl (Does.bsl 3 rfl rfl (by kernel_rfl)) ?_
      rintro _ _ ⟨b31, rfl, rfl⟩
      refine .does rfl (Does.app1 (enc := intE) (k := 1) who rfl underlying23 underlying23 typeInfo3 rfl rfl rfl (by decide) rfl rfl rfl .auto rfl .auto (by omega) rfl) ?_
      rintro _ _ ⟨v32, rfl, rfl⟩
      refine .p (.n rfl) (.p (.f rfl) ?_)
      refine .does rfl (Does.stS sizeOf23 rfl rfl rfl) ?_
      rintro _ _ ⟨rfl, rfl⟩
      refine .n (.t (.s (.r (.p (.a rfl) (.p (.a rfl) (.p (.a rfl) (.p (.a rfl) (.n (.t (.e (.br (.tr ?_))))))))))))
      rw [get_none h10 hw0]
      refine .ret4 rfl rfl rfl rfl rfl fun w s => ⟨(), ?_, trivial, finE .auto s⟩
      rfl
    · refine .v (.b (.t (.s (.r ?_))))
      obtain ⟨x, r, hw⟩ := cons_of (l := t.words) (by omega)
      refine .p (.m rfl) (.p (.n rfl) (.p (.f rfl) ?_))
      refine .does rfl (Does.callE rfl call169 rfl (firstW (i := 1) (v := vw) (xs := t.words) (x := x) rfl (by rw [hw]; rfl) (by omega)) .auto) ?_
      rintro _ _ ⟨u38, -, rfl, rfl⟩
      rw [show t.words.eraseIdx 0 = r from by rw [hw]; rfl]
      refine .p (.a rfl) (.n (.t (.s (.s (.r (.p (.m rfl) (.p (.n rfl) (.p (.f rfl) (.p (.l rfl) (.p (.len rfl) (.p (.eql rfl rfl) (.n (.t (.condD rfl (fun h44 => ?_) (fun h44 => ?_)))))))))))))))
      · refine .s (.r (.p (.m rfl) (.p (.a rfl) (.p (.a rfl) (.p (.a rfl) (.p (.a rfl) (.n (.t (.e (.tr ?_))))))))))
        rw [get_one h10 hw (nil_of (by omega))]
        refine .ret4 rfl rfl rfl rfl rfl fun w s => ⟨(), ?_, trivial, finE .auto s⟩
        rfl
      · refine .v (.t (.s (.r ?_)))
        obtain ⟨p, q, hp⟩ := cons_of (l := t.puts) (by omega)
        refine .p (.m rfl) (.p (.n rfl) (.p (.f rfl) ?_))
        refine .does rfl (Does.callE rfl call170 rfl (firstP (i := 2) (v := vp) (xs := t.puts) (x := p) rfl (by rw [hp]; rfl) (by omega)) .auto) ?_
        rintro _ _ ⟨u49, -, rfl, rfl⟩
        rw [show t.puts.eraseIdx 0 = q from by rw [hp]; rfl]
        refine .does rfl (Does.alloc rfl zeroValue257 rfl) ?_
        rintro _ _ ⟨b9, rfl, rfl⟩
        refine .does rfl (Does.sta (by exact sizeOf257) rfl rfl rfl (by rfl)) ?_
        rintro _ _ ⟨rfl, rfl⟩
        refine .n (.t (.s ?_))
        refine .draw [arr b 0 [.int .i64 t.room, u38, u49, vg], arr b9 0 (putE p)] [0, 0, 0, 0, 0, 1, 1, 2, 2, 1, 1, 3] rfl (by kernel_rfl) ?_
        refine .q (.m rfl) (.q (.m rfl) (.q (.n rfl) (.q (.f rfl) (.q (.l rfl) (.p (.f rfl) (.p (.l rfl) ?_))))))
        refine .d2 rfl Kept.auto (Does.bsl 78 rfl rfl (by kernel_rfl)) (by rintro _ _ ⟨b57, rfl, rfl⟩; exact Kept.auto) ?_
        rintro _ _ ⟨b57, rfl, rfl⟩
        refine .d2 rfl Kept.auto (Does.app1 (enc := wrdE) (k := 1) p.x rfl underlying62 underlying62 typeInfo78 rfl rfl rfl (by decide) rfl rfl rfl .auto rfl .auto (by have h5 : r.length + 1 = t.words.length := (by rw [hw]; rfl); omega) rfl) (by rintro _ _ ⟨v58, rfl, rfl⟩; exact Kept.auto) ?_
        rintro _ _ ⟨v58, rfl, rfl⟩
        refine .p (.n rfl) (.p (.f rfl) ?_)
        refine .d3 rfl (Does.stS sizeOf62 rfl rfl rfl) ?_
        rintro _ _ ⟨rfl, rfl⟩
        refine .n (.t (.s ?_))
        refine .draw [] [1, 1, 1, 1, 1, 1, 1] rfl (by kernel_rfl) ?_
        refine .p (.m rfl) (.p (.z rfl) (.p (.l rfl) (.p (.a rfl) (.p (.a rfl) (.p (.a rfl) (.p (.a rfl) (.n (.t (.e ?_)))))))))
        rw [get_two h10 hw hp]
        refine .ret4 rfl rfl rfl rfl rfl fun w s => ⟨(), ?_, trivial, finE .auto s⟩
        rfl

theorem ask_f {W : World} {A : HProp} {x r : Rqs} {c : Nat} : Fn Tryz.prog W 166 [.agg (rqsE x).toArray, ptr c] [seps [arr c 0 (rqsE r), A]] Unit (fun _ => .bool (decide (x.who = r.who))) (fun _ => True) (fun _ => [seps [arr c 0 (rqsE r), A]]) := by
  refine Fn.intro (N := 9) func166 rfl ntmps166 rfl fun F => ?_
  show GoC _ _ _ _ _ _ [seps [arr c 0 (rqsE r), A], F]
  refine .ungrp .auto ?_
  refine .s (.r ?_)
  refine .does rfl (Does.box rfl rfl rfl) ?_
  rintro _ _ ⟨b2, rfl, rfl⟩
  refine .mem (H' := [arr b2 0 (rqsE x), arr c 0 (rqsE r), A, F]) (fun w s => s) ?_
  refine .p (.a rfl) (.n (.t (.s (.r (.p (.z rfl) (.p (.l rfl) (.p (.z rfl) (.p (.l rfl) (.p (.eql rfl rfl) (.p (.a rfl) (.n (.t (.e (.ret1 rfl rfl fun w s => ⟨(), ?_, trivial, finE .auto s⟩))))))))))))))
  rfl

theorem disk_Ask {W : World} {b : Nat} {d : Dsk} {r : Rqs} (hl : d.wait.length ≤ 1000000) : Fn Tryz.prog W 144 [ptr b, .agg (rqsE r).toArray] [dskH b d] Unit (fun _ => .int .i64 (d.ask r).1) (fun _ => True) (fun _ => [dskH b (d.ask r).2]) := by
  refine Fn.intro (N := 40) func144 rfl ntmps144 rfl fun F => ?_
  show GoC _ _ _ _ _ _ [dskH b d, F]
  refine .o2 (C := dskH b d) .auto rfl ?_
  rintro vb vw -
  refine .s (.r ?_)
  refine .does rfl (Does.box rfl rfl rfl) ?_
  rintro _ _ ⟨b3, rfl, rfl⟩
  refine .mem (H' := [arr b3 0 (rqsE r), arr b 0 [vb, vw], sl wrdE 1 vb d.blocks, sl rqsE 4 vw d.wait, F]) (fun w s => s) ?_
  refine .p (.a rfl) (.n (.t (.s (.b (.s ?_)))))
  refine .draw [] [1, 1, 1, 1, 1, 1, 1, 1, 1, 1, 1, 1, 1, 1, 1, 1, 1, 1] rfl (by kernel_rfl) ?_
  refine .p (.m rfl) (.p (.eqp rfl rfl) (.p (.m rfl) (.g (.f rfl) (.g (.l rfl) (.g (.lss rfl rfl) (.p (.u rfl rfl) (.p (.m rfl) ?_)))))))
  apply GoK.segOD 9 22 13 [13, 14, 15, 16, 17, 18, 19, 20, 21, 22] rfl
  · intro h13
    refine .g (.f rfl) (.g (.l rfl) (.g (.m rfl) ?_))
    refine .g (.n rfl) (.g (.z rfl) (.g (.l rfl) (.g (.len rfl) (.g (.geq rfl rfl) (.p (.u rfl rfl) (.n ?_))))))
    refine .seg .auto rfl (by first | exact fun _ h => h | exact Ent.kept .auto)
  · intro h13
    refine .w (.w (.w (.w (.w (.w (.w (.w (.p (.t rfl rfl) (.n ?_)))))))))
    refine .seg .auto rfl (by first | exact fun _ h => h | exact Ent.kept .auto)
  refine .p (.a rfl) (.n (.t (.cond rfl (fun h5 => ?_) (fun h5 => ?_))))
  · refine .s (.r (.p (.a rfl) (.n (.t (.e (.br (.tr ?_)))))))
    rw [ask_arg h5]
    refine .ret1 rfl rfl fun w s => ⟨(), ?_, trivial, finE .auto s⟩
    rfl
  · refine .s (.r (.p (.m rfl) (.p (.n rfl) (.p (.f rfl) (.p (.l rfl) (.p (.makeFunc rfl rfl) ?_))))))
    refine .does rfl (Does.callE rfl call165 rfl (ContainsFuncQ (A := seps [arr b3 0 (rqsE r), sl rqsE 4 vw d.wait]) (p := fun x => decide (x.who = r.who)) (Rd.grp (Rd.sl (.there .here))) (by omega) call166 (fun x _ => ask_f)) .auto) ?_
    rintro _ _ ⟨⟨⟩, -, rfl, rfl⟩
    refine .ungrp .auto ?_
    refine .p (.a rfl) (.n (.t (.cond rfl (fun h23 => ?_) (fun h23 => ?_))))
    · refine .s (.r (.p (.a rfl) (.n (.t (.e (.br (.tr ?_)))))))
      rw [ask_busy h5 h23]
      refine .ret1 rfl rfl fun w s => ⟨(), ?_, trivial, finE .auto s⟩
      rfl
    · refine .v (.b (.t (.s ?_)))
      refine .draw [arr b 0 [vb, vw], arr b3 0 (rqsE r)] [0, 0, 0, 0, 0, 1, 2, 2, 1, 1, 3] rfl (by kernel_rfl) ?_
      refine .q (.m rfl) (.q (.m rfl) (.q (.n rfl) (.q (.f rfl) (.q (.l rfl) (.p (.lA rfl) ?_)))))
      refine .d2 rfl Kept.auto (Does.bsl 236 rfl rfl (by kernel_rfl)) (by rintro _ _ ⟨b36, rfl, rfl⟩; exact Kept.auto) ?_
      rintro _ _ ⟨b36, rfl, rfl⟩
      refine .mem (H' := [arr b36 0 (rqsE r), arr b3 0 (rqsE r), sl rqsE 4 vw d.wait, arr b 0 [vb, vw], sl wrdE 1 vb d.blocks, F]) (fun w s => s) ?_
      refine .d2 rfl Kept.auto (Does.app1 (enc := rqsE) (k := 4) r rfl underlying115 underlying115 typeInfo236 rfl rfl rfl (by decide) rfl rfl rfl .auto rfl .auto (by omega) rfl) (by rintro _ _ ⟨v37, rfl, rfl⟩; exact Kept.auto) ?_
      rintro _ _ ⟨v37, rfl, rfl⟩
      refine .p (.n rfl) (.p (.f rfl) ?_)
      refine .d3 rfl (Does.stS sizeOf115 rfl rfl rfl) ?_
      rintro _ _ ⟨rfl, rfl⟩
      refine .n (.t (.s (.r (.p (.a rfl) (.n (.t (.e ?_)))))))
      rw [ask_go h5 h23]
      refine .ret1 rfl rfl fun w s => ⟨(), ?_, trivial, finE .auto s⟩
      rfl

end Go.SLYtnceicnimongcaaGreat
