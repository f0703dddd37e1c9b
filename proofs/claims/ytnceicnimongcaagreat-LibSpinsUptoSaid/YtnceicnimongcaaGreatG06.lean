/- Walks of functions, and what they compute. Conditions: none, this text proves no statement. -/
import Derived.Test.YtnceicnimongcaaGreatG05
import Derived.Test.YtnceicnimongcaaGreatProg
import Derived.KernelRfl
set_option maxRecDepth 20000
namespace Go.SLYtnceicnimongcaaGreat
open Go Go.RowKit Go.Proofs Go.Proofs.Tryz

theorem inst_within {W : World} {n m : Int} : Fn Tryz.prog W 67 [.int .i64 n, .int .i64 m] [] Unit (fun _ => .bool (within n m)) (fun _ => True) (fun _ => []) := by
  refine Fn.intro (N := 12) func67 rfl ntmps67 rfl fun F => ?_
  show GoC _ _ _ _ _ _ [F]
  refine .s (.r (.p (.a rfl) (.n (.t (.s (.r (.p (.m rfl) (.p (.geq rfl rfl) (.p (.m rfl) ?_)))))))))
  apply GoL.segAD 4 11 7 [7, 8, 9, 10, 11] rfl
  · intro h7
    refine .g (.m rfl) (.g (.m rfl) (.g (.leq rfl rfl) (.p (.t rfl rfl) (.n ?_))))
    refine .seg .auto rfl (by first | exact fun _ h => h | exact Ent.kept .auto)
  · intro h7
    refine .u (.u (.u (.p (.u rfl rfl) (.n ?_))))
    refine .seg .auto rfl (by first | exact fun _ h => h | exact Ent.kept .auto)
  refine .p (.a rfl) (.n (.t (.e (.ret1 rfl rfl fun w s => ⟨(), ?_, trivial, finE .auto s⟩))))
  rfl

theorem inst_reg {W : World} {n : Int} {b : Bool} : Fn Tryz.prog W 70 [.int .i64 n, .bool b] [] Unit (fun _ => .bool (regOk n b)) (fun _ => True) (fun _ => []) := by
  refine Fn.intro (N := 18) func70 rfl ntmps70 rfl fun F => ?_
  show GoC _ _ _ _ _ _ [F]
  refine .s (.r (.p (.a rfl) (.n (.t (.s (.r (.p (.m rfl) (.p (.eql rfl rfl) (.p (.m rfl) ?_)))))))))
  apply GoL.segOD 10 17 7 [7, 8, 9, 10, 11, 12, 13, 14, 15, 16, 17] rfl
  · intro h7
    refine .g (.m rfl) (.g (.m rfl) ?_)
    apply GoL.segA 3 12 9 [9, 10, 11, 12] rfl
    · intro h9
      refine .g (.m rfl) (.g (.gtr rfl rfl) (.g (.t rfl rfl) (.n ?_)))
      refine .seg .auto rfl (by first | exact fun _ h => h | exact Ent.kept .auto)
    · intro h9
      refine .u (.u (.g (.u rfl rfl) (.n ?_)))
      refine .seg .auto rfl (by first | exact fun _ h => h | exact Ent.kept .auto)
    refine .g (.m rfl) ?_
    apply GoL.segA 3 16 13 [13, 14, 15, 16] rfl
    · intro h13
      refine .g (.m rfl) (.g (.lss rfl rfl) (.g (.t rfl rfl) (.n ?_)))
      refine .seg .auto rfl (by first | exact fun _ h => h | exact Ent.kept .auto)
    · intro h13
      refine .u (.u (.g (.u rfl rfl) (.n ?_)))
      refine .seg .auto rfl (by first | exact fun _ h => h | exact Ent.kept .auto)
    refine .p (.u rfl rfl) (.n ?_)
    refine .seg .auto rfl (by first | exact fun _ h => h | exact Ent.kept .auto)
  · intro h7
    refine .u (.u (.u (.u (.u (.u (.u (.u (.u (.p (.t rfl rfl) (.n ?_))))))))))
    refine .seg .auto rfl (by first | exact fun _ h => h | exact Ent.kept .auto)
  refine .p (.a rfl) (.n (.t (.e (.ret1 rfl rfl fun w s => ⟨(), ?_, trivial, finE .auto s⟩))))
  rfl

theorem inst_Class {W : World} {op : Int} : Fn Tryz.prog W 68 [.int .i64 op] [] Unit (fun _ => .int .i64 (cls op)) (fun _ => True) (fun _ => []) := by
  refine Fn.intro (N := 24) func68 rfl ntmps68 rfl fun F => ?_
  show GoC _ _ _ _ _ _ [F]
  refine .s (.r (.p (.a rfl) (.n (.t (.s (.b (.s (.r (.p (.m rfl) (.p (.geq rfl rfl) (.p (.m rfl) ?_)))))))))))
  apply GoL.segAD 3 9 6 [6, 7, 8, 9] rfl
  · intro h6
    refine .g (.m rfl) (.g (.leq rfl rfl) (.p (.t rfl rfl) (.n ?_)))
    refine .seg .auto rfl (by first | exact fun _ h => h | exact Ent.kept .auto)
  · intro h6
    refine .u (.u (.p (.u rfl rfl) (.n ?_)))
    refine .seg .auto rfl (by first | exact fun _ h => h | exact Ent.kept .auto)
  refine .p (.a rfl) (.n (.t (.cond rfl (fun h3 => ?_) (fun h3 => ?_))))
  · simp only [Bool.and_eq_true, decide_eq_true_eq] at h3
    refine .s (.r (.p (.a rfl) (.n (.t (.e (.br (.tr (.ret1 rfl rfl fun w s => ⟨(), ?_, trivial, finE .auto s⟩))))))))
    refine retI ?_; unfold cls; repeat (first | rw [if_pos (by omega)] | rw [if_neg (by omega)])
  · simp only [Bool.and_eq_false_iff, decide_eq_false_iff_not] at h3
    refine .s (.r (.p (.m rfl) (.p (.geq rfl rfl) (.p (.m rfl) ?_))))
    apply GoL.segAD 3 16 13 [13, 14, 15, 16] rfl
    · intro h13
      refine .g (.m rfl) (.g (.leq rfl rfl) (.p (.t rfl rfl) (.n ?_)))
      refine .seg .auto rfl (by first | exact fun _ h => h | exact Ent.kept .auto)
    · intro h13
      refine .u (.u (.p (.u rfl rfl) (.n ?_)))
      refine .seg .auto rfl (by first | exact fun _ h => h | exact Ent.kept .auto)
    refine .p (.a rfl) (.n (.t (.cond rfl (fun h10 => ?_) (fun h10 => ?_))))
    · simp only [Bool.and_eq_true, decide_eq_true_eq] at h10
      refine .s (.r (.p (.a rfl) (.n (.t (.e (.br (.tr (.ret1 rfl rfl fun w s => ⟨(), ?_, trivial, finE .auto s⟩))))))))
      refine retI ?_; unfold cls; repeat (first | rw [if_pos (by omega)] | rw [if_neg (by omega)])
    · simp only [Bool.and_eq_false_iff, decide_eq_false_iff_not] at h10
      refine .s (.r (.p (.m rfl) (.p (.geq rfl rfl) (.p (.m rfl) ?_))))
      apply GoL.segAD 3 23 20 [20, 21, 22, 23] rfl
      · intro h20
        refine .g (.m rfl) (.g (.leq rfl rfl) (.p (.t rfl rfl) (.n ?_)))
        refine .seg .auto rfl (by first | exact fun _ h => h | exact Ent.kept .auto)
      · intro h20
        refine .u (.u (.p (.u rfl rfl) (.n ?_)))
        refine .seg .auto rfl (by first | exact fun _ h => h | exact Ent.kept .auto)
      refine .p (.a rfl) (.n (.t (.cond rfl (fun h17 => ?_) (fun h17 => ?_))))
      · simp only [Bool.and_eq_true, decide_eq_true_eq] at h17
        refine .s (.r (.p (.a rfl) (.n (.t (.e (.br (.tr (.ret1 rfl rfl fun w s => ⟨(), ?_, trivial, finE .auto s⟩))))))))
        refine retI ?_; unfold cls; repeat (first | rw [if_pos (by omega)] | rw [if_neg (by omega)])
      · simp only [Bool.and_eq_false_iff, decide_eq_false_iff_not] at h17
        refine .v (.b (.t (.s (.r (.p (.a rfl) (.n (.t (.e (.ret1 rfl rfl fun w s => ⟨(), ?_, trivial, finE .auto s⟩)))))))))
        refine retI ?_; unfold cls; repeat (first | rw [if_pos (by omega)] | rw [if_neg (by omega)])

theorem inst_below {W : World} {f : Form} {n : Int} (hf : f.n ≤ 9223372036854775807) : Fn Tryz.prog W 71 [.agg (formE f).toArray, .int .u64 n] [] Unit (fun _ => .bool (f.below n)) (fun _ => True) (fun _ => []) := by
  refine Fn.intro (N := 24) func71 rfl ntmps71 rfl fun F => ?_
  show GoC _ _ _ _ _ _ [F]
  refine .s (.r ?_)
  refine .does rfl (Does.box rfl rfl rfl) ?_
  rintro _ _ ⟨b2, rfl, rfl⟩
  refine .p (.a rfl) (.n (.t (.s (.b (.s (.r (.p (.f rfl) (.p (.l rfl) (.p (.a rfl) (.n (.t (.cond rfl (fun h5 => ?_) (fun h5 => ?_)))))))))))))
  · refine .s (.r (.p (.a rfl) (.n (.t (.e (.br (.tr (.ret1 rfl rfl fun w s => ⟨(), ?_, trivial, finE .auto s⟩))))))))
    rw [Form.below, if_pos h5]
  · refine .s (.r (.p (.f rfl) (.p (.l rfl) (.p (.eql rfl rfl) (.p (.a rfl) (.n (.t (.condD rfl (fun h8 => ?_) (fun h8 => ?_)))))))))
    · refine .s (.r (.p (.m rfl) (.p (.eql rfl rfl) (.p (.a rfl) (.n (.t (.e (.br (.tr (.ret1 rfl rfl fun w s => ⟨(), ?_, trivial, finE .auto s⟩))))))))))
      rw [Form.below, if_neg (by simp [h5]), if_pos h8]
    · refine .v (.b (.t (.s (.r (.p (.f rfl) (.p (.l rfl) (.p (.gtr rfl rfl) (.p (.m rfl) ?_))))))))
      apply GoL.segAD 6 23 17 [17, 18, 19, 20, 21, 22, 23] rfl
      · intro h17
        refine .g (.m rfl) (.g (.f rfl) (.g (.l rfl) ?_))
        refine .g (.convU underlying3 underlying78 rfl (by omega)) ?_
        refine .g (.lss rfl rfl) (.p (.t rfl rfl) (.n ?_))
        refine .seg .auto rfl (by first | exact fun _ h => h | exact Ent.kept .auto)
      · intro h17
        refine .u (.u (.u (.u (.u (.p (.u rfl rfl) (.n ?_))))))
        refine .seg .auto rfl (by first | exact fun _ h => h | exact Ent.kept .auto)
      refine .p (.a rfl) (.n (.t (.e (.ret1 rfl rfl fun w s => ⟨(), ?_, trivial, finE .auto s⟩))))
      rw [Form.below, if_neg (by simp [h5]), if_neg h8]

theorem inst_of {W : World} {A : HProp} {v : PrgV} (hp : PrgRd W [A] v) {op : Int} : Fn Tryz.prog W 69 [.agg (prgE v).toArray, .int .i64 op] [A] Unit (fun _ => .agg (formE (formOf v.p op)).toArray) (fun _ => True) (fun _ => [A]) := by
  refine Fn.intro (N := 73) func69 rfl ntmps69 rfl fun F => ?_
  haveI hI1 : ∀ (H : List HProp) [HasH H A], ReadsC W H v.fv fstE 1 v.fs := fun H h => ⟨hp.fs.at h.has⟩
  haveI hI2 : ∀ (H : List HProp) [HasH H A], ReadsC W H v.sv intE 1 v.sems := fun H h => ⟨hp.sems.at h.has⟩
  haveI hI3 : ∀ (H : List HProp) [HasH H A], ReadsC W H v.pv intE 1 v.pipes := fun H h => ⟨hp.pipes.at h.has⟩
  show GoC _ _ _ _ _ _ [A, F]
  refine .s (.r ?_)
  refine .does rfl (Does.box rfl rfl rfl) ?_
  rintro _ _ ⟨b2, rfl, rfl⟩
  refine .does rfl (Does.alloc rfl zeroValue152 rfl) ?_
  rintro _ _ ⟨b4, rfl, rfl⟩
  refine .n (.t (.s (.s (.r (.p (.m rfl) (.n (.t (.b (.s (.r (.p (.eql rfl rfl) (.p (.a rfl) (.n (.t (.condD rfl (fun h6 => ?_) (fun h6 => ?_))))))))))))))))
  · refine .s (.r ?_)
    refine .p (.bld2 (fun v1 v2 => [v1, (.bool false), (.int .i64 0), v2]) rfl rfl (by kernel_rfl)) ?_
    refine .does rfl (Does.sta (by exact sizeOf152) rfl rfl rfl (by rfl)) ?_
    rintro _ _ ⟨rfl, rfl⟩
    refine .n (.t (.e (.br (.tr ?_))))
    refine .retC rfl rfl isAgg152 (by exact sizeOf152) Cells.a fun w s => ⟨(), ?_, trivial, finE .auto s⟩
    simp [formOf, formE, *]
  · refine .s (.s (.r (.p (.eql rfl rfl) (.p (.a rfl) (.n (.t (.condD rfl (fun h9 => ?_) (fun h9 => ?_))))))))
    · refine .v (.t ?_)
      first | refine GoC.condD rfl (fun _ => ?_) (fun hc => absurd h9 hc) | refine GoC.cond rfl (fun _ => ?_) (fun hc => by rw [h9] at hc; cases hc)
      refine .s (.r ?_)
      refine .p (.bld2 (fun v1 v2 => [v1, (.bool false), v2, (.bool false)]) rfl rfl (by kernel_rfl)) ?_
      refine .does rfl (Does.sta (by exact sizeOf152) rfl rfl rfl (by rfl)) ?_
      rintro _ _ ⟨rfl, rfl⟩
      refine .n (.t (.e (.br (.tr ?_))))
      refine .retC rfl rfl isAgg152 (by exact sizeOf152) Cells.a fun w s => ⟨(), ?_, trivial, finE .auto s⟩
      simp [formOf, formE, *]
    · refine .s (.r (.p (.eql rfl rfl) (.p (.a rfl) (.n (.t (.condD rfl (fun h9 => ?_) (fun h9 => ?_)))))))
      · refine .v (.t ?_)
        first | refine GoC.condD rfl (fun _ => ?_) (fun hc => absurd h9 hc) | refine GoC.cond rfl (fun _ => ?_) (fun hc => by rw [h9] at hc; cases hc)
        refine .s (.r ?_)
        refine .p (.bld2 (fun v1 v2 => [v1, (.bool false), v2, (.bool false)]) rfl rfl (by kernel_rfl)) ?_
        refine .does rfl (Does.sta (by exact sizeOf152) rfl rfl rfl (by rfl)) ?_
        rintro _ _ ⟨rfl, rfl⟩
        refine .n (.t (.e (.br (.tr ?_))))
        refine .retC rfl rfl isAgg152 (by exact sizeOf152) Cells.a fun w s => ⟨(), ?_, trivial, finE .auto s⟩
        simp [formOf, formE, *]
      · refine .s (.r (.p (.eql rfl rfl) (.p (.a rfl) (.n (.t (.condD rfl (fun h9 => ?_) (fun h9 => ?_)))))))
        · refine .v (.t ?_)
          first | refine GoC.condD rfl (fun _ => ?_) (fun hc => absurd h9 hc) | refine GoC.cond rfl (fun _ => ?_) (fun hc => by rw [h9] at hc; cases hc)
          refine .s (.r ?_)
          refine .p (.bld2 (fun v1 v2 => [v1, (.bool false), v2, (.bool false)]) rfl rfl (by kernel_rfl)) ?_
          refine .does rfl (Does.sta (by exact sizeOf152) rfl rfl rfl (by rfl)) ?_
          rintro _ _ ⟨rfl, rfl⟩
          refine .n (.t (.e (.br (.tr ?_))))
          refine .retC rfl rfl isAgg152 (by exact sizeOf152) Cells.a fun w s => ⟨(), ?_, trivial, finE .auto s⟩
          simp [formOf, formE, *]
        · refine .s (.r (.p (.eql rfl rfl) (.p (.a rfl) (.n (.t (.condD rfl (fun h9 => ?_) (fun h9 => ?_)))))))
          · refine .v (.t ?_)
            first | refine GoC.condD rfl (fun _ => ?_) (fun hc => absurd h9 hc) | refine GoC.cond rfl (fun _ => ?_) (fun hc => by rw [h9] at hc; cases hc)
            refine .s (.r ?_)
            refine .p (.bld2 (fun v1 v2 => [v1, (.bool false), v2, (.bool false)]) rfl rfl (by kernel_rfl)) ?_
            refine .does rfl (Does.sta (by exact sizeOf152) rfl rfl rfl (by rfl)) ?_
            rintro _ _ ⟨rfl, rfl⟩
            refine .n (.t (.e (.br (.tr ?_))))
            refine .retC rfl rfl isAgg152 (by exact sizeOf152) Cells.a fun w s => ⟨(), ?_, trivial, finE .auto s⟩
            simp [formOf, formE, *]
          · refine .s (.r (.p (.eql rfl rfl) (.p (.a rfl) (.n (.t (.condD rfl (fun h9 => ?_) (fun h9 => ?_)))))))
            · refine .v (.t ?_)
              first | refine GoC.condD rfl (fun _ => ?_) (fun hc => absurd h9 hc) | refine GoC.cond rfl (fun _ => ?_) (fun hc => by rw [h9] at hc; cases hc)
              refine .s (.r ?_)
              refine .p (.bld2 (fun v1 v2 => [v1, (.bool false), v2, (.bool false)]) rfl rfl (by kernel_rfl)) ?_
              refine .does rfl (Does.sta (by exact sizeOf152) rfl rfl rfl (by rfl)) ?_
              rintro _ _ ⟨rfl, rfl⟩
              refine .n (.t (.e (.br (.tr ?_))))
              refine .retC rfl rfl isAgg152 (by exact sizeOf152) Cells.a fun w s => ⟨(), ?_, trivial, finE .auto s⟩
              simp [formOf, formE, *]
            · refine .s (.r (.p (.eql rfl rfl) (.p (.a rfl) (.n (.t (.condD rfl (fun h9 => ?_) (fun h9 => ?_)))))))
              · refine .v (.t ?_)
                first | refine GoC.condD rfl (fun _ => ?_) (fun hc => absurd h9 hc) | refine GoC.cond rfl (fun _ => ?_) (fun hc => by rw [h9] at hc; cases hc)
                refine .s (.r ?_)
                refine .p (.bld2 (fun v1 v2 => [v1, (.bool false), v2, (.bool false)]) rfl rfl (by kernel_rfl)) ?_
                refine .does rfl (Does.sta (by exact sizeOf152) rfl rfl rfl (by rfl)) ?_
                rintro _ _ ⟨rfl, rfl⟩
                refine .n (.t (.e (.br (.tr ?_))))
                refine .retC rfl rfl isAgg152 (by exact sizeOf152) Cells.a fun w s => ⟨(), ?_, trivial, finE .auto s⟩
                simp [formOf, formE, *]
              · refine .s (.r (.p (.eql rfl rfl) (.p (.a rfl) (.n (.t (.condD rfl (fun h9 => ?_) (fun h9 => ?_)))))))
                · refine .v (.t ?_)
                  first | refine GoC.condD rfl (fun _ => ?_) (fun hc => absurd h9 hc) | refine GoC.cond rfl (fun _ => ?_) (fun hc => by rw [h9] at hc; cases hc)
                  refine .s (.r ?_)
                  refine .p (.bld2 (fun v1 v2 => [v1, (.bool false), v2, (.bool false)]) rfl rfl (by kernel_rfl)) ?_
                  refine .does rfl (Does.sta (by exact sizeOf152) rfl rfl rfl (by rfl)) ?_
                  rintro _ _ ⟨rfl, rfl⟩
                  refine .n (.t (.e (.br (.tr ?_))))
                  refine .retC rfl rfl isAgg152 (by exact sizeOf152) Cells.a fun w s => ⟨(), ?_, trivial, finE .auto s⟩
                  simp [formOf, formE, *]
                · refine .r (.p (.eql rfl rfl) (.p (.a rfl) (.n (.t (.condD rfl (fun h9 => ?_) (fun h9 => ?_))))))
                  · refine .s (.r ?_)
                    refine .p (.bld2 (fun v1 v2 => [v1, (.bool false), v2, (.bool false)]) rfl rfl (by kernel_rfl)) ?_
                    refine .does rfl (Does.sta (by exact sizeOf152) rfl rfl rfl (by rfl)) ?_
                    rintro _ _ ⟨rfl, rfl⟩
                    refine .n (.t (.e (.br (.tr ?_))))
                    refine .retC rfl rfl isAgg152 (by exact sizeOf152) Cells.a fun w s => ⟨(), ?_, trivial, finE .auto s⟩
                    simp [formOf, formE, *]
                  · refine .s (.r (.p (.eql rfl rfl) (.p (.a rfl) (.n (.t (.condD rfl (fun h19 => ?_) (fun h19 => ?_)))))))
                    · refine .s (.r ?_)
                      refine .p (.bld1 (fun v1 => [(.int .i64 0), (.bool false), v1, (.bool false)]) rfl (by kernel_rfl)) ?_
                      refine .does rfl (Does.sta (by exact sizeOf152) rfl rfl rfl (by rfl)) ?_
                      rintro _ _ ⟨rfl, rfl⟩
                      refine .n (.t (.e (.br (.tr ?_))))
                      refine .retC rfl rfl isAgg152 (by exact sizeOf152) Cells.a fun w s => ⟨(), ?_, trivial, finE .auto s⟩
                      simp [formOf, formE, *]
                    · refine .s (.r (.p (.eql rfl rfl) (.p (.a rfl) (.n (.t (.condD rfl (fun h22 => ?_) (fun h22 => ?_)))))))
                      · refine .s (.r ?_)
                        refine .p (.bld2 (fun v1 v2 => [v1, (.bool false), v2, (.bool false)]) rfl rfl (by kernel_rfl)) ?_
                        refine .does rfl (Does.sta (by exact sizeOf152) rfl rfl rfl (by rfl)) ?_
                        rintro _ _ ⟨rfl, rfl⟩
                        refine .n (.t (.e (.br (.tr ?_))))
                        refine .retC rfl rfl isAgg152 (by exact sizeOf152) Cells.a fun w s => ⟨(), ?_, trivial, finE .auto s⟩
                        simp [formOf, formE, *]
                      · refine .s (.r (.p (.eql rfl rfl) (.p (.a rfl) (.n (.t (.condD rfl (fun h25 => ?_) (fun h25 => ?_)))))))
                        · refine .s (.r (.p (.z rfl) (.p (.l rfl) (.p (.len rfl) ?_))))
                          refine .p (.bld2 (fun v1 v2 => [v1, (.bool false), v2, (.bool false)]) rfl rfl (by kernel_rfl)) ?_
                          refine .does rfl (Does.sta (by exact sizeOf152) rfl rfl rfl (by rfl)) ?_
                          rintro _ _ ⟨rfl, rfl⟩
                          refine .n (.t (.e (.br (.tr ?_))))
                          refine .retC rfl rfl isAgg152 (by exact sizeOf152) Cells.a fun w s => ⟨(), ?_, trivial, finE .auto s⟩
                          simp [formOf, formE, PrgV.p, *]
                        · refine .s (.s (.r (.p (.eql rfl rfl) (.p (.a rfl) (.n (.t (.condD rfl (fun h31 => ?_) (fun h31 => ?_))))))))
                          · refine .v (.t ?_)
                            first | refine GoC.condD rfl (fun _ => ?_) (fun hc => absurd h31 hc) | refine GoC.cond rfl (fun _ => ?_) (fun hc => by rw [h31] at hc; cases hc)
                            refine .s (.r ?_)
                            refine .p (.bld2 (fun v1 v2 => [v1, (.bool false), v2, (.bool false)]) rfl rfl (by kernel_rfl)) ?_
                            refine .does rfl (Does.sta (by exact sizeOf152) rfl rfl rfl (by rfl)) ?_
                            rintro _ _ ⟨rfl, rfl⟩
                            refine .n (.t (.e (.br (.tr ?_))))
                            refine .retC rfl rfl isAgg152 (by exact sizeOf152) Cells.a fun w s => ⟨(), ?_, trivial, finE .auto s⟩
                            simp [formOf, formE, *]
                          · refine .s (.r (.p (.eql rfl rfl) (.p (.a rfl) (.n (.t (.condD rfl (fun h31 => ?_) (fun h31 => ?_)))))))
                            · refine .v (.t ?_)
                              first | refine GoC.condD rfl (fun _ => ?_) (fun hc => absurd h31 hc) | refine GoC.cond rfl (fun _ => ?_) (fun hc => by rw [h31] at hc; cases hc)
                              refine .s (.r ?_)
                              refine .p (.bld2 (fun v1 v2 => [v1, (.bool false), v2, (.bool false)]) rfl rfl (by kernel_rfl)) ?_
                              refine .does rfl (Does.sta (by exact sizeOf152) rfl rfl rfl (by rfl)) ?_
                              rintro _ _ ⟨rfl, rfl⟩
                              refine .n (.t (.e (.br (.tr ?_))))
                              refine .retC rfl rfl isAgg152 (by exact sizeOf152) Cells.a fun w s => ⟨(), ?_, trivial, finE .auto s⟩
                              simp [formOf, formE, *]
                            · refine .s (.r (.p (.eql rfl rfl) (.p (.a rfl) (.n (.t (.condD rfl (fun h31 => ?_) (fun h31 => ?_)))))))
                              · refine .v (.t ?_)
                                first | refine GoC.condD rfl (fun _ => ?_) (fun hc => absurd h31 hc) | refine GoC.cond rfl (fun _ => ?_) (fun hc => by rw [h31] at hc; cases hc)
                                refine .s (.r ?_)
                                refine .p (.bld2 (fun v1 v2 => [v1, (.bool false), v2, (.bool false)]) rfl rfl (by kernel_rfl)) ?_
                                refine .does rfl (Does.sta (by exact sizeOf152) rfl rfl rfl (by rfl)) ?_
                                rintro _ _ ⟨rfl, rfl⟩
                                refine .n (.t (.e (.br (.tr ?_))))
                                refine .retC rfl rfl isAgg152 (by exact sizeOf152) Cells.a fun w s => ⟨(), ?_, trivial, finE .auto s⟩
                                simp [formOf, formE, *]
                              · refine .s (.r (.p (.eql rfl rfl) (.p (.a rfl) (.n (.t (.condD rfl (fun h31 => ?_) (fun h31 => ?_)))))))
                                · refine .v (.t ?_)
                                  first | refine GoC.condD rfl (fun _ => ?_) (fun hc => absurd h31 hc) | refine GoC.cond rfl (fun _ => ?_) (fun hc => by rw [h31] at hc; cases hc)
                                  refine .s (.r ?_)
                                  refine .p (.bld2 (fun v1 v2 => [v1, (.bool false), v2, (.bool false)]) rfl rfl (by kernel_rfl)) ?_
                                  refine .does rfl (Does.sta (by exact sizeOf152) rfl rfl rfl (by rfl)) ?_
                                  rintro _ _ ⟨rfl, rfl⟩
                                  refine .n (.t (.e (.br (.tr ?_))))
                                  refine .retC rfl rfl isAgg152 (by exact sizeOf152) Cells.a fun w s => ⟨(), ?_, trivial, finE .auto s⟩
                                  simp [formOf, formE, *]
                                · refine .r (.p (.eql rfl rfl) (.p (.a rfl) (.n (.t (.condD rfl (fun h31 => ?_) (fun h31 => ?_))))))
                                  · refine .s (.r ?_)
                                    refine .p (.bld2 (fun v1 v2 => [v1, (.bool false), v2, (.bool false)]) rfl rfl (by kernel_rfl)) ?_
                                    refine .does rfl (Does.sta (by exact sizeOf152) rfl rfl rfl (by rfl)) ?_
                                    rintro _ _ ⟨rfl, rfl⟩
                                    refine .n (.t (.e (.br (.tr ?_))))
                                    refine .retC rfl rfl isAgg152 (by exact sizeOf152) Cells.a fun w s => ⟨(), ?_, trivial, finE .auto s⟩
                                    simp [formOf, formE, *]
                                  · refine .s (.r (.p (.eql rfl rfl) (.p (.a rfl) (.n (.t (.condD rfl (fun h38 => ?_) (fun h38 => ?_)))))))
                                    · refine .s (.r ?_)
                                      refine .p (.bld1 (fun v1 => [(.int .i64 0), (.bool false), v1, (.bool false)]) rfl (by kernel_rfl)) ?_
                                      refine .does rfl (Does.sta (by exact sizeOf152) rfl rfl rfl (by rfl)) ?_
                                      rintro _ _ ⟨rfl, rfl⟩
                                      refine .n (.t (.e (.br (.tr ?_))))
                                      refine .retC rfl rfl isAgg152 (by exact sizeOf152) Cells.a fun w s => ⟨(), ?_, trivial, finE .auto s⟩
                                      simp [formOf, formE, *]
                                    · refine .s (.s (.r (.p (.eql rfl rfl) (.p (.a rfl) (.n (.t (.condD rfl (fun h41 => ?_) (fun h41 => ?_))))))))
                                      · refine .v (.t ?_)
                                        first | refine GoC.condD rfl (fun _ => ?_) (fun hc => absurd h41 hc) | refine GoC.cond rfl (fun _ => ?_) (fun hc => by rw [h41] at hc; cases hc)
                                        refine .s (.r (.p (.f rfl) (.p (.l rfl) ?_)))
                                        refine .p (.bld1 (fun v1 => [(.int .i64 0), (.bool false), v1, (.bool false)]) rfl (by kernel_rfl)) ?_
                                        refine .does rfl (Does.sta (by exact sizeOf152) rfl rfl rfl (by rfl)) ?_
                                        rintro _ _ ⟨rfl, rfl⟩
                                        refine .n (.t (.e (.br (.tr ?_))))
                                        refine .retC rfl rfl isAgg152 (by exact sizeOf152) Cells.a fun w s => ⟨(), ?_, trivial, finE .auto s⟩
                                        simp [formOf, formE, PrgV.p, *]
                                      · refine .r (.p (.eql rfl rfl) (.p (.a rfl) (.n (.t (.condD rfl (fun h41 => ?_) (fun h41 => ?_))))))
                                        · refine .s (.r (.p (.f rfl) (.p (.l rfl) ?_)))
                                          refine .p (.bld1 (fun v1 => [(.int .i64 0), (.bool false), v1, (.bool false)]) rfl (by kernel_rfl)) ?_
                                          refine .does rfl (Does.sta (by exact sizeOf152) rfl rfl rfl (by rfl)) ?_
                                          rintro _ _ ⟨rfl, rfl⟩
                                          refine .n (.t (.e (.br (.tr ?_))))
                                          refine .retC rfl rfl isAgg152 (by exact sizeOf152) Cells.a fun w s => ⟨(), ?_, trivial, finE .auto s⟩
                                          simp [formOf, formE, PrgV.p, *]
                                        · refine .s (.r (.p (.eql rfl rfl) (.p (.a rfl) (.n (.t (.condD rfl (fun h47 => ?_) (fun h47 => ?_)))))))
                                          · refine .s (.r (.p (.f rfl) (.p (.l rfl) ?_)))
                                            refine .p (.bld2 (fun v1 v2 => [(.int .i64 0), v2, v1, (.bool false)]) rfl rfl (by kernel_rfl)) ?_
                                            refine .does rfl (Does.sta (by exact sizeOf152) rfl rfl rfl (by rfl)) ?_
                                            rintro _ _ ⟨rfl, rfl⟩
                                            refine .n (.t (.e (.br (.tr ?_))))
                                            refine .retC rfl rfl isAgg152 (by exact sizeOf152) Cells.a fun w s => ⟨(), ?_, trivial, finE .auto s⟩
                                            simp [formOf, formE, PrgV.p, *]
                                          · refine .s (.s (.r (.p (.eql rfl rfl) (.p (.a rfl) (.n (.t (.condD rfl (fun h52 => ?_) (fun h52 => ?_))))))))
                                            · refine .v (.t ?_)
                                              first | refine GoC.condD rfl (fun _ => ?_) (fun hc => absurd h52 hc) | refine GoC.cond rfl (fun _ => ?_) (fun hc => by rw [h52] at hc; cases hc)
                                              refine .s (.r (.p (.f rfl) (.p (.l rfl) ?_)))
                                              refine .p (.bld1 (fun v1 => [(.int .i64 0), (.bool false), v1, (.bool false)]) rfl (by kernel_rfl)) ?_
                                              refine .does rfl (Does.sta (by exact sizeOf152) rfl rfl rfl (by rfl)) ?_
                                              rintro _ _ ⟨rfl, rfl⟩
                                              refine .n (.t (.e (.br (.tr ?_))))
                                              refine .retC rfl rfl isAgg152 (by exact sizeOf152) Cells.a fun w s => ⟨(), ?_, trivial, finE .auto s⟩
                                              simp [formOf, formE, PrgV.p, *]
                                            · refine .r (.p (.eql rfl rfl) (.p (.a rfl) (.n (.t (.condD rfl (fun h52 => ?_) (fun h52 => ?_))))))
                                              · refine .s (.r (.p (.f rfl) (.p (.l rfl) ?_)))
                                                refine .p (.bld1 (fun v1 => [(.int .i64 0), (.bool false), v1, (.bool false)]) rfl (by kernel_rfl)) ?_
                                                refine .does rfl (Does.sta (by exact sizeOf152) rfl rfl rfl (by rfl)) ?_
                                                rintro _ _ ⟨rfl, rfl⟩
                                                refine .n (.t (.e (.br (.tr ?_))))
                                                refine .retC rfl rfl isAgg152 (by exact sizeOf152) Cells.a fun w s => ⟨(), ?_, trivial, finE .auto s⟩
                                                simp [formOf, formE, PrgV.p, *]
                                              · refine .s (.s (.r (.p (.eql rfl rfl) (.p (.a rfl) (.n (.t (.condD rfl (fun h58 => ?_) (fun h58 => ?_))))))))
                                                · refine .v (.t ?_)
                                                  first | refine GoC.condD rfl (fun _ => ?_) (fun hc => absurd h58 hc) | refine GoC.cond rfl (fun _ => ?_) (fun hc => by rw [h58] at hc; cases hc)
                                                  refine .s (.r (.p (.f rfl) (.p (.l rfl) (.p (.len rfl) ?_))))
                                                  refine .p (.bld1 (fun v1 => [(.int .i64 0), (.bool false), v1, (.bool false)]) rfl (by kernel_rfl)) ?_
                                                  refine .does rfl (Does.sta (by exact sizeOf152) rfl rfl rfl (by rfl)) ?_
                                                  rintro _ _ ⟨rfl, rfl⟩
                                                  refine .n (.t (.e (.br (.tr ?_))))
                                                  refine .retC rfl rfl isAgg152 (by exact sizeOf152) Cells.a fun w s => ⟨(), ?_, trivial, finE .auto s⟩
                                                  simp [formOf, formE, PrgV.p, *]
                                                · refine .r (.p (.eql rfl rfl) (.p (.a rfl) (.n (.t (.condD rfl (fun h58 => ?_) (fun h58 => ?_))))))
                                                  · refine .s (.r (.p (.f rfl) (.p (.l rfl) (.p (.len rfl) ?_))))
                                                    refine .p (.bld1 (fun v1 => [(.int .i64 0), (.bool false), v1, (.bool false)]) rfl (by kernel_rfl)) ?_
                                                    refine .does rfl (Does.sta (by exact sizeOf152) rfl rfl rfl (by rfl)) ?_
                                                    rintro _ _ ⟨rfl, rfl⟩
                                                    refine .n (.t (.e (.br (.tr ?_))))
                                                    refine .retC rfl rfl isAgg152 (by exact sizeOf152) Cells.a fun w s => ⟨(), ?_, trivial, finE .auto s⟩
                                                    simp [formOf, formE, PrgV.p, *]
                                                  · refine .s (.s (.r (.p (.eql rfl rfl) (.p (.a rfl) (.n (.t (.condD rfl (fun h65 => ?_) (fun h65 => ?_))))))))
                                                    · refine .v (.t ?_)
                                                      first | refine GoC.condD rfl (fun _ => ?_) (fun hc => absurd h65 hc) | refine GoC.cond rfl (fun _ => ?_) (fun hc => by rw [h65] at hc; cases hc)
                                                      refine .s (.r (.p (.f rfl) (.p (.l rfl) (.p (.len rfl) ?_))))
                                                      refine .p (.bld2 (fun v1 v2 => [v1, (.bool false), v2, (.bool false)]) rfl rfl (by kernel_rfl)) ?_
                                                      refine .does rfl (Does.sta (by exact sizeOf152) rfl rfl rfl (by rfl)) ?_
                                                      rintro _ _ ⟨rfl, rfl⟩
                                                      refine .n (.t (.e (.br (.tr ?_))))
                                                      refine .retC rfl rfl isAgg152 (by exact sizeOf152) Cells.a fun w s => ⟨(), ?_, trivial, finE .auto s⟩
                                                      simp [formOf, formE, PrgV.p, *]
                                                    · refine .r (.p (.eql rfl rfl) (.p (.a rfl) (.n (.t (.condD rfl (fun h65 => ?_) (fun h65 => ?_))))))
                                                      · refine .s (.r (.p (.f rfl) (.p (.l rfl) (.p (.len rfl) ?_))))
                                                        refine .p (.bld2 (fun v1 v2 => [v1, (.bool false), v2, (.bool false)]) rfl rfl (by kernel_rfl)) ?_
                                                        refine .does rfl (Does.sta (by exact sizeOf152) rfl rfl rfl (by rfl)) ?_
                                                        rintro _ _ ⟨rfl, rfl⟩
                                                        refine .n (.t (.e (.br (.tr ?_))))
                                                        refine .retC rfl rfl isAgg152 (by exact sizeOf152) Cells.a fun w s => ⟨(), ?_, trivial, finE .auto s⟩
                                                        simp [formOf, formE, PrgV.p, *]
                                                      · refine .v (.b (.t (.s (.r ?_))))
                                                        refine .p (.bld2 (fun v1 v2 => [v1, (.bool false), v2, (.bool false)]) rfl rfl (by kernel_rfl)) ?_
                                                        refine .does rfl (Does.sta (by exact sizeOf152) rfl rfl rfl (by rfl)) ?_
                                                        rintro _ _ ⟨rfl, rfl⟩
                                                        refine .n (.t (.e ?_))
                                                        refine .retC rfl rfl isAgg152 (by exact sizeOf152) Cells.a fun w s => ⟨(), ?_, trivial, finE .auto s⟩
                                                        simp [formOf, formE, *]

theorem inst_Sound {W : World} {A : HProp} {v : PrgV} (hp : PrgRd W [A] v) {i : Ins} (hb : (formOf v.p i.op).n ≤ 9223372036854775807) : Fn Tryz.prog W 49 [.agg (prgE v).toArray, .agg (insE i).toArray] [A] Unit (fun _ => .bool (soundI v.p i)) (fun _ => True) (fun _ => [A]) := by
  refine Fn.intro (N := 56) func49 rfl ntmps49 rfl fun F => ?_
  haveI hI1 : ∀ (H : List HProp) [HasH H A], ReadsC W H v.fv fstE 1 v.fs := fun H h => ⟨hp.fs.at h.has⟩
  haveI hI2 : ∀ (H : List HProp) [HasH H A], ReadsC W H v.sv intE 1 v.sems := fun H h => ⟨hp.sems.at h.has⟩
  haveI hI3 : ∀ (H : List HProp) [HasH H A], ReadsC W H v.pv intE 1 v.pipes := fun H h => ⟨hp.pipes.at h.has⟩
  show GoC _ _ _ _ _ _ [A, F]
  refine .s (.r ?_)
  refine .does rfl (Does.box rfl rfl rfl) ?_
  rintro _ _ ⟨b2, rfl, rfl⟩
  refine .does rfl (Does.box rfl rfl rfl) ?_
  rintro _ _ ⟨b3, rfl, rfl⟩
  refine .p (.a rfl) (.n (.t (.s (.s (.r (.p (.z rfl) (.p (.l rfl) ?_)))))))
  refine .does rfl (Does.callE rfl call68 rfl inst_Class .auto) ?_
  rintro _ _ ⟨⟨⟩, -, rfl, rfl⟩
  refine .p (.eql rfl rfl) (.n (.t (.condD rfl (fun h10 => ?_) (fun h10 => ?_))))
  · refine .s (.r (.p (.a rfl) (.n (.t (.e (.tr (.ret1 rfl rfl fun w s => ⟨(), ?_, trivial, finE .auto s⟩)))))))
    rw [soundI, if_pos h10]
  · refine .v (.t (.s (.r (.p (.lA rfl) (.p (.z rfl) (.p (.l rfl) ?_))))))
    refine .does rfl (Does.callE rfl call69 rfl (inst_of hp) .auto) ?_
    rintro _ _ ⟨⟨⟩, -, rfl, rfl⟩
    refine .does rfl (Does.alloc rfl zeroValue152 rfl) ?_
    rintro _ _ ⟨b5, rfl, rfl⟩
    refine .does rfl (Does.sta (by exact sizeOf152) rfl rfl rfl (by rfl)) ?_
    rintro _ _ ⟨rfl, rfl⟩
    refine .n (.t (.s (.r (.p (.f rfl) (.p (.l rfl) (.p (.z rfl) (.p (.l rfl) (.p (.gtr rfl rfl) ?_))))))))
    refine .does rfl (Does.callE rfl call70 rfl inst_reg .auto) ?_
    rintro _ _ ⟨⟨⟩, -, rfl, rfl⟩
    refine .p (.a rfl) (.n (.t (.s (.s (.r (.p (.f rfl) (.p (.l rfl) (.n (.t (.cond rfl (fun h22 => ?_) (fun h22 => ?_)))))))))))
    · refine .r (.p (.f rfl) (.p (.l rfl) (.p (.geq rfl rfl) (.p (.m rfl) ?_))))
      apply GoL.segAD 6 32 26 [26, 27, 28, 29, 30, 31, 32] rfl
      · intro h26
        refine .g (.f rfl) (.g (.l rfl) (.g (.f rfl) (.g (.l rfl) (.g (.lss rfl rfl) (.p (.t rfl rfl) (.n ?_))))))
        refine .seg .auto rfl (by first | exact fun _ h => h | exact Ent.kept .auto)
      · intro h26
        refine .u (.u (.u (.u (.u (.p (.u rfl rfl) (.n ?_))))))
        refine .seg .auto rfl (by first | exact fun _ h => h | exact Ent.kept .auto)
      refine .p (.a rfl) (.n (.t (.s (.r (.p (.f rfl) (.p (.l rfl) (.p (.z rfl) (.p (.l rfl) (.p (.gtr rfl rfl) ?_)))))))))
      refine .does rfl (Does.callE rfl call70 rfl inst_reg .auto) ?_
      rintro _ _ ⟨⟨⟩, -, rfl, rfl⟩
      refine .p (.m rfl) ?_
      apply GoL.segA 7 46 39 [39, 40, 41, 42, 43, 44, 45, 46] rfl
      · intro h39
        refine .g (.f rfl) (.g (.l rfl) (.g (.z rfl) (.g (.l rfl) (.g (.gtr rfl rfl) ?_))))
        refine .dg rfl rfl rfl (Does.callE rfl call70 rfl inst_reg .auto) ?_
        rintro _ _ ⟨⟨⟩, -, rfl, rfl⟩
        refine .p (.t rfl rfl) (.n ?_)
        refine .seg .auto rfl (by first | exact fun _ h => h | exact Ent.kept .auto)
      · intro h39
        refine .u (.u (.u (.u (.u (.u (.p (.u rfl rfl) (.n ?_)))))))
        refine .seg .auto rfl (by first | exact fun _ h => h | exact Ent.kept .auto)
      refine .p (.m rfl) ?_
      apply GoL.segA 2 49 47 [47, 48, 49] rfl
      · intro h47
        refine .g (.m rfl) (.p (.t rfl rfl) (.n ?_))
        refine .seg .auto rfl (by first | exact fun _ h => h | exact Ent.kept .auto)
      · intro h47
        refine .u (.p (.u rfl rfl) (.n ?_))
        refine .seg .auto rfl (by first | exact fun _ h => h | exact Ent.kept .auto)
      refine .p (.m rfl) ?_
      apply GoL.segA 5 55 50 [50, 51, 52, 53, 54, 55] rfl
      · intro h50
        refine .g (.lA rfl) (.g (.f rfl) (.g (.l rfl) ?_))
        refine .dg rfl rfl rfl (Does.callE rfl call71 rfl (inst_below hb) .auto) ?_
        rintro _ _ ⟨⟨⟩, -, rfl, rfl⟩
        refine .p (.t rfl rfl) (.n ?_)
        refine .seg .auto rfl (by first | exact fun _ h => h | exact Ent.kept .auto)
      · intro h50
        refine .u (.u (.u (.u (.p (.u rfl rfl) (.n ?_)))))
        refine .seg .auto rfl (by first | exact fun _ h => h | exact Ent.kept .auto)
      refine .p (.a rfl) (.n (.t (.e (.ret1 rfl rfl fun w s => ⟨(), ?_, trivial, finE .auto s⟩))))
      refine retB ?_; rw [soundI, if_neg h10]; simp only [h22, if_true]; try rfl
    · refine .v (.t (.s (.r (.p (.f rfl) (.p (.l rfl) (.p (.z rfl) (.p (.l rfl) (.p (.gtr rfl rfl) ?_))))))))
      refine .does rfl (Does.callE rfl call70 rfl inst_reg .auto) ?_
      rintro _ _ ⟨⟨⟩, -, rfl, rfl⟩
      refine .p (.m rfl) ?_
      apply GoL.segA 7 46 39 [39, 40, 41, 42, 43, 44, 45, 46] rfl
      · intro h39
        refine .g (.f rfl) (.g (.l rfl) (.g (.z rfl) (.g (.l rfl) (.g (.gtr rfl rfl) ?_))))
        refine .dg rfl rfl rfl (Does.callE rfl call70 rfl inst_reg .auto) ?_
        rintro _ _ ⟨⟨⟩, -, rfl, rfl⟩
        refine .p (.t rfl rfl) (.n ?_)
        refine .seg .auto rfl (by first | exact fun _ h => h | exact Ent.kept .auto)
      · intro h39
        refine .u (.u (.u (.u (.u (.u (.p (.u rfl rfl) (.n ?_)))))))
        refine .seg .auto rfl (by first | exact fun _ h => h | exact Ent.kept .auto)
      refine .p (.m rfl) ?_
      apply GoL.segA 2 49 47 [47, 48, 49] rfl
      · intro h47
        refine .g (.m rfl) (.p (.t rfl rfl) (.n ?_))
        refine .seg .auto rfl (by first | exact fun _ h => h | exact Ent.kept .auto)
      · intro h47
        refine .u (.p (.u rfl rfl) (.n ?_))
        refine .seg .auto rfl (by first | exact fun _ h => h | exact Ent.kept .auto)
      refine .p (.m rfl) ?_
      apply GoL.segA 5 55 50 [50, 51, 52, 53, 54, 55] rfl
      · intro h50
        refine .g (.lA rfl) (.g (.f rfl) (.g (.l rfl) ?_))
        refine .dg rfl rfl rfl (Does.callE rfl call71 rfl (inst_below hb) .auto) ?_
        rintro _ _ ⟨⟨⟩, -, rfl, rfl⟩
        refine .p (.t rfl rfl) (.n ?_)
        refine .seg .auto rfl (by first | exact fun _ h => h | exact Ent.kept .auto)
      · intro h50
        refine .u (.u (.u (.u (.p (.u rfl rfl) (.n ?_)))))
        refine .seg .auto rfl (by first | exact fun _ h => h | exact Ent.kept .auto)
      refine .p (.a rfl) (.n (.t (.e (.ret1 rfl rfl fun w s => ⟨(), ?_, trivial, finE .auto s⟩))))
      refine retB ?_; rw [soundI, if_neg h10]; simp only [h22, if_false, Bool.false_eq_true]; try rfl

theorem inst_caps {W : World} {A : HProp} {v : PrgV} (hp : PrgRd W [A] v) (hl : v.fs.length ≤ 1000000000 ∧ v.sems.length ≤ 1000000000 ∧ v.pipes.length ≤ 1000000000) : Fn Tryz.prog W 48 [.agg (prgE v).toArray] [A] Unit (fun _ => .bool (capsI v.p)) (fun _ => True) (fun _ => [A]) := by
  refine Fn.intro (N := 102) func48 rfl ntmps48 rfl fun F => ?_
  haveI hI1 : ∀ (H : List HProp) [HasH H A], ReadsC W H v.fv fstE 1 v.fs := fun H h => ⟨hp.fs.at h.has⟩
  haveI hI2 : ∀ (H : List HProp) [HasH H A], ReadsC W H v.sv intE 1 v.sems := fun H h => ⟨hp.sems.at h.has⟩
  haveI hI3 : ∀ (H : List HProp) [HasH H A], ReadsC W H v.pv intE 1 v.pipes := fun H h => ⟨hp.pipes.at h.has⟩
  show GoC _ _ _ _ _ _ [A, F]
  refine .s (.r ?_)
  refine .does rfl (Does.box rfl rfl rfl) ?_
  rintro _ _ ⟨b1, rfl, rfl⟩
  refine .p (.a rfl) (.n (.t (.s (.r (.p (.z rfl) (.p (.l rfl) (.p (.len rfl) (.p (.gtr rfl rfl) (.p (.m rfl) ?_)))))))))
  apply GoL.segAD 5 19 14 [14, 15, 16, 17, 18, 19] rfl
  · intro h14
    refine .g (.z rfl) (.g (.l rfl) (.g (.len rfl) (.g (.leq rfl rfl) (.p (.t rfl rfl) (.n ?_)))))
    refine .seg .auto rfl (by first | exact fun _ h => h | exact Ent.kept .auto)
  · intro h14
    refine .u (.u (.u (.u (.p (.u rfl rfl) (.n ?_)))))
    refine .seg .auto rfl (by first | exact fun _ h => h | exact Ent.kept .auto)
  refine .p (.m rfl) ?_
  apply GoL.segA 4 24 20 [20, 21, 22, 23, 24] rfl
  · intro h20
    refine .g (.f rfl) (.g (.l rfl) ?_)
    refine .dg rfl rfl rfl (Does.callE rfl call67 rfl inst_within .auto) ?_
    rintro _ _ ⟨⟨⟩, -, rfl, rfl⟩
    refine .p (.t rfl rfl) (.n ?_)
    refine .seg .auto rfl (by first | exact fun _ h => h | exact Ent.kept .auto)
  · intro h20
    refine .u (.u (.u (.p (.u rfl rfl) (.n ?_))))
    refine .seg .auto rfl (by first | exact fun _ h => h | exact Ent.kept .auto)
  refine .p (.m rfl) ?_
  apply GoL.segA 4 29 25 [25, 26, 27, 28, 29] rfl
  · intro h25
    refine .g (.f rfl) (.g (.l rfl) ?_)
    refine .dg rfl rfl rfl (Does.callE rfl call67 rfl inst_within .auto) ?_
    rintro _ _ ⟨⟨⟩, -, rfl, rfl⟩
    refine .p (.t rfl rfl) (.n ?_)
    refine .seg .auto rfl (by first | exact fun _ h => h | exact Ent.kept .auto)
  · intro h25
    refine .u (.u (.u (.p (.u rfl rfl) (.n ?_))))
    refine .seg .auto rfl (by first | exact fun _ h => h | exact Ent.kept .auto)
  refine .p (.m rfl) ?_
  apply GoL.segA 4 34 30 [30, 31, 32, 33, 34] rfl
  · intro h30
    refine .g (.f rfl) (.g (.l rfl) ?_)
    refine .dg rfl rfl rfl (Does.callE rfl call67 rfl inst_within .auto) ?_
    rintro _ _ ⟨⟨⟩, -, rfl, rfl⟩
    refine .p (.t rfl rfl) (.n ?_)
    refine .seg .auto rfl (by first | exact fun _ h => h | exact Ent.kept .auto)
  · intro h30
    refine .u (.u (.u (.p (.u rfl rfl) (.n ?_))))
    refine .seg .auto rfl (by first | exact fun _ h => h | exact Ent.kept .auto)
  refine .p (.m rfl) ?_
  apply GoL.segA 4 39 35 [35, 36, 37, 38, 39] rfl
  · intro h35
    refine .g (.f rfl) (.g (.l rfl) ?_)
    refine .dg rfl rfl rfl (Does.callE rfl call67 rfl inst_within .auto) ?_
    rintro _ _ ⟨⟨⟩, -, rfl, rfl⟩
    refine .p (.t rfl rfl) (.n ?_)
    refine .seg .auto rfl (by first | exact fun _ h => h | exact Ent.kept .auto)
  · intro h35
    refine .u (.u (.u (.p (.u rfl rfl) (.n ?_))))
    refine .seg .auto rfl (by first | exact fun _ h => h | exact Ent.kept .auto)
  refine .p (.m rfl) ?_
  apply GoL.segA 4 44 40 [40, 41, 42, 43, 44] rfl
  · intro h40
    refine .g (.f rfl) (.g (.l rfl) ?_)
    refine .dg rfl rfl rfl (Does.callE rfl call67 rfl inst_within .auto) ?_
    rintro _ _ ⟨⟨⟩, -, rfl, rfl⟩
    refine .p (.t rfl rfl) (.n ?_)
    refine .seg .auto rfl (by first | exact fun _ h => h | exact Ent.kept .auto)
  · intro h40
    refine .u (.u (.u (.p (.u rfl rfl) (.n ?_))))
    refine .seg .auto rfl (by first | exact fun _ h => h | exact Ent.kept .auto)
  refine .p (.m rfl) ?_
  apply GoL.segA 5 50 45 [45, 46, 47, 48, 49, 50] rfl
  · intro h45
    refine .g (.f rfl) (.g (.l rfl) (.g (.len rfl) (.g (.leq rfl rfl) (.p (.t rfl rfl) (.n ?_)))))
    refine .seg .auto rfl (by first | exact fun _ h => h | exact Ent.kept .auto)
  · intro h45
    refine .u (.u (.u (.u (.p (.u rfl rfl) (.n ?_)))))
    refine .seg .auto rfl (by first | exact fun _ h => h | exact Ent.kept .auto)
  refine .p (.m rfl) ?_
  apply GoL.segA 5 56 51 [51, 52, 53, 54, 55, 56] rfl
  · intro h51
    refine .g (.f rfl) (.g (.l rfl) (.g (.len rfl) (.g (.leq rfl rfl) (.p (.t rfl rfl) (.n ?_)))))
    refine .seg .auto rfl (by first | exact fun _ h => h | exact Ent.kept .auto)
  · intro h51
    refine .u (.u (.u (.u (.p (.u rfl rfl) (.n ?_)))))
    refine .seg .auto rfl (by first | exact fun _ h => h | exact Ent.kept .auto)
  refine .p (.a rfl) (.n (.t (.s (.s (.r (.p (.z rfl) (.p (.l rfl) (.p (.len rfl) (.p (.m rfl) (.n (.t (.b ?_))))))))))))
  refine .loopK (X := Nat × Bool) [3, 5, 60, 61, 62, 63, 64, 65, 66, 67, 68, 69, 70] (fun z => v.fs.length - z.1) (fun z => z.1 ≤ v.fs.length ∧ z.2 = capsV1 v z.1) (fun z => [(60, some (.int .i64 (z.1 : Int))), (3, some (.bool z.2))]) (fun z => [arr b1 0 (prgE v), A, F]) (0, capsV0 v) ?_ ?_ ?_ ?_
  · exact ⟨Nat.zero_le _, by simp [capsV1]⟩
  · exact ⟨rfl, rfl, trivial⟩
  · exact fun w s => Ent.kept .auto w s
  rintro ⟨k, y⟩ ⟨hk, hy⟩
  simp only at hk hy
  refine .s (.r (.p (.lss rfl rfl) (.n (.t (.s (.condD rfl (fun h61 => ?_) (fun h61 => ?_)))))))
  · refine .v (.t (.s (.b (.s (.r ?_)))))
    obtain ⟨x, hx⟩ := at_some (show k < v.fs.length by omega)
    have hi := hp.ins x (List.mem_of_getElem? hx)
    haveI hI4 : ∀ (H : List HProp) [HasH H A], ReadsC W H x.1 insE 5 x.2 := fun H h => ⟨hi.at h.has⟩
    refine .p (.ix _ rfl rfl rfl (by first | omega | decide)) ?_
    refine .p (.lr rfl ‹_›) ?_
    refine .p (.a rfl) (.n (.t (.r (.p (.m rfl) (.p (.m rfl) ?_)))))
    apply GoL.segA 4 69 65 [65, 66, 67, 68, 69] rfl
    · intro h65
      refine .g (.m rfl) (.g (.len rfl) (.g (.leq rfl rfl) (.p (.t rfl rfl) (.n ?_))))
      refine .seg .auto rfl (by first | exact fun _ h => h | exact Ent.kept .auto)
    · intro h65
      refine .u (.u (.u (.p (.u rfl rfl) (.n ?_))))
      refine .seg .auto rfl (by first | exact fun _ h => h | exact Ent.kept .auto)
    refine .p (.a rfl) (.n (.b (.t (.r ?_))))
    refine .p (.inc rfl rfl (by omega)) ?_
    refine .p (.m rfl) (.n ?_)
    refine .againK (k + 1, (y && decide ((x.2.length : Int) ≤ 256))) .auto rfl ?_ ?_ ?_ ?_
    · show v.fs.length - (k + 1) < v.fs.length - k; omega
    · refine ⟨by show k + 1 ≤ _; omega, ?_⟩
      rw [capsV1, all_snoc hx, hy, capsV1]
      simp only [Bool.and_assoc]
    · exact ⟨rfl, rfl, trivial⟩
    · exact fun w s => Ent.kept .auto w s
  · refine .x (.tx (.tx (.bh (.t (.s (.s (.r (.p (.f rfl) (.p (.l rfl) (.p (.len rfl) (.p (.m rfl) (.n (.t (.b ?_))))))))))))))
    obtain rfl : k = v.fs.length := by omega
    refine .loopK (X := Nat × Bool) [3, 7, 74, 75, 76, 77, 78, 79, 80, 81, 82, 83] (fun z => v.sems.length - z.1) (fun z => z.1 ≤ v.sems.length ∧ z.2 = capsV2 v z.1) (fun z => [(74, some (.int .i64 (z.1 : Int))), (3, some (.bool z.2))]) (fun z => [arr b1 0 (prgE v), A, F]) (0, y) ?_ ?_ ?_ ?_
    · exact ⟨Nat.zero_le _, by rw [capsV2, hy]; simp⟩
    · exact ⟨rfl, rfl, trivial⟩
    · exact fun w s => Ent.kept .auto w s
    rintro ⟨k, y⟩ ⟨hk, hy⟩
    simp only at hk hy
    refine .s (.r (.p (.lss rfl rfl) (.n (.t (.s (.condD rfl (fun h75 => ?_) (fun h75 => ?_)))))))
    · refine .v (.t (.s (.b (.s (.r ?_)))))
      obtain ⟨x, hx⟩ := at_some (show k < v.sems.length by omega)
      refine .p (.ix _ rfl rfl rfl (by first | omega | decide)) ?_
      refine .p (.lr rfl ‹_›) ?_
      refine .p (.a rfl) (.n (.t (.r (.p (.m rfl) (.p (.m rfl) ?_)))))
      apply GoL.segA 3 82 79 [79, 80, 81, 82] rfl
      · intro h79
        refine .g (.m rfl) ?_
        refine .dg rfl rfl rfl (Does.callE rfl call67 rfl inst_within .auto) ?_
        rintro _ _ ⟨⟨⟩, -, rfl, rfl⟩
        refine .p (.t rfl rfl) (.n ?_)
        refine .seg .auto rfl (by first | exact fun _ h => h | exact Ent.kept .auto)
      · intro h79
        refine .u (.u (.p (.u rfl rfl) (.n ?_)))
        refine .seg .auto rfl (by first | exact fun _ h => h | exact Ent.kept .auto)
      refine .p (.a rfl) (.n (.b (.t (.r ?_))))
      refine .p (.inc rfl rfl (by omega)) ?_
      refine .p (.m rfl) (.n ?_)
      refine .againK (k + 1, (y && within x 1048576)) .auto rfl ?_ ?_ ?_ ?_
      · show v.sems.length - (k + 1) < v.sems.length - k; omega
      · refine ⟨by show k + 1 ≤ _; omega, ?_⟩
        rw [capsV2, all_snoc hx, hy, capsV2]
        simp only [Bool.and_assoc]
      · exact ⟨rfl, rfl, trivial⟩
      · exact fun w s => Ent.kept .auto w s
    · refine .x (.tx (.tx (.bh (.t (.s (.s (.r (.p (.f rfl) (.p (.l rfl) (.p (.len rfl) (.p (.m rfl) (.n (.t (.b ?_))))))))))))))
      obtain rfl : k = v.sems.length := by omega
      refine .loopK (X := Nat × Bool) [3, 9, 87, 88, 89, 90, 91, 92, 93, 94, 95, 96, 97, 98, 99, 100] (fun z => v.pipes.length - z.1) (fun z => z.1 ≤ v.pipes.length ∧ z.2 = capsV3 v z.1) (fun z => [(87, some (.int .i64 (z.1 : Int))), (3, some (.bool z.2))]) (fun z => [arr b1 0 (prgE v), A, F]) (0, y) ?_ ?_ ?_ ?_
      · exact ⟨Nat.zero_le _, by rw [capsV3, hy]; simp⟩
      · exact ⟨rfl, rfl, trivial⟩
      · exact fun w s => Ent.kept .auto w s
      rintro ⟨k, y⟩ ⟨hk, hy⟩
      simp only at hk hy
      refine .s (.r (.p (.lss rfl rfl) (.n (.t (.s (.condD rfl (fun h88 => ?_) (fun h88 => ?_)))))))
      · refine .v (.t (.s (.b (.s (.r ?_)))))
        obtain ⟨x, hx⟩ := at_some (show k < v.pipes.length by omega)
        refine .p (.ix _ rfl rfl rfl (by first | omega | decide)) ?_
        refine .p (.lr rfl ‹_›) ?_
        refine .p (.a rfl) (.n (.t (.r (.p (.m rfl) (.p (.m rfl) ?_)))))
        apply GoL.segA 3 95 92 [92, 93, 94, 95] rfl
        · intro h92
          refine .g (.m rfl) (.g (.gtr rfl rfl) (.p (.t rfl rfl) (.n ?_)))
          refine .seg .auto rfl (by first | exact fun _ h => h | exact Ent.kept .auto)
        · intro h92
          refine .u (.u (.p (.u rfl rfl) (.n ?_)))
          refine .seg .auto rfl (by first | exact fun _ h => h | exact Ent.kept .auto)
        refine .p (.m rfl) ?_
        apply GoL.segA 3 99 96 [96, 97, 98, 99] rfl
        · intro h96
          refine .g (.m rfl) ?_
          refine .dg rfl rfl rfl (Does.callE rfl call67 rfl inst_within .auto) ?_
          rintro _ _ ⟨⟨⟩, -, rfl, rfl⟩
          refine .p (.t rfl rfl) (.n ?_)
          refine .seg .auto rfl (by first | exact fun _ h => h | exact Ent.kept .auto)
        · intro h96
          refine .u (.u (.p (.u rfl rfl) (.n ?_)))
          refine .seg .auto rfl (by first | exact fun _ h => h | exact Ent.kept .auto)
        refine .p (.a rfl) (.n (.b (.t (.r ?_))))
        refine .p (.inc rfl rfl (by omega)) ?_
        refine .p (.m rfl) (.n ?_)
        refine .againK (k + 1, ((y && decide (0 < x)) && within x 8)) .auto rfl ?_ ?_ ?_ ?_
        · show v.pipes.length - (k + 1) < v.pipes.length - k; omega
        · refine ⟨by show k + 1 ≤ _; omega, ?_⟩
          rw [capsV3, all_snoc hx, hy, capsV3]
          simp only [Bool.and_assoc]
        · exact ⟨rfl, rfl, trivial⟩
        · exact fun w s => Ent.kept .auto w s
      · refine .x (.tx (.tx (.bh (.t (.s (.r (.p (.m rfl) (.p (.a rfl) (.n (.t (.e ?_)))))))))))
        obtain rfl : k = v.pipes.length := by omega
        refine .ret1 rfl rfl fun w s => ⟨(), ?_, trivial, finE .auto s⟩
        rw [hy, capsV_eq]

theorem inst_Check {W : World} {A : HProp} {v : PrgV} (hp : PrgRd W [A] v) (hl : v.fs.length ≤ 1000000000 ∧ v.sems.length ≤ 1000000000 ∧ v.pipes.length ≤ 1000000000) : Fn Tryz.prog W 20 [.agg (prgE v).toArray] [A] Unit (fun _ => .int .i64 (checkI v.p)) (fun _ => True) (fun _ => [A]) := by
  refine Fn.intro (N := 29) func20 rfl ntmps20 rfl fun F => ?_
  haveI hI1 : ∀ (H : List HProp) [HasH H A], ReadsC W H v.fv fstE 1 v.fs := fun H h => ⟨hp.fs.at h.has⟩
  haveI hI2 : ∀ (H : List HProp) [HasH H A], ReadsC W H v.sv intE 1 v.sems := fun H h => ⟨hp.sems.at h.has⟩
  haveI hI3 : ∀ (H : List HProp) [HasH H A], ReadsC W H v.pv intE 1 v.pipes := fun H h => ⟨hp.pipes.at h.has⟩
  show GoC _ _ _ _ _ _ [A, F]
  refine .s (.r ?_)
  refine .does rfl (Does.box rfl rfl rfl) ?_
  rintro _ _ ⟨b1, rfl, rfl⟩
  refine .p (.a rfl) (.n (.t (.s (.s (.r (.p (.lA rfl) ?_))))))
  refine .does rfl (Does.callE rfl call48 rfl (inst_caps hp hl) .auto) ?_
  rintro _ _ ⟨⟨⟩, -, rfl, rfl⟩
  refine .p (.not rfl) (.n (.t (.cond rfl (fun h9 => ?_) (fun h9 => ?_))))
  · refine .s (.r (.p (.a rfl) (.n (.t (.e (.tr ?_))))))
    rw [Bool.not_eq_true'] at h9
    refine .ret1 rfl rfl fun w s => ⟨(), ?_, trivial, finE .auto s⟩
    refine retI ?_; unfold checkI; rw [if_neg (by rw [h9]; simp)]
  · refine .v (.t (.s (.s (.r (.p (.z rfl) (.p (.l rfl) (.p (.len rfl) (.p (.m rfl) (.n (.t (.b ?_)))))))))))
    rw [Bool.not_eq_false'] at h9
    refine .loopK (X := Nat) [2, 4, 6, 13, 14, 15, 16, 17, 18, 19, 20, 21, 22, 23, 24, 25, 26, 27, 28] (fun k => v.fs.length - k) (fun k => k ≤ v.fs.length ∧ (v.fs.take k).all (fun f : Value × List Ins => f.2.all (soundI v.p)) = true) (fun k => [(13, some (.int .i64 (k : Int)))]) (fun k => [arr b1 0 (prgE v), A, F]) 0 ?_ ?_ ?_ ?_
    · exact ⟨Nat.zero_le _, rfl⟩
    · exact ⟨rfl, trivial⟩
    · exact fun w s => Ent.kept .auto w s
    rintro k ⟨hk, hs⟩
    refine .s (.r (.p (.lss rfl rfl) (.n (.t (.s (.condD rfl (fun h14 => ?_) (fun h14 => ?_)))))))
    · refine .v (.t (.s (.b (.s (.r ?_)))))
      obtain ⟨x, hx⟩ := at_some (show k < v.fs.length by omega)
      have hi := hp.ins x (List.mem_of_getElem? hx)
      haveI hI4 : ∀ (H : List HProp) [HasH H A], ReadsC W H x.1 insE 5 x.2 := fun H h => ⟨hi.at h.has⟩
      have hx256 : x.2.length ≤ 256 := caps_fs h9 (List.mem_of_getElem? hx)
      refine .p (.ix _ rfl rfl rfl (by first | omega | decide)) ?_
      refine .p (.lr rfl ‹_›) ?_
      refine .p (.a rfl) (.n (.t (.s (.r (.p (.m rfl) (.p (.len rfl) (.p (.m rfl) (.n (.t (.b ?_))))))))))
      refine .loopK (X := Nat) [2, 6, 19, 20, 21, 22, 23, 24, 25, 26, 27] (fun j => x.2.length - j) (fun j => j ≤ x.2.length ∧ (x.2.take j).all (soundI v.p) = true) (fun j => [(19, some (.int .i64 (j : Int)))]) (fun j => [arr b1 0 (prgE v), A, F]) 0 ?_ ?_ ?_ ?_
      · exact ⟨Nat.zero_le _, rfl⟩
      · exact ⟨rfl, trivial⟩
      · exact fun w s => Ent.kept .auto w s
      rintro j ⟨hj0, hsj⟩
      refine .s (.r (.p (.lss rfl rfl) (.n (.t (.s (.condD rfl (fun h20 => ?_) (fun h20 => ?_)))))))
      · refine .v (.t (.s (.b (.s (.r ?_)))))
        obtain ⟨i, hj⟩ := at_some (show j < x.2.length by omega)
        refine .p (.ix _ rfl rfl rfl (by first | omega | decide)) ?_
        refine .p (.la rfl (Cells.rd Rd.s ‹_›)) ?_
        refine .does rfl (Does.alloc rfl zeroValue80 rfl) ?_
        rintro _ _ ⟨b6, rfl, rfl⟩
        refine .does rfl (Does.sta (by exact sizeOf80) rfl rfl rfl (by rfl)) ?_
        rintro _ _ ⟨rfl, rfl⟩
        refine .n (.t (.s (.r (.p (.lA rfl) (.p (.lA rfl) ?_)))))
        refine .does rfl (Does.callE rfl call49 rfl (inst_Sound hp (caps_form h9 _)) .auto) ?_
        rintro _ _ ⟨⟨⟩, -, rfl, rfl⟩
        refine .p (.not rfl) (.n (.t (.cond rfl (fun h26 => ?_) (fun h26 => ?_))))
        · refine .s (.r (.p (.a rfl) (.n (.t (.e (.br (.tr (.tr (.br (.br (.tr (.tr (.br (.tr ?_))))))))))))))
          rw [Bool.not_eq_true'] at h26
          refine .ret1 rfl rfl fun w s => ⟨(), ?_, trivial, finE .auto s⟩
          exact retI (check_bad h9 hx hj h26).symm
        · refine .v (.b (.t (.r ?_)))
          refine .p (.inc rfl rfl (by omega)) ?_
          refine .p (.m rfl) (.n ?_)
          rw [Bool.not_eq_false'] at h26
          refine .againK (j + 1) .auto rfl ?_ ?_ ?_ ?_
          · first | omega | (dsimp only; omega)
          · exact ⟨by omega, by rw [all_snoc hj, hsj, h26]; rfl⟩
          · exact ⟨rfl, trivial⟩
          · exact fun w s => Ent.kept .auto w s
      · refine .x (.tx (.tx (.bh (.b (.t (.r ?_))))))
        refine .p (.inc rfl rfl (by omega)) ?_
        refine .p (.m rfl) (.n ?_)
        obtain rfl : j = x.2.length := by omega
        rw [List.take_length] at hsj
        refine .againK (k + 1) .auto rfl ?_ ?_ ?_ ?_
        · first | omega | (dsimp only; omega)
        · exact ⟨by omega, by rw [all_snoc hx, hs, hsj]; rfl⟩
        · exact ⟨rfl, trivial⟩
        · exact fun w s => Ent.kept .auto w s
    · refine .x (.tx (.tx (.bh (.t (.s (.r (.p (.a rfl) (.n (.t (.e ?_))))))))))
      obtain rfl : k = v.fs.length := by omega
      rw [List.take_length] at hs
      refine .ret1 rfl rfl fun w s => ⟨(), ?_, trivial, finE .auto s⟩
      exact retI (check_ok h9 hs).symm

end Go.SLYtnceicnimongcaaGreat
namespace Go.SLYtnceicnimongcaaGreat
open Go Go.RowKit Go.Proofs Go.Proofs.Tryz

theorem gate_clamp {W : World} {n m : Int} : Fn Tryz.prog W 50 [.int .i64 n, .int .i64 m] [] Unit (fun _ => .int .i64 (clamp n m)) (fun _ => True) (fun _ => []) := by
  refine Fn.intro (N := 9) func50 rfl ntmps50 rfl fun F => ?_
  show GoC _ _ _ _ _ _ [F]
  refine .s (.r (.p (.a rfl) (.n (.t (.s (.r (.p (.m rfl) ?_)))))))
  refine .p (.max2m rfl rfl) ?_
  refine .p (.m rfl) ?_
  refine .p (.min2m rfl rfl) ?_
  refine .p (.a rfl) (.n (.t (.e (.ret1 rfl rfl fun w s => ⟨(), ?_, trivial, finE .auto s⟩))))
  rfl

theorem slot_New {W : World} {n : Int} : Fn Tryz.prog W 21 [.int .i64 n] [] Nat (fun b => ptr b) (fun _ => True) (fun b => [tblH b (List.replicate (clamp n 1024).toNat (false, 0))]) := by
  refine Fn.intro (N := 9) func21 rfl ntmps21 rfl fun F => ?_
  show GoC _ _ _ _ _ _ [F]
  refine .s (.r (.p (.a rfl) (.n (.t (.s (.r (.p (.m rfl) ?_)))))))
  refine .p (.max2m rfl rfl) ?_
  refine .p (.min2m rfl rfl) ?_
  have hc : (clamp n 1024).toNat ≤ 1024 := by unfold clamp; omega
  refine .does rfl (Does.mkSl (enc := oneE) (k := 2) (false, 0) (clamp n 1024).toNat rfl underlying101 typeInfo158 rfl rfl rfl rfl (by decide) (by decide) rfl rfl (by unfold clamp; omega) (by unfold clamp; omega) (by omega)) ?_
  rintro _ _ ⟨b6, rfl, rfl⟩
  refine .p (.bld1 (fun v1 => [v1]) rfl (by kernel_rfl)) ?_
  refine .does rfl (Does.box rfl rfl rfl) ?_
  rintro _ _ ⟨b8, rfl, rfl⟩
  refine .p (.a rfl) (.n (.t (.e (.ret1 rfl rfl fun w s => ⟨b8, ?_, trivial, finE .auto s⟩))))
  rfl

theorem disk_New {W : World} {n : Int} : Fn Tryz.prog W 23 [.int .i64 n] [] Nat (fun b => ptr b) (fun _ => True) (fun b => [dskH b (Dsk.new n)]) := by
  refine Fn.intro (N := 9) func23 rfl ntmps23 rfl fun F => ?_
  show GoC _ _ _ _ _ _ [F]
  refine .s (.r (.p (.a rfl) (.n (.t (.s (.r (.p (.m rfl) ?_)))))))
  refine .p (.max2m rfl rfl) ?_
  refine .p (.min2m rfl rfl) ?_
  have hc : (clamp n 64).toNat ≤ 64 := by unfold clamp; omega
  refine .does rfl (Does.mkSl (enc := wrdE) (k := 1) (0 : Int) (clamp n 64).toNat rfl underlying62 typeInfo78 rfl rfl rfl rfl (by decide) (by decide) rfl rfl (by unfold clamp; omega) (by unfold clamp; omega) (by omega)) ?_
  rintro _ _ ⟨b6, rfl, rfl⟩
  refine .p (.bld1 (fun v1 => [v1, (.slice none 0 0)]) rfl (by kernel_rfl)) ?_
  refine .does rfl (Does.box rfl rfl rfl) ?_
  rintro _ _ ⟨b8, rfl, rfl⟩
  refine .p (.a rfl) (.n (.t (.e (.ret1 rfl rfl fun w s => ⟨b8, ?_, trivial, finE .auto s⟩))))
  rfl

theorem tube_New {W : World} {n : Int} : Fn Tryz.prog W 27 [.int .i64 n] [] Nat (fun b => ptr b) (fun _ => True) (fun b => [tubH b (Tub.new n)]) := by
  refine Fn.intro (N := 8) func27 rfl ntmps27 rfl fun F => ?_
  show GoC _ _ _ _ _ _ [F]
  refine .s (.r (.p (.a rfl) (.n (.t (.s (.r (.p (.m rfl) ?_)))))))
  refine .p (.max2m rfl rfl) ?_
  refine .p (.min2m rfl rfl) ?_
  refine .p (.bld1 (fun v1 => [v1, (.slice none 0 0), (.slice none 0 0), (.slice none 0 0)]) rfl (by kernel_rfl)) ?_
  refine .does rfl (Does.box rfl rfl rfl) ?_
  rintro _ _ ⟨b7, rfl, rfl⟩
  refine .p (.a rfl) (.n (.t (.e (.ret1 rfl rfl fun w s => ⟨b7, ?_, trivial, finE .auto s⟩))))
  rfl

theorem deque_New {W : World}  : Fn Tryz.prog W 52 [] [] Nat (fun b => ptr b) (fun _ => True) (fun b => [dqH b []]) := by
  refine Fn.intro (N := 3) func52 rfl ntmps52 rfl fun F => ?_
  show GoC _ _ _ _ _ _ [F]
  refine .s (.r (.p (.a rfl) (.n (.t (.s (.r ?_))))))
  refine .p (.bld0 ([(.slice none 0 0)]) (by kernel_rfl)) ?_
  refine .does rfl (Does.box rfl rfl rfl) ?_
  rintro _ _ ⟨b2, rfl, rfl⟩
  refine .p (.a rfl) (.n (.t (.e (.ret1 rfl rfl fun w s => ⟨b2, ?_, trivial, finE .auto s⟩))))
  rfl

theorem wheel_New {W : World}  : Fn Tryz.prog W 24 [] [] Nat (fun b => ptr b) (fun _ => True) (fun b => [whlH b Whl.new]) := by
  refine Fn.intro (N := 4) func24 rfl ntmps24 rfl fun F => ?_
  show GoC _ _ _ _ _ _ [F]
  refine .s (.r (.p (.a rfl) (.n (.t (.s (.r ?_))))))
  refine .does rfl (Does.makeMap rfl) ?_
  rintro _ _ ⟨m1, rfl, rfl⟩
  refine .p (.bld1 (fun v1 => [(.int .i64 0), v1]) rfl (by kernel_rfl)) ?_
  refine .does rfl (Does.box rfl rfl rfl) ?_
  rintro _ _ ⟨b3, rfl, rfl⟩
  refine .p (.a rfl) (.n (.t (.e ?_)))
  refine .to (A := mapH m1 []) (Bs := [objAt m1 (.map #[] 0)]) .auto (fun h a => ⟨[], 0, ⟨rfl, List.nodup_nil, fun e he => (by cases he), List.nodup_nil⟩, a⟩) ?_
  refine .ret1 rfl rfl fun w s => ⟨b3, ?_, trivial, finE .auto s⟩
  rfl

theorem slot_handle {W : World} {o : Bool × Int} {n : Nat} (ho : 0 ≤ o.2 ∧ o.2 < 2199023255552) (hn : n < 65536) : Fn Tryz.prog W 72 [.agg (oneE o).toArray, .int .i64 (n : Int)] [] Unit (fun _ => .int .u64 (slotH o.2 n)) (fun _ => True) (fun _ => []) := by
  refine Fn.intro (N := 12) func72 rfl ntmps72 rfl fun F => ?_
  show GoC _ _ _ _ _ _ [F]
  refine .s (.r ?_)
  refine .does rfl (Does.box rfl rfl rfl) ?_
  rintro _ _ ⟨b2, rfl, rfl⟩
  refine .p (.a rfl) (.n (.t (.s (.r (.p (.f rfl) (.p (.l rfl) ?_))))))
  refine .p (.mulU rfl rfl (by omega)) ?_
  refine .p (.m rfl) ?_
  refine .p (.convU underlying3 underlying78 rfl (by omega)) ?_
  refine .p (.addU rfl rfl (by omega)) ?_
  refine .p (.addU rfl rfl (by omega)) ?_
  refine .p (.a rfl) (.n (.t (.e (.ret1 rfl rfl fun w s => ⟨(), ?_, trivial, finE .auto s⟩))))
  rfl

theorem slot_Take {W : World} {b : Nat} {l : List (Bool × Int)} (hl : TakeOk l) : Fn Tryz.prog W 51 [ptr b] [tblH b l] Unit (fun _ => .tuple #[.int .i64 (slotTake l).1, .int .u64 (slotTake l).2.1, .int .i64 (slotTake l).2.2.1]) (fun _ => True) (fun _ => [tblH b (slotTake l).2.2.2]) := by
  refine Fn.intro (N := 45) func51 rfl ntmps51 rfl fun F => ?_
  show GoC _ _ _ _ _ _ [tblH b l, F]
  refine .o1 (C := tblH b l) .auto rfl ?_
  rintro v -
  obtain ⟨hl1, hl2⟩ := hl
  refine .s (.r (.p (.a rfl) (.p (.a rfl) (.p (.a rfl) (.n (.t (.s (.s (.r (.p (.m rfl) (.p (.eqp rfl rfl) (.n (.t (.condF rfl ?_))))))))))))))
  refine .v (.t (.s (.s (.r (.p (.m rfl) (.p (.n rfl) (.p (.z rfl) (.p (.l rfl) (.p (.len rfl) (.p (.m rfl) (.n (.t (.b ?_)))))))))))))
  refine .loopK (X := Nat) [2, 3, 4, 5, 6, 14, 15, 16, 17, 18, 19, 20, 21, 22, 23, 24, 25, 26, 27, 28, 29, 30, 31, 32, 33, 34, 35, 36, 37, 38, 39, 40, 41, 42, 43, 44] (fun k => l.length - k) (fun k => k ≤ l.length ∧ slotFree? l 0 = slotFree? (l.drop k) k) (fun k => [(14, some (.int .i64 (k : Int)))]) (fun k => [arr b 0 [v], sl oneE 2 v l, F]) 0 ?_ ?_ ?_ ?_
  · exact ⟨Nat.zero_le _, by simp⟩
  · exact ⟨rfl, trivial⟩
  · exact fun w s => Ent.kept .auto w s
  rintro k ⟨hk, hn⟩
  refine .s (.r (.p (.lss rfl rfl) (.n (.t (.s (.condD rfl (fun h15 => ?_) (fun h15 => ?_)))))))
  · refine .v (.t (.s (.b (.s (.r (.p (.m rfl) (.p (.a rfl) (.n (.t (.s (.r (.p (.m rfl) (.p (.n rfl) (.p (.z rfl) (.p (.l rfl) (.p (.m rfl) ?_))))))))))))))))
    obtain ⟨o, hx⟩ := at_some (show k < l.length by omega)
    have ho := hl2 o (List.mem_of_getElem? hx)
    refine .p (.ix _ rfl rfl rfl (by first | omega | decide)) ?_
    refine .p (.a rfl) (.n (.t (.s (.r (.p (.m rfl) (.p (.n rfl) (.p (.z rfl) ?_)))))))
    refine .p (.lr rfl ‹_›) ?_
    refine .p (.not rfl) (.n (.t (.cond rfl (fun h27 => ?_) (fun h27 => ?_))))
    · refine .s (.r ?_)
      have hu : o.1 = false := by simpa using h27
      obtain ⟨o1, o2⟩ := o
      have hu : o1 = false := hu
      subst hu
      have hx2 : (l.set k (true, o2))[k]? = some (true, o2) := set_self hx
      have hx3 : ((l.set k (true, o2)).set k (true, o2 + 1))[k]? = some (true, o2 + 1) := set_self hx2
      refine .p (.m rfl) (.p (.n rfl) (.p (.z rfl) ?_))
      refine .does rfl (Does.storeSl0 (x' := (true, o2)) rfl rfl sizeOf4 rfl hx (by decide) rfl (by repeat (first | exact Repl.here | apply Repl.there))) ?_
      rintro _ _ ⟨rfl, rfl⟩
      refine .n (.t (.s (.r (.p (.m rfl) (.p (.n rfl) (.p (.o rfl) ?_))))))
      refine .p (.ld rfl (Cell.rd Rd.s ‹_› (by rfl))) ?_
      refine .p (.addU rfl rfl (by simp only at ho; omega)) ?_
      refine .p (.n rfl) (.p (.o rfl) ?_)
      refine .does rfl (Does.storeSl (c := 1) (x' := (true, o2 + 1)) rfl rfl sizeOf78 rfl hx2 (by decide) rfl (by repeat (first | exact Repl.here | apply Repl.there))) ?_
      rintro _ _ ⟨rfl, rfl⟩
      refine .n (.t (.s (.r (.p (.m rfl) (.p (.m rfl) (.p (.n rfl) ?_))))))
      refine .p (.la rfl (Cells.rd Rd.s ‹_›)) ?_
      refine .p (.m rfl) ?_
      refine .does rfl (Does.callE rfl call72 rfl (slot_handle (o := (true, o2 + 1)) (n := k) (by simp only at ho ⊢; omega) (by omega)) .auto) ?_
      rintro _ _ ⟨⟨⟩, -, rfl, rfl⟩
      refine .p (.a rfl) (.p (.a rfl) (.p (.a rfl) (.n (.t (.e (.br (.tr (.tr (.br (.tr ?_))))))))))
      have e : slotTake l = ((k : Int), slotH (o2 + 1) k, 0, (l.set k (true, o2)).set k (true, o2 + 1)) := by
        unfold slotTake; rw [hn, slot_hit hx rfl]; simp only [List.getD_eq_getElem?_getD, hx, List.set_set]; rfl
      rw [e]
      refine .ret3 rfl rfl rfl rfl fun w s => ⟨(), ?_, trivial, finE .auto s⟩
      rfl
    · refine .v (.b (.t (.r ?_)))
      refine .p (.inc rfl rfl (by omega)) ?_
      refine .p (.m rfl) (.n ?_)
      refine .againK (k + 1) .auto rfl ?_ ?_ ?_ ?_
      · first | omega | (dsimp only; omega)
      · exact ⟨by omega, hn.trans (slot_skip hx (by simpa using h27))⟩
      · exact ⟨rfl, trivial⟩
      · exact fun w s => Ent.kept .auto w s
  · refine .x (.tx (.tx (.bh (.t (.s (.r (.p (.a rfl) (.p (.a rfl) (.p (.a rfl) (.n (.t (.e ?_))))))))))))
    rw [show slotTake l = (0, 0, 2, l) from by unfold slotTake; rw [hn, slot_end (by omega)]]
    refine .ret3 rfl rfl rfl rfl fun w s => ⟨(), ?_, trivial, finE .auto s⟩
    rfl

theorem core_begin {W : World} {b : Nat} {ps : List (Option Nat)} {s : Spc} {f arg : Int} (hT : TakeOk s.table) (hl : s.thr.length = 16) (hf : ∀ n, slotFree? s.table 0 = some n → s.thr[n]? = some none) : Fn Tryz.prog W 28 [ptr b, .int .i64 f, .int .u64 arg] [spcX b ps s] (List (Option Nat)) (fun _ => .tuple #[.int .i64 (s.begin f arg).1, .int .i64 (s.begin f arg).2.1]) (fun qs => ∃ p, qs = psBegin s.table ps p) (fun qs => [spcX b qs (s.begin f arg).2.2]) := by
  refine Fn.intro (N := 45) func28 rfl ntmps28 rfl fun F => ?_
  show GoC _ _ _ _ _ _ [spcX b ps s, F]
  refine .o10 (C := spcX b ps s) .auto rfl ?_
  rintro fv sv pv bt vm bg vt bd bw vr -
  refine .know (fun w s => s.fact .auto thrs_same) fun hs => ?_
  refine .s (.r (.p (.a rfl) (.p (.a rfl) (.n (.t (.s (.r (.p (.m rfl) (.p (.n rfl) (.p (.f rfl) (.p (.l rfl) ?_)))))))))))
  refine .does rfl (Does.callE rfl call51 rfl (slot_Take hT) .auto) ?_
  rintro _ _ ⟨⟨⟩, -, rfl, rfl⟩
  refine .p (.m rfl) (.p (.extract rfl rfl) (.p (.extract rfl rfl) (.p (.extract rfl rfl) (.p (.a rfl) (.p (.a rfl) (.p (.a rfl) (.n (.t (.s (.s (.r (.p (.m rfl) (.p (.neq rfl rfl) (.n (.t (.condD rfl (fun h22 => ?_) (fun h22 => ?_)))))))))))))))))
  · refine .s (.r (.p (.m rfl) (.p (.a rfl) (.p (.a rfl) (.n (.t (.e (.tr ?_))))))))
    obtain ⟨hn, e⟩ := slotTake_no h22
    rw [e, begin_no hn]
    refine .ret2 rfl rfl rfl fun w s => ⟨ps, ?_, ⟨0, by unfold psBegin; rw [hn]⟩, finE .auto s⟩
    rfl
  · refine .v (.t (.s (.r ?_)))
    obtain ⟨n, hn, e⟩ := slotTake_ok (Decidable.of_not_not h22)
    have hfn := hf n hn
    have hn16 : n < 16 := hl ▸ (List.getElem?_eq_some_iff.1 hfn).1
    rw [e, begin_ok hn]
    refine .p (.m rfl) ?_
    refine .p (.bld3 (fun v1 v2 v3 => [(.int .i64 0), (.int .i64 0), (.int .u64 0), (.int .u64 0), (.int .u64 0), (.int .u64 0), (.int .u64 0), (.int .u64 0), (.int .u64 0), (.int .u64 0), v1, (.int .i64 0), (.int .u64 0), (.bool false), v2, (.int .i64 0), v3, (.int .u64 0)]) rfl rfl rfl (by kernel_rfl)) ?_
    refine .does rfl (Does.box rfl rfl rfl) ?_
    rintro _ _ ⟨b26, rfl, rfl⟩
    refine .p (.a rfl) (.n (.t (.s (.r (.p (.m rfl) (.p (.m rfl) (.p (.n rfl) (.p (.z rfl) (.p (.z rfl) ?_)))))))))
    refine .does rfl (Does.st sizeOf3 rfl rfl rfl rfl) ?_
    rintro _ _ ⟨rfl, rfl⟩
    refine .n (.t (.s (.r (.p (.m rfl) (.p (.m rfl) (.p (.n rfl) (.p (.z rfl) (.p (.f rfl) ?_))))))))
    refine .p (.ixArr _ underlying126 sizeOf78 rfl rfl rfl (by first | omega | decide)) ?_
    refine .does rfl (Does.st sizeOf78 rfl rfl rfl rfl) ?_
    rintro _ _ ⟨rfl, rfl⟩
    refine .n (.t (.s (.r (.p (.m rfl) (.p (.m rfl) (.p (.m rfl) (.p (.n rfl) (.p (.f rfl) ?_))))))))
    refine .p (.ixArr n underlying70 sizeOf69 rfl rfl rfl (by omega)) ?_
    refine .does rfl (Does.st sizeOf69 rfl rfl rfl (Nat.blt_eq.mpr (by show 9 + n * 1 < 31; omega))) ?_
    rintro _ _ ⟨rfl, rfl⟩
    rw [Nat.mul_one]
    have e9 := @spcC_set fv sv pv s.prg bt ps vm bg vt bd bw vr n (by omega) (hs.1.trans hl) (some b26)
    rw [show ptrO (some b26) = Value.pointer (some ⟨b26, 0, none⟩) from rfl] at e9
    rw [e9]
    refine .n (.t (.s (.r (.p (.m rfl) (.p (.a rfl) (.p (.a rfl) (.n (.t (.e ?_)))))))))
    refine .to (A := thrsH (ps.set n (some b26)) (s.thr.set n (some (thr0 f arg (slotH ((s.table.getD n (false, 0)).2 + 1) n))))) (Bs := [arr b26 0 (thrC (thr0 f arg (slotH ((s.table.getD n (false, 0)).2 + 1) n))), thrsH ps s.thr]) .auto (thrs_new hfn) ?_
    refine .ret2 rfl rfl rfl fun w s => ⟨ps.set n (some b26), ?_, ⟨b26, by unfold psBegin; rw [hn]⟩, finE .auto s⟩
    rfl

theorem core_Ready {W : World} {b : Nat} {ps : List (Option Nat)} {s : Spc} (hl : s.thr.length = 16) : Fn Tryz.prog W 32 [ptr b] [spcX b ps s] Value (fun u => u) (fun _ => True) (fun u => [sl intE 1 u s.ready, spcX b ps s]) := by
  refine Fn.intro (N := 31) func32 rfl ntmps32 rfl fun F => ?_
  show GoC _ _ _ _ _ _ [spcX b ps s, F]
  refine .o10 (C := spcX b ps s) .auto rfl ?_
  rintro fv sv pv bt vm bg vt bd bw vr -
  refine .know (fun w s => s.fact .auto thrs_same) fun hs => ?_
  refine .s (.r (.p (.a rfl) (.n (.t (.s (.s (.r (.p (.m rfl) (.p (.eqp rfl rfl) (.n (.t (.condF rfl ?_))))))))))))
  refine .v (.t (.s (.r (.p (.a rfl) (.n (.t (.s (.s (.r (.p (.m rfl) (.p (.n rfl) (.p (.f rfl) ?_))))))))))))
  refine .p (.la rfl (Cells.part0 (ds := ptrs ps) Cells.a rfl)) ?_
  refine .p (.m rfl) (.n (.t (.b ?_)))
  refine .loopK (X := Nat × Value × List Int) [3, 4, 5, 12, 13, 14, 15, 16, 17, 18, 19, 20, 21, 22, 23, 24, 25, 26, 27, 28, 29] (fun z => 16 - z.1) (fun z => z.1 ≤ 16 ∧ z.2.2.length ≤ z.1 ∧ s.ready = z.2.2 ++ readyFrom (s.thr.drop z.1) z.1) (fun z => [(12, some (.int .i64 (z.1 : Int))), (3, some z.2.1)]) (fun z => [sl intE 1 z.2.1 z.2.2, arr b 0 (spcC fv sv pv s.prg bt ps vm bg vt bd bw vr), codeH fv s.prg.funcs, tblH bt s.table, thrsH ps s.thr, sl wrdE 1 vm s.mem, gatesH bg s.gates, tubsH vt s.tubes, dskH bd s.disk, whlH bw s.wheel, sl recE 6 vr s.recs, F]) (0, .slice none 0 0, []) ?_ ?_ ?_ ?_
  · exact ⟨Nat.zero_le _, Nat.le_refl _, rfl⟩
  · exact ⟨rfl, rfl, trivial⟩
  · exact fun w s => Ent.kept .auto w s
  rintro ⟨k, u, xs⟩ ⟨hk, hxl, hn⟩
  simp only at hk hxl hn
  refine .s (.r (.p (.lss rfl rfl) (.n (.t (.s (.condD rfl (fun h13 => ?_) (fun h13 => ?_)))))))
  · refine .v (.t (.s (.b (.s (.r (.p (.m rfl) ?_))))))
    have hk16 : k < 16 := by omega
    refine .p (.index k underlying70 isAgg69 sizeOf69 rfl rfl rfl hk16 (by rw [List.getElem?_toArray]; exact ptrs_get ps hk16)) ?_
    refine .p (.a rfl) (.p (.a rfl) (.n (.t (.s (.r (.p (.m rfl) (.p (.neqp rfl rfl) (.p (.m rfl) ?_))))))))
    apply GoL.segA 6 24 18 [18, 19, 20, 21, 22, 23, 24] rfl
    · intro h18
      refine .g (.m rfl) ?_
      have h18' : ((ps.getD k none).map fun b => (⟨b, 0, none⟩ : Addr)).isNone = false := by simpa using h18
      obtain ⟨p, t, hp, ht⟩ := same_some hs (by omega) h18'
      rw [getD_of hp]
      refine .g (.n rfl) (.g (.f rfl) ?_)
      refine .g (.valW (Y.load isAgg3 rfl (Cell.sub0 (by repeat (first | exact At.here | refine At.there ?_)) (thrs_cell hp ht) rfl)) (why_at ht)) ?_
      refine .g (.eql rfl rfl) (.p (.t rfl rfl) (.n ?_))
      refine .seg .auto rfl (by first | exact fun _ h => h | exact Ent.kept .auto)
    · intro h18
      refine .u (.u (.u (.u (.u (.p (.u rfl rfl) (.n ?_))))))
      refine .seg .auto rfl (by first | exact fun _ h => h | exact Ent.kept .auto)
    refine .n (.t (.cond rfl (fun h24 => ?_) (fun h24 => ?_)))
    · simp only [Bool.and_eq_true, decide_eq_true_eq, Bool.not_eq_true'] at h24
      refine .r (.p (.m rfl) (.p (.m rfl) ?_))
      refine .does rfl (Does.bsl 3 rfl rfl (by kernel_rfl)) ?_
      rintro _ _ ⟨b27, rfl, rfl⟩
      refine .does rfl (Does.app1 (enc := intE) (k := 1) (k : Int) rfl underlying23 underlying23 typeInfo3 rfl rfl rfl (by decide) rfl rfl rfl .auto rfl .auto (by first | omega | (dsimp only; omega)) rfl) ?_
      rintro _ _ ⟨v28, rfl, rfl⟩
      refine .p (.a rfl) (.n (.b (.t (.r ?_))))
      refine .p (.inc rfl rfl (by omega)) ?_
      refine .p (.m rfl) (.n ?_)
      refine .againK (k + 1, v28, xs ++ [(k : Int)]) .auto rfl ?_ ?_ ?_ ?_
      · show 16 - (k + 1) < 16 - k; omega
      · exact ⟨by show k + 1 ≤ 16; omega, by simp; omega, by rw [hn, rdy_yes hs (by omega) h24]; simp⟩
      · exact ⟨rfl, rfl, trivial⟩
      · exact fun w s => Ent.kept .auto w s
    · simp only [Bool.and_eq_false_iff, decide_eq_false_iff_not, Bool.not_eq_false'] at h24
      refine .v (.b (.t (.r ?_)))
      refine .p (.inc rfl rfl (by omega)) ?_
      refine .p (.m rfl) (.n ?_)
      refine .againK (k + 1, u, xs) .auto rfl ?_ ?_ ?_ ?_
      · show 16 - (k + 1) < 16 - k; omega
      · exact ⟨by show k + 1 ≤ 16; omega, by show xs.length ≤ k + 1; omega, by rw [hn, rdy_no hs (by omega) h24]⟩
      · exact ⟨rfl, rfl, trivial⟩
      · exact fun w s => Ent.kept .auto w s
  · refine .x (.tx (.tx (.bh (.t (.s (.r (.p (.m rfl) (.p (.a rfl) (.n (.t (.e ?_)))))))))))
    obtain rfl : k = 16 := by omega
    rw [ready_end (by omega), List.append_nil] at hn
    subst hn
    refine .ret1 rfl rfl fun w s => ⟨_, ?_, trivial, finE .auto s⟩
    rfl

theorem gate_New {W : World} {A : HProp} {m c : Int} {v : Value} {sems : List Int} (hr : Rd W [A] intE 1 v sems) : Fn Tryz.prog W 22 [.int .i64 m, .int .i64 c, v] [A] Nat (fun b => ptr b) (fun _ => True) (fun b => [gatesH b (Gates.new m c sems), A]) := by
  refine Fn.intro (N := 42) func22 rfl ntmps22 rfl fun F => ?_
  haveI hRI : ∀ (H : List HProp) [HasH H A], ReadsC W H v intE 1 sems := fun H h => ⟨hr.at h.has⟩
  show GoC _ _ _ _ _ _ [A, F]
  refine .s (.r (.p (.a rfl) (.n (.t (.s ?_)))))
  refine .drawF [] [0, 2, 4, 0, 2, 4, 0, 4, 0] [0, 1, 3, 4, 2, 5, 6, 7, 8] rfl (by kernel_rfl) ?_
  refine GoF.q rfl rfl rfl Kept.auto (Y.m rfl) ?_
  refine GoF.callE rfl (.inl rfl) rfl (fun _ => Kept.auto) call50 rfl gate_clamp .auto (fun _ _ => Kept.auto) ?_
  rintro ⟨⟩ -
  refine GoF.q rfl rfl rfl Kept.auto (Y.m rfl) ?_
  refine GoF.callE rfl (.inl rfl) rfl (fun _ => Kept.auto) call50 rfl gate_clamp .auto (fun _ _ => Kept.auto) ?_
  rintro ⟨⟩ -
  refine GoF.fresh rfl rfl rfl (by decide) Kept.auto (fresh_make (enc := mtxE) (k := 3) ((Value.slice none 0 0 : Value), (⟨[], false, 0⟩ : Mtx)) (clamp m 4).toNat underlying104 typeInfo216 rfl rfl rfl rfl (by decide) (by decide) rfl rfl (by unfold clamp; omega) (by unfold clamp; omega) (by unfold clamp; omega)) ?_
  rintro b12
  refine GoF.fresh rfl rfl rfl (by decide) Kept.auto (fresh_make (enc := fstE) (k := 1) ((Value.slice none 0 0 : Value), ([] : List Wtr)) (clamp c 4).toNat underlying106 typeInfo112 rfl rfl rfl rfl (by decide) (by decide) rfl rfl (by unfold clamp; omega) (by unfold clamp; omega) (by unfold clamp; omega)) ?_
  rintro b15
  refine GoF.q rfl rfl rfl Kept.auto (Y.bld2 (fun v1 v2 => [v1, v2, (.slice none 0 0)]) rfl rfl (by kernel_rfl)) ?_
  refine GoF.fresh rfl rfl rfl (by decide) Kept.auto (fresh_box rfl rfl) ?_
  rintro b17
  refine GoF.q rfl rfl rfl Kept.auto (Y.a rfl) ?_
  refine GoF.nil ?_
  refine .t (.s (.s (.r ?_)))
  refine .to (A := sl mtxE 3 (.slice (some ⟨b12, 0, none⟩) (clamp m 4).toNat (clamp m 4).toNat) (List.replicate (clamp m 4).toNat ((Value.slice none 0 0 : Value), (⟨[], false, 0⟩ : Mtx)))) .auto (arr_slR rfl) ?_
  refine .to (A := sl fstE 1 (.slice (some ⟨b15, 0, none⟩) (clamp c 4).toNat (clamp c 4).toNat) (List.replicate (clamp c 4).toNat ((Value.slice none 0 0 : Value), ([] : List Wtr)))) .auto (arr_slR rfl) ?_
  have hr4 := hr.cut (lo := 0) (hi := min sems.length 4) (Nat.zero_le _) (by omega)
  rw [List.drop_zero, show sems.take (min sems.length 4) = sems.take 4 from by rw [List.take_eq_take_iff]; omega] at hr4
  haveI hI4 : ∀ (H : List HProp) [HasH H A], ReadsC W H (cut 1 0 (min sems.length 4) v) intE 1 (sems.take 4) := fun H h => ⟨hr4.at h.has⟩
  refine .p (.m rfl) (.p (.m rfl) (.p (.len rfl) ?_))
  refine .p (.min2m rfl rfl) ?_
  refine .p (.sliceTo (min sems.length 4) underlying23 sizeOf3 rfl rfl Rd.s (by omega) (by omega)) ?_
  refine .p (.len rfl) (.p (.m rfl) (.n (.t (.b ?_))))
  refine .loopK (X := Nat × Value) [9, 24, 25, 26, 27, 28, 29, 30, 31, 32, 33, 34, 35, 36, 37, 38, 39, 40] (fun z => (sems.take 4).length - z.1) (fun z => z.1 ≤ (sems.take 4).length) (fun z => [(24, some (.int .i64 (z.1 : Int)))]) (fun z => [arr b17 0 [.slice (some ⟨b12, 0, none⟩) (clamp m 4).toNat (clamp m 4).toNat, .slice (some ⟨b15, 0, none⟩) (clamp c 4).toNat (clamp c 4).toNat, z.2], sl smpE 2 z.2 (((sems.take 4).take z.1).map (fun n => ((Value.slice none 0 0 : Value), (⟨[], clamp n 1048576⟩ : Smp)))), sl mtxE 3 (.slice (some ⟨b12, 0, none⟩) (clamp m 4).toNat (clamp m 4).toNat) (List.replicate (clamp m 4).toNat ((Value.slice none 0 0 : Value), (⟨[], false, 0⟩ : Mtx))), sl fstE 1 (.slice (some ⟨b15, 0, none⟩) (clamp c 4).toNat (clamp c 4).toNat) (List.replicate (clamp c 4).toNat ((Value.slice none 0 0 : Value), ([] : List Wtr))), A, F]) (0, .slice none 0 0) ?_ ?_ ?_ ?_
  · exact Nat.zero_le _
  · exact ⟨rfl, trivial⟩
  · exact fun w s => Ent.kept .auto w s
  rintro ⟨k, u⟩ hk
  simp only at hk
  have h4 : (sems.take 4).length ≤ 4 := by simp; omega
  have h44 : ((sems.take 4).take k).length ≤ 4 := by simp; omega
  refine .s (.r (.p (.lss rfl rfl) (.n (.t (.s (.condD rfl (fun h25 => ?_) (fun h25 => ?_)))))))
  · refine .v (.t (.s (.b (.s (.r ?_)))))
    obtain ⟨x, hx⟩ := at_some (show k < (sems.take 4).length by omega)
    refine .p (.ix _ rfl rfl rfl (by first | omega | decide)) ?_
    refine .p (.lr rfl ‹_›) ?_
    refine .p (.a rfl) (.n (.t ?_))
    refine .draw [arr b17 0 [.slice (some ⟨b12, 0, none⟩) (clamp m 4).toNat (clamp m 4).toNat, .slice (some ⟨b15, 0, none⟩) (clamp c 4).toNat (clamp c 4).toNat, u]] [0, 0, 0, 0, 0, 1, 2, 1, 2, 2, 1, 1, 3] rfl (by kernel_rfl) ?_
    refine .q (.m rfl) (.q (.m rfl) (.q (.n rfl) (.q (.f rfl) (.q (.l rfl) (.p (.m rfl) ?_)))))
    refine .d2 rfl Kept.auto (Does.callE rfl call50 rfl gate_clamp .auto) (by rintro _ _ ⟨⟨⟩, -, rfl, rfl⟩; exact Kept.auto) ?_
    rintro _ _ ⟨⟨⟩, -, rfl, rfl⟩
    refine .p (.bld1 (fun v1 => [(.slice none 0 0), v1]) rfl (by kernel_rfl)) ?_
    refine .d2 rfl Kept.auto (Does.bsl 114 rfl rfl (by kernel_rfl)) (by rintro _ _ ⟨b36, rfl, rfl⟩; exact Kept.auto) ?_
    rintro _ _ ⟨b36, rfl, rfl⟩
    refine .d2 rfl Kept.auto (Does.app1 (enc := smpE) (k := 2) ((Value.slice none 0 0 : Value), (⟨[], clamp x 1048576⟩ : Smp)) rfl underlying107 underlying107 typeInfo114 rfl rfl rfl (by decide) rfl rfl rfl .auto rfl .auto (by rw [List.length_map]; dsimp only; omega) rfl) (by rintro _ _ ⟨v37, rfl, rfl⟩; exact Kept.auto) ?_
    rintro _ _ ⟨v37, rfl, rfl⟩
    refine .p (.n rfl) (.p (.f rfl) ?_)
    refine .d3 rfl (Does.stS sizeOf107 rfl rfl rfl) ?_
    rintro _ _ ⟨rfl, rfl⟩
    refine .n (.b (.t (.r ?_)))
    refine .p (.inc rfl rfl (by omega)) ?_
    refine .p (.m rfl) (.n ?_)
    refine .againK (k + 1, v37) .auto rfl ?_ ?_ ?_ ?_
    · show (sems.take 4).length - (k + 1) < (sems.take 4).length - k; omega
    · show k + 1 ≤ _; omega
    · exact ⟨rfl, trivial⟩
    · show ∀ w, Sat _ w _ → Sat _ w (seps [_, sl smpE 2 v37 (((sems.take 4).take (k + 1)).map (fun n => ((Value.slice none 0 0 : Value), (⟨[], clamp n 1048576⟩ : Smp)))), _, _, A, F])
      rw [gates_sems hx]
      exact fun w s => Ent.kept .auto w s
  · refine .x (.tx (.tx (.bh (.t (.s (.r (.p (.m rfl) (.p (.a rfl) (.n (.t (.e ?_)))))))))))
    obtain rfl : k = (sems.take 4).length := by omega
    rw [List.take_length]
    refine .ret1 rfl rfl fun w s => ⟨b17, ?_, trivial, finE (by repeat (first | exact Ent.nil | (apply Ent.cons; · repeat (first | exact Take.here | apply Take.there)) | apply Ent.opt0 | apply Ent.opt1 | apply Ent.void | apply Ent.emp0 | apply Ent.two | (apply Ent.allV; · exact sl_void) | (apply Ent.allM; · exact fun _ => sl_void) | apply Ent.f1 rfl | apply Ent.f2 rfl | apply Ent.f3 rfl | apply Ent.f4 rfl | apply Ent.f10 rfl | apply Ent.grp | assumption | exact trivial | rfl | omega | (focus (simp [Gates.new]; done)) | (unfold Gates.new; simp only [List.map_map]; rfl))) s⟩
    rfl

theorem core_New {W : World} {A : HProp} {v : PrgV} (hp : PrgRd W [A] v) (hl : v.fs.length ≤ 1000000000 ∧ v.sems.length ≤ 1000000000 ∧ v.pipes.length ≤ 1000000000) : Fn Tryz.prog W 5 [.agg (prgE v).toArray] [A] (Option Nat) (fun o => .tuple #[ptrO o, .int .i64 (checkI v.p)]) (fun o => o.isSome = decide (checkI v.p = 0)) (fun o => [optH (fun b => spcH b (Spc.new v.p)) o, A]) := by
  refine Fn.intro (N := 83) func5 rfl ntmps5 rfl fun F => ?_
  haveI hI1 : ∀ (H : List HProp) [HasH H A], ReadsC W H v.fv fstE 1 v.fs := fun H h => ⟨hp.fs.at h.has⟩
  haveI hI2 : ∀ (H : List HProp) [HasH H A], ReadsC W H v.sv intE 1 v.sems := fun H h => ⟨hp.sems.at h.has⟩
  haveI hI3 : ∀ (H : List HProp) [HasH H A], ReadsC W H v.pv intE 1 v.pipes := fun H h => ⟨hp.pipes.at h.has⟩
  show GoC _ _ _ _ _ _ [A, F]
  refine .know (fun w s => prg_one hp .here w s) fun hone => ?_
  refine .s (.r ?_)
  refine .does rfl (Does.box rfl rfl rfl) ?_
  rintro _ _ ⟨b1, rfl, rfl⟩
  refine .p (.a rfl) (.p (.a rfl) (.n (.t (.s (.s (.r (.p (.lA rfl) ?_)))))))
  refine .does rfl (Does.callE rfl call20 rfl (inst_Check hp hl) .auto) ?_
  rintro _ _ ⟨⟨⟩, -, rfl, rfl⟩
  refine .p (.a rfl) (.n (.t (.s (.r (.p (.m rfl) (.p (.neq rfl rfl) (.n (.t (.condD rfl (fun h13 => ?_) (fun h13 => ?_))))))))))
  · refine .s (.r (.p (.m rfl) (.p (.a rfl) (.p (.a rfl) (.n (.t (.e (.tr (.ret2 rfl rfl rfl fun w s => ⟨none, ?_, (decide_eq_false h13).symm, finE .auto s⟩)))))))))
    rfl
  · refine .v (.t (.s ?_))
    refine .drawF [arr b1 0 (prgE v)] [0, 2, 0, 0, 4, 0, 0, 0, 0, 0, 0, 2, 0, 0, 2, 2, 0, 4, 0] [0, 1, 2, 3, 5, 6, 7, 8, 9, 10, 11, 12, 13, 14, 15, 4, 16, 17, 18] rfl (by kernel_rfl) ?_
    have hcs := caps_and (check_caps (Decidable.of_not_not h13))
    have hw : 0 ≤ v.words ∧ v.words ≤ 64 := hcs.2.2.1
    have hf8 : v.fs.length ≤ 8 := by simpa [PrgV.p] using hcs.2.1
    have hp4 : v.pipes.length ≤ 4 := hcs.2.2.2.2.2.2.2.2.1
    refine GoF.q rfl rfl rfl Kept.auto (Y.lda isAgg25 rfl Cells.a (by exact sizeOf25)) ?_
    refine GoF.callE rfl (.inl rfl) rfl (fun _ => Kept.auto) call21 rfl slot_New .auto (fun _ _ => Kept.auto) ?_
    rintro x16 -
    refine GoF.q rfl rfl rfl Kept.auto (Y.fieldAddr0 1 3 underlying25 rfl sizeOf3 rfl) ?_
    refine GoF.q rfl rfl rfl Kept.auto (Y.load isAgg3 rfl (Cell.a (by rfl))) ?_
    refine GoF.q rfl rfl rfl Kept.auto (Y.fieldAddr0 2 3 underlying25 rfl sizeOf3 rfl) ?_
    refine GoF.q rfl rfl rfl Kept.auto (Y.load isAgg3 rfl (Cell.a (by rfl))) ?_
    refine GoF.q rfl rfl rfl Kept.auto (Y.fieldAddr0 3 3 underlying25 rfl sizeOf3 rfl) ?_
    refine GoF.q rfl rfl rfl Kept.auto (Y.load isAgg3 rfl (Cell.a (by rfl))) ?_
    refine GoF.q rfl rfl rfl Kept.auto (Y.fieldAddr0 4 23 underlying25 rfl sizeOf23 rfl) ?_
    refine GoF.q rfl rfl rfl Kept.auto (Y.load isAgg23 rfl (Cell.a (by rfl))) ?_
    refine GoF.callE rfl (.inl rfl) rfl (fun _ => Kept.auto) call22 rfl (gate_New hp.sems) .auto (fun _ _ => Kept.auto) ?_
    rintro x26 -
    refine GoF.q rfl rfl rfl Kept.auto (Y.fieldAddr0 6 3 underlying25 rfl sizeOf3 rfl) ?_
    refine GoF.q rfl rfl rfl Kept.auto (Y.load isAgg3 rfl (Cell.a (by rfl))) ?_
    refine GoF.callE rfl (.inl rfl) rfl (fun _ => Kept.auto) call23 rfl disk_New .auto (fun _ _ => Kept.auto) ?_
    rintro x29 -
    refine GoF.callE rfl (.inl rfl) rfl (fun _ => Kept.auto) call24 rfl wheel_New .auto (fun _ _ => Kept.auto) ?_
    rintro x30 -
    refine GoF.fresh rfl rfl rfl (by decide) Kept.auto (fresh_make (enc := wrdE) (k := 1) 0 v.words.toNat underlying62 typeInfo78 rfl rfl rfl rfl (by decide) (by decide) rfl rfl (by omega) (by omega) (by omega)) ?_
    rintro b19
    refine GoF.q rfl rfl rfl Kept.auto (Y.bld6 (fun _ v2 v3 v4 v5 v6 => [v.fv, .int .i64 v.words, .int .i64 v.mutexes, .int .i64 v.conds, v.sv, v.pv, .int .i64 v.blocks, .int .i64 v.prio, v2, .pointer none, .pointer none, .pointer none, .pointer none, .pointer none, .pointer none, .pointer none, .pointer none, .pointer none, .pointer none, .pointer none, .pointer none, .pointer none, .pointer none, .pointer none, .pointer none, v3, v4, .slice none 0 0, v5, v6, .slice none 0 0]) rfl rfl rfl rfl rfl rfl (by kernel_rfl)) ?_
    refine GoF.fresh rfl rfl rfl (by decide) Kept.auto (fresh_box rfl rfl) ?_
    rintro b32
    refine GoF.q rfl rfl rfl Kept.auto (Y.a rfl) ?_
    refine GoF.nil ?_
    refine .t (.s (.r ?_))
    refine .to (A := sl wrdE 1 (.slice (some ⟨b19, 0, none⟩) v.words.toNat v.words.toNat) (List.replicate v.words.toNat 0)) .auto (arr_slR rfl) ?_
    refine .p (.m rfl) (.p (.z rfl) (.p (.l rfl) ?_))
    refine .does rfl (Does.callE rfl call25 rfl (CloneNN hp.fs hl.1 hone) .auto) ?_
    rintro _ _ ⟨u36, -, rfl, rfl⟩
    refine .p (.n rfl) (.p (.z rfl) (.p (.z rfl) ?_))
    refine .does rfl (Does.stS sizeOf22 rfl rfl rfl) ?_
    rintro _ _ ⟨rfl, rfl⟩
    refine .n (.t (.s (.s (.r (.p (.m rfl) (.p (.n rfl) (.p (.z rfl) (.p (.z rfl) (.p (.l rfl) (.p (.len rfl) (.p (.m rfl) (.n (.t (.b ?_))))))))))))))
    refine .loopK (X := Nat × List (Value × List Ins)) [6, 7, 46, 47, 48, 49, 50, 51, 52, 53, 54, 55, 56, 57, 58, 59, 60] (fun z => v.fs.length - z.1) (fun z => z.1 ≤ v.fs.length ∧ z.2.length = z.1 ∧ z.2.map (·.2) = (v.fs.take z.1).map (·.2)) (fun z => [(46, some (.int .i64 (z.1 : Int)))]) (fun z => [arr b32 0 [u36, .int .i64 v.words, .int .i64 v.mutexes, .int .i64 v.conds, v.sv, v.pv, .int .i64 v.blocks, .int .i64 v.prio, ptr x16, .pointer none, .pointer none, .pointer none, .pointer none, .pointer none, .pointer none, .pointer none, .pointer none, .pointer none, .pointer none, .pointer none, .pointer none, .pointer none, .pointer none, .pointer none, .pointer none, .slice (some ⟨b19, 0, none⟩) v.words.toNat v.words.toNat, ptr x26, .slice none 0 0, ptr x29, ptr x30, .slice none 0 0], sl fstE 1 u36 (z.2 ++ v.fs.drop z.1), allH (fun x => sl insE 5 x.1 x.2) z.2, sl wrdE 1 (.slice (some ⟨b19, 0, none⟩) v.words.toNat v.words.toNat) (List.replicate v.words.toNat 0), tblH x16 (List.replicate (clamp 16 1024).toNat (false, 0)), gatesH x26 (Gates.new v.mutexes v.conds v.sems), dskH x29 (Dsk.new v.blocks), whlH x30 Whl.new, arr b1 0 (prgE v), A, F]) (0, []) ?_ ?_ ?_ ?_
    · exact ⟨Nat.zero_le _, rfl, by simp⟩
    · exact ⟨rfl, trivial⟩
    · exact fun w s => Ent.kept .auto w s
    rintro ⟨k, cl⟩ ⟨hk, hcl, hcm⟩
    simp only at hk hcl hcm
    refine .s (.r (.p (.lss rfl rfl) (.n (.t (.s (.condD rfl (fun h47 => ?_) (fun h47 => ?_)))))))
    · refine .v (.t (.s (.b (.s (.r (.p (.m rfl) ?_))))))
      obtain ⟨x, hx⟩ := at_some (show k < v.fs.length by omega)
      have hx2 := fs_get hcl hx
      have hi := hp.ins x (List.mem_of_getElem? hx)
      have hx256 : x.2.length ≤ 256 := caps_fs (check_caps (Decidable.of_not_not h13)) (List.mem_of_getElem? hx)
      refine .p (.ix k rfl rfl rfl (by simp; omega)) ?_
      refine .p (.lr rfl ‹_›) ?_
      refine .p (.a rfl) (.p (.a rfl) (.n (.t ?_)))
      refine .draw [arr b32 0 [u36, .int .i64 v.words, .int .i64 v.mutexes, .int .i64 v.conds, v.sv, v.pv, .int .i64 v.blocks, .int .i64 v.prio, ptr x16, .pointer none, .pointer none, .pointer none, .pointer none, .pointer none, .pointer none, .pointer none, .pointer none, .pointer none, .pointer none, .pointer none, .pointer none, .pointer none, .pointer none, .pointer none, .pointer none, .slice (some ⟨b19, 0, none⟩) v.words.toNat v.words.toNat, ptr x26, .slice none 0 0, ptr x29, ptr x30, .slice none 0 0], sl fstE 1 u36 (cl ++ v.fs.drop k)] [0, 0, 0, 0, 0, 0, 1, 2, 1, 3] rfl (by kernel_rfl) ?_
      refine .q (.m rfl) (.q (.n rfl) (.q (.z rfl) (.q (.z rfl) (.q (.l rfl) (.q (.m rfl) (.p (.m rfl) ?_))))))
      refine .d2 rfl Kept.auto (Does.callE rfl call26 rfl (CloneN hi (by omega)) .auto) (by rintro _ _ ⟨u58, -, rfl, rfl⟩; exact Kept.auto) ?_
      rintro _ _ ⟨u58, -, rfl, rfl⟩
      refine .know (fun w s => Rd.isSl (Rd.sl .here) w s) fun hu58 => ?_
      refine .p (.ix k rfl rfl rfl (by simp; omega)) ?_
      refine .d3 rfl (Does.storeSl0 (x' := (u58, x.2)) rfl rfl sizeOf76 (isSl_one hu58) (fs_get hcl hx) (by decide) rfl (by repeat (first | exact Repl.here | apply Repl.there))) ?_
      rintro _ _ ⟨rfl, rfl⟩
      refine .n (.b (.t (.r ?_)))
      refine .p (.inc rfl rfl (by omega)) ?_
      refine .p (.m rfl) (.n ?_)
      refine .againK (k + 1, cl ++ [(u58, x.2)]) .auto rfl ?_ ?_ ?_ ?_
      · show v.fs.length - (k + 1) < v.fs.length - k; omega
      · exact ⟨by show k + 1 ≤ _; omega, by simp [hcl], by rw [take_snoc hx]; simp [hcm]⟩
      · exact ⟨rfl, trivial⟩
      · show ∀ w, Sat _ w _ → Sat _ w (seps [_, sl fstE 1 u36 ((cl ++ [(u58, x.2)]) ++ v.fs.drop (k + 1)), allH (fun x => sl insE 5 x.1 x.2) (cl ++ [(u58, x.2)]), _, _, _, _, _, _, A, F])
        rw [← fs_step hcl hx, allH_snoc]
        exact fun w s => Ent.kept .auto w s
    · refine .x (.tx (.tx (.bh (.t (.s (.s (.r (.p (.f rfl) (.p (.l rfl) (.p (.len rfl) (.p (.m rfl) (.n (.t (.b ?_))))))))))))))
      obtain rfl : k = v.fs.length := by omega
      rw [List.drop_length, List.append_nil]
      refine .loopK (X := Nat × Value × List (Nat × Tub)) [9, 64, 65, 66, 67, 68, 69, 70, 71, 72, 73, 74, 75, 76, 77, 78, 79] (fun z => v.pipes.length - z.1) (fun z => z.1 ≤ v.pipes.length ∧ z.2.2.length = z.1 ∧ z.2.2.map (·.2) = (v.pipes.take z.1).map Tub.new) (fun z => [(64, some (.int .i64 (z.1 : Int)))]) (fun z => [arr b32 0 [u36, .int .i64 v.words, .int .i64 v.mutexes, .int .i64 v.conds, v.sv, v.pv, .int .i64 v.blocks, .int .i64 v.prio, ptr x16, .pointer none, .pointer none, .pointer none, .pointer none, .pointer none, .pointer none, .pointer none, .pointer none, .pointer none, .pointer none, .pointer none, .pointer none, .pointer none, .pointer none, .pointer none, .pointer none, .slice (some ⟨b19, 0, none⟩) v.words.toNat v.words.toNat, ptr x26, z.2.1, ptr x29, ptr x30, .slice none 0 0], sl ptrE 1 z.2.1 z.2.2, allH (fun x => tubH x.1 x.2) z.2.2, sl fstE 1 u36 cl, allH (fun x => sl insE 5 x.1 x.2) cl, sl wrdE 1 (.slice (some ⟨b19, 0, none⟩) v.words.toNat v.words.toNat) (List.replicate v.words.toNat 0), tblH x16 (List.replicate (clamp 16 1024).toNat (false, 0)), gatesH x26 (Gates.new v.mutexes v.conds v.sems), dskH x29 (Dsk.new v.blocks), whlH x30 Whl.new, arr b1 0 (prgE v), A, F]) (0, .slice none 0 0, []) ?_ ?_ ?_ ?_
      · exact ⟨Nat.zero_le _, rfl, by simp⟩
      · exact ⟨rfl, trivial⟩
      · exact fun w s => Ent.kept .auto w s
      rintro ⟨k, vt, ts⟩ ⟨hk, htl, htm⟩
      simp only at hk htl htm
      refine .s (.r (.p (.lss rfl rfl) (.n (.t (.s (.condD rfl (fun h65 => ?_) (fun h65 => ?_)))))))
      · refine .v (.t (.s (.b (.s (.r ?_)))))
        obtain ⟨x, hx⟩ := at_some (show k < v.pipes.length by omega)
        refine .p (.ix _ rfl rfl rfl (by first | omega | decide)) ?_
        refine .p (.lr rfl ‹_›) ?_
        refine .p (.a rfl) (.n (.t ?_))
        refine .draw [arr b32 0 [u36, .int .i64 v.words, .int .i64 v.mutexes, .int .i64 v.conds, v.sv, v.pv, .int .i64 v.blocks, .int .i64 v.prio, ptr x16, .pointer none, .pointer none, .pointer none, .pointer none, .pointer none, .pointer none, .pointer none, .pointer none, .pointer none, .pointer none, .pointer none, .pointer none, .pointer none, .pointer none, .pointer none, .pointer none, .slice (some ⟨b19, 0, none⟩) v.words.toNat v.words.toNat, ptr x26, vt, ptr x29, ptr x30, .slice none 0 0]] [0, 0, 0, 0, 0, 1, 2, 2, 2, 1, 1, 3] rfl (by kernel_rfl) ?_
        refine .q (.m rfl) (.q (.m rfl) (.q (.n rfl) (.q (.f rfl) (.q (.l rfl) (.p (.m rfl) ?_)))))
        refine .d2 rfl Kept.auto (Does.callE rfl call27 rfl tube_New .auto) (by rintro _ _ ⟨x74, -, rfl, rfl⟩; exact Kept.auto) ?_
        rintro _ _ ⟨x74, -, rfl, rfl⟩
        refine .d2 rfl Kept.auto (Does.bsl 81 rfl rfl (by kernel_rfl)) (by rintro _ _ ⟨b75, rfl, rfl⟩; exact Kept.auto) ?_
        rintro _ _ ⟨b75, rfl, rfl⟩
        refine .d2 rfl Kept.auto (Does.app1 (enc := ptrE) (k := 1) ((x74, Tub.new x) : Nat × Tub) rfl underlying71 underlying71 typeInfo81 rfl rfl rfl (by decide) rfl rfl rfl .auto rfl .auto (by first | omega | (dsimp only; omega)) rfl) (by rintro _ _ ⟨v76, rfl, rfl⟩; exact Kept.auto) ?_
        rintro _ _ ⟨v76, rfl, rfl⟩
        refine .p (.n rfl) (.p (.f rfl) ?_)
        refine .d3 rfl (Does.stS sizeOf71 rfl rfl rfl) ?_
        rintro _ _ ⟨rfl, rfl⟩
        refine .n (.b (.t (.r ?_)))
        refine .p (.inc rfl rfl (by omega)) ?_
        refine .p (.m rfl) (.n ?_)
        refine .againK (k + 1, v76, ts ++ [(x74, Tub.new x)]) .auto rfl ?_ ?_ ?_ ?_
        · show v.pipes.length - (k + 1) < v.pipes.length - k; omega
        · exact ⟨by show k + 1 ≤ _; omega, by simp [htl], by rw [take_snoc hx]; simp [htm]⟩
        · exact ⟨rfl, trivial⟩
        · show ∀ w, Sat _ w _ → Sat _ w (seps [_, sl ptrE 1 v76 (ts ++ [(x74, Tub.new x)]), allH (fun x => tubH x.1 x.2) (ts ++ [(x74, Tub.new x)]), _, _, _, _, _, _, _, _, A, F])
          rw [allH_snoc]
          exact fun w s => Ent.kept .auto w s
      · refine .x (.tx (.tx (.bh (.t (.s (.r (.p (.m rfl) ?_)))))))
        obtain rfl : k = v.pipes.length := by omega
        have htm2 : ts.map (·.2) = (spc0 v.p).tubes := by rw [htm, List.take_length]; rfl
        have hcm2 : cl.map (·.2) = (spc0 v.p).prg.funcs := by rw [hcm, List.take_length]; rfl
        refine .does rfl (Does.callE rfl call28 rfl (core_begin (ps := List.replicate 16 none) (s := spc0 v.p) (spc0_take _) rfl (spc0_free _)) .auto) ?_
        rintro _ _ ⟨qs, -, rfl, rfl⟩
        refine .n (.t (.s (.r (.p (.m rfl) (.p (.a rfl) (.p (.a rfl) (.n (.t (.e (.ret2 rfl rfl rfl fun w s => ⟨some b32, ?_, (decide_eq_true (Decidable.of_not_not h13)).symm, finE .auto s⟩))))))))))
        rw [Decidable.of_not_not h13]; rfl

end Go.SLYtnceicnimongcaaGreat
namespace Go.SLYtnceicnimongcaaGreat
open Go Go.RowKit Go.Proofs Go.Proofs.Tryz

theorem vessel_Holds {W : World} {u : Value} {x : Vsl} : Fn Tryz.prog W 65 [.agg (vslE (u, x)).toArray] [] Unit (fun _ => .bool x.holds) (fun _ => True) (fun _ => []) := by
  refine Fn.intro (N := 16) func65 rfl ntmps65 rfl fun F => ?_
  show GoC _ _ _ _ _ _ [F]
  refine .s (.r ?_)
  refine .does rfl (Does.box rfl rfl rfl) ?_
  rintro _ _ ⟨b1, rfl, rfl⟩
  refine .p (.a rfl) (.n (.t (.s (.r (.p (.z rfl) (.p (.l rfl) (.p (.eql rfl rfl) (.p (.m rfl) ?_))))))))
  apply GoL.segOD 4 10 6 [6, 7, 8, 9, 10] rfl
  · intro h6
    refine .g (.z rfl) (.g (.l rfl) (.g (.eql rfl rfl) (.p (.u rfl rfl) (.n ?_))))
    refine .seg .auto rfl (by first | exact fun _ h => h | exact Ent.kept .auto)
  · intro h6
    refine .u (.u (.u (.p (.t rfl rfl) (.n ?_))))
    refine .seg .auto rfl (by first | exact fun _ h => h | exact Ent.kept .auto)
  refine .p (.m rfl) ?_
  apply GoL.segO 4 15 11 [11, 12, 13, 14, 15] rfl
  · intro h11
    refine .g (.z rfl) (.g (.l rfl) (.g (.eql rfl rfl) (.p (.u rfl rfl) (.n ?_))))
    refine .seg .auto rfl (by first | exact fun _ h => h | exact Ent.kept .auto)
  · intro h11
    refine .u (.u (.u (.p (.t rfl rfl) (.n ?_))))
    refine .seg .auto rfl (by first | exact fun _ h => h | exact Ent.kept .auto)
  refine .p (.a rfl) (.n (.t (.e (.ret1 rfl rfl fun w s => ⟨(), ?_, trivial, finE .auto s⟩))))
  rfl

theorem vessel_Runs {W : World} {u : Value} {x : Vsl} (_hu : isSl u = true) : Fn Tryz.prog W 64 [.agg (vslE (u, x)).toArray] [] Unit (fun _ => .tuple #[.int .i64 (runsT x), .bool x.runs]) (fun _ => True) (fun _ => []) := by
  refine Fn.intro (N := 24) func64 rfl ntmps64 rfl fun F => ?_
  show GoC _ _ _ _ _ _ [F]
  refine .s (.r ?_)
  refine .does rfl (Does.box rfl rfl rfl) ?_
  rintro _ _ ⟨b1, rfl, rfl⟩
  refine .p (.a rfl) (.p (.a rfl) (.n (.t (.s (.s (.r (.p (.z rfl) (.p (.l rfl) (.p (.neq rfl rfl) (.p (.m rfl) ?_))))))))))
  apply GoL.segAD 4 11 7 [7, 8, 9, 10, 11] rfl
  · intro h7
    refine .g (.z rfl) (.g (.l rfl) (.g (.neq rfl rfl) (.p (.t rfl rfl) (.n ?_))))
    refine .seg .auto rfl (by first | exact fun _ h => h | exact Ent.kept .auto)
  · intro h7
    refine .u (.u (.u (.p (.u rfl rfl) (.n ?_))))
    refine .seg .auto rfl (by first | exact fun _ h => h | exact Ent.kept .auto)
  refine .p (.m rfl) ?_
  apply GoL.segA 4 16 12 [12, 13, 14, 15, 16] rfl
  · intro h12
    refine .g (.z rfl) (.g (.l rfl) (.g (.neq rfl rfl) (.p (.t rfl rfl) (.n ?_))))
    refine .seg .auto rfl (by first | exact fun _ h => h | exact Ent.kept .auto)
  · intro h12
    refine .u (.u (.u (.p (.u rfl rfl) (.n ?_))))
    refine .seg .auto rfl (by first | exact fun _ h => h | exact Ent.kept .auto)
  refine .p (.m rfl) ?_
  apply GoL.segO 4 21 17 [17, 18, 19, 20, 21] rfl
  · intro h17
    refine .g (.f rfl) (.g (.l rfl) (.g (.lss rfl rfl) (.p (.u rfl rfl) (.n ?_))))
    refine .seg .auto rfl (by first | exact fun _ h => h | exact Ent.kept .auto)
  · intro h17
    refine .u (.u (.u (.p (.t rfl rfl) (.n ?_))))
    refine .seg .auto rfl (by first | exact fun _ h => h | exact Ent.kept .auto)
  refine .n (.t (.cond rfl (fun h21 => ?_) (fun h21 => ?_)))
  · simp only [Bool.and_eq_true, Bool.or_eq_true, decide_eq_true_eq] at h21
    refine .s (.r (.p (.a rfl) (.p (.a rfl) (.n (.t (.e (.tr (.ret2 rfl rfl rfl fun w s => ⟨(), ?_, trivial, finE .auto s⟩))))))))
    have e : x.runs = false := by unfold Vsl.runs; simp; omega
    rw [runsT, e]; rfl
  · simp only [Bool.and_eq_false_iff, Bool.or_eq_false_iff, decide_eq_false_iff_not] at h21
    refine .v (.t (.s (.r (.p (.f rfl) (.p (.l rfl) (.p (.a rfl) (.p (.a rfl) (.n (.t (.e (.ret2 rfl rfl rfl fun w s => ⟨(), ?_, trivial, finE .auto s⟩)))))))))))
    have e : x.runs = true := by unfold Vsl.runs; simp; omega
    rw [runsT, e]; rfl

theorem event_Runs {W : World} {e : Ev} : Fn Tryz.prog W 57 [.agg (evE e).toArray] [] Unit (fun _ => .tuple #[.int .i64 (evT e), .bool (evRuns e)]) (fun _ => True) (fun _ => []) := by
  refine Fn.intro (N := 24) func57 rfl ntmps57 rfl fun F => ?_
  show GoC _ _ _ _ _ _ [F]
  refine .s (.r ?_)
  refine .does rfl (Does.box rfl rfl rfl) ?_
  rintro _ _ ⟨b1, rfl, rfl⟩
  refine .p (.a rfl) (.p (.a rfl) (.n (.t (.s (.s (.r (.p (.f rfl) (.p (.l rfl) (.p (.lss rfl rfl) (.p (.m rfl) ?_))))))))))
  apply GoL.segOD 4 11 7 [7, 8, 9, 10, 11] rfl
  · intro h7
    refine .g (.f rfl) (.g (.l rfl) (.g (.gtr rfl rfl) (.p (.u rfl rfl) (.n ?_))))
    refine .seg .auto rfl (by first | exact fun _ h => h | exact Ent.kept .auto)
  · intro h7
    refine .u (.u (.u (.p (.t rfl rfl) (.n ?_))))
    refine .seg .auto rfl (by first | exact fun _ h => h | exact Ent.kept .auto)
  refine .p (.m rfl) ?_
  apply GoL.segO 9 21 12 [12, 13, 14, 15, 16, 17, 18, 19, 20, 21] rfl
  · intro h12
    refine .g (.z rfl) (.g (.l rfl) (.g (.neq rfl rfl) (.g (.m rfl) ?_)))
    apply GoL.segAD 4 20 16 [16, 17, 18, 19, 20] rfl
    · intro h16
      refine .g (.z rfl) (.g (.l rfl) (.g (.neq rfl rfl) (.g (.t rfl rfl) (.n ?_))))
      refine .seg .auto rfl (by first | exact fun _ h => h | exact Ent.kept .auto)
    · intro h16
      refine .u (.u (.u (.g (.u rfl rfl) (.n ?_))))
      refine .seg .auto rfl (by first | exact fun _ h => h | exact Ent.kept .auto)
    refine .p (.u rfl rfl) (.n ?_)
    refine .seg .auto rfl (by first | exact fun _ h => h | exact Ent.kept .auto)
  · intro h12
    refine .u (.u (.u (.u (.u (.u (.u (.u (.p (.t rfl rfl) (.n ?_)))))))))
    refine .seg .auto rfl (by first | exact fun _ h => h | exact Ent.kept .auto)
  refine .n (.t (.cond rfl (fun h21 => ?_) (fun h21 => ?_)))
  · simp only [Bool.and_eq_true, Bool.or_eq_true, decide_eq_true_eq] at h21
    refine .s (.r (.p (.a rfl) (.p (.a rfl) (.n (.t (.e (.tr (.ret2 rfl rfl rfl fun w s => ⟨(), ?_, trivial, finE .auto s⟩))))))))
    have h : evRuns e = false := by unfold evRuns; simp; omega
    rw [evT, h]; rfl
  · simp only [Bool.and_eq_false_iff, Bool.or_eq_false_iff, decide_eq_false_iff_not] at h21
    refine .v (.t (.s (.r (.p (.f rfl) (.p (.l rfl) (.p (.a rfl) (.p (.a rfl) (.n (.t (.e (.ret2 rfl rfl rfl fun w s => ⟨(), ?_, trivial, finE .auto s⟩)))))))))))
    have h : evRuns e = true := by unfold evRuns; simp; omega
    rw [evT, h]; rfl

theorem event_Keep {W : World} {A : HProp} {v : Value} {xs : List Ev} (hr : Rd W [A] evE 3 v xs) (hl : xs.length ≤ 1000000000) : Fn Tryz.prog W 66 [v] [A] Value (fun u => u) (fun _ => True) (fun u => [sl evE 3 u (evKeep xs), A]) := by
  refine Fn.intro (N := 31) func66 rfl ntmps66 rfl fun F => ?_
  haveI hRI : ∀ (H : List HProp) [HasH H A], ReadsC W H v evE 3 xs := fun H h => ⟨hr.at h.has⟩
  show GoC _ _ _ _ _ _ [A, F]
  refine .s (.r (.p (.a rfl) (.n (.t (.s (.r (.p (.a rfl) (.n (.t (.s (.s (.r (.p (.m rfl) (.p (.len rfl) (.p (.m rfl) (.n (.t (.b ?_))))))))))))))))))
  refine .loopK (X := Nat × Value) [3, 5, 6, 7, 10, 11, 12, 13, 14, 15, 16, 17, 18, 19, 20, 21, 22, 23, 24, 25, 26, 27, 28, 29] (fun z => xs.length - z.1) (fun z => z.1 ≤ xs.length) (fun z => [(10, some (.int .i64 (z.1 : Int))), (3, some z.2)]) (fun z => [sl evE 3 z.2 (evKeep (xs.take z.1)), A, F]) (0, .slice none 0 0) ?_ ?_ ?_ ?_
  · exact Nat.zero_le _
  · exact ⟨rfl, rfl, trivial⟩
  · exact fun w s => Ent.kept .auto w s
  rintro ⟨k, u⟩ hk
  simp only at hk
  have hkl := keep_len' xs k
  refine .s (.r (.p (.lss rfl rfl) (.n (.t (.s (.condD rfl (fun h11 => ?_) (fun h11 => ?_)))))))
  · refine .v (.t (.s (.b (.s (.r ?_)))))
    obtain ⟨e, hx⟩ := at_some (show k < xs.length by omega)
    refine .p (.ix _ rfl rfl rfl (by first | omega | decide)) ?_
    refine .p (.la rfl (Cells.rd Rd.s ‹_›)) ?_
    refine .does rfl (Does.alloc rfl zeroValue49 rfl) ?_
    rintro _ _ ⟨b5, rfl, rfl⟩
    refine .does rfl (Does.sta (by exact sizeOf49) rfl rfl rfl (by rfl)) ?_
    rintro _ _ ⟨rfl, rfl⟩
    refine .n (.t (.s (.r (.p (.lA rfl) ?_))))
    refine .does rfl (Does.callE rfl call57 rfl event_Runs .auto) ?_
    rintro _ _ ⟨⟨⟩, -, rfl, rfl⟩
    refine .p (.m rfl) (.p (.extract rfl rfl) (.p (.extract rfl rfl) (.p (.a rfl) (.p (.a rfl) (.n (.t (.s (.r (.p (.m rfl) (.p (.m rfl) ?_))))))))))
    apply GoL.segO 4 24 20 [20, 21, 22, 23, 24] rfl
    · intro h20
      refine .g (.f rfl) (.g (.l rfl) (.g (.gtr rfl rfl) (.p (.u rfl rfl) (.n ?_))))
      refine .seg .auto rfl (by first | exact fun _ h => h | exact Ent.kept .auto)
    · intro h20
      refine .u (.u (.u (.p (.t rfl rfl) (.n ?_))))
      refine .seg .auto rfl (by first | exact fun _ h => h | exact Ent.kept .auto)
    refine .n (.t (.cond rfl (fun h24 => ?_) (fun h24 => ?_)))
    · simp only [Bool.or_eq_true, decide_eq_true_eq] at h24
      refine .r (.p (.m rfl) (.p (.lA rfl) ?_))
      refine .does rfl (Does.bsl 49 rfl rfl (by kernel_rfl)) ?_
      rintro _ _ ⟨b27, rfl, rfl⟩
      refine .does rfl (Does.app1 (enc := evE) (k := 3) e rfl underlying43 underlying43 typeInfo49 rfl rfl rfl (by decide) rfl rfl rfl .auto rfl .auto (by first | omega | (dsimp only; omega)) rfl) ?_
      rintro _ _ ⟨v28, rfl, rfl⟩
      refine .p (.a rfl) (.n (.b (.t (.r ?_))))
      refine .p (.inc rfl rfl (by omega)) ?_
      refine .p (.m rfl) (.n ?_)
      refine .againK (k + 1, v28) .auto rfl ?_ ?_ ?_ ?_
      · show xs.length - (k + 1) < xs.length - k; omega
      · show k + 1 ≤ _; omega
      · exact ⟨rfl, rfl, trivial⟩
      · show ∀ w, Sat _ w _ → Sat _ w (seps [sl evE 3 v28 (evKeep (xs.take (k + 1))), A, F])
        rw [keep_yes hx h24]
        exact fun w s => Ent.kept .auto w s
    · simp only [Bool.or_eq_false_iff, decide_eq_false_iff_not] at h24
      refine .v (.b (.t (.r ?_)))
      refine .p (.inc rfl rfl (by omega)) ?_
      refine .p (.m rfl) (.n ?_)
      refine .againK (k + 1, u) .auto rfl ?_ ?_ ?_ ?_
      · show xs.length - (k + 1) < xs.length - k; omega
      · show k + 1 ≤ _; omega
      · exact ⟨rfl, rfl, trivial⟩
      · show ∀ w, Sat _ w _ → Sat _ w (seps [sl evE 3 u (evKeep (xs.take (k + 1))), A, F])
        rw [keep_no hx h24]
        exact fun w s => Ent.kept .auto w s
  · refine .x (.tx (.tx (.bh (.t (.s (.r (.p (.m rfl) (.p (.a rfl) (.n (.t (.e ?_)))))))))))
    obtain rfl : k = xs.length := by omega
    rw [List.take_length]
    refine .ret1 rfl rfl fun w s => ⟨_, ?_, trivial, finE .auto s⟩
    rfl

theorem vessel_Strip {W : World} {A : HProp} {u : Value} {x : Vsl} (hr : Rd W [A] evE 3 u x.evs) (hl : x.evs.length ≤ 900000000) : Fn Tryz.prog W 47 [.agg (vslE (u, x)).toArray] [A] Value (fun u => u) (fun _ => True) (fun w => [sl evE 3 w x.strip, A]) := by
  refine Fn.intro (N := 31) func47 rfl ntmps47 rfl fun F => ?_
  haveI hRI : ∀ (H : List HProp) [HasH H A], ReadsC W H u evE 3 x.evs := fun H h => ⟨hr.at h.has⟩
  show GoC _ _ _ _ _ _ [A, F]
  refine .know (fun w s => Rd.isSl (hr.at .here) w s) fun hu => ?_
  refine .s (.r ?_)
  refine .does rfl (Does.box rfl rfl rfl) ?_
  rintro _ _ ⟨b1, rfl, rfl⟩
  refine .p (.a rfl) (.n (.t (.s (.r (.p (.lA rfl) ?_)))))
  refine .does rfl (Does.callE rfl call64 rfl (vessel_Runs hu) .auto) ?_
  rintro _ _ ⟨⟨⟩, -, rfl, rfl⟩
  refine .p (.m rfl) (.p (.extract rfl rfl) (.p (.extract rfl rfl) (.p (.a rfl) (.p (.a rfl) (.n (.t (.s (.s (.r (.p (.m rfl) (.p (.not rfl) (.n (.t (.cond rfl (fun h12 => ?_) (fun h12 => ?_)))))))))))))))
  · refine .r (.p (.a rfl) (.n (.t (.s (.r (.p (.a rfl) (.n (.t (.s (.b (.s (.r (.p (.lA rfl) ?_)))))))))))))
    rw [Bool.not_eq_true'] at h12
    refine .does rfl (Does.callE rfl call65 rfl vessel_Holds .auto) ?_
    rintro _ _ ⟨⟨⟩, -, rfl, rfl⟩
    refine .p (.a rfl) (.n (.t (.cond rfl (fun h13 => ?_) (fun h13 => ?_))))
    · refine .r (.p (.m rfl) (.p (.z rfl) (.p (.l rfl) ?_)))
      refine .p (.bld3 (fun v1 v2 v3 => [v1, v2, v3]) rfl rfl rfl (by kernel_rfl)) ?_
      refine .does rfl (Does.bsl 49 rfl rfl (by kernel_rfl)) ?_
      rintro _ _ ⟨b20, rfl, rfl⟩
      refine .p (.a rfl) (.n (.b (.t (.s (.r (.p (.m rfl) (.p (.f rfl) (.p (.l rfl) ?_))))))))
      refine .does rfl (Does.callE rfl call66 rfl (event_Keep hr (by omega)) .auto) ?_
      rintro _ _ ⟨k29, -, rfl, rfl⟩
      refine .does rfl (Does.callE rfl call36 rfl (JoinE (A := seps [arr b20 0 [.int .i64 4, .int .i64 (-1), .int .i64 x.mode], sl evE 3 k29 (evKeep x.evs), A]) (xs := [⟨4, -1, x.mode⟩]) (ys := evKeep x.evs) (Rd.grp (Rd.lit .here rfl (fun _ _ => rfl) rfl)) (Rd.grp (Rd.sl .auto)) (by have := keep_len x.evs; simp; omega)) .auto) ?_
      rintro _ _ ⟨u30, -, rfl, rfl⟩
      refine .ungrp .auto ?_
      rw [show [⟨4, -1, x.mode⟩] ++ evKeep x.evs = x.strip from by unfold Vsl.strip; rw [if_pos h13, if_neg (by rw [h12]; simp)]]
      refine .p (.a rfl) (.n (.t (.e (.ret1 rfl rfl fun w s => ⟨_, ?_, trivial, finE .auto s⟩))))
      rfl
    · refine .s (.r (.p (.m rfl) (.p (.a rfl) (.n (.t (.cond rfl (fun h21 => ?_) (fun h21 => ?_)))))))
      · rw [h12] at h21; cases h21
      · refine .v (.b (.t (.s (.r (.p (.m rfl) (.p (.f rfl) (.p (.l rfl) ?_)))))))
        refine .does rfl (Does.callE rfl call66 rfl (event_Keep hr (by omega)) .auto) ?_
        rintro _ _ ⟨k29, -, rfl, rfl⟩
        refine .does rfl (Does.callE rfl call36 rfl (JoinE (A := seps [sl evE 3 k29 (evKeep x.evs), A]) (xs := ([] : List Ev)) (ys := evKeep x.evs) (Rd.grp Rd.nil) (Rd.grp (Rd.sl .auto)) (by have := keep_len x.evs; simp; omega)) .auto) ?_
        rintro _ _ ⟨u30, -, rfl, rfl⟩
        refine .ungrp .auto ?_
        rw [show ([] : List Ev) ++ evKeep x.evs = x.strip from by unfold Vsl.strip; rw [if_neg (by rw [h13]; simp), if_neg (by rw [h12]; simp)]]
        refine .p (.a rfl) (.n (.t (.e (.ret1 rfl rfl fun w s => ⟨_, ?_, trivial, finE .auto s⟩))))
        rfl
  · refine .v (.t (.s (.r (.p (.a rfl) (.n (.t (.s (.b (.s (.r (.p (.lA rfl) ?_)))))))))))
    rw [Bool.not_eq_false'] at h12
    refine .does rfl (Does.callE rfl call65 rfl vessel_Holds .auto) ?_
    rintro _ _ ⟨⟨⟩, -, rfl, rfl⟩
    refine .p (.a rfl) (.n (.t (.cond rfl (fun h13 => ?_) (fun h13 => ?_))))
    · refine .r (.p (.m rfl) (.p (.z rfl) (.p (.l rfl) ?_)))
      refine .p (.bld3 (fun v1 v2 v3 => [v1, v2, v3]) rfl rfl rfl (by kernel_rfl)) ?_
      refine .does rfl (Does.bsl 49 rfl rfl (by kernel_rfl)) ?_
      rintro _ _ ⟨b20, rfl, rfl⟩
      refine .p (.a rfl) (.n (.b (.t (.s (.r (.p (.m rfl) (.p (.f rfl) (.p (.l rfl) ?_))))))))
      rw [show runsT x = x.thread from by unfold runsT; rw [if_pos h12]]
      refine .does rfl (Does.callE rfl call66 rfl (event_Keep hr (by omega)) .auto) ?_
      rintro _ _ ⟨k29, -, rfl, rfl⟩
      refine .does rfl (Does.callE rfl call36 rfl (JoinE (A := seps [arr b20 0 [.int .i64 4, .int .i64 x.thread, .int .i64 x.mode], sl evE 3 k29 (evKeep x.evs), A]) (xs := [⟨4, x.thread, x.mode⟩]) (ys := evKeep x.evs) (Rd.grp (Rd.lit .here rfl (fun _ _ => rfl) rfl)) (Rd.grp (Rd.sl .auto)) (by have := keep_len x.evs; simp; omega)) .auto) ?_
      rintro _ _ ⟨u30, -, rfl, rfl⟩
      refine .ungrp .auto ?_
      rw [show [⟨4, x.thread, x.mode⟩] ++ evKeep x.evs = x.strip from by unfold Vsl.strip; rw [if_pos h13, if_pos h12]]
      refine .p (.a rfl) (.n (.t (.e (.ret1 rfl rfl fun w s => ⟨_, ?_, trivial, finE .auto s⟩))))
      rfl
    · refine .s (.r (.p (.m rfl) (.p (.a rfl) (.n (.t (.cond rfl (fun h21 => ?_) (fun h21 => ?_)))))))
      · refine .r (.p (.m rfl) ?_)
        refine .p (.bld2 (fun v1 v2 => [v1, v2, (.int .i64 0)]) rfl rfl (by kernel_rfl)) ?_
        refine .does rfl (Does.bsl 49 rfl rfl (by kernel_rfl)) ?_
        rintro _ _ ⟨b25, rfl, rfl⟩
        refine .p (.a rfl) (.n (.b (.t (.s (.r (.p (.m rfl) (.p (.f rfl) (.p (.l rfl) ?_))))))))
        rw [show runsT x = x.thread from by unfold runsT; rw [if_pos h12]]
        refine .does rfl (Does.callE rfl call66 rfl (event_Keep hr (by omega)) .auto) ?_
        rintro _ _ ⟨k29, -, rfl, rfl⟩
        refine .does rfl (Does.callE rfl call36 rfl (JoinE (A := seps [arr b25 0 [.int .i64 4, .int .i64 x.thread, .int .i64 0], sl evE 3 k29 (evKeep x.evs), A]) (xs := [⟨4, x.thread, 0⟩]) (ys := evKeep x.evs) (Rd.grp (Rd.lit .here rfl (fun _ _ => rfl) rfl)) (Rd.grp (Rd.sl .auto)) (by have := keep_len x.evs; simp; omega)) .auto) ?_
        rintro _ _ ⟨u30, -, rfl, rfl⟩
        refine .ungrp .auto ?_
        rw [show [⟨4, x.thread, 0⟩] ++ evKeep x.evs = x.strip from by unfold Vsl.strip; rw [if_neg (by rw [h13]; simp), if_pos h12]]
        refine .p (.a rfl) (.n (.t (.e (.ret1 rfl rfl fun w s => ⟨_, ?_, trivial, finE .auto s⟩))))
        rfl
      · rw [h12] at h21; cases h21

theorem vessel_New {W : World} {A : HProp} {v : Value} {xs : List Ev} (hr : Rd W [A] evE 3 v xs) (hl : xs.length ≤ 1000000000) : Fn Tryz.prog W 35 [v] [A] Value (fun u => .agg (vslE (u, Vsl.new xs)).toArray) (fun _ => True) (fun u => [sl evE 3 u xs, A]) := by
  refine Fn.intro (N := 6) func35 rfl ntmps35 rfl fun F => ?_
  show GoC _ _ _ _ _ _ [A, F]
  refine .s (.r ?_)
  refine .does rfl (Does.alloc rfl zeroValue45 rfl) ?_
  rintro _ _ ⟨b2, rfl, rfl⟩
  refine .n (.t (.s (.r (.p (.m rfl) ?_))))
  refine .does rfl (Does.callE rfl call46 rfl (CloneE hr hl) .auto) ?_
  rintro _ _ ⟨u4, -, rfl, rfl⟩
  refine .know (fun w s => Rd.shape (Rd.sl .auto) w s) fun e => ?_
  obtain ⟨a4, c4, rfl⟩ := e
  refine .p (.bld3 (fun v1 v2 v3 => [v1, v2, v3]) rfl rfl rfl (by kernel_rfl)) ?_
  refine .does rfl (Does.sta (by exact sizeOf45) rfl rfl rfl (by rfl)) ?_
  rintro _ _ ⟨rfl, rfl⟩
  refine .n (.t (.e ?_))
  refine .retC rfl rfl isAgg45 (by exact sizeOf45) Cells.a fun w s => ⟨_, ?_, trivial, finE .auto s⟩
  rfl

theorem vessel_Told {W : World} {A : HProp} {u : Value} {x : Vsl} {m : Value} {ys : List Ev} (hr : Rd W [A] evE 3 u x.evs) (hm : Rd W [A] evE 3 m ys) (hl : x.evs.length ≤ 400000000 ∧ ys.length ≤ 400000000) : Fn Tryz.prog W 37 [.agg (vslE (u, x)).toArray, m] [A] Value (fun w => .agg (vslE (w, x.told ys)).toArray) (fun _ => True) (fun w => [sl evE 3 w (x.strip ++ ys), A]) := by
  refine Fn.intro (N := 10) func37 rfl ntmps37 rfl fun F => ?_
  show GoC _ _ _ _ _ _ [A, F]
  have hsl := strip_len x
  refine .know (fun w s => Rd.isSl (hr.at .here) w s) fun hu => ?_
  refine .s (.r ?_)
  refine .does rfl (Does.box rfl rfl rfl) ?_
  rintro _ _ ⟨b2, rfl, rfl⟩
  refine .does rfl (Does.alloc rfl zeroValue45 rfl) ?_
  rintro _ _ ⟨b4, rfl, rfl⟩
  refine .n (.t (.s (.r (.p (.lA rfl) ?_))))
  refine .does rfl (Does.callE rfl call47 rfl (vessel_Strip hr (by omega)) .auto) ?_
  rintro _ _ ⟨u6, -, rfl, rfl⟩
  refine .p (.m rfl) ?_
  refine .does rfl (Does.callE rfl call36 rfl (JoinE (A := seps [sl evE 3 u6 x.strip, A]) (xs := x.strip) (ys := ys) (Rd.grp (Rd.sl .here)) (Rd.grp (hm.at (.there .here))) (by omega)) .auto) ?_
  rintro _ _ ⟨u8, -, rfl, rfl⟩
  refine .ungrp .auto ?_
  refine .does rfl (Does.callE rfl call35 rfl (vessel_New (A := sl evE 3 u8 (x.strip ++ ys)) (xs := x.strip ++ ys) (Rd.sl .here) (by simp; omega)) .auto) ?_
  rintro _ _ ⟨u9, -, rfl, rfl⟩
  refine .know (fun w s => Rd.shape (Rd.sl .auto) w s) fun e => ?_
  obtain ⟨a9, c9, rfl⟩ := e
  refine .does rfl (Does.sta (by exact sizeOf45) rfl rfl rfl (by rfl)) ?_
  rintro _ _ ⟨rfl, rfl⟩
  refine .n (.t (.e ?_))
  refine .retC rfl rfl isAgg45 (by exact sizeOf45) Cells.a fun w s => ⟨_, ?_, trivial, finE .auto s⟩
  rfl

theorem lib_in {W : World} {b bs br : Nat} {l : Lib} {p : Int} : Fn Tryz.prog W 33 [ptr b, .int .i64 p] [libX b bs br l] Unit (fun _ => .bool (libIn l p)) (fun _ => True) (fun _ => [libX b bs br l]) := by
  refine Fn.intro (N := 20) func33 rfl ntmps33 rfl fun F => ?_
  show GoC _ _ _ _ _ _ [libX b bs br l, F]
  refine .o2 (C := libX b bs br l) .auto rfl ?_
  rintro vv vw -
  refine .o1 (C := vslsH vv l.vs) .auto rfl ?_
  rintro xs hxs
  have hxl := map_len hxs
  refine .s (.r (.p (.a rfl) (.n (.t (.s (.r (.p (.m rfl) (.p (.neqp rfl rfl) (.p (.m rfl) ?_)))))))))
  apply GoL.segA 3 10 7 [7, 8, 9, 10] rfl
  · intro h7
    refine .g (.m rfl) (.g (.geq rfl rfl) (.p (.t rfl rfl) (.n ?_)))
    refine .seg .auto rfl (by first | exact fun _ h => h | exact Ent.kept .auto)
  · intro h7
    refine .u (.u (.p (.u rfl rfl) (.n ?_)))
    refine .seg .auto rfl (by first | exact fun _ h => h | exact Ent.kept .auto)
  refine .p (.m rfl) ?_
  apply GoL.segAD 8 19 11 [11, 12, 13, 14, 15, 16, 17, 18, 19] rfl
  · intro h11
    refine .g (.m rfl) (.g (.m rfl) (.g (.n rfl) (.g (.f rfl) (.g (.l rfl) (.g (.len rfl) (.g (.lss rfl rfl) (.p (.t rfl rfl) (.n ?_))))))))
    refine .seg .auto rfl (by first | exact fun _ h => h | exact Ent.kept .auto)
  · intro h11
    refine .u (.u (.u (.u (.u (.u (.u (.p (.u rfl rfl) (.n ?_))))))))
    refine .seg .auto rfl (by first | exact fun _ h => h | exact Ent.kept .auto)
  refine .p (.a rfl) (.n (.t (.e (.ret1 rfl rfl fun w s => ⟨(), ?_, trivial, finE .auto s⟩))))
  unfold libIn; rw [← hxl]

theorem lib_hasW {W : World} {b bs br : Nat} {l : Lib} {p : Int} : Fn Tryz.prog W 34 [ptr b, .int .i64 p] [libX b bs br l] Unit (fun _ => .bool (l.has p)) (fun _ => True) (fun _ => [libX b bs br l]) := by
  refine Fn.intro (N := 19) func34 rfl ntmps34 rfl fun F => ?_
  show GoC _ _ _ _ _ _ [libX b bs br l, F]
  refine .s (.r (.p (.a rfl) (.n (.t (.s (.r (.p (.m rfl) (.p (.m rfl) ?_))))))))
  refine .does rfl (Does.callE rfl call33 rfl lib_in .auto) ?_
  rintro _ _ ⟨⟨⟩, -, rfl, rfl⟩
  refine .p (.m rfl) ?_
  apply GoL.segA 10 18 8 [8, 9, 10, 11, 12, 13, 14, 15, 16, 17, 18] rfl
  · intro h8
    refine .o2 (C := libX b bs br l) .auto rfl ?_
    rintro vv vw -
    refine .o1 (C := vslsH vv l.vs) .auto rfl ?_
    rintro xs hxs
    have hxl := map_len hxs
    unfold libIn at h8
    simp only [Bool.and_eq_true, decide_eq_true_eq] at h8
    obtain ⟨i, hi⟩ : ∃ i : Nat, p = (i : Int) := ⟨p.toNat, by omega⟩
    obtain ⟨x, hx⟩ := at_some (show i < xs.length by omega)
    have hx2 := map_get hxs hx
    refine .g (.m rfl) (.g (.n rfl) (.g (.f rfl) (.g (.l rfl) (.g (.m rfl) ?_))))
    refine .g (.ixRd i underlying87 sizeOf45 rfl (by rw [hi]; rfl) Rd.s rfl (by omega)) ?_
    refine .g (.z rfl) ?_
    refine .g (.valW (Y.load isAgg3 rfl (Cell.rd0 Rd.s hx rfl)) ((mode_at hx2).trans (congrArg _ hi.symm))) ?_
    refine .g (.neq rfl rfl) (.p (.t rfl rfl) (.n ?_))
    refine .seg .auto rfl (by first | exact fun _ h => h | exact Ent.kept .auto)
  · intro h8
    refine .u (.u (.u (.u (.u (.u (.u (.u (.u (.p (.u rfl rfl) (.n ?_))))))))))
    refine .seg .auto rfl (by first | exact fun _ h => h | exact Ent.kept .auto)
  refine .p (.a rfl) (.n (.t (.e (.ret1 rfl rfl fun w s => ⟨(), ?_, trivial, finE .auto s⟩))))
  rw [lib_has]

theorem lib_Procs {W : World} {b bs br : Nat} {l : Lib} (hl : l.vs.length ≤ 1000000000) : Fn Tryz.prog W 16 [ptr b] [libX b bs br l] Value (fun u => u) (fun _ => True) (fun u => [sl intE 1 u l.procs, libX b bs br l]) := by
  refine Fn.intro (N := 24) func16 rfl ntmps16 rfl fun F => ?_
  show GoC _ _ _ _ _ _ [libX b bs br l, F]
  refine .s (.r (.p (.a rfl) (.n (.t (.s (.s (.r (.p (.m rfl) (.p (.eqp rfl rfl) (.n (.t (.condF rfl ?_))))))))))))
  refine .v (.t (.s (.r (.p (.a rfl) (.n (.t (.s (.s (.r ?_)))))))))
  refine .o2 (C := libX b bs br l) .auto rfl ?_
  rintro vv vw -
  refine .o1 (C := vslsH vv l.vs) .auto rfl ?_
  rintro xs hxs
  have hxl := map_len hxs
  refine .p (.m rfl) (.p (.n rfl) (.p (.f rfl) (.p (.l rfl) (.p (.len rfl) (.p (.m rfl) (.n (.t (.b ?_))))))))
  refine .loopK (X := Nat × Value × List Int) [3, 4, 12, 13, 14, 15, 16, 17, 18, 19, 20, 21, 22] (fun z => l.vs.length - z.1) (fun z => z.1 ≤ l.vs.length ∧ z.2.2.length ≤ z.1 ∧ l.procs = z.2.2 ++ procsFrom (l.vs.drop z.1) z.1) (fun z => [(12, some (.int .i64 (z.1 : Int))), (3, some z.2.1)]) (fun z => [sl intE 1 z.2.1 z.2.2, libX b bs br l, F]) (0, .slice none 0 0, []) ?_ ?_ ?_ ?_
  · exact ⟨Nat.zero_le _, Nat.le_refl _, rfl⟩
  · exact ⟨rfl, rfl, trivial⟩
  · exact fun w s => Ent.kept .auto w s
  rintro ⟨k, u, ys⟩ ⟨hk, hyl, hn⟩
  simp only at hk hyl hn
  refine .s (.r (.p (.lss rfl rfl) (.n (.t (.s (.condD rfl (fun h13 => ?_) (fun h13 => ?_)))))))
  · refine .v (.t (.s (.b (.s (.r (.p (.m rfl) (.p (.a rfl) (.n (.t (.s (.r (.p (.m rfl) (.p (.m rfl) ?_)))))))))))))
    refine .does rfl (Does.callE rfl call34 rfl lib_hasW .auto) ?_
    rintro _ _ ⟨⟨⟩, -, rfl, rfl⟩
    refine .n (.t (.cond rfl (fun h17 => ?_) (fun h17 => ?_)))
    · refine .r (.p (.m rfl) (.p (.m rfl) ?_))
      refine .does rfl (Does.bsl 3 rfl rfl (by kernel_rfl)) ?_
      rintro _ _ ⟨b20, rfl, rfl⟩
      refine .does rfl (Does.app1 (enc := intE) (k := 1) (k : Int) rfl underlying23 underlying23 typeInfo3 rfl rfl rfl (by decide) rfl rfl rfl .auto rfl .auto (by first | omega | (dsimp only; omega)) rfl) ?_
      rintro _ _ ⟨v21, rfl, rfl⟩
      refine .p (.a rfl) (.n (.b (.t (.r ?_))))
      refine .p (.inc rfl rfl (by omega)) ?_
      refine .p (.m rfl) (.n ?_)
      refine .againK (k + 1, v21, ys ++ [(k : Int)]) .auto rfl ?_ ?_ ?_ ?_
      · show l.vs.length - (k + 1) < l.vs.length - k; omega
      · exact ⟨by show k + 1 ≤ _; omega, by simp; omega, by rw [hn, procs_yes (by omega) h17]; simp⟩
      · exact ⟨rfl, rfl, trivial⟩
      · exact fun w s => Ent.kept .auto w s
    · refine .v (.b (.t (.r ?_)))
      refine .p (.inc rfl rfl (by omega)) ?_
      refine .p (.m rfl) (.n ?_)
      refine .againK (k + 1, u, ys) .auto rfl ?_ ?_ ?_ ?_
      · show l.vs.length - (k + 1) < l.vs.length - k; omega
      · exact ⟨by show k + 1 ≤ _; omega, by show ys.length ≤ k + 1; omega, by rw [hn, procs_no (by omega) h17]⟩
      · exact ⟨rfl, rfl, trivial⟩
      · exact fun w s => Ent.kept .auto w s
  · refine .x (.tx (.tx (.bh (.t (.s (.r (.p (.m rfl) (.p (.a rfl) (.n (.t (.e ?_)))))))))))
    obtain rfl : k = l.vs.length := by omega
    rw [procs_end (Nat.le_refl _), List.append_nil] at hn
    subst hn
    refine .ret1 rfl rfl fun w s => ⟨_, ?_, trivial, finE .auto s⟩
    rfl

end Go.SLYtnceicnimongcaaGreat
