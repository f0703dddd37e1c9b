/- Walks of functions, and what they compute. Conditions: none, this text proves no statement. -/
import Derived.Test.YtpcjdohmjmeehaaGreatG05
import Derived.Test.YtpcjdohmjmeehaaGreatProg
import Derived.KernelRfl
import Derived.Test.YtpcjdohmjmeehaaGreatG03
namespace Go.SLYtpcjdohmjmeehaaGreat
open Go Go.RowKit Go.Proofs Go.Proofs.Tryz

set_option maxRecDepth 20000 in
theorem inst_within {W : World} {n m : Int} : Fn Tryz.prog W 111 [.int .i64 n, .int .i64 m] [] Unit (fun _ => .bool (within n m)) (fun _ => True) (fun _ => []) := by
  refine Fn.intro (N := 12) func111 rfl ntmps111 rfl fun F => ?_
  show GoC _ _ _ _ _ _ [F]
  refine .s (.r (.p (.a rfl) (.n (.t (.s (.r (.p (.m rfl) (.p (.geq rfl rfl) (.p (.m rfl) ?_)))))))))
  apply GoL.segAD 4 11 7 [7, 8, 9, 10, 11] rfl
  · intro h7
    refine .g (.m rfl) (.g (.m rfl) (.g (.leq rfl rfl) (.p (.t rfl rfl) (.n ?_))))
    refine .seg .auto rfl (by first | exact fun _ h => h | exact Ent.kept .auto)
  · intro h7
    refine .u (.u (.u (.p (.u rfl rfl) (.n ?_))))
    refine .seg .auto rfl (by first | exact fun _ h => h | exact Ent.kept .auto)
  refine .p (.a rfl) (.n (.t (.e (.ret1 rfl rfl fun w s => ⟨(), ?_, trivial, finE .auto s⟩))))
  rfl

set_option maxRecDepth 20000 in
theorem inst_reg {W : World} {n : Int} {b : Bool} : Fn Tryz.prog W 113 [.int .i64 n, .bool b] [] Unit (fun _ => .bool (regOk n b)) (fun _ => True) (fun _ => []) := by
  refine Fn.intro (N := 18) func113 rfl ntmps113 rfl fun F => ?_
  show GoC _ _ _ _ _ _ [F]
  refine .s (.r (.p (.a rfl) (.n (.t (.s (.r (.p (.m rfl) (.p (.eql rfl rfl) (.p (.m rfl) ?_)))))))))
  apply GoL.segOD 10 17 7 [7, 8, 9, 10, 11, 12, 13, 14, 15, 16, 17] rfl
  · intro h7
    refine .g (.m rfl) (.g (.m rfl) ?_)
    apply GoL.segA 3 12 9 [9, 10, 11, 12] rfl
    · intro h9
      refine .g (.m rfl) (.g (.gtr rfl rfl) (.g (.t rfl rfl) (.n ?_)))
      refine .seg .auto rfl (by first | exact fun _ h => h | exact Ent.kept .auto)
    · intro h9
      refine .u (.u (.g (.u rfl rfl) (.n ?_)))
      refine .seg .auto rfl (by first | exact fun _ h => h | exact Ent.kept .auto)
    refine .g (.m rfl) ?_
    apply GoL.segA 3 16 13 [13, 14, 15, 16] rfl
    · intro h13
      refine .g (.m rfl) (.g (.lss rfl rfl) (.g (.t rfl rfl) (.n ?_)))
      refine .seg .auto rfl (by first | exact fun _ h => h | exact Ent.kept .auto)
    · intro h13
      refine .u (.u (.g (.u rfl rfl) (.n ?_)))
      refine .seg .auto rfl (by first | exact fun _ h => h | exact Ent.kept .auto)
    refine .p (.u rfl rfl) (.n ?_)
    refine .seg .auto rfl (by first | exact fun _ h => h | exact Ent.kept .auto)
  · intro h7
    refine .u (.u (.u (.u (.u (.u (.u (.u (.u (.p (.t rfl rfl) (.n ?_))))))))))
    refine .seg .auto rfl (by first | exact fun _ h => h | exact Ent.kept .auto)
  refine .p (.a rfl) (.n (.t (.e (.ret1 rfl rfl fun w s => ⟨(), ?_, trivial, finE .auto s⟩))))
  rfl

set_option maxRecDepth 20000 in
theorem inst_Class {W : World} {op : Int} : Fn Tryz.prog W 63 [.int .i64 op] [] Unit (fun _ => .int .i64 (cls op)) (fun _ => True) (fun _ => []) := by
  refine Fn.intro (N := 24) func63 rfl ntmps63 rfl fun F => ?_
  show GoC _ _ _ _ _ _ [F]
  refine .s (.r (.p (.a rfl) (.n (.t (.s (.b (.s (.r (.p (.m rfl) (.p (.geq rfl rfl) (.p (.m rfl) ?_)))))))))))
  apply GoL.segAD 3 9 6 [6, 7, 8, 9] rfl
  · intro h6
    refine .g (.m rfl) (.g (.leq rfl rfl) (.p (.t rfl rfl) (.n ?_)))
    refine .seg .auto rfl (by first | exact fun _ h => h | exact Ent.kept .auto)
  · intro h6
    refine .u (.u (.p (.u rfl rfl) (.n ?_)))
    refine .seg .auto rfl (by first | exact fun _ h => h | exact Ent.kept .auto)
  refine .p (.a rfl) (.n (.t (.cond rfl (fun h3 => ?_) (fun h3 => ?_))))
  · simp only [Bool.and_eq_true, decide_eq_true_eq] at h3
    refine .s (.r (.p (.a rfl) (.n (.t (.e (.br (.tr (.ret1 rfl rfl fun w s => ⟨(), ?_, trivial, finE .auto s⟩))))))))
    refine retI ?_; unfold cls; repeat (first | rw [if_pos (by omega)] | rw [if_neg (by omega)])
  · simp only [Bool.and_eq_false_iff, decide_eq_false_iff_not] at h3
    refine .s (.r (.p (.m rfl) (.p (.geq rfl rfl) (.p (.m rfl) ?_))))
    apply GoL.segAD 3 16 13 [13, 14, 15, 16] rfl
    · intro h13
      refine .g (.m rfl) (.g (.leq rfl rfl) (.p (.t rfl rfl) (.n ?_)))
      refine .seg .auto rfl (by first | exact fun _ h => h | exact Ent.kept .auto)
    · intro h13
      refine .u (.u (.p (.u rfl rfl) (.n ?_)))
      refine .seg .auto rfl (by first | exact fun _ h => h | exact Ent.kept .auto)
    refine .p (.a rfl) (.n (.t (.cond rfl (fun h10 => ?_) (fun h10 => ?_))))
    · simp only [Bool.and_eq_true, decide_eq_true_eq] at h10
      refine .s (.r (.p (.a rfl) (.n (.t (.e (.br (.tr (.ret1 rfl rfl fun w s => ⟨(), ?_, trivial, finE .auto s⟩))))))))
      refine retI ?_; unfold cls; repeat (first | rw [if_pos (by omega)] | rw [if_neg (by omega)])
    · simp only [Bool.and_eq_false_iff, decide_eq_false_iff_not] at h10
      refine .s (.r (.p (.m rfl) (.p (.geq rfl rfl) (.p (.m rfl) ?_))))
      apply GoL.segAD 3 23 20 [20, 21, 22, 23] rfl
      · intro h20
        refine .g (.m rfl) (.g (.leq rfl rfl) (.p (.t rfl rfl) (.n ?_)))
        refine .seg .auto rfl (by first | exact fun _ h => h | exact Ent.kept .auto)
      · intro h20
        refine .u (.u (.p (.u rfl rfl) (.n ?_)))
        refine .seg .auto rfl (by first | exact fun _ h => h | exact Ent.kept .auto)
      refine .p (.a rfl) (.n (.t (.cond rfl (fun h17 => ?_) (fun h17 => ?_))))
      · simp only [Bool.and_eq_true, decide_eq_true_eq] at h17
        refine .s (.r (.p (.a rfl) (.n (.t (.e (.br (.tr (.ret1 rfl rfl fun w s => ⟨(), ?_, trivial, finE .auto s⟩))))))))
        refine retI ?_; unfold cls; repeat (first | rw [if_pos (by omega)] | rw [if_neg (by omega)])
      · simp only [Bool.and_eq_false_iff, decide_eq_false_iff_not] at h17
        refine .v (.b (.t (.s (.r (.p (.a rfl) (.n (.t (.e (.ret1 rfl rfl fun w s => ⟨(), ?_, trivial, finE .auto s⟩)))))))))
        refine retI ?_; unfold cls; repeat (first | rw [if_pos (by omega)] | rw [if_neg (by omega)])

set_option maxRecDepth 20000 in
theorem inst_below {W : World} {f : Form} {n : Int} (hf : f.n ≤ 9223372036854775807) : Fn Tryz.prog W 114 [.agg (formE f).toArray, .int .u64 n] [] Unit (fun _ => .bool (f.below n)) (fun _ => True) (fun _ => []) := by
  refine Fn.intro (N := 24) func114 rfl ntmps114 rfl fun F => ?_
  show GoC _ _ _ _ _ _ [F]
  refine .s (.r ?_)
  refine .does rfl (Does.box rfl rfl rfl) ?_
  rintro _ _ ⟨b2, rfl, rfl⟩
  refine .p (.a rfl) (.n (.t (.s (.b (.s (.r (.p (.f rfl) (.p (.l rfl) (.p (.a rfl) (.n (.t (.cond rfl (fun h5 => ?_) (fun h5 => ?_)))))))))))))
  · refine .s (.r (.p (.a rfl) (.n (.t (.e (.br (.tr (.ret1 rfl rfl fun w s => ⟨(), ?_, trivial, finE .auto s⟩))))))))
    rw [Form.below, if_pos h5]
  · refine .s (.r (.p (.f rfl) (.p (.l rfl) (.p (.eql rfl rfl) (.p (.a rfl) (.n (.t (.condD rfl (fun h8 => ?_) (fun h8 => ?_)))))))))
    · refine .s (.r (.p (.m rfl) (.p (.eql rfl rfl) (.p (.a rfl) (.n (.t (.e (.br (.tr (.ret1 rfl rfl fun w s => ⟨(), ?_, trivial, finE .auto s⟩))))))))))
      rw [Form.below, if_neg (by simp [h5]), if_pos h8]
    · refine .v (.b (.t (.s (.r (.p (.f rfl) (.p (.l rfl) (.p (.gtr rfl rfl) (.p (.m rfl) ?_))))))))
      apply GoL.segAD 6 23 17 [17, 18, 19, 20, 21, 22, 23] rfl
      · intro h17
        refine .g (.m rfl) (.g (.f rfl) (.g (.l rfl) ?_))
        refine .g (.convU underlying3 underlying43 rfl (by omega)) ?_
        refine .g (.lss rfl rfl) (.p (.t rfl rfl) (.n ?_))
        refine .seg .auto rfl (by first | exact fun _ h => h | exact Ent.kept .auto)
      · intro h17
        refine .u (.u (.u (.u (.u (.p (.u rfl rfl) (.n ?_))))))
        refine .seg .auto rfl (by first | exact fun _ h => h | exact Ent.kept .auto)
      refine .p (.a rfl) (.n (.t (.e (.ret1 rfl rfl fun w s => ⟨(), ?_, trivial, finE .auto s⟩))))
      rw [Form.below, if_neg (by simp [h5]), if_neg h8]

set_option maxRecDepth 20000 in
theorem inst_of {W : World} {A : HProp} {v : PrgV} (hp : PrgRd W [A] v) {op : Int} : Fn Tryz.prog W 112 [.agg (prgE v).toArray, .int .i64 op] [A] Unit (fun _ => .agg (formE (formOf v.p op)).toArray) (fun _ => True) (fun _ => [A]) := by
  refine Fn.intro (N := 73) func112 rfl ntmps112 rfl fun F => ?_
  haveI hI1 : ∀ (H : List HProp) [HasH H A], ReadsC W H v.fv fstE 1 v.fs := fun H h => ⟨hp.fs.at h.has⟩
  haveI hI2 : ∀ (H : List HProp) [HasH H A], ReadsC W H v.sv intE 1 v.sems := fun H h => ⟨hp.sems.at h.has⟩
  haveI hI3 : ∀ (H : List HProp) [HasH H A], ReadsC W H v.pv intE 1 v.pipes := fun H h => ⟨hp.pipes.at h.has⟩
  show GoC _ _ _ _ _ _ [A, F]
  refine .s (.r ?_)
  refine .does rfl (Does.box rfl rfl rfl) ?_
  rintro _ _ ⟨b2, rfl, rfl⟩
  refine .does rfl (Does.alloc rfl zeroValue203 rfl) ?_
  rintro _ _ ⟨b4, rfl, rfl⟩
  refine .n (.t (.s (.s (.r (.p (.m rfl) (.n (.t (.b (.s (.r (.p (.eql rfl rfl) (.p (.a rfl) (.n (.t (.condD rfl (fun h6 => ?_) (fun h6 => ?_))))))))))))))))
  · refine .s (.r ?_)
    refine .p (.bld2 (fun v1 v2 => [v1, (.bool false), (.int .i64 0), v2]) rfl rfl (by kernel_rfl)) ?_
    refine .does rfl (Does.sta (by exact sizeOf203) rfl rfl rfl (by rfl)) ?_
    rintro _ _ ⟨rfl, rfl⟩
    refine .n (.t (.e (.br (.tr ?_))))
    refine .retC rfl rfl isAgg203 (by exact sizeOf203) Cells.a fun w s => ⟨(), ?_, trivial, finE .auto s⟩
    simp [formOf, formE, *]
  · refine .s (.s (.r (.p (.eql rfl rfl) (.p (.a rfl) (.n (.t (.condD rfl (fun h9 => ?_) (fun h9 => ?_))))))))
    · refine .v (.t ?_)
      first | refine GoC.condD rfl (fun _ => ?_) (fun hc => absurd h9 hc) | refine GoC.cond rfl (fun _ => ?_) (fun hc => by rw [h9] at hc; cases hc)
      refine .s (.r ?_)
      refine .p (.bld2 (fun v1 v2 => [v1, (.bool false), v2, (.bool false)]) rfl rfl (by kernel_rfl)) ?_
      refine .does rfl (Does.sta (by exact sizeOf203) rfl rfl rfl (by rfl)) ?_
      rintro _ _ ⟨rfl, rfl⟩
      refine .n (.t (.e (.br (.tr ?_))))
      refine .retC rfl rfl isAgg203 (by exact sizeOf203) Cells.a fun w s => ⟨(), ?_, trivial, finE .auto s⟩
      simp [formOf, formE, *]
    · refine .s (.r (.p (.eql rfl rfl) (.p (.a rfl) (.n (.t (.condD rfl (fun h9 => ?_) (fun h9 => ?_)))))))
      · refine .v (.t ?_)
        first | refine GoC.condD rfl (fun _ => ?_) (fun hc => absurd h9 hc) | refine GoC.cond rfl (fun _ => ?_) (fun hc => by rw [h9] at hc; cases hc)
        refine .s (.r ?_)
        refine .p (.bld2 (fun v1 v2 => [v1, (.bool false), v2, (.bool false)]) rfl rfl (by kernel_rfl)) ?_
        refine .does rfl (Does.sta (by exact sizeOf203) rfl rfl rfl (by rfl)) ?_
        rintro _ _ ⟨rfl, rfl⟩
        refine .n (.t (.e (.br (.tr ?_))))
        refine .retC rfl rfl isAgg203 (by exact sizeOf203) Cells.a fun w s => ⟨(), ?_, trivial, finE .auto s⟩
        simp [formOf, formE, *]
      · refine .s (.r (.p (.eql rfl rfl) (.p (.a rfl) (.n (.t (.condD rfl (fun h9 => ?_) (fun h9 => ?_)))))))
        · refine .v (.t ?_)
          first | refine GoC.condD rfl (fun _ => ?_) (fun hc => absurd h9 hc) | refine GoC.cond rfl (fun _ => ?_) (fun hc => by rw [h9] at hc; cases hc)
          refine .s (.r ?_)
          refine .p (.bld2 (fun v1 v2 => [v1, (.bool false), v2, (.bool false)]) rfl rfl (by kernel_rfl)) ?_
          refine .does rfl (Does.sta (by exact sizeOf203) rfl rfl rfl (by rfl)) ?_
          rintro _ _ ⟨rfl, rfl⟩
          refine .n (.t (.e (.br (.tr ?_))))
          refine .retC rfl rfl isAgg203 (by exact sizeOf203) Cells.a fun w s => ⟨(), ?_, trivial, finE .auto s⟩
          simp [formOf, formE, *]
        · refine .s (.r (.p (.eql rfl rfl) (.p (.a rfl) (.n (.t (.condD rfl (fun h9 => ?_) (fun h9 => ?_)))))))
          · refine .v (.t ?_)
            first | refine GoC.condD rfl (fun _ => ?_) (fun hc => absurd h9 hc) | refine GoC.cond rfl (fun _ => ?_) (fun hc => by rw [h9] at hc; cases hc)
            refine .s (.r ?_)
            refine .p (.bld2 (fun v1 v2 => [v1, (.bool false), v2, (.bool false)]) rfl rfl (by kernel_rfl)) ?_
            refine .does rfl (Does.sta (by exact sizeOf203) rfl rfl rfl (by rfl)) ?_
            rintro _ _ ⟨rfl, rfl⟩
            refine .n (.t (.e (.br (.tr ?_))))
            refine .retC rfl rfl isAgg203 (by exact sizeOf203) Cells.a fun w s => ⟨(), ?_, trivial, finE .auto s⟩
            simp [formOf, formE, *]
          · refine .s (.r (.p (.eql rfl rfl) (.p (.a rfl) (.n (.t (.condD rfl (fun h9 => ?_) (fun h9 => ?_)))))))
            · refine .v (.t ?_)
              first | refine GoC.condD rfl (fun _ => ?_) (fun hc => absurd h9 hc) | refine GoC.cond rfl (fun _ => ?_) (fun hc => by rw [h9] at hc; cases hc)
              refine .s (.r ?_)
              refine .p (.bld2 (fun v1 v2 => [v1, (.bool false), v2, (.bool false)]) rfl rfl (by kernel_rfl)) ?_
              refine .does rfl (Does.sta (by exact sizeOf203) rfl rfl rfl (by rfl)) ?_
              rintro _ _ ⟨rfl, rfl⟩
              refine .n (.t (.e (.br (.tr ?_))))
              refine .retC rfl rfl isAgg203 (by exact sizeOf203) Cells.a fun w s => ⟨(), ?_, trivial, finE .auto s⟩
              simp [formOf, formE, *]
            · refine .s (.r (.p (.eql rfl rfl) (.p (.a rfl) (.n (.t (.condD rfl (fun h9 => ?_) (fun h9 => ?_)))))))
              · refine .v (.t ?_)
                first | refine GoC.condD rfl (fun _ => ?_) (fun hc => absurd h9 hc) | refine GoC.cond rfl (fun _ => ?_) (fun hc => by rw [h9] at hc; cases hc)
                refine .s (.r ?_)
                refine .p (.bld2 (fun v1 v2 => [v1, (.bool false), v2, (.bool false)]) rfl rfl (by kernel_rfl)) ?_
                refine .does rfl (Does.sta (by exact sizeOf203) rfl rfl rfl (by rfl)) ?_
                rintro _ _ ⟨rfl, rfl⟩
                refine .n (.t (.e (.br (.tr ?_))))
                refine .retC rfl rfl isAgg203 (by exact sizeOf203) Cells.a fun w s => ⟨(), ?_, trivial, finE .auto s⟩
                simp [formOf, formE, *]
              · refine .s (.r (.p (.eql rfl rfl) (.p (.a rfl) (.n (.t (.condD rfl (fun h9 => ?_) (fun h9 => ?_)))))))
                · refine .v (.t ?_)
                  first | refine GoC.condD rfl (fun _ => ?_) (fun hc => absurd h9 hc) | refine GoC.cond rfl (fun _ => ?_) (fun hc => by rw [h9] at hc; cases hc)
                  refine .s (.r ?_)
                  refine .p (.bld2 (fun v1 v2 => [v1, (.bool false), v2, (.bool false)]) rfl rfl (by kernel_rfl)) ?_
                  refine .does rfl (Does.sta (by exact sizeOf203) rfl rfl rfl (by rfl)) ?_
                  rintro _ _ ⟨rfl, rfl⟩
                  refine .n (.t (.e (.br (.tr ?_))))
                  refine .retC rfl rfl isAgg203 (by exact sizeOf203) Cells.a fun w s => ⟨(), ?_, trivial, finE .auto s⟩
                  simp [formOf, formE, *]
                · refine .r (.p (.eql rfl rfl) (.p (.a rfl) (.n (.t (.condD rfl (fun h9 => ?_) (fun h9 => ?_))))))
                  · refine .s (.r ?_)
                    refine .p (.bld2 (fun v1 v2 => [v1, (.bool false), v2, (.bool false)]) rfl rfl (by kernel_rfl)) ?_
                    refine .does rfl (Does.sta (by exact sizeOf203) rfl rfl rfl (by rfl)) ?_
                    rintro _ _ ⟨rfl, rfl⟩
                    refine .n (.t (.e (.br (.tr ?_))))
                    refine .retC rfl rfl isAgg203 (by exact sizeOf203) Cells.a fun w s => ⟨(), ?_, trivial, finE .auto s⟩
                    simp [formOf, formE, *]
                  · refine .s (.r (.p (.eql rfl rfl) (.p (.a rfl) (.n (.t (.condD rfl (fun h19 => ?_) (fun h19 => ?_)))))))
                    · refine .s (.r ?_)
                      refine .p (.bld1 (fun v1 => [(.int .i64 0), (.bool false), v1, (.bool false)]) rfl (by kernel_rfl)) ?_
                      refine .does rfl (Does.sta (by exact sizeOf203) rfl rfl rfl (by rfl)) ?_
                      rintro _ _ ⟨rfl, rfl⟩
                      refine .n (.t (.e (.br (.tr ?_))))
                      refine .retC rfl rfl isAgg203 (by exact sizeOf203) Cells.a fun w s => ⟨(), ?_, trivial, finE .auto s⟩
                      simp [formOf, formE, *]
                    · refine .s (.r (.p (.eql rfl rfl) (.p (.a rfl) (.n (.t (.condD rfl (fun h22 => ?_) (fun h22 => ?_)))))))
                      · refine .s (.r ?_)
                        refine .p (.bld2 (fun v1 v2 => [v1, (.bool false), v2, (.bool false)]) rfl rfl (by kernel_rfl)) ?_
                        refine .does rfl (Does.sta (by exact sizeOf203) rfl rfl rfl (by rfl)) ?_
                        rintro _ _ ⟨rfl, rfl⟩
                        refine .n (.t (.e (.br (.tr ?_))))
                        refine .retC rfl rfl isAgg203 (by exact sizeOf203) Cells.a fun w s => ⟨(), ?_, trivial, finE .auto s⟩
                        simp [formOf, formE, *]
                      · refine .s (.r (.p (.eql rfl rfl) (.p (.a rfl) (.n (.t (.condD rfl (fun h25 => ?_) (fun h25 => ?_)))))))
                        · refine .s (.r (.p (.z rfl) (.p (.l rfl) (.p (.len rfl) ?_))))
                          refine .p (.bld2 (fun v1 v2 => [v1, (.bool false), v2, (.bool false)]) rfl rfl (by kernel_rfl)) ?_
                          refine .does rfl (Does.sta (by exact sizeOf203) rfl rfl rfl (by rfl)) ?_
                          rintro _ _ ⟨rfl, rfl⟩
                          refine .n (.t (.e (.br (.tr ?_))))
                          refine .retC rfl rfl isAgg203 (by exact sizeOf203) Cells.a fun w s => ⟨(), ?_, trivial, finE .auto s⟩
                          simp [formOf, formE, PrgV.p, *]
                        · refine .s (.s (.r (.p (.eql rfl rfl) (.p (.a rfl) (.n (.t (.condD rfl (fun h31 => ?_) (fun h31 => ?_))))))))
                          · refine .v (.t ?_)
                            first | refine GoC.condD rfl (fun _ => ?_) (fun hc => absurd h31 hc) | refine GoC.cond rfl (fun _ => ?_) (fun hc => by rw [h31] at hc; cases hc)
                            refine .s (.r ?_)
                            refine .p (.bld2 (fun v1 v2 => [v1, (.bool false), v2, (.bool false)]) rfl rfl (by kernel_rfl)) ?_
                            refine .does rfl (Does.sta (by exact sizeOf203) rfl rfl rfl (by rfl)) ?_
                            rintro _ _ ⟨rfl, rfl⟩
                            refine .n (.t (.e (.br (.tr ?_))))
                            refine .retC rfl rfl isAgg203 (by exact sizeOf203) Cells.a fun w s => ⟨(), ?_, trivial, finE .auto s⟩
                            simp [formOf, formE, *]
                          · refine .s (.r (.p (.eql rfl rfl) (.p (.a rfl) (.n (.t (.condD rfl (fun h31 => ?_) (fun h31 => ?_)))))))
                            · refine .v (.t ?_)
                              first | refine GoC.condD rfl (fun _ => ?_) (fun hc => absurd h31 hc) | refine GoC.cond rfl (fun _ => ?_) (fun hc => by rw [h31] at hc; cases hc)
                              refine .s (.r ?_)
                              refine .p (.bld2 (fun v1 v2 => [v1, (.bool false), v2, (.bool false)]) rfl rfl (by kernel_rfl)) ?_
                              refine .does rfl (Does.sta (by exact sizeOf203) rfl rfl rfl (by rfl)) ?_
                              rintro _ _ ⟨rfl, rfl⟩
                              refine .n (.t (.e (.br (.tr ?_))))
                              refine .retC rfl rfl isAgg203 (by exact sizeOf203) Cells.a fun w s => ⟨(), ?_, trivial, finE .auto s⟩
                              simp [formOf, formE, *]
                            · refine .s (.r (.p (.eql rfl rfl) (.p (.a rfl) (.n (.t (.condD rfl (fun h31 => ?_) (fun h31 => ?_)))))))
                              · refine .v (.t ?_)
                                first | refine GoC.condD rfl (fun _ => ?_) (fun hc => absurd h31 hc) | refine GoC.cond rfl (fun _ => ?_) (fun hc => by rw [h31] at hc; cases hc)
                                refine .s (.r ?_)
                                refine .p (.bld2 (fun v1 v2 => [v1, (.bool false), v2, (.bool false)]) rfl rfl (by kernel_rfl)) ?_
                                refine .does rfl (Does.sta (by exact sizeOf203) rfl rfl rfl (by rfl)) ?_
                                rintro _ _ ⟨rfl, rfl⟩
                                refine .n (.t (.e (.br (.tr ?_))))
                                refine .retC rfl rfl isAgg203 (by exact sizeOf203) Cells.a fun w s => ⟨(), ?_, trivial, finE .auto s⟩
                                simp [formOf, formE, *]
                              · refine .s (.r (.p (.eql rfl rfl) (.p (.a rfl) (.n (.t (.condD rfl (fun h31 => ?_) (fun h31 => ?_)))))))
                                · refine .v (.t ?_)
                                  first | refine GoC.condD rfl (fun _ => ?_) (fun hc => absurd h31 hc) | refine GoC.cond rfl (fun _ => ?_) (fun hc => by rw [h31] at hc; cases hc)
                                  refine .s (.r ?_)
                                  refine .p (.bld2 (fun v1 v2 => [v1, (.bool false), v2, (.bool false)]) rfl rfl (by kernel_rfl)) ?_
                                  refine .does rfl (Does.sta (by exact sizeOf203) rfl rfl rfl (by rfl)) ?_
                                  rintro _ _ ⟨rfl, rfl⟩
                                  refine .n (.t (.e (.br (.tr ?_))))
                                  refine .retC rfl rfl isAgg203 (by exact sizeOf203) Cells.a fun w s => ⟨(), ?_, trivial, finE .auto s⟩
                                  simp [formOf, formE, *]
                                · refine .r (.p (.eql rfl rfl) (.p (.a rfl) (.n (.t (.condD rfl (fun h31 => ?_) (fun h31 => ?_))))))
                                  · refine .s (.r ?_)
                                    refine .p (.bld2 (fun v1 v2 => [v1, (.bool false), v2, (.bool false)]) rfl rfl (by kernel_rfl)) ?_
                                    refine .does rfl (Does.sta (by exact sizeOf203) rfl rfl rfl (by rfl)) ?_
                                    rintro _ _ ⟨rfl, rfl⟩
                                    refine .n (.t (.e (.br (.tr ?_))))
                                    refine .retC rfl rfl isAgg203 (by exact sizeOf203) Cells.a fun w s => ⟨(), ?_, trivial, finE .auto s⟩
                                    simp [formOf, formE, *]
                                  · refine .s (.r (.p (.eql rfl rfl) (.p (.a rfl) (.n (.t (.condD rfl (fun h38 => ?_) (fun h38 => ?_)))))))
                                    · refine .s (.r ?_)
                                      refine .p (.bld1 (fun v1 => [(.int .i64 0), (.bool false), v1, (.bool false)]) rfl (by kernel_rfl)) ?_
                                      refine .does rfl (Does.sta (by exact sizeOf203) rfl rfl rfl (by rfl)) ?_
                                      rintro _ _ ⟨rfl, rfl⟩
                                      refine .n (.t (.e (.br (.tr ?_))))
                                      refine .retC rfl rfl isAgg203 (by exact sizeOf203) Cells.a fun w s => ⟨(), ?_, trivial, finE .auto s⟩
                                      simp [formOf, formE, *]
                                    · refine .s (.s (.r (.p (.eql rfl rfl) (.p (.a rfl) (.n (.t (.condD rfl (fun h41 => ?_) (fun h41 => ?_))))))))
                                      · refine .v (.t ?_)
                                        first | refine GoC.condD rfl (fun _ => ?_) (fun hc => absurd h41 hc) | refine GoC.cond rfl (fun _ => ?_) (fun hc => by rw [h41] at hc; cases hc)
                                        refine .s (.r (.p (.f rfl) (.p (.l rfl) ?_)))
                                        refine .p (.bld1 (fun v1 => [(.int .i64 0), (.bool false), v1, (.bool false)]) rfl (by kernel_rfl)) ?_
                                        refine .does rfl (Does.sta (by exact sizeOf203) rfl rfl rfl (by rfl)) ?_
                                        rintro _ _ ⟨rfl, rfl⟩
                                        refine .n (.t (.e (.br (.tr ?_))))
                                        refine .retC rfl rfl isAgg203 (by exact sizeOf203) Cells.a fun w s => ⟨(), ?_, trivial, finE .auto s⟩
                                        simp [formOf, formE, PrgV.p, *]
                                      · refine .r (.p (.eql rfl rfl) (.p (.a rfl) (.n (.t (.condD rfl (fun h41 => ?_) (fun h41 => ?_))))))
                                        · refine .s (.r (.p (.f rfl) (.p (.l rfl) ?_)))
                                          refine .p (.bld1 (fun v1 => [(.int .i64 0), (.bool false), v1, (.bool false)]) rfl (by kernel_rfl)) ?_
                                          refine .does rfl (Does.sta (by exact sizeOf203) rfl rfl rfl (by rfl)) ?_
                                          rintro _ _ ⟨rfl, rfl⟩
                                          refine .n (.t (.e (.br (.tr ?_))))
                                          refine .retC rfl rfl isAgg203 (by exact sizeOf203) Cells.a fun w s => ⟨(), ?_, trivial, finE .auto s⟩
                                          simp [formOf, formE, PrgV.p, *]
                                        · refine .s (.r (.p (.eql rfl rfl) (.p (.a rfl) (.n (.t (.condD rfl (fun h47 => ?_) (fun h47 => ?_)))))))
                                          · refine .s (.r (.p (.f rfl) (.p (.l rfl) ?_)))
                                            refine .p (.bld2 (fun v1 v2 => [(.int .i64 0), v2, v1, (.bool false)]) rfl rfl (by kernel_rfl)) ?_
                                            refine .does rfl (Does.sta (by exact sizeOf203) rfl rfl rfl (by rfl)) ?_
                                            rintro _ _ ⟨rfl, rfl⟩
                                            refine .n (.t (.e (.br (.tr ?_))))
                                            refine .retC rfl rfl isAgg203 (by exact sizeOf203) Cells.a fun w s => ⟨(), ?_, trivial, finE .auto s⟩
                                            simp [formOf, formE, PrgV.p, *]
                                          · refine .s (.s (.r (.p (.eql rfl rfl) (.p (.a rfl) (.n (.t (.condD rfl (fun h52 => ?_) (fun h52 => ?_))))))))
                                            · refine .v (.t ?_)
                                              first | refine GoC.condD rfl (fun _ => ?_) (fun hc => absurd h52 hc) | refine GoC.cond rfl (fun _ => ?_) (fun hc => by rw [h52] at hc; cases hc)
                                              refine .s (.r (.p (.f rfl) (.p (.l rfl) ?_)))
                                              refine .p (.bld1 (fun v1 => [(.int .i64 0), (.bool false), v1, (.bool false)]) rfl (by kernel_rfl)) ?_
                                              refine .does rfl (Does.sta (by exact sizeOf203) rfl rfl rfl (by rfl)) ?_
                                              rintro _ _ ⟨rfl, rfl⟩
                                              refine .n (.t (.e (.br (.tr ?_))))
                                              refine .retC rfl rfl isAgg203 (by exact sizeOf203) Cells.a fun w s => ⟨(), ?_, trivial, finE .auto s⟩
                                              simp [formOf, formE, PrgV.p, *]
                                            · refine .r (.p (.eql rfl rfl) (.p (.a rfl) (.n (.t (.condD rfl (fun h52 => ?_) (fun h52 => ?_))))))
                                              · refine .s (.r (.p (.f rfl) (.p (.l rfl) ?_)))
                                                refine .p (.bld1 (fun v1 => [(.int .i64 0), (.bool false), v1, (.bool false)]) rfl (by kernel_rfl)) ?_
                                                refine .does rfl (Does.sta (by exact sizeOf203) rfl rfl rfl (by rfl)) ?_
                                                rintro _ _ ⟨rfl, rfl⟩
                                                refine .n (.t (.e (.br (.tr ?_))))
                                                refine .retC rfl rfl isAgg203 (by exact sizeOf203) Cells.a fun w s => ⟨(), ?_, trivial, finE .auto s⟩
                                                simp [formOf, formE, PrgV.p, *]
                                              · refine .s (.s (.r (.p (.eql rfl rfl) (.p (.a rfl) (.n (.t (.condD rfl (fun h58 => ?_) (fun h58 => ?_))))))))
                                                · refine .v (.t ?_)
                                                  first | refine GoC.condD rfl (fun _ => ?_) (fun hc => absurd h58 hc) | refine GoC.cond rfl (fun _ => ?_) (fun hc => by rw [h58] at hc; cases hc)
                                                  refine .s (.r (.p (.f rfl) (.p (.l rfl) (.p (.len rfl) ?_))))
                                                  refine .p (.bld1 (fun v1 => [(.int .i64 0), (.bool false), v1, (.bool false)]) rfl (by kernel_rfl)) ?_
                                                  refine .does rfl (Does.sta (by exact sizeOf203) rfl rfl rfl (by rfl)) ?_
                                                  rintro _ _ ⟨rfl, rfl⟩
                                                  refine .n (.t (.e (.br (.tr ?_))))
                                                  refine .retC rfl rfl isAgg203 (by exact sizeOf203) Cells.a fun w s => ⟨(), ?_, trivial, finE .auto s⟩
                                                  simp [formOf, formE, PrgV.p, *]
                                                · refine .r (.p (.eql rfl rfl) (.p (.a rfl) (.n (.t (.condD rfl (fun h58 => ?_) (fun h58 => ?_))))))
                                                  · refine .s (.r (.p (.f rfl) (.p (.l rfl) (.p (.len rfl) ?_))))
                                                    refine .p (.bld1 (fun v1 => [(.int .i64 0), (.bool false), v1, (.bool false)]) rfl (by kernel_rfl)) ?_
                                                    refine .does rfl (Does.sta (by exact sizeOf203) rfl rfl rfl (by rfl)) ?_
                                                    rintro _ _ ⟨rfl, rfl⟩
                                                    refine .n (.t (.e (.br (.tr ?_))))
                                                    refine .retC rfl rfl isAgg203 (by exact sizeOf203) Cells.a fun w s => ⟨(), ?_, trivial, finE .auto s⟩
                                                    simp [formOf, formE, PrgV.p, *]
                                                  · refine .s (.s (.r (.p (.eql rfl rfl) (.p (.a rfl) (.n (.t (.condD rfl (fun h65 => ?_) (fun h65 => ?_))))))))
                                                    · refine .v (.t ?_)
                                                      first | refine GoC.condD rfl (fun _ => ?_) (fun hc => absurd h65 hc) | refine GoC.cond rfl (fun _ => ?_) (fun hc => by rw [h65] at hc; cases hc)
                                                      refine .s (.r (.p (.f rfl) (.p (.l rfl) (.p (.len rfl) ?_))))
                                                      refine .p (.bld2 (fun v1 v2 => [v1, (.bool false), v2, (.bool false)]) rfl rfl (by kernel_rfl)) ?_
                                                      refine .does rfl (Does.sta (by exact sizeOf203) rfl rfl rfl (by rfl)) ?_
                                                      rintro _ _ ⟨rfl, rfl⟩
                                                      refine .n (.t (.e (.br (.tr ?_))))
                                                      refine .retC rfl rfl isAgg203 (by exact sizeOf203) Cells.a fun w s => ⟨(), ?_, trivial, finE .auto s⟩
                                                      simp [formOf, formE, PrgV.p, *]
                                                    · refine .r (.p (.eql rfl rfl) (.p (.a rfl) (.n (.t (.condD rfl (fun h65 => ?_) (fun h65 => ?_))))))
                                                      · refine .s (.r (.p (.f rfl) (.p (.l rfl) (.p (.len rfl) ?_))))
                                                        refine .p (.bld2 (fun v1 v2 => [v1, (.bool false), v2, (.bool false)]) rfl rfl (by kernel_rfl)) ?_
                                                        refine .does rfl (Does.sta (by exact sizeOf203) rfl rfl rfl (by rfl)) ?_
                                                        rintro _ _ ⟨rfl, rfl⟩
                                                        refine .n (.t (.e (.br (.tr ?_))))
                                                        refine .retC rfl rfl isAgg203 (by exact sizeOf203) Cells.a fun w s => ⟨(), ?_, trivial, finE .auto s⟩
                                                        simp [formOf, formE, PrgV.p, *]
                                                      · refine .v (.b (.t (.s (.r ?_))))
                                                        refine .p (.bld2 (fun v1 v2 => [v1, (.bool false), v2, (.bool false)]) rfl rfl (by kernel_rfl)) ?_
                                                        refine .does rfl (Does.sta (by exact sizeOf203) rfl rfl rfl (by rfl)) ?_
                                                        rintro _ _ ⟨rfl, rfl⟩
                                                        refine .n (.t (.e ?_))
                                                        refine .retC rfl rfl isAgg203 (by exact sizeOf203) Cells.a fun w s => ⟨(), ?_, trivial, finE .auto s⟩
                                                        simp [formOf, formE, *]

set_option maxRecDepth 20000 in
theorem inst_Sound {W : World} {A : HProp} {v : PrgV} (hp : PrgRd W [A] v) {i : Ins} (hb : (formOf v.p i.op).n ≤ 9223372036854775807) : Fn Tryz.prog W 82 [.agg (prgE v).toArray, .agg (insE i).toArray] [A] Unit (fun _ => .bool (soundI v.p i)) (fun _ => True) (fun _ => [A]) := by
  refine Fn.intro (N := 56) func82 rfl ntmps82 rfl fun F => ?_
  haveI hI1 : ∀ (H : List HProp) [HasH H A], ReadsC W H v.fv fstE 1 v.fs := fun H h => ⟨hp.fs.at h.has⟩
  haveI hI2 : ∀ (H : List HProp) [HasH H A], ReadsC W H v.sv intE 1 v.sems := fun H h => ⟨hp.sems.at h.has⟩
  haveI hI3 : ∀ (H : List HProp) [HasH H A], ReadsC W H v.pv intE 1 v.pipes := fun H h => ⟨hp.pipes.at h.has⟩
  show GoC _ _ _ _ _ _ [A, F]
  refine .s (.r ?_)
  refine .does rfl (Does.box rfl rfl rfl) ?_
  rintro _ _ ⟨b2, rfl, rfl⟩
  refine .does rfl (Does.box rfl rfl rfl) ?_
  rintro _ _ ⟨b3, rfl, rfl⟩
  refine .p (.a rfl) (.n (.t (.s (.s (.r (.p (.z rfl) (.p (.l rfl) ?_)))))))
  refine .does rfl (Does.callE rfl call63 rfl inst_Class .auto) ?_
  rintro _ _ ⟨⟨⟩, -, rfl, rfl⟩
  refine .p (.eql rfl rfl) (.n (.t (.condD rfl (fun h10 => ?_) (fun h10 => ?_))))
  · refine .s (.r (.p (.a rfl) (.n (.t (.e (.tr (.ret1 rfl rfl fun w s => ⟨(), ?_, trivial, finE .auto s⟩)))))))
    rw [soundI, if_pos h10]
  · refine .v (.t (.s (.r (.p (.lA rfl) (.p (.z rfl) (.p (.l rfl) ?_))))))
    refine .does rfl (Does.callE rfl call112 rfl (inst_of hp) .auto) ?_
    rintro _ _ ⟨⟨⟩, -, rfl, rfl⟩
    refine .does rfl (Does.alloc rfl zeroValue203 rfl) ?_
    rintro _ _ ⟨b5, rfl, rfl⟩
    refine .does rfl (Does.sta (by exact sizeOf203) rfl rfl rfl (by rfl)) ?_
    rintro _ _ ⟨rfl, rfl⟩
    refine .n (.t (.s (.r (.p (.f rfl) (.p (.l rfl) (.p (.z rfl) (.p (.l rfl) (.p (.gtr rfl rfl) ?_))))))))
    refine .does rfl (Does.callE rfl call113 rfl inst_reg .auto) ?_
    rintro _ _ ⟨⟨⟩, -, rfl, rfl⟩
    refine .p (.a rfl) (.n (.t (.s (.s (.r (.p (.f rfl) (.p (.l rfl) (.n (.t (.cond rfl (fun h22 => ?_) (fun h22 => ?_)))))))))))
    · refine .r (.p (.f rfl) (.p (.l rfl) (.p (.geq rfl rfl) (.p (.m rfl) ?_))))
      apply GoL.segAD 6 32 26 [26, 27, 28, 29, 30, 31, 32] rfl
      · intro h26
        refine .g (.f rfl) (.g (.l rfl) (.g (.f rfl) (.g (.l rfl) (.g (.lss rfl rfl) (.p (.t rfl rfl) (.n ?_))))))
        refine .seg .auto rfl (by first | exact fun _ h => h | exact Ent.kept .auto)
      · intro h26
        refine .u (.u (.u (.u (.u (.p (.u rfl rfl) (.n ?_))))))
        refine .seg .auto rfl (by first | exact fun _ h => h | exact Ent.kept .auto)
      refine .p (.a rfl) (.n (.t (.s (.r (.p (.f rfl) (.p (.l rfl) (.p (.z rfl) (.p (.l rfl) (.p (.gtr rfl rfl) ?_)))))))))
      refine .does rfl (Does.callE rfl call113 rfl inst_reg .auto) ?_
      rintro _ _ ⟨⟨⟩, -, rfl, rfl⟩
      refine .p (.m rfl) ?_
      apply GoL.segA 7 46 39 [39, 40, 41, 42, 43, 44, 45, 46] rfl
      · intro h39
        refine .g (.f rfl) (.g (.l rfl) (.g (.z rfl) (.g (.l rfl) (.g (.gtr rfl rfl) ?_))))
        refine .dg rfl rfl rfl (Does.callE rfl call113 rfl inst_reg .auto) ?_
        rintro _ _ ⟨⟨⟩, -, rfl, rfl⟩
        refine .p (.t rfl rfl) (.n ?_)
        refine .seg .auto rfl (by first | exact fun _ h => h | exact Ent.kept .auto)
      · intro h39
        refine .u (.u (.u (.u (.u (.u (.p (.u rfl rfl) (.n ?_)))))))
        refine .seg .auto rfl (by first | exact fun _ h => h | exact Ent.kept .auto)
      refine .p (.m rfl) ?_
      apply GoL.segA 2 49 47 [47, 48, 49] rfl
      · intro h47
        refine .g (.m rfl) (.p (.t rfl rfl) (.n ?_))
        refine .seg .auto rfl (by first | exact fun _ h => h | exact Ent.kept .auto)
      · intro h47
        refine .u (.p (.u rfl rfl) (.n ?_))
        refine .seg .auto rfl (by first | exact fun _ h => h | exact Ent.kept .auto)
      refine .p (.m rfl) ?_
      apply GoL.segA 5 55 50 [50, 51, 52, 53, 54, 55] rfl
      · intro h50
        refine .g (.lA rfl) (.g (.f rfl) (.g (.l rfl) ?_))
        refine .dg rfl rfl rfl (Does.callE rfl call114 rfl (inst_below hb) .auto) ?_
        rintro _ _ ⟨⟨⟩, -, rfl, rfl⟩
        refine .p (.t rfl rfl) (.n ?_)
        refine .seg .auto rfl (by first | exact fun _ h => h | exact Ent.kept .auto)
      · intro h50
        refine .u (.u (.u (.u (.p (.u rfl rfl) (.n ?_)))))
        refine .seg .auto rfl (by first | exact fun _ h => h | exact Ent.kept .auto)
      refine .p (.a rfl) (.n (.t (.e (.ret1 rfl rfl fun w s => ⟨(), ?_, trivial, finE .auto s⟩))))
      refine retB ?_; rw [soundI, if_neg h10]; simp only [h22, if_true]; try rfl
    · refine .v (.t (.s (.r (.p (.f rfl) (.p (.l rfl) (.p (.z rfl) (.p (.l rfl) (.p (.gtr rfl rfl) ?_))))))))
      refine .does rfl (Does.callE rfl call113 rfl inst_reg .auto) ?_
      rintro _ _ ⟨⟨⟩, -, rfl, rfl⟩
      refine .p (.m rfl) ?_
      apply GoL.segA 7 46 39 [39, 40, 41, 42, 43, 44, 45, 46] rfl
      · intro h39
        refine .g (.f rfl) (.g (.l rfl) (.g (.z rfl) (.g (.l rfl) (.g (.gtr rfl rfl) ?_))))
        refine .dg rfl rfl rfl (Does.callE rfl call113 rfl inst_reg .auto) ?_
        rintro _ _ ⟨⟨⟩, -, rfl, rfl⟩
        refine .p (.t rfl rfl) (.n ?_)
        refine .seg .auto rfl (by first | exact fun _ h => h | exact Ent.kept .auto)
      · intro h39
        refine .u (.u (.u (.u (.u (.u (.p (.u rfl rfl) (.n ?_)))))))
        refine .seg .auto rfl (by first | exact fun _ h => h | exact Ent.kept .auto)
      refine .p (.m rfl) ?_
      apply GoL.segA 2 49 47 [47, 48, 49] rfl
      · intro h47
        refine .g (.m rfl) (.p (.t rfl rfl) (.n ?_))
        refine .seg .auto rfl (by first | exact fun _ h => h | exact Ent.kept .auto)
      · intro h47
        refine .u (.p (.u rfl rfl) (.n ?_))
        refine .seg .auto rfl (by first | exact fun _ h => h | exact Ent.kept .auto)
      refine .p (.m rfl) ?_
      apply GoL.segA 5 55 50 [50, 51, 52, 53, 54, 55] rfl
      · intro h50
        refine .g (.lA rfl) (.g (.f rfl) (.g (.l rfl) ?_))
        refine .dg rfl rfl rfl (Does.callE rfl call114 rfl (inst_below hb) .auto) ?_
        rintro _ _ ⟨⟨⟩, -, rfl, rfl⟩
        refine .p (.t rfl rfl) (.n ?_)
        refine .seg .auto rfl (by first | exact fun _ h => h | exact Ent.kept .auto)
      · intro h50
        refine .u (.u (.u (.u (.p (.u rfl rfl) (.n ?_)))))
        refine .seg .auto rfl (by first | exact fun _ h => h | exact Ent.kept .auto)
      refine .p (.a rfl) (.n (.t (.e (.ret1 rfl rfl fun w s => ⟨(), ?_, trivial, finE .auto s⟩))))
      refine retB ?_; rw [soundI, if_neg h10]; simp only [h22, if_false, Bool.false_eq_true]; try rfl

set_option maxRecDepth 20000 in
theorem inst_caps {W : World} {A : HProp} {v : PrgV} (hp : PrgRd W [A] v) (hl : v.fs.length ≤ 1000000000 ∧ v.sems.length ≤ 1000000000 ∧ v.pipes.length ≤ 1000000000) : Fn Tryz.prog W 81 [.agg (prgE v).toArray] [A] Unit (fun _ => .bool (capsI v.p)) (fun _ => True) (fun _ => [A]) := by
  refine Fn.intro (N := 102) func81 rfl ntmps81 rfl fun F => ?_
  haveI hI1 : ∀ (H : List HProp) [HasH H A], ReadsC W H v.fv fstE 1 v.fs := fun H h => ⟨hp.fs.at h.has⟩
  haveI hI2 : ∀ (H : List HProp) [HasH H A], ReadsC W H v.sv intE 1 v.sems := fun H h => ⟨hp.sems.at h.has⟩
  haveI hI3 : ∀ (H : List HProp) [HasH H A], ReadsC W H v.pv intE 1 v.pipes := fun H h => ⟨hp.pipes.at h.has⟩
  show GoC _ _ _ _ _ _ [A, F]
  refine .s (.r ?_)
  refine .does rfl (Does.box rfl rfl rfl) ?_
  rintro _ _ ⟨b1, rfl, rfl⟩
  refine .p (.a rfl) (.n (.t (.s (.r (.p (.z rfl) (.p (.l rfl) (.p (.len rfl) (.p (.gtr rfl rfl) (.p (.m rfl) ?_)))))))))
  apply GoL.segAD 5 19 14 [14, 15, 16, 17, 18, 19] rfl
  · intro h14
    refine .g (.z rfl) (.g (.l rfl) (.g (.len rfl) (.g (.leq rfl rfl) (.p (.t rfl rfl) (.n ?_)))))
    refine .seg .auto rfl (by first | exact fun _ h => h | exact Ent.kept .auto)
  · intro h14
    refine .u (.u (.u (.u (.p (.u rfl rfl) (.n ?_)))))
    refine .seg .auto rfl (by first | exact fun _ h => h | exact Ent.kept .auto)
  refine .p (.m rfl) ?_
  apply GoL.segA 4 24 20 [20, 21, 22, 23, 24] rfl
  · intro h20
    refine .g (.f rfl) (.g (.l rfl) ?_)
    refine .dg rfl rfl rfl (Does.callE rfl call111 rfl inst_within .auto) ?_
    rintro _ _ ⟨⟨⟩, -, rfl, rfl⟩
    refine .p (.t rfl rfl) (.n ?_)
    refine .seg .auto rfl (by first | exact fun _ h => h | exact Ent.kept .auto)
  · intro h20
    refine .u (.u (.u (.p (.u rfl rfl) (.n ?_))))
    refine .seg .auto rfl (by first | exact fun _ h => h | exact Ent.kept .auto)
  refine .p (.m rfl) ?_
  apply GoL.segA 4 29 25 [25, 26, 27, 28, 29] rfl
  · intro h25
    refine .g (.f rfl) (.g (.l rfl) ?_)
    refine .dg rfl rfl rfl (Does.callE rfl call111 rfl inst_within .auto) ?_
    rintro _ _ ⟨⟨⟩, -, rfl, rfl⟩
    refine .p (.t rfl rfl) (.n ?_)
    refine .seg .auto rfl (by first | exact fun _ h => h | exact Ent.kept .auto)
  · intro h25
    refine .u (.u (.u (.p (.u rfl rfl) (.n ?_))))
    refine .seg .auto rfl (by first | exact fun _ h => h | exact Ent.kept .auto)
  refine .p (.m rfl) ?_
  apply GoL.segA 4 34 30 [30, 31, 32, 33, 34] rfl
  · intro h30
    refine .g (.f rfl) (.g (.l rfl) ?_)
    refine .dg rfl rfl rfl (Does.callE rfl call111 rfl inst_within .auto) ?_
    rintro _ _ ⟨⟨⟩, -, rfl, rfl⟩
    refine .p (.t rfl rfl) (.n ?_)
    refine .seg .auto rfl (by first | exact fun _ h => h | exact Ent.kept .auto)
  · intro h30
    refine .u (.u (.u (.p (.u rfl rfl) (.n ?_))))
    refine .seg .auto rfl (by first | exact fun _ h => h | exact Ent.kept .auto)
  refine .p (.m rfl) ?_
  apply GoL.segA 4 39 35 [35, 36, 37, 38, 39] rfl
  · intro h35
    refine .g (.f rfl) (.g (.l rfl) ?_)
    refine .dg rfl rfl rfl (Does.callE rfl call111 rfl inst_within .auto) ?_
    rintro _ _ ⟨⟨⟩, -, rfl, rfl⟩
    refine .p (.t rfl rfl) (.n ?_)
    refine .seg .auto rfl (by first | exact fun _ h => h | exact Ent.kept .auto)
  · intro h35
    refine .u (.u (.u (.p (.u rfl rfl) (.n ?_))))
    refine .seg .auto rfl (by first | exact fun _ h => h | exact Ent.kept .auto)
  refine .p (.m rfl) ?_
  apply GoL.segA 4 44 40 [40, 41, 42, 43, 44] rfl
  · intro h40
    refine .g (.f rfl) (.g (.l rfl) ?_)
    refine .dg rfl rfl rfl (Does.callE rfl call111 rfl inst_within .auto) ?_
    rintro _ _ ⟨⟨⟩, -, rfl, rfl⟩
    refine .p (.t rfl rfl) (.n ?_)
    refine .seg .auto rfl (by first | exact fun _ h => h | exact Ent.kept .auto)
  · intro h40
    refine .u (.u (.u (.p (.u rfl rfl) (.n ?_))))
    refine .seg .auto rfl (by first | exact fun _ h => h | exact Ent.kept .auto)
  refine .p (.m rfl) ?_
  apply GoL.segA 5 50 45 [45, 46, 47, 48, 49, 50] rfl
  · intro h45
    refine .g (.f rfl) (.g (.l rfl) (.g (.len rfl) (.g (.leq rfl rfl) (.p (.t rfl rfl) (.n ?_)))))
    refine .seg .auto rfl (by first | exact fun _ h => h | exact Ent.kept .auto)
  · intro h45
    refine .u (.u (.u (.u (.p (.u rfl rfl) (.n ?_)))))
    refine .seg .auto rfl (by first | exact fun _ h => h | exact Ent.kept .auto)
  refine .p (.m rfl) ?_
  apply GoL.segA 5 56 51 [51, 52, 53, 54, 55, 56] rfl
  · intro h51
    refine .g (.f rfl) (.g (.l rfl) (.g (.len rfl) (.g (.leq rfl rfl) (.p (.t rfl rfl) (.n ?_)))))
    refine .seg .auto rfl (by first | exact fun _ h => h | exact Ent.kept .auto)
  · intro h51
    refine .u (.u (.u (.u (.p (.u rfl rfl) (.n ?_)))))
    refine .seg .auto rfl (by first | exact fun _ h => h | exact Ent.kept .auto)
  refine .p (.a rfl) (.n (.t (.s (.s (.r (.p (.z rfl) (.p (.l rfl) (.p (.len rfl) (.p (.m rfl) (.n (.t (.b ?_))))))))))))
  refine .loopK (X := Nat × Bool) [3, 5, 60, 61, 62, 63, 64, 65, 66, 67, 68, 69, 70] (fun z => v.fs.length - z.1) (fun z => z.1 ≤ v.fs.length ∧ z.2 = capsV1 v z.1) (fun z => [(60, some (.int .i64 (z.1 : Int))), (3, some (.bool z.2))]) (fun z => [arr b1 0 (prgE v), A, F]) (0, capsV0 v) ?_ ?_ ?_ ?_
  · exact ⟨Nat.zero_le _, by simp [capsV1]⟩
  · exact ⟨rfl, rfl, trivial⟩
  · exact fun w s => Ent.kept .auto w s
  rintro ⟨k, y⟩ ⟨hk, hy⟩
  simp only at hk hy
  refine .s (.r (.p (.lss rfl rfl) (.n (.t (.s (.condD rfl (fun h61 => ?_) (fun h61 => ?_)))))))
  · refine .v (.t (.s (.b (.s (.r ?_)))))
    obtain ⟨x, hx⟩ := at_some (show k < v.fs.length by omega)
    have hi := hp.ins x (List.mem_of_getElem? hx)
    haveI hI4 : ∀ (H : List HProp) [HasH H A], ReadsC W H x.1 insE 5 x.2 := fun H h => ⟨hi.at h.has⟩
    refine .p (.ix _ rfl rfl rfl (by first | omega | decide)) ?_
    refine .p (.lr rfl ‹_›) ?_
    refine .p (.a rfl) (.n (.t (.r (.p (.m rfl) (.p (.m rfl) ?_)))))
    apply GoL.segA 4 69 65 [65, 66, 67, 68, 69] rfl
    · intro h65
      refine .g (.m rfl) (.g (.len rfl) (.g (.leq rfl rfl) (.p (.t rfl rfl) (.n ?_))))
      refine .seg .auto rfl (by first | exact fun _ h => h | exact Ent.kept .auto)
    · intro h65
      refine .u (.u (.u (.p (.u rfl rfl) (.n ?_))))
      refine .seg .auto rfl (by first | exact fun _ h => h | exact Ent.kept .auto)
    refine .p (.a rfl) (.n (.b (.t (.r ?_))))
    refine .p (.inc rfl rfl (by omega)) ?_
    refine .p (.m rfl) (.n ?_)
    refine .againK (k + 1, (y && decide ((x.2.length : Int) ≤ 256))) .auto rfl ?_ ?_ ?_ ?_
    · show v.fs.length - (k + 1) < v.fs.length - k; omega
    · refine ⟨by show k + 1 ≤ _; omega, ?_⟩
      rw [capsV1, all_snoc hx, hy, capsV1]
      simp only [Bool.and_assoc]
    · exact ⟨rfl, rfl, trivial⟩
    · exact fun w s => Ent.kept .auto w s
  · refine .x (.tx (.tx (.bh (.t (.s (.s (.r (.p (.f rfl) (.p (.l rfl) (.p (.len rfl) (.p (.m rfl) (.n (.t (.b ?_))))))))))))))
    obtain rfl : k = v.fs.length := by omega
    refine .loopK (X := Nat × Bool) [3, 7, 74, 75, 76, 77, 78, 79, 80, 81, 82, 83] (fun z => v.sems.length - z.1) (fun z => z.1 ≤ v.sems.length ∧ z.2 = capsV2 v z.1) (fun z => [(74, some (.int .i64 (z.1 : Int))), (3, some (.bool z.2))]) (fun z => [arr b1 0 (prgE v), A, F]) (0, y) ?_ ?_ ?_ ?_
    · exact ⟨Nat.zero_le _, by rw [capsV2, hy]; simp⟩
    · exact ⟨rfl, rfl, trivial⟩
    · exact fun w s => Ent.kept .auto w s
    rintro ⟨k, y⟩ ⟨hk, hy⟩
    simp only at hk hy
    refine .s (.r (.p (.lss rfl rfl) (.n (.t (.s (.condD rfl (fun h75 => ?_) (fun h75 => ?_)))))))
    · refine .v (.t (.s (.b (.s (.r ?_)))))
      obtain ⟨x, hx⟩ := at_some (show k < v.sems.length by omega)
      refine .p (.ix _ rfl rfl rfl (by first | omega | decide)) ?_
      refine .p (.lr rfl ‹_›) ?_
      refine .p (.a rfl) (.n (.t (.r (.p (.m rfl) (.p (.m rfl) ?_)))))
      apply GoL.segA 3 82 79 [79, 80, 81, 82] rfl
      · intro h79
        refine .g (.m rfl) ?_
        refine .dg rfl rfl rfl (Does.callE rfl call111 rfl inst_within .auto) ?_
        rintro _ _ ⟨⟨⟩, -, rfl, rfl⟩
        refine .p (.t rfl rfl) (.n ?_)
        refine .seg .auto rfl (by first | exact fun _ h => h | exact Ent.kept .auto)
      · intro h79
        refine .u (.u (.p (.u rfl rfl) (.n ?_)))
        refine .seg .auto rfl (by first | exact fun _ h => h | exact Ent.kept .auto)
      refine .p (.a rfl) (.n (.b (.t (.r ?_))))
      refine .p (.inc rfl rfl (by omega)) ?_
      refine .p (.m rfl) (.n ?_)
      refine .againK (k + 1, (y && within x 1048576)) .auto rfl ?_ ?_ ?_ ?_
      · show v.sems.length - (k + 1) < v.sems.length - k; omega
      · refine ⟨by show k + 1 ≤ _; omega, ?_⟩
        rw [capsV2, all_snoc hx, hy, capsV2]
        simp only [Bool.and_assoc]
      · exact ⟨rfl, rfl, trivial⟩
      · exact fun w s => Ent.kept .auto w s
    · refine .x (.tx (.tx (.bh (.t (.s (.s (.r (.p (.f rfl) (.p (.l rfl) (.p (.len rfl) (.p (.m rfl) (.n (.t (.b ?_))))))))))))))
      obtain rfl : k = v.sems.length := by omega
      refine .loopK (X := Nat × Bool) [3, 9, 87, 88, 89, 90, 91, 92, 93, 94, 95, 96, 97, 98, 99, 100] (fun z => v.pipes.length - z.1) (fun z => z.1 ≤ v.pipes.length ∧ z.2 = capsV3 v z.1) (fun z => [(87, some (.int .i64 (z.1 : Int))), (3, some (.bool z.2))]) (fun z => [arr b1 0 (prgE v), A, F]) (0, y) ?_ ?_ ?_ ?_
      · exact ⟨Nat.zero_le _, by rw [capsV3, hy]; simp⟩
      · exact ⟨rfl, rfl, trivial⟩
      · exact fun w s => Ent.kept .auto w s
      rintro ⟨k, y⟩ ⟨hk, hy⟩
      simp only at hk hy
      refine .s (.r (.p (.lss rfl rfl) (.n (.t (.s (.condD rfl (fun h88 => ?_) (fun h88 => ?_)))))))
      · refine .v (.t (.s (.b (.s (.r ?_)))))
        obtain ⟨x, hx⟩ := at_some (show k < v.pipes.length by omega)
        refine .p (.ix _ rfl rfl rfl (by first | omega | decide)) ?_
        refine .p (.lr rfl ‹_›) ?_
        refine .p (.a rfl) (.n (.t (.r (.p (.m rfl) (.p (.m rfl) ?_)))))
        apply GoL.segA 3 95 92 [92, 93, 94, 95] rfl
        · intro h92
          refine .g (.m rfl) (.g (.gtr rfl rfl) (.p (.t rfl rfl) (.n ?_)))
          refine .seg .auto rfl (by first | exact fun _ h => h | exact Ent.kept .auto)
        · intro h92
          refine .u (.u (.p (.u rfl rfl) (.n ?_)))
          refine .seg .auto rfl (by first | exact fun _ h => h | exact Ent.kept .auto)
        refine .p (.m rfl) ?_
        apply GoL.segA 3 99 96 [96, 97, 98, 99] rfl
        · intro h96
          refine .g (.m rfl) ?_
          refine .dg rfl rfl rfl (Does.callE rfl call111 rfl inst_within .auto) ?_
          rintro _ _ ⟨⟨⟩, -, rfl, rfl⟩
          refine .p (.t rfl rfl) (.n ?_)
          refine .seg .auto rfl (by first | exact fun _ h => h | exact Ent.kept .auto)
        · intro h96
          refine .u (.u (.p (.u rfl rfl) (.n ?_)))
          refine .seg .auto rfl (by first | exact fun _ h => h | exact Ent.kept .auto)
        refine .p (.a rfl) (.n (.b (.t (.r ?_))))
        refine .p (.inc rfl rfl (by omega)) ?_
        refine .p (.m rfl) (.n ?_)
        refine .againK (k + 1, ((y && decide (0 < x)) && within x 8)) .auto rfl ?_ ?_ ?_ ?_
        · show v.pipes.length - (k + 1) < v.pipes.length - k; omega
        · refine ⟨by show k + 1 ≤ _; omega, ?_⟩
          rw [capsV3, all_snoc hx, hy, capsV3]
          simp only [Bool.and_assoc]
        · exact ⟨rfl, rfl, trivial⟩
        · exact fun w s => Ent.kept .auto w s
      · refine .x (.tx (.tx (.bh (.t (.s (.r (.p (.m rfl) (.p (.a rfl) (.n (.t (.e ?_)))))))))))
        obtain rfl : k = v.pipes.length := by omega
        refine .ret1 rfl rfl fun w s => ⟨(), ?_, trivial, finE .auto s⟩
        rw [hy, capsV_eq]

set_option maxRecDepth 20000 in
theorem inst_Check {W : World} {A : HProp} {v : PrgV} (hp : PrgRd W [A] v) (hl : v.fs.length ≤ 1000000000 ∧ v.sems.length ≤ 1000000000 ∧ v.pipes.length ≤ 1000000000) : Fn Tryz.prog W 49 [.agg (prgE v).toArray] [A] Unit (fun _ => .int .i64 (checkI v.p)) (fun _ => True) (fun _ => [A]) := by
  refine Fn.intro (N := 29) func49 rfl ntmps49 rfl fun F => ?_
  haveI hI1 : ∀ (H : List HProp) [HasH H A], ReadsC W H v.fv fstE 1 v.fs := fun H h => ⟨hp.fs.at h.has⟩
  haveI hI2 : ∀ (H : List HProp) [HasH H A], ReadsC W H v.sv intE 1 v.sems := fun H h => ⟨hp.sems.at h.has⟩
  haveI hI3 : ∀ (H : List HProp) [HasH H A], ReadsC W H v.pv intE 1 v.pipes := fun H h => ⟨hp.pipes.at h.has⟩
  show GoC _ _ _ _ _ _ [A, F]
  refine .s (.r ?_)
  refine .does rfl (Does.box rfl rfl rfl) ?_
  rintro _ _ ⟨b1, rfl, rfl⟩
  refine .p (.a rfl) (.n (.t (.s (.s (.r (.p (.lA rfl) ?_))))))
  refine .does rfl (Does.callE rfl call81 rfl (inst_caps hp hl) .auto) ?_
  rintro _ _ ⟨⟨⟩, -, rfl, rfl⟩
  refine .p (.not rfl) (.n (.t (.cond rfl (fun h9 => ?_) (fun h9 => ?_))))
  · refine .s (.r (.p (.a rfl) (.n (.t (.e (.tr ?_))))))
    rw [Bool.not_eq_true'] at h9
    refine .ret1 rfl rfl fun w s => ⟨(), ?_, trivial, finE .auto s⟩
    refine retI ?_; unfold checkI; rw [if_neg (by rw [h9]; simp)]
  · refine .v (.t (.s (.s (.r (.p (.z rfl) (.p (.l rfl) (.p (.len rfl) (.p (.m rfl) (.n (.t (.b ?_)))))))))))
    rw [Bool.not_eq_false'] at h9
    refine .loopK (X := Nat) [2, 4, 6, 13, 14, 15, 16, 17, 18, 19, 20, 21, 22, 23, 24, 25, 26, 27, 28] (fun k => v.fs.length - k) (fun k => k ≤ v.fs.length ∧ (v.fs.take k).all (fun f : Value × List Ins => f.2.all (soundI v.p)) = true) (fun k => [(13, some (.int .i64 (k : Int)))]) (fun k => [arr b1 0 (prgE v), A, F]) 0 ?_ ?_ ?_ ?_
    · exact ⟨Nat.zero_le _, rfl⟩
    · exact ⟨rfl, trivial⟩
    · exact fun w s => Ent.kept .auto w s
    rintro k ⟨hk, hs⟩
    refine .s (.r (.p (.lss rfl rfl) (.n (.t (.s (.condD rfl (fun h14 => ?_) (fun h14 => ?_)))))))
    · refine .v (.t (.s (.b (.s (.r ?_)))))
      obtain ⟨x, hx⟩ := at_some (show k < v.fs.length by omega)
      have hi := hp.ins x (List.mem_of_getElem? hx)
      haveI hI4 : ∀ (H : List HProp) [HasH H A], ReadsC W H x.1 insE 5 x.2 := fun H h => ⟨hi.at h.has⟩
      have hx256 : x.2.length ≤ 256 := caps_fs h9 (List.mem_of_getElem? hx)
      refine .p (.ix _ rfl rfl rfl (by first | omega | decide)) ?_
      refine .p (.lr rfl ‹_›) ?_
      refine .p (.a rfl) (.n (.t (.s (.r (.p (.m rfl) (.p (.len rfl) (.p (.m rfl) (.n (.t (.b ?_))))))))))
      refine .loopK (X := Nat) [2, 6, 19, 20, 21, 22, 23, 24, 25, 26, 27] (fun j => x.2.length - j) (fun j => j ≤ x.2.length ∧ (x.2.take j).all (soundI v.p) = true) (fun j => [(19, some (.int .i64 (j : Int)))]) (fun j => [arr b1 0 (prgE v), A, F]) 0 ?_ ?_ ?_ ?_
      · exact ⟨Nat.zero_le _, rfl⟩
      · exact ⟨rfl, trivial⟩
      · exact fun w s => Ent.kept .auto w s
      rintro j ⟨hj0, hsj⟩
      refine .s (.r (.p (.lss rfl rfl) (.n (.t (.s (.condD rfl (fun h20 => ?_) (fun h20 => ?_)))))))
      · refine .v (.t (.s (.b (.s (.r ?_)))))
        obtain ⟨i, hj⟩ := at_some (show j < x.2.length by omega)
        refine .p (.ix _ rfl rfl rfl (by first | omega | decide)) ?_
        refine .p (.la rfl (Cells.rd Rd.s ‹_›)) ?_
        refine .does rfl (Does.alloc rfl zeroValue123 rfl) ?_
        rintro _ _ ⟨b6, rfl, rfl⟩
        refine .does rfl (Does.sta (by exact sizeOf123) rfl rfl rfl (by rfl)) ?_
        rintro _ _ ⟨rfl, rfl⟩
        refine .n (.t (.s (.r (.p (.lA rfl) (.p (.lA rfl) ?_)))))
        refine .does rfl (Does.callE rfl call82 rfl (inst_Sound hp (caps_form h9 _)) .auto) ?_
        rintro _ _ ⟨⟨⟩, -, rfl, rfl⟩
        refine .p (.not rfl) (.n (.t (.cond rfl (fun h26 => ?_) (fun h26 => ?_))))
        · refine .s (.r (.p (.a rfl) (.n (.t (.e (.br (.tr (.tr (.br (.br (.tr (.tr (.br (.tr ?_))))))))))))))
          rw [Bool.not_eq_true'] at h26
          refine .ret1 rfl rfl fun w s => ⟨(), ?_, trivial, finE .auto s⟩
          exact retI (check_bad h9 hx hj h26).symm
        · refine .v (.b (.t (.r ?_)))
          refine .p (.inc rfl rfl (by omega)) ?_
          refine .p (.m rfl) (.n ?_)
          rw [Bool.not_eq_false'] at h26
          refine .againK (j + 1) .auto rfl ?_ ?_ ?_ ?_
          · first | omega | (dsimp only; omega)
          · exact ⟨by omega, by rw [all_snoc hj, hsj, h26]; rfl⟩
          · exact ⟨rfl, trivial⟩
          · exact fun w s => Ent.kept .auto w s
      · refine .x (.tx (.tx (.bh (.b (.t (.r ?_))))))
        refine .p (.inc rfl rfl (by omega)) ?_
        refine .p (.m rfl) (.n ?_)
        obtain rfl : j = x.2.length := by omega
        rw [List.take_length] at hsj
        refine .againK (k + 1) .auto rfl ?_ ?_ ?_ ?_
        · first | omega | (dsimp only; omega)
        · exact ⟨by omega, by rw [all_snoc hx, hs, hsj]; rfl⟩
        · exact ⟨rfl, trivial⟩
        · exact fun w s => Ent.kept .auto w s
    · refine .x (.tx (.tx (.bh (.t (.s (.r (.p (.a rfl) (.n (.t (.e ?_))))))))))
      obtain rfl : k = v.fs.length := by omega
      rw [List.take_length] at hs
      refine .ret1 rfl rfl fun w s => ⟨(), ?_, trivial, finE .auto s⟩
      exact retI (check_ok h9 hs).symm

end Go.SLYtpcjdohmjmeehaaGreat
namespace Go.SLYtpcjdohmjmeehaaGreat
open Go Go.RowKit Go.Proofs Go.Proofs.Tryz

set_option maxRecDepth 20000 in
theorem gate_clamp {W : World} {n m : Int} : Fn Tryz.prog W 83 [.int .i64 n, .int .i64 m] [] Unit (fun _ => .int .i64 (clamp n m)) (fun _ => True) (fun _ => []) := by
  refine Fn.intro (N := 9) func83 rfl ntmps83 rfl fun F => ?_
  show GoC _ _ _ _ _ _ [F]
  refine .s (.r (.p (.a rfl) (.n (.t (.s (.r (.p (.m rfl) ?_)))))))
  refine .p (.max2m rfl rfl) ?_
  refine .p (.m rfl) ?_
  refine .p (.min2m rfl rfl) ?_
  refine .p (.a rfl) (.n (.t (.e (.ret1 rfl rfl fun w s => ⟨(), ?_, trivial, finE .auto s⟩))))
  rfl

set_option maxRecDepth 20000 in
theorem slot_New {W : World} {n : Int} : Fn Tryz.prog W 50 [.int .i64 n] [] Nat (fun b => ptr b) (fun _ => True) (fun b => [tblH b (List.replicate (clamp n 1024).toNat (false, 0))]) := by
  refine Fn.intro (N := 9) func50 rfl ntmps50 rfl fun F => ?_
  show GoC _ _ _ _ _ _ [F]
  refine .s (.r (.p (.a rfl) (.n (.t (.s (.r (.p (.m rfl) ?_)))))))
  refine .p (.max2m rfl rfl) ?_
  refine .p (.min2m rfl rfl) ?_
  have hc : (clamp n 1024).toNat ≤ 1024 := by unfold clamp; omega
  refine .does rfl (Does.mkSl (enc := oneE) (k := 2) (false, 0) (clamp n 1024).toNat rfl underlying159 typeInfo209 rfl rfl rfl rfl (by decide) (by decide) rfl rfl (by unfold clamp; omega) (by unfold clamp; omega) (by omega)) ?_
  rintro _ _ ⟨b6, rfl, rfl⟩
  refine .p (.bld1 (fun v1 => [v1]) rfl (by kernel_rfl)) ?_
  refine .does rfl (Does.box rfl rfl rfl) ?_
  rintro _ _ ⟨b8, rfl, rfl⟩
  refine .p (.a rfl) (.n (.t (.e (.ret1 rfl rfl fun w s => ⟨b8, ?_, trivial, finE .auto s⟩))))
  rfl

set_option maxRecDepth 20000 in
theorem disk_New {W : World} {n : Int} : Fn Tryz.prog W 52 [.int .i64 n] [] Nat (fun b => ptr b) (fun _ => True) (fun b => [dskH b (Dsk.new n)]) := by
  refine Fn.intro (N := 9) func52 rfl ntmps52 rfl fun F => ?_
  show GoC _ _ _ _ _ _ [F]
  refine .s (.r (.p (.a rfl) (.n (.t (.s (.r (.p (.m rfl) ?_)))))))
  refine .p (.max2m rfl rfl) ?_
  refine .p (.min2m rfl rfl) ?_
  have hc : (clamp n 64).toNat ≤ 64 := by unfold clamp; omega
  refine .does rfl (Does.mkSl (enc := wrdE) (k := 1) (0 : Int) (clamp n 64).toNat rfl underlying51 typeInfo43 rfl rfl rfl rfl (by decide) (by decide) rfl rfl (by unfold clamp; omega) (by unfold clamp; omega) (by omega)) ?_
  rintro _ _ ⟨b6, rfl, rfl⟩
  refine .p (.bld1 (fun v1 => [v1, (.slice none 0 0)]) rfl (by kernel_rfl)) ?_
  refine .does rfl (Does.box rfl rfl rfl) ?_
  rintro _ _ ⟨b8, rfl, rfl⟩
  refine .p (.a rfl) (.n (.t (.e (.ret1 rfl rfl fun w s => ⟨b8, ?_, trivial, finE .auto s⟩))))
  rfl

set_option maxRecDepth 20000 in
theorem tube_New {W : World} {n : Int} : Fn Tryz.prog W 56 [.int .i64 n] [] Nat (fun b => ptr b) (fun _ => True) (fun b => [tubH b (Tub.new n)]) := by
  refine Fn.intro (N := 8) func56 rfl ntmps56 rfl fun F => ?_
  show GoC _ _ _ _ _ _ [F]
  refine .s (.r (.p (.a rfl) (.n (.t (.s (.r (.p (.m rfl) ?_)))))))
  refine .p (.max2m rfl rfl) ?_
  refine .p (.min2m rfl rfl) ?_
  refine .p (.bld1 (fun v1 => [v1, (.slice none 0 0), (.slice none 0 0), (.slice none 0 0)]) rfl (by kernel_rfl)) ?_
  refine .does rfl (Does.box rfl rfl rfl) ?_
  rintro _ _ ⟨b7, rfl, rfl⟩
  refine .p (.a rfl) (.n (.t (.e (.ret1 rfl rfl fun w s => ⟨b7, ?_, trivial, finE .auto s⟩))))
  rfl

set_option maxRecDepth 20000 in
theorem wheel_New {W : World}  : Fn Tryz.prog W 53 [] [] Nat (fun b => ptr b) (fun _ => True) (fun b => [whlH b Whl.new]) := by
  refine Fn.intro (N := 4) func53 rfl ntmps53 rfl fun F => ?_
  show GoC _ _ _ _ _ _ [F]
  refine .s (.r (.p (.a rfl) (.n (.t (.s (.r ?_))))))
  refine .does rfl (Does.makeMap rfl) ?_
  rintro _ _ ⟨m1, rfl, rfl⟩
  refine .p (.bld1 (fun v1 => [(.int .i64 0), v1]) rfl (by kernel_rfl)) ?_
  refine .does rfl (Does.box rfl rfl rfl) ?_
  rintro _ _ ⟨b3, rfl, rfl⟩
  refine .p (.a rfl) (.n (.t (.e ?_)))
  refine .to (A := mapH m1 []) (Bs := [objAt m1 (.map #[] 0)]) .auto (fun h a => ⟨[], 0, ⟨rfl, List.nodup_nil, fun e he => (by cases he), List.nodup_nil⟩, a⟩) ?_
  refine .ret1 rfl rfl fun w s => ⟨b3, ?_, trivial, finE .auto s⟩
  rfl

set_option maxRecDepth 20000 in
theorem slot_handle {W : World} {o : Bool × Int} {n : Nat} (ho : 0 ≤ o.2 ∧ o.2 < 2199023255552) (hn : n < 65536) : Fn Tryz.prog W 115 [.agg (oneE o).toArray, .int .i64 (n : Int)] [] Unit (fun _ => .int .u64 (slotH o.2 n)) (fun _ => True) (fun _ => []) := by
  refine Fn.intro (N := 12) func115 rfl ntmps115 rfl fun F => ?_
  show GoC _ _ _ _ _ _ [F]
  refine .s (.r ?_)
  refine .does rfl (Does.box rfl rfl rfl) ?_
  rintro _ _ ⟨b2, rfl, rfl⟩
  refine .p (.a rfl) (.n (.t (.s (.r (.p (.f rfl) (.p (.l rfl) ?_))))))
  refine .p (.mulU rfl rfl (by omega)) ?_
  refine .p (.m rfl) ?_
  refine .p (.convU underlying3 underlying43 rfl (by omega)) ?_
  refine .p (.addU rfl rfl (by omega)) ?_
  refine .p (.addU rfl rfl (by omega)) ?_
  refine .p (.a rfl) (.n (.t (.e (.ret1 rfl rfl fun w s => ⟨(), ?_, trivial, finE .auto s⟩))))
  rfl

set_option maxRecDepth 20000 in
theorem slot_Take {W : World} {b : Nat} {l : List (Bool × Int)} (hl : TakeOk l) : Fn Tryz.prog W 84 [ptr b] [tblH b l] Unit (fun _ => .tuple #[.int .i64 (slotTake l).1, .int .u64 (slotTake l).2.1, .int .i64 (slotTake l).2.2.1]) (fun _ => True) (fun _ => [tblH b (slotTake l).2.2.2]) := by
  refine Fn.intro (N := 45) func84 rfl ntmps84 rfl fun F => ?_
  show GoC _ _ _ _ _ _ [tblH b l, F]
  refine .o1 (C := tblH b l) .auto rfl ?_
  rintro v -
  obtain ⟨hl1, hl2⟩ := hl
  refine .s (.r (.p (.a rfl) (.p (.a rfl) (.p (.a rfl) (.n (.t (.s (.s (.r (.p (.m rfl) (.p (.eqp rfl rfl) (.n (.t (.condF rfl ?_))))))))))))))
  refine .v (.t (.s (.s (.r (.p (.m rfl) (.p (.n rfl) (.p (.z rfl) (.p (.l rfl) (.p (.len rfl) (.p (.m rfl) (.n (.t (.b ?_)))))))))))))
  refine .loopK (X := Nat) [2, 3, 4, 5, 6, 14, 15, 16, 17, 18, 19, 20, 21, 22, 23, 24, 25, 26, 27, 28, 29, 30, 31, 32, 33, 34, 35, 36, 37, 38, 39, 40, 41, 42, 43, 44] (fun k => l.length - k) (fun k => k ≤ l.length ∧ slotFree? l 0 = slotFree? (l.drop k) k) (fun k => [(14, some (.int .i64 (k : Int)))]) (fun k => [arr b 0 [v], sl oneE 2 v l, F]) 0 ?_ ?_ ?_ ?_
  · exact ⟨Nat.zero_le _, by simp⟩
  · exact ⟨rfl, trivial⟩
  · exact fun w s => Ent.kept .auto w s
  rintro k ⟨hk, hn⟩
  refine .s (.r (.p (.lss rfl rfl) (.n (.t (.s (.condD rfl (fun h15 => ?_) (fun h15 => ?_)))))))
  · refine .v (.t (.s (.b (.s (.r (.p (.m rfl) (.p (.a rfl) (.n (.t (.s (.r (.p (.m rfl) (.p (.n rfl) (.p (.z rfl) (.p (.l rfl) (.p (.m rfl) ?_))))))))))))))))
    obtain ⟨o, hx⟩ := at_some (show k < l.length by omega)
    have ho := hl2 o (List.mem_of_getElem? hx)
    refine .p (.ix _ rfl rfl rfl (by first | omega | decide)) ?_
    refine .p (.a rfl) (.n (.t (.s (.r (.p (.m rfl) (.p (.n rfl) (.p (.z rfl) ?_)))))))
    refine .p (.lr rfl ‹_›) ?_
    refine .p (.not rfl) (.n (.t (.cond rfl (fun h27 => ?_) (fun h27 => ?_))))
    · refine .s (.r ?_)
      have hu : o.1 = false := by simpa using h27
      obtain ⟨o1, o2⟩ := o
      have hu : o1 = false := hu
      subst hu
      have hx2 : (l.set k (true, o2))[k]? = some (true, o2) := set_self hx
      have hx3 : ((l.set k (true, o2)).set k (true, o2 + 1))[k]? = some (true, o2 + 1) := set_self hx2
      refine .p (.m rfl) (.p (.n rfl) (.p (.z rfl) ?_))
      refine .does rfl (Does.storeSl0 (x' := (true, o2)) rfl rfl sizeOf4 rfl hx (by decide) rfl (by repeat (first | exact Repl.here | apply Repl.there))) ?_
      rintro _ _ ⟨rfl, rfl⟩
      refine .n (.t (.s (.r (.p (.m rfl) (.p (.n rfl) (.p (.o rfl) ?_))))))
      refine .p (.ld rfl (Cell.rd Rd.s ‹_› (by rfl))) ?_
      refine .p (.addU rfl rfl (by simp only at ho; omega)) ?_
      refine .p (.n rfl) (.p (.o rfl) ?_)
      refine .does rfl (Does.storeSl (c := 1) (x' := (true, o2 + 1)) rfl rfl sizeOf43 rfl hx2 (by decide) rfl (by repeat (first | exact Repl.here | apply Repl.there))) ?_
      rintro _ _ ⟨rfl, rfl⟩
      refine .n (.t (.s (.r (.p (.m rfl) (.p (.m rfl) (.p (.n rfl) ?_))))))
      refine .p (.la rfl (Cells.rd Rd.s ‹_›)) ?_
      refine .p (.m rfl) ?_
      refine .does rfl (Does.callE rfl call115 rfl (slot_handle (o := (true, o2 + 1)) (n := k) (by simp only at ho ⊢; omega) (by omega)) .auto) ?_
      rintro _ _ ⟨⟨⟩, -, rfl, rfl⟩
      refine .p (.a rfl) (.p (.a rfl) (.p (.a rfl) (.n (.t (.e (.br (.tr (.tr (.br (.tr ?_))))))))))
      have e : slotTake l = ((k : Int), slotH (o2 + 1) k, 0, (l.set k (true, o2)).set k (true, o2 + 1)) := by
        unfold slotTake; rw [hn, slot_hit hx rfl]; simp only [List.getD_eq_getElem?_getD, hx, List.set_set]; rfl
      rw [e]
      refine .ret3 rfl rfl rfl rfl fun w s => ⟨(), ?_, trivial, finE .auto s⟩
      rfl
    · refine .v (.b (.t (.r ?_)))
      refine .p (.inc rfl rfl (by omega)) ?_
      refine .p (.m rfl) (.n ?_)
      refine .againK (k + 1) .auto rfl ?_ ?_ ?_ ?_
      · first | omega | (dsimp only; omega)
      · exact ⟨by omega, hn.trans (slot_skip hx (by simpa using h27))⟩
      · exact ⟨rfl, trivial⟩
      · exact fun w s => Ent.kept .auto w s
  · refine .x (.tx (.tx (.bh (.t (.s (.r (.p (.a rfl) (.p (.a rfl) (.p (.a rfl) (.n (.t (.e ?_))))))))))))
    rw [show slotTake l = (0, 0, 2, l) from by unfold slotTake; rw [hn, slot_end (by omega)]]
    refine .ret3 rfl rfl rfl rfl fun w s => ⟨(), ?_, trivial, finE .auto s⟩
    rfl

set_option maxRecDepth 20000 in
theorem core_begin {W : World} {b : Nat} {ps : List (Option Nat)} {s : Spc} {f arg : Int} (hT : TakeOk s.table) (hl : s.thr.length = 16) (hf : ∀ n, slotFree? s.table 0 = some n → s.thr[n]? = some none) : Fn Tryz.prog W 57 [ptr b, .int .i64 f, .int .u64 arg] [spcX b ps s] (List (Option Nat)) (fun _ => .tuple #[.int .i64 (s.begin f arg).1, .int .i64 (s.begin f arg).2.1]) (fun qs => ∃ p, qs = psBegin s.table ps p) (fun qs => [spcX b qs (s.begin f arg).2.2]) := by
  refine Fn.intro (N := 45) func57 rfl ntmps57 rfl fun F => ?_
  show GoC _ _ _ _ _ _ [spcX b ps s, F]
  refine .o10 (C := spcX b ps s) .auto rfl ?_
  rintro fv sv pv bt vm bg vt bd bw vr -
  refine .know (fun w s => s.fact .auto thrs_same) fun hs => ?_
  refine .s (.r (.p (.a rfl) (.p (.a rfl) (.n (.t (.s (.r (.p (.m rfl) (.p (.n rfl) (.p (.f rfl) (.p (.l rfl) ?_)))))))))))
  refine .does rfl (Does.callE rfl call84 rfl (slot_Take hT) .auto) ?_
  rintro _ _ ⟨⟨⟩, -, rfl, rfl⟩
  refine .p (.m rfl) (.p (.extract rfl rfl) (.p (.extract rfl rfl) (.p (.extract rfl rfl) (.p (.a rfl) (.p (.a rfl) (.p (.a rfl) (.n (.t (.s (.s (.r (.p (.m rfl) (.p (.neq rfl rfl) (.n (.t (.condD rfl (fun h22 => ?_) (fun h22 => ?_)))))))))))))))))
  · refine .s (.r (.p (.m rfl) (.p (.a rfl) (.p (.a rfl) (.n (.t (.e (.tr ?_))))))))
    obtain ⟨hn, e⟩ := slotTake_no h22
    rw [e, begin_no hn]
    refine .ret2 rfl rfl rfl fun w s => ⟨ps, ?_, ⟨0, by unfold psBegin; rw [hn]⟩, finE .auto s⟩
    rfl
  · refine .v (.t (.s (.r ?_)))
    obtain ⟨n, hn, e⟩ := slotTake_ok (Decidable.of_not_not h22)
    have hfn := hf n hn
    have hn16 : n < 16 := hl ▸ (List.getElem?_eq_some_iff.1 hfn).1
    rw [e, begin_ok hn]
    refine .p (.m rfl) ?_
    refine .p (.bld3 (fun v1 v2 v3 => [(.int .i64 0), (.int .i64 0), (.int .u64 0), (.int .u64 0), (.int .u64 0), (.int .u64 0), (.int .u64 0), (.int .u64 0), (.int .u64 0), (.int .u64 0), v1, (.int .i64 0), (.int .u64 0), (.bool false), v2, (.int .i64 0), v3, (.int .u64 0)]) rfl rfl rfl (by kernel_rfl)) ?_
    refine .does rfl (Does.box rfl rfl rfl) ?_
    rintro _ _ ⟨b26, rfl, rfl⟩
    refine .p (.a rfl) (.n (.t (.s (.r (.p (.m rfl) (.p (.m rfl) (.p (.n rfl) (.p (.z rfl) (.p (.z rfl) ?_)))))))))
    refine .does rfl (Does.st sizeOf3 rfl rfl rfl rfl) ?_
    rintro _ _ ⟨rfl, rfl⟩
    refine .n (.t (.s (.r (.p (.m rfl) (.p (.m rfl) (.p (.n rfl) (.p (.z rfl) (.p (.f rfl) ?_))))))))
    refine .p (.ixArr _ underlying57 sizeOf43 rfl rfl rfl (by first | omega | decide)) ?_
    refine .does rfl (Does.st sizeOf43 rfl rfl rfl rfl) ?_
    rintro _ _ ⟨rfl, rfl⟩
    refine .n (.t (.s (.r (.p (.m rfl) (.p (.m rfl) (.p (.m rfl) (.p (.n rfl) (.p (.f rfl) ?_))))))))
    refine .p (.ixArr n underlying115 sizeOf114 rfl rfl rfl (by omega)) ?_
    refine .does rfl (Does.st sizeOf114 rfl rfl rfl (Nat.blt_eq.mpr (by show 9 + n * 1 < 31; omega))) ?_
    rintro _ _ ⟨rfl, rfl⟩
    rw [Nat.mul_one]
    have e9 := @spcC_set fv sv pv s.prg bt ps vm bg vt bd bw vr n (by omega) (hs.1.trans hl) (some b26)
    rw [show ptrO (some b26) = Value.pointer (some ⟨b26, 0, none⟩) from rfl] at e9
    rw [e9]
    refine .n (.t (.s (.r (.p (.m rfl) (.p (.a rfl) (.p (.a rfl) (.n (.t (.e ?_)))))))))
    refine .to (A := thrsH (ps.set n (some b26)) (s.thr.set n (some (thr0 f arg (slotH ((s.table.getD n (false, 0)).2 + 1) n))))) (Bs := [arr b26 0 (thrC (thr0 f arg (slotH ((s.table.getD n (false, 0)).2 + 1) n))), thrsH ps s.thr]) .auto (thrs_new hfn) ?_
    refine .ret2 rfl rfl rfl fun w s => ⟨ps.set n (some b26), ?_, ⟨b26, by unfold psBegin; rw [hn]⟩, finE .auto s⟩
    rfl

set_option maxRecDepth 20000 in
theorem core_Ready {W : World} {b : Nat} {ps : List (Option Nat)} {s : Spc} (hl : s.thr.length = 16) : Fn Tryz.prog W 22 [ptr b] [spcX b ps s] Value (fun u => u) (fun _ => True) (fun u => [sl intE 1 u s.ready, spcX b ps s]) := by
  refine Fn.intro (N := 31) func22 rfl ntmps22 rfl fun F => ?_
  show GoC _ _ _ _ _ _ [spcX b ps s, F]
  refine .o10 (C := spcX b ps s) .auto rfl ?_
  rintro fv sv pv bt vm bg vt bd bw vr -
  refine .know (fun w s => s.fact .auto thrs_same) fun hs => ?_
  refine .s (.r (.p (.a rfl) (.n (.t (.s (.s (.r (.p (.m rfl) (.p (.eqp rfl rfl) (.n (.t (.condF rfl ?_))))))))))))
  refine .v (.t (.s (.r (.p (.a rfl) (.n (.t (.s (.s (.r (.p (.m rfl) (.p (.n rfl) (.p (.f rfl) ?_))))))))))))
  refine .p (.la rfl (Cells.part0 (ds := ptrs ps) Cells.a rfl)) ?_
  refine .p (.m rfl) (.n (.t (.b ?_)))
  refine .loopK (X := Nat × Value × List Int) [3, 4, 5, 12, 13, 14, 15, 16, 17, 18, 19, 20, 21, 22, 23, 24, 25, 26, 27, 28, 29] (fun z => 16 - z.1) (fun z => z.1 ≤ 16 ∧ z.2.2.length ≤ z.1 ∧ s.ready = z.2.2 ++ readyFrom (s.thr.drop z.1) z.1) (fun z => [(12, some (.int .i64 (z.1 : Int))), (3, some z.2.1)]) (fun z => [sl intE 1 z.2.1 z.2.2, arr b 0 (spcC fv sv pv s.prg bt ps vm bg vt bd bw vr), codeH fv s.prg.funcs, tblH bt s.table, thrsH ps s.thr, sl wrdE 1 vm s.mem, gatesH bg s.gates, tubsH vt s.tubes, dskH bd s.disk, whlH bw s.wheel, sl recE 6 vr s.recs, F]) (0, .slice none 0 0, []) ?_ ?_ ?_ ?_
  · exact ⟨Nat.zero_le _, Nat.le_refl _, rfl⟩
  · exact ⟨rfl, rfl, trivial⟩
  · exact fun w s => Ent.kept .auto w s
  rintro ⟨k, u, xs⟩ ⟨hk, hxl, hn⟩
  simp only at hk hxl hn
  refine .s (.r (.p (.lss rfl rfl) (.n (.t (.s (.condD rfl (fun h13 => ?_) (fun h13 => ?_)))))))
  · refine .v (.t (.s (.b (.s (.r (.p (.m rfl) ?_))))))
    have hk16 : k < 16 := by omega
    refine .p (.index k underlying115 isAgg114 sizeOf114 rfl rfl rfl hk16 (by rw [List.getElem?_toArray]; exact ptrs_get ps hk16)) ?_
    refine .p (.a rfl) (.p (.a rfl) (.n (.t (.s (.r (.p (.m rfl) (.p (.neqp rfl rfl) (.p (.m rfl) ?_))))))))
    apply GoL.segA 6 24 18 [18, 19, 20, 21, 22, 23, 24] rfl
    · intro h18
      refine .g (.m rfl) ?_
      have h18' : ((ps.getD k none).map fun b => (⟨b, 0, none⟩ : Addr)).isNone = false := by simpa using h18
      obtain ⟨p, t, hp, ht⟩ := same_some hs (by omega) h18'
      rw [getD_of hp]
      refine .g (.n rfl) (.g (.f rfl) ?_)
      refine .g (.valW (Y.load isAgg3 rfl (Cell.sub0 (by repeat (first | exact At.here | refine At.there ?_)) (thrs_cell hp ht) rfl)) (why_at ht)) ?_
      refine .g (.eql rfl rfl) (.p (.t rfl rfl) (.n ?_))
      refine .seg .auto rfl (by first | exact fun _ h => h | exact Ent.kept .auto)
    · intro h18
      refine .u (.u (.u (.u (.u (.p (.u rfl rfl) (.n ?_))))))
      refine .seg .auto rfl (by first | exact fun _ h => h | exact Ent.kept .auto)
    refine .n (.t (.cond rfl (fun h24 => ?_) (fun h24 => ?_)))
    · simp only [Bool.and_eq_true, decide_eq_true_eq, Bool.not_eq_true'] at h24
      refine .r (.p (.m rfl) (.p (.m rfl) ?_))
      refine .does rfl (Does.bsl 3 rfl rfl (by kernel_rfl)) ?_
      rintro _ _ ⟨b27, rfl, rfl⟩
      refine .does rfl (Does.app1 (enc := intE) (k := 1) (k : Int) rfl underlying23 underlying23 typeInfo3 rfl rfl rfl (by decide) rfl rfl rfl .auto rfl .auto (by first | omega | (dsimp only; omega)) rfl) ?_
      rintro _ _ ⟨v28, rfl, rfl⟩
      refine .p (.a rfl) (.n (.b (.t (.r ?_))))
      refine .p (.inc rfl rfl (by omega)) ?_
      refine .p (.m rfl) (.n ?_)
      refine .againK (k + 1, v28, xs ++ [(k : Int)]) .auto rfl ?_ ?_ ?_ ?_
      · show 16 - (k + 1) < 16 - k; omega
      · exact ⟨by show k + 1 ≤ 16; omega, by simp; omega, by rw [hn, rdy_yes hs (by omega) h24]; simp⟩
      · exact ⟨rfl, rfl, trivial⟩
      · exact fun w s => Ent.kept .auto w s
    · simp only [Bool.and_eq_false_iff, decide_eq_false_iff_not, Bool.not_eq_false'] at h24
      refine .v (.b (.t (.r ?_)))
      refine .p (.inc rfl rfl (by omega)) ?_
      refine .p (.m rfl) (.n ?_)
      refine .againK (k + 1, u, xs) .auto rfl ?_ ?_ ?_ ?_
      · show 16 - (k + 1) < 16 - k; omega
      · exact ⟨by show k + 1 ≤ 16; omega, by show xs.length ≤ k + 1; omega, by rw [hn, rdy_no hs (by omega) h24]⟩
      · exact ⟨rfl, rfl, trivial⟩
      · exact fun w s => Ent.kept .auto w s
  · refine .x (.tx (.tx (.bh (.t (.s (.r (.p (.m rfl) (.p (.a rfl) (.n (.t (.e ?_)))))))))))
    obtain rfl : k = 16 := by omega
    rw [ready_end (by omega), List.append_nil] at hn
    subst hn
    refine .ret1 rfl rfl fun w s => ⟨_, ?_, trivial, finE .auto s⟩
    rfl

set_option maxRecDepth 20000 in
theorem gate_New {W : World} {A : HProp} {m c : Int} {v : Value} {sems : List Int} (hr : Rd W [A] intE 1 v sems) : Fn Tryz.prog W 51 [.int .i64 m, .int .i64 c, v] [A] Nat (fun b => ptr b) (fun _ => True) (fun b => [gatesH b (Gates.new m c sems), A]) := by
  refine Fn.intro (N := 42) func51 rfl ntmps51 rfl fun F => ?_
  haveI hRI : ∀ (H : List HProp) [HasH H A], ReadsC W H v intE 1 sems := fun H h => ⟨hr.at h.has⟩
  show GoC _ _ _ _ _ _ [A, F]
  refine .s (.r (.p (.a rfl) (.n (.t (.s ?_)))))
  refine .drawF [] [0, 2, 4, 0, 2, 4, 0, 4, 0] [0, 1, 3, 4, 2, 5, 6, 7, 8] rfl (by kernel_rfl) ?_
  refine GoF.q rfl rfl rfl Kept.auto (Y.m rfl) ?_
  refine GoF.callE rfl (.inl rfl) rfl (fun _ => Kept.auto) call83 rfl gate_clamp .auto (fun _ _ => Kept.auto) ?_
  rintro ⟨⟩ -
  refine GoF.q rfl rfl rfl Kept.auto (Y.m rfl) ?_
  refine GoF.callE rfl (.inl rfl) rfl (fun _ => Kept.auto) call83 rfl gate_clamp .auto (fun _ _ => Kept.auto) ?_
  rintro ⟨⟩ -
  refine GoF.fresh rfl rfl rfl (by decide) Kept.auto (fresh_make (enc := mtxE) (k := 3) ((Value.slice none 0 0 : Value), (⟨[], false, 0⟩ : Mtx)) (clamp m 4).toNat underlying162 typeInfo233 rfl rfl rfl rfl (by decide) (by decide) rfl rfl (by unfold clamp; omega) (by unfold clamp; omega) (by unfold clamp; omega)) ?_
  rintro b12
  refine GoF.fresh rfl rfl rfl (by decide) Kept.auto (fresh_make (enc := fstE) (k := 1) ((Value.slice none 0 0 : Value), ([] : List Wtr)) (clamp c 4).toNat underlying164 typeInfo170 rfl rfl rfl rfl (by decide) (by decide) rfl rfl (by unfold clamp; omega) (by unfold clamp; omega) (by unfold clamp; omega)) ?_
  rintro b15
  refine GoF.q rfl rfl rfl Kept.auto (Y.bld2 (fun v1 v2 => [v1, v2, (.slice none 0 0)]) rfl rfl (by kernel_rfl)) ?_
  refine GoF.fresh rfl rfl rfl (by decide) Kept.auto (fresh_box rfl rfl) ?_
  rintro b17
  refine GoF.q rfl rfl rfl Kept.auto (Y.a rfl) ?_
  refine GoF.nil ?_
  refine .t (.s (.s (.r ?_)))
  refine .to (A := sl mtxE 3 (.slice (some ⟨b12, 0, none⟩) (clamp m 4).toNat (clamp m 4).toNat) (List.replicate (clamp m 4).toNat ((Value.slice none 0 0 : Value), (⟨[], false, 0⟩ : Mtx)))) .auto (arr_slR rfl) ?_
  refine .to (A := sl fstE 1 (.slice (some ⟨b15, 0, none⟩) (clamp c 4).toNat (clamp c 4).toNat) (List.replicate (clamp c 4).toNat ((Value.slice none 0 0 : Value), ([] : List Wtr)))) .auto (arr_slR rfl) ?_
  have hr4 := hr.cut (lo := 0) (hi := min sems.length 4) (Nat.zero_le _) (by omega)
  rw [List.drop_zero, show sems.take (min sems.length 4) = sems.take 4 from by rw [List.take_eq_take_iff]; omega] at hr4
  haveI hI4 : ∀ (H : List HProp) [HasH H A], ReadsC W H (cut 1 0 (min sems.length 4) v) intE 1 (sems.take 4) := fun H h => ⟨hr4.at h.has⟩
  refine .p (.m rfl) (.p (.m rfl) (.p (.len rfl) ?_))
  refine .p (.min2m rfl rfl) ?_
  refine .p (.sliceTo (min sems.length 4) underlying23 sizeOf3 rfl rfl Rd.s (by omega) (by omega)) ?_
  refine .p (.len rfl) (.p (.m rfl) (.n (.t (.b ?_))))
  refine .loopK (X := Nat × Value) [9, 24, 25, 26, 27, 28, 29, 30, 31, 32, 33, 34, 35, 36, 37, 38, 39, 40] (fun z => (sems.take 4).length - z.1) (fun z => z.1 ≤ (sems.take 4).length) (fun z => [(24, some (.int .i64 (z.1 : Int)))]) (fun z => [arr b17 0 [.slice (some ⟨b12, 0, none⟩) (clamp m 4).toNat (clamp m 4).toNat, .slice (some ⟨b15, 0, none⟩) (clamp c 4).toNat (clamp c 4).toNat, z.2], sl smpE 2 z.2 (((sems.take 4).take z.1).map (fun n => ((Value.slice none 0 0 : Value), (⟨[], clamp n 1048576⟩ : Smp)))), sl mtxE 3 (.slice (some ⟨b12, 0, none⟩) (clamp m 4).toNat (clamp m 4).toNat) (List.replicate (clamp m 4).toNat ((Value.slice none 0 0 : Value), (⟨[], false, 0⟩ : Mtx))), sl fstE 1 (.slice (some ⟨b15, 0, none⟩) (clamp c 4).toNat (clamp c 4).toNat) (List.replicate (clamp c 4).toNat ((Value.slice none 0 0 : Value), ([] : List Wtr))), A, F]) (0, .slice none 0 0) ?_ ?_ ?_ ?_
  · exact Nat.zero_le _
  · exact ⟨rfl, trivial⟩
  · exact fun w s => Ent.kept .auto w s
  rintro ⟨k, u⟩ hk
  simp only at hk
  have h4 : (sems.take 4).length ≤ 4 := by simp; omega
  have h44 : ((sems.take 4).take k).length ≤ 4 := by simp; omega
  refine .s (.r (.p (.lss rfl rfl) (.n (.t (.s (.condD rfl (fun h25 => ?_) (fun h25 => ?_)))))))
  · refine .v (.t (.s (.b (.s (.r ?_)))))
    obtain ⟨x, hx⟩ := at_some (show k < (sems.take 4).length by omega)
    refine .p (.ix _ rfl rfl rfl (by first | omega | decide)) ?_
    refine .p (.lr rfl ‹_›) ?_
    refine .p (.a rfl) (.n (.t ?_))
    refine .draw [arr b17 0 [.slice (some ⟨b12, 0, none⟩) (clamp m 4).toNat (clamp m 4).toNat, .slice (some ⟨b15, 0, none⟩) (clamp c 4).toNat (clamp c 4).toNat, u]] [0, 0, 0, 0, 0, 1, 2, 1, 2, 2, 1, 1, 3] rfl (by kernel_rfl) ?_
    refine .q (.m rfl) (.q (.m rfl) (.q (.n rfl) (.q (.f rfl) (.q (.l rfl) (.p (.m rfl) ?_)))))
    refine .d2 rfl Kept.auto (Does.callE rfl call83 rfl gate_clamp .auto) (by rintro _ _ ⟨⟨⟩, -, rfl, rfl⟩; exact Kept.auto) ?_
    rintro _ _ ⟨⟨⟩, -, rfl, rfl⟩
    refine .p (.bld1 (fun v1 => [(.slice none 0 0), v1]) rfl (by kernel_rfl)) ?_
    refine .d2 rfl Kept.auto (Does.bsl 172 rfl rfl (by kernel_rfl)) (by rintro _ _ ⟨b36, rfl, rfl⟩; exact Kept.auto) ?_
    rintro _ _ ⟨b36, rfl, rfl⟩
    refine .d2 rfl Kept.auto (Does.app1 (enc := smpE) (k := 2) ((Value.slice none 0 0 : Value), (⟨[], clamp x 1048576⟩ : Smp)) rfl underlying165 underlying165 typeInfo172 rfl rfl rfl (by decide) rfl rfl rfl .auto rfl .auto (by rw [List.length_map]; dsimp only; omega) rfl) (by rintro _ _ ⟨v37, rfl, rfl⟩; exact Kept.auto) ?_
    rintro _ _ ⟨v37, rfl, rfl⟩
    refine .p (.n rfl) (.p (.f rfl) ?_)
    refine .d3 rfl (Does.stS sizeOf165 rfl rfl rfl) ?_
    rintro _ _ ⟨rfl, rfl⟩
    refine .n (.b (.t (.r ?_)))
    refine .p (.inc rfl rfl (by omega)) ?_
    refine .p (.m rfl) (.n ?_)
    refine .againK (k + 1, v37) .auto rfl ?_ ?_ ?_ ?_
    · show (sems.take 4).length - (k + 1) < (sems.take 4).length - k; omega
    · show k + 1 ≤ _; omega
    · exact ⟨rfl, trivial⟩
    · show ∀ w, Sat _ w _ → Sat _ w (seps [_, sl smpE 2 v37 (((sems.take 4).take (k + 1)).map (fun n => ((Value.slice none 0 0 : Value), (⟨[], clamp n 1048576⟩ : Smp)))), _, _, A, F])
      rw [gates_sems hx]
      exact fun w s => Ent.kept .auto w s
  · refine .x (.tx (.tx (.bh (.t (.s (.r (.p (.m rfl) (.p (.a rfl) (.n (.t (.e ?_)))))))))))
    obtain rfl : k = (sems.take 4).length := by omega
    rw [List.take_length]
    refine .ret1 rfl rfl fun w s => ⟨b17, ?_, trivial, finE (by repeat (first | exact Ent.nil | (apply Ent.cons; · repeat (first | exact Take.here | apply Take.there)) | apply Ent.opt0 | apply Ent.opt1 | apply Ent.void | apply Ent.emp0 | apply Ent.two | (apply Ent.allV; · exact sl_void) | (apply Ent.allM; · exact fun _ => sl_void) | apply Ent.f1 rfl | apply Ent.f2 rfl | apply Ent.f3 rfl | apply Ent.f4 rfl | apply Ent.f10 rfl | apply Ent.grp | assumption | exact trivial | rfl | omega | (focus (simp [Gates.new]; done)) | (unfold Gates.new; simp only [List.map_map]; rfl))) s⟩
    rfl

set_option maxRecDepth 20000 in
theorem core_New {W : World} {A : HProp} {v : PrgV} (hp : PrgRd W [A] v) (hl : v.fs.length ≤ 1000000000 ∧ v.sems.length ≤ 1000000000 ∧ v.pipes.length ≤ 1000000000) : Fn Tryz.prog W 15 [.agg (prgE v).toArray] [A] (Option Nat) (fun o => .tuple #[ptrO o, .int .i64 (checkI v.p)]) (fun o => o.isSome = decide (checkI v.p = 0)) (fun o => [optH (fun b => spcH b (Spc.new v.p)) o, A]) := by
  refine Fn.intro (N := 83) func15 rfl ntmps15 rfl fun F => ?_
  haveI hI1 : ∀ (H : List HProp) [HasH H A], ReadsC W H v.fv fstE 1 v.fs := fun H h => ⟨hp.fs.at h.has⟩
  haveI hI2 : ∀ (H : List HProp) [HasH H A], ReadsC W H v.sv intE 1 v.sems := fun H h => ⟨hp.sems.at h.has⟩
  haveI hI3 : ∀ (H : List HProp) [HasH H A], ReadsC W H v.pv intE 1 v.pipes := fun H h => ⟨hp.pipes.at h.has⟩
  show GoC _ _ _ _ _ _ [A, F]
  refine .know (fun w s => prg_one hp .here w s) fun hone => ?_
  refine .s (.r ?_)
  refine .does rfl (Does.box rfl rfl rfl) ?_
  rintro _ _ ⟨b1, rfl, rfl⟩
  refine .p (.a rfl) (.p (.a rfl) (.n (.t (.s (.s (.r (.p (.lA rfl) ?_)))))))
  refine .does rfl (Does.callE rfl call49 rfl (inst_Check hp hl) .auto) ?_
  rintro _ _ ⟨⟨⟩, -, rfl, rfl⟩
  refine .p (.a rfl) (.n (.t (.s (.r (.p (.m rfl) (.p (.neq rfl rfl) (.n (.t (.condD rfl (fun h13 => ?_) (fun h13 => ?_))))))))))
  · refine .s (.r (.p (.m rfl) (.p (.a rfl) (.p (.a rfl) (.n (.t (.e (.tr (.ret2 rfl rfl rfl fun w s => ⟨none, ?_, (decide_eq_false h13).symm, finE .auto s⟩)))))))))
    rfl
  · refine .v (.t (.s ?_))
    refine .drawF [arr b1 0 (prgE v)] [0, 2, 0, 0, 4, 0, 0, 0, 0, 0, 0, 2, 0, 0, 2, 2, 0, 4, 0] [0, 1, 2, 3, 5, 6, 7, 8, 9, 10, 11, 12, 13, 14, 15, 4, 16, 17, 18] rfl (by kernel_rfl) ?_
    have hcs := caps_and (check_caps (Decidable.of_not_not h13))
    have hw : 0 ≤ v.words ∧ v.words ≤ 64 := hcs.2.2.1
    have hf8 : v.fs.length ≤ 8 := by simpa [PrgV.p] using hcs.2.1
    have hp4 : v.pipes.length ≤ 4 := hcs.2.2.2.2.2.2.2.2.1
    refine GoF.q rfl rfl rfl Kept.auto (Y.lda isAgg25 rfl Cells.a (by exact sizeOf25)) ?_
    refine GoF.callE rfl (.inl rfl) rfl (fun _ => Kept.auto) call50 rfl slot_New .auto (fun _ _ => Kept.auto) ?_
    rintro x16 -
    refine GoF.q rfl rfl rfl Kept.auto (Y.fieldAddr0 1 3 underlying25 rfl sizeOf3 rfl) ?_
    refine GoF.q rfl rfl rfl Kept.auto (Y.load isAgg3 rfl (Cell.a (by rfl))) ?_
    refine GoF.q rfl rfl rfl Kept.auto (Y.fieldAddr0 2 3 underlying25 rfl sizeOf3 rfl) ?_
    refine GoF.q rfl rfl rfl Kept.auto (Y.load isAgg3 rfl (Cell.a (by rfl))) ?_
    refine GoF.q rfl rfl rfl Kept.auto (Y.fieldAddr0 3 3 underlying25 rfl sizeOf3 rfl) ?_
    refine GoF.q rfl rfl rfl Kept.auto (Y.load isAgg3 rfl (Cell.a (by rfl))) ?_
    refine GoF.q rfl rfl rfl Kept.auto (Y.fieldAddr0 4 23 underlying25 rfl sizeOf23 rfl) ?_
    refine GoF.q rfl rfl rfl Kept.auto (Y.load isAgg23 rfl (Cell.a (by rfl))) ?_
    refine GoF.callE rfl (.inl rfl) rfl (fun _ => Kept.auto) call51 rfl (gate_New hp.sems) .auto (fun _ _ => Kept.auto) ?_
    rintro x26 -
    refine GoF.q rfl rfl rfl Kept.auto (Y.fieldAddr0 6 3 underlying25 rfl sizeOf3 rfl) ?_
    refine GoF.q rfl rfl rfl Kept.auto (Y.load isAgg3 rfl (Cell.a (by rfl))) ?_
    refine GoF.callE rfl (.inl rfl) rfl (fun _ => Kept.auto) call52 rfl disk_New .auto (fun _ _ => Kept.auto) ?_
    rintro x29 -
    refine GoF.callE rfl (.inl rfl) rfl (fun _ => Kept.auto) call53 rfl wheel_New .auto (fun _ _ => Kept.auto) ?_
    rintro x30 -
    refine GoF.fresh rfl rfl rfl (by decide) Kept.auto (fresh_make (enc := wrdE) (k := 1) 0 v.words.toNat underlying51 typeInfo43 rfl rfl rfl rfl (by decide) (by decide) rfl rfl (by omega) (by omega) (by omega)) ?_
    rintro b19
    refine GoF.q rfl rfl rfl Kept.auto (Y.bld6 (fun _ v2 v3 v4 v5 v6 => [v.fv, .int .i64 v.words, .int .i64 v.mutexes, .int .i64 v.conds, v.sv, v.pv, .int .i64 v.blocks, .int .i64 v.prio, v2, .pointer none, .pointer none, .pointer none, .pointer none, .pointer none, .pointer none, .pointer none, .pointer none, .pointer none, .pointer none, .pointer none, .pointer none, .pointer none, .pointer none, .pointer none, .pointer none, v3, v4, .slice none 0 0, v5, v6, .slice none 0 0]) rfl rfl rfl rfl rfl rfl (by kernel_rfl)) ?_
    refine GoF.fresh rfl rfl rfl (by decide) Kept.auto (fresh_box rfl rfl) ?_
    rintro b32
    refine GoF.q rfl rfl rfl Kept.auto (Y.a rfl) ?_
    refine GoF.nil ?_
    refine .t (.s (.r ?_))
    refine .to (A := sl wrdE 1 (.slice (some ⟨b19, 0, none⟩) v.words.toNat v.words.toNat) (List.replicate v.words.toNat 0)) .auto (arr_slR rfl) ?_
    refine .p (.m rfl) (.p (.z rfl) (.p (.l rfl) ?_))
    refine .does rfl (Does.callE rfl call54 rfl (CloneNN hp.fs hl.1 hone) .auto) ?_
    rintro _ _ ⟨u36, -, rfl, rfl⟩
    refine .p (.n rfl) (.p (.z rfl) (.p (.z rfl) ?_))
    refine .does rfl (Does.stS sizeOf22 rfl rfl rfl) ?_
    rintro _ _ ⟨rfl, rfl⟩
    refine .n (.t (.s (.s (.r (.p (.m rfl) (.p (.n rfl) (.p (.z rfl) (.p (.z rfl) (.p (.l rfl) (.p (.len rfl) (.p (.m rfl) (.n (.t (.b ?_))))))))))))))
    refine .loopK (X := Nat × List (Value × List Ins)) [6, 7, 46, 47, 48, 49, 50, 51, 52, 53, 54, 55, 56, 57, 58, 59, 60] (fun z => v.fs.length - z.1) (fun z => z.1 ≤ v.fs.length ∧ z.2.length = z.1 ∧ z.2.map (·.2) = (v.fs.take z.1).map (·.2)) (fun z => [(46, some (.int .i64 (z.1 : Int)))]) (fun z => [arr b32 0 [u36, .int .i64 v.words, .int .i64 v.mutexes, .int .i64 v.conds, v.sv, v.pv, .int .i64 v.blocks, .int .i64 v.prio, ptr x16, .pointer none, .pointer none, .pointer none, .pointer none, .pointer none, .pointer none, .pointer none, .pointer none, .pointer none, .pointer none, .pointer none, .pointer none, .pointer none, .pointer none, .pointer none, .pointer none, .slice (some ⟨b19, 0, none⟩) v.words.toNat v.words.toNat, ptr x26, .slice none 0 0, ptr x29, ptr x30, .slice none 0 0], sl fstE 1 u36 (z.2 ++ v.fs.drop z.1), allH (fun x => sl insE 5 x.1 x.2) z.2, sl wrdE 1 (.slice (some ⟨b19, 0, none⟩) v.words.toNat v.words.toNat) (List.replicate v.words.toNat 0), tblH x16 (List.replicate (clamp 16 1024).toNat (false, 0)), gatesH x26 (Gates.new v.mutexes v.conds v.sems), dskH x29 (Dsk.new v.blocks), whlH x30 Whl.new, arr b1 0 (prgE v), A, F]) (0, []) ?_ ?_ ?_ ?_
    · exact ⟨Nat.zero_le _, rfl, by simp⟩
    · exact ⟨rfl, trivial⟩
    · exact fun w s => Ent.kept .auto w s
    rintro ⟨k, cl⟩ ⟨hk, hcl, hcm⟩
    simp only at hk hcl hcm
    refine .s (.r (.p (.lss rfl rfl) (.n (.t (.s (.condD rfl (fun h47 => ?_) (fun h47 => ?_)))))))
    · refine .v (.t (.s (.b (.s (.r (.p (.m rfl) ?_))))))
      obtain ⟨x, hx⟩ := at_some (show k < v.fs.length by omega)
      have hx2 := fs_get hcl hx
      have hi := hp.ins x (List.mem_of_getElem? hx)
      have hx256 : x.2.length ≤ 256 := caps_fs (check_caps (Decidable.of_not_not h13)) (List.mem_of_getElem? hx)
      refine .p (.ix k rfl rfl rfl (by simp; omega)) ?_
      refine .p (.lr rfl ‹_›) ?_
      refine .p (.a rfl) (.p (.a rfl) (.n (.t ?_)))
      refine .draw [arr b32 0 [u36, .int .i64 v.words, .int .i64 v.mutexes, .int .i64 v.conds, v.sv, v.pv, .int .i64 v.blocks, .int .i64 v.prio, ptr x16, .pointer none, .pointer none, .pointer none, .pointer none, .pointer none, .pointer none, .pointer none, .pointer none, .pointer none, .pointer none, .pointer none, .pointer none, .pointer none, .pointer none, .pointer none, .pointer none, .slice (some ⟨b19, 0, none⟩) v.words.toNat v.words.toNat, ptr x26, .slice none 0 0, ptr x29, ptr x30, .slice none 0 0], sl fstE 1 u36 (cl ++ v.fs.drop k)] [0, 0, 0, 0, 0, 0, 1, 2, 1, 3] rfl (by kernel_rfl) ?_
      refine .q (.m rfl) (.q (.n rfl) (.q (.z rfl) (.q (.z rfl) (.q (.l rfl) (.q (.m rfl) (.p (.m rfl) ?_))))))
      refine .d2 rfl Kept.auto (Does.callE rfl call55 rfl (CloneN hi (by omega)) .auto) (by rintro _ _ ⟨u58, -, rfl, rfl⟩; exact Kept.auto) ?_
      rintro _ _ ⟨u58, -, rfl, rfl⟩
      refine .know (fun w s => Rd.isSl (Rd.sl .here) w s) fun hu58 => ?_
      refine .p (.ix k rfl rfl rfl (by simp; omega)) ?_
      refine .d3 rfl (Does.storeSl0 (x' := (u58, x.2)) rfl rfl sizeOf120 (isSl_one hu58) (fs_get hcl hx) (by decide) rfl (by repeat (first | exact Repl.here | apply Repl.there))) ?_
      rintro _ _ ⟨rfl, rfl⟩
      refine .n (.b (.t (.r ?_)))
      refine .p (.inc rfl rfl (by omega)) ?_
      refine .p (.m rfl) (.n ?_)
      refine .againK (k + 1, cl ++ [(u58, x.2)]) .auto rfl ?_ ?_ ?_ ?_
      · show v.fs.length - (k + 1) < v.fs.length - k; omega
      · exact ⟨by show k + 1 ≤ _; omega, by simp [hcl], by rw [take_snoc hx]; simp [hcm]⟩
      · exact ⟨rfl, trivial⟩
      · show ∀ w, Sat _ w _ → Sat _ w (seps [_, sl fstE 1 u36 ((cl ++ [(u58, x.2)]) ++ v.fs.drop (k + 1)), allH (fun x => sl insE 5 x.1 x.2) (cl ++ [(u58, x.2)]), _, _, _, _, _, _, A, F])
        rw [← fs_step hcl hx, allH_snoc]
        exact fun w s => Ent.kept .auto w s
    · refine .x (.tx (.tx (.bh (.t (.s (.s (.r (.p (.f rfl) (.p (.l rfl) (.p (.len rfl) (.p (.m rfl) (.n (.t (.b ?_))))))))))))))
      obtain rfl : k = v.fs.length := by omega
      rw [List.drop_length, List.append_nil]
      refine .loopK (X := Nat × Value × List (Nat × Tub)) [9, 64, 65, 66, 67, 68, 69, 70, 71, 72, 73, 74, 75, 76, 77, 78, 79] (fun z => v.pipes.length - z.1) (fun z => z.1 ≤ v.pipes.length ∧ z.2.2.length = z.1 ∧ z.2.2.map (·.2) = (v.pipes.take z.1).map Tub.new) (fun z => [(64, some (.int .i64 (z.1 : Int)))]) (fun z => [arr b32 0 [u36, .int .i64 v.words, .int .i64 v.mutexes, .int .i64 v.conds, v.sv, v.pv, .int .i64 v.blocks, .int .i64 v.prio, ptr x16, .pointer none, .pointer none, .pointer none, .pointer none, .pointer none, .pointer none, .pointer none, .pointer none, .pointer none, .pointer none, .pointer none, .pointer none, .pointer none, .pointer none, .pointer none, .pointer none, .slice (some ⟨b19, 0, none⟩) v.words.toNat v.words.toNat, ptr x26, z.2.1, ptr x29, ptr x30, .slice none 0 0], sl ptrE 1 z.2.1 z.2.2, allH (fun x => tubH x.1 x.2) z.2.2, sl fstE 1 u36 cl, allH (fun x => sl insE 5 x.1 x.2) cl, sl wrdE 1 (.slice (some ⟨b19, 0, none⟩) v.words.toNat v.words.toNat) (List.replicate v.words.toNat 0), tblH x16 (List.replicate (clamp 16 1024).toNat (false, 0)), gatesH x26 (Gates.new v.mutexes v.conds v.sems), dskH x29 (Dsk.new v.blocks), whlH x30 Whl.new, arr b1 0 (prgE v), A, F]) (0, .slice none 0 0, []) ?_ ?_ ?_ ?_
      · exact ⟨Nat.zero_le _, rfl, by simp⟩
      · exact ⟨rfl, trivial⟩
      · exact fun w s => Ent.kept .auto w s
      rintro ⟨k, vt, ts⟩ ⟨hk, htl, htm⟩
      simp only at hk htl htm
      refine .s (.r (.p (.lss rfl rfl) (.n (.t (.s (.condD rfl (fun h65 => ?_) (fun h65 => ?_)))))))
      · refine .v (.t (.s (.b (.s (.r ?_)))))
        obtain ⟨x, hx⟩ := at_some (show k < v.pipes.length by omega)
        refine .p (.ix _ rfl rfl rfl (by first | omega | decide)) ?_
        refine .p (.lr rfl ‹_›) ?_
        refine .p (.a rfl) (.n (.t ?_))
        refine .draw [arr b32 0 [u36, .int .i64 v.words, .int .i64 v.mutexes, .int .i64 v.conds, v.sv, v.pv, .int .i64 v.blocks, .int .i64 v.prio, ptr x16, .pointer none, .pointer none, .pointer none, .pointer none, .pointer none, .pointer none, .pointer none, .pointer none, .pointer none, .pointer none, .pointer none, .pointer none, .pointer none, .pointer none, .pointer none, .pointer none, .slice (some ⟨b19, 0, none⟩) v.words.toNat v.words.toNat, ptr x26, vt, ptr x29, ptr x30, .slice none 0 0]] [0, 0, 0, 0, 0, 1, 2, 2, 2, 1, 1, 3] rfl (by kernel_rfl) ?_
        refine .q (.m rfl) (.q (.m rfl) (.q (.n rfl) (.q (.f rfl) (.q (.l rfl) (.p (.m rfl) ?_)))))
        refine .d2 rfl Kept.auto (Does.callE rfl call56 rfl tube_New .auto) (by rintro _ _ ⟨x74, -, rfl, rfl⟩; exact Kept.auto) ?_
        rintro _ _ ⟨x74, -, rfl, rfl⟩
        refine .d2 rfl Kept.auto (Does.bsl 124 rfl rfl (by kernel_rfl)) (by rintro _ _ ⟨b75, rfl, rfl⟩; exact Kept.auto) ?_
        rintro _ _ ⟨b75, rfl, rfl⟩
        refine .d2 rfl Kept.auto (Does.app1 (enc := ptrE) (k := 1) ((x74, Tub.new x) : Nat × Tub) rfl underlying116 underlying116 typeInfo124 rfl rfl rfl (by decide) rfl rfl rfl .auto rfl .auto (by first | omega | (dsimp only; omega)) rfl) (by rintro _ _ ⟨v76, rfl, rfl⟩; exact Kept.auto) ?_
        rintro _ _ ⟨v76, rfl, rfl⟩
        refine .p (.n rfl) (.p (.f rfl) ?_)
        refine .d3 rfl (Does.stS sizeOf116 rfl rfl rfl) ?_
        rintro _ _ ⟨rfl, rfl⟩
        refine .n (.b (.t (.r ?_)))
        refine .p (.inc rfl rfl (by omega)) ?_
        refine .p (.m rfl) (.n ?_)
        refine .againK (k + 1, v76, ts ++ [(x74, Tub.new x)]) .auto rfl ?_ ?_ ?_ ?_
        · show v.pipes.length - (k + 1) < v.pipes.length - k; omega
        · exact ⟨by show k + 1 ≤ _; omega, by simp [htl], by rw [take_snoc hx]; simp [htm]⟩
        · exact ⟨rfl, trivial⟩
        · show ∀ w, Sat _ w _ → Sat _ w (seps [_, sl ptrE 1 v76 (ts ++ [(x74, Tub.new x)]), allH (fun x => tubH x.1 x.2) (ts ++ [(x74, Tub.new x)]), _, _, _, _, _, _, _, _, A, F])
          rw [allH_snoc]
          exact fun w s => Ent.kept .auto w s
      · refine .x (.tx (.tx (.bh (.t (.s (.r (.p (.m rfl) ?_)))))))
        obtain rfl : k = v.pipes.length := by omega
        have htm2 : ts.map (·.2) = (spc0 v.p).tubes := by rw [htm, List.take_length]; rfl
        have hcm2 : cl.map (·.2) = (spc0 v.p).prg.funcs := by rw [hcm, List.take_length]; rfl
        refine .does rfl (Does.callE rfl call57 rfl (core_begin (ps := List.replicate 16 none) (s := spc0 v.p) (spc0_take _) rfl (spc0_free _)) .auto) ?_
        rintro _ _ ⟨qs, -, rfl, rfl⟩
        refine .n (.t (.s (.r (.p (.m rfl) (.p (.a rfl) (.p (.a rfl) (.n (.t (.e (.ret2 rfl rfl rfl fun w s => ⟨some b32, ?_, (decide_eq_true (Decidable.of_not_not h13)).symm, finE .auto s⟩))))))))))
        rw [Decidable.of_not_not h13]; rfl

end Go.SLYtpcjdohmjmeehaaGreat
namespace Go.SLYtpcjdohmjmeehaaGreat
open Go Go.RowKit Go.Proofs Go.Proofs.Tryz

set_option maxRecDepth 20000 in
theorem DeleteG {W : World} {v : Value} {xs : List Wtr} {i : Nat} (hi : i < xs.length) (_hl : xs.length ≤ 1000000000) : Fn Tryz.prog W 158 [v, .int .i64 (i : Int), .int .i64 ((i + 1 : Nat) : Int)] [sl wtrE 2 v xs] Value (fun u => u) (fun _ => True) (fun u => [sl wtrE 2 u (xs.eraseIdx i)]) := by
  refine Fn.intro (N := 33) func158 rfl ntmps158 rfl fun F => ?_
  show GoC _ _ _ _ _ _ [sl wtrE 2 v xs, F]
  have h0 : xs ≠ [] := by intro e; rw [e] at hi; simp at hi
  refine .know (fun w s => s.fact .auto (sl_shape h0)) fun e => ?_
  obtain ⟨b, cap, rfl, hc⟩ := e
  refine .s (.r (.p (.a rfl) (.n (.t (.s (.r (.p (.m rfl) (.p (.m rfl) (.p (.m rfl) (.p (.m rfl) (.p (.len rfl) ?_)))))))))))
  refine .p (.slice3 i (i + 1) xs.length underlying168 sizeOf229 rfl rfl rfl rfl rfl rfl rfl (by omega) (by omega) hc) ?_
  refine .n (.t (.s (.s (.r (.p (.m rfl) (.p (.m rfl) (.p (.eql rfl rfl) (.n (.t (.condD rfl (fun h16 => ?_) (fun h16 => ?_)))))))))))
  · exact absurd h16 (by omega)
  · refine .v (.t (.s (.r (.p (.m rfl) (.p (.len rfl) (.p (.a rfl) (.n (.t (.s ?_)))))))))
    refine .draw [] [1, 1, 1, 1, 1, 1, 3, 1] rfl (by kernel_rfl) ?_
    refine .p (.m rfl) (.p (.m rfl) ?_)
    refine .p (.slice0X i underlying168 sizeOf229 rfl rfl rfl (by omega)) ?_
    refine .p (.m rfl) (.p (.m rfl) ?_)
    refine .p (.sliceX0 (i + 1) underlying168 sizeOf229 rfl rfl rfl (by omega)) ?_
    refine .d3 rfl (Does.appendDel rfl underlying168 underlying168 typeInfo229 rfl rfl rfl .auto (by omega) (by omega) (wtrE_one _) h0) ?_
    rintro _ _ ⟨rfl, rfl⟩
    refine .p (.a rfl) (.n (.t (.s (.r (.p (.m rfl) (.p (.m rfl) (.p (.lens rfl) (.p (.m rfl) ?_))))))))
    refine .p (.sliceX (i + (xs.length - (i + 1))) xs.length underlying168 sizeOf229 rfl rfl rfl rfl rfl (by omega) hc) ?_
    refine .does rfl (Does.clearSp (xs := xs.take i ++ xs.drop (i + 1)) underlying168 zeroValue229 rfl rfl rfl rfl (by rw [List.length_append, List.length_take, List.length_drop]; omega) (by omega) .auto) ?_
    rintro _ _ ⟨rfl, rfl⟩
    refine .n (.t (.s (.r (.p (.m rfl) (.p (.a rfl) (.n (.t (.e ?_))))))))
    rw [erase_td]
    refine .ret1 rfl rfl fun w s => ⟨_, ?_, trivial, finE .auto s⟩
    rfl

set_option maxRecDepth 20000 in
theorem DeleteQ {W : World} {v : Value} {xs : List Rqs} {i : Nat} (hi : i < xs.length) (_hl : xs.length ≤ 1000000000) : Fn Tryz.prog W 99 [v, .int .i64 (i : Int), .int .i64 ((i + 1 : Nat) : Int)] [sl rqsE 4 v xs] Value (fun u => u) (fun _ => True) (fun u => [sl rqsE 4 u (xs.eraseIdx i)]) := by
  refine Fn.intro (N := 33) func99 rfl ntmps99 rfl fun F => ?_
  show GoC _ _ _ _ _ _ [sl rqsE 4 v xs, F]
  have h0 : xs ≠ [] := by intro e; rw [e] at hi; simp at hi
  refine .know (fun w s => s.fact .auto (sl_shape h0)) fun e => ?_
  obtain ⟨b, cap, rfl, hc⟩ := e
  refine .s (.r (.p (.a rfl) (.n (.t (.s (.r (.p (.m rfl) (.p (.m rfl) (.p (.m rfl) (.p (.m rfl) (.p (.len rfl) ?_)))))))))))
  refine .p (.slice3 i (i + 1) xs.length underlying173 sizeOf142 rfl rfl rfl rfl rfl rfl rfl (by omega) (by omega) hc) ?_
  refine .n (.t (.s (.s (.r (.p (.m rfl) (.p (.m rfl) (.p (.eql rfl rfl) (.n (.t (.condD rfl (fun h16 => ?_) (fun h16 => ?_)))))))))))
  · exact absurd h16 (by omega)
  · refine .v (.t (.s (.r (.p (.m rfl) (.p (.len rfl) (.p (.a rfl) (.n (.t (.s ?_)))))))))
    refine .draw [] [1, 1, 1, 1, 1, 1, 3, 1] rfl (by kernel_rfl) ?_
    refine .p (.m rfl) (.p (.m rfl) ?_)
    refine .p (.slice0X i underlying173 sizeOf142 rfl rfl rfl (by omega)) ?_
    refine .p (.m rfl) (.p (.m rfl) ?_)
    refine .p (.sliceX0 (i + 1) underlying173 sizeOf142 rfl rfl rfl (by omega)) ?_
    refine .d3 rfl (Does.appendDel rfl underlying173 underlying173 typeInfo142 rfl rfl rfl .auto (by omega) (by omega) (rqsE_one _) h0) ?_
    rintro _ _ ⟨rfl, rfl⟩
    refine .p (.a rfl) (.n (.t (.s (.r (.p (.m rfl) (.p (.m rfl) (.p (.lens rfl) (.p (.m rfl) ?_))))))))
    refine .p (.sliceX (i + (xs.length - (i + 1))) xs.length underlying173 sizeOf142 rfl rfl rfl rfl rfl (by omega) hc) ?_
    refine .does rfl (Does.clearSp (xs := xs.take i ++ xs.drop (i + 1)) underlying173 zeroValue142 rfl rfl rfl rfl (by rw [List.length_append, List.length_take, List.length_drop]; omega) (by omega) .auto) ?_
    rintro _ _ ⟨rfl, rfl⟩
    refine .n (.t (.s (.r (.p (.m rfl) (.p (.a rfl) (.n (.t (.e ?_))))))))
    rw [erase_td]
    refine .ret1 rfl rfl fun w s => ⟨_, ?_, trivial, finE .auto s⟩
    rfl

set_option maxRecDepth 20000 in
theorem DeleteP {W : World} {v : Value} {xs : List Ptr} {i : Nat} (hi : i < xs.length) (_hl : xs.length ≤ 1000000000) : Fn Tryz.prog W 238 [v, .int .i64 (i : Int), .int .i64 ((i + 1 : Nat) : Int)] [sl putE 2 v xs] Value (fun u => u) (fun _ => True) (fun u => [sl putE 2 u (xs.eraseIdx i)]) := by
  refine Fn.intro (N := 33) func238 rfl ntmps238 rfl fun F => ?_
  show GoC _ _ _ _ _ _ [sl putE 2 v xs, F]
  have h0 : xs ≠ [] := by intro e; rw [e] at hi; simp at hi
  refine .know (fun w s => s.fact .auto (sl_shape h0)) fun e => ?_
  obtain ⟨b, cap, rfl, hc⟩ := e
  refine .s (.r (.p (.a rfl) (.n (.t (.s (.r (.p (.m rfl) (.p (.m rfl) (.p (.m rfl) (.p (.m rfl) (.p (.len rfl) ?_)))))))))))
  refine .p (.slice3 i (i + 1) xs.length underlying179 sizeOf301 rfl rfl rfl rfl rfl rfl rfl (by omega) (by omega) hc) ?_
  refine .n (.t (.s (.s (.r (.p (.m rfl) (.p (.m rfl) (.p (.eql rfl rfl) (.n (.t (.condD rfl (fun h16 => ?_) (fun h16 => ?_)))))))))))
  · exact absurd h16 (by omega)
  · refine .v (.t (.s (.r (.p (.m rfl) (.p (.len rfl) (.p (.a rfl) (.n (.t (.s ?_)))))))))
    refine .draw [] [1, 1, 1, 1, 1, 1, 3, 1] rfl (by kernel_rfl) ?_
    refine .p (.m rfl) (.p (.m rfl) ?_)
    refine .p (.slice0X i underlying179 sizeOf301 rfl rfl rfl (by omega)) ?_
    refine .p (.m rfl) (.p (.m rfl) ?_)
    refine .p (.sliceX0 (i + 1) underlying179 sizeOf301 rfl rfl rfl (by omega)) ?_
    refine .d3 rfl (Does.appendDel rfl underlying179 underlying179 typeInfo301 rfl rfl rfl .auto (by omega) (by omega) (putE_one _) h0) ?_
    rintro _ _ ⟨rfl, rfl⟩
    refine .p (.a rfl) (.n (.t (.s (.r (.p (.m rfl) (.p (.m rfl) (.p (.lens rfl) (.p (.m rfl) ?_))))))))
    refine .p (.sliceX (i + (xs.length - (i + 1))) xs.length underlying179 sizeOf301 rfl rfl rfl rfl rfl (by omega) hc) ?_
    refine .does rfl (Does.clearSp (xs := xs.take i ++ xs.drop (i + 1)) underlying179 zeroValue301 rfl rfl rfl rfl (by rw [List.length_append, List.length_take, List.length_drop]; omega) (by omega) .auto) ?_
    rintro _ _ ⟨rfl, rfl⟩
    refine .n (.t (.s (.r (.p (.m rfl) (.p (.a rfl) (.n (.t (.e ?_))))))))
    rw [erase_td]
    refine .ret1 rfl rfl fun w s => ⟨_, ?_, trivial, finE .auto s⟩
    rfl

set_option maxRecDepth 20000 in
theorem DeleteI {W : World} {v : Value} {xs : List Int} {i : Nat} (hi : i < xs.length) (_hl : xs.length ≤ 1000000000) : Fn Tryz.prog W 236 [v, .int .i64 (i : Int), .int .i64 ((i + 1 : Nat) : Int)] [sl intE 1 v xs] Value (fun u => u) (fun _ => True) (fun u => [sl intE 1 u (xs.eraseIdx i)]) := by
  refine Fn.intro (N := 33) func236 rfl ntmps236 rfl fun F => ?_
  show GoC _ _ _ _ _ _ [sl intE 1 v xs, F]
  have h0 : xs ≠ [] := by intro e; rw [e] at hi; simp at hi
  refine .know (fun w s => s.fact .auto (sl_shape h0)) fun e => ?_
  obtain ⟨b, cap, rfl, hc⟩ := e
  refine .s (.r (.p (.a rfl) (.n (.t (.s (.r (.p (.m rfl) (.p (.m rfl) (.p (.m rfl) (.p (.m rfl) (.p (.len rfl) ?_)))))))))))
  refine .p (.slice3 i (i + 1) xs.length underlying23 sizeOf3 rfl rfl rfl rfl rfl rfl rfl (by omega) (by omega) hc) ?_
  refine .n (.t (.s (.s (.r (.p (.m rfl) (.p (.m rfl) (.p (.eql rfl rfl) (.n (.t (.condD rfl (fun h16 => ?_) (fun h16 => ?_)))))))))))
  · exact absurd h16 (by omega)
  · refine .v (.t (.s (.r (.p (.m rfl) (.p (.len rfl) (.p (.a rfl) (.n (.t (.s ?_)))))))))
    refine .draw [] [1, 1, 1, 1, 1, 1, 3, 1] rfl (by kernel_rfl) ?_
    refine .p (.m rfl) (.p (.m rfl) ?_)
    refine .p (.slice0X i underlying23 sizeOf3 rfl rfl rfl (by omega)) ?_
    refine .p (.m rfl) (.p (.m rfl) ?_)
    refine .p (.sliceX0 (i + 1) underlying23 sizeOf3 rfl rfl rfl (by omega)) ?_
    refine .d3 rfl (Does.appendDel rfl underlying23 underlying23 typeInfo3 rfl rfl rfl .auto (by omega) (by omega) (intE_one _) h0) ?_
    rintro _ _ ⟨rfl, rfl⟩
    refine .p (.a rfl) (.n (.t (.s (.r (.p (.m rfl) (.p (.m rfl) (.p (.lens rfl) (.p (.m rfl) ?_))))))))
    refine .p (.sliceX (i + (xs.length - (i + 1))) xs.length underlying23 sizeOf3 rfl rfl rfl rfl rfl (by omega) hc) ?_
    refine .does rfl (Does.clearSp (xs := xs.take i ++ xs.drop (i + 1)) underlying23 zeroValue3 rfl rfl rfl rfl (by rw [List.length_append, List.length_take, List.length_drop]; omega) (by omega) .auto) ?_
    rintro _ _ ⟨rfl, rfl⟩
    refine .n (.t (.s (.r (.p (.m rfl) (.p (.a rfl) (.n (.t (.e ?_))))))))
    rw [erase_td]
    refine .ret1 rfl rfl fun w s => ⟨_, ?_, trivial, finE .auto s⟩
    rfl

set_option maxRecDepth 20000 in
theorem DeleteW {W : World} {v : Value} {xs : List Int} {i : Nat} (hi : i < xs.length) (_hl : xs.length ≤ 1000000000) : Fn Tryz.prog W 237 [v, .int .i64 (i : Int), .int .i64 ((i + 1 : Nat) : Int)] [sl wrdE 1 v xs] Value (fun u => u) (fun _ => True) (fun u => [sl wrdE 1 u (xs.eraseIdx i)]) := by
  refine Fn.intro (N := 33) func237 rfl ntmps237 rfl fun F => ?_
  show GoC _ _ _ _ _ _ [sl wrdE 1 v xs, F]
  have h0 : xs ≠ [] := by intro e; rw [e] at hi; simp at hi
  refine .know (fun w s => s.fact .auto (sl_shape h0)) fun e => ?_
  obtain ⟨b, cap, rfl, hc⟩ := e
  refine .s (.r (.p (.a rfl) (.n (.t (.s (.r (.p (.m rfl) (.p (.m rfl) (.p (.m rfl) (.p (.m rfl) (.p (.len rfl) ?_)))))))))))
  refine .p (.slice3 i (i + 1) xs.length underlying51 sizeOf43 rfl rfl rfl rfl rfl rfl rfl (by omega) (by omega) hc) ?_
  refine .n (.t (.s (.s (.r (.p (.m rfl) (.p (.m rfl) (.p (.eql rfl rfl) (.n (.t (.condD rfl (fun h16 => ?_) (fun h16 => ?_)))))))))))
  · exact absurd h16 (by omega)
  · refine .v (.t (.s (.r (.p (.m rfl) (.p (.len rfl) (.p (.a rfl) (.n (.t (.s ?_)))))))))
    refine .draw [] [1, 1, 1, 1, 1, 1, 3, 1] rfl (by kernel_rfl) ?_
    refine .p (.m rfl) (.p (.m rfl) ?_)
    refine .p (.slice0X i underlying51 sizeOf43 rfl rfl rfl (by omega)) ?_
    refine .p (.m rfl) (.p (.m rfl) ?_)
    refine .p (.sliceX0 (i + 1) underlying51 sizeOf43 rfl rfl rfl (by omega)) ?_
    refine .d3 rfl (Does.appendDel rfl underlying51 underlying51 typeInfo43 rfl rfl rfl .auto (by omega) (by omega) (wrdE_one _) h0) ?_
    rintro _ _ ⟨rfl, rfl⟩
    refine .p (.a rfl) (.n (.t (.s (.r (.p (.m rfl) (.p (.m rfl) (.p (.lens rfl) (.p (.m rfl) ?_))))))))
    refine .p (.sliceX (i + (xs.length - (i + 1))) xs.length underlying51 sizeOf43 rfl rfl rfl rfl rfl (by omega) hc) ?_
    refine .does rfl (Does.clearSp (xs := xs.take i ++ xs.drop (i + 1)) underlying51 zeroValue43 rfl rfl rfl rfl (by rw [List.length_append, List.length_take, List.length_drop]; omega) (by omega) .auto) ?_
    rintro _ _ ⟨rfl, rfl⟩
    refine .n (.t (.s (.r (.p (.m rfl) (.p (.a rfl) (.n (.t (.e ?_))))))))
    rw [erase_td]
    refine .ret1 rfl rfl fun w s => ⟨_, ?_, trivial, finE .auto s⟩
    rfl

set_option maxRecDepth 20000 in
theorem IndexFuncG {W : World} {A : HProp} {v : Value} {xs : List Wtr} {p : Wtr → Bool} {g : Nat} {c : Value} (hr : Rd W [A] wtrE 2 v xs) (hl : xs.length ≤ 1000000000) (hg : ∀ args w, (callFunc g args).run Tryz.prog w = .ok (.enter g args) w) (hf : ∀ x ∈ xs, Fn Tryz.prog W g [.agg (wtrE x).toArray, c] [A] Unit (fun _ => .bool (p x)) (fun _ => True) (fun _ => [A])) : Fn Tryz.prog W 245 [v, .func (.func g) #[] #[c]] [A] Unit (fun _ => .int .i64 (idxP p xs 0)) (fun _ => True) (fun _ => [A]) := by
  refine Fn.intro (N := 19) func245 rfl ntmps245 rfl fun F => ?_
  haveI hRI : ∀ (H : List HProp) [HasH H A], ReadsC W H v wtrE 2 xs := fun H h => ⟨hr.at h.has⟩
  show GoC _ _ _ _ _ _ [A, F]
  refine .s (.r (.p (.a rfl) (.n (.t (.s (.s (.r (.p (.m rfl) (.p (.len rfl) (.p (.m rfl) (.n (.t (.b ?_)))))))))))))
  refine .loopK (X := Nat) [4, 5, 8, 9, 10, 11, 12, 13, 14, 15, 16, 17, 18] (fun k => xs.length - k) (fun k => k ≤ xs.length ∧ idxP p xs 0 = idxP p (xs.drop k) k) (fun k => [(8, some (.int .i64 (k : Int)))]) (fun k => [A, F]) 0 ?_ ?_ ?_ ?_
  · exact ⟨Nat.zero_le _, by simp⟩
  · exact ⟨rfl, trivial⟩
  · exact fun w s => Ent.kept .auto w s
  rintro k ⟨hk, hn⟩
  refine .s (.r (.p (.lss rfl rfl) (.n (.t (.s (.condD rfl (fun h9 => ?_) (fun h9 => ?_)))))))
  · refine .v (.t (.s (.b (.s (.r (.p (.m rfl) (.p (.a rfl) (.n (.t (.s (.r (.p (.m rfl) (.p (.m rfl) (.p (.m rfl) ?_))))))))))))))
    obtain ⟨x, hx⟩ := at_some (show k < xs.length by omega)
    refine .p (.ix _ rfl rfl rfl (by first | omega | decide)) ?_
    refine .p (.la rfl (Cells.rd Rd.s ‹_›)) ?_
    refine .does rfl (Does.callvE rfl rfl hg rfl (hf x (List.mem_of_getElem? hx)) .auto) ?_
    rintro _ _ ⟨⟨⟩, -, rfl, rfl⟩
    refine .n (.t (.cond rfl (fun h16 => ?_) (fun h16 => ?_)))
    · refine .s (.r (.p (.m rfl) (.p (.a rfl) (.n (.t (.e (.br (.tr (.tr (.br (.tr (.ret1 rfl rfl fun w s => ⟨(), ?_, trivial, finE .auto s⟩))))))))))))
      rw [hn, idxP_hit hx h16]
    · refine .v (.b (.t (.r ?_)))
      refine .p (.inc rfl rfl (by omega)) ?_
      refine .p (.m rfl) (.n ?_)
      refine .againK (k + 1) .auto rfl ?_ ?_ ?_ ?_
      · first | omega | (dsimp only; omega)
      · exact ⟨by omega, hn.trans (idxP_miss hx h16)⟩
      · exact ⟨rfl, trivial⟩
      · exact fun w s => Ent.kept .auto w s
  · refine .x (.tx (.tx (.bh (.t (.s (.r (.p (.a rfl) (.n (.t (.e (.ret1 rfl rfl fun w s => ⟨(), ?_, trivial, finE .auto s⟩)))))))))))
    rw [hn, idxP_end (by omega)]

set_option maxRecDepth 20000 in
theorem ContainsFuncG {W : World} {A : HProp} {v : Value} {xs : List Wtr} {p : Wtr → Bool} {g : Nat} {c : Value} (hr : Rd W [A] wtrE 2 v xs) (hl : xs.length ≤ 1000000000) (hg : ∀ args w, (callFunc g args).run Tryz.prog w = .ok (.enter g args) w) (hf : ∀ x ∈ xs, Fn Tryz.prog W g [.agg (wtrE x).toArray, c] [A] Unit (fun _ => .bool (p x)) (fun _ => True) (fun _ => [A])) : Fn Tryz.prog W 228 [v, .func (.func g) #[] #[c]] [A] Unit (fun _ => .bool (xs.any p)) (fun _ => True) (fun _ => [A]) := by
  refine Fn.intro (N := 9) func228 rfl ntmps228 rfl fun F => ?_
  show GoC _ _ _ _ _ _ [A, F]
  refine .s (.r (.p (.a rfl) (.n (.t (.s (.r (.p (.m rfl) (.p (.m rfl) ?_))))))))
  refine .does rfl (Does.callE rfl call245 rfl (IndexFuncG hr hl hg hf) .auto) ?_
  rintro _ _ ⟨⟨⟩, -, rfl, rfl⟩
  refine .p (.geq rfl rfl) (.p (.a rfl) (.n (.t (.e (.ret1 rfl rfl fun w s => ⟨(), ?_, trivial, finE .auto s⟩)))))
  rw [← idxP_any xs 0]

set_option maxRecDepth 20000 in
theorem IndexFuncQ {W : World} {A : HProp} {v : Value} {xs : List Rqs} {p : Rqs → Bool} {g : Nat} {c : Value} (hr : Rd W [A] rqsE 4 v xs) (hl : xs.length ≤ 1000000000) (hg : ∀ args w, (callFunc g args).run Tryz.prog w = .ok (.enter g args) w) (hf : ∀ x ∈ xs, Fn Tryz.prog W g [.agg (rqsE x).toArray, c] [A] Unit (fun _ => .bool (p x)) (fun _ => True) (fun _ => [A])) : Fn Tryz.prog W 232 [v, .func (.func g) #[] #[c]] [A] Unit (fun _ => .int .i64 (idxP p xs 0)) (fun _ => True) (fun _ => [A]) := by
  refine Fn.intro (N := 19) func232 rfl ntmps232 rfl fun F => ?_
  haveI hRI : ∀ (H : List HProp) [HasH H A], ReadsC W H v rqsE 4 xs := fun H h => ⟨hr.at h.has⟩
  show GoC _ _ _ _ _ _ [A, F]
  refine .s (.r (.p (.a rfl) (.n (.t (.s (.s (.r (.p (.m rfl) (.p (.len rfl) (.p (.m rfl) (.n (.t (.b ?_)))))))))))))
  refine .loopK (X := Nat) [4, 5, 8, 9, 10, 11, 12, 13, 14, 15, 16, 17, 18] (fun k => xs.length - k) (fun k => k ≤ xs.length ∧ idxP p xs 0 = idxP p (xs.drop k) k) (fun k => [(8, some (.int .i64 (k : Int)))]) (fun k => [A, F]) 0 ?_ ?_ ?_ ?_
  · exact ⟨Nat.zero_le _, by simp⟩
  · exact ⟨rfl, trivial⟩
  · exact fun w s => Ent.kept .auto w s
  rintro k ⟨hk, hn⟩
  refine .s (.r (.p (.lss rfl rfl) (.n (.t (.s (.condD rfl (fun h9 => ?_) (fun h9 => ?_)))))))
  · refine .v (.t (.s (.b (.s (.r (.p (.m rfl) (.p (.a rfl) (.n (.t (.s (.r (.p (.m rfl) (.p (.m rfl) (.p (.m rfl) ?_))))))))))))))
    obtain ⟨x, hx⟩ := at_some (show k < xs.length by omega)
    refine .p (.ix _ rfl rfl rfl (by first | omega | decide)) ?_
    refine .p (.la rfl (Cells.rd Rd.s ‹_›)) ?_
    refine .does rfl (Does.callvE rfl rfl hg rfl (hf x (List.mem_of_getElem? hx)) .auto) ?_
    rintro _ _ ⟨⟨⟩, -, rfl, rfl⟩
    refine .n (.t (.cond rfl (fun h16 => ?_) (fun h16 => ?_)))
    · refine .s (.r (.p (.m rfl) (.p (.a rfl) (.n (.t (.e (.br (.tr (.tr (.br (.tr (.ret1 rfl rfl fun w s => ⟨(), ?_, trivial, finE .auto s⟩))))))))))))
      rw [hn, idxP_hit hx h16]
    · refine .v (.b (.t (.r ?_)))
      refine .p (.inc rfl rfl (by omega)) ?_
      refine .p (.m rfl) (.n ?_)
      refine .againK (k + 1) .auto rfl ?_ ?_ ?_ ?_
      · first | omega | (dsimp only; omega)
      · exact ⟨by omega, hn.trans (idxP_miss hx h16)⟩
      · exact ⟨rfl, trivial⟩
      · exact fun w s => Ent.kept .auto w s
  · refine .x (.tx (.tx (.bh (.t (.s (.r (.p (.a rfl) (.n (.t (.e (.ret1 rfl rfl fun w s => ⟨(), ?_, trivial, finE .auto s⟩)))))))))))
    rw [hn, idxP_end (by omega)]

set_option maxRecDepth 20000 in
theorem ContainsFuncQ {W : World} {A : HProp} {v : Value} {xs : List Rqs} {p : Rqs → Bool} {g : Nat} {c : Value} (hr : Rd W [A] rqsE 4 v xs) (hl : xs.length ≤ 1000000000) (hg : ∀ args w, (callFunc g args).run Tryz.prog w = .ok (.enter g args) w) (hf : ∀ x ∈ xs, Fn Tryz.prog W g [.agg (rqsE x).toArray, c] [A] Unit (fun _ => .bool (p x)) (fun _ => True) (fun _ => [A])) : Fn Tryz.prog W 204 [v, .func (.func g) #[] #[c]] [A] Unit (fun _ => .bool (xs.any p)) (fun _ => True) (fun _ => [A]) := by
  refine Fn.intro (N := 9) func204 rfl ntmps204 rfl fun F => ?_
  show GoC _ _ _ _ _ _ [A, F]
  refine .s (.r (.p (.a rfl) (.n (.t (.s (.r (.p (.m rfl) (.p (.m rfl) ?_))))))))
  refine .does rfl (Does.callE rfl call232 rfl (IndexFuncQ hr hl hg hf) .auto) ?_
  rintro _ _ ⟨⟨⟩, -, rfl, rfl⟩
  refine .p (.geq rfl rfl) (.p (.a rfl) (.n (.t (.e (.ret1 rfl rfl fun w s => ⟨(), ?_, trivial, finE .auto s⟩)))))
  rw [← idxP_any xs 0]

set_option maxRecDepth 20000 in
theorem IndexFuncP {W : World} {A : HProp} {v : Value} {xs : List Ptr} {p : Ptr → Bool} {g : Nat} {c : Value} (hr : Rd W [A] putE 2 v xs) (hl : xs.length ≤ 1000000000) (hg : ∀ args w, (callFunc g args).run Tryz.prog w = .ok (.enter g args) w) (hf : ∀ x ∈ xs, Fn Tryz.prog W g [.agg (putE x).toArray, c] [A] Unit (fun _ => .bool (p x)) (fun _ => True) (fun _ => [A])) : Fn Tryz.prog W 247 [v, .func (.func g) #[] #[c]] [A] Unit (fun _ => .int .i64 (idxP p xs 0)) (fun _ => True) (fun _ => [A]) := by
  refine Fn.intro (N := 19) func247 rfl ntmps247 rfl fun F => ?_
  haveI hRI : ∀ (H : List HProp) [HasH H A], ReadsC W H v putE 2 xs := fun H h => ⟨hr.at h.has⟩
  show GoC _ _ _ _ _ _ [A, F]
  refine .s (.r (.p (.a rfl) (.n (.t (.s (.s (.r (.p (.m rfl) (.p (.len rfl) (.p (.m rfl) (.n (.t (.b ?_)))))))))))))
  refine .loopK (X := Nat) [4, 5, 8, 9, 10, 11, 12, 13, 14, 15, 16, 17, 18] (fun k => xs.length - k) (fun k => k ≤ xs.length ∧ idxP p xs 0 = idxP p (xs.drop k) k) (fun k => [(8, some (.int .i64 (k : Int)))]) (fun k => [A, F]) 0 ?_ ?_ ?_ ?_
  · exact ⟨Nat.zero_le _, by simp⟩
  · exact ⟨rfl, trivial⟩
  · exact fun w s => Ent.kept .auto w s
  rintro k ⟨hk, hn⟩
  refine .s (.r (.p (.lss rfl rfl) (.n (.t (.s (.condD rfl (fun h9 => ?_) (fun h9 => ?_)))))))
  · refine .v (.t (.s (.b (.s (.r (.p (.m rfl) (.p (.a rfl) (.n (.t (.s (.r (.p (.m rfl) (.p (.m rfl) (.p (.m rfl) ?_))))))))))))))
    obtain ⟨x, hx⟩ := at_some (show k < xs.length by omega)
    refine .p (.ix _ rfl rfl rfl (by first | omega | decide)) ?_
    refine .p (.la rfl (Cells.rd Rd.s ‹_›)) ?_
    refine .does rfl (Does.callvE rfl rfl hg rfl (hf x (List.mem_of_getElem? hx)) .auto) ?_
    rintro _ _ ⟨⟨⟩, -, rfl, rfl⟩
    refine .n (.t (.cond rfl (fun h16 => ?_) (fun h16 => ?_)))
    · refine .s (.r (.p (.m rfl) (.p (.a rfl) (.n (.t (.e (.br (.tr (.tr (.br (.tr (.ret1 rfl rfl fun w s => ⟨(), ?_, trivial, finE .auto s⟩))))))))))))
      rw [hn, idxP_hit hx h16]
    · refine .v (.b (.t (.r ?_)))
      refine .p (.inc rfl rfl (by omega)) ?_
      refine .p (.m rfl) (.n ?_)
      refine .againK (k + 1) .auto rfl ?_ ?_ ?_ ?_
      · first | omega | (dsimp only; omega)
      · exact ⟨by omega, hn.trans (idxP_miss hx h16)⟩
      · exact ⟨rfl, trivial⟩
      · exact fun w s => Ent.kept .auto w s
  · refine .x (.tx (.tx (.bh (.t (.s (.r (.p (.a rfl) (.n (.t (.e (.ret1 rfl rfl fun w s => ⟨(), ?_, trivial, finE .auto s⟩)))))))))))
    rw [hn, idxP_end (by omega)]

set_option maxRecDepth 20000 in
theorem ContainsFuncP {W : World} {A : HProp} {v : Value} {xs : List Ptr} {p : Ptr → Bool} {g : Nat} {c : Value} (hr : Rd W [A] putE 2 v xs) (hl : xs.length ≤ 1000000000) (hg : ∀ args w, (callFunc g args).run Tryz.prog w = .ok (.enter g args) w) (hf : ∀ x ∈ xs, Fn Tryz.prog W g [.agg (putE x).toArray, c] [A] Unit (fun _ => .bool (p x)) (fun _ => True) (fun _ => [A])) : Fn Tryz.prog W 234 [v, .func (.func g) #[] #[c]] [A] Unit (fun _ => .bool (xs.any p)) (fun _ => True) (fun _ => [A]) := by
  refine Fn.intro (N := 9) func234 rfl ntmps234 rfl fun F => ?_
  show GoC _ _ _ _ _ _ [A, F]
  refine .s (.r (.p (.a rfl) (.n (.t (.s (.r (.p (.m rfl) (.p (.m rfl) ?_))))))))
  refine .does rfl (Does.callE rfl call247 rfl (IndexFuncP hr hl hg hf) .auto) ?_
  rintro _ _ ⟨⟨⟩, -, rfl, rfl⟩
  refine .p (.geq rfl rfl) (.p (.a rfl) (.n (.t (.e (.ret1 rfl rfl fun w s => ⟨(), ?_, trivial, finE .auto s⟩)))))
  rw [← idxP_any xs 0]

set_option maxRecDepth 20000 in
theorem IndexFuncM {W : World} {A : HProp} {v : Value} {xs : List (Value × Mtx)} {p : (Value × Mtx) → Bool} {g : Nat} {c : Value} (hr : Rd W [A] mtxE 3 v xs) (hl : xs.length ≤ 1000000000) (hg : ∀ args w, (callFunc g args).run Tryz.prog w = .ok (.enter g args) w) (hf : ∀ x ∈ xs, Fn Tryz.prog W g [.agg (mtxE x).toArray, c] [A] Unit (fun _ => .bool (p x)) (fun _ => True) (fun _ => [A])) : Fn Tryz.prog W 227 [v, .func (.func g) #[] #[c]] [A] Unit (fun _ => .int .i64 (idxP p xs 0)) (fun _ => True) (fun _ => [A]) := by
  refine Fn.intro (N := 19) func227 rfl ntmps227 rfl fun F => ?_
  haveI hRI : ∀ (H : List HProp) [HasH H A], ReadsC W H v mtxE 3 xs := fun H h => ⟨hr.at h.has⟩
  show GoC _ _ _ _ _ _ [A, F]
  refine .s (.r (.p (.a rfl) (.n (.t (.s (.s (.r (.p (.m rfl) (.p (.len rfl) (.p (.m rfl) (.n (.t (.b ?_)))))))))))))
  refine .loopK (X := Nat) [4, 5, 8, 9, 10, 11, 12, 13, 14, 15, 16, 17, 18] (fun k => xs.length - k) (fun k => k ≤ xs.length ∧ idxP p xs 0 = idxP p (xs.drop k) k) (fun k => [(8, some (.int .i64 (k : Int)))]) (fun k => [A, F]) 0 ?_ ?_ ?_ ?_
  · exact ⟨Nat.zero_le _, by simp⟩
  · exact ⟨rfl, trivial⟩
  · exact fun w s => Ent.kept .auto w s
  rintro k ⟨hk, hn⟩
  refine .s (.r (.p (.lss rfl rfl) (.n (.t (.s (.condD rfl (fun h9 => ?_) (fun h9 => ?_)))))))
  · refine .v (.t (.s (.b (.s (.r (.p (.m rfl) (.p (.a rfl) (.n (.t (.s (.r (.p (.m rfl) (.p (.m rfl) (.p (.m rfl) ?_))))))))))))))
    obtain ⟨x, hx⟩ := at_some (show k < xs.length by omega)
    refine .p (.ix _ rfl rfl rfl (by first | omega | decide)) ?_
    refine .p (.la rfl (Cells.rd Rd.s ‹_›)) ?_
    refine .does rfl (Does.callvE rfl rfl hg rfl (hf x (List.mem_of_getElem? hx)) .auto) ?_
    rintro _ _ ⟨⟨⟩, -, rfl, rfl⟩
    refine .n (.t (.cond rfl (fun h16 => ?_) (fun h16 => ?_)))
    · refine .s (.r (.p (.m rfl) (.p (.a rfl) (.n (.t (.e (.br (.tr (.tr (.br (.tr (.ret1 rfl rfl fun w s => ⟨(), ?_, trivial, finE .auto s⟩))))))))))))
      rw [hn, idxP_hit hx h16]
    · refine .v (.b (.t (.r ?_)))
      refine .p (.inc rfl rfl (by omega)) ?_
      refine .p (.m rfl) (.n ?_)
      refine .againK (k + 1) .auto rfl ?_ ?_ ?_ ?_
      · first | omega | (dsimp only; omega)
      · exact ⟨by omega, hn.trans (idxP_miss hx h16)⟩
      · exact ⟨rfl, trivial⟩
      · exact fun w s => Ent.kept .auto w s
  · refine .x (.tx (.tx (.bh (.t (.s (.r (.p (.a rfl) (.n (.t (.e (.ret1 rfl rfl fun w s => ⟨(), ?_, trivial, finE .auto s⟩)))))))))))
    rw [hn, idxP_end (by omega)]

set_option maxRecDepth 20000 in
theorem ContainsFuncM {W : World} {A : HProp} {v : Value} {xs : List (Value × Mtx)} {p : (Value × Mtx) → Bool} {g : Nat} {c : Value} (hr : Rd W [A] mtxE 3 v xs) (hl : xs.length ≤ 1000000000) (hg : ∀ args w, (callFunc g args).run Tryz.prog w = .ok (.enter g args) w) (hf : ∀ x ∈ xs, Fn Tryz.prog W g [.agg (mtxE x).toArray, c] [A] Unit (fun _ => .bool (p x)) (fun _ => True) (fun _ => [A])) : Fn Tryz.prog W 197 [v, .func (.func g) #[] #[c]] [A] Unit (fun _ => .bool (xs.any p)) (fun _ => True) (fun _ => [A]) := by
  refine Fn.intro (N := 9) func197 rfl ntmps197 rfl fun F => ?_
  show GoC _ _ _ _ _ _ [A, F]
  refine .s (.r (.p (.a rfl) (.n (.t (.s (.r (.p (.m rfl) (.p (.m rfl) ?_))))))))
  refine .does rfl (Does.callE rfl call227 rfl (IndexFuncM hr hl hg hf) .auto) ?_
  rintro _ _ ⟨⟨⟩, -, rfl, rfl⟩
  refine .p (.geq rfl rfl) (.p (.a rfl) (.n (.t (.e (.ret1 rfl rfl fun w s => ⟨(), ?_, trivial, finE .auto s⟩)))))
  rw [← idxP_any xs 0]

set_option maxRecDepth 20000 in
theorem IndexFuncR {W : World} {A : HProp} {v : Value} {xs : List (Value × List Wtr)} {p : (Value × List Wtr) → Bool} {g : Nat} {c : Value} (hr : Rd W [A] fstE 1 v xs) (hl : xs.length ≤ 1000000000) (hg : ∀ args w, (callFunc g args).run Tryz.prog w = .ok (.enter g args) w) (hf : ∀ x ∈ xs, Fn Tryz.prog W g [.agg (fstE x).toArray, c] [A] Unit (fun _ => .bool (p x)) (fun _ => True) (fun _ => [A])) : Fn Tryz.prog W 230 [v, .func (.func g) #[] #[c]] [A] Unit (fun _ => .int .i64 (idxP p xs 0)) (fun _ => True) (fun _ => [A]) := by
  refine Fn.intro (N := 19) func230 rfl ntmps230 rfl fun F => ?_
  haveI hRI : ∀ (H : List HProp) [HasH H A], ReadsC W H v fstE 1 xs := fun H h => ⟨hr.at h.has⟩
  show GoC _ _ _ _ _ _ [A, F]
  refine .s (.r (.p (.a rfl) (.n (.t (.s (.s (.r (.p (.m rfl) (.p (.len rfl) (.p (.m rfl) (.n (.t (.b ?_)))))))))))))
  refine .loopK (X := Nat) [4, 5, 8, 9, 10, 11, 12, 13, 14, 15, 16, 17, 18] (fun k => xs.length - k) (fun k => k ≤ xs.length ∧ idxP p xs 0 = idxP p (xs.drop k) k) (fun k => [(8, some (.int .i64 (k : Int)))]) (fun k => [A, F]) 0 ?_ ?_ ?_ ?_
  · exact ⟨Nat.zero_le _, by simp⟩
  · exact ⟨rfl, trivial⟩
  · exact fun w s => Ent.kept .auto w s
  rintro k ⟨hk, hn⟩
  refine .s (.r (.p (.lss rfl rfl) (.n (.t (.s (.condD rfl (fun h9 => ?_) (fun h9 => ?_)))))))
  · refine .v (.t (.s (.b (.s (.r (.p (.m rfl) (.p (.a rfl) (.n (.t (.s (.r (.p (.m rfl) (.p (.m rfl) (.p (.m rfl) ?_))))))))))))))
    obtain ⟨x, hx⟩ := at_some (show k < xs.length by omega)
    refine .p (.ix _ rfl rfl rfl (by first | omega | decide)) ?_
    refine .p (.la rfl (Cells.rd Rd.s ‹_›)) ?_
    refine .does rfl (Does.callvE rfl rfl hg rfl (hf x (List.mem_of_getElem? hx)) .auto) ?_
    rintro _ _ ⟨⟨⟩, -, rfl, rfl⟩
    refine .n (.t (.cond rfl (fun h16 => ?_) (fun h16 => ?_)))
    · refine .s (.r (.p (.m rfl) (.p (.a rfl) (.n (.t (.e (.br (.tr (.tr (.br (.tr (.ret1 rfl rfl fun w s => ⟨(), ?_, trivial, finE .auto s⟩))))))))))))
      rw [hn, idxP_hit hx h16]
    · refine .v (.b (.t (.r ?_)))
      refine .p (.inc rfl rfl (by omega)) ?_
      refine .p (.m rfl) (.n ?_)
      refine .againK (k + 1) .auto rfl ?_ ?_ ?_ ?_
      · first | omega | (dsimp only; omega)
      · exact ⟨by omega, hn.trans (idxP_miss hx h16)⟩
      · exact ⟨rfl, trivial⟩
      · exact fun w s => Ent.kept .auto w s
  · refine .x (.tx (.tx (.bh (.t (.s (.r (.p (.a rfl) (.n (.t (.e (.ret1 rfl rfl fun w s => ⟨(), ?_, trivial, finE .auto s⟩)))))))))))
    rw [hn, idxP_end (by omega)]

set_option maxRecDepth 20000 in
theorem ContainsFuncR {W : World} {A : HProp} {v : Value} {xs : List (Value × List Wtr)} {p : (Value × List Wtr) → Bool} {g : Nat} {c : Value} (hr : Rd W [A] fstE 1 v xs) (hl : xs.length ≤ 1000000000) (hg : ∀ args w, (callFunc g args).run Tryz.prog w = .ok (.enter g args) w) (hf : ∀ x ∈ xs, Fn Tryz.prog W g [.agg (fstE x).toArray, c] [A] Unit (fun _ => .bool (p x)) (fun _ => True) (fun _ => [A])) : Fn Tryz.prog W 200 [v, .func (.func g) #[] #[c]] [A] Unit (fun _ => .bool (xs.any p)) (fun _ => True) (fun _ => [A]) := by
  refine Fn.intro (N := 9) func200 rfl ntmps200 rfl fun F => ?_
  show GoC _ _ _ _ _ _ [A, F]
  refine .s (.r (.p (.a rfl) (.n (.t (.s (.r (.p (.m rfl) (.p (.m rfl) ?_))))))))
  refine .does rfl (Does.callE rfl call230 rfl (IndexFuncR hr hl hg hf) .auto) ?_
  rintro _ _ ⟨⟨⟩, -, rfl, rfl⟩
  refine .p (.geq rfl rfl) (.p (.a rfl) (.n (.t (.e (.ret1 rfl rfl fun w s => ⟨(), ?_, trivial, finE .auto s⟩)))))
  rw [← idxP_any xs 0]

set_option maxRecDepth 20000 in
theorem IndexFuncS {W : World} {A : HProp} {v : Value} {xs : List (Value × Smp)} {p : (Value × Smp) → Bool} {g : Nat} {c : Value} (hr : Rd W [A] smpE 2 v xs) (hl : xs.length ≤ 1000000000) (hg : ∀ args w, (callFunc g args).run Tryz.prog w = .ok (.enter g args) w) (hf : ∀ x ∈ xs, Fn Tryz.prog W g [.agg (smpE x).toArray, c] [A] Unit (fun _ => .bool (p x)) (fun _ => True) (fun _ => [A])) : Fn Tryz.prog W 231 [v, .func (.func g) #[] #[c]] [A] Unit (fun _ => .int .i64 (idxP p xs 0)) (fun _ => True) (fun _ => [A]) := by
  refine Fn.intro (N := 19) func231 rfl ntmps231 rfl fun F => ?_
  haveI hRI : ∀ (H : List HProp) [HasH H A], ReadsC W H v smpE 2 xs := fun H h => ⟨hr.at h.has⟩
  show GoC _ _ _ _ _ _ [A, F]
  refine .s (.r (.p (.a rfl) (.n (.t (.s (.s (.r (.p (.m rfl) (.p (.len rfl) (.p (.m rfl) (.n (.t (.b ?_)))))))))))))
  refine .loopK (X := Nat) [4, 5, 8, 9, 10, 11, 12, 13, 14, 15, 16, 17, 18] (fun k => xs.length - k) (fun k => k ≤ xs.length ∧ idxP p xs 0 = idxP p (xs.drop k) k) (fun k => [(8, some (.int .i64 (k : Int)))]) (fun k => [A, F]) 0 ?_ ?_ ?_ ?_
  · exact ⟨Nat.zero_le _, by simp⟩
  · exact ⟨rfl, trivial⟩
  · exact fun w s => Ent.kept .auto w s
  rintro k ⟨hk, hn⟩
  refine .s (.r (.p (.lss rfl rfl) (.n (.t (.s (.condD rfl (fun h9 => ?_) (fun h9 => ?_)))))))
  · refine .v (.t (.s (.b (.s (.r (.p (.m rfl) (.p (.a rfl) (.n (.t (.s (.r (.p (.m rfl) (.p (.m rfl) (.p (.m rfl) ?_))))))))))))))
    obtain ⟨x, hx⟩ := at_some (show k < xs.length by omega)
    refine .p (.ix _ rfl rfl rfl (by first | omega | decide)) ?_
    refine .p (.la rfl (Cells.rd Rd.s ‹_›)) ?_
    refine .does rfl (Does.callvE rfl rfl hg rfl (hf x (List.mem_of_getElem? hx)) .auto) ?_
    rintro _ _ ⟨⟨⟩, -, rfl, rfl⟩
    refine .n (.t (.cond rfl (fun h16 => ?_) (fun h16 => ?_)))
    · refine .s (.r (.p (.m rfl) (.p (.a rfl) (.n (.t (.e (.br (.tr (.tr (.br (.tr (.ret1 rfl rfl fun w s => ⟨(), ?_, trivial, finE .auto s⟩))))))))))))
      rw [hn, idxP_hit hx h16]
    · refine .v (.b (.t (.r ?_)))
      refine .p (.inc rfl rfl (by omega)) ?_
      refine .p (.m rfl) (.n ?_)
      refine .againK (k + 1) .auto rfl ?_ ?_ ?_ ?_
      · first | omega | (dsimp only; omega)
      · exact ⟨by omega, hn.trans (idxP_miss hx h16)⟩
      · exact ⟨rfl, trivial⟩
      · exact fun w s => Ent.kept .auto w s
  · refine .x (.tx (.tx (.bh (.t (.s (.r (.p (.a rfl) (.n (.t (.e (.ret1 rfl rfl fun w s => ⟨(), ?_, trivial, finE .auto s⟩)))))))))))
    rw [hn, idxP_end (by omega)]

set_option maxRecDepth 20000 in
theorem ContainsFuncS {W : World} {A : HProp} {v : Value} {xs : List (Value × Smp)} {p : (Value × Smp) → Bool} {g : Nat} {c : Value} (hr : Rd W [A] smpE 2 v xs) (hl : xs.length ≤ 1000000000) (hg : ∀ args w, (callFunc g args).run Tryz.prog w = .ok (.enter g args) w) (hf : ∀ x ∈ xs, Fn Tryz.prog W g [.agg (smpE x).toArray, c] [A] Unit (fun _ => .bool (p x)) (fun _ => True) (fun _ => [A])) : Fn Tryz.prog W 202 [v, .func (.func g) #[] #[c]] [A] Unit (fun _ => .bool (xs.any p)) (fun _ => True) (fun _ => [A]) := by
  refine Fn.intro (N := 9) func202 rfl ntmps202 rfl fun F => ?_
  show GoC _ _ _ _ _ _ [A, F]
  refine .s (.r (.p (.a rfl) (.n (.t (.s (.r (.p (.m rfl) (.p (.m rfl) ?_))))))))
  refine .does rfl (Does.callE rfl call231 rfl (IndexFuncS hr hl hg hf) .auto) ?_
  rintro _ _ ⟨⟨⟩, -, rfl, rfl⟩
  refine .p (.geq rfl rfl) (.p (.a rfl) (.n (.t (.e (.ret1 rfl rfl fun w s => ⟨(), ?_, trivial, finE .auto s⟩)))))
  rw [← idxP_any xs 0]

end Go.SLYtpcjdohmjmeehaaGreat
