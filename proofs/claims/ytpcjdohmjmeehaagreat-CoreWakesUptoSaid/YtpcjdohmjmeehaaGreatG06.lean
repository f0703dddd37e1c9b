/- Walks of functions, and what they compute. Conditions: none, this text proves no statement. -/
import Derived.Test.YtpcjdohmjmeehaaGreatProg
import Derived.Test.YtpcjdohmjmeehaaGreatG05
import Derived.KernelRfl
namespace Go.SLYtpcjdohmjmeehaaGreat
open Go Go.RowKit Go.Proofs Go.Proofs.Tryz

set_option maxRecDepth 20000 in
theorem inst_within {W : World} {n m : Int} : Fn Tryz.prog W 111 [.int .i64 n, .int .i64 m] [] Unit (fun _ => .bool (within n m)) (fun _ => True) (fun _ => []) := by
  refine Fn.intro (N := 12) func111 rfl ntmps111 rfl fun F => ?_
  show GoC _ _ _ _ _ _ [F]
  refine GoC.seq (GoC.region ?_)
  refine GoL.y rfl (Y.assign rfl) ?_
  refine GoL.nil (GoE.then_normal (GoC.seq (GoC.region ?_)))
  refine GoL.y rfl (Y.move rfl) ?_
  refine GoL.y rfl (Y.geq rfl rfl) ?_
  refine GoL.y rfl (Y.move rfl) ?_
  apply GoL.segAD 4 11 7 [7, 8, 9, 10, 11] rfl
  · intro h7
    refine GoL.yg rfl rfl rfl (Y.move rfl) ?_
    refine GoL.yg rfl rfl rfl (Y.move rfl) ?_
    refine GoL.yg rfl rfl rfl (Y.leq rfl rfl) ?_
    refine GoL.y rfl (Y.pickT rfl rfl) ?_
    refine GoL.nil ?_
    refine GoE.seg .auto rfl (by first | exact fun _ h => h | exact Ent.kept .auto)
  · intro h7
    refine GoL.skip rfl rfl rfl rfl ?_
    refine GoL.skip rfl rfl rfl rfl ?_
    refine GoL.skip rfl rfl rfl rfl ?_
    refine GoL.y rfl (Y.pickF rfl rfl) ?_
    refine GoL.nil ?_
    refine GoE.seg .auto rfl (by first | exact fun _ h => h | exact Ent.kept .auto)
  refine GoL.y rfl (Y.assign rfl) ?_
  refine GoL.nil (GoE.then_normal (GoC.ret ?_))
  refine GoE.ret1 rfl rfl fun w s => ⟨(), ?_, trivial, finE .auto s⟩
  rfl

set_option maxRecDepth 20000 in
theorem inst_reg {W : World} {n : Int} {b : Bool} : Fn Tryz.prog W 113 [.int .i64 n, .bool b] [] Unit (fun _ => .bool (regOk n b)) (fun _ => True) (fun _ => []) := by
  refine Fn.intro (N := 18) func113 rfl ntmps113 rfl fun F => ?_
  show GoC _ _ _ _ _ _ [F]
  refine GoC.seq (GoC.region ?_)
  refine GoL.y rfl (Y.assign rfl) ?_
  refine GoL.nil (GoE.then_normal (GoC.seq (GoC.region ?_)))
  refine GoL.y rfl (Y.move rfl) ?_
  refine GoL.y rfl (Y.eql rfl rfl) ?_
  refine GoL.y rfl (Y.move rfl) ?_
  apply GoL.segOD 10 17 7 [7, 8, 9, 10, 11, 12, 13, 14, 15, 16, 17] rfl
  · intro h7
    refine GoL.yg rfl rfl rfl (Y.move rfl) ?_
    refine GoL.yg rfl rfl rfl (Y.move rfl) ?_
    apply GoL.segA 3 12 9 [9, 10, 11, 12] rfl
    · intro h9
      refine GoL.yg rfl rfl rfl (Y.move rfl) ?_
      refine GoL.yg rfl rfl rfl (Y.gtr rfl rfl) ?_
      refine GoL.yg rfl rfl rfl (Y.pickT rfl rfl) ?_
      refine GoL.nil ?_
      refine GoE.seg .auto rfl (by first | exact fun _ h => h | exact Ent.kept .auto)
    · intro h9
      refine GoL.skip rfl rfl rfl rfl ?_
      refine GoL.skip rfl rfl rfl rfl ?_
      refine GoL.yg rfl rfl rfl (Y.pickF rfl rfl) ?_
      refine GoL.nil ?_
      refine GoE.seg .auto rfl (by first | exact fun _ h => h | exact Ent.kept .auto)
    refine GoL.yg rfl rfl rfl (Y.move rfl) ?_
    apply GoL.segA 3 16 13 [13, 14, 15, 16] rfl
    · intro h13
      refine GoL.yg rfl rfl rfl (Y.move rfl) ?_
      refine GoL.yg rfl rfl rfl (Y.lss rfl rfl) ?_
      refine GoL.yg rfl rfl rfl (Y.pickT rfl rfl) ?_
      refine GoL.nil ?_
      refine GoE.seg .auto rfl (by first | exact fun _ h => h | exact Ent.kept .auto)
    · intro h13
      refine GoL.skip rfl rfl rfl rfl ?_
      refine GoL.skip rfl rfl rfl rfl ?_
      refine GoL.yg rfl rfl rfl (Y.pickF rfl rfl) ?_
      refine GoL.nil ?_
      refine GoE.seg .auto rfl (by first | exact fun _ h => h | exact Ent.kept .auto)
    refine GoL.y rfl (Y.pickF rfl rfl) ?_
    refine GoL.nil ?_
    refine GoE.seg .auto rfl (by first | exact fun _ h => h | exact Ent.kept .auto)
  · intro h7
    refine GoL.skip rfl rfl rfl rfl ?_
    refine GoL.skip rfl rfl rfl rfl ?_
    refine GoL.skip rfl rfl rfl rfl ?_
    refine GoL.skip rfl rfl rfl rfl ?_
    refine GoL.skip rfl rfl rfl rfl ?_
    refine GoL.skip rfl rfl rfl rfl ?_
    refine GoL.skip rfl rfl rfl rfl ?_
    refine GoL.skip rfl rfl rfl rfl ?_
    refine GoL.skip rfl rfl rfl rfl ?_
    refine GoL.y rfl (Y.pickT rfl rfl) ?_
    refine GoL.nil ?_
    refine GoE.seg .auto rfl (by first | exact fun _ h => h | exact Ent.kept .auto)
  refine GoL.y rfl (Y.assign rfl) ?_
  refine GoL.nil (GoE.then_normal (GoC.ret ?_))
  refine GoE.ret1 rfl rfl fun w s => ⟨(), ?_, trivial, finE .auto s⟩
  rfl

set_option maxRecDepth 20000 in
theorem inst_Class {W : World} {op : Int} : Fn Tryz.prog W 63 [.int .i64 op] [] Unit (fun _ => .int .i64 (cls op)) (fun _ => True) (fun _ => []) := by
  refine Fn.intro (N := 24) func63 rfl ntmps63 rfl fun F => ?_
  show GoC _ _ _ _ _ _ [F]
  refine GoC.seq (GoC.region ?_)
  refine GoL.y rfl (Y.assign rfl) ?_
  refine GoL.nil (GoE.then_normal (GoC.seq (GoC.block (GoC.seq (GoC.region ?_)))))
  refine GoL.y rfl (Y.move rfl) ?_
  refine GoL.y rfl (Y.geq rfl rfl) ?_
  refine GoL.y rfl (Y.move rfl) ?_
  apply GoL.segAD 3 9 6 [6, 7, 8, 9] rfl
  · intro h6
    refine GoL.yg rfl rfl rfl (Y.move rfl) ?_
    refine GoL.yg rfl rfl rfl (Y.leq rfl rfl) ?_
    refine GoL.y rfl (Y.pickT rfl rfl) ?_
    refine GoL.nil ?_
    refine GoE.seg .auto rfl (by first | exact fun _ h => h | exact Ent.kept .auto)
  · intro h6
    refine GoL.skip rfl rfl rfl rfl ?_
    refine GoL.skip rfl rfl rfl rfl ?_
    refine GoL.y rfl (Y.pickF rfl rfl) ?_
    refine GoL.nil ?_
    refine GoE.seg .auto rfl (by first | exact fun _ h => h | exact Ent.kept .auto)
  refine GoL.y rfl (Y.assign rfl) ?_
  refine GoL.nil (GoE.then_normal ?_)
  refine GoC.cond rfl (fun h3 => ?_) (fun h3 => ?_)
  · simp only [Bool.and_eq_true, Bool.or_eq_true, Bool.and_eq_false_iff, Bool.or_eq_false_iff, decide_eq_true_eq, decide_eq_false_iff_not, Bool.not_eq_true', Bool.not_eq_false'] at h3
    refine GoC.seq (GoC.region ?_)
    refine GoL.y rfl (Y.assign rfl) ?_
    refine GoL.nil (GoE.then_normal (GoC.ret ?_))
    refine GoE.block_ret (GoE.then_ret ?_)
    refine GoE.ret1 rfl rfl fun w s => ⟨(), ?_, trivial, finE .auto s⟩
    refine retI ?_; unfold cls; repeat (first | rw [if_pos (by omega)] | rw [if_neg (by omega)])
  · simp only [Bool.and_eq_true, Bool.or_eq_true, Bool.and_eq_false_iff, Bool.or_eq_false_iff, decide_eq_true_eq, decide_eq_false_iff_not, Bool.not_eq_true', Bool.not_eq_false'] at h3
    refine GoC.seq (GoC.region ?_)
    refine GoL.y rfl (Y.move rfl) ?_
    refine GoL.y rfl (Y.geq rfl rfl) ?_
    refine GoL.y rfl (Y.move rfl) ?_
    apply GoL.segAD 3 16 13 [13, 14, 15, 16] rfl
    · intro h13
      refine GoL.yg rfl rfl rfl (Y.move rfl) ?_
      refine GoL.yg rfl rfl rfl (Y.leq rfl rfl) ?_
      refine GoL.y rfl (Y.pickT rfl rfl) ?_
      refine GoL.nil ?_
      refine GoE.seg .auto rfl (by first | exact fun _ h => h | exact Ent.kept .auto)
    · intro h13
      refine GoL.skip rfl rfl rfl rfl ?_
      refine GoL.skip rfl rfl rfl rfl ?_
      refine GoL.y rfl (Y.pickF rfl rfl) ?_
      refine GoL.nil ?_
      refine GoE.seg .auto rfl (by first | exact fun _ h => h | exact Ent.kept .auto)
    refine GoL.y rfl (Y.assign rfl) ?_
    refine GoL.nil (GoE.then_normal ?_)
    refine GoC.cond rfl (fun h10 => ?_) (fun h10 => ?_)
    · simp only [Bool.and_eq_true, Bool.or_eq_true, Bool.and_eq_false_iff, Bool.or_eq_false_iff, decide_eq_true_eq, decide_eq_false_iff_not, Bool.not_eq_true', Bool.not_eq_false'] at h10
      refine GoC.seq (GoC.region ?_)
      refine GoL.y rfl (Y.assign rfl) ?_
      refine GoL.nil (GoE.then_normal (GoC.ret ?_))
      refine GoE.block_ret (GoE.then_ret ?_)
      refine GoE.ret1 rfl rfl fun w s => ⟨(), ?_, trivial, finE .auto s⟩
      refine retI ?_; unfold cls; repeat (first | rw [if_pos (by omega)] | rw [if_neg (by omega)])
    · simp only [Bool.and_eq_true, Bool.or_eq_true, Bool.and_eq_false_iff, Bool.or_eq_false_iff, decide_eq_true_eq, decide_eq_false_iff_not, Bool.not_eq_true', Bool.not_eq_false'] at h10
      refine GoC.seq (GoC.region ?_)
      refine GoL.y rfl (Y.move rfl) ?_
      refine GoL.y rfl (Y.geq rfl rfl) ?_
      refine GoL.y rfl (Y.move rfl) ?_
      apply GoL.segAD 3 23 20 [20, 21, 22, 23] rfl
      · intro h20
        refine GoL.yg rfl rfl rfl (Y.move rfl) ?_
        refine GoL.yg rfl rfl rfl (Y.leq rfl rfl) ?_
        refine GoL.y rfl (Y.pickT rfl rfl) ?_
        refine GoL.nil ?_
        refine GoE.seg .auto rfl (by first | exact fun _ h => h | exact Ent.kept .auto)
      · intro h20
        refine GoL.skip rfl rfl rfl rfl ?_
        refine GoL.skip rfl rfl rfl rfl ?_
        refine GoL.y rfl (Y.pickF rfl rfl) ?_
        refine GoL.nil ?_
        refine GoE.seg .auto rfl (by first | exact fun _ h => h | exact Ent.kept .auto)
      refine GoL.y rfl (Y.assign rfl) ?_
      refine GoL.nil (GoE.then_normal ?_)
      refine GoC.cond rfl (fun h17 => ?_) (fun h17 => ?_)
      · simp only [Bool.and_eq_true, Bool.or_eq_true, Bool.and_eq_false_iff, Bool.or_eq_false_iff, decide_eq_true_eq, decide_eq_false_iff_not, Bool.not_eq_true', Bool.not_eq_false'] at h17
        refine GoC.seq (GoC.region ?_)
        refine GoL.y rfl (Y.assign rfl) ?_
        refine GoL.nil (GoE.then_normal (GoC.ret ?_))
        refine GoE.block_ret (GoE.then_ret ?_)
        refine GoE.ret1 rfl rfl fun w s => ⟨(), ?_, trivial, finE .auto s⟩
        refine retI ?_; unfold cls; repeat (first | rw [if_pos (by omega)] | rw [if_neg (by omega)])
      · simp only [Bool.and_eq_true, Bool.or_eq_true, Bool.and_eq_false_iff, Bool.or_eq_false_iff, decide_eq_true_eq, decide_eq_false_iff_not, Bool.not_eq_true', Bool.not_eq_false'] at h17
        refine GoC.skip ?_
        refine GoE.block_normal (GoE.then_normal (GoC.seq (GoC.region ?_)))
        refine GoL.y rfl (Y.assign rfl) ?_
        refine GoL.nil (GoE.then_normal (GoC.ret ?_))
        refine GoE.ret1 rfl rfl fun w s => ⟨(), ?_, trivial, finE .auto s⟩
        refine retI ?_; unfold cls; repeat (first | rw [if_pos (by omega)] | rw [if_neg (by omega)])

set_option maxRecDepth 20000 in
theorem inst_below {W : World} {f : Form} {n : Int} (hf : f.n ≤ 9223372036854775807) : Fn Tryz.prog W 114 [.agg (formE f).toArray, .int .u64 n] [] Unit (fun _ => .bool (f.below n)) (fun _ => True) (fun _ => []) := by
  refine Fn.intro (N := 24) func114 rfl ntmps114 rfl fun F => ?_
  show GoC _ _ _ _ _ _ [F]
  refine GoC.seq (GoC.region ?_)
  refine GoL.does rfl (Does.box rfl rfl rfl) ?_
  rintro _ _ ⟨b2, rfl, rfl⟩
  refine GoL.y rfl (Y.assign rfl) ?_
  refine GoL.nil (GoE.then_normal (GoC.seq (GoC.block (GoC.seq (GoC.region ?_)))))
  refine GoL.y rfl (Y.fieldAddr0 3 4 underlying203 rfl sizeOf4 rfl) ?_
  refine GoL.y rfl (Y.load isAgg4 rfl (Cell.a (by rfl))) ?_
  refine GoL.y rfl (Y.assign rfl) ?_
  refine GoL.nil (GoE.then_normal ?_)
  refine GoC.cond rfl (fun h5 => ?_) (fun h5 => ?_)
  · refine GoC.seq (GoC.region ?_)
    refine GoL.y rfl (Y.assign rfl) ?_
    refine GoL.nil (GoE.then_normal (GoC.ret ?_))
    refine GoE.block_ret (GoE.then_ret ?_)
    refine GoE.ret1 rfl rfl fun w s => ⟨(), ?_, trivial, finE .auto s⟩
    rw [Form.below, if_pos h5]
  · refine GoC.seq (GoC.region ?_)
    refine GoL.y rfl (Y.fieldAddr0 2 3 underlying203 rfl sizeOf3 rfl) ?_
    refine GoL.y rfl (Y.load isAgg3 rfl (Cell.a (by rfl))) ?_
    refine GoL.y rfl (Y.eql rfl rfl) ?_
    refine GoL.y rfl (Y.assign rfl) ?_
    refine GoL.nil (GoE.then_normal ?_)
    refine GoC.condD rfl (fun h8 => ?_) (fun h8 => ?_)
    · refine GoC.seq (GoC.region ?_)
      refine GoL.y rfl (Y.move rfl) ?_
      refine GoL.y rfl (Y.eql rfl rfl) ?_
      refine GoL.y rfl (Y.assign rfl) ?_
      refine GoL.nil (GoE.then_normal (GoC.ret ?_))
      refine GoE.block_ret (GoE.then_ret ?_)
      refine GoE.ret1 rfl rfl fun w s => ⟨(), ?_, trivial, finE .auto s⟩
      rw [Form.below, if_neg (by simp [h5]), if_pos h8]
    · refine GoC.skip ?_
      refine GoE.block_normal (GoE.then_normal (GoC.seq (GoC.region ?_)))
      refine GoL.y rfl (Y.fieldAddr0 2 3 underlying203 rfl sizeOf3 rfl) ?_
      refine GoL.y rfl (Y.load isAgg3 rfl (Cell.a (by rfl))) ?_
      refine GoL.y rfl (Y.gtr rfl rfl) ?_
      refine GoL.y rfl (Y.move rfl) ?_
      apply GoL.segAD 6 23 17 [17, 18, 19, 20, 21, 22, 23] rfl
      · intro h17
        refine GoL.yg rfl rfl rfl (Y.move rfl) ?_
        refine GoL.yg rfl rfl rfl (Y.fieldAddr0 2 3 underlying203 rfl sizeOf3 rfl) ?_
        refine GoL.yg rfl rfl rfl (Y.load isAgg3 rfl (Cell.a (by rfl))) ?_
        refine GoL.yg rfl rfl rfl (Y.convU underlying3 underlying43 rfl (by omega)) ?_
        refine GoL.yg rfl rfl rfl (Y.lss rfl rfl) ?_
        refine GoL.y rfl (Y.pickT rfl rfl) ?_
        refine GoL.nil ?_
        refine GoE.seg .auto rfl (by first | exact fun _ h => h | exact Ent.kept .auto)
      · intro h17
        refine GoL.skip rfl rfl rfl rfl ?_
        refine GoL.skip rfl rfl rfl rfl ?_
        refine GoL.skip rfl rfl rfl rfl ?_
        refine GoL.skip rfl rfl rfl rfl ?_
        refine GoL.skip rfl rfl rfl rfl ?_
        refine GoL.y rfl (Y.pickF rfl rfl) ?_
        refine GoL.nil ?_
        refine GoE.seg .auto rfl (by first | exact fun _ h => h | exact Ent.kept .auto)
      refine GoL.y rfl (Y.assign rfl) ?_
      refine GoL.nil (GoE.then_normal (GoC.ret ?_))
      refine GoE.ret1 rfl rfl fun w s => ⟨(), ?_, trivial, finE .auto s⟩
      rw [Form.below, if_neg (by simp [h5]), if_neg h8]

set_option maxRecDepth 20000 in
theorem inst_of {W : World} {A : HProp} {v : PrgV} (hp : PrgRd W [A] v) {op : Int} : Fn Tryz.prog W 112 [.agg (prgE v).toArray, .int .i64 op] [A] Unit (fun _ => .agg (formE (formOf v.p op)).toArray) (fun _ => True) (fun _ => [A]) := by
  refine Fn.intro (N := 73) func112 rfl ntmps112 rfl fun F => ?_
  haveI hI1 : ∀ (H : List HProp) [HasH H A], ReadsC W H v.fv fstE 1 v.fs := fun H h => ⟨hp.fs.at h.has⟩
  haveI hI2 : ∀ (H : List HProp) [HasH H A], ReadsC W H v.sv intE 1 v.sems := fun H h => ⟨hp.sems.at h.has⟩
  haveI hI3 : ∀ (H : List HProp) [HasH H A], ReadsC W H v.pv intE 1 v.pipes := fun H h => ⟨hp.pipes.at h.has⟩
  show GoC _ _ _ _ _ _ [A, F]
  refine GoC.seq (GoC.region ?_)
  refine GoL.does rfl (Does.box rfl rfl rfl) ?_
  rintro _ _ ⟨b2, rfl, rfl⟩
  refine GoL.does rfl (Does.alloc rfl zeroValue203 rfl) ?_
  rintro _ _ ⟨b4, rfl, rfl⟩
  refine GoL.nil (GoE.then_normal (GoC.seq (GoC.seq (GoC.region ?_))))
  refine GoL.y rfl (Y.move rfl) ?_
  refine GoL.nil (GoE.then_normal (GoC.block (GoC.seq (GoC.region ?_))))
  refine GoL.y rfl (Y.eql rfl rfl) ?_
  refine GoL.y rfl (Y.assign rfl) ?_
  refine GoL.nil (GoE.then_normal ?_)
  refine GoC.condD rfl (fun h6 => ?_) (fun h6 => ?_)
  · refine GoC.seq (GoC.region ?_)
    refine GoL.y rfl (Y.bld2 (fun v1 v2 => [v1, (.bool false), (.int .i64 0), v2]) rfl rfl (by kernel_rfl)) ?_
    refine GoL.does rfl (Does.sta (by exact sizeOf203) rfl rfl rfl (by rfl)) ?_
    rintro _ _ ⟨rfl, rfl⟩
    refine GoL.nil (GoE.then_normal (GoC.ret ?_))
    refine GoE.block_ret (GoE.then_ret ?_)
    refine GoE.retC rfl rfl isAgg203 (by exact sizeOf203) Cells.a fun w s => ⟨(), ?_, trivial, finE .auto s⟩
    simp [formOf, formE, PrgV.p, *]
  · refine GoC.seq (GoC.seq (GoC.region ?_))
    refine GoL.y rfl (Y.eql rfl rfl) ?_
    refine GoL.y rfl (Y.assign rfl) ?_
    refine GoL.nil (GoE.then_normal ?_)
    refine GoC.condD rfl (fun h9 => ?_) (fun h9 => ?_)
    · refine GoC.skip (GoE.then_normal ?_)
      first | refine GoC.condD rfl (fun _ => ?_) (fun hc => absurd h9 hc) | refine GoC.cond rfl (fun _ => ?_) (fun hc => by rw [h9] at hc; cases hc)
      refine GoC.seq (GoC.region ?_)
      refine GoL.y rfl (Y.bld2 (fun v1 v2 => [v1, (.bool false), v2, (.bool false)]) rfl rfl (by kernel_rfl)) ?_
      refine GoL.does rfl (Does.sta (by exact sizeOf203) rfl rfl rfl (by rfl)) ?_
      rintro _ _ ⟨rfl, rfl⟩
      refine GoL.nil (GoE.then_normal (GoC.ret ?_))
      refine GoE.block_ret (GoE.then_ret ?_)
      refine GoE.retC rfl rfl isAgg203 (by exact sizeOf203) Cells.a fun w s => ⟨(), ?_, trivial, finE .auto s⟩
      simp [formOf, formE, PrgV.p, *]
    · refine GoC.seq (GoC.region ?_)
      refine GoL.y rfl (Y.eql rfl rfl) ?_
      refine GoL.y rfl (Y.assign rfl) ?_
      refine GoL.nil (GoE.then_normal ?_)
      refine GoC.condD rfl (fun h9 => ?_) (fun h9 => ?_)
      · refine GoC.skip (GoE.then_normal ?_)
        first | refine GoC.condD rfl (fun _ => ?_) (fun hc => absurd h9 hc) | refine GoC.cond rfl (fun _ => ?_) (fun hc => by rw [h9] at hc; cases hc)
        refine GoC.seq (GoC.region ?_)
        refine GoL.y rfl (Y.bld2 (fun v1 v2 => [v1, (.bool false), v2, (.bool false)]) rfl rfl (by kernel_rfl)) ?_
        refine GoL.does rfl (Does.sta (by exact sizeOf203) rfl rfl rfl (by rfl)) ?_
        rintro _ _ ⟨rfl, rfl⟩
        refine GoL.nil (GoE.then_normal (GoC.ret ?_))
        refine GoE.block_ret (GoE.then_ret ?_)
        refine GoE.retC rfl rfl isAgg203 (by exact sizeOf203) Cells.a fun w s => ⟨(), ?_, trivial, finE .auto s⟩
        simp [formOf, formE, PrgV.p, *]
      · refine GoC.seq (GoC.region ?_)
        refine GoL.y rfl (Y.eql rfl rfl) ?_
        refine GoL.y rfl (Y.assign rfl) ?_
        refine GoL.nil (GoE.then_normal ?_)
        refine GoC.condD rfl (fun h9 => ?_) (fun h9 => ?_)
        · refine GoC.skip (GoE.then_normal ?_)
          first | refine GoC.condD rfl (fun _ => ?_) (fun hc => absurd h9 hc) | refine GoC.cond rfl (fun _ => ?_) (fun hc => by rw [h9] at hc; cases hc)
          refine GoC.seq (GoC.region ?_)
          refine GoL.y rfl (Y.bld2 (fun v1 v2 => [v1, (.bool false), v2, (.bool false)]) rfl rfl (by kernel_rfl)) ?_
          refine GoL.does rfl (Does.sta (by exact sizeOf203) rfl rfl rfl (by rfl)) ?_
          rintro _ _ ⟨rfl, rfl⟩
          refine GoL.nil (GoE.then_normal (GoC.ret ?_))
          refine GoE.block_ret (GoE.then_ret ?_)
          refine GoE.retC rfl rfl isAgg203 (by exact sizeOf203) Cells.a fun w s => ⟨(), ?_, trivial, finE .auto s⟩
          simp [formOf, formE, PrgV.p, *]
        · refine GoC.seq (GoC.region ?_)
          refine GoL.y rfl (Y.eql rfl rfl) ?_
          refine GoL.y rfl (Y.assign rfl) ?_
          refine GoL.nil (GoE.then_normal ?_)
          refine GoC.condD rfl (fun h9 => ?_) (fun h9 => ?_)
          · refine GoC.skip (GoE.then_normal ?_)
            first | refine GoC.condD rfl (fun _ => ?_) (fun hc => absurd h9 hc) | refine GoC.cond rfl (fun _ => ?_) (fun hc => by rw [h9] at hc; cases hc)
            refine GoC.seq (GoC.region ?_)
            refine GoL.y rfl (Y.bld2 (fun v1 v2 => [v1, (.bool false), v2, (.bool false)]) rfl rfl (by kernel_rfl)) ?_
            refine GoL.does rfl (Does.sta (by exact sizeOf203) rfl rfl rfl (by rfl)) ?_
            rintro _ _ ⟨rfl, rfl⟩
            refine GoL.nil (GoE.then_normal (GoC.ret ?_))
            refine GoE.block_ret (GoE.then_ret ?_)
            refine GoE.retC rfl rfl isAgg203 (by exact sizeOf203) Cells.a fun w s => ⟨(), ?_, trivial, finE .auto s⟩
            simp [formOf, formE, PrgV.p, *]
          · refine GoC.seq (GoC.region ?_)
            refine GoL.y rfl (Y.eql rfl rfl) ?_
            refine GoL.y rfl (Y.assign rfl) ?_
            refine GoL.nil (GoE.then_normal ?_)
            refine GoC.condD rfl (fun h9 => ?_) (fun h9 => ?_)
            · refine GoC.skip (GoE.then_normal ?_)
              first | refine GoC.condD rfl (fun _ => ?_) (fun hc => absurd h9 hc) | refine GoC.cond rfl (fun _ => ?_) (fun hc => by rw [h9] at hc; cases hc)
              refine GoC.seq (GoC.region ?_)
              refine GoL.y rfl (Y.bld2 (fun v1 v2 => [v1, (.bool false), v2, (.bool false)]) rfl rfl (by kernel_rfl)) ?_
              refine GoL.does rfl (Does.sta (by exact sizeOf203) rfl rfl rfl (by rfl)) ?_
              rintro _ _ ⟨rfl, rfl⟩
              refine GoL.nil (GoE.then_normal (GoC.ret ?_))
              refine GoE.block_ret (GoE.then_ret ?_)
              refine GoE.retC rfl rfl isAgg203 (by exact sizeOf203) Cells.a fun w s => ⟨(), ?_, trivial, finE .auto s⟩
              simp [formOf, formE, PrgV.p, *]
            · refine GoC.seq (GoC.region ?_)
              refine GoL.y rfl (Y.eql rfl rfl) ?_
              refine GoL.y rfl (Y.assign rfl) ?_
              refine GoL.nil (GoE.then_normal ?_)
              refine GoC.condD rfl (fun h9 => ?_) (fun h9 => ?_)
              · refine GoC.skip (GoE.then_normal ?_)
                first | refine GoC.condD rfl (fun _ => ?_) (fun hc => absurd h9 hc) | refine GoC.cond rfl (fun _ => ?_) (fun hc => by rw [h9] at hc; cases hc)
                refine GoC.seq (GoC.region ?_)
                refine GoL.y rfl (Y.bld2 (fun v1 v2 => [v1, (.bool false), v2, (.bool false)]) rfl rfl (by kernel_rfl)) ?_
                refine GoL.does rfl (Does.sta (by exact sizeOf203) rfl rfl rfl (by rfl)) ?_
                rintro _ _ ⟨rfl, rfl⟩
                refine GoL.nil (GoE.then_normal (GoC.ret ?_))
                refine GoE.block_ret (GoE.then_ret ?_)
                refine GoE.retC rfl rfl isAgg203 (by exact sizeOf203) Cells.a fun w s => ⟨(), ?_, trivial, finE .auto s⟩
                simp [formOf, formE, PrgV.p, *]
              · refine GoC.seq (GoC.region ?_)
                refine GoL.y rfl (Y.eql rfl rfl) ?_
                refine GoL.y rfl (Y.assign rfl) ?_
                refine GoL.nil (GoE.then_normal ?_)
                refine GoC.condD rfl (fun h9 => ?_) (fun h9 => ?_)
                · refine GoC.skip (GoE.then_normal ?_)
                  first | refine GoC.condD rfl (fun _ => ?_) (fun hc => absurd h9 hc) | refine GoC.cond rfl (fun _ => ?_) (fun hc => by rw [h9] at hc; cases hc)
                  refine GoC.seq (GoC.region ?_)
                  refine GoL.y rfl (Y.bld2 (fun v1 v2 => [v1, (.bool false), v2, (.bool false)]) rfl rfl (by kernel_rfl)) ?_
                  refine GoL.does rfl (Does.sta (by exact sizeOf203) rfl rfl rfl (by rfl)) ?_
                  rintro _ _ ⟨rfl, rfl⟩
                  refine GoL.nil (GoE.then_normal (GoC.ret ?_))
                  refine GoE.block_ret (GoE.then_ret ?_)
                  refine GoE.retC rfl rfl isAgg203 (by exact sizeOf203) Cells.a fun w s => ⟨(), ?_, trivial, finE .auto s⟩
                  simp [formOf, formE, PrgV.p, *]
                · refine GoC.region ?_
                  refine GoL.y rfl (Y.eql rfl rfl) ?_
                  refine GoL.y rfl (Y.assign rfl) ?_
                  refine GoL.nil (GoE.then_normal ?_)
                  refine GoC.condD rfl (fun h9 => ?_) (fun h9 => ?_)
                  · refine GoC.seq (GoC.region ?_)
                    refine GoL.y rfl (Y.bld2 (fun v1 v2 => [v1, (.bool false), v2, (.bool false)]) rfl rfl (by kernel_rfl)) ?_
                    refine GoL.does rfl (Does.sta (by exact sizeOf203) rfl rfl rfl (by rfl)) ?_
                    rintro _ _ ⟨rfl, rfl⟩
                    refine GoL.nil (GoE.then_normal (GoC.ret ?_))
                    refine GoE.block_ret (GoE.then_ret ?_)
                    refine GoE.retC rfl rfl isAgg203 (by exact sizeOf203) Cells.a fun w s => ⟨(), ?_, trivial, finE .auto s⟩
                    simp [formOf, formE, PrgV.p, *]
                  · refine GoC.seq (GoC.region ?_)
                    refine GoL.y rfl (Y.eql rfl rfl) ?_
                    refine GoL.y rfl (Y.assign rfl) ?_
                    refine GoL.nil (GoE.then_normal ?_)
                    refine GoC.condD rfl (fun h19 => ?_) (fun h19 => ?_)
                    · refine GoC.seq (GoC.region ?_)
                      refine GoL.y rfl (Y.bld1 (fun v1 => [(.int .i64 0), (.bool false), v1, (.bool false)]) rfl (by kernel_rfl)) ?_
                      refine GoL.does rfl (Does.sta (by exact sizeOf203) rfl rfl rfl (by rfl)) ?_
                      rintro _ _ ⟨rfl, rfl⟩
                      refine GoL.nil (GoE.then_normal (GoC.ret ?_))
                      refine GoE.block_ret (GoE.then_ret ?_)
                      refine GoE.retC rfl rfl isAgg203 (by exact sizeOf203) Cells.a fun w s => ⟨(), ?_, trivial, finE .auto s⟩
                      simp [formOf, formE, PrgV.p, *]
                    · refine GoC.seq (GoC.region ?_)
                      refine GoL.y rfl (Y.eql rfl rfl) ?_
                      refine GoL.y rfl (Y.assign rfl) ?_
                      refine GoL.nil (GoE.then_normal ?_)
                      refine GoC.condD rfl (fun h22 => ?_) (fun h22 => ?_)
                      · refine GoC.seq (GoC.region ?_)
                        refine GoL.y rfl (Y.bld2 (fun v1 v2 => [v1, (.bool false), v2, (.bool false)]) rfl rfl (by kernel_rfl)) ?_
                        refine GoL.does rfl (Does.sta (by exact sizeOf203) rfl rfl rfl (by rfl)) ?_
                        rintro _ _ ⟨rfl, rfl⟩
                        refine GoL.nil (GoE.then_normal (GoC.ret ?_))
                        refine GoE.block_ret (GoE.then_ret ?_)
                        refine GoE.retC rfl rfl isAgg203 (by exact sizeOf203) Cells.a fun w s => ⟨(), ?_, trivial, finE .auto s⟩
                        simp [formOf, formE, PrgV.p, *]
                      · refine GoC.seq (GoC.region ?_)
                        refine GoL.y rfl (Y.eql rfl rfl) ?_
                        refine GoL.y rfl (Y.assign rfl) ?_
                        refine GoL.nil (GoE.then_normal ?_)
                        refine GoC.condD rfl (fun h25 => ?_) (fun h25 => ?_)
                        · refine GoC.seq (GoC.region ?_)
                          refine GoL.y rfl (Y.fieldAddrZ 22 underlying25 rfl sizeOf22 rfl) ?_
                          refine GoL.y rfl (Y.load isAgg22 rfl (Cell.a (by rfl))) ?_
                          refine GoL.y rfl (Y.lenRd underlying22 rfl Rd.s) ?_
                          refine GoL.y rfl (Y.bld2 (fun v1 v2 => [v1, (.bool false), v2, (.bool false)]) rfl rfl (by kernel_rfl)) ?_
                          refine GoL.does rfl (Does.sta (by exact sizeOf203) rfl rfl rfl (by rfl)) ?_
                          rintro _ _ ⟨rfl, rfl⟩
                          refine GoL.nil (GoE.then_normal (GoC.ret ?_))
                          refine GoE.block_ret (GoE.then_ret ?_)
                          refine GoE.retC rfl rfl isAgg203 (by exact sizeOf203) Cells.a fun w s => ⟨(), ?_, trivial, finE .auto s⟩
                          simp [formOf, formE, PrgV.p, *]
                        · refine GoC.seq (GoC.seq (GoC.region ?_))
                          refine GoL.y rfl (Y.eql rfl rfl) ?_
                          refine GoL.y rfl (Y.assign rfl) ?_
                          refine GoL.nil (GoE.then_normal ?_)
                          refine GoC.condD rfl (fun h31 => ?_) (fun h31 => ?_)
                          · refine GoC.skip (GoE.then_normal ?_)
                            first | refine GoC.condD rfl (fun _ => ?_) (fun hc => absurd h31 hc) | refine GoC.cond rfl (fun _ => ?_) (fun hc => by rw [h31] at hc; cases hc)
                            refine GoC.seq (GoC.region ?_)
                            refine GoL.y rfl (Y.bld2 (fun v1 v2 => [v1, (.bool false), v2, (.bool false)]) rfl rfl (by kernel_rfl)) ?_
                            refine GoL.does rfl (Does.sta (by exact sizeOf203) rfl rfl rfl (by rfl)) ?_
                            rintro _ _ ⟨rfl, rfl⟩
                            refine GoL.nil (GoE.then_normal (GoC.ret ?_))
                            refine GoE.block_ret (GoE.then_ret ?_)
                            refine GoE.retC rfl rfl isAgg203 (by exact sizeOf203) Cells.a fun w s => ⟨(), ?_, trivial, finE .auto s⟩
                            simp [formOf, formE, PrgV.p, *]
                          · refine GoC.seq (GoC.region ?_)
                            refine GoL.y rfl (Y.eql rfl rfl) ?_
                            refine GoL.y rfl (Y.assign rfl) ?_
                            refine GoL.nil (GoE.then_normal ?_)
                            refine GoC.condD rfl (fun h31 => ?_) (fun h31 => ?_)
                            · refine GoC.skip (GoE.then_normal ?_)
                              first | refine GoC.condD rfl (fun _ => ?_) (fun hc => absurd h31 hc) | refine GoC.cond rfl (fun _ => ?_) (fun hc => by rw [h31] at hc; cases hc)
                              refine GoC.seq (GoC.region ?_)
                              refine GoL.y rfl (Y.bld2 (fun v1 v2 => [v1, (.bool false), v2, (.bool false)]) rfl rfl (by kernel_rfl)) ?_
                              refine GoL.does rfl (Does.sta (by exact sizeOf203) rfl rfl rfl (by rfl)) ?_
                              rintro _ _ ⟨rfl, rfl⟩
                              refine GoL.nil (GoE.then_normal (GoC.ret ?_))
                              refine GoE.block_ret (GoE.then_ret ?_)
                              refine GoE.retC rfl rfl isAgg203 (by exact sizeOf203) Cells.a fun w s => ⟨(), ?_, trivial, finE .auto s⟩
                              simp [formOf, formE, PrgV.p, *]
                            · refine GoC.seq (GoC.region ?_)
                              refine GoL.y rfl (Y.eql rfl rfl) ?_
                              refine GoL.y rfl (Y.assign rfl) ?_
                              refine GoL.nil (GoE.then_normal ?_)
                              refine GoC.condD rfl (fun h31 => ?_) (fun h31 => ?_)
                              · refine GoC.skip (GoE.then_normal ?_)
                                first | refine GoC.condD rfl (fun _ => ?_) (fun hc => absurd h31 hc) | refine GoC.cond rfl (fun _ => ?_) (fun hc => by rw [h31] at hc; cases hc)
                                refine GoC.seq (GoC.region ?_)
                                refine GoL.y rfl (Y.bld2 (fun v1 v2 => [v1, (.bool false), v2, (.bool false)]) rfl rfl (by kernel_rfl)) ?_
                                refine GoL.does rfl (Does.sta (by exact sizeOf203) rfl rfl rfl (by rfl)) ?_
                                rintro _ _ ⟨rfl, rfl⟩
                                refine GoL.nil (GoE.then_normal (GoC.ret ?_))
                                refine GoE.block_ret (GoE.then_ret ?_)
                                refine GoE.retC rfl rfl isAgg203 (by exact sizeOf203) Cells.a fun w s => ⟨(), ?_, trivial, finE .auto s⟩
                                simp [formOf, formE, PrgV.p, *]
                              · refine GoC.seq (GoC.region ?_)
                                refine GoL.y rfl (Y.eql rfl rfl) ?_
                                refine GoL.y rfl (Y.assign rfl) ?_
                                refine GoL.nil (GoE.then_normal ?_)
                                refine GoC.condD rfl (fun h31 => ?_) (fun h31 => ?_)
                                · refine GoC.skip (GoE.then_normal ?_)
                                  first | refine GoC.condD rfl (fun _ => ?_) (fun hc => absurd h31 hc) | refine GoC.cond rfl (fun _ => ?_) (fun hc => by rw [h31] at hc; cases hc)
                                  refine GoC.seq (GoC.region ?_)
                                  refine GoL.y rfl (Y.bld2 (fun v1 v2 => [v1, (.bool false), v2, (.bool false)]) rfl rfl (by kernel_rfl)) ?_
                                  refine GoL.does rfl (Does.sta (by exact sizeOf203) rfl rfl rfl (by rfl)) ?_
                                  rintro _ _ ⟨rfl, rfl⟩
                                  refine GoL.nil (GoE.then_normal (GoC.ret ?_))
                                  refine GoE.block_ret (GoE.then_ret ?_)
                                  refine GoE.retC rfl rfl isAgg203 (by exact sizeOf203) Cells.a fun w s => ⟨(), ?_, trivial, finE .auto s⟩
                                  simp [formOf, formE, PrgV.p, *]
                                · refine GoC.region ?_
                                  refine GoL.y rfl (Y.eql rfl rfl) ?_
                                  refine GoL.y rfl (Y.assign rfl) ?_
                                  refine GoL.nil (GoE.then_normal ?_)
                                  refine GoC.condD rfl (fun h31 => ?_) (fun h31 => ?_)
                                  · refine GoC.seq (GoC.region ?_)
                                    refine GoL.y rfl (Y.bld2 (fun v1 v2 => [v1, (.bool false), v2, (.bool false)]) rfl rfl (by kernel_rfl)) ?_
                                    refine GoL.does rfl (Does.sta (by exact sizeOf203) rfl rfl rfl (by rfl)) ?_
                                    rintro _ _ ⟨rfl, rfl⟩
                                    refine GoL.nil (GoE.then_normal (GoC.ret ?_))
                                    refine GoE.block_ret (GoE.then_ret ?_)
                                    refine GoE.retC rfl rfl isAgg203 (by exact sizeOf203) Cells.a fun w s => ⟨(), ?_, trivial, finE .auto s⟩
                                    simp [formOf, formE, PrgV.p, *]
                                  · refine GoC.seq (GoC.region ?_)
                                    refine GoL.y rfl (Y.eql rfl rfl) ?_
                                    refine GoL.y rfl (Y.assign rfl) ?_
                                    refine GoL.nil (GoE.then_normal ?_)
                                    refine GoC.condD rfl (fun h38 => ?_) (fun h38 => ?_)
                                    · refine GoC.seq (GoC.region ?_)
                                      refine GoL.y rfl (Y.bld1 (fun v1 => [(.int .i64 0), (.bool false), v1, (.bool false)]) rfl (by kernel_rfl)) ?_
                                      refine GoL.does rfl (Does.sta (by exact sizeOf203) rfl rfl rfl (by rfl)) ?_
                                      rintro _ _ ⟨rfl, rfl⟩
                                      refine GoL.nil (GoE.then_normal (GoC.ret ?_))
                                      refine GoE.block_ret (GoE.then_ret ?_)
                                      refine GoE.retC rfl rfl isAgg203 (by exact sizeOf203) Cells.a fun w s => ⟨(), ?_, trivial, finE .auto s⟩
                                      simp [formOf, formE, PrgV.p, *]
                                    · refine GoC.seq (GoC.seq (GoC.region ?_))
                                      refine GoL.y rfl (Y.eql rfl rfl) ?_
                                      refine GoL.y rfl (Y.assign rfl) ?_
                                      refine GoL.nil (GoE.then_normal ?_)
                                      refine GoC.condD rfl (fun h41 => ?_) (fun h41 => ?_)
                                      · refine GoC.skip (GoE.then_normal ?_)
                                        first | refine GoC.condD rfl (fun _ => ?_) (fun hc => absurd h41 hc) | refine GoC.cond rfl (fun _ => ?_) (fun hc => by rw [h41] at hc; cases hc)
                                        refine GoC.seq (GoC.region ?_)
                                        refine GoL.y rfl (Y.fieldAddr0 2 3 underlying25 rfl sizeOf3 rfl) ?_
                                        refine GoL.y rfl (Y.load isAgg3 rfl (Cell.a (by rfl))) ?_
                                        refine GoL.y rfl (Y.bld1 (fun v1 => [(.int .i64 0), (.bool false), v1, (.bool false)]) rfl (by kernel_rfl)) ?_
                                        refine GoL.does rfl (Does.sta (by exact sizeOf203) rfl rfl rfl (by rfl)) ?_
                                        rintro _ _ ⟨rfl, rfl⟩
                                        refine GoL.nil (GoE.then_normal (GoC.ret ?_))
                                        refine GoE.block_ret (GoE.then_ret ?_)
                                        refine GoE.retC rfl rfl isAgg203 (by exact sizeOf203) Cells.a fun w s => ⟨(), ?_, trivial, finE .auto s⟩
                                        simp [formOf, formE, PrgV.p, *]
                                      · refine GoC.region ?_
                                        refine GoL.y rfl (Y.eql rfl rfl) ?_
                                        refine GoL.y rfl (Y.assign rfl) ?_
                                        refine GoL.nil (GoE.then_normal ?_)
                                        refine GoC.condD rfl (fun h41 => ?_) (fun h41 => ?_)
                                        · refine GoC.seq (GoC.region ?_)
                                          refine GoL.y rfl (Y.fieldAddr0 2 3 underlying25 rfl sizeOf3 rfl) ?_
                                          refine GoL.y rfl (Y.load isAgg3 rfl (Cell.a (by rfl))) ?_
                                          refine GoL.y rfl (Y.bld1 (fun v1 => [(.int .i64 0), (.bool false), v1, (.bool false)]) rfl (by kernel_rfl)) ?_
                                          refine GoL.does rfl (Does.sta (by exact sizeOf203) rfl rfl rfl (by rfl)) ?_
                                          rintro _ _ ⟨rfl, rfl⟩
                                          refine GoL.nil (GoE.then_normal (GoC.ret ?_))
                                          refine GoE.block_ret (GoE.then_ret ?_)
                                          refine GoE.retC rfl rfl isAgg203 (by exact sizeOf203) Cells.a fun w s => ⟨(), ?_, trivial, finE .auto s⟩
                                          simp [formOf, formE, PrgV.p, *]
                                        · refine GoC.seq (GoC.region ?_)
                                          refine GoL.y rfl (Y.eql rfl rfl) ?_
                                          refine GoL.y rfl (Y.assign rfl) ?_
                                          refine GoL.nil (GoE.then_normal ?_)
                                          refine GoC.condD rfl (fun h47 => ?_) (fun h47 => ?_)
                                          · refine GoC.seq (GoC.region ?_)
                                            refine GoL.y rfl (Y.fieldAddr0 3 3 underlying25 rfl sizeOf3 rfl) ?_
                                            refine GoL.y rfl (Y.load isAgg3 rfl (Cell.a (by rfl))) ?_
                                            refine GoL.y rfl (Y.bld2 (fun v1 v2 => [(.int .i64 0), v2, v1, (.bool false)]) rfl rfl (by kernel_rfl)) ?_
                                            refine GoL.does rfl (Does.sta (by exact sizeOf203) rfl rfl rfl (by rfl)) ?_
                                            rintro _ _ ⟨rfl, rfl⟩
                                            refine GoL.nil (GoE.then_normal (GoC.ret ?_))
                                            refine GoE.block_ret (GoE.then_ret ?_)
                                            refine GoE.retC rfl rfl isAgg203 (by exact sizeOf203) Cells.a fun w s => ⟨(), ?_, trivial, finE .auto s⟩
                                            simp [formOf, formE, PrgV.p, *]
                                          · refine GoC.seq (GoC.seq (GoC.region ?_))
                                            refine GoL.y rfl (Y.eql rfl rfl) ?_
                                            refine GoL.y rfl (Y.assign rfl) ?_
                                            refine GoL.nil (GoE.then_normal ?_)
                                            refine GoC.condD rfl (fun h52 => ?_) (fun h52 => ?_)
                                            · refine GoC.skip (GoE.then_normal ?_)
                                              first | refine GoC.condD rfl (fun _ => ?_) (fun hc => absurd h52 hc) | refine GoC.cond rfl (fun _ => ?_) (fun hc => by rw [h52] at hc; cases hc)
                                              refine GoC.seq (GoC.region ?_)
                                              refine GoL.y rfl (Y.fieldAddr0 3 3 underlying25 rfl sizeOf3 rfl) ?_
                                              refine GoL.y rfl (Y.load isAgg3 rfl (Cell.a (by rfl))) ?_
                                              refine GoL.y rfl (Y.bld1 (fun v1 => [(.int .i64 0), (.bool false), v1, (.bool false)]) rfl (by kernel_rfl)) ?_
                                              refine GoL.does rfl (Does.sta (by exact sizeOf203) rfl rfl rfl (by rfl)) ?_
                                              rintro _ _ ⟨rfl, rfl⟩
                                              refine GoL.nil (GoE.then_normal (GoC.ret ?_))
                                              refine GoE.block_ret (GoE.then_ret ?_)
                                              refine GoE.retC rfl rfl isAgg203 (by exact sizeOf203) Cells.a fun w s => ⟨(), ?_, trivial, finE .auto s⟩
                                              simp [formOf, formE, PrgV.p, *]
                                            · refine GoC.region ?_
                                              refine GoL.y rfl (Y.eql rfl rfl) ?_
                                              refine GoL.y rfl (Y.assign rfl) ?_
                                              refine GoL.nil (GoE.then_normal ?_)
                                              refine GoC.condD rfl (fun h52 => ?_) (fun h52 => ?_)
                                              · refine GoC.seq (GoC.region ?_)
                                                refine GoL.y rfl (Y.fieldAddr0 3 3 underlying25 rfl sizeOf3 rfl) ?_
                                                refine GoL.y rfl (Y.load isAgg3 rfl (Cell.a (by rfl))) ?_
                                                refine GoL.y rfl (Y.bld1 (fun v1 => [(.int .i64 0), (.bool false), v1, (.bool false)]) rfl (by kernel_rfl)) ?_
                                                refine GoL.does rfl (Does.sta (by exact sizeOf203) rfl rfl rfl (by rfl)) ?_
                                                rintro _ _ ⟨rfl, rfl⟩
                                                refine GoL.nil (GoE.then_normal (GoC.ret ?_))
                                                refine GoE.block_ret (GoE.then_ret ?_)
                                                refine GoE.retC rfl rfl isAgg203 (by exact sizeOf203) Cells.a fun w s => ⟨(), ?_, trivial, finE .auto s⟩
                                                simp [formOf, formE, PrgV.p, *]
                                              · refine GoC.seq (GoC.seq (GoC.region ?_))
                                                refine GoL.y rfl (Y.eql rfl rfl) ?_
                                                refine GoL.y rfl (Y.assign rfl) ?_
                                                refine GoL.nil (GoE.then_normal ?_)
                                                refine GoC.condD rfl (fun h58 => ?_) (fun h58 => ?_)
                                                · refine GoC.skip (GoE.then_normal ?_)
                                                  first | refine GoC.condD rfl (fun _ => ?_) (fun hc => absurd h58 hc) | refine GoC.cond rfl (fun _ => ?_) (fun hc => by rw [h58] at hc; cases hc)
                                                  refine GoC.seq (GoC.region ?_)
                                                  refine GoL.y rfl (Y.fieldAddr0 4 23 underlying25 rfl sizeOf23 rfl) ?_
                                                  refine GoL.y rfl (Y.load isAgg23 rfl (Cell.a (by rfl))) ?_
                                                  refine GoL.y rfl (Y.lenRd underlying23 rfl Rd.s) ?_
                                                  refine GoL.y rfl (Y.bld1 (fun v1 => [(.int .i64 0), (.bool false), v1, (.bool false)]) rfl (by kernel_rfl)) ?_
                                                  refine GoL.does rfl (Does.sta (by exact sizeOf203) rfl rfl rfl (by rfl)) ?_
                                                  rintro _ _ ⟨rfl, rfl⟩
                                                  refine GoL.nil (GoE.then_normal (GoC.ret ?_))
                                                  refine GoE.block_ret (GoE.then_ret ?_)
                                                  refine GoE.retC rfl rfl isAgg203 (by exact sizeOf203) Cells.a fun w s => ⟨(), ?_, trivial, finE .auto s⟩
                                                  simp [formOf, formE, PrgV.p, *]
                                                · refine GoC.region ?_
                                                  refine GoL.y rfl (Y.eql rfl rfl) ?_
                                                  refine GoL.y rfl (Y.assign rfl) ?_
                                                  refine GoL.nil (GoE.then_normal ?_)
                                                  refine GoC.condD rfl (fun h58 => ?_) (fun h58 => ?_)
                                                  · refine GoC.seq (GoC.region ?_)
                                                    refine GoL.y rfl (Y.fieldAddr0 4 23 underlying25 rfl sizeOf23 rfl) ?_
                                                    refine GoL.y rfl (Y.load isAgg23 rfl (Cell.a (by rfl))) ?_
                                                    refine GoL.y rfl (Y.lenRd underlying23 rfl Rd.s) ?_
                                                    refine GoL.y rfl (Y.bld1 (fun v1 => [(.int .i64 0), (.bool false), v1, (.bool false)]) rfl (by kernel_rfl)) ?_
                                                    refine GoL.does rfl (Does.sta (by exact sizeOf203) rfl rfl rfl (by rfl)) ?_
                                                    rintro _ _ ⟨rfl, rfl⟩
                                                    refine GoL.nil (GoE.then_normal (GoC.ret ?_))
                                                    refine GoE.block_ret (GoE.then_ret ?_)
                                                    refine GoE.retC rfl rfl isAgg203 (by exact sizeOf203) Cells.a fun w s => ⟨(), ?_, trivial, finE .auto s⟩
                                                    simp [formOf, formE, PrgV.p, *]
                                                  · refine GoC.seq (GoC.seq (GoC.region ?_))
                                                    refine GoL.y rfl (Y.eql rfl rfl) ?_
                                                    refine GoL.y rfl (Y.assign rfl) ?_
                                                    refine GoL.nil (GoE.then_normal ?_)
                                                    refine GoC.condD rfl (fun h65 => ?_) (fun h65 => ?_)
                                                    · refine GoC.skip (GoE.then_normal ?_)
                                                      first | refine GoC.condD rfl (fun _ => ?_) (fun hc => absurd h65 hc) | refine GoC.cond rfl (fun _ => ?_) (fun hc => by rw [h65] at hc; cases hc)
                                                      refine GoC.seq (GoC.region ?_)
                                                      refine GoL.y rfl (Y.fieldAddr0 5 23 underlying25 rfl sizeOf23 rfl) ?_
                                                      refine GoL.y rfl (Y.load isAgg23 rfl (Cell.a (by rfl))) ?_
                                                      refine GoL.y rfl (Y.lenRd underlying23 rfl Rd.s) ?_
                                                      refine GoL.y rfl (Y.bld2 (fun v1 v2 => [v1, (.bool false), v2, (.bool false)]) rfl rfl (by kernel_rfl)) ?_
                                                      refine GoL.does rfl (Does.sta (by exact sizeOf203) rfl rfl rfl (by rfl)) ?_
                                                      rintro _ _ ⟨rfl, rfl⟩
                                                      refine GoL.nil (GoE.then_normal (GoC.ret ?_))
                                                      refine GoE.block_ret (GoE.then_ret ?_)
                                                      refine GoE.retC rfl rfl isAgg203 (by exact sizeOf203) Cells.a fun w s => ⟨(), ?_, trivial, finE .auto s⟩
                                                      simp [formOf, formE, PrgV.p, *]
                                                    · refine GoC.region ?_
                                                      refine GoL.y rfl (Y.eql rfl rfl) ?_
                                                      refine GoL.y rfl (Y.assign rfl) ?_
                                                      refine GoL.nil (GoE.then_normal ?_)
                                                      refine GoC.condD rfl (fun h65 => ?_) (fun h65 => ?_)
                                                      · refine GoC.seq (GoC.region ?_)
                                                        refine GoL.y rfl (Y.fieldAddr0 5 23 underlying25 rfl sizeOf23 rfl) ?_
                                                        refine GoL.y rfl (Y.load isAgg23 rfl (Cell.a (by rfl))) ?_
                                                        refine GoL.y rfl (Y.lenRd underlying23 rfl Rd.s) ?_
                                                        refine GoL.y rfl (Y.bld2 (fun v1 v2 => [v1, (.bool false), v2, (.bool false)]) rfl rfl (by kernel_rfl)) ?_
                                                        refine GoL.does rfl (Does.sta (by exact sizeOf203) rfl rfl rfl (by rfl)) ?_
                                                        rintro _ _ ⟨rfl, rfl⟩
                                                        refine GoL.nil (GoE.then_normal (GoC.ret ?_))
                                                        refine GoE.block_ret (GoE.then_ret ?_)
                                                        refine GoE.retC rfl rfl isAgg203 (by exact sizeOf203) Cells.a fun w s => ⟨(), ?_, trivial, finE .auto s⟩
                                                        simp [formOf, formE, PrgV.p, *]
                                                      · refine GoC.skip ?_
                                                        refine GoE.block_normal (GoE.then_normal (GoC.seq (GoC.region ?_)))
                                                        refine GoL.y rfl (Y.bld2 (fun v1 v2 => [v1, (.bool false), v2, (.bool false)]) rfl rfl (by kernel_rfl)) ?_
                                                        refine GoL.does rfl (Does.sta (by exact sizeOf203) rfl rfl rfl (by rfl)) ?_
                                                        rintro _ _ ⟨rfl, rfl⟩
                                                        refine GoL.nil (GoE.then_normal (GoC.ret ?_))
                                                        refine GoE.retC rfl rfl isAgg203 (by exact sizeOf203) Cells.a fun w s => ⟨(), ?_, trivial, finE .auto s⟩
                                                        simp [formOf, formE, PrgV.p, *]

set_option maxRecDepth 20000 in
theorem inst_Sound {W : World} {A : HProp} {v : PrgV} (hp : PrgRd W [A] v) {i : Ins} (hb : (formOf v.p i.op).n ≤ 9223372036854775807) : Fn Tryz.prog W 82 [.agg (prgE v).toArray, .agg (insE i).toArray] [A] Unit (fun _ => .bool (soundI v.p i)) (fun _ => True) (fun _ => [A]) := by
  refine Fn.intro (N := 56) func82 rfl ntmps82 rfl fun F => ?_
  haveI hI1 : ∀ (H : List HProp) [HasH H A], ReadsC W H v.fv fstE 1 v.fs := fun H h => ⟨hp.fs.at h.has⟩
  haveI hI2 : ∀ (H : List HProp) [HasH H A], ReadsC W H v.sv intE 1 v.sems := fun H h => ⟨hp.sems.at h.has⟩
  haveI hI3 : ∀ (H : List HProp) [HasH H A], ReadsC W H v.pv intE 1 v.pipes := fun H h => ⟨hp.pipes.at h.has⟩
  show GoC _ _ _ _ _ _ [A, F]
  refine GoC.seq (GoC.region ?_)
  refine GoL.does rfl (Does.box rfl rfl rfl) ?_
  rintro _ _ ⟨b2, rfl, rfl⟩
  refine GoL.does rfl (Does.box rfl rfl rfl) ?_
  rintro _ _ ⟨b3, rfl, rfl⟩
  refine GoL.y rfl (Y.assign rfl) ?_
  refine GoL.nil (GoE.then_normal (GoC.seq (GoC.seq (GoC.region ?_))))
  refine GoL.y rfl (Y.fieldAddrZ 3 underlying123 rfl sizeOf3 rfl) ?_
  refine GoL.y rfl (Y.load isAgg3 rfl (Cell.a (by rfl))) ?_
  refine GoL.does rfl (Does.callE rfl call63 rfl inst_Class .auto) ?_
  rintro _ _ ⟨⟨⟩, -, rfl, rfl⟩
  refine GoL.y rfl (Y.eql rfl rfl) ?_
  refine GoL.nil (GoE.then_normal ?_)
  refine GoC.condD rfl (fun h10 => ?_) (fun h10 => ?_)
  · refine GoC.seq (GoC.region ?_)
    refine GoL.y rfl (Y.assign rfl) ?_
    refine GoL.nil (GoE.then_normal (GoC.ret ?_))
    refine GoE.then_ret ?_
    refine GoE.ret1 rfl rfl fun w s => ⟨(), ?_, trivial, finE .auto s⟩
    rw [soundI, if_pos h10]
  · refine GoC.skip (GoE.then_normal (GoC.seq (GoC.region ?_)))
    refine GoL.y rfl (Y.lda isAgg25 rfl Cells.a (by exact sizeOf25)) ?_
    refine GoL.y rfl (Y.fieldAddrZ 3 underlying123 rfl sizeOf3 rfl) ?_
    refine GoL.y rfl (Y.load isAgg3 rfl (Cell.a (by rfl))) ?_
    refine GoL.does rfl (Does.callE rfl call112 rfl (inst_of hp) .auto) ?_
    rintro _ _ ⟨⟨⟩, -, rfl, rfl⟩
    refine GoL.does rfl (Does.alloc rfl zeroValue203 rfl) ?_
    rintro _ _ ⟨b5, rfl, rfl⟩
    refine GoL.does rfl (Does.sta (by exact sizeOf203) rfl rfl rfl (by rfl)) ?_
    rintro _ _ ⟨rfl, rfl⟩
    refine GoL.nil (GoE.then_normal (GoC.seq (GoC.region ?_)))
    refine GoL.y rfl (Y.fieldAddr0 3 3 underlying123 rfl sizeOf3 rfl) ?_
    refine GoL.y rfl (Y.load isAgg3 rfl (Cell.a (by rfl))) ?_
    refine GoL.y rfl (Y.fieldAddrZ 3 underlying203 rfl sizeOf3 rfl) ?_
    refine GoL.y rfl (Y.load isAgg3 rfl (Cell.a (by rfl))) ?_
    refine GoL.y rfl (Y.gtr rfl rfl) ?_
    refine GoL.does rfl (Does.callE rfl call113 rfl inst_reg .auto) ?_
    rintro _ _ ⟨⟨⟩, -, rfl, rfl⟩
    refine GoL.y rfl (Y.assign rfl) ?_
    refine GoL.nil (GoE.then_normal (GoC.seq (GoC.seq (GoC.region ?_))))
    refine GoL.y rfl (Y.fieldAddr0 1 4 underlying203 rfl sizeOf4 rfl) ?_
    refine GoL.y rfl (Y.load isAgg4 rfl (Cell.a (by rfl))) ?_
    refine GoL.nil (GoE.then_normal ?_)
    refine GoC.cond rfl (fun h22 => ?_) (fun h22 => ?_)
    · refine GoC.region ?_
      refine GoL.y rfl (Y.fieldAddr0 3 3 underlying123 rfl sizeOf3 rfl) ?_
      refine GoL.y rfl (Y.load isAgg3 rfl (Cell.a (by rfl))) ?_
      refine GoL.y rfl (Y.geq rfl rfl) ?_
      refine GoL.y rfl (Y.move rfl) ?_
      apply GoL.segAD 6 32 26 [26, 27, 28, 29, 30, 31, 32] rfl
      · intro h26
        refine GoL.yg rfl rfl rfl (Y.fieldAddr0 3 3 underlying123 rfl sizeOf3 rfl) ?_
        refine GoL.yg rfl rfl rfl (Y.load isAgg3 rfl (Cell.a (by rfl))) ?_
        refine GoL.yg rfl rfl rfl (Y.fieldAddr0 2 3 underlying25 rfl sizeOf3 rfl) ?_
        refine GoL.yg rfl rfl rfl (Y.load isAgg3 rfl (Cell.a (by rfl))) ?_
        refine GoL.yg rfl rfl rfl (Y.lss rfl rfl) ?_
        refine GoL.y rfl (Y.pickT rfl rfl) ?_
        refine GoL.nil ?_
        refine GoE.seg .auto rfl (by first | exact fun _ h => h | exact Ent.kept .auto)
      · intro h26
        refine GoL.skip rfl rfl rfl rfl ?_
        refine GoL.skip rfl rfl rfl rfl ?_
        refine GoL.skip rfl rfl rfl rfl ?_
        refine GoL.skip rfl rfl rfl rfl ?_
        refine GoL.skip rfl rfl rfl rfl ?_
        refine GoL.y rfl (Y.pickF rfl rfl) ?_
        refine GoL.nil ?_
        refine GoE.seg .auto rfl (by first | exact fun _ h => h | exact Ent.kept .auto)
      refine GoL.y rfl (Y.assign rfl) ?_
      refine GoL.nil (GoE.then_normal (GoC.seq (GoC.region ?_)))
      refine GoL.y rfl (Y.fieldAddr0 1 3 underlying123 rfl sizeOf3 rfl) ?_
      refine GoL.y rfl (Y.load isAgg3 rfl (Cell.a (by rfl))) ?_
      refine GoL.y rfl (Y.fieldAddrZ 3 underlying203 rfl sizeOf3 rfl) ?_
      refine GoL.y rfl (Y.load isAgg3 rfl (Cell.a (by rfl))) ?_
      refine GoL.y rfl (Y.gtr rfl rfl) ?_
      refine GoL.does rfl (Does.callE rfl call113 rfl inst_reg .auto) ?_
      rintro _ _ ⟨⟨⟩, -, rfl, rfl⟩
      refine GoL.y rfl (Y.move rfl) ?_
      apply GoL.segA 7 46 39 [39, 40, 41, 42, 43, 44, 45, 46] rfl
      · intro h39
        refine GoL.yg rfl rfl rfl (Y.fieldAddr0 2 3 underlying123 rfl sizeOf3 rfl) ?_
        refine GoL.yg rfl rfl rfl (Y.load isAgg3 rfl (Cell.a (by rfl))) ?_
        refine GoL.yg rfl rfl rfl (Y.fieldAddrZ 3 underlying203 rfl sizeOf3 rfl) ?_
        refine GoL.yg rfl rfl rfl (Y.load isAgg3 rfl (Cell.a (by rfl))) ?_
        refine GoL.yg rfl rfl rfl (Y.gtr rfl rfl) ?_
        refine GoL.dg rfl rfl rfl (Does.callE rfl call113 rfl inst_reg .auto) ?_
        rintro _ _ ⟨⟨⟩, -, rfl, rfl⟩
        refine GoL.y rfl (Y.pickT rfl rfl) ?_
        refine GoL.nil ?_
        refine GoE.seg .auto rfl (by first | exact fun _ h => h | exact Ent.kept .auto)
      · intro h39
        refine GoL.skip rfl rfl rfl rfl ?_
        refine GoL.skip rfl rfl rfl rfl ?_
        refine GoL.skip rfl rfl rfl rfl ?_
        refine GoL.skip rfl rfl rfl rfl ?_
        refine GoL.skip rfl rfl rfl rfl ?_
        refine GoL.skip rfl rfl rfl rfl ?_
        refine GoL.y rfl (Y.pickF rfl rfl) ?_
        refine GoL.nil ?_
        refine GoE.seg .auto rfl (by first | exact fun _ h => h | exact Ent.kept .auto)
      refine GoL.y rfl (Y.move rfl) ?_
      apply GoL.segA 2 49 47 [47, 48, 49] rfl
      · intro h47
        refine GoL.yg rfl rfl rfl (Y.move rfl) ?_
        refine GoL.y rfl (Y.pickT rfl rfl) ?_
        refine GoL.nil ?_
        refine GoE.seg .auto rfl (by first | exact fun _ h => h | exact Ent.kept .auto)
      · intro h47
        refine GoL.skip rfl rfl rfl rfl ?_
        refine GoL.y rfl (Y.pickF rfl rfl) ?_
        refine GoL.nil ?_
        refine GoE.seg .auto rfl (by first | exact fun _ h => h | exact Ent.kept .auto)
      refine GoL.y rfl (Y.move rfl) ?_
      apply GoL.segA 5 55 50 [50, 51, 52, 53, 54, 55] rfl
      · intro h50
        refine GoL.yg rfl rfl rfl (Y.lda isAgg203 rfl Cells.a (by exact sizeOf203)) ?_
        refine GoL.yg rfl rfl rfl (Y.fieldAddr0 4 43 underlying123 rfl sizeOf43 rfl) ?_
        refine GoL.yg rfl rfl rfl (Y.load isAgg43 rfl (Cell.a (by rfl))) ?_
        refine GoL.dg rfl rfl rfl (Does.callE rfl call114 rfl (inst_below hb) .auto) ?_
        rintro _ _ ⟨⟨⟩, -, rfl, rfl⟩
        refine GoL.y rfl (Y.pickT rfl rfl) ?_
        refine GoL.nil ?_
        refine GoE.seg .auto rfl (by first | exact fun _ h => h | exact Ent.kept .auto)
      · intro h50
        refine GoL.skip rfl rfl rfl rfl ?_
        refine GoL.skip rfl rfl rfl rfl ?_
        refine GoL.skip rfl rfl rfl rfl ?_
        refine GoL.skip rfl rfl rfl rfl ?_
        refine GoL.y rfl (Y.pickF rfl rfl) ?_
        refine GoL.nil ?_
        refine GoE.seg .auto rfl (by first | exact fun _ h => h | exact Ent.kept .auto)
      refine GoL.y rfl (Y.assign rfl) ?_
      refine GoL.nil (GoE.then_normal (GoC.ret ?_))
      refine GoE.ret1 rfl rfl fun w s => ⟨(), ?_, trivial, finE .auto s⟩
      refine retB ?_; rw [soundI, if_neg h10]; simp only [h22, if_true]; try rfl
    · refine GoC.skip (GoE.then_normal (GoC.seq (GoC.region ?_)))
      refine GoL.y rfl (Y.fieldAddr0 1 3 underlying123 rfl sizeOf3 rfl) ?_
      refine GoL.y rfl (Y.load isAgg3 rfl (Cell.a (by rfl))) ?_
      refine GoL.y rfl (Y.fieldAddrZ 3 underlying203 rfl sizeOf3 rfl) ?_
      refine GoL.y rfl (Y.load isAgg3 rfl (Cell.a (by rfl))) ?_
      refine GoL.y rfl (Y.gtr rfl rfl) ?_
      refine GoL.does rfl (Does.callE rfl call113 rfl inst_reg .auto) ?_
      rintro _ _ ⟨⟨⟩, -, rfl, rfl⟩
      refine GoL.y rfl (Y.move rfl) ?_
      apply GoL.segA 7 46 39 [39, 40, 41, 42, 43, 44, 45, 46] rfl
      · intro h39
        refine GoL.yg rfl rfl rfl (Y.fieldAddr0 2 3 underlying123 rfl sizeOf3 rfl) ?_
        refine GoL.yg rfl rfl rfl (Y.load isAgg3 rfl (Cell.a (by rfl))) ?_
        refine GoL.yg rfl rfl rfl (Y.fieldAddrZ 3 underlying203 rfl sizeOf3 rfl) ?_
        refine GoL.yg rfl rfl rfl (Y.load isAgg3 rfl (Cell.a (by rfl))) ?_
        refine GoL.yg rfl rfl rfl (Y.gtr rfl rfl) ?_
        refine GoL.dg rfl rfl rfl (Does.callE rfl call113 rfl inst_reg .auto) ?_
        rintro _ _ ⟨⟨⟩, -, rfl, rfl⟩
        refine GoL.y rfl (Y.pickT rfl rfl) ?_
        refine GoL.nil ?_
        refine GoE.seg .auto rfl (by first | exact fun _ h => h | exact Ent.kept .auto)
      · intro h39
        refine GoL.skip rfl rfl rfl rfl ?_
        refine GoL.skip rfl rfl rfl rfl ?_
        refine GoL.skip rfl rfl rfl rfl ?_
        refine GoL.skip rfl rfl rfl rfl ?_
        refine GoL.skip rfl rfl rfl rfl ?_
        refine GoL.skip rfl rfl rfl rfl ?_
        refine GoL.y rfl (Y.pickF rfl rfl) ?_
        refine GoL.nil ?_
        refine GoE.seg .auto rfl (by first | exact fun _ h => h | exact Ent.kept .auto)
      refine GoL.y rfl (Y.move rfl) ?_
      apply GoL.segA 2 49 47 [47, 48, 49] rfl
      · intro h47
        refine GoL.yg rfl rfl rfl (Y.move rfl) ?_
        refine GoL.y rfl (Y.pickT rfl rfl) ?_
        refine GoL.nil ?_
        refine GoE.seg .auto rfl (by first | exact fun _ h => h | exact Ent.kept .auto)
      · intro h47
        refine GoL.skip rfl rfl rfl rfl ?_
        refine GoL.y rfl (Y.pickF rfl rfl) ?_
        refine GoL.nil ?_
        refine GoE.seg .auto rfl (by first | exact fun _ h => h | exact Ent.kept .auto)
      refine GoL.y rfl (Y.move rfl) ?_
      apply GoL.segA 5 55 50 [50, 51, 52, 53, 54, 55] rfl
      · intro h50
        refine GoL.yg rfl rfl rfl (Y.lda isAgg203 rfl Cells.a (by exact sizeOf203)) ?_
        refine GoL.yg rfl rfl rfl (Y.fieldAddr0 4 43 underlying123 rfl sizeOf43 rfl) ?_
        refine GoL.yg rfl rfl rfl (Y.load isAgg43 rfl (Cell.a (by rfl))) ?_
        refine GoL.dg rfl rfl rfl (Does.callE rfl call114 rfl (inst_below hb) .auto) ?_
        rintro _ _ ⟨⟨⟩, -, rfl, rfl⟩
        refine GoL.y rfl (Y.pickT rfl rfl) ?_
        refine GoL.nil ?_
        refine GoE.seg .auto rfl (by first | exact fun _ h => h | exact Ent.kept .auto)
      · intro h50
        refine GoL.skip rfl rfl rfl rfl ?_
        refine GoL.skip rfl rfl rfl rfl ?_
        refine GoL.skip rfl rfl rfl rfl ?_
        refine GoL.skip rfl rfl rfl rfl ?_
        refine GoL.y rfl (Y.pickF rfl rfl) ?_
        refine GoL.nil ?_
        refine GoE.seg .auto rfl (by first | exact fun _ h => h | exact Ent.kept .auto)
      refine GoL.y rfl (Y.assign rfl) ?_
      refine GoL.nil (GoE.then_normal (GoC.ret ?_))
      refine GoE.ret1 rfl rfl fun w s => ⟨(), ?_, trivial, finE .auto s⟩
      refine retB ?_; rw [soundI, if_neg h10]; simp only [h22, if_false, Bool.false_eq_true]; try rfl

set_option maxRecDepth 20000 in
theorem inst_caps {W : World} {A : HProp} {v : PrgV} (hp : PrgRd W [A] v) (hl : v.fs.length ≤ 1000000000 ∧ v.sems.length ≤ 1000000000 ∧ v.pipes.length ≤ 1000000000) : Fn Tryz.prog W 81 [.agg (prgE v).toArray] [A] Unit (fun _ => .bool (capsI v.p)) (fun _ => True) (fun _ => [A]) := by
  refine Fn.intro (N := 102) func81 rfl ntmps81 rfl fun F => ?_
  haveI hI1 : ∀ (H : List HProp) [HasH H A], ReadsC W H v.fv fstE 1 v.fs := fun H h => ⟨hp.fs.at h.has⟩
  haveI hI2 : ∀ (H : List HProp) [HasH H A], ReadsC W H v.sv intE 1 v.sems := fun H h => ⟨hp.sems.at h.has⟩
  haveI hI3 : ∀ (H : List HProp) [HasH H A], ReadsC W H v.pv intE 1 v.pipes := fun H h => ⟨hp.pipes.at h.has⟩
  show GoC _ _ _ _ _ _ [A, F]
  refine GoC.seq (GoC.region ?_)
  refine GoL.does rfl (Does.box rfl rfl rfl) ?_
  rintro _ _ ⟨b1, rfl, rfl⟩
  refine GoL.y rfl (Y.assign rfl) ?_
  refine GoL.nil (GoE.then_normal (GoC.seq (GoC.region ?_)))
  refine GoL.y rfl (Y.fieldAddrZ 22 underlying25 rfl sizeOf22 rfl) ?_
  refine GoL.y rfl (Y.load isAgg22 rfl (Cell.a (by rfl))) ?_
  refine GoL.y rfl (Y.lenRd underlying22 rfl Rd.s) ?_
  refine GoL.y rfl (Y.gtr rfl rfl) ?_
  refine GoL.y rfl (Y.move rfl) ?_
  apply GoL.segAD 5 19 14 [14, 15, 16, 17, 18, 19] rfl
  · intro h14
    refine GoL.yg rfl rfl rfl (Y.fieldAddrZ 22 underlying25 rfl sizeOf22 rfl) ?_
    refine GoL.yg rfl rfl rfl (Y.load isAgg22 rfl (Cell.a (by rfl))) ?_
    refine GoL.yg rfl rfl rfl (Y.lenRd underlying22 rfl Rd.s) ?_
    refine GoL.yg rfl rfl rfl (Y.leq rfl rfl) ?_
    refine GoL.y rfl (Y.pickT rfl rfl) ?_
    refine GoL.nil ?_
    refine GoE.seg .auto rfl (by first | exact fun _ h => h | exact Ent.kept .auto)
  · intro h14
    refine GoL.skip rfl rfl rfl rfl ?_
    refine GoL.skip rfl rfl rfl rfl ?_
    refine GoL.skip rfl rfl rfl rfl ?_
    refine GoL.skip rfl rfl rfl rfl ?_
    refine GoL.y rfl (Y.pickF rfl rfl) ?_
    refine GoL.nil ?_
    refine GoE.seg .auto rfl (by first | exact fun _ h => h | exact Ent.kept .auto)
  refine GoL.y rfl (Y.move rfl) ?_
  apply GoL.segA 4 24 20 [20, 21, 22, 23, 24] rfl
  · intro h20
    refine GoL.yg rfl rfl rfl (Y.fieldAddr0 1 3 underlying25 rfl sizeOf3 rfl) ?_
    refine GoL.yg rfl rfl rfl (Y.load isAgg3 rfl (Cell.a (by rfl))) ?_
    refine GoL.dg rfl rfl rfl (Does.callE rfl call111 rfl inst_within .auto) ?_
    rintro _ _ ⟨⟨⟩, -, rfl, rfl⟩
    refine GoL.y rfl (Y.pickT rfl rfl) ?_
    refine GoL.nil ?_
    refine GoE.seg .auto rfl (by first | exact fun _ h => h | exact Ent.kept .auto)
  · intro h20
    refine GoL.skip rfl rfl rfl rfl ?_
    refine GoL.skip rfl rfl rfl rfl ?_
    refine GoL.skip rfl rfl rfl rfl ?_
    refine GoL.y rfl (Y.pickF rfl rfl) ?_
    refine GoL.nil ?_
    refine GoE.seg .auto rfl (by first | exact fun _ h => h | exact Ent.kept .auto)
  refine GoL.y rfl (Y.move rfl) ?_
  apply GoL.segA 4 29 25 [25, 26, 27, 28, 29] rfl
  · intro h25
    refine GoL.yg rfl rfl rfl (Y.fieldAddr0 2 3 underlying25 rfl sizeOf3 rfl) ?_
    refine GoL.yg rfl rfl rfl (Y.load isAgg3 rfl (Cell.a (by rfl))) ?_
    refine GoL.dg rfl rfl rfl (Does.callE rfl call111 rfl inst_within .auto) ?_
    rintro _ _ ⟨⟨⟩, -, rfl, rfl⟩
    refine GoL.y rfl (Y.pickT rfl rfl) ?_
    refine GoL.nil ?_
    refine GoE.seg .auto rfl (by first | exact fun _ h => h | exact Ent.kept .auto)
  · intro h25
    refine GoL.skip rfl rfl rfl rfl ?_
    refine GoL.skip rfl rfl rfl rfl ?_
    refine GoL.skip rfl rfl rfl rfl ?_
    refine GoL.y rfl (Y.pickF rfl rfl) ?_
    refine GoL.nil ?_
    refine GoE.seg .auto rfl (by first | exact fun _ h => h | exact Ent.kept .auto)
  refine GoL.y rfl (Y.move rfl) ?_
  apply GoL.segA 4 34 30 [30, 31, 32, 33, 34] rfl
  · intro h30
    refine GoL.yg rfl rfl rfl (Y.fieldAddr0 3 3 underlying25 rfl sizeOf3 rfl) ?_
    refine GoL.yg rfl rfl rfl (Y.load isAgg3 rfl (Cell.a (by rfl))) ?_
    refine GoL.dg rfl rfl rfl (Does.callE rfl call111 rfl inst_within .auto) ?_
    rintro _ _ ⟨⟨⟩, -, rfl, rfl⟩
    refine GoL.y rfl (Y.pickT rfl rfl) ?_
    refine GoL.nil ?_
    refine GoE.seg .auto rfl (by first | exact fun _ h => h | exact Ent.kept .auto)
  · intro h30
    refine GoL.skip rfl rfl rfl rfl ?_
    refine GoL.skip rfl rfl rfl rfl ?_
    refine GoL.skip rfl rfl rfl rfl ?_
    refine GoL.y rfl (Y.pickF rfl rfl) ?_
    refine GoL.nil ?_
    refine GoE.seg .auto rfl (by first | exact fun _ h => h | exact Ent.kept .auto)
  refine GoL.y rfl (Y.move rfl) ?_
  apply GoL.segA 4 39 35 [35, 36, 37, 38, 39] rfl
  · intro h35
    refine GoL.yg rfl rfl rfl (Y.fieldAddr0 6 3 underlying25 rfl sizeOf3 rfl) ?_
    refine GoL.yg rfl rfl rfl (Y.load isAgg3 rfl (Cell.a (by rfl))) ?_
    refine GoL.dg rfl rfl rfl (Does.callE rfl call111 rfl inst_within .auto) ?_
    rintro _ _ ⟨⟨⟩, -, rfl, rfl⟩
    refine GoL.y rfl (Y.pickT rfl rfl) ?_
    refine GoL.nil ?_
    refine GoE.seg .auto rfl (by first | exact fun _ h => h | exact Ent.kept .auto)
  · intro h35
    refine GoL.skip rfl rfl rfl rfl ?_
    refine GoL.skip rfl rfl rfl rfl ?_
    refine GoL.skip rfl rfl rfl rfl ?_
    refine GoL.y rfl (Y.pickF rfl rfl) ?_
    refine GoL.nil ?_
    refine GoE.seg .auto rfl (by first | exact fun _ h => h | exact Ent.kept .auto)
  refine GoL.y rfl (Y.move rfl) ?_
  apply GoL.segA 4 44 40 [40, 41, 42, 43, 44] rfl
  · intro h40
    refine GoL.yg rfl rfl rfl (Y.fieldAddr0 7 3 underlying25 rfl sizeOf3 rfl) ?_
    refine GoL.yg rfl rfl rfl (Y.load isAgg3 rfl (Cell.a (by rfl))) ?_
    refine GoL.dg rfl rfl rfl (Does.callE rfl call111 rfl inst_within .auto) ?_
    rintro _ _ ⟨⟨⟩, -, rfl, rfl⟩
    refine GoL.y rfl (Y.pickT rfl rfl) ?_
    refine GoL.nil ?_
    refine GoE.seg .auto rfl (by first | exact fun _ h => h | exact Ent.kept .auto)
  · intro h40
    refine GoL.skip rfl rfl rfl rfl ?_
    refine GoL.skip rfl rfl rfl rfl ?_
    refine GoL.skip rfl rfl rfl rfl ?_
    refine GoL.y rfl (Y.pickF rfl rfl) ?_
    refine GoL.nil ?_
    refine GoE.seg .auto rfl (by first | exact fun _ h => h | exact Ent.kept .auto)
  refine GoL.y rfl (Y.move rfl) ?_
  apply GoL.segA 5 50 45 [45, 46, 47, 48, 49, 50] rfl
  · intro h45
    refine GoL.yg rfl rfl rfl (Y.fieldAddr0 4 23 underlying25 rfl sizeOf23 rfl) ?_
    refine GoL.yg rfl rfl rfl (Y.load isAgg23 rfl (Cell.a (by rfl))) ?_
    refine GoL.yg rfl rfl rfl (Y.lenRd underlying23 rfl Rd.s) ?_
    refine GoL.yg rfl rfl rfl (Y.leq rfl rfl) ?_
    refine GoL.y rfl (Y.pickT rfl rfl) ?_
    refine GoL.nil ?_
    refine GoE.seg .auto rfl (by first | exact fun _ h => h | exact Ent.kept .auto)
  · intro h45
    refine GoL.skip rfl rfl rfl rfl ?_
    refine GoL.skip rfl rfl rfl rfl ?_
    refine GoL.skip rfl rfl rfl rfl ?_
    refine GoL.skip rfl rfl rfl rfl ?_
    refine GoL.y rfl (Y.pickF rfl rfl) ?_
    refine GoL.nil ?_
    refine GoE.seg .auto rfl (by first | exact fun _ h => h | exact Ent.kept .auto)
  refine GoL.y rfl (Y.move rfl) ?_
  apply GoL.segA 5 56 51 [51, 52, 53, 54, 55, 56] rfl
  · intro h51
    refine GoL.yg rfl rfl rfl (Y.fieldAddr0 5 23 underlying25 rfl sizeOf23 rfl) ?_
    refine GoL.yg rfl rfl rfl (Y.load isAgg23 rfl (Cell.a (by rfl))) ?_
    refine GoL.yg rfl rfl rfl (Y.lenRd underlying23 rfl Rd.s) ?_
    refine GoL.yg rfl rfl rfl (Y.leq rfl rfl) ?_
    refine GoL.y rfl (Y.pickT rfl rfl) ?_
    refine GoL.nil ?_
    refine GoE.seg .auto rfl (by first | exact fun _ h => h | exact Ent.kept .auto)
  · intro h51
    refine GoL.skip rfl rfl rfl rfl ?_
    refine GoL.skip rfl rfl rfl rfl ?_
    refine GoL.skip rfl rfl rfl rfl ?_
    refine GoL.skip rfl rfl rfl rfl ?_
    refine GoL.y rfl (Y.pickF rfl rfl) ?_
    refine GoL.nil ?_
    refine GoE.seg .auto rfl (by first | exact fun _ h => h | exact Ent.kept .auto)
  refine GoL.y rfl (Y.assign rfl) ?_
  refine GoL.nil (GoE.then_normal (GoC.seq (GoC.seq (GoC.region ?_))))
  refine GoL.y rfl (Y.fieldAddrZ 22 underlying25 rfl sizeOf22 rfl) ?_
  refine GoL.y rfl (Y.load isAgg22 rfl (Cell.a (by rfl))) ?_
  refine GoL.y rfl (Y.lenRd underlying22 rfl Rd.s) ?_
  refine GoL.y rfl (Y.move rfl) ?_
  refine GoL.nil (GoE.then_normal (GoC.block ?_))
  refine GoC.loopK (X := Nat × Bool) [3, 5, 60, 61, 62, 63, 64, 65, 66, 67, 68, 69, 70] (fun z => v.fs.length - z.1) (fun z => z.1 ≤ v.fs.length ∧ z.2 = capsV1 v z.1) (fun z => [(60, some (.int .i64 (z.1 : Int))), (3, some (.bool z.2))]) (fun z => [arr b1 0 (prgE v), A, F]) (0, capsV0 v) ?_ ?_ ?_ ?_
  · exact ⟨Nat.zero_le _, by simp [capsV1]⟩
  · exact ⟨rfl, rfl, trivial⟩
  · exact fun w s => Ent.kept .auto w s
  rintro ⟨k, y⟩ ⟨hk, hy⟩
  simp only at hk hy
  refine GoC.seq (GoC.region ?_)
  refine GoL.y rfl (Y.lss rfl rfl) ?_
  refine GoL.nil (GoE.then_normal (GoC.seq ?_))
  refine GoC.condD rfl (fun h61 => ?_) (fun h61 => ?_)
  · refine GoC.skip (GoE.then_normal (GoC.seq (GoC.block (GoC.seq (GoC.region ?_)))))
    obtain ⟨x, hx⟩ := at_some (show k < v.fs.length by omega)
    have hi := hp.ins x (List.mem_of_getElem? hx)
    haveI hI4 : ∀ (H : List HProp) [HasH H A], ReadsC W H x.1 insE 5 x.2 := fun H h => ⟨hi.at h.has⟩
    refine GoL.y rfl (Y.ixRd _ underlying22 sizeOf120 rfl rfl Rd.s rfl (by first | omega | decide)) ?_
    refine GoL.y rfl (Y.load isAgg120 rfl (Cell.rd0 Rd.s ‹_› (by rfl))) ?_
    refine GoL.y rfl (Y.assign rfl) ?_
    refine GoL.nil (GoE.then_normal (GoC.region ?_))
    refine GoL.y rfl (Y.move rfl) ?_
    refine GoL.y rfl (Y.move rfl) ?_
    apply GoL.segA 4 69 65 [65, 66, 67, 68, 69] rfl
    · intro h65
      refine GoL.yg rfl rfl rfl (Y.move rfl) ?_
      refine GoL.yg rfl rfl rfl (Y.lenRd underlying120 rfl Rd.s) ?_
      refine GoL.yg rfl rfl rfl (Y.leq rfl rfl) ?_
      refine GoL.y rfl (Y.pickT rfl rfl) ?_
      refine GoL.nil ?_
      refine GoE.seg .auto rfl (by first | exact fun _ h => h | exact Ent.kept .auto)
    · intro h65
      refine GoL.skip rfl rfl rfl rfl ?_
      refine GoL.skip rfl rfl rfl rfl ?_
      refine GoL.skip rfl rfl rfl rfl ?_
      refine GoL.y rfl (Y.pickF rfl rfl) ?_
      refine GoL.nil ?_
      refine GoE.seg .auto rfl (by first | exact fun _ h => h | exact Ent.kept .auto)
    refine GoL.y rfl (Y.assign rfl) ?_
    refine GoL.nil ?_
    refine GoE.block_normal (GoE.then_normal (GoC.region ?_))
    refine GoL.y rfl (Y.inc rfl rfl (by omega)) ?_
    refine GoL.y rfl (Y.move rfl) ?_
    refine GoL.nil ?_
    refine GoE.againK (k + 1, (y && decide ((x.2.length : Int) ≤ 256))) .auto rfl ?_ ?_ ?_ ?_
    · show v.fs.length - (k + 1) < v.fs.length - k; omega
    · refine ⟨by show k + 1 ≤ _; omega, ?_⟩
      rw [capsV1, all_snoc hx, hy, capsV1]
      simp only [Bool.and_assoc]
    · exact ⟨rfl, rfl, trivial⟩
    · exact fun w s => Ent.kept .auto w s
  · refine GoC.exit ?_
    refine GoE.then_exit (GoE.then_exit (GoE.block_here (GoE.then_normal ?_)))
    refine GoC.seq (GoC.seq (GoC.region ?_))
    refine GoL.y rfl (Y.fieldAddr0 4 23 underlying25 rfl sizeOf23 rfl) ?_
    refine GoL.y rfl (Y.load isAgg23 rfl (Cell.a (by rfl))) ?_
    refine GoL.y rfl (Y.lenRd underlying23 rfl Rd.s) ?_
    refine GoL.y rfl (Y.move rfl) ?_
    refine GoL.nil (GoE.then_normal (GoC.block ?_))
    obtain rfl : k = v.fs.length := by omega
    refine GoC.loopK (X := Nat × Bool) [3, 7, 74, 75, 76, 77, 78, 79, 80, 81, 82, 83] (fun z => v.sems.length - z.1) (fun z => z.1 ≤ v.sems.length ∧ z.2 = capsV2 v z.1) (fun z => [(74, some (.int .i64 (z.1 : Int))), (3, some (.bool z.2))]) (fun z => [arr b1 0 (prgE v), A, F]) (0, y) ?_ ?_ ?_ ?_
    · exact ⟨Nat.zero_le _, by rw [capsV2, hy]; simp⟩
    · exact ⟨rfl, rfl, trivial⟩
    · exact fun w s => Ent.kept .auto w s
    rintro ⟨k, y⟩ ⟨hk, hy⟩
    simp only at hk hy
    refine GoC.seq (GoC.region ?_)
    refine GoL.y rfl (Y.lss rfl rfl) ?_
    refine GoL.nil (GoE.then_normal (GoC.seq ?_))
    refine GoC.condD rfl (fun h75 => ?_) (fun h75 => ?_)
    · refine GoC.skip (GoE.then_normal (GoC.seq (GoC.block (GoC.seq (GoC.region ?_)))))
      obtain ⟨x, hx⟩ := at_some (show k < v.sems.length by omega)
      refine GoL.y rfl (Y.ixRd _ underlying23 sizeOf3 rfl rfl Rd.s rfl (by first | omega | decide)) ?_
      refine GoL.y rfl (Y.load isAgg3 rfl (Cell.rd0 Rd.s ‹_› (by rfl))) ?_
      refine GoL.y rfl (Y.assign rfl) ?_
      refine GoL.nil (GoE.then_normal (GoC.region ?_))
      refine GoL.y rfl (Y.move rfl) ?_
      refine GoL.y rfl (Y.move rfl) ?_
      apply GoL.segA 3 82 79 [79, 80, 81, 82] rfl
      · intro h79
        refine GoL.yg rfl rfl rfl (Y.move rfl) ?_
        refine GoL.dg rfl rfl rfl (Does.callE rfl call111 rfl inst_within .auto) ?_
        rintro _ _ ⟨⟨⟩, -, rfl, rfl⟩
        refine GoL.y rfl (Y.pickT rfl rfl) ?_
        refine GoL.nil ?_
        refine GoE.seg .auto rfl (by first | exact fun _ h => h | exact Ent.kept .auto)
      · intro h79
        refine GoL.skip rfl rfl rfl rfl ?_
        refine GoL.skip rfl rfl rfl rfl ?_
        refine GoL.y rfl (Y.pickF rfl rfl) ?_
        refine GoL.nil ?_
        refine GoE.seg .auto rfl (by first | exact fun _ h => h | exact Ent.kept .auto)
      refine GoL.y rfl (Y.assign rfl) ?_
      refine GoL.nil ?_
      refine GoE.block_normal (GoE.then_normal (GoC.region ?_))
      refine GoL.y rfl (Y.inc rfl rfl (by omega)) ?_
      refine GoL.y rfl (Y.move rfl) ?_
      refine GoL.nil ?_
      refine GoE.againK (k + 1, (y && within x 1048576)) .auto rfl ?_ ?_ ?_ ?_
      · show v.sems.length - (k + 1) < v.sems.length - k; omega
      · refine ⟨by show k + 1 ≤ _; omega, ?_⟩
        rw [capsV2, all_snoc hx, hy, capsV2]
        simp only [Bool.and_assoc]
      · exact ⟨rfl, rfl, trivial⟩
      · exact fun w s => Ent.kept .auto w s
    · refine GoC.exit ?_
      refine GoE.then_exit (GoE.then_exit (GoE.block_here (GoE.then_normal ?_)))
      refine GoC.seq (GoC.seq (GoC.region ?_))
      refine GoL.y rfl (Y.fieldAddr0 5 23 underlying25 rfl sizeOf23 rfl) ?_
      refine GoL.y rfl (Y.load isAgg23 rfl (Cell.a (by rfl))) ?_
      refine GoL.y rfl (Y.lenRd underlying23 rfl Rd.s) ?_
      refine GoL.y rfl (Y.move rfl) ?_
      refine GoL.nil (GoE.then_normal (GoC.block ?_))
      obtain rfl : k = v.sems.length := by omega
      refine GoC.loopK (X := Nat × Bool) [3, 9, 87, 88, 89, 90, 91, 92, 93, 94, 95, 96, 97, 98, 99, 100] (fun z => v.pipes.length - z.1) (fun z => z.1 ≤ v.pipes.length ∧ z.2 = capsV3 v z.1) (fun z => [(87, some (.int .i64 (z.1 : Int))), (3, some (.bool z.2))]) (fun z => [arr b1 0 (prgE v), A, F]) (0, y) ?_ ?_ ?_ ?_
      · exact ⟨Nat.zero_le _, by rw [capsV3, hy]; simp⟩
      · exact ⟨rfl, rfl, trivial⟩
      · exact fun w s => Ent.kept .auto w s
      rintro ⟨k, y⟩ ⟨hk, hy⟩
      simp only at hk hy
      refine GoC.seq (GoC.region ?_)
      refine GoL.y rfl (Y.lss rfl rfl) ?_
      refine GoL.nil (GoE.then_normal (GoC.seq ?_))
      refine GoC.condD rfl (fun h88 => ?_) (fun h88 => ?_)
      · refine GoC.skip (GoE.then_normal (GoC.seq (GoC.block (GoC.seq (GoC.region ?_)))))
        obtain ⟨x, hx⟩ := at_some (show k < v.pipes.length by omega)
        refine GoL.y rfl (Y.ixRd _ underlying23 sizeOf3 rfl rfl Rd.s rfl (by first | omega | decide)) ?_
        refine GoL.y rfl (Y.load isAgg3 rfl (Cell.rd0 Rd.s ‹_› (by rfl))) ?_
        refine GoL.y rfl (Y.assign rfl) ?_
        refine GoL.nil (GoE.then_normal (GoC.region ?_))
        refine GoL.y rfl (Y.move rfl) ?_
        refine GoL.y rfl (Y.move rfl) ?_
        apply GoL.segA 3 95 92 [92, 93, 94, 95] rfl
        · intro h92
          refine GoL.yg rfl rfl rfl (Y.move rfl) ?_
          refine GoL.yg rfl rfl rfl (Y.gtr rfl rfl) ?_
          refine GoL.y rfl (Y.pickT rfl rfl) ?_
          refine GoL.nil ?_
          refine GoE.seg .auto rfl (by first | exact fun _ h => h | exact Ent.kept .auto)
        · intro h92
          refine GoL.skip rfl rfl rfl rfl ?_
          refine GoL.skip rfl rfl rfl rfl ?_
          refine GoL.y rfl (Y.pickF rfl rfl) ?_
          refine GoL.nil ?_
          refine GoE.seg .auto rfl (by first | exact fun _ h => h | exact Ent.kept .auto)
        refine GoL.y rfl (Y.move rfl) ?_
        apply GoL.segA 3 99 96 [96, 97, 98, 99] rfl
        · intro h96
          refine GoL.yg rfl rfl rfl (Y.move rfl) ?_
          refine GoL.dg rfl rfl rfl (Does.callE rfl call111 rfl inst_within .auto) ?_
          rintro _ _ ⟨⟨⟩, -, rfl, rfl⟩
          refine GoL.y rfl (Y.pickT rfl rfl) ?_
          refine GoL.nil ?_
          refine GoE.seg .auto rfl (by first | exact fun _ h => h | exact Ent.kept .auto)
        · intro h96
          refine GoL.skip rfl rfl rfl rfl ?_
          refine GoL.skip rfl rfl rfl rfl ?_
          refine GoL.y rfl (Y.pickF rfl rfl) ?_
          refine GoL.nil ?_
          refine GoE.seg .auto rfl (by first | exact fun _ h => h | exact Ent.kept .auto)
        refine GoL.y rfl (Y.assign rfl) ?_
        refine GoL.nil ?_
        refine GoE.block_normal (GoE.then_normal (GoC.region ?_))
        refine GoL.y rfl (Y.inc rfl rfl (by omega)) ?_
        refine GoL.y rfl (Y.move rfl) ?_
        refine GoL.nil ?_
        refine GoE.againK (k + 1, ((y && decide (0 < x)) && within x 8)) .auto rfl ?_ ?_ ?_ ?_
        · show v.pipes.length - (k + 1) < v.pipes.length - k; omega
        · refine ⟨by show k + 1 ≤ _; omega, ?_⟩
          rw [capsV3, all_snoc hx, hy, capsV3]
          simp only [Bool.and_assoc]
        · exact ⟨rfl, rfl, trivial⟩
        · exact fun w s => Ent.kept .auto w s
      · refine GoC.exit ?_
        refine GoE.then_exit (GoE.then_exit (GoE.block_here (GoE.then_normal ?_)))
        refine GoC.seq (GoC.region ?_)
        refine GoL.y rfl (Y.move rfl) ?_
        refine GoL.y rfl (Y.assign rfl) ?_
        refine GoL.nil (GoE.then_normal (GoC.ret ?_))
        obtain rfl : k = v.pipes.length := by omega
        refine GoE.ret1 rfl rfl fun w s => ⟨(), ?_, trivial, finE .auto s⟩
        rw [hy, capsV_eq]

set_option maxRecDepth 20000 in
theorem inst_Check {W : World} {A : HProp} {v : PrgV} (hp : PrgRd W [A] v) (hl : v.fs.length ≤ 1000000000 ∧ v.sems.length ≤ 1000000000 ∧ v.pipes.length ≤ 1000000000) : Fn Tryz.prog W 49 [.agg (prgE v).toArray] [A] Unit (fun _ => .int .i64 (checkI v.p)) (fun _ => True) (fun _ => [A]) := by
  refine Fn.intro (N := 29) func49 rfl ntmps49 rfl fun F => ?_
  haveI hI1 : ∀ (H : List HProp) [HasH H A], ReadsC W H v.fv fstE 1 v.fs := fun H h => ⟨hp.fs.at h.has⟩
  haveI hI2 : ∀ (H : List HProp) [HasH H A], ReadsC W H v.sv intE 1 v.sems := fun H h => ⟨hp.sems.at h.has⟩
  haveI hI3 : ∀ (H : List HProp) [HasH H A], ReadsC W H v.pv intE 1 v.pipes := fun H h => ⟨hp.pipes.at h.has⟩
  show GoC _ _ _ _ _ _ [A, F]
  refine GoC.seq (GoC.region ?_)
  refine GoL.does rfl (Does.box rfl rfl rfl) ?_
  rintro _ _ ⟨b1, rfl, rfl⟩
  refine GoL.y rfl (Y.assign rfl) ?_
  refine GoL.nil (GoE.then_normal (GoC.seq (GoC.seq (GoC.region ?_))))
  refine GoL.y rfl (Y.lda isAgg25 rfl Cells.a (by exact sizeOf25)) ?_
  refine GoL.does rfl (Does.callE rfl call81 rfl (inst_caps hp hl) .auto) ?_
  rintro _ _ ⟨⟨⟩, -, rfl, rfl⟩
  refine GoL.y rfl (Y.not rfl) ?_
  refine GoL.nil (GoE.then_normal ?_)
  refine GoC.cond rfl (fun h9 => ?_) (fun h9 => ?_)
  · refine GoC.seq (GoC.region ?_)
    refine GoL.y rfl (Y.assign rfl) ?_
    refine GoL.nil (GoE.then_normal (GoC.ret ?_))
    refine GoE.then_ret ?_
    rw [Bool.not_eq_true'] at h9
    refine GoE.ret1 rfl rfl fun w s => ⟨(), ?_, trivial, finE .auto s⟩
    refine retI ?_; unfold checkI; rw [if_neg (by rw [h9]; simp)]
  · refine GoC.skip (GoE.then_normal (GoC.seq (GoC.seq (GoC.region ?_))))
    refine GoL.y rfl (Y.fieldAddrZ 22 underlying25 rfl sizeOf22 rfl) ?_
    refine GoL.y rfl (Y.load isAgg22 rfl (Cell.a (by rfl))) ?_
    refine GoL.y rfl (Y.lenRd underlying22 rfl Rd.s) ?_
    refine GoL.y rfl (Y.move rfl) ?_
    refine GoL.nil (GoE.then_normal (GoC.block ?_))
    rw [Bool.not_eq_false'] at h9
    refine GoC.loopK (X := Nat) [2, 4, 6, 13, 14, 15, 16, 17, 18, 19, 20, 21, 22, 23, 24, 25, 26, 27, 28] (fun k => v.fs.length - k) (fun k => k ≤ v.fs.length ∧ (v.fs.take k).all (fun f : Value × List Ins => f.2.all (soundI v.p)) = true) (fun k => [(13, some (.int .i64 (k : Int)))]) (fun k => [arr b1 0 (prgE v), A, F]) 0 ?_ ?_ ?_ ?_
    · exact ⟨Nat.zero_le _, rfl⟩
    · exact ⟨rfl, trivial⟩
    · exact fun w s => Ent.kept .auto w s
    rintro k ⟨hk, hs⟩
    refine GoC.seq (GoC.region ?_)
    refine GoL.y rfl (Y.lss rfl rfl) ?_
    refine GoL.nil (GoE.then_normal (GoC.seq ?_))
    refine GoC.condD rfl (fun h14 => ?_) (fun h14 => ?_)
    · refine GoC.skip (GoE.then_normal (GoC.seq (GoC.block (GoC.seq (GoC.region ?_)))))
      obtain ⟨x, hx⟩ := at_some (show k < v.fs.length by omega)
      have hi := hp.ins x (List.mem_of_getElem? hx)
      haveI hI4 : ∀ (H : List HProp) [HasH H A], ReadsC W H x.1 insE 5 x.2 := fun H h => ⟨hi.at h.has⟩
      have hx256 : x.2.length ≤ 256 := caps_fs h9 (List.mem_of_getElem? hx)
      refine GoL.y rfl (Y.ixRd _ underlying22 sizeOf120 rfl rfl Rd.s rfl (by first | omega | decide)) ?_
      refine GoL.y rfl (Y.load isAgg120 rfl (Cell.rd0 Rd.s ‹_› (by rfl))) ?_
      refine GoL.y rfl (Y.assign rfl) ?_
      refine GoL.nil (GoE.then_normal (GoC.seq (GoC.region ?_)))
      refine GoL.y rfl (Y.move rfl) ?_
      refine GoL.y rfl (Y.lenRd underlying120 rfl Rd.s) ?_
      refine GoL.y rfl (Y.move rfl) ?_
      refine GoL.nil (GoE.then_normal (GoC.block ?_))
      refine GoC.loopK (X := Nat) [2, 6, 19, 20, 21, 22, 23, 24, 25, 26, 27] (fun j => x.2.length - j) (fun j => j ≤ x.2.length ∧ (x.2.take j).all (soundI v.p) = true) (fun j => [(19, some (.int .i64 (j : Int)))]) (fun j => [arr b1 0 (prgE v), A, F]) 0 ?_ ?_ ?_ ?_
      · exact ⟨Nat.zero_le _, rfl⟩
      · exact ⟨rfl, trivial⟩
      · exact fun w s => Ent.kept .auto w s
      rintro j ⟨hj0, hsj⟩
      refine GoC.seq (GoC.region ?_)
      refine GoL.y rfl (Y.lss rfl rfl) ?_
      refine GoL.nil (GoE.then_normal (GoC.seq ?_))
      refine GoC.condD rfl (fun h20 => ?_) (fun h20 => ?_)
      · refine GoC.skip (GoE.then_normal (GoC.seq (GoC.block (GoC.seq (GoC.region ?_)))))
        obtain ⟨i, hj⟩ := at_some (show j < x.2.length by omega)
        refine GoL.y rfl (Y.ixRd _ underlying120 sizeOf123 rfl rfl Rd.s rfl (by first | omega | decide)) ?_
        refine GoL.y rfl (Y.lda isAgg123 rfl (Cells.rd Rd.s ‹_›) (by exact sizeOf123)) ?_
        refine GoL.does rfl (Does.alloc rfl zeroValue123 rfl) ?_
        rintro _ _ ⟨b6, rfl, rfl⟩
        refine GoL.does rfl (Does.sta (by exact sizeOf123) rfl rfl rfl (by rfl)) ?_
        rintro _ _ ⟨rfl, rfl⟩
        refine GoL.nil (GoE.then_normal (GoC.seq (GoC.region ?_)))
        refine GoL.y rfl (Y.lda isAgg25 rfl Cells.a (by exact sizeOf25)) ?_
        refine GoL.y rfl (Y.lda isAgg123 rfl Cells.a (by exact sizeOf123)) ?_
        refine GoL.does rfl (Does.callE rfl call82 rfl (inst_Sound hp (caps_form h9 _)) .auto) ?_
        rintro _ _ ⟨⟨⟩, -, rfl, rfl⟩
        refine GoL.y rfl (Y.not rfl) ?_
        refine GoL.nil (GoE.then_normal ?_)
        refine GoC.cond rfl (fun h26 => ?_) (fun h26 => ?_)
        · refine GoC.seq (GoC.region ?_)
          refine GoL.y rfl (Y.assign rfl) ?_
          refine GoL.nil (GoE.then_normal (GoC.ret ?_))
          refine GoE.block_ret (GoE.then_ret (GoE.then_ret (GoE.block_ret (GoE.block_ret (GoE.then_ret (GoE.then_ret (GoE.block_ret (GoE.then_ret ?_))))))))
          rw [Bool.not_eq_true'] at h26
          refine GoE.ret1 rfl rfl fun w s => ⟨(), ?_, trivial, finE .auto s⟩
          exact retI (check_bad h9 hx hj h26).symm
        · refine GoC.skip ?_
          refine GoE.block_normal (GoE.then_normal (GoC.region ?_))
          refine GoL.y rfl (Y.inc rfl rfl (by omega)) ?_
          refine GoL.y rfl (Y.move rfl) ?_
          refine GoL.nil ?_
          rw [Bool.not_eq_false'] at h26
          refine GoE.againK (j + 1) .auto rfl ?_ ?_ ?_ ?_
          · first | omega | (dsimp only; omega)
          · exact ⟨by omega, by rw [all_snoc hj, hsj, h26]; rfl⟩
          · exact ⟨rfl, trivial⟩
          · exact fun w s => Ent.kept .auto w s
      · refine GoC.exit ?_
        refine GoE.then_exit (GoE.then_exit (GoE.block_here (GoE.block_normal (GoE.then_normal ?_))))
        refine GoC.region ?_
        refine GoL.y rfl (Y.inc rfl rfl (by omega)) ?_
        refine GoL.y rfl (Y.move rfl) ?_
        refine GoL.nil ?_
        obtain rfl : j = x.2.length := by omega
        rw [List.take_length] at hsj
        refine GoE.againK (k + 1) .auto rfl ?_ ?_ ?_ ?_
        · first | omega | (dsimp only; omega)
        · exact ⟨by omega, by rw [all_snoc hx, hs, hsj]; rfl⟩
        · exact ⟨rfl, trivial⟩
        · exact fun w s => Ent.kept .auto w s
    · refine GoC.exit ?_
      refine GoE.then_exit (GoE.then_exit (GoE.block_here (GoE.then_normal ?_)))
      refine GoC.seq (GoC.region ?_)
      refine GoL.y rfl (Y.assign rfl) ?_
      refine GoL.nil (GoE.then_normal (GoC.ret ?_))
      obtain rfl : k = v.fs.length := by omega
      rw [List.take_length] at hs
      refine GoE.ret1 rfl rfl fun w s => ⟨(), ?_, trivial, finE .auto s⟩
      exact retI (check_ok h9 hs).symm

end Go.SLYtpcjdohmjmeehaaGreat
