/- Walks of functions, and what they compute. Conditions: none, this text proves no statement. -/
import Derived.Test.YtpcjdohmjmeehaaGreatProg
import Derived.Test.YtpcjdohmjmeehaaGreatG10
import Derived.Test.YtpcjdohmjmeehaaGreatG03
import Derived.KernelRfl
import Derived.Test.YtpcjdohmjmeehaaGreatG08
import Derived.Test.YtpcjdohmjmeehaaGreatG04
namespace Go.SLYtpcjdohmjmeehaaGreat
open Go Go.RowKit Go.Proofs Go.Proofs.Tryz

set_option maxRecDepth 20000 in
theorem dng_aP {W : World} {bd b p : Nat} {d : Dng} {t : Thr} {vw ve : Value} (ht : d.s.thr[d.n]? = some (some t)) (hI : 0 ≤ d.i.a ∧ d.i.a < 8) : Fn Tryz.prog W 92 [ptr bd] [arr bd 0 (dngC b p d vw ve), arr p 0 (thrC t)] Unit (fun _ => .int .u64 d.a) (fun _ => True) (fun _ => [arr bd 0 (dngC b p d vw ve), arr p 0 (thrC t)]) := by
  refine Fn.intro (N := 17) func92 rfl ntmps92 rfl fun F => ?_
  show GoC _ _ _ _ _ _ [arr bd 0 (dngC b p d vw ve), arr p 0 (thrC t), F]
  refine GoC.seq (GoC.region ?_)
  refine GoL.y rfl (Y.assign rfl) ?_
  refine GoL.nil (GoE.then_normal (GoC.seq ?_))
  refine GoC.draw [] [1, 1, 1, 1, 1, 1, 1, 1, 1, 1, 1, 1, 1, 1, 1] rfl (by kernel_rfl) ?_
  refine GoK.s rfl (Y.move rfl) ?_
  refine GoK.s rfl (Y.nilCheck rfl) ?_
  refine GoK.s rfl (Y.fieldAddr0 2 114 underlying138 rfl sizeOf114 rfl) ?_
  refine GoK.s rfl (Y.load isAgg114 rfl (Cell.a (by rfl))) ?_
  refine GoK.s rfl (Y.move rfl) ?_
  refine GoK.s rfl (Y.nilCheck rfl) ?_
  refine GoK.s rfl (Y.fieldAddr0 3 123 underlying138 rfl sizeOf123 rfl) ?_
  refine GoK.s rfl (Y.fieldAddr 1 3 underlying123 rfl sizeOf3 rfl) ?_
  refine GoK.s rfl (Y.load isAgg3 rfl (Cell.a (by rfl))) ?_
  refine GoK.s rfl (Y.nilCheck rfl) ?_
  refine GoK.s rfl (Y.fieldAddrZ 131 underlying133 rfl sizeOf131 rfl) ?_
  refine GoK.s rfl (Y.fieldAddr0 2 57 underlying131 rfl sizeOf57 rfl) ?_
  refine GoK.s rfl (Y.ixArr d.i.a.toNat underlying57 sizeOf43 rfl rfl (by omega) (by omega)) ?_
  refine GoK.s rfl (Y.load isAgg43 rfl (Cell.a (thr_get (by omega)))) ?_
  refine GoK.s rfl (Y.assign rfl) ?_
  refine GoK.nil (GoE.then_normal (GoC.ret ?_))
  refine GoE.ret1 rfl rfl fun w s => ⟨(), ?_, trivial, finE .auto s⟩
  rw [show d.a = t.regs.getD d.i.a.toNat 0 from by unfold Dng.a; rw [dng_t ht]; rfl]

set_option maxRecDepth 20000 in
theorem dng_bP {W : World} {bd b p : Nat} {d : Dng} {t : Thr} {vw ve : Value} (ht : d.s.thr[d.n]? = some (some t)) (hI : 0 ≤ d.i.b ∧ d.i.b < 8) : Fn Tryz.prog W 119 [ptr bd] [arr bd 0 (dngC b p d vw ve), arr p 0 (thrC t)] Unit (fun _ => .int .u64 d.b) (fun _ => True) (fun _ => [arr bd 0 (dngC b p d vw ve), arr p 0 (thrC t)]) := by
  refine Fn.intro (N := 17) func119 rfl ntmps119 rfl fun F => ?_
  show GoC _ _ _ _ _ _ [arr bd 0 (dngC b p d vw ve), arr p 0 (thrC t), F]
  refine GoC.seq (GoC.region ?_)
  refine GoL.y rfl (Y.assign rfl) ?_
  refine GoL.nil (GoE.then_normal (GoC.seq ?_))
  refine GoC.draw [] [1, 1, 1, 1, 1, 1, 1, 1, 1, 1, 1, 1, 1, 1, 1] rfl (by kernel_rfl) ?_
  refine GoK.s rfl (Y.move rfl) ?_
  refine GoK.s rfl (Y.nilCheck rfl) ?_
  refine GoK.s rfl (Y.fieldAddr0 2 114 underlying138 rfl sizeOf114 rfl) ?_
  refine GoK.s rfl (Y.load isAgg114 rfl (Cell.a (by rfl))) ?_
  refine GoK.s rfl (Y.move rfl) ?_
  refine GoK.s rfl (Y.nilCheck rfl) ?_
  refine GoK.s rfl (Y.fieldAddr0 3 123 underlying138 rfl sizeOf123 rfl) ?_
  refine GoK.s rfl (Y.fieldAddr 2 3 underlying123 rfl sizeOf3 rfl) ?_
  refine GoK.s rfl (Y.load isAgg3 rfl (Cell.a (by rfl))) ?_
  refine GoK.s rfl (Y.nilCheck rfl) ?_
  refine GoK.s rfl (Y.fieldAddrZ 131 underlying133 rfl sizeOf131 rfl) ?_
  refine GoK.s rfl (Y.fieldAddr0 2 57 underlying131 rfl sizeOf57 rfl) ?_
  refine GoK.s rfl (Y.ixArr d.i.b.toNat underlying57 sizeOf43 rfl rfl (by omega) (by omega)) ?_
  refine GoK.s rfl (Y.load isAgg43 rfl (Cell.a (thr_get (by omega)))) ?_
  refine GoK.s rfl (Y.assign rfl) ?_
  refine GoK.nil (GoE.then_normal (GoC.ret ?_))
  refine GoE.ret1 rfl rfl fun w s => ⟨(), ?_, trivial, finE .auto s⟩
  rw [show d.b = t.regs.getD d.i.b.toNat 0 from by unfold Dng.b; rw [dng_t ht]; rfl]

set_option maxRecDepth 20000 in
theorem dng_sem {W : World} {bd b p : Nat} {ps : List (Option Nat)} {d : Dng} {t : Thr} (hp : ps[d.n]? = some (some p)) (ht : d.s.thr[d.n]? = some (some t)) (hk : CallOk ps d t) : Fn Tryz.prog W 96 [ptr bd] [dngX bd b p ps d] Unit (fun _ => .tuple #[]) (fun _ => True) (fun _ => [dngX bd b p ps (d.sem)]) := by
  refine Fn.intro (N := 86) func96 rfl ntmps96 rfl fun F => ?_
  show GoC _ _ _ _ _ _ [dngX bd b p ps d, F]
  refine GoC.o2 (C := dngX bd b p ps (d)) .auto rfl ?_
  rintro vw ve -
  refine GoC.o10 (C := spcX b ps (d).s) .auto rfl ?_
  rintro fv sv pv bt vm bg vt bk bw vr -
  have hnn := hk.nn
  have hn0 := hk.I.n
  refine GoC.seq (GoC.region ?_)
  refine GoL.y rfl (Y.move rfl) ?_
  refine GoL.y rfl (Y.nilCheck rfl) ?_
  refine GoL.y rfl (Y.fieldAddr0 3 123 underlying138 rfl sizeOf123 rfl) ?_
  refine GoL.y rfl (Y.fieldAddr 4 43 underlying123 rfl sizeOf43 rfl) ?_
  refine GoL.y rfl (Y.load isAgg43 rfl (Cell.a (by rfl))) ?_
  refine GoL.y rfl (Y.convI underlying43 underlying3 rfl (by omega)) ?_
  refine GoL.y rfl (Y.assign rfl) ?_
  refine GoL.nil (GoE.then_normal (GoC.seq (GoC.seq (GoC.region ?_))))
  refine GoL.y rfl (Y.move rfl) ?_
  refine GoL.y rfl (Y.nilCheck rfl) ?_
  refine GoL.y rfl (Y.fieldAddr0 3 123 underlying138 rfl sizeOf123 rfl) ?_
  refine GoL.y rfl (Y.fieldAddrZ 3 underlying123 rfl sizeOf3 rfl) ?_
  refine GoL.y rfl (Y.load isAgg3 rfl (Cell.a (by rfl))) ?_
  refine GoL.y rfl (Y.eql rfl rfl) ?_
  refine GoL.nil (GoE.then_normal ?_)
  refine GoC.condD rfl (fun h19 => ?_) (fun h19 => ?_)
  · refine GoC.seq ?_
    refine GoC.draw [arr bd 0 (dngC b p d vw ve), arr b 0 (spcC fv sv pv d.s.prg bt ps vm bg vt bk bw vr)] [1, 1, 1, 1, 1, 1, 1, 1, 1, 1, 1, 1, 3, 1, 1, 1, 1, 1, 1, 1] rfl (by kernel_rfl) ?_
    refine GoK.s rfl (Y.move rfl) ?_
    refine GoK.s rfl (Y.nilCheck rfl) ?_
    refine GoK.s rfl (Y.fieldAddrZ 27 underlying138 rfl sizeOf27 rfl) ?_
    refine GoK.s rfl (Y.load isAgg27 rfl (Cell.a (by rfl))) ?_
    refine GoK.s rfl (Y.nilCheck rfl) ?_
    refine GoK.s rfl (Y.fieldAddr0 26 108 underlying118 rfl sizeOf108 rfl) ?_
    refine GoK.s rfl (Y.load isAgg108 rfl (Cell.a (by rfl))) ?_
    refine GoK.s rfl (Y.move rfl) ?_
    refine GoK.s rfl (Y.move rfl) ?_
    refine GoK.s rfl (Y.nilCheck rfl) ?_
    refine GoK.s rfl (Y.fieldAddr0 8 3 underlying138 rfl sizeOf3 rfl) ?_
    refine GoK.s rfl (Y.load isAgg3 rfl (Cell.a (by rfl))) ?_
    refine GoK.d3 rfl (Does.callE rfl call130 rfl (gate_Up hk.gl hk.gsem) .auto) ?_
    rintro _ _ ⟨⟨⟩, -, rfl, rfl⟩
    refine GoK.s rfl (Y.move rfl) ?_
    refine GoK.s rfl (Y.extract (v := .int .i64 (d.s.gates.up d.i.n d.choice).1) rfl rfl) ?_
    refine GoK.s rfl (Y.extract (v := .bool (d.s.gates.up d.i.n d.choice).2.1) rfl rfl) ?_
    refine GoK.s rfl (Y.extract (v := .int .i64 (d.s.gates.up d.i.n d.choice).2.2.1) rfl rfl) ?_
    refine GoK.s rfl (Y.assign rfl) ?_
    refine GoK.s rfl (Y.assign rfl) ?_
    refine GoK.s rfl (Y.assign rfl) ?_
    refine GoK.nil (GoE.then_normal (GoC.seq (GoC.region ?_)))
    refine GoL.y rfl (Y.move rfl) ?_
    refine GoL.y rfl (Y.move rfl) ?_
    refine GoL.y rfl (Y.nilCheck rfl) ?_
    refine GoL.y rfl (Y.fieldAddr0 3 123 underlying138 rfl sizeOf123 rfl) ?_
    refine GoL.y rfl (Y.fieldAddr 4 43 underlying123 rfl sizeOf43 rfl) ?_
    refine GoL.y rfl (Y.load isAgg43 rfl (Cell.a (by rfl))) ?_
    refine GoL.y rfl (Y.move rfl) ?_
    refine GoL.does rfl (Does.callE rfl call89 rfl (dng_pass (d := d.withG (d.s.gates.up d.i.n d.choice).2.2.2) hp ht (Nat.le_trans hk.recs (by decide)) up_bd hk.R.l) .auto) ?_
    rintro _ _ ⟨⟨⟩, -, rfl, rfl⟩
    refine GoL.nil (GoE.then_normal (GoC.seq (GoC.region ?_)))
    refine GoL.y rfl (Y.move rfl) ?_
    refine GoL.y rfl (Y.move rfl) ?_
    refine GoL.y rfl (Y.move rfl) ?_
    refine GoL.does rfl (Does.callE rfl call124 rfl (dng_given (n := (d.s.gates.up d.i.n d.choice).1) (ok := (d.s.gates.up d.i.n d.choice).2.1) (d := ((d.withG (d.s.gates.up d.i.n d.choice).2.2.2).pass d.i.n 0 (d.s.gates.up d.i.n d.choice).2.2.1)) (fun h => ⟨(hk.glive _ (up_has h)).1, ((hk.glive _ (up_has h)).2.of (s' := (d.withG (d.s.gates.up d.i.n d.choice).2.2.2).s) rfl).pass (d := d.withG (d.s.gates.up d.i.n d.choice).2.2.2) ht hk.R up_bd⟩) (Nat.le_trans hk.ends (by decide)) (Nat.le_trans hk.wok (by decide))) .auto) ?_
    rintro _ _ ⟨⟨⟩, -, rfl, rfl⟩
    refine GoL.nil (GoE.then_normal (GoC.ret ?_))
    refine GoE.then_ret ?_
    rw [show d.sem = ((d.withG (d.s.gates.up d.i.n d.choice).2.2.2).pass d.i.n 0 (d.s.gates.up d.i.n d.choice).2.2.1).given (d.s.gates.up d.i.n d.choice).1 (d.s.gates.up d.i.n d.choice).2.1 from by unfold Dng.sem; rw [if_pos h19]]
    refine GoE.ret0 rfl fun w s => ⟨(), ?_, trivial, finE .auto s⟩
    rfl
  · refine GoC.skip (GoE.then_normal (GoC.seq ?_))
    refine GoC.draw [arr bd 0 (dngC b p d vw ve), arr b 0 (spcC fv sv pv d.s.prg bt ps vm bg vt bk bw vr)] [1, 1, 1, 1, 1, 1, 1, 1, 1, 1, 1, 1, 3, 1, 1, 1, 1, 1] rfl (by kernel_rfl) ?_
    refine GoK.s rfl (Y.move rfl) ?_
    refine GoK.s rfl (Y.nilCheck rfl) ?_
    refine GoK.s rfl (Y.fieldAddrZ 27 underlying138 rfl sizeOf27 rfl) ?_
    refine GoK.s rfl (Y.load isAgg27 rfl (Cell.a (by rfl))) ?_
    refine GoK.s rfl (Y.nilCheck rfl) ?_
    refine GoK.s rfl (Y.fieldAddr0 26 108 underlying118 rfl sizeOf108 rfl) ?_
    refine GoK.s rfl (Y.load isAgg108 rfl (Cell.a (by rfl))) ?_
    refine GoK.s rfl (Y.move rfl) ?_
    refine GoK.s rfl (Y.nilCheck rfl) ?_
    refine GoK.s rfl (Y.fieldAddr0 1 3 underlying138 rfl sizeOf3 rfl) ?_
    refine GoK.s rfl (Y.load isAgg3 rfl (Cell.a (by rfl))) ?_
    refine GoK.s rfl (Y.move rfl) ?_
    refine GoK.d3 rfl (Does.callE rfl call131 rfl (gate_Down hk.gl hk.gsem) .auto) ?_
    rintro _ _ ⟨⟨⟩, -, rfl, rfl⟩
    refine GoK.s rfl (Y.move rfl) ?_
    refine GoK.s rfl (Y.extract (v := .bool (d.s.gates.down d.n d.i.n).1) rfl rfl) ?_
    refine GoK.s rfl (Y.extract (v := .int .i64 (d.s.gates.down d.n d.i.n).2.1) rfl rfl) ?_
    refine GoK.s rfl (Y.assign rfl) ?_
    refine GoK.s rfl (Y.assign rfl) ?_
    refine GoK.nil (GoE.then_normal (GoC.seq (GoC.seq (GoC.region ?_))))
    refine GoL.y rfl (Y.move rfl) ?_
    refine GoL.y rfl (Y.eql rfl rfl) ?_
    refine GoL.y rfl (Y.move rfl) ?_
    apply GoL.segAD 3 70 67 [67, 68, 69, 70] rfl
    · intro h67
      refine GoL.yg rfl rfl rfl (Y.move rfl) ?_
      refine GoL.yg rfl rfl rfl (Y.not rfl) ?_
      refine GoL.y rfl (Y.pickT rfl rfl) ?_
      refine GoL.nil ?_
      refine GoE.seg .auto rfl (by first | exact fun _ h => h | exact Ent.kept .auto)
    · intro h67
      refine GoL.skip rfl rfl rfl rfl ?_
      refine GoL.skip rfl rfl rfl rfl ?_
      refine GoL.y rfl (Y.pickF rfl rfl) ?_
      refine GoL.nil ?_
      refine GoE.seg .auto rfl (by first | exact fun _ h => h | exact Ent.kept .auto)
    refine GoL.nil (GoE.then_normal ?_)
    refine GoC.cond rfl (fun h70 => ?_) (fun h70 => ?_)
    · simp only [Bool.and_eq_true, Bool.or_eq_true, Bool.and_eq_false_iff, Bool.or_eq_false_iff, decide_eq_true_eq, decide_eq_false_iff_not, Bool.not_eq_true', Bool.not_eq_false'] at h70
      refine GoC.seq (GoC.region ?_)
      refine GoL.y rfl (Y.move rfl) ?_
      refine GoL.y rfl (Y.move rfl) ?_
      refine GoL.y rfl (Y.nilCheck rfl) ?_
      refine GoL.y rfl (Y.fieldAddr0 3 123 underlying138 rfl sizeOf123 rfl) ?_
      refine GoL.y rfl (Y.fieldAddr 4 43 underlying123 rfl sizeOf43 rfl) ?_
      refine GoL.y rfl (Y.load isAgg43 rfl (Cell.a (by rfl))) ?_
      refine GoL.does rfl (Does.callE rfl call121 rfl (dng_block (d := d.withG (d.s.gates.down d.n d.i.n).2.2) hp ht (Nat.le_trans hk.recs (by decide))) .auto) ?_
      rintro _ _ ⟨⟨⟩, -, rfl, rfl⟩
      refine GoL.nil (GoE.then_normal (GoC.ret ?_))
      refine GoE.then_ret ?_
      rw [show d.sem = (d.withG (d.s.gates.down d.n d.i.n).2.2).block 3 (-1) d.i.n 0 from by unfold Dng.sem; rw [if_neg h19]; simp only; rw [if_pos h70]]
      refine GoE.ret0 rfl fun w s => ⟨(), ?_, trivial, finE .auto s⟩
      rfl
    · simp only [Bool.and_eq_true, Bool.or_eq_true, Bool.and_eq_false_iff, Bool.or_eq_false_iff, decide_eq_true_eq, decide_eq_false_iff_not, Bool.not_eq_true', Bool.not_eq_false'] at h70
      refine GoC.skip (GoE.then_normal (GoC.region ?_))
      refine GoL.y rfl (Y.move rfl) ?_
      refine GoL.y rfl (Y.move rfl) ?_
      refine GoL.y rfl (Y.nilCheck rfl) ?_
      refine GoL.y rfl (Y.fieldAddr0 3 123 underlying138 rfl sizeOf123 rfl) ?_
      refine GoL.y rfl (Y.fieldAddr 4 43 underlying123 rfl sizeOf43 rfl) ?_
      refine GoL.y rfl (Y.load isAgg43 rfl (Cell.a (by rfl))) ?_
      refine GoL.y rfl (Y.move rfl) ?_
      refine GoL.does rfl (Does.callE rfl call89 rfl (dng_pass (d := d.withG (d.s.gates.down d.n d.i.n).2.2) hp ht (Nat.le_trans hk.recs (by decide)) down_bd hk.R.l) .auto) ?_
      rintro _ _ ⟨⟨⟩, -, rfl, rfl⟩
      refine GoL.nil ?_
      rw [show d.sem = (d.withG (d.s.gates.down d.n d.i.n).2.2).pass d.i.n 0 (d.s.gates.down d.n d.i.n).2.1 from by unfold Dng.sem; rw [if_neg h19]; simp only; rw [if_neg (by rintro ⟨a, b⟩; rcases h70 with h | h; exact h a; rw [b] at h; cases h)]]
      refine GoE.end0 rfl fun w s => ⟨(), ?_, trivial, finE .auto s⟩
      rfl

set_option maxRecDepth 20000 in
theorem dng_mutex {W : World} {bd b p : Nat} {ps : List (Option Nat)} {d : Dng} {t : Thr} (hp : ps[d.n]? = some (some p)) (ht : d.s.thr[d.n]? = some (some t)) (hk : CallOk ps d t) : Fn Tryz.prog W 93 [ptr bd] [dngX bd b p ps d] Unit (fun _ => .tuple #[]) (fun _ => True) (fun _ => [dngX bd b p ps (d.mutex)]) := by
  refine Fn.intro (N := 155) func93 rfl ntmps93 rfl fun F => ?_
  show GoC _ _ _ _ _ _ [dngX bd b p ps d, F]
  refine GoC.o2 (C := dngX bd b p ps (d)) .auto rfl ?_
  rintro vw ve -
  refine GoC.o10 (C := spcX b ps (d).s) .auto rfl ?_
  rintro fv sv pv bt vm bg vt bk bw vr -
  have hnn := hk.nn
  have hn0 := hk.I.n
  have hIc := hk.I.c
  have hwc := w64_id hIc
  refine GoC.seq (GoC.region ?_)
  refine GoL.y rfl (Y.move rfl) ?_
  refine GoL.y rfl (Y.nilCheck rfl) ?_
  refine GoL.y rfl (Y.fieldAddr0 3 123 underlying138 rfl sizeOf123 rfl) ?_
  refine GoL.y rfl (Y.fieldAddr 4 43 underlying123 rfl sizeOf43 rfl) ?_
  refine GoL.y rfl (Y.load isAgg43 rfl (Cell.a (by rfl))) ?_
  refine GoL.y rfl (Y.convI underlying43 underlying3 rfl (by omega)) ?_
  refine GoL.y rfl (Y.assign rfl) ?_
  refine GoL.nil (GoE.then_normal (GoC.seq (GoC.region ?_)))
  refine GoL.y rfl (Y.move rfl) ?_
  refine GoL.y rfl (Y.nilCheck rfl) ?_
  refine GoL.y rfl (Y.fieldAddr0 3 123 underlying138 rfl sizeOf123 rfl) ?_
  refine GoL.y rfl (Y.fieldAddrZ 3 underlying123 rfl sizeOf3 rfl) ?_
  refine GoL.y rfl (Y.load isAgg3 rfl (Cell.a (by rfl))) ?_
  refine GoL.nil (GoE.then_normal (GoC.block (GoC.seq (GoC.region ?_))))
  refine GoL.y rfl (Y.eql rfl rfl) ?_
  refine GoL.y rfl (Y.assign rfl) ?_
  refine GoL.nil (GoE.then_normal ?_)
  refine GoC.condD rfl (fun h81 => ?_) (fun h81 => ?_)
  · refine GoC.seq ?_
    refine GoC.draw [arr bd 0 (dngC b p d vw ve), arr b 0 (spcC fv sv pv d.s.prg bt ps vm bg vt bk bw vr)] [1, 1, 1, 1, 1, 1, 1, 1, 1, 1, 1, 1, 3, 1, 1, 1, 1, 1] rfl (by kernel_rfl) ?_
    refine GoK.s rfl (Y.move rfl) ?_
    refine GoK.s rfl (Y.nilCheck rfl) ?_
    refine GoK.s rfl (Y.fieldAddrZ 27 underlying138 rfl sizeOf27 rfl) ?_
    refine GoK.s rfl (Y.load isAgg27 rfl (Cell.a (by rfl))) ?_
    refine GoK.s rfl (Y.nilCheck rfl) ?_
    refine GoK.s rfl (Y.fieldAddr0 26 108 underlying118 rfl sizeOf108 rfl) ?_
    refine GoK.s rfl (Y.load isAgg108 rfl (Cell.a (by rfl))) ?_
    refine GoK.s rfl (Y.move rfl) ?_
    refine GoK.s rfl (Y.nilCheck rfl) ?_
    refine GoK.s rfl (Y.fieldAddr0 1 3 underlying138 rfl sizeOf3 rfl) ?_
    refine GoK.s rfl (Y.load isAgg3 rfl (Cell.a (by rfl))) ?_
    refine GoK.s rfl (Y.move rfl) ?_
    refine GoK.d3 rfl (Does.callE rfl call122 rfl (gate_Lock hk.gl) .auto) ?_
    rintro _ _ ⟨⟨⟩, -, rfl, rfl⟩
    refine GoK.s rfl (Y.move rfl) ?_
    refine GoK.s rfl (Y.extract (v := .bool (d.s.gates.lock d.n d.i.n).1) rfl rfl) ?_
    refine GoK.s rfl (Y.extract (v := .int .i64 (d.s.gates.lock d.n d.i.n).2.1) rfl rfl) ?_
    refine GoK.s rfl (Y.assign rfl) ?_
    refine GoK.s rfl (Y.assign rfl) ?_
    refine GoK.nil (GoE.then_normal (GoC.seq (GoC.seq (GoC.region ?_))))
    refine GoL.y rfl (Y.move rfl) ?_
    refine GoL.y rfl (Y.eql rfl rfl) ?_
    refine GoL.y rfl (Y.move rfl) ?_
    apply GoL.segAD 3 104 101 [101, 102, 103, 104] rfl
    · intro h101
      refine GoL.yg rfl rfl rfl (Y.move rfl) ?_
      refine GoL.yg rfl rfl rfl (Y.not rfl) ?_
      refine GoL.y rfl (Y.pickT rfl rfl) ?_
      refine GoL.nil ?_
      refine GoE.seg .auto rfl (by first | exact fun _ h => h | exact Ent.kept .auto)
    · intro h101
      refine GoL.skip rfl rfl rfl rfl ?_
      refine GoL.skip rfl rfl rfl rfl ?_
      refine GoL.y rfl (Y.pickF rfl rfl) ?_
      refine GoL.nil ?_
      refine GoE.seg .auto rfl (by first | exact fun _ h => h | exact Ent.kept .auto)
    refine GoL.nil (GoE.then_normal ?_)
    refine GoC.cond rfl (fun h104 => ?_) (fun h104 => ?_)
    · simp only [Bool.and_eq_true, Bool.or_eq_true, Bool.and_eq_false_iff, Bool.or_eq_false_iff, decide_eq_true_eq, decide_eq_false_iff_not, Bool.not_eq_true', Bool.not_eq_false'] at h104
      refine GoC.seq (GoC.region ?_)
      refine GoL.y rfl (Y.move rfl) ?_
      refine GoL.y rfl (Y.move rfl) ?_
      refine GoL.y rfl (Y.nilCheck rfl) ?_
      refine GoL.y rfl (Y.fieldAddr0 3 123 underlying138 rfl sizeOf123 rfl) ?_
      refine GoL.y rfl (Y.fieldAddr 4 43 underlying123 rfl sizeOf43 rfl) ?_
      refine GoL.y rfl (Y.load isAgg43 rfl (Cell.a (by rfl))) ?_
      refine GoL.does rfl (Does.callE rfl call121 rfl (dng_block (d := d.withG (d.s.gates.lock d.n d.i.n).2.2) hp ht (Nat.le_trans hk.recs (by decide))) .auto) ?_
      rintro _ _ ⟨⟨⟩, -, rfl, rfl⟩
      refine GoL.nil (GoE.then_normal (GoC.ret ?_))
      refine GoE.then_ret (GoE.block_ret ?_)
      rw [show d.mutex = (d.withG (d.s.gates.lock d.n d.i.n).2.2).block 1 (-1) d.i.n 0 from by unfold Dng.mutex; simp only; rw [if_pos h81, if_pos h104]]
      refine GoE.ret0 rfl fun w s => ⟨(), ?_, trivial, finE .auto s⟩
      rfl
    · simp only [Bool.and_eq_true, Bool.or_eq_true, Bool.and_eq_false_iff, Bool.or_eq_false_iff, decide_eq_true_eq, decide_eq_false_iff_not, Bool.not_eq_true', Bool.not_eq_false'] at h104
      refine GoC.skip (GoE.then_normal (GoC.region ?_))
      refine GoL.y rfl (Y.move rfl) ?_
      refine GoL.y rfl (Y.move rfl) ?_
      refine GoL.y rfl (Y.nilCheck rfl) ?_
      refine GoL.y rfl (Y.fieldAddr0 3 123 underlying138 rfl sizeOf123 rfl) ?_
      refine GoL.y rfl (Y.fieldAddr 4 43 underlying123 rfl sizeOf43 rfl) ?_
      refine GoL.y rfl (Y.load isAgg43 rfl (Cell.a (by rfl))) ?_
      refine GoL.y rfl (Y.move rfl) ?_
      refine GoL.does rfl (Does.callE rfl call89 rfl (dng_pass (d := d.withG (d.s.gates.lock d.n d.i.n).2.2) hp ht (Nat.le_trans hk.recs (by decide)) lock_bd hk.R.l) .auto) ?_
      rintro _ _ ⟨⟨⟩, -, rfl, rfl⟩
      refine GoL.nil (GoE.block_normal ?_)
      rw [show d.mutex = (d.withG (d.s.gates.lock d.n d.i.n).2.2).pass d.i.n 0 (d.s.gates.lock d.n d.i.n).2.1 from by unfold Dng.mutex; simp only; rw [if_pos h81, if_neg (by rintro ⟨a, b⟩; rcases h104 with h | h; exact h a; rw [b] at h; cases h)]]
      refine GoE.end0 rfl fun w s => ⟨(), ?_, trivial, finE .auto s⟩
      rfl
  · refine GoC.seq (GoC.region ?_)
    refine GoL.y rfl (Y.eql rfl rfl) ?_
    refine GoL.y rfl (Y.assign rfl) ?_
    refine GoL.nil (GoE.then_normal ?_)
    refine GoC.condD rfl (fun h120 => ?_) (fun h120 => ?_)
    · refine GoC.seq ?_
      refine GoC.draw [arr bd 0 (dngC b p d vw ve), arr b 0 (spcC fv sv pv d.s.prg bt ps vm bg vt bk bw vr)] [1, 1, 1, 1, 1, 1, 1, 1, 1, 1, 1, 1, 1, 1, 1, 1, 3, 1, 1, 1, 1, 1, 1, 1] rfl (by kernel_rfl) ?_
      refine GoK.s rfl (Y.move rfl) ?_
      refine GoK.s rfl (Y.nilCheck rfl) ?_
      refine GoK.s rfl (Y.fieldAddrZ 27 underlying138 rfl sizeOf27 rfl) ?_
      refine GoK.s rfl (Y.load isAgg27 rfl (Cell.a (by rfl))) ?_
      refine GoK.s rfl (Y.nilCheck rfl) ?_
      refine GoK.s rfl (Y.fieldAddr0 26 108 underlying118 rfl sizeOf108 rfl) ?_
      refine GoK.s rfl (Y.load isAgg108 rfl (Cell.a (by rfl))) ?_
      refine GoK.s rfl (Y.move rfl) ?_
      refine GoK.s rfl (Y.nilCheck rfl) ?_
      refine GoK.s rfl (Y.fieldAddr0 1 3 underlying138 rfl sizeOf3 rfl) ?_
      refine GoK.s rfl (Y.load isAgg3 rfl (Cell.a (by rfl))) ?_
      refine GoK.s rfl (Y.move rfl) ?_
      refine GoK.s rfl (Y.move rfl) ?_
      refine GoK.s rfl (Y.nilCheck rfl) ?_
      refine GoK.s rfl (Y.fieldAddr0 8 3 underlying138 rfl sizeOf3 rfl) ?_
      refine GoK.s rfl (Y.load isAgg3 rfl (Cell.a (by rfl))) ?_
      refine GoK.d3 rfl (Does.callE rfl call123 rfl (gate_Unlock hk.gl) .auto) ?_
      rintro _ _ ⟨⟨⟩, -, rfl, rfl⟩
      refine GoK.s rfl (Y.move rfl) ?_
      refine GoK.s rfl (Y.extract (v := .int .i64 (d.s.gates.unlock d.n d.i.n d.choice).1) rfl rfl) ?_
      refine GoK.s rfl (Y.extract (v := .bool (d.s.gates.unlock d.n d.i.n d.choice).2.1) rfl rfl) ?_
      refine GoK.s rfl (Y.extract (v := .int .i64 (d.s.gates.unlock d.n d.i.n d.choice).2.2.1) rfl rfl) ?_
      refine GoK.s rfl (Y.assign rfl) ?_
      refine GoK.s rfl (Y.assign rfl) ?_
      refine GoK.s rfl (Y.assign rfl) ?_
      refine GoK.nil (GoE.then_normal (GoC.seq (GoC.region ?_)))
      refine GoL.y rfl (Y.move rfl) ?_
      refine GoL.y rfl (Y.move rfl) ?_
      refine GoL.y rfl (Y.nilCheck rfl) ?_
      refine GoL.y rfl (Y.fieldAddr0 3 123 underlying138 rfl sizeOf123 rfl) ?_
      refine GoL.y rfl (Y.fieldAddr 4 43 underlying123 rfl sizeOf43 rfl) ?_
      refine GoL.y rfl (Y.load isAgg43 rfl (Cell.a (by rfl))) ?_
      refine GoL.y rfl (Y.move rfl) ?_
      refine GoL.does rfl (Does.callE rfl call89 rfl (dng_pass (d := d.withG (d.s.gates.unlock d.n d.i.n d.choice).2.2.2) hp ht (Nat.le_trans hk.recs (by decide)) unlock_bd hk.R.l) .auto) ?_
      rintro _ _ ⟨⟨⟩, -, rfl, rfl⟩
      refine GoL.nil (GoE.then_normal (GoC.region ?_))
      refine GoL.y rfl (Y.move rfl) ?_
      refine GoL.y rfl (Y.move rfl) ?_
      refine GoL.y rfl (Y.move rfl) ?_
      refine GoL.does rfl (Does.callE rfl call124 rfl (dng_given (n := (d.s.gates.unlock d.n d.i.n d.choice).1) (ok := (d.s.gates.unlock d.n d.i.n d.choice).2.1) (d := ((d.withG (d.s.gates.unlock d.n d.i.n d.choice).2.2.2).pass d.i.n 0 (d.s.gates.unlock d.n d.i.n d.choice).2.2.1)) (fun h => ⟨(hk.glive _ (unlock_has h)).1, ((hk.glive _ (unlock_has h)).2.of (s' := (d.withG (d.s.gates.unlock d.n d.i.n d.choice).2.2.2).s) rfl).pass (d := d.withG (d.s.gates.unlock d.n d.i.n d.choice).2.2.2) ht hk.R unlock_bd⟩) (Nat.le_trans hk.ends (by decide)) (Nat.le_trans hk.wok (by decide))) .auto) ?_
      rintro _ _ ⟨⟨⟩, -, rfl, rfl⟩
      refine GoL.nil (GoE.block_normal ?_)
      rw [show d.mutex = ((d.withG (d.s.gates.unlock d.n d.i.n d.choice).2.2.2).pass d.i.n 0 (d.s.gates.unlock d.n d.i.n d.choice).2.2.1).given (d.s.gates.unlock d.n d.i.n d.choice).1 (d.s.gates.unlock d.n d.i.n d.choice).2.1 from by unfold Dng.mutex; simp only; rw [if_neg h81, if_pos h120]]
      refine GoE.end0 rfl fun w s => ⟨(), ?_, trivial, finE .auto s⟩
      rfl
    · refine GoC.seq ?_
      refine GoC.draw [arr bd 0 (dngC b p d vw ve), arr b 0 (spcC fv sv pv d.s.prg bt ps vm bg vt bk bw vr)] [1, 1, 1, 1, 1, 1, 1, 1, 1, 1, 1, 1, 1, 1, 1, 1, 1, 1, 1, 1, 1, 3, 1, 1, 1, 1, 1, 1, 1] rfl (by kernel_rfl) ?_
      refine GoK.s rfl (Y.move rfl) ?_
      refine GoK.s rfl (Y.nilCheck rfl) ?_
      refine GoK.s rfl (Y.fieldAddrZ 27 underlying138 rfl sizeOf27 rfl) ?_
      refine GoK.s rfl (Y.load isAgg27 rfl (Cell.a (by rfl))) ?_
      refine GoK.s rfl (Y.nilCheck rfl) ?_
      refine GoK.s rfl (Y.fieldAddr0 26 108 underlying118 rfl sizeOf108 rfl) ?_
      refine GoK.s rfl (Y.load isAgg108 rfl (Cell.a (by rfl))) ?_
      refine GoK.s rfl (Y.move rfl) ?_
      refine GoK.s rfl (Y.nilCheck rfl) ?_
      refine GoK.s rfl (Y.fieldAddr0 1 3 underlying138 rfl sizeOf3 rfl) ?_
      refine GoK.s rfl (Y.load isAgg3 rfl (Cell.a (by rfl))) ?_
      refine GoK.s rfl (Y.move rfl) ?_
      refine GoK.s rfl (Y.move rfl) ?_
      refine GoK.s rfl (Y.nilCheck rfl) ?_
      refine GoK.s rfl (Y.fieldAddr0 3 123 underlying138 rfl sizeOf123 rfl) ?_
      refine GoK.s rfl (Y.fieldAddr 3 3 underlying123 rfl sizeOf3 rfl) ?_
      refine GoK.s rfl (Y.load isAgg3 rfl (Cell.a (by rfl))) ?_
      refine GoK.s rfl (Y.move rfl) ?_
      refine GoK.s rfl (Y.nilCheck rfl) ?_
      refine GoK.s rfl (Y.fieldAddr0 8 3 underlying138 rfl sizeOf3 rfl) ?_
      refine GoK.s rfl (Y.load isAgg3 rfl (Cell.a (by rfl))) ?_
      refine GoK.d3 rfl (Does.callE rfl call125 rfl (gate_Wait hk.gl) .auto) ?_
      rintro _ _ ⟨⟨⟩, -, rfl, rfl⟩
      refine GoK.s rfl (Y.move rfl) ?_
      refine GoK.s rfl (Y.extract (v := .int .i64 (d.s.gates.wait d.n d.i.n d.i.c d.choice).1) rfl rfl) ?_
      refine GoK.s rfl (Y.extract (v := .bool (d.s.gates.wait d.n d.i.n d.i.c d.choice).2.1) rfl rfl) ?_
      refine GoK.s rfl (Y.extract (v := .int .i64 (d.s.gates.wait d.n d.i.n d.i.c d.choice).2.2.1) rfl rfl) ?_
      refine GoK.s rfl (Y.assign rfl) ?_
      refine GoK.s rfl (Y.assign rfl) ?_
      refine GoK.s rfl (Y.assign rfl) ?_
      refine GoK.nil (GoE.then_normal (GoC.seq (GoC.seq (GoC.region ?_))))
      refine GoL.y rfl (Y.move rfl) ?_
      refine GoL.y rfl (Y.neq rfl rfl) ?_
      refine GoL.nil (GoE.then_normal ?_)
      refine GoC.condD rfl (fun h48 => ?_) (fun h48 => ?_)
      · refine GoC.seq ?_
        refine GoC.draw [] [1, 1, 1, 1, 1, 1, 1, 1, 1, 1, 1, 1, 1, 3] rfl (by kernel_rfl) ?_
        refine GoK.s rfl (Y.move rfl) ?_
        refine GoK.s rfl (Y.move rfl) ?_
        refine GoK.s rfl (Y.nilCheck rfl) ?_
        refine GoK.s rfl (Y.fieldAddr0 3 123 underlying138 rfl sizeOf123 rfl) ?_
        refine GoK.s rfl (Y.fieldAddr 4 43 underlying123 rfl sizeOf43 rfl) ?_
        refine GoK.s rfl (Y.load isAgg43 rfl (Cell.a (by rfl))) ?_
        refine GoK.s rfl (Y.move rfl) ?_
        refine GoK.s rfl (Y.nilCheck rfl) ?_
        refine GoK.s rfl (Y.fieldAddr0 3 123 underlying138 rfl sizeOf123 rfl) ?_
        refine GoK.s rfl (Y.fieldAddr 3 3 underlying123 rfl sizeOf3 rfl) ?_
        refine GoK.s rfl (Y.load isAgg3 rfl (Cell.a (by rfl))) ?_
        refine GoK.s rfl (Y.convU underlying3 underlying43 rfl (by omega)) ?_
        refine GoK.s rfl (Y.move rfl) ?_
        refine GoK.d3 rfl (Does.callE rfl call89 rfl (dng_pass (d := d.withG (d.s.gates.wait d.n d.i.n d.i.c d.choice).2.2.2) hp ht (Nat.le_trans hk.recs (by decide)) wait_bd hk.R.l) .auto) ?_
        rintro _ _ ⟨⟨⟩, -, rfl, rfl⟩
        refine GoK.nil (GoE.then_normal (GoC.ret ?_))
        refine GoE.then_ret (GoE.block_ret ?_)
        rw [show d.mutex = (d.withG (d.s.gates.wait d.n d.i.n d.i.c d.choice).2.2.2).pass d.i.n d.i.c (d.s.gates.wait d.n d.i.n d.i.c d.choice).2.2.1 from by unfold Dng.mutex; simp only; rw [if_neg h81, if_neg h120, if_pos h48, hwc]]
        refine GoE.ret0 rfl fun w s => ⟨(), ?_, trivial, finE .auto s⟩
        rfl
      · refine GoC.skip (GoE.then_normal (GoC.seq ?_))
        refine GoC.draw [] [1, 1, 1, 1, 1, 1, 1, 1, 1, 1, 1, 1, 3] rfl (by kernel_rfl) ?_
        refine GoK.s rfl (Y.move rfl) ?_
        refine GoK.s rfl (Y.move rfl) ?_
        refine GoK.s rfl (Y.nilCheck rfl) ?_
        refine GoK.s rfl (Y.fieldAddr0 3 123 underlying138 rfl sizeOf123 rfl) ?_
        refine GoK.s rfl (Y.fieldAddr 4 43 underlying123 rfl sizeOf43 rfl) ?_
        refine GoK.s rfl (Y.load isAgg43 rfl (Cell.a (by rfl))) ?_
        refine GoK.s rfl (Y.move rfl) ?_
        refine GoK.s rfl (Y.nilCheck rfl) ?_
        refine GoK.s rfl (Y.fieldAddr0 3 123 underlying138 rfl sizeOf123 rfl) ?_
        refine GoK.s rfl (Y.fieldAddr 3 3 underlying123 rfl sizeOf3 rfl) ?_
        refine GoK.s rfl (Y.load isAgg3 rfl (Cell.a (by rfl))) ?_
        refine GoK.s rfl (Y.convU underlying3 underlying43 rfl (by omega)) ?_
        refine GoK.d3 rfl (Does.callE rfl call121 rfl (dng_block (d := d.withG (d.s.gates.wait d.n d.i.n d.i.c d.choice).2.2.2) hp ht (Nat.le_trans hk.recs (by decide))) .auto) ?_
        rintro _ _ ⟨⟨⟩, -, rfl, rfl⟩
        refine GoK.nil (GoE.then_normal (GoC.region ?_))
        refine GoL.y rfl (Y.move rfl) ?_
        refine GoL.y rfl (Y.move rfl) ?_
        refine GoL.y rfl (Y.move rfl) ?_
        refine GoL.does rfl (Does.callE rfl call124 rfl (dng_given (n := (d.s.gates.wait d.n d.i.n d.i.c d.choice).1) (ok := (d.s.gates.wait d.n d.i.n d.i.c d.choice).2.1) (d := ((d.withG (d.s.gates.wait d.n d.i.n d.i.c d.choice).2.2.2).block 2 (-1) d.i.n d.i.c)) (fun h => ⟨(hk.glive _ (wait_has h)).1, ((hk.glive _ (wait_has h)).2.of (s' := (d.withG (d.s.gates.wait d.n d.i.n d.i.c d.choice).2.2.2).s) rfl).block (d := d.withG (d.s.gates.wait d.n d.i.n d.i.c d.choice).2.2.2) ht hk.R (by decide)⟩) (Nat.le_trans hk.ends (by decide)) (Nat.le_trans hk.wok (by decide))) .auto) ?_
        rintro _ _ ⟨⟨⟩, -, rfl, rfl⟩
        refine GoL.nil (GoE.block_normal ?_)
        rw [show d.mutex = ((d.withG (d.s.gates.wait d.n d.i.n d.i.c d.choice).2.2.2).block 2 (-1) d.i.n d.i.c).given (d.s.gates.wait d.n d.i.n d.i.c d.choice).1 (d.s.gates.wait d.n d.i.n d.i.c d.choice).2.1 from by unfold Dng.mutex; simp only; rw [if_neg h81, if_neg h120, if_neg h48, hwc]]
        refine GoE.end0 rfl fun w s => ⟨(), ?_, trivial, finE .auto s⟩
        rfl

end Go.SLYtpcjdohmjmeehaaGreat
namespace Go.SLYtpcjdohmjmeehaaGreat
open Go Go.RowKit Go.Proofs Go.Proofs.Tryz

set_option maxRecDepth 20000 in
theorem dng_put {W : World} {bd b p : Nat} {ps : List (Option Nat)} {d : Dng} {t : Thr} (hp : ps[d.n]? = some (some p)) (ht : d.s.thr[d.n]? = some (some t)) (hk : CallOk ps d t) (hop : d.i.op = 35 ∨ d.i.op = 36) : Fn Tryz.prog W 133 [ptr bd] [dngX bd b p ps d] Unit (fun _ => .tuple #[]) (fun _ => True) (fun _ => [dngX bd b p ps (d.put)]) := by
  refine Fn.intro (N := 57) func133 rfl ntmps133 rfl fun F => ?_
  show GoC _ _ _ _ _ _ [dngX bd b p ps d, F]
  refine GoC.o2 (C := dngX bd b p ps (d)) .auto rfl ?_
  rintro vw ve -
  refine GoC.o10 (C := spcX b ps (d).s) .auto rfl ?_
  rintro fv sv pv bt vm bg vt bk bw vr -
  have hnn := hk.nn
  have hn0 := hk.I.n
  refine GoC.o1 (C := tubsH vt d.s.tubes) .auto rfl ?_
  rintro xs hxs
  obtain ⟨xq, hx, hmem⟩ := tube_at hxs hn0.1 (hk.tub hop)
  have hxl : xs.length = d.s.tubes.length := by rw [← hxs, List.length_map]
  have hti := hk.tub hop
  refine GoC.fr .auto (thrs_out hp ht) ?_
  refine GoC.seq ?_
  refine GoC.draw [] [1, 1, 1, 1, 1, 1, 1, 1, 1, 1, 1, 1, 1, 1, 1] rfl (by kernel_rfl) ?_
  refine GoK.s rfl (Y.move rfl) ?_
  refine GoK.s rfl (Y.nilCheck rfl) ?_
  refine GoK.s rfl (Y.fieldAddrZ 27 underlying138 rfl sizeOf27 rfl) ?_
  refine GoK.s rfl (Y.load isAgg27 rfl (Cell.a (by rfl))) ?_
  refine GoK.s rfl (Y.nilCheck rfl) ?_
  refine GoK.s rfl (Y.fieldAddr0 27 116 underlying118 rfl sizeOf116 rfl) ?_
  refine GoK.s rfl (Y.load isAgg116 rfl (Cell.a (by rfl))) ?_
  refine GoK.s rfl (Y.move rfl) ?_
  refine GoK.s rfl (Y.nilCheck rfl) ?_
  refine GoK.s rfl (Y.fieldAddr0 3 123 underlying138 rfl sizeOf123 rfl) ?_
  refine GoK.s rfl (Y.fieldAddr 4 43 underlying123 rfl sizeOf43 rfl) ?_
  refine GoK.s rfl (Y.load isAgg43 rfl (Cell.a (by rfl))) ?_
  refine GoK.s rfl (Y.ixRd d.i.n.toNat underlying116 sizeOf124 rfl rfl Rd.s (by omega) (by omega)) ?_
  refine GoK.s rfl (Y.load isAgg124 rfl (Cell.rd0 Rd.s hx (by rfl))) ?_
  refine GoK.s rfl (Y.assign rfl) ?_
  refine GoK.nil (GoE.then_normal (GoC.seq (GoC.region ?_)))
  refine GoL.y rfl (Y.move rfl) ?_
  refine GoL.does rfl (Does.callE rfl call92 rfl (dng_aP ht hk.I.a) .auto) ?_
  rintro _ _ ⟨⟨⟩, -, rfl, rfl⟩
  refine GoL.y rfl (Y.assign rfl) ?_
  refine GoL.nil (GoE.then_normal (GoC.seq (GoC.region ?_)))
  obtain ⟨x, hx0⟩ : ∃ x, x = d.a := ⟨_, rfl⟩
  rw [← hx0]
  refine GoL.y rfl (Y.move rfl) ?_
  refine GoL.y rfl (Y.move rfl) ?_
  refine GoL.y rfl (Y.nilCheck rfl) ?_
  refine GoL.y rfl (Y.fieldAddr0 1 3 underlying138 rfl sizeOf3 rfl) ?_
  refine GoL.y rfl (Y.load isAgg3 rfl (Cell.a (by rfl))) ?_
  refine GoL.y rfl (Y.move rfl) ?_
  refine GoL.fr .auto (allH_out (f := fun x : Nat × Tub => tubH x.1 x.2) hx) ?_
  refine GoL.does rfl (Does.callE rfl call162 rfl (tube_Put (hk.tl _ hmem)) .auto) ?_
  rintro _ _ ⟨⟨⟩, -, rfl, rfl⟩
  refine GoL.to (A := tubsH vt (d.s.tubes.set d.i.n.toNat (d.tube.put d.n x).2.2.2)) (Bs := [sl ptrE 1 vt xs, tubH xq (d.tube.put d.n x).2.2.2, allH (fun x : Nat × Tub => tubH x.1 x.2) (xs.eraseIdx d.i.n.toNat)]) .auto (tubs_in hx hxs (d.tube.put d.n x).2.2.2) ?_
  refine GoL.to (A := thrsH ps d.s.thr) (Bs := [arr p 0 (thrC t), thrsH (ps.set d.n none) (d.s.thr.set d.n none)]) .auto (thrs_keep hp ht) ?_
  refine GoL.y rfl (Y.move rfl) ?_
  refine GoL.y rfl (Y.extract (v := .bool (d.tube.put d.n x).1) rfl rfl) ?_
  refine GoL.y rfl (Y.extract (v := .int .i64 (d.tube.put d.n x).2.1) rfl rfl) ?_
  refine GoL.y rfl (Y.extract (v := .bool (d.tube.put d.n x).2.2.1) rfl rfl) ?_
  refine GoL.y rfl (Y.assign rfl) ?_
  refine GoL.y rfl (Y.assign rfl) ?_
  refine GoL.y rfl (Y.assign rfl) ?_
  refine GoL.nil (GoE.then_normal (GoC.seq (GoC.seq (GoC.region ?_))))
  refine GoL.y rfl (Y.move rfl) ?_
  refine GoL.y rfl (Y.not rfl) ?_
  refine GoL.nil (GoE.then_normal ?_)
  refine GoC.cond rfl (fun h35 => ?_) (fun h35 => ?_)
  · refine GoC.seq (GoC.region ?_)
    refine GoL.y rfl (Y.move rfl) ?_
    refine GoL.y rfl (Y.move rfl) ?_
    refine GoL.y rfl (Y.nilCheck rfl) ?_
    refine GoL.y rfl (Y.fieldAddr0 3 123 underlying138 rfl sizeOf123 rfl) ?_
    refine GoL.y rfl (Y.fieldAddr 4 43 underlying123 rfl sizeOf43 rfl) ?_
    refine GoL.y rfl (Y.load isAgg43 rfl (Cell.a (by rfl))) ?_
    refine GoL.y rfl (Y.move rfl) ?_
    refine GoL.does rfl (Does.callE rfl call121 rfl (dng_block (d := (d.withU d.i.n.toNat (d.tube.put d.n x).2.2.2)) hp ht (Nat.le_trans hk.recs (by decide))) .auto) ?_
    rintro _ _ ⟨⟨⟩, -, rfl, rfl⟩
    refine GoL.nil (GoE.then_normal (GoC.ret ?_))
    refine GoE.then_ret ?_
    rw [show d.put = (d.withU d.i.n.toNat (d.tube.put d.n x).2.2.2).block 7 (-1) d.i.n x from by unfold Dng.put; rw [← hx0]; simp only; rw [if_pos (by simpa using h35)]]
    refine GoE.ret0 rfl fun w s => ⟨(), ?_, trivial, finE .auto s⟩
    rfl
  · refine GoC.skip (GoE.then_normal (GoC.seq (GoC.region ?_)))
    refine GoL.y rfl (Y.move rfl) ?_
    refine GoL.y rfl (Y.move rfl) ?_
    refine GoL.y rfl (Y.nilCheck rfl) ?_
    refine GoL.y rfl (Y.fieldAddr0 3 123 underlying138 rfl sizeOf123 rfl) ?_
    refine GoL.y rfl (Y.fieldAddr 4 43 underlying123 rfl sizeOf43 rfl) ?_
    refine GoL.y rfl (Y.load isAgg43 rfl (Cell.a (by rfl))) ?_
    refine GoL.y rfl (Y.move rfl) ?_
    refine GoL.does rfl (Does.callE rfl call89 rfl (dng_pass (d := (d.withU d.i.n.toNat (d.tube.put d.n x).2.2.2)) hp ht (Nat.le_trans hk.recs (by decide)) (by decide) hk.R.l) .auto) ?_
    rintro _ _ ⟨⟨⟩, -, rfl, rfl⟩
    refine GoL.nil (GoE.then_normal (GoC.seq (GoC.region ?_)))
    refine GoL.y rfl (Y.move rfl) ?_
    refine GoL.nil (GoE.then_normal ?_)
    refine GoC.cond rfl (fun h52 => ?_) (fun h52 => ?_)
    · have hlv := (hk.tlive _ hmem).1 _ (put_live h52)
      obtain ⟨hw16, q, u, hq, hu, hRu⟩ := (hlv.2.of (s' := (d.withU d.i.n.toNat (d.tube.put d.n x).2.2.2).s) rfl).pass (x := d.i.n) (y := x) (e := 0) (d := (d.withU d.i.n.toNat (d.tube.put d.n x).2.2.2)) ht hk.R (by decide)
      refine GoC.region ?_
      refine GoL.y rfl (Y.move rfl) ?_
      refine GoL.y rfl (Y.move rfl) ?_
      refine GoL.y rfl (Y.move rfl) ?_
      refine GoL.does rfl (Does.callE rfl call86 rfl (dng_goesI (d := (d.withU d.i.n.toNat (d.tube.put d.n x).2.2.2).pass d.i.n x 0) hlv.1 hq hu hw16 hRu (Nat.le_trans hk.ends (by decide)) (Nat.le_trans hk.wok (by decide))) .auto) ?_
      rintro _ _ ⟨⟨⟩, -, rfl, rfl⟩
      refine GoL.nil ?_
      rw [show d.put = ((d.withU d.i.n.toNat (d.tube.put d.n x).2.2.2).pass d.i.n x 0).goes (d.tube.put d.n x).2.1.toNat x from by unfold Dng.put; rw [← hx0]; simp only; rw [if_neg (by simpa using h35), if_pos h52]]
      refine GoE.end0 rfl fun w s => ⟨(), ?_, trivial, finE .auto s⟩
      rfl
    · refine GoC.skip ?_
      rw [show d.put = (d.withU d.i.n.toNat (d.tube.put d.n x).2.2.2).pass d.i.n x 0 from by unfold Dng.put; rw [← hx0]; simp only; rw [if_neg (by simpa using h35), if_neg (by rw [h52]; simp)]]
      refine GoE.end0 rfl fun w s => ⟨(), ?_, trivial, finE .auto s⟩
      rfl

set_option maxRecDepth 20000 in
theorem dng_get {W : World} {bd b p : Nat} {ps : List (Option Nat)} {d : Dng} {t : Thr} (hp : ps[d.n]? = some (some p)) (ht : d.s.thr[d.n]? = some (some t)) (hk : CallOk ps d t) (hop : d.i.op = 35 ∨ d.i.op = 36) : Fn Tryz.prog W 134 [ptr bd] [dngX bd b p ps d] Unit (fun _ => .tuple #[]) (fun _ => True) (fun _ => [dngX bd b p ps (d.get)]) := by
  refine Fn.intro (N := 70) func134 rfl ntmps134 rfl fun F => ?_
  show GoC _ _ _ _ _ _ [dngX bd b p ps d, F]
  refine GoC.o2 (C := dngX bd b p ps (d)) .auto rfl ?_
  rintro vw ve -
  refine GoC.o10 (C := spcX b ps (d).s) .auto rfl ?_
  rintro fv sv pv bt vm bg vt bk bw vr -
  have hnn := hk.nn
  have hn0 := hk.I.n
  refine GoC.o1 (C := tubsH vt d.s.tubes) .auto rfl ?_
  rintro xs hxs
  obtain ⟨xq, hx, hmem⟩ := tube_at hxs hn0.1 (hk.tub hop)
  have hxl : xs.length = d.s.tubes.length := by rw [← hxs, List.length_map]
  have hti := hk.tub hop
  have hIa := hk.I.a
  have hRl := hk.R.l
  refine GoC.seq ?_
  refine GoC.fr .auto (allH_out (f := fun x : Nat × Tub => tubH x.1 x.2) hx) ?_
  refine GoC.draw [arr bd 0 (dngC b p d vw ve), arr b 0 (spcC fv sv pv d.s.prg bt ps vm bg vt bk bw vr), sl ptrE 1 vt xs] [1, 1, 1, 1, 1, 1, 1, 1, 1, 1, 1, 1, 1, 1, 1, 1, 1, 1, 3, 1, 1, 1, 1, 1, 1, 1, 1, 1] rfl (by kernel_rfl) ?_
  refine GoK.s rfl (Y.move rfl) ?_
  refine GoK.s rfl (Y.nilCheck rfl) ?_
  refine GoK.s rfl (Y.fieldAddrZ 27 underlying138 rfl sizeOf27 rfl) ?_
  refine GoK.s rfl (Y.load isAgg27 rfl (Cell.a (by rfl))) ?_
  refine GoK.s rfl (Y.nilCheck rfl) ?_
  refine GoK.s rfl (Y.fieldAddr0 27 116 underlying118 rfl sizeOf116 rfl) ?_
  refine GoK.s rfl (Y.load isAgg116 rfl (Cell.a (by rfl))) ?_
  refine GoK.s rfl (Y.move rfl) ?_
  refine GoK.s rfl (Y.nilCheck rfl) ?_
  refine GoK.s rfl (Y.fieldAddr0 3 123 underlying138 rfl sizeOf123 rfl) ?_
  refine GoK.s rfl (Y.fieldAddr 4 43 underlying123 rfl sizeOf43 rfl) ?_
  refine GoK.s rfl (Y.load isAgg43 rfl (Cell.a (by rfl))) ?_
  refine GoK.s rfl (Y.ixRd d.i.n.toNat underlying116 sizeOf124 rfl rfl Rd.s (by omega) (by omega)) ?_
  refine GoK.s rfl (Y.load isAgg124 rfl (Cell.rd0 Rd.s hx (by rfl))) ?_
  refine GoK.s rfl (Y.move rfl) ?_
  refine GoK.s rfl (Y.nilCheck rfl) ?_
  refine GoK.s rfl (Y.fieldAddr0 1 3 underlying138 rfl sizeOf3 rfl) ?_
  refine GoK.s rfl (Y.load isAgg3 rfl (Cell.a (by rfl))) ?_
  refine GoK.d3 rfl (Does.callE rfl call163 rfl (tube_Get (hk.tl _ hmem)) .auto) ?_
  rintro _ _ ⟨⟨⟩, -, rfl, rfl⟩
  refine GoK.s rfl (Y.move rfl) ?_
  refine GoK.s rfl (Y.extract (v := .int .u64 (d.tube.get d.n).1) rfl rfl) ?_
  refine GoK.s rfl (Y.extract (v := .bool (d.tube.get d.n).2.1) rfl rfl) ?_
  refine GoK.s rfl (Y.extract (v := .int .i64 (d.tube.get d.n).2.2.1) rfl rfl) ?_
  refine GoK.s rfl (Y.extract (v := .bool (d.tube.get d.n).2.2.2.1) rfl rfl) ?_
  refine GoK.s rfl (Y.assign rfl) ?_
  refine GoK.s rfl (Y.assign rfl) ?_
  refine GoK.s rfl (Y.assign rfl) ?_
  refine GoK.s rfl (Y.assign rfl) ?_
  refine GoK.nil (GoE.then_normal (GoC.seq (GoC.seq (GoC.region ?_))))
  refine GoL.y rfl (Y.move rfl) ?_
  refine GoL.y rfl (Y.not rfl) ?_
  refine GoL.nil (GoE.then_normal ?_)
  refine GoC.cond rfl (fun h31 => ?_) (fun h31 => ?_)
  · refine GoC.seq ?_
    refine GoC.to (A := tubsH vt (d.s.tubes.set d.i.n.toNat (d.tube.get d.n).2.2.2.2)) (Bs := [sl ptrE 1 vt xs, tubH xq (d.tube.get d.n).2.2.2.2, allH (fun x : Nat × Tub => tubH x.1 x.2) (xs.eraseIdx d.i.n.toNat)]) .auto (tubs_in hx hxs (d.tube.get d.n).2.2.2.2) ?_
    refine GoC.draw [] [1, 1, 1, 1, 1, 1, 1, 1, 1, 1, 1, 3] rfl (by kernel_rfl) ?_
    refine GoK.s rfl (Y.move rfl) ?_
    refine GoK.s rfl (Y.move rfl) ?_
    refine GoK.s rfl (Y.nilCheck rfl) ?_
    refine GoK.s rfl (Y.fieldAddr0 3 123 underlying138 rfl sizeOf123 rfl) ?_
    refine GoK.s rfl (Y.fieldAddr 1 3 underlying123 rfl sizeOf3 rfl) ?_
    refine GoK.s rfl (Y.load isAgg3 rfl (Cell.a (by rfl))) ?_
    refine GoK.s rfl (Y.move rfl) ?_
    refine GoK.s rfl (Y.nilCheck rfl) ?_
    refine GoK.s rfl (Y.fieldAddr0 3 123 underlying138 rfl sizeOf123 rfl) ?_
    refine GoK.s rfl (Y.fieldAddr 4 43 underlying123 rfl sizeOf43 rfl) ?_
    refine GoK.s rfl (Y.load isAgg43 rfl (Cell.a (by rfl))) ?_
    refine GoK.d3 rfl (Does.callE rfl call121 rfl (dng_block (d := (d.withU d.i.n.toNat (d.tube.get d.n).2.2.2.2)) hp ht (Nat.le_trans hk.recs (by decide))) .auto) ?_
    rintro _ _ ⟨⟨⟩, -, rfl, rfl⟩
    refine GoK.nil (GoE.then_normal (GoC.ret ?_))
    refine GoE.then_ret ?_
    rw [show d.get = (d.withU d.i.n.toNat (d.tube.get d.n).2.2.2.2).block 6 d.i.a d.i.n 0 from by unfold Dng.get; simp only; rw [if_pos (by simpa using h31)]]
    refine GoE.ret0 rfl fun w s => ⟨(), ?_, trivial, finE .auto s⟩
    rfl
  · refine GoC.skip (GoE.then_normal (GoC.seq ?_))
    refine GoC.to (A := tubsH vt (d.s.tubes.set d.i.n.toNat (d.tube.get d.n).2.2.2.2)) (Bs := [sl ptrE 1 vt xs, tubH xq (d.tube.get d.n).2.2.2.2, allH (fun x : Nat × Tub => tubH x.1 x.2) (xs.eraseIdx d.i.n.toNat)]) .auto (tubs_in hx hxs (d.tube.get d.n).2.2.2.2) ?_
    refine GoC.fr .auto (thrs_out hp ht) ?_
    refine GoC.draw [arr bd 0 (dngC b p d vw ve)] [1, 1, 1, 1, 1, 1, 1, 1, 1, 1, 1, 1, 1, 1, 3] rfl (by kernel_rfl) ?_
    refine GoK.s rfl (Y.move rfl) ?_
    refine GoK.s rfl (Y.nilCheck rfl) ?_
    refine GoK.s rfl (Y.fieldAddr0 2 114 underlying138 rfl sizeOf114 rfl) ?_
    refine GoK.s rfl (Y.load isAgg114 rfl (Cell.a (by rfl))) ?_
    refine GoK.s rfl (Y.move rfl) ?_
    refine GoK.s rfl (Y.nilCheck rfl) ?_
    refine GoK.s rfl (Y.fieldAddr0 3 123 underlying138 rfl sizeOf123 rfl) ?_
    refine GoK.s rfl (Y.fieldAddr 1 3 underlying123 rfl sizeOf3 rfl) ?_
    refine GoK.s rfl (Y.load isAgg3 rfl (Cell.a (by rfl))) ?_
    refine GoK.s rfl (Y.move rfl) ?_
    refine GoK.s rfl (Y.nilCheck rfl) ?_
    refine GoK.s rfl (Y.fieldAddrZ 131 underlying133 rfl sizeOf131 rfl) ?_
    refine GoK.s rfl (Y.fieldAddr0 2 57 underlying131 rfl sizeOf57 rfl) ?_
    refine GoK.s rfl (Y.ixArr d.i.a.toNat underlying57 sizeOf43 rfl rfl (by omega) (by omega)) ?_
    refine GoK.d3 rfl (Does.st sizeOf43 rfl rfl rfl (Nat.blt_eq.mpr (by show 2 + d.i.a.toNat * 1 < 18; omega))) ?_
    rintro _ _ ⟨rfl, rfl⟩
    rw [thr_setI _ (by omega) (by omega) hRl]
    refine GoK.to (A := thrsH ps (d.s.thr.set d.n (some (t.put d.i.a (d.tube.get d.n).1)))) (Bs := [arr p 0 (thrC (t.put d.i.a (d.tube.get d.n).1)), thrsH (ps.set d.n none) (d.s.thr.set d.n none)]) .auto (thrs_shut (List.getElem?_eq_some_iff.1 ht).1 hp) ?_
    refine GoK.nil (GoE.then_normal (GoC.seq (GoC.region ?_)))
    refine GoL.y rfl (Y.move rfl) ?_
    refine GoL.y rfl (Y.move rfl) ?_
    refine GoL.y rfl (Y.nilCheck rfl) ?_
    refine GoL.y rfl (Y.fieldAddr0 3 123 underlying138 rfl sizeOf123 rfl) ?_
    refine GoL.y rfl (Y.fieldAddr 4 43 underlying123 rfl sizeOf43 rfl) ?_
    refine GoL.y rfl (Y.load isAgg43 rfl (Cell.a (by rfl))) ?_
    refine GoL.y rfl (Y.move rfl) ?_
    refine GoL.does rfl (Does.callE rfl call89 rfl (dng_pass (d := ((d.withU d.i.n.toNat (d.tube.get d.n).2.2.2.2).setT (t.put d.i.a (d.tube.get d.n).1))) (t := t.put d.i.a (d.tube.get d.n).1) hp (setT_same ht) (Nat.le_trans hk.recs (by decide)) (by decide) (by rw [put_len]; exact hRl)) .auto) ?_
    rintro _ _ ⟨⟨⟩, -, rfl, rfl⟩
    refine GoL.nil (GoE.then_normal (GoC.seq (GoC.region ?_)))
    refine GoL.y rfl (Y.move rfl) ?_
    refine GoL.nil (GoE.then_normal ?_)
    refine GoC.cond rfl (fun h66 => ?_) (fun h66 => ?_)
    · obtain ⟨z, hz, hzw⟩ := get_live h66
      have hlv := (hk.tlive _ hmem).2 z hz
      rw [hzw] at hlv
      have hRg := hk.R.put (i := d.i.a) (get_word (who := d.n) (hk.tw _ hmem))
      obtain ⟨hw16, q, u, hq, hu, hRu⟩ := ((hlv.2.of (s' := (d.withU d.i.n.toNat (d.tube.get d.n).2.2.2.2).s) rfl).setT (n := d.n) hRg).pass (x := d.i.n) (y := (d.tube.get d.n).1) (e := 0) (d := ((d.withU d.i.n.toNat (d.tube.get d.n).2.2.2.2).setT (t.put d.i.a (d.tube.get d.n).1))) (setT_same ht) hRg (by decide)
      refine GoC.region ?_
      refine GoL.y rfl (Y.move rfl) ?_
      refine GoL.y rfl (Y.move rfl) ?_
      refine GoL.does rfl (Does.callE rfl call86 rfl (dng_goesI (d := ((d.withU d.i.n.toNat (d.tube.get d.n).2.2.2.2).setT (t.put d.i.a (d.tube.get d.n).1)).pass d.i.n (d.tube.get d.n).1 0) hlv.1 hq hu hw16 hRu (Nat.le_trans hk.ends (by decide)) (Nat.le_trans hk.wok (by decide))) .auto) ?_
      rintro _ _ ⟨⟨⟩, -, rfl, rfl⟩
      refine GoL.nil ?_
      rw [show d.get = (((d.withU d.i.n.toNat (d.tube.get d.n).2.2.2.2).setT (t.put d.i.a (d.tube.get d.n).1)).pass d.i.n (d.tube.get d.n).1 0).goes (d.tube.get d.n).2.2.1.toNat 0 from by unfold Dng.get; simp only; rw [if_neg (by simpa using h31), if_pos h66, show (d.withU d.i.n.toNat (d.tube.get d.n).2.2.2.2).t = t from dng_t ht]]
      refine GoE.end0 rfl fun w s => ⟨(), ?_, trivial, finE .auto s⟩
      rfl
    · refine GoC.skip ?_
      rw [show d.get = ((d.withU d.i.n.toNat (d.tube.get d.n).2.2.2.2).setT (t.put d.i.a (d.tube.get d.n).1)).pass d.i.n (d.tube.get d.n).1 0 from by unfold Dng.get; simp only; rw [if_neg (by simpa using h31), if_neg (by rw [h66]; simp), show (d.withU d.i.n.toNat (d.tube.get d.n).2.2.2.2).t = t from dng_t ht]]
      refine GoE.end0 rfl fun w s => ⟨(), ?_, trivial, finE .auto s⟩
      rfl

end Go.SLYtpcjdohmjmeehaaGreat
namespace Go.SLYtpcjdohmjmeehaaGreat
open Go Go.RowKit Go.Proofs Go.Proofs.Tryz

set_option maxRecDepth 20000 in
theorem dng_spawn {W : World} {bd b p : Nat} {ps : List (Option Nat)} {d : Dng} {t : Thr} (hp : ps[d.n]? = some (some p)) (ht : d.s.thr[d.n]? = some (some t)) (hk : CallOk ps d t) : Fn Tryz.prog W 88 [ptr bd] [dngX bd b p ps d] (List (Option Nat)) (fun _ => .tuple #[]) (fun _ => True) (fun qs => [dngX bd b p qs d.spawn]) := by
  refine Fn.intro (N := 70) func88 rfl ntmps88 rfl fun F => ?_
  show GoC _ _ _ _ _ _ [dngX bd b p ps d, F]
  refine GoC.o2 (C := dngX bd b p ps (d)) .auto rfl ?_
  rintro vw ve -
  refine GoC.o10 (C := spcX b ps (d).s) .auto rfl ?_
  rintro fv sv pv bt vm bg vt bk bw vr -
  have hnn := hk.nn
  have hn0 := hk.I.n
  refine GoC.fr .auto (thrs_out hp ht) ?_
  have hIa := hk.I.a
  have hRl := hk.R.l
  have hlt := hk.lt
  refine GoC.seq ?_
  refine GoC.draw [arr bd 0 (dngC b p d vw ve)] [0, 0, 0, 0, 0, 0, 0, 0, 0, 0, 1, 2, 3, 1, 1, 1, 1, 1] rfl (by kernel_rfl) ?_
  refine GoK.k rfl Kept.auto (Y.move rfl) ?_
  refine GoK.k rfl Kept.auto (Y.nilCheck rfl) ?_
  refine GoK.k rfl Kept.auto (Y.fieldAddrZ 27 underlying138 rfl sizeOf27 rfl) ?_
  refine GoK.k rfl Kept.auto (Y.load isAgg27 rfl (Cell.a (by rfl))) ?_
  refine GoK.k rfl Kept.auto (Y.move rfl) ?_
  refine GoK.k rfl Kept.auto (Y.nilCheck rfl) ?_
  refine GoK.k rfl Kept.auto (Y.fieldAddr0 3 123 underlying138 rfl sizeOf123 rfl) ?_
  refine GoK.k rfl Kept.auto (Y.fieldAddr 4 43 underlying123 rfl sizeOf43 rfl) ?_
  refine GoK.k rfl Kept.auto (Y.load isAgg43 rfl (Cell.a (by rfl))) ?_
  refine GoK.k rfl Kept.auto (Y.convI underlying43 underlying3 rfl (by omega)) ?_
  refine GoK.s rfl (Y.move rfl) ?_
  refine GoK.d2 rfl Kept.auto (Does.callE rfl call119 rfl (dng_bP ht hk.I.b) .auto) (by rintro _ _ ⟨⟨⟩, -, rfl, rfl⟩; exact Kept.auto) ?_
  rintro _ _ ⟨⟨⟩, -, rfl, rfl⟩
  refine GoK.to (A := thrsH ps d.s.thr) (Bs := [arr p 0 (thrC t), thrsH (ps.set d.n none) (d.s.thr.set d.n none)]) .auto (thrs_keep hp ht) ?_
  refine GoK.d3 rfl (Does.callE rfl call57 rfl (core_begin hk.T hk.lt hk.free) .auto) ?_
  rintro _ _ ⟨qs, ⟨q, hqs⟩, rfl, rfl⟩
  refine GoK.s rfl (Y.move rfl) ?_
  refine GoK.s rfl (Y.extract (v := .int .i64 (d.s.begin d.i.n d.b).1) rfl rfl) ?_
  refine GoK.s rfl (Y.extract (v := .int .i64 (d.s.begin d.i.n d.b).2.1) rfl rfl) ?_
  refine GoK.s rfl (Y.assign rfl) ?_
  refine GoK.s rfl (Y.assign rfl) ?_
  refine GoK.nil (GoE.then_normal (GoC.seq (GoC.region ?_)))
  refine GoL.y rfl (Y.assign rfl) ?_
  refine GoL.nil (GoE.then_normal (GoC.seq (GoC.seq (GoC.region ?_))))
  refine GoL.y rfl (Y.move rfl) ?_
  refine GoL.y rfl (Y.eql rfl rfl) ?_
  refine GoL.nil (GoE.then_normal ?_)
  refine GoC.condD rfl (fun h22 => ?_) (fun h22 => ?_)
  · obtain ⟨n, hfr⟩ : ∃ n, slotFree? d.s.table 0 = some n := by
      cases hh : slotFree? d.s.table 0 with
      | none => rw [begin_no hh] at h22; cases h22
      | some n => exact ⟨n, rfl⟩
    have hb1 : (d.s.begin d.i.n d.b).1 = (n : Int) := by rw [begin_ok hfr]
    have hn0e := hk.free n hfr
    have hn16 : n < 16 := hlt ▸ (List.getElem?_eq_some_iff.1 hn0e).1
    obtain ⟨t1, ht1, ht1e⟩ := spawn_thr (f := d.i.n) (arg := d.b) hfr (by omega)
    have hqn : qs[n]? = some (some q) := by
      rw [hqs]; unfold psBegin; rw [hfr]; exact List.getElem?_set_self (by rw [hk.lp]; exact hn16)
    have hne : n ≠ d.n := fun e => by rw [e, ht] at hn0e; cases hn0e
    have hp2 : qs[d.n]? = some (some p) := by
      rw [hqs]; unfold psBegin; rw [hfr]; exact (List.getElem?_set_ne hne).trans hp
    have ht2 : (d.s.begin d.i.n d.b).2.2.thr[d.n]? = some (some t) := by
      rw [begin_ok hfr]; exact (List.getElem?_set_ne hne).trans ht
    rw [hb1]
    refine GoC.seq (GoC.region ?_)
    refine GoL.o10 (C := spcX b qs (d.s.begin d.i.n d.b).2.2) .auto rfl ?_
    rintro fv sv pv bt vm bg vt bk bw vr -
    refine GoL.fr .auto (thrs_out hqn ht1) ?_
    refine GoL.y rfl (Y.move rfl) ?_
    refine GoL.y rfl (Y.nilCheck rfl) ?_
    refine GoL.y rfl (Y.fieldAddrZ 27 underlying138 rfl sizeOf27 rfl) ?_
    refine GoL.y rfl (Y.load isAgg27 rfl (Cell.a (by rfl))) ?_
    refine GoL.y rfl (Y.move rfl) ?_
    refine GoL.y rfl (Y.nilCheck rfl) ?_
    refine GoL.y rfl (Y.fieldAddr0 9 115 underlying118 rfl sizeOf115 rfl) ?_
    refine GoL.y rfl (Y.ixArr n underlying115 sizeOf114 rfl rfl rfl hn16) ?_
    refine GoL.y rfl (Y.load isAgg114 rfl (Cell.a (by rw [Nat.mul_one, spcC_get hn16, getD_of hqn]))) ?_
    refine GoL.y rfl (Y.nilCheck rfl) ?_
    refine GoL.y rfl (Y.fieldAddr0 10 43 underlying133 rfl sizeOf43 rfl) ?_
    refine GoL.y rfl (Y.load isAgg43 rfl (Cell.a (by rfl))) ?_
    refine GoL.y rfl (Y.assign rfl) ?_
    refine GoL.nil (GoE.then_normal (GoC.region ?_))
    refine GoL.y rfl (Y.move rfl) ?_
    refine GoL.y rfl (Y.move rfl) ?_
    refine GoL.y rfl (Y.nilCheck rfl) ?_
    refine GoL.y rfl (Y.fieldAddr0 9 36 underlying138 rfl sizeOf36 rfl) ?_
    refine GoL.y rfl (Y.fieldAddrZ 23 underlying36 rfl sizeOf23 rfl) ?_
    refine GoL.y rfl (Y.load isAgg23 rfl (Cell.a (by rfl))) ?_
    refine GoL.y rfl (Y.move rfl) ?_
    refine GoL.does rfl (Does.bsl 3 rfl rfl (by kernel_rfl)) ?_
    rintro _ _ ⟨b42, rfl, rfl⟩
    refine GoL.does rfl (Does.app1 (enc := intE) (k := 1) (n : Int) rfl underlying23 underlying23 typeInfo3 rfl rfl rfl (by decide) rfl rfl rfl .auto rfl .auto (by have := hk.wok; omega) rfl) ?_
    rintro _ _ ⟨v43, rfl, rfl⟩
    refine GoL.y rfl (Y.nilCheck rfl) ?_
    refine GoL.y rfl (Y.fieldAddr0 9 36 underlying138 rfl sizeOf36 rfl) ?_
    refine GoL.y rfl (Y.fieldAddrZ 23 underlying36 rfl sizeOf23 rfl) ?_
    refine GoL.does rfl (Does.stS sizeOf23 rfl rfl rfl) ?_
    rintro _ _ ⟨rfl, rfl⟩
    refine GoL.nil (GoE.then_normal (GoC.seq ?_))
    refine GoC.to (A := thrsH qs (d.s.begin d.i.n d.b).2.2.thr) (Bs := [arr q 0 (thrC t1), thrsH (qs.set n none) ((d.s.begin d.i.n d.b).2.2.thr.set n none)]) .auto (thrs_keep hqn ht1) ?_
    refine GoC.fr .auto (thrs_out hp2 ht2) ?_
    refine GoC.draw [arr bd 0 (dngC b p d v43 ve)] [1, 1, 1, 1, 1, 1, 1, 1, 1, 1, 1, 1, 1, 1, 3] rfl (by kernel_rfl) ?_
    refine GoK.s rfl (Y.move rfl) ?_
    refine GoK.s rfl (Y.nilCheck rfl) ?_
    refine GoK.s rfl (Y.fieldAddr0 2 114 underlying138 rfl sizeOf114 rfl) ?_
    refine GoK.s rfl (Y.load isAgg114 rfl (Cell.a (by rfl))) ?_
    refine GoK.s rfl (Y.move rfl) ?_
    refine GoK.s rfl (Y.nilCheck rfl) ?_
    refine GoK.s rfl (Y.fieldAddr0 3 123 underlying138 rfl sizeOf123 rfl) ?_
    refine GoK.s rfl (Y.fieldAddr 1 3 underlying123 rfl sizeOf3 rfl) ?_
    refine GoK.s rfl (Y.load isAgg3 rfl (Cell.a (by rfl))) ?_
    refine GoK.s rfl (Y.move rfl) ?_
    refine GoK.s rfl (Y.nilCheck rfl) ?_
    refine GoK.s rfl (Y.fieldAddrZ 131 underlying133 rfl sizeOf131 rfl) ?_
    refine GoK.s rfl (Y.fieldAddr0 2 57 underlying131 rfl sizeOf57 rfl) ?_
    refine GoK.s rfl (Y.ixArr d.i.a.toNat underlying57 sizeOf43 rfl rfl (by omega) (by omega)) ?_
    refine GoK.d3 rfl (Does.st sizeOf43 rfl rfl rfl (Nat.blt_eq.mpr (by show 2 + d.i.a.toNat * 1 < 18; omega))) ?_
    rintro _ _ ⟨rfl, rfl⟩
    rw [thr_setI _ (by omega) (by omega) hRl]
    refine GoK.to (A := thrsH qs ((d.s.begin d.i.n d.b).2.2.thr.set d.n (some (t.put d.i.a t1.handle)))) (Bs := [arr p 0 (thrC (t.put d.i.a t1.handle)), thrsH (qs.set d.n none) ((d.s.begin d.i.n d.b).2.2.thr.set d.n none)]) .auto (thrs_shut (List.getElem?_eq_some_iff.1 ht2).1 hp2) ?_
    refine GoK.nil (GoE.then_normal (GoC.region ?_))
    refine GoL.y rfl (Y.move rfl) ?_
    refine GoL.y rfl (Y.move rfl) ?_
    refine GoL.y rfl (Y.nilCheck rfl) ?_
    refine GoL.y rfl (Y.fieldAddr0 3 123 underlying138 rfl sizeOf123 rfl) ?_
    refine GoL.y rfl (Y.fieldAddr 4 43 underlying123 rfl sizeOf43 rfl) ?_
    refine GoL.y rfl (Y.load isAgg43 rfl (Cell.a (by rfl))) ?_
    refine GoL.y rfl (Y.move rfl) ?_
    refine GoL.y rfl (Y.move rfl) ?_
    refine GoL.does rfl (Does.callE rfl call89 rfl (dng_pass (d := ({ d with s := (d.s.begin d.i.n d.b).2.2, out := { d.out with woken := d.out.woken ++ [(n : Int)] } } : Dng).setT (t.put d.i.a t1.handle)) (ps := qs) (p := p) (t := t.put d.i.a t1.handle) hp2 (setT_same ht2) (by show (d.s.begin d.i.n d.b).2.2.recs.length ≤ _; rw [begin_ok hfr]; exact (Nat.le_trans hk.recs (by decide))) (by rw [h22]; decide) (by rw [put_len]; exact hRl)) .auto) ?_
    rintro _ _ ⟨⟨⟩, -, rfl, rfl⟩
    refine GoL.nil ?_
    rw [show d.spawn = (({ d with s := (d.s.begin d.i.n d.b).2.2, out := { d.out with woken := d.out.woken ++ [(n : Int)] } } : Dng).setT (t.put d.i.a t1.handle)).pass d.i.n t1.handle (d.s.begin d.i.n d.b).2.1 from by unfold Dng.spawn; simp only; rw [if_pos h22, if_pos h22, hb1, Int.toNat_natCast, spc_t ht1, show ({ d with s := (d.s.begin d.i.n d.b).2.2, out := { d.out with woken := d.out.woken ++ [(n : Int)] } } : Dng).t = t from spc_t ht2]]
    refine GoE.end0 rfl fun w s => ⟨qs, ?_, trivial, finE .auto s⟩
    rfl
  · have hfr : slotFree? d.s.table 0 = none := by
      cases hh : slotFree? d.s.table 0 with
      | none => rfl
      | some n => exact absurd (by rw [begin_ok hh]) h22
    have hb : (d.s.begin d.i.n d.b) = (0, 2, d.s) := begin_no hfr
    obtain rfl : qs = ps := by rw [hqs]; unfold psBegin; rw [hfr]
    rw [hb]
    have hp2 := hp
    have ht2 := ht
    refine GoC.to (A := spcX b qs d.s) (Bs := [spcX b qs d.s]) .auto (fun h a => by simpa only [seps, sep_emp] using a) ?_
    refine GoC.o10 (C := spcX b qs d.s) .auto rfl ?_
    rintro fv sv pv bt vm bg vt bk bw vr -
    refine GoC.fr .auto (thrs_out hp2 ht2) ?_
    refine GoC.skip (GoE.then_normal (GoC.seq ?_))
    refine GoC.draw [arr bd 0 (dngC b p d vw ve)] [1, 1, 1, 1, 1, 1, 1, 1, 1, 1, 1, 1, 1, 1, 3] rfl (by kernel_rfl) ?_
    refine GoK.s rfl (Y.move rfl) ?_
    refine GoK.s rfl (Y.nilCheck rfl) ?_
    refine GoK.s rfl (Y.fieldAddr0 2 114 underlying138 rfl sizeOf114 rfl) ?_
    refine GoK.s rfl (Y.load isAgg114 rfl (Cell.a (by rfl))) ?_
    refine GoK.s rfl (Y.move rfl) ?_
    refine GoK.s rfl (Y.nilCheck rfl) ?_
    refine GoK.s rfl (Y.fieldAddr0 3 123 underlying138 rfl sizeOf123 rfl) ?_
    refine GoK.s rfl (Y.fieldAddr 1 3 underlying123 rfl sizeOf3 rfl) ?_
    refine GoK.s rfl (Y.load isAgg3 rfl (Cell.a (by rfl))) ?_
    refine GoK.s rfl (Y.move rfl) ?_
    refine GoK.s rfl (Y.nilCheck rfl) ?_
    refine GoK.s rfl (Y.fieldAddrZ 131 underlying133 rfl sizeOf131 rfl) ?_
    refine GoK.s rfl (Y.fieldAddr0 2 57 underlying131 rfl sizeOf57 rfl) ?_
    refine GoK.s rfl (Y.ixArr d.i.a.toNat underlying57 sizeOf43 rfl rfl (by omega) (by omega)) ?_
    refine GoK.d3 rfl (Does.st sizeOf43 rfl rfl rfl (Nat.blt_eq.mpr (by show 2 + d.i.a.toNat * 1 < 18; omega))) ?_
    rintro _ _ ⟨rfl, rfl⟩
    rw [thr_setI _ (by omega) (by omega) hRl]
    refine GoK.to (A := thrsH qs (d.s.thr.set d.n (some (t.put d.i.a 0)))) (Bs := [arr p 0 (thrC (t.put d.i.a 0)), thrsH (qs.set d.n none) (d.s.thr.set d.n none)]) .auto (thrs_shut (List.getElem?_eq_some_iff.1 ht2).1 hp2) ?_
    refine GoK.nil (GoE.then_normal (GoC.region ?_))
    refine GoL.y rfl (Y.move rfl) ?_
    refine GoL.y rfl (Y.move rfl) ?_
    refine GoL.y rfl (Y.nilCheck rfl) ?_
    refine GoL.y rfl (Y.fieldAddr0 3 123 underlying138 rfl sizeOf123 rfl) ?_
    refine GoL.y rfl (Y.fieldAddr 4 43 underlying123 rfl sizeOf43 rfl) ?_
    refine GoL.y rfl (Y.load isAgg43 rfl (Cell.a (by rfl))) ?_
    refine GoL.y rfl (Y.move rfl) ?_
    refine GoL.y rfl (Y.move rfl) ?_
    refine GoL.does rfl (Does.callE rfl call89 rfl (dng_pass (d := d.setT (t.put d.i.a 0)) (ps := qs) (p := p) (t := t.put d.i.a 0) (e := 2) hp2 (setT_same ht2) (Nat.le_trans hk.recs (by decide)) (by decide) (by rw [put_len]; exact hRl)) .auto) ?_
    rintro _ _ ⟨⟨⟩, -, rfl, rfl⟩
    refine GoL.nil ?_
    rw [show d.spawn = (d.setT (t.put d.i.a 0)).pass d.i.n 0 2 from by unfold Dng.spawn; rw [hb]; simp only; rw [if_neg (by decide), if_neg (by decide), dng_t ht]]
    refine GoE.end0 rfl fun w s => ⟨qs, ?_, trivial, finE .auto s⟩
    rfl

set_option maxRecDepth 20000 in
theorem dng_kernel {W : World} {bd b p : Nat} {ps : List (Option Nat)} {d : Dng} {t : Thr} (hp : ps[d.n]? = some (some p)) (ht : d.s.thr[d.n]? = some (some t)) (hk : CallOk ps d t) : Fn Tryz.prog W 97 [ptr bd] [dngX bd b p ps d] Unit (fun _ => .tuple #[]) (fun _ => True) (fun _ => [dngX bd b p ps (d.kernel)]) := by
  refine Fn.intro (N := 42) func97 rfl ntmps97 rfl fun F => ?_
  show GoC _ _ _ _ _ _ [dngX bd b p ps d, F]
  refine GoC.o2 (C := dngX bd b p ps (d)) .auto rfl ?_
  rintro vw ve -
  have ha0 : 0 ≤ d.a := by
    unfold Dng.a; rw [dng_t ht]; exact (hk.R.r _).1
  have hb0 : 0 ≤ d.b := by
    unfold Dng.b; rw [dng_t ht]; exact (hk.R.r _).1
  refine GoC.seq (GoC.region ?_)
  refine GoL.y rfl (Y.move rfl) ?_
  refine GoL.y rfl (Y.nilCheck rfl) ?_
  refine GoL.y rfl (Y.fieldAddr0 3 123 underlying138 rfl sizeOf123 rfl) ?_
  refine GoL.y rfl (Y.fieldAddrZ 3 underlying123 rfl sizeOf3 rfl) ?_
  refine GoL.y rfl (Y.load isAgg3 rfl (Cell.a (by rfl))) ?_
  refine GoL.nil (GoE.then_normal (GoC.block (GoC.seq (GoC.region ?_))))
  refine GoL.y rfl (Y.eql rfl rfl) ?_
  refine GoL.y rfl (Y.assign rfl) ?_
  refine GoL.nil (GoE.then_normal ?_)
  refine GoC.condD rfl (fun h11 => ?_) (fun h11 => ?_)
  · refine GoC.o10 (C := spcX b ps (d).s) .auto rfl ?_
    rintro fv sv pv bt vm bg vt bk bw vr -
    refine GoC.fr .auto (thrs_out hp ht) ?_
    refine GoC.draw [arr bd 0 (dngC b p d vw ve)] [0, 1, 2, 0, 0, 0, 0, 0, 3] rfl (by kernel_rfl) ?_
    refine GoK.k rfl Kept.auto (Y.move rfl) ?_
    refine GoK.s rfl (Y.move rfl) ?_
    refine GoK.d2 rfl Kept.auto (Does.callE rfl call119 rfl (dng_bP ht hk.I.b) .auto) (by rintro _ _ ⟨⟨⟩, -, rfl, rfl⟩; exact Kept.auto) ?_
    rintro _ _ ⟨⟨⟩, -, rfl, rfl⟩
    refine GoK.k rfl Kept.auto (Y.move rfl) ?_
    refine GoK.k rfl Kept.auto (Y.nilCheck rfl) ?_
    refine GoK.k rfl Kept.auto (Y.fieldAddr0 3 123 underlying138 rfl sizeOf123 rfl) ?_
    refine GoK.k rfl Kept.auto (Y.fieldAddr 1 3 underlying123 rfl sizeOf3 rfl) ?_
    refine GoK.k rfl Kept.auto (Y.load isAgg3 rfl (Cell.a (by rfl))) ?_
    refine GoK.to (A := thrsH ps d.s.thr) (Bs := [arr p 0 (thrC t), thrsH (ps.set d.n none) (d.s.thr.set d.n none)]) .auto (thrs_keep hp ht) ?_
    refine GoK.d3 rfl (Does.callE rfl call132 rfl (dng_ask hp ht hk hb0) .auto) ?_
    rintro _ _ ⟨⟨⟩, -, rfl, rfl⟩
    refine GoK.nil (GoE.block_normal ?_)
    rw [show d.kernel = d.ask d.b 0 d.i.a from by unfold Dng.kernel; repeat (first | rw [if_neg (by omega)] | rw [if_pos (by omega)])]
    refine GoE.end0 rfl fun w s => ⟨(), ?_, trivial, finE .auto s⟩
    rfl
  · refine GoC.seq (GoC.region ?_)
    refine GoL.y rfl (Y.eql rfl rfl) ?_
    refine GoL.y rfl (Y.assign rfl) ?_
    refine GoL.nil (GoE.then_normal ?_)
    refine GoC.condD rfl (fun h22 => ?_) (fun h22 => ?_)
    · refine GoC.region ?_
      refine GoL.y rfl (Y.move rfl) ?_
      refine GoL.y rfl (Y.move rfl) ?_
      refine GoL.does rfl (Does.callE rfl call92 rfl (dng_a hp ht hk.I.a) .auto) ?_
      rintro _ _ ⟨⟨⟩, -, rfl, rfl⟩
      refine GoL.y rfl (Y.move rfl) ?_
      refine GoL.does rfl (Does.callE rfl call119 rfl (dng_b hp ht hk.I.b) .auto) ?_
      rintro _ _ ⟨⟨⟩, -, rfl, rfl⟩
      refine GoL.does rfl (Does.callE rfl call132 rfl (dng_ask hp ht hk ha0) .auto) ?_
      rintro _ _ ⟨⟨⟩, -, rfl, rfl⟩
      refine GoL.nil (GoE.block_normal ?_)
      rw [show d.kernel = d.ask d.a d.b (-1) from by unfold Dng.kernel; repeat (first | rw [if_neg (by omega)] | rw [if_pos (by omega)])]
      refine GoE.end0 rfl fun w s => ⟨(), ?_, trivial, finE .auto s⟩
      rfl
    · refine GoC.seq (GoC.region ?_)
      refine GoL.y rfl (Y.eql rfl rfl) ?_
      refine GoL.y rfl (Y.assign rfl) ?_
      refine GoL.nil (GoE.then_normal ?_)
      refine GoC.condD rfl (fun h30 => ?_) (fun h30 => ?_)
      · refine GoC.region ?_
        refine GoL.y rfl (Y.move rfl) ?_
        refine GoL.does rfl (Does.callE rfl call133 rfl (dng_put hp ht hk (.inl h30)) .auto) ?_
        rintro _ _ ⟨⟨⟩, -, rfl, rfl⟩
        refine GoL.nil (GoE.block_normal ?_)
        rw [show d.kernel = d.put from by unfold Dng.kernel; repeat (first | rw [if_neg (by omega)] | rw [if_pos (by omega)])]
        refine GoE.end0 rfl fun w s => ⟨(), ?_, trivial, finE .auto s⟩
        rfl
      · refine GoC.seq (GoC.region ?_)
        refine GoL.y rfl (Y.eql rfl rfl) ?_
        refine GoL.y rfl (Y.assign rfl) ?_
        refine GoL.nil (GoE.then_normal ?_)
        refine GoC.condD rfl (fun h34 => ?_) (fun h34 => ?_)
        · refine GoC.region ?_
          refine GoL.y rfl (Y.move rfl) ?_
          refine GoL.does rfl (Does.callE rfl call134 rfl (dng_get hp ht hk (.inr h34)) .auto) ?_
          rintro _ _ ⟨⟨⟩, -, rfl, rfl⟩
          refine GoL.nil (GoE.block_normal ?_)
          rw [show d.kernel = d.get from by unfold Dng.kernel; repeat (first | rw [if_neg (by omega)] | rw [if_pos (by omega)])]
          refine GoE.end0 rfl fun w s => ⟨(), ?_, trivial, finE .auto s⟩
          rfl
        · refine GoC.seq (GoC.region ?_)
          refine GoL.y rfl (Y.eql rfl rfl) ?_
          refine GoL.y rfl (Y.assign rfl) ?_
          refine GoL.nil (GoE.then_normal ?_)
          refine GoC.condD rfl (fun h38 => ?_) (fun h38 => ?_)
          · refine GoC.region ?_
            refine GoL.y rfl (Y.move rfl) ?_
            refine GoL.does rfl (Does.callE rfl call135 rfl (dng_sleep hp ht hk) .auto) ?_
            rintro _ _ ⟨⟨⟩, -, rfl, rfl⟩
            refine GoL.nil (GoE.block_normal ?_)
            rw [show d.kernel = d.sleep from by unfold Dng.kernel; repeat (first | rw [if_neg (by omega)] | rw [if_pos (by omega)])]
            refine GoE.end0 rfl fun w s => ⟨(), ?_, trivial, finE .auto s⟩
            rfl
          · refine GoC.region ?_
            refine GoL.y rfl (Y.move rfl) ?_
            refine GoL.y rfl (Y.move rfl) ?_
            refine GoL.does rfl (Does.callE rfl call92 rfl (dng_a hp ht hk.I.a) .auto) ?_
            rintro _ _ ⟨⟨⟩, -, rfl, rfl⟩
            refine GoL.does rfl (Does.callE rfl call89 rfl (dng_pass hp ht (Nat.le_trans hk.recs (by decide)) (by decide) hk.R.l) .auto) ?_
            rintro _ _ ⟨⟨⟩, -, rfl, rfl⟩
            refine GoL.nil (GoE.block_normal ?_)
            rw [show d.kernel = d.pass d.a 0 0 from by unfold Dng.kernel; repeat (first | rw [if_neg (by omega)] | rw [if_pos (by omega)])]
            refine GoE.end0 rfl fun w s => ⟨(), ?_, trivial, finE .auto s⟩
            rfl

end Go.SLYtpcjdohmjmeehaaGreat
namespace Go.SLYtpcjdohmjmeehaaGreat
open Go Go.RowKit Go.Proofs Go.Proofs.Tryz

set_option maxRecDepth 20000 in
theorem dng_moved {W : World} {bd b p : Nat} {ps : List (Option Nat)} {d : Dng} {l : List Int} {u : Value} (hl : ∀ w ∈ l, 0 ≤ w ∧ LiveAt ps d.s w.toNat) (hw : ∀ w ∈ d.waits, 0 ≤ w ∧ LiveAt ps d.s w.toNat) (hm : d.s.prg.mutexes ≤ (d.s.gates.mtx.length : Int)) (hgm : d.s.gates.mtx.length ≤ 1000000) (hmw : ∀ x ∈ d.s.gates.mtx, x.wait.length ≤ 1000000) (hb : d.ends.length + l.length ≤ 1000000 ∧ d.out.woken.length + l.length ≤ 1000000) : Fn Tryz.prog W 95 [ptr bd, u] [dngX bd b p ps d, sl intE 1 u l] Unit (fun _ => .tuple #[]) (fun _ => True) (fun _ => [dngX bd b p ps (d.moved l), sl intE 1 u l]) := by
  refine Fn.intro (N := 57) func95 rfl ntmps95 rfl fun F => ?_
  show GoC _ _ _ _ _ _ [dngX bd b p ps d, sl intE 1 u l, F]
  refine GoC.o2 (C := dngX bd b p ps d) .auto rfl ?_
  rintro vw ve -
  refine GoC.o10 (C := spcX b ps d.s) .auto rfl ?_
  rintro fv sv pv bt vm bg vt bk bw vr -
  have hww : waitsTo d d.s.prg.mutexes.toNat = d.waits := rfl
  refine GoC.seq (GoC.seq (GoC.region ?_))
  refine GoL.y rfl (Y.move rfl) ?_
  refine GoL.y rfl (Y.nilCheck rfl) ?_
  refine GoL.y rfl (Y.fieldAddrZ 27 underlying138 rfl sizeOf27 rfl) ?_
  refine GoL.y rfl (Y.load isAgg27 rfl (Cell.a (by rfl))) ?_
  refine GoL.y rfl (Y.nilCheck rfl) ?_
  refine GoL.y rfl (Y.fieldAddrZ 25 underlying118 rfl sizeOf25 rfl) ?_
  refine GoL.y rfl (Y.fieldAddr0 2 3 underlying25 rfl sizeOf3 rfl) ?_
  refine GoL.y rfl (Y.load isAgg3 rfl (Cell.a (by rfl))) ?_
  refine GoL.y rfl (Y.move rfl) ?_
  refine GoL.nil (GoE.then_normal (GoC.block ?_))
  refine GoC.loopK (X := Nat) [4, 6, 17, 18, 19, 20, 21, 22, 23, 24, 25, 26, 27, 28, 29, 30, 31, 32, 33, 34, 35, 36, 37, 38, 39, 40, 41, 42, 43, 44, 45, 46] (fun k => d.s.prg.mutexes.toNat - k) (fun k => k ≤ d.s.prg.mutexes.toNat) (fun k => [(17, some (.int .i64 (k : Int)))]) (fun k => [dngX bd b p ps ({ d with s := whyAll d.s (waitsTo d k) } : Dng), sl intE 1 u l, F]) 0 ?_ ?_ ?_ ?_
  · exact Nat.zero_le _
  · exact ⟨rfl, trivial⟩
  · exact fun w s => Ent.kept .auto w s
  rintro k hk
  refine GoC.seq (GoC.region ?_)
  refine GoL.y rfl (Y.lss rfl rfl) ?_
  refine GoL.nil (GoE.then_normal (GoC.seq ?_))
  refine GoC.condD rfl (fun h18 => ?_) (fun h18 => ?_)
  · refine GoC.skip (GoE.then_normal (GoC.seq (GoC.block (GoC.seq (GoC.region ?_)))))
    refine GoL.y rfl (Y.move rfl) ?_
    refine GoL.y rfl (Y.assign rfl) ?_
    refine GoL.nil (GoE.then_normal (GoC.seq (GoC.region ?_)))
    obtain ⟨x, hx⟩ := at_some (show k < d.s.gates.mtx.length by omega)
    refine GoL.o2 (C := dngX bd b p ps (({ d with s := whyAll d.s (waitsTo d k) } : Dng))) .auto rfl ?_
    rintro vw ve -
    refine GoL.o10 (C := spcX b ps (({ d with s := whyAll d.s (waitsTo d k) } : Dng)).s) .auto rfl ?_
    rintro fv sv pv bt vm bg vt bk bw vr -
    refine GoL.y rfl (Y.move rfl) ?_
    refine GoL.y rfl (Y.nilCheck rfl) ?_
    refine GoL.y rfl (Y.fieldAddrZ 27 underlying138 rfl sizeOf27 rfl) ?_
    refine GoL.y rfl (Y.load isAgg27 rfl (Cell.a (by rfl))) ?_
    refine GoL.y rfl (Y.nilCheck rfl) ?_
    refine GoL.y rfl (Y.fieldAddr0 26 108 underlying118 rfl sizeOf108 rfl) ?_
    refine GoL.y rfl (Y.load isAgg108 rfl (Cell.a (by rfl))) ?_
    refine GoL.y rfl (Y.move rfl) ?_
    have hxg : (whyAll d.s (waitsTo d k)).gates.mtx[k]? = some x := by rw [whyAll_gates]; exact hx
    have hxl := hmw x (List.mem_of_getElem? hx)
    refine GoL.does rfl (Does.callE rfl call129 rfl (gate_Waiters1 hxg hxl) .auto) ?_
    rintro _ _ ⟨u28, -, rfl, rfl⟩
    refine GoL.y rfl (Y.lenRd underlying23 rfl Rd.s) ?_
    refine GoL.y rfl (Y.move rfl) ?_
    refine GoL.nil (GoE.then_normal (GoC.block ?_))
    refine GoC.loopK (X := Nat) [6, 30, 31, 32, 33, 34, 35, 36, 37, 38, 39, 40, 41, 42, 43, 44, 45] (fun j => (x.wait.map (·.who)).length - j) (fun j => j ≤ (x.wait.map (·.who)).length) (fun j => [(30, some (.int .i64 (j : Int)))]) (fun j => [dngX bd b p ps ({ d with s := whyAll d.s (waitsTo d k ++ (x.wait.map (·.who)).take j) } : Dng), sl intE 1 u28 (x.wait.map (·.who)), sl intE 1 u l, F]) 0 ?_ ?_ ?_ ?_
    · exact Nat.zero_le _
    · exact ⟨rfl, trivial⟩
    · rw [List.take_zero, List.append_nil]; exact fun w s => Ent.kept .auto w s
    rintro j hj
    refine GoC.seq (GoC.region ?_)
    refine GoL.y rfl (Y.lss rfl rfl) ?_
    refine GoL.nil (GoE.then_normal (GoC.seq ?_))
    refine GoC.condD rfl (fun h31 => ?_) (fun h31 => ?_)
    · refine GoC.skip (GoE.then_normal (GoC.seq (GoC.block (GoC.seq (GoC.region ?_)))))
      have hxl2 : (x.wait.map (·.who)).length ≤ 1000000 := by rw [List.length_map]; exact hxl
      obtain ⟨w, hwj⟩ := at_some (show j < (x.wait.map (·.who)).length by omega)
      have hwm : w ∈ d.waits := List.mem_flatMap.2 ⟨x, List.mem_of_getElem? (i := k) (by rw [List.getElem?_take_of_lt (by omega)]; exact hx), List.mem_of_getElem? hwj⟩
      obtain ⟨hw0, hwl⟩ := hw w hwm
      obtain ⟨hw16, q, v, hq, hv, hRv⟩ := live_why w.toNat (waitsTo d k ++ (x.wait.map (·.who)).take j) hwl
      refine GoL.y rfl (Y.ixRd _ underlying23 sizeOf3 rfl rfl Rd.s rfl (by first | omega | decide)) ?_
      refine GoL.y rfl (Y.load isAgg3 rfl (Cell.rd0 Rd.s ‹_› (by rfl))) ?_
      refine GoL.y rfl (Y.assign rfl) ?_
      refine GoL.nil (GoE.then_normal (GoC.region ?_))
      refine GoL.o2 (C := dngX bd b p ps (({ d with s := whyAll d.s (waitsTo d k ++ (x.wait.map (·.who)).take j) } : Dng))) .auto rfl ?_
      rintro vw ve -
      refine GoL.o10 (C := spcX b ps (({ d with s := whyAll d.s (waitsTo d k ++ (x.wait.map (·.who)).take j) } : Dng)).s) .auto rfl ?_
      rintro fv sv pv bt vm bg vt bk bw vr -
      refine GoL.fr .auto (thrs_out hq hv) ?_
      refine GoL.y rfl (Y.move rfl) ?_
      refine GoL.y rfl (Y.nilCheck rfl) ?_
      refine GoL.y rfl (Y.fieldAddrZ 27 underlying138 rfl sizeOf27 rfl) ?_
      refine GoL.y rfl (Y.load isAgg27 rfl (Cell.a (by rfl))) ?_
      refine GoL.y rfl (Y.move rfl) ?_
      refine GoL.y rfl (Y.nilCheck rfl) ?_
      refine GoL.y rfl (Y.fieldAddr0 9 115 underlying118 rfl sizeOf115 rfl) ?_
      refine GoL.y rfl (Y.ixArr w.toNat underlying115 sizeOf114 rfl rfl (by omega) hw16) ?_
      refine GoL.y rfl (Y.load isAgg114 rfl (Cell.a (by rw [Nat.mul_one, spcC_get hw16, getD_of hq]))) ?_
      refine GoL.y rfl (Y.nilCheck rfl) ?_
      refine GoL.y rfl (Y.fieldAddr0 11 3 underlying133 rfl sizeOf3 rfl) ?_
      refine GoL.does rfl (Does.st sizeOf3 rfl rfl rfl rfl) ?_
      rintro _ _ ⟨rfl, rfl⟩
      rw [thr_why]
      refine GoL.nil ?_
      refine GoE.block_normal (GoE.then_normal (GoC.region ?_))
      refine GoL.y rfl (Y.inc rfl rfl (by omega)) ?_
      refine GoL.y rfl (Y.move rfl) ?_
      refine GoL.nil ?_
      refine GoE.to (A := thrsH ps (({ d with s := whyAll d.s (waitsTo d k ++ (x.wait.map (·.who)).take j) } : Dng).s.thr.set w.toNat (some ({ v with why := 1 })))) (Bs := [arr q 0 (thrC ({ v with why := 1 })), thrsH (ps.set w.toNat none) (({ d with s := whyAll d.s (waitsTo d k ++ (x.wait.map (·.who)).take j) } : Dng).s.thr.set w.toNat none)]) .auto (thrs_shut (List.getElem?_eq_some_iff.1 hv).1 hq) ?_
      refine GoE.againK (j + 1) .auto rfl ?_ ?_ ?_ ?_
      · omega
      · show j + 1 ≤ _; omega
      · exact ⟨rfl, trivial⟩
      · rw [take_snoc hwj, ← List.append_assoc, whyAll_app _ _ [w], show whyAll (whyAll d.s (waitsTo d k ++ (x.wait.map (·.who)).take j)) [w] = (whyAll d.s (waitsTo d k ++ (x.wait.map (·.who)).take j)).setT w.toNat { v with why := 1 } from by show Spc.setT _ _ _ = _; rw [spc_t hv]]; exact fun w s => Ent.kept .auto w s
    · refine GoC.exit ?_
      refine GoE.then_exit (GoE.then_exit (GoE.block_here (GoE.block_normal (GoE.then_normal ?_))))
      refine GoC.region ?_
      refine GoL.y rfl (Y.inc rfl rfl (by omega)) ?_
      refine GoL.y rfl (Y.move rfl) ?_
      refine GoL.nil ?_
      rw [List.take_of_length_le (by omega), ← waitsTo_next hx]
      refine GoE.againK (k + 1) .auto rfl ?_ ?_ ?_ ?_
      · omega
      · show k + 1 ≤ _; omega
      · exact ⟨rfl, trivial⟩
      · exact fun w s => Ent.kept .auto w s
  · refine GoC.exit ?_
    refine GoE.then_exit (GoE.then_exit (GoE.block_here (GoE.then_normal ?_)))
    refine GoC.seq (GoC.region ?_)
    refine GoL.y rfl (Y.move rfl) ?_
    refine GoL.y rfl (Y.lenRd underlying23 rfl Rd.s) ?_
    refine GoL.y rfl (Y.move rfl) ?_
    refine GoL.nil (GoE.then_normal (GoC.block ?_))
    rw [show k = d.s.prg.mutexes.toNat from by omega, hww]
    refine GoC.loopK (X := Nat) [8, 49, 50, 51, 52, 53, 54, 55, 56] (fun k => l.length - k) (fun k => k ≤ l.length) (fun k => [(49, some (.int .i64 (k : Int)))]) (fun k => [dngX bd b p ps (({ d with s := whyAll d.s d.waits } : Dng).goesAll (l.take k)), sl intE 1 u l, F]) 0 ?_ ?_ ?_ ?_
    · exact Nat.zero_le _
    · exact ⟨rfl, trivial⟩
    · exact fun w s => Ent.kept .auto w s
    rintro k hk
    refine GoC.seq (GoC.region ?_)
    refine GoL.y rfl (Y.lss rfl rfl) ?_
    refine GoL.nil (GoE.then_normal (GoC.seq ?_))
    refine GoC.condD rfl (fun h50 => ?_) (fun h50 => ?_)
    · refine GoC.skip (GoE.then_normal (GoC.seq (GoC.block (GoC.seq (GoC.region ?_)))))
      obtain ⟨w, hwj⟩ := at_some (show k < l.length by omega)
      have hwl := hl w (List.mem_of_getElem? hwj)
      obtain ⟨hw16, q, v, hq, hv, hRv⟩ := live_goesAll w.toNat (l.take k) ({ d with s := whyAll d.s d.waits } : Dng) (live_why _ _ hwl.2) (fun z hz => live_why _ _ (hl z (List.mem_of_mem_take hz)).2)
      have hgl2 := goesAll_len ({ d with s := whyAll d.s d.waits } : Dng) (l.take k)
      rw [List.length_take] at hgl2
      refine GoL.y rfl (Y.ixRd _ underlying23 sizeOf3 rfl rfl Rd.s rfl (by first | omega | decide)) ?_
      refine GoL.y rfl (Y.load isAgg3 rfl (Cell.rd0 Rd.s ‹_› (by rfl))) ?_
      refine GoL.y rfl (Y.assign rfl) ?_
      refine GoL.nil (GoE.then_normal (GoC.region ?_))
      refine GoL.y rfl (Y.move rfl) ?_
      refine GoL.y rfl (Y.move rfl) ?_
      refine GoL.does rfl (Does.callE rfl call86 rfl (dng_goesI (d := ({ d with s := whyAll d.s d.waits } : Dng).goesAll (l.take k)) hwl.1 hq hv hw16 hRv (by show (Dng.goesAll _ _).ends.length ≤ _; simp only at hgl2; omega) (by show (Dng.goesAll _ _).out.woken.length ≤ _; simp only at hgl2; omega)) .auto) ?_
      rintro _ _ ⟨⟨⟩, -, rfl, rfl⟩
      refine GoL.nil ?_
      refine GoE.block_normal (GoE.then_normal (GoC.region ?_))
      refine GoL.y rfl (Y.inc rfl rfl (by omega)) ?_
      refine GoL.y rfl (Y.move rfl) ?_
      refine GoL.nil ?_
      refine GoE.againK (k + 1) .auto rfl ?_ ?_ ?_ ?_
      · omega
      · show k + 1 ≤ _; omega
      · exact ⟨rfl, trivial⟩
      · rw [take_snoc hwj, goesAll_snoc]; exact fun w s => Ent.kept .auto w s
    · refine GoC.exit ?_
      refine GoE.then_exit (GoE.then_exit (GoE.block_here ?_))
      rw [show d.moved l = ({ d with s := whyAll d.s d.waits } : Dng).goesAll (l.take k) from by rw [List.take_of_length_le (by omega)]; rfl]
      refine GoE.end0 rfl fun w s => ⟨(), ?_, trivial, finE .auto s⟩
      rfl

set_option maxRecDepth 20000 in
theorem dng_call {W : World} {bd b p : Nat} {ps : List (Option Nat)} {d : Dng} {t : Thr} (hp : ps[d.n]? = some (some p)) (ht : d.s.thr[d.n]? = some (some t)) (hk : CallOk ps d t) : Fn Tryz.prog W 65 [ptr bd] [dngX bd b p ps d] (List (Option Nat)) (fun _ => .tuple #[]) (fun _ => True) (fun qs => [dngX bd b p qs d.call]) := by
  refine Fn.intro (N := 124) func65 rfl ntmps65 rfl fun F => ?_
  show GoC _ _ _ _ _ _ [dngX bd b p ps d, F]
  refine GoC.o2 (C := dngX bd b p ps (d)) .auto rfl ?_
  rintro vw ve -
  have hnn := hk.nn
  have hn0 := hk.I.n
  have hIa := hk.I.a
  have hRl := hk.R.l
  refine GoC.seq (GoC.region ?_)
  refine GoL.y rfl (Y.move rfl) ?_
  refine GoL.y rfl (Y.nilCheck rfl) ?_
  refine GoL.y rfl (Y.fieldAddr0 3 123 underlying138 rfl sizeOf123 rfl) ?_
  refine GoL.y rfl (Y.fieldAddrZ 3 underlying123 rfl sizeOf3 rfl) ?_
  refine GoL.y rfl (Y.load isAgg3 rfl (Cell.a (by rfl))) ?_
  refine GoL.nil (GoE.then_normal (GoC.block (GoC.seq (GoC.region ?_))))
  refine GoL.y rfl (Y.eql rfl rfl) ?_
  refine GoL.y rfl (Y.assign rfl) ?_
  refine GoL.nil (GoE.then_normal ?_)
  refine GoC.condD rfl (fun h11 => ?_) (fun h11 => ?_)
  · refine GoC.region ?_
    refine GoL.y rfl (Y.move rfl) ?_
    refine GoL.does rfl (Does.callE rfl call88 rfl (dng_spawn hp ht hk) .auto) ?_
    rintro _ _ ⟨qs, -, rfl, rfl⟩
    refine GoL.nil (GoE.block_normal ?_)
    rw [show d.call = d.spawn from by unfold Dng.call; repeat (first | rw [if_neg (by omega)] | rw [if_pos (by omega)])]
    refine GoE.end0 rfl fun w s => ⟨qs, ?_, trivial, finE .auto s⟩
    rfl
  · refine GoC.seq (GoC.region ?_)
    refine GoL.y rfl (Y.eql rfl rfl) ?_
    refine GoL.y rfl (Y.assign rfl) ?_
    refine GoL.nil (GoE.then_normal ?_)
    refine GoC.condD rfl (fun h15 => ?_) (fun h15 => ?_)
    · refine GoC.seq ?_
      refine GoC.o10 (C := spcX b ps (d).s) .auto rfl ?_
      rintro fv sv pv bt vm bg vt bk bw vr -
      refine GoC.fr .auto (thrs_out hp ht) ?_
      refine GoC.draw [arr bd 0 (dngC b p d vw ve)] [1, 1, 1, 1, 1, 1, 1, 1, 1, 1, 1, 1, 1, 1, 1, 1, 1, 1, 1, 1, 3] rfl (by kernel_rfl) ?_
      refine GoK.s rfl (Y.move rfl) ?_
      refine GoK.s rfl (Y.nilCheck rfl) ?_
      refine GoK.s rfl (Y.fieldAddr0 2 114 underlying138 rfl sizeOf114 rfl) ?_
      refine GoK.s rfl (Y.load isAgg114 rfl (Cell.a (by rfl))) ?_
      refine GoK.s rfl (Y.move rfl) ?_
      refine GoK.s rfl (Y.nilCheck rfl) ?_
      refine GoK.s rfl (Y.fieldAddr0 3 123 underlying138 rfl sizeOf123 rfl) ?_
      refine GoK.s rfl (Y.fieldAddr 1 3 underlying123 rfl sizeOf3 rfl) ?_
      refine GoK.s rfl (Y.load isAgg3 rfl (Cell.a (by rfl))) ?_
      refine GoK.s rfl (Y.move rfl) ?_
      refine GoK.s rfl (Y.nilCheck rfl) ?_
      refine GoK.s rfl (Y.fieldAddr0 2 114 underlying138 rfl sizeOf114 rfl) ?_
      refine GoK.s rfl (Y.load isAgg114 rfl (Cell.a (by rfl))) ?_
      refine GoK.s rfl (Y.nilCheck rfl) ?_
      refine GoK.s rfl (Y.fieldAddr0 10 43 underlying133 rfl sizeOf43 rfl) ?_
      refine GoK.s rfl (Y.load isAgg43 rfl (Cell.a (by rfl))) ?_
      refine GoK.s rfl (Y.nilCheck rfl) ?_
      refine GoK.s rfl (Y.fieldAddrZ 131 underlying133 rfl sizeOf131 rfl) ?_
      refine GoK.s rfl (Y.fieldAddr0 2 57 underlying131 rfl sizeOf57 rfl) ?_
      refine GoK.s rfl (Y.ixArr d.i.a.toNat underlying57 sizeOf43 rfl rfl (by omega) (by omega)) ?_
      refine GoK.d3 rfl (Does.st sizeOf43 rfl rfl rfl (Nat.blt_eq.mpr (by show 2 + d.i.a.toNat * 1 < 18; omega))) ?_
      rintro _ _ ⟨rfl, rfl⟩
      rw [thr_setI _ (by omega) (by omega) hRl]
      refine GoK.nil (GoE.then_normal (GoC.region ?_))
      refine GoL.y rfl (Y.move rfl) ?_
      refine GoL.y rfl (Y.move rfl) ?_
      refine GoL.y rfl (Y.nilCheck rfl) ?_
      refine GoL.y rfl (Y.fieldAddr0 2 114 underlying138 rfl sizeOf114 rfl) ?_
      refine GoL.y rfl (Y.load isAgg114 rfl (Cell.a (by rfl))) ?_
      refine GoL.y rfl (Y.nilCheck rfl) ?_
      refine GoL.y rfl (Y.fieldAddr0 10 43 underlying133 rfl sizeOf43 rfl) ?_
      refine GoL.y rfl (Y.load isAgg43 rfl (Cell.a (cs := thrC (t.put d.i.a t.handle)) rfl)) ?_
      refine GoL.to (A := thrsH ps (d.s.thr.set d.n (some (t.put d.i.a t.handle)))) (Bs := [arr p 0 (thrC (t.put d.i.a t.handle)), thrsH (ps.set d.n none) (d.s.thr.set d.n none)]) .auto (thrs_shut (List.getElem?_eq_some_iff.1 ht).1 hp) ?_
      refine GoL.does rfl (Does.callE rfl call89 rfl (dng_pass (d := d.setT (t.put d.i.a t.handle)) (t := t.put d.i.a t.handle) hp (setT_same ht) (Nat.le_trans hk.recs (by decide)) (by decide) (by rw [put_len]; exact hRl)) .auto) ?_
      rintro _ _ ⟨⟨⟩, -, rfl, rfl⟩
      refine GoL.nil (GoE.block_normal ?_)
      rw [show d.call = (d.setT (t.put d.i.a t.handle)).pass 0 t.handle 0 from by unfold Dng.call; rw [if_neg h11, if_pos h15, dng_t ht]]
      refine GoE.end0 rfl fun w s => ⟨ps, ?_, trivial, finE .auto s⟩
      rfl
    · refine GoC.seq (GoC.region ?_)
      refine GoL.y rfl (Y.eql rfl rfl) ?_
      refine GoL.y rfl (Y.assign rfl) ?_
      refine GoL.nil (GoE.then_normal ?_)
      refine GoC.condD rfl (fun h46 => ?_) (fun h46 => ?_)
      · refine GoC.seq (GoC.region ?_)
        refine GoL.y rfl (Y.move rfl) ?_
        refine GoL.does rfl (Does.callE rfl call89 rfl (dng_pass hp ht (Nat.le_trans hk.recs (by decide)) (by decide) hk.R.l) .auto) ?_
        rintro _ _ ⟨⟨⟩, -, rfl, rfl⟩
        refine GoL.nil (GoE.then_normal (GoC.region ?_))
        refine GoL.o2 (C := dngX bd b p ps (d.pass 0 0 0)) .auto rfl ?_
        rintro vw ve -
        refine GoL.y rfl (Y.move rfl) ?_
        refine GoL.y rfl (Y.nilCheck rfl) ?_
        refine GoL.y rfl (Y.fieldAddr0 9 36 underlying138 rfl sizeOf36 rfl) ?_
        refine GoL.y rfl (Y.fieldAddr 3 4 underlying36 rfl sizeOf4 rfl) ?_
        refine GoL.does rfl (Does.st sizeOf4 rfl rfl rfl rfl) ?_
        rintro _ _ ⟨rfl, rfl⟩
        rw [dng_yld]
        refine GoL.nil (GoE.block_normal ?_)
        rw [show d.call = { d.pass 0 0 0 with out := { d.out with yielded := true } } from by unfold Dng.call; repeat (first | rw [if_neg (by omega)] | rw [if_pos (by omega)])]
        refine GoE.end0 rfl fun w s => ⟨ps, ?_, trivial, finE .auto s⟩
        rfl
      · refine GoC.seq (GoC.region ?_)
        refine GoL.y rfl (Y.eql rfl rfl) ?_
        refine GoL.y rfl (Y.assign rfl) ?_
        refine GoL.nil (GoE.then_normal ?_)
        refine GoC.condD rfl (fun h54 => ?_) (fun h54 => ?_)
        · refine GoC.region ?_
          refine GoL.y rfl (Y.move rfl) ?_
          refine GoL.does rfl (Does.callE rfl call90 rfl (dng_join hp ht hk) .auto) ?_
          rintro _ _ ⟨qs, -, rfl, rfl⟩
          refine GoL.nil (GoE.block_normal ?_)
          rw [show d.call = d.join from by unfold Dng.call; repeat (first | rw [if_neg (by omega)] | rw [if_pos (by omega)])]
          refine GoE.end0 rfl fun w s => ⟨qs, ?_, trivial, finE .auto s⟩
          rfl
        · refine GoC.seq (GoC.region ?_)
          refine GoL.y rfl (Y.eql rfl rfl) ?_
          refine GoL.y rfl (Y.assign rfl) ?_
          refine GoL.nil (GoE.then_normal ?_)
          refine GoC.condD rfl (fun h58 => ?_) (fun h58 => ?_)
          · refine GoC.region ?_
            refine GoL.y rfl (Y.move rfl) ?_
            refine GoL.does rfl (Does.callE rfl call91 rfl (dng_detach hp ht hk) .auto) ?_
            rintro _ _ ⟨qs, -, rfl, rfl⟩
            refine GoL.nil (GoE.block_normal ?_)
            rw [show d.call = d.detach from by unfold Dng.call; repeat (first | rw [if_neg (by omega)] | rw [if_pos (by omega)])]
            refine GoE.end0 rfl fun w s => ⟨qs, ?_, trivial, finE .auto s⟩
            rfl
          · refine GoC.seq (GoC.region ?_)
            refine GoL.y rfl (Y.eql rfl rfl) ?_
            refine GoL.y rfl (Y.assign rfl) ?_
            refine GoL.nil (GoE.then_normal ?_)
            refine GoC.condD rfl (fun h62 => ?_) (fun h62 => ?_)
            · refine GoC.seq (GoC.region ?_)
              refine GoL.y rfl (Y.move rfl) ?_
              refine GoL.y rfl (Y.move rfl) ?_
              refine GoL.does rfl (Does.callE rfl call92 rfl (dng_a hp ht hk.I.a) .auto) ?_
              rintro _ _ ⟨⟨⟩, -, rfl, rfl⟩
              refine GoL.does rfl (Does.callE rfl call61 rfl (dng_tell hp ht (Nat.le_trans hk.recs (by decide))) .auto) ?_
              rintro _ _ ⟨⟨⟩, -, rfl, rfl⟩
              refine GoL.nil (GoE.then_normal (GoC.region ?_))
              refine GoL.y rfl (Y.move rfl) ?_
              refine GoL.y rfl (Y.move rfl) ?_
              refine GoL.does rfl (Does.callE rfl call92 rfl (dng_a (d := d.tell d.a 0 0 true) hp ht hk.I.a) .auto) ?_
              rintro _ _ ⟨⟨⟩, -, rfl, rfl⟩
              rw [show (d.tell d.a 0 0 true).a = d.a from rfl]
              refine GoL.does rfl (Does.callE rfl call62 rfl (dng_fin (d := d.tell d.a 0 0 true) hp ht hk.lt hk.lp hk.T hk.R (Nat.le_trans hk.ends (by decide)) (Nat.le_trans hk.wok (by decide)) hk.join) .auto) ?_
              rintro _ _ ⟨qs, -, rfl, rfl⟩
              refine GoL.nil (GoE.block_normal ?_)
              rw [show d.call = (d.tell d.a 0 0 true).fin d.a from by unfold Dng.call; repeat (first | rw [if_neg (by omega)] | rw [if_pos (by omega)])]
              refine GoE.end0 rfl fun w s => ⟨qs, ?_, trivial, finE .auto s⟩
              rfl
            · refine GoC.seq (GoC.seq (GoC.region ?_))
              refine GoL.y rfl (Y.eql rfl rfl) ?_
              refine GoL.y rfl (Y.assign rfl) ?_
              refine GoL.nil (GoE.then_normal ?_)
              refine GoC.condD rfl (fun h72 => ?_) (fun h72 => ?_)
              · refine GoC.skip (GoE.then_normal ?_)
                first | refine GoC.condD rfl (fun _ => ?_) (fun hc => absurd h72 hc) | refine GoC.cond rfl (fun _ => ?_) (fun hc => by rw [h72] at hc; cases hc)
                refine GoC.region ?_
                refine GoL.y rfl (Y.move rfl) ?_
                refine GoL.does rfl (Does.callE rfl call93 rfl (dng_mutex hp ht hk) .auto) ?_
                rintro _ _ ⟨⟨⟩, -, rfl, rfl⟩
                refine GoL.nil (GoE.block_normal ?_)
                rw [show d.call = d.mutex from by unfold Dng.call; repeat (first | rw [if_neg (by omega)] | rw [if_pos (by omega)])]
                refine GoE.end0 rfl fun w s => ⟨ps, ?_, trivial, finE .auto s⟩
                rfl
              · refine GoC.seq (GoC.region ?_)
                refine GoL.y rfl (Y.eql rfl rfl) ?_
                refine GoL.y rfl (Y.assign rfl) ?_
                refine GoL.nil (GoE.then_normal ?_)
                refine GoC.condD rfl (fun h72 => ?_) (fun h72 => ?_)
                · refine GoC.skip (GoE.then_normal ?_)
                  first | refine GoC.condD rfl (fun _ => ?_) (fun hc => absurd h72 hc) | refine GoC.cond rfl (fun _ => ?_) (fun hc => by rw [h72] at hc; cases hc)
                  refine GoC.region ?_
                  refine GoL.y rfl (Y.move rfl) ?_
                  refine GoL.does rfl (Does.callE rfl call93 rfl (dng_mutex hp ht hk) .auto) ?_
                  rintro _ _ ⟨⟨⟩, -, rfl, rfl⟩
                  refine GoL.nil (GoE.block_normal ?_)
                  rw [show d.call = d.mutex from by unfold Dng.call; repeat (first | rw [if_neg (by omega)] | rw [if_pos (by omega)])]
                  refine GoE.end0 rfl fun w s => ⟨ps, ?_, trivial, finE .auto s⟩
                  rfl
                · refine GoC.region ?_
                  refine GoL.y rfl (Y.eql rfl rfl) ?_
                  refine GoL.y rfl (Y.assign rfl) ?_
                  refine GoL.nil (GoE.then_normal ?_)
                  refine GoC.condD rfl (fun h72c => ?_) (fun h72c => ?_)
                  · refine GoC.region ?_
                    refine GoL.y rfl (Y.move rfl) ?_
                    refine GoL.does rfl (Does.callE rfl call93 rfl (dng_mutex hp ht hk) .auto) ?_
                    rintro _ _ ⟨⟨⟩, -, rfl, rfl⟩
                    refine GoL.nil (GoE.block_normal ?_)
                    rw [show d.call = d.mutex from by unfold Dng.call; repeat (first | rw [if_neg (by omega)] | rw [if_pos (by omega)])]
                    refine GoE.end0 rfl fun w s => ⟨ps, ?_, trivial, finE .auto s⟩
                    rfl
                  · refine GoC.seq (GoC.seq (GoC.region ?_))
                    refine GoL.y rfl (Y.eql rfl rfl) ?_
                    refine GoL.y rfl (Y.assign rfl) ?_
                    refine GoL.nil (GoE.then_normal ?_)
                    refine GoC.condD rfl (fun h78 => ?_) (fun h78 => ?_)
                    · refine GoC.skip (GoE.then_normal ?_)
                      first | refine GoC.condD rfl (fun _ => ?_) (fun hc => absurd h78 hc) | refine GoC.cond rfl (fun _ => ?_) (fun hc => by rw [h78] at hc; cases hc)
                      refine GoC.seq ?_
                      refine GoC.o10 (C := spcX b ps (d).s) .auto rfl ?_
                      rintro fv sv pv bt vm bg vt bk bw vr -
                      refine GoC.draw [arr bd 0 (dngC b p d vw ve), arr b 0 (spcC fv sv pv d.s.prg bt ps vm bg vt bk bw vr)] [1, 1, 1, 1, 1, 1, 1, 1, 1, 1, 1, 1, 1, 1, 1, 1, 1, 1, 1, 1, 1, 1, 1, 3, 1, 1, 1, 1, 1] rfl (by kernel_rfl) ?_
                      refine GoK.s rfl (Y.move rfl) ?_
                      refine GoK.s rfl (Y.nilCheck rfl) ?_
                      refine GoK.s rfl (Y.fieldAddrZ 27 underlying138 rfl sizeOf27 rfl) ?_
                      refine GoK.s rfl (Y.load isAgg27 rfl (Cell.a (by rfl))) ?_
                      refine GoK.s rfl (Y.nilCheck rfl) ?_
                      refine GoK.s rfl (Y.fieldAddr0 26 108 underlying118 rfl sizeOf108 rfl) ?_
                      refine GoK.s rfl (Y.load isAgg108 rfl (Cell.a (by rfl))) ?_
                      refine GoK.s rfl (Y.move rfl) ?_
                      refine GoK.s rfl (Y.nilCheck rfl) ?_
                      refine GoK.s rfl (Y.fieldAddr0 3 123 underlying138 rfl sizeOf123 rfl) ?_
                      refine GoK.s rfl (Y.fieldAddr 4 43 underlying123 rfl sizeOf43 rfl) ?_
                      refine GoK.s rfl (Y.load isAgg43 rfl (Cell.a (by rfl))) ?_
                      refine GoK.s rfl (Y.convI underlying43 underlying3 rfl (by omega)) ?_
                      refine GoK.s rfl (Y.move rfl) ?_
                      refine GoK.s rfl (Y.nilCheck rfl) ?_
                      refine GoK.s rfl (Y.fieldAddr0 8 3 underlying138 rfl sizeOf3 rfl) ?_
                      refine GoK.s rfl (Y.load isAgg3 rfl (Cell.a (by rfl))) ?_
                      refine GoK.s rfl (Y.move rfl) ?_
                      refine GoK.s rfl (Y.nilCheck rfl) ?_
                      refine GoK.s rfl (Y.fieldAddr0 3 123 underlying138 rfl sizeOf123 rfl) ?_
                      refine GoK.s rfl (Y.fieldAddrZ 3 underlying123 rfl sizeOf3 rfl) ?_
                      refine GoK.s rfl (Y.load isAgg3 rfl (Cell.a (by rfl))) ?_
                      refine GoK.s rfl (Y.eql rfl rfl) ?_
                      refine GoK.d3 rfl (Does.callE rfl call94 rfl (gate_Signal hk.gl hk.gcnd) .auto) ?_
                      rintro _ _ ⟨u105, -, rfl, rfl⟩
                      refine GoK.s rfl (Y.move rfl) ?_
                      refine GoK.s rfl (Y.extract (v := u105) rfl rfl) ?_
                      refine GoK.s rfl (Y.extract (v := .int .i64 (d.s.gates.signal d.i.n d.choice (decide (d.i.op = 29))).2.1) rfl rfl) ?_
                      refine GoK.s rfl (Y.assign rfl) ?_
                      refine GoK.s rfl (Y.assign rfl) ?_
                      refine GoK.nil (GoE.then_normal (GoC.seq (GoC.region ?_)))
                      refine GoL.y rfl (Y.move rfl) ?_
                      refine GoL.y rfl (Y.move rfl) ?_
                      refine GoL.y rfl (Y.nilCheck rfl) ?_
                      refine GoL.y rfl (Y.fieldAddr0 3 123 underlying138 rfl sizeOf123 rfl) ?_
                      refine GoL.y rfl (Y.fieldAddr 4 43 underlying123 rfl sizeOf43 rfl) ?_
                      refine GoL.y rfl (Y.load isAgg43 rfl (Cell.a (by rfl))) ?_
                      refine GoL.y rfl (Y.move rfl) ?_
                      refine GoL.does rfl (Does.callE rfl call89 rfl (dng_pass (d := (d.withG (d.s.gates.signal d.i.n d.choice (decide (d.i.op = 29))).2.2)) hp ht (Nat.le_trans hk.recs (by decide)) signal_bd hk.R.l) .auto) ?_
                      rintro _ _ ⟨⟨⟩, -, rfl, rfl⟩
                      have sigw : ∀ w ∈ ((d.withG (d.s.gates.signal d.i.n d.choice (decide (d.i.op = 29))).2.2).pass d.i.n 0 (d.s.gates.signal d.i.n d.choice (decide (d.i.op = 29))).2.1).waits, d.s.gates.has w := fun w h => by
                        obtain ⟨x, hx, hw⟩ := List.mem_flatMap.1 h
                        obtain ⟨y, hy, rfl⟩ := List.mem_map.1 hw
                        exact (signal_mtx hk.gsm.1 hk.gsm.2 x (List.mem_of_mem_take hx)).2 y hy
                      refine GoL.nil (GoE.then_normal (GoC.region ?_))
                      refine GoL.y rfl (Y.move rfl) ?_
                      refine GoL.y rfl (Y.move rfl) ?_
                      refine GoL.does rfl (Does.callE rfl call95 rfl (dng_moved (d := ((d.withG (d.s.gates.signal d.i.n d.choice (decide (d.i.op = 29))).2.2).pass d.i.n 0 (d.s.gates.signal d.i.n d.choice (decide (d.i.op = 29))).2.1)) (l := (d.s.gates.signal d.i.n d.choice (decide (d.i.op = 29))).1) (fun w h => ⟨(hk.glive w (signal_has w h)).1, ((hk.glive w (signal_has w h)).2.of (s' := (d.withG (d.s.gates.signal d.i.n d.choice (decide (d.i.op = 29))).2.2).s) rfl).pass (d := (d.withG (d.s.gates.signal d.i.n d.choice (decide (d.i.op = 29))).2.2)) ht hk.R signal_bd⟩) (fun w h => ⟨(hk.glive w (sigw w h)).1, ((hk.glive w (sigw w h)).2.of (s' := (d.withG (d.s.gates.signal d.i.n d.choice (decide (d.i.op = 29))).2.2).s) rfl).pass (d := (d.withG (d.s.gates.signal d.i.n d.choice (decide (d.i.op = 29))).2.2)) ht hk.R signal_bd⟩) (by show d.s.prg.mutexes ≤ ((d.s.gates.signal d.i.n d.choice (decide (d.i.op = 29))).2.2.mtx.length : Int); rw [signal_mlen]; exact hk.gsum) (by show ((d.s.gates.signal d.i.n d.choice (decide (d.i.op = 29))).2.2.mtx.length) ≤ _; rw [signal_mlen]; exact hk.gl.m) (fun x h => (signal_mtx hk.gsm.1 hk.gsm.2 x h).1) (by have := signal_len (c := d.i.n) (ch := d.choice) (all := decide (d.i.op = 29)) hk.gsm.2; have := hk.ends; have := hk.wok; exact ⟨by show d.ends.length + _ ≤ _; omega, by show d.out.woken.length + _ ≤ _; omega⟩)) .auto) ?_
                      rintro _ _ ⟨⟨⟩, -, rfl, rfl⟩
                      refine GoL.nil (GoE.block_normal ?_)
                      rw [show d.call = ((d.withG (d.s.gates.signal d.i.n d.choice (decide (d.i.op = 29))).2.2).pass d.i.n 0 (d.s.gates.signal d.i.n d.choice (decide (d.i.op = 29))).2.1).moved (d.s.gates.signal d.i.n d.choice (decide (d.i.op = 29))).1 from by unfold Dng.call; repeat (first | rw [if_neg (by omega)] | rw [if_pos (by omega)])]
                      refine GoE.end0 rfl fun w s => ⟨ps, ?_, trivial, finE .auto s⟩
                      rfl
                    · refine GoC.region ?_
                      refine GoL.y rfl (Y.eql rfl rfl) ?_
                      refine GoL.y rfl (Y.assign rfl) ?_
                      refine GoL.nil (GoE.then_normal ?_)
                      refine GoC.condD rfl (fun h78 => ?_) (fun h78 => ?_)
                      · refine GoC.seq ?_
                        refine GoC.o10 (C := spcX b ps (d).s) .auto rfl ?_
                        rintro fv sv pv bt vm bg vt bk bw vr -
                        refine GoC.draw [arr bd 0 (dngC b p d vw ve), arr b 0 (spcC fv sv pv d.s.prg bt ps vm bg vt bk bw vr)] [1, 1, 1, 1, 1, 1, 1, 1, 1, 1, 1, 1, 1, 1, 1, 1, 1, 1, 1, 1, 1, 1, 1, 3, 1, 1, 1, 1, 1] rfl (by kernel_rfl) ?_
                        refine GoK.s rfl (Y.move rfl) ?_
                        refine GoK.s rfl (Y.nilCheck rfl) ?_
                        refine GoK.s rfl (Y.fieldAddrZ 27 underlying138 rfl sizeOf27 rfl) ?_
                        refine GoK.s rfl (Y.load isAgg27 rfl (Cell.a (by rfl))) ?_
                        refine GoK.s rfl (Y.nilCheck rfl) ?_
                        refine GoK.s rfl (Y.fieldAddr0 26 108 underlying118 rfl sizeOf108 rfl) ?_
                        refine GoK.s rfl (Y.load isAgg108 rfl (Cell.a (by rfl))) ?_
                        refine GoK.s rfl (Y.move rfl) ?_
                        refine GoK.s rfl (Y.nilCheck rfl) ?_
                        refine GoK.s rfl (Y.fieldAddr0 3 123 underlying138 rfl sizeOf123 rfl) ?_
                        refine GoK.s rfl (Y.fieldAddr 4 43 underlying123 rfl sizeOf43 rfl) ?_
                        refine GoK.s rfl (Y.load isAgg43 rfl (Cell.a (by rfl))) ?_
                        refine GoK.s rfl (Y.convI underlying43 underlying3 rfl (by omega)) ?_
                        refine GoK.s rfl (Y.move rfl) ?_
                        refine GoK.s rfl (Y.nilCheck rfl) ?_
                        refine GoK.s rfl (Y.fieldAddr0 8 3 underlying138 rfl sizeOf3 rfl) ?_
                        refine GoK.s rfl (Y.load isAgg3 rfl (Cell.a (by rfl))) ?_
                        refine GoK.s rfl (Y.move rfl) ?_
                        refine GoK.s rfl (Y.nilCheck rfl) ?_
                        refine GoK.s rfl (Y.fieldAddr0 3 123 underlying138 rfl sizeOf123 rfl) ?_
                        refine GoK.s rfl (Y.fieldAddrZ 3 underlying123 rfl sizeOf3 rfl) ?_
                        refine GoK.s rfl (Y.load isAgg3 rfl (Cell.a (by rfl))) ?_
                        refine GoK.s rfl (Y.eql rfl rfl) ?_
                        refine GoK.d3 rfl (Does.callE rfl call94 rfl (gate_Signal hk.gl hk.gcnd) .auto) ?_
                        rintro _ _ ⟨u105, -, rfl, rfl⟩
                        refine GoK.s rfl (Y.move rfl) ?_
                        refine GoK.s rfl (Y.extract (v := u105) rfl rfl) ?_
                        refine GoK.s rfl (Y.extract (v := .int .i64 (d.s.gates.signal d.i.n d.choice (decide (d.i.op = 29))).2.1) rfl rfl) ?_
                        refine GoK.s rfl (Y.assign rfl) ?_
                        refine GoK.s rfl (Y.assign rfl) ?_
                        refine GoK.nil (GoE.then_normal (GoC.seq (GoC.region ?_)))
                        refine GoL.y rfl (Y.move rfl) ?_
                        refine GoL.y rfl (Y.move rfl) ?_
                        refine GoL.y rfl (Y.nilCheck rfl) ?_
                        refine GoL.y rfl (Y.fieldAddr0 3 123 underlying138 rfl sizeOf123 rfl) ?_
                        refine GoL.y rfl (Y.fieldAddr 4 43 underlying123 rfl sizeOf43 rfl) ?_
                        refine GoL.y rfl (Y.load isAgg43 rfl (Cell.a (by rfl))) ?_
                        refine GoL.y rfl (Y.move rfl) ?_
                        refine GoL.does rfl (Does.callE rfl call89 rfl (dng_pass (d := (d.withG (d.s.gates.signal d.i.n d.choice (decide (d.i.op = 29))).2.2)) hp ht (Nat.le_trans hk.recs (by decide)) signal_bd hk.R.l) .auto) ?_
                        rintro _ _ ⟨⟨⟩, -, rfl, rfl⟩
                        have sigw : ∀ w ∈ ((d.withG (d.s.gates.signal d.i.n d.choice (decide (d.i.op = 29))).2.2).pass d.i.n 0 (d.s.gates.signal d.i.n d.choice (decide (d.i.op = 29))).2.1).waits, d.s.gates.has w := fun w h => by
                          obtain ⟨x, hx, hw⟩ := List.mem_flatMap.1 h
                          obtain ⟨y, hy, rfl⟩ := List.mem_map.1 hw
                          exact (signal_mtx hk.gsm.1 hk.gsm.2 x (List.mem_of_mem_take hx)).2 y hy
                        refine GoL.nil (GoE.then_normal (GoC.region ?_))
                        refine GoL.y rfl (Y.move rfl) ?_
                        refine GoL.y rfl (Y.move rfl) ?_
                        refine GoL.does rfl (Does.callE rfl call95 rfl (dng_moved (d := ((d.withG (d.s.gates.signal d.i.n d.choice (decide (d.i.op = 29))).2.2).pass d.i.n 0 (d.s.gates.signal d.i.n d.choice (decide (d.i.op = 29))).2.1)) (l := (d.s.gates.signal d.i.n d.choice (decide (d.i.op = 29))).1) (fun w h => ⟨(hk.glive w (signal_has w h)).1, ((hk.glive w (signal_has w h)).2.of (s' := (d.withG (d.s.gates.signal d.i.n d.choice (decide (d.i.op = 29))).2.2).s) rfl).pass (d := (d.withG (d.s.gates.signal d.i.n d.choice (decide (d.i.op = 29))).2.2)) ht hk.R signal_bd⟩) (fun w h => ⟨(hk.glive w (sigw w h)).1, ((hk.glive w (sigw w h)).2.of (s' := (d.withG (d.s.gates.signal d.i.n d.choice (decide (d.i.op = 29))).2.2).s) rfl).pass (d := (d.withG (d.s.gates.signal d.i.n d.choice (decide (d.i.op = 29))).2.2)) ht hk.R signal_bd⟩) (by show d.s.prg.mutexes ≤ ((d.s.gates.signal d.i.n d.choice (decide (d.i.op = 29))).2.2.mtx.length : Int); rw [signal_mlen]; exact hk.gsum) (by show ((d.s.gates.signal d.i.n d.choice (decide (d.i.op = 29))).2.2.mtx.length) ≤ _; rw [signal_mlen]; exact hk.gl.m) (fun x h => (signal_mtx hk.gsm.1 hk.gsm.2 x h).1) (by have := signal_len (c := d.i.n) (ch := d.choice) (all := decide (d.i.op = 29)) hk.gsm.2; have := hk.ends; have := hk.wok; exact ⟨by show d.ends.length + _ ≤ _; omega, by show d.out.woken.length + _ ≤ _; omega⟩)) .auto) ?_
                        rintro _ _ ⟨⟨⟩, -, rfl, rfl⟩
                        refine GoL.nil (GoE.block_normal ?_)
                        rw [show d.call = ((d.withG (d.s.gates.signal d.i.n d.choice (decide (d.i.op = 29))).2.2).pass d.i.n 0 (d.s.gates.signal d.i.n d.choice (decide (d.i.op = 29))).2.1).moved (d.s.gates.signal d.i.n d.choice (decide (d.i.op = 29))).1 from by unfold Dng.call; repeat (first | rw [if_neg (by omega)] | rw [if_pos (by omega)])]
                        refine GoE.end0 rfl fun w s => ⟨ps, ?_, trivial, finE .auto s⟩
                        rfl
                      · refine GoC.seq (GoC.seq (GoC.region ?_))
                        refine GoL.y rfl (Y.eql rfl rfl) ?_
                        refine GoL.y rfl (Y.assign rfl) ?_
                        refine GoL.nil (GoE.then_normal ?_)
                        refine GoC.condD rfl (fun h119 => ?_) (fun h119 => ?_)
                        · refine GoC.skip (GoE.then_normal ?_)
                          first | refine GoC.condD rfl (fun _ => ?_) (fun hc => absurd h119 hc) | refine GoC.cond rfl (fun _ => ?_) (fun hc => by rw [h119] at hc; cases hc)
                          refine GoC.region ?_
                          refine GoL.y rfl (Y.move rfl) ?_
                          refine GoL.does rfl (Does.callE rfl call96 rfl (dng_sem hp ht hk) .auto) ?_
                          rintro _ _ ⟨⟨⟩, -, rfl, rfl⟩
                          refine GoL.nil (GoE.block_normal ?_)
                          rw [show d.call = d.sem from by unfold Dng.call; repeat (first | rw [if_neg (by omega)] | rw [if_pos (by omega)])]
                          refine GoE.end0 rfl fun w s => ⟨ps, ?_, trivial, finE .auto s⟩
                          rfl
                        · refine GoC.region ?_
                          refine GoL.y rfl (Y.eql rfl rfl) ?_
                          refine GoL.y rfl (Y.assign rfl) ?_
                          refine GoL.nil (GoE.then_normal ?_)
                          refine GoC.condD rfl (fun h119 => ?_) (fun h119 => ?_)
                          · refine GoC.region ?_
                            refine GoL.y rfl (Y.move rfl) ?_
                            refine GoL.does rfl (Does.callE rfl call96 rfl (dng_sem hp ht hk) .auto) ?_
                            rintro _ _ ⟨⟨⟩, -, rfl, rfl⟩
                            refine GoL.nil (GoE.block_normal ?_)
                            rw [show d.call = d.sem from by unfold Dng.call; repeat (first | rw [if_neg (by omega)] | rw [if_pos (by omega)])]
                            refine GoE.end0 rfl fun w s => ⟨ps, ?_, trivial, finE .auto s⟩
                            rfl
                          · refine GoC.region ?_
                            refine GoL.y rfl (Y.move rfl) ?_
                            refine GoL.does rfl (Does.callE rfl call97 rfl (dng_kernel hp ht hk) .auto) ?_
                            rintro _ _ ⟨⟨⟩, -, rfl, rfl⟩
                            refine GoL.nil (GoE.block_normal ?_)
                            rw [show d.call = d.kernel from by unfold Dng.call; repeat (first | rw [if_neg (by omega)] | rw [if_pos (by omega)])]
                            refine GoE.end0 rfl fun w s => ⟨ps, ?_, trivial, finE .auto s⟩
                            rfl

end Go.SLYtpcjdohmjmeehaaGreat
namespace Go.SLYtpcjdohmjmeehaaGreat
open Go Go.RowKit Go.Proofs Go.Proofs.Tryz

theorem next_codeH {W : World} {fv c1 c2 c3 c4 c5 c6 c7 : Value} {p : Prg} {f : Frm} (hl : p.funcs.length ≤ 1000000) (hl2 : ∀ g ∈ p.funcs, g.length ≤ 256) : Fn Tryz.prog W 60 [.agg #[fv, c1, c2, c3, c4, c5, c6, c7], .agg (frmE f).toArray] [codeH fv p.funcs] Unit (fun _ => nextR (nextI p f)) (fun _ => True) (fun _ => [codeH fv p.funcs]) :=
  Fn.byX1 fun fs hfs => frame_Next (A := seps [sl fstE 1 fv fs, allH (fun x => sl insE 5 x.1 x.2) fs]) (Rd.grp (Rd.sl .here)) (fun x hx => Rd.grp (rd_one (f := fun x : Value × List Ins => x.1) (g := fun x => x.2) hx (.there .here))) hfs (by rw [← List.length_map (f := (·.2)), hfs]; exact hl) (fun x hx => Nat.le_trans (hl2 _ (by rw [← hfs]; exact List.mem_map_of_mem hx)) (by decide))

set_option maxRecDepth 20000 in
theorem core_Run {W : World} {b : Nat} {s : Spc} {n choice : Int} (hO : SpcOk s) : Fn Tryz.prog W 17 [ptr b, .int .i64 n, .int .i64 choice] [spcH b s] Value (fun u => .tuple #[.agg (effE u (s.run n choice).1).toArray, .int .i64 (s.run n choice).2.1]) (fun _ => True) (fun u => [sl intE 1 u (s.run n choice).1.woken, spcH b (s.run n choice).2.2]) := by
  refine Fn.intro (N := 76) func17 rfl ntmps17 rfl fun F => ?_
  show GoC _ _ _ _ _ _ [spcH b s, F]
  refine GoC.o1 (C := spcH b s) .auto rfl ?_
  rintro ps -
  refine GoC.o10 (C := spcX b ps s) .auto rfl ?_
  rintro fv sv pv bt vm bg vt bk bw vr -
  refine GoC.know (fun w st => st.fact .auto thrs_same) fun hs => ?_
  refine GoC.seq (GoC.region ?_)
  refine GoL.does rfl (Does.alloc rfl zeroValue36 rfl) ?_
  rintro _ _ ⟨b6, rfl, rfl⟩
  refine GoL.y rfl (Y.assign rfl) ?_
  refine GoL.nil (GoE.then_normal (GoC.seq (GoC.region ?_)))
  refine GoL.y rfl (Y.move rfl) ?_
  refine GoL.y rfl (Y.move rfl) ?_
  refine GoL.does rfl (Does.callE rfl call59 rfl core_at .auto) ?_
  rintro _ _ ⟨⟨⟩, -, rfl, rfl⟩
  refine GoL.y rfl (Y.assign rfl) ?_
  refine GoL.nil (GoE.then_normal (GoC.seq (GoC.block (GoC.seq (GoC.region ?_)))))
  refine GoL.y rfl (Y.move rfl) ?_
  refine GoL.y rfl (Y.eqPtrNil underlying114 rfl rfl) ?_
  refine GoL.y rfl (Y.assign rfl) ?_
  refine GoL.nil (GoE.then_normal ?_)
  refine GoC.cond rfl (fun h15 => ?_) (fun h15 => ?_)
  · have hap : atP ps n = none := by
      cases hh : atP ps n with
      | none => rfl
      | some p => rw [hh] at h15; cases h15
    refine GoC.seq (GoC.region ?_)
    refine GoL.y rfl (Y.bld0 ([(.slice none 0 0), (.bool false), (.bool false), (.bool false)]) (by kernel_rfl)) ?_
    refine GoL.does rfl (Does.sta (by exact sizeOf36) rfl rfl rfl (by rfl)) ?_
    rintro _ _ ⟨rfl, rfl⟩
    refine GoL.y rfl (Y.assign rfl) ?_
    refine GoL.nil (GoE.then_normal (GoC.ret ?_))
    refine GoE.block_ret (GoE.then_ret ?_)
    rw [run_none (at_no hs hap hO.lt)]
    refine GoE.retCT rfl rfl isAgg36 (by exact sizeOf36) Cells.a rfl fun w s => ⟨(.slice none 0 0), ?_, trivial, finE .auto s⟩
    rfl
  · obtain ⟨p, hap⟩ : ∃ p, atP ps n = some p := by
      cases hh : atP ps n with
      | none => rw [hh] at h15; cases h15
      | some p => exact ⟨p, rfl⟩
    rw [hap]
    obtain ⟨k, t, rfl, hk16, hp, ht, hat⟩ := at_yes hs hap hO.lt
    have hR := (hO.R k t ht).1
    have hpc := (hO.R k t ht).2
    refine GoC.seq (GoC.region ?_)
    refine GoL.o10 (C := spcX b ps s) .auto rfl ?_
    rintro fv sv pv bt vm bg vt bk bw vr -
    refine GoL.fr .auto (thrs_out hp ht) ?_
    refine GoL.y rfl (Y.move rfl) ?_
    refine GoL.y rfl (Y.nilCheck rfl) ?_
    refine GoL.y rfl (Y.fieldAddr0 11 3 underlying133 rfl sizeOf3 rfl) ?_
    refine GoL.y rfl (Y.load isAgg3 rfl (Cell.a (by rfl))) ?_
    refine GoL.y rfl (Y.neq rfl rfl) ?_
    refine GoL.y rfl (Y.assign rfl) ?_
    refine GoL.nil (GoE.then_normal ?_)
    refine GoC.condD rfl (fun h19 => ?_) (fun h19 => ?_)
    · refine GoC.seq (GoC.region ?_)
      refine GoL.y rfl (Y.bld0 ([(.slice none 0 0), (.bool false), (.bool false), (.bool false)]) (by kernel_rfl)) ?_
      refine GoL.does rfl (Does.sta (by exact sizeOf36) rfl rfl rfl (by rfl)) ?_
      rintro _ _ ⟨rfl, rfl⟩
      refine GoL.y rfl (Y.assign rfl) ?_
      refine GoL.nil (GoE.then_normal (GoC.ret ?_))
      refine GoE.block_ret (GoE.then_ret ?_)
      refine GoE.to (A := thrsH ps s.thr) (Bs := [arr p 0 (thrC t), thrsH (ps.set k none) (s.thr.set k none)]) .auto (thrs_keep hp ht) ?_
      rw [run_wait hat h19]
      refine GoE.retCT rfl rfl isAgg36 (by exact sizeOf36) Cells.a rfl fun w s => ⟨(.slice none 0 0), ?_, trivial, finE .auto s⟩
      rfl
    · have hw0 : t.why = 0 := Decidable.not_not.mp h19
      refine GoC.skip ?_
      refine GoE.block_normal (GoE.then_normal (GoC.seq ?_))
      refine GoC.drawF [arr b 0 (spcC fv sv pv s.prg bt ps vm bg vt bk bw vr), arr p 0 (thrC t)] [0, 0, 0, 0, 0, 0, 0, 0, 2, 0, 0, 0, 4, 2, 0] [0, 1, 2, 3, 4, 5, 6, 7, 8, 9, 10, 11, 12, 13, 14] rfl (by kernel_rfl) ?_
      refine GoF.q rfl rfl rfl Kept.auto (Y.move rfl) ?_
      refine GoF.q rfl rfl rfl Kept.auto (Y.nilCheck rfl) ?_
      refine GoF.q rfl rfl rfl Kept.auto (Y.fieldAddrZ 25 underlying118 rfl sizeOf25 rfl) ?_
      refine GoF.q rfl rfl rfl Kept.auto (Y.lda isAgg25 rfl (Cells.part0 (ds := prgCells fv sv pv s.prg) (Cells.a (cs := spcC fv sv pv s.prg bt ps vm bg vt bk bw vr)) rfl) (by exact sizeOf25)) ?_
      refine GoF.q rfl rfl rfl Kept.auto (Y.move rfl) ?_
      refine GoF.q rfl rfl rfl Kept.auto (Y.nilCheck rfl) ?_
      refine GoF.q rfl rfl rfl Kept.auto (Y.fieldAddrZ 131 underlying133 rfl sizeOf131 rfl) ?_
      refine GoF.q rfl rfl rfl Kept.auto (Y.lda isAgg131 rfl (Cells.part0 (ds := frmE t.frm) (Cells.a (cs := thrC t)) rfl) (by exact sizeOf131)) ?_
      refine GoF.callE rfl (.inl rfl) rfl (fun _ => Kept.auto) call60 rfl (next_codeH (p := s.prg) (f := t.frm) hO.codel.1 hO.codel.2) .auto (fun _ _ => Kept.auto) ?_
      rintro ⟨⟩ -
      refine GoF.q rfl rfl rfl Kept.auto (Y.move rfl) ?_
      refine GoF.q rfl rfl rfl Kept.auto (Y.extract (v := .agg (insE ((nextI s.prg t.frm).getD Ins.z)).toArray) rfl rfl) ?_
      refine GoF.q rfl rfl rfl Kept.auto (Y.extract (v := .bool (nextI s.prg t.frm).isSome) rfl rfl) ?_
      refine GoF.fresh rfl rfl rfl (by decide) Kept.auto (fresh_alloc zeroValue123 rfl) ?_
      rintro b9
      refine GoF.sta2 rfl rfl (by exact sizeOf123) rfl rfl rfl (by rfl) Kept.auto Kept.auto ?_
      refine GoF.q rfl rfl rfl Kept.auto (Y.assign rfl) ?_
      refine GoF.nil ?_
      refine GoE.then_normal (GoC.seq (GoC.region ?_))
      refine GoL.y rfl (Y.move rfl) ?_
      refine GoL.y rfl (Y.move rfl) ?_
      refine GoL.y rfl (Y.move rfl) ?_
      refine GoL.y rfl (Y.lda isAgg123 rfl Cells.a (by exact sizeOf123)) ?_
      refine GoL.y rfl (Y.move rfl) ?_
      refine GoL.y rfl (Y.bld5 (fun _ _ _ _ _ => dngC b p (s.doing k ((nextI s.prg t.frm).getD Ins.z) choice) (.slice none 0 0) (.slice none 0 0)) rfl rfl rfl rfl rfl (by kernel_rfl)) ?_
      refine GoL.does rfl (Does.box rfl rfl rfl) ?_
      rintro _ _ ⟨b44, rfl, rfl⟩
      refine GoL.y rfl (Y.assign rfl) ?_
      refine GoL.nil (GoE.then_normal (GoC.seq (GoC.block (GoC.seq (GoC.region ?_)))))
      refine GoL.y rfl (Y.move rfl) ?_
      refine GoL.y rfl (Y.not rfl) ?_
      refine GoL.y rfl (Y.assign rfl) ?_
      refine GoL.nil (GoE.then_normal ?_)
      refine GoC.cond rfl (fun h56 => ?_) (fun h56 => ?_)
      · have hn : (nextI s.prg t.frm) = none := Option.isNone_iff_eq_none.mp (by simpa using h56)
        refine GoC.seq (GoC.region ?_)
        refine GoL.y rfl (Y.move rfl) ?_
        refine GoL.y rfl (Y.bld1 (fun v1 => [v1, (.int .i64 0), (.int .i64 0), (.int .i64 0), (.int .u64 0)]) rfl (by kernel_rfl)) ?_
        refine GoL.y rfl (Y.nilCheck rfl) ?_
        refine GoL.y rfl (Y.fieldAddr0 3 123 underlying138 rfl sizeOf123 rfl) ?_
        refine GoL.does rfl (Does.stp (vs := insE ⟨23, 0, 0, 0, 0⟩) (by exact sizeOf123) rfl rfl rfl rfl) ?_
        rintro _ _ ⟨rfl, rfl⟩
        rw [show setFrom (dngC b p (s.doing k ((nextI s.prg t.frm).getD Ins.z) choice) (.slice none 0 0) (.slice none 0 0)) 3 (insE ⟨23, 0, 0, 0, 0⟩) = dngC b p (s.doing k ⟨23, 0, 0, 0, 0⟩ choice) (.slice none 0 0) (.slice none 0 0) from rfl]
        refine GoL.nil (GoE.then_normal (GoC.seq (GoC.region ?_)))
        refine GoL.y rfl (Y.move rfl) ?_
        refine GoL.to (A := thrsH ps s.thr) (Bs := [arr p 0 (thrC t), thrsH (ps.set k none) (s.thr.set k none)]) .auto (thrs_keep hp ht) ?_
        refine GoL.does rfl (Does.callE rfl call61 rfl (dng_tell (d := (s.doing k ⟨23, 0, 0, 0, 0⟩ choice)) hp ht (Nat.le_trans hO.recs (by decide))) .auto) ?_
        rintro _ _ ⟨⟨⟩, -, rfl, rfl⟩
        refine GoL.nil (GoE.then_normal (GoC.region ?_))
        refine GoL.y rfl (Y.move rfl) ?_
        refine GoL.does rfl (Does.callE rfl call62 rfl (dng_fin (d := (s.doing k ⟨23, 0, 0, 0, 0⟩ choice).tell 0 0 0 true) hp ht hO.lt (hs.1.trans hO.lt) hO.T hR (Nat.zero_le _) (Nat.zero_le _) (hO.joins hs ht hw0)) .auto) ?_
        rintro _ _ ⟨qs, -, rfl, rfl⟩
        refine GoL.nil ?_
        refine GoE.block_normal (GoE.then_normal (GoC.seq (GoC.region ?_)))
        refine GoL.y rfl (Y.move rfl) ?_
        refine GoL.does rfl (Does.callE rfl call66 rfl (dng_finish (d := (((s.doing k ⟨23, 0, 0, 0, 0⟩ choice).tell 0 0 0 true).fin 0)) (Nat.le_trans (grew_tell.trans grew_fin).1 (by have := hO.recs; show s.recs.length + _ ≤ _; omega)) (Nat.le_trans (grew_tell.trans grew_fin).2 (by show 0 + _ ≤ _; decide))) .auto) ?_
        rintro _ _ ⟨u75, -, rfl, rfl⟩
        refine GoL.does rfl (Does.staS (vs := [.bool (((s.doing k ⟨23, 0, 0, 0, 0⟩ choice).tell 0 0 0 true).fin 0).finish.1.stopped, .bool (((s.doing k ⟨23, 0, 0, 0, 0⟩ choice).tell 0 0 0 true).fin 0).finish.1.ended, .bool (((s.doing k ⟨23, 0, 0, 0, 0⟩ choice).tell 0 0 0 true).fin 0).finish.1.yielded]) (by exact sizeOf36) rfl rfl rfl rfl) ?_
        rintro _ _ ⟨rfl, rfl⟩
        refine GoL.y rfl (Y.assign rfl) ?_
        refine GoL.nil (GoE.then_normal (GoC.ret ?_))
        rw [run_end hat h19 hn rfl]
        refine GoE.retCT rfl rfl isAgg36 (by exact sizeOf36) Cells.a rfl fun w s => ⟨u75, ?_, trivial, finE .auto s⟩
        rfl
      · obtain ⟨i, hn⟩ : ∃ i, (nextI s.prg t.frm) = some i := Option.isSome_iff_exists.mp (by simpa using h56)
        rw [show ((nextI s.prg t.frm).getD Ins.z) = i from by rw [hn]; rfl]
        obtain ⟨hI, hIn, hIt⟩ := next_code hO hn
        refine GoC.seq (GoC.region ?_)
        refine GoL.y rfl (Y.fieldAddrZ 3 underlying123 rfl sizeOf3 rfl) ?_
        refine GoL.y rfl (Y.load isAgg3 rfl (Cell.a (by rfl))) ?_
        refine GoL.does rfl (Does.callE rfl call63 rfl inst_Class .auto) ?_
        rintro _ _ ⟨⟨⟩, -, rfl, rfl⟩
        refine GoL.y rfl (Y.eql rfl rfl) ?_
        refine GoL.y rfl (Y.assign rfl) ?_
        refine GoL.nil (GoE.then_normal ?_)
        refine GoC.condD rfl (fun h67 => ?_) (fun h67 => ?_)
        · refine GoC.region ?_
          refine GoL.y rfl (Y.move rfl) ?_
          refine GoL.to (A := thrsH ps s.thr) (Bs := [arr p 0 (thrC t), thrsH (ps.set k none) (s.thr.set k none)]) .auto (thrs_keep hp ht) ?_
          refine GoL.does rfl (Does.callE rfl call64 rfl (dng_plain (d := (s.doing k i choice)) hp ht hI (hR.frm hpc) h67 hO.mem (Nat.le_trans hO.recs (by decide)) hO.lt (hs.1.trans hO.lt) hO.T hR (Nat.zero_le _) (Nat.zero_le _) (hO.joins hs ht hw0)) .auto) ?_
          rintro _ _ ⟨qs, -, rfl, rfl⟩
          refine GoL.nil ?_
          refine GoE.block_normal (GoE.then_normal (GoC.seq (GoC.region ?_)))
          refine GoL.y rfl (Y.move rfl) ?_
          refine GoL.does rfl (Does.callE rfl call66 rfl (dng_finish (d := (s.doing k i choice).plain) (Nat.le_trans (grew_plain).1 (by have := hO.recs; show s.recs.length + _ ≤ _; omega)) (Nat.le_trans (grew_plain).2 (by show 0 + _ ≤ _; decide))) .auto) ?_
          rintro _ _ ⟨u75, -, rfl, rfl⟩
          refine GoL.does rfl (Does.staS (vs := [.bool (s.doing k i choice).plain.finish.1.stopped, .bool (s.doing k i choice).plain.finish.1.ended, .bool (s.doing k i choice).plain.finish.1.yielded]) (by exact sizeOf36) rfl rfl rfl rfl) ?_
          rintro _ _ ⟨rfl, rfl⟩
          refine GoL.y rfl (Y.assign rfl) ?_
          refine GoL.nil (GoE.then_normal (GoC.ret ?_))
          rw [run_plain hat h19 hn h67 rfl]
          refine GoE.retCT rfl rfl isAgg36 (by exact sizeOf36) Cells.a rfl fun w s => ⟨u75, ?_, trivial, finE .auto s⟩
          rfl
        · refine GoC.seq (GoC.region ?_)
          refine GoL.y rfl (Y.move rfl) ?_
          refine GoL.y rfl (Y.nilCheck rfl) ?_
          refine GoL.y rfl (Y.fieldAddrZ 131 underlying133 rfl sizeOf131 rfl) ?_
          refine GoL.y rfl (Y.fieldAddr0 1 3 underlying131 rfl sizeOf3 rfl) ?_
          refine GoL.y rfl (Y.load isAgg3 rfl (Cell.a (by rfl))) ?_
          refine GoL.y rfl (Y.add rfl rfl (by omega)) ?_
          refine GoL.y rfl (Y.nilCheck rfl) ?_
          refine GoL.y rfl (Y.fieldAddrZ 131 underlying133 rfl sizeOf131 rfl) ?_
          refine GoL.y rfl (Y.fieldAddr0 1 3 underlying131 rfl sizeOf3 rfl) ?_
          refine GoL.does rfl (Does.st sizeOf3 rfl rfl rfl rfl) ?_
          rintro _ _ ⟨rfl, rfl⟩
          rw [thr_pc]
          refine GoL.nil (GoE.then_normal (GoC.region ?_))
          refine GoL.y rfl (Y.move rfl) ?_
          refine GoL.to (A := thrsH ps (s.thr.set k (some ({ t with pc := t.pc + 1 })))) (Bs := [arr p 0 (thrC ({ t with pc := t.pc + 1 })), thrsH (ps.set k none) (s.thr.set k none)]) .auto (thrs_shut (List.getElem?_eq_some_iff.1 ht).1 hp) ?_
          refine GoL.does rfl (Does.callE rfl call65 rfl (dng_call (d := ((s.doing k i choice).setT { t with pc := t.pc + 1 })) hp (setT_same ht) (hO.call hs ht hw0 hI (hIn h67) hIt)) .auto) ?_
          rintro _ _ ⟨qs, -, rfl, rfl⟩
          refine GoL.nil ?_
          refine GoE.block_normal (GoE.then_normal (GoC.seq (GoC.region ?_)))
          refine GoL.y rfl (Y.move rfl) ?_
          refine GoL.does rfl (Does.callE rfl call66 rfl (dng_finish (d := ((s.doing k i choice).setT { t with pc := t.pc + 1 }).call) (Nat.le_trans (grew_call hO.gsm.2).1 (by have := hO.recs; show s.recs.length + _ ≤ _; omega)) (Nat.le_trans (grew_call hO.gsm.2).2 (by show 0 + _ ≤ _; decide))) .auto) ?_
          rintro _ _ ⟨u75, -, rfl, rfl⟩
          refine GoL.does rfl (Does.staS (vs := [.bool ((s.doing k i choice).setT { t with pc := t.pc + 1 }).call.finish.1.stopped, .bool ((s.doing k i choice).setT { t with pc := t.pc + 1 }).call.finish.1.ended, .bool ((s.doing k i choice).setT { t with pc := t.pc + 1 }).call.finish.1.yielded]) (by exact sizeOf36) rfl rfl rfl rfl) ?_
          rintro _ _ ⟨rfl, rfl⟩
          refine GoL.y rfl (Y.assign rfl) ?_
          refine GoL.nil (GoE.then_normal (GoC.ret ?_))
          rw [run_call hat h19 hn h67 rfl]
          refine GoE.retCT rfl rfl isAgg36 (by exact sizeOf36) Cells.a rfl fun w s => ⟨u75, ?_, trivial, finE .auto s⟩
          rfl

end Go.SLYtpcjdohmjmeehaaGreat
