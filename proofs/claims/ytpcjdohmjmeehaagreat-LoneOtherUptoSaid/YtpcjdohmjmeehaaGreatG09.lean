/- Walks of functions, and what they compute. Conditions: none, this text proves no statement. -/
import Derived.Test.YtpcjdohmjmeehaaGreatG05
import Derived.Test.YtpcjdohmjmeehaaGreatProg
import Derived.Test.YtpcjdohmjmeehaaGreatG08
import Derived.Test.YtpcjdohmjmeehaaGreatG03
import Derived.KernelRfl
import Derived.Test.YtpcjdohmjmeehaaGreatG04
import Derived.Test.YtpcjdohmjmeehaaGreatG07
namespace Go.SLYtpcjdohmjmeehaaGreat
open Go Go.RowKit Go.Proofs Go.Proofs.Tryz

set_option maxRecDepth 20000 in
theorem dng_aP {W : World} {bd b p : Nat} {d : Dng} {t : Thr} {vw ve : Value} (ht : d.s.thr[d.n]? = some (some t)) (hI : 0 ≤ d.i.a ∧ d.i.a < 8) : Fn Tryz.prog W 92 [ptr bd] [arr bd 0 (dngC b p d vw ve), arr p 0 (thrC t)] Unit (fun _ => .int .u64 d.a) (fun _ => True) (fun _ => [arr bd 0 (dngC b p d vw ve), arr p 0 (thrC t)]) := by
  refine Fn.intro (N := 17) func92 rfl ntmps92 rfl fun F => ?_
  show GoC _ _ _ _ _ _ [arr bd 0 (dngC b p d vw ve), arr p 0 (thrC t), F]
  refine .s (.r (.p (.a rfl) (.n (.t (.s ?_)))))
  refine .draw [] [1, 1, 1, 1, 1, 1, 1, 1, 1, 1, 1, 1, 1, 1, 1] rfl (by kernel_rfl) ?_
  refine .p (.m rfl) (.p (.n rfl) (.p (.f rfl) (.p (.l rfl) (.p (.m rfl) ?_))))
  refine .p (.n rfl) (.p (.f rfl) (.p (.o rfl) (.p (.l rfl) ?_)))
  refine .p (.n rfl) (.p (.z rfl) (.p (.f rfl) ?_))
  refine .p (.ixArr d.i.a.toNat underlying57 sizeOf43 rfl rfl (by omega) (by omega)) ?_
  refine .p (.ld rfl (Cell.a (thr_get (by omega)))) ?_
  refine .p (.a rfl) (.n (.t (.e (.ret1 rfl rfl fun w s => ⟨(), ?_, trivial, finE .auto s⟩))))
  rw [show d.a = t.regs.getD d.i.a.toNat 0 from by unfold Dng.a; rw [dng_t ht]; rfl]

set_option maxRecDepth 20000 in
theorem dng_bP {W : World} {bd b p : Nat} {d : Dng} {t : Thr} {vw ve : Value} (ht : d.s.thr[d.n]? = some (some t)) (hI : 0 ≤ d.i.b ∧ d.i.b < 8) : Fn Tryz.prog W 119 [ptr bd] [arr bd 0 (dngC b p d vw ve), arr p 0 (thrC t)] Unit (fun _ => .int .u64 d.b) (fun _ => True) (fun _ => [arr bd 0 (dngC b p d vw ve), arr p 0 (thrC t)]) := by
  refine Fn.intro (N := 17) func119 rfl ntmps119 rfl fun F => ?_
  show GoC _ _ _ _ _ _ [arr bd 0 (dngC b p d vw ve), arr p 0 (thrC t), F]
  refine .s (.r (.p (.a rfl) (.n (.t (.s ?_)))))
  refine .draw [] [1, 1, 1, 1, 1, 1, 1, 1, 1, 1, 1, 1, 1, 1, 1] rfl (by kernel_rfl) ?_
  refine .p (.m rfl) (.p (.n rfl) (.p (.f rfl) (.p (.l rfl) (.p (.m rfl) ?_))))
  refine .p (.n rfl) (.p (.f rfl) (.p (.o rfl) (.p (.l rfl) ?_)))
  refine .p (.n rfl) (.p (.z rfl) (.p (.f rfl) ?_))
  refine .p (.ixArr d.i.b.toNat underlying57 sizeOf43 rfl rfl (by omega) (by omega)) ?_
  refine .p (.ld rfl (Cell.a (thr_get (by omega)))) ?_
  refine .p (.a rfl) (.n (.t (.e (.ret1 rfl rfl fun w s => ⟨(), ?_, trivial, finE .auto s⟩))))
  rw [show d.b = t.regs.getD d.i.b.toNat 0 from by unfold Dng.b; rw [dng_t ht]; rfl]

set_option maxRecDepth 20000 in
theorem dng_sem {W : World} {bd b p : Nat} {ps : List (Option Nat)} {d : Dng} {t : Thr} (hp : ps[d.n]? = some (some p)) (ht : d.s.thr[d.n]? = some (some t)) (hk : CallOk ps d t) : Fn Tryz.prog W 96 [ptr bd] [dngX bd b p ps d] Unit (fun _ => .tuple #[]) (fun _ => True) (fun _ => [dngX bd b p ps (d.sem)]) := by
  refine Fn.intro (N := 86) func96 rfl ntmps96 rfl fun F => ?_
  show GoC _ _ _ _ _ _ [dngX bd b p ps d, F]
  refine .o2 (C := dngX bd b p ps (d)) .auto rfl ?_
  rintro vw ve -
  refine .o10 (C := spcX b ps (d).s) .auto rfl ?_
  rintro fv sv pv bt vm bg vt bk bw vr -
  have hnn := hk.nn
  have hn0 := hk.I.n
  refine .s (.r (.p (.m rfl) (.p (.n rfl) (.p (.f rfl) (.p (.o rfl) (.p (.l rfl) ?_))))))
  refine .p (.convI underlying43 underlying3 rfl (by omega)) ?_
  refine .p (.a rfl) (.n (.t (.s (.s (.r (.p (.m rfl) (.p (.n rfl) (.p (.f rfl) (.p (.z rfl) (.p (.l rfl) (.p (.eql rfl rfl) (.n (.t (.condD rfl (fun h19 => ?_) (fun h19 => ?_)))))))))))))))
  · refine .s ?_
    refine .draw [arr bd 0 (dngC b p d vw ve), arr b 0 (spcC fv sv pv d.s.prg bt ps vm bg vt bk bw vr)] [1, 1, 1, 1, 1, 1, 1, 1, 1, 1, 1, 1, 3, 1, 1, 1, 1, 1, 1, 1] rfl (by kernel_rfl) ?_
    refine .p (.m rfl) (.p (.n rfl) (.p (.z rfl) (.p (.l rfl) ?_)))
    refine .p (.n rfl) (.p (.f rfl) (.p (.l rfl) (.p (.m rfl) (.p (.m rfl) ?_))))
    refine .p (.n rfl) (.p (.f rfl) (.p (.l rfl) ?_))
    refine .d3 rfl (Does.callE rfl call130 rfl (gate_Up hk.gl hk.gsem) .auto) ?_
    rintro _ _ ⟨⟨⟩, -, rfl, rfl⟩
    refine .p (.m rfl) ?_
    refine .p (.extract (v := .int .i64 (d.s.gates.up d.i.n d.choice).1) rfl rfl) ?_
    refine .p (.extract (v := .bool (d.s.gates.up d.i.n d.choice).2.1) rfl rfl) ?_
    refine .p (.extract (v := .int .i64 (d.s.gates.up d.i.n d.choice).2.2.1) rfl rfl) ?_
    refine .p (.a rfl) (.p (.a rfl) (.p (.a rfl) (.n (.t (.s (.r (.p (.m rfl) (.p (.m rfl) (.p (.n rfl) (.p (.f rfl) (.p (.o rfl) (.p (.l rfl) (.p (.m rfl) ?_)))))))))))))
    refine .does rfl (Does.callE rfl call89 rfl (dng_pass (d := d.withG (d.s.gates.up d.i.n d.choice).2.2.2) hp ht (Nat.le_trans hk.recs (by decide)) up_bd hk.R.l) .auto) ?_
    rintro _ _ ⟨⟨⟩, -, rfl, rfl⟩
    refine .n (.t (.s (.r (.p (.m rfl) (.p (.m rfl) (.p (.m rfl) ?_))))))
    refine .does rfl (Does.callE rfl call124 rfl (dng_given (n := (d.s.gates.up d.i.n d.choice).1) (ok := (d.s.gates.up d.i.n d.choice).2.1) (d := ((d.withG (d.s.gates.up d.i.n d.choice).2.2.2).pass d.i.n 0 (d.s.gates.up d.i.n d.choice).2.2.1)) (fun h => ⟨(hk.glive _ (up_has h)).1, ((hk.glive _ (up_has h)).2.of (s' := (d.withG (d.s.gates.up d.i.n d.choice).2.2.2).s) rfl).pass (d := d.withG (d.s.gates.up d.i.n d.choice).2.2.2) ht hk.R up_bd⟩) (Nat.le_trans hk.ends (by decide)) (Nat.le_trans hk.wok (by decide))) .auto) ?_
    rintro _ _ ⟨⟨⟩, -, rfl, rfl⟩
    refine .n (.t (.e (.tr ?_)))
    rw [show d.sem = ((d.withG (d.s.gates.up d.i.n d.choice).2.2.2).pass d.i.n 0 (d.s.gates.up d.i.n d.choice).2.2.1).given (d.s.gates.up d.i.n d.choice).1 (d.s.gates.up d.i.n d.choice).2.1 from by unfold Dng.sem; rw [if_pos h19]]
    refine .ret0 rfl fun w s => ⟨(), ?_, trivial, finE .auto s⟩
    rfl
  · refine .v (.t (.s ?_))
    refine .draw [arr bd 0 (dngC b p d vw ve), arr b 0 (spcC fv sv pv d.s.prg bt ps vm bg vt bk bw vr)] [1, 1, 1, 1, 1, 1, 1, 1, 1, 1, 1, 1, 3, 1, 1, 1, 1, 1] rfl (by kernel_rfl) ?_
    refine .p (.m rfl) (.p (.n rfl) (.p (.z rfl) (.p (.l rfl) ?_)))
    refine .p (.n rfl) (.p (.f rfl) (.p (.l rfl) (.p (.m rfl) ?_)))
    refine .p (.n rfl) (.p (.f rfl) (.p (.l rfl) (.p (.m rfl) ?_)))
    refine .d3 rfl (Does.callE rfl call131 rfl (gate_Down hk.gl hk.gsem) .auto) ?_
    rintro _ _ ⟨⟨⟩, -, rfl, rfl⟩
    refine .p (.m rfl) ?_
    refine .p (.extract (v := .bool (d.s.gates.down d.n d.i.n).1) rfl rfl) ?_
    refine .p (.extract (v := .int .i64 (d.s.gates.down d.n d.i.n).2.1) rfl rfl) ?_
    refine .p (.a rfl) (.p (.a rfl) (.n (.t (.s (.s (.r (.p (.m rfl) (.p (.eql rfl rfl) (.p (.m rfl) ?_)))))))))
    apply GoL.segAD 3 70 67 [67, 68, 69, 70] rfl
    · intro h67
      refine .g (.m rfl) (.g (.not rfl) (.p (.t rfl rfl) (.n ?_)))
      refine .seg .auto rfl (by first | exact fun _ h => h | exact Ent.kept .auto)
    · intro h67
      refine .u (.u (.p (.u rfl rfl) (.n ?_)))
      refine .seg .auto rfl (by first | exact fun _ h => h | exact Ent.kept .auto)
    refine .n (.t (.cond rfl (fun h70 => ?_) (fun h70 => ?_)))
    · simp only [Bool.and_eq_true, decide_eq_true_eq, Bool.not_eq_true'] at h70
      refine .s (.r (.p (.m rfl) (.p (.m rfl) (.p (.n rfl) (.p (.f rfl) (.p (.o rfl) (.p (.l rfl) ?_)))))))
      refine .does rfl (Does.callE rfl call121 rfl (dng_block (d := d.withG (d.s.gates.down d.n d.i.n).2.2) hp ht (Nat.le_trans hk.recs (by decide))) .auto) ?_
      rintro _ _ ⟨⟨⟩, -, rfl, rfl⟩
      refine .n (.t (.e (.tr ?_)))
      rw [show d.sem = (d.withG (d.s.gates.down d.n d.i.n).2.2).block 3 (-1) d.i.n 0 from by unfold Dng.sem; rw [if_neg h19]; simp only; rw [if_pos h70]]
      refine .ret0 rfl fun w s => ⟨(), ?_, trivial, finE .auto s⟩
      rfl
    · simp only [Bool.and_eq_false_iff, decide_eq_false_iff_not, Bool.not_eq_false'] at h70
      refine .v (.t (.r (.p (.m rfl) (.p (.m rfl) (.p (.n rfl) (.p (.f rfl) (.p (.o rfl) (.p (.l rfl) (.p (.m rfl) ?_)))))))))
      refine .does rfl (Does.callE rfl call89 rfl (dng_pass (d := d.withG (d.s.gates.down d.n d.i.n).2.2) hp ht (Nat.le_trans hk.recs (by decide)) down_bd hk.R.l) .auto) ?_
      rintro _ _ ⟨⟨⟩, -, rfl, rfl⟩
      refine .n ?_
      rw [show d.sem = (d.withG (d.s.gates.down d.n d.i.n).2.2).pass d.i.n 0 (d.s.gates.down d.n d.i.n).2.1 from by unfold Dng.sem; rw [if_neg h19]; simp only; rw [if_neg (by rintro ⟨a, b⟩; rcases h70 with h | h; exact h a; rw [b] at h; cases h)]]
      refine .end0 rfl fun w s => ⟨(), ?_, trivial, finE .auto s⟩
      rfl

set_option maxRecDepth 20000 in
theorem dng_mutex {W : World} {bd b p : Nat} {ps : List (Option Nat)} {d : Dng} {t : Thr} (hp : ps[d.n]? = some (some p)) (ht : d.s.thr[d.n]? = some (some t)) (hk : CallOk ps d t) : Fn Tryz.prog W 93 [ptr bd] [dngX bd b p ps d] Unit (fun _ => .tuple #[]) (fun _ => True) (fun _ => [dngX bd b p ps (d.mutex)]) := by
  refine Fn.intro (N := 155) func93 rfl ntmps93 rfl fun F => ?_
  show GoC _ _ _ _ _ _ [dngX bd b p ps d, F]
  refine .o2 (C := dngX bd b p ps (d)) .auto rfl ?_
  rintro vw ve -
  refine .o10 (C := spcX b ps (d).s) .auto rfl ?_
  rintro fv sv pv bt vm bg vt bk bw vr -
  have hnn := hk.nn
  have hn0 := hk.I.n
  have hIc := hk.I.c
  have hwc := w64_id hIc
  refine .s (.r (.p (.m rfl) (.p (.n rfl) (.p (.f rfl) (.p (.o rfl) (.p (.l rfl) ?_))))))
  refine .p (.convI underlying43 underlying3 rfl (by omega)) ?_
  refine .p (.a rfl) (.n (.t (.s (.r (.p (.m rfl) (.p (.n rfl) (.p (.f rfl) (.p (.z rfl) (.p (.l rfl) (.n (.t (.b (.s (.r (.p (.eql rfl rfl) (.p (.a rfl) (.n (.t (.condD rfl (fun h81 => ?_) (fun h81 => ?_))))))))))))))))))))
  · refine .s ?_
    refine .draw [arr bd 0 (dngC b p d vw ve), arr b 0 (spcC fv sv pv d.s.prg bt ps vm bg vt bk bw vr)] [1, 1, 1, 1, 1, 1, 1, 1, 1, 1, 1, 1, 3, 1, 1, 1, 1, 1] rfl (by kernel_rfl) ?_
    refine .p (.m rfl) (.p (.n rfl) (.p (.z rfl) (.p (.l rfl) ?_)))
    refine .p (.n rfl) (.p (.f rfl) (.p (.l rfl) (.p (.m rfl) ?_)))
    refine .p (.n rfl) (.p (.f rfl) (.p (.l rfl) (.p (.m rfl) ?_)))
    refine .d3 rfl (Does.callE rfl call122 rfl (gate_Lock hk.gl) .auto) ?_
    rintro _ _ ⟨⟨⟩, -, rfl, rfl⟩
    refine .p (.m rfl) ?_
    refine .p (.extract (v := .bool (d.s.gates.lock d.n d.i.n).1) rfl rfl) ?_
    refine .p (.extract (v := .int .i64 (d.s.gates.lock d.n d.i.n).2.1) rfl rfl) ?_
    refine .p (.a rfl) (.p (.a rfl) (.n (.t (.s (.s (.r (.p (.m rfl) (.p (.eql rfl rfl) (.p (.m rfl) ?_)))))))))
    apply GoL.segAD 3 104 101 [101, 102, 103, 104] rfl
    · intro h101
      refine .g (.m rfl) (.g (.not rfl) (.p (.t rfl rfl) (.n ?_)))
      refine .seg .auto rfl (by first | exact fun _ h => h | exact Ent.kept .auto)
    · intro h101
      refine .u (.u (.p (.u rfl rfl) (.n ?_)))
      refine .seg .auto rfl (by first | exact fun _ h => h | exact Ent.kept .auto)
    refine .n (.t (.cond rfl (fun h104 => ?_) (fun h104 => ?_)))
    · simp only [Bool.and_eq_true, decide_eq_true_eq, Bool.not_eq_true'] at h104
      refine .s (.r (.p (.m rfl) (.p (.m rfl) (.p (.n rfl) (.p (.f rfl) (.p (.o rfl) (.p (.l rfl) ?_)))))))
      refine .does rfl (Does.callE rfl call121 rfl (dng_block (d := d.withG (d.s.gates.lock d.n d.i.n).2.2) hp ht (Nat.le_trans hk.recs (by decide))) .auto) ?_
      rintro _ _ ⟨⟨⟩, -, rfl, rfl⟩
      refine .n (.t (.e (.tr (.br ?_))))
      rw [show d.mutex = (d.withG (d.s.gates.lock d.n d.i.n).2.2).block 1 (-1) d.i.n 0 from by unfold Dng.mutex; simp only; rw [if_pos h81, if_pos h104]]
      refine .ret0 rfl fun w s => ⟨(), ?_, trivial, finE .auto s⟩
      rfl
    · simp only [Bool.and_eq_false_iff, decide_eq_false_iff_not, Bool.not_eq_false'] at h104
      refine .v (.t (.r (.p (.m rfl) (.p (.m rfl) (.p (.n rfl) (.p (.f rfl) (.p (.o rfl) (.p (.l rfl) (.p (.m rfl) ?_)))))))))
      refine .does rfl (Does.callE rfl call89 rfl (dng_pass (d := d.withG (d.s.gates.lock d.n d.i.n).2.2) hp ht (Nat.le_trans hk.recs (by decide)) lock_bd hk.R.l) .auto) ?_
      rintro _ _ ⟨⟨⟩, -, rfl, rfl⟩
      refine .n (.b ?_)
      rw [show d.mutex = (d.withG (d.s.gates.lock d.n d.i.n).2.2).pass d.i.n 0 (d.s.gates.lock d.n d.i.n).2.1 from by unfold Dng.mutex; simp only; rw [if_pos h81, if_neg (by rintro ⟨a, b⟩; rcases h104 with h | h; exact h a; rw [b] at h; cases h)]]
      refine .end0 rfl fun w s => ⟨(), ?_, trivial, finE .auto s⟩
      rfl
  · refine .s (.r (.p (.eql rfl rfl) (.p (.a rfl) (.n (.t (.condD rfl (fun h120 => ?_) (fun h120 => ?_)))))))
    · refine .s ?_
      refine .draw [arr bd 0 (dngC b p d vw ve), arr b 0 (spcC fv sv pv d.s.prg bt ps vm bg vt bk bw vr)] [1, 1, 1, 1, 1, 1, 1, 1, 1, 1, 1, 1, 1, 1, 1, 1, 3, 1, 1, 1, 1, 1, 1, 1] rfl (by kernel_rfl) ?_
      refine .p (.m rfl) (.p (.n rfl) (.p (.z rfl) (.p (.l rfl) ?_)))
      refine .p (.n rfl) (.p (.f rfl) (.p (.l rfl) (.p (.m rfl) ?_)))
      refine .p (.n rfl) (.p (.f rfl) (.p (.l rfl) (.p (.m rfl) (.p (.m rfl) ?_))))
      refine .p (.n rfl) (.p (.f rfl) (.p (.l rfl) ?_))
      refine .d3 rfl (Does.callE rfl call123 rfl (gate_Unlock hk.gl) .auto) ?_
      rintro _ _ ⟨⟨⟩, -, rfl, rfl⟩
      refine .p (.m rfl) ?_
      refine .p (.extract (v := .int .i64 (d.s.gates.unlock d.n d.i.n d.choice).1) rfl rfl) ?_
      refine .p (.extract (v := .bool (d.s.gates.unlock d.n d.i.n d.choice).2.1) rfl rfl) ?_
      refine .p (.extract (v := .int .i64 (d.s.gates.unlock d.n d.i.n d.choice).2.2.1) rfl rfl) ?_
      refine .p (.a rfl) (.p (.a rfl) (.p (.a rfl) (.n (.t (.s (.r (.p (.m rfl) (.p (.m rfl) (.p (.n rfl) (.p (.f rfl) (.p (.o rfl) (.p (.l rfl) (.p (.m rfl) ?_)))))))))))))
      refine .does rfl (Does.callE rfl call89 rfl (dng_pass (d := d.withG (d.s.gates.unlock d.n d.i.n d.choice).2.2.2) hp ht (Nat.le_trans hk.recs (by decide)) unlock_bd hk.R.l) .auto) ?_
      rintro _ _ ⟨⟨⟩, -, rfl, rfl⟩
      refine .n (.t (.r (.p (.m rfl) (.p (.m rfl) (.p (.m rfl) ?_)))))
      refine .does rfl (Does.callE rfl call124 rfl (dng_given (n := (d.s.gates.unlock d.n d.i.n d.choice).1) (ok := (d.s.gates.unlock d.n d.i.n d.choice).2.1) (d := ((d.withG (d.s.gates.unlock d.n d.i.n d.choice).2.2.2).pass d.i.n 0 (d.s.gates.unlock d.n d.i.n d.choice).2.2.1)) (fun h => ⟨(hk.glive _ (unlock_has h)).1, ((hk.glive _ (unlock_has h)).2.of (s' := (d.withG (d.s.gates.unlock d.n d.i.n d.choice).2.2.2).s) rfl).pass (d := d.withG (d.s.gates.unlock d.n d.i.n d.choice).2.2.2) ht hk.R unlock_bd⟩) (Nat.le_trans hk.ends (by decide)) (Nat.le_trans hk.wok (by decide))) .auto) ?_
      rintro _ _ ⟨⟨⟩, -, rfl, rfl⟩
      refine .n (.b ?_)
      rw [show d.mutex = ((d.withG (d.s.gates.unlock d.n d.i.n d.choice).2.2.2).pass d.i.n 0 (d.s.gates.unlock d.n d.i.n d.choice).2.2.1).given (d.s.gates.unlock d.n d.i.n d.choice).1 (d.s.gates.unlock d.n d.i.n d.choice).2.1 from by unfold Dng.mutex; simp only; rw [if_neg h81, if_pos h120]]
      refine .end0 rfl fun w s => ⟨(), ?_, trivial, finE .auto s⟩
      rfl
    · refine .s ?_
      refine .draw [arr bd 0 (dngC b p d vw ve), arr b 0 (spcC fv sv pv d.s.prg bt ps vm bg vt bk bw vr)] [1, 1, 1, 1, 1, 1, 1, 1, 1, 1, 1, 1, 1, 1, 1, 1, 1, 1, 1, 1, 1, 3, 1, 1, 1, 1, 1, 1, 1] rfl (by kernel_rfl) ?_
      refine .p (.m rfl) (.p (.n rfl) (.p (.z rfl) (.p (.l rfl) ?_)))
      refine .p (.n rfl) (.p (.f rfl) (.p (.l rfl) (.p (.m rfl) ?_)))
      refine .p (.n rfl) (.p (.f rfl) (.p (.l rfl) (.p (.m rfl) (.p (.m rfl) ?_))))
      refine .p (.n rfl) (.p (.f rfl) (.p (.o rfl) (.p (.l rfl) (.p (.m rfl) ?_))))
      refine .p (.n rfl) (.p (.f rfl) (.p (.l rfl) ?_))
      refine .d3 rfl (Does.callE rfl call125 rfl (gate_Wait hk.gl) .auto) ?_
      rintro _ _ ⟨⟨⟩, -, rfl, rfl⟩
      refine .p (.m rfl) ?_
      refine .p (.extract (v := .int .i64 (d.s.gates.wait d.n d.i.n d.i.c d.choice).1) rfl rfl) ?_
      refine .p (.extract (v := .bool (d.s.gates.wait d.n d.i.n d.i.c d.choice).2.1) rfl rfl) ?_
      refine .p (.extract (v := .int .i64 (d.s.gates.wait d.n d.i.n d.i.c d.choice).2.2.1) rfl rfl) ?_
      refine .p (.a rfl) (.p (.a rfl) (.p (.a rfl) (.n (.t (.s (.s (.r (.p (.m rfl) (.p (.neq rfl rfl) (.n (.t (.condD rfl (fun h48 => ?_) (fun h48 => ?_)))))))))))))
      · refine .s ?_
        refine .draw [] [1, 1, 1, 1, 1, 1, 1, 1, 1, 1, 1, 1, 1, 3] rfl (by kernel_rfl) ?_
        refine .p (.m rfl) (.p (.m rfl) (.p (.n rfl) (.p (.f rfl) (.p (.o rfl) (.p (.l rfl) (.p (.m rfl) ?_))))))
        refine .p (.n rfl) (.p (.f rfl) (.p (.o rfl) (.p (.l rfl) ?_)))
        refine .p (.convU underlying3 underlying43 rfl (by omega)) ?_
        refine .p (.m rfl) ?_
        refine .d3 rfl (Does.callE rfl call89 rfl (dng_pass (d := d.withG (d.s.gates.wait d.n d.i.n d.i.c d.choice).2.2.2) hp ht (Nat.le_trans hk.recs (by decide)) wait_bd hk.R.l) .auto) ?_
        rintro _ _ ⟨⟨⟩, -, rfl, rfl⟩
        refine .n (.t (.e (.tr (.br ?_))))
        rw [show d.mutex = (d.withG (d.s.gates.wait d.n d.i.n d.i.c d.choice).2.2.2).pass d.i.n d.i.c (d.s.gates.wait d.n d.i.n d.i.c d.choice).2.2.1 from by unfold Dng.mutex; simp only; rw [if_neg h81, if_neg h120, if_pos h48, hwc]]
        refine .ret0 rfl fun w s => ⟨(), ?_, trivial, finE .auto s⟩
        rfl
      · refine .v (.t (.s ?_))
        refine .draw [] [1, 1, 1, 1, 1, 1, 1, 1, 1, 1, 1, 1, 3] rfl (by kernel_rfl) ?_
        refine .p (.m rfl) (.p (.m rfl) (.p (.n rfl) (.p (.f rfl) (.p (.o rfl) (.p (.l rfl) (.p (.m rfl) ?_))))))
        refine .p (.n rfl) (.p (.f rfl) (.p (.o rfl) (.p (.l rfl) ?_)))
        refine .p (.convU underlying3 underlying43 rfl (by omega)) ?_
        refine .d3 rfl (Does.callE rfl call121 rfl (dng_block (d := d.withG (d.s.gates.wait d.n d.i.n d.i.c d.choice).2.2.2) hp ht (Nat.le_trans hk.recs (by decide))) .auto) ?_
        rintro _ _ ⟨⟨⟩, -, rfl, rfl⟩
        refine .n (.t (.r (.p (.m rfl) (.p (.m rfl) (.p (.m rfl) ?_)))))
        refine .does rfl (Does.callE rfl call124 rfl (dng_given (n := (d.s.gates.wait d.n d.i.n d.i.c d.choice).1) (ok := (d.s.gates.wait d.n d.i.n d.i.c d.choice).2.1) (d := ((d.withG (d.s.gates.wait d.n d.i.n d.i.c d.choice).2.2.2).block 2 (-1) d.i.n d.i.c)) (fun h => ⟨(hk.glive _ (wait_has h)).1, ((hk.glive _ (wait_has h)).2.of (s' := (d.withG (d.s.gates.wait d.n d.i.n d.i.c d.choice).2.2.2).s) rfl).block (d := d.withG (d.s.gates.wait d.n d.i.n d.i.c d.choice).2.2.2) ht hk.R (by decide)⟩) (Nat.le_trans hk.ends (by decide)) (Nat.le_trans hk.wok (by decide))) .auto) ?_
        rintro _ _ ⟨⟨⟩, -, rfl, rfl⟩
        refine .n (.b ?_)
        rw [show d.mutex = ((d.withG (d.s.gates.wait d.n d.i.n d.i.c d.choice).2.2.2).block 2 (-1) d.i.n d.i.c).given (d.s.gates.wait d.n d.i.n d.i.c d.choice).1 (d.s.gates.wait d.n d.i.n d.i.c d.choice).2.1 from by unfold Dng.mutex; simp only; rw [if_neg h81, if_neg h120, if_neg h48, hwc]]
        refine .end0 rfl fun w s => ⟨(), ?_, trivial, finE .auto s⟩
        rfl

end Go.SLYtpcjdohmjmeehaaGreat
namespace Go.SLYtpcjdohmjmeehaaGreat
open Go Go.RowKit Go.Proofs Go.Proofs.Tryz

set_option maxRecDepth 20000 in
theorem dng_put {W : World} {bd b p : Nat} {ps : List (Option Nat)} {d : Dng} {t : Thr} (hp : ps[d.n]? = some (some p)) (ht : d.s.thr[d.n]? = some (some t)) (hk : CallOk ps d t) (hop : d.i.op = 35 ∨ d.i.op = 36) : Fn Tryz.prog W 133 [ptr bd] [dngX bd b p ps d] Unit (fun _ => .tuple #[]) (fun _ => True) (fun _ => [dngX bd b p ps (d.put)]) := by
  refine Fn.intro (N := 57) func133 rfl ntmps133 rfl fun F => ?_
  show GoC _ _ _ _ _ _ [dngX bd b p ps d, F]
  refine .o2 (C := dngX bd b p ps (d)) .auto rfl ?_
  rintro vw ve -
  refine .o10 (C := spcX b ps (d).s) .auto rfl ?_
  rintro fv sv pv bt vm bg vt bk bw vr -
  have hnn := hk.nn
  have hn0 := hk.I.n
  refine .o1 (C := tubsH vt d.s.tubes) .auto rfl ?_
  rintro xs hxs
  obtain ⟨xq, hx, hmem⟩ := tube_at hxs hn0.1 (hk.tub hop)
  have hxl : xs.length = d.s.tubes.length := by rw [← hxs, List.length_map]
  have hti := hk.tub hop
  refine .fr .auto (thrs_out hp ht) ?_
  refine .s ?_
  refine .draw [] [1, 1, 1, 1, 1, 1, 1, 1, 1, 1, 1, 1, 1, 1, 1] rfl (by kernel_rfl) ?_
  refine .p (.m rfl) (.p (.n rfl) (.p (.z rfl) (.p (.l rfl) ?_)))
  refine .p (.n rfl) (.p (.f rfl) (.p (.l rfl) (.p (.m rfl) ?_)))
  refine .p (.n rfl) (.p (.f rfl) (.p (.o rfl) (.p (.l rfl) ?_)))
  refine .p (.ix d.i.n.toNat rfl rfl (by omega) (by omega)) ?_
  refine .p (.lr rfl hx) ?_
  refine .p (.a rfl) (.n (.t (.s (.r (.p (.m rfl) ?_)))))
  refine .does rfl (Does.callE rfl call92 rfl (dng_aP ht hk.I.a) .auto) ?_
  rintro _ _ ⟨⟨⟩, -, rfl, rfl⟩
  refine .p (.a rfl) (.n (.t (.s (.r ?_))))
  obtain ⟨x, hx0⟩ : ∃ x, x = d.a := ⟨_, rfl⟩
  rw [← hx0]
  refine .p (.m rfl) (.p (.m rfl) (.p (.n rfl) (.p (.f rfl) (.p (.l rfl) (.p (.m rfl) ?_)))))
  refine .fr .auto (allH_out (f := fun x : Nat × Tub => tubH x.1 x.2) hx) ?_
  refine .does rfl (Does.callE rfl call162 rfl (tube_Put (hk.tl _ hmem)) .auto) ?_
  rintro _ _ ⟨⟨⟩, -, rfl, rfl⟩
  refine .to (A := tubsH vt (d.s.tubes.set d.i.n.toNat (d.tube.put d.n x).2.2.2)) (Bs := [sl ptrE 1 vt xs, tubH xq (d.tube.put d.n x).2.2.2, allH (fun x : Nat × Tub => tubH x.1 x.2) (xs.eraseIdx d.i.n.toNat)]) .auto (tubs_in hx hxs (d.tube.put d.n x).2.2.2) ?_
  refine .to (A := thrsH ps d.s.thr) (Bs := [arr p 0 (thrC t), thrsH (ps.set d.n none) (d.s.thr.set d.n none)]) .auto (thrs_keep hp ht) ?_
  refine .p (.m rfl) ?_
  refine .p (.extract (v := .bool (d.tube.put d.n x).1) rfl rfl) ?_
  refine .p (.extract (v := .int .i64 (d.tube.put d.n x).2.1) rfl rfl) ?_
  refine .p (.extract (v := .bool (d.tube.put d.n x).2.2.1) rfl rfl) ?_
  refine .p (.a rfl) (.p (.a rfl) (.p (.a rfl) (.n (.t (.s (.s (.r (.p (.m rfl) (.p (.not rfl) (.n (.t (.cond rfl (fun h35 => ?_) (fun h35 => ?_)))))))))))))
  · refine .s (.r (.p (.m rfl) (.p (.m rfl) (.p (.n rfl) (.p (.f rfl) (.p (.o rfl) (.p (.l rfl) (.p (.m rfl) ?_))))))))
    refine .does rfl (Does.callE rfl call121 rfl (dng_block (d := (d.withU d.i.n.toNat (d.tube.put d.n x).2.2.2)) hp ht (Nat.le_trans hk.recs (by decide))) .auto) ?_
    rintro _ _ ⟨⟨⟩, -, rfl, rfl⟩
    refine .n (.t (.e (.tr ?_)))
    rw [show d.put = (d.withU d.i.n.toNat (d.tube.put d.n x).2.2.2).block 7 (-1) d.i.n x from by unfold Dng.put; rw [← hx0]; simp only; rw [if_pos (by simpa using h35)]]
    refine .ret0 rfl fun w s => ⟨(), ?_, trivial, finE .auto s⟩
    rfl
  · refine .v (.t (.s (.r (.p (.m rfl) (.p (.m rfl) (.p (.n rfl) (.p (.f rfl) (.p (.o rfl) (.p (.l rfl) (.p (.m rfl) ?_))))))))))
    refine .does rfl (Does.callE rfl call89 rfl (dng_pass (d := (d.withU d.i.n.toNat (d.tube.put d.n x).2.2.2)) hp ht (Nat.le_trans hk.recs (by decide)) (by decide) hk.R.l) .auto) ?_
    rintro _ _ ⟨⟨⟩, -, rfl, rfl⟩
    refine .n (.t (.s (.r (.p (.m rfl) (.n (.t (.cond rfl (fun h52 => ?_) (fun h52 => ?_))))))))
    · have hlv := (hk.tlive _ hmem).1 _ (put_live h52)
      obtain ⟨hw16, q, u, hq, hu, hRu⟩ := (hlv.2.of (s' := (d.withU d.i.n.toNat (d.tube.put d.n x).2.2.2).s) rfl).pass (x := d.i.n) (y := x) (e := 0) (d := (d.withU d.i.n.toNat (d.tube.put d.n x).2.2.2)) ht hk.R (by decide)
      refine .r (.p (.m rfl) (.p (.m rfl) (.p (.m rfl) ?_)))
      refine .does rfl (Does.callE rfl call86 rfl (dng_goesI (d := (d.withU d.i.n.toNat (d.tube.put d.n x).2.2.2).pass d.i.n x 0) hlv.1 hq hu hw16 hRu (Nat.le_trans hk.ends (by decide)) (Nat.le_trans hk.wok (by decide))) .auto) ?_
      rintro _ _ ⟨⟨⟩, -, rfl, rfl⟩
      refine .n ?_
      rw [show d.put = ((d.withU d.i.n.toNat (d.tube.put d.n x).2.2.2).pass d.i.n x 0).goes (d.tube.put d.n x).2.1.toNat x from by unfold Dng.put; rw [← hx0]; simp only; rw [if_neg (by simpa using h35), if_pos h52]]
      refine .end0 rfl fun w s => ⟨(), ?_, trivial, finE .auto s⟩
      rfl
    · refine .v ?_
      rw [show d.put = (d.withU d.i.n.toNat (d.tube.put d.n x).2.2.2).pass d.i.n x 0 from by unfold Dng.put; rw [← hx0]; simp only; rw [if_neg (by simpa using h35), if_neg (by rw [h52]; simp)]]
      refine .end0 rfl fun w s => ⟨(), ?_, trivial, finE .auto s⟩
      rfl

set_option maxRecDepth 20000 in
theorem dng_get {W : World} {bd b p : Nat} {ps : List (Option Nat)} {d : Dng} {t : Thr} (hp : ps[d.n]? = some (some p)) (ht : d.s.thr[d.n]? = some (some t)) (hk : CallOk ps d t) (hop : d.i.op = 35 ∨ d.i.op = 36) : Fn Tryz.prog W 134 [ptr bd] [dngX bd b p ps d] Unit (fun _ => .tuple #[]) (fun _ => True) (fun _ => [dngX bd b p ps (d.get)]) := by
  refine Fn.intro (N := 70) func134 rfl ntmps134 rfl fun F => ?_
  show GoC _ _ _ _ _ _ [dngX bd b p ps d, F]
  refine .o2 (C := dngX bd b p ps (d)) .auto rfl ?_
  rintro vw ve -
  refine .o10 (C := spcX b ps (d).s) .auto rfl ?_
  rintro fv sv pv bt vm bg vt bk bw vr -
  have hnn := hk.nn
  have hn0 := hk.I.n
  refine .o1 (C := tubsH vt d.s.tubes) .auto rfl ?_
  rintro xs hxs
  obtain ⟨xq, hx, hmem⟩ := tube_at hxs hn0.1 (hk.tub hop)
  have hxl : xs.length = d.s.tubes.length := by rw [← hxs, List.length_map]
  have hti := hk.tub hop
  have hIa := hk.I.a
  have hRl := hk.R.l
  refine .s ?_
  refine .fr .auto (allH_out (f := fun x : Nat × Tub => tubH x.1 x.2) hx) ?_
  refine .draw [arr bd 0 (dngC b p d vw ve), arr b 0 (spcC fv sv pv d.s.prg bt ps vm bg vt bk bw vr), sl ptrE 1 vt xs] [1, 1, 1, 1, 1, 1, 1, 1, 1, 1, 1, 1, 1, 1, 1, 1, 1, 1, 3, 1, 1, 1, 1, 1, 1, 1, 1, 1] rfl (by kernel_rfl) ?_
  refine .p (.m rfl) (.p (.n rfl) (.p (.z rfl) (.p (.l rfl) ?_)))
  refine .p (.n rfl) (.p (.f rfl) (.p (.l rfl) (.p (.m rfl) ?_)))
  refine .p (.n rfl) (.p (.f rfl) (.p (.o rfl) (.p (.l rfl) ?_)))
  refine .p (.ix d.i.n.toNat rfl rfl (by omega) (by omega)) ?_
  refine .p (.lr rfl hx) ?_
  refine .p (.m rfl) (.p (.n rfl) (.p (.f rfl) (.p (.l rfl) ?_)))
  refine .d3 rfl (Does.callE rfl call163 rfl (tube_Get (hk.tl _ hmem)) .auto) ?_
  rintro _ _ ⟨⟨⟩, -, rfl, rfl⟩
  refine .p (.m rfl) ?_
  refine .p (.extract (v := .int .u64 (d.tube.get d.n).1) rfl rfl) ?_
  refine .p (.extract (v := .bool (d.tube.get d.n).2.1) rfl rfl) ?_
  refine .p (.extract (v := .int .i64 (d.tube.get d.n).2.2.1) rfl rfl) ?_
  refine .p (.extract (v := .bool (d.tube.get d.n).2.2.2.1) rfl rfl) ?_
  refine .p (.a rfl) (.p (.a rfl) (.p (.a rfl) (.p (.a rfl) (.n (.t (.s (.s (.r (.p (.m rfl) (.p (.not rfl) (.n (.t (.cond rfl (fun h31 => ?_) (fun h31 => ?_))))))))))))))
  · refine .s ?_
    refine .to (A := tubsH vt (d.s.tubes.set d.i.n.toNat (d.tube.get d.n).2.2.2.2)) (Bs := [sl ptrE 1 vt xs, tubH xq (d.tube.get d.n).2.2.2.2, allH (fun x : Nat × Tub => tubH x.1 x.2) (xs.eraseIdx d.i.n.toNat)]) .auto (tubs_in hx hxs (d.tube.get d.n).2.2.2.2) ?_
    refine .draw [] [1, 1, 1, 1, 1, 1, 1, 1, 1, 1, 1, 3] rfl (by kernel_rfl) ?_
    refine .p (.m rfl) (.p (.m rfl) (.p (.n rfl) (.p (.f rfl) (.p (.o rfl) (.p (.l rfl) (.p (.m rfl) ?_))))))
    refine .p (.n rfl) (.p (.f rfl) (.p (.o rfl) (.p (.l rfl) ?_)))
    refine .d3 rfl (Does.callE rfl call121 rfl (dng_block (d := (d.withU d.i.n.toNat (d.tube.get d.n).2.2.2.2)) hp ht (Nat.le_trans hk.recs (by decide))) .auto) ?_
    rintro _ _ ⟨⟨⟩, -, rfl, rfl⟩
    refine .n (.t (.e (.tr ?_)))
    rw [show d.get = (d.withU d.i.n.toNat (d.tube.get d.n).2.2.2.2).block 6 d.i.a d.i.n 0 from by unfold Dng.get; simp only; rw [if_pos (by simpa using h31)]]
    refine .ret0 rfl fun w s => ⟨(), ?_, trivial, finE .auto s⟩
    rfl
  · refine .v (.t (.s ?_))
    refine .to (A := tubsH vt (d.s.tubes.set d.i.n.toNat (d.tube.get d.n).2.2.2.2)) (Bs := [sl ptrE 1 vt xs, tubH xq (d.tube.get d.n).2.2.2.2, allH (fun x : Nat × Tub => tubH x.1 x.2) (xs.eraseIdx d.i.n.toNat)]) .auto (tubs_in hx hxs (d.tube.get d.n).2.2.2.2) ?_
    refine .fr .auto (thrs_out hp ht) ?_
    refine .draw [arr bd 0 (dngC b p d vw ve)] [1, 1, 1, 1, 1, 1, 1, 1, 1, 1, 1, 1, 1, 1, 3] rfl (by kernel_rfl) ?_
    refine .p (.m rfl) (.p (.n rfl) (.p (.f rfl) (.p (.l rfl) (.p (.m rfl) ?_))))
    refine .p (.n rfl) (.p (.f rfl) (.p (.o rfl) (.p (.l rfl) (.p (.m rfl) ?_))))
    refine .p (.n rfl) (.p (.z rfl) (.p (.f rfl) ?_))
    refine .p (.ixArr d.i.a.toNat underlying57 sizeOf43 rfl rfl (by omega) (by omega)) ?_
    refine .d3 rfl (Does.st sizeOf43 rfl rfl rfl (Nat.blt_eq.mpr (by show 2 + d.i.a.toNat * 1 < 18; omega))) ?_
    rintro _ _ ⟨rfl, rfl⟩
    rw [thr_setI _ (by omega) (by omega) hRl]
    refine .to (A := thrsH ps (d.s.thr.set d.n (some (t.put d.i.a (d.tube.get d.n).1)))) (Bs := [arr p 0 (thrC (t.put d.i.a (d.tube.get d.n).1)), thrsH (ps.set d.n none) (d.s.thr.set d.n none)]) .auto (thrs_shut (List.getElem?_eq_some_iff.1 ht).1 hp) ?_
    refine .n (.t (.s (.r (.p (.m rfl) (.p (.m rfl) (.p (.n rfl) (.p (.f rfl) (.p (.o rfl) (.p (.l rfl) (.p (.m rfl) ?_))))))))))
    refine .does rfl (Does.callE rfl call89 rfl (dng_pass (d := ((d.withU d.i.n.toNat (d.tube.get d.n).2.2.2.2).setT (t.put d.i.a (d.tube.get d.n).1))) (t := t.put d.i.a (d.tube.get d.n).1) hp (setT_same ht) (Nat.le_trans hk.recs (by decide)) (by decide) (by rw [put_len]; exact hRl)) .auto) ?_
    rintro _ _ ⟨⟨⟩, -, rfl, rfl⟩
    refine .n (.t (.s (.r (.p (.m rfl) (.n (.t (.cond rfl (fun h66 => ?_) (fun h66 => ?_))))))))
    · obtain ⟨z, hz, hzw⟩ := get_live h66
      have hlv := (hk.tlive _ hmem).2 z hz
      rw [hzw] at hlv
      have hRg := hk.R.put (i := d.i.a) (get_word (who := d.n) (hk.tw _ hmem))
      obtain ⟨hw16, q, u, hq, hu, hRu⟩ := ((hlv.2.of (s' := (d.withU d.i.n.toNat (d.tube.get d.n).2.2.2.2).s) rfl).setT (n := d.n) hRg).pass (x := d.i.n) (y := (d.tube.get d.n).1) (e := 0) (d := ((d.withU d.i.n.toNat (d.tube.get d.n).2.2.2.2).setT (t.put d.i.a (d.tube.get d.n).1))) (setT_same ht) hRg (by decide)
      refine .r (.p (.m rfl) (.p (.m rfl) ?_))
      refine .does rfl (Does.callE rfl call86 rfl (dng_goesI (d := ((d.withU d.i.n.toNat (d.tube.get d.n).2.2.2.2).setT (t.put d.i.a (d.tube.get d.n).1)).pass d.i.n (d.tube.get d.n).1 0) hlv.1 hq hu hw16 hRu (Nat.le_trans hk.ends (by decide)) (Nat.le_trans hk.wok (by decide))) .auto) ?_
      rintro _ _ ⟨⟨⟩, -, rfl, rfl⟩
      refine .n ?_
      rw [show d.get = (((d.withU d.i.n.toNat (d.tube.get d.n).2.2.2.2).setT (t.put d.i.a (d.tube.get d.n).1)).pass d.i.n (d.tube.get d.n).1 0).goes (d.tube.get d.n).2.2.1.toNat 0 from by unfold Dng.get; simp only; rw [if_neg (by simpa using h31), if_pos h66, show (d.withU d.i.n.toNat (d.tube.get d.n).2.2.2.2).t = t from dng_t ht]]
      refine .end0 rfl fun w s => ⟨(), ?_, trivial, finE .auto s⟩
      rfl
    · refine .v ?_
      rw [show d.get = ((d.withU d.i.n.toNat (d.tube.get d.n).2.2.2.2).setT (t.put d.i.a (d.tube.get d.n).1)).pass d.i.n (d.tube.get d.n).1 0 from by unfold Dng.get; simp only; rw [if_neg (by simpa using h31), if_neg (by rw [h66]; simp), show (d.withU d.i.n.toNat (d.tube.get d.n).2.2.2.2).t = t from dng_t ht]]
      refine .end0 rfl fun w s => ⟨(), ?_, trivial, finE .auto s⟩
      rfl

end Go.SLYtpcjdohmjmeehaaGreat
namespace Go.SLYtpcjdohmjmeehaaGreat
open Go Go.RowKit Go.Proofs Go.Proofs.Tryz

set_option maxRecDepth 20000 in
theorem dng_spawn {W : World} {bd b p : Nat} {ps : List (Option Nat)} {d : Dng} {t : Thr} (hp : ps[d.n]? = some (some p)) (ht : d.s.thr[d.n]? = some (some t)) (hk : CallOk ps d t) : Fn Tryz.prog W 88 [ptr bd] [dngX bd b p ps d] (List (Option Nat)) (fun _ => .tuple #[]) (fun _ => True) (fun qs => [dngX bd b p qs d.spawn]) := by
  refine Fn.intro (N := 70) func88 rfl ntmps88 rfl fun F => ?_
  show GoC _ _ _ _ _ _ [dngX bd b p ps d, F]
  refine .o2 (C := dngX bd b p ps (d)) .auto rfl ?_
  rintro vw ve -
  refine .o10 (C := spcX b ps (d).s) .auto rfl ?_
  rintro fv sv pv bt vm bg vt bk bw vr -
  have hnn := hk.nn
  have hn0 := hk.I.n
  refine .fr .auto (thrs_out hp ht) ?_
  have hIa := hk.I.a
  have hRl := hk.R.l
  have hlt := hk.lt
  refine .s ?_
  refine .draw [arr bd 0 (dngC b p d vw ve)] [0, 0, 0, 0, 0, 0, 0, 0, 0, 0, 1, 2, 3, 1, 1, 1, 1, 1] rfl (by kernel_rfl) ?_
  refine .q (.m rfl) (.q (.n rfl) (.q (.z rfl) (.q (.l rfl) (.q (.m rfl) ?_))))
  refine .q (.n rfl) (.q (.f rfl) (.q (.o rfl) (.q (.l rfl) ?_)))
  refine .q (.convI underlying43 underlying3 rfl (by omega)) ?_
  refine .p (.m rfl) ?_
  refine .d2 rfl Kept.auto (Does.callE rfl call119 rfl (dng_bP ht hk.I.b) .auto) (by rintro _ _ ⟨⟨⟩, -, rfl, rfl⟩; exact Kept.auto) ?_
  rintro _ _ ⟨⟨⟩, -, rfl, rfl⟩
  refine .to (A := thrsH ps d.s.thr) (Bs := [arr p 0 (thrC t), thrsH (ps.set d.n none) (d.s.thr.set d.n none)]) .auto (thrs_keep hp ht) ?_
  refine .d3 rfl (Does.callE rfl call57 rfl (core_begin hk.T hk.lt hk.free) .auto) ?_
  rintro _ _ ⟨qs, ⟨q, hqs⟩, rfl, rfl⟩
  refine .p (.m rfl) ?_
  refine .p (.extract (v := .int .i64 (d.s.begin d.i.n d.b).1) rfl rfl) ?_
  refine .p (.extract (v := .int .i64 (d.s.begin d.i.n d.b).2.1) rfl rfl) ?_
  refine .p (.a rfl) (.p (.a rfl) (.n (.t (.s (.r (.p (.a rfl) (.n (.t (.s (.s (.r (.p (.m rfl) (.p (.eql rfl rfl) (.n (.t (.condD rfl (fun h22 => ?_) (fun h22 => ?_)))))))))))))))))
  · obtain ⟨n, hfr⟩ : ∃ n, slotFree? d.s.table 0 = some n := by
      cases hh : slotFree? d.s.table 0 with
      | none => rw [begin_no hh] at h22; cases h22
      | some n => exact ⟨n, rfl⟩
    have hb1 : (d.s.begin d.i.n d.b).1 = (n : Int) := by rw [begin_ok hfr]
    have hn0e := hk.free n hfr
    have hn16 : n < 16 := hlt ▸ (List.getElem?_eq_some_iff.1 hn0e).1
    obtain ⟨t1, ht1, ht1e⟩ := spawn_thr (f := d.i.n) (arg := d.b) hfr (by omega)
    have hqn : qs[n]? = some (some q) := by
      rw [hqs]; unfold psBegin; rw [hfr]; exact List.getElem?_set_self (by rw [hk.lp]; exact hn16)
    have hne : n ≠ d.n := fun e => by rw [e, ht] at hn0e; cases hn0e
    have hp2 : qs[d.n]? = some (some p) := by
      rw [hqs]; unfold psBegin; rw [hfr]; exact (List.getElem?_set_ne hne).trans hp
    have ht2 : (d.s.begin d.i.n d.b).2.2.thr[d.n]? = some (some t) := by
      rw [begin_ok hfr]; exact (List.getElem?_set_ne hne).trans ht
    rw [hb1]
    refine .s (.r ?_)
    refine .o10 (C := spcX b qs (d.s.begin d.i.n d.b).2.2) .auto rfl ?_
    rintro fv sv pv bt vm bg vt bk bw vr -
    refine .fr .auto (thrs_out hqn ht1) ?_
    refine .p (.m rfl) (.p (.n rfl) (.p (.z rfl) (.p (.l rfl) (.p (.m rfl) ?_))))
    refine .p (.n rfl) (.p (.f rfl) ?_)
    refine .p (.ixArr n underlying115 sizeOf114 rfl rfl rfl hn16) ?_
    refine .p (.ld rfl (Cell.a (by rw [Nat.mul_one, spcC_get hn16, getD_of hqn]))) ?_
    refine .p (.n rfl) (.p (.f rfl) (.p (.l rfl) (.p (.a rfl) (.n (.t (.r (.p (.m rfl) (.p (.m rfl) ?_))))))))
    refine .p (.n rfl) (.p (.f rfl) (.p (.z rfl) (.p (.l rfl) (.p (.m rfl) ?_))))
    refine .does rfl (Does.bsl 3 rfl rfl (by kernel_rfl)) ?_
    rintro _ _ ⟨b42, rfl, rfl⟩
    refine .does rfl (Does.app1 (enc := intE) (k := 1) (n : Int) rfl underlying23 underlying23 typeInfo3 rfl rfl rfl (by decide) rfl rfl rfl .auto rfl .auto (by have := hk.wok; omega) rfl) ?_
    rintro _ _ ⟨v43, rfl, rfl⟩
    refine .p (.n rfl) (.p (.f rfl) (.p (.z rfl) ?_))
    refine .does rfl (Does.stS sizeOf23 rfl rfl rfl) ?_
    rintro _ _ ⟨rfl, rfl⟩
    refine .n (.t (.s ?_))
    refine .to (A := thrsH qs (d.s.begin d.i.n d.b).2.2.thr) (Bs := [arr q 0 (thrC t1), thrsH (qs.set n none) ((d.s.begin d.i.n d.b).2.2.thr.set n none)]) .auto (thrs_keep hqn ht1) ?_
    refine .fr .auto (thrs_out hp2 ht2) ?_
    refine .draw [arr bd 0 (dngC b p d v43 ve)] [1, 1, 1, 1, 1, 1, 1, 1, 1, 1, 1, 1, 1, 1, 3] rfl (by kernel_rfl) ?_
    refine .p (.m rfl) (.p (.n rfl) (.p (.f rfl) (.p (.l rfl) (.p (.m rfl) ?_))))
    refine .p (.n rfl) (.p (.f rfl) (.p (.o rfl) (.p (.l rfl) (.p (.m rfl) ?_))))
    refine .p (.n rfl) (.p (.z rfl) (.p (.f rfl) ?_))
    refine .p (.ixArr d.i.a.toNat underlying57 sizeOf43 rfl rfl (by omega) (by omega)) ?_
    refine .d3 rfl (Does.st sizeOf43 rfl rfl rfl (Nat.blt_eq.mpr (by show 2 + d.i.a.toNat * 1 < 18; omega))) ?_
    rintro _ _ ⟨rfl, rfl⟩
    rw [thr_setI _ (by omega) (by omega) hRl]
    refine .to (A := thrsH qs ((d.s.begin d.i.n d.b).2.2.thr.set d.n (some (t.put d.i.a t1.handle)))) (Bs := [arr p 0 (thrC (t.put d.i.a t1.handle)), thrsH (qs.set d.n none) ((d.s.begin d.i.n d.b).2.2.thr.set d.n none)]) .auto (thrs_shut (List.getElem?_eq_some_iff.1 ht2).1 hp2) ?_
    refine .n (.t (.r (.p (.m rfl) (.p (.m rfl) (.p (.n rfl) (.p (.f rfl) (.p (.o rfl) (.p (.l rfl) (.p (.m rfl) (.p (.m rfl) ?_))))))))))
    refine .does rfl (Does.callE rfl call89 rfl (dng_pass (d := ({ d with s := (d.s.begin d.i.n d.b).2.2, out := { d.out with woken := d.out.woken ++ [(n : Int)] } } : Dng).setT (t.put d.i.a t1.handle)) (ps := qs) (p := p) (t := t.put d.i.a t1.handle) hp2 (setT_same ht2) (by show (d.s.begin d.i.n d.b).2.2.recs.length ≤ _; rw [begin_ok hfr]; exact (Nat.le_trans hk.recs (by decide))) (by rw [h22]; decide) (by rw [put_len]; exact hRl)) .auto) ?_
    rintro _ _ ⟨⟨⟩, -, rfl, rfl⟩
    refine .n ?_
    rw [show d.spawn = (({ d with s := (d.s.begin d.i.n d.b).2.2, out := { d.out with woken := d.out.woken ++ [(n : Int)] } } : Dng).setT (t.put d.i.a t1.handle)).pass d.i.n t1.handle (d.s.begin d.i.n d.b).2.1 from by unfold Dng.spawn; simp only; rw [if_pos h22, if_pos h22, hb1, Int.toNat_natCast, spc_t ht1, show ({ d with s := (d.s.begin d.i.n d.b).2.2, out := { d.out with woken := d.out.woken ++ [(n : Int)] } } : Dng).t = t from spc_t ht2]]
    refine .end0 rfl fun w s => ⟨qs, ?_, trivial, finE .auto s⟩
    rfl
  · have hfr : slotFree? d.s.table 0 = none := by
      cases hh : slotFree? d.s.table 0 with
      | none => rfl
      | some n => exact absurd (by rw [begin_ok hh]) h22
    have hb : (d.s.begin d.i.n d.b) = (0, 2, d.s) := begin_no hfr
    obtain rfl : qs = ps := by rw [hqs]; unfold psBegin; rw [hfr]
    rw [hb]
    have hp2 := hp
    have ht2 := ht
    refine .to (A := spcX b qs d.s) (Bs := [spcX b qs d.s]) .auto (fun h a => by simpa only [seps, sep_emp] using a) ?_
    refine .o10 (C := spcX b qs d.s) .auto rfl ?_
    rintro fv sv pv bt vm bg vt bk bw vr -
    refine .fr .auto (thrs_out hp2 ht2) ?_
    refine .v (.t (.s ?_))
    refine .draw [arr bd 0 (dngC b p d vw ve)] [1, 1, 1, 1, 1, 1, 1, 1, 1, 1, 1, 1, 1, 1, 3] rfl (by kernel_rfl) ?_
    refine .p (.m rfl) (.p (.n rfl) (.p (.f rfl) (.p (.l rfl) (.p (.m rfl) ?_))))
    refine .p (.n rfl) (.p (.f rfl) (.p (.o rfl) (.p (.l rfl) (.p (.m rfl) ?_))))
    refine .p (.n rfl) (.p (.z rfl) (.p (.f rfl) ?_))
    refine .p (.ixArr d.i.a.toNat underlying57 sizeOf43 rfl rfl (by omega) (by omega)) ?_
    refine .d3 rfl (Does.st sizeOf43 rfl rfl rfl (Nat.blt_eq.mpr (by show 2 + d.i.a.toNat * 1 < 18; omega))) ?_
    rintro _ _ ⟨rfl, rfl⟩
    rw [thr_setI _ (by omega) (by omega) hRl]
    refine .to (A := thrsH qs (d.s.thr.set d.n (some (t.put d.i.a 0)))) (Bs := [arr p 0 (thrC (t.put d.i.a 0)), thrsH (qs.set d.n none) (d.s.thr.set d.n none)]) .auto (thrs_shut (List.getElem?_eq_some_iff.1 ht2).1 hp2) ?_
    refine .n (.t (.r (.p (.m rfl) (.p (.m rfl) (.p (.n rfl) (.p (.f rfl) (.p (.o rfl) (.p (.l rfl) (.p (.m rfl) (.p (.m rfl) ?_))))))))))
    refine .does rfl (Does.callE rfl call89 rfl (dng_pass (d := d.setT (t.put d.i.a 0)) (ps := qs) (p := p) (t := t.put d.i.a 0) (e := 2) hp2 (setT_same ht2) (Nat.le_trans hk.recs (by decide)) (by decide) (by rw [put_len]; exact hRl)) .auto) ?_
    rintro _ _ ⟨⟨⟩, -, rfl, rfl⟩
    refine .n ?_
    rw [show d.spawn = (d.setT (t.put d.i.a 0)).pass d.i.n 0 2 from by unfold Dng.spawn; rw [hb]; simp only; rw [if_neg (by decide), if_neg (by decide), dng_t ht]]
    refine .end0 rfl fun w s => ⟨qs, ?_, trivial, finE .auto s⟩
    rfl

set_option maxRecDepth 20000 in
theorem dng_kernel {W : World} {bd b p : Nat} {ps : List (Option Nat)} {d : Dng} {t : Thr} (hp : ps[d.n]? = some (some p)) (ht : d.s.thr[d.n]? = some (some t)) (hk : CallOk ps d t) : Fn Tryz.prog W 97 [ptr bd] [dngX bd b p ps d] Unit (fun _ => .tuple #[]) (fun _ => True) (fun _ => [dngX bd b p ps (d.kernel)]) := by
  refine Fn.intro (N := 42) func97 rfl ntmps97 rfl fun F => ?_
  show GoC _ _ _ _ _ _ [dngX bd b p ps d, F]
  refine .o2 (C := dngX bd b p ps (d)) .auto rfl ?_
  rintro vw ve -
  have ha0 : 0 ≤ d.a := by
    unfold Dng.a; rw [dng_t ht]; exact (hk.R.r _).1
  have hb0 : 0 ≤ d.b := by
    unfold Dng.b; rw [dng_t ht]; exact (hk.R.r _).1
  refine .s (.r (.p (.m rfl) (.p (.n rfl) (.p (.f rfl) (.p (.z rfl) (.p (.l rfl) (.n (.t (.b (.s (.r (.p (.eql rfl rfl) (.p (.a rfl) (.n (.t (.condD rfl (fun h11 => ?_) (fun h11 => ?_)))))))))))))))))
  · refine .o10 (C := spcX b ps (d).s) .auto rfl ?_
    rintro fv sv pv bt vm bg vt bk bw vr -
    refine .fr .auto (thrs_out hp ht) ?_
    refine .draw [arr bd 0 (dngC b p d vw ve)] [0, 1, 2, 0, 0, 0, 0, 0, 3] rfl (by kernel_rfl) ?_
    refine .q (.m rfl) (.p (.m rfl) ?_)
    refine .d2 rfl Kept.auto (Does.callE rfl call119 rfl (dng_bP ht hk.I.b) .auto) (by rintro _ _ ⟨⟨⟩, -, rfl, rfl⟩; exact Kept.auto) ?_
    rintro _ _ ⟨⟨⟩, -, rfl, rfl⟩
    refine .q (.m rfl) (.q (.n rfl) (.q (.f rfl) (.q (.o rfl) (.q (.l rfl) ?_))))
    refine .to (A := thrsH ps d.s.thr) (Bs := [arr p 0 (thrC t), thrsH (ps.set d.n none) (d.s.thr.set d.n none)]) .auto (thrs_keep hp ht) ?_
    refine .d3 rfl (Does.callE rfl call132 rfl (dng_ask hp ht hk hb0) .auto) ?_
    rintro _ _ ⟨⟨⟩, -, rfl, rfl⟩
    refine .n (.b ?_)
    rw [show d.kernel = d.ask d.b 0 d.i.a from by unfold Dng.kernel; repeat (first | rw [if_neg (by omega)] | rw [if_pos (by omega)])]
    refine .end0 rfl fun w s => ⟨(), ?_, trivial, finE .auto s⟩
    rfl
  · refine .s (.r (.p (.eql rfl rfl) (.p (.a rfl) (.n (.t (.condD rfl (fun h22 => ?_) (fun h22 => ?_)))))))
    · refine .r (.p (.m rfl) (.p (.m rfl) ?_))
      refine .does rfl (Does.callE rfl call92 rfl (dng_a hp ht hk.I.a) .auto) ?_
      rintro _ _ ⟨⟨⟩, -, rfl, rfl⟩
      refine .p (.m rfl) ?_
      refine .does rfl (Does.callE rfl call119 rfl (dng_b hp ht hk.I.b) .auto) ?_
      rintro _ _ ⟨⟨⟩, -, rfl, rfl⟩
      refine .does rfl (Does.callE rfl call132 rfl (dng_ask hp ht hk ha0) .auto) ?_
      rintro _ _ ⟨⟨⟩, -, rfl, rfl⟩
      refine .n (.b ?_)
      rw [show d.kernel = d.ask d.a d.b (-1) from by unfold Dng.kernel; repeat (first | rw [if_neg (by omega)] | rw [if_pos (by omega)])]
      refine .end0 rfl fun w s => ⟨(), ?_, trivial, finE .auto s⟩
      rfl
    · refine .s (.r (.p (.eql rfl rfl) (.p (.a rfl) (.n (.t (.condD rfl (fun h30 => ?_) (fun h30 => ?_)))))))
      · refine .r (.p (.m rfl) ?_)
        refine .does rfl (Does.callE rfl call133 rfl (dng_put hp ht hk (.inl h30)) .auto) ?_
        rintro _ _ ⟨⟨⟩, -, rfl, rfl⟩
        refine .n (.b ?_)
        rw [show d.kernel = d.put from by unfold Dng.kernel; repeat (first | rw [if_neg (by omega)] | rw [if_pos (by omega)])]
        refine .end0 rfl fun w s => ⟨(), ?_, trivial, finE .auto s⟩
        rfl
      · refine .s (.r (.p (.eql rfl rfl) (.p (.a rfl) (.n (.t (.condD rfl (fun h34 => ?_) (fun h34 => ?_)))))))
        · refine .r (.p (.m rfl) ?_)
          refine .does rfl (Does.callE rfl call134 rfl (dng_get hp ht hk (.inr h34)) .auto) ?_
          rintro _ _ ⟨⟨⟩, -, rfl, rfl⟩
          refine .n (.b ?_)
          rw [show d.kernel = d.get from by unfold Dng.kernel; repeat (first | rw [if_neg (by omega)] | rw [if_pos (by omega)])]
          refine .end0 rfl fun w s => ⟨(), ?_, trivial, finE .auto s⟩
          rfl
        · refine .s (.r (.p (.eql rfl rfl) (.p (.a rfl) (.n (.t (.condD rfl (fun h38 => ?_) (fun h38 => ?_)))))))
          · refine .r (.p (.m rfl) ?_)
            refine .does rfl (Does.callE rfl call135 rfl (dng_sleep hp ht hk) .auto) ?_
            rintro _ _ ⟨⟨⟩, -, rfl, rfl⟩
            refine .n (.b ?_)
            rw [show d.kernel = d.sleep from by unfold Dng.kernel; repeat (first | rw [if_neg (by omega)] | rw [if_pos (by omega)])]
            refine .end0 rfl fun w s => ⟨(), ?_, trivial, finE .auto s⟩
            rfl
          · refine .r (.p (.m rfl) (.p (.m rfl) ?_))
            refine .does rfl (Does.callE rfl call92 rfl (dng_a hp ht hk.I.a) .auto) ?_
            rintro _ _ ⟨⟨⟩, -, rfl, rfl⟩
            refine .does rfl (Does.callE rfl call89 rfl (dng_pass hp ht (Nat.le_trans hk.recs (by decide)) (by decide) hk.R.l) .auto) ?_
            rintro _ _ ⟨⟨⟩, -, rfl, rfl⟩
            refine .n (.b ?_)
            rw [show d.kernel = d.pass d.a 0 0 from by unfold Dng.kernel; repeat (first | rw [if_neg (by omega)] | rw [if_pos (by omega)])]
            refine .end0 rfl fun w s => ⟨(), ?_, trivial, finE .auto s⟩
            rfl

end Go.SLYtpcjdohmjmeehaaGreat
namespace Go.SLYtpcjdohmjmeehaaGreat
open Go Go.RowKit Go.Proofs Go.Proofs.Tryz

set_option maxRecDepth 20000 in
theorem dng_moved {W : World} {bd b p : Nat} {ps : List (Option Nat)} {d : Dng} {l : List Int} {u : Value} (hl : ∀ w ∈ l, 0 ≤ w ∧ LiveAt ps d.s w.toNat) (hw : ∀ w ∈ d.waits, 0 ≤ w ∧ LiveAt ps d.s w.toNat) (hm : d.s.prg.mutexes ≤ (d.s.gates.mtx.length : Int)) (hgm : d.s.gates.mtx.length ≤ 1000000) (hmw : ∀ x ∈ d.s.gates.mtx, x.wait.length ≤ 1000000) (hb : d.ends.length + l.length ≤ 1000000 ∧ d.out.woken.length + l.length ≤ 1000000) : Fn Tryz.prog W 95 [ptr bd, u] [dngX bd b p ps d, sl intE 1 u l] Unit (fun _ => .tuple #[]) (fun _ => True) (fun _ => [dngX bd b p ps (d.moved l), sl intE 1 u l]) := by
  refine Fn.intro (N := 57) func95 rfl ntmps95 rfl fun F => ?_
  show GoC _ _ _ _ _ _ [dngX bd b p ps d, sl intE 1 u l, F]
  refine .o2 (C := dngX bd b p ps d) .auto rfl ?_
  rintro vw ve -
  refine .o10 (C := spcX b ps d.s) .auto rfl ?_
  rintro fv sv pv bt vm bg vt bk bw vr -
  have hww : waitsTo d d.s.prg.mutexes.toNat = d.waits := rfl
  refine .s (.s (.r (.p (.m rfl) (.p (.n rfl) (.p (.z rfl) (.p (.l rfl) ?_))))))
  refine .p (.n rfl) (.p (.z rfl) (.p (.f rfl) (.p (.l rfl) (.p (.m rfl) (.n (.t (.b ?_)))))))
  refine .loopK (X := Nat) [4, 6, 17, 18, 19, 20, 21, 22, 23, 24, 25, 26, 27, 28, 29, 30, 31, 32, 33, 34, 35, 36, 37, 38, 39, 40, 41, 42, 43, 44, 45, 46] (fun k => d.s.prg.mutexes.toNat - k) (fun k => k ≤ d.s.prg.mutexes.toNat) (fun k => [(17, some (.int .i64 (k : Int)))]) (fun k => [dngX bd b p ps ({ d with s := whyAll d.s (waitsTo d k) } : Dng), sl intE 1 u l, F]) 0 ?_ ?_ ?_ ?_
  · exact Nat.zero_le _
  · exact ⟨rfl, trivial⟩
  · exact fun w s => Ent.kept .auto w s
  rintro k hk
  refine .s (.r (.p (.lss rfl rfl) (.n (.t (.s (.condD rfl (fun h18 => ?_) (fun h18 => ?_)))))))
  · refine .v (.t (.s (.b (.s (.r (.p (.m rfl) (.p (.a rfl) (.n (.t (.s (.r ?_)))))))))))
    obtain ⟨x, hx⟩ := at_some (show k < d.s.gates.mtx.length by omega)
    refine .o2 (C := dngX bd b p ps (({ d with s := whyAll d.s (waitsTo d k) } : Dng))) .auto rfl ?_
    rintro vw ve -
    refine .o10 (C := spcX b ps (({ d with s := whyAll d.s (waitsTo d k) } : Dng)).s) .auto rfl ?_
    rintro fv sv pv bt vm bg vt bk bw vr -
    refine .p (.m rfl) (.p (.n rfl) (.p (.z rfl) (.p (.l rfl) ?_)))
    refine .p (.n rfl) (.p (.f rfl) (.p (.l rfl) (.p (.m rfl) ?_)))
    have hxg : (whyAll d.s (waitsTo d k)).gates.mtx[k]? = some x := by rw [whyAll_gates]; exact hx
    have hxl := hmw x (List.mem_of_getElem? hx)
    refine .does rfl (Does.callE rfl call129 rfl (gate_Waiters1 hxg hxl) .auto) ?_
    rintro _ _ ⟨u28, -, rfl, rfl⟩
    refine .p (.len rfl) (.p (.m rfl) (.n (.t (.b ?_))))
    refine .loopK (X := Nat) [6, 30, 31, 32, 33, 34, 35, 36, 37, 38, 39, 40, 41, 42, 43, 44, 45] (fun j => (x.wait.map (·.who)).length - j) (fun j => j ≤ (x.wait.map (·.who)).length) (fun j => [(30, some (.int .i64 (j : Int)))]) (fun j => [dngX bd b p ps ({ d with s := whyAll d.s (waitsTo d k ++ (x.wait.map (·.who)).take j) } : Dng), sl intE 1 u28 (x.wait.map (·.who)), sl intE 1 u l, F]) 0 ?_ ?_ ?_ ?_
    · exact Nat.zero_le _
    · exact ⟨rfl, trivial⟩
    · rw [List.take_zero, List.append_nil]; exact fun w s => Ent.kept .auto w s
    rintro j hj
    refine .s (.r (.p (.lss rfl rfl) (.n (.t (.s (.condD rfl (fun h31 => ?_) (fun h31 => ?_)))))))
    · refine .v (.t (.s (.b (.s (.r ?_)))))
      have hxl2 : (x.wait.map (·.who)).length ≤ 1000000 := by rw [List.length_map]; exact hxl
      obtain ⟨w, hwj⟩ := at_some (show j < (x.wait.map (·.who)).length by omega)
      have hwm : w ∈ d.waits := List.mem_flatMap.2 ⟨x, List.mem_of_getElem? (i := k) (by rw [List.getElem?_take_of_lt (by omega)]; exact hx), List.mem_of_getElem? hwj⟩
      obtain ⟨hw0, hwl⟩ := hw w hwm
      obtain ⟨hw16, q, v, hq, hv, hRv⟩ := live_why w.toNat (waitsTo d k ++ (x.wait.map (·.who)).take j) hwl
      refine .p (.ix _ rfl rfl rfl (by first | omega | decide)) ?_
      refine .p (.lr rfl ‹_›) ?_
      refine .p (.a rfl) (.n (.t (.r ?_)))
      refine .o2 (C := dngX bd b p ps (({ d with s := whyAll d.s (waitsTo d k ++ (x.wait.map (·.who)).take j) } : Dng))) .auto rfl ?_
      rintro vw ve -
      refine .o10 (C := spcX b ps (({ d with s := whyAll d.s (waitsTo d k ++ (x.wait.map (·.who)).take j) } : Dng)).s) .auto rfl ?_
      rintro fv sv pv bt vm bg vt bk bw vr -
      refine .fr .auto (thrs_out hq hv) ?_
      refine .p (.m rfl) (.p (.n rfl) (.p (.z rfl) (.p (.l rfl) (.p (.m rfl) ?_))))
      refine .p (.n rfl) (.p (.f rfl) ?_)
      refine .p (.ixArr w.toNat underlying115 sizeOf114 rfl rfl (by omega) hw16) ?_
      refine .p (.ld rfl (Cell.a (by rw [Nat.mul_one, spcC_get hw16, getD_of hq]))) ?_
      refine .p (.n rfl) (.p (.f rfl) ?_)
      refine .does rfl (Does.st sizeOf3 rfl rfl rfl rfl) ?_
      rintro _ _ ⟨rfl, rfl⟩
      rw [thr_why]
      refine .n (.b (.t (.r ?_)))
      refine .p (.inc rfl rfl (by omega)) ?_
      refine .p (.m rfl) (.n ?_)
      refine .to (A := thrsH ps (({ d with s := whyAll d.s (waitsTo d k ++ (x.wait.map (·.who)).take j) } : Dng).s.thr.set w.toNat (some ({ v with why := 1 })))) (Bs := [arr q 0 (thrC ({ v with why := 1 })), thrsH (ps.set w.toNat none) (({ d with s := whyAll d.s (waitsTo d k ++ (x.wait.map (·.who)).take j) } : Dng).s.thr.set w.toNat none)]) .auto (thrs_shut (List.getElem?_eq_some_iff.1 hv).1 hq) ?_
      refine .againK (j + 1) .auto rfl ?_ ?_ ?_ ?_
      · omega
      · show j + 1 ≤ _; omega
      · exact ⟨rfl, trivial⟩
      · rw [take_snoc hwj, ← List.append_assoc, whyAll_app _ _ [w], show whyAll (whyAll d.s (waitsTo d k ++ (x.wait.map (·.who)).take j)) [w] = (whyAll d.s (waitsTo d k ++ (x.wait.map (·.who)).take j)).setT w.toNat { v with why := 1 } from by show Spc.setT _ _ _ = _; rw [spc_t hv]]; exact fun w s => Ent.kept .auto w s
    · refine .x (.tx (.tx (.bh (.b (.t (.r ?_))))))
      refine .p (.inc rfl rfl (by omega)) ?_
      refine .p (.m rfl) (.n ?_)
      rw [List.take_of_length_le (by omega), ← waitsTo_next hx]
      refine .againK (k + 1) .auto rfl ?_ ?_ ?_ ?_
      · omega
      · show k + 1 ≤ _; omega
      · exact ⟨rfl, trivial⟩
      · exact fun w s => Ent.kept .auto w s
  · refine .x (.tx (.tx (.bh (.t (.s (.r (.p (.m rfl) (.p (.len rfl) (.p (.m rfl) (.n (.t (.b ?_))))))))))))
    rw [show k = d.s.prg.mutexes.toNat from by omega, hww]
    refine .loopK (X := Nat) [8, 49, 50, 51, 52, 53, 54, 55, 56] (fun k => l.length - k) (fun k => k ≤ l.length) (fun k => [(49, some (.int .i64 (k : Int)))]) (fun k => [dngX bd b p ps (({ d with s := whyAll d.s d.waits } : Dng).goesAll (l.take k)), sl intE 1 u l, F]) 0 ?_ ?_ ?_ ?_
    · exact Nat.zero_le _
    · exact ⟨rfl, trivial⟩
    · exact fun w s => Ent.kept .auto w s
    rintro k hk
    refine .s (.r (.p (.lss rfl rfl) (.n (.t (.s (.condD rfl (fun h50 => ?_) (fun h50 => ?_)))))))
    · refine .v (.t (.s (.b (.s (.r ?_)))))
      obtain ⟨w, hwj⟩ := at_some (show k < l.length by omega)
      have hwl := hl w (List.mem_of_getElem? hwj)
      obtain ⟨hw16, q, v, hq, hv, hRv⟩ := live_goesAll w.toNat (l.take k) ({ d with s := whyAll d.s d.waits } : Dng) (live_why _ _ hwl.2) (fun z hz => live_why _ _ (hl z (List.mem_of_mem_take hz)).2)
      have hgl2 := goesAll_len ({ d with s := whyAll d.s d.waits } : Dng) (l.take k)
      rw [List.length_take] at hgl2
      refine .p (.ix _ rfl rfl rfl (by first | omega | decide)) ?_
      refine .p (.lr rfl ‹_›) ?_
      refine .p (.a rfl) (.n (.t (.r (.p (.m rfl) (.p (.m rfl) ?_)))))
      refine .does rfl (Does.callE rfl call86 rfl (dng_goesI (d := ({ d with s := whyAll d.s d.waits } : Dng).goesAll (l.take k)) hwl.1 hq hv hw16 hRv (by show (Dng.goesAll _ _).ends.length ≤ _; simp only at hgl2; omega) (by show (Dng.goesAll _ _).out.woken.length ≤ _; simp only at hgl2; omega)) .auto) ?_
      rintro _ _ ⟨⟨⟩, -, rfl, rfl⟩
      refine .n (.b (.t (.r ?_)))
      refine .p (.inc rfl rfl (by omega)) ?_
      refine .p (.m rfl) (.n ?_)
      refine .againK (k + 1) .auto rfl ?_ ?_ ?_ ?_
      · omega
      · show k + 1 ≤ _; omega
      · exact ⟨rfl, trivial⟩
      · rw [take_snoc hwj, goesAll_snoc]; exact fun w s => Ent.kept .auto w s
    · refine .x (.tx (.tx (.bh ?_)))
      rw [show d.moved l = ({ d with s := whyAll d.s d.waits } : Dng).goesAll (l.take k) from by rw [List.take_of_length_le (by omega)]; rfl]
      refine .end0 rfl fun w s => ⟨(), ?_, trivial, finE .auto s⟩
      rfl

set_option maxRecDepth 20000 in
theorem dng_call {W : World} {bd b p : Nat} {ps : List (Option Nat)} {d : Dng} {t : Thr} (hp : ps[d.n]? = some (some p)) (ht : d.s.thr[d.n]? = some (some t)) (hk : CallOk ps d t) : Fn Tryz.prog W 65 [ptr bd] [dngX bd b p ps d] (List (Option Nat)) (fun _ => .tuple #[]) (fun _ => True) (fun qs => [dngX bd b p qs d.call]) := by
  refine Fn.intro (N := 124) func65 rfl ntmps65 rfl fun F => ?_
  show GoC _ _ _ _ _ _ [dngX bd b p ps d, F]
  refine .o2 (C := dngX bd b p ps (d)) .auto rfl ?_
  rintro vw ve -
  have hnn := hk.nn
  have hn0 := hk.I.n
  have hIa := hk.I.a
  have hRl := hk.R.l
  refine .s (.r (.p (.m rfl) (.p (.n rfl) (.p (.f rfl) (.p (.z rfl) (.p (.l rfl) (.n (.t (.b (.s (.r (.p (.eql rfl rfl) (.p (.a rfl) (.n (.t (.condD rfl (fun h11 => ?_) (fun h11 => ?_)))))))))))))))))
  · refine .r (.p (.m rfl) ?_)
    refine .does rfl (Does.callE rfl call88 rfl (dng_spawn hp ht hk) .auto) ?_
    rintro _ _ ⟨qs, -, rfl, rfl⟩
    refine .n (.b ?_)
    rw [show d.call = d.spawn from by unfold Dng.call; repeat (first | rw [if_neg (by omega)] | rw [if_pos (by omega)])]
    refine .end0 rfl fun w s => ⟨qs, ?_, trivial, finE .auto s⟩
    rfl
  · refine .s (.r (.p (.eql rfl rfl) (.p (.a rfl) (.n (.t (.condD rfl (fun h15 => ?_) (fun h15 => ?_)))))))
    · refine .s ?_
      refine .o10 (C := spcX b ps (d).s) .auto rfl ?_
      rintro fv sv pv bt vm bg vt bk bw vr -
      refine .fr .auto (thrs_out hp ht) ?_
      refine .draw [arr bd 0 (dngC b p d vw ve)] [1, 1, 1, 1, 1, 1, 1, 1, 1, 1, 1, 1, 1, 1, 1, 1, 1, 1, 1, 1, 3] rfl (by kernel_rfl) ?_
      refine .p (.m rfl) (.p (.n rfl) (.p (.f rfl) (.p (.l rfl) (.p (.m rfl) ?_))))
      refine .p (.n rfl) (.p (.f rfl) (.p (.o rfl) (.p (.l rfl) (.p (.m rfl) ?_))))
      refine .p (.n rfl) (.p (.f rfl) (.p (.l rfl) ?_))
      refine .p (.n rfl) (.p (.f rfl) (.p (.l rfl) ?_))
      refine .p (.n rfl) (.p (.z rfl) (.p (.f rfl) ?_))
      refine .p (.ixArr d.i.a.toNat underlying57 sizeOf43 rfl rfl (by omega) (by omega)) ?_
      refine .d3 rfl (Does.st sizeOf43 rfl rfl rfl (Nat.blt_eq.mpr (by show 2 + d.i.a.toNat * 1 < 18; omega))) ?_
      rintro _ _ ⟨rfl, rfl⟩
      rw [thr_setI _ (by omega) (by omega) hRl]
      refine .n (.t (.r (.p (.m rfl) (.p (.m rfl) (.p (.n rfl) (.p (.f rfl) (.p (.l rfl) ?_)))))))
      refine .p (.n rfl) (.p (.f rfl) ?_)
      refine .p (.ld rfl (Cell.a (cs := thrC (t.put d.i.a t.handle)) rfl)) ?_
      refine .to (A := thrsH ps (d.s.thr.set d.n (some (t.put d.i.a t.handle)))) (Bs := [arr p 0 (thrC (t.put d.i.a t.handle)), thrsH (ps.set d.n none) (d.s.thr.set d.n none)]) .auto (thrs_shut (List.getElem?_eq_some_iff.1 ht).1 hp) ?_
      refine .does rfl (Does.callE rfl call89 rfl (dng_pass (d := d.setT (t.put d.i.a t.handle)) (t := t.put d.i.a t.handle) hp (setT_same ht) (Nat.le_trans hk.recs (by decide)) (by decide) (by rw [put_len]; exact hRl)) .auto) ?_
      rintro _ _ ⟨⟨⟩, -, rfl, rfl⟩
      refine .n (.b ?_)
      rw [show d.call = (d.setT (t.put d.i.a t.handle)).pass 0 t.handle 0 from by unfold Dng.call; rw [if_neg h11, if_pos h15, dng_t ht]]
      refine .end0 rfl fun w s => ⟨ps, ?_, trivial, finE .auto s⟩
      rfl
    · refine .s (.r (.p (.eql rfl rfl) (.p (.a rfl) (.n (.t (.condD rfl (fun h46 => ?_) (fun h46 => ?_)))))))
      · refine .s (.r (.p (.m rfl) ?_))
        refine .does rfl (Does.callE rfl call89 rfl (dng_pass hp ht (Nat.le_trans hk.recs (by decide)) (by decide) hk.R.l) .auto) ?_
        rintro _ _ ⟨⟨⟩, -, rfl, rfl⟩
        refine .n (.t (.r ?_))
        refine .o2 (C := dngX bd b p ps (d.pass 0 0 0)) .auto rfl ?_
        rintro vw ve -
        refine .p (.m rfl) (.p (.n rfl) (.p (.f rfl) (.p (.o rfl) ?_)))
        refine .does rfl (Does.st sizeOf4 rfl rfl rfl rfl) ?_
        rintro _ _ ⟨rfl, rfl⟩
        rw [dng_yld]
        refine .n (.b ?_)
        rw [show d.call = { d.pass 0 0 0 with out := { d.out with yielded := true } } from by unfold Dng.call; repeat (first | rw [if_neg (by omega)] | rw [if_pos (by omega)])]
        refine .end0 rfl fun w s => ⟨ps, ?_, trivial, finE .auto s⟩
        rfl
      · refine .s (.r (.p (.eql rfl rfl) (.p (.a rfl) (.n (.t (.condD rfl (fun h54 => ?_) (fun h54 => ?_)))))))
        · refine .r (.p (.m rfl) ?_)
          refine .does rfl (Does.callE rfl call90 rfl (dng_join hp ht hk) .auto) ?_
          rintro _ _ ⟨qs, -, rfl, rfl⟩
          refine .n (.b ?_)
          rw [show d.call = d.join from by unfold Dng.call; repeat (first | rw [if_neg (by omega)] | rw [if_pos (by omega)])]
          refine .end0 rfl fun w s => ⟨qs, ?_, trivial, finE .auto s⟩
          rfl
        · refine .s (.r (.p (.eql rfl rfl) (.p (.a rfl) (.n (.t (.condD rfl (fun h58 => ?_) (fun h58 => ?_)))))))
          · refine .r (.p (.m rfl) ?_)
            refine .does rfl (Does.callE rfl call91 rfl (dng_detach hp ht hk) .auto) ?_
            rintro _ _ ⟨qs, -, rfl, rfl⟩
            refine .n (.b ?_)
            rw [show d.call = d.detach from by unfold Dng.call; repeat (first | rw [if_neg (by omega)] | rw [if_pos (by omega)])]
            refine .end0 rfl fun w s => ⟨qs, ?_, trivial, finE .auto s⟩
            rfl
          · refine .s (.r (.p (.eql rfl rfl) (.p (.a rfl) (.n (.t (.condD rfl (fun h62 => ?_) (fun h62 => ?_)))))))
            · refine .s (.r (.p (.m rfl) (.p (.m rfl) ?_)))
              refine .does rfl (Does.callE rfl call92 rfl (dng_a hp ht hk.I.a) .auto) ?_
              rintro _ _ ⟨⟨⟩, -, rfl, rfl⟩
              refine .does rfl (Does.callE rfl call61 rfl (dng_tell hp ht (Nat.le_trans hk.recs (by decide))) .auto) ?_
              rintro _ _ ⟨⟨⟩, -, rfl, rfl⟩
              refine .n (.t (.r (.p (.m rfl) (.p (.m rfl) ?_))))
              refine .does rfl (Does.callE rfl call92 rfl (dng_a (d := d.tell d.a 0 0 true) hp ht hk.I.a) .auto) ?_
              rintro _ _ ⟨⟨⟩, -, rfl, rfl⟩
              rw [show (d.tell d.a 0 0 true).a = d.a from rfl]
              refine .does rfl (Does.callE rfl call62 rfl (dng_fin (d := d.tell d.a 0 0 true) hp ht hk.lt hk.lp hk.T hk.R (Nat.le_trans hk.ends (by decide)) (Nat.le_trans hk.wok (by decide)) hk.join) .auto) ?_
              rintro _ _ ⟨qs, -, rfl, rfl⟩
              refine .n (.b ?_)
              rw [show d.call = (d.tell d.a 0 0 true).fin d.a from by unfold Dng.call; repeat (first | rw [if_neg (by omega)] | rw [if_pos (by omega)])]
              refine .end0 rfl fun w s => ⟨qs, ?_, trivial, finE .auto s⟩
              rfl
            · refine .s (.s (.r (.p (.eql rfl rfl) (.p (.a rfl) (.n (.t (.condD rfl (fun h72 => ?_) (fun h72 => ?_))))))))
              · refine .v (.t ?_)
                first | refine GoC.condD rfl (fun _ => ?_) (fun hc => absurd h72 hc) | refine GoC.cond rfl (fun _ => ?_) (fun hc => by rw [h72] at hc; cases hc)
                refine .r (.p (.m rfl) ?_)
                refine .does rfl (Does.callE rfl call93 rfl (dng_mutex hp ht hk) .auto) ?_
                rintro _ _ ⟨⟨⟩, -, rfl, rfl⟩
                refine .n (.b ?_)
                rw [show d.call = d.mutex from by unfold Dng.call; repeat (first | rw [if_neg (by omega)] | rw [if_pos (by omega)])]
                refine .end0 rfl fun w s => ⟨ps, ?_, trivial, finE .auto s⟩
                rfl
              · refine .s (.r (.p (.eql rfl rfl) (.p (.a rfl) (.n (.t (.condD rfl (fun h72 => ?_) (fun h72 => ?_)))))))
                · refine .v (.t ?_)
                  first | refine GoC.condD rfl (fun _ => ?_) (fun hc => absurd h72 hc) | refine GoC.cond rfl (fun _ => ?_) (fun hc => by rw [h72] at hc; cases hc)
                  refine .r (.p (.m rfl) ?_)
                  refine .does rfl (Does.callE rfl call93 rfl (dng_mutex hp ht hk) .auto) ?_
                  rintro _ _ ⟨⟨⟩, -, rfl, rfl⟩
                  refine .n (.b ?_)
                  rw [show d.call = d.mutex from by unfold Dng.call; repeat (first | rw [if_neg (by omega)] | rw [if_pos (by omega)])]
                  refine .end0 rfl fun w s => ⟨ps, ?_, trivial, finE .auto s⟩
                  rfl
                · refine .r (.p (.eql rfl rfl) (.p (.a rfl) (.n (.t (.condD rfl (fun h72c => ?_) (fun h72c => ?_))))))
                  · refine .r (.p (.m rfl) ?_)
                    refine .does rfl (Does.callE rfl call93 rfl (dng_mutex hp ht hk) .auto) ?_
                    rintro _ _ ⟨⟨⟩, -, rfl, rfl⟩
                    refine .n (.b ?_)
                    rw [show d.call = d.mutex from by unfold Dng.call; repeat (first | rw [if_neg (by omega)] | rw [if_pos (by omega)])]
                    refine .end0 rfl fun w s => ⟨ps, ?_, trivial, finE .auto s⟩
                    rfl
                  · refine .s (.s (.r (.p (.eql rfl rfl) (.p (.a rfl) (.n (.t (.condD rfl (fun h78 => ?_) (fun h78 => ?_))))))))
                    · refine .v (.t ?_)
                      first | refine GoC.condD rfl (fun _ => ?_) (fun hc => absurd h78 hc) | refine GoC.cond rfl (fun _ => ?_) (fun hc => by rw [h78] at hc; cases hc)
                      refine .s ?_
                      refine .o10 (C := spcX b ps (d).s) .auto rfl ?_
                      rintro fv sv pv bt vm bg vt bk bw vr -
                      refine .draw [arr bd 0 (dngC b p d vw ve), arr b 0 (spcC fv sv pv d.s.prg bt ps vm bg vt bk bw vr)] [1, 1, 1, 1, 1, 1, 1, 1, 1, 1, 1, 1, 1, 1, 1, 1, 1, 1, 1, 1, 1, 1, 1, 3, 1, 1, 1, 1, 1] rfl (by kernel_rfl) ?_
                      refine .p (.m rfl) (.p (.n rfl) (.p (.z rfl) (.p (.l rfl) ?_)))
                      refine .p (.n rfl) (.p (.f rfl) (.p (.l rfl) (.p (.m rfl) ?_)))
                      refine .p (.n rfl) (.p (.f rfl) (.p (.o rfl) (.p (.l rfl) ?_)))
                      refine .p (.convI underlying43 underlying3 rfl (by omega)) ?_
                      refine .p (.m rfl) (.p (.n rfl) (.p (.f rfl) (.p (.l rfl) (.p (.m rfl) ?_))))
                      refine .p (.n rfl) (.p (.f rfl) (.p (.z rfl) (.p (.l rfl) (.p (.eql rfl rfl) ?_))))
                      refine .d3 rfl (Does.callE rfl call94 rfl (gate_Signal hk.gl hk.gcnd) .auto) ?_
                      rintro _ _ ⟨u105, -, rfl, rfl⟩
                      refine .p (.m rfl) ?_
                      refine .p (.extract (v := u105) rfl rfl) ?_
                      refine .p (.extract (v := .int .i64 (d.s.gates.signal d.i.n d.choice (decide (d.i.op = 29))).2.1) rfl rfl) ?_
                      refine .p (.a rfl) (.p (.a rfl) (.n (.t (.s (.r (.p (.m rfl) (.p (.m rfl) (.p (.n rfl) (.p (.f rfl) (.p (.o rfl) (.p (.l rfl) (.p (.m rfl) ?_))))))))))))
                      refine .does rfl (Does.callE rfl call89 rfl (dng_pass (d := (d.withG (d.s.gates.signal d.i.n d.choice (decide (d.i.op = 29))).2.2)) hp ht (Nat.le_trans hk.recs (by decide)) signal_bd hk.R.l) .auto) ?_
                      rintro _ _ ⟨⟨⟩, -, rfl, rfl⟩
                      have sigw : ∀ w ∈ ((d.withG (d.s.gates.signal d.i.n d.choice (decide (d.i.op = 29))).2.2).pass d.i.n 0 (d.s.gates.signal d.i.n d.choice (decide (d.i.op = 29))).2.1).waits, d.s.gates.has w := fun w h => by
                        obtain ⟨x, hx, hw⟩ := List.mem_flatMap.1 h
                        obtain ⟨y, hy, rfl⟩ := List.mem_map.1 hw
                        exact (signal_mtx hk.gsm.1 hk.gsm.2 x (List.mem_of_mem_take hx)).2 y hy
                      refine .n (.t (.r (.p (.m rfl) (.p (.m rfl) ?_))))
                      refine .does rfl (Does.callE rfl call95 rfl (dng_moved (d := ((d.withG (d.s.gates.signal d.i.n d.choice (decide (d.i.op = 29))).2.2).pass d.i.n 0 (d.s.gates.signal d.i.n d.choice (decide (d.i.op = 29))).2.1)) (l := (d.s.gates.signal d.i.n d.choice (decide (d.i.op = 29))).1) (fun w h => ⟨(hk.glive w (signal_has w h)).1, ((hk.glive w (signal_has w h)).2.of (s' := (d.withG (d.s.gates.signal d.i.n d.choice (decide (d.i.op = 29))).2.2).s) rfl).pass (d := (d.withG (d.s.gates.signal d.i.n d.choice (decide (d.i.op = 29))).2.2)) ht hk.R signal_bd⟩) (fun w h => ⟨(hk.glive w (sigw w h)).1, ((hk.glive w (sigw w h)).2.of (s' := (d.withG (d.s.gates.signal d.i.n d.choice (decide (d.i.op = 29))).2.2).s) rfl).pass (d := (d.withG (d.s.gates.signal d.i.n d.choice (decide (d.i.op = 29))).2.2)) ht hk.R signal_bd⟩) (by show d.s.prg.mutexes ≤ ((d.s.gates.signal d.i.n d.choice (decide (d.i.op = 29))).2.2.mtx.length : Int); rw [signal_mlen]; exact hk.gsum) (by show ((d.s.gates.signal d.i.n d.choice (decide (d.i.op = 29))).2.2.mtx.length) ≤ _; rw [signal_mlen]; exact hk.gl.m) (fun x h => (signal_mtx hk.gsm.1 hk.gsm.2 x h).1) (by have := signal_len (c := d.i.n) (ch := d.choice) (all := decide (d.i.op = 29)) hk.gsm.2; have := hk.ends; have := hk.wok; exact ⟨by show d.ends.length + _ ≤ _; omega, by show d.out.woken.length + _ ≤ _; omega⟩)) .auto) ?_
                      rintro _ _ ⟨⟨⟩, -, rfl, rfl⟩
                      refine .n (.b ?_)
                      rw [show d.call = ((d.withG (d.s.gates.signal d.i.n d.choice (decide (d.i.op = 29))).2.2).pass d.i.n 0 (d.s.gates.signal d.i.n d.choice (decide (d.i.op = 29))).2.1).moved (d.s.gates.signal d.i.n d.choice (decide (d.i.op = 29))).1 from by unfold Dng.call; repeat (first | rw [if_neg (by omega)] | rw [if_pos (by omega)])]
                      refine .end0 rfl fun w s => ⟨ps, ?_, trivial, finE .auto s⟩
                      rfl
                    · refine .r (.p (.eql rfl rfl) (.p (.a rfl) (.n (.t (.condD rfl (fun h78 => ?_) (fun h78 => ?_))))))
                      · refine .s ?_
                        refine .o10 (C := spcX b ps (d).s) .auto rfl ?_
                        rintro fv sv pv bt vm bg vt bk bw vr -
                        refine .draw [arr bd 0 (dngC b p d vw ve), arr b 0 (spcC fv sv pv d.s.prg bt ps vm bg vt bk bw vr)] [1, 1, 1, 1, 1, 1, 1, 1, 1, 1, 1, 1, 1, 1, 1, 1, 1, 1, 1, 1, 1, 1, 1, 3, 1, 1, 1, 1, 1] rfl (by kernel_rfl) ?_
                        refine .p (.m rfl) (.p (.n rfl) (.p (.z rfl) (.p (.l rfl) ?_)))
                        refine .p (.n rfl) (.p (.f rfl) (.p (.l rfl) (.p (.m rfl) ?_)))
                        refine .p (.n rfl) (.p (.f rfl) (.p (.o rfl) (.p (.l rfl) ?_)))
                        refine .p (.convI underlying43 underlying3 rfl (by omega)) ?_
                        refine .p (.m rfl) (.p (.n rfl) (.p (.f rfl) (.p (.l rfl) (.p (.m rfl) ?_))))
                        refine .p (.n rfl) (.p (.f rfl) (.p (.z rfl) (.p (.l rfl) (.p (.eql rfl rfl) ?_))))
                        refine .d3 rfl (Does.callE rfl call94 rfl (gate_Signal hk.gl hk.gcnd) .auto) ?_
                        rintro _ _ ⟨u105, -, rfl, rfl⟩
                        refine .p (.m rfl) ?_
                        refine .p (.extract (v := u105) rfl rfl) ?_
                        refine .p (.extract (v := .int .i64 (d.s.gates.signal d.i.n d.choice (decide (d.i.op = 29))).2.1) rfl rfl) ?_
                        refine .p (.a rfl) (.p (.a rfl) (.n (.t (.s (.r (.p (.m rfl) (.p (.m rfl) (.p (.n rfl) (.p (.f rfl) (.p (.o rfl) (.p (.l rfl) (.p (.m rfl) ?_))))))))))))
                        refine .does rfl (Does.callE rfl call89 rfl (dng_pass (d := (d.withG (d.s.gates.signal d.i.n d.choice (decide (d.i.op = 29))).2.2)) hp ht (Nat.le_trans hk.recs (by decide)) signal_bd hk.R.l) .auto) ?_
                        rintro _ _ ⟨⟨⟩, -, rfl, rfl⟩
                        have sigw : ∀ w ∈ ((d.withG (d.s.gates.signal d.i.n d.choice (decide (d.i.op = 29))).2.2).pass d.i.n 0 (d.s.gates.signal d.i.n d.choice (decide (d.i.op = 29))).2.1).waits, d.s.gates.has w := fun w h => by
                          obtain ⟨x, hx, hw⟩ := List.mem_flatMap.1 h
                          obtain ⟨y, hy, rfl⟩ := List.mem_map.1 hw
                          exact (signal_mtx hk.gsm.1 hk.gsm.2 x (List.mem_of_mem_take hx)).2 y hy
                        refine .n (.t (.r (.p (.m rfl) (.p (.m rfl) ?_))))
                        refine .does rfl (Does.callE rfl call95 rfl (dng_moved (d := ((d.withG (d.s.gates.signal d.i.n d.choice (decide (d.i.op = 29))).2.2).pass d.i.n 0 (d.s.gates.signal d.i.n d.choice (decide (d.i.op = 29))).2.1)) (l := (d.s.gates.signal d.i.n d.choice (decide (d.i.op = 29))).1) (fun w h => ⟨(hk.glive w (signal_has w h)).1, ((hk.glive w (signal_has w h)).2.of (s' := (d.withG (d.s.gates.signal d.i.n d.choice (decide (d.i.op = 29))).2.2).s) rfl).pass (d := (d.withG (d.s.gates.signal d.i.n d.choice (decide (d.i.op = 29))).2.2)) ht hk.R signal_bd⟩) (fun w h => ⟨(hk.glive w (sigw w h)).1, ((hk.glive w (sigw w h)).2.of (s' := (d.withG (d.s.gates.signal d.i.n d.choice (decide (d.i.op = 29))).2.2).s) rfl).pass (d := (d.withG (d.s.gates.signal d.i.n d.choice (decide (d.i.op = 29))).2.2)) ht hk.R signal_bd⟩) (by show d.s.prg.mutexes ≤ ((d.s.gates.signal d.i.n d.choice (decide (d.i.op = 29))).2.2.mtx.length : Int); rw [signal_mlen]; exact hk.gsum) (by show ((d.s.gates.signal d.i.n d.choice (decide (d.i.op = 29))).2.2.mtx.length) ≤ _; rw [signal_mlen]; exact hk.gl.m) (fun x h => (signal_mtx hk.gsm.1 hk.gsm.2 x h).1) (by have := signal_len (c := d.i.n) (ch := d.choice) (all := decide (d.i.op = 29)) hk.gsm.2; have := hk.ends; have := hk.wok; exact ⟨by show d.ends.length + _ ≤ _; omega, by show d.out.woken.length + _ ≤ _; omega⟩)) .auto) ?_
                        rintro _ _ ⟨⟨⟩, -, rfl, rfl⟩
                        refine .n (.b ?_)
                        rw [show d.call = ((d.withG (d.s.gates.signal d.i.n d.choice (decide (d.i.op = 29))).2.2).pass d.i.n 0 (d.s.gates.signal d.i.n d.choice (decide (d.i.op = 29))).2.1).moved (d.s.gates.signal d.i.n d.choice (decide (d.i.op = 29))).1 from by unfold Dng.call; repeat (first | rw [if_neg (by omega)] | rw [if_pos (by omega)])]
                        refine .end0 rfl fun w s => ⟨ps, ?_, trivial, finE .auto s⟩
                        rfl
                      · refine .s (.s (.r (.p (.eql rfl rfl) (.p (.a rfl) (.n (.t (.condD rfl (fun h119 => ?_) (fun h119 => ?_))))))))
                        · refine .v (.t ?_)
                          first | refine GoC.condD rfl (fun _ => ?_) (fun hc => absurd h119 hc) | refine GoC.cond rfl (fun _ => ?_) (fun hc => by rw [h119] at hc; cases hc)
                          refine .r (.p (.m rfl) ?_)
                          refine .does rfl (Does.callE rfl call96 rfl (dng_sem hp ht hk) .auto) ?_
                          rintro _ _ ⟨⟨⟩, -, rfl, rfl⟩
                          refine .n (.b ?_)
                          rw [show d.call = d.sem from by unfold Dng.call; repeat (first | rw [if_neg (by omega)] | rw [if_pos (by omega)])]
                          refine .end0 rfl fun w s => ⟨ps, ?_, trivial, finE .auto s⟩
                          rfl
                        · refine .r (.p (.eql rfl rfl) (.p (.a rfl) (.n (.t (.condD rfl (fun h119 => ?_) (fun h119 => ?_))))))
                          · refine .r (.p (.m rfl) ?_)
                            refine .does rfl (Does.callE rfl call96 rfl (dng_sem hp ht hk) .auto) ?_
                            rintro _ _ ⟨⟨⟩, -, rfl, rfl⟩
                            refine .n (.b ?_)
                            rw [show d.call = d.sem from by unfold Dng.call; repeat (first | rw [if_neg (by omega)] | rw [if_pos (by omega)])]
                            refine .end0 rfl fun w s => ⟨ps, ?_, trivial, finE .auto s⟩
                            rfl
                          · refine .r (.p (.m rfl) ?_)
                            refine .does rfl (Does.callE rfl call97 rfl (dng_kernel hp ht hk) .auto) ?_
                            rintro _ _ ⟨⟨⟩, -, rfl, rfl⟩
                            refine .n (.b ?_)
                            rw [show d.call = d.kernel from by unfold Dng.call; repeat (first | rw [if_neg (by omega)] | rw [if_pos (by omega)])]
                            refine .end0 rfl fun w s => ⟨ps, ?_, trivial, finE .auto s⟩
                            rfl

end Go.SLYtpcjdohmjmeehaaGreat
namespace Go.SLYtpcjdohmjmeehaaGreat
open Go Go.RowKit Go.Proofs Go.Proofs.Tryz

theorem next_codeH {W : World} {fv c1 c2 c3 c4 c5 c6 c7 : Value} {p : Prg} {f : Frm} (hl : p.funcs.length ≤ 1000000) (hl2 : ∀ g ∈ p.funcs, g.length ≤ 256) : Fn Tryz.prog W 60 [.agg #[fv, c1, c2, c3, c4, c5, c6, c7], .agg (frmE f).toArray] [codeH fv p.funcs] Unit (fun _ => nextR (nextI p f)) (fun _ => True) (fun _ => [codeH fv p.funcs]) :=
  Fn.byX1 fun fs hfs => frame_Next (A := seps [sl fstE 1 fv fs, allH (fun x => sl insE 5 x.1 x.2) fs]) (Rd.grp (Rd.sl .here)) (fun x hx => Rd.grp (rd_one (f := fun x : Value × List Ins => x.1) (g := fun x => x.2) hx (.there .here))) hfs (by rw [← List.length_map (f := (·.2)), hfs]; exact hl) (fun x hx => Nat.le_trans (hl2 _ (by rw [← hfs]; exact List.mem_map_of_mem hx)) (by decide))

set_option maxRecDepth 20000 in
theorem core_Run {W : World} {b : Nat} {s : Spc} {n choice : Int} (hO : SpcOk s) : Fn Tryz.prog W 17 [ptr b, .int .i64 n, .int .i64 choice] [spcH b s] Value (fun u => .tuple #[.agg (effE u (s.run n choice).1).toArray, .int .i64 (s.run n choice).2.1]) (fun _ => True) (fun u => [sl intE 1 u (s.run n choice).1.woken, spcH b (s.run n choice).2.2]) := by
  refine Fn.intro (N := 76) func17 rfl ntmps17 rfl fun F => ?_
  show GoC _ _ _ _ _ _ [spcH b s, F]
  refine .o1 (C := spcH b s) .auto rfl ?_
  rintro ps -
  refine .o10 (C := spcX b ps s) .auto rfl ?_
  rintro fv sv pv bt vm bg vt bk bw vr -
  refine .know (fun w st => st.fact .auto thrs_same) fun hs => ?_
  refine .s (.r ?_)
  refine .does rfl (Does.alloc rfl zeroValue36 rfl) ?_
  rintro _ _ ⟨b6, rfl, rfl⟩
  refine .p (.a rfl) (.n (.t (.s (.r (.p (.m rfl) (.p (.m rfl) ?_))))))
  refine .does rfl (Does.callE rfl call59 rfl core_at .auto) ?_
  rintro _ _ ⟨⟨⟩, -, rfl, rfl⟩
  refine .p (.a rfl) (.n (.t (.s (.b (.s (.r (.p (.m rfl) (.p (.eqp rfl rfl) (.p (.a rfl) (.n (.t (.cond rfl (fun h15 => ?_) (fun h15 => ?_)))))))))))))
  · have hap : atP ps n = none := by
      cases hh : atP ps n with
      | none => rfl
      | some p => rw [hh] at h15; cases h15
    refine .s (.r ?_)
    refine .p (.bld0 ([(.slice none 0 0), (.bool false), (.bool false), (.bool false)]) (by kernel_rfl)) ?_
    refine .does rfl (Does.sta (by exact sizeOf36) rfl rfl rfl (by rfl)) ?_
    rintro _ _ ⟨rfl, rfl⟩
    refine .p (.a rfl) (.n (.t (.e (.br (.tr ?_)))))
    rw [run_none (at_no hs hap hO.lt)]
    refine .retCT rfl rfl isAgg36 (by exact sizeOf36) Cells.a rfl fun w s => ⟨(.slice none 0 0), ?_, trivial, finE .auto s⟩
    rfl
  · obtain ⟨p, hap⟩ : ∃ p, atP ps n = some p := by
      cases hh : atP ps n with
      | none => rw [hh] at h15; cases h15
      | some p => exact ⟨p, rfl⟩
    rw [hap]
    obtain ⟨k, t, rfl, hk16, hp, ht, hat⟩ := at_yes hs hap hO.lt
    have hR := (hO.R k t ht).1
    have hpc := (hO.R k t ht).2
    refine .s (.r ?_)
    refine .o10 (C := spcX b ps s) .auto rfl ?_
    rintro fv sv pv bt vm bg vt bk bw vr -
    refine .fr .auto (thrs_out hp ht) ?_
    refine .p (.m rfl) (.p (.n rfl) (.p (.f rfl) (.p (.l rfl) (.p (.neq rfl rfl) (.p (.a rfl) (.n (.t (.condD rfl (fun h19 => ?_) (fun h19 => ?_)))))))))
    · refine .s (.r ?_)
      refine .p (.bld0 ([(.slice none 0 0), (.bool false), (.bool false), (.bool false)]) (by kernel_rfl)) ?_
      refine .does rfl (Does.sta (by exact sizeOf36) rfl rfl rfl (by rfl)) ?_
      rintro _ _ ⟨rfl, rfl⟩
      refine .p (.a rfl) (.n (.t (.e (.br (.tr ?_)))))
      refine .to (A := thrsH ps s.thr) (Bs := [arr p 0 (thrC t), thrsH (ps.set k none) (s.thr.set k none)]) .auto (thrs_keep hp ht) ?_
      rw [run_wait hat h19]
      refine .retCT rfl rfl isAgg36 (by exact sizeOf36) Cells.a rfl fun w s => ⟨(.slice none 0 0), ?_, trivial, finE .auto s⟩
      rfl
    · have hw0 : t.why = 0 := Decidable.not_not.mp h19
      refine .v (.b (.t (.s ?_)))
      refine .drawF [arr b 0 (spcC fv sv pv s.prg bt ps vm bg vt bk bw vr), arr p 0 (thrC t)] [0, 0, 0, 0, 0, 0, 0, 0, 2, 0, 0, 0, 4, 2, 0] [0, 1, 2, 3, 4, 5, 6, 7, 8, 9, 10, 11, 12, 13, 14] rfl (by kernel_rfl) ?_
      refine GoF.q rfl rfl rfl Kept.auto (Y.m rfl) ?_
      refine GoF.q rfl rfl rfl Kept.auto (Y.n rfl) ?_
      refine GoF.q rfl rfl rfl Kept.auto (Y.fieldAddrZ 25 underlying118 rfl sizeOf25 rfl) ?_
      refine GoF.q rfl rfl rfl Kept.auto (Y.lda isAgg25 rfl (Cells.part0 (ds := prgCells fv sv pv s.prg) (Cells.a (cs := spcC fv sv pv s.prg bt ps vm bg vt bk bw vr)) rfl) (by exact sizeOf25)) ?_
      refine GoF.q rfl rfl rfl Kept.auto (Y.m rfl) ?_
      refine GoF.q rfl rfl rfl Kept.auto (Y.n rfl) ?_
      refine GoF.q rfl rfl rfl Kept.auto (Y.fieldAddrZ 131 underlying133 rfl sizeOf131 rfl) ?_
      refine GoF.q rfl rfl rfl Kept.auto (Y.lda isAgg131 rfl (Cells.part0 (ds := frmE t.frm) (Cells.a (cs := thrC t)) rfl) (by exact sizeOf131)) ?_
      refine GoF.callE rfl (.inl rfl) rfl (fun _ => Kept.auto) call60 rfl (next_codeH (p := s.prg) (f := t.frm) hO.codel.1 hO.codel.2) .auto (fun _ _ => Kept.auto) ?_
      rintro ⟨⟩ -
      refine GoF.q rfl rfl rfl Kept.auto (Y.m rfl) ?_
      refine GoF.q rfl rfl rfl Kept.auto (Y.extract (v := .agg (insE ((nextI s.prg t.frm).getD Ins.z)).toArray) rfl rfl) ?_
      refine GoF.q rfl rfl rfl Kept.auto (Y.extract (v := .bool (nextI s.prg t.frm).isSome) rfl rfl) ?_
      refine GoF.fresh rfl rfl rfl (by decide) Kept.auto (fresh_alloc zeroValue123 rfl) ?_
      rintro b9
      refine GoF.sta2 rfl rfl (by exact sizeOf123) rfl rfl rfl (by rfl) Kept.auto Kept.auto ?_
      refine GoF.q rfl rfl rfl Kept.auto (Y.a rfl) ?_
      refine GoF.nil ?_
      refine .t (.s (.r (.p (.m rfl) (.p (.m rfl) (.p (.m rfl) (.p (.lA rfl) (.p (.m rfl) ?_)))))))
      refine .p (.bld5 (fun _ _ _ _ _ => dngC b p (s.doing k ((nextI s.prg t.frm).getD Ins.z) choice) (.slice none 0 0) (.slice none 0 0)) rfl rfl rfl rfl rfl (by kernel_rfl)) ?_
      refine .does rfl (Does.box rfl rfl rfl) ?_
      rintro _ _ ⟨b44, rfl, rfl⟩
      refine .p (.a rfl) (.n (.t (.s (.b (.s (.r (.p (.m rfl) (.p (.not rfl) (.p (.a rfl) (.n (.t (.cond rfl (fun h56 => ?_) (fun h56 => ?_)))))))))))))
      · have hn : (nextI s.prg t.frm) = none := Option.isNone_iff_eq_none.mp (by simpa using h56)
        refine .s (.r (.p (.m rfl) ?_))
        refine .p (.bld1 (fun v1 => [v1, (.int .i64 0), (.int .i64 0), (.int .i64 0), (.int .u64 0)]) rfl (by kernel_rfl)) ?_
        refine .p (.n rfl) (.p (.f rfl) ?_)
        refine .does rfl (Does.stp (vs := insE ⟨23, 0, 0, 0, 0⟩) (by exact sizeOf123) rfl rfl rfl rfl) ?_
        rintro _ _ ⟨rfl, rfl⟩
        rw [show setFrom (dngC b p (s.doing k ((nextI s.prg t.frm).getD Ins.z) choice) (.slice none 0 0) (.slice none 0 0)) 3 (insE ⟨23, 0, 0, 0, 0⟩) = dngC b p (s.doing k ⟨23, 0, 0, 0, 0⟩ choice) (.slice none 0 0) (.slice none 0 0) from rfl]
        refine .n (.t (.s (.r (.p (.m rfl) ?_))))
        refine .to (A := thrsH ps s.thr) (Bs := [arr p 0 (thrC t), thrsH (ps.set k none) (s.thr.set k none)]) .auto (thrs_keep hp ht) ?_
        refine .does rfl (Does.callE rfl call61 rfl (dng_tell (d := (s.doing k ⟨23, 0, 0, 0, 0⟩ choice)) hp ht (Nat.le_trans hO.recs (by decide))) .auto) ?_
        rintro _ _ ⟨⟨⟩, -, rfl, rfl⟩
        refine .n (.t (.r (.p (.m rfl) ?_)))
        refine .does rfl (Does.callE rfl call62 rfl (dng_fin (d := (s.doing k ⟨23, 0, 0, 0, 0⟩ choice).tell 0 0 0 true) hp ht hO.lt (hs.1.trans hO.lt) hO.T hR (Nat.zero_le _) (Nat.zero_le _) (hO.joins hs ht hw0)) .auto) ?_
        rintro _ _ ⟨qs, -, rfl, rfl⟩
        refine .n (.b (.t (.s (.r (.p (.m rfl) ?_)))))
        refine .does rfl (Does.callE rfl call66 rfl (dng_finish (d := (((s.doing k ⟨23, 0, 0, 0, 0⟩ choice).tell 0 0 0 true).fin 0)) (Nat.le_trans (grew_tell.trans grew_fin).1 (by have := hO.recs; show s.recs.length + _ ≤ _; omega)) (Nat.le_trans (grew_tell.trans grew_fin).2 (by show 0 + _ ≤ _; decide))) .auto) ?_
        rintro _ _ ⟨u75, -, rfl, rfl⟩
        refine .does rfl (Does.staS (vs := [.bool (((s.doing k ⟨23, 0, 0, 0, 0⟩ choice).tell 0 0 0 true).fin 0).finish.1.stopped, .bool (((s.doing k ⟨23, 0, 0, 0, 0⟩ choice).tell 0 0 0 true).fin 0).finish.1.ended, .bool (((s.doing k ⟨23, 0, 0, 0, 0⟩ choice).tell 0 0 0 true).fin 0).finish.1.yielded]) (by exact sizeOf36) rfl rfl rfl rfl) ?_
        rintro _ _ ⟨rfl, rfl⟩
        refine .p (.a rfl) (.n (.t (.e ?_)))
        rw [run_end hat h19 hn rfl]
        refine .retCT rfl rfl isAgg36 (by exact sizeOf36) Cells.a rfl fun w s => ⟨u75, ?_, trivial, finE .auto s⟩
        rfl
      · obtain ⟨i, hn⟩ : ∃ i, (nextI s.prg t.frm) = some i := Option.isSome_iff_exists.mp (by simpa using h56)
        rw [show ((nextI s.prg t.frm).getD Ins.z) = i from by rw [hn]; rfl]
        obtain ⟨hI, hIn, hIt⟩ := next_code hO hn
        refine .s (.r (.p (.z rfl) (.p (.l rfl) ?_)))
        refine .does rfl (Does.callE rfl call63 rfl inst_Class .auto) ?_
        rintro _ _ ⟨⟨⟩, -, rfl, rfl⟩
        refine .p (.eql rfl rfl) (.p (.a rfl) (.n (.t (.condD rfl (fun h67 => ?_) (fun h67 => ?_)))))
        · refine .r (.p (.m rfl) ?_)
          refine .to (A := thrsH ps s.thr) (Bs := [arr p 0 (thrC t), thrsH (ps.set k none) (s.thr.set k none)]) .auto (thrs_keep hp ht) ?_
          refine .does rfl (Does.callE rfl call64 rfl (dng_plain (d := (s.doing k i choice)) hp ht hI (hR.frm hpc) h67 hO.mem (Nat.le_trans hO.recs (by decide)) hO.lt (hs.1.trans hO.lt) hO.T hR (Nat.zero_le _) (Nat.zero_le _) (hO.joins hs ht hw0)) .auto) ?_
          rintro _ _ ⟨qs, -, rfl, rfl⟩
          refine .n (.b (.t (.s (.r (.p (.m rfl) ?_)))))
          refine .does rfl (Does.callE rfl call66 rfl (dng_finish (d := (s.doing k i choice).plain) (Nat.le_trans (grew_plain).1 (by have := hO.recs; show s.recs.length + _ ≤ _; omega)) (Nat.le_trans (grew_plain).2 (by show 0 + _ ≤ _; decide))) .auto) ?_
          rintro _ _ ⟨u75, -, rfl, rfl⟩
          refine .does rfl (Does.staS (vs := [.bool (s.doing k i choice).plain.finish.1.stopped, .bool (s.doing k i choice).plain.finish.1.ended, .bool (s.doing k i choice).plain.finish.1.yielded]) (by exact sizeOf36) rfl rfl rfl rfl) ?_
          rintro _ _ ⟨rfl, rfl⟩
          refine .p (.a rfl) (.n (.t (.e ?_)))
          rw [run_plain hat h19 hn h67 rfl]
          refine .retCT rfl rfl isAgg36 (by exact sizeOf36) Cells.a rfl fun w s => ⟨u75, ?_, trivial, finE .auto s⟩
          rfl
        · refine .s (.r (.p (.m rfl) (.p (.n rfl) (.p (.z rfl) (.p (.f rfl) (.p (.l rfl) ?_))))))
          refine .p (.add rfl rfl (by omega)) ?_
          refine .p (.n rfl) (.p (.z rfl) (.p (.f rfl) ?_))
          refine .does rfl (Does.st sizeOf3 rfl rfl rfl rfl) ?_
          rintro _ _ ⟨rfl, rfl⟩
          rw [thr_pc]
          refine .n (.t (.r (.p (.m rfl) ?_)))
          refine .to (A := thrsH ps (s.thr.set k (some ({ t with pc := t.pc + 1 })))) (Bs := [arr p 0 (thrC ({ t with pc := t.pc + 1 })), thrsH (ps.set k none) (s.thr.set k none)]) .auto (thrs_shut (List.getElem?_eq_some_iff.1 ht).1 hp) ?_
          refine .does rfl (Does.callE rfl call65 rfl (dng_call (d := ((s.doing k i choice).setT { t with pc := t.pc + 1 })) hp (setT_same ht) (hO.call hs ht hw0 hI (hIn h67) hIt)) .auto) ?_
          rintro _ _ ⟨qs, -, rfl, rfl⟩
          refine .n (.b (.t (.s (.r (.p (.m rfl) ?_)))))
          refine .does rfl (Does.callE rfl call66 rfl (dng_finish (d := ((s.doing k i choice).setT { t with pc := t.pc + 1 }).call) (Nat.le_trans (grew_call hO.gsm.2).1 (by have := hO.recs; show s.recs.length + _ ≤ _; omega)) (Nat.le_trans (grew_call hO.gsm.2).2 (by show 0 + _ ≤ _; decide))) .auto) ?_
          rintro _ _ ⟨u75, -, rfl, rfl⟩
          refine .does rfl (Does.staS (vs := [.bool ((s.doing k i choice).setT { t with pc := t.pc + 1 }).call.finish.1.stopped, .bool ((s.doing k i choice).setT { t with pc := t.pc + 1 }).call.finish.1.ended, .bool ((s.doing k i choice).setT { t with pc := t.pc + 1 }).call.finish.1.yielded]) (by exact sizeOf36) rfl rfl rfl rfl) ?_
          rintro _ _ ⟨rfl, rfl⟩
          refine .p (.a rfl) (.n (.t (.e ?_)))
          rw [run_call hat h19 hn h67 rfl]
          refine .retCT rfl rfl isAgg36 (by exact sizeOf36) Cells.a rfl fun w s => ⟨u75, ?_, trivial, finE .auto s⟩
          rfl

end Go.SLYtpcjdohmjmeehaaGreat
namespace Go.SLYtpcjdohmjmeehaaGreat
open Go Go.RowKit Go.Proofs Go.Proofs.Tryz

set_option maxRecDepth 20000 in
theorem core_atN {W : World} {n : Int} : Fn Tryz.prog W 59 [.pointer none, .int .i64 n] [] Unit (fun _ => .pointer none) (fun _ => True) (fun _ => []) := by
  refine Fn.intro (N := 21) func59 rfl ntmps59 rfl fun F => ?_
  show GoC _ _ _ _ _ _ [F]
  refine .s (.r (.p (.a rfl) (.n (.t (.s (.s (.r (.p (.m rfl) (.p (.eqp rfl rfl) (.p (.m rfl) (.u (.u (.p (.t rfl rfl) (.p (.m rfl) (.u (.u (.p (.t rfl rfl) (.n (.t (.condT rfl ?_))))))))))))))))))))
  refine .s (.r (.p (.a rfl) (.n (.t (.e (.tr (.ret1 rfl rfl fun w s => ⟨(), ?_, trivial, finE .auto s⟩)))))))
  rfl

set_option maxRecDepth 20000 in
theorem core_LookN {W : World} {n : Int} : Fn Tryz.prog W 30 [.pointer none, .int .i64 n] [] Unit (fun _ => .tuple #[.agg (thdE thrY).toArray, .bool false]) (fun _ => True) (fun _ => []) := by
  refine Fn.intro (N := 41) func30 rfl ntmps30 rfl fun F => ?_
  show GoC _ _ _ _ _ _ [F]
  refine .s (.r ?_)
  refine .does rfl (Does.alloc rfl zeroValue59 rfl) ?_
  rintro _ _ ⟨b4, rfl, rfl⟩
  refine .p (.a rfl) (.n (.t (.s (.r (.p (.m rfl) (.p (.m rfl) ?_))))))
  refine .does rfl (Does.callE rfl call59 rfl core_atN .auto) ?_
  rintro _ _ ⟨⟨⟩, -, rfl, rfl⟩
  refine .p (.a rfl) (.n (.t (.s (.s (.r (.p (.m rfl) (.p (.eqp rfl rfl) (.n (.t (.condT rfl ?_))))))))))
  refine .s (.r ?_)
  refine .p (.bld0 ([(.int .u64 0), (.int .i64 0), (.int .i64 0), (.int .i64 0), (.int .u64 0), (.int .u64 0), (.int .u64 0), (.int .u64 0), (.int .u64 0), (.int .u64 0), (.int .u64 0), (.int .u64 0), (.int .u64 0)]) (by kernel_rfl)) ?_
  refine .does rfl (Does.sta (by exact sizeOf59) rfl rfl rfl (by rfl)) ?_
  rintro _ _ ⟨rfl, rfl⟩
  refine .p (.a rfl) (.n (.t (.e (.tr ?_))))
  refine .retCT rfl rfl isAgg59 (by exact sizeOf59) Cells.a rfl fun w s => ⟨(), ?_, trivial, finE .auto s⟩
  rfl

set_option maxRecDepth 20000 in
theorem core_ReadyN {W : World}  : Fn Tryz.prog W 22 [.pointer none] [] Unit (fun _ => (.slice none 0 0)) (fun _ => True) (fun _ => []) := by
  refine Fn.intro (N := 31) func22 rfl ntmps22 rfl fun F => ?_
  show GoC _ _ _ _ _ _ [F]
  refine .s (.r (.p (.a rfl) (.n (.t (.s (.s (.r (.p (.m rfl) (.p (.eqp rfl rfl) (.n (.t (.condT rfl ?_))))))))))))
  refine .s (.r (.p (.a rfl) (.n (.t (.e (.tr (.ret1 rfl rfl fun w s => ⟨(), ?_, trivial, finE .auto s⟩)))))))
  rfl

set_option maxRecDepth 20000 in
theorem core_RecordsN {W : World}  : Fn Tryz.prog W 20 [.pointer none] [] Unit (fun _ => (.slice none 0 0)) (fun _ => True) (fun _ => []) := by
  refine Fn.intro (N := 11) func20 rfl ntmps20 rfl fun F => ?_
  show GoC _ _ _ _ _ _ [F]
  refine .s (.r (.p (.a rfl) (.n (.t (.s (.s (.r (.p (.m rfl) (.p (.eqp rfl rfl) (.n (.t (.condT rfl ?_))))))))))))
  refine .s (.r (.p (.a rfl) (.n (.t (.e (.tr (.ret1 rfl rfl fun w s => ⟨(), ?_, trivial, finE .auto s⟩)))))))
  rfl

set_option maxRecDepth 20000 in
theorem core_MemoryN {W : World}  : Fn Tryz.prog W 26 [.pointer none] [] Unit (fun _ => (.slice none 0 0)) (fun _ => True) (fun _ => []) := by
  refine Fn.intro (N := 11) func26 rfl ntmps26 rfl fun F => ?_
  show GoC _ _ _ _ _ _ [F]
  refine .s (.r (.p (.a rfl) (.n (.t (.s (.s (.r (.p (.m rfl) (.p (.eqp rfl rfl) (.n (.t (.condT rfl ?_))))))))))))
  refine .s (.r (.p (.a rfl) (.n (.t (.e (.tr (.ret1 rfl rfl fun w s => ⟨(), ?_, trivial, finE .auto s⟩)))))))
  rfl

set_option maxRecDepth 20000 in
theorem spc_wakeP {W : World} {b p : Nat} {ps : List (Option Nat)} {pr : Prg} {n : Nat} {t : Thr} {fv sv pv : Value} {bt : Nat} {vm : Value} {bg : Nat} {vt : Value} {bk bw : Nat} {vr : Value} (hp : ps[n]? = some (some p)) (hn16 : n < 16) (hR : ThrR t) {y : Int} : Fn Tryz.prog W 68 [ptr b, .int .i64 (n : Int), .int .u64 y] [arr b 0 (spcC fv sv pv pr bt ps vm bg vt bk bw vr), arr p 0 (thrC t)] Unit (fun _ => .agg (recE (t.woke y)).toArray) (fun _ => True) (fun _ => [arr b 0 (spcC fv sv pv pr bt ps vm bg vt bk bw vr), arr p 0 (thrC (t.wakes y))]) := by
  refine Fn.intro (N := 50) func68 rfl ntmps68 rfl fun F => ?_
  show GoC _ _ _ _ _ _ [arr b 0 (spcC fv sv pv pr bt ps vm bg vt bk bw vr), arr p 0 (thrC t), F]
  have hRl := hR.l
  have hRi := hR.i
  refine .s (.r ?_)
  refine .does rfl (Does.alloc rfl zeroValue45 rfl) ?_
  rintro _ _ ⟨b6, rfl, rfl⟩
  refine .n (.t (.s (.r (.p (.m rfl) (.p (.m rfl) (.p (.n rfl) (.p (.f rfl) ?_)))))))
  refine .p (.ixArr n underlying115 sizeOf114 rfl rfl rfl hn16) ?_
  refine .p (.ld rfl (Cell.a (by rw [Nat.mul_one, spcC_get hn16, getD_of hp]))) ?_
  refine .p (.a rfl) (.n (.t ?_))
  refine .cutK (X := Unit) [2, 14, 15, 16, 17, 18, 19, 20, 21, 22, 23, 24, 25, 26, 27, 28] (fun _ => True) (fun _ => [(2, some (.int .u64 (if t.into = -1 then 0 else y)))]) (fun _ => [arr p 0 (thrC (if t.into = -1 then t else t.put t.into y)), arr b6 0 [.int .u64 0, .int .i64 0, .int .u64 0, .int .u64 0, .int .i64 0, .bool false], arr b 0 (spcC fv sv pv pr bt ps vm bg vt bk bw vr), F]) ?_ ?_
  · refine .s (.r (.p (.m rfl) (.p (.n rfl) (.p (.f rfl) (.p (.l rfl) (.p (.neq rfl rfl) (.n (.t (.condD rfl (fun h18 => ?_) (fun h18 => ?_))))))))))
    · refine .draw [arr p 0 (thrC t)] [1, 1, 1, 1, 1, 1, 1, 1, 1, 1, 3] rfl (by kernel_rfl) ?_
      refine .p (.m rfl) (.p (.m rfl) (.p (.n rfl) (.p (.f rfl) (.p (.l rfl) (.p (.m rfl) ?_)))))
      refine .p (.n rfl) (.p (.z rfl) (.p (.f rfl) ?_))
      refine .p (.ixArr t.into.toNat underlying57 sizeOf43 rfl rfl (by omega) (by omega)) ?_
      refine .d3 rfl (Does.st sizeOf43 rfl rfl rfl (Nat.blt_eq.mpr (by show 2 + t.into.toNat * 1 < 18; omega))) ?_
      rintro _ _ ⟨rfl, rfl⟩
      rw [thr_setI y (by omega) (by omega) hRl]
      refine .n ?_
      refine .midK () .auto ?_ ?_ ?_
      · trivial
      · rw [if_neg (by omega)]; exact ⟨rfl, trivial⟩
      · rw [if_neg (by omega)]; exact fun w s => Ent.kept .auto w s
    · refine .r (.p (.a rfl) (.n ?_))
      refine .midK () .auto ?_ ?_ ?_
      · trivial
      · rw [if_pos (by omega)]; exact ⟨rfl, trivial⟩
      · rw [if_pos (by omega)]; exact fun w s => Ent.kept .auto w s
  · rintro ⟨⟩ -
    obtain ⟨y1, hy1⟩ : ∃ y1, y1 = (if t.into = -1 then 0 else y) := ⟨_, rfl⟩
    obtain ⟨t1, h1⟩ : ∃ t1, t1 = (if t.into = -1 then t else t.put t.into y) := ⟨_, rfl⟩
    have h1l : t1.regs.length = 8 := by
      rw [h1]
      split
      · exact hRl
      · rw [put_len]; exact hRl
    have h1h : t1.handle = t.handle ∧ t1.op = t.op := by
      rw [h1]
      split <;> exact ⟨rfl, rfl⟩
    rw [← hy1, ← h1]
    refine .s (.r (.p (.m rfl) (.p (.n rfl) (.p (.z rfl) (.p (.f rfl) ?_)))))
    refine .p (.ixArr 7 underlying57 sizeOf43 rfl rfl (by omega) (by omega)) ?_
    refine .does rfl (Does.st sizeOf43 rfl rfl rfl rfl) ?_
    rintro _ _ ⟨rfl, rfl⟩
    rw [thr_set (n := 7) 0 (by decide) h1l]
    refine .n (.t (.s (.r (.p (.m rfl) (.p (.m rfl) (.p (.n rfl) (.p (.f rfl) ?_)))))))
    refine .does rfl (Does.st sizeOf3 rfl rfl rfl rfl) ?_
    rintro _ _ ⟨rfl, rfl⟩
    rw [thr_why]
    refine .p (.n rfl) (.p (.f rfl) ?_)
    refine .does rfl (Does.st sizeOf3 rfl rfl rfl rfl) ?_
    rintro _ _ ⟨rfl, rfl⟩
    rw [thr_into]
    refine .n (.t (.s ?_))
    refine .draw [arr p 0 (thrC { t1.put 7 0 with why := 0, into := -1 })] [1, 1, 1, 1, 1, 1, 1, 1, 1, 1, 3] rfl (by kernel_rfl) ?_
    refine .p (.m rfl) (.p (.n rfl) (.p (.f rfl) (.p (.l rfl) (.p (.m rfl) ?_))))
    refine .p (.n rfl) (.p (.f rfl) (.p (.l rfl) (.p (.m rfl) ?_)))
    refine .p (.bld4 (fun v1 v2 v3 v4 => [v1, v2, (.int .u64 0), v3, (.int .i64 0), v4]) rfl rfl rfl rfl (by kernel_rfl)) ?_
    refine .d3 rfl (Does.sta (by exact sizeOf45) rfl rfl rfl (by rfl)) ?_
    rintro _ _ ⟨rfl, rfl⟩
    refine .n (.t (.e ?_))
    rw [wake_eq t1 h1]
    refine .retC rfl rfl isAgg45 (by exact sizeOf45) Cells.a fun w s => ⟨(), ?_, trivial, finE .auto s⟩
    show Ending.returned (Value.agg #[.int .u64 t1.handle, .int .i64 t1.op, .int .u64 0, .int .u64 y1, .int .i64 0, .bool true]) = _; rw [h1h.1, h1h.2, hy1]; rfl

set_option maxRecDepth 20000 in
theorem core_Done {W : World} {b : Nat} {s : Spc} {k : Int} (hO : SpcOk s) : Fn Tryz.prog W 18 [ptr b, .int .i64 k] [spcH b s] Value (fun u => .tuple #[.agg (effE u (s.done k).1).toArray, .int .i64 (s.done k).2.1]) (fun _ => True) (fun u => [sl intE 1 u (s.done k).1.woken, spcH b (s.done k).2.2]) := by
  refine Fn.intro (N := 43) func18 rfl ntmps18 rfl fun F => ?_
  show GoC _ _ _ _ _ _ [spcH b s, F]
  refine .o1 (C := spcH b s) .auto rfl ?_
  rintro ps -
  refine .o10 (C := spcX b ps s) .auto rfl ?_
  rintro fv sv pv bt vm bg vt bk bw vr -
  refine .know (fun w st => st.fact .auto thrs_same) fun hs => ?_
  refine .s (.r ?_)
  refine .does rfl (Does.alloc rfl zeroValue36 rfl) ?_
  rintro _ _ ⟨b4, rfl, rfl⟩
  refine .p (.a rfl) (.n (.t (.s (.s (.r (.p (.m rfl) (.p (.eqp rfl rfl) (.n (.t (.condF rfl ?_))))))))))
  refine .v (.t (.s (.r (.p (.m rfl) (.p (.n rfl) (.p (.f rfl) (.p (.l rfl) (.p (.m rfl) ?_))))))))
  refine .does rfl (Does.callE rfl call67 rfl (disk_Done hO.dw hO.db) .auto) ?_
  rintro _ _ ⟨⟨⟩, -, rfl, rfl⟩
  refine .p (.m rfl) ?_
  refine .p (.extract (v := .agg (rqsE (s.disk.done k).1).toArray) rfl rfl) ?_
  refine .p (.extract (v := .int .u64 (s.disk.done k).2.1) rfl rfl) ?_
  refine .p (.extract (v := .bool (s.disk.done k).2.2.1) rfl rfl) ?_
  refine .does rfl (Does.alloc rfl zeroValue142 rfl) ?_
  rintro _ _ ⟨b6, rfl, rfl⟩
  refine .does rfl (Does.sta (by exact sizeOf142) rfl rfl rfl (by rfl)) ?_
  rintro _ _ ⟨rfl, rfl⟩
  refine .p (.a rfl) (.p (.a rfl) (.n (.t (.s (.s (.r (.p (.m rfl) (.p (.not rfl) (.n (.t (.cond rfl (fun h23 => ?_) (fun h23 => ?_))))))))))))
  · refine .s (.r ?_)
    refine .p (.bld0 ([(.slice none 0 0), (.bool false), (.bool false), (.bool false)]) (by kernel_rfl)) ?_
    refine .does rfl (Does.sta (by exact sizeOf36) rfl rfl rfl (by rfl)) ?_
    rintro _ _ ⟨rfl, rfl⟩
    refine .p (.a rfl) (.n (.t (.e (.tr ?_))))
    rw [spc_done_no (by simpa using h23)]
    rw [done_same (by simpa using h23)]
    refine .retCT rfl rfl isAgg36 (by exact sizeOf36) Cells.a rfl fun w s => ⟨(.slice none 0 0), ?_, trivial, finE .auto s⟩
    rfl
  · have hd1 : (s.disk.done k).2.2.1 = true := by simpa using h23
    obtain ⟨hdm, -⟩ := done_fst hd1
    obtain ⟨hw0, t, ht⟩ := hO.dlive _ hdm
    obtain ⟨hn16, q, t2, hq, ht2, hR⟩ := hO.live hs ht
    have e2 := Option.some.inj (ht.symm.trans ht2)
    obtain rfl := Option.some.inj e2
    obtain ⟨m, hm⟩ : ∃ m : Nat, (s.disk.done k).1.who.toNat = m := ⟨_, rfl⟩
    rw [hm] at ht hn16 hq
    have hmc : (s.disk.done k).1.who = (m : Int) := by omega
    refine .v (.t (.s ?_))
    refine .fr .auto (thrs_out hq ht) ?_
    refine .draw [arr b6 0 (rqsE (s.disk.done k).1), arr b 0 (spcC fv sv pv s.prg bt ps vm bg vt bk bw vr)] [0, 0, 0, 0, 0, 1, 1, 1, 1, 2, 2, 2, 1, 1, 3] rfl (by kernel_rfl) ?_
    refine .q (.m rfl) (.q (.m rfl) (.q (.n rfl) (.q (.f rfl) (.q (.l rfl) (.p (.m rfl) (.p (.z rfl) (.p (.l rfl) ?_)))))))
    rw [hmc]
    refine .p (.m rfl) ?_
    refine .d2 rfl Kept.auto (Does.callE rfl call68 rfl (spc_wakeP hq hn16 hR) .auto) (by rintro _ _ ⟨⟨⟩, -, rfl, rfl⟩; exact Kept.auto) ?_
    rintro _ _ ⟨⟨⟩, -, rfl, rfl⟩
    refine .d2 rfl Kept.auto (Does.bsl 45 rfl rfl (by kernel_rfl)) (by rintro _ _ ⟨b35, rfl, rfl⟩; exact Kept.auto) ?_
    rintro _ _ ⟨b35, rfl, rfl⟩
    refine .d2 rfl Kept.auto (Does.app1 (enc := recE) (k := 6) (t.woke (s.disk.done k).2.1) rfl underlying32 underlying32 typeInfo45 rfl rfl rfl (by decide) rfl rfl rfl .auto rfl .auto (by have := hO.recs; omega) rfl) (by rintro _ _ ⟨v36, rfl, rfl⟩; exact Kept.auto) ?_
    rintro _ _ ⟨v36, rfl, rfl⟩
    refine .p (.n rfl) (.p (.f rfl) ?_)
    refine .d3 rfl (Does.stS sizeOf32 rfl rfl rfl) ?_
    rintro _ _ ⟨rfl, rfl⟩
    rw [spc_recs]
    refine .n (.t (.s (.r (.p (.z rfl) (.p (.l rfl) ?_)))))
    rw [hmc]
    refine .does rfl (Does.bsl 3 rfl rfl (by kernel_rfl)) ?_
    rintro _ _ ⟨b41, rfl, rfl⟩
    refine .p (.bld1 (fun v1 => [v1, .bool false, .bool false, .bool false]) rfl (by kernel_rfl)) ?_
    refine .does rfl (Does.sta (vs := [.slice (some ⟨b41, 0, none⟩) 1 1, .bool false, .bool false, .bool false]) (by exact sizeOf36) rfl rfl rfl (by rfl)) ?_
    rintro _ _ ⟨rfl, rfl⟩
    refine .to (A := sl intE 1 (.slice (some ⟨b41, 0, none⟩) 1 1) [(m : Int)]) (Bs := [arr b41 0 [.int .i64 (m : Int)]]) .auto sl_one ?_
    refine .p (.a rfl) (.n (.t (.e ?_)))
    refine .to (A := thrsH ps (s.thr.set m (some (t.wakes (s.disk.done k).2.1)))) (Bs := [arr q 0 (thrC (t.wakes (s.disk.done k).2.1)), thrsH (ps.set m none) (s.thr.set m none)]) .auto (thrs_shut (List.getElem?_eq_some_iff.1 ht).1 hq) ?_
    rw [spc_done_ok hd1 (by rw [hm]; exact ht), hm, hmc, show (({ s with disk := (s.disk.done k).2.2.2 } : Spc).wake m (s.disk.done k).2.1) = ({ s with disk := (s.disk.done k).2.2.2 } : Spc).setT m (t.wakes (s.disk.done k).2.1) from by unfold Spc.wake; rw [spc_t (s := ({ s with disk := (s.disk.done k).2.2.2 } : Spc)) ht]]
    refine .retCT rfl rfl isAgg36 (by exact sizeOf36) Cells.a rfl fun w s => ⟨(.slice (some ⟨b41, 0, none⟩) 1 1), ?_, trivial, finE .auto s⟩
    rfl

end Go.SLYtpcjdohmjmeehaaGreat
namespace Go.SLYtpcjdohmjmeehaaGreat
open Go Go.RowKit Go.Proofs Go.Proofs.Tryz

set_option maxRecDepth 20000 in
theorem core_Tick {W : World} {b : Nat} {s : Spc} (hO : SpcOk s) : Fn Tryz.prog W 19 [ptr b] [spcH b s] Value (fun u => .agg (effE u s.tick.1).toArray) (fun _ => True) (fun u => [sl intE 1 u s.wheel.due, spcH b s.tick.2]) := by
  refine Fn.intro (N := 35) func19 rfl ntmps19 rfl fun F => ?_
  show GoC _ _ _ _ _ _ [spcH b s, F]
  refine .o1 (C := spcH b s) .auto rfl ?_
  rintro ps -
  refine .o10 (C := spcX b ps s) .auto rfl ?_
  rintro fv sv pv bt vm bg vt bk bw vr -
  refine .know (fun w st => st.fact .auto thrs_same) fun hs => ?_
  have hdl := Nat.le_trans (due_len2 s.wheel) hO.wl
  have hrl := hO.recs
  refine .s (.r ?_)
  refine .does rfl (Does.alloc rfl zeroValue36 rfl) ?_
  rintro _ _ ⟨b2, rfl, rfl⟩
  refine .n (.t (.s (.s (.r (.p (.m rfl) (.p (.eqp rfl rfl) (.n (.t (.condF rfl ?_)))))))))
  refine .v (.t (.s (.r (.p (.m rfl) (.p (.n rfl) (.p (.f rfl) (.p (.l rfl) ?_)))))))
  refine .does rfl (Does.callE rfl call69 rfl (wheel_Tick hO.wn hO.wl) .auto) ?_
  rintro _ _ ⟨u13, -, rfl, rfl⟩
  refine .p (.a rfl) (.n (.t (.s (.s (.r (.p (.m rfl) (.p (.len rfl) (.p (.m rfl) (.n (.t (.b ?_)))))))))))
  refine .loopK (X := Nat) [5, 16, 17, 18, 19, 20, 21, 22, 23, 24, 25, 26, 27, 28, 29, 30, 31, 32] (fun k => s.wheel.due.length - k) (fun k => k ≤ s.wheel.due.length) (fun k => [(16, some (.int .i64 (k : Int)))]) (fun k => [spcX b ps (wakeAll ({ s with wheel := s.wheel.tick.2 } : Spc) (s.wheel.due.take k)), sl intE 1 u13 s.wheel.due, arr b2 0 [.slice none 0 0, .bool false, .bool false, .bool false], F]) 0 ?_ ?_ ?_ ?_
  · exact Nat.zero_le _
  · exact ⟨rfl, trivial⟩
  · exact fun w s => Ent.kept .auto w s
  rintro k hk
  refine .s (.r (.p (.lss rfl rfl) (.n (.t (.s (.condD rfl (fun h17 => ?_) (fun h17 => ?_)))))))
  · refine .v (.t (.s (.b (.s (.r ?_)))))
    refine .p (.ix _ rfl rfl rfl (by first | omega | decide)) ?_
    obtain ⟨x, hx⟩ := at_some (show k < s.wheel.due.length by omega)
    have hdl2 : ∀ x ∈ s.wheel.due, 0 ≤ x ∧ LiveAt ps s x.toNat := fun x hx => by
      obtain ⟨y, hy, e⟩ := due_mem hx
      obtain ⟨h0, u, hu⟩ := hO.wlive y hy
      rw [e] at h0 hu
      exact ⟨h0, hO.live hs hu⟩
    obtain ⟨hx0, hxl⟩ := hdl2 x (List.mem_of_getElem? hx)
    obtain ⟨hn16, q, t, hq, ht, hR⟩ := live_wakeAll x.toNat (s.wheel.due.take k) ({ s with wheel := s.wheel.tick.2 } : Spc) (hxl.of rfl) (fun z hz => (hdl2 z (List.mem_of_mem_take hz)).2.of rfl)
    have hwr := wakeAll_recs ({ s with wheel := s.wheel.tick.2 } : Spc) (s.wheel.due.take k)
    rw [List.length_take] at hwr
    simp only at hwr
    have hxc : x = ((x.toNat : Nat) : Int) := by omega
    refine .p (.lr rfl ‹_›) ?_
    refine .p (.a rfl) (.n (.t ?_))
    refine .o10 (C := spcX b ps (wakeAll ({ s with wheel := s.wheel.tick.2 } : Spc) (s.wheel.due.take k))) .auto rfl ?_
    rintro fv sv pv bt vm bg vt bk bw vr -
    refine .fr .auto (thrs_out hq ht) ?_
    refine .draw [arr b 0 (spcC fv sv pv (wakeAll ({ s with wheel := s.wheel.tick.2 } : Spc) (s.wheel.due.take k)).prg bt ps vm bg vt bk bw vr)] [0, 0, 0, 0, 0, 1, 1, 2, 2, 2, 1, 1, 3] rfl (by kernel_rfl) ?_
    rw [hxc]
    refine .q (.m rfl) (.q (.m rfl) (.q (.n rfl) (.q (.f rfl) (.q (.l rfl) (.p (.m rfl) (.p (.m rfl) ?_))))))
    refine .d2 rfl Kept.auto (Does.callE rfl call68 rfl (spc_wakeP (n := x.toNat) hq hn16 hR) .auto) (by rintro _ _ ⟨⟨⟩, -, rfl, rfl⟩; exact Kept.auto) ?_
    rintro _ _ ⟨⟨⟩, -, rfl, rfl⟩
    refine .d2 rfl Kept.auto (Does.bsl 45 rfl rfl (by kernel_rfl)) (by rintro _ _ ⟨b28, rfl, rfl⟩; exact Kept.auto) ?_
    rintro _ _ ⟨b28, rfl, rfl⟩
    refine .d2 rfl Kept.auto (Does.app1 (enc := recE) (k := 6) (t.woke 0) rfl underlying32 underlying32 typeInfo45 rfl rfl rfl (by decide) rfl rfl rfl .auto rfl .auto (by have e : (wakeAll ({ s with wheel := s.wheel.tick.2 } : Spc) (s.wheel.due.take k)).recs.length = s.recs.length + min k s.wheel.due.length := hwr; omega) rfl) (by rintro _ _ ⟨v29, rfl, rfl⟩; exact Kept.auto) ?_
    rintro _ _ ⟨v29, rfl, rfl⟩
    refine .p (.n rfl) (.p (.f rfl) ?_)
    refine .d3 rfl (Does.stS sizeOf32 rfl rfl rfl) ?_
    rintro _ _ ⟨rfl, rfl⟩
    rw [spc_recs]
    refine .to (A := thrsH ps ((wakeAll ({ s with wheel := s.wheel.tick.2 } : Spc) (s.wheel.due.take k)).thr.set x.toNat (some (t.wakes 0)))) (Bs := [arr q 0 (thrC (t.wakes 0)), thrsH (ps.set x.toNat none) ((wakeAll ({ s with wheel := s.wheel.tick.2 } : Spc) (s.wheel.due.take k)).thr.set x.toNat none)]) .auto (thrs_shut (List.getElem?_eq_some_iff.1 ht).1 hq) ?_
    refine .n (.b (.t (.r ?_)))
    refine .p (.inc rfl rfl (by omega)) ?_
    refine .p (.m rfl) (.n ?_)
    refine .againK (k + 1) .auto rfl ?_ ?_ ?_ ?_
    · omega
    · show k + 1 ≤ _; omega
    · exact ⟨rfl, trivial⟩
    · rw [take_snoc hx, wakeAll_snoc, show (wakeAll ({ s with wheel := s.wheel.tick.2 } : Spc) (s.wheel.due.take k)).wake x.toNat 0 = (wakeAll ({ s with wheel := s.wheel.tick.2 } : Spc) (s.wheel.due.take k)).setT x.toNat (t.wakes 0) from by unfold Spc.wake; rw [spc_t ht], spc_t ht]; exact fun w s => Ent.kept .auto w s
  · refine .x (.tx (.tx (.bh (.t (.s (.r ?_))))))
    refine .know (fun w st => (Rd.s (v := u13) (enc := intE) (k := 1) (xs := s.wheel.due) w st).1) fun hr => ?_
    obtain ⟨a13, c13, rfl, -, -⟩ := hr
    refine .p (.m rfl) ?_
    refine .p (.bld1 (fun v1 => [v1, (.bool false), (.bool false), (.bool false)]) rfl (by kernel_rfl)) ?_
    refine .does rfl (Does.sta (vs := [.slice a13 s.wheel.due.length c13, .bool false, .bool false, .bool false]) (by exact sizeOf36) rfl rfl rfl (by rfl)) ?_
    rintro _ _ ⟨rfl, rfl⟩
    refine .n (.t (.e ?_))
    have hkk : k = s.wheel.due.length := by omega
    rw [hkk, List.take_length]
    refine .retC rfl rfl isAgg36 (by exact sizeOf36) Cells.a fun w s => ⟨_, ?_, trivial, finE .auto s⟩
    rfl

set_option maxRecDepth 20000 in
theorem core_Records {W : World} {b : Nat} {s : Spc} (hl : s.recs.length ≤ 1000000000) : Fn Tryz.prog W 20 [ptr b] [spcH b s] Value (fun u => u) (fun _ => True) (fun u => [sl recE 6 u s.recs, spcH b s]) := by
  refine Fn.intro (N := 11) func20 rfl ntmps20 rfl fun F => ?_
  show GoC _ _ _ _ _ _ [spcH b s, F]
  refine .o1 (C := spcH b s) .auto rfl ?_
  rintro ps -
  refine .o10 (C := spcX b ps s) .auto rfl ?_
  rintro fv sv pv bt vm bg vt bk bw vr -
  refine .s (.r (.p (.a rfl) (.n (.t (.s (.s (.r (.p (.m rfl) (.p (.eqp rfl rfl) (.n (.t (.condF rfl ?_))))))))))))
  refine .v (.t (.s (.r (.p (.m rfl) (.p (.n rfl) (.p (.f rfl) (.p (.l rfl) ?_)))))))
  refine .does rfl (Does.callE rfl call71 rfl (CloneR (A := sl recE 6 vr s.recs) (Rd.sl .here) hl) .auto) ?_
  rintro _ _ ⟨u9, -, rfl, rfl⟩
  refine .does rfl (Does.callE rfl call70 rfl ClipR .auto) ?_
  rintro _ _ ⟨u10, -, rfl, rfl⟩
  refine .p (.a rfl) (.n (.t (.e (.ret1 rfl rfl fun w s => ⟨u10, ?_, trivial, finE .auto s⟩))))
  rfl

set_option maxRecDepth 20000 in
theorem core_Memory {W : World} {b : Nat} {s : Spc} (hl : s.mem.length ≤ 1000000000) : Fn Tryz.prog W 26 [ptr b] [spcH b s] Value (fun u => u) (fun _ => True) (fun u => [sl wrdE 1 u s.mem, spcH b s]) := by
  refine Fn.intro (N := 11) func26 rfl ntmps26 rfl fun F => ?_
  show GoC _ _ _ _ _ _ [spcH b s, F]
  refine .o1 (C := spcH b s) .auto rfl ?_
  rintro ps -
  refine .o10 (C := spcX b ps s) .auto rfl ?_
  rintro fv sv pv bt vm bg vt bk bw vr -
  refine .s (.r (.p (.a rfl) (.n (.t (.s (.s (.r (.p (.m rfl) (.p (.eqp rfl rfl) (.n (.t (.condF rfl ?_))))))))))))
  refine .v (.t (.s (.r (.p (.m rfl) (.p (.n rfl) (.p (.f rfl) (.p (.l rfl) ?_)))))))
  refine .does rfl (Does.callE rfl call73 rfl (CloneW (A := sl wrdE 1 vm s.mem) (Rd.sl .here) hl) .auto) ?_
  rintro _ _ ⟨u9, -, rfl, rfl⟩
  refine .does rfl (Does.callE rfl call72 rfl ClipW .auto) ?_
  rintro _ _ ⟨u10, -, rfl, rfl⟩
  refine .p (.a rfl) (.n (.t (.e (.ret1 rfl rfl fun w s => ⟨u10, ?_, trivial, finE .auto s⟩))))
  rfl

end Go.SLYtpcjdohmjmeehaaGreat
namespace Go.SLYtpcjdohmjmeehaaGreat
open Go Go.RowKit Go.Proofs Go.Proofs.Tryz

set_option maxRecDepth 20000 in
theorem ref_Ints {W : World} {A : HProp} {v u : Value} {xs ys : List Int} (hv : Rd W [A] intE 1 v xs) (hu : Rd W [A] intE 1 u ys) (hl : xs.length ≤ 1000000000) : Fn Tryz.prog W 23 [v, u] [A] Unit (fun _ => .bool (decide (xs = ys))) (fun _ => True) (fun _ => [A]) := by
  refine Fn.intro (N := 26) func23 rfl ntmps23 rfl fun F => ?_
  haveI hRI : ∀ (H : List HProp) [HasH H A], ReadsC W H v intE 1 xs := fun H h => ⟨hv.at h.has⟩
  haveI hRJ : ∀ (H : List HProp) [HasH H A], ReadsC W H u intE 1 ys := fun H h => ⟨hu.at h.has⟩
  show GoC _ _ _ _ _ _ [A, F]
  refine .s (.r (.p (.a rfl) (.n (.t (.s (.s (.r (.p (.m rfl) (.p (.len rfl) (.p (.m rfl) (.p (.len rfl) (.p (.neq rfl rfl) (.n (.t (.condD rfl (fun h10 => ?_) (fun h10 => ?_))))))))))))))))
  · refine .s (.r (.p (.a rfl) (.n (.t (.e (.tr (.ret1 rfl rfl fun w s => ⟨(), ?_, trivial, finE .auto s⟩)))))))
    rw [decide_eq_false (fun e => h10 (by rw [e]))]
  · refine .v (.t (.s (.s (.r (.p (.a rfl) (.n (.t (.b ?_))))))))
    refine .loopK (X := Nat) [4, 5, 11, 12, 13, 14, 15, 16, 17, 18, 19, 20, 21, 22, 23, 24, 25] (fun k => xs.length - k) (fun k => k ≤ xs.length ∧ xs.take k = ys.take k) (fun k => [(5, some (.int .i64 (k : Int)))]) (fun k => [A, F]) 0 ?_ ?_ ?_ ?_
    · exact ⟨Nat.zero_le _, rfl⟩
    · exact ⟨rfl, trivial⟩
    · exact fun w s => Ent.kept .auto w s
    rintro k ⟨hk, hn⟩
    refine .s (.s (.r (.p (.m rfl) (.p (.m rfl) (.p (.len rfl) (.p (.lss rfl rfl) (.n (.t (.condD rfl (fun h14 => ?_) (fun h14 => ?_))))))))))
    · refine .v (.t (.s (.b (.s ?_))))
      refine .draw [] [1, 1, 1, 1, 1, 1, 1, 1, 1] rfl (by kernel_rfl) ?_
      obtain ⟨x, hx⟩ := at_some (show k < xs.length by omega)
      obtain ⟨y, hy⟩ := at_some (show k < ys.length by omega)
      refine .p (.m rfl) (.p (.m rfl) ?_)
      refine .p (.ix _ rfl rfl rfl (by first | omega | decide)) ?_
      refine .p (.lr rfl hx) ?_
      refine .p (.m rfl) (.p (.m rfl) ?_)
      refine .p (.ix _ rfl rfl rfl (by first | omega | decide)) ?_
      refine .p (.lr rfl hy) ?_
      refine .p (.neq rfl rfl) (.n (.t (.condD rfl (fun h25 => ?_) (fun h25 => ?_))))
      · refine .s (.r (.p (.a rfl) (.n (.t (.e (.br (.tr (.tr (.br (.tr (.ret1 rfl rfl fun w s => ⟨(), ?_, trivial, finE .auto s⟩)))))))))))
        rw [decide_eq_false (fun e => h25 (by rw [e] at hx; exact Option.some.inj (hx.symm.trans hy)))]
      · refine .v (.b (.t (.r (.p (.m rfl) ?_))))
        refine .p (.inc rfl rfl (by omega)) ?_
        refine .p (.a rfl) (.n ?_)
        refine .againK (k + 1) .auto rfl ?_ ?_ ?_ ?_
        · first | omega | (dsimp only; omega)
        · exact ⟨by omega, by rw [take_snoc hx, take_snoc hy, hn, Decidable.of_not_not h25]⟩
        · exact ⟨rfl, trivial⟩
        · exact fun w s => Ent.kept .auto w s
    · refine .x (.tx (.tx (.bh (.t (.s (.r (.p (.a rfl) (.n (.t (.e ?_))))))))))
      obtain rfl : k = xs.length := by omega
      rw [List.take_length, List.take_of_length_le (by omega)] at hn
      refine .ret1 rfl rfl fun w s => ⟨(), ?_, trivial, finE .auto s⟩
      rw [decide_eq_true hn]

end Go.SLYtpcjdohmjmeehaaGreat
namespace Go.SLYtpcjdohmjmeehaaGreat
open Go Go.RowKit Go.Proofs Go.Proofs.Tryz

theorem eqRec {a b : Rec} : EqV Tryz.prog 45 2 (.agg (recE a).toArray) (.agg (recE b).toArray) (decide (a = b)) := fun d w => by
  have hs : Tryz.prog.stoodInHeld 45 = false := by kernel_rfl
  have one : ∀ (r : Rec) (t : TypeId) (i : Nat) (v : Value), (∀ w, (isAgg t).run Tryz.prog w = .ok false w) → (recE r)[i]? = some v → Part Tryz.prog t (recE r).toArray i v := fun r t i v ha hv => Part.one ha (by rw [List.getElem?_toArray]; exact hv)
  refine (run_eq_struct2 underlying45 hs (d + 1) _ _ w).trans ?_
  show (Op.eqFields (d + 1) _ _ [_, _, _, _, _, _]).run Tryz.prog w = _
  have pa0 : Part Tryz.prog 43 (recE a).toArray 0 (.int .u64 a.thread) := one a _ 0 _ isAgg43 rfl
  have pb0 : Part Tryz.prog 43 (recE b).toArray 0 (.int .u64 b.thread) := one b _ 0 _ isAgg43 rfl
  refine Eq.trans (eqFields_cons (a := .int .u64 a.thread) (b := .int .u64 b.thread) (r := decide (a.thread = b.thread)) ?_ ?_ ?_ ?_) ?_
  · decide +kernel
  · exact pa0
  · exact pb0
  · exact (EqV.int underlying43 d w)
  by_cases h0 : a.thread = b.thread
  rotate_left
  · rw [decide_eq_false h0, decide_eq_false (fun e => h0 (by rw [e])), if_neg (by simp)]
  rw [decide_eq_true h0, if_pos rfl]
  have pa1 : Part Tryz.prog 3 (recE a).toArray 1 (.int .i64 a.op) := one a _ 1 _ isAgg3 rfl
  have pb1 : Part Tryz.prog 3 (recE b).toArray 1 (.int .i64 b.op) := one b _ 1 _ isAgg3 rfl
  refine Eq.trans (eqFields_cons (a := .int .i64 a.op) (b := .int .i64 b.op) (r := decide (a.op = b.op)) ?_ ?_ ?_ ?_) ?_
  · decide +kernel
  · exact pa1
  · exact pb1
  · exact (EqV.int underlying3 d w)
  by_cases h1 : a.op = b.op
  rotate_left
  · rw [decide_eq_false h1, decide_eq_false (fun e => h1 (by rw [e])), if_neg (by simp)]
  rw [decide_eq_true h1, if_pos rfl]
  have pa2 : Part Tryz.prog 43 (recE a).toArray 2 (.int .u64 a.x) := one a _ 2 _ isAgg43 rfl
  have pb2 : Part Tryz.prog 43 (recE b).toArray 2 (.int .u64 b.x) := one b _ 2 _ isAgg43 rfl
  refine Eq.trans (eqFields_cons (a := .int .u64 a.x) (b := .int .u64 b.x) (r := decide (a.x = b.x)) ?_ ?_ ?_ ?_) ?_
  · decide +kernel
  · exact pa2
  · exact pb2
  · exact (EqV.int underlying43 d w)
  by_cases h2 : a.x = b.x
  rotate_left
  · rw [decide_eq_false h2, decide_eq_false (fun e => h2 (by rw [e])), if_neg (by simp)]
  rw [decide_eq_true h2, if_pos rfl]
  have pa3 : Part Tryz.prog 43 (recE a).toArray 3 (.int .u64 a.y) := one a _ 3 _ isAgg43 rfl
  have pb3 : Part Tryz.prog 43 (recE b).toArray 3 (.int .u64 b.y) := one b _ 3 _ isAgg43 rfl
  refine Eq.trans (eqFields_cons (a := .int .u64 a.y) (b := .int .u64 b.y) (r := decide (a.y = b.y)) ?_ ?_ ?_ ?_) ?_
  · decide +kernel
  · exact pa3
  · exact pb3
  · exact (EqV.int underlying43 d w)
  by_cases h3 : a.y = b.y
  rotate_left
  · rw [decide_eq_false h3, decide_eq_false (fun e => h3 (by rw [e])), if_neg (by simp)]
  rw [decide_eq_true h3, if_pos rfl]
  have pa4 : Part Tryz.prog 28 (recE a).toArray 4 (.int .i64 a.result) := one a _ 4 _ isAgg28 rfl
  have pb4 : Part Tryz.prog 28 (recE b).toArray 4 (.int .i64 b.result) := one b _ 4 _ isAgg28 rfl
  refine Eq.trans (eqFields_cons (a := .int .i64 a.result) (b := .int .i64 b.result) (r := decide (a.result = b.result)) ?_ ?_ ?_ ?_) ?_
  · decide +kernel
  · exact pa4
  · exact pb4
  · exact (EqV.int underlying28 d w)
  by_cases h4 : a.result = b.result
  rotate_left
  · rw [decide_eq_false h4, decide_eq_false (fun e => h4 (by rw [e])), if_neg (by simp)]
  rw [decide_eq_true h4, if_pos rfl]
  have pa5 : Part Tryz.prog 4 (recE a).toArray 5 (.bool a.fin) := one a _ 5 _ isAgg4 rfl
  have pb5 : Part Tryz.prog 4 (recE b).toArray 5 (.bool b.fin) := one b _ 5 _ isAgg4 rfl
  refine Eq.trans (eqFields_cons (a := .bool a.fin) (b := .bool b.fin) (r := decide (a.fin = b.fin)) ?_ ?_ ?_ ?_) ?_
  · decide +kernel
  · exact pa5
  · exact pb5
  · exact (EqV.bool underlying4 d w)
  by_cases h5 : a.fin = b.fin
  rotate_left
  · rw [decide_eq_false h5, decide_eq_false (fun e => h5 (by rw [e])), if_neg (by simp)]
  rw [decide_eq_true h5, if_pos rfl]
  have e : a = b := by
    obtain ⟨a1, a2, a3, a4, a5, a6⟩ := a
    obtain ⟨b1, b2, b3, b4, b5, b6⟩ := b
    simp only at h0 h1 h2 h3 h4 h5
    subst h0 h1 h2 h3 h4 h5
    rfl
  rw [decide_eq_true e]
  simp [Op.eqFields]

set_option maxRecDepth 20000 in
theorem ref_Words {W : World} {A : HProp} {v u : Value} {xs ys : List Int} (hv : Rd W [A] wrdE 1 v xs) (hu : Rd W [A] wrdE 1 u ys) (hl : xs.length ≤ 1000000000) : Fn Tryz.prog W 25 [v, u] [A] Unit (fun _ => .bool (decide (xs = ys))) (fun _ => True) (fun _ => [A]) := by
  refine Fn.intro (N := 26) func25 rfl ntmps25 rfl fun F => ?_
  haveI hRI : ∀ (H : List HProp) [HasH H A], ReadsC W H v wrdE 1 xs := fun H h => ⟨hv.at h.has⟩
  haveI hRJ : ∀ (H : List HProp) [HasH H A], ReadsC W H u wrdE 1 ys := fun H h => ⟨hu.at h.has⟩
  show GoC _ _ _ _ _ _ [A, F]
  refine .s (.r (.p (.a rfl) (.n (.t (.s (.s (.r (.p (.m rfl) (.p (.len rfl) (.p (.m rfl) (.p (.len rfl) (.p (.neq rfl rfl) (.n (.t (.condD rfl (fun h10 => ?_) (fun h10 => ?_))))))))))))))))
  · refine .s (.r (.p (.a rfl) (.n (.t (.e (.tr (.ret1 rfl rfl fun w s => ⟨(), ?_, trivial, finE .auto s⟩)))))))
    rw [decide_eq_false (fun e => h10 (by rw [e]))]
  · refine .v (.t (.s (.s (.r (.p (.a rfl) (.n (.t (.b ?_))))))))
    refine .loopK (X := Nat) [4, 5, 11, 12, 13, 14, 15, 16, 17, 18, 19, 20, 21, 22, 23, 24, 25] (fun k => xs.length - k) (fun k => k ≤ xs.length ∧ xs.take k = ys.take k) (fun k => [(5, some (.int .i64 (k : Int)))]) (fun k => [A, F]) 0 ?_ ?_ ?_ ?_
    · exact ⟨Nat.zero_le _, rfl⟩
    · exact ⟨rfl, trivial⟩
    · exact fun w s => Ent.kept .auto w s
    rintro k ⟨hk, hn⟩
    refine .s (.s (.r (.p (.m rfl) (.p (.m rfl) (.p (.len rfl) (.p (.lss rfl rfl) (.n (.t (.condD rfl (fun h14 => ?_) (fun h14 => ?_))))))))))
    · refine .v (.t (.s (.b (.s ?_))))
      refine .draw [] [1, 1, 1, 1, 1, 1, 1, 1, 1] rfl (by kernel_rfl) ?_
      obtain ⟨x, hx⟩ := at_some (show k < xs.length by omega)
      obtain ⟨y, hy⟩ := at_some (show k < ys.length by omega)
      refine .p (.m rfl) (.p (.m rfl) ?_)
      refine .p (.ix _ rfl rfl rfl (by first | omega | decide)) ?_
      refine .p (.lr rfl hx) ?_
      refine .p (.m rfl) (.p (.m rfl) ?_)
      refine .p (.ix _ rfl rfl rfl (by first | omega | decide)) ?_
      refine .p (.lr rfl hy) ?_
      refine .p (.neq rfl rfl) (.n (.t (.condD rfl (fun h25 => ?_) (fun h25 => ?_))))
      · refine .s (.r (.p (.a rfl) (.n (.t (.e (.br (.tr (.tr (.br (.tr (.ret1 rfl rfl fun w s => ⟨(), ?_, trivial, finE .auto s⟩)))))))))))
        rw [decide_eq_false (fun e => h25 (by rw [e] at hx; exact Option.some.inj (hx.symm.trans hy)))]
      · refine .v (.b (.t (.r (.p (.m rfl) ?_))))
        refine .p (.inc rfl rfl (by omega)) ?_
        refine .p (.a rfl) (.n ?_)
        refine .againK (k + 1) .auto rfl ?_ ?_ ?_ ?_
        · first | omega | (dsimp only; omega)
        · exact ⟨by omega, by rw [take_snoc hx, take_snoc hy, hn, Decidable.of_not_not h25]⟩
        · exact ⟨rfl, trivial⟩
        · exact fun w s => Ent.kept .auto w s
    · refine .x (.tx (.tx (.bh (.t (.s (.r (.p (.a rfl) (.n (.t (.e ?_))))))))))
      obtain rfl : k = xs.length := by omega
      rw [List.take_length, List.take_of_length_le (by omega)] at hn
      refine .ret1 rfl rfl fun w s => ⟨(), ?_, trivial, finE .auto s⟩
      rw [decide_eq_true hn]

set_option maxRecDepth 20000 in
theorem ref_Same {W : World} {A : HProp} {v u : Value} {xs ys : List Rec} (hv : Rd W [A] recE 6 v xs) (hu : Rd W [A] recE 6 u ys) (hl : xs.length ≤ 1000000000) : Fn Tryz.prog W 21 [v, u] [A] Unit (fun _ => .bool (decide (xs = ys))) (fun _ => True) (fun _ => [A]) := by
  refine Fn.intro (N := 26) func21 rfl ntmps21 rfl fun F => ?_
  haveI hRI : ∀ (H : List HProp) [HasH H A], ReadsC W H v recE 6 xs := fun H h => ⟨hv.at h.has⟩
  haveI hRJ : ∀ (H : List HProp) [HasH H A], ReadsC W H u recE 6 ys := fun H h => ⟨hu.at h.has⟩
  show GoC _ _ _ _ _ _ [A, F]
  refine .s (.r (.p (.a rfl) (.n (.t (.s (.s (.r (.p (.m rfl) (.p (.len rfl) (.p (.m rfl) (.p (.len rfl) (.p (.neq rfl rfl) (.n (.t (.condD rfl (fun h10 => ?_) (fun h10 => ?_))))))))))))))))
  · refine .s (.r (.p (.a rfl) (.n (.t (.e (.tr (.ret1 rfl rfl fun w s => ⟨(), ?_, trivial, finE .auto s⟩)))))))
    rw [decide_eq_false (fun e => h10 (by rw [e]))]
  · refine .v (.t (.s (.s (.r (.p (.a rfl) (.n (.t (.b ?_))))))))
    refine .loopK (X := Nat) [4, 5, 11, 12, 13, 14, 15, 16, 17, 18, 19, 20, 21, 22, 23, 24, 25] (fun k => xs.length - k) (fun k => k ≤ xs.length ∧ xs.take k = ys.take k) (fun k => [(5, some (.int .i64 (k : Int)))]) (fun k => [A, F]) 0 ?_ ?_ ?_ ?_
    · exact ⟨Nat.zero_le _, rfl⟩
    · exact ⟨rfl, trivial⟩
    · exact fun w s => Ent.kept .auto w s
    rintro k ⟨hk, hn⟩
    refine .s (.s (.r (.p (.m rfl) (.p (.m rfl) (.p (.len rfl) (.p (.lss rfl rfl) (.n (.t (.condD rfl (fun h14 => ?_) (fun h14 => ?_))))))))))
    · refine .v (.t (.s (.b (.s ?_))))
      refine .draw [] [1, 1, 1, 1, 1, 1, 1, 1, 1] rfl (by kernel_rfl) ?_
      obtain ⟨x, hx⟩ := at_some (show k < xs.length by omega)
      obtain ⟨y, hy⟩ := at_some (show k < ys.length by omega)
      refine .p (.m rfl) (.p (.m rfl) ?_)
      refine .p (.ix _ rfl rfl rfl (by first | omega | decide)) ?_
      refine .p (.la rfl (Cells.rd Rd.s hx)) ?_
      refine .p (.m rfl) (.p (.m rfl) ?_)
      refine .p (.ix _ rfl rfl rfl (by first | omega | decide)) ?_
      refine .p (.la rfl (Cells.rd Rd.s hy)) ?_
      refine .p (.neqAgg (by kernel_rfl) eqRec rfl rfl rfl) ?_
      refine .n (.t (.cond rfl (fun h25 => ?_) (fun h25 => ?_)))
      · have h25 : x ≠ y := by simpa using h25
        refine .s (.r (.p (.a rfl) (.n (.t (.e (.br (.tr (.tr (.br (.tr (.ret1 rfl rfl fun w s => ⟨(), ?_, trivial, finE .auto s⟩)))))))))))
        rw [decide_eq_false (fun e => h25 (by rw [e] at hx; exact Option.some.inj (hx.symm.trans hy)))]
      · have h25 : ¬ x ≠ y := by simpa using h25
        refine .v (.b (.t (.r (.p (.m rfl) ?_))))
        refine .p (.inc rfl rfl (by omega)) ?_
        refine .p (.a rfl) (.n ?_)
        refine .againK (k + 1) .auto rfl ?_ ?_ ?_ ?_
        · first | omega | (dsimp only; omega)
        · exact ⟨by omega, by rw [take_snoc hx, take_snoc hy, hn, Decidable.of_not_not h25]⟩
        · exact ⟨rfl, trivial⟩
        · exact fun w s => Ent.kept .auto w s
    · refine .x (.tx (.tx (.bh (.t (.s (.r (.p (.a rfl) (.n (.t (.e ?_))))))))))
      obtain rfl : k = xs.length := by omega
      rw [List.take_length, List.take_of_length_le (by omega)] at hn
      refine .ret1 rfl rfl fun w s => ⟨(), ?_, trivial, finE .auto s⟩
      rw [decide_eq_true hn]

set_option maxRecDepth 20000 in
theorem ref_In {W : World} {A : HProp} {v : Value} {xs : List Int} {n : Int} (hv : Rd W [A] intE 1 v xs) (hl : xs.length ≤ 1000000000) : Fn Tryz.prog W 24 [v, .int .i64 n] [A] Unit (fun _ => .bool (decide (n ∈ xs))) (fun _ => True) (fun _ => [A]) := by
  refine Fn.intro (N := 18) func24 rfl ntmps24 rfl fun F => ?_
  haveI hRI : ∀ (H : List HProp) [HasH H A], ReadsC W H v intE 1 xs := fun H h => ⟨hv.at h.has⟩
  show GoC _ _ _ _ _ _ [A, F]
  refine .s (.r (.p (.a rfl) (.n (.t (.s (.s (.r (.p (.a rfl) (.n (.t (.b ?_)))))))))))
  refine .loopK (X := Nat) [4, 5, 6, 7, 8, 9, 10, 11, 12, 13, 14, 15, 16, 17] (fun k => xs.length - k) (fun k => k ≤ xs.length ∧ n ∉ xs.take k) (fun k => [(5, some (.int .i64 (k : Int)))]) (fun k => [A, F]) 0 ?_ ?_ ?_ ?_
  · exact ⟨Nat.zero_le _, by simp⟩
  · exact ⟨rfl, trivial⟩
  · exact fun w s => Ent.kept .auto w s
  rintro k ⟨hk, hn⟩
  refine .s (.s (.r (.p (.m rfl) (.p (.m rfl) (.p (.len rfl) (.p (.lss rfl rfl) (.n (.t (.condD rfl (fun h9 => ?_) (fun h9 => ?_))))))))))
  · refine .v (.t (.s (.b (.s (.r ?_)))))
    obtain ⟨x, hx⟩ := at_some (show k < xs.length by omega)
    refine .p (.m rfl) (.p (.m rfl) ?_)
    refine .p (.ix _ rfl rfl rfl (by first | omega | decide)) ?_
    refine .p (.lr rfl hx) ?_
    refine .p (.m rfl) (.p (.eql rfl rfl) (.n (.t (.condD rfl (fun h17 => ?_) (fun h17 => ?_)))))
    · refine .s (.r (.p (.a rfl) (.n (.t (.e (.br (.tr (.tr (.br (.tr (.ret1 rfl rfl fun w s => ⟨(), ?_, trivial, finE .auto s⟩)))))))))))
      rw [decide_eq_true (by rw [← h17]; exact List.mem_of_getElem? hx)]
    · refine .v (.b (.t (.r (.p (.m rfl) ?_))))
      refine .p (.inc rfl rfl (by omega)) ?_
      refine .p (.a rfl) (.n ?_)
      refine .againK (k + 1) .auto rfl ?_ ?_ ?_ ?_
      · first | omega | (dsimp only; omega)
      · exact ⟨by omega, by rw [take_snoc hx]; simp only [List.mem_append, List.mem_singleton, not_or]; exact ⟨hn, fun e => h17 e.symm⟩⟩
      · exact ⟨rfl, trivial⟩
      · exact fun w s => Ent.kept .auto w s
  · refine .x (.tx (.tx (.bh (.t (.s (.r (.p (.a rfl) (.n (.t (.e ?_))))))))))
    obtain rfl : k = xs.length := by omega
    rw [List.take_length] at hn
    refine .ret1 rfl rfl fun w s => ⟨(), ?_, trivial, finE .auto s⟩
    rw [decide_eq_false hn]

end Go.SLYtpcjdohmjmeehaaGreat
namespace Go.SLYtpcjdohmjmeehaaGreat
open Go Go.RowKit

theorem rows_ptr {α β : Type} : ∀ {xs : List (Nat × α)} {ys : List (Nat × β)}, xs.map (·.1) = ys.map (·.1) → rows ptrE xs = rows ptrE ys
  | [], [], _ => rfl
  | [], y :: ys, h => by cases h
  | x :: xs, [], h => by cases h
  | x :: xs, y :: ys, h => by
    simp only [List.map_cons, List.cons.injEq] at h
    rw [rows_cons, rows_cons, rows_ptr h.2]
    show [ptr x.1] ++ _ = [ptr y.1] ++ _
    rw [h.1]
theorem sl_ptrs {α β : Type} {xs : List (Nat × α)} {ys : List (Nat × β)} {v : Value} (h : xs.map (·.1) = ys.map (·.1)) : ∀ g, sl ptrE 1 v xs g → sl ptrE 1 v ys g := fun g s => by
  have hl : xs.length = ys.length := by have := congrArg List.length h; simpa using this
  rcases s with ⟨a, rfl, e⟩ | ⟨b, cap, sp, e1, e2, -, e4, e5⟩
  · refine .inl ⟨a, ?_, e⟩
    cases ys with
    | nil => rfl
    | cons y ys => simp at hl
  · exact .inr ⟨b, cap, sp, by rw [← hl]; exact e1, by rw [← hl]; exact e2, fun _ _ => rfl, by rw [← hl]; exact e4, by rw [← rows_ptr h]; exact e5⟩
theorem allH_in {α : Type} {f : α → HProp} {xs : List α} {i : Nat} (hi : i < xs.length) (x : α) : ∀ g, seps [f x, allH f (xs.eraseIdx i)] g → allH f (xs.set i x) g := fun g a => by
  rw [allH_set f x hi]; exact sep2.1 a
def tkd (k : Nat) (xs : List (Nat × Spc)) : List (Nat × Spc) := (xs.take k).map (fun x => (x.1, x.2.tick.2)) ++ xs.drop k
theorem tkd_zero {xs : List (Nat × Spc)} : tkd 0 xs = xs := by unfold tkd; simp
theorem tkd_at {xs : List (Nat × Spc)} {k : Nat} {x : Nat × Spc} (h : xs[k]? = some x) : (tkd k xs)[k]? = some x ∧ (tkd k xs).set k (x.1, x.2.tick.2) = tkd (k + 1) xs := by
  have hk := (List.getElem?_eq_some_iff.1 h).1
  have hl : ((xs.take k).map (fun x : Nat × Spc => (x.1, x.2.tick.2))).length = k := by rw [List.length_map, List.length_take]; omega
  unfold tkd
  rw [drop_cons h]
  refine ⟨?_, ?_⟩
  · rw [List.getElem?_append_right (by omega), hl, Nat.sub_self]; rfl
  · rw [List.set_append_right _ _ (by omega), hl, Nat.sub_self, take_snoc h, List.map_append, List.append_assoc]; rfl
theorem tkd_end {xs : List (Nat × Spc)} : tkd xs.length xs = xs.map (fun x => (x.1, x.2.tick.2)) := by unfold tkd; simp
theorem one_ticks {b : Nat} {v : Value} {xs : List (Nat × Spc)} {l : List Spc} (h : xs.map (·.2) = l) : ∀ g, seps [arr b 0 [v], sl ptrE 1 v xs, allH (fun x : Nat × Spc => spcH x.1 x.2) (xs.map (fun x => (x.1, x.2.tick.2)))] g → oneH b (l.map fun s => s.tick.2) g := fun g a => by
  refine ⟨v, xs.map (fun x => (x.1, x.2.tick.2)), by subst h; rw [List.map_map, List.map_map]; rfl, ?_⟩
  simp only [seps, sep_emp] at a ⊢
  exact sep_mono (fun _ b => b) (sep_mono (sl_ptrs (by rw [List.map_map]; rfl)) (fun _ b => b)) g a
theorem one_set {b : Nat} {v : Value} {xs : List (Nat × Spc)} {l : List Spc} {i : Nat} {x : Nat × Spc} (h : xs.map (·.2) = l) (hx : xs[i]? = some x) (s : Spc) : ∀ g, seps [arr b 0 [v], sl ptrE 1 v xs, spcH x.1 s, allH (fun x : Nat × Spc => spcH x.1 x.2) (xs.eraseIdx i)] g → oneH b (l.set i s) g := fun g a => by
  have hi := (List.getElem?_eq_some_iff.1 hx).1
  refine ⟨v, xs.set i (x.1, s), by show (xs.set i (x.1, s)).map (·.2) = _; rw [List.map_set, h], ?_⟩
  simp only [seps, sep_emp] at a ⊢
  refine sep_mono (fun _ b => b) (sep_mono (sl_ptrs ?_) (fun g b => ?_)) g a
  · rw [List.map_set]
    have : (xs.map (·.1))[i]? = some x.1 := by rw [List.getElem?_map, hx]; rfl
    exact (set_same this).symm
  · rw [allH_set _ _ hi]; exact b
theorem geti_map {α β : Type} {f : α → β} {l : List α} {i : Int} : geti (l.map f) i = (geti l i).map f := by
  unfold geti; split
  · rfl
  · rw [List.getElem?_map]
end Go.SLYtpcjdohmjmeehaaGreat
namespace Go.SLYtpcjdohmjmeehaaGreat
open Go Go.RowKit

def oReady (l : List Spc) (n : Int) : List Int := match geti l n with | none => [] | some s => s.ready
def oRecs (l : List Spc) (n : Int) : List Rec := match geti l n with | none => [] | some s => s.recs
def oMem (l : List Spc) (n : Int) : List Int := match geti l n with | none => [] | some s => s.mem
def oLook (l : List Spc) (n k : Int) : Option Thr := match geti l n with | none => none | some s => s.at k
theorem OneOk.get {k : Nat} {l : List Spc} (h : OneOk k l) {n : Int} {s : Spc} (hs : geti l n = some s) : Okr k s := h s (List.mem_of_getElem? (geti_of hs).2.2)
theorem OneOk.more {k k' : Nat} {l : List Spc} (h : OneOk k l) (hk : k ≤ k') : OneOk k' l := fun s hs => (h s hs).more hk
theorem OneOk.recs {k : Nat} {l : List Spc} (h : OneOk k l) (hk : k ≤ 190) (n : Int) : (oRecs l n).length ≤ 80000000 := by
  unfold oRecs; split
  · exact Nat.zero_le _
  · rename_i s e; exact (h.get e).rec hk
theorem OneOk.ready {k : Nat} {l : List Spc} (h : OneOk k l) (n : Int) : (oReady l n).length ≤ 1000000000 := by
  unfold oReady; split
  · exact Nat.zero_le _
  · rename_i s e; exact ready_leB (h.get e).lt
theorem oDo_runs {k : Nat} {l : List Spc} (h : OneOk k l) (hk : k ≤ 190) {a : Acm} (ha : a.kind = 1) : (oDo l a).1 = 0 ↔ a.thread ∈ oReady l a.space := by
  unfold oDo oReady
  rw [if_neg (by omega)]
  cases e : geti l a.space with
  | none => simp
  | some s =>
    simp only
    rw [if_pos ha, mem_ready]
    have hs := h.get e
    exact (hs.1.run hs.2.2 (by omega) (hs.rec hk)).2.2.2.2.1
theorem oDo_same {k : Nat} {l : List Spc} (h : OneOk k l) (hk : k ≤ 190) {a : Acm} (he : (oDo l a).1 ≠ 0) : (oDo l a).2 = l := by
  unfold oDo at he ⊢
  split
  · rename_i h3; rw [if_pos h3] at he; exact absurd rfl he
  · rename_i h3
    rw [if_neg h3] at he
    split
    · rfl
    · rename_i s e
      have hs := h.get e
      rw [e] at he
      simp only at he
      split
      · rename_i h1
        rw [if_pos h1] at he
        show l.set _ _ = l
        rw [(hs.same hk he).1]
        exact set_same (geti_of e).2.2
      · rename_i h1
        rw [if_neg h1] at he
        split
        · rename_i h2
          rw [if_pos h2] at he
          show l.set _ _ = l
          rw [(hs.sameD he).1]
          exact set_same (geti_of e).2.2
        · rfl
def sAct (s : Spc) (k : Nat) (a : Acm) : Spc :=
  if a.kind = 3 then s.tick.2 else if a.space ≠ (k : Int) then s else if a.kind = 1 then (s.run a.thread a.choice).2.2 else if a.kind = 2 then (s.done a.choice).2.2 else s
theorem oDo_apart {l : List Spc} {k : Nat} {s : Spc} (h : l[k]? = some s) (a : Acm) : (oDo l a).2[k]? = some (sAct s k a) := by
  unfold oDo sAct
  by_cases h3 : a.kind = 3
  · rw [if_pos h3, if_pos h3]; show (l.map _)[k]? = _; rw [List.getElem?_map, h]; rfl
  rw [if_neg h3, if_neg h3]
  have hk := (List.getElem?_eq_some_iff.1 h).1
  by_cases hs : a.space ≠ (k : Int)
  · rw [if_pos hs]
    split
    · exact h
    · rename_i t e
      have ht := (geti_of e).1
      have hne : a.space.toNat ≠ k := fun e => hs (by omega)
      have key : ∀ x, (l.set a.space.toNat x)[k]? = some s := fun x => by rw [List.getElem?_set_ne hne]; exact h
      split
      · exact key _
      · split
        · exact key _
        · exact h
  · have hs : a.space = (k : Int) := Decidable.of_not_not hs
    rw [if_neg (fun e => e hs), hs]
    have hg : geti l (k : Int) = some s := by rw [geti_nat]; exact h
    rw [hg]
    simp only [Int.toNat_natCast]
    split
    · show (l.set k _)[k]? = _; rw [List.getElem?_set_self hk]
    · split
      · show (l.set k _)[k]? = _; rw [List.getElem?_set_self hk]
      · exact h
def onesErr (ps : List Prg) : Int := if ps.length < 1 ∨ 8 < ps.length then 1 else checkAll ps
theorem onesErr_ok {ps : List Prg} (h : ¬ (ps.length < 1 ∨ 8 < ps.length)) : onesErr ps = checkAll ps := if_neg h
theorem onesErr_bad {ps : List Prg} (h : ps.length < 1 ∨ 8 < ps.length) : onesErr ps = 1 := if_pos h
theorem checkAll_snoc {l : List Prg} {n : Nat} {p : Prg} (h : l[n]? = some p) (hc : checkI p = 0) : checkAll (l.drop n) = checkAll (l.drop (n + 1)) := by rw [drop_cons h, checkAll, if_pos hc]
theorem checkAll_stop {l : List Prg} {n : Nat} {p : Prg} (h : l[n]? = some p) (hc : ¬ checkI p = 0) : checkAll (l.drop n) = checkI p := by rw [drop_cons h, checkAll, if_neg hc]
def lAct (n : Int) (a : Acm) : List Acm := if a.kind = 3 then [⟨3, 0, 0, 0⟩] else if a.space = n then [{ a with space := 0 }] else []
def lActs (acts : List Acm) (n : Int) : List Acm := acts.flatMap (lAct n)
theorem lActs_snoc {acts : List Acm} {n : Int} {k : Nat} {a : Acm} (h : acts[k]? = some a) : lActs (acts.take (k + 1)) n = lActs (acts.take k) n ++ lAct n a := by
  unfold lActs; rw [take_snoc h, List.flatMap_append]; simp
theorem lAct_len (n : Int) (a : Acm) : (lAct n a).length ≤ 1 := by
  unfold lAct; split
  · exact Nat.le_refl _
  · split
    · exact Nat.le_refl _
    · exact Nat.zero_le _
theorem lActs_len : ∀ (acts : List Acm) (n : Int), (lActs acts n).length ≤ acts.length
  | [], _ => Nat.le_refl _
  | a :: acts, n => by
    have h1 := lActs_len acts n
    have h2 := lAct_len n a
    show (List.flatMap _ (a :: acts)).length ≤ _
    rw [List.flatMap_cons, List.length_append, List.length_cons]
    show _ + (lActs acts n).length ≤ _
    omega
def oRun (l : List Spc) (acts : List Acm) : List Spc := acts.foldl (fun l a => (oDo l a).2) l
theorem oRun_snoc {l : List Spc} {acts : List Acm} {k : Nat} {a : Acm} (h : acts[k]? = some a) : oRun l (acts.take (k + 1)) = (oDo (oRun l (acts.take k)) a).2 := by
  unfold oRun; rw [take_snoc h, List.foldl_append]; rfl
theorem oRun_ok {k : Nat} {l : List Spc} (h : OneOk k l) : ∀ (acts : List Acm) (m : Nat), m ≤ acts.length → k + acts.length ≤ 190 → OneOk (k + m) (oRun l (acts.take m))
  | acts, 0, _, _ => by rw [List.take_zero]; exact h
  | acts, m + 1, hm, hl => by
    have ih := oRun_ok h acts m (by omega) hl
    obtain ⟨a, ha⟩ := at_some (show m < acts.length by omega)
    rw [oRun_snoc ha]
    exact ih.act (by omega) a
def aloneR (ps : List Prg) (n : Int) (acts : List Acm) : List Rec :=
  match geti ps n with
  | none => []
  | some p => if checkI p = 0 then oRecs (oRun [Spc.new p] (lActs acts n)) 0 else []
def aloneE (ps : List Prg) (n : Int) : Int :=
  match geti ps n with
  | none => 1
  | some p => checkI p
theorem one_in {b : Nat} {v : Value} {xs : List (Nat × Spc)} {l : List Spc} (h : xs.map (·.2) = l) : ∀ g, seps [arr b 0 [v], sl ptrE 1 v xs, allH (fun x : Nat × Spc => spcH x.1 x.2) xs] g → oneH b l g := fun _ a => ⟨v, xs, h, a⟩
theorem one_at {xs : List (Nat × Spc)} {l : List Spc} (h : xs.map (·.2) = l) {n : Int} {s : Spc} (hg : geti l n = some s) : ∃ q, geti xs n = some (q, s) ∧ xs[n.toNat]? = some (q, s) := by
  rw [← h, geti_map] at hg
  cases hx : geti xs n with
  | none => rw [hx] at hg; cases hg
  | some x =>
    rw [hx] at hg
    have e : x.2 = s := Option.some.inj hg
    subst e
    exact ⟨x.1, rfl, (geti_of hx).2.2⟩
theorem one_no {xs : List (Nat × Spc)} {l : List Spc} (h : xs.map (·.2) = l) {n : Int} (hg : geti l n = none) : geti xs n = none := by
  rw [← h, geti_map] at hg
  cases hx : geti xs n with
  | none => rfl
  | some x => rw [hx] at hg; cases hg
theorem one_out {xs : List (Nat × Spc)} {i q : Nat} {s : Spc} (hx : xs[i]? = some (q, s)) : ∀ g, allH (fun x : Nat × Spc => spcH x.1 x.2) xs g → seps [spcH q s, allH (fun x : Nat × Spc => spcH x.1 x.2) (xs.eraseIdx i)] g := allH_out (f := fun x : Nat × Spc => spcH x.1 x.2) hx
theorem one_keep {b : Nat} {v : Value} {xs : List (Nat × Spc)} {l : List Spc} {i q : Nat} {s : Spc} (h : xs.map (·.2) = l) (hx : xs[i]? = some (q, s)) : ∀ g, seps [arr b 0 [v], sl ptrE 1 v xs, spcH q s, allH (fun x : Nat × Spc => spcH x.1 x.2) (xs.eraseIdx i)] g → oneH b l g := fun g a => by
  have := one_set h hx s g a
  have e : l[i]? = some s := by rw [← h, List.getElem?_map, hx]; rfl
  rwa [set_same e] at this
theorem one_put {b : Nat} {v : Value} {xs : List (Nat × Spc)} {l : List Spc} {i q : Nat} {s : Spc} (h : xs.map (·.2) = l) (hx : xs[i]? = some (q, s)) (t : Spc) : ∀ g, seps [arr b 0 [v], sl ptrE 1 v xs, spcH q t, allH (fun x : Nat × Spc => spcH x.1 x.2) (xs.eraseIdx i)] g → oneH b (l.set i t) g := one_set h hx t
theorem tkd_out {xs : List (Nat × Spc)} {k q : Nat} {s : Spc} (hx : xs[k]? = some (q, s)) : ∀ g, allH (fun x : Nat × Spc => spcH x.1 x.2) (tkd k xs) g → seps [spcH q s, allH (fun x : Nat × Spc => spcH x.1 x.2) ((tkd k xs).eraseIdx k)] g := one_out (tkd_at hx).1
theorem tkd_in {xs : List (Nat × Spc)} {k q : Nat} {s : Spc} (hx : xs[k]? = some (q, s)) : ∀ g, seps [spcH q s.tick.2, allH (fun x : Nat × Spc => spcH x.1 x.2) ((tkd k xs).eraseIdx k)] g → allH (fun x : Nat × Spc => spcH x.1 x.2) (tkd (k + 1) xs) g := by
  obtain ⟨h1, h2⟩ := tkd_at hx
  rw [← h2]
  exact allH_in (f := fun x : Nat × Spc => spcH x.1 x.2) (List.getElem?_eq_some_iff.1 h1).1 (q, s.tick.2)
theorem one_tick {b : Nat} {v : Value} {xs : List (Nat × Spc)} {l : List Spc} (h : xs.map (·.2) = l) {a : Acm} (ha : a.kind = 3) : ∀ g, seps [arr b 0 [v], sl ptrE 1 v xs, allH (fun x : Nat × Spc => spcH x.1 x.2) (tkd xs.length xs)] g → oneH b (oDo l a).2 g := by
  have e : (oDo l a).2 = l.map fun s => s.tick.2 := by unfold oDo; rw [if_pos ha]
  rw [e, tkd_end]
  exact one_ticks h
theorem oDo_tick {l : List Spc} {a : Acm} (ha : a.kind = 3) : (oDo l a).1 = 0 := by unfold oDo; rw [if_pos ha]
theorem oDo_none {l : List Spc} {a : Acm} (ha : ¬ a.kind = 3) (hg : geti l a.space = none) : oDo l a = (1, l) := by unfold oDo; rw [if_neg ha, hg]
theorem oDo_run {l : List Spc} {a : Acm} {s : Spc} (ha : a.kind = 1) (hg : geti l a.space = some s) : oDo l a = ((s.run a.thread a.choice).2.1, l.set a.space.toNat (s.run a.thread a.choice).2.2) := by unfold oDo; rw [if_neg (by omega), hg]; simp only; rw [if_pos ha]
theorem oDo_done {l : List Spc} {a : Acm} {s : Spc} (ha : a.kind = 2) (hg : geti l a.space = some s) : oDo l a = ((s.done a.choice).2.1, l.set a.space.toNat (s.done a.choice).2.2) := by unfold oDo; rw [if_neg (by omega), hg]; simp only; rw [if_neg (by omega), if_pos ha]
theorem oDo_else {l : List Spc} {a : Acm} {s : Spc} (h3 : ¬ a.kind = 3) (h1 : ¬ a.kind = 1) (h2 : ¬ a.kind = 2) (hg : geti l a.space = some s) : oDo l a = (1, l) := by unfold oDo; rw [if_neg h3, hg]; simp only; rw [if_neg h1, if_neg h2]
end Go.SLYtpcjdohmjmeehaaGreat
