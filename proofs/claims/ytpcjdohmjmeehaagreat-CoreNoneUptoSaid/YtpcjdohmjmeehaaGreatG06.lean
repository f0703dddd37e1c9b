/- Walks of functions, and what they compute. Conditions: none, this text proves no statement. -/
import Derived.Test.YtpcjdohmjmeehaaGreatProg
import Derived.Test.YtpcjdohmjmeehaaGreatG04
import Derived.Test.YtpcjdohmjmeehaaGreatG05
import Derived.KernelRfl
import Derived.Test.YtpcjdohmjmeehaaGreatG03
namespace Go.SLYtpcjdohmjmeehaaGreat
open Go Go.RowKit Go.Proofs

set_option maxRecDepth 20000 in
theorem core_at {W : World} {b : Nat} {ps : List (Option Nat)} {s : Spc} {n : Int} : Fn Tryz.prog W 59 [ptr b, .int .i64 n] [spcX b ps s] Unit (fun _ => ptrO (atP ps n)) (fun _ => True) (fun _ => [spcX b ps s]) := by
  refine Fn.intro (N := 21) Tryz.func59 rfl Tryz.ntmps59 rfl fun F => ?_
  show GoC _ _ _ _ _ _ [spcX b ps s, F]
  refine GoC.o10 (C := spcX b ps s) .auto rfl ?_
  rintro fv sv pv bt vm bg vt bk bw vr -
  refine GoC.seq ?_
  refine GoC.region ?_
  refine GoL.y rfl (Y.assign rfl) ?_
  refine GoL.nil ?_
  refine GoE.then_normal ?_
  refine GoC.seq ?_
  refine GoC.seq ?_
  refine GoC.region ?_
  refine GoL.y rfl (Y.move rfl) ?_
  refine GoL.y rfl (Y.eqPtrNil Tryz.underlying27 rfl rfl) ?_
  refine GoL.y rfl (Y.move rfl) ?_
  refine GoL.yg rfl rfl rfl (Y.move rfl) ?_
  refine GoL.yg rfl rfl rfl (Y.lss rfl rfl) ?_
  refine GoL.y rfl (Y.pickF rfl rfl) ?_
  refine GoL.y rfl (Y.move rfl) ?_
  apply GoL.segOD 3 14 11 [11, 12, 13, 14] rfl
  · intro h11
    refine GoL.yg rfl rfl rfl (Y.move rfl) ?_
    refine GoL.yg rfl rfl rfl (Y.geq rfl rfl) ?_
    refine GoL.y rfl (Y.pickF rfl rfl) ?_
    refine GoL.nil ?_
    refine GoE.seg .auto rfl (by first | exact fun _ h => h | exact Ent.kept .auto)
  · intro h11
    refine GoL.skip rfl rfl rfl rfl ?_
    refine GoL.skip rfl rfl rfl rfl ?_
    refine GoL.y rfl (Y.pickT rfl rfl) ?_
    refine GoL.nil ?_
    refine GoE.seg .auto rfl (by first | exact fun _ h => h | exact Ent.kept .auto)
  refine GoL.nil ?_
  refine GoE.then_normal ?_
  refine GoC.cond rfl (fun h14 => ?_) (fun h14 => ?_)
  · simp only [Bool.and_eq_true, Bool.or_eq_true, Bool.and_eq_false_iff, Bool.or_eq_false_iff, decide_eq_true_eq, decide_eq_false_iff_not, Bool.not_eq_true', Bool.not_eq_false'] at h14
    refine GoC.seq ?_
    refine GoC.region ?_
    refine GoL.y rfl (Y.assign rfl) ?_
    refine GoL.nil ?_
    refine GoE.then_normal ?_
    refine GoC.ret ?_
    refine GoE.then_ret ?_
    refine GoE.ret1 rfl rfl fun w s => ⟨(), ?_, trivial, finE .auto s⟩
    rw [atP, if_neg (by omega)]; rfl
  · simp only [Bool.and_eq_true, Bool.or_eq_true, Bool.and_eq_false_iff, Bool.or_eq_false_iff, decide_eq_true_eq, decide_eq_false_iff_not, Bool.not_eq_true', Bool.not_eq_false'] at h14
    refine GoC.skip ?_
    refine GoE.then_normal ?_
    refine GoC.seq ?_
    refine GoC.region ?_
    refine GoL.y rfl (Y.move rfl) ?_
    refine GoL.y rfl (Y.move rfl) ?_
    refine GoL.y rfl (Y.nilCheck rfl) ?_
    refine GoL.y rfl (Y.fieldAddr0 9 115 Tryz.underlying118 rfl Tryz.sizeOf115 rfl) ?_
    refine GoL.y rfl (Y.ixArr n.toNat Tryz.underlying115 Tryz.sizeOf114 rfl rfl (by omega) (by omega)) ?_
    refine GoL.y rfl (Y.load Tryz.isAgg114 rfl (Cell.a (by rw [Nat.mul_one]; exact spcC_get (by omega)))) ?_
    refine GoL.y rfl (Y.assign rfl) ?_
    refine GoL.nil ?_
    refine GoE.then_normal ?_
    refine GoC.ret ?_
    refine GoE.ret1 rfl rfl fun w s => ⟨(), ?_, trivial, finE .auto s⟩
    rw [atP, if_pos (by omega)]

set_option maxRecDepth 20000 in
theorem core_free {W : World} {b p : Nat} {ps : List (Option Nat)} {s : Spc} {n : Nat} {t : Thr} (hp : ps[n]? = some (some p)) (ht : s.thr[n]? = some (some t)) (hl : s.thr.length = 16) (hpl : ps.length = 16) (hT : TakeOk s.table) (hh : 0 ≤ t.handle) : Fn Tryz.prog W 85 [ptr b, .int .i64 (n : Int)] [spcX b ps s] Unit (fun _ => .tuple #[]) (fun _ => True) (fun _ => [spcX b (ps.set n none) (s.free n)]) := by
  refine Fn.intro (N := 23) Tryz.func85 rfl Tryz.ntmps85 rfl fun F => ?_
  show GoC _ _ _ _ _ _ [spcX b ps s, F]
  refine GoC.o10 (C := spcX b ps s) .auto rfl ?_
  rintro fv sv pv bt vm bg vt bk bw vr -
  have hn16 : n < 16 := hl ▸ (List.getElem?_eq_some_iff.1 ht).1
  refine GoC.fr .auto (thrs_out hp ht) ?_
  refine GoC.seq ?_
  refine GoC.draw [arr b 0 (spcC fv sv pv s.prg bt ps vm bg vt bk bw vr), arr p 0 (thrC t)] [1, 1, 1, 1, 1, 1, 1, 1, 1, 1, 1, 1, 1, 3] rfl (by kernel_rfl) ?_
  refine GoK.s rfl (Y.move rfl) ?_
  refine GoK.s rfl (Y.nilCheck rfl) ?_
  refine GoK.s rfl (Y.fieldAddr0 8 106 Tryz.underlying118 rfl Tryz.sizeOf106 rfl) ?_
  refine GoK.s rfl (Y.load Tryz.isAgg106 rfl (Cell.a (by rfl))) ?_
  refine GoK.s rfl (Y.move rfl) ?_
  refine GoK.s rfl (Y.move rfl) ?_
  refine GoK.s rfl (Y.nilCheck rfl) ?_
  refine GoK.s rfl (Y.fieldAddr0 9 115 Tryz.underlying118 rfl Tryz.sizeOf115 rfl) ?_
  refine GoK.s rfl (Y.ixArr n Tryz.underlying115 Tryz.sizeOf114 rfl rfl rfl hn16) ?_
  refine GoK.s rfl (Y.load Tryz.isAgg114 rfl (Cell.a (by rw [Nat.mul_one, spcC_get hn16, getD_of hp]))) ?_
  refine GoK.s rfl (Y.nilCheck rfl) ?_
  refine GoK.s rfl (Y.fieldAddr0 10 43 Tryz.underlying133 rfl Tryz.sizeOf43 rfl) ?_
  refine GoK.s rfl (Y.load Tryz.isAgg43 rfl (Cell.a (by rfl))) ?_
  refine GoK.d3 rfl (Does.callE rfl Tryz.call116 rfl (slot_Free hT hh) .auto) ?_
  rintro _ _ ⟨e, -, rfl, rfl⟩
  refine GoK.nil ?_
  refine GoE.then_normal ?_
  refine GoC.region ?_
  refine GoL.y rfl (Y.move rfl) ?_
  refine GoL.y rfl (Y.move rfl) ?_
  refine GoL.y rfl (Y.nilCheck rfl) ?_
  refine GoL.y rfl (Y.fieldAddr0 9 115 Tryz.underlying118 rfl Tryz.sizeOf115 rfl) ?_
  refine GoL.y rfl (Y.ixArr n Tryz.underlying115 Tryz.sizeOf114 rfl rfl rfl hn16) ?_
  refine GoL.does rfl (Does.st Tryz.sizeOf114 rfl rfl rfl (Nat.blt_eq.mpr (by show 9 + n * 1 < 31; omega))) ?_
  rintro _ _ ⟨rfl, rfl⟩
  rw [Nat.mul_one, show Value.pointer none = ptrO none from rfl, spcC_set hn16 hpl]
  refine GoL.nil ?_
  rw [show s.free n = { s with table := slotFreed s.table t.handle, thr := s.thr.set n none } from by unfold Spc.free; rw [spc_t ht]]
  refine GoE.end0 rfl fun w s => ⟨(), ?_, trivial, finE .auto s⟩
  rfl

set_option maxRecDepth 20000 in
theorem dng_tell {W : World} {bd b p : Nat} {ps : List (Option Nat)} {d : Dng} {t : Thr} (hp : ps[d.n]? = some (some p)) (ht : d.s.thr[d.n]? = some (some t)) {x y e : Int} {fin : Bool} (hr : d.s.recs.length ≤ 100000000) : Fn Tryz.prog W 61 [ptr bd, .int .u64 x, .int .u64 y, .int .i64 e, .bool fin] [dngX bd b p ps d] Unit (fun _ => .tuple #[]) (fun _ => True) (fun _ => [dngX bd b p ps (d.tell x y e fin)]) := by
  refine Fn.intro (N := 42) Tryz.func61 rfl Tryz.ntmps61 rfl fun F => ?_
  show GoC _ _ _ _ _ _ [dngX bd b p ps d, F]
  refine GoC.o2 (C := dngX bd b p ps d) .auto rfl ?_
  rintro vw ve -
  refine GoC.o10 (C := spcX b ps d.s) .auto rfl ?_
  rintro fv sv pv bt vm bg vt bk bw vr -
  refine GoC.fr .auto (thrs_out hp ht) ?_
  refine GoC.draw [arr bd 0 (dngC b p d vw ve), arr b 0 (spcC fv sv pv d.s.prg bt ps vm bg vt bk bw vr), arr p 0 (thrC t)] [0, 0, 0, 0, 0, 0, 0, 0, 0, 0, 0, 1, 1, 1, 1, 1, 1, 1, 1, 1, 1, 1, 1, 1, 1, 1, 1, 1, 2, 2, 1, 1, 3] rfl (by kernel_rfl) ?_
  refine GoK.k rfl Kept.auto (Y.move rfl) ?_
  refine GoK.k rfl Kept.auto (Y.nilCheck rfl) ?_
  refine GoK.k rfl Kept.auto (Y.fieldAddrZ 27 Tryz.underlying138 rfl Tryz.sizeOf27 rfl) ?_
  refine GoK.k rfl Kept.auto (Y.load Tryz.isAgg27 rfl (Cell.a (by rfl))) ?_
  refine GoK.k rfl Kept.auto (Y.move rfl) ?_
  refine GoK.k rfl Kept.auto (Y.nilCheck rfl) ?_
  refine GoK.k rfl Kept.auto (Y.fieldAddrZ 27 Tryz.underlying138 rfl Tryz.sizeOf27 rfl) ?_
  refine GoK.k rfl Kept.auto (Y.load Tryz.isAgg27 rfl (Cell.a (by rfl))) ?_
  refine GoK.k rfl Kept.auto (Y.nilCheck rfl) ?_
  refine GoK.k rfl Kept.auto (Y.fieldAddr0 30 32 Tryz.underlying118 rfl Tryz.sizeOf32 rfl) ?_
  refine GoK.k rfl Kept.auto (Y.load Tryz.isAgg32 rfl (Cell.a (by rfl))) ?_
  refine GoK.s rfl (Y.move rfl) ?_
  refine GoK.s rfl (Y.nilCheck rfl) ?_
  refine GoK.s rfl (Y.fieldAddr0 2 114 Tryz.underlying138 rfl Tryz.sizeOf114 rfl) ?_
  refine GoK.s rfl (Y.load Tryz.isAgg114 rfl (Cell.a (by rfl))) ?_
  refine GoK.s rfl (Y.nilCheck rfl) ?_
  refine GoK.s rfl (Y.fieldAddr0 10 43 Tryz.underlying133 rfl Tryz.sizeOf43 rfl) ?_
  refine GoK.s rfl (Y.load Tryz.isAgg43 rfl (Cell.a (by rfl))) ?_
  refine GoK.s rfl (Y.move rfl) ?_
  refine GoK.s rfl (Y.nilCheck rfl) ?_
  refine GoK.s rfl (Y.fieldAddr0 3 123 Tryz.underlying138 rfl Tryz.sizeOf123 rfl) ?_
  refine GoK.s rfl (Y.fieldAddrZ 3 Tryz.underlying123 rfl Tryz.sizeOf3 rfl) ?_
  refine GoK.s rfl (Y.load Tryz.isAgg3 rfl (Cell.a (by rfl))) ?_
  refine GoK.s rfl (Y.move rfl) ?_
  refine GoK.s rfl (Y.move rfl) ?_
  refine GoK.s rfl (Y.move rfl) ?_
  refine GoK.s rfl (Y.move rfl) ?_
  refine GoK.s rfl (Y.bld6 (fun v1 v2 v3 v4 v5 v6 => [v1, v2, v3, v4, v5, v6]) rfl rfl rfl rfl rfl rfl (by kernel_rfl)) ?_
  refine GoK.d2 rfl Kept.auto (Does.bsl 45 rfl rfl (by kernel_rfl)) (by rintro _ _ ⟨b38, rfl, rfl⟩; exact Kept.auto) ?_
  rintro _ _ ⟨b38, rfl, rfl⟩
  refine GoK.d2 rfl Kept.auto (Does.app1 (enc := recE) (k := 6) (⟨t.handle, d.i.op, x, y, e, fin⟩ : Rec) rfl Tryz.underlying32 Tryz.underlying32 Tryz.typeInfo45 rfl rfl rfl (by decide) rfl rfl rfl .auto rfl .auto (by omega) rfl) (by rintro _ _ ⟨v39, rfl, rfl⟩; exact Kept.auto) ?_
  rintro _ _ ⟨v39, rfl, rfl⟩
  refine GoK.s rfl (Y.nilCheck rfl) ?_
  refine GoK.s rfl (Y.fieldAddr0 30 32 Tryz.underlying118 rfl Tryz.sizeOf32 rfl) ?_
  refine GoK.d3 rfl (Does.stS Tryz.sizeOf32 rfl rfl rfl) ?_
  rintro _ _ ⟨rfl, rfl⟩
  rw [spc_recs]
  refine GoK.nil ?_
  refine GoE.to (A := thrsH ps d.s.thr) (Bs := [arr p 0 (thrC t), thrsH (ps.set d.n none) (d.s.thr.set d.n none)]) .auto (thrs_keep hp ht) ?_
  rw [show d.tell x y e fin = { d with s := d.s.tell ⟨t.handle, d.i.op, x, y, e, fin⟩ } from by unfold Dng.tell; rw [dng_t ht]]
  refine GoE.end0 rfl fun w s => ⟨(), ?_, trivial, finE .auto s⟩
  rfl

set_option maxRecDepth 20000 in
theorem dng_pass {W : World} {bd b p : Nat} {ps : List (Option Nat)} {d : Dng} {t : Thr} (hp : ps[d.n]? = some (some p)) (ht : d.s.thr[d.n]? = some (some t)) {x y e : Int} (hr : d.s.recs.length ≤ 100000000) (he : 0 ≤ e ∧ e ≤ 11) (hl : t.regs.length = 8) : Fn Tryz.prog W 89 [ptr bd, .int .u64 x, .int .u64 y, .int .i64 e] [dngX bd b p ps d] Unit (fun _ => .tuple #[]) (fun _ => True) (fun _ => [dngX bd b p ps (d.pass x y e)]) := by
  refine Fn.intro (N := 23) Tryz.func89 rfl Tryz.ntmps89 rfl fun F => ?_
  show GoC _ _ _ _ _ _ [dngX bd b p ps d, F]
  refine GoC.seq ?_
  refine GoC.region ?_
  refine GoL.y rfl (Y.move rfl) ?_
  refine GoL.y rfl (Y.move rfl) ?_
  refine GoL.y rfl (Y.move rfl) ?_
  refine GoL.y rfl (Y.move rfl) ?_
  refine GoL.does rfl (Does.callE rfl Tryz.call61 rfl (dng_tell hp ht hr) .auto) ?_
  rintro _ _ ⟨⟨⟩, -, rfl, rfl⟩
  refine GoL.nil ?_
  refine GoE.then_normal ?_
  refine GoC.region ?_
  have ht2 : (d.tell x y e true).s.thr[d.n]? = some (some t) := ht
  refine GoL.o2 (C := dngX bd b p ps (d.tell x y e true)) .auto rfl ?_
  rintro vw ve -
  refine GoL.o10 (C := spcX b ps (d.tell x y e true).s) .auto rfl ?_
  rintro fv sv pv bt vm bg vt bk bw vr -
  refine GoL.fr .auto (thrs_out hp ht2) ?_
  refine GoL.y rfl (Y.move rfl) ?_
  refine GoL.y rfl (Y.nilCheck rfl) ?_
  refine GoL.y rfl (Y.fieldAddr0 2 114 Tryz.underlying138 rfl Tryz.sizeOf114 rfl) ?_
  refine GoL.y rfl (Y.load Tryz.isAgg114 rfl (Cell.a (cs := dngC b p (d.tell x y e true) vw ve) rfl)) ?_
  refine GoL.y rfl (Y.move rfl) ?_
  refine GoL.y rfl (Y.convU Tryz.underlying28 Tryz.underlying43 rfl (by omega)) ?_
  refine GoL.y rfl (Y.nilCheck rfl) ?_
  refine GoL.y rfl (Y.fieldAddrZ 131 Tryz.underlying133 rfl Tryz.sizeOf131 rfl) ?_
  refine GoL.y rfl (Y.fieldAddr0 2 57 Tryz.underlying131 rfl Tryz.sizeOf57 rfl) ?_
  refine GoL.y rfl (Y.ixArr 7 Tryz.underlying57 Tryz.sizeOf43 rfl rfl (by omega) (by omega)) ?_
  refine GoL.does rfl (Does.st Tryz.sizeOf43 rfl rfl rfl rfl) ?_
  rintro _ _ ⟨rfl, rfl⟩
  rw [thr_set (n := 7) e (by decide) hl]
  refine GoL.nil ?_
  refine GoE.to (A := thrsH ps (d.s.thr.set d.n (some (t.put 7 e)))) (Bs := [arr p 0 (thrC (t.put 7 e)), thrsH (ps.set d.n none) ((d.tell x y e true).s.thr.set d.n none)]) .auto (thrs_shut (List.getElem?_eq_some_iff.1 ht).1 hp) ?_
  rw [show d.pass x y e = (d.tell x y e true).setT (t.put 7 e) from by unfold Dng.pass; rw [dng_t ht]]
  refine GoE.end0 rfl fun w s => ⟨(), ?_, trivial, finE .auto s⟩
  rfl

set_option maxRecDepth 20000 in
theorem dng_block {W : World} {bd b p : Nat} {ps : List (Option Nat)} {d : Dng} {t : Thr} (hp : ps[d.n]? = some (some p)) (ht : d.s.thr[d.n]? = some (some t)) {why into x y : Int} (hr : d.s.recs.length ≤ 100000000) : Fn Tryz.prog W 121 [ptr bd, .int .i64 why, .int .i64 into, .int .u64 x, .int .u64 y] [dngX bd b p ps d] Unit (fun _ => .tuple #[]) (fun _ => True) (fun _ => [dngX bd b p ps (d.block why into x y)]) := by
  refine Fn.intro (N := 43) Tryz.func121 rfl Tryz.ntmps121 rfl fun F => ?_
  show GoC _ _ _ _ _ _ [dngX bd b p ps d, F]
  refine GoC.seq ?_
  refine GoC.region ?_
  refine GoL.y rfl (Y.move rfl) ?_
  refine GoL.y rfl (Y.move rfl) ?_
  refine GoL.y rfl (Y.move rfl) ?_
  refine GoL.does rfl (Does.callE rfl Tryz.call61 rfl (dng_tell hp ht hr) .auto) ?_
  rintro _ _ ⟨⟨⟩, -, rfl, rfl⟩
  refine GoL.nil ?_
  refine GoE.then_normal ?_
  refine GoC.seq ?_
  have ht2 : (d.tell x y 0 false).s.thr[d.n]? = some (some t) := ht
  refine GoC.o2 (C := dngX bd b p ps (d.tell x y 0 false)) .auto rfl ?_
  rintro vw ve -
  refine GoC.o10 (C := spcX b ps (d.tell x y 0 false).s) .auto rfl ?_
  rintro fv sv pv bt vm bg vt bk bw vr -
  refine GoC.fr .auto (thrs_out hp ht2) ?_
  refine GoC.draw [arr bd 0 (dngC b p (d.tell x y 0 false) vw ve)] [1, 1, 1, 1, 1, 1, 1, 1, 1, 1, 1, 1, 1, 1, 1, 1, 1, 1, 0, 1, 1, 2, 1, 1, 2, 1, 1, 3] rfl (by kernel_rfl) ?_
  have ht2 : (d.tell x y 0 false).s.thr[d.n]? = some (some t) := ht
  refine GoK.s rfl (Y.move rfl) ?_
  refine GoK.s rfl (Y.nilCheck rfl) ?_
  refine GoK.s rfl (Y.fieldAddr0 2 114 Tryz.underlying138 rfl Tryz.sizeOf114 rfl) ?_
  refine GoK.s rfl (Y.load Tryz.isAgg114 rfl (Cell.a (by rfl))) ?_
  refine GoK.s rfl (Y.move rfl) ?_
  refine GoK.s rfl (Y.nilCheck rfl) ?_
  refine GoK.s rfl (Y.fieldAddr0 2 114 Tryz.underlying138 rfl Tryz.sizeOf114 rfl) ?_
  refine GoK.s rfl (Y.load Tryz.isAgg114 rfl (Cell.a (by rfl))) ?_
  refine GoK.s rfl (Y.move rfl) ?_
  refine GoK.s rfl (Y.nilCheck rfl) ?_
  refine GoK.s rfl (Y.fieldAddr0 2 114 Tryz.underlying138 rfl Tryz.sizeOf114 rfl) ?_
  refine GoK.s rfl (Y.load Tryz.isAgg114 rfl (Cell.a (by rfl))) ?_
  refine GoK.s rfl (Y.move rfl) ?_
  refine GoK.s rfl (Y.move rfl) ?_
  refine GoK.s rfl (Y.nilCheck rfl) ?_
  refine GoK.s rfl (Y.fieldAddr0 3 123 Tryz.underlying138 rfl Tryz.sizeOf123 rfl) ?_
  refine GoK.s rfl (Y.fieldAddrZ 3 Tryz.underlying123 rfl Tryz.sizeOf3 rfl) ?_
  refine GoK.s rfl (Y.load Tryz.isAgg3 rfl (Cell.a (by rfl))) ?_
  refine GoK.k rfl Kept.auto (Y.move rfl) ?_
  refine GoK.s rfl (Y.nilCheck rfl) ?_
  refine GoK.s rfl (Y.fieldAddr0 11 3 Tryz.underlying133 rfl Tryz.sizeOf3 rfl) ?_
  refine GoK.d2 rfl Kept.auto (Does.st Tryz.sizeOf3 rfl rfl rfl rfl) (by rintro _ _ ⟨rfl, rfl⟩; exact Kept.auto) ?_
  rintro _ _ ⟨rfl, rfl⟩
  rw [thr_why]
  refine GoK.s rfl (Y.nilCheck rfl) ?_
  refine GoK.s rfl (Y.fieldAddr0 15 3 Tryz.underlying133 rfl Tryz.sizeOf3 rfl) ?_
  refine GoK.d2 rfl Kept.auto (Does.st Tryz.sizeOf3 rfl rfl rfl rfl) (by rintro _ _ ⟨rfl, rfl⟩; exact Kept.auto) ?_
  rintro _ _ ⟨rfl, rfl⟩
  rw [thr_op]
  refine GoK.s rfl (Y.nilCheck rfl) ?_
  refine GoK.s rfl (Y.fieldAddr0 16 3 Tryz.underlying133 rfl Tryz.sizeOf3 rfl) ?_
  refine GoK.d3 rfl (Does.st Tryz.sizeOf3 rfl rfl rfl rfl) ?_
  rintro _ _ ⟨rfl, rfl⟩
  rw [thr_into]
  refine GoK.nil ?_
  refine GoE.then_normal ?_
  refine GoC.region ?_
  refine GoL.y rfl (Y.move rfl) ?_
  refine GoL.y rfl (Y.nilCheck rfl) ?_
  refine GoL.y rfl (Y.fieldAddr0 9 36 Tryz.underlying138 rfl Tryz.sizeOf36 rfl) ?_
  refine GoL.y rfl (Y.fieldAddr 1 4 Tryz.underlying36 rfl Tryz.sizeOf4 rfl) ?_
  refine GoL.does rfl (Does.st Tryz.sizeOf4 rfl rfl rfl rfl) ?_
  rintro _ _ ⟨rfl, rfl⟩
  refine GoL.nil ?_
  refine GoE.to (A := thrsH ps (d.s.thr.set d.n (some { t with why := why, op := d.i.op, into := into }))) (Bs := [arr p 0 (thrC { t with why := why, op := d.i.op, into := into }), thrsH (ps.set d.n none) ((d.tell x y 0 false).s.thr.set d.n none)]) .auto (thrs_shut (List.getElem?_eq_some_iff.1 ht).1 hp) ?_
  rw [show d.block why into x y = { (d.tell x y 0 false).setT { t with why := why, op := d.i.op, into := into } with out := { d.out with stopped := true } } from by unfold Dng.block; rw [dng_t ht]]
  refine GoE.end0 rfl fun w s => ⟨(), ?_, trivial, finE .auto s⟩
  rfl

set_option maxRecDepth 20000 in
theorem spc_wake {W : World} {b p : Nat} {ps : List (Option Nat)} {s : Spc} {n : Nat} {t : Thr} (hp : ps[n]? = some (some p)) (ht : s.thr[n]? = some (some t)) (hn16 : n < 16) (hR : ThrR t) {y : Int} : Fn Tryz.prog W 68 [ptr b, .int .i64 (n : Int), .int .u64 y] [spcX b ps s] Unit (fun _ => .agg (recE (t.woke y)).toArray) (fun _ => True) (fun _ => [spcX b ps (s.wake n y)]) := by
  refine Fn.intro (N := 50) Tryz.func68 rfl Tryz.ntmps68 rfl fun F => ?_
  show GoC _ _ _ _ _ _ [spcX b ps s, F]
  refine GoC.o10 (C := spcX b ps s) .auto rfl ?_
  rintro fv sv pv bt vm bg vt bk bw vr -
  refine GoC.fr .auto (thrs_out hp ht) ?_
  have hRl := hR.l
  have hRi := hR.i
  refine GoC.seq ?_
  refine GoC.region ?_
  refine GoL.does rfl (Does.alloc rfl Tryz.zeroValue45 rfl) ?_
  rintro _ _ ⟨b6, rfl, rfl⟩
  refine GoL.nil ?_
  refine GoE.then_normal ?_
  refine GoC.seq ?_
  refine GoC.region ?_
  refine GoL.y rfl (Y.move rfl) ?_
  refine GoL.y rfl (Y.move rfl) ?_
  refine GoL.y rfl (Y.nilCheck rfl) ?_
  refine GoL.y rfl (Y.fieldAddr0 9 115 Tryz.underlying118 rfl Tryz.sizeOf115 rfl) ?_
  refine GoL.y rfl (Y.ixArr n Tryz.underlying115 Tryz.sizeOf114 rfl rfl rfl hn16) ?_
  refine GoL.y rfl (Y.load Tryz.isAgg114 rfl (Cell.a (by rw [Nat.mul_one, spcC_get hn16, getD_of hp]))) ?_
  refine GoL.y rfl (Y.assign rfl) ?_
  refine GoL.nil ?_
  refine GoE.then_normal ?_
  refine GoC.cutK (X := Unit) [2, 14, 15, 16, 17, 18, 19, 20, 21, 22, 23, 24, 25, 26, 27, 28] (fun _ => True) (fun _ => [(2, some (.int .u64 (if t.into = -1 then 0 else y)))]) (fun _ => [arr p 0 (thrC (if t.into = -1 then t else t.put t.into y)), thrsH (ps.set n none) (s.thr.set n none), arr b6 0 [.int .u64 0, .int .i64 0, .int .u64 0, .int .u64 0, .int .i64 0, .bool false], arr b 0 (spcC fv sv pv s.prg bt ps vm bg vt bk bw vr), codeH fv s.prg.funcs, tblH bt s.table, sl wrdE 1 vm s.mem, gatesH bg s.gates, tubsH vt s.tubes, dskH bk s.disk, whlH bw s.wheel, sl recE 6 vr s.recs, F]) ?_ ?_
  · refine GoC.seq ?_
    refine GoC.region ?_
    refine GoL.y rfl (Y.move rfl) ?_
    refine GoL.y rfl (Y.nilCheck rfl) ?_
    refine GoL.y rfl (Y.fieldAddr0 16 3 Tryz.underlying133 rfl Tryz.sizeOf3 rfl) ?_
    refine GoL.y rfl (Y.load Tryz.isAgg3 rfl (Cell.a (by rfl))) ?_
    refine GoL.y rfl (Y.neq rfl rfl) ?_
    refine GoL.nil ?_
    refine GoE.then_normal ?_
    refine GoC.condD rfl (fun h18 => ?_) (fun h18 => ?_)
    · refine GoC.draw [arr p 0 (thrC t)] [1, 1, 1, 1, 1, 1, 1, 1, 1, 1, 3] rfl (by kernel_rfl) ?_
      refine GoK.s rfl (Y.move rfl) ?_
      refine GoK.s rfl (Y.move rfl) ?_
      refine GoK.s rfl (Y.nilCheck rfl) ?_
      refine GoK.s rfl (Y.fieldAddr0 16 3 Tryz.underlying133 rfl Tryz.sizeOf3 rfl) ?_
      refine GoK.s rfl (Y.load Tryz.isAgg3 rfl (Cell.a (by rfl))) ?_
      refine GoK.s rfl (Y.move rfl) ?_
      refine GoK.s rfl (Y.nilCheck rfl) ?_
      refine GoK.s rfl (Y.fieldAddrZ 131 Tryz.underlying133 rfl Tryz.sizeOf131 rfl) ?_
      refine GoK.s rfl (Y.fieldAddr0 2 57 Tryz.underlying131 rfl Tryz.sizeOf57 rfl) ?_
      refine GoK.s rfl (Y.ixArr t.into.toNat Tryz.underlying57 Tryz.sizeOf43 rfl rfl (by omega) (by omega)) ?_
      refine GoK.d3 rfl (Does.st Tryz.sizeOf43 rfl rfl rfl (Nat.blt_eq.mpr (by show 2 + t.into.toNat * 1 < 18; omega))) ?_
      rintro _ _ ⟨rfl, rfl⟩
      rw [thr_setI y (by omega) (by omega) hRl]
      refine GoK.nil ?_
      refine GoE.midK () .auto ?_ ?_ ?_
      · trivial
      · rw [if_neg (by omega)]; exact ⟨rfl, trivial⟩
      · rw [if_neg (by omega)]; exact fun w s => Ent.kept .auto w s
    · refine GoC.region ?_
      refine GoL.y rfl (Y.assign rfl) ?_
      refine GoL.nil ?_
      refine GoE.midK () .auto ?_ ?_ ?_
      · trivial
      · rw [if_pos (by omega)]; exact ⟨rfl, trivial⟩
      · rw [if_pos (by omega)]; exact fun w s => Ent.kept .auto w s
  · rintro ⟨⟩ -
    obtain ⟨y1, hy1⟩ : ∃ y1, y1 = (if t.into = -1 then 0 else y) := ⟨_, rfl⟩
    obtain ⟨t1, h1⟩ : ∃ t1, t1 = (if t.into = -1 then t else t.put t.into y) := ⟨_, rfl⟩
    have h1l : t1.regs.length = 8 := by
      rw [h1]
      split
      · exact hRl
      · rw [put_len]; exact hRl
    have h1h : t1.handle = t.handle ∧ t1.op = t.op := by
      rw [h1]
      split <;> exact ⟨rfl, rfl⟩
    rw [← hy1, ← h1]
    refine GoC.seq ?_
    refine GoC.region ?_
    refine GoL.y rfl (Y.move rfl) ?_
    refine GoL.y rfl (Y.nilCheck rfl) ?_
    refine GoL.y rfl (Y.fieldAddrZ 131 Tryz.underlying133 rfl Tryz.sizeOf131 rfl) ?_
    refine GoL.y rfl (Y.fieldAddr0 2 57 Tryz.underlying131 rfl Tryz.sizeOf57 rfl) ?_
    refine GoL.y rfl (Y.ixArr 7 Tryz.underlying57 Tryz.sizeOf43 rfl rfl (by omega) (by omega)) ?_
    refine GoL.does rfl (Does.st Tryz.sizeOf43 rfl rfl rfl rfl) ?_
    rintro _ _ ⟨rfl, rfl⟩
    rw [thr_set (n := 7) 0 (by decide) h1l]
    refine GoL.nil ?_
    refine GoE.then_normal ?_
    refine GoC.seq ?_
    refine GoC.region ?_
    refine GoL.y rfl (Y.move rfl) ?_
    refine GoL.y rfl (Y.move rfl) ?_
    refine GoL.y rfl (Y.nilCheck rfl) ?_
    refine GoL.y rfl (Y.fieldAddr0 11 3 Tryz.underlying133 rfl Tryz.sizeOf3 rfl) ?_
    refine GoL.does rfl (Does.st Tryz.sizeOf3 rfl rfl rfl rfl) ?_
    rintro _ _ ⟨rfl, rfl⟩
    rw [thr_why]
    refine GoL.y rfl (Y.nilCheck rfl) ?_
    refine GoL.y rfl (Y.fieldAddr0 16 3 Tryz.underlying133 rfl Tryz.sizeOf3 rfl) ?_
    refine GoL.does rfl (Does.st Tryz.sizeOf3 rfl rfl rfl rfl) ?_
    rintro _ _ ⟨rfl, rfl⟩
    rw [thr_into]
    refine GoL.nil ?_
    refine GoE.then_normal ?_
    refine GoC.seq ?_
    refine GoC.draw [arr p 0 (thrC { t1.put 7 0 with why := 0, into := -1 })] [1, 1, 1, 1, 1, 1, 1, 1, 1, 1, 3] rfl (by kernel_rfl) ?_
    refine GoK.s rfl (Y.move rfl) ?_
    refine GoK.s rfl (Y.nilCheck rfl) ?_
    refine GoK.s rfl (Y.fieldAddr0 10 43 Tryz.underlying133 rfl Tryz.sizeOf43 rfl) ?_
    refine GoK.s rfl (Y.load Tryz.isAgg43 rfl (Cell.a (by rfl))) ?_
    refine GoK.s rfl (Y.move rfl) ?_
    refine GoK.s rfl (Y.nilCheck rfl) ?_
    refine GoK.s rfl (Y.fieldAddr0 15 3 Tryz.underlying133 rfl Tryz.sizeOf3 rfl) ?_
    refine GoK.s rfl (Y.load Tryz.isAgg3 rfl (Cell.a (by rfl))) ?_
    refine GoK.s rfl (Y.move rfl) ?_
    refine GoK.s rfl (Y.bld4 (fun v1 v2 v3 v4 => [v1, v2, (.int .u64 0), v3, (.int .i64 0), v4]) rfl rfl rfl rfl (by kernel_rfl)) ?_
    refine GoK.d3 rfl (Does.sta (by exact Tryz.sizeOf45) rfl rfl rfl (by rfl)) ?_
    rintro _ _ ⟨rfl, rfl⟩
    refine GoK.nil ?_
    refine GoE.then_normal ?_
    refine GoC.ret ?_
    refine GoE.to (A := thrsH ps (s.thr.set n (some ({ t1.put 7 0 with why := 0, into := -1 })))) (Bs := [arr p 0 (thrC ({ t1.put 7 0 with why := 0, into := -1 })), thrsH (ps.set n none) (s.thr.set n none)]) .auto (thrs_shut (List.getElem?_eq_some_iff.1 ht).1 hp) ?_
    rw [show s.wake n y = s.setT n { t1.put 7 0 with why := 0, into := -1 } from by unfold Spc.wake; rw [spc_t ht, wake_eq t1 h1]]
    refine GoE.retC rfl rfl Tryz.isAgg45 (by exact Tryz.sizeOf45) Cells.a fun w s => ⟨(), ?_, trivial, finE .auto s⟩
    show Ending.returned (Value.agg #[.int .u64 t1.handle, .int .i64 t1.op, .int .u64 0, .int .u64 y1, .int .i64 0, .bool true]) = _; rw [h1h.1, h1h.2, hy1]; rfl

set_option maxRecDepth 20000 in
theorem dng_goes {W : World} {bd b p q : Nat} {ps : List (Option Nat)} {d : Dng} {t : Thr} {n : Nat} (hp : ps[n]? = some (some q)) (ht : d.s.thr[n]? = some (some t)) (hn16 : n < 16) (hR : ThrR t) (he : d.ends.length ≤ 1000000) (hw : d.out.woken.length ≤ 1000000) {y : Int} : Fn Tryz.prog W 86 [ptr bd, .int .i64 (n : Int), .int .u64 y] [dngX bd b p ps d] Unit (fun _ => .tuple #[]) (fun _ => True) (fun _ => [dngX bd b p ps (d.goes n y)]) := by
  refine Fn.intro (N := 34) Tryz.func86 rfl Tryz.ntmps86 rfl fun F => ?_
  show GoC _ _ _ _ _ _ [dngX bd b p ps d, F]
  refine GoC.o2 (C := dngX bd b p ps d) .auto rfl ?_
  rintro vw ve -
  refine GoC.seq ?_
  refine GoC.draw [arr bd 0 (dngC b p d vw ve)] [0, 0, 0, 0, 0, 1, 1, 1, 1, 1, 1, 2, 2, 2, 1, 1, 3] rfl (by kernel_rfl) ?_
  refine GoK.k rfl Kept.auto (Y.move rfl) ?_
  refine GoK.k rfl Kept.auto (Y.move rfl) ?_
  refine GoK.k rfl Kept.auto (Y.nilCheck rfl) ?_
  refine GoK.k rfl Kept.auto (Y.fieldAddr0 13 32 Tryz.underlying138 rfl Tryz.sizeOf32 rfl) ?_
  refine GoK.k rfl Kept.auto (Y.load Tryz.isAgg32 rfl (Cell.a (by rfl))) ?_
  refine GoK.s rfl (Y.move rfl) ?_
  refine GoK.s rfl (Y.nilCheck rfl) ?_
  refine GoK.s rfl (Y.fieldAddrZ 27 Tryz.underlying138 rfl Tryz.sizeOf27 rfl) ?_
  refine GoK.s rfl (Y.load Tryz.isAgg27 rfl (Cell.a (by rfl))) ?_
  refine GoK.s rfl (Y.move rfl) ?_
  refine GoK.s rfl (Y.move rfl) ?_
  refine GoK.d2 rfl Kept.auto (Does.callE rfl Tryz.call68 rfl (spc_wake hp ht hn16 hR) .auto) (by rintro _ _ ⟨⟨⟩, -, rfl, rfl⟩; exact Kept.auto) ?_
  rintro _ _ ⟨⟨⟩, -, rfl, rfl⟩
  refine GoK.d2 rfl Kept.auto (Does.bsl 45 rfl rfl (by kernel_rfl)) (by rintro _ _ ⟨b18, rfl, rfl⟩; exact Kept.auto) ?_
  rintro _ _ ⟨b18, rfl, rfl⟩
  refine GoK.d2 rfl Kept.auto (Does.app1 (enc := recE) (k := 6) (t.woke y) rfl Tryz.underlying32 Tryz.underlying32 Tryz.typeInfo45 rfl rfl rfl (by decide) rfl rfl rfl .auto rfl .auto (by omega) rfl) (by rintro _ _ ⟨v19, rfl, rfl⟩; exact Kept.auto) ?_
  rintro _ _ ⟨v19, rfl, rfl⟩
  refine GoK.s rfl (Y.nilCheck rfl) ?_
  refine GoK.s rfl (Y.fieldAddr0 13 32 Tryz.underlying138 rfl Tryz.sizeOf32 rfl) ?_
  refine GoK.d3 rfl (Does.stS Tryz.sizeOf32 rfl rfl rfl) ?_
  rintro _ _ ⟨rfl, rfl⟩
  refine GoK.nil ?_
  refine GoE.then_normal ?_
  refine GoC.region ?_
  refine GoL.y rfl (Y.move rfl) ?_
  refine GoL.y rfl (Y.move rfl) ?_
  refine GoL.y rfl (Y.nilCheck rfl) ?_
  refine GoL.y rfl (Y.fieldAddr0 9 36 Tryz.underlying138 rfl Tryz.sizeOf36 rfl) ?_
  refine GoL.y rfl (Y.fieldAddrZ 23 Tryz.underlying36 rfl Tryz.sizeOf23 rfl) ?_
  refine GoL.y rfl (Y.load Tryz.isAgg23 rfl (Cell.a (by rfl))) ?_
  refine GoL.y rfl (Y.move rfl) ?_
  refine GoL.does rfl (Does.bsl 3 rfl rfl (by kernel_rfl)) ?_
  rintro _ _ ⟨b29, rfl, rfl⟩
  refine GoL.does rfl (Does.app1 (enc := intE) (k := 1) (n : Int) rfl Tryz.underlying23 Tryz.underlying23 Tryz.typeInfo3 rfl rfl rfl (by decide) rfl rfl rfl .auto rfl .auto (by omega) rfl) ?_
  rintro _ _ ⟨v30, rfl, rfl⟩
  refine GoL.y rfl (Y.nilCheck rfl) ?_
  refine GoL.y rfl (Y.fieldAddr0 9 36 Tryz.underlying138 rfl Tryz.sizeOf36 rfl) ?_
  refine GoL.y rfl (Y.fieldAddrZ 23 Tryz.underlying36 rfl Tryz.sizeOf23 rfl) ?_
  refine GoL.does rfl (Does.stS Tryz.sizeOf23 rfl rfl rfl) ?_
  rintro _ _ ⟨rfl, rfl⟩
  refine GoL.nil ?_
  rw [show d.goes n y = { d with s := d.s.wake n y, ends := d.ends ++ [t.woke y], out := { d.out with woken := d.out.woken ++ [(n : Int)] } } from by unfold Dng.goes; rw [spc_t ht]]
  refine GoE.end0 rfl fun w s => ⟨(), ?_, trivial, finE .auto s⟩
  rfl

set_option maxRecDepth 20000 in
theorem dng_a {W : World} {bd b p : Nat} {ps : List (Option Nat)} {d : Dng} {t : Thr} (hp : ps[d.n]? = some (some p)) (ht : d.s.thr[d.n]? = some (some t)) (hI : 0 ≤ d.i.a ∧ d.i.a < 8) : Fn Tryz.prog W 92 [ptr bd] [dngX bd b p ps d] Unit (fun _ => .int .u64 d.a) (fun _ => True) (fun _ => [dngX bd b p ps d]) := by
  refine Fn.intro (N := 17) Tryz.func92 rfl Tryz.ntmps92 rfl fun F => ?_
  show GoC _ _ _ _ _ _ [dngX bd b p ps d, F]
  refine GoC.o2 (C := dngX bd b p ps d) .auto rfl ?_
  rintro vw ve -
  refine GoC.o10 (C := spcX b ps d.s) .auto rfl ?_
  rintro fv sv pv bt vm bg vt bk bw vr -
  refine GoC.fr .auto (thrs_out hp ht) ?_
  refine GoC.seq ?_
  refine GoC.region ?_
  refine GoL.y rfl (Y.assign rfl) ?_
  refine GoL.nil ?_
  refine GoE.then_normal ?_
  refine GoC.seq ?_
  refine GoC.draw [] [1, 1, 1, 1, 1, 1, 1, 1, 1, 1, 1, 1, 1, 1, 1] rfl (by kernel_rfl) ?_
  refine GoK.s rfl (Y.move rfl) ?_
  refine GoK.s rfl (Y.nilCheck rfl) ?_
  refine GoK.s rfl (Y.fieldAddr0 2 114 Tryz.underlying138 rfl Tryz.sizeOf114 rfl) ?_
  refine GoK.s rfl (Y.load Tryz.isAgg114 rfl (Cell.a (by rfl))) ?_
  refine GoK.s rfl (Y.move rfl) ?_
  refine GoK.s rfl (Y.nilCheck rfl) ?_
  refine GoK.s rfl (Y.fieldAddr0 3 123 Tryz.underlying138 rfl Tryz.sizeOf123 rfl) ?_
  refine GoK.s rfl (Y.fieldAddr 1 3 Tryz.underlying123 rfl Tryz.sizeOf3 rfl) ?_
  refine GoK.s rfl (Y.load Tryz.isAgg3 rfl (Cell.a (by rfl))) ?_
  refine GoK.s rfl (Y.nilCheck rfl) ?_
  refine GoK.s rfl (Y.fieldAddrZ 131 Tryz.underlying133 rfl Tryz.sizeOf131 rfl) ?_
  refine GoK.s rfl (Y.fieldAddr0 2 57 Tryz.underlying131 rfl Tryz.sizeOf57 rfl) ?_
  refine GoK.s rfl (Y.ixArr d.i.a.toNat Tryz.underlying57 Tryz.sizeOf43 rfl rfl (by omega) (by omega)) ?_
  refine GoK.s rfl (Y.load Tryz.isAgg43 rfl (Cell.a (thr_get (by omega)))) ?_
  refine GoK.s rfl (Y.assign rfl) ?_
  refine GoK.nil ?_
  refine GoE.then_normal ?_
  refine GoC.ret ?_
  refine GoE.to (A := thrsH ps d.s.thr) (Bs := [arr p 0 (thrC t), thrsH (ps.set d.n none) (d.s.thr.set d.n none)]) .auto (thrs_keep hp ht) ?_
  refine GoE.ret1 rfl rfl fun w s => ⟨(), ?_, trivial, finE .auto s⟩
  rw [show d.a = t.regs.getD d.i.a.toNat 0 from by unfold Dng.a; rw [dng_t ht]; rfl]

set_option maxRecDepth 20000 in
theorem dng_b {W : World} {bd b p : Nat} {ps : List (Option Nat)} {d : Dng} {t : Thr} (hp : ps[d.n]? = some (some p)) (ht : d.s.thr[d.n]? = some (some t)) (hI : 0 ≤ d.i.b ∧ d.i.b < 8) : Fn Tryz.prog W 119 [ptr bd] [dngX bd b p ps d] Unit (fun _ => .int .u64 d.b) (fun _ => True) (fun _ => [dngX bd b p ps d]) := by
  refine Fn.intro (N := 17) Tryz.func119 rfl Tryz.ntmps119 rfl fun F => ?_
  show GoC _ _ _ _ _ _ [dngX bd b p ps d, F]
  refine GoC.o2 (C := dngX bd b p ps d) .auto rfl ?_
  rintro vw ve -
  refine GoC.o10 (C := spcX b ps d.s) .auto rfl ?_
  rintro fv sv pv bt vm bg vt bk bw vr -
  refine GoC.fr .auto (thrs_out hp ht) ?_
  refine GoC.seq ?_
  refine GoC.region ?_
  refine GoL.y rfl (Y.assign rfl) ?_
  refine GoL.nil ?_
  refine GoE.then_normal ?_
  refine GoC.seq ?_
  refine GoC.draw [] [1, 1, 1, 1, 1, 1, 1, 1, 1, 1, 1, 1, 1, 1, 1] rfl (by kernel_rfl) ?_
  refine GoK.s rfl (Y.move rfl) ?_
  refine GoK.s rfl (Y.nilCheck rfl) ?_
  refine GoK.s rfl (Y.fieldAddr0 2 114 Tryz.underlying138 rfl Tryz.sizeOf114 rfl) ?_
  refine GoK.s rfl (Y.load Tryz.isAgg114 rfl (Cell.a (by rfl))) ?_
  refine GoK.s rfl (Y.move rfl) ?_
  refine GoK.s rfl (Y.nilCheck rfl) ?_
  refine GoK.s rfl (Y.fieldAddr0 3 123 Tryz.underlying138 rfl Tryz.sizeOf123 rfl) ?_
  refine GoK.s rfl (Y.fieldAddr 2 3 Tryz.underlying123 rfl Tryz.sizeOf3 rfl) ?_
  refine GoK.s rfl (Y.load Tryz.isAgg3 rfl (Cell.a (by rfl))) ?_
  refine GoK.s rfl (Y.nilCheck rfl) ?_
  refine GoK.s rfl (Y.fieldAddrZ 131 Tryz.underlying133 rfl Tryz.sizeOf131 rfl) ?_
  refine GoK.s rfl (Y.fieldAddr0 2 57 Tryz.underlying131 rfl Tryz.sizeOf57 rfl) ?_
  refine GoK.s rfl (Y.ixArr d.i.b.toNat Tryz.underlying57 Tryz.sizeOf43 rfl rfl (by omega) (by omega)) ?_
  refine GoK.s rfl (Y.load Tryz.isAgg43 rfl (Cell.a (thr_get (by omega)))) ?_
  refine GoK.s rfl (Y.assign rfl) ?_
  refine GoK.nil ?_
  refine GoE.then_normal ?_
  refine GoC.ret ?_
  refine GoE.to (A := thrsH ps d.s.thr) (Bs := [arr p 0 (thrC t), thrsH (ps.set d.n none) (d.s.thr.set d.n none)]) .auto (thrs_keep hp ht) ?_
  refine GoE.ret1 rfl rfl fun w s => ⟨(), ?_, trivial, finE .auto s⟩
  rw [show d.b = t.regs.getD d.i.b.toNat 0 from by unfold Dng.b; rw [dng_t ht]; rfl]

set_option maxRecDepth 20000 in
theorem dng_finish {W : World} {bd b p : Nat} {ps : List (Option Nat)} {d : Dng} (hr : d.s.recs.length ≤ 100000000) (he : d.ends.length ≤ 1000000) : Fn Tryz.prog W 66 [ptr bd] [dngX bd b p ps d] Value (fun u => .agg (effE u d.finish.1).toArray) (fun _ => True) (fun u => [sl intE 1 u d.finish.1.woken, spcX b ps d.finish.2]) := by
  refine Fn.intro (N := 25) Tryz.func66 rfl Tryz.ntmps66 rfl fun F => ?_
  show GoC _ _ _ _ _ _ [dngX bd b p ps d, F]
  refine GoC.o2 (C := dngX bd b p ps d) .auto rfl ?_
  rintro vw ve -
  refine GoC.o10 (C := spcX b ps d.s) .auto rfl ?_
  rintro fv sv pv bt vm bg vt bk bw vr -
  refine GoC.seq ?_
  refine GoC.region ?_
  refine GoL.does rfl (Does.alloc rfl Tryz.zeroValue36 rfl) ?_
  rintro _ _ ⟨b2, rfl, rfl⟩
  refine GoL.nil ?_
  refine GoE.then_normal ?_
  refine GoC.seq ?_
  refine GoC.draw [arr bd 0 (dngC b p d vw ve), arr b 0 (spcC fv sv pv d.s.prg bt ps vm bg vt bk bw vr)] [0, 0, 0, 0, 1, 1, 1, 1, 1, 1, 1, 1, 1, 1, 1, 2, 1, 1, 3] rfl (by kernel_rfl) ?_
  refine GoK.k rfl Kept.auto (Y.move rfl) ?_
  refine GoK.k rfl Kept.auto (Y.nilCheck rfl) ?_
  refine GoK.k rfl Kept.auto (Y.fieldAddrZ 27 Tryz.underlying138 rfl Tryz.sizeOf27 rfl) ?_
  refine GoK.k rfl Kept.auto (Y.load Tryz.isAgg27 rfl (Cell.a (by rfl))) ?_
  refine GoK.s rfl (Y.move rfl) ?_
  refine GoK.s rfl (Y.nilCheck rfl) ?_
  refine GoK.s rfl (Y.fieldAddrZ 27 Tryz.underlying138 rfl Tryz.sizeOf27 rfl) ?_
  refine GoK.s rfl (Y.load Tryz.isAgg27 rfl (Cell.a (by rfl))) ?_
  refine GoK.s rfl (Y.nilCheck rfl) ?_
  refine GoK.s rfl (Y.fieldAddr0 30 32 Tryz.underlying118 rfl Tryz.sizeOf32 rfl) ?_
  refine GoK.s rfl (Y.load Tryz.isAgg32 rfl (Cell.a (by rfl))) ?_
  refine GoK.s rfl (Y.move rfl) ?_
  refine GoK.s rfl (Y.nilCheck rfl) ?_
  refine GoK.s rfl (Y.fieldAddr0 13 32 Tryz.underlying138 rfl Tryz.sizeOf32 rfl) ?_
  refine GoK.s rfl (Y.load Tryz.isAgg32 rfl (Cell.a (by rfl))) ?_
  refine GoK.d2 rfl Kept.auto (Does.append rfl Tryz.underlying32 Tryz.underlying32 Tryz.typeInfo45 rfl rfl rfl (by decide) rfl rfl .auto Rd.s (by omega) (recE_one _)) (by rintro _ _ ⟨v18, rfl, rfl⟩; exact Kept.auto) ?_
  rintro _ _ ⟨v18, rfl, rfl⟩
  refine GoK.s rfl (Y.nilCheck rfl) ?_
  refine GoK.s rfl (Y.fieldAddr0 30 32 Tryz.underlying118 rfl Tryz.sizeOf32 rfl) ?_
  refine GoK.d3 rfl (Does.stS Tryz.sizeOf32 rfl rfl rfl) ?_
  rintro _ _ ⟨rfl, rfl⟩
  rw [spc_recs]
  refine GoK.nil ?_
  refine GoE.then_normal ?_
  refine GoC.seq ?_
  refine GoC.region ?_
  refine GoL.y rfl (Y.move rfl) ?_
  refine GoL.y rfl (Y.nilCheck rfl) ?_
  refine GoL.y rfl (Y.fieldAddr0 9 36 Tryz.underlying138 rfl Tryz.sizeOf36 rfl) ?_
  refine GoL.y rfl (Y.lda Tryz.isAgg36 rfl (Cells.part0 (ds := effE vw d.out) Cells.a rfl) (by exact Tryz.sizeOf36)) ?_
  refine GoL.does rfl (Does.staS (vs := [.bool d.out.stopped, .bool d.out.ended, .bool d.out.yielded]) (by exact Tryz.sizeOf36) rfl rfl rfl rfl) ?_
  rintro _ _ ⟨rfl, rfl⟩
  refine GoL.nil ?_
  refine GoE.then_normal ?_
  refine GoC.ret ?_
  refine GoE.retC rfl rfl Tryz.isAgg36 (by exact Tryz.sizeOf36) Cells.a fun w s => ⟨vw, ?_, trivial, finE .auto s⟩
  rfl

end Go.SLYtpcjdohmjmeehaaGreat
namespace Go.SLYtpcjdohmjmeehaaGreat
open Go Go.RowKit Go.Proofs

set_option maxRecDepth 20000 in
theorem num_of {W : World} {a : Int} : Fn Tryz.prog W 221 [.int .u64 a] [] Unit (fun _ => .float .f64 a.toNat) (fun _ => True) (fun _ => []) := by
  refine Fn.intro (N := 5) Tryz.func221 rfl Tryz.ntmps221 rfl fun F => ?_
  show GoC _ _ _ _ _ _ [F]
  refine GoC.seq ?_
  refine GoC.region ?_
  refine GoL.y rfl (Y.assign rfl) ?_
  refine GoL.nil ?_
  refine GoE.then_normal ?_
  refine GoC.seq ?_
  refine GoC.region ?_
  refine GoL.y rfl (Y.move rfl) ?_
  refine GoL.y rfl (Y.ext (e := Extern.MathFloatBits.float64frombits) Tryz.func216 rfl rfl rfl (by kernel_rfl) rfl (fun w => rfl)) ?_
  refine GoL.y rfl (Y.assign rfl) ?_
  refine GoL.nil ?_
  refine GoE.then_normal ?_
  refine GoC.ret ?_
  refine GoE.ret1 rfl rfl fun w s => ⟨(), ?_, trivial, finE .auto s⟩
  rfl

set_option maxRecDepth 20000 in
theorem math_IsNaN {W : World} {n : Nat} : Fn Tryz.prog W 244 [.float .f64 n] [] Unit (fun _ => .bool (fOrd n n != some .eq)) (fun _ => True) (fun _ => []) := by
  refine Fn.intro (N := 6) Tryz.func244 rfl Tryz.ntmps244 rfl fun F => ?_
  show GoC _ _ _ _ _ _ [F]
  refine GoC.seq ?_
  refine GoC.region ?_
  refine GoL.y rfl (Y.assign rfl) ?_
  refine GoL.nil ?_
  refine GoE.then_normal ?_
  refine GoC.seq ?_
  refine GoC.region ?_
  refine GoL.y rfl (Y.move rfl) ?_
  refine GoL.y rfl (Y.move rfl) ?_
  refine GoL.y rfl (Y.fNeq rfl rfl (fun w => rfl)) ?_
  refine GoL.y rfl (Y.assign rfl) ?_
  refine GoL.nil ?_
  refine GoE.then_normal ?_
  refine GoC.ret ?_
  refine GoE.ret1 rfl rfl fun w s => ⟨(), ?_, trivial, finE .auto s⟩
  rfl

set_option maxRecDepth 20000 in
theorem num_isNone {W : World} {n : Nat} : Fn Tryz.prog W 226 [.float .f64 n] [] Unit (fun _ => .bool (fOrd n n != some .eq)) (fun _ => True) (fun _ => []) := by
  refine Fn.intro (N := 5) Tryz.func226 rfl Tryz.ntmps226 rfl fun F => ?_
  show GoC _ _ _ _ _ _ [F]
  refine GoC.seq ?_
  refine GoC.region ?_
  refine GoL.y rfl (Y.assign rfl) ?_
  refine GoL.nil ?_
  refine GoE.then_normal ?_
  refine GoC.seq ?_
  refine GoC.region ?_
  refine GoL.y rfl (Y.move rfl) ?_
  refine GoL.does rfl (Does.callE rfl Tryz.call244 rfl math_IsNaN .auto) ?_
  rintro _ _ ⟨⟨⟩, -, rfl, rfl⟩
  refine GoL.y rfl (Y.assign rfl) ?_
  refine GoL.nil ?_
  refine GoE.then_normal ?_
  refine GoC.ret ?_
  refine GoE.ret1 rfl rfl fun w s => ⟨(), ?_, trivial, finE .auto s⟩
  rfl

set_option maxRecDepth 20000 in
theorem num_word {W : World} {n : Nat} : Fn Tryz.prog W 222 [.float .f64 n] [] Unit (fun _ => .int .u64 (fClean (n : Int))) (fun _ => True) (fun _ => []) := by
  refine Fn.intro (N := 7) Tryz.func222 rfl Tryz.ntmps222 rfl fun F => ?_
  show GoC _ _ _ _ _ _ [F]
  refine GoC.seq ?_
  refine GoC.region ?_
  refine GoL.y rfl (Y.assign rfl) ?_
  refine GoL.nil ?_
  refine GoE.then_normal ?_
  refine GoC.seq ?_
  refine GoC.seq ?_
  refine GoC.region ?_
  refine GoL.y rfl (Y.move rfl) ?_
  refine GoL.does rfl (Does.callE rfl Tryz.call226 rfl num_isNone .auto) ?_
  rintro _ _ ⟨⟨⟩, -, rfl, rfl⟩
  refine GoL.nil ?_
  refine GoE.then_normal ?_
  refine GoC.cond rfl (fun h4 => ?_) (fun h4 => ?_)
  · refine GoC.seq ?_
    refine GoC.region ?_
    refine GoL.y rfl (Y.assign rfl) ?_
    refine GoL.nil ?_
    refine GoE.then_normal ?_
    refine GoC.ret ?_
    refine GoE.then_ret ?_
    refine GoE.ret1 rfl rfl fun w s => ⟨(), ?_, trivial, finE .auto s⟩
    rw [clean_nat, if_pos h4]; rfl
  · refine GoC.skip ?_
    refine GoE.then_normal ?_
    refine GoC.seq ?_
    refine GoC.region ?_
    refine GoL.y rfl (Y.move rfl) ?_
    refine GoL.y rfl (Y.ext (e := Extern.MathFloatBits.float64bits) Tryz.func218 rfl rfl rfl (by kernel_rfl) rfl (fun w => rfl)) ?_
    refine GoL.y rfl (Y.assign rfl) ?_
    refine GoL.nil ?_
    refine GoE.then_normal ?_
    refine GoC.ret ?_
    refine GoE.ret1 rfl rfl fun w s => ⟨(), ?_, trivial, finE .auto s⟩
    rw [clean_nat, if_neg (by rw [h4]; simp)]

set_option maxRecDepth 20000 in
theorem num_Add {W : World} {a b : Int} : Fn Tryz.prog W 188 [.int .u64 a, .int .u64 b] [] Unit (fun _ => .int .u64 (fAdd a b)) (fun _ => True) (fun _ => []) := by
  refine Fn.intro (N := 11) Tryz.func188 rfl Tryz.ntmps188 rfl fun F => ?_
  show GoC _ _ _ _ _ _ [F]
  refine GoC.seq ?_
  refine GoC.region ?_
  refine GoL.y rfl (Y.assign rfl) ?_
  refine GoL.nil ?_
  refine GoE.then_normal ?_
  refine GoC.seq ?_
  refine GoC.region ?_
  refine GoL.y rfl (Y.move rfl) ?_
  refine GoL.does rfl (Does.callE rfl Tryz.call221 rfl num_of .auto) ?_
  rintro _ _ ⟨⟨⟩, -, rfl, rfl⟩
  refine GoL.y rfl (Y.move rfl) ?_
  refine GoL.does rfl (Does.callE rfl Tryz.call221 rfl num_of .auto) ?_
  rintro _ _ ⟨⟨⟩, -, rfl, rfl⟩
  refine GoL.does rfl (Does.fBin (Ieee.double.add _ _) rfl rfl rfl (fun w => rfl)) ?_
  rintro _ _ ⟨r9, hr9, rfl, rfl⟩
  refine GoL.does rfl (Does.callE rfl Tryz.call222 rfl num_word .auto) ?_
  rintro _ _ ⟨⟨⟩, -, rfl, rfl⟩
  refine GoL.y rfl (Y.assign rfl) ?_
  refine GoL.nil ?_
  refine GoE.then_normal ?_
  refine GoC.ret ?_
  refine GoE.ret1 rfl rfl fun w s => ⟨(), ?_, trivial, finE .auto s⟩
  rw [out_res hr9]; rfl

set_option maxRecDepth 20000 in
theorem num_Sub {W : World} {a b : Int} : Fn Tryz.prog W 189 [.int .u64 a, .int .u64 b] [] Unit (fun _ => .int .u64 (fSub a b)) (fun _ => True) (fun _ => []) := by
  refine Fn.intro (N := 11) Tryz.func189 rfl Tryz.ntmps189 rfl fun F => ?_
  show GoC _ _ _ _ _ _ [F]
  refine GoC.seq ?_
  refine GoC.region ?_
  refine GoL.y rfl (Y.assign rfl) ?_
  refine GoL.nil ?_
  refine GoE.then_normal ?_
  refine GoC.seq ?_
  refine GoC.region ?_
  refine GoL.y rfl (Y.move rfl) ?_
  refine GoL.does rfl (Does.callE rfl Tryz.call221 rfl num_of .auto) ?_
  rintro _ _ ⟨⟨⟩, -, rfl, rfl⟩
  refine GoL.y rfl (Y.move rfl) ?_
  refine GoL.does rfl (Does.callE rfl Tryz.call221 rfl num_of .auto) ?_
  rintro _ _ ⟨⟨⟩, -, rfl, rfl⟩
  refine GoL.does rfl (Does.fBin (Ieee.double.sub _ _) rfl rfl rfl (fun w => rfl)) ?_
  rintro _ _ ⟨r9, hr9, rfl, rfl⟩
  refine GoL.does rfl (Does.callE rfl Tryz.call222 rfl num_word .auto) ?_
  rintro _ _ ⟨⟨⟩, -, rfl, rfl⟩
  refine GoL.y rfl (Y.assign rfl) ?_
  refine GoL.nil ?_
  refine GoE.then_normal ?_
  refine GoC.ret ?_
  refine GoE.ret1 rfl rfl fun w s => ⟨(), ?_, trivial, finE .auto s⟩
  rw [out_res hr9]; rfl

set_option maxRecDepth 20000 in
theorem num_Mul {W : World} {a b : Int} : Fn Tryz.prog W 190 [.int .u64 a, .int .u64 b] [] Unit (fun _ => .int .u64 (fMul a b)) (fun _ => True) (fun _ => []) := by
  refine Fn.intro (N := 11) Tryz.func190 rfl Tryz.ntmps190 rfl fun F => ?_
  show GoC _ _ _ _ _ _ [F]
  refine GoC.seq ?_
  refine GoC.region ?_
  refine GoL.y rfl (Y.assign rfl) ?_
  refine GoL.nil ?_
  refine GoE.then_normal ?_
  refine GoC.seq ?_
  refine GoC.region ?_
  refine GoL.y rfl (Y.move rfl) ?_
  refine GoL.does rfl (Does.callE rfl Tryz.call221 rfl num_of .auto) ?_
  rintro _ _ ⟨⟨⟩, -, rfl, rfl⟩
  refine GoL.y rfl (Y.move rfl) ?_
  refine GoL.does rfl (Does.callE rfl Tryz.call221 rfl num_of .auto) ?_
  rintro _ _ ⟨⟨⟩, -, rfl, rfl⟩
  refine GoL.does rfl (Does.fBin (Ieee.double.mul _ _) rfl rfl rfl (fun w => rfl)) ?_
  rintro _ _ ⟨r9, hr9, rfl, rfl⟩
  refine GoL.does rfl (Does.callE rfl Tryz.call222 rfl num_word .auto) ?_
  rintro _ _ ⟨⟨⟩, -, rfl, rfl⟩
  refine GoL.y rfl (Y.assign rfl) ?_
  refine GoL.nil ?_
  refine GoE.then_normal ?_
  refine GoC.ret ?_
  refine GoE.ret1 rfl rfl fun w s => ⟨(), ?_, trivial, finE .auto s⟩
  rw [out_res hr9]; rfl

set_option maxRecDepth 20000 in
theorem num_Div {W : World} {a b : Int} : Fn Tryz.prog W 191 [.int .u64 a, .int .u64 b] [] Unit (fun _ => .int .u64 (fDiv a b)) (fun _ => True) (fun _ => []) := by
  refine Fn.intro (N := 11) Tryz.func191 rfl Tryz.ntmps191 rfl fun F => ?_
  show GoC _ _ _ _ _ _ [F]
  refine GoC.seq ?_
  refine GoC.region ?_
  refine GoL.y rfl (Y.assign rfl) ?_
  refine GoL.nil ?_
  refine GoE.then_normal ?_
  refine GoC.seq ?_
  refine GoC.region ?_
  refine GoL.y rfl (Y.move rfl) ?_
  refine GoL.does rfl (Does.callE rfl Tryz.call221 rfl num_of .auto) ?_
  rintro _ _ ⟨⟨⟩, -, rfl, rfl⟩
  refine GoL.y rfl (Y.move rfl) ?_
  refine GoL.does rfl (Does.callE rfl Tryz.call221 rfl num_of .auto) ?_
  rintro _ _ ⟨⟨⟩, -, rfl, rfl⟩
  refine GoL.does rfl (Does.fBin (Ieee.double.div _ _) rfl rfl rfl (fun w => rfl)) ?_
  rintro _ _ ⟨r9, hr9, rfl, rfl⟩
  refine GoL.does rfl (Does.callE rfl Tryz.call222 rfl num_word .auto) ?_
  rintro _ _ ⟨⟨⟩, -, rfl, rfl⟩
  refine GoL.y rfl (Y.assign rfl) ?_
  refine GoL.nil ?_
  refine GoE.then_normal ?_
  refine GoC.ret ?_
  refine GoE.ret1 rfl rfl fun w s => ⟨(), ?_, trivial, finE .auto s⟩
  rw [out_res hr9]; rfl

set_option maxRecDepth 20000 in
theorem math_Min {W : World} {m n : Nat} : Fn Tryz.prog W 223 [.float .f64 m, .float .f64 n] [] Unit (fun _ => .float .f64 (archPick true .lt m n)) (fun _ => True) (fun _ => []) := by
  refine Fn.intro (N := 11) Tryz.func223 rfl Tryz.ntmps223 rfl fun F => ?_
  show GoC _ _ _ _ _ _ [F]
  refine GoC.seq ?_
  refine GoC.region ?_
  refine GoL.y rfl (Y.assign rfl) ?_
  refine GoL.nil ?_
  refine GoE.then_normal ?_
  refine GoC.seq ?_
  refine GoC.condT rfl ?_
  refine GoC.seq ?_
  refine GoC.region ?_
  refine GoL.y rfl (Y.move rfl) ?_
  refine GoL.y rfl (Y.move rfl) ?_
  refine GoL.y rfl (Y.ext (e := Extern.MathDim.pick "math.archMin" true .lt) Tryz.func240 rfl rfl rfl (by kernel_rfl) rfl (fun w => rfl)) ?_
  refine GoL.y rfl (Y.assign rfl) ?_
  refine GoL.nil ?_
  refine GoE.then_normal ?_
  refine GoC.ret ?_
  refine GoE.then_ret ?_
  refine GoE.ret1 rfl rfl fun w s => ⟨(), ?_, trivial, finE .auto s⟩
  rfl

set_option maxRecDepth 20000 in
theorem math_Max {W : World} {m n : Nat} : Fn Tryz.prog W 225 [.float .f64 m, .float .f64 n] [] Unit (fun _ => .float .f64 (archPick false .gt m n)) (fun _ => True) (fun _ => []) := by
  refine Fn.intro (N := 11) Tryz.func225 rfl Tryz.ntmps225 rfl fun F => ?_
  show GoC _ _ _ _ _ _ [F]
  refine GoC.seq ?_
  refine GoC.region ?_
  refine GoL.y rfl (Y.assign rfl) ?_
  refine GoL.nil ?_
  refine GoE.then_normal ?_
  refine GoC.seq ?_
  refine GoC.condT rfl ?_
  refine GoC.seq ?_
  refine GoC.region ?_
  refine GoL.y rfl (Y.move rfl) ?_
  refine GoL.y rfl (Y.move rfl) ?_
  refine GoL.y rfl (Y.ext (e := Extern.MathDim.pick "math.archMax" false .gt) Tryz.func242 rfl rfl rfl (by kernel_rfl) rfl (fun w => rfl)) ?_
  refine GoL.y rfl (Y.assign rfl) ?_
  refine GoL.nil ?_
  refine GoE.then_normal ?_
  refine GoC.ret ?_
  refine GoE.then_ret ?_
  refine GoE.ret1 rfl rfl fun w s => ⟨(), ?_, trivial, finE .auto s⟩
  rfl

set_option maxRecDepth 20000 in
theorem num_nan {W : World} {n : Nat} {a b : Int} (ha : 0 ≤ a) (hb : 0 ≤ b) : Fn Tryz.prog W 224 [.float .f64 n, .int .u64 a, .int .u64 b] [] Unit (fun _ => .int .u64 (if (fNan a || fNan b) = true then fNone else fClean (n : Int))) (fun _ => True) (fun _ => []) := by
  refine Fn.intro (N := 17) Tryz.func224 rfl Tryz.ntmps224 rfl fun F => ?_
  show GoC _ _ _ _ _ _ [F]
  refine GoC.seq ?_
  refine GoC.region ?_
  refine GoL.y rfl (Y.assign rfl) ?_
  refine GoL.nil ?_
  refine GoE.then_normal ?_
  refine GoC.seq ?_
  refine GoC.seq ?_
  refine GoC.region ?_
  refine GoL.y rfl (Y.move rfl) ?_
  refine GoL.does rfl (Does.callE rfl Tryz.call221 rfl num_of .auto) ?_
  rintro _ _ ⟨⟨⟩, -, rfl, rfl⟩
  refine GoL.does rfl (Does.callE rfl Tryz.call226 rfl num_isNone .auto) ?_
  rintro _ _ ⟨⟨⟩, -, rfl, rfl⟩
  refine GoL.y rfl (Y.move rfl) ?_
  apply GoL.segO 4 14 10 [10, 11, 12, 13, 14] rfl
  · intro h10
    refine GoL.yg rfl rfl rfl (Y.move rfl) ?_
    refine GoL.dg rfl rfl rfl (Does.callE rfl Tryz.call221 rfl num_of .auto) ?_
    rintro _ _ ⟨⟨⟩, -, rfl, rfl⟩
    refine GoL.dg rfl rfl rfl (Does.callE rfl Tryz.call226 rfl num_isNone .auto) ?_
    rintro _ _ ⟨⟨⟩, -, rfl, rfl⟩
    refine GoL.y rfl (Y.pickF rfl rfl) ?_
    refine GoL.nil ?_
    refine GoE.seg .auto rfl (by first | exact fun _ h => h | exact Ent.kept .auto)
  · intro h10
    refine GoL.skip rfl rfl rfl rfl ?_
    refine GoL.skip rfl rfl rfl rfl ?_
    refine GoL.skip rfl rfl rfl rfl ?_
    refine GoL.y rfl (Y.pickT rfl rfl) ?_
    refine GoL.nil ?_
    refine GoE.seg .auto rfl (by first | exact fun _ h => h | exact Ent.kept .auto)
  refine GoL.nil ?_
  refine GoE.then_normal ?_
  refine GoC.cond rfl (fun h14 => ?_) (fun h14 => ?_)
  · rw [nan_toNat ha, nan_toNat hb] at h14
    refine GoC.seq ?_
    refine GoC.region ?_
    refine GoL.y rfl (Y.assign rfl) ?_
    refine GoL.nil ?_
    refine GoE.then_normal ?_
    refine GoC.ret ?_
    refine GoE.then_ret ?_
    refine GoE.ret1 rfl rfl fun w s => ⟨(), ?_, trivial, finE .auto s⟩
    rw [if_pos h14]; rfl
  · rw [nan_toNat ha, nan_toNat hb] at h14
    refine GoC.skip ?_
    refine GoE.then_normal ?_
    refine GoC.seq ?_
    refine GoC.region ?_
    refine GoL.y rfl (Y.move rfl) ?_
    refine GoL.does rfl (Does.callE rfl Tryz.call222 rfl num_word .auto) ?_
    rintro _ _ ⟨⟨⟩, -, rfl, rfl⟩
    refine GoL.y rfl (Y.assign rfl) ?_
    refine GoL.nil ?_
    refine GoE.then_normal ?_
    refine GoC.ret ?_
    refine GoE.ret1 rfl rfl fun w s => ⟨(), ?_, trivial, finE .auto s⟩
    rw [if_neg (by rw [h14]; simp)]

set_option maxRecDepth 20000 in
theorem num_Min {W : World} {a b : Int} (ha : 0 ≤ a) (hb : 0 ≤ b) : Fn Tryz.prog W 192 [.int .u64 a, .int .u64 b] [] Unit (fun _ => .int .u64 (fMinW a b)) (fun _ => True) (fun _ => []) := by
  refine Fn.intro (N := 13) Tryz.func192 rfl Tryz.ntmps192 rfl fun F => ?_
  show GoC _ _ _ _ _ _ [F]
  refine GoC.seq ?_
  refine GoC.region ?_
  refine GoL.y rfl (Y.assign rfl) ?_
  refine GoL.nil ?_
  refine GoE.then_normal ?_
  refine GoC.seq ?_
  refine GoC.region ?_
  refine GoL.y rfl (Y.move rfl) ?_
  refine GoL.does rfl (Does.callE rfl Tryz.call221 rfl num_of .auto) ?_
  rintro _ _ ⟨⟨⟩, -, rfl, rfl⟩
  refine GoL.y rfl (Y.move rfl) ?_
  refine GoL.does rfl (Does.callE rfl Tryz.call221 rfl num_of .auto) ?_
  rintro _ _ ⟨⟨⟩, -, rfl, rfl⟩
  refine GoL.does rfl (Does.callE rfl Tryz.call223 rfl math_Min .auto) ?_
  rintro _ _ ⟨⟨⟩, -, rfl, rfl⟩
  refine GoL.y rfl (Y.move rfl) ?_
  refine GoL.y rfl (Y.move rfl) ?_
  refine GoL.does rfl (Does.callE rfl Tryz.call224 rfl (num_nan ha hb) .auto) ?_
  rintro _ _ ⟨⟨⟩, -, rfl, rfl⟩
  refine GoL.y rfl (Y.assign rfl) ?_
  refine GoL.nil ?_
  refine GoE.then_normal ?_
  refine GoC.ret ?_
  refine GoE.ret1 rfl rfl fun w s => ⟨(), ?_, trivial, finE .auto s⟩
  rfl

set_option maxRecDepth 20000 in
theorem num_Max {W : World} {a b : Int} (ha : 0 ≤ a) (hb : 0 ≤ b) : Fn Tryz.prog W 193 [.int .u64 a, .int .u64 b] [] Unit (fun _ => .int .u64 (fMaxW a b)) (fun _ => True) (fun _ => []) := by
  refine Fn.intro (N := 13) Tryz.func193 rfl Tryz.ntmps193 rfl fun F => ?_
  show GoC _ _ _ _ _ _ [F]
  refine GoC.seq ?_
  refine GoC.region ?_
  refine GoL.y rfl (Y.assign rfl) ?_
  refine GoL.nil ?_
  refine GoE.then_normal ?_
  refine GoC.seq ?_
  refine GoC.region ?_
  refine GoL.y rfl (Y.move rfl) ?_
  refine GoL.does rfl (Does.callE rfl Tryz.call221 rfl num_of .auto) ?_
  rintro _ _ ⟨⟨⟩, -, rfl, rfl⟩
  refine GoL.y rfl (Y.move rfl) ?_
  refine GoL.does rfl (Does.callE rfl Tryz.call221 rfl num_of .auto) ?_
  rintro _ _ ⟨⟨⟩, -, rfl, rfl⟩
  refine GoL.does rfl (Does.callE rfl Tryz.call225 rfl math_Max .auto) ?_
  rintro _ _ ⟨⟨⟩, -, rfl, rfl⟩
  refine GoL.y rfl (Y.move rfl) ?_
  refine GoL.y rfl (Y.move rfl) ?_
  refine GoL.does rfl (Does.callE rfl Tryz.call224 rfl (num_nan ha hb) .auto) ?_
  rintro _ _ ⟨⟨⟩, -, rfl, rfl⟩
  refine GoL.y rfl (Y.assign rfl) ?_
  refine GoL.nil ?_
  refine GoE.then_normal ?_
  refine GoC.ret ?_
  refine GoE.ret1 rfl rfl fun w s => ⟨(), ?_, trivial, finE .auto s⟩
  rfl

set_option maxRecDepth 20000 in
theorem num_Less {W : World} {a b : Int} : Fn Tryz.prog W 194 [.int .u64 a, .int .u64 b] [] Unit (fun _ => .bool (fLt a b)) (fun _ => True) (fun _ => []) := by
  refine Fn.intro (N := 10) Tryz.func194 rfl Tryz.ntmps194 rfl fun F => ?_
  show GoC _ _ _ _ _ _ [F]
  refine GoC.seq ?_
  refine GoC.region ?_
  refine GoL.y rfl (Y.assign rfl) ?_
  refine GoL.nil ?_
  refine GoE.then_normal ?_
  refine GoC.seq ?_
  refine GoC.region ?_
  refine GoL.y rfl (Y.move rfl) ?_
  refine GoL.does rfl (Does.callE rfl Tryz.call221 rfl num_of .auto) ?_
  rintro _ _ ⟨⟨⟩, -, rfl, rfl⟩
  refine GoL.y rfl (Y.move rfl) ?_
  refine GoL.does rfl (Does.callE rfl Tryz.call221 rfl num_of .auto) ?_
  rintro _ _ ⟨⟨⟩, -, rfl, rfl⟩
  refine GoL.y rfl (Y.fLss rfl rfl) ?_
  refine GoL.y rfl (Y.assign rfl) ?_
  refine GoL.nil ?_
  refine GoE.then_normal ?_
  refine GoC.ret ?_
  refine GoE.ret1 rfl rfl fun w s => ⟨(), ?_, trivial, finE .auto s⟩
  rfl

set_option maxRecDepth 20000 in
theorem num_ToInt {W : World} {a : Int} (ha : 0 ≤ a) : Fn Tryz.prog W 195 [.int .u64 a] [] Unit (fun _ => .int .u64 (fToInt a)) (fun _ => True) (fun _ => []) := by
  refine Fn.intro (N := 18) Tryz.func195 rfl Tryz.ntmps195 rfl fun F => ?_
  show GoC _ _ _ _ _ _ [F]
  refine GoC.seq ?_
  refine GoC.region ?_
  refine GoL.y rfl (Y.assign rfl) ?_
  refine GoL.nil ?_
  refine GoE.then_normal ?_
  refine GoC.seq ?_
  refine GoC.region ?_
  refine GoL.y rfl (Y.move rfl) ?_
  refine GoL.does rfl (Does.callE rfl Tryz.call221 rfl num_of .auto) ?_
  rintro _ _ ⟨⟨⟩, -, rfl, rfl⟩
  refine GoL.y rfl (Y.assign rfl) ?_
  refine GoL.nil ?_
  refine GoE.then_normal ?_
  refine GoC.block ?_
  refine GoC.seq ?_
  refine GoC.region ?_
  refine GoL.y rfl (Y.move rfl) ?_
  refine GoL.does rfl (Does.callE rfl Tryz.call226 rfl num_isNone .auto) ?_
  rintro _ _ ⟨⟨⟩, -, rfl, rfl⟩
  refine GoL.y rfl (Y.assign rfl) ?_
  refine GoL.nil ?_
  refine GoE.then_normal ?_
  refine GoC.cond rfl (fun h9 => ?_) (fun h9 => ?_)
  · refine GoC.seq ?_
    refine GoC.region ?_
    refine GoL.y rfl (Y.assign rfl) ?_
    refine GoL.nil ?_
    refine GoE.then_normal ?_
    refine GoC.ret ?_
    refine GoE.block_ret ?_
    refine GoE.ret1 rfl rfl fun w s => ⟨(), ?_, trivial, finE .auto s⟩
    rw [fToInt, if_pos (by rw [← nan_toNat ha]; exact h9)]
  · refine GoC.seq ?_
    refine GoC.region ?_
    refine GoL.y rfl (Y.move rfl) ?_
    refine GoL.y rfl (Y.fGeq rfl rfl) ?_
    refine GoL.y rfl (Y.assign rfl) ?_
    refine GoL.nil ?_
    refine GoE.then_normal ?_
    refine GoC.cond rfl (fun h12 => ?_) (fun h12 => ?_)
    · have g12 : (Ieee.double.order a.toNat fFar == some .gt || Ieee.double.order a.toNat fFar == some .eq) = true := h12
      refine GoC.seq ?_
      refine GoC.region ?_
      refine GoL.y rfl (Y.assign rfl) ?_
      refine GoL.nil ?_
      refine GoE.then_normal ?_
      refine GoC.ret ?_
      refine GoE.block_ret ?_
      refine GoE.ret1 rfl rfl fun w s => ⟨(), ?_, trivial, finE .auto s⟩
      rw [fToInt, if_neg (by rw [← nan_toNat ha, h9]; simp), if_pos g12]
    · have g12 : (Ieee.double.order a.toNat fFar == some .gt || Ieee.double.order a.toNat fFar == some .eq) = false := h12
      refine GoC.seq ?_
      refine GoC.region ?_
      refine GoL.y rfl (Y.move rfl) ?_
      refine GoL.y rfl (Y.fLss rfl rfl) ?_
      refine GoL.y rfl (Y.assign rfl) ?_
      refine GoL.nil ?_
      refine GoE.then_normal ?_
      refine GoC.cond rfl (fun h15 => ?_) (fun h15 => ?_)
      · have g15 : (Ieee.double.order a.toNat fMFar == some .lt) = true := h15
        refine GoC.seq ?_
        refine GoC.region ?_
        refine GoL.y rfl (Y.assign rfl) ?_
        refine GoL.nil ?_
        refine GoE.then_normal ?_
        refine GoC.ret ?_
        refine GoE.block_ret ?_
        refine GoE.ret1 rfl rfl fun w s => ⟨(), ?_, trivial, finE .auto s⟩
        rw [fToInt, if_neg (by rw [← nan_toNat ha, h9]; simp), if_neg (by rw [g12]; simp), if_pos g15]
      · have g15 : (Ieee.double.order a.toNat fMFar == some .lt) = false := h15
        refine GoC.seq ?_
        refine GoC.region ?_
        refine GoL.y rfl (Y.move rfl) ?_
        obtain ⟨k, hk, hk1, hk2⟩ := toInt_ok2 h9 g12 g15
        refine GoL.y rfl (Y.toIntF (fun w => run_toInt hk hk1 hk2) rfl) ?_
        refine GoL.y rfl (Y.conv Tryz.underlying2 Tryz.underlying43 rfl) ?_
        refine GoL.y rfl (Y.assign rfl) ?_
        refine GoL.nil ?_
        refine GoE.then_normal ?_
        refine GoC.ret ?_
        refine GoE.block_ret ?_
        refine GoE.ret1 rfl rfl fun w s => ⟨(), ?_, trivial, finE .auto s⟩
        rw [fToInt, if_neg (by rw [← nan_toNat ha, h9]; simp), if_neg (by rw [g12]; simp), if_neg (by rw [g15]; simp), hk]; exact retI (wrap_w64 k)

set_option maxRecDepth 20000 in
theorem num_ToFloat {W : World} {a : Int} : Fn Tryz.prog W 196 [.int .u64 a] [] Unit (fun _ => .int .u64 (fToFloat a)) (fun _ => True) (fun _ => []) := by
  refine Fn.intro (N := 7) Tryz.func196 rfl Tryz.ntmps196 rfl fun F => ?_
  show GoC _ _ _ _ _ _ [F]
  refine GoC.seq ?_
  refine GoC.region ?_
  refine GoL.y rfl (Y.assign rfl) ?_
  refine GoL.nil ?_
  refine GoE.then_normal ?_
  refine GoC.seq ?_
  refine GoC.region ?_
  refine GoL.y rfl (Y.move rfl) ?_
  refine GoL.y rfl (Y.conv Tryz.underlying43 Tryz.underlying2 rfl) ?_
  refine GoL.y rfl (Y.toFloat (fun w => rfl) rfl) ?_
  refine GoL.does rfl (Does.callE rfl Tryz.call222 rfl num_word .auto) ?_
  rintro _ _ ⟨⟨⟩, -, rfl, rfl⟩
  refine GoL.y rfl (Y.assign rfl) ?_
  refine GoL.nil ?_
  refine GoE.then_normal ?_
  refine GoC.ret ?_
  refine GoE.ret1 rfl rfl fun w s => ⟨(), ?_, trivial, finE .auto s⟩
  rfl

end Go.SLYtpcjdohmjmeehaaGreat
namespace Go.SLYtpcjdohmjmeehaaGreat
open Go Go.RowKit Go.Proofs

set_option maxRecDepth 20000 in
theorem frame_Next {W : World} {A : HProp} {fv c1 c2 c3 c4 c5 c6 c7 : Value} {fs : List (Value × List Ins)} {f : Frm} {p : Prg} (hr : Rd W [A] fstE 1 fv fs) (hi : ∀ x ∈ fs, Rd W [A] insE 5 x.1 x.2) (hp : fs.map (·.2) = p.funcs) (hl : fs.length ≤ 1000000) (hl2 : ∀ x ∈ fs, x.2.length ≤ 1000000) : Fn Tryz.prog W 60 [.agg #[fv, c1, c2, c3, c4, c5, c6, c7], .agg (frmE f).toArray] [A] Unit (fun _ => nextR (nextI p f)) (fun _ => True) (fun _ => [A]) := by
  refine Fn.intro (N := 45) Tryz.func60 rfl Tryz.ntmps60 rfl fun F => ?_
  haveI hRI : ∀ (H : List HProp) [HasH H A], ReadsC W H fv fstE 1 fs := fun H h => ⟨hr.at h.has⟩
  show GoC _ _ _ _ _ _ [A, F]
  obtain ⟨x, hxd⟩ : ∃ x : Value × List Ins, fs.getD f.fn.toNat (.slice none 0 0, []) = x := ⟨_, rfl⟩
  have hx : f.fn.toNat < fs.length → fs[f.fn.toNat]? = some x := fun h => hxd ▸ getD_some h
  refine GoC.seq ?_
  refine GoC.region ?_
  refine GoL.does rfl (Does.box rfl rfl rfl) ?_
  rintro _ _ ⟨b2, rfl, rfl⟩
  refine GoL.mem (H' := [arr b2 0 [fv, c1, c2, c3, c4, c5, c6, c7], A, F]) (fun w s => s) ?_
  refine GoL.does rfl (Does.box rfl rfl rfl) ?_
  rintro _ _ ⟨b3, rfl, rfl⟩
  refine GoL.mem (H' := [arr b3 0 (frmE f), arr b2 0 [fv, c1, c2, c3, c4, c5, c6, c7], A, F]) (fun w s => s) ?_
  refine GoL.does rfl (Does.alloc rfl Tryz.zeroValue123 rfl) ?_
  rintro _ _ ⟨b4, rfl, rfl⟩
  refine GoL.y rfl (Y.assign rfl) ?_
  refine GoL.nil ?_
  refine GoE.then_normal ?_
  refine GoC.seq ?_
  refine GoC.seq ?_
  refine GoC.draw [] [1, 1, 1, 1, 1, 1, 1, 1, 1, 1, 1, 1, 1, 1, 1, 1, 1, 1, 1, 1, 1, 1, 1, 1, 1, 1, 1, 1] rfl (by kernel_rfl) ?_
  refine GoK.s rfl (Y.fieldAddrZ 3 Tryz.underlying131 rfl Tryz.sizeOf3 rfl) ?_
  refine GoK.s rfl (Y.load Tryz.isAgg3 rfl (Cell.a (by rfl))) ?_
  refine GoK.s rfl (Y.lss rfl rfl) ?_
  refine GoK.s rfl (Y.move rfl) ?_
  apply GoK.segOD 7 16 9 [9, 10, 11, 12, 13, 14, 15, 16] rfl
  · intro h9
    refine GoK.sg rfl rfl rfl (Y.fieldAddrZ 3 Tryz.underlying131 rfl Tryz.sizeOf3 rfl) ?_
    refine GoK.sg rfl rfl rfl (Y.load Tryz.isAgg3 rfl (Cell.a (by rfl))) ?_
    refine GoK.sg rfl rfl rfl (Y.fieldAddrZ 22 Tryz.underlying25 rfl Tryz.sizeOf22 rfl) ?_
    refine GoK.sg rfl rfl rfl (Y.load Tryz.isAgg22 rfl (Cell.a (by rfl))) ?_
    refine GoK.sg rfl rfl rfl (Y.lenRd Tryz.underlying22 rfl Rd.s) ?_
    refine GoK.sg rfl rfl rfl (Y.geq rfl rfl) ?_
    refine GoK.s rfl (Y.pickF rfl rfl) ?_
    refine GoK.nil ?_
    refine GoE.seg .auto rfl (by first | exact fun _ h => h | exact Ent.kept .auto)
  · intro h9
    refine GoK.sskip rfl rfl rfl rfl ?_
    refine GoK.sskip rfl rfl rfl rfl ?_
    refine GoK.sskip rfl rfl rfl rfl ?_
    refine GoK.sskip rfl rfl rfl rfl ?_
    refine GoK.sskip rfl rfl rfl rfl ?_
    refine GoK.sskip rfl rfl rfl rfl ?_
    refine GoK.s rfl (Y.pickT rfl rfl) ?_
    refine GoK.nil ?_
    refine GoE.seg .auto rfl (by first | exact fun _ h => h | exact Ent.kept .auto)
  refine GoK.s rfl (Y.move rfl) ?_
  apply GoK.segO 4 21 17 [17, 18, 19, 20, 21] rfl
  · intro h17
    refine GoK.sg rfl rfl rfl (Y.fieldAddr0 1 3 Tryz.underlying131 rfl Tryz.sizeOf3 rfl) ?_
    refine GoK.sg rfl rfl rfl (Y.load Tryz.isAgg3 rfl (Cell.a (by rfl))) ?_
    refine GoK.sg rfl rfl rfl (Y.lss rfl rfl) ?_
    refine GoK.s rfl (Y.pickF rfl rfl) ?_
    refine GoK.nil ?_
    refine GoE.seg .auto rfl (by first | exact fun _ h => h | exact Ent.kept .auto)
  · intro h17
    refine GoK.sskip rfl rfl rfl rfl ?_
    refine GoK.sskip rfl rfl rfl rfl ?_
    refine GoK.sskip rfl rfl rfl rfl ?_
    refine GoK.s rfl (Y.pickT rfl rfl) ?_
    refine GoK.nil ?_
    refine GoE.seg .auto rfl (by first | exact fun _ h => h | exact Ent.kept .auto)
  refine GoK.s rfl (Y.move rfl) ?_
  apply GoK.segO 11 33 22 [22, 23, 24, 25, 26, 27, 28, 29, 30, 31, 32, 33] rfl
  · intro h22
    simp only [Bool.or_eq_false_iff, decide_eq_false_iff_not] at h22
    have hlt : f.fn.toNat < fs.length := by omega
    have hix := hi x (List.mem_of_getElem? (hx hlt))
    haveI hI4 : ∀ (H : List HProp) [HasH H A], ReadsC W H x.1 insE 5 x.2 := fun H h => ⟨hix.at h.has⟩
    refine GoK.sg rfl rfl rfl (Y.fieldAddr0 1 3 Tryz.underlying131 rfl Tryz.sizeOf3 rfl) ?_
    refine GoK.sg rfl rfl rfl (Y.load Tryz.isAgg3 rfl (Cell.a (by rfl))) ?_
    refine GoK.sg rfl rfl rfl (Y.fieldAddrZ 22 Tryz.underlying25 rfl Tryz.sizeOf22 rfl) ?_
    refine GoK.sg rfl rfl rfl (Y.load Tryz.isAgg22 rfl (Cell.a (by rfl))) ?_
    refine GoK.sg rfl rfl rfl (Y.fieldAddrZ 3 Tryz.underlying131 rfl Tryz.sizeOf3 rfl) ?_
    refine GoK.sg rfl rfl rfl (Y.load Tryz.isAgg3 rfl (Cell.a (by rfl))) ?_
    refine GoK.sg rfl rfl rfl (Y.ixRd f.fn.toNat Tryz.underlying22 Tryz.sizeOf120 rfl rfl Rd.s (by omega) hlt) ?_
    refine GoK.sg rfl rfl rfl (Y.load Tryz.isAgg120 rfl (Cell.rd0 Rd.s (hx hlt) (by rfl))) ?_
    refine GoK.sg rfl rfl rfl (Y.lenRd Tryz.underlying120 rfl Rd.s) ?_
    refine GoK.sg rfl rfl rfl (Y.geq rfl rfl) ?_
    refine GoK.s rfl (Y.pickF rfl rfl) ?_
    refine GoK.nil ?_
    refine GoE.seg .auto rfl (by first | exact fun _ h => h | exact Ent.kept .auto)
  · intro h22
    refine GoK.sskip rfl rfl rfl rfl ?_
    refine GoK.sskip rfl rfl rfl rfl ?_
    refine GoK.sskip rfl rfl rfl rfl ?_
    refine GoK.sskip rfl rfl rfl rfl ?_
    refine GoK.sskip rfl rfl rfl rfl ?_
    refine GoK.sskip rfl rfl rfl rfl ?_
    refine GoK.sskip rfl rfl rfl rfl ?_
    refine GoK.sskip rfl rfl rfl rfl ?_
    refine GoK.sskip rfl rfl rfl rfl ?_
    refine GoK.sskip rfl rfl rfl rfl ?_
    refine GoK.s rfl (Y.pickT rfl rfl) ?_
    refine GoK.nil ?_
    refine GoE.seg .auto rfl (by first | exact fun _ h => h | exact Ent.kept .auto)
  refine GoK.nil ?_
  refine GoE.then_normal ?_
  refine GoC.cond rfl (fun h33 => ?_) (fun h33 => ?_)
  · refine GoC.seq ?_
    refine GoC.region ?_
    refine GoL.y rfl (Y.bld0 ([(.int .i64 0), (.int .i64 0), (.int .i64 0), (.int .i64 0), (.int .u64 0)]) (by kernel_rfl)) ?_
    refine GoL.does rfl (Does.sta (by exact Tryz.sizeOf123) rfl rfl rfl (by rfl)) ?_
    rintro _ _ ⟨rfl, rfl⟩
    refine GoL.y rfl (Y.assign rfl) ?_
    refine GoL.nil ?_
    refine GoE.then_normal ?_
    refine GoC.ret ?_
    refine GoE.then_ret ?_
    refine GoE.retCT rfl rfl Tryz.isAgg123 (by exact Tryz.sizeOf123) Cells.a rfl fun w s => ⟨(), ?_, trivial, finE .auto s⟩
    rw [next_no (z := (.slice none 0 0, [])) hp (by rw [hxd]; exact h33) rfl]; rfl
  · refine GoC.skip ?_
    refine GoE.then_normal ?_
    refine GoC.seq ?_
    refine GoC.draw [] [1, 1, 1, 1, 1, 1, 1, 1, 1, 1, 3, 1] rfl (by kernel_rfl) ?_
    simp only [Bool.or_eq_false_iff, decide_eq_false_iff_not] at h33
    have hlt : f.fn.toNat < fs.length := by omega
    have hix := hi x (List.mem_of_getElem? (hx hlt))
    haveI hI4 : ∀ (H : List HProp) [HasH H A], ReadsC W H x.1 insE 5 x.2 := fun H h => ⟨hix.at h.has⟩
    obtain ⟨i, hin⟩ := at_some (show f.pc.toNat < x.2.length by omega)
    refine GoK.s rfl (Y.fieldAddrZ 22 Tryz.underlying25 rfl Tryz.sizeOf22 rfl) ?_
    refine GoK.s rfl (Y.load Tryz.isAgg22 rfl (Cell.a (by rfl))) ?_
    refine GoK.s rfl (Y.fieldAddrZ 3 Tryz.underlying131 rfl Tryz.sizeOf3 rfl) ?_
    refine GoK.s rfl (Y.load Tryz.isAgg3 rfl (Cell.a (by rfl))) ?_
    refine GoK.s rfl (Y.ixRd f.fn.toNat Tryz.underlying22 Tryz.sizeOf120 rfl rfl Rd.s (by omega) hlt) ?_
    refine GoK.s rfl (Y.load Tryz.isAgg120 rfl (Cell.rd0 Rd.s (hx hlt) (by rfl))) ?_
    refine GoK.s rfl (Y.fieldAddr0 1 3 Tryz.underlying131 rfl Tryz.sizeOf3 rfl) ?_
    refine GoK.s rfl (Y.load Tryz.isAgg3 rfl (Cell.a (by rfl))) ?_
    refine GoK.s rfl (Y.ixRd f.pc.toNat Tryz.underlying120 Tryz.sizeOf123 rfl rfl Rd.s (by omega) (by omega)) ?_
    refine GoK.s rfl (Y.lda Tryz.isAgg123 rfl (Cells.rd Rd.s hin) (by exact Tryz.sizeOf123)) ?_
    refine GoK.d3 rfl (Does.sta (by exact Tryz.sizeOf123) rfl rfl rfl (by rfl)) ?_
    rintro _ _ ⟨rfl, rfl⟩
    refine GoK.s rfl (Y.assign rfl) ?_
    refine GoK.nil ?_
    refine GoE.then_normal ?_
    refine GoC.ret ?_
    refine GoE.retCT rfl rfl Tryz.isAgg123 (by exact Tryz.sizeOf123) Cells.a rfl fun w s => ⟨(), ?_, trivial, finE .auto s⟩
    rw [next_yes hp (by omega) (by omega) (hx hlt) hin]; rfl

set_option maxRecDepth 20000 in
theorem frame_yes {W : World} {b : Bool} : Fn Tryz.prog W 187 [.bool b] [] Unit (fun _ => .int .u64 (yesI b)) (fun _ => True) (fun _ => []) := by
  refine Fn.intro (N := 4) Tryz.func187 rfl Tryz.ntmps187 rfl fun F => ?_
  show GoC _ _ _ _ _ _ [F]
  refine GoC.seq ?_
  refine GoC.region ?_
  refine GoL.y rfl (Y.assign rfl) ?_
  refine GoL.nil ?_
  refine GoE.then_normal ?_
  refine GoC.seq ?_
  refine GoC.seq ?_
  refine GoC.region ?_
  refine GoL.y rfl (Y.move rfl) ?_
  refine GoL.nil ?_
  refine GoE.then_normal ?_
  refine GoC.cond rfl (fun h => ?_) (fun h => ?_)
  · refine GoC.seq ?_
    refine GoC.region ?_
    refine GoL.y rfl (Y.assign rfl) ?_
    refine GoL.nil ?_
    refine GoE.then_normal ?_
    refine GoC.ret ?_
    refine GoE.then_ret ?_
    refine GoE.ret1 rfl rfl fun w s => ⟨(), ?_, trivial, finE .auto s⟩
    subst h; rfl
  · refine GoC.skip ?_
    refine GoE.then_normal ?_
    refine GoC.seq ?_
    refine GoC.region ?_
    refine GoL.y rfl (Y.assign rfl) ?_
    refine GoL.nil ?_
    refine GoE.then_normal ?_
    refine GoC.ret ?_
    refine GoE.ret1 rfl rfl fun w s => ⟨(), ?_, trivial, finE .auto s⟩
    subst h; rfl

set_option maxRecDepth 20000 in
theorem frame_short {W : World} {n : Int} : Fn Tryz.prog W 151 [.int .i64 n] [] Unit (fun _ => .bool (shortB n)) (fun _ => True) (fun _ => []) := by
  refine Fn.intro (N := 13) Tryz.func151 rfl Tryz.ntmps151 rfl fun F => ?_
  show GoC _ _ _ _ _ _ [F]
  refine GoC.seq ?_
  refine GoC.region ?_
  refine GoL.y rfl (Y.assign rfl) ?_
  refine GoL.nil ?_
  refine GoE.then_normal ?_
  refine GoC.seq ?_
  refine GoC.region ?_
  refine GoL.y rfl (Y.move rfl) ?_
  refine GoL.y rfl (Y.eql rfl rfl) ?_
  refine GoL.y rfl (Y.move rfl) ?_
  apply GoL.segOD 3 8 5 [5, 6, 7, 8] rfl
  · intro h5
    refine GoL.yg rfl rfl rfl (Y.move rfl) ?_
    refine GoL.yg rfl rfl rfl (Y.eql rfl rfl) ?_
    refine GoL.y rfl (Y.pickF rfl rfl) ?_
    refine GoL.nil ?_
    refine GoE.seg .auto rfl (by first | exact fun _ h => h | exact Ent.kept .auto)
  · intro h5
    refine GoL.skip rfl rfl rfl rfl ?_
    refine GoL.skip rfl rfl rfl rfl ?_
    refine GoL.y rfl (Y.pickT rfl rfl) ?_
    refine GoL.nil ?_
    refine GoE.seg .auto rfl (by first | exact fun _ h => h | exact Ent.kept .auto)
  refine GoL.y rfl (Y.move rfl) ?_
  apply GoL.segO 3 12 9 [9, 10, 11, 12] rfl
  · intro h9
    refine GoL.yg rfl rfl rfl (Y.move rfl) ?_
    refine GoL.yg rfl rfl rfl (Y.eql rfl rfl) ?_
    refine GoL.y rfl (Y.pickF rfl rfl) ?_
    refine GoL.nil ?_
    refine GoE.seg .auto rfl (by first | exact fun _ h => h | exact Ent.kept .auto)
  · intro h9
    refine GoL.skip rfl rfl rfl rfl ?_
    refine GoL.skip rfl rfl rfl rfl ?_
    refine GoL.y rfl (Y.pickT rfl rfl) ?_
    refine GoL.nil ?_
    refine GoE.seg .auto rfl (by first | exact fun _ h => h | exact Ent.kept .auto)
  refine GoL.y rfl (Y.assign rfl) ?_
  refine GoL.nil ?_
  refine GoE.then_normal ?_
  refine GoC.ret ?_
  refine GoE.ret1 rfl rfl fun w s => ⟨(), ?_, trivial, finE .auto s⟩
  rfl

set_option maxRecDepth 20000 in
theorem frame_Arith {W : World} {op a b : Int} (ha : 0 ≤ a) (hb : 0 ≤ b) : Fn Tryz.prog W 152 [.int .i64 op, .int .u64 a, .int .u64 b] [] Bool (fun t => .tuple #[.int .u64 (arithI op a b), .bool t]) (fun _ => True) (fun _ => []) := by
  refine Fn.intro (N := 77) Tryz.func152 rfl Tryz.ntmps152 rfl fun F => ?_
  show GoC _ _ _ _ _ _ [F]
  refine GoC.seq ?_
  refine GoC.region ?_
  refine GoL.y rfl (Y.assign rfl) ?_
  refine GoL.y rfl (Y.assign rfl) ?_
  refine GoL.nil ?_
  refine GoE.then_normal ?_
  refine GoC.seq ?_
  refine GoC.seq ?_
  refine GoC.region ?_
  refine GoL.y rfl (Y.move rfl) ?_
  refine GoL.nil ?_
  refine GoE.then_normal ?_
  refine GoC.block ?_
  refine GoC.seq ?_
  refine GoC.region ?_
  refine GoL.y rfl (Y.eql rfl rfl) ?_
  refine GoL.y rfl (Y.assign rfl) ?_
  refine GoL.nil ?_
  refine GoE.then_normal ?_
  refine GoC.condD rfl (fun h9 => ?_) (fun h9 => ?_)
  · refine GoC.seq ?_
    refine GoC.region ?_
    refine GoL.y rfl (Y.move rfl) ?_
    refine GoL.y rfl (Y.assign rfl) ?_
    refine GoL.y rfl (Y.assign rfl) ?_
    refine GoL.nil ?_
    refine GoE.then_normal ?_
    refine GoC.ret ?_
    refine GoE.block_ret (GoE.then_ret ?_)
    refine GoE.ret2 rfl rfl rfl fun w s => ⟨true, ?_, trivial, finE .auto s⟩
    rw [show arithI op a b = a from by unfold arithI; rw [if_pos h9]]
  · refine GoC.seq ?_
    refine GoC.region ?_
    refine GoL.y rfl (Y.eql rfl rfl) ?_
    refine GoL.y rfl (Y.assign rfl) ?_
    refine GoL.nil ?_
    refine GoE.then_normal ?_
    refine GoC.condD rfl (fun h12 => ?_) (fun h12 => ?_)
    · refine GoC.seq ?_
      refine GoC.region ?_
      refine GoL.y rfl (Y.move rfl) ?_
      refine GoL.y rfl (Y.move rfl) ?_
      refine GoL.y rfl (Y.addW rfl rfl) ?_
      refine GoL.y rfl (Y.assign rfl) ?_
      refine GoL.y rfl (Y.assign rfl) ?_
      refine GoL.nil ?_
      refine GoE.then_normal ?_
      refine GoC.ret ?_
      refine GoE.block_ret (GoE.then_ret ?_)
      refine GoE.ret2 rfl rfl rfl fun w s => ⟨true, ?_, trivial, finE .auto s⟩
      rw [show arithI op a b = w64 (a + b) from by unfold arithI; rw [if_neg h9, if_pos h12]]
      rfl
    · refine GoC.seq ?_
      refine GoC.region ?_
      refine GoL.y rfl (Y.eql rfl rfl) ?_
      refine GoL.y rfl (Y.assign rfl) ?_
      refine GoL.nil ?_
      refine GoE.then_normal ?_
      refine GoC.condD rfl (fun h17 => ?_) (fun h17 => ?_)
      · refine GoC.seq ?_
        refine GoC.region ?_
        refine GoL.y rfl (Y.move rfl) ?_
        refine GoL.y rfl (Y.move rfl) ?_
        refine GoL.y rfl (Y.subW rfl rfl) ?_
        refine GoL.y rfl (Y.assign rfl) ?_
        refine GoL.y rfl (Y.assign rfl) ?_
        refine GoL.nil ?_
        refine GoE.then_normal ?_
        refine GoC.ret ?_
        refine GoE.block_ret (GoE.then_ret ?_)
        refine GoE.ret2 rfl rfl rfl fun w s => ⟨true, ?_, trivial, finE .auto s⟩
        rw [show arithI op a b = w64 (a - b) from by unfold arithI; rw [if_neg h9, if_neg h12, if_pos h17]]
        rfl
      · refine GoC.seq ?_
        refine GoC.region ?_
        refine GoL.y rfl (Y.eql rfl rfl) ?_
        refine GoL.y rfl (Y.assign rfl) ?_
        refine GoL.nil ?_
        refine GoE.then_normal ?_
        refine GoC.condD rfl (fun h22 => ?_) (fun h22 => ?_)
        · refine GoC.seq ?_
          refine GoC.region ?_
          refine GoL.y rfl (Y.move rfl) ?_
          refine GoL.y rfl (Y.move rfl) ?_
          refine GoL.y rfl (Y.mulW rfl rfl) ?_
          refine GoL.y rfl (Y.assign rfl) ?_
          refine GoL.y rfl (Y.assign rfl) ?_
          refine GoL.nil ?_
          refine GoE.then_normal ?_
          refine GoC.ret ?_
          refine GoE.block_ret (GoE.then_ret ?_)
          refine GoE.ret2 rfl rfl rfl fun w s => ⟨true, ?_, trivial, finE .auto s⟩
          rw [show arithI op a b = w64 (a * b) from by unfold arithI; rw [if_neg h9, if_neg h12, if_neg h17, if_pos h22]]
          rfl
        · refine GoC.seq ?_
          refine GoC.region ?_
          refine GoL.y rfl (Y.eql rfl rfl) ?_
          refine GoL.y rfl (Y.assign rfl) ?_
          refine GoL.nil ?_
          refine GoE.then_normal ?_
          refine GoC.condD rfl (fun h27 => ?_) (fun h27 => ?_)
          · refine GoC.seq ?_
            refine GoC.region ?_
            refine GoL.y rfl (Y.move rfl) ?_
            refine GoL.y rfl (Y.move rfl) ?_
            refine GoL.y rfl (Y.lss rfl rfl) ?_
            refine GoL.does rfl (Does.callE rfl Tryz.call187 rfl frame_yes .auto) ?_
            rintro _ _ ⟨⟨⟩, -, rfl, rfl⟩
            refine GoL.y rfl (Y.assign rfl) ?_
            refine GoL.y rfl (Y.assign rfl) ?_
            refine GoL.nil ?_
            refine GoE.then_normal ?_
            refine GoC.ret ?_
            refine GoE.block_ret (GoE.then_ret ?_)
            refine GoE.ret2 rfl rfl rfl fun w s => ⟨true, ?_, trivial, finE .auto s⟩
            rw [show arithI op a b = yesI (decide (a < b)) from by unfold arithI; rw [if_neg h9, if_neg h12, if_neg h17, if_neg h22, if_pos h27]]
          · refine GoC.seq ?_
            refine GoC.region ?_
            refine GoL.y rfl (Y.eql rfl rfl) ?_
            refine GoL.y rfl (Y.assign rfl) ?_
            refine GoL.nil ?_
            refine GoE.then_normal ?_
            refine GoC.condD rfl (fun h33 => ?_) (fun h33 => ?_)
            · refine GoC.seq ?_
              refine GoC.region ?_
              refine GoL.y rfl (Y.move rfl) ?_
              refine GoL.y rfl (Y.move rfl) ?_
              refine GoL.does rfl (Does.callE rfl Tryz.call188 rfl num_Add .auto) ?_
              rintro _ _ ⟨⟨⟩, -, rfl, rfl⟩
              refine GoL.y rfl (Y.assign rfl) ?_
              refine GoL.y rfl (Y.assign rfl) ?_
              refine GoL.nil ?_
              refine GoE.then_normal ?_
              refine GoC.ret ?_
              refine GoE.block_ret (GoE.then_ret ?_)
              refine GoE.ret2 rfl rfl rfl fun w s => ⟨true, ?_, trivial, finE .auto s⟩
              rw [show arithI op a b = fAdd a b from by unfold arithI; rw [if_neg h9, if_neg h12, if_neg h17, if_neg h22, if_neg h27, if_pos h33]]
            · refine GoC.seq ?_
              refine GoC.region ?_
              refine GoL.y rfl (Y.eql rfl rfl) ?_
              refine GoL.y rfl (Y.assign rfl) ?_
              refine GoL.nil ?_
              refine GoE.then_normal ?_
              refine GoC.condD rfl (fun h38 => ?_) (fun h38 => ?_)
              · refine GoC.seq ?_
                refine GoC.region ?_
                refine GoL.y rfl (Y.move rfl) ?_
                refine GoL.y rfl (Y.move rfl) ?_
                refine GoL.does rfl (Does.callE rfl Tryz.call189 rfl num_Sub .auto) ?_
                rintro _ _ ⟨⟨⟩, -, rfl, rfl⟩
                refine GoL.y rfl (Y.assign rfl) ?_
                refine GoL.y rfl (Y.assign rfl) ?_
                refine GoL.nil ?_
                refine GoE.then_normal ?_
                refine GoC.ret ?_
                refine GoE.block_ret (GoE.then_ret ?_)
                refine GoE.ret2 rfl rfl rfl fun w s => ⟨true, ?_, trivial, finE .auto s⟩
                rw [show arithI op a b = fSub a b from by unfold arithI; rw [if_neg h9, if_neg h12, if_neg h17, if_neg h22, if_neg h27, if_neg h33, if_pos h38]]
              · refine GoC.seq ?_
                refine GoC.region ?_
                refine GoL.y rfl (Y.eql rfl rfl) ?_
                refine GoL.y rfl (Y.assign rfl) ?_
                refine GoL.nil ?_
                refine GoE.then_normal ?_
                refine GoC.condD rfl (fun h43 => ?_) (fun h43 => ?_)
                · refine GoC.seq ?_
                  refine GoC.region ?_
                  refine GoL.y rfl (Y.move rfl) ?_
                  refine GoL.y rfl (Y.move rfl) ?_
                  refine GoL.does rfl (Does.callE rfl Tryz.call190 rfl num_Mul .auto) ?_
                  rintro _ _ ⟨⟨⟩, -, rfl, rfl⟩
                  refine GoL.y rfl (Y.assign rfl) ?_
                  refine GoL.y rfl (Y.assign rfl) ?_
                  refine GoL.nil ?_
                  refine GoE.then_normal ?_
                  refine GoC.ret ?_
                  refine GoE.block_ret (GoE.then_ret ?_)
                  refine GoE.ret2 rfl rfl rfl fun w s => ⟨true, ?_, trivial, finE .auto s⟩
                  rw [show arithI op a b = fMul a b from by unfold arithI; rw [if_neg h9, if_neg h12, if_neg h17, if_neg h22, if_neg h27, if_neg h33, if_neg h38, if_pos h43]]
                · refine GoC.seq ?_
                  refine GoC.region ?_
                  refine GoL.y rfl (Y.eql rfl rfl) ?_
                  refine GoL.y rfl (Y.assign rfl) ?_
                  refine GoL.nil ?_
                  refine GoE.then_normal ?_
                  refine GoC.condD rfl (fun h48 => ?_) (fun h48 => ?_)
                  · refine GoC.seq ?_
                    refine GoC.region ?_
                    refine GoL.y rfl (Y.move rfl) ?_
                    refine GoL.y rfl (Y.move rfl) ?_
                    refine GoL.does rfl (Does.callE rfl Tryz.call191 rfl num_Div .auto) ?_
                    rintro _ _ ⟨⟨⟩, -, rfl, rfl⟩
                    refine GoL.y rfl (Y.assign rfl) ?_
                    refine GoL.y rfl (Y.assign rfl) ?_
                    refine GoL.nil ?_
                    refine GoE.then_normal ?_
                    refine GoC.ret ?_
                    refine GoE.block_ret (GoE.then_ret ?_)
                    refine GoE.ret2 rfl rfl rfl fun w s => ⟨true, ?_, trivial, finE .auto s⟩
                    rw [show arithI op a b = fDiv a b from by unfold arithI; rw [if_neg h9, if_neg h12, if_neg h17, if_neg h22, if_neg h27, if_neg h33, if_neg h38, if_neg h43, if_pos h48]]
                  · refine GoC.seq ?_
                    refine GoC.region ?_
                    refine GoL.y rfl (Y.eql rfl rfl) ?_
                    refine GoL.y rfl (Y.assign rfl) ?_
                    refine GoL.nil ?_
                    refine GoE.then_normal ?_
                    refine GoC.condD rfl (fun h53 => ?_) (fun h53 => ?_)
                    · refine GoC.seq ?_
                      refine GoC.region ?_
                      refine GoL.y rfl (Y.move rfl) ?_
                      refine GoL.y rfl (Y.move rfl) ?_
                      refine GoL.does rfl (Does.callE rfl Tryz.call192 rfl (num_Min ha hb) .auto) ?_
                      rintro _ _ ⟨⟨⟩, -, rfl, rfl⟩
                      refine GoL.y rfl (Y.assign rfl) ?_
                      refine GoL.y rfl (Y.assign rfl) ?_
                      refine GoL.nil ?_
                      refine GoE.then_normal ?_
                      refine GoC.ret ?_
                      refine GoE.block_ret (GoE.then_ret ?_)
                      refine GoE.ret2 rfl rfl rfl fun w s => ⟨true, ?_, trivial, finE .auto s⟩
                      rw [show arithI op a b = fMinW a b from by unfold arithI; rw [if_neg h9, if_neg h12, if_neg h17, if_neg h22, if_neg h27, if_neg h33, if_neg h38, if_neg h43, if_neg h48, if_pos h53]]
                    · refine GoC.seq ?_
                      refine GoC.region ?_
                      refine GoL.y rfl (Y.eql rfl rfl) ?_
                      refine GoL.y rfl (Y.assign rfl) ?_
                      refine GoL.nil ?_
                      refine GoE.then_normal ?_
                      refine GoC.condD rfl (fun h58 => ?_) (fun h58 => ?_)
                      · refine GoC.seq ?_
                        refine GoC.region ?_
                        refine GoL.y rfl (Y.move rfl) ?_
                        refine GoL.y rfl (Y.move rfl) ?_
                        refine GoL.does rfl (Does.callE rfl Tryz.call193 rfl (num_Max ha hb) .auto) ?_
                        rintro _ _ ⟨⟨⟩, -, rfl, rfl⟩
                        refine GoL.y rfl (Y.assign rfl) ?_
                        refine GoL.y rfl (Y.assign rfl) ?_
                        refine GoL.nil ?_
                        refine GoE.then_normal ?_
                        refine GoC.ret ?_
                        refine GoE.block_ret (GoE.then_ret ?_)
                        refine GoE.ret2 rfl rfl rfl fun w s => ⟨true, ?_, trivial, finE .auto s⟩
                        rw [show arithI op a b = fMaxW a b from by unfold arithI; rw [if_neg h9, if_neg h12, if_neg h17, if_neg h22, if_neg h27, if_neg h33, if_neg h38, if_neg h43, if_neg h48, if_neg h53, if_pos h58]]
                      · refine GoC.seq ?_
                        refine GoC.region ?_
                        refine GoL.y rfl (Y.eql rfl rfl) ?_
                        refine GoL.y rfl (Y.assign rfl) ?_
                        refine GoL.nil ?_
                        refine GoE.then_normal ?_
                        refine GoC.condD rfl (fun h63 => ?_) (fun h63 => ?_)
                        · refine GoC.seq ?_
                          refine GoC.region ?_
                          refine GoL.y rfl (Y.move rfl) ?_
                          refine GoL.y rfl (Y.move rfl) ?_
                          refine GoL.does rfl (Does.callE rfl Tryz.call194 rfl num_Less .auto) ?_
                          rintro _ _ ⟨⟨⟩, -, rfl, rfl⟩
                          refine GoL.does rfl (Does.callE rfl Tryz.call187 rfl frame_yes .auto) ?_
                          rintro _ _ ⟨⟨⟩, -, rfl, rfl⟩
                          refine GoL.y rfl (Y.assign rfl) ?_
                          refine GoL.y rfl (Y.assign rfl) ?_
                          refine GoL.nil ?_
                          refine GoE.then_normal ?_
                          refine GoC.ret ?_
                          refine GoE.block_ret (GoE.then_ret ?_)
                          refine GoE.ret2 rfl rfl rfl fun w s => ⟨true, ?_, trivial, finE .auto s⟩
                          rw [show arithI op a b = yesI (fLt a b) from by unfold arithI; rw [if_neg h9, if_neg h12, if_neg h17, if_neg h22, if_neg h27, if_neg h33, if_neg h38, if_neg h43, if_neg h48, if_neg h53, if_neg h58, if_pos h63]]
                        · refine GoC.seq ?_
                          refine GoC.region ?_
                          refine GoL.y rfl (Y.eql rfl rfl) ?_
                          refine GoL.y rfl (Y.assign rfl) ?_
                          refine GoL.nil ?_
                          refine GoE.then_normal ?_
                          refine GoC.condD rfl (fun h69 => ?_) (fun h69 => ?_)
                          · refine GoC.seq ?_
                            refine GoC.region ?_
                            refine GoL.y rfl (Y.move rfl) ?_
                            refine GoL.does rfl (Does.callE rfl Tryz.call195 rfl (num_ToInt ha) .auto) ?_
                            rintro _ _ ⟨⟨⟩, -, rfl, rfl⟩
                            refine GoL.y rfl (Y.assign rfl) ?_
                            refine GoL.y rfl (Y.assign rfl) ?_
                            refine GoL.nil ?_
                            refine GoE.then_normal ?_
                            refine GoC.ret ?_
                            refine GoE.block_ret (GoE.then_ret ?_)
                            refine GoE.ret2 rfl rfl rfl fun w s => ⟨true, ?_, trivial, finE .auto s⟩
                            rw [show arithI op a b = fToInt a from by unfold arithI; rw [if_neg h9, if_neg h12, if_neg h17, if_neg h22, if_neg h27, if_neg h33, if_neg h38, if_neg h43, if_neg h48, if_neg h53, if_neg h58, if_neg h63, if_pos h69]]
                          · refine GoC.seq ?_
                            refine GoC.region ?_
                            refine GoL.y rfl (Y.eql rfl rfl) ?_
                            refine GoL.y rfl (Y.assign rfl) ?_
                            refine GoL.nil ?_
                            refine GoE.then_normal ?_
                            refine GoC.condD rfl (fun h73 => ?_) (fun h73 => ?_)
                            · refine GoC.seq ?_
                              refine GoC.region ?_
                              refine GoL.y rfl (Y.move rfl) ?_
                              refine GoL.does rfl (Does.callE rfl Tryz.call196 rfl num_ToFloat .auto) ?_
                              rintro _ _ ⟨⟨⟩, -, rfl, rfl⟩
                              refine GoL.y rfl (Y.assign rfl) ?_
                              refine GoL.y rfl (Y.assign rfl) ?_
                              refine GoL.nil ?_
                              refine GoE.then_normal ?_
                              refine GoC.ret ?_
                              refine GoE.block_ret (GoE.then_ret ?_)
                              refine GoE.ret2 rfl rfl rfl fun w s => ⟨true, ?_, trivial, finE .auto s⟩
                              rw [show arithI op a b = fToFloat a from by unfold arithI; rw [if_neg h9, if_neg h12, if_neg h17, if_neg h22, if_neg h27, if_neg h33, if_neg h38, if_neg h43, if_neg h48, if_neg h53, if_neg h58, if_neg h63, if_neg h69, if_pos h73]]
                            · refine GoC.skip ?_
                              refine GoE.block_normal (GoE.then_normal ?_)
                              refine GoC.seq ?_
                              refine GoC.region ?_
                              refine GoL.y rfl (Y.assign rfl) ?_
                              refine GoL.y rfl (Y.assign rfl) ?_
                              refine GoL.nil ?_
                              refine GoE.then_normal ?_
                              refine GoC.ret ?_
                              refine GoE.ret2 rfl rfl rfl fun w s => ⟨false, ?_, trivial, finE .auto s⟩
                              rw [show arithI op a b = 0 from by unfold arithI; rw [if_neg h9, if_neg h12, if_neg h17, if_neg h22, if_neg h27, if_neg h33, if_neg h38, if_neg h43, if_neg h48, if_neg h53, if_neg h58, if_neg h63, if_neg h69, if_neg h73]]

set_option maxRecDepth 20000 in
theorem frame_reg {W : World} {b : Nat} {n : Int} (hn : 0 ≤ n ∧ n < 8) : Fn Tryz.prog W 149 [ptr b, .int .i64 n] [] Unit (fun _ => .pointer (some ⟨b, 2 + n.toNat, none⟩)) (fun _ => True) (fun _ => []) := by
  refine Fn.intro (N := 19) Tryz.func149 rfl Tryz.ntmps149 rfl fun F => ?_
  show GoC _ _ _ _ _ _ [F]
  refine GoC.seq ?_
  refine GoC.region ?_
  refine GoL.y rfl (Y.assign rfl) ?_
  refine GoL.nil ?_
  refine GoE.then_normal ?_
  refine GoC.seq ?_
  refine GoC.seq ?_
  refine GoC.region ?_
  refine GoL.y rfl (Y.move rfl) ?_
  refine GoL.y rfl (Y.lss rfl rfl) ?_
  refine GoL.y rfl (Y.move rfl) ?_
  apply GoL.segOD 3 10 7 [7, 8, 9, 10] rfl
  · intro h7
    refine GoL.yg rfl rfl rfl (Y.move rfl) ?_
    refine GoL.yg rfl rfl rfl (Y.geq rfl rfl) ?_
    refine GoL.y rfl (Y.pickF rfl rfl) ?_
    refine GoL.nil ?_
    refine GoE.seg .auto rfl (by first | exact fun _ h => h | exact Ent.kept .auto)
  · intro h7
    refine GoL.skip rfl rfl rfl rfl ?_
    refine GoL.skip rfl rfl rfl rfl ?_
    refine GoL.y rfl (Y.pickT rfl rfl) ?_
    refine GoL.nil ?_
    refine GoE.seg .auto rfl (by first | exact fun _ h => h | exact Ent.kept .auto)
  refine GoL.nil ?_
  refine GoE.then_normal ?_
  refine GoC.cond rfl (fun h10 => ?_) (fun h10 => ?_)
  · simp only [Bool.and_eq_true, Bool.or_eq_true, Bool.and_eq_false_iff, Bool.or_eq_false_iff, decide_eq_true_eq, decide_eq_false_iff_not, Bool.not_eq_true', Bool.not_eq_false'] at h10
    exact absurd h10 (by omega)
  · simp only [Bool.and_eq_true, Bool.or_eq_true, Bool.and_eq_false_iff, Bool.or_eq_false_iff, decide_eq_true_eq, decide_eq_false_iff_not, Bool.not_eq_true', Bool.not_eq_false'] at h10
    refine GoC.skip ?_
    refine GoE.then_normal ?_
    refine GoC.seq ?_
    refine GoC.region ?_
    refine GoL.y rfl (Y.move rfl) ?_
    refine GoL.y rfl (Y.move rfl) ?_
    refine GoL.y rfl (Y.nilCheck rfl) ?_
    refine GoL.y rfl (Y.fieldAddrZ 131 Tryz.underlying216 rfl Tryz.sizeOf131 rfl) ?_
    refine GoL.y rfl (Y.fieldAddr0 2 57 Tryz.underlying131 rfl Tryz.sizeOf57 rfl) ?_
    refine GoL.y rfl (Y.ixArr n.toNat Tryz.underlying57 Tryz.sizeOf43 rfl rfl (by omega) (by omega)) ?_
    refine GoL.y rfl (Y.assign rfl) ?_
    refine GoL.nil ?_
    refine GoE.then_normal ?_
    refine GoC.ret ?_
    refine GoE.ret1 rfl rfl fun w s => ⟨(), ?_, trivial, finE .auto s⟩
    rw [Nat.mul_one]

set_option maxRecDepth 20000 in
theorem frame_cell {W : World} {b : Nat} {f : Frm} {v : Value} {m : List Int} {at_ : Int} (h0 : 0 ≤ at_) (hl : m.length ≤ 1000000) : FnB Tryz.prog W 150 [ptr b, .int .u64 at_] [arr b 0 (dwC f v), sl wrdE 1 v m] Unit (fun _ => if at_ < m.length then .returned (.pointer (some ⟨blk v, ofs v + at_.toNat * 1, none⟩)) else .panicked (stopC 213 6)) (fun _ => True) (fun _ => [arr b 0 (dwC f v), sl wrdE 1 v m]) := by
  refine FnB.intro (N := 21) Tryz.func150 rfl Tryz.ntmps150 rfl fun F => ?_
  show GoC _ _ _ _ _ _ [arr b 0 (dwC f v), sl wrdE 1 v m, F]
  refine GoC.seq ?_
  refine GoC.region ?_
  refine GoL.y rfl (Y.assign rfl) ?_
  refine GoL.nil ?_
  refine GoE.then_normal ?_
  refine GoC.seq ?_
  refine GoC.seq ?_
  refine GoC.region ?_
  refine GoL.y rfl (Y.move rfl) ?_
  refine GoL.y rfl (Y.move rfl) ?_
  refine GoL.y rfl (Y.nilCheck rfl) ?_
  refine GoL.y rfl (Y.fieldAddr0 10 51 Tryz.underlying216 rfl Tryz.sizeOf51 rfl) ?_
  refine GoL.y rfl (Y.load Tryz.isAgg51 rfl (Cell.a (by rfl))) ?_
  refine GoL.y rfl (Y.lenRd Tryz.underlying51 rfl Rd.s) ?_
  refine GoL.y rfl (Y.convU Tryz.underlying3 Tryz.underlying43 rfl (by omega)) ?_
  refine GoL.y rfl (Y.geq rfl rfl) ?_
  refine GoL.nil ?_
  refine GoE.then_normal ?_
  refine GoC.condD rfl (fun h12 => ?_) (fun h12 => ?_)
  · refine GoC.region ?_
    refine GoL.y rfl (Y.bld1 (fun v1 => [v1]) rfl (by kernel_rfl)) ?_
    refine GoL.y rfl (Y.mkIface Tryz.underlying213 rfl rfl) ?_
    refine GoL.panic rfl ?_
    refine fun a w ha s => And.intro ha.defers (Exists.intro () (And.intro ?_ (And.intro trivial (finE .auto s))))
    rw [if_neg (by omega)]; rfl
  · refine GoC.skip ?_
    refine GoE.then_normal ?_
    refine GoC.seq ?_
    refine GoC.region ?_
    refine GoL.y rfl (Y.move rfl) ?_
    refine GoL.y rfl (Y.nilCheck rfl) ?_
    refine GoL.y rfl (Y.fieldAddr0 10 51 Tryz.underlying216 rfl Tryz.sizeOf51 rfl) ?_
    refine GoL.y rfl (Y.load Tryz.isAgg51 rfl (Cell.a (by rfl))) ?_
    refine GoL.y rfl (Y.move rfl) ?_
    refine GoL.y rfl (Y.ixRd at_.toNat Tryz.underlying51 Tryz.sizeOf43 rfl rfl Rd.s (by omega) (by omega)) ?_
    refine GoL.y rfl (Y.assign rfl) ?_
    refine GoL.nil ?_
    refine GoE.then_normal ?_
    refine GoC.ret ?_
    refine GoE.ret1 rfl rfl fun w s => ⟨(), ?_, trivial, finE .auto s⟩
    rw [if_pos (by omega)]

end Go.SLYtpcjdohmjmeehaaGreat
namespace Go.SLYtpcjdohmjmeehaaGreat
open Go Go.RowKit Go.Proofs

set_option maxRecDepth 20000 in
theorem frame_do {W : World} {b : Nat} {f : Frm} {v : Value} {m : List Int} {i : Ins} (hI : InsOk i) (hF : FrmOk f) (hl : m.length ≤ 1000000) : FnB Tryz.prog W 118 [ptr b, .agg (insE i).toArray] [arr b 0 (dwC f v), sl wrdE 1 v m] Unit (fun _ => doEnd 213 (doI f m i)) (fun _ => True) (fun _ => doH b v (doI f m i)) := by
  refine FnB.intro (N := 127) Tryz.func118 rfl Tryz.ntmps118 rfl fun F => ?_
  show GoC _ _ _ _ _ _ [arr b 0 (dwC f v), sl wrdE 1 v m, F]
  have hia := hI.a
  have hib := hI.b
  have hic := hI.c
  have hin := hI.n
  have hpc := hF.pc
  refine GoC.seq ?_
  refine GoC.region ?_
  refine GoL.does rfl (Does.box rfl rfl rfl) ?_
  rintro _ _ ⟨b3, rfl, rfl⟩
  refine GoL.mem (H' := [arr b3 0 (insE i), arr b 0 (dwC f v), sl wrdE 1 v m, F]) (fun w s => s) ?_
  refine GoL.nil ?_
  refine GoE.then_normal ?_
  refine GoC.seq ?_
  refine GoC.region ?_
  refine GoL.y rfl (Y.move rfl) ?_
  refine GoL.y rfl (Y.nilCheck rfl) ?_
  refine GoL.y rfl (Y.fieldAddrZ 131 Tryz.underlying216 rfl Tryz.sizeOf131 rfl) ?_
  refine GoL.y rfl (Y.fieldAddr0 1 3 Tryz.underlying131 rfl Tryz.sizeOf3 rfl) ?_
  refine GoL.y rfl (Y.load Tryz.isAgg3 rfl (Cell.a (by rfl))) ?_
  refine GoL.y rfl (Y.add rfl rfl (by omega)) ?_
  refine GoL.y rfl (Y.assign rfl) ?_
  refine GoL.nil ?_
  refine GoE.then_normal ?_
  refine GoC.cutK (X := List Int × Int × List Int) [4, 5, 6, 7, 8, 9, 10, 11, 18, 19, 20, 21, 22, 23, 24, 25, 26, 27, 28, 29, 30, 31, 32, 33, 34, 35, 36, 37, 38, 39, 40, 41, 42, 43, 44, 45, 46, 47, 48, 49, 50, 51, 52, 53, 54, 55, 56, 57, 58, 59, 60, 61, 62, 63, 64, 65, 66, 67, 68, 69, 70, 71, 72, 73, 74, 75, 76, 77, 78, 79, 80, 81, 82, 83, 84, 85, 86, 87, 88, 89, 90, 91, 92, 93, 94, 95, 96, 97, 98, 99, 100, 101, 102, 103, 104, 105, 106, 107, 108, 109, 110, 111, 112, 113, 114, 115, 116, 117, 118, 119, 120, 121] (fun z => doI f m i = some (⟨f.fn, z.2.1, z.1⟩, z.2.2)) (fun z => [(4, some (.int .i64 z.2.1))]) (fun z => [arr b 0 (dwC ⟨f.fn, f.pc, z.1⟩ v), sl wrdE 1 v z.2.2, F]) ?_ ?_
  · refine GoC.block ?_
    refine GoC.seq ?_
    refine GoC.region ?_
    refine GoL.y rfl (Y.fieldAddrZ 3 Tryz.underlying123 rfl Tryz.sizeOf3 rfl) ?_
    refine GoL.y rfl (Y.load Tryz.isAgg3 rfl (Cell.a (by rfl))) ?_
    refine GoL.y rfl (Y.eql rfl rfl) ?_
    refine GoL.y rfl (Y.assign rfl) ?_
    refine GoL.nil ?_
    refine GoE.then_normal ?_
    refine GoC.condD rfl (fun h48 => ?_) (fun h48 => ?_)
    · refine GoC.region ?_
      refine GoL.y rfl (Y.fieldAddr0 4 43 Tryz.underlying123 rfl Tryz.sizeOf43 rfl) ?_
      refine GoL.y rfl (Y.load Tryz.isAgg43 rfl (Cell.a (by rfl))) ?_
      refine GoL.y rfl (Y.convI Tryz.underlying43 Tryz.underlying3 rfl (by have := hI.j (.inl h48); omega)) ?_
      refine GoL.y rfl (Y.assign rfl) ?_
      refine GoL.nil ?_
      refine GoE.block_normal ?_
      refine GoE.midK (f.regs, i.n, m) .auto ?_ ?_ ?_
      · unfold doI; rw [if_pos h48]
      · exact ⟨rfl, trivial⟩
      · exact fun w s => Ent.kept .auto w s
    · refine GoC.seq ?_
      refine GoC.region ?_
      refine GoL.y rfl (Y.fieldAddrZ 3 Tryz.underlying123 rfl Tryz.sizeOf3 rfl) ?_
      refine GoL.y rfl (Y.load Tryz.isAgg3 rfl (Cell.a (by rfl))) ?_
      refine GoL.y rfl (Y.eql rfl rfl) ?_
      refine GoL.y rfl (Y.assign rfl) ?_
      refine GoL.nil ?_
      refine GoE.then_normal ?_
      refine GoC.condD rfl (fun h55 => ?_) (fun h55 => ?_)
      · refine GoC.seq ?_
        refine GoC.region ?_
        refine GoL.y rfl (Y.move rfl) ?_
        refine GoL.y rfl (Y.fieldAddr0 1 3 Tryz.underlying123 rfl Tryz.sizeOf3 rfl) ?_
        refine GoL.y rfl (Y.load Tryz.isAgg3 rfl (Cell.a (by rfl))) ?_
        refine GoL.does rfl (Does.callE rfl Tryz.call149 rfl (frame_reg hI.a) .auto) ?_
        rintro _ _ ⟨⟨⟩, -, rfl, rfl⟩
        refine GoL.y rfl (Y.nilCheck rfl) ?_
        refine GoL.y rfl (Y.load Tryz.isAgg43 rfl (Cell.a (dw_get (by omega)))) ?_
        refine GoL.y rfl (Y.eql rfl rfl) ?_
        refine GoL.nil ?_
        refine GoE.then_normal ?_
        refine GoC.condD rfl (fun h65 => ?_) (fun h65 => ?_)
        · refine GoC.region ?_
          refine GoL.y rfl (Y.fieldAddr0 4 43 Tryz.underlying123 rfl Tryz.sizeOf43 rfl) ?_
          refine GoL.y rfl (Y.load Tryz.isAgg43 rfl (Cell.a (by rfl))) ?_
          refine GoL.y rfl (Y.convI Tryz.underlying43 Tryz.underlying3 rfl (by have := hI.j (.inr h55); omega)) ?_
          refine GoL.y rfl (Y.assign rfl) ?_
          refine GoL.nil ?_
          refine GoE.block_normal ?_
          refine GoE.midK (f.regs, i.n, m) .auto ?_ ?_ ?_
          · unfold doI; rw [if_neg h48, if_pos h55, if_pos (show f.reg i.a = 0 from h65)]
          · exact ⟨rfl, trivial⟩
          · exact fun w s => Ent.kept .auto w s
        · refine GoC.skip ?_
          refine GoE.block_normal ?_
          refine GoE.midK (f.regs, f.pc + 1, m) .auto ?_ ?_ ?_
          · unfold doI; rw [if_neg h48, if_pos h55, if_neg (show ¬ f.reg i.a = 0 from h65)]
          · exact ⟨rfl, trivial⟩
          · exact fun w s => Ent.kept .auto w s
      · refine GoC.seq ?_
        refine GoC.region ?_
        refine GoL.y rfl (Y.fieldAddrZ 3 Tryz.underlying123 rfl Tryz.sizeOf3 rfl) ?_
        refine GoL.y rfl (Y.load Tryz.isAgg3 rfl (Cell.a (by rfl))) ?_
        refine GoL.y rfl (Y.eql rfl rfl) ?_
        refine GoL.y rfl (Y.assign rfl) ?_
        refine GoL.nil ?_
        refine GoE.then_normal ?_
        refine GoC.condD rfl (fun h69 => ?_) (fun h69 => ?_)
        · refine GoC.draw [arr b3 0 (insE i)] [1, 1, 1, 2, 0, 0, 1, 3] rfl (by kernel_rfl) ?_
          refine GoK.s rfl (Y.move rfl) ?_
          refine GoK.s rfl (Y.fieldAddr0 1 3 Tryz.underlying123 rfl Tryz.sizeOf3 rfl) ?_
          refine GoK.s rfl (Y.load Tryz.isAgg3 rfl (Cell.a (by rfl))) ?_
          refine GoK.d2 rfl Kept.auto (Does.callE rfl Tryz.call149 rfl (frame_reg hI.a) .auto) (by rintro _ _ ⟨⟨⟩, -, rfl, rfl⟩; exact Kept.auto) ?_
          rintro _ _ ⟨⟨⟩, -, rfl, rfl⟩
          refine GoK.k rfl Kept.auto (Y.fieldAddr0 4 43 Tryz.underlying123 rfl Tryz.sizeOf43 rfl) ?_
          refine GoK.k rfl Kept.auto (Y.load Tryz.isAgg43 rfl (Cell.a (by rfl))) ?_
          refine GoK.s rfl (Y.nilCheck rfl) ?_
          refine GoK.d3 rfl (Does.st Tryz.sizeOf43 rfl rfl rfl (Nat.blt_eq.mpr (by show 2 + i.a.toNat < 11; omega))) ?_
          rintro _ _ ⟨rfl, rfl⟩
          rw [dw_set _ (show i.a.toNat < 8 by omega) hF.l]
          refine GoK.nil ?_
          refine GoE.block_normal ?_
          refine GoE.midK (f.regs.set i.a.toNat i.n, f.pc + 1, m) .auto ?_ ?_ ?_
          · unfold doI; rw [if_neg h48, if_neg h55, if_pos h69]; rfl
          · exact ⟨rfl, trivial⟩
          · exact fun w s => Ent.kept .auto w s
        · refine GoC.seq ?_
          refine GoC.region ?_
          refine GoL.y rfl (Y.fieldAddrZ 3 Tryz.underlying123 rfl Tryz.sizeOf3 rfl) ?_
          refine GoL.y rfl (Y.load Tryz.isAgg3 rfl (Cell.a (by rfl))) ?_
          refine GoL.y rfl (Y.eql rfl rfl) ?_
          refine GoL.y rfl (Y.assign rfl) ?_
          refine GoL.nil ?_
          refine GoE.then_normal ?_
          refine GoC.condD rfl (fun h80 => ?_) (fun h80 => ?_)
          · refine GoC.seq ?_
            refine GoC.draw [arr b3 0 (insE i)] [1, 1, 1, 2, 0, 0, 0, 3, 1, 1] rfl (by kernel_rfl) ?_
            refine GoK.s rfl (Y.move rfl) ?_
            refine GoK.s rfl (Y.fieldAddr0 1 3 Tryz.underlying123 rfl Tryz.sizeOf3 rfl) ?_
            refine GoK.s rfl (Y.load Tryz.isAgg3 rfl (Cell.a (by rfl))) ?_
            refine GoK.d2 rfl Kept.auto (Does.callE rfl Tryz.call149 rfl (frame_reg hI.a) .auto) (by rintro _ _ ⟨⟨⟩, -, rfl, rfl⟩; exact Kept.auto) ?_
            rintro _ _ ⟨⟨⟩, -, rfl, rfl⟩
            refine GoK.k rfl Kept.auto (Y.move rfl) ?_
            refine GoK.k rfl Kept.auto (Y.fieldAddr0 2 3 Tryz.underlying123 rfl Tryz.sizeOf3 rfl) ?_
            refine GoK.k rfl Kept.auto (Y.load Tryz.isAgg3 rfl (Cell.a (by rfl))) ?_
            refine GoK.d3 rfl (Does.callE rfl Tryz.call149 rfl (frame_reg hI.b) .auto) ?_
            rintro _ _ ⟨⟨⟩, -, rfl, rfl⟩
            refine GoK.s rfl (Y.assign rfl) ?_
            refine GoK.s rfl (Y.assign rfl) ?_
            refine GoK.nil ?_
            refine GoE.then_normal ?_
            refine GoC.region ?_
            refine GoL.y rfl (Y.move rfl) ?_
            refine GoL.y rfl (Y.move rfl) ?_
            refine GoL.y rfl (Y.move rfl) ?_
            refine GoL.y rfl (Y.nilCheck rfl) ?_
            refine GoL.y rfl (Y.load Tryz.isAgg43 rfl (Cell.a (dw_get (by omega)))) ?_
            refine GoL.callB rfl Tryz.call150 rfl (frame_cell (f := f) (m := m) (at_ := f.regs.getD i.b.toNat 0) (hF.r _).1 hl) .auto (fun _ h => by split at h <;> cases h) ?_ ?_
            · rintro ⟨⟩ u e -
              have hlt : f.regs.getD i.b.toNat 0 < m.length := Decidable.byContradiction fun hn => by
                rw [if_neg hn] at e
                cases e
              rw [if_pos hlt] at e
              cases e
              have h0 := (hF.r i.b.toNat).1
              refine GoL.y rfl (Y.nilCheck rfl) ?_
              refine GoL.y rfl (Y.load Tryz.isAgg43 rfl (Cell.rd0 Rd.s (getD_some (d := (0 : Int)) (show (f.regs.getD i.b.toNat 0).toNat < m.length by omega)) (by rfl))) ?_
              refine GoL.y rfl (Y.nilCheck rfl) ?_
              refine GoL.does rfl (Does.st Tryz.sizeOf43 rfl rfl rfl (Nat.blt_eq.mpr (by show 2 + i.a.toNat < 11; omega))) ?_
              rintro _ _ ⟨rfl, rfl⟩
              rw [dw_set _ (show i.a.toNat < 8 by omega) hF.l]
              refine GoL.nil ?_
              refine GoE.block_normal ?_
              refine GoE.midK (f.regs.set i.a.toNat (m.getD (f.regs.getD i.b.toNat 0).toNat 0), f.pc + 1, m) .auto ?_ ?_ ?_
              · unfold doI; rw [if_neg h48, if_neg h55, if_neg h69, if_pos h80, if_pos (show f.reg i.b < m.length from hlt)]; rfl
              · exact ⟨rfl, trivial⟩
              · exact fun w s => Ent.kept .auto w s
            · rintro ⟨⟩ c e -
              have hge : ¬ f.regs.getD i.b.toNat 0 < m.length := fun h => by
                rw [if_pos h] at e
                cases e
              rw [if_neg hge] at e
              cases e
              have hz : doI f m i = none := by
                unfold doI; rw [if_neg h48, if_neg h55, if_neg h69, if_pos h80, if_neg (show ¬ f.reg i.b < m.length from hge)]
              rw [hz]
              refine fun a w ha s => And.intro ha.defers (Exists.intro () (And.intro ?_ (And.intro trivial (finE .auto s))))
              rfl
          · refine GoC.seq ?_
            refine GoC.region ?_
            refine GoL.y rfl (Y.fieldAddrZ 3 Tryz.underlying123 rfl Tryz.sizeOf3 rfl) ?_
            refine GoL.y rfl (Y.load Tryz.isAgg3 rfl (Cell.a (by rfl))) ?_
            refine GoL.y rfl (Y.eql rfl rfl) ?_
            refine GoL.y rfl (Y.assign rfl) ?_
            refine GoL.nil ?_
            refine GoE.then_normal ?_
            refine GoC.condD rfl (fun h101 => ?_) (fun h101 => ?_)
            · refine GoC.seq ?_
              refine GoC.draw [arr b3 0 (insE i)] [1, 1, 1, 2, 0, 0, 0, 3, 1, 1] rfl (by kernel_rfl) ?_
              refine GoK.s rfl (Y.move rfl) ?_
              refine GoK.s rfl (Y.fieldAddr0 1 3 Tryz.underlying123 rfl Tryz.sizeOf3 rfl) ?_
              refine GoK.s rfl (Y.load Tryz.isAgg3 rfl (Cell.a (by rfl))) ?_
              refine GoK.d2 rfl Kept.auto (Does.callE rfl Tryz.call149 rfl (frame_reg hI.a) .auto) (by rintro _ _ ⟨⟨⟩, -, rfl, rfl⟩; exact Kept.auto) ?_
              rintro _ _ ⟨⟨⟩, -, rfl, rfl⟩
              refine GoK.k rfl Kept.auto (Y.move rfl) ?_
              refine GoK.k rfl Kept.auto (Y.fieldAddr0 2 3 Tryz.underlying123 rfl Tryz.sizeOf3 rfl) ?_
              refine GoK.k rfl Kept.auto (Y.load Tryz.isAgg3 rfl (Cell.a (by rfl))) ?_
              refine GoK.d3 rfl (Does.callE rfl Tryz.call149 rfl (frame_reg hI.b) .auto) ?_
              rintro _ _ ⟨⟨⟩, -, rfl, rfl⟩
              refine GoK.s rfl (Y.assign rfl) ?_
              refine GoK.s rfl (Y.assign rfl) ?_
              refine GoK.nil ?_
              refine GoE.then_normal ?_
              rcases Nat.lt_or_ge (f.regs.getD i.a.toNat 0).toNat m.length with hlt | hge
              · have h0 := (hF.r i.a.toNat).1
                refine GoC.draw [arr b 0 (dwC f v)] [1, 1, 1, 1, 2, 0, 0, 0, 1, 3] rfl (by kernel_rfl) ?_
                refine GoK.s rfl (Y.move rfl) ?_
                refine GoK.s rfl (Y.move rfl) ?_
                refine GoK.s rfl (Y.nilCheck rfl) ?_
                refine GoK.s rfl (Y.load Tryz.isAgg43 rfl (Cell.a (dw_get (by omega)))) ?_
                refine GoK.d2 rfl Kept.auto (Does.callE rfl Tryz.call150 rfl (FnB.ok (fun _ => .pointer (some ⟨blk v, ofs v + (f.regs.getD i.a.toNat 0).toNat * 1, none⟩)) (frame_cell (f := f) (m := m) (at_ := f.regs.getD i.a.toNat 0) (hF.r _).1 hl) (fun _ => if_pos (by omega))) .auto) (by rintro _ _ ⟨⟨⟩, -, rfl, rfl⟩; exact Kept.auto) ?_
                rintro _ _ ⟨⟨⟩, -, rfl, rfl⟩
                refine GoK.k rfl Kept.auto (Y.move rfl) ?_
                refine GoK.k rfl Kept.auto (Y.nilCheck rfl) ?_
                refine GoK.k rfl Kept.auto (Y.load Tryz.isAgg43 rfl (Cell.a (dw_get (by omega)))) ?_
                refine GoK.s rfl (Y.nilCheck rfl) ?_
                refine GoK.d3 rfl (Does.storeSl0 (x' := f.regs.getD i.b.toNat 0) rfl rfl Tryz.sizeOf43 rfl (getD_some (d := (0 : Int)) hlt) (by decide) rfl .auto) ?_
                rintro _ _ ⟨rfl, rfl⟩
                refine GoK.nil ?_
                refine GoE.block_normal ?_
                refine GoE.midK (f.regs, f.pc + 1, m.set (f.regs.getD i.a.toNat 0).toNat (f.regs.getD i.b.toNat 0)) .auto ?_ ?_ ?_
                · unfold doI; rw [if_neg h48, if_neg h55, if_neg h69, if_neg h80, if_pos h101, if_pos (show f.reg i.a < m.length by show f.regs.getD i.a.toNat 0 < _; omega)]; rfl
                · exact ⟨rfl, trivial⟩
                · exact fun w s => Ent.kept .auto w s
              · have h0 := (hF.r i.a.toNat).1
                refine GoC.held [arr b 0 (dwC f v)] rfl ?_
                refine GoH.take 0 rfl (by kernel_rfl) (by kernel_rfl) (by kernel_rfl) (fun _ _ _ _ _ h => h) rfl Kept.auto (Y.move rfl) ?_
                refine GoH.take 1 rfl (by kernel_rfl) (by kernel_rfl) (by kernel_rfl) (fun _ _ _ _ _ h => h) rfl Kept.auto (Y.move rfl) ?_
                refine GoH.take 2 rfl (by kernel_rfl) (by kernel_rfl) (by kernel_rfl) (fun _ _ _ _ _ h => h) rfl Kept.auto (Y.nilCheck rfl) ?_
                refine GoH.take 3 rfl (by kernel_rfl) (by kernel_rfl) (by kernel_rfl) (fun _ _ _ _ _ h => h) rfl Kept.auto (Y.load Tryz.isAgg43 rfl (Cell.a (dw_get (by omega)))) ?_
                refine GoH.take 5 rfl (by kernel_rfl) (by kernel_rfl) (by kernel_rfl) (fun _ _ _ _ _ h => h) rfl Kept.auto (Y.move rfl) ?_
                refine GoH.take 6 rfl (by kernel_rfl) (by kernel_rfl) (by kernel_rfl) (fun _ _ _ _ _ h => h) rfl Kept.auto (Y.nilCheck rfl) ?_
                refine GoH.take 7 rfl (by kernel_rfl) (by kernel_rfl) (by kernel_rfl) (fun _ _ _ _ _ h => h) rfl Kept.auto (Y.load Tryz.isAgg43 rfl (Cell.a (dw_get (by omega)))) ?_
                refine GoH.callP 4 rfl (by kernel_rfl) Tryz.call150 rfl (frame_cell (f := f) (m := m) (at_ := f.regs.getD i.a.toNat 0) (hF.r _).1 hl) .auto ?_ ?_
                · exact fun _ => ⟨_, if_neg (by omega)⟩
                rintro ⟨⟩ c e -
                rw [if_neg (by omega)] at e
                cases e
                have hz : doI f m i = none := by
                  unfold doI; rw [if_neg h48, if_neg h55, if_neg h69, if_neg h80, if_pos h101, if_neg (show ¬ f.reg i.a < m.length by show ¬ f.regs.getD i.a.toNat 0 < _; omega)]
                rw [hz]
                refine fun a w ha s => And.intro ha.defers (Exists.intro () (And.intro ?_ (And.intro trivial (finE .auto s))))
                rfl
            · refine GoC.seq ?_
              refine GoC.draw [arr b3 0 (insE i), arr b 0 (dwC f v)] [1, 1, 1, 2, 0, 0, 0, 3, 1, 1, 1, 1, 1] rfl (by kernel_rfl) ?_
              refine GoK.s rfl (Y.move rfl) ?_
              refine GoK.s rfl (Y.fieldAddr0 1 3 Tryz.underlying123 rfl Tryz.sizeOf3 rfl) ?_
              refine GoK.s rfl (Y.load Tryz.isAgg3 rfl (Cell.a (by rfl))) ?_
              refine GoK.d2 rfl Kept.auto (Does.callE rfl Tryz.call149 rfl (frame_reg hI.a) .auto) (by rintro _ _ ⟨⟨⟩, -, rfl, rfl⟩; exact Kept.auto) ?_
              rintro _ _ ⟨⟨⟩, -, rfl, rfl⟩
              refine GoK.k rfl Kept.auto (Y.move rfl) ?_
              refine GoK.k rfl Kept.auto (Y.fieldAddr0 2 3 Tryz.underlying123 rfl Tryz.sizeOf3 rfl) ?_
              refine GoK.k rfl Kept.auto (Y.load Tryz.isAgg3 rfl (Cell.a (by rfl))) ?_
              refine GoK.d3 rfl (Does.callE rfl Tryz.call149 rfl (frame_reg hI.b) .auto) ?_
              rintro _ _ ⟨⟨⟩, -, rfl, rfl⟩
              refine GoK.s rfl (Y.nilCheck rfl) ?_
              refine GoK.s rfl (Y.load Tryz.isAgg43 rfl (Cell.a (dw_get (by omega)))) ?_
              refine GoK.s rfl (Y.assign rfl) ?_
              refine GoK.s rfl (Y.assign rfl) ?_
              refine GoK.s rfl (Y.assign rfl) ?_
              refine GoK.nil ?_
              refine GoE.then_normal ?_
              refine GoC.cutK (X := Unit) [11, 28, 29, 30, 31, 32, 33, 34, 35, 36, 37] (fun _ => True) (fun _ => [(11, some (.int .u64 (if shortB i.op = true then 0 else f.reg i.c)))]) (fun _ => [arr b3 0 (insE i), arr b 0 (dwC f v), sl wrdE 1 v m, F]) ?_ ?_
              · refine GoC.seq ?_
                refine GoC.region ?_
                refine GoL.y rfl (Y.fieldAddrZ 3 Tryz.underlying123 rfl Tryz.sizeOf3 rfl) ?_
                refine GoL.y rfl (Y.load Tryz.isAgg3 rfl (Cell.a (by rfl))) ?_
                refine GoL.does rfl (Does.callE rfl Tryz.call151 rfl frame_short .auto) ?_
                rintro _ _ ⟨⟨⟩, -, rfl, rfl⟩
                refine GoL.y rfl (Y.not rfl) ?_
                refine GoL.nil ?_
                refine GoE.then_normal ?_
                refine GoC.cond rfl (fun h31 => ?_) (fun h31 => ?_)
                · refine GoC.region ?_
                  refine GoL.y rfl (Y.move rfl) ?_
                  refine GoL.y rfl (Y.fieldAddr0 3 3 Tryz.underlying123 rfl Tryz.sizeOf3 rfl) ?_
                  refine GoL.y rfl (Y.load Tryz.isAgg3 rfl (Cell.a (by rfl))) ?_
                  refine GoL.does rfl (Does.callE rfl Tryz.call149 rfl (frame_reg hI.c) .auto) ?_
                  rintro _ _ ⟨⟨⟩, -, rfl, rfl⟩
                  refine GoL.y rfl (Y.nilCheck rfl) ?_
                  refine GoL.y rfl (Y.load Tryz.isAgg43 rfl (Cell.a (dw_get (by omega)))) ?_
                  refine GoL.y rfl (Y.assign rfl) ?_
                  refine GoL.nil ?_
                  refine GoE.midK () .auto ?_ ?_ ?_
                  · trivial
                  · rw [if_neg (show ¬ shortB i.op = true by rw [Bool.not_eq_true'] at h31; rw [h31]; simp)]; exact ⟨rfl, trivial⟩
                  · exact fun w s => Ent.kept .auto w s
                · refine GoC.skip ?_
                  refine GoE.midK () .auto ?_ ?_ ?_
                  · trivial
                  · rw [if_pos (show shortB i.op = true by simpa using h31)]; exact ⟨rfl, trivial⟩
                  · exact fun w s => Ent.kept .auto w s
              · rintro ⟨⟩ -
                obtain ⟨y, hy⟩ : ∃ y, y = (if shortB i.op = true then 0 else f.reg i.c) := ⟨_, rfl⟩
                have hy0 : 0 ≤ y := by
                  subst hy
                  split
                  · exact Int.le_refl _
                  · exact (hF.r _).1
                rw [← hy]
                refine GoC.region ?_
                refine GoL.y rfl (Y.move rfl) ?_
                refine GoL.y rfl (Y.fieldAddrZ 3 Tryz.underlying123 rfl Tryz.sizeOf3 rfl) ?_
                refine GoL.y rfl (Y.load Tryz.isAgg3 rfl (Cell.a (by rfl))) ?_
                refine GoL.y rfl (Y.move rfl) ?_
                refine GoL.y rfl (Y.move rfl) ?_
                refine GoL.does rfl (Does.callE rfl Tryz.call152 rfl (frame_Arith (hF.r _).1 hy0) .auto) ?_
                rintro _ _ ⟨t38, -, rfl, rfl⟩
                refine GoL.y rfl (Y.move rfl) ?_
                refine GoL.y rfl (Y.extract (v := .int .u64 (arithI i.op (f.regs.getD i.b.toNat 0) y)) rfl rfl) ?_
                refine GoL.y rfl (Y.extract rfl rfl) ?_
                refine GoL.y rfl (Y.nilCheck rfl) ?_
                refine GoL.does rfl (Does.st Tryz.sizeOf43 rfl rfl rfl (Nat.blt_eq.mpr (by show 2 + i.a.toNat < 11; omega))) ?_
                rintro _ _ ⟨rfl, rfl⟩
                rw [dw_set _ (show i.a.toNat < 8 by omega) hF.l]
                refine GoL.nil ?_
                refine GoE.block_normal ?_
                refine GoE.midK (f.regs.set i.a.toNat (arithI i.op (f.regs.getD i.b.toNat 0) y), f.pc + 1, m) .auto ?_ ?_ ?_
                · unfold doI; rw [if_neg h48, if_neg h55, if_neg h69, if_neg h80, if_neg h101]; subst hy; rfl
                · exact ⟨rfl, trivial⟩
                · exact fun w s => Ent.kept .auto w s
  · rintro ⟨rs, nx, m2⟩ hz
    simp only at hz
    refine GoC.region ?_
    refine GoL.y rfl (Y.move rfl) ?_
    refine GoL.y rfl (Y.move rfl) ?_
    refine GoL.y rfl (Y.nilCheck rfl) ?_
    refine GoL.y rfl (Y.fieldAddrZ 131 Tryz.underlying216 rfl Tryz.sizeOf131 rfl) ?_
    refine GoL.y rfl (Y.fieldAddr0 1 3 Tryz.underlying131 rfl Tryz.sizeOf3 rfl) ?_
    refine GoL.does rfl (Does.st Tryz.sizeOf3 rfl rfl rfl rfl) ?_
    rintro _ _ ⟨rfl, rfl⟩
    refine GoL.nil ?_
    rw [hz]
    refine GoE.end0 rfl fun w s => ⟨(), ?_, trivial, finE .auto s⟩
    rfl

set_option maxRecDepth 20000 in
theorem plain_ret {W : World} {p6 p7 p8 : Nat} {Hs : List HProp} {w : World} (hs : Sat W w (seps Hs)) : CallsD Tryz.prog 117 #[ptr p6, ptr p7, ptr p8] .returning w (fun e u2 w2 => u2 = .returning ∧ e = .returned (.tuple #[]) ∧ Sat W w2 (seps Hs)) := by
  refine callsD_recover (d := 6) (N := 15) (v := .nilIface) (u2 := .returning) (args := [ptr p6, ptr p7, ptr p8]) Tryz.func117 rfl Tryz.ntmps117 rfl rfl rfl (fun c cs hc => .inr ⟨by simp [recoverD, hc], rfl, rfl⟩) hs ?_
  refine GoC.block ?_
  refine GoC.seq ?_
  refine GoC.region ?_
  refine GoL.y rfl (Y.eqIf0 Tryz.underlying20 rfl) ?_
  refine GoL.nil ?_
  refine GoE.then_normal ?_
  refine GoC.condT rfl ?_
  refine GoC.region ?_
  refine GoL.y rfl (Y.assign rfl) ?_
  refine GoL.nil ?_
  refine GoE.block_normal ?_
  refine GoE.endC fun w s => ⟨rfl, rfl, ?_⟩
  first | exact s | exact Ent.kept .auto _ s

set_option maxRecDepth 20000 in
theorem plain_pan {W : World} {p6 p7 p8 : Nat} {F : HProp} {w : World} (hs : Sat W w (seps [arr p6 0 (frmE Frm.z), arr p7 0 [.slice none 0 0], arr p8 0 [.int .i64 0], F])) : CallsD Tryz.prog 117 #[ptr p6, ptr p7, ptr p8] (.panicking (stopC 213 6)) w (fun e u2 w2 => u2 = .panicking [{ v := .iface 213 (.agg #[.int .i64 6]), recovered := true }] ∧ e = .returned (.tuple #[]) ∧ Sat W w2 (seps [arr p6 0 (frmE Frm.z), arr p7 0 [.slice none 0 0], arr p8 0 [.int .i64 6], F])) := by
  refine callsD_recover (d := 6) (N := 15) (v := .iface 213 (.agg #[.int .i64 6])) (u2 := .panicking [{ v := .iface 213 (.agg #[.int .i64 6]), recovered := true }]) (args := [ptr p6, ptr p7, ptr p8]) Tryz.func117 rfl Tryz.ntmps117 rfl rfl rfl (fun c cs hc => .inl (by simp [recoverD, hc, stopC])) hs ?_
  refine GoC.block ?_
  refine GoC.seq ?_
  refine GoC.region ?_
  refine GoL.y rfl (Y.eqIf1 Tryz.underlying20 rfl) ?_
  refine GoL.nil ?_
  refine GoE.then_normal ?_
  refine GoC.condF rfl ?_
  refine GoC.seq ?_
  refine GoC.region ?_
  refine GoL.y rfl (Y.tAssert (r := .tuple #[.agg #[.int .i64 6], .bool true]) rfl (fun w => by simp [Instr.typeAssert, run_underlying Tryz.underlying213])) ?_
  refine GoL.y rfl (Y.extract (v := .bool true) rfl rfl) ?_
  refine GoL.y rfl (Y.extract (v := .agg #[.int .i64 6]) rfl rfl) ?_
  refine GoL.nil ?_
  refine GoE.then_normal ?_
  refine GoC.condT rfl ?_
  refine GoC.seq ?_
  refine GoC.region ?_
  refine GoL.does rfl (Does.alloc rfl Tryz.zeroValue213 rfl) ?_
  rintro _ _ ⟨b4, rfl, rfl⟩
  refine GoL.does rfl (Does.sta (by exact Tryz.sizeOf213) rfl rfl rfl (by rfl)) ?_
  rintro _ _ ⟨rfl, rfl⟩
  refine GoL.nil ?_
  refine GoE.then_normal ?_
  refine GoC.draw [arr b4 0 [.int .i64 6]] [1, 0, 0, 2, 2, 3] rfl (by kernel_rfl) ?_
  refine GoK.s rfl (Y.bld0 ([(.int .i64 0), (.int .i64 0), (.int .u64 0), (.int .u64 0), (.int .u64 0), (.int .u64 0), (.int .u64 0), (.int .u64 0), (.int .u64 0), (.int .u64 0)]) (by kernel_rfl)) ?_
  refine GoK.k rfl Kept.auto (Y.fieldAddrZ 28 Tryz.underlying213 rfl Tryz.sizeOf28 rfl) ?_
  refine GoK.k rfl Kept.auto (Y.load Tryz.isAgg28 rfl (Cell.a (by rfl))) ?_
  refine GoK.d2 rfl Kept.auto (Does.sta (by exact Tryz.sizeOf131) rfl rfl rfl (by rfl)) (by rintro _ _ ⟨rfl, rfl⟩; exact Kept.auto) ?_
  rintro _ _ ⟨rfl, rfl⟩
  refine GoK.d2 rfl Kept.auto (Does.st Tryz.sizeOf51 rfl rfl rfl rfl) (by rintro _ _ ⟨rfl, rfl⟩; exact Kept.auto) ?_
  rintro _ _ ⟨rfl, rfl⟩
  refine GoK.d3 rfl (Does.st Tryz.sizeOf28 rfl rfl rfl rfl) ?_
  rintro _ _ ⟨rfl, rfl⟩
  refine GoK.nil ?_
  refine GoE.block_normal ?_
  refine GoE.endC fun w s => ⟨rfl, rfl, ?_⟩
  first | exact s | exact Ent.kept .auto _ s

theorem plain_panR {W : World} {p6 p7 p8 : Nat} {R : List HProp} {w : World} (hs : Sat W w (seps ([arr p6 0 (frmE Frm.z), arr p7 0 [.slice none 0 0], arr p8 0 [.int .i64 0]] ++ R))) : CallsD Tryz.prog 117 #[ptr p6, ptr p7, ptr p8] (.panicking (stopC 213 6)) w (fun e u2 w2 => u2 = .panicking [{ v := .iface 213 (.agg #[.int .i64 6]), recovered := true }] ∧ e = .returned (.tuple #[]) ∧ Sat W w2 (seps ([arr p6 0 (frmE Frm.z), arr p7 0 [.slice none 0 0], arr p8 0 [.int .i64 6]] ++ R))) :=
  (plain_pan (F := seps R) (hs.eq (by rw [seps_append]; simp only [seps, sep_emp, sep_assoc]))).mono fun _ _ _ ⟨a, b, c⟩ => ⟨a, b, c.eq (by rw [seps_append]; simp only [seps, sep_emp, sep_assoc])⟩

set_option maxRecDepth 20000 in
theorem frame_Plain {W : World} {A : HProp} {f : Frm} {i : Ins} {v : Value} {m : List Int} (hr : Rd W [A] wrdE 1 v m) (hl : m.length ≤ 1000000) (hI : InsOk i) (hF : FrmOk f) (hc : cls i.op = 1) : Fn Tryz.prog W 87 [.agg (frmE f).toArray, .agg (insE i).toArray, v] [A] Value (fun u => .tuple #[.agg (frmE (plainR f m i).1).toArray, u, .int .i64 (plainR f m i).2.2]) (fun _ => True) (fun u => [sl wrdE 1 u (plainR f m i).2.1, A]) := by
  refine Fn.introD (N := 39) Tryz.func87 rfl Tryz.ntmps87 rfl fun F => ?_
  haveI hRI : ∀ (H : List HProp) [HasH H A], ReadsC W H v wrdE 1 m := fun H h => ⟨hr.at h.has⟩
  show GoC _ _ _ _ _ _ [A, F]
  refine GoC.seq ?_
  refine GoC.region ?_
  refine GoL.does rfl (Does.box rfl rfl rfl) ?_
  rintro _ _ ⟨b3, rfl, rfl⟩
  refine GoL.mem (H' := [arr b3 0 (frmE f), A, F]) (fun w s => s) ?_
  refine GoL.does rfl (Does.box rfl rfl rfl) ?_
  rintro _ _ ⟨b4, rfl, rfl⟩
  refine GoL.mem (H' := [arr b4 0 (insE i), arr b3 0 (frmE f), A, F]) (fun w s => s) ?_
  refine GoL.does rfl (Does.alloc rfl Tryz.zeroValue131 rfl) ?_
  rintro _ _ ⟨b6, rfl, rfl⟩
  refine GoL.does rfl (Does.alloc rfl Tryz.zeroValue51 rfl) ?_
  rintro _ _ ⟨b7, rfl, rfl⟩
  refine GoL.does rfl (Does.alloc rfl Tryz.zeroValue28 rfl) ?_
  rintro _ _ ⟨b8, rfl, rfl⟩
  refine GoL.nil ?_
  refine GoE.then_normal ?_
  refine GoC.seq ?_
  refine GoC.seq ?_
  refine GoC.region ?_
  refine GoL.y rfl (Y.fieldAddrZ 3 Tryz.underlying123 rfl Tryz.sizeOf3 rfl) ?_
  refine GoL.y rfl (Y.load Tryz.isAgg3 rfl (Cell.a (by rfl))) ?_
  refine GoL.does rfl (Does.callE rfl Tryz.call63 rfl inst_Class .auto) ?_
  rintro _ _ ⟨⟨⟩, -, rfl, rfl⟩
  refine GoL.y rfl (Y.neq rfl rfl) ?_
  refine GoL.nil ?_
  refine GoE.then_normal ?_
  refine GoC.condD rfl (fun h13 => ?_) (fun h13 => ?_)
  · exact absurd hc h13
  · refine GoC.skip ?_
    refine GoE.then_normal ?_
    refine GoC.seq ?_
    refine GoC.region ?_
    refine GoL.y rfl (Y.makeFunc rfl rfl) ?_
    refine GoL.deferD rfl ?_
    refine GoLD.nil ?_
    refine GoED.then_normal ?_
    refine GoCD.seq ?_
    refine GoCD.draw [arr b3 0 (frmE f), A] [0, 1, 1, 2, 1, 3, 1] rfl (by kernel_rfl) ?_
    refine GoKD.k rfl Kept.auto (Y.lda Tryz.isAgg131 rfl Cells.a (by exact Tryz.sizeOf131)) ?_
    refine GoKD.s rfl (Y.move rfl) ?_
    refine GoKD.s rfl (Y.lenRd Tryz.underlying51 rfl Rd.s) ?_
    refine GoKD.d2 rfl Kept.auto (Does.mkSl (enc := wrdE) (k := 1) 0 m.length rfl Tryz.underlying51 Tryz.typeInfo43 rfl rfl rfl rfl (by decide) (by decide) rfl rfl rfl rfl (by omega)) (by rintro _ _ ⟨b19, rfl, rfl⟩; exact Kept.auto) ?_
    rintro _ _ ⟨b19, rfl, rfl⟩
    refine GoKD.s rfl (Y.bld2 (fun _ v2 => dwC f v2) rfl rfl (by kernel_rfl)) ?_
    refine GoKD.d3 rfl (Does.box rfl rfl rfl) ?_
    rintro _ _ ⟨b21, rfl, rfl⟩
    refine GoKD.s rfl (Y.assign rfl) ?_
    refine GoKD.nil ?_
    refine GoED.then_normal ?_
    refine GoCD.seq ?_
    refine GoCD.region ?_
    refine GoLD.y rfl (Y.move rfl) ?_
    refine GoLD.y rfl (Y.nilCheck rfl) ?_
    refine GoLD.y rfl (Y.fieldAddr0 10 51 Tryz.underlying216 rfl Tryz.sizeOf51 rfl) ?_
    refine GoLD.y rfl (Y.load Tryz.isAgg51 rfl (Cell.a (by rfl))) ?_
    refine GoLD.y rfl (Y.move rfl) ?_
    refine GoLD.does rfl (Does.copyAll rfl Tryz.underlying51 Tryz.sizeOf43 rfl rfl Rd.s .auto (by simp) rfl (wrdE_one _)) ?_
    rintro _ _ ⟨rfl, rfl⟩
    refine GoLD.nil ?_
    refine GoED.then_normal ?_
    refine GoCD.seq ?_
    refine GoCD.region ?_
    refine GoLD.y rfl (Y.move rfl) ?_
    refine GoLD.y rfl (Y.lda Tryz.isAgg123 rfl Cells.a (by exact Tryz.sizeOf123)) ?_
    refine GoLD.callB_ (fun d h => by cases h; rfl) Tryz.call118 rfl (frame_do (f := f) (v := .slice (some ⟨b19, 0, none⟩) m.length m.length) (m := m) (i := i) hI hF hl) .auto (fun _ h => by unfold doEnd at h; split at h <;> cases h) ?_ ?_
    · rintro ⟨⟩ u e -
      obtain ⟨z, hz⟩ : ∃ z, doI f m i = some z := by
        cases h : doI f m i with
        | none => rw [h] at e; cases e
        | some z => exact ⟨z, rfl⟩
      rw [hz] at e
      cases e
      rw [show doH b21 (.slice (some ⟨b19, 0, none⟩) m.length m.length) (doI f m i) = [arr b21 0 (dwC z.1 (.slice (some ⟨b19, 0, none⟩) m.length m.length)), sl wrdE 1 (.slice (some ⟨b19, 0, none⟩) m.length m.length) z.2] from by rw [hz]; rfl]
      refine GoLD.nil ?_
      refine GoED.then_normal ?_
      refine GoCD.seq ?_
      refine GoCD.draw [arr b21 0 (dwC z.1 (.slice (some ⟨b19, 0, none⟩) m.length m.length))] [1, 1, 1, 1, 0, 0, 0, 0, 2, 3, 3] rfl (by kernel_rfl) ?_
      refine GoKD.s rfl (Y.move rfl) ?_
      refine GoKD.s rfl (Y.nilCheck rfl) ?_
      refine GoKD.s rfl (Y.fieldAddrZ 131 Tryz.underlying216 rfl Tryz.sizeOf131 rfl) ?_
      refine GoKD.s rfl (Y.lda Tryz.isAgg131 rfl (Cells.part0 (ds := frmE z.1) Cells.a rfl) (by exact Tryz.sizeOf131)) ?_
      refine GoKD.k rfl Kept.auto (Y.move rfl) ?_
      refine GoKD.k rfl Kept.auto (Y.nilCheck rfl) ?_
      refine GoKD.k rfl Kept.auto (Y.fieldAddr0 10 51 Tryz.underlying216 rfl Tryz.sizeOf51 rfl) ?_
      refine GoKD.k rfl Kept.auto (Y.load Tryz.isAgg51 rfl (Cell.a (by rfl))) ?_
      refine GoKD.d2 rfl Kept.auto (Does.sta (by exact Tryz.sizeOf131) rfl rfl rfl (by rfl)) (by rintro _ _ ⟨rfl, rfl⟩; exact Kept.auto) ?_
      rintro _ _ ⟨rfl, rfl⟩
      refine GoKD.d3 rfl (Does.stS Tryz.sizeOf51 rfl rfl rfl) ?_
      rintro _ _ ⟨rfl, rfl⟩
      refine GoKD.d3 rfl (Does.st Tryz.sizeOf28 rfl rfl rfl rfl) ?_
      rintro _ _ ⟨rfl, rfl⟩
      refine GoKD.nil ?_
      refine GoED.then_normal ?_
      refine GoCD.ret ?_
      refine fun a w ha s => ?_
      show Leaves Tryz.prog Tryz.f87 a.tmps _ a.defers .returning w
      rw [ha.defers]
      refine leaves_cons (by intro h; cases h) (by simp [invoke, Tryz.call117]) ((plain_ret (p6 := b6) (p7 := b7) (p8 := b8) s).mono ?_)
      rintro e2 u2 w2 ⟨rfl, rfl, s2⟩
      exact ⟨_, (results_3 ha s2 rfl rfl rfl rfl Tryz.isAgg131 (by exact Tryz.sizeOf131) Tryz.isAgg51 Tryz.isAgg28 Cells.a (Cell.a rfl) (Cell.a rfl)), .slice (some ⟨b19, 0, none⟩) m.length m.length, by rw [plainR, hz], trivial, by rw [plainR, hz]; exact finE .auto s2⟩
    · rintro ⟨⟩ c e -
      have hz : doI f m i = none := by
        cases h : doI f m i with
        | none => rfl
        | some z => rw [h] at e; cases e
      rw [hz] at e
      cases e
      rw [show doH b21 (.slice (some ⟨b19, 0, none⟩) m.length m.length) (doI f m i) = [] from by rw [hz]; rfl]
      refine fun a w ha s => ?_
      show Leaves Tryz.prog Tryz.f87 a.tmps _ a.defers (.panicking (stopC 213 6)) w
      rw [ha.defers]
      have s1 := Ent.sat (As := [arr b6 0 (frmE Frm.z), arr b7 0 [.slice none 0 0], arr b8 0 [.int .i64 0]]) .auto s
      refine leaves_cons (by intro h; cases h) (by simp [invoke, Tryz.call117]) ((plain_panR (p6 := b6) (p7 := b7) (p8 := b8) s1).mono ?_)
      rintro e2 u2 w2 ⟨rfl, rfl, s2⟩
      exact ⟨_, (results_3 ha s2 rfl rfl rfl rfl Tryz.isAgg131 (by exact Tryz.sizeOf131) Tryz.isAgg51 Tryz.isAgg28 Cells.a (Cell.a rfl) (Cell.a rfl)), .slice none 0 0, by rw [plainR, hz], trivial, by rw [plainR, hz]; exact finE .auto s2⟩

end Go.SLYtpcjdohmjmeehaaGreat
namespace Go.SLYtpcjdohmjmeehaaGreat
open Go Go.RowKit

/-- There is a thread at a place. -/
def LiveAt (ps : List (Option Nat)) (s : Spc) (n : Nat) : Prop := n < 16 ∧ ∃ q t, ps[n]? = some (some q) ∧ s.thr[n]? = some (some t) ∧ ThrR t
theorem dng_ended {b p : Nat} {d : Dng} {vw ve : Value} : (dngC b p d vw ve).set 11 (.bool true) = dngC b p d.ended vw ve := rfl
theorem dng_yld {b p : Nat} {d : Dng} {vw ve : Value} : (dngC b p d vw ve).set 12 (.bool true) = dngC b p { d with out := { d.out with yielded := true } } vw ve := rfl
theorem setT_thr {s : Spc} {n m : Nat} {t t' : Thr} (h : s.thr[m]? = some (some t)) (hne : n ≠ m) : (s.setT n t').thr[m]? = some (some t) := by
  unfold Spc.setT; simp only; rw [List.getElem?_set_ne hne]; exact h
theorem setT_same {s : Spc} {n : Nat} {t t' : Thr} (h : s.thr[n]? = some (some t)) : (s.setT n t').thr[n]? = some (some t') := by
  unfold Spc.setT; simp only; exact List.getElem?_set_self (List.getElem?_eq_some_iff.1 h).1
theorem goes_thr {d : Dng} {n : Nat} {y : Int} {m : Nat} {t : Thr} (h : d.s.thr[m]? = some (some t)) (hne : n ≠ m) : (d.goes n y).s.thr[m]? = some (some t) := setT_thr h hne
theorem fin_det {d : Dng} {t : Thr} {v : Int} (ht : d.s.thr[d.n]? = some (some t)) (h : t.detached = true) : d.fin v = d.ended.free d.n := by
  unfold Dng.fin; rw [dng_t ht, if_pos h]
theorem fin_none {d : Dng} {t : Thr} {v : Int} (ht : d.s.thr[d.n]? = some (some t)) (h : t.detached = false) (hj : t.joiner = -1) : d.fin v = d.ended.setT { t with why := 9, value := v } := by
  unfold Dng.fin; rw [dng_t ht, if_neg (by rw [h]; simp), if_pos hj]
theorem fin_join {d : Dng} {t : Thr} {v : Int} (ht : d.s.thr[d.n]? = some (some t)) (h : t.detached = false) (hj : ¬ t.joiner = -1) : d.fin v = (d.ended.goes t.joiner.toNat v).free d.n := by
  unfold Dng.fin; rw [dng_t ht, if_neg (by rw [h]; simp), if_neg hj]
theorem thr_setF {t : Thr} {f : Frm} : setFrom (thrC t) 0 (frmE f) = thrC (t.setF f) := rfl
theorem plain_some {f : Frm} {m : List Int} {i : Ins} {z : Frm × List Int} (h : doI f m i = some z) : plainR f m i = (z.1, z.2, 0) := by unfold plainR; rw [h]
theorem plain_none {f : Frm} {m : List Int} {i : Ins} (h : doI f m i = none) : plainR f m i = (Frm.z, [], 6) := by unfold plainR; rw [h]
theorem plain_zero {f : Frm} {m : List Int} {i : Ins} (h : (plainR f m i).2.2 = 0) : ∃ z, doI f m i = some z := by
  unfold plainR at h
  cases e : doI f m i with
  | none => rw [e] at h; cases h
  | some z => exact ⟨z, rfl⟩
theorem plain_six {f : Frm} {m : List Int} {i : Ins} (h : ¬ (plainR f m i).2.2 = 0) : doI f m i = none := by
  cases e : doI f m i with
  | none => rfl
  | some z => rw [plain_some e] at h; exact absurd rfl h
theorem doI_none {f : Frm} {m : List Int} {i : Ins} (h : doI f m i = none) : i.op = 18 ∨ i.op = 19 := by
  unfold doI at h
  repeat' split at h
  all_goals first | (cases h; done) | omega
theorem doI_load {f : Frm} {m : List Int} {i : Ins} {z : Frm × List Int} (h : doI f m i = some z) (ho : i.op = 18) : f.reg i.b < m.length := by
  unfold doI at h
  rw [if_neg (by omega), if_neg (by omega), if_neg (by omega), if_pos ho] at h
  split at h
  · assumption
  · cases h
/-- What an instruction tells of itself. -/
def Dng.told (d : Dng) : Dng := if d.i.op = 18 then d.tell d.b (d.s.mem.getD d.b.toNat 0) 0 true else if d.i.op = 19 then d.tell d.a d.b 0 true else d
theorem dplain_some {d : Dng} {t : Thr} {z : Frm × List Int} (ht : d.s.thr[d.n]? = some (some t)) (h : doI t.frm d.s.mem d.i = some z) : d.plain = { d.told with s := { d.told.s.setT d.n (t.setF z.1) with mem := z.2 } } := by
  unfold Dng.plain; rw [dng_t ht, h]; rfl
theorem dplain_none {d : Dng} {t : Thr} (ht : d.s.thr[d.n]? = some (some t)) (h : doI t.frm d.s.mem d.i = none) : d.plain = (if d.i.op = 18 then d.tell d.b 0 6 true else d.tell d.a d.b 6 true).fin 18446744073709551615 := by
  unfold Dng.plain; rw [dng_t ht, h]
theorem other_no {d : Dng} {h : Int} (e : slotFind d.s.table h = none) : d.other h = (0, 3) := by unfold Dng.other; rw [e]
theorem other_self {d : Dng} {h : Int} {n : Nat} {t : Thr} (e : slotFind d.s.table h = some n) (ht : d.s.thr[n]? = some (some t)) (hn : n = d.n ∨ t.detached = true) : d.other h = (0, 3) := by unfold Dng.other; rw [e]; simp only; rw [spc_t ht, if_pos hn]
theorem other_ok {d : Dng} {h : Int} {n : Nat} {t : Thr} (e : slotFind d.s.table h = some n) (ht : d.s.thr[n]? = some (some t)) (hn : ¬ (n = d.n ∨ t.detached = true)) (hj : t.joiner = -1) : d.other h = (n, 0) := by unfold Dng.other; rw [e]; simp only; rw [spc_t ht, if_neg hn, if_pos hj]
theorem other_join {d : Dng} {h : Int} {n : Nat} {t : Thr} (e : slotFind d.s.table h = some n) (ht : d.s.thr[n]? = some (some t)) (hn : ¬ (n = d.n ∨ t.detached = true)) (hj : ¬ t.joiner = -1) : d.other h = (0, 4) := by unfold Dng.other; rw [e]; simp only; rw [spc_t ht, if_neg hn, if_neg hj]
section
variable {P : Program} {W : World} {N : Nat} {Q : Exit → Act → World → Prop} {O : Array Oper} {L : List (Nat × Option Value)} {H K : List HProp}
theorem GoF.sta2 {ks rest : List Nat} {i : Nat} {E T : TypeId} {x y : Operand} {pos : String} {after : Array Edge} {b o : Nat} {vs cs : List Value} {H' : List HProp} (ho : O[i]? = some ⟨none, .store E x y, T, pos, after, none⟩) (hk : ks.getD i 1 = 2)
    (hz : ∀ w, (sizeOf E).run P w = .ok vs.length w) (hx : ev L x = some (.pointer (some ⟨b, o, none⟩))) (hy : ev L y = some (.agg vs.toArray)) (hv : vs.all (·.oneCell') = true) [h0 : HasArr H b o cs] [hr : SetArr H b o cs vs H'] (hi : cs.length = vs.length)
    (hK : ∀ w, Sat W w (seps H) → Sat W w (seps K)) (hK' : ∀ w, Sat W w (seps H') → Sat W w (seps K)) (h : GoF P W N K O Q ks rest L H') : GoF P W N K O Q ks (i :: rest) L H :=
  GoF.d (X := Unit) (Lx := fun _ => L) (Hx := fun _ => H') ho rfl (.inl hk) (fun _ => hK) (fun E => (by
    intro a w ha hs Kp hK
    exact Does.storeAll hx hy hz (List.all_eq_true.1 hv) (Repl.app E hr.repl) hi a w ha hs Kp (fun L1 H1 ⟨e1, e2⟩ => hK L1 H1 ⟨(), e1, e2⟩))) (fun _ _ => hK') (fun _ => h)
end
end Go.SLYtpcjdohmjmeehaaGreat
