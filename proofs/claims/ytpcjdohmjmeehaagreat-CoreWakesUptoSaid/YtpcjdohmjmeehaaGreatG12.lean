/- Walks of functions, and what they compute. Conditions: none, this text proves no statement. -/
import Derived.Test.YtpcjdohmjmeehaaGreatProg
import Derived.Test.YtpcjdohmjmeehaaGreatG11
import Derived.Test.YtpcjdohmjmeehaaGreatG04
import Derived.KernelRfl
import Derived.Test.YtpcjdohmjmeehaaGreatG05
namespace Go.SLYtpcjdohmjmeehaaGreat
open Go Go.RowKit Go.Proofs Go.Proofs.Tryz

set_option maxRecDepth 20000 in
theorem spc_wakeP {W : World} {b p : Nat} {ps : List (Option Nat)} {pr : Prg} {n : Nat} {t : Thr} {fv sv pv : Value} {bt : Nat} {vm : Value} {bg : Nat} {vt : Value} {bk bw : Nat} {vr : Value} (hp : ps[n]? = some (some p)) (hn16 : n < 16) (hR : ThrR t) {y : Int} : Fn Tryz.prog W 68 [ptr b, .int .i64 (n : Int), .int .u64 y] [arr b 0 (spcC fv sv pv pr bt ps vm bg vt bk bw vr), arr p 0 (thrC t)] Unit (fun _ => .agg (recE (t.woke y)).toArray) (fun _ => True) (fun _ => [arr b 0 (spcC fv sv pv pr bt ps vm bg vt bk bw vr), arr p 0 (thrC (t.wakes y))]) := by
  refine Fn.intro (N := 50) func68 rfl ntmps68 rfl fun F => ?_
  show GoC _ _ _ _ _ _ [arr b 0 (spcC fv sv pv pr bt ps vm bg vt bk bw vr), arr p 0 (thrC t), F]
  have hRl := hR.l
  have hRi := hR.i
  refine GoC.seq (GoC.region ?_)
  refine GoL.does rfl (Does.alloc rfl zeroValue45 rfl) ?_
  rintro _ _ ⟨b6, rfl, rfl⟩
  refine GoL.nil (GoE.then_normal (GoC.seq (GoC.region ?_)))
  refine GoL.y rfl (Y.move rfl) ?_
  refine GoL.y rfl (Y.move rfl) ?_
  refine GoL.y rfl (Y.nilCheck rfl) ?_
  refine GoL.y rfl (Y.fieldAddr0 9 115 underlying118 rfl sizeOf115 rfl) ?_
  refine GoL.y rfl (Y.ixArr n underlying115 sizeOf114 rfl rfl rfl hn16) ?_
  refine GoL.y rfl (Y.load isAgg114 rfl (Cell.a (by rw [Nat.mul_one, spcC_get hn16, getD_of hp]))) ?_
  refine GoL.y rfl (Y.assign rfl) ?_
  refine GoL.nil (GoE.then_normal ?_)
  refine GoC.cutK (X := Unit) [2, 14, 15, 16, 17, 18, 19, 20, 21, 22, 23, 24, 25, 26, 27, 28] (fun _ => True) (fun _ => [(2, some (.int .u64 (if t.into = -1 then 0 else y)))]) (fun _ => [arr p 0 (thrC (if t.into = -1 then t else t.put t.into y)), arr b6 0 [.int .u64 0, .int .i64 0, .int .u64 0, .int .u64 0, .int .i64 0, .bool false], arr b 0 (spcC fv sv pv pr bt ps vm bg vt bk bw vr), F]) ?_ ?_
  · refine GoC.seq (GoC.region ?_)
    refine GoL.y rfl (Y.move rfl) ?_
    refine GoL.y rfl (Y.nilCheck rfl) ?_
    refine GoL.y rfl (Y.fieldAddr0 16 3 underlying133 rfl sizeOf3 rfl) ?_
    refine GoL.y rfl (Y.load isAgg3 rfl (Cell.a (by rfl))) ?_
    refine GoL.y rfl (Y.neq rfl rfl) ?_
    refine GoL.nil (GoE.then_normal ?_)
    refine GoC.condD rfl (fun h18 => ?_) (fun h18 => ?_)
    · refine GoC.draw [arr p 0 (thrC t)] [1, 1, 1, 1, 1, 1, 1, 1, 1, 1, 3] rfl (by kernel_rfl) ?_
      refine GoK.s rfl (Y.move rfl) ?_
      refine GoK.s rfl (Y.move rfl) ?_
      refine GoK.s rfl (Y.nilCheck rfl) ?_
      refine GoK.s rfl (Y.fieldAddr0 16 3 underlying133 rfl sizeOf3 rfl) ?_
      refine GoK.s rfl (Y.load isAgg3 rfl (Cell.a (by rfl))) ?_
      refine GoK.s rfl (Y.move rfl) ?_
      refine GoK.s rfl (Y.nilCheck rfl) ?_
      refine GoK.s rfl (Y.fieldAddrZ 131 underlying133 rfl sizeOf131 rfl) ?_
      refine GoK.s rfl (Y.fieldAddr0 2 57 underlying131 rfl sizeOf57 rfl) ?_
      refine GoK.s rfl (Y.ixArr t.into.toNat underlying57 sizeOf43 rfl rfl (by omega) (by omega)) ?_
      refine GoK.d3 rfl (Does.st sizeOf43 rfl rfl rfl (Nat.blt_eq.mpr (by show 2 + t.into.toNat * 1 < 18; omega))) ?_
      rintro _ _ ⟨rfl, rfl⟩
      rw [thr_setI y (by omega) (by omega) hRl]
      refine GoK.nil ?_
      refine GoE.midK () .auto ?_ ?_ ?_
      · trivial
      · rw [if_neg (by omega)]; exact ⟨rfl, trivial⟩
      · rw [if_neg (by omega)]; exact fun w s => Ent.kept .auto w s
    · refine GoC.region ?_
      refine GoL.y rfl (Y.assign rfl) ?_
      refine GoL.nil ?_
      refine GoE.midK () .auto ?_ ?_ ?_
      · trivial
      · rw [if_pos (by omega)]; exact ⟨rfl, trivial⟩
      · rw [if_pos (by omega)]; exact fun w s => Ent.kept .auto w s
  · rintro ⟨⟩ -
    obtain ⟨y1, hy1⟩ : ∃ y1, y1 = (if t.into = -1 then 0 else y) := ⟨_, rfl⟩
    obtain ⟨t1, h1⟩ : ∃ t1, t1 = (if t.into = -1 then t else t.put t.into y) := ⟨_, rfl⟩
    have h1l : t1.regs.length = 8 := by
      rw [h1]
      split
      · exact hRl
      · rw [put_len]; exact hRl
    have h1h : t1.handle = t.handle ∧ t1.op = t.op := by
      rw [h1]
      split <;> exact ⟨rfl, rfl⟩
    rw [← hy1, ← h1]
    refine GoC.seq (GoC.region ?_)
    refine GoL.y rfl (Y.move rfl) ?_
    refine GoL.y rfl (Y.nilCheck rfl) ?_
    refine GoL.y rfl (Y.fieldAddrZ 131 underlying133 rfl sizeOf131 rfl) ?_
    refine GoL.y rfl (Y.fieldAddr0 2 57 underlying131 rfl sizeOf57 rfl) ?_
    refine GoL.y rfl (Y.ixArr 7 underlying57 sizeOf43 rfl rfl (by omega) (by omega)) ?_
    refine GoL.does rfl (Does.st sizeOf43 rfl rfl rfl rfl) ?_
    rintro _ _ ⟨rfl, rfl⟩
    rw [thr_set (n := 7) 0 (by decide) h1l]
    refine GoL.nil (GoE.then_normal (GoC.seq (GoC.region ?_)))
    refine GoL.y rfl (Y.move rfl) ?_
    refine GoL.y rfl (Y.move rfl) ?_
    refine GoL.y rfl (Y.nilCheck rfl) ?_
    refine GoL.y rfl (Y.fieldAddr0 11 3 underlying133 rfl sizeOf3 rfl) ?_
    refine GoL.does rfl (Does.st sizeOf3 rfl rfl rfl rfl) ?_
    rintro _ _ ⟨rfl, rfl⟩
    rw [thr_why]
    refine GoL.y rfl (Y.nilCheck rfl) ?_
    refine GoL.y rfl (Y.fieldAddr0 16 3 underlying133 rfl sizeOf3 rfl) ?_
    refine GoL.does rfl (Does.st sizeOf3 rfl rfl rfl rfl) ?_
    rintro _ _ ⟨rfl, rfl⟩
    rw [thr_into]
    refine GoL.nil (GoE.then_normal (GoC.seq ?_))
    refine GoC.draw [arr p 0 (thrC { t1.put 7 0 with why := 0, into := -1 })] [1, 1, 1, 1, 1, 1, 1, 1, 1, 1, 3] rfl (by kernel_rfl) ?_
    refine GoK.s rfl (Y.move rfl) ?_
    refine GoK.s rfl (Y.nilCheck rfl) ?_
    refine GoK.s rfl (Y.fieldAddr0 10 43 underlying133 rfl sizeOf43 rfl) ?_
    refine GoK.s rfl (Y.load isAgg43 rfl (Cell.a (by rfl))) ?_
    refine GoK.s rfl (Y.move rfl) ?_
    refine GoK.s rfl (Y.nilCheck rfl) ?_
    refine GoK.s rfl (Y.fieldAddr0 15 3 underlying133 rfl sizeOf3 rfl) ?_
    refine GoK.s rfl (Y.load isAgg3 rfl (Cell.a (by rfl))) ?_
    refine GoK.s rfl (Y.move rfl) ?_
    refine GoK.s rfl (Y.bld4 (fun v1 v2 v3 v4 => [v1, v2, (.int .u64 0), v3, (.int .i64 0), v4]) rfl rfl rfl rfl (by kernel_rfl)) ?_
    refine GoK.d3 rfl (Does.sta (by exact sizeOf45) rfl rfl rfl (by rfl)) ?_
    rintro _ _ ⟨rfl, rfl⟩
    refine GoK.nil (GoE.then_normal (GoC.ret ?_))
    rw [wake_eq t1 h1]
    refine GoE.retC rfl rfl isAgg45 (by exact sizeOf45) Cells.a fun w s => ⟨(), ?_, trivial, finE .auto s⟩
    show Ending.returned (Value.agg #[.int .u64 t1.handle, .int .i64 t1.op, .int .u64 0, .int .u64 y1, .int .i64 0, .bool true]) = _; rw [h1h.1, h1h.2, hy1]; rfl

set_option maxRecDepth 20000 in
theorem core_Done {W : World} {b : Nat} {s : Spc} {k : Int} (hO : SpcOk s) : Fn Tryz.prog W 18 [ptr b, .int .i64 k] [spcH b s] Value (fun u => .tuple #[.agg (effE u (s.done k).1).toArray, .int .i64 (s.done k).2.1]) (fun _ => True) (fun u => [sl intE 1 u (s.done k).1.woken, spcH b (s.done k).2.2]) := by
  refine Fn.intro (N := 43) func18 rfl ntmps18 rfl fun F => ?_
  show GoC _ _ _ _ _ _ [spcH b s, F]
  refine GoC.o1 (C := spcH b s) .auto rfl ?_
  rintro ps -
  refine GoC.o10 (C := spcX b ps s) .auto rfl ?_
  rintro fv sv pv bt vm bg vt bk bw vr -
  refine GoC.know (fun w st => st.fact .auto thrs_same) fun hs => ?_
  refine GoC.seq (GoC.region ?_)
  refine GoL.does rfl (Does.alloc rfl zeroValue36 rfl) ?_
  rintro _ _ ⟨b4, rfl, rfl⟩
  refine GoL.y rfl (Y.assign rfl) ?_
  refine GoL.nil (GoE.then_normal (GoC.seq (GoC.seq (GoC.region ?_))))
  refine GoL.y rfl (Y.move rfl) ?_
  refine GoL.y rfl (Y.eqPtrNil underlying27 rfl rfl) ?_
  refine GoL.nil (GoE.then_normal ?_)
  refine GoC.condF rfl ?_
  refine GoC.skip (GoE.then_normal (GoC.seq (GoC.region ?_)))
  refine GoL.y rfl (Y.move rfl) ?_
  refine GoL.y rfl (Y.nilCheck rfl) ?_
  refine GoL.y rfl (Y.fieldAddr0 28 110 underlying118 rfl sizeOf110 rfl) ?_
  refine GoL.y rfl (Y.load isAgg110 rfl (Cell.a (by rfl))) ?_
  refine GoL.y rfl (Y.move rfl) ?_
  refine GoL.does rfl (Does.callE rfl call67 rfl (disk_Done hO.dw hO.db) .auto) ?_
  rintro _ _ ⟨⟨⟩, -, rfl, rfl⟩
  refine GoL.y rfl (Y.move rfl) ?_
  refine GoL.y rfl (Y.extract (v := .agg (rqsE (s.disk.done k).1).toArray) rfl rfl) ?_
  refine GoL.y rfl (Y.extract (v := .int .u64 (s.disk.done k).2.1) rfl rfl) ?_
  refine GoL.y rfl (Y.extract (v := .bool (s.disk.done k).2.2.1) rfl rfl) ?_
  refine GoL.does rfl (Does.alloc rfl zeroValue142 rfl) ?_
  rintro _ _ ⟨b6, rfl, rfl⟩
  refine GoL.does rfl (Does.sta (by exact sizeOf142) rfl rfl rfl (by rfl)) ?_
  rintro _ _ ⟨rfl, rfl⟩
  refine GoL.y rfl (Y.assign rfl) ?_
  refine GoL.y rfl (Y.assign rfl) ?_
  refine GoL.nil (GoE.then_normal (GoC.seq (GoC.seq (GoC.region ?_))))
  refine GoL.y rfl (Y.move rfl) ?_
  refine GoL.y rfl (Y.not rfl) ?_
  refine GoL.nil (GoE.then_normal ?_)
  refine GoC.cond rfl (fun h23 => ?_) (fun h23 => ?_)
  · refine GoC.seq (GoC.region ?_)
    refine GoL.y rfl (Y.bld0 ([(.slice none 0 0), (.bool false), (.bool false), (.bool false)]) (by kernel_rfl)) ?_
    refine GoL.does rfl (Does.sta (by exact sizeOf36) rfl rfl rfl (by rfl)) ?_
    rintro _ _ ⟨rfl, rfl⟩
    refine GoL.y rfl (Y.assign rfl) ?_
    refine GoL.nil (GoE.then_normal (GoC.ret ?_))
    refine GoE.then_ret ?_
    rw [spc_done_no (by simpa using h23)]
    rw [done_same (by simpa using h23)]
    refine GoE.retCT rfl rfl isAgg36 (by exact sizeOf36) Cells.a rfl fun w s => ⟨(.slice none 0 0), ?_, trivial, finE .auto s⟩
    rfl
  · have hd1 : (s.disk.done k).2.2.1 = true := by simpa using h23
    obtain ⟨hdm, -⟩ := done_fst hd1
    obtain ⟨hw0, t, ht⟩ := hO.dlive _ hdm
    obtain ⟨hn16, q, t2, hq, ht2, hR⟩ := hO.live hs ht
    have e2 := Option.some.inj (ht.symm.trans ht2)
    obtain rfl := Option.some.inj e2
    obtain ⟨m, hm⟩ : ∃ m : Nat, (s.disk.done k).1.who.toNat = m := ⟨_, rfl⟩
    rw [hm] at ht hn16 hq
    have hmc : (s.disk.done k).1.who = (m : Int) := by omega
    refine GoC.skip (GoE.then_normal (GoC.seq ?_))
    refine GoC.fr .auto (thrs_out hq ht) ?_
    refine GoC.draw [arr b6 0 (rqsE (s.disk.done k).1), arr b 0 (spcC fv sv pv s.prg bt ps vm bg vt bk bw vr)] [0, 0, 0, 0, 0, 1, 1, 1, 1, 2, 2, 2, 1, 1, 3] rfl (by kernel_rfl) ?_
    refine GoK.k rfl Kept.auto (Y.move rfl) ?_
    refine GoK.k rfl Kept.auto (Y.move rfl) ?_
    refine GoK.k rfl Kept.auto (Y.nilCheck rfl) ?_
    refine GoK.k rfl Kept.auto (Y.fieldAddr0 30 32 underlying118 rfl sizeOf32 rfl) ?_
    refine GoK.k rfl Kept.auto (Y.load isAgg32 rfl (Cell.a (by rfl))) ?_
    refine GoK.s rfl (Y.move rfl) ?_
    refine GoK.s rfl (Y.fieldAddrZ 3 underlying142 rfl sizeOf3 rfl) ?_
    refine GoK.s rfl (Y.load isAgg3 rfl (Cell.a (by rfl))) ?_
    rw [hmc]
    refine GoK.s rfl (Y.move rfl) ?_
    refine GoK.d2 rfl Kept.auto (Does.callE rfl call68 rfl (spc_wakeP hq hn16 hR) .auto) (by rintro _ _ ⟨⟨⟩, -, rfl, rfl⟩; exact Kept.auto) ?_
    rintro _ _ ⟨⟨⟩, -, rfl, rfl⟩
    refine GoK.d2 rfl Kept.auto (Does.bsl 45 rfl rfl (by kernel_rfl)) (by rintro _ _ ⟨b35, rfl, rfl⟩; exact Kept.auto) ?_
    rintro _ _ ⟨b35, rfl, rfl⟩
    refine GoK.d2 rfl Kept.auto (Does.app1 (enc := recE) (k := 6) (t.woke (s.disk.done k).2.1) rfl underlying32 underlying32 typeInfo45 rfl rfl rfl (by decide) rfl rfl rfl .auto rfl .auto (by have := hO.recs; omega) rfl) (by rintro _ _ ⟨v36, rfl, rfl⟩; exact Kept.auto) ?_
    rintro _ _ ⟨v36, rfl, rfl⟩
    refine GoK.s rfl (Y.nilCheck rfl) ?_
    refine GoK.s rfl (Y.fieldAddr0 30 32 underlying118 rfl sizeOf32 rfl) ?_
    refine GoK.d3 rfl (Does.stS sizeOf32 rfl rfl rfl) ?_
    rintro _ _ ⟨rfl, rfl⟩
    rw [spc_recs]
    refine GoK.nil (GoE.then_normal (GoC.seq (GoC.region ?_)))
    refine GoL.y rfl (Y.fieldAddrZ 3 underlying142 rfl sizeOf3 rfl) ?_
    refine GoL.y rfl (Y.load isAgg3 rfl (Cell.a (by rfl))) ?_
    rw [hmc]
    refine GoL.does rfl (Does.bsl 3 rfl rfl (by kernel_rfl)) ?_
    rintro _ _ ⟨b41, rfl, rfl⟩
    refine GoL.y rfl (Y.bld1 (fun v1 => [v1, .bool false, .bool false, .bool false]) rfl (by kernel_rfl)) ?_
    refine GoL.does rfl (Does.sta (vs := [.slice (some ⟨b41, 0, none⟩) 1 1, .bool false, .bool false, .bool false]) (by exact sizeOf36) rfl rfl rfl (by rfl)) ?_
    rintro _ _ ⟨rfl, rfl⟩
    refine GoL.to (A := sl intE 1 (.slice (some ⟨b41, 0, none⟩) 1 1) [(m : Int)]) (Bs := [arr b41 0 [.int .i64 (m : Int)]]) .auto sl_one ?_
    refine GoL.y rfl (Y.assign rfl) ?_
    refine GoL.nil (GoE.then_normal (GoC.ret ?_))
    refine GoE.to (A := thrsH ps (s.thr.set m (some (t.wakes (s.disk.done k).2.1)))) (Bs := [arr q 0 (thrC (t.wakes (s.disk.done k).2.1)), thrsH (ps.set m none) (s.thr.set m none)]) .auto (thrs_shut (List.getElem?_eq_some_iff.1 ht).1 hq) ?_
    rw [spc_done_ok hd1 (by rw [hm]; exact ht), hm, hmc, show (({ s with disk := (s.disk.done k).2.2.2 } : Spc).wake m (s.disk.done k).2.1) = ({ s with disk := (s.disk.done k).2.2.2 } : Spc).setT m (t.wakes (s.disk.done k).2.1) from by unfold Spc.wake; rw [spc_t (s := ({ s with disk := (s.disk.done k).2.2.2 } : Spc)) ht]]
    refine GoE.retCT rfl rfl isAgg36 (by exact sizeOf36) Cells.a rfl fun w s => ⟨(.slice (some ⟨b41, 0, none⟩) 1 1), ?_, trivial, finE .auto s⟩
    rfl

set_option maxRecDepth 20000 in
theorem core_Look {W : World} {b : Nat} {s : Spc} {n : Int} (hO : SpcOk s) : Fn Tryz.prog W 30 [ptr b, .int .i64 n] [spcH b s] Unit (fun _ => .tuple #[.agg (thdE ((s.at n).getD thrY)).toArray, .bool (s.at n).isSome]) (fun _ => True) (fun _ => [spcH b s]) := by
  refine Fn.intro (N := 41) func30 rfl ntmps30 rfl fun F => ?_
  show GoC _ _ _ _ _ _ [spcH b s, F]
  refine GoC.o1 (C := spcH b s) .auto rfl ?_
  rintro ps -
  refine GoC.o10 (C := spcX b ps s) .auto rfl ?_
  rintro fv sv pv bt vm bg vt bk bw vr -
  refine GoC.know (fun w st => st.fact .auto thrs_same) fun hs => ?_
  refine GoC.seq (GoC.region ?_)
  refine GoL.does rfl (Does.alloc rfl zeroValue59 rfl) ?_
  rintro _ _ ⟨b4, rfl, rfl⟩
  refine GoL.y rfl (Y.assign rfl) ?_
  refine GoL.nil (GoE.then_normal (GoC.seq (GoC.region ?_)))
  refine GoL.y rfl (Y.move rfl) ?_
  refine GoL.y rfl (Y.move rfl) ?_
  refine GoL.does rfl (Does.callE rfl call59 rfl core_at .auto) ?_
  rintro _ _ ⟨⟨⟩, -, rfl, rfl⟩
  refine GoL.y rfl (Y.assign rfl) ?_
  refine GoL.nil (GoE.then_normal (GoC.seq (GoC.seq (GoC.region ?_))))
  refine GoL.y rfl (Y.move rfl) ?_
  refine GoL.y rfl (Y.eqPtrNil underlying114 rfl rfl) ?_
  refine GoL.nil (GoE.then_normal ?_)
  refine GoC.cond rfl (fun h11 => ?_) (fun h11 => ?_)
  · have hap : atP ps n = none := by
      cases hh : atP ps n with
      | none => rfl
      | some p => rw [hh] at h11; cases h11
    refine GoC.seq (GoC.region ?_)
    refine GoL.y rfl (Y.bld0 ([(.int .u64 0), (.int .i64 0), (.int .i64 0), (.int .i64 0), (.int .u64 0), (.int .u64 0), (.int .u64 0), (.int .u64 0), (.int .u64 0), (.int .u64 0), (.int .u64 0), (.int .u64 0), (.int .u64 0)]) (by kernel_rfl)) ?_
    refine GoL.does rfl (Does.sta (by exact sizeOf59) rfl rfl rfl (by rfl)) ?_
    rintro _ _ ⟨rfl, rfl⟩
    refine GoL.y rfl (Y.assign rfl) ?_
    refine GoL.nil (GoE.then_normal (GoC.ret ?_))
    refine GoE.then_ret ?_
    rw [at_no hs hap hO.lt]
    refine GoE.retCT rfl rfl isAgg59 (by exact sizeOf59) Cells.a rfl fun w s => ⟨(), ?_, trivial, finE .auto s⟩
    rfl
  · obtain ⟨p, hap⟩ : ∃ p, atP ps n = some p := by
      cases hh : atP ps n with
      | none => rw [hh] at h11; cases h11
      | some p => exact ⟨p, rfl⟩
    rw [hap]
    obtain ⟨k, t, rfl, hk16, hp, ht, hat⟩ := at_yes hs hap hO.lt
    refine GoC.o10 (C := spcX b ps s) .auto rfl ?_
    rintro fv sv pv bt vm bg vt bk bw vr -
    refine GoC.fr .auto (thrs_out hp ht) ?_
    refine GoC.skip (GoE.then_normal (GoC.seq ?_))
    refine GoC.draw [arr p 0 (thrC t)] [1, 1, 1, 1, 1, 1, 1, 1, 1, 1, 1, 1, 1, 1, 1, 1, 1, 1, 1, 1, 1, 1, 1, 1, 1, 1, 1, 1, 3, 1] rfl (by kernel_rfl) ?_
    refine GoK.s rfl (Y.move rfl) ?_
    refine GoK.s rfl (Y.nilCheck rfl) ?_
    refine GoK.s rfl (Y.fieldAddr0 10 43 underlying133 rfl sizeOf43 rfl) ?_
    refine GoK.s rfl (Y.load isAgg43 rfl (Cell.a (by rfl))) ?_
    refine GoK.s rfl (Y.move rfl) ?_
    refine GoK.s rfl (Y.nilCheck rfl) ?_
    refine GoK.s rfl (Y.fieldAddr0 11 3 underlying133 rfl sizeOf3 rfl) ?_
    refine GoK.s rfl (Y.load isAgg3 rfl (Cell.a (by rfl))) ?_
    refine GoK.s rfl (Y.move rfl) ?_
    refine GoK.s rfl (Y.nilCheck rfl) ?_
    refine GoK.s rfl (Y.fieldAddrZ 131 underlying133 rfl sizeOf131 rfl) ?_
    refine GoK.s rfl (Y.fieldAddrZ 3 underlying131 rfl sizeOf3 rfl) ?_
    refine GoK.s rfl (Y.load isAgg3 rfl (Cell.a (by rfl))) ?_
    refine GoK.s rfl (Y.move rfl) ?_
    refine GoK.s rfl (Y.nilCheck rfl) ?_
    refine GoK.s rfl (Y.fieldAddrZ 131 underlying133 rfl sizeOf131 rfl) ?_
    refine GoK.s rfl (Y.fieldAddr0 1 3 underlying131 rfl sizeOf3 rfl) ?_
    refine GoK.s rfl (Y.load isAgg3 rfl (Cell.a (by rfl))) ?_
    refine GoK.s rfl (Y.move rfl) ?_
    refine GoK.s rfl (Y.nilCheck rfl) ?_
    refine GoK.s rfl (Y.fieldAddrZ 131 underlying133 rfl sizeOf131 rfl) ?_
    refine GoK.s rfl (Y.fieldAddr0 2 57 underlying131 rfl sizeOf57 rfl) ?_
    refine GoK.s rfl (Y.lda isAgg57 rfl (Cells.part0 (ds := [.int .u64 (t.regs.getD 0 0), .int .u64 (t.regs.getD 1 0), .int .u64 (t.regs.getD 2 0), .int .u64 (t.regs.getD 3 0), .int .u64 (t.regs.getD 4 0), .int .u64 (t.regs.getD 5 0), .int .u64 (t.regs.getD 6 0), .int .u64 (t.regs.getD 7 0)]) (Cells.a (cs := thrC t)) rfl) (by exact sizeOf57)) ?_
    refine GoK.s rfl (Y.move rfl) ?_
    refine GoK.s rfl (Y.nilCheck rfl) ?_
    refine GoK.s rfl (Y.fieldAddr0 12 43 underlying133 rfl sizeOf43 rfl) ?_
    refine GoK.s rfl (Y.load isAgg43 rfl (Cell.a (by rfl))) ?_
    refine GoK.s rfl (Y.bld6 (fun _ _ _ _ _ _ => thdE t) rfl rfl rfl rfl rfl rfl (by kernel_rfl)) ?_
    refine GoK.d3 rfl (Does.sta (by exact sizeOf59) rfl rfl rfl (by rfl)) ?_
    rintro _ _ ⟨rfl, rfl⟩
    refine GoK.s rfl (Y.assign rfl) ?_
    refine GoK.nil (GoE.then_normal (GoC.ret ?_))
    refine GoE.to (A := thrsH ps s.thr) (Bs := [arr p 0 (thrC t), thrsH (ps.set k none) (s.thr.set k none)]) .auto (thrs_keep hp ht) ?_
    rw [hat]
    refine GoE.retCT rfl rfl isAgg59 (by exact sizeOf59) Cells.a rfl fun w s => ⟨(), ?_, trivial, finE .auto s⟩
    rfl

end Go.SLYtpcjdohmjmeehaaGreat
namespace Go.SLYtpcjdohmjmeehaaGreat
open Go Go.RowKit Go.Proofs Go.Proofs.Tryz

set_option maxRecDepth 20000 in
theorem core_Tick {W : World} {b : Nat} {s : Spc} (hO : SpcOk s) : Fn Tryz.prog W 19 [ptr b] [spcH b s] Value (fun u => .agg (effE u s.tick.1).toArray) (fun _ => True) (fun u => [sl intE 1 u s.wheel.due, spcH b s.tick.2]) := by
  refine Fn.intro (N := 35) func19 rfl ntmps19 rfl fun F => ?_
  show GoC _ _ _ _ _ _ [spcH b s, F]
  refine GoC.o1 (C := spcH b s) .auto rfl ?_
  rintro ps -
  refine GoC.o10 (C := spcX b ps s) .auto rfl ?_
  rintro fv sv pv bt vm bg vt bk bw vr -
  refine GoC.know (fun w st => st.fact .auto thrs_same) fun hs => ?_
  have hdl := Nat.le_trans (due_len2 s.wheel) hO.wl
  have hrl := hO.recs
  refine GoC.seq (GoC.region ?_)
  refine GoL.does rfl (Does.alloc rfl zeroValue36 rfl) ?_
  rintro _ _ ⟨b2, rfl, rfl⟩
  refine GoL.nil (GoE.then_normal (GoC.seq (GoC.seq (GoC.region ?_))))
  refine GoL.y rfl (Y.move rfl) ?_
  refine GoL.y rfl (Y.eqPtrNil underlying27 rfl rfl) ?_
  refine GoL.nil (GoE.then_normal ?_)
  refine GoC.condF rfl ?_
  refine GoC.skip (GoE.then_normal (GoC.seq (GoC.region ?_)))
  refine GoL.y rfl (Y.move rfl) ?_
  refine GoL.y rfl (Y.nilCheck rfl) ?_
  refine GoL.y rfl (Y.fieldAddr0 29 112 underlying118 rfl sizeOf112 rfl) ?_
  refine GoL.y rfl (Y.load isAgg112 rfl (Cell.a (by rfl))) ?_
  refine GoL.does rfl (Does.callE rfl call69 rfl (wheel_Tick hO.wn hO.wl) .auto) ?_
  rintro _ _ ⟨u13, -, rfl, rfl⟩
  refine GoL.y rfl (Y.assign rfl) ?_
  refine GoL.nil (GoE.then_normal (GoC.seq (GoC.seq (GoC.region ?_))))
  refine GoL.y rfl (Y.move rfl) ?_
  refine GoL.y rfl (Y.lenRd underlying23 rfl Rd.s) ?_
  refine GoL.y rfl (Y.move rfl) ?_
  refine GoL.nil (GoE.then_normal (GoC.block ?_))
  refine GoC.loopK (X := Nat) [5, 16, 17, 18, 19, 20, 21, 22, 23, 24, 25, 26, 27, 28, 29, 30, 31, 32] (fun k => s.wheel.due.length - k) (fun k => k ≤ s.wheel.due.length) (fun k => [(16, some (.int .i64 (k : Int)))]) (fun k => [spcX b ps (wakeAll ({ s with wheel := s.wheel.tick.2 } : Spc) (s.wheel.due.take k)), sl intE 1 u13 s.wheel.due, arr b2 0 [.slice none 0 0, .bool false, .bool false, .bool false], F]) 0 ?_ ?_ ?_ ?_
  · exact Nat.zero_le _
  · exact ⟨rfl, trivial⟩
  · exact fun w s => Ent.kept .auto w s
  rintro k hk
  refine GoC.seq (GoC.region ?_)
  refine GoL.y rfl (Y.lss rfl rfl) ?_
  refine GoL.nil (GoE.then_normal (GoC.seq ?_))
  refine GoC.condD rfl (fun h17 => ?_) (fun h17 => ?_)
  · refine GoC.skip (GoE.then_normal (GoC.seq (GoC.block (GoC.seq (GoC.region ?_)))))
    refine GoL.y rfl (Y.ixRd _ underlying23 sizeOf3 rfl rfl Rd.s rfl (by first | omega | decide)) ?_
    obtain ⟨x, hx⟩ := at_some (show k < s.wheel.due.length by omega)
    have hdl2 : ∀ x ∈ s.wheel.due, 0 ≤ x ∧ LiveAt ps s x.toNat := fun x hx => by
      obtain ⟨y, hy, e⟩ := due_mem hx
      obtain ⟨h0, u, hu⟩ := hO.wlive y hy
      rw [e] at h0 hu
      exact ⟨h0, hO.live hs hu⟩
    obtain ⟨hx0, hxl⟩ := hdl2 x (List.mem_of_getElem? hx)
    obtain ⟨hn16, q, t, hq, ht, hR⟩ := live_wakeAll x.toNat (s.wheel.due.take k) ({ s with wheel := s.wheel.tick.2 } : Spc) (hxl.of rfl) (fun z hz => (hdl2 z (List.mem_of_mem_take hz)).2.of rfl)
    have hwr := wakeAll_recs ({ s with wheel := s.wheel.tick.2 } : Spc) (s.wheel.due.take k)
    rw [List.length_take] at hwr
    simp only at hwr
    have hxc : x = ((x.toNat : Nat) : Int) := by omega
    refine GoL.y rfl (Y.load isAgg3 rfl (Cell.rd0 Rd.s ‹_› (by rfl))) ?_
    refine GoL.y rfl (Y.assign rfl) ?_
    refine GoL.nil (GoE.then_normal ?_)
    refine GoC.o10 (C := spcX b ps (wakeAll ({ s with wheel := s.wheel.tick.2 } : Spc) (s.wheel.due.take k))) .auto rfl ?_
    rintro fv sv pv bt vm bg vt bk bw vr -
    refine GoC.fr .auto (thrs_out hq ht) ?_
    refine GoC.draw [arr b 0 (spcC fv sv pv (wakeAll ({ s with wheel := s.wheel.tick.2 } : Spc) (s.wheel.due.take k)).prg bt ps vm bg vt bk bw vr)] [0, 0, 0, 0, 0, 1, 1, 2, 2, 2, 1, 1, 3] rfl (by kernel_rfl) ?_
    rw [hxc]
    refine GoK.k rfl Kept.auto (Y.move rfl) ?_
    refine GoK.k rfl Kept.auto (Y.move rfl) ?_
    refine GoK.k rfl Kept.auto (Y.nilCheck rfl) ?_
    refine GoK.k rfl Kept.auto (Y.fieldAddr0 30 32 underlying118 rfl sizeOf32 rfl) ?_
    refine GoK.k rfl Kept.auto (Y.load isAgg32 rfl (Cell.a (by rfl))) ?_
    refine GoK.s rfl (Y.move rfl) ?_
    refine GoK.s rfl (Y.move rfl) ?_
    refine GoK.d2 rfl Kept.auto (Does.callE rfl call68 rfl (spc_wakeP (n := x.toNat) hq hn16 hR) .auto) (by rintro _ _ ⟨⟨⟩, -, rfl, rfl⟩; exact Kept.auto) ?_
    rintro _ _ ⟨⟨⟩, -, rfl, rfl⟩
    refine GoK.d2 rfl Kept.auto (Does.bsl 45 rfl rfl (by kernel_rfl)) (by rintro _ _ ⟨b28, rfl, rfl⟩; exact Kept.auto) ?_
    rintro _ _ ⟨b28, rfl, rfl⟩
    refine GoK.d2 rfl Kept.auto (Does.app1 (enc := recE) (k := 6) (t.woke 0) rfl underlying32 underlying32 typeInfo45 rfl rfl rfl (by decide) rfl rfl rfl .auto rfl .auto (by have e : (wakeAll ({ s with wheel := s.wheel.tick.2 } : Spc) (s.wheel.due.take k)).recs.length = s.recs.length + min k s.wheel.due.length := hwr; omega) rfl) (by rintro _ _ ⟨v29, rfl, rfl⟩; exact Kept.auto) ?_
    rintro _ _ ⟨v29, rfl, rfl⟩
    refine GoK.s rfl (Y.nilCheck rfl) ?_
    refine GoK.s rfl (Y.fieldAddr0 30 32 underlying118 rfl sizeOf32 rfl) ?_
    refine GoK.d3 rfl (Does.stS sizeOf32 rfl rfl rfl) ?_
    rintro _ _ ⟨rfl, rfl⟩
    rw [spc_recs]
    refine GoK.to (A := thrsH ps ((wakeAll ({ s with wheel := s.wheel.tick.2 } : Spc) (s.wheel.due.take k)).thr.set x.toNat (some (t.wakes 0)))) (Bs := [arr q 0 (thrC (t.wakes 0)), thrsH (ps.set x.toNat none) ((wakeAll ({ s with wheel := s.wheel.tick.2 } : Spc) (s.wheel.due.take k)).thr.set x.toNat none)]) .auto (thrs_shut (List.getElem?_eq_some_iff.1 ht).1 hq) ?_
    refine GoK.nil ?_
    refine GoE.block_normal (GoE.then_normal (GoC.region ?_))
    refine GoL.y rfl (Y.inc rfl rfl (by omega)) ?_
    refine GoL.y rfl (Y.move rfl) ?_
    refine GoL.nil ?_
    refine GoE.againK (k + 1) .auto rfl ?_ ?_ ?_ ?_
    · omega
    · show k + 1 ≤ _; omega
    · exact ⟨rfl, trivial⟩
    · rw [take_snoc hx, wakeAll_snoc, show (wakeAll ({ s with wheel := s.wheel.tick.2 } : Spc) (s.wheel.due.take k)).wake x.toNat 0 = (wakeAll ({ s with wheel := s.wheel.tick.2 } : Spc) (s.wheel.due.take k)).setT x.toNat (t.wakes 0) from by unfold Spc.wake; rw [spc_t ht], spc_t ht]; exact fun w s => Ent.kept .auto w s
  · refine GoC.exit ?_
    refine GoE.then_exit (GoE.then_exit (GoE.block_here (GoE.then_normal ?_)))
    refine GoC.seq (GoC.region ?_)
    refine GoL.know (fun w st => (Rd.s (v := u13) (enc := intE) (k := 1) (xs := s.wheel.due) w st).1) fun hr => ?_
    obtain ⟨a13, c13, rfl, -, -⟩ := hr
    refine GoL.y rfl (Y.move rfl) ?_
    refine GoL.y rfl (Y.bld1 (fun v1 => [v1, (.bool false), (.bool false), (.bool false)]) rfl (by kernel_rfl)) ?_
    refine GoL.does rfl (Does.sta (vs := [.slice a13 s.wheel.due.length c13, .bool false, .bool false, .bool false]) (by exact sizeOf36) rfl rfl rfl (by rfl)) ?_
    rintro _ _ ⟨rfl, rfl⟩
    refine GoL.nil (GoE.then_normal (GoC.ret ?_))
    have hkk : k = s.wheel.due.length := by omega
    rw [hkk, List.take_length]
    refine GoE.retC rfl rfl isAgg36 (by exact sizeOf36) Cells.a fun w s => ⟨_, ?_, trivial, finE .auto s⟩
    rfl

set_option maxRecDepth 20000 in
theorem core_Records {W : World} {b : Nat} {s : Spc} (hl : s.recs.length ≤ 1000000000) : Fn Tryz.prog W 20 [ptr b] [spcH b s] Value (fun u => u) (fun _ => True) (fun u => [sl recE 6 u s.recs, spcH b s]) := by
  refine Fn.intro (N := 11) func20 rfl ntmps20 rfl fun F => ?_
  show GoC _ _ _ _ _ _ [spcH b s, F]
  refine GoC.o1 (C := spcH b s) .auto rfl ?_
  rintro ps -
  refine GoC.o10 (C := spcX b ps s) .auto rfl ?_
  rintro fv sv pv bt vm bg vt bk bw vr -
  refine GoC.seq (GoC.region ?_)
  refine GoL.y rfl (Y.assign rfl) ?_
  refine GoL.nil (GoE.then_normal (GoC.seq (GoC.seq (GoC.region ?_))))
  refine GoL.y rfl (Y.move rfl) ?_
  refine GoL.y rfl (Y.eqPtrNil underlying27 rfl rfl) ?_
  refine GoL.nil (GoE.then_normal ?_)
  refine GoC.condF rfl ?_
  refine GoC.skip (GoE.then_normal (GoC.seq (GoC.region ?_)))
  refine GoL.y rfl (Y.move rfl) ?_
  refine GoL.y rfl (Y.nilCheck rfl) ?_
  refine GoL.y rfl (Y.fieldAddr0 30 32 underlying118 rfl sizeOf32 rfl) ?_
  refine GoL.y rfl (Y.load isAgg32 rfl (Cell.a (by rfl))) ?_
  refine GoL.does rfl (Does.callE rfl call71 rfl (CloneR (A := sl recE 6 vr s.recs) (Rd.sl .here) hl) .auto) ?_
  rintro _ _ ⟨u9, -, rfl, rfl⟩
  refine GoL.does rfl (Does.callE rfl call70 rfl ClipR .auto) ?_
  rintro _ _ ⟨u10, -, rfl, rfl⟩
  refine GoL.y rfl (Y.assign rfl) ?_
  refine GoL.nil (GoE.then_normal (GoC.ret ?_))
  refine GoE.ret1 rfl rfl fun w s => ⟨u10, ?_, trivial, finE .auto s⟩
  rfl

end Go.SLYtpcjdohmjmeehaaGreat
namespace Go.SLYtpcjdohmjmeehaaGreat
open Go Go.RowKit Go.Proofs Go.Proofs.Tryz

set_option maxRecDepth 20000 in
theorem ref_Ints {W : World} {A : HProp} {v u : Value} {xs ys : List Int} (hv : Rd W [A] intE 1 v xs) (hu : Rd W [A] intE 1 u ys) (hl : xs.length ≤ 1000000000) : Fn Tryz.prog W 23 [v, u] [A] Unit (fun _ => .bool (decide (xs = ys))) (fun _ => True) (fun _ => [A]) := by
  refine Fn.intro (N := 26) func23 rfl ntmps23 rfl fun F => ?_
  haveI hRI : ∀ (H : List HProp) [HasH H A], ReadsC W H v intE 1 xs := fun H h => ⟨hv.at h.has⟩
  haveI hRJ : ∀ (H : List HProp) [HasH H A], ReadsC W H u intE 1 ys := fun H h => ⟨hu.at h.has⟩
  show GoC _ _ _ _ _ _ [A, F]
  refine GoC.seq (GoC.region ?_)
  refine GoL.y rfl (Y.assign rfl) ?_
  refine GoL.nil (GoE.then_normal (GoC.seq (GoC.seq (GoC.region ?_))))
  refine GoL.y rfl (Y.move rfl) ?_
  refine GoL.y rfl (Y.lenRd underlying23 rfl Rd.s) ?_
  refine GoL.y rfl (Y.move rfl) ?_
  refine GoL.y rfl (Y.lenRd underlying23 rfl Rd.s) ?_
  refine GoL.y rfl (Y.neq rfl rfl) ?_
  refine GoL.nil (GoE.then_normal ?_)
  refine GoC.condD rfl (fun h10 => ?_) (fun h10 => ?_)
  · refine GoC.seq (GoC.region ?_)
    refine GoL.y rfl (Y.assign rfl) ?_
    refine GoL.nil (GoE.then_normal (GoC.ret ?_))
    refine GoE.then_ret ?_
    refine GoE.ret1 rfl rfl fun w s => ⟨(), ?_, trivial, finE .auto s⟩
    rw [decide_eq_false (fun e => h10 (by rw [e]))]
  · refine GoC.skip (GoE.then_normal (GoC.seq (GoC.seq (GoC.region ?_))))
    refine GoL.y rfl (Y.assign rfl) ?_
    refine GoL.nil (GoE.then_normal (GoC.block ?_))
    refine GoC.loopK (X := Nat) [4, 5, 11, 12, 13, 14, 15, 16, 17, 18, 19, 20, 21, 22, 23, 24, 25] (fun k => xs.length - k) (fun k => k ≤ xs.length ∧ xs.take k = ys.take k) (fun k => [(5, some (.int .i64 (k : Int)))]) (fun k => [A, F]) 0 ?_ ?_ ?_ ?_
    · exact ⟨Nat.zero_le _, rfl⟩
    · exact ⟨rfl, trivial⟩
    · exact fun w s => Ent.kept .auto w s
    rintro k ⟨hk, hn⟩
    refine GoC.seq (GoC.seq (GoC.region ?_))
    refine GoL.y rfl (Y.move rfl) ?_
    refine GoL.y rfl (Y.move rfl) ?_
    refine GoL.y rfl (Y.lenRd underlying23 rfl Rd.s) ?_
    refine GoL.y rfl (Y.lss rfl rfl) ?_
    refine GoL.nil (GoE.then_normal ?_)
    refine GoC.condD rfl (fun h14 => ?_) (fun h14 => ?_)
    · refine GoC.skip (GoE.then_normal (GoC.seq (GoC.block (GoC.seq ?_))))
      refine GoC.draw [] [1, 1, 1, 1, 1, 1, 1, 1, 1] rfl (by kernel_rfl) ?_
      obtain ⟨x, hx⟩ := at_some (show k < xs.length by omega)
      obtain ⟨y, hy⟩ := at_some (show k < ys.length by omega)
      refine GoK.s rfl (Y.move rfl) ?_
      refine GoK.s rfl (Y.move rfl) ?_
      refine GoK.s rfl (Y.ixRd _ underlying23 sizeOf3 rfl rfl Rd.s rfl (by first | omega | decide)) ?_
      refine GoK.s rfl (Y.load isAgg3 rfl (Cell.rd0 Rd.s hx rfl)) ?_
      refine GoK.s rfl (Y.move rfl) ?_
      refine GoK.s rfl (Y.move rfl) ?_
      refine GoK.s rfl (Y.ixRd _ underlying23 sizeOf3 rfl rfl Rd.s rfl (by first | omega | decide)) ?_
      refine GoK.s rfl (Y.load isAgg3 rfl (Cell.rd0 Rd.s hy rfl)) ?_
      refine GoK.s rfl (Y.neq rfl rfl) ?_
      refine GoK.nil (GoE.then_normal ?_)
      refine GoC.condD rfl (fun h25 => ?_) (fun h25 => ?_)
      · refine GoC.seq (GoC.region ?_)
        refine GoL.y rfl (Y.assign rfl) ?_
        refine GoL.nil (GoE.then_normal (GoC.ret ?_))
        refine GoE.block_ret (GoE.then_ret (GoE.then_ret (GoE.block_ret (GoE.then_ret ?_))))
        refine GoE.ret1 rfl rfl fun w s => ⟨(), ?_, trivial, finE .auto s⟩
        rw [decide_eq_false (fun e => h25 (by rw [e] at hx; exact Option.some.inj (hx.symm.trans hy)))]
      · refine GoC.skip ?_
        refine GoE.block_normal (GoE.then_normal (GoC.region ?_))
        refine GoL.y rfl (Y.move rfl) ?_
        refine GoL.y rfl (Y.inc rfl rfl (by omega)) ?_
        refine GoL.y rfl (Y.assign rfl) ?_
        refine GoL.nil ?_
        refine GoE.againK (k + 1) .auto rfl ?_ ?_ ?_ ?_
        · first | omega | (dsimp only; omega)
        · exact ⟨by omega, by rw [take_snoc hx, take_snoc hy, hn, Decidable.of_not_not h25]⟩
        · exact ⟨rfl, trivial⟩
        · exact fun w s => Ent.kept .auto w s
    · refine GoC.exit ?_
      refine GoE.then_exit (GoE.then_exit (GoE.block_here (GoE.then_normal ?_)))
      refine GoC.seq (GoC.region ?_)
      refine GoL.y rfl (Y.assign rfl) ?_
      refine GoL.nil (GoE.then_normal (GoC.ret ?_))
      obtain rfl : k = xs.length := by omega
      rw [List.take_length, List.take_of_length_le (by omega)] at hn
      refine GoE.ret1 rfl rfl fun w s => ⟨(), ?_, trivial, finE .auto s⟩
      rw [decide_eq_true hn]

set_option maxRecDepth 20000 in
theorem law10_two {W : World} {x y : Nat} : Fn Tryz.prog W 58 [sl3 x 3, sl3 y 2] [] (Nat × Nat × Nat) (fun z => .agg (prgE (pv10 x y z.1 z.2.1 z.2.2)).toArray) (fun _ => True) (fun z => [arr z.1 0 [sl3 x 3, sl3 y 2], arr z.2.1 0 [.int .i64 0], arr z.2.2 0 [.int .i64 1]]) := by
  refine Fn.intro (N := 11) func58 rfl ntmps58 rfl fun F => ?_
  show GoC _ _ _ _ _ _ [F]
  refine GoC.seq (GoC.region ?_)
  refine GoL.does rfl (Does.alloc rfl zeroValue25 rfl) ?_
  rintro _ _ ⟨b4, rfl, rfl⟩
  refine GoL.nil (GoE.then_normal (GoC.seq (GoC.region ?_)))
  refine GoL.y rfl (Y.move rfl) ?_
  refine GoL.y rfl (Y.move rfl) ?_
  refine GoL.does rfl (Does.bsl 120 rfl rfl (by kernel_rfl)) ?_
  rintro _ _ ⟨b7, rfl, rfl⟩
  refine GoL.does rfl (Does.bsl 3 rfl rfl (by kernel_rfl)) ?_
  rintro _ _ ⟨b8, rfl, rfl⟩
  refine GoL.does rfl (Does.bsl 3 rfl rfl (by kernel_rfl)) ?_
  rintro _ _ ⟨b9, rfl, rfl⟩
  refine GoL.y rfl (Y.bld7 (fun _ _ _ _ _ _ _ => prgE (pv10 x y b7 b8 b9)) rfl rfl rfl rfl rfl rfl rfl (by kernel_rfl)) ?_
  refine GoL.does rfl (Does.sta (by exact sizeOf25) rfl rfl rfl (by rfl)) ?_
  rintro _ _ ⟨rfl, rfl⟩
  refine GoL.nil (GoE.then_normal (GoC.ret ?_))
  refine GoE.retC rfl rfl isAgg25 (by exact sizeOf25) Cells.a fun w s => ⟨(b7, b8, b9), ?_, trivial, finE .auto s⟩
  rfl

set_option maxRecDepth 20000 in
theorem law10_awake {W : World}  : Fn Tryz.prog W 16 [] [] Unit (fun _ => .bool true) (fun _ => True) (fun _ => []) := by
  refine Fn.intro (N := 104) func16 rfl ntmps16 rfl fun F => ?_
  show GoC _ _ _ _ _ _ [F]
  refine GoC.seq (GoC.region ?_)
  refine GoL.y rfl (Y.assign rfl) ?_
  refine GoL.nil (GoE.then_normal (GoC.seq (GoC.region ?_)))
  refine GoL.y rfl (Y.bld3 (fun v1 v2 v3 => [v1, v2, (.int .i64 0), (.int .i64 0), v3]) rfl rfl rfl (by kernel_rfl)) ?_
  refine GoL.y rfl (Y.bld3 (fun v1 v2 v3 => [v1, v2, v3, (.int .i64 0), (.int .u64 0)]) rfl rfl rfl (by kernel_rfl)) ?_
  refine GoL.y rfl (Y.bld2 (fun v1 v2 => [v1, v2, (.int .i64 0), (.int .i64 0), (.int .u64 0)]) rfl rfl (by kernel_rfl)) ?_
  refine GoL.does rfl (Does.bsl 123 rfl rfl (by kernel_rfl)) ?_
  rintro _ _ ⟨b16, rfl, rfl⟩
  refine GoL.y rfl (Y.bld3 (fun v1 v2 v3 => [v1, v2, (.int .i64 0), (.int .i64 0), v3]) rfl rfl rfl (by kernel_rfl)) ?_
  refine GoL.y rfl (Y.bld2 (fun v1 v2 => [v1, v2, (.int .i64 0), (.int .i64 0), (.int .u64 0)]) rfl rfl (by kernel_rfl)) ?_
  refine GoL.does rfl (Does.bsl 123 rfl rfl (by kernel_rfl)) ?_
  rintro _ _ ⟨b19, rfl, rfl⟩
  refine GoL.does rfl (Does.callE rfl call58 rfl (law10_two (x := b16) (y := b19)) .auto) ?_
  rintro _ _ ⟨⟨z1, z2, z3⟩, -, rfl, rfl⟩
  refine GoL.does rfl (Does.callE rfl call15 rfl (core_New (A := A10 b16 b19 z1 z2 z3) (v := pv10 b16 b19 z1 z2 z3) pv10_rd ⟨by show 2 ≤ _; decide, by show 1 ≤ _; decide, by show 1 ≤ _; decide⟩) .auto) ?_
  rintro _ _ ⟨o, ho, rfl, rfl⟩
  rw [show (pv10 b16 b19 z1 z2 z3).p = P10 from rfl, chk10] at ho ⊢
  obtain ⟨kb, rfl⟩ := Option.isSome_iff_exists.1 ho
  refine GoL.fr (A := optH (fun b => spcH b (Spc.new P10)) (some kb)) (Bs := [spcH kb s10a]) .auto opt_some ?_
  refine GoL.y rfl (Y.move rfl) ?_
  refine GoL.y rfl (Y.extract rfl rfl) ?_
  refine GoL.y rfl (Y.extract rfl rfl) ?_
  refine GoL.y rfl (Y.assign rfl) ?_
  refine GoL.y rfl (Y.assign rfl) ?_
  refine GoL.nil (GoE.then_normal (GoC.seq (GoC.seq (GoC.region ?_))))
  refine GoL.y rfl (Y.move rfl) ?_
  refine GoL.y rfl (Y.neq rfl rfl) ?_
  refine GoL.y rfl (Y.move rfl) ?_
  refine GoL.yg rfl rfl rfl (Y.move rfl) ?_
  refine GoL.yg rfl rfl rfl (Y.eqPtrNil underlying27 rfl rfl) ?_
  refine GoL.y rfl (Y.pickF rfl rfl) ?_
  refine GoL.nil (GoE.then_normal ?_)
  refine GoC.cond rfl (fun h29 => ?_) (fun h29 => ?_)
  · cases h29
  · refine GoC.skip (GoE.then_normal (GoC.seq (GoC.region ?_)))
    refine GoL.y rfl (Y.move rfl) ?_
    refine GoL.does rfl (Does.callE rfl call17 rfl (core_Run (s := s10a) (ok10a.spc (by decide))) .auto) ?_
    rintro _ _ ⟨u32, -, rfl, rfl⟩
    rw [f10a, show (s10a.run 0 0).2.2 = s10b from rfl]
    refine GoL.y rfl (Y.move rfl) ?_
    refine GoL.y rfl (Y.extract rfl rfl) ?_
    refine GoL.y rfl (Y.extract rfl rfl) ?_
    refine GoL.does rfl (Does.alloc rfl zeroValue36 rfl) ?_
    rintro _ _ ⟨b3, rfl, rfl⟩
    refine GoL.does rfl (Does.staS (vs := [.bool false, .bool false, .bool false]) (by exact sizeOf36) rfl rfl rfl rfl) ?_
    rintro _ _ ⟨rfl, rfl⟩
    refine GoL.y rfl (Y.assign rfl) ?_
    refine GoL.nil (GoE.then_normal (GoC.seq (GoC.region ?_)))
    refine GoL.y rfl (Y.move rfl) ?_
    refine GoL.does rfl (Does.callE rfl call17 rfl (core_Run (s := s10b) (ok10b.spc (by decide))) .auto) ?_
    rintro _ _ ⟨u37, -, rfl, rfl⟩
    rw [f10b, show (s10b.run 0 0).2.2 = s10c from rfl]
    refine GoL.y rfl (Y.move rfl) ?_
    refine GoL.y rfl (Y.extract rfl rfl) ?_
    refine GoL.y rfl (Y.extract rfl rfl) ?_
    refine GoL.does rfl (Does.alloc rfl zeroValue36 rfl) ?_
    rintro _ _ ⟨b5, rfl, rfl⟩
    refine GoL.does rfl (Does.staS (vs := [.bool true, .bool false, .bool false]) (by exact sizeOf36) rfl rfl rfl rfl) ?_
    rintro _ _ ⟨rfl, rfl⟩
    refine GoL.y rfl (Y.assign rfl) ?_
    refine GoL.nil (GoE.then_normal (GoC.seq (GoC.region ?_)))
    refine GoL.y rfl (Y.move rfl) ?_
    refine GoL.does rfl (Does.callE rfl call17 rfl (core_Run (s := s10c) (ok10c.spc (by decide))) .auto) ?_
    rintro _ _ ⟨u41, -, rfl, rfl⟩
    rw [show (s10c.run 1 0).2.2 = s10d from rfl]
    refine GoL.nil (GoE.then_normal (GoC.seq (GoC.region ?_)))
    refine GoL.y rfl (Y.move rfl) ?_
    refine GoL.does rfl (Does.callE rfl call17 rfl (core_Run (s := s10d) (ok10d.spc (by decide))) .auto) ?_
    rintro _ _ ⟨u44, -, rfl, rfl⟩
    rw [f10c, show (s10d.run 1 0).2.2 = s10e from rfl]
    refine GoL.y rfl (Y.move rfl) ?_
    refine GoL.y rfl (Y.extract rfl rfl) ?_
    refine GoL.y rfl (Y.extract rfl rfl) ?_
    refine GoL.does rfl (Does.alloc rfl zeroValue36 rfl) ?_
    rintro _ _ ⟨b7, rfl, rfl⟩
    refine GoL.does rfl (Does.staS (vs := [.bool false, .bool true, .bool false]) (by exact sizeOf36) rfl rfl rfl rfl) ?_
    rintro _ _ ⟨rfl, rfl⟩
    refine GoL.y rfl (Y.assign rfl) ?_
    refine GoL.nil (GoE.then_normal (GoC.seq (GoC.region ?_)))
    refine GoL.y rfl (Y.move rfl) ?_
    refine GoL.does rfl (Does.callE rfl call30 rfl (core_Look (s := s10e) (ok10e.spc (by decide))) .auto) ?_
    rintro _ _ ⟨⟨⟩, -, rfl, rfl⟩
    rw [t10]
    refine GoL.y rfl (Y.move rfl) ?_
    refine GoL.y rfl (Y.extract rfl rfl) ?_
    refine GoL.y rfl (Y.extract rfl rfl) ?_
    refine GoL.does rfl (Does.alloc rfl zeroValue59 rfl) ?_
    rintro _ _ ⟨b9, rfl, rfl⟩
    refine GoL.does rfl (Does.sta (by exact sizeOf59) rfl rfl rfl (by rfl)) ?_
    rintro _ _ ⟨rfl, rfl⟩
    refine GoL.y rfl (Y.assign rfl) ?_
    refine GoL.nil (GoE.then_normal (GoC.seq (GoC.region ?_)))
    refine GoL.y rfl (Y.move rfl) ?_
    refine GoL.does rfl (Does.callE rfl call20 rfl (core_Records (s := s10e) (by rw [r10]; decide)) .auto) ?_
    rintro _ _ ⟨u53, -, rfl, rfl⟩
    rw [r10]
    refine GoL.y rfl (Y.assign rfl) ?_
    refine GoL.nil (GoE.then_normal (GoC.seq (GoC.region ?_)))
    refine GoL.y rfl (Y.fieldAddrZ 23 underlying36 rfl sizeOf23 rfl) ?_
    refine GoL.y rfl (Y.load isAgg23 rfl (Cell.a (by rfl))) ?_
    refine GoL.does rfl (Does.bsl 3 rfl rfl (by kernel_rfl)) ?_
    rintro _ _ ⟨b56, rfl, rfl⟩
    refine GoL.does rfl (Does.callE rfl call23 rfl (ref_Ints (A := seps [sl intE 1 u32 [1], arr b56 0 [.int .i64 1]]) (xs := [1]) (ys := [1]) (Rd.grp (Rd.sl .here)) (Rd.grp (Rd.lit (.there .here) rfl (fun _ _ => rfl) rfl)) (by decide)) .auto) ?_
    rintro _ _ ⟨⟨⟩, -, rfl, rfl⟩
    refine GoL.y rfl (Y.move rfl) ?_
    refine GoL.yg rfl rfl rfl (Y.fieldAddr0 1 4 underlying36 rfl sizeOf4 rfl) ?_
    refine GoL.yg rfl rfl rfl (Y.load isAgg4 rfl (Cell.a (by rfl))) ?_
    refine GoL.y rfl (Y.pickT rfl rfl) ?_
    refine GoL.y rfl (Y.move rfl) ?_
    refine GoL.yg rfl rfl rfl (Y.fieldAddr0 2 4 underlying36 rfl sizeOf4 rfl) ?_
    refine GoL.yg rfl rfl rfl (Y.load isAgg4 rfl (Cell.a (by rfl))) ?_
    refine GoL.y rfl (Y.pickT rfl rfl) ?_
    refine GoL.y rfl (Y.move rfl) ?_
    refine GoL.yg rfl rfl rfl (Y.fieldAddrZ 23 underlying36 rfl sizeOf23 rfl) ?_
    refine GoL.yg rfl rfl rfl (Y.load isAgg23 rfl (Cell.a (by rfl))) ?_
    refine GoL.dg rfl rfl rfl (Does.bsl 3 rfl rfl (by kernel_rfl)) ?_
    rintro _ _ ⟨b69, rfl, rfl⟩
    refine GoL.dg rfl rfl rfl (Does.callE rfl call23 rfl (ref_Ints (A := seps [sl intE 1 u44 [0], arr b69 0 [.int .i64 0]]) (xs := [0]) (ys := [0]) (Rd.grp (Rd.sl .here)) (Rd.grp (Rd.lit (.there .here) rfl (fun _ _ => rfl) rfl)) (by decide)) .auto) ?_
    rintro _ _ ⟨⟨⟩, -, rfl, rfl⟩
    refine GoL.y rfl (Y.pickT rfl rfl) ?_
    refine GoL.y rfl (Y.move rfl) ?_
    refine GoL.yg rfl rfl rfl (Y.move rfl) ?_
    refine GoL.y rfl (Y.pickT rfl rfl) ?_
    refine GoL.y rfl (Y.move rfl) ?_
    refine GoL.yg rfl rfl rfl (Y.fieldAddr0 4 57 underlying59 rfl sizeOf57 rfl) ?_
    refine GoL.yg rfl rfl rfl (Y.ixArr _ underlying57 sizeOf43 rfl rfl rfl (by first | omega | decide)) ?_
    refine GoL.yg rfl rfl rfl (Y.load isAgg43 rfl (Cell.a (by rfl))) ?_
    refine GoL.yg rfl rfl rfl (Y.eql rfl rfl) ?_
    refine GoL.y rfl (Y.pickT rfl rfl) ?_
    refine GoL.y rfl (Y.move rfl) ?_
    refine GoL.yg rfl rfl rfl (Y.fieldAddr0 1 3 underlying59 rfl sizeOf3 rfl) ?_
    refine GoL.yg rfl rfl rfl (Y.load isAgg3 rfl (Cell.a (by rfl))) ?_
    refine GoL.yg rfl rfl rfl (Y.eql rfl rfl) ?_
    refine GoL.y rfl (Y.pickT rfl rfl) ?_
    refine GoL.y rfl (Y.move rfl) ?_
    refine GoL.yg rfl rfl rfl (Y.move rfl) ?_
    refine GoL.yg rfl rfl rfl (Y.lenRd underlying32 rfl Rd.s) ?_
    refine GoL.yg rfl rfl rfl (Y.eql rfl rfl) ?_
    refine GoL.y rfl (Y.pickT rfl rfl) ?_
    refine GoL.y rfl (Y.move rfl) ?_
    refine GoL.yg rfl rfl rfl (Y.move rfl) ?_
    refine GoL.yg rfl rfl rfl (Y.ixRd _ underlying32 sizeOf45 rfl rfl Rd.s rfl (by first | omega | decide)) ?_
    refine GoL.yg rfl rfl rfl (Y.fieldAddr 3 43 underlying45 rfl sizeOf43 rfl) ?_
    refine GoL.yg rfl rfl rfl (Y.load isAgg43 rfl (Cell.rd Rd.s (show R10[3]? = some ⟨65537, 21, 0, 9, 0, true⟩ from rfl) (by rfl))) ?_
    refine GoL.yg rfl rfl rfl (Y.eql rfl rfl) ?_
    refine GoL.y rfl (Y.pickT rfl rfl) ?_
    refine GoL.y rfl (Y.move rfl) ?_
    refine GoL.yg rfl rfl rfl (Y.move rfl) ?_
    refine GoL.yg rfl rfl rfl (Y.ixRd _ underlying32 sizeOf45 rfl rfl Rd.s rfl (by first | omega | decide)) ?_
    refine GoL.yg rfl rfl rfl (Y.fieldAddr 5 4 underlying45 rfl sizeOf4 rfl) ?_
    refine GoL.yg rfl rfl rfl (Y.load isAgg4 rfl (Cell.rd Rd.s (show R10[3]? = some ⟨65537, 21, 0, 9, 0, true⟩ from rfl) (by rfl))) ?_
    refine GoL.y rfl (Y.pickT rfl rfl) ?_
    refine GoL.y rfl (Y.assign rfl) ?_
    refine GoL.nil (GoE.then_normal (GoC.ret ?_))
    refine GoE.ret1 rfl rfl fun w s => ⟨(), ?_, trivial, finE .auto s⟩
    rfl

end Go.SLYtpcjdohmjmeehaaGreat
namespace Go.SLYtpcjdohmjmeehaaGreat
open Go Go.RowKit Go.Proofs Go.Proofs.Tryz

set_option maxRecDepth 20000 in
theorem ref_In {W : World} {A : HProp} {v : Value} {xs : List Int} {n : Int} (hv : Rd W [A] intE 1 v xs) (hl : xs.length ≤ 1000000000) : Fn Tryz.prog W 24 [v, .int .i64 n] [A] Unit (fun _ => .bool (decide (n ∈ xs))) (fun _ => True) (fun _ => [A]) := by
  refine Fn.intro (N := 18) func24 rfl ntmps24 rfl fun F => ?_
  haveI hRI : ∀ (H : List HProp) [HasH H A], ReadsC W H v intE 1 xs := fun H h => ⟨hv.at h.has⟩
  show GoC _ _ _ _ _ _ [A, F]
  refine GoC.seq (GoC.region ?_)
  refine GoL.y rfl (Y.assign rfl) ?_
  refine GoL.nil (GoE.then_normal (GoC.seq (GoC.seq (GoC.region ?_))))
  refine GoL.y rfl (Y.assign rfl) ?_
  refine GoL.nil (GoE.then_normal (GoC.block ?_))
  refine GoC.loopK (X := Nat) [4, 5, 6, 7, 8, 9, 10, 11, 12, 13, 14, 15, 16, 17] (fun k => xs.length - k) (fun k => k ≤ xs.length ∧ n ∉ xs.take k) (fun k => [(5, some (.int .i64 (k : Int)))]) (fun k => [A, F]) 0 ?_ ?_ ?_ ?_
  · exact ⟨Nat.zero_le _, by simp⟩
  · exact ⟨rfl, trivial⟩
  · exact fun w s => Ent.kept .auto w s
  rintro k ⟨hk, hn⟩
  refine GoC.seq (GoC.seq (GoC.region ?_))
  refine GoL.y rfl (Y.move rfl) ?_
  refine GoL.y rfl (Y.move rfl) ?_
  refine GoL.y rfl (Y.lenRd underlying23 rfl Rd.s) ?_
  refine GoL.y rfl (Y.lss rfl rfl) ?_
  refine GoL.nil (GoE.then_normal ?_)
  refine GoC.condD rfl (fun h9 => ?_) (fun h9 => ?_)
  · refine GoC.skip (GoE.then_normal (GoC.seq (GoC.block (GoC.seq (GoC.region ?_)))))
    obtain ⟨x, hx⟩ := at_some (show k < xs.length by omega)
    refine GoL.y rfl (Y.move rfl) ?_
    refine GoL.y rfl (Y.move rfl) ?_
    refine GoL.y rfl (Y.ixRd _ underlying23 sizeOf3 rfl rfl Rd.s rfl (by first | omega | decide)) ?_
    refine GoL.y rfl (Y.load isAgg3 rfl (Cell.rd0 Rd.s hx rfl)) ?_
    refine GoL.y rfl (Y.move rfl) ?_
    refine GoL.y rfl (Y.eql rfl rfl) ?_
    refine GoL.nil (GoE.then_normal ?_)
    refine GoC.condD rfl (fun h17 => ?_) (fun h17 => ?_)
    · refine GoC.seq (GoC.region ?_)
      refine GoL.y rfl (Y.assign rfl) ?_
      refine GoL.nil (GoE.then_normal (GoC.ret ?_))
      refine GoE.block_ret (GoE.then_ret (GoE.then_ret (GoE.block_ret (GoE.then_ret ?_))))
      refine GoE.ret1 rfl rfl fun w s => ⟨(), ?_, trivial, finE .auto s⟩
      rw [decide_eq_true (by rw [← h17]; exact List.mem_of_getElem? hx)]
    · refine GoC.skip ?_
      refine GoE.block_normal (GoE.then_normal (GoC.region ?_))
      refine GoL.y rfl (Y.move rfl) ?_
      refine GoL.y rfl (Y.inc rfl rfl (by omega)) ?_
      refine GoL.y rfl (Y.assign rfl) ?_
      refine GoL.nil ?_
      refine GoE.againK (k + 1) .auto rfl ?_ ?_ ?_ ?_
      · first | omega | (dsimp only; omega)
      · exact ⟨by omega, by rw [take_snoc hx]; simp only [List.mem_append, List.mem_singleton, not_or]; exact ⟨hn, fun e => h17 e.symm⟩⟩
      · exact ⟨rfl, trivial⟩
      · exact fun w s => Ent.kept .auto w s
  · refine GoC.exit ?_
    refine GoE.then_exit (GoE.then_exit (GoE.block_here (GoE.then_normal ?_)))
    refine GoC.seq (GoC.region ?_)
    refine GoL.y rfl (Y.assign rfl) ?_
    refine GoL.nil (GoE.then_normal (GoC.ret ?_))
    obtain rfl : k = xs.length := by omega
    rw [List.take_length] at hn
    refine GoE.ret1 rfl rfl fun w s => ⟨(), ?_, trivial, finE .auto s⟩
    rw [decide_eq_false hn]

end Go.SLYtpcjdohmjmeehaaGreat
namespace Go.SLYtpcjdohmjmeehaaGreat
open Go Go.RowKit Go.Proofs Go.Proofs.Tryz

set_option maxRecDepth 20000 in
theorem law10_Wakes {W : World} {A : HProp} {v : PrgV} {u : Value} {acts : List Wha} (hp : PrgRd W [A] v) (hl : v.fs.length ≤ 1000000000 ∧ v.sems.length ≤ 1000000000 ∧ v.pipes.length ≤ 1000000000) (hw : ∀ f ∈ v.p.funcs, ∀ i ∈ f, W64 i.n) (hr : Rd W [A] whaE 3 u acts) (hal : acts.length ≤ 1000000000) : Fn Tryz.prog W 4 [.agg (prgE v).toArray, u] [A] Unit (fun _ => .bool true) (fun _ => True) (fun _ => [A]) := by
  refine Fn.intro (N := 130) func4 rfl ntmps4 rfl fun F => ?_
  haveI hRI : ∀ (H : List HProp) [HasH H A], ReadsC W H u whaE 3 acts := fun H h => ⟨hr.at h.has⟩
  show GoC _ _ _ _ _ _ [A, F]
  refine GoC.seq (GoC.region ?_)
  refine GoL.does rfl (Does.box rfl rfl rfl) ?_
  rintro _ _ ⟨b2, rfl, rfl⟩
  refine GoL.mem (H' := [arr b2 0 (prgE v), A, F]) (fun w s => s) ?_
  refine GoL.y rfl (Y.assign rfl) ?_
  refine GoL.nil (GoE.then_normal (GoC.seq (GoC.region ?_)))
  refine GoL.y rfl (Y.lda isAgg25 rfl Cells.a (by exact sizeOf25)) ?_
  refine GoL.does rfl (Does.callE rfl call15 rfl (core_New hp hl) .auto) ?_
  rintro _ _ ⟨o, ho, rfl, rfl⟩
  refine GoL.y rfl (Y.move rfl) ?_
  refine GoL.y rfl (Y.extract rfl rfl) ?_
  refine GoL.y rfl (Y.extract rfl rfl) ?_
  refine GoL.y rfl (Y.assign rfl) ?_
  refine GoL.y rfl (Y.assign rfl) ?_
  refine GoL.nil (GoE.then_normal (GoC.seq (GoC.seq (GoC.region ?_))))
  refine GoL.y rfl (Y.move rfl) ?_
  refine GoL.y rfl (Y.neq rfl rfl) ?_
  refine GoL.nil (GoE.then_normal ?_)
  refine GoC.condD rfl (fun h20 => ?_) (fun h20 => ?_)
  · refine GoC.seq (GoC.region ?_)
    refine GoL.does rfl (Does.callE rfl call16 rfl law10_awake .auto) ?_
    rintro _ _ ⟨⟨⟩, -, rfl, rfl⟩
    refine GoL.y rfl (Y.assign rfl) ?_
    refine GoL.nil (GoE.then_normal (GoC.ret ?_))
    refine GoE.then_ret ?_
    refine GoE.ret1 rfl rfl fun w s => ⟨(), ?_, trivial, finE .auto s⟩
    rfl
  · have hc : checkI v.p = 0 := Decidable.not_not.mp h20
    obtain ⟨ka, rfl⟩ := Option.isSome_iff_exists.1 (ho.trans (decide_eq_true hc))
    refine GoC.fr (A := optH (fun b => spcH b (Spc.new v.p)) (some ka)) (Bs := [spcH ka (Spc.new v.p)]) .auto opt_some ?_
    have hok : Okr 1 (Spc.new v.p) := Okr.new ⟨hc, hw⟩
    refine GoC.skip (GoE.then_normal (GoC.seq (GoC.seq (GoC.region ?_))))
    refine GoL.y rfl (Y.assign rfl) ?_
    refine GoL.nil (GoE.then_normal (GoC.block ?_))
    refine GoC.loopK (X := Nat × Spc) [4, 7, 8, 9, 10, 11, 12, 13, 22, 23, 24, 25, 26, 27, 28, 29, 30, 31, 32, 33, 34, 35, 36, 37, 38, 39, 40, 41, 42, 43, 44, 45, 46, 47, 48, 49, 50, 51, 52, 53, 54, 55, 56, 57, 58, 59, 60, 61, 62, 63, 64, 65, 66, 67, 68, 69, 70, 71, 72, 73, 74, 75, 76, 77, 78, 79, 80, 81, 82, 83, 84, 85, 86, 87, 88, 89, 90, 91, 92, 93, 94, 95, 96, 97, 98, 99, 100, 101, 102, 103, 104, 105, 106, 107, 108, 109, 110, 111, 112, 113, 114, 115, 116, 117, 118, 119, 120, 121, 122, 123, 124, 125, 126, 127, 128] (fun z => acts.length - z.1) (fun z => z.1 ≤ acts.length ∧ z.1 ≤ 100 ∧ Okr (z.1 + 1) z.2) (fun z => [(7, some (.int .i64 (z.1 : Int)))]) (fun z => [spcH ka z.2, A, F]) (0, Spc.new v.p) ?_ ?_ ?_ ?_
    · exact ⟨Nat.zero_le _, Nat.zero_le _, hok⟩
    · exact ⟨rfl, trivial⟩
    · exact fun w s => Ent.kept .auto w s
    rintro ⟨k, s⟩ ⟨hk, hk2, hO⟩
    simp only at hk hk2 hO
    refine GoC.seq (GoC.seq (GoC.region ?_))
    refine GoL.y rfl (Y.move rfl) ?_
    refine GoL.y rfl (Y.move rfl) ?_
    refine GoL.y rfl (Y.lenRd underlying26 rfl Rd.s) ?_
    refine GoL.y rfl (Y.lss rfl rfl) ?_
    refine GoL.y rfl (Y.move rfl) ?_
    apply GoL.segAD 3 29 26 [26, 27, 28, 29] rfl
    · intro h26
      refine GoL.yg rfl rfl rfl (Y.move rfl) ?_
      refine GoL.yg rfl rfl rfl (Y.lss rfl rfl) ?_
      refine GoL.y rfl (Y.pickT rfl rfl) ?_
      refine GoL.nil ?_
      refine GoE.seg .auto rfl (by first | exact fun _ h => h | exact Ent.kept .auto)
    · intro h26
      refine GoL.skip rfl rfl rfl rfl ?_
      refine GoL.skip rfl rfl rfl rfl ?_
      refine GoL.y rfl (Y.pickF rfl rfl) ?_
      refine GoL.nil ?_
      refine GoE.seg .auto rfl (by first | exact fun _ h => h | exact Ent.kept .auto)
    refine GoL.nil (GoE.then_normal ?_)
    refine GoC.cond rfl (fun h29 => ?_) (fun h29 => ?_)
    · simp only [Bool.and_eq_true, Bool.or_eq_true, Bool.and_eq_false_iff, Bool.or_eq_false_iff, decide_eq_true_eq, decide_eq_false_iff_not, Bool.not_eq_true', Bool.not_eq_false'] at h29
      refine GoC.skip (GoE.then_normal (GoC.seq (GoC.block (GoC.seq (GoC.region ?_)))))
      refine GoL.y rfl (Y.move rfl) ?_
      obtain ⟨x, hx⟩ := at_some (show k < acts.length by omega)
      refine GoL.o1 (C := spcH ka s) .auto rfl ?_
      rintro ps -
      refine GoL.does rfl (Does.callE rfl call22 rfl (core_Ready (s := s) hO.lt) .auto) ?_
      rintro _ _ ⟨u33, -, rfl, rfl⟩
      refine GoL.y rfl (Y.assign rfl) ?_
      refine GoL.nil (GoE.then_normal (GoC.seq (GoC.region ?_)))
      refine GoL.y rfl (Y.bld0 ([(.slice none 0 0), (.bool false), (.bool false), (.bool false)]) (by kernel_rfl)) ?_
      refine GoL.does rfl (Does.alloc rfl zeroValue36 rfl) ?_
      rintro _ _ ⟨b9, rfl, rfl⟩
      refine GoL.does rfl (Does.sta (by exact sizeOf36) rfl rfl rfl (by rfl)) ?_
      rintro _ _ ⟨rfl, rfl⟩
      refine GoL.nil (GoE.then_normal (GoC.seq (GoC.region ?_)))
      refine GoL.y rfl (Y.assign rfl) ?_
      refine GoL.nil (GoE.then_normal ?_)
      refine GoC.cutK (X := Value × Eff × Int × Spc) [10, 35, 36, 37, 38, 39, 40, 41, 42, 43, 44, 45, 46, 47, 48, 49, 50, 51, 52, 53, 54, 55, 56, 57, 58, 59, 60, 61, 62, 63, 64, 65, 66, 67, 68, 69, 70] (fun z => Woke s z.2.2.2 z.2.1 x.slot ∧ (z.2.2.1 ≠ 0 → z.2.2.2 = s) ∧ Okr (k + 2) z.2.2.2) (fun z => [(10, some (.int .i64 z.2.2.1))]) (fun z => [arr b9 0 (effE z.1 z.2.1), sl intE 1 z.1 z.2.1.woken, sl intE 1 u33 s.ready, spcH ka z.2.2.2, A, F]) ?_ ?_
      · refine GoC.seq (GoC.region ?_)
        refine GoL.y rfl (Y.move rfl) ?_
        refine GoL.y rfl (Y.move rfl) ?_
        refine GoL.y rfl (Y.ixRd k underlying26 sizeOf34 rfl rfl Rd.s rfl (by omega)) ?_
        refine GoL.y rfl (Y.fieldAddrZ 3 underlying34 rfl sizeOf3 rfl) ?_
        refine GoL.y rfl (Y.load isAgg3 rfl (Cell.rd0 Rd.s hx rfl)) ?_
        refine GoL.nil (GoE.then_normal (GoC.block (GoC.seq (GoC.region ?_))))
        refine GoL.y rfl (Y.eql rfl rfl) ?_
        refine GoL.y rfl (Y.assign rfl) ?_
        refine GoL.nil (GoE.then_normal ?_)
        refine GoC.condD rfl (fun h42 => ?_) (fun h42 => ?_)
        · refine GoC.draw [] [1, 1, 1, 1, 1, 1, 1, 1, 1, 1, 1, 3, 1, 1, 0, 2, 1] rfl (by kernel_rfl) ?_
          refine GoK.s rfl (Y.move rfl) ?_
          refine GoK.s rfl (Y.move rfl) ?_
          refine GoK.s rfl (Y.move rfl) ?_
          refine GoK.s rfl (Y.ixRd k underlying26 sizeOf34 rfl rfl Rd.s rfl (by omega)) ?_
          refine GoK.s rfl (Y.fieldAddr 1 3 underlying34 rfl sizeOf3 rfl) ?_
          refine GoK.s rfl (Y.load isAgg3 rfl (Cell.rd (c := 1) Rd.s hx rfl)) ?_
          refine GoK.s rfl (Y.move rfl) ?_
          refine GoK.s rfl (Y.move rfl) ?_
          refine GoK.s rfl (Y.ixRd k underlying26 sizeOf34 rfl rfl Rd.s rfl (by omega)) ?_
          refine GoK.s rfl (Y.fieldAddr 2 3 underlying34 rfl sizeOf3 rfl) ?_
          refine GoK.s rfl (Y.load isAgg3 rfl (Cell.rd (c := 2) Rd.s hx rfl)) ?_
          refine GoK.d3 rfl (Does.callE rfl call17 rfl (core_Run (s := s) (hO.spc (by omega))) .auto) ?_
          rintro _ _ ⟨u56, -, rfl, rfl⟩
          refine GoK.s rfl (Y.move rfl) ?_
          refine GoK.s rfl (Y.extract (v := .agg (effE u56 (s.run x.slot x.choice).1).toArray) rfl rfl) ?_
          refine GoK.k rfl Kept.auto (Y.extract (v := .int .i64 (s.run x.slot x.choice).2.1) rfl rfl) ?_
          refine GoK.d2 rfl Kept.auto (Does.staS (vs := [.bool (s.run x.slot x.choice).1.stopped, .bool (s.run x.slot x.choice).1.ended, .bool (s.run x.slot x.choice).1.yielded]) (by exact sizeOf36) rfl rfl rfl rfl) (by rintro _ _ ⟨rfl, rfl⟩; exact Kept.auto) ?_
          rintro _ _ ⟨rfl, rfl⟩
          refine GoK.s rfl (Y.assign rfl) ?_
          refine GoK.nil (GoE.block_normal ?_)
          refine GoE.midK (u56, (s.run x.slot x.choice).1, (s.run x.slot x.choice).2.1, (s.run x.slot x.choice).2.2) .auto ?_ ?_ ?_
          · exact ⟨hO.wakes (by omega) _ _, fun h => (hO.same (by omega) h).1, hO.run (by omega) _ _⟩
          · exact ⟨rfl, trivial⟩
          · exact fun w s => Ent.kept .auto w s
        · refine GoC.seq (GoC.region ?_)
          refine GoL.y rfl (Y.eql rfl rfl) ?_
          refine GoL.y rfl (Y.assign rfl) ?_
          refine GoL.nil (GoE.then_normal ?_)
          refine GoC.condD rfl (fun h59 => ?_) (fun h59 => ?_)
          · refine GoC.region ?_
            refine GoL.y rfl (Y.move rfl) ?_
            refine GoL.y rfl (Y.move rfl) ?_
            refine GoL.y rfl (Y.move rfl) ?_
            refine GoL.y rfl (Y.ixRd k underlying26 sizeOf34 rfl rfl Rd.s rfl (by omega)) ?_
            refine GoL.y rfl (Y.fieldAddr 2 3 underlying34 rfl sizeOf3 rfl) ?_
            refine GoL.y rfl (Y.load isAgg3 rfl (Cell.rd (c := 2) Rd.s hx rfl)) ?_
            refine GoL.does rfl (Does.callE rfl call18 rfl (core_Done (s := s) (hO.spc (by omega))) .auto) ?_
            rintro _ _ ⟨u68, -, rfl, rfl⟩
            refine GoL.y rfl (Y.move rfl) ?_
            refine GoL.y rfl (Y.extract rfl rfl) ?_
            refine GoL.y rfl (Y.extract rfl rfl) ?_
            refine GoL.does rfl (Does.staS (vs := [.bool (s.done x.choice).1.stopped, .bool (s.done x.choice).1.ended, .bool (s.done x.choice).1.yielded]) (by exact sizeOf36) rfl rfl rfl rfl) ?_
            rintro _ _ ⟨rfl, rfl⟩
            refine GoL.y rfl (Y.assign rfl) ?_
            refine GoL.nil (GoE.block_normal ?_)
            refine GoE.midK (u68, (s.done x.choice).1, (s.done x.choice).2.1, (s.done x.choice).2.2) .auto ?_ ?_ ?_
            · exact ⟨hO.wakesD _ _, fun h => (hO.sameD h).1, hO.done _⟩
            · exact ⟨rfl, trivial⟩
            · exact fun w s => Ent.kept .auto w s
          · refine GoC.region ?_
            refine GoL.y rfl (Y.move rfl) ?_
            refine GoL.does rfl (Does.callE rfl call19 rfl (core_Tick (s := s) (hO.spc (by omega))) .auto) ?_
            rintro _ _ ⟨u41, -, rfl, rfl⟩
            refine GoL.does rfl (Does.staS (vs := [.bool s.tick.1.stopped, .bool s.tick.1.ended, .bool s.tick.1.yielded]) (by exact sizeOf36) rfl rfl rfl rfl) ?_
            rintro _ _ ⟨rfl, rfl⟩
            refine GoL.nil (GoE.block_normal ?_)
            refine GoE.midK (u41, s.tick.1, 0, s.tick.2) .auto ?_ ?_ ?_
            · exact ⟨hO.wakesT _, fun h => absurd rfl h, hO.tick⟩
            · exact ⟨rfl, trivial⟩
            · exact fun w s => Ent.kept .auto w s
      · rintro ⟨eu, e, f, s2⟩ ⟨hW, hsame, hO2⟩
        simp only at hW hsame hO2
        refine GoC.seq (GoC.region ?_)
        refine GoL.y rfl (Y.move rfl) ?_
        refine GoL.o1 (C := spcH ka s2) .auto rfl ?_
        rintro ps2 -
        refine GoL.does rfl (Does.callE rfl call22 rfl (core_Ready (s := s2) hO2.lt) .auto) ?_
        rintro _ _ ⟨u72, -, rfl, rfl⟩
        refine GoL.y rfl (Y.assign rfl) ?_
        refine GoL.nil (GoE.then_normal (GoC.seq (GoC.seq (GoC.region ?_))))
        refine GoL.y rfl (Y.move rfl) ?_
        refine GoL.y rfl (Y.neq rfl rfl) ?_
        refine GoL.y rfl (Y.move rfl) ?_
        apply GoL.segAD 5 80 75 [75, 76, 77, 78, 79, 80] rfl
        · intro h75
          refine GoL.yg rfl rfl rfl (Y.move rfl) ?_
          refine GoL.yg rfl rfl rfl (Y.move rfl) ?_
          refine GoL.dg rfl rfl rfl (Does.callE rfl call23 rfl (ref_Ints (A := seps [sl intE 1 u33 s.ready, sl intE 1 u72 s2.ready]) (Rd.grp (Rd.sl .here)) (Rd.grp (Rd.sl (.there .here))) (ready_leB hO.lt)) .auto) ?_
          rintro _ _ ⟨⟨⟩, -, rfl, rfl⟩
          refine GoL.ungrp .auto ?_
          refine GoL.yg rfl rfl rfl (Y.notD rfl) ?_
          refine GoL.y rfl (Y.pickT rfl rfl) ?_
          refine GoL.nil ?_
          refine GoE.seg .auto rfl (by first | exact fun _ h => h | exact Ent.kept .auto)
        · intro h75
          refine GoL.skip rfl rfl rfl rfl ?_
          refine GoL.skip rfl rfl rfl rfl ?_
          refine GoL.skip rfl rfl rfl rfl ?_
          refine GoL.skip rfl rfl rfl rfl ?_
          refine GoL.y rfl (Y.pickF rfl rfl) ?_
          refine GoL.nil ?_
          refine GoE.seg .auto rfl (by first | exact fun _ h => h | exact Ent.kept .auto)
        refine GoL.nil (GoE.then_normal ?_)
        refine GoC.cond rfl (fun h80 => ?_) (fun h80 => ?_)
        · simp only [Bool.and_eq_true, decide_eq_true_eq, Bool.not_eq_true', decide_eq_false_iff_not] at h80
          exact absurd (by rw [hsame h80.1]) h80.2
        · have hwl : e.woken.length ≤ 1000000000 := by
            have h1 := hW.l
            have h2 := readyFrom_len s2.thr 0
            rw [hO2.lt] at h2
            have h3 : s2.ready.length = (readyFrom s2.thr 0).length := rfl
            split at h1 <;> omega
          refine GoC.skip (GoE.then_normal (GoC.seq (GoC.seq (GoC.region ?_))))
          refine GoL.y rfl (Y.assign rfl) ?_
          refine GoL.nil (GoE.then_normal (GoC.block ?_))
          refine GoC.loopK (X := Nat) [4, 12, 81, 82, 83, 84, 85, 86, 87, 88, 89, 90, 91, 92, 93, 94, 95, 96, 97, 98, 99, 100, 101, 102, 103, 104] (fun j => e.woken.length - j) (fun j => j ≤ e.woken.length) (fun j => [(12, some (.int .i64 (j : Int)))]) (fun j => [arr b9 0 (effE eu e), sl intE 1 eu e.woken, sl intE 1 u33 s.ready, sl intE 1 u72 s2.ready, spcH ka s2, A, F]) 0 ?_ ?_ ?_ ?_
          · exact Nat.zero_le _
          · exact ⟨rfl, trivial⟩
          · exact fun w s => Ent.kept .auto w s
          rintro j hj
          refine GoC.seq (GoC.seq (GoC.region ?_))
          refine GoL.y rfl (Y.move rfl) ?_
          refine GoL.y rfl (Y.fieldAddrZ 23 underlying36 rfl sizeOf23 rfl) ?_
          refine GoL.y rfl (Y.load isAgg23 rfl (Cell.a (by rfl))) ?_
          refine GoL.y rfl (Y.lenRd underlying23 rfl Rd.s) ?_
          refine GoL.y rfl (Y.lss rfl rfl) ?_
          refine GoL.nil (GoE.then_normal ?_)
          refine GoC.condD rfl (fun h85 => ?_) (fun h85 => ?_)
          · refine GoC.skip (GoE.then_normal (GoC.seq (GoC.block (GoC.seq (GoC.region ?_)))))
            refine GoL.y rfl (Y.move rfl) ?_
            refine GoL.y rfl (Y.fieldAddrZ 23 underlying36 rfl sizeOf23 rfl) ?_
            refine GoL.y rfl (Y.load isAgg23 rfl (Cell.a (by rfl))) ?_
            refine GoL.y rfl (Y.move rfl) ?_
            refine GoL.y rfl (Y.ixRd j underlying23 sizeOf3 rfl rfl Rd.s rfl (by omega)) ?_
            obtain ⟨w, hwj⟩ := at_some (show j < e.woken.length by omega)
            have hwm := hW.a w (List.mem_of_getElem? hwj)
            refine GoL.y rfl (Y.load isAgg3 rfl (Cell.rd0 Rd.s hwj rfl)) ?_
            refine GoL.does rfl (Does.callE rfl call24 rfl (ref_In (A := sl intE 1 u33 s.ready) (Rd.sl .here) (ready_leB hO.lt)) .auto) ?_
            rintro _ _ ⟨⟨⟩, -, rfl, rfl⟩
            rw [decide_eq_false hwm.1]
            refine GoL.y rfl (Y.move rfl) ?_
            refine GoL.yg rfl rfl rfl (Y.move rfl) ?_
            refine GoL.yg rfl rfl rfl (Y.fieldAddrZ 23 underlying36 rfl sizeOf23 rfl) ?_
            refine GoL.yg rfl rfl rfl (Y.load isAgg23 rfl (Cell.a (by rfl))) ?_
            refine GoL.yg rfl rfl rfl (Y.move rfl) ?_
            refine GoL.yg rfl rfl rfl (Y.ixRd j underlying23 sizeOf3 rfl rfl Rd.s rfl (by omega)) ?_
            refine GoL.yg rfl rfl rfl (Y.load isAgg3 rfl (Cell.rd0 Rd.s hwj rfl)) ?_
            refine GoL.dg rfl rfl rfl (Does.callE rfl call24 rfl (ref_In (A := sl intE 1 u72 s2.ready) (Rd.sl .here) (ready_leB hO2.lt)) .auto) ?_
            rintro _ _ ⟨⟨⟩, -, rfl, rfl⟩
            rw [decide_eq_true hwm.2]
            refine GoL.yg rfl rfl rfl (Y.not rfl) ?_
            refine GoL.y rfl (Y.pickF rfl rfl) ?_
            refine GoL.nil (GoE.then_normal ?_)
            refine GoC.condF rfl ?_
            refine GoC.skip ?_
            refine GoE.block_normal (GoE.then_normal (GoC.region ?_))
            refine GoL.y rfl (Y.move rfl) ?_
            refine GoL.y rfl (Y.inc rfl rfl (by omega)) ?_
            refine GoL.y rfl (Y.assign rfl) ?_
            refine GoL.nil ?_
            refine GoE.againK (j + 1) .auto rfl ?_ ?_ ?_ ?_
            · omega
            · show j + 1 ≤ _; omega
            · exact ⟨rfl, trivial⟩
            · exact fun w s => Ent.kept .auto w s
          · have hl1 := hW.l
            have hr1 := ready_leB hO.lt
            have hr2 := ready_leB hO2.lt
            refine GoC.exit ?_
            refine GoE.then_exit (GoE.then_exit (GoE.block_here (GoE.then_normal ?_)))
            refine GoC.seq (GoC.region ?_)
            refine GoL.y rfl (Y.assign rfl) ?_
            refine GoL.nil (GoE.then_normal (GoC.seq (GoC.seq (GoC.region ?_))))
            refine GoL.y rfl (Y.fieldAddr0 1 4 underlying36 rfl sizeOf4 rfl) ?_
            refine GoL.y rfl (Y.load isAgg4 rfl (Cell.a (by rfl))) ?_
            refine GoL.y rfl (Y.move rfl) ?_
            apply GoL.segO 3 110 107 [107, 108, 109, 110] rfl
            · intro h107
              refine GoL.yg rfl rfl rfl (Y.fieldAddr0 2 4 underlying36 rfl sizeOf4 rfl) ?_
              refine GoL.yg rfl rfl rfl (Y.load isAgg4 rfl (Cell.a (by rfl))) ?_
              refine GoL.y rfl (Y.pickF rfl rfl) ?_
              refine GoL.nil ?_
              refine GoE.seg .auto rfl (by first | exact fun _ h => h | exact Ent.kept .auto)
            · intro h107
              refine GoL.skip rfl rfl rfl rfl ?_
              refine GoL.skip rfl rfl rfl rfl ?_
              refine GoL.y rfl (Y.pickT rfl rfl) ?_
              refine GoL.nil ?_
              refine GoE.seg .auto rfl (by first | exact fun _ h => h | exact Ent.kept .auto)
            refine GoL.nil (GoE.then_normal ?_)
            refine GoC.cond rfl (fun h110 => ?_) (fun h110 => ?_)
            · refine GoC.seq (GoC.region ?_)
              refine GoL.y rfl (Y.assign rfl) ?_
              refine GoL.nil (GoE.then_normal (GoC.seq (GoC.region ?_)))
              refine GoL.y rfl (Y.move rfl) ?_
              refine GoL.y rfl (Y.move rfl) ?_
              refine GoL.y rfl (Y.move rfl) ?_
              refine GoL.y rfl (Y.ixRd k underlying26 sizeOf34 rfl rfl Rd.s rfl (by omega)) ?_
              refine GoL.y rfl (Y.fieldAddr 1 3 underlying34 rfl sizeOf3 rfl) ?_
              refine GoL.y rfl (Y.load isAgg3 rfl (Cell.rd (c := 1) Rd.s hx rfl)) ?_
              refine GoL.does rfl (Does.callE rfl call24 rfl (ref_In (A := sl intE 1 u72 s2.ready) (Rd.sl .here) (ready_leB hO2.lt)) .auto) ?_
              rintro _ _ ⟨⟨⟩, -, rfl, rfl⟩
              rw [decide_eq_false (hW.g h110)]
              refine GoL.nil (GoE.then_normal ?_)
              refine GoC.condF rfl ?_
              refine GoC.skip (GoE.then_normal (GoC.seq (GoC.region ?_)))
              refine GoL.y rfl (Y.move rfl) ?_
              refine GoL.y rfl (Y.lenRd underlying23 rfl Rd.s) ?_
              refine GoL.y rfl (Y.move rfl) ?_
              refine GoL.y rfl (Y.lenRd underlying23 rfl Rd.s) ?_
              refine GoL.y rfl (Y.fieldAddrZ 23 underlying36 rfl sizeOf23 rfl) ?_
              refine GoL.y rfl (Y.load isAgg23 rfl (Cell.a (by rfl))) ?_
              refine GoL.y rfl (Y.lenRd underlying23 rfl Rd.s) ?_
              refine GoL.y rfl (Y.add rfl rfl (by omega)) ?_
              refine GoL.y rfl (Y.move rfl) ?_
              refine GoL.y rfl (Y.sub rfl rfl (by omega)) ?_
              refine GoL.y rfl (Y.neq rfl rfl) ?_
              refine GoL.nil (GoE.then_normal ?_)
              refine GoC.condD rfl (fun h128 => ?_) (fun h128 => ?_)
              · rw [if_pos h110] at hl1; exact absurd (by omega) h128
              · refine GoC.skip ?_
                refine GoE.block_normal (GoE.then_normal (GoC.region ?_))
                refine GoL.y rfl (Y.move rfl) ?_
                refine GoL.y rfl (Y.inc rfl rfl (by omega)) ?_
                refine GoL.y rfl (Y.assign rfl) ?_
                refine GoL.nil ?_
                refine GoE.againK (k + 1, s2) .auto rfl ?_ ?_ ?_ ?_
                · show acts.length - (k + 1) < acts.length - k; omega
                · exact ⟨by show k + 1 ≤ _; omega, by show k + 1 ≤ 100; omega, hO2⟩
                · exact ⟨rfl, trivial⟩
                · exact fun w s => Ent.kept .auto w s
            · refine GoC.skip (GoE.then_normal (GoC.seq (GoC.region ?_)))
              refine GoL.y rfl (Y.move rfl) ?_
              refine GoL.y rfl (Y.lenRd underlying23 rfl Rd.s) ?_
              refine GoL.y rfl (Y.move rfl) ?_
              refine GoL.y rfl (Y.lenRd underlying23 rfl Rd.s) ?_
              refine GoL.y rfl (Y.fieldAddrZ 23 underlying36 rfl sizeOf23 rfl) ?_
              refine GoL.y rfl (Y.load isAgg23 rfl (Cell.a (by rfl))) ?_
              refine GoL.y rfl (Y.lenRd underlying23 rfl Rd.s) ?_
              refine GoL.y rfl (Y.add rfl rfl (by omega)) ?_
              refine GoL.y rfl (Y.move rfl) ?_
              refine GoL.y rfl (Y.sub rfl rfl (by omega)) ?_
              refine GoL.y rfl (Y.neq rfl rfl) ?_
              refine GoL.nil (GoE.then_normal ?_)
              refine GoC.condD rfl (fun h128 => ?_) (fun h128 => ?_)
              · rw [if_neg (by rw [h110]; simp)] at hl1; exact absurd (by omega) h128
              · refine GoC.skip ?_
                refine GoE.block_normal (GoE.then_normal (GoC.region ?_))
                refine GoL.y rfl (Y.move rfl) ?_
                refine GoL.y rfl (Y.inc rfl rfl (by omega)) ?_
                refine GoL.y rfl (Y.assign rfl) ?_
                refine GoL.nil ?_
                refine GoE.againK (k + 1, s2) .auto rfl ?_ ?_ ?_ ?_
                · show acts.length - (k + 1) < acts.length - k; omega
                · exact ⟨by show k + 1 ≤ _; omega, by show k + 1 ≤ 100; omega, hO2⟩
                · exact ⟨rfl, trivial⟩
                · exact fun w s => Ent.kept .auto w s
    · simp only [Bool.and_eq_true, Bool.or_eq_true, Bool.and_eq_false_iff, Bool.or_eq_false_iff, decide_eq_true_eq, decide_eq_false_iff_not, Bool.not_eq_true', Bool.not_eq_false'] at h29
      refine GoC.exit ?_
      refine GoE.then_exit (GoE.then_exit (GoE.block_here (GoE.then_normal ?_)))
      refine GoC.seq (GoC.region ?_)
      refine GoL.does rfl (Does.callE rfl call16 rfl law10_awake .auto) ?_
      rintro _ _ ⟨⟨⟩, -, rfl, rfl⟩
      refine GoL.y rfl (Y.assign rfl) ?_
      refine GoL.nil (GoE.then_normal (GoC.ret ?_))
      refine GoE.ret1 rfl rfl fun w s => ⟨(), ?_, trivial, finE .auto s⟩
      rfl

end Go.SLYtpcjdohmjmeehaaGreat
