/- Walks of functions, and what they compute. Conditions: none, this text proves no statement. -/
import Derived.Test.YtpcjdohmjmeehaaGreatG05
import Derived.Test.YtpcjdohmjmeehaaGreatProg
import Derived.Test.YtpcjdohmjmeehaaGreatG07
import Derived.Test.YtpcjdohmjmeehaaGreatG03
import Derived.KernelRfl
import Derived.MapKept
import Derived.Laws.NewFold
import Derived.Shelf.Sort.Plain
import Derived.Shelf.Slices.In.SortNone
import Derived.Lib.SortBridge
namespace Go.SLYtpcjdohmjmeehaaGreat
open Go Go.RowKit Go.Proofs Go.Proofs.Tryz

set_option maxRecDepth 20000 in
theorem gate_Lock {W : World} {b : Nat} {g : Gates} {who m : Int} (hg : GatesLen g) : Fn Tryz.prog W 122 [ptr b, .int .i64 who, .int .i64 m] [gatesH b g] Unit (fun _ => .tuple #[.bool (g.lock who m).1, .int .i64 (g.lock who m).2.1]) (fun _ => True) (fun _ => [gatesH b (g.lock who m).2.2]) := by
  refine Fn.intro (N := 27) func122 rfl ntmps122 rfl fun F => ?_
  show GoC _ _ _ _ _ _ [gatesH b g, F]
  refine .o3 (C := gatesH b g) .auto rfl ?_
  rintro vm vc vs -
  refine .s (.r (.p (.a rfl) (.p (.a rfl) (.n (.t (.s (.r (.p (.m rfl) (.p (.m rfl) ?_)))))))))
  refine .does rfl (Does.callE rfl call153 rfl gate_mutex .auto) ?_
  rintro _ _ ⟨⟨⟩, -, rfl, rfl⟩
  refine .p (.a rfl) (.n (.t (.s (.b (.s (.r (.p (.m rfl) (.p (.eqp rfl rfl) (.p (.a rfl) (.n (.t (.cond rfl (fun h12 => ?_) (fun h12 => ?_)))))))))))))
  · refine .s (.r (.p (.a rfl) (.p (.a rfl) (.n (.t (.e (.br (.tr ?_))))))))
    rw [g_lock_no (isNone_no h12)]
    refine .ret2 rfl rfl rfl fun w s => ⟨(), ?_, trivial, finE .auto s⟩
    rfl
  · refine .s (.r ?_)
    have hmhx := isNone_yes h12
    rw [elP_some hmhx]
    obtain ⟨x, hx, hgx⟩ := geti_some hmhx
    refine .p (.m rfl) (.p (.m rfl) ?_)
    refine .does rfl (Does.callE rfl call154 rfl (gate_waits hg) .auto) ?_
    rintro _ _ ⟨⟨⟩, -, rfl, rfl⟩
    refine .fr .auto (mtx_out hx) ?_
    refine .p (.m rfl) ?_
    apply GoL.segO 4 23 19 [19, 20, 21, 22, 23] rfl
    · intro h19
      refine .g (.m rfl) (.g (.m rfl) ?_)
      refine .dg rfl rfl rfl (Does.callE rfl call155 rfl mutex_is .auto) ?_
      rintro _ _ ⟨⟨⟩, -, rfl, rfl⟩
      refine .p (.u rfl rfl) (.n ?_)
      refine .seg .auto rfl (by first | exact fun _ h => h | exact Ent.kept .auto)
    · intro h19
      refine .u (.u (.u (.p (.t rfl rfl) (.n ?_))))
      refine .seg .auto rfl (by first | exact fun _ h => h | exact Ent.kept .auto)
    refine .p (.a rfl) (.n (.t (.cond rfl (fun h15 => ?_) (fun h15 => ?_))))
    · refine .s (.r (.p (.a rfl) (.p (.a rfl) (.n (.t (.e (.br (.tr ?_))))))))
      rw [g_lock_busy hgx h15]
      refine .to (A := mtxsH vm g.mtx) (Bs := [mtxAt (blk vm) (ofs vm + m.toNat * 3) x, mtxR vm g.mtx m.toNat]) .auto (mtx_back hx) ?_
      refine .ret2 rfl rfl rfl fun w s => ⟨(), ?_, trivial, finE .auto s⟩
      rfl
    · refine .v (.b (.t (.s (.r (.p (.m rfl) (.p (.m rfl) ?_))))))
      refine .does rfl (Does.callE rfl call128 rfl (mutex_lock (Nat.le_trans (hg.mw x (List.mem_of_getElem? hx)) (by decide))) .auto) ?_
      rintro _ _ ⟨⟨⟩, -, rfl, rfl⟩
      refine .p (.a rfl) (.p (.a rfl) (.n (.t (.e ?_))))
      rw [g_lock_go hgx h15]
      refine .to (A := mtxsH vm (g.mtx.set m.toNat (x.lock who).2)) (Bs := [mtxAt (blk vm) (ofs vm + m.toNat * 3) (x.lock who).2, mtxR vm g.mtx m.toNat]) .auto (mtx_in (x.lock who).2) ?_
      refine .ret2 rfl rfl rfl fun w s => ⟨(), ?_, trivial, finE .auto s⟩
      rfl

set_option maxRecDepth 20000 in
theorem gate_Unlock {W : World} {b : Nat} {g : Gates} {who m c : Int} (hg : GatesLen g) : Fn Tryz.prog W 123 [ptr b, .int .i64 who, .int .i64 m, .int .i64 c] [gatesH b g] Unit (fun _ => .tuple #[.int .i64 (g.unlock who m c).1, .bool (g.unlock who m c).2.1, .int .i64 (g.unlock who m c).2.2.1]) (fun _ => True) (fun _ => [gatesH b (g.unlock who m c).2.2.2]) := by
  refine Fn.intro (N := 33) func123 rfl ntmps123 rfl fun F => ?_
  show GoC _ _ _ _ _ _ [gatesH b g, F]
  refine .o3 (C := gatesH b g) .auto rfl ?_
  rintro vm vc vs -
  refine .s (.r (.p (.a rfl) (.p (.a rfl) (.p (.a rfl) (.n (.t (.s (.r (.p (.m rfl) (.p (.m rfl) ?_))))))))))
  refine .does rfl (Does.callE rfl call153 rfl gate_mutex .auto) ?_
  rintro _ _ ⟨⟨⟩, -, rfl, rfl⟩
  refine .p (.a rfl) (.n (.t (.s (.b (.s (.r (.p (.m rfl) (.p (.eqp rfl rfl) (.p (.a rfl) (.n (.t (.cond rfl (fun h17 => ?_) (fun h17 => ?_)))))))))))))
  · refine .s (.r (.p (.a rfl) (.p (.a rfl) (.p (.a rfl) (.n (.t (.e (.br (.tr ?_)))))))))
    rw [g_unlock_no (isNone_no h17)]
    refine .ret3 rfl rfl rfl rfl fun w s => ⟨(), ?_, trivial, finE .auto s⟩
    rfl
  · refine .s (.r ?_)
    have hmhx := isNone_yes h17
    rw [elP_some hmhx]
    obtain ⟨x, hx, hgx⟩ := geti_some hmhx
    refine .fr .auto (mtx_out hx) ?_
    refine .p (.m rfl) (.p (.m rfl) ?_)
    refine .does rfl (Does.callE rfl call155 rfl mutex_is .auto) ?_
    rintro _ _ ⟨⟨⟩, -, rfl, rfl⟩
    refine .p (.not rfl) (.p (.a rfl) (.n (.t (.cond rfl (fun h20 => ?_) (fun h20 => ?_)))))
    · refine .s (.r (.p (.a rfl) (.p (.a rfl) (.p (.a rfl) (.n (.t (.e (.br (.tr ?_)))))))))
      rw [g_unlock_own hgx (by simpa using h20)]
      refine .to (A := mtxsH vm g.mtx) (Bs := [mtxAt (blk vm) (ofs vm + m.toNat * 3) x, mtxR vm g.mtx m.toNat]) .auto (mtx_back hx) ?_
      refine .ret3 rfl rfl rfl rfl fun w s => ⟨(), ?_, trivial, finE .auto s⟩
      rfl
    · refine .v (.b (.t (.s (.r (.p (.m rfl) (.p (.m rfl) ?_))))))
      refine .does rfl (Does.callE rfl call156 rfl (mutex_unlock (hg.mw x (List.mem_of_getElem? hx))) .auto) ?_
      rintro _ _ ⟨⟨⟩, -, rfl, rfl⟩
      refine .p (.m rfl) (.p (.extract rfl rfl) (.p (.extract rfl rfl) (.p (.a rfl) (.p (.a rfl) (.n (.t (.s (.r (.p (.m rfl) (.p (.m rfl) (.p (.a rfl) (.p (.a rfl) (.p (.a rfl) (.n (.t (.e ?_))))))))))))))))
      rw [g_unlock_go hgx (by simpa using h20)]
      refine .to (A := mtxsH vm (g.mtx.set m.toNat (x.unlock c).2.2)) (Bs := [mtxAt (blk vm) (ofs vm + m.toNat * 3) (x.unlock c).2.2, mtxR vm g.mtx m.toNat]) .auto (mtx_in (x.unlock c).2.2) ?_
      refine .ret3 rfl rfl rfl rfl fun w s => ⟨(), ?_, trivial, finE .auto s⟩
      rfl

set_option maxRecDepth 20000 in
theorem gate_Wait {W : World} {b : Nat} {g : Gates} {who c m ch : Int} (hg : GatesLen g) : Fn Tryz.prog W 125 [ptr b, .int .i64 who, .int .i64 c, .int .i64 m, .int .i64 ch] [gatesH b g] Unit (fun _ => .tuple #[.int .i64 (g.wait who c m ch).1, .bool (g.wait who c m ch).2.1, .int .i64 (g.wait who c m ch).2.2.1]) (fun _ => True) (fun _ => [gatesH b (g.wait who c m ch).2.2.2]) := by
  refine Fn.intro (N := 52) func125 rfl ntmps125 rfl fun F => ?_
  show GoC _ _ _ _ _ _ [gatesH b g, F]
  refine .o3 (C := gatesH b g) .auto rfl ?_
  rintro vm vc vs -
  refine .s (.r (.p (.a rfl) (.p (.a rfl) (.p (.a rfl) (.n (.t (.s (.r (.p (.m rfl) (.p (.m rfl) ?_))))))))))
  refine .does rfl (Does.callE rfl call153 rfl gate_mutex .auto) ?_
  rintro _ _ ⟨⟨⟩, -, rfl, rfl⟩
  refine .p (.m rfl) (.p (.m rfl) ?_)
  refine .does rfl (Does.callE rfl call126 rfl gate_cond .auto) ?_
  rintro _ _ ⟨⟨⟩, -, rfl, rfl⟩
  refine .p (.a rfl) (.p (.a rfl) (.n (.t (.s (.b (.s (.r (.p (.m rfl) (.p (.eqp rfl rfl) (.p (.m rfl) ?_))))))))))
  apply GoL.segO 3 29 26 [26, 27, 28, 29] rfl
  · intro h26
    refine .g (.m rfl) (.g (.eqp rfl rfl) (.p (.u rfl rfl) (.n ?_)))
    refine .seg .auto rfl (by first | exact fun _ h => h | exact Ent.kept .auto)
  · intro h26
    refine .u (.u (.p (.t rfl rfl) (.n ?_)))
    refine .seg .auto rfl (by first | exact fun _ h => h | exact Ent.kept .auto)
  refine .p (.a rfl) (.n (.t (.cond rfl (fun h23 => ?_) (fun h23 => ?_))))
  · have hw : g.wait who c m ch = (0, false, 1, g) := by
      rcases (Bool.or_eq_true _ _).mp h23 with h | h
      · exact g_wait_no1 (isNone_no h)
      · exact g_wait_no2 (isNone_no h)
    refine .s (.r (.p (.a rfl) (.p (.a rfl) (.p (.a rfl) (.n (.t (.e (.br (.tr ?_)))))))))
    rw [hw]
    refine .ret3 rfl rfl rfl rfl fun w s => ⟨(), ?_, trivial, finE .auto s⟩
    rfl
  · refine .s (.r ?_)
    rw [Bool.or_eq_false_iff] at h23
    have hmhx := isNone_yes h23.1
    rw [elP_some hmhx]
    obtain ⟨x, hx, hgx⟩ := geti_some hmhx
    have hmhr := isNone_yes h23.2
    rw [elP_some hmhr]
    obtain ⟨r, hr, hgr⟩ := geti_some hmhr
    refine .p (.m rfl) (.p (.m rfl) ?_)
    refine .does rfl (Does.callE rfl call154 rfl (gate_waits hg) .auto) ?_
    rintro _ _ ⟨⟨⟩, -, rfl, rfl⟩
    refine .p (.a rfl) (.n (.t (.cond rfl (fun h30 => ?_) (fun h30 => ?_))))
    · refine .s (.r (.p (.a rfl) (.p (.a rfl) (.p (.a rfl) (.n (.t (.e (.br (.tr ?_)))))))))
      rw [g_wait_busy hgx hgr h30]
      refine .ret3 rfl rfl rfl rfl fun w s => ⟨(), ?_, trivial, finE .auto s⟩
      rfl
    · refine .s (.r ?_)
      refine .fr .auto (mtx_out hx) ?_
      refine .p (.m rfl) (.p (.m rfl) ?_)
      refine .does rfl (Does.callE rfl call155 rfl mutex_is .auto) ?_
      rintro _ _ ⟨⟨⟩, -, rfl, rfl⟩
      refine .p (.not rfl) (.p (.a rfl) (.n (.t (.cond rfl (fun h34 => ?_) (fun h34 => ?_)))))
      · refine .s (.r (.p (.a rfl) (.p (.a rfl) (.p (.a rfl) (.n (.t (.e (.br (.tr ?_)))))))))
        rw [g_wait_own hgx hgr h30 (by simpa using h34)]
        refine .to (A := mtxsH vm g.mtx) (Bs := [mtxAt (blk vm) (ofs vm + m.toNat * 3) x, mtxR vm g.mtx m.toNat]) .auto (mtx_back hx) ?_
        refine .ret3 rfl rfl rfl rfl fun w s => ⟨(), ?_, trivial, finE .auto s⟩
        rfl
      · refine .v (.b (.t (.s (.r (.p (.m rfl) (.p (.m rfl) ?_))))))
        refine .does rfl (Does.callE rfl call156 rfl (mutex_unlock (hg.mw x (List.mem_of_getElem? hx))) .auto) ?_
        rintro _ _ ⟨⟨⟩, -, rfl, rfl⟩
        refine .p (.m rfl) (.p (.extract rfl rfl) (.p (.extract rfl rfl) (.p (.a rfl) (.p (.a rfl) (.n (.t (.s (.r ?_))))))))
        refine .to (A := mtxsH vm (g.mtx.set m.toNat (x.unlock ch).2.2)) (Bs := [mtxAt (blk vm) (ofs vm + m.toNat * 3) (x.unlock ch).2.2, mtxR vm g.mtx m.toNat]) .auto (mtx_in (x.unlock ch).2.2) ?_
        refine .fr .auto (cnd_out hr) ?_
        refine .p (.m rfl) (.p (.m rfl) (.p (.m rfl) ?_))
        refine .p (.bld2 (fun v1 v2 => [v1, v2]) rfl rfl (by kernel_rfl)) ?_
        refine .does rfl (Does.callE rfl call157 rfl (row_add (x := ⟨who, m⟩) (Nat.le_trans (hg.cw r (List.mem_of_getElem? hr)) (by decide))) .auto) ?_
        rintro _ _ ⟨⟨⟩, -, rfl, rfl⟩
        refine .n (.t (.s (.r (.p (.m rfl) (.p (.m rfl) (.p (.a rfl) (.p (.a rfl) (.p (.a rfl) (.n (.t (.e ?_)))))))))))
        rw [g_wait_go hgx hgr h30 (by simpa using h34)]
        refine .to (A := cndsH vc (g.cnd.set c.toNat (r ++ [⟨who, m⟩]))) (Bs := [rowH (blk vc) (ofs vc + c.toNat * 1) (r ++ [⟨who, m⟩]), cndR vc g.cnd c.toNat]) .auto (cnd_in (r ++ [⟨who, m⟩])) ?_
        refine .ret3 rfl rfl rfl rfl fun w s => ⟨(), ?_, trivial, finE .auto s⟩
        rfl

set_option maxRecDepth 20000 in
theorem gate_Down {W : World} {b : Nat} {g : Gates} {who s : Int} (hg : GatesLen g) (hc : ∀ x ∈ g.sem, 0 ≤ x.count ∧ x.count ≤ 1048576) : Fn Tryz.prog W 131 [ptr b, .int .i64 who, .int .i64 s] [gatesH b g] Unit (fun _ => .tuple #[.bool (g.down who s).1, .int .i64 (g.down who s).2.1]) (fun _ => True) (fun _ => [gatesH b (g.down who s).2.2]) := by
  refine Fn.intro (N := 38) func131 rfl ntmps131 rfl fun F => ?_
  show GoC _ _ _ _ _ _ [gatesH b g, F]
  refine .o3 (C := gatesH b g) .auto rfl ?_
  rintro vm vc vs -
  refine .s (.r (.p (.a rfl) (.p (.a rfl) (.n (.t (.s (.r (.p (.m rfl) (.p (.m rfl) ?_)))))))))
  refine .does rfl (Does.callE rfl call160 rfl gate_sem .auto) ?_
  rintro _ _ ⟨⟨⟩, -, rfl, rfl⟩
  refine .p (.a rfl) (.n (.t (.s (.b (.s (.r (.p (.m rfl) (.p (.eqp rfl rfl) (.p (.a rfl) (.n (.t (.cond rfl (fun h12 => ?_) (fun h12 => ?_)))))))))))))
  · refine .s (.r (.p (.a rfl) (.p (.a rfl) (.n (.t (.e (.br (.tr ?_))))))))
    rw [g_down_no (isNone_no h12)]
    refine .ret2 rfl rfl rfl fun w s => ⟨(), ?_, trivial, finE .auto s⟩
    rfl
  · refine .s (.r ?_)
    have hmhx := isNone_yes h12
    rw [elP_some hmhx]
    obtain ⟨x, hx, hgx⟩ := geti_some hmhx
    refine .p (.m rfl) (.p (.m rfl) ?_)
    refine .does rfl (Does.callE rfl call154 rfl (gate_waits hg) .auto) ?_
    rintro _ _ ⟨⟨⟩, -, rfl, rfl⟩
    refine .p (.a rfl) (.n (.t (.cond rfl (fun h15 => ?_) (fun h15 => ?_))))
    · refine .s (.r (.p (.a rfl) (.p (.a rfl) (.n (.t (.e (.br (.tr ?_))))))))
      rw [g_down_busy hgx h15]
      refine .ret2 rfl rfl rfl fun w s => ⟨(), ?_, trivial, finE .auto s⟩
      rfl
    · refine .s (.r ?_)
      refine .fr .auto (smp_out hx) ?_
      have hcx := hc x (List.mem_of_getElem? hx)
      refine .o1 (C := smpAt (blk vs) (ofs vs + s.toNat * 2) x) .auto rfl ?_
      rintro u -
      refine .p (.m rfl) (.p (.n rfl) (.p (.o rfl) (.p (.lo rfl) (.p (.gtr rfl rfl) (.p (.a rfl) (.n (.t (.condD rfl (fun h19 => ?_) (fun h19 => ?_)))))))))
      · refine .s (.r (.p (.m rfl) (.p (.n rfl) (.p (.o rfl) (.p (.lo rfl) ?_)))))
        refine .p (.sub rfl rfl (by omega)) ?_
        refine .p (.n rfl) (.p (.o rfl) ?_)
        refine .does rfl (Does.sto sizeOf3 rfl rfl rfl rfl) ?_
        rintro _ _ ⟨rfl, rfl⟩
        refine .n (.t (.s (.r (.p (.a rfl) (.p (.a rfl) (.n (.t (.e (.br (.tr ?_))))))))))
        rw [g_down_go hgx h15 h19]
        refine .to (A := smpsH vs (g.sem.set s.toNat { x with count := x.count - 1 })) (Bs := [smpAt (blk vs) (ofs vs + s.toNat * 2) { x with count := x.count - 1 }, smpR vs g.sem s.toNat]) .auto (smp_in { x with count := x.count - 1 }) ?_
        refine .ret2 rfl rfl rfl fun w s => ⟨(), ?_, trivial, finE .auto s⟩
        rfl
      · refine .v (.b (.t (.s (.r (.p (.m rfl) (.p (.n rfl) ?_))))))
        refine .fr .auto (arr_cut1 (b := blk vs) (o := ofs vs + s.toNat * 2) (u := u)) ?_
        refine .p (.z rfl) (.p (.m rfl) ?_)
        refine .p (.bld1 (fun v1 => [v1, (.int .i64 0)]) rfl (by kernel_rfl)) ?_
        refine .does rfl (Does.callE rfl call157 rfl (row_add (x := ⟨who, 0⟩) (Nat.le_trans (hg.sw x (List.mem_of_getElem? hx)) (by decide))) .auto) ?_
        rintro _ _ ⟨⟨⟩, -, rfl, rfl⟩
        refine .n (.t (.s (.r (.p (.a rfl) (.p (.a rfl) (.n (.t (.e ?_))))))))
        rw [g_down_wait hgx h15 h19]
        refine .to (A := smpAt (blk vs) (ofs vs + s.toNat * 2) { x with wait := x.wait ++ [⟨who, 0⟩] }) (Bs := [rowH (blk vs) (ofs vs + s.toNat * 2) (x.wait ++ [⟨who, 0⟩]), arr (blk vs) (ofs vs + s.toNat * 2 + 1) [.int .i64 x.count]]) .auto (row_smp (m := { x with wait := x.wait ++ [⟨who, 0⟩] })) ?_
        refine .to (A := smpsH vs (g.sem.set s.toNat { x with wait := x.wait ++ [⟨who, 0⟩] })) (Bs := [smpAt (blk vs) (ofs vs + s.toNat * 2) { x with wait := x.wait ++ [⟨who, 0⟩] }, smpR vs g.sem s.toNat]) .auto (smp_in { x with wait := x.wait ++ [⟨who, 0⟩] }) ?_
        refine .ret2 rfl rfl rfl fun w s => ⟨(), ?_, trivial, finE .auto s⟩
        rfl

set_option maxRecDepth 20000 in
theorem gate_Up {W : World} {b : Nat} {g : Gates} {s c : Int} (hg : GatesLen g) (hc : ∀ x ∈ g.sem, 0 ≤ x.count ∧ x.count ≤ 1048576) : Fn Tryz.prog W 130 [ptr b, .int .i64 s, .int .i64 c] [gatesH b g] Unit (fun _ => .tuple #[.int .i64 (g.up s c).1, .bool (g.up s c).2.1, .int .i64 (g.up s c).2.2.1]) (fun _ => True) (fun _ => [gatesH b (g.up s c).2.2.2]) := by
  refine Fn.intro (N := 40) func130 rfl ntmps130 rfl fun F => ?_
  show GoC _ _ _ _ _ _ [gatesH b g, F]
  refine .o3 (C := gatesH b g) .auto rfl ?_
  rintro vm vc vs -
  refine .s (.r (.p (.a rfl) (.p (.a rfl) (.p (.a rfl) (.n (.t (.s (.r (.p (.m rfl) (.p (.m rfl) ?_))))))))))
  refine .does rfl (Does.callE rfl call160 rfl gate_sem .auto) ?_
  rintro _ _ ⟨⟨⟩, -, rfl, rfl⟩
  refine .p (.a rfl) (.n (.t (.s (.s (.r (.p (.m rfl) (.p (.eqp rfl rfl) (.n (.t (.cond rfl (fun h16 => ?_) (fun h16 => ?_)))))))))))
  · refine .s (.r (.p (.a rfl) (.p (.a rfl) (.p (.a rfl) (.n (.t (.e (.tr ?_))))))))
    rw [g_up_no (isNone_no h16)]
    refine .ret3 rfl rfl rfl rfl fun w s => ⟨(), ?_, trivial, finE .auto s⟩
    rfl
  · refine .v (.t (.s (.s (.r ?_))))
    have hmhx := isNone_yes h16
    rw [elP_some hmhx]
    obtain ⟨x, hx, hgx⟩ := geti_some hmhx
    refine .fr .auto (smp_out hx) ?_
    have hcx := hc x (List.mem_of_getElem? hx)
    refine .o1 (C := smpAt (blk vs) (ofs vs + s.toNat * 2) x) .auto rfl ?_
    rintro u -
    refine .fr .auto (arr_cut1 (b := blk vs) (o := ofs vs + s.toNat * 2) (u := u)) ?_
    refine .p (.m rfl) (.p (.n rfl) (.p (.z rfl) (.p (.m rfl) ?_)))
    refine .does rfl (Does.callE rfl call127 rfl (row_take (hg.sw x (List.mem_of_getElem? hx))) .auto) ?_
    rintro _ _ ⟨⟨⟩, -, rfl, rfl⟩
    refine .p (.m rfl) (.p (.extract rfl rfl) (.p (.extract rfl rfl) ?_))
    refine .does rfl (Does.alloc rfl zeroValue229 rfl) ?_
    rintro _ _ ⟨b10, rfl, rfl⟩
    refine .does rfl (Does.sta (by exact sizeOf229) rfl rfl rfl (by rfl)) ?_
    rintro _ _ ⟨rfl, rfl⟩
    refine .p (.a rfl) (.n (.t (.s (.r (.p (.m rfl) (.n (.t (.cond rfl (fun h25 => ?_) (fun h25 => ?_)))))))))
    · refine .s (.r (.p (.z rfl) (.p (.l rfl) (.p (.a rfl) (.p (.a rfl) (.p (.a rfl) (.n (.t (.e (.tr ?_))))))))))
      rw [g_up_take hgx h25]
      refine .to (A := smpAt (blk vs) (ofs vs + s.toNat * 2) { x with wait := (takeW x.wait c).2.2 }) (Bs := [rowH (blk vs) (ofs vs + s.toNat * 2) (takeW x.wait c).2.2, arr (blk vs) (ofs vs + s.toNat * 2 + 1) [.int .i64 x.count]]) .auto (row_smp (m := { x with wait := (takeW x.wait c).2.2 })) ?_
      refine .to (A := smpsH vs (g.sem.set s.toNat { x with wait := (takeW x.wait c).2.2 })) (Bs := [smpAt (blk vs) (ofs vs + s.toNat * 2) { x with wait := (takeW x.wait c).2.2 }, smpR vs g.sem s.toNat]) .auto (smp_in { x with wait := (takeW x.wait c).2.2 }) ?_
      refine .ret3 rfl rfl rfl rfl fun w s => ⟨(), ?_, trivial, finE .auto s⟩
      rfl
    · have htw := take_none h25
      refine .v (.t (.s (.s (.r (.p (.m rfl) (.p (.n rfl) (.p (.o rfl) ?_)))))))
      refine .p (.ld rfl (Cell.az (cs := [.int .i64 x.count]) rfl)) ?_
      refine .p (.geq rfl rfl) (.n (.t (.condD rfl (fun h32 => ?_) (fun h32 => ?_))))
      · refine .s (.r (.p (.a rfl) (.p (.a rfl) (.p (.a rfl) (.n (.t (.e (.tr ?_))))))))
        rw [g_up_full hgx h25 h32]
        rw [htw]
        refine .to (A := smpAt (blk vs) (ofs vs + s.toNat * 2) x) (Bs := [rowH (blk vs) (ofs vs + s.toNat * 2) x.wait, arr (blk vs) (ofs vs + s.toNat * 2 + 1) [.int .i64 x.count]]) .auto row_smp ?_
        refine .to (A := smpsH vs g.sem) (Bs := [smpAt (blk vs) (ofs vs + s.toNat * 2) x, smpR vs g.sem s.toNat]) .auto (smp_back hx) ?_
        refine .ret3 rfl rfl rfl rfl fun w s => ⟨(), ?_, trivial, finE .auto s⟩
        rfl
      · refine .v (.t (.s (.r (.p (.m rfl) (.p (.n rfl) (.p (.o rfl) ?_))))))
        refine .p (.ld rfl (Cell.az (cs := [.int .i64 x.count]) rfl)) ?_
        refine .p (.add rfl rfl (by omega)) ?_
        refine .p (.n rfl) (.p (.o rfl) ?_)
        refine .does rfl (Does.stz sizeOf3 rfl rfl rfl rfl) ?_
        rintro _ _ ⟨rfl, rfl⟩
        refine .n (.t (.s (.r (.p (.a rfl) (.p (.a rfl) (.p (.a rfl) (.n (.t (.e ?_)))))))))
        rw [g_up_go hgx h25 h32, htw]
        refine .to (A := smpAt (blk vs) (ofs vs + s.toNat * 2) { x with count := x.count + 1 }) (Bs := [rowH (blk vs) (ofs vs + s.toNat * 2) x.wait, arr (blk vs) (ofs vs + s.toNat * 2 + 1) [.int .i64 (x.count + 1)]]) .auto (row_smp (m := { x with count := x.count + 1 })) ?_
        refine .to (A := smpsH vs (g.sem.set s.toNat { x with count := x.count + 1 })) (Bs := [smpAt (blk vs) (ofs vs + s.toNat * 2) { x with count := x.count + 1 }, smpR vs g.sem s.toNat]) .auto (smp_in { x with count := x.count + 1 }) ?_
        refine .ret3 rfl rfl rfl rfl fun w s => ⟨(), ?_, trivial, finE .auto s⟩
        rfl

set_option maxRecDepth 20000 in
theorem gate_Signal {W : World} {b : Nat} {g : Gates} {c ch : Int} {all : Bool} (hg : GatesLen g) (hm : ∀ r ∈ g.cnd, ∀ w ∈ r, 0 ≤ w.mutex ∧ w.mutex < (g.mtx.length : Int)) : Fn Tryz.prog W 94 [ptr b, .int .i64 c, .int .i64 ch, .bool all] [gatesH b g] Value (fun u => .tuple #[u, .int .i64 (g.signal c ch all).2.1]) (fun _ => True) (fun u => [sl intE 1 u (g.signal c ch all).1, gatesH b (g.signal c ch all).2.2]) := by
  refine Fn.intro (N := 58) func94 rfl ntmps94 rfl fun F => ?_
  show GoC _ _ _ _ _ _ [gatesH b g, F]
  refine .o3 (C := gatesH b g) .auto rfl ?_
  rintro vm vc vs -
  refine .s (.r (.p (.a rfl) (.p (.a rfl) (.n (.t (.s (.r (.p (.m rfl) (.p (.m rfl) ?_)))))))))
  refine .does rfl (Does.callE rfl call126 rfl gate_cond .auto) ?_
  rintro _ _ ⟨⟨⟩, -, rfl, rfl⟩
  refine .p (.a rfl) (.n (.t (.s (.s (.r (.p (.m rfl) (.p (.eqp rfl rfl) (.n (.t (.cond rfl (fun h19 => ?_) (fun h19 => ?_)))))))))))
  · refine .s (.r (.p (.a rfl) (.p (.a rfl) (.n (.t (.e (.tr ?_)))))))
    rw [g_signal_no (isNone_no h19)]
    refine .ret2 rfl rfl rfl fun w s => ⟨.slice none 0 0, ?_, trivial, finE .auto s⟩
    rfl
  · refine .v (.t (.s (.r ?_)))
    have hmhr := isNone_yes h19
    rw [elP_some hmhr]
    obtain ⟨r, hr, hgr⟩ := geti_some hmhr
    refine .fr .auto (cnd_out hr) ?_
    have hrl := hg.cw r (List.mem_of_getElem? hr)
    have hrm := hm r (List.mem_of_getElem? hr)
    refine .o1 (C := rowH (blk vc) (ofs vc + c.toNat * 1) r) .auto rfl ?_
    rintro u0 -
    refine .p (.m rfl) (.p (.n rfl) (.p (.z rfl) (.p (.lz rfl) (.p (.len rfl) ?_))))
    refine .p (.min2m rfl rfl) ?_
    refine .p (.a rfl) (.n (.t ?_))
    refine .cutK (X := Unit) [2, 11, 26, 27, 28, 29, 30, 31] (fun _ => True) (fun _ => [(11, some (.int .i64 (((if all = true then r.length else min r.length 1) : Nat) : Int))), (2, some (.int .i64 (if all = true then 0 else ch)))]) (fun _ => [arr (blk vc) (ofs vc + c.toNat * 1) [u0], sl wtrE 2 u0 r, cndR vc g.cnd c.toNat, arr b 0 [vm, vc, vs], mtxsH vm g.mtx, smpsH vs g.sem, F]) ?_ ?_
    · refine .s (.r (.p (.m rfl) (.n (.t (.cond rfl (fun h26 => ?_) (fun h26 => ?_))))))
      · refine .r (.p (.m rfl) (.p (.n rfl) (.p (.z rfl) (.p (.lz rfl) (.p (.len rfl) (.p (.a rfl) (.p (.a rfl) (.n ?_))))))))
        refine .midK () .auto ?_ ?_ ?_
        · trivial
        · subst h26; exact ⟨rfl, rfl, trivial⟩
        · exact fun w s => Ent.kept .auto w s
      · refine .v ?_
        refine .midK () .auto ?_ ?_ ?_
        · trivial
        · rw [if_neg (by rw [h26]; simp), if_neg (by rw [h26]; simp)]; exact ⟨by show some _ = some _; congr 2; omega, rfl, trivial⟩
        · exact fun w s => Ent.kept .auto w s
    · rintro ⟨⟩ -
      obtain ⟨n0, hn0⟩ : ∃ n0, n0 = (if all = true then r.length else min r.length 1) := ⟨_, rfl⟩
      obtain ⟨c2, hc2⟩ : ∃ c2, c2 = (if all = true then 0 else ch) := ⟨_, rfl⟩
      have h0 : n0 ≤ r.length := by subst hn0; split <;> omega
      rw [← hn0, ← hc2]
      refine .s (.r (.p (.a rfl) (.n (.t (.s (.s (.r (.p (.m rfl) (.p (.m rfl) (.n (.t (.b ?_))))))))))))
      refine .loopK (X := Nat × List Wtr × List Mtx × Value × List Int) [12, 13, 14, 33, 34, 35, 36, 37, 38, 39, 40, 41, 42, 43, 44, 45, 46, 47, 48, 49, 50, 51, 52, 53, 54, 55, 56] (fun z => n0 - z.1) (fun z => SigOk r g.mtx n0 c2 z.1 z.2.1 z.2.2.1 z.2.2.2.2) (fun z => [(33, some (.int .i64 (z.1 : Int))), (12, some z.2.2.2.1)]) (fun z => [rowH (blk vc) (ofs vc + c.toNat * 1) z.2.1, mtxsH vm z.2.2.1, sl intE 1 z.2.2.2.1 z.2.2.2.2, cndR vc g.cnd c.toNat, arr b 0 [vm, vc, vs], smpsH vs g.sem, F]) (0, r, g.mtx, .slice none 0 0, []) ?_ ?_ ?_ ?_
      · exact SigOk.zero hg.mw
      · exact ⟨rfl, rfl, trivial⟩
      · exact fun w s => Ent.kept .auto w s
      rintro ⟨k, r1, ms, u, out⟩ hS
      simp only at hS
      refine .s (.r (.p (.lss rfl rfl) (.n (.t (.s (.condD rfl (fun h34 => ?_) (fun h34 => ?_)))))))
      · simp only at h34
        refine .v (.t (.s (.b (.s (.r (.p (.m rfl) (.p (.m rfl) ?_)))))))
        refine .does rfl (Does.callE rfl call127 rfl (row_take (l := r1) (by have := hS.len; omega)) .auto) ?_
        rintro _ _ ⟨⟨⟩, -, rfl, rfl⟩
        refine .p (.m rfl) (.p (.extract rfl rfl) (.p (.extract rfl rfl) ?_))
        refine .does rfl (Does.alloc rfl zeroValue229 rfl) ?_
        rintro _ _ ⟨b13, rfl, rfl⟩
        refine .does rfl (Does.sta (by exact sizeOf229) rfl rfl rfl (by rfl)) ?_
        rintro _ _ ⟨rfl, rfl⟩
        refine .p (.a rfl) (.n (.t (.s ?_)))
        refine .draw [] [1, 1, 1, 1, 1, 1, 1, 1, 1, 3] rfl (by kernel_rfl) ?_
        obtain ⟨hw1, hw2, hw3⟩ := take_mem (l := r1) (c := c2) (by have := hS.len; omega)
        have hwm := hrm _ (hS.mem _ hw1)
        have hml := hS.ml
        obtain ⟨x, hx⟩ := at_some (show (takeW r1 c2).1.mutex.toNat < ms.length by omega)
        have hxl := hS.mw x (List.mem_of_getElem? hx)
        refine .o1 (C := mtxsH vm ms) .auto rfl ?_
        rintro xs hxs
        have hxsl := map_len hxs
        refine .p (.m rfl) (.p (.n rfl) (.p (.z rfl) (.p (.l rfl) (.p (.f rfl) (.p (.l rfl) ?_)))))
        refine .p (.ixRd (takeW r1 c2).1.mutex.toNat underlying162 sizeOf233 rfl rfl Rd.s (by omega) (by omega)) ?_
        refine .p (.z rfl) (.p (.l rfl) ?_)
        refine .to (A := mtxsH vm ms) .auto (Bs := [sl mtxE 3 vm xs, allH (fun x => sl wtrE 2 x.1 x.2.wait) xs]) (fun h a => ⟨xs, hxs, a⟩) ?_
        refine .fr .auto (mtx_out hx) ?_
        refine .d3 rfl (Does.callE rfl call128 rfl (mutex_lock (m := x) (by omega)) .auto) ?_
        rintro _ _ ⟨⟨⟩, -, rfl, rfl⟩
        refine .to (A := mtxsH vm (ms.set (takeW r1 c2).1.mutex.toNat (x.lock (takeW r1 c2).1.who).2)) (Bs := [mtxAt (blk vm) (ofs vm + (takeW r1 c2).1.mutex.toNat * 3) (x.lock (takeW r1 c2).1.who).2, mtxR vm ms (takeW r1 c2).1.mutex.toNat]) .auto (mtx_in (x.lock (takeW r1 c2).1.who).2) ?_
        have hnx := hS.next (by omega) h0
        have hsl : sigL r1 c2 ms = x.lock (takeW r1 c2).1.who := by unfold sigL; rw [getD_of hx]
        rw [hsl] at hnx
        refine .n (.t (.cond rfl (fun h50 => ?_) (fun h50 => ?_)))
        · rw [if_pos h50] at hnx
          refine .r (.p (.m rfl) (.p (.z rfl) (.p (.l rfl) ?_)))
          refine .does rfl (Does.bsl 3 rfl rfl (by kernel_rfl)) ?_
          rintro _ _ ⟨b54, rfl, rfl⟩
          refine .does rfl (Does.app1 (enc := intE) (k := 1) (takeW r1 c2).1.who rfl underlying23 underlying23 typeInfo3 rfl rfl rfl (by decide) rfl rfl rfl .auto rfl .auto (by have := hS.ol; have := hS.hk; dsimp only; omega) rfl) ?_
          rintro _ _ ⟨v55, rfl, rfl⟩
          refine .p (.a rfl) (.n (.b (.t (.r ?_))))
          refine .p (.inc rfl rfl (by omega)) ?_
          refine .p (.m rfl) (.n ?_)
          refine .againK (k + 1, (takeW r1 c2).2.2, ms.set (takeW r1 c2).1.mutex.toNat (x.lock (takeW r1 c2).1.who).2, v55, out ++ [(takeW r1 c2).1.who]) .auto rfl ?_ ?_ ?_ ?_
          · show n0 - (k + 1) < n0 - k; omega
          · exact hnx
          · exact ⟨rfl, rfl, trivial⟩
          · exact fun w s => Ent.kept .auto w s
        · rw [if_neg (by rw [h50]; simp)] at hnx
          refine .v (.b (.t (.r ?_)))
          refine .p (.inc rfl rfl (by omega)) ?_
          refine .p (.m rfl) (.n ?_)
          refine .againK (k + 1, (takeW r1 c2).2.2, ms.set (takeW r1 c2).1.mutex.toNat (x.lock (takeW r1 c2).1.who).2, u, out) .auto rfl ?_ ?_ ?_ ?_
          · show n0 - (k + 1) < n0 - k; omega
          · exact hnx
          · exact ⟨rfl, rfl, trivial⟩
          · exact fun w s => Ent.kept .auto w s
      · simp only at h34
        refine .x (.tx (.tx (.bh (.t (.s (.r (.p (.m rfl) (.p (.a rfl) (.p (.a rfl) (.n (.t (.e ?_))))))))))))
        rw [g_signal_go (z := (r1, ms, out)) hgr (by rw [← hn0, ← hc2]; exact hS.done (by omega))]
        refine .to (A := cndsH vc (g.cnd.set c.toNat r1)) (Bs := [rowH (blk vc) (ofs vc + c.toNat * 1) r1, cndR vc g.cnd c.toNat]) .auto (cnd_in r1) ?_
        refine .ret2 rfl rfl rfl fun w s => ⟨u, ?_, trivial, finE .auto s⟩
        rfl

set_option maxRecDepth 20000 in
theorem gate_row1 {W : World} {b : Nat} {l : List Mtx} {n : Int} {vm vc vs : Value} : Fn Tryz.prog W 159 [ptr b, .int .i64 1, .int .i64 n] [arr b 0 [vm, vc, vs], mtxsH vm l] Unit (fun _ => elP vm l.length 3 n) (fun _ => True) (fun _ => [arr b 0 [vm, vc, vs], mtxsH vm l]) := by
  refine Fn.intro (N := 35) func159 rfl ntmps159 rfl fun F => ?_
  show GoC _ _ _ _ _ _ [arr b 0 [vm, vc, vs], mtxsH vm l, F]
  refine .s (.r (.p (.a rfl) (.n (.t (.s (.s (.r (.p (.m rfl) (.n (.t (.b (.s (.r (.p (.eql rfl rfl) (.p (.a rfl) (.n (.t (.condD rfl (fun _ => ?_) (fun hc => absurd rfl hc)))))))))))))))))))
  refine .s (.r (.p (.m rfl) (.p (.m rfl) ?_)))
  refine .does rfl (Does.callE rfl call153 rfl gate_mutex .auto) ?_
  rintro _ _ ⟨⟨⟩, -, rfl, rfl⟩
  refine .p (.a rfl) (.n (.t (.s (.r (.p (.m rfl) (.p (.neqp rfl rfl) (.n (.t (.cond rfl (fun h16 => ?_) (fun h16 => ?_))))))))))
  · refine .s (.r ?_)
    have hm := isNone_yes2 h16
    rw [elP_some hm]
    refine .p (.m rfl) (.p (.n rfl) (.p (.z rfl) (.p (.a rfl) (.n (.t (.e (.br (.tr (.ret1 rfl rfl fun w s => ⟨(), ?_, trivial, finE .auto s⟩)))))))))
    rfl
  · refine .v (.b (.t (.s (.r (.p (.a rfl) (.n (.t (.e (.ret1 rfl rfl fun w s => ⟨(), ?_, trivial, finE .auto s⟩)))))))))
    rw [elP_nil (isNone_no2 h16)]

set_option maxRecDepth 20000 in
theorem gate_Waiters1 {W : World} {b : Nat} {g : Gates} {n : Nat} {x : Mtx} (hx : g.mtx[n]? = some x) (hl : x.wait.length ≤ 1000000) : Fn Tryz.prog W 129 [ptr b, .int .i64 1, .int .i64 (n : Int)] [gatesH b g] Value (fun u => u) (fun _ => True) (fun u => [sl intE 1 u (x.wait.map (·.who)), gatesH b g]) := by
  refine Fn.intro (N := 33) func129 rfl ntmps129 rfl fun F => ?_
  show GoC _ _ _ _ _ _ [gatesH b g, F]
  refine .o3 (C := gatesH b g) .auto rfl ?_
  rintro vm vc vs -
  have hn := (List.getElem?_eq_some_iff.1 hx).1
  refine .s (.r (.p (.a rfl) (.n (.t (.s (.r (.p (.m rfl) (.p (.m rfl) (.p (.m rfl) ?_)))))))))
  refine .does rfl (Does.callE rfl call159 rfl gate_row1 .auto) ?_
  rintro _ _ ⟨⟨⟩, -, rfl, rfl⟩
  refine .p (.a rfl) (.n (.t (.s (.s (.r (.p (.m rfl) (.p (.eqp rfl rfl) (.n (.t (.cond rfl (fun h16 => ?_) (fun h16 => ?_)))))))))))
  · exact absurd (show (0 : Int) ≤ (n : Int) ∧ (n : Int) < (g.mtx.length : Int) by omega) (isNone_no h16)
  · refine .v (.t (.s (.r (.p (.a rfl) (.n (.t (.s (.s (.r ?_)))))))))
    rw [elP_some (by omega), Int.toNat_natCast]
    refine .fr .auto (mtx_out hx) ?_
    refine .o1 (C := mtxAt (blk vm) (ofs vm + n * 3) x) .auto rfl ?_
    rintro u0 -
    refine .p (.m rfl) (.p (.n rfl) (.p (.z rfl) (.p (.lz rfl) (.p (.len rfl) (.p (.m rfl) (.n (.t (.b ?_))))))))
    refine .loopK (X := Nat × Value) [8, 10, 22, 23, 24, 25, 26, 27, 28, 29, 30, 31] (fun z => x.wait.length - z.1) (fun z => z.1 ≤ x.wait.length) (fun z => [(22, some (.int .i64 (z.1 : Int))), (8, some z.2)]) (fun z => [sl intE 1 z.2 ((x.wait.map (·.who)).take z.1), arr (blk vm) (ofs vm + n * 3) [u0, .bool x.held, .int .i64 x.owner], sl wtrE 2 u0 x.wait, mtxR vm g.mtx n, arr b 0 [vm, vc, vs], cndsH vc g.cnd, smpsH vs g.sem, F]) (0, .slice none 0 0) ?_ ?_ ?_ ?_
    · exact Nat.zero_le _
    · exact ⟨rfl, rfl, trivial⟩
    · exact fun w s => Ent.kept .auto w s
    rintro ⟨k, u⟩ hk
    simp only at hk
    refine .s (.r (.p (.lss rfl rfl) (.n (.t (.s (.condD rfl (fun h23 => ?_) (fun h23 => ?_)))))))
    · refine .v (.t (.s (.b (.s (.r ?_)))))
      obtain ⟨w, hw⟩ := at_some (show k < x.wait.length by omega)
      refine .p (.ix _ rfl rfl rfl (by first | omega | decide)) ?_
      refine .p (.la rfl (Cells.rd Rd.s ‹_›)) ?_
      refine .does rfl (Does.alloc rfl zeroValue229 rfl) ?_
      rintro _ _ ⟨b10, rfl, rfl⟩
      refine .does rfl (Does.sta (by exact sizeOf229) rfl rfl rfl (by rfl)) ?_
      rintro _ _ ⟨rfl, rfl⟩
      refine .n (.t (.r (.p (.m rfl) (.p (.z rfl) (.p (.l rfl) ?_)))))
      refine .does rfl (Does.bsl 3 rfl rfl (by kernel_rfl)) ?_
      rintro _ _ ⟨b29, rfl, rfl⟩
      refine .does rfl (Does.app1 (enc := intE) (k := 1) w.who rfl underlying23 underlying23 typeInfo3 rfl rfl rfl (by decide) rfl rfl rfl .auto rfl .auto (by rw [List.length_take, List.length_map]; omega) rfl) ?_
      rintro _ _ ⟨v30, rfl, rfl⟩
      refine .p (.a rfl) (.n (.b (.t (.r ?_))))
      refine .p (.inc rfl rfl (by omega)) ?_
      refine .p (.m rfl) (.n ?_)
      refine .againK (k + 1, v30) .auto rfl ?_ ?_ ?_ ?_
      · show x.wait.length - (k + 1) < x.wait.length - k; omega
      · show k + 1 ≤ _; omega
      · exact ⟨rfl, rfl, trivial⟩
      · show ∀ w, Sat _ w _ → Sat _ w (seps [sl intE 1 v30 ((x.wait.map (·.who)).take (k + 1)), _, _, _, _, _, _, F])
        rw [take_snoc (show (x.wait.map (·.who))[k]? = some w.who by rw [List.getElem?_map, hw]; rfl)]
        exact fun w s => Ent.kept .auto w s
    · refine .x (.tx (.tx (.bh (.t (.s (.r (.p (.m rfl) (.p (.a rfl) (.n (.t (.e ?_)))))))))))
      obtain rfl : k = x.wait.length := by omega
      rw [List.take_of_length_le (by simp)]
      refine .to (A := mtxsH vm g.mtx) (Bs := [mtxAt (blk vm) (ofs vm + n * 3) x, mtxR vm g.mtx n]) .auto (mtx_back hx) ?_
      refine .ret1 rfl rfl fun w s => ⟨_, ?_, trivial, finE .auto s⟩
      rfl

end Go.SLYtpcjdohmjmeehaaGreat
namespace Go.SLYtpcjdohmjmeehaaGreat
open Go Go.RowKit Go.Proofs Go.Proofs.Tryz

set_option maxRecDepth 20000 in
theorem putter_f {W : World} {A : HProp} {x : Ptr} {c : Nat} {who : Int} : Fn Tryz.prog W 235 [.agg (putE x).toArray, ptr c] [seps [arr c 0 [.int .i64 who], A]] Unit (fun _ => .bool (decide (x.who = who))) (fun _ => True) (fun _ => [seps [arr c 0 [.int .i64 who], A]]) := by
  refine Fn.intro (N := 8) func235 rfl ntmps235 rfl fun F => ?_
  show GoC _ _ _ _ _ _ [seps [arr c 0 [.int .i64 who], A], F]
  refine .ungrp .auto ?_
  refine .s (.r ?_)
  refine .does rfl (Does.box rfl rfl rfl) ?_
  rintro _ _ ⟨b2, rfl, rfl⟩
  refine .p (.a rfl) (.n (.t (.s (.r (.p (.z rfl) (.p (.l rfl) (.p (.l rfl) (.p (.eql rfl rfl) (.p (.a rfl) (.n (.t (.e (.ret1 rfl rfl fun w s => ⟨(), ?_, trivial, finE .auto s⟩)))))))))))))
  rfl

set_option maxRecDepth 20000 in
theorem tube_waits {W : World} {b : Nat} {t : Tub} {who : Int} (hl : TubLen t) : Fn Tryz.prog W 206 [ptr b, .int .i64 who] [tubH b t] Unit (fun _ => .bool (t.waits who)) (fun _ => True) (fun _ => [tubH b t]) := by
  refine Fn.intro (N := 19) func206 rfl ntmps206 rfl fun F => ?_
  show GoC _ _ _ _ _ _ [tubH b t, F]
  refine .o3 (C := tubH b t) .auto rfl ?_
  rintro vw vp vg -
  obtain ⟨hl1, hl2, hl3⟩ := hl
  refine .s (.r ?_)
  refine .does rfl (Does.box rfl rfl rfl) ?_
  rintro _ _ ⟨b3, rfl, rfl⟩
  refine .p (.a rfl) (.n (.t (.s ?_)))
  refine .draw [] [1, 1, 1, 1, 1, 3, 1, 1, 1, 1, 1, 1, 3, 1, 1] rfl (by kernel_rfl) ?_
  refine .p (.m rfl) (.p (.n rfl) (.p (.f rfl) (.p (.l rfl) (.p (.l rfl) ?_))))
  refine .d3 rfl (Does.callE rfl call233 rfl (ContainsI (A := sl intE 1 vg t.gets) (Rd.sl .here) (by omega)) .auto) ?_
  rintro _ _ ⟨⟨⟩, -, rfl, rfl⟩
  refine .p (.m rfl) ?_
  apply GoK.segO 7 18 11 [11, 12, 13, 14, 15, 16, 17, 18] rfl
  · intro h11
    refine .g (.m rfl) (.g (.n rfl) (.g (.f rfl) (.g (.l rfl) (.g (.makeFunc rfl rfl) ?_))))
    refine .dg rfl rfl rfl (Does.callE rfl call234 rfl (ContainsFuncP (A := seps [arr b3 0 [.int .i64 who], sl putE 2 vp t.puts]) (p := fun p => decide (p.who = who)) (Rd.grp (Rd.sl (.there .here))) (by omega) call235 (fun x _ => putter_f)) .auto) ?_
    rintro _ _ ⟨⟨⟩, -, rfl, rfl⟩
    refine .ungrp .auto ?_
    refine .p (.u rfl rfl) (.n ?_)
    refine .seg .auto rfl (by first | exact fun _ h => h | exact Ent.kept .auto)
  · intro h11
    refine .w (.w (.w (.w (.w ?_))))
    refine .dskip rfl rfl rfl rfl ?_
    refine .p (.t rfl rfl) (.n ?_)
    refine .seg .auto rfl (by first | exact fun _ h => h | exact Ent.kept .auto)
  refine .p (.a rfl) (.n (.t (.e (.ret1 rfl rfl fun w s => ⟨(), ?_, trivial, finE .auto s⟩))))
  rfl

set_option maxRecDepth 20000 in
theorem firstI {W : World} {b i : Nat} {cs : List Value} {v : Value} {xs : List Int} {x : Int} (hi : cs[i]? = some v) (hx : xs[0]? = some x) (hl : xs.length ≤ 1000000) : Fn Tryz.prog W 207 [.pointer (some ⟨b, i, none⟩)] [arr b 0 cs, sl intE 1 v xs] Value (fun _ => .int .i64 x) (fun _ => True) (fun u => [arr b 0 (cs.set i u), sl intE 1 u (xs.eraseIdx 0)]) := by
  refine Fn.intro (N := 16) func207 rfl ntmps207 rfl fun F => ?_
  show GoC _ _ _ _ _ _ [arr b 0 cs, sl intE 1 v xs, F]
  have hil := (List.getElem?_eq_some_iff.1 hi).1
  have hxl := (List.getElem?_eq_some_iff.1 hx).1
  refine .s (.r (.p (.a rfl) (.n (.t (.s (.r (.p (.m rfl) (.p (.n rfl) ?_))))))))
  refine .p (.ld rfl (Cell.a hi)) ?_
  refine .p (.ix _ rfl rfl rfl (by first | omega | decide)) ?_
  refine .p (.lr rfl ‹_›) ?_
  refine .p (.a rfl) (.n (.t (.s (.r (.p (.m rfl) (.p (.m rfl) (.p (.n rfl) ?_)))))))
  refine .p (.ld rfl (Cell.a hi)) ?_
  refine .does rfl (Does.callE rfl call236 rfl (DeleteI (i := 0) hxl (by omega)) .auto) ?_
  rintro _ _ ⟨u13, -, rfl, rfl⟩
  refine .p (.n rfl) ?_
  refine .does rfl (Does.stS sizeOf23 rfl rfl (Nat.blt_eq.mpr hil)) ?_
  rintro _ _ ⟨rfl, rfl⟩
  refine .n (.t (.s (.r (.p (.m rfl) (.p (.a rfl) (.n (.t (.e (.ret1 rfl rfl fun w s => ⟨u13, ?_, trivial, finE .auto s⟩)))))))))
  rfl

set_option maxRecDepth 20000 in
theorem firstW {W : World} {b i : Nat} {cs : List Value} {v : Value} {xs : List Int} {x : Int} (hi : cs[i]? = some v) (hx : xs[0]? = some x) (hl : xs.length ≤ 1000000) : Fn Tryz.prog W 208 [.pointer (some ⟨b, i, none⟩)] [arr b 0 cs, sl wrdE 1 v xs] Value (fun _ => .int .u64 x) (fun _ => True) (fun u => [arr b 0 (cs.set i u), sl wrdE 1 u (xs.eraseIdx 0)]) := by
  refine Fn.intro (N := 16) func208 rfl ntmps208 rfl fun F => ?_
  show GoC _ _ _ _ _ _ [arr b 0 cs, sl wrdE 1 v xs, F]
  have hil := (List.getElem?_eq_some_iff.1 hi).1
  have hxl := (List.getElem?_eq_some_iff.1 hx).1
  refine .s (.r (.p (.a rfl) (.n (.t (.s (.r (.p (.m rfl) (.p (.n rfl) ?_))))))))
  refine .p (.ld rfl (Cell.a hi)) ?_
  refine .p (.ix _ rfl rfl rfl (by first | omega | decide)) ?_
  refine .p (.lr rfl ‹_›) ?_
  refine .p (.a rfl) (.n (.t (.s (.r (.p (.m rfl) (.p (.m rfl) (.p (.n rfl) ?_)))))))
  refine .p (.ld rfl (Cell.a hi)) ?_
  refine .does rfl (Does.callE rfl call237 rfl (DeleteW (i := 0) hxl (by omega)) .auto) ?_
  rintro _ _ ⟨u13, -, rfl, rfl⟩
  refine .p (.n rfl) ?_
  refine .does rfl (Does.stS sizeOf51 rfl rfl (Nat.blt_eq.mpr hil)) ?_
  rintro _ _ ⟨rfl, rfl⟩
  refine .n (.t (.s (.r (.p (.m rfl) (.p (.a rfl) (.n (.t (.e (.ret1 rfl rfl fun w s => ⟨u13, ?_, trivial, finE .auto s⟩)))))))))
  rfl

set_option maxRecDepth 20000 in
theorem firstP {W : World} {b i : Nat} {cs : List Value} {v : Value} {xs : List Ptr} {x : Ptr} (hi : cs[i]? = some v) (hx : xs[0]? = some x) (hl : xs.length ≤ 1000000) : Fn Tryz.prog W 209 [.pointer (some ⟨b, i, none⟩)] [arr b 0 cs, sl putE 2 v xs] Value (fun _ => .agg (putE x).toArray) (fun _ => True) (fun u => [arr b 0 (cs.set i u), sl putE 2 u (xs.eraseIdx 0)]) := by
  refine Fn.intro (N := 16) func209 rfl ntmps209 rfl fun F => ?_
  show GoC _ _ _ _ _ _ [arr b 0 cs, sl putE 2 v xs, F]
  have hil := (List.getElem?_eq_some_iff.1 hi).1
  have hxl := (List.getElem?_eq_some_iff.1 hx).1
  refine .s (.r ?_)
  refine .does rfl (Does.alloc rfl zeroValue301 rfl) ?_
  rintro _ _ ⟨b2, rfl, rfl⟩
  refine .n (.t (.s (.r (.p (.m rfl) (.p (.n rfl) ?_)))))
  refine .p (.ld rfl (Cell.a hi)) ?_
  refine .p (.ix _ rfl rfl rfl (by first | omega | decide)) ?_
  refine .p (.la rfl (Cells.rd Rd.s ‹_›)) ?_
  refine .does rfl (Does.alloc rfl zeroValue301 rfl) ?_
  rintro _ _ ⟨b3, rfl, rfl⟩
  refine .does rfl (Does.sta (by exact sizeOf301) rfl rfl rfl (by rfl)) ?_
  rintro _ _ ⟨rfl, rfl⟩
  refine .n (.t (.s (.r (.p (.m rfl) (.p (.m rfl) (.p (.n rfl) ?_))))))
  refine .p (.ld rfl (Cell.a hi)) ?_
  refine .does rfl (Does.callE rfl call238 rfl (DeleteP (i := 0) hxl (by omega)) .auto) ?_
  rintro _ _ ⟨u13, -, rfl, rfl⟩
  refine .p (.n rfl) ?_
  refine .does rfl (Does.stS sizeOf179 rfl rfl (Nat.blt_eq.mpr hil)) ?_
  rintro _ _ ⟨rfl, rfl⟩
  refine .n (.t (.s (.r (.p (.lA rfl) ?_))))
  refine .does rfl (Does.sta (by exact sizeOf301) rfl rfl rfl (by rfl)) ?_
  rintro _ _ ⟨rfl, rfl⟩
  refine .n (.t (.e ?_))
  refine .retC rfl rfl isAgg301 (by exact sizeOf301) Cells.a fun w s => ⟨u13, ?_, trivial, finE .auto s⟩
  rfl

set_option maxRecDepth 20000 in
theorem tube_Put {W : World} {b : Nat} {t : Tub} {who : Int} (hl : TubLen t) {x : Int} : Fn Tryz.prog W 162 [ptr b, .int .i64 who, .int .u64 x] [tubH b t] Unit (fun _ => .tuple #[.bool (t.put who x).1, .int .i64 (t.put who x).2.1, .bool (t.put who x).2.2.1]) (fun _ => True) (fun _ => [tubH b (t.put who x).2.2.2]) := by
  refine Fn.intro (N := 61) func162 rfl ntmps162 rfl fun F => ?_
  show GoC _ _ _ _ _ _ [tubH b t, F]
  refine .s (.r (.p (.a rfl) (.p (.a rfl) (.p (.a rfl) (.n (.t (.s (.b (.s (.r (.p (.m rfl) (.p (.eqp rfl rfl) (.p (.m rfl) (.g (.m rfl) (.g (.m rfl) ?_)))))))))))))))
  refine .dg rfl rfl rfl (Does.callE rfl call206 rfl (tube_waits hl) .auto) ?_
  rintro _ _ ⟨⟨⟩, -, rfl, rfl⟩
  refine .p (.u rfl rfl) (.p (.a rfl) (.n (.t (.cond rfl (fun h9 => ?_) (fun h9 => ?_)))))
  · refine .s (.r (.p (.a rfl) (.p (.a rfl) (.p (.a rfl) (.n (.t (.e (.br (.tr ?_)))))))))
    rw [put_waits h9]
    refine .ret3 rfl rfl rfl rfl fun w s => ⟨(), ?_, trivial, finE .auto s⟩
    rfl
  · refine .s (.r ?_)
    refine .o3 (C := tubH b t) .auto rfl ?_
    rintro vw vp vg -
    obtain ⟨hl1, hl2, hl3⟩ := hl
    refine .p (.m rfl) (.p (.n rfl) (.p (.f rfl) (.p (.l rfl) (.p (.len rfl) (.p (.gtr rfl rfl) (.p (.a rfl) (.n (.t (.condD rfl (fun h17 => ?_) (fun h17 => ?_))))))))))
    · refine .s (.r ?_)
      obtain ⟨w, r, hw⟩ := cons_of (l := t.gets) (by omega)
      refine .p (.m rfl) (.p (.n rfl) (.p (.f rfl) ?_))
      refine .does rfl (Does.callE rfl call207 rfl (firstI (i := 3) (v := vg) (xs := t.gets) (x := w) rfl (by rw [hw]; rfl) (by omega)) .auto) ?_
      rintro _ _ ⟨u27, -, rfl, rfl⟩
      rw [show t.gets.eraseIdx 0 = r from by rw [hw]; rfl]
      refine .p (.a rfl) (.p (.a rfl) (.p (.a rfl) (.n (.t (.e (.br (.tr ?_)))))))
      rw [put_get h9 hw]
      refine .ret3 rfl rfl rfl rfl fun w s => ⟨(), ?_, trivial, finE .auto s⟩
      rfl
    · refine .s ?_
      refine .draw [] [1, 1, 1, 1, 1, 1, 1, 1, 1, 1, 1] rfl (by kernel_rfl) ?_
      have hg0 : t.gets = [] := nil_of (by omega)
      refine .p (.m rfl) (.p (.n rfl) (.p (.f rfl) (.p (.l rfl) (.p (.len rfl) (.p (.m rfl) ?_)))))
      refine .p (.n rfl) (.p (.z rfl) (.p (.l rfl) (.p (.lss rfl rfl) (.p (.a rfl) (.n (.t (.condD rfl (fun h28 => ?_) (fun h28 => ?_))))))))
      · refine .s (.r (.p (.m rfl) (.p (.m rfl) (.p (.n rfl) (.p (.f rfl) (.p (.l rfl) (.p (.m rfl) ?_)))))))
        refine .does rfl (Does.bsl 43 rfl rfl (by kernel_rfl)) ?_
        rintro _ _ ⟨b45, rfl, rfl⟩
        refine .does rfl (Does.app1 (enc := wrdE) (k := 1) x rfl underlying51 underlying51 typeInfo43 rfl rfl rfl (by decide) rfl rfl rfl .auto rfl .auto (by omega) rfl) ?_
        rintro _ _ ⟨v46, rfl, rfl⟩
        refine .p (.n rfl) (.p (.f rfl) ?_)
        refine .does rfl (Does.stS sizeOf51 rfl rfl rfl) ?_
        rintro _ _ ⟨rfl, rfl⟩
        refine .n (.t (.s (.r (.p (.a rfl) (.p (.a rfl) (.p (.a rfl) (.n (.t (.e (.br (.tr ?_)))))))))))
        rw [put_room h9 hg0 h28]
        refine .ret3 rfl rfl rfl rfl fun w s => ⟨(), ?_, trivial, finE .auto s⟩
        rfl
      · refine .v (.b (.t (.s (.r (.p (.m rfl) (.p (.m rfl) (.p (.n rfl) (.p (.f rfl) (.p (.l rfl) (.p (.m rfl) (.p (.m rfl) ?_)))))))))))
        refine .p (.bld2 (fun v1 v2 => [v1, v2]) rfl rfl (by kernel_rfl)) ?_
        refine .does rfl (Does.bsl 301 rfl rfl (by kernel_rfl)) ?_
        rintro _ _ ⟨b57, rfl, rfl⟩
        refine .does rfl (Does.app1 (enc := putE) (k := 2) (⟨who, x⟩ : Ptr) rfl underlying179 underlying179 typeInfo301 rfl rfl rfl (by decide) rfl rfl rfl .auto rfl .auto (by omega) rfl) ?_
        rintro _ _ ⟨v58, rfl, rfl⟩
        refine .p (.n rfl) (.p (.f rfl) ?_)
        refine .does rfl (Does.stS sizeOf179 rfl rfl rfl) ?_
        rintro _ _ ⟨rfl, rfl⟩
        refine .n (.t (.s (.r (.p (.a rfl) (.p (.a rfl) (.p (.a rfl) (.n (.t (.e ?_)))))))))
        rw [put_full h9 hg0 h28]
        refine .ret3 rfl rfl rfl rfl fun w s => ⟨(), ?_, trivial, finE .auto s⟩
        rfl

set_option maxRecDepth 20000 in
theorem tube_Get {W : World} {b : Nat} {t : Tub} {who : Int} (hl : TubLen t) : Fn Tryz.prog W 163 [ptr b, .int .i64 who] [tubH b t] Unit (fun _ => .tuple #[.int .u64 (t.get who).1, .bool (t.get who).2.1, .int .i64 (t.get who).2.2.1, .bool (t.get who).2.2.2.1]) (fun _ => True) (fun _ => [tubH b (t.get who).2.2.2.2]) := by
  refine Fn.intro (N := 64) func163 rfl ntmps163 rfl fun F => ?_
  show GoC _ _ _ _ _ _ [tubH b t, F]
  refine .s (.r (.p (.a rfl) (.p (.a rfl) (.p (.a rfl) (.p (.a rfl) (.n (.t (.s (.b (.s (.r (.p (.m rfl) (.p (.eqp rfl rfl) (.p (.m rfl) (.g (.m rfl) (.g (.m rfl) ?_))))))))))))))))
  refine .dg rfl rfl rfl (Does.callE rfl call206 rfl (tube_waits hl) .auto) ?_
  rintro _ _ ⟨⟨⟩, -, rfl, rfl⟩
  refine .p (.u rfl rfl) (.p (.a rfl) (.n (.t (.cond rfl (fun h10 => ?_) (fun h10 => ?_)))))
  · refine .s (.r (.p (.a rfl) (.p (.a rfl) (.p (.a rfl) (.p (.a rfl) (.n (.t (.e (.br (.tr ?_))))))))))
    rw [get_waits h10]
    refine .ret4 rfl rfl rfl rfl rfl fun w s => ⟨(), ?_, trivial, finE .auto s⟩
    rfl
  · refine .s (.r ?_)
    refine .o3 (C := tubH b t) .auto rfl ?_
    rintro vw vp vg -
    obtain ⟨hl1, hl2, hl3⟩ := hl
    refine .p (.m rfl) (.p (.n rfl) (.p (.f rfl) (.p (.l rfl) (.p (.len rfl) (.p (.eql rfl rfl) (.p (.a rfl) (.n (.t (.condD rfl (fun h18 => ?_) (fun h18 => ?_))))))))))
    · refine .s (.r ?_)
      have hw0 : t.words = [] := nil_of (by omega)
      refine .p (.m rfl) (.p (.m rfl) (.p (.n rfl) (.p (.f rfl) (.p (.l rfl) (.p (.m rfl) ?_)))))
      refine .does rfl (Does.bsl 3 rfl rfl (by kernel_rfl)) ?_
      rintro _ _ ⟨b31, rfl, rfl⟩
      refine .does rfl (Does.app1 (enc := intE) (k := 1) who rfl underlying23 underlying23 typeInfo3 rfl rfl rfl (by decide) rfl rfl rfl .auto rfl .auto (by omega) rfl) ?_
      rintro _ _ ⟨v32, rfl, rfl⟩
      refine .p (.n rfl) (.p (.f rfl) ?_)
      refine .does rfl (Does.stS sizeOf23 rfl rfl rfl) ?_
      rintro _ _ ⟨rfl, rfl⟩
      refine .n (.t (.s (.r (.p (.a rfl) (.p (.a rfl) (.p (.a rfl) (.p (.a rfl) (.n (.t (.e (.br (.tr ?_))))))))))))
      rw [get_none h10 hw0]
      refine .ret4 rfl rfl rfl rfl rfl fun w s => ⟨(), ?_, trivial, finE .auto s⟩
      rfl
    · refine .v (.b (.t (.s (.r ?_))))
      obtain ⟨x, r, hw⟩ := cons_of (l := t.words) (by omega)
      refine .p (.m rfl) (.p (.n rfl) (.p (.f rfl) ?_))
      refine .does rfl (Does.callE rfl call208 rfl (firstW (i := 1) (v := vw) (xs := t.words) (x := x) rfl (by rw [hw]; rfl) (by omega)) .auto) ?_
      rintro _ _ ⟨u38, -, rfl, rfl⟩
      rw [show t.words.eraseIdx 0 = r from by rw [hw]; rfl]
      refine .p (.a rfl) (.n (.t (.s (.s (.r (.p (.m rfl) (.p (.n rfl) (.p (.f rfl) (.p (.l rfl) (.p (.len rfl) (.p (.eql rfl rfl) (.n (.t (.condD rfl (fun h44 => ?_) (fun h44 => ?_)))))))))))))))
      · refine .s (.r (.p (.m rfl) (.p (.a rfl) (.p (.a rfl) (.p (.a rfl) (.p (.a rfl) (.n (.t (.e (.tr ?_))))))))))
        rw [get_one h10 hw (nil_of (by omega))]
        refine .ret4 rfl rfl rfl rfl rfl fun w s => ⟨(), ?_, trivial, finE .auto s⟩
        rfl
      · refine .v (.t (.s (.r ?_)))
        obtain ⟨p, q, hp⟩ := cons_of (l := t.puts) (by omega)
        refine .p (.m rfl) (.p (.n rfl) (.p (.f rfl) ?_))
        refine .does rfl (Does.callE rfl call209 rfl (firstP (i := 2) (v := vp) (xs := t.puts) (x := p) rfl (by rw [hp]; rfl) (by omega)) .auto) ?_
        rintro _ _ ⟨u49, -, rfl, rfl⟩
        rw [show t.puts.eraseIdx 0 = q from by rw [hp]; rfl]
        refine .does rfl (Does.alloc rfl zeroValue301 rfl) ?_
        rintro _ _ ⟨b9, rfl, rfl⟩
        refine .does rfl (Does.sta (by exact sizeOf301) rfl rfl rfl (by rfl)) ?_
        rintro _ _ ⟨rfl, rfl⟩
        refine .n (.t (.s ?_))
        refine .draw [arr b 0 [.int .i64 t.room, u38, u49, vg], arr b9 0 (putE p)] [0, 0, 0, 0, 0, 1, 1, 2, 2, 1, 1, 3] rfl (by kernel_rfl) ?_
        refine .q (.m rfl) (.q (.m rfl) (.q (.n rfl) (.q (.f rfl) (.q (.l rfl) (.p (.f rfl) (.p (.l rfl) ?_))))))
        refine .d2 rfl Kept.auto (Does.bsl 43 rfl rfl (by kernel_rfl)) (by rintro _ _ ⟨b57, rfl, rfl⟩; exact Kept.auto) ?_
        rintro _ _ ⟨b57, rfl, rfl⟩
        refine .d2 rfl Kept.auto (Does.app1 (enc := wrdE) (k := 1) p.x rfl underlying51 underlying51 typeInfo43 rfl rfl rfl (by decide) rfl rfl rfl .auto rfl .auto (by have h5 : r.length + 1 = t.words.length := (by rw [hw]; rfl); omega) rfl) (by rintro _ _ ⟨v58, rfl, rfl⟩; exact Kept.auto) ?_
        rintro _ _ ⟨v58, rfl, rfl⟩
        refine .p (.n rfl) (.p (.f rfl) ?_)
        refine .d3 rfl (Does.stS sizeOf51 rfl rfl rfl) ?_
        rintro _ _ ⟨rfl, rfl⟩
        refine .n (.t (.s ?_))
        refine .draw [] [1, 1, 1, 1, 1, 1, 1] rfl (by kernel_rfl) ?_
        refine .p (.m rfl) (.p (.z rfl) (.p (.l rfl) (.p (.a rfl) (.p (.a rfl) (.p (.a rfl) (.p (.a rfl) (.n (.t (.e ?_)))))))))
        rw [get_two h10 hw hp]
        refine .ret4 rfl rfl rfl rfl rfl fun w s => ⟨(), ?_, trivial, finE .auto s⟩
        rfl

set_option maxRecDepth 20000 in
theorem disk_rest {W : World} {k : Int} {n : Nat} (hn : 0 < n) (hl : n ≤ 1000000000) : Fn Tryz.prog W 98 [.int .i64 k, .int .i64 (n : Int)] [] Unit (fun _ => .int .i64 ((pick k n : Nat) : Int)) (fun _ => True) (fun _ => []) := by
  refine Fn.intro (N := 12) func98 rfl ntmps98 rfl fun F => ?_
  show GoC _ _ _ _ _ _ [F]
  refine .s (.r (.p (.a rfl) (.n (.t (.s (.r (.p (.m rfl) (.p (.m rfl) ?_))))))))
  refine .p (.rem rfl rfl (by omega)) ?_
  refine .p (.m rfl) ?_
  refine .p (.add rfl rfl (pick_bd hn hl)) ?_
  refine .p (.m rfl) ?_
  refine .p (.valW (Y.rem rfl rfl (by omega)) (pick_int hn)) ?_
  refine .p (.a rfl) (.n (.t (.e (.ret1 rfl rfl fun w s => ⟨(), ?_, trivial, finE .auto s⟩))))
  rfl

set_option maxRecDepth 20000 in
theorem ask_f {W : World} {A : HProp} {x r : Rqs} {c : Nat} : Fn Tryz.prog W 205 [.agg (rqsE x).toArray, ptr c] [seps [arr c 0 (rqsE r), A]] Unit (fun _ => .bool (decide (x.who = r.who))) (fun _ => True) (fun _ => [seps [arr c 0 (rqsE r), A]]) := by
  refine Fn.intro (N := 9) func205 rfl ntmps205 rfl fun F => ?_
  show GoC _ _ _ _ _ _ [seps [arr c 0 (rqsE r), A], F]
  refine .ungrp .auto ?_
  refine .s (.r ?_)
  refine .does rfl (Does.box rfl rfl rfl) ?_
  rintro _ _ ⟨b2, rfl, rfl⟩
  refine .mem (H' := [arr b2 0 (rqsE x), arr c 0 (rqsE r), A, F]) (fun w s => s) ?_
  refine .p (.a rfl) (.n (.t (.s (.r (.p (.z rfl) (.p (.l rfl) (.p (.z rfl) (.p (.l rfl) (.p (.eql rfl rfl) (.p (.a rfl) (.n (.t (.e (.ret1 rfl rfl fun w s => ⟨(), ?_, trivial, finE .auto s⟩))))))))))))))
  rfl

set_option maxRecDepth 20000 in
theorem disk_Ask {W : World} {b : Nat} {d : Dsk} {r : Rqs} (hl : d.wait.length ≤ 1000000) : Fn Tryz.prog W 161 [ptr b, .agg (rqsE r).toArray] [dskH b d] Unit (fun _ => .int .i64 (d.ask r).1) (fun _ => True) (fun _ => [dskH b (d.ask r).2]) := by
  refine Fn.intro (N := 40) func161 rfl ntmps161 rfl fun F => ?_
  show GoC _ _ _ _ _ _ [dskH b d, F]
  refine .o2 (C := dskH b d) .auto rfl ?_
  rintro vb vw -
  refine .s (.r ?_)
  refine .does rfl (Does.box rfl rfl rfl) ?_
  rintro _ _ ⟨b3, rfl, rfl⟩
  refine .mem (H' := [arr b3 0 (rqsE r), arr b 0 [vb, vw], sl wrdE 1 vb d.blocks, sl rqsE 4 vw d.wait, F]) (fun w s => s) ?_
  refine .p (.a rfl) (.n (.t (.s (.b (.s ?_)))))
  refine .draw [] [1, 1, 1, 1, 1, 1, 1, 1, 1, 1, 1, 1, 1, 1, 1, 1, 1, 1] rfl (by kernel_rfl) ?_
  refine .p (.m rfl) (.p (.eqp rfl rfl) (.p (.m rfl) (.g (.f rfl) (.g (.l rfl) (.g (.lss rfl rfl) (.p (.u rfl rfl) (.p (.m rfl) ?_)))))))
  apply GoK.segOD 9 22 13 [13, 14, 15, 16, 17, 18, 19, 20, 21, 22] rfl
  · intro h13
    refine .g (.f rfl) (.g (.l rfl) (.g (.m rfl) ?_))
    refine .g (.n rfl) (.g (.z rfl) (.g (.l rfl) (.g (.len rfl) (.g (.geq rfl rfl) (.p (.u rfl rfl) (.n ?_))))))
    refine .seg .auto rfl (by first | exact fun _ h => h | exact Ent.kept .auto)
  · intro h13
    refine .w (.w (.w (.w (.w (.w (.w (.w (.p (.t rfl rfl) (.n ?_)))))))))
    refine .seg .auto rfl (by first | exact fun _ h => h | exact Ent.kept .auto)
  refine .p (.a rfl) (.n (.t (.cond rfl (fun h5 => ?_) (fun h5 => ?_))))
  · refine .s (.r (.p (.a rfl) (.n (.t (.e (.br (.tr ?_)))))))
    rw [ask_arg h5]
    refine .ret1 rfl rfl fun w s => ⟨(), ?_, trivial, finE .auto s⟩
    rfl
  · refine .s (.r (.p (.m rfl) (.p (.n rfl) (.p (.f rfl) (.p (.l rfl) (.p (.makeFunc rfl rfl) ?_))))))
    refine .does rfl (Does.callE rfl call204 rfl (ContainsFuncQ (A := seps [arr b3 0 (rqsE r), sl rqsE 4 vw d.wait]) (p := fun x => decide (x.who = r.who)) (Rd.grp (Rd.sl (.there .here))) (by omega) call205 (fun x _ => ask_f)) .auto) ?_
    rintro _ _ ⟨⟨⟩, -, rfl, rfl⟩
    refine .ungrp .auto ?_
    refine .p (.a rfl) (.n (.t (.cond rfl (fun h23 => ?_) (fun h23 => ?_))))
    · refine .s (.r (.p (.a rfl) (.n (.t (.e (.br (.tr ?_)))))))
      rw [ask_busy h5 h23]
      refine .ret1 rfl rfl fun w s => ⟨(), ?_, trivial, finE .auto s⟩
      rfl
    · refine .v (.b (.t (.s ?_)))
      refine .draw [arr b 0 [vb, vw], arr b3 0 (rqsE r)] [0, 0, 0, 0, 0, 1, 2, 2, 1, 1, 3] rfl (by kernel_rfl) ?_
      refine .q (.m rfl) (.q (.m rfl) (.q (.n rfl) (.q (.f rfl) (.q (.l rfl) (.p (.lA rfl) ?_)))))
      refine .d2 rfl Kept.auto (Does.bsl 142 rfl rfl (by kernel_rfl)) (by rintro _ _ ⟨b36, rfl, rfl⟩; exact Kept.auto) ?_
      rintro _ _ ⟨b36, rfl, rfl⟩
      refine .mem (H' := [arr b36 0 (rqsE r), arr b3 0 (rqsE r), sl rqsE 4 vw d.wait, arr b 0 [vb, vw], sl wrdE 1 vb d.blocks, F]) (fun w s => s) ?_
      refine .d2 rfl Kept.auto (Does.app1 (enc := rqsE) (k := 4) r rfl underlying173 underlying173 typeInfo142 rfl rfl rfl (by decide) rfl rfl rfl .auto rfl .auto (by omega) rfl) (by rintro _ _ ⟨v37, rfl, rfl⟩; exact Kept.auto) ?_
      rintro _ _ ⟨v37, rfl, rfl⟩
      refine .p (.n rfl) (.p (.f rfl) ?_)
      refine .d3 rfl (Does.stS sizeOf173 rfl rfl rfl) ?_
      rintro _ _ ⟨rfl, rfl⟩
      refine .n (.t (.s (.r (.p (.a rfl) (.n (.t (.e ?_)))))))
      rw [ask_go h5 h23]
      refine .ret1 rfl rfl fun w s => ⟨(), ?_, trivial, finE .auto s⟩
      rfl

set_option maxRecDepth 20000 in
theorem disk_Done {W : World} {b : Nat} {d : Dsk} {k : Int} (hl : d.wait.length ≤ 1000000) (hb : ∀ r ∈ d.wait, 0 ≤ r.block ∧ r.block < (d.blocks.length : Int)) : Fn Tryz.prog W 67 [ptr b, .int .i64 k] [dskH b d] Unit (fun _ => .tuple #[.agg (rqsE (d.done k).1).toArray, .int .u64 (d.done k).2.1, .bool (d.done k).2.2.1]) (fun _ => True) (fun _ => [dskH b (d.done k).2.2.2]) := by
  refine Fn.intro (N := 66) func67 rfl ntmps67 rfl fun F => ?_
  show GoC _ _ _ _ _ _ [dskH b d, F]
  refine .o2 (C := dskH b d) .auto rfl ?_
  rintro vb vw -
  refine .s (.r ?_)
  refine .does rfl (Does.alloc rfl zeroValue142 rfl) ?_
  rintro _ _ ⟨b4, rfl, rfl⟩
  refine .p (.a rfl) (.p (.a rfl) (.n (.t (.s (.s (.r (.p (.m rfl) (.p (.eqp rfl rfl) (.p (.m rfl) (.g (.m rfl) (.g (.n rfl) (.g (.f rfl) (.g (.l rfl) (.g (.len rfl) (.g (.eql rfl rfl) (.p (.u rfl rfl) (.n (.t (.condD rfl (fun h18 => ?_) (fun h18 => ?_))))))))))))))))))))
  · refine .s (.r ?_)
    refine .p (.bld0 ([(.int .i64 0), (.int .i64 0), (.bool false), (.int .u64 0)]) (by kernel_rfl)) ?_
    refine .does rfl (Does.sta (by exact sizeOf142) rfl rfl rfl (by rfl)) ?_
    rintro _ _ ⟨rfl, rfl⟩
    refine .p (.a rfl) (.p (.a rfl) (.n (.t (.e (.tr ?_)))))
    rw [done_none (show d.wait.length = 0 by omega)]
    refine .retCTT rfl rfl isAgg142 (by exact sizeOf142) Cells.a rfl rfl fun w s => ⟨(), ?_, trivial, finE .auto s⟩
    rfl
  · refine .v (.t (.s (.r ?_)))
    have hpk : pick k d.wait.length < d.wait.length := pick_lt (by omega)
    have hr0 := getD_some (d := rqsZ) hpk
    obtain ⟨r, hr⟩ : ∃ r, d.wait.getD (pick k d.wait.length) rqsZ = r := ⟨_, rfl⟩
    rw [hr] at hr0
    have hbr := hb r (List.mem_of_getElem? hr0)
    refine .p (.m rfl) (.p (.m rfl) (.p (.n rfl) (.p (.f rfl) (.p (.l rfl) (.p (.len rfl) ?_)))))
    refine .does rfl (Does.callE rfl call98 rfl (disk_rest (by omega) (by omega)) .auto) ?_
    rintro _ _ ⟨⟨⟩, -, rfl, rfl⟩
    refine .p (.a rfl) (.n (.t (.s (.r (.p (.m rfl) (.p (.n rfl) (.p (.f rfl) (.p (.l rfl) (.p (.m rfl) ?_)))))))))
    refine .p (.ixRd (pick k d.wait.length) underlying173 sizeOf142 rfl rfl Rd.s rfl hpk) ?_
    refine .p (.la rfl (Cells.rd Rd.s hr0)) ?_
    refine .does rfl (Does.alloc rfl zeroValue142 rfl) ?_
    rintro _ _ ⟨b8, rfl, rfl⟩
    refine .does rfl (Does.sta (by exact sizeOf142) rfl rfl rfl (by rfl)) ?_
    rintro _ _ ⟨rfl, rfl⟩
    refine .n (.t (.s (.r (.p (.m rfl) (.p (.m rfl) (.p (.n rfl) (.p (.f rfl) (.p (.l rfl) (.p (.m rfl) (.p (.m rfl) ?_))))))))))
    refine .p (.inc rfl rfl (by omega)) ?_
    refine .does rfl (Does.callE rfl call99 rfl (DeleteQ hpk (by omega)) .auto) ?_
    rintro _ _ ⟨u42, -, rfl, rfl⟩
    refine .p (.n rfl) (.p (.f rfl) ?_)
    refine .does rfl (Does.stS sizeOf173 rfl rfl rfl) ?_
    rintro _ _ ⟨rfl, rfl⟩
    refine .n (.t (.s (.s (.r (.p (.f rfl) (.p (.l rfl) (.n (.t (.cond rfl (fun h46 => ?_) (fun h46 => ?_))))))))))
    · refine .s ?_
      refine .draw [] [1, 1, 1, 1, 1, 1, 1, 1, 1, 3] rfl (by kernel_rfl) ?_
      refine .p (.m rfl) (.p (.n rfl) (.p (.z rfl) (.p (.l rfl) (.p (.f rfl) (.p (.l rfl) (.p (.f rfl) (.p (.l rfl) ?_)))))))
      obtain ⟨y, hy⟩ := at_some (show r.block.toNat < d.blocks.length by omega)
      refine .p (.ix r.block.toNat rfl rfl (by omega) (by omega)) ?_
      refine .d3 rfl (Does.storeSl0 (x' := r.x) rfl rfl sizeOf43 rfl hy (by decide) rfl .auto) ?_
      rintro _ _ ⟨rfl, rfl⟩
      refine .n (.t (.s (.r (.p (.lA rfl) ?_))))
      refine .does rfl (Does.sta (by exact sizeOf142) rfl rfl rfl (by rfl)) ?_
      rintro _ _ ⟨rfl, rfl⟩
      refine .p (.a rfl) (.p (.a rfl) (.n (.t (.e (.tr ?_)))))
      rw [done_write (show ¬ d.wait.length = 0 by omega) hr h46]
      refine .retCTT rfl rfl isAgg142 (by exact sizeOf142) Cells.a rfl rfl fun w s => ⟨(), ?_, trivial, finE .auto s⟩
      rfl
    · refine .v (.t (.s ?_))
      refine .draw [arr b8 0 (rqsE r), arr b 0 [vb, u42], sl wrdE 1 vb d.blocks] [1, 0, 0, 0, 0, 0, 0, 0, 0, 2, 1, 1] rfl (by kernel_rfl) ?_
      refine .p (.lA rfl) (.q (.m rfl) ?_)
      refine .q (.n rfl) (.q (.z rfl) (.q (.l rfl) (.q (.f rfl) (.q (.l rfl) ?_))))
      have hy := getD_some (d := (0 : Int)) (show r.block.toNat < d.blocks.length by omega)
      refine .q (.ix r.block.toNat rfl rfl (by omega) (by omega)) ?_
      refine .q (.lr rfl ‹_›) ?_
      refine .d2 rfl Kept.auto (Does.sta (by exact sizeOf142) rfl rfl rfl (by rfl)) (by rintro _ _ ⟨rfl, rfl⟩; exact Kept.auto) ?_
      rintro _ _ ⟨rfl, rfl⟩
      refine .p (.a rfl) (.p (.a rfl) (.n (.t (.e ?_))))
      rw [done_read (show ¬ d.wait.length = 0 by omega) hr h46]
      refine .retCTT rfl rfl isAgg142 (by exact sizeOf142) Cells.a rfl rfl fun w s => ⟨(), ?_, trivial, finE .auto s⟩
      rfl

end Go.SLYtpcjdohmjmeehaaGreat
namespace Go.SLYtpcjdohmjmeehaaGreat
open Go Go.RowKit Go.MapKept

def entI (e : MapEntry) : Int × Int := (match e.key with | .int _ k => k | _ => 0, match e.val with | .int _ k => k | _ => 0)
theorem ok_ent {es : List MapEntry} {c : Nat} {l : List (Int × Int)} (h : mapOk es c l) : es.map entI = l ∧ ∀ e ∈ es, e.key = .int .i64 (entI e).1 ∧ e.val = .int .i64 (entI e).2 := by
  have h1 := h.1
  clear h
  induction es generalizing l with
  | nil =>
    cases l with
    | nil => exact ⟨rfl, fun e he => by cases he⟩
    | cons p l => cases h1
  | cons e es ih =>
    cases l with
    | nil => cases h1
    | cons p l =>
      simp only [List.map_cons, List.cons.injEq, Prod.mk.injEq] at h1
      obtain ⟨⟨hk, hv⟩, ht⟩ := h1
      obtain ⟨i1, i2⟩ := ih ht
      have e1 : entI e = p := by unfold entI; rw [hk, hv]
      refine ⟨by rw [List.map_cons, i1, e1], fun x hx => ?_⟩
      rcases List.mem_cons.1 hx with rfl | hx
      · rw [e1]; exact ⟨hk, hv⟩
      · exact i2 x hx
def findI (k : Int) : List (Int × Int) → Nat → Option (Nat × Value)
  | [], _ => none
  | p :: l, i => if k = p.1 then some (i, .int .i64 p.2) else findI k l (i + 1)
theorem find_now {k : Int} : ∀ {es : List MapEntry} {l : List (Int × Int)} {i : Nat}, es.map (fun e => (e.key, e.val)) = l.map (fun p => (Value.int .i64 p.1, Value.int .i64 p.2)) → Instr.findNow (.int .i64) (.int .i64 k) es i = some (findI k l i)
  | [], [], _, _ => rfl
  | [], _ :: _, _, h => by cases h
  | _ :: _, [], _, h => by cases h
  | e :: es, p :: l, i, h => by
    simp only [List.map_cons, List.cons.injEq, Prod.mk.injEq] at h
    obtain ⟨⟨hk, hv⟩, ht⟩ := h
    unfold Instr.findNow findI
    rw [hk, hv]
    by_cases e : k = p.1
    · subst e; simp [Instr.sameNow]
    · simp only [Instr.sameNow, if_pos, if_neg e]
      rw [show (k == p.1) = false from by simpa using e]
      exact find_now ht
theorem findI_get {k : Int} : ∀ (l : List (Int × Int)) (i : Nat), (findI k l i).map (·.2) = (mapGet l k).map (Value.int .i64)
  | [], _ => rfl
  | p :: l, i => by
    unfold findI mapGet
    rw [List.find?_cons]
    by_cases e : k = p.1
    · rw [if_pos e]; simp [e]
    · rw [if_neg e, show decide (p.1 = k) = false from by simpa using fun h => e h.symm]
      exact findI_get l (i + 1)
theorem findI_at {k : Int} : ∀ {l : List (Int × Int)} {i j : Nat} {v : Value}, findI k l i = some (j, v) → ∃ n v', j = i + n ∧ l[n]? = some (k, v') ∧ ∀ v'', mapSet l k v'' = l.set n (k, v'')
  | [], _, _, _, h => by cases h
  | p :: l, i, j, v, h => by
    unfold findI at h
    by_cases e : k = p.1
    · rw [if_pos e] at h; cases h
      exact ⟨0, p.2, rfl, by rw [e]; rfl, fun v'' => by rw [mapSet, if_pos e.symm]; rfl⟩
    · rw [if_neg e] at h
      obtain ⟨n, v', h1, h2, h3⟩ := findI_at h
      exact ⟨n + 1, v', by omega, by simpa using h2, fun v'' => by rw [mapSet, if_neg (fun h => e h.symm), h3]; rfl⟩
theorem findI_no {k : Int} : ∀ {l : List (Int × Int)} {i : Nat}, findI k l i = none → (∀ p ∈ l, p.1 ≠ k) ∧ ∀ v, mapSet l k v = l ++ [(k, v)]
  | [], _, _ => ⟨fun p hp => (by cases hp), fun v => rfl⟩
  | p :: l, i, h => by
    unfold findI at h
    by_cases e : k = p.1
    · rw [if_pos e] at h; cases h
    · rw [if_neg e] at h
      obtain ⟨h1, h2⟩ := findI_no h
      refine ⟨fun q hq => ?_, fun v => by rw [mapSet, if_neg (fun h => e h.symm), h2]; rfl⟩
      rcases List.mem_cons.1 hq with rfl | hq
      · exact fun h => e h.symm
      · exact h1 q hq
theorem mem_modify {α : Type} {l : List α} {n : Nat} {f : α → α} {x : α} (h : x ∈ l.modify n f) : x ∈ l ∨ ∃ y ∈ l, x = f y := by
  induction l generalizing n with
  | nil => simp at h
  | cons y l ih =>
    cases n with
    | zero =>
      rw [List.modify_zero_cons] at h
      rcases List.mem_cons.1 h with rfl | h
      · exact .inr ⟨y, by simp, rfl⟩
      · exact .inl (.tail _ h)
    | succ n =>
      rw [List.modify_succ_cons] at h
      rcases List.mem_cons.1 h with rfl | h
      · exact .inl (by simp)
      · rcases ih h with h | ⟨z, hz, rfl⟩
        · exact .inl (.tail _ h)
        · exact .inr ⟨z, .tail _ hz, rfl⟩
theorem map_modify {α β : Type} {l : List α} {n : Nat} {f : α → α} {g : α → β} (h : ∀ x, g (f x) = g x) : (l.modify n f).map g = l.map g := by
  induction l generalizing n with
  | nil => simp
  | cons y l ih =>
    cases n with
    | zero => simp [h]
    | succ n => simp [ih]
theorem map_modify_set {α β : Type} {l : List α} {n : Nat} {f : α → α} {g : α → β} {b : β} (h : ∀ x, g (f x) = b) : (l.modify n f).map g = (l.map g).set n b := by
  induction l generalizing n with
  | nil => simp
  | cons y l ih =>
    cases n with
    | zero => simp [h]
    | succ n => simp [ih]
theorem set_fst {l : List (Int × Int)} {n : Nat} {k v v' : Int} (h : l[n]? = some (k, v')) : (l.set n (k, v)).map (·.1) = l.map (·.1) := by
  rw [List.map_set]
  exact set_same (by rw [List.getElem?_map, h]; rfl)
theorem ok_set {es : List MapEntry} {c n : Nat} {l : List (Int × Int)} {k v v' : Int} (h : mapOk es c l) (hn : l[n]? = some (k, v')) :
    mapOk (es.modify n fun e => { e with key := .int .i64 k, val := .int .i64 v }) c (l.set n (k, v)) := by
  obtain ⟨h1, h2, h3, h4⟩ := h
  refine ⟨?_, by rw [set_fst hn]; exact h2, fun e he => ?_, ?_⟩
  · rw [map_modify_set (f := fun e : MapEntry => { e with key := .int .i64 k, val := .int .i64 v }) (g := fun e : MapEntry => (e.key, e.val)) (b := (Value.int .i64 k, Value.int .i64 v)) (fun _ => rfl), h1, List.map_set]
  · rcases mem_modify he with he | ⟨y, hy, rfl⟩
    · exact h3 e he
    · exact h3 y hy
  · rw [map_modify (f := fun e : MapEntry => { e with key := .int .i64 k, val := .int .i64 v }) (g := fun e : MapEntry => e.born) (fun _ => rfl)]; exact h4
theorem ok_push {es : List MapEntry} {c : Nat} {l : List (Int × Int)} {k v : Int} (h : mapOk es c l) (hn : ∀ p ∈ l, p.1 ≠ k) :
    mapOk (es ++ [{ key := .int .i64 k, val := .int .i64 v, born := c }]) (c + 1) (l ++ [(k, v)]) := by
  obtain ⟨h1, h2, h3, h4⟩ := h
  refine ⟨by simp [h1], ?_, fun e he => ?_, ?_⟩
  · rw [List.map_append, List.nodup_append]
    refine ⟨h2, by simp, fun a ha b hb => ?_⟩
    obtain ⟨p, hp, rfl⟩ := List.mem_map.1 ha
    simp only [List.map_cons, List.map_nil, List.mem_cons, List.not_mem_nil, or_false] at hb
    subst hb; exact hn p hp
  · rcases List.mem_append.1 he with he | he
    · have := h3 e he; omega
    · simp only [List.mem_cons, List.not_mem_nil, or_false] at he; subst he; exact Nat.lt_succ_self _
  · rw [List.map_append, List.nodup_append]
    refine ⟨h4, by simp, fun a ha b hb => ?_⟩
    obtain ⟨e, he, rfl⟩ := List.mem_map.1 ha
    simp only [List.map_cons, List.map_nil, List.mem_cons, List.not_mem_nil, or_false] at hb
    subst hb; have := h3 e he; omega
theorem del_at {l : List (Int × Int)} {n : Nat} {k v : Int} (hd : (l.map (·.1)).Nodup) (h : l[n]? = some (k, v)) : mapDel l k = l.eraseIdx n := by
  induction l generalizing n with
  | nil => simp at h
  | cons p l ih =>
    simp only [List.map_cons, List.nodup_cons] at hd
    cases n with
    | zero =>
      simp at h; subst h
      unfold mapDel
      rw [List.filter_cons, if_neg (by simp), List.eraseIdx_cons_zero, List.filter_eq_self]
      intro q hq
      have : q.1 ≠ k := fun e => hd.1 (List.mem_map.2 ⟨q, hq, e⟩)
      simpa using this
    | succ n =>
      have hn : l[n]? = some (k, v) := by simpa using h
      have hm : k ∈ l.map (·.1) := List.mem_map.2 ⟨_, List.mem_of_getElem? hn, rfl⟩
      unfold mapDel
      rw [List.filter_cons, if_pos (by have : p.1 ≠ k := (fun e => hd.1 (by rw [e]; exact hm)); simpa using this), List.eraseIdx_cons_succ]
      congr 1
      exact ih hd.2 hn
theorem del_no {l : List (Int × Int)} {k : Int} (h : ∀ p ∈ l, p.1 ≠ k) : mapDel l k = l := by
  unfold mapDel
  rw [List.filter_eq_self]
  exact fun q hq => by simpa using h q hq
theorem map_erase {α β : Type} (f : α → β) : ∀ (l : List α) (n : Nat), (l.eraseIdx n).map f = (l.map f).eraseIdx n
  | [], _ => rfl
  | x :: l, 0 => rfl
  | x :: l, n + 1 => by rw [List.eraseIdx_cons_succ, List.map_cons, List.map_cons, List.eraseIdx_cons_succ, map_erase f l n]
theorem ok_del {es : List MapEntry} {c n : Nat} {l : List (Int × Int)} (h : mapOk es c l) : mapOk (es.eraseIdx n) c (l.eraseIdx n) := by
  obtain ⟨h1, h2, h3, h4⟩ := h
  refine ⟨?_, ?_, fun e he => h3 e ((List.eraseIdx_sublist _ _).mem he), ?_⟩
  · rw [map_erase, map_erase, h1]
  · rw [map_erase]; exact h2.sublist (List.eraseIdx_sublist _ _)
  · rw [map_erase]; exact h4.sublist (List.eraseIdx_sublist _ _)

theorem push_arr {α : Type} (es : Array α) (x : α) : (es.toList ++ [x]).toArray = es.push x := by
  apply Array.ext'
  simp
theorem mod_arr {α : Type} (es : Array α) (n : Nat) (f : α → α) : (es.toList.modify n f).toArray = es.modify n f := by
  apply Array.ext'
  simp
theorem erase_arr {α : Type} (es : Array α) (n : Nat) : (es.toList.eraseIdx n).toArray = es.eraseIdxIfInBounds n := by
  apply Array.ext'
  simp
theorem getObjR {P : Program} {w : World} {r : Nat} {o : Obj} (hb : w.heap[r]? = some o) (hc : cellsB o = false := by rfl) : (getObj r).run P w = .ok o w := by
  cases o with
  | cells => exact absurd hc (by simp [cellsB])
  | _ => simp [getObj, Sem.run, hb]
theorem setObjR {P : Program} {w : World} {r : Nat} {o : Obj} (o' : Obj) (hb : w.heap[r]? = some o) (hc : cellsB o = false := by rfl) : (setObj r o').run P w = .ok () { w with heap := w.heap.setIfInBounds r o' } := by
  cases o with
  | cells => exact absurd hc (by simp [cellsB])
  | _ => simp [setObj, Sem.run, hb]
section
variable {P : Program} {W : World} {N : Nat} {L : List (Nat × Option Value)} {H R : List HProp} {T : TypeId} {O : Array Oper}
theorem map_at {m : Nat} {l : List (Int × Int)} (t : At H (mapH m l)) {w : World} (s : Sat W w (seps H)) : ∃ es c, mapOk es c l ∧ w.heap[m]? = some (.map es.toArray c) := by
  obtain ⟨R, s⟩ := t.sat s
  obtain ⟨h, ⟨h1, h2, ⟨es, c, ho, a⟩, r, d, e'⟩, hin⟩ := s.own
  simp only [seps, sep_emp] at a
  exact ⟨es, c, ho, (obj_lies (b := m) (x := .map es.toArray c) (R := R) { s with own := ⟨h, ⟨h1, h2, a, r, d, e'⟩, hin⟩ }).2.1⟩
theorem Y.lookI {t kt vt : TypeId} {x y : Operand} {m : Nat} {l : List (Int × Int)} {k : Int} (hu : P.underlying t = some (.map kt vt)) (hk : P.underlying kt = some (.int .i64)) (hz : ∀ w, (zeroValue vt).run P w = .ok (.int .i64 0) w) (hx : ev L x = some (.map (some m))) (hy : ev L y = some (.int .i64 k)) (ht : At H (mapH m l)) :
    Y P W N (.lookup t x y false) T L H (.int .i64 ((mapGet l k).getD 0)) := fun dst pos after guard a w ha hs => by
  simp only [execOp, ha.eval hx, ha.eval hy]
  refine value_run ?_
  obtain ⟨es, c, ho, hb⟩ := map_at ht hs
  have hf := run_findKey (P := P) (w := w) hk (find_now (k := k) (i := 0) ho.1)
  have hc := run_checkKey (P := P) (w := w) hk (k := .int .i64 k) rfl (es.toArray.isEmpty) 9999
  have hg := findI_get (k := k) l 0
  unfold Instr.lookup
  simp only [Sem.run_bind, run_underlying hu, Result.andThen_ok, getObjR hb, Sem.run_pure, hc, hf]
  cases e : findI k l 0 with
  | none =>
    rw [e] at hg
    have : mapGet l k = none := by simpa using hg.symm
    simp [hz, this]
  | some p =>
    rw [e] at hg
    cases hm : mapGet l k with
    | none => rw [hm] at hg; cases hg
    | some v =>
      rw [hm] at hg
      have : p.2 = .int .i64 v := by simpa using hg
      simp [this]
theorem Does.mapCh {o : Oper} {m : Nat} {l l' : List (Int × Int)} (hd : o.dst = none) (t : Take H (mapH m l) R)
    (h : ∀ a w es c, Env N L a → w.heap[m]? = some (.map es c) → mapOk es.toList c l → ∃ es' c', mapOk es' c' l' ∧ ((execOp a.eval o).run P w = .ok .skip { w with heap := w.heap.setIfInBounds m (.map es'.toArray c') } ∨ ∃ v, (execOp a.eval o).run P w = .ok (.value v) { w with heap := w.heap.setIfInBounds m (.map es'.toArray c') })) :
    Does P W N o L H (fun L1 H1 => L1 = L ∧ H1 = mapH m l' :: R) := fun a w ha hs Kp hK => by
  rw [t.seps] at hs
  obtain ⟨hp, ⟨h1, h2, ⟨es, c, ho, am⟩, r, d, e'⟩, hin⟩ := hs.own
  simp only [seps, sep_emp] at am
  have hs2 : Sat W w (sep (objAt m (.map es.toArray c)) (seps R)) := { hs with own := ⟨hp, ⟨h1, h2, am, r, d, e'⟩, hin⟩ }
  obtain ⟨es', c', ho', hr⟩ := h a w es.toArray c ha (obj_lies hs2).2.1 (by simpa using ho)
  have hs3 := hs2.setObj (.map es'.toArray c') rfl
  have hs4 : Sat W { w with heap := w.heap.setIfInBounds m (.map es'.toArray c') } (seps (mapH m l' :: R)) :=
    hs3.mono (sep_mono (fun g b => ⟨es', c', ho', by simpa only [seps, sep_emp] using b⟩) fun _ b => b)
  unfold Oper.wp
  rcases hr with hr | ⟨v, hr⟩
  · rw [hr]
    simp only [Oper.upon]
    rw [hd]
    exact hK _ _ ⟨rfl, rfl⟩ _ _ ⟨ha.size, ha.get, ha.defers⟩ hs4
  · rw [hr]
    simp only [Oper.upon]
    rw [hd]
    exact hK _ _ ⟨rfl, rfl⟩ _ _ ⟨ha.size, ha.get, ha.defers⟩ hs4
theorem Does.mapSet {t kt vt : TypeId} {x y z : Operand} {pos : String} {after : Array Edge} {guard : Option (Nat × Bool)} {m : Nat} {l : List (Int × Int)} {k v : Int} (hu : P.underlying t = some (.map kt vt)) (hk : P.underlying kt = some (.int .i64)) (hx : ev L x = some (.map (some m))) (hy : ev L y = some (.int .i64 k)) (hz : ev L z = some (.int .i64 v)) (ht : Take H (mapH m l) R) :
    Does P W N ⟨none, .mapUpdate t x y z, T, pos, after, guard⟩ L H (fun L1 H1 => L1 = L ∧ H1 = mapH m (mapSet l k v) :: R) :=
  Does.mapCh rfl ht fun a w es c ha hb ho => by
    have hf := run_findKey (P := P) (w := w) hk (find_now (k := k) (i := 0) ho.1)
    have hc := run_checkKey (P := P) (w := w) hk (k := .int .i64 k) rfl false 9999
    cases e : findI k l 0 with
    | none =>
      obtain ⟨h1, h2⟩ := findI_no e
      refine ⟨es.toList ++ [{ key := .int .i64 k, val := .int .i64 v, born := c }], c + 1, by rw [h2]; exact ok_push ho h1, .inl ?_⟩
      rw [e] at hf
      simp only [execOp, ha.eval hx, ha.eval hy, ha.eval hz]
      show (Instr.mapUpdate t (.map (some m)) (.int .i64 k) (.int .i64 v) >>= fun _ => pure Next.skip).run P w = _
      simp only [Instr.mapUpdate, Sem.run_bind, run_underlying hu, Result.andThen_ok, getObjR hb, hc, hf, setObjR _ hb, Sem.run_pure, push_arr]
    | some p =>
      obtain ⟨j, val⟩ := p
      obtain ⟨n, v', hj, hn, h3⟩ := findI_at e
      obtain rfl : j = n := by omega
      refine ⟨es.toList.modify j fun e => { e with key := .int .i64 k, val := .int .i64 v }, c, by rw [h3]; exact ok_set ho hn, .inl ?_⟩
      rw [e] at hf
      have hkey : ((es[j]?).map (·.key)).getD (.int .i64 k) = .int .i64 k := by
        have h1 := ho.1
        have : (es.toList.map fun e => (e.key, e.val))[j]? = some (.int .i64 k, .int .i64 v') := by rw [h1, List.getElem?_map, hn]; rfl
        rw [List.getElem?_map] at this
        cases he : es.toList[j]? with
        | none => rw [he] at this; cases this
        | some en =>
          rw [he] at this
          have h5 : en.key = .int .i64 k := by simpa using congrArg (fun o => o.map Prod.fst) this
          rw [← Array.getElem?_toList, he]
          exact h5
      simp only [execOp, ha.eval hx, ha.eval hy, ha.eval hz]
      show (Instr.mapUpdate t (.map (some m)) (.int .i64 k) (.int .i64 v) >>= fun _ => pure Next.skip).run P w = _
      simp only [Instr.mapUpdate, Sem.run_bind, run_underlying hu, Result.andThen_ok, getObjR hb, hc, hf, hkey, run_keyThatStays (d := .int .i64) (k := .int .i64 k) rfl, setObjR _ hb, Sem.run_pure, mod_arr]
theorem Does.mapDel {t kt vt : TypeId} {ts : Array TypeId} {x y : Operand} {pos : String} {after : Array Edge} {guard : Option (Nat × Bool)} {m : Nat} {l : List (Int × Int)} {k : Int} (hu : P.underlying t = some (.map kt vt)) (hk : P.underlying kt = some (.int .i64)) (hx : ev L x = some (.map (some m))) (hy : ev L y = some (.int .i64 k)) (ht : Take H (mapH m l) R) (hts : ts[0]? = some t) :
    Does P W N ⟨none, .call ⟨.builtin .delete, #[x, y], ts⟩, T, pos, after, guard⟩ L H (fun L1 H1 => L1 = L ∧ H1 = mapH m (SLYtpcjdohmjmeehaaGreat.mapDel l k) :: R) :=
  Does.mapCh rfl ht fun a w es c ha hb ho => by
    have hf := run_findKey (P := P) (w := w) hk (find_now (k := k) (i := 0) ho.1)
    have hc := run_checkKey (P := P) (w := w) hk (k := .int .i64 k) rfl es.isEmpty 9999
    have hrun : ∀ o : Option (Nat × Value), Instr.findKey kt (.int .i64 k) es.toList = Instr.findKey kt (.int .i64 k) es.toList := fun _ => rfl
    cases e : findI k l 0 with
    | none =>
      obtain ⟨h1, h2⟩ := findI_no e
      refine ⟨es.toList, c, by rw [del_no h1]; exact ho, .inr ⟨.tuple #[], ?_⟩⟩
      rw [e] at hf
      simp [execOp, resolve, invoke, builtin, ha.eval hx, ha.eval hy, Builtin.delete_, hts, run_underlying hu, getObjR hb, hc, hf, setObjR _ hb]
    | some p =>
      obtain ⟨j, val⟩ := p
      obtain ⟨n, v', hj, hn, h3⟩ := findI_at e
      obtain rfl : j = n := by omega
      refine ⟨es.toList.eraseIdx j, c, by rw [del_at ho.2.1 hn]; exact ok_del ho, .inr ⟨.tuple #[], ?_⟩⟩
      rw [e] at hf
      simp [execOp, resolve, invoke, builtin, ha.eval hx, ha.eval hy, Builtin.delete_, hts, run_underlying hu, getObjR hb, hc, hf, setObjR _ hb, erase_arr]
end
end Go.SLYtpcjdohmjmeehaaGreat
namespace Go.SLYtpcjdohmjmeehaaGreat
open Go Go.RowKit Go.MapKept

def itH (it m c : Nat) (seen : List MapEntry) : HProp := objAt it (.mapIter (some m) c (seen.map (·.born)).toArray c)
def nextA : Option MapEntry → Array Value
  | none => #[.bool false]
  | some e => #[.bool true, e.key, e.val]
def nextV (o : Option MapEntry) : Value := .tuple (nextA o)
theorem nextA0 (o : Option MapEntry) : (nextA o)[0]? = some (.bool o.isSome) := by cases o <;> rfl

section
variable {P : Program} {W : World} {N : Nat} {L : List (Nat × Option Value)} {H R : List HProp} {T : TypeId} {O : Array Oper}
theorem obj_at {m : Nat} {x : Obj} (t : At H (objAt m x)) {w : World} (s : Sat W w (seps H)) : w.heap[m]? = some x := by
  obtain ⟨R, s⟩ := t.sat s
  exact (obj_lies s).2.1
theorem Does.rangeI {t kt vt : TypeId} {x : Operand} {pos : String} {after : Array Edge} {guard : Option (Nat × Bool)} {d m c : Nat} {es : List MapEntry} (hN : Nat.blt d N = true) (hu : P.underlying t = some (.map kt vt)) (hx : ev L x = some (.map (some m))) (ht : At H (objAt m (.map es.toArray c))) :
    Does P W N ⟨some d, .range t x, T, pos, after, guard⟩ L H (fun L1 H1 => ∃ it, L1 = (d, some (ptr it)) :: L ∧ H1 = itH it m c [] :: H) := fun a w ha hs Kp hK => by
  have hb := obj_at ht hs
  have hrun : (execOp a.eval ⟨some d, .range t x, T, pos, after, guard⟩).run P w = .ok (.value (ptr w.heap.size)) (w.alloc (.mapIter (some m) c #[] c)) := by
    simp only [execOp, ha.eval hx]
    show (Instr.range t (.map (some m)) >>= fun x => pure (Next.value x)).run P w = _
    simp [Instr.range, run_underlying hu, getObjR hb]
  unfold Oper.wp
  rw [hrun]
  simp only [Oper.upon]
  exact hK _ _ ⟨w.heap.size, rfl, rfl⟩ _ _ (ha.put (Nat.blt_eq.mp hN) _) (hs.allocObj _ rfl)
def leftA (es : Array MapEntry) (seen : Array Nat) : Array MapEntry := es.filter fun e => !seen.contains e.born
theorem left_old {es : Array MapEntry} {seen : Array Nat} {c : Nat} (h : ∀ e ∈ es.toList, e.born < c) : (leftA es seen).filter (fun e => decide (e.born < c)) = leftA es seen := by
  rw [Array.filter_eq_self]
  intro e he
  have : e ∈ es := (Array.mem_filter.1 he).1
  simpa using h e (by simpa using this)
theorem left_new {es : Array MapEntry} {seen : Array Nat} {c : Nat} (h : ∀ e ∈ es.toList, e.born < c) : (leftA es seen).filter (fun e => decide (e.born ≥ c)) = #[] := by
  rw [Array.filter_eq_empty_iff]
  intro e he
  have : e ∈ es := (Array.mem_filter.1 he).1
  have := h e (by simpa using this)
  simp; omega
theorem choose_lt {n : Nat} (hn : 0 < n) (w : World) : ∃ i w', (choose (.mapNext n)).run P w = .ok i w' ∧ i < n ∧ (w' = w ∨ w' = w.drew) := by
  rw [run_choose_drew]
  by_cases h : n ≤ 1
  · exact ⟨0, w, by simp [Question.forced, h], hn, .inl rfl⟩
  · exact ⟨(Question.mapNext n).cut (w.tape w.drawn (.mapNext n)), w.drew, by simp [Question.forced, h], Nat.mod_lt _ hn, .inr rfl⟩
def cands (l : Array MapEntry) : Array (Option MapEntry) := (if l.isEmpty = true then #[none] else #[]) ++ (l ++ #[]).map some
def stepN (it m c : Nat) (sn : Array Nat) : Option (Option MapEntry) → Sem Value
  | some (some e) => do
    setObj it (.mapIter (some m) c (sn.push e.born) c)
    pure (.tuple #[.bool true, e.key, e.val])
  | some none => pure (.tuple #[.bool false])
  | none => stuck "Next: no such candidate"
theorem run_next {it m c : Nat} {es : Array MapEntry} {sn : Array Nat} {w : World} (hit : w.heap[it]? = some (.mapIter (some m) c sn c)) (hbm : w.heap[m]? = some (.map es c)) (hc : ∀ e ∈ es.toList, e.born < c) :
    (Instr.next (ptr it) false T).run P w = ((choose (.mapNext (cands (leftA es sn)).size)).run P w).andThen fun i w' => (stepN it m c sn (cands (leftA es sn))[i]?).run P w' := by
  have hguard : (!sn.isEmpty && !es.isEmpty && es.all fun e => decide (e.born ≥ c)) = false := by
    obtain ⟨l⟩ := es
    cases l with
    | nil => simp
    | cons e es =>
      have := hc e (by simp)
      simp; intro _ _; omega
  have hold := left_old (seen := sn) hc
  have hnew := left_new (seen := sn) hc
  unfold leftA at hold hnew
  unfold Instr.next
  simp only [Sem.run_bind, getObjR hit, Result.andThen_ok, getObjR hbm, hguard, Bool.false_eq_true, if_false]
  unfold leftA
  rw [hold, hnew]
  show ((choose (.mapNext (cands (leftA es sn)).size)).run P w).andThen _ = _
  rfl
theorem value_runW {s : Sem Value} {v : Value} {w w' : World} (h : s.run P w = .ok v w') : (do pure (Next.value (← s)) : Sem Next).run P w = .ok (.value v) w' := by
  simp [h]
theorem Does.nextI {x : Operand} {pos : String} {after : Array Edge} {guard : Option (Nat × Bool)} {d it m c : Nat} {es seen : List MapEntry} (hN : Nat.blt d N = true) (hx : ev L x = some (ptr it)) (ht : Take H (itH it m c seen) R) (hm : At R (objAt m (.map es.toArray c))) (hc : ∀ e ∈ es, e.born < c) :
    Does P W N ⟨some d, .next x false, T, pos, after, guard⟩ L H (fun L1 H1 => ∃ o : Option MapEntry, ((o = none → ∀ e ∈ es, e.born ∈ seen.map (fun e => e.born)) ∧ ∀ e, o = some e → e ∈ es ∧ ¬ e.born ∈ seen.map (fun e => e.born)) ∧ L1 = (d, some (nextV o)) :: L ∧ H1 = itH it m c (seen ++ o.toList) :: R) := fun a w ha hs Kp hK => by
  rw [ht.seps] at hs
  obtain ⟨sn, hsn⟩ : ∃ sn, sn = (seen.map (fun e => e.born)).toArray := ⟨_, rfl⟩
  have hit : w.heap[it]? = some (.mapIter (some m) c sn c) := by rw [hsn]; exact (obj_lies (b := it) (x := .mapIter (some m) c (seen.map (·.born)).toArray c) hs).2.1
  have hbm : w.heap[m]? = some (.map es.toArray c) := obj_at hm hs.right
  have hdone : ∀ o : Option MapEntry, ((o = none → ∀ e ∈ es, e.born ∈ seen.map (fun e => e.born)) ∧ ∀ e, o = some e → e ∈ es ∧ ¬ e.born ∈ seen.map (fun e => e.born)) → ∀ w', (Instr.next (ptr it) false T).run P w = .ok (nextV o) w' → Sat W w' (sep (itH it m c (seen ++ o.toList)) (seps R)) → Oper.wp P ⟨some d, .next x false, T, pos, after, guard⟩ a w Kp QF := fun o ho w' hr hs' => by
    have h2 : (execOp a.eval ⟨some d, .next x false, T, pos, after, guard⟩).run P w = .ok (.value (nextV o)) w' := by
      simp only [execOp, ha.eval hx]
      exact value_runW hr
    unfold Oper.wp
    rw [h2]
    simp only [Oper.upon]
    exact hK _ _ ⟨o, ho, rfl, rfl⟩ _ _ (ha.put (Nat.blt_eq.mp hN) _) hs'
  have hstart := run_next (P := P) (T := T) hit hbm (by simpa using hc)
  have hin : ∀ e, e ∈ leftA es.toArray sn ↔ e ∈ es ∧ ¬ e.born ∈ seen.map (fun e => e.born) := fun e => by
    unfold leftA
    rw [Array.mem_filter, hsn]
    simp
  generalize hl : leftA es.toArray sn = l at hstart hin
  by_cases he : l = #[]
  · subst he
    refine hdone none ⟨fun _ e hem => Decidable.byContradiction fun hn => ?_, fun e h => (by cases h)⟩ w ?_ (by simpa using hs)
    · have := (hin e).2 ⟨hem, hn⟩
      simp at this
    · rw [hstart]
      simp [Question.forced, nextV, nextA, cands, stepN]
  · have hne : l.isEmpty = false := by
      cases h : l.isEmpty
      · rfl
      · exact absurd (by simpa using h) he
    have hpos : 0 < l.size := by
      rcases Nat.eq_zero_or_pos l.size with h | h
      · exact absurd (Array.eq_empty_of_size_eq_zero h) he
      · exact h
    have hcs : cands l = l.map some := by unfold cands; rw [hne]; simp
    rw [hcs, Array.size_map] at hstart
    obtain ⟨i, w', hr, hi, hw⟩ := choose_lt (P := P) hpos w
    have hei : (l.map some)[i]? = some (some l[i]) := by simp [hi]
    have hmem := (hin l[i]).1 (Array.getElem_mem hi)
    have hs' : Sat W w' (sep (itH it m c seen) (seps R)) := by
      rcases hw with rfl | rfl
      · exact hs
      · exact hs.drew
    have hit' : w'.heap[it]? = some (.mapIter (some m) c sn c) := by rw [hsn]; exact (obj_lies (b := it) (x := .mapIter (some m) c (seen.map (·.born)).toArray c) hs').2.1
    refine hdone (some l[i]) ⟨fun h => (by cases h), fun e h => (by cases h; exact hmem)⟩ { w' with heap := w'.heap.setIfInBounds it (.mapIter (some m) c (sn.push l[i].born) c) } ?_ ?_
    · rw [hstart, hr]
      simp only [Result.andThen_ok, hei, stepN, Sem.run_bind, setObjR _ hit', Sem.run_pure]
      rfl
    · have := hs'.setObj (.mapIter (some m) c (sn.push l[i].born) c) rfl
      refine this.eq ?_
      unfold itH
      rw [hsn]
      congr 3
      simp
theorem Y.entryI {x : Operand} {it m c : Nat} {es seen : List MapEntry} {e : MapEntry} (hx : ev L x = some (ptr it)) (ht : At H (itH it m c (seen ++ [e]))) (hm : At H (objAt m (.map es.toArray c))) (he : e ∈ es) (hd : (es.map (·.born)).Nodup) :
    Y P W N (.entry x) T L H (.tuple #[e.key, e.val]) := fun dst pos after guard a w ha hs => by
  simp only [execOp, ha.eval hx]
  refine value_run ?_
  have hit := obj_at ht hs
  have hbm := obj_at hm hs
  have hf : es.toArray.find? (·.born == e.born) = some e := by
    rw [List.find?_toArray]
    clear hm hbm
    induction es with
    | nil => cases he
    | cons y es ih =>
      simp only [List.map_cons, List.nodup_cons] at hd
      rw [List.find?_cons]
      rcases List.mem_cons.1 he with rfl | he'
      · simp
      · have : y.born ≠ e.born := fun h => hd.1 (by rw [h]; exact List.mem_map_of_mem he')
        rw [show (y.born == e.born) = false from by simpa using this]
        exact ih he' hd.2
  unfold Instr.entry
  simp [getObjR hit, getObjR hbm, hf]
end
end Go.SLYtpcjdohmjmeehaaGreat
namespace Go.SLYtpcjdohmjmeehaaGreat
open Go Go.RowKit

theorem ins_perm (x : Int) : ∀ l : List Int, (insSorted x l).Perm (x :: l)
  | [] => .refl _
  | y :: l => by
    rw [insSorted]
    split
    · exact .refl _
    · exact ((ins_perm x l).cons y).trans (.swap x y l)
theorem sort_perm : ∀ l : List Int, (sortI l).Perm l
  | [] => .refl _
  | x :: l => (ins_perm x (sortI l)).trans ((sort_perm l).cons x)
theorem ins_sorted (x : Int) : ∀ {l : List Int}, l.Pairwise (· ≤ ·) → (insSorted x l).Pairwise (· ≤ ·)
  | [], _ => by simp [insSorted]
  | y :: l, h => by
    rw [insSorted]
    have hy := (List.pairwise_cons.1 h)
    split
    · rename_i hx
      refine List.pairwise_cons.2 ⟨fun z hz => ?_, h⟩
      rcases List.mem_cons.1 hz with rfl | hz
      · exact hx
      · exact Int.le_trans hx (hy.1 z hz)
    · rename_i hx
      refine List.pairwise_cons.2 ⟨fun z hz => ?_, ins_sorted x hy.2⟩
      rcases List.mem_cons.1 ((ins_perm x l).mem_iff.1 hz) with rfl | hz
      · omega
      · exact hy.1 z hz
theorem sort_sorted : ∀ l : List Int, (sortI l).Pairwise (· ≤ ·)
  | [] => .nil
  | x :: l => ins_sorted x (sort_sorted l)
theorem sort_uniq {a b : List Int} (ha : a.Pairwise (· ≤ ·)) (hb : b.Pairwise (· ≤ ·)) (h : a.Perm b) : a = b :=
  List.Perm.eq_of_pairwise (fun _ _ _ _ h1 h2 => Int.le_antisymm h1 h2) ha hb h
theorem sort_merge (l : List Int) : l.mergeSort (fun x y => decide (x ≤ y)) = sortI l := by
  refine sort_uniq ?_ (sort_sorted l) ((List.mergeSort_perm l _).trans (sort_perm l).symm)
  have := List.pairwise_mergeSort (le := fun x y : Int => decide (x ≤ y)) (fun a b c h1 h2 => by simp only [decide_eq_true_eq] at *; omega) (fun a b => by simp only [Bool.or_eq_true, decide_eq_true_eq]; omega) l
  exact this.imp fun h => by simpa using h
theorem sort_of_perm {a b : List Int} (h : a.Perm b) : sortI a = sortI b := sort_uniq (sort_sorted a) (sort_sorted b) ((sort_perm a).trans (h.trans (sort_perm b).symm))
theorem sort_len (l : List Int) : (sortI l).length = l.length := (sort_perm l).length_eq

def dueOf (n : Int) (l : List MapEntry) : List Int := (l.filter fun e => decide ((entI e).2 ≤ n)).map fun e => (entI e).1
theorem due_yes {n : Int} {l : List MapEntry} {e : MapEntry} (h : (entI e).2 ≤ n) : dueOf n (l ++ [e]) = dueOf n l ++ [(entI e).1] := by
  unfold dueOf; rw [List.filter_append]; simp [h]
theorem due_no {n : Int} {l : List MapEntry} {e : MapEntry} (h : ¬ (entI e).2 ≤ n) : dueOf n (l ++ [e]) = dueOf n l := by
  unfold dueOf; rw [List.filter_append]; simp [h]
theorem due_len (n : Int) (l : List MapEntry) : (dueOf n l).length ≤ l.length := by unfold dueOf; rw [List.length_map]; exact List.length_filter_le _ _
structure SeenOk (es seen : List MapEntry) : Prop where
  nd : (seen.map fun e => e.born).Nodup
  sub : ∀ e ∈ seen, e ∈ es
theorem SeenOk.zero (es : List MapEntry) : SeenOk es [] := ⟨.nil, fun e h => by cases h⟩
theorem SeenOk.len {es seen : List MapEntry} (h : SeenOk es seen) : seen.length ≤ es.length := by
  have := List.Nodup.length_le_of_subset (l₂ := es.map fun e => e.born) h.nd (fun b hb => by
    obtain ⟨e, he, rfl⟩ := List.mem_map.1 hb
    exact List.mem_map.2 ⟨e, h.sub e he, rfl⟩)
  simpa using this
theorem SeenOk.next {es seen : List MapEntry} (h : SeenOk es seen) {e : MapEntry} (he : e ∈ es) (hn : ¬ e.born ∈ seen.map (fun e => e.born)) : SeenOk es (seen ++ [e]) := by
  refine ⟨?_, fun x hx => ?_⟩
  · rw [List.map_append, List.nodup_append]
    refine ⟨h.nd, by simp, fun a ha b hb => ?_⟩
    simp only [List.map_cons, List.map_nil, List.mem_cons, List.not_mem_nil, or_false] at hb
    subst hb
    exact fun e' => hn (e' ▸ ha)
  · rcases List.mem_append.1 hx with hx | hx
    · exact h.sub x hx
    · simp only [List.mem_cons, List.not_mem_nil, or_false] at hx; subst hx; exact he
theorem nodup_of_map {α β : Type} {f : α → β} : ∀ {l : List α}, (l.map f).Nodup → l.Nodup
  | [], _ => .nil
  | x :: l, h => by
    simp only [List.map_cons, List.nodup_cons] at h
    exact List.nodup_cons.2 ⟨fun hx => h.1 (List.mem_map_of_mem hx), nodup_of_map h.2⟩
theorem SeenOk.all {es seen : List MapEntry} (h : SeenOk es seen) (hd : (es.map fun e => e.born).Nodup) (ha : ∀ e ∈ es, e.born ∈ seen.map (fun e => e.born)) : seen.Perm es := by
  refine (List.perm_ext_iff_of_nodup (nodup_of_map h.nd) (nodup_of_map hd)).2 fun e => ⟨h.sub e, fun he => ?_⟩
  obtain ⟨x, hx, hb⟩ := List.mem_map.1 (ha e he)
  have hxe := h.sub x hx
  clear ha h
  have : x = e := by
    induction es with
    | nil => cases he
    | cons y es ih =>
      simp only [List.map_cons, List.nodup_cons] at hd
      rcases List.mem_cons.1 he with h1 | h1
      · rcases List.mem_cons.1 hxe with h2 | h2
        · rw [h1, h2]
        · exact absurd (List.mem_map.2 ⟨x, h2, by rw [hb, h1]⟩) hd.1
      · rcases List.mem_cons.1 hxe with h2 | h2
        · exact absurd (List.mem_map.2 ⟨e, h1, by rw [← hb, h2]⟩) hd.1
        · exact ih hd.2 h1 h2
  rwa [← this]
theorem due_all {w : Whl} {es seen : List MapEntry} {c : Nat} (ho : mapOk es c w.till) (h : SeenOk es seen) (ha : ∀ e ∈ es, e.born ∈ seen.map (fun e => e.born)) : sortI (dueOf (min (w.now + 1) 1099511627776) seen) = w.due := by
  have hp := h.all ho.2.2.2 ha
  unfold Whl.due
  refine sort_of_perm ?_
  rw [← (ok_ent ho).1, List.filter_map, List.map_map]
  exact (hp.filter _).map _
end Go.SLYtpcjdohmjmeehaaGreat
namespace Go.SLYtpcjdohmjmeehaaGreat
open Go Go.RowKit Go.Proofs

end Go.SLYtpcjdohmjmeehaaGreat
namespace Go.Proofs
open Go.Shelf
def Tryz.lays189_ren : Go.Shelf.Ren := ⟨fun | 189 => 100 | 125 => 137 | 257 => 136 | 128 => 174 | 129 => 175 | 294 => 165 | 295 => 166 | 296 => 167 | 297 => 168 | 298 => 169 | 299 => 170 | 216 => 171 | 300 => 172 | 301 => 173 | 328 => 210 | 329 => 211 | 330 => 212 | 331 => 213 | 332 => 214 | 215 => 215 | 343 => 239 | n => n, fun | 28 => 23 | 3 => 3 | 46 => 239 | 0 => 0 | 51 => 272 | 53 => 43 | 4 => 4 | 183 => 266 | 182 => 265 | 131 => 245 | 5 => 5 | 9 => 9 | 218 => 306 | 222 => 309 | 228 => 328 | 229 => 329 | n => n, fun | n => n⟩
theorem Tryz.lays189 : Go.Proofs.Lays.n189 Tryz.prog Tryz.lays189_ren := {
  mixed := by kernel_rfl
  f125 := Tryz.func137.trans (congrArg some (by kernel_rfl))
  f128 := Tryz.func174.trans (congrArg some (by kernel_rfl))
  f129 := Tryz.func175.trans (congrArg some (by kernel_rfl))
  f189 := Tryz.func100.trans (congrArg some (by kernel_rfl))
  f215 := Tryz.func215.trans (congrArg some (by kernel_rfl))
  f216 := Tryz.func171.trans (congrArg some (by kernel_rfl))
  f257 := Tryz.func136.trans (congrArg some (by kernel_rfl))
  f294 := Tryz.func165.trans (congrArg some (by kernel_rfl))
  f295 := Tryz.func166.trans (congrArg some (by kernel_rfl))
  f296 := Tryz.func167.trans (congrArg some (by kernel_rfl))
  f297 := Tryz.func168.trans (congrArg some (by kernel_rfl))
  f298 := Tryz.func169.trans (congrArg some (by kernel_rfl))
  f299 := Tryz.func170.trans (congrArg some (by kernel_rfl))
  f300 := Tryz.func172.trans (congrArg some (by kernel_rfl))
  f301 := Tryz.func173.trans (congrArg some (by kernel_rfl))
  f328 := Tryz.func210.trans (congrArg some (by kernel_rfl))
  f329 := Tryz.func211.trans (congrArg some (by kernel_rfl))
  f330 := Tryz.func212.trans (congrArg some (by kernel_rfl))
  f331 := Tryz.func213.trans (congrArg some (by kernel_rfl))
  f332 := Tryz.func214.trans (congrArg some (by kernel_rfl))
  f343 := Tryz.func239.trans (congrArg some (by kernel_rfl))
  t0 := Tryz.underlying0
  a0 := Tryz.isAgg0
  z0 := Tryz.sizeOf0
  v0 := Tryz.zeroValue0
  t3 := Tryz.underlying3
  a3 := Tryz.isAgg3
  z3 := Tryz.sizeOf3
  v3 := Tryz.zeroValue3
  t4 := Tryz.underlying4
  a4 := Tryz.isAgg4
  z4 := Tryz.sizeOf4
  v4 := Tryz.zeroValue4
  t5 := Tryz.underlying5
  a5 := Tryz.isAgg5
  z5 := Tryz.sizeOf5
  v5 := Tryz.zeroValue5
  t9 := Tryz.underlying9
  a9 := Tryz.isAgg9
  z9 := Tryz.sizeOf9
  v9 := Tryz.zeroValue9
  t28 := Tryz.underlying23
  a28 := Tryz.isAgg23
  z28 := Tryz.sizeOf23
  v28 := Tryz.zeroValue23
  t46 := Tryz.underlying239
  a46 := Tryz.isAgg239
  z46 := Tryz.sizeOf239
  v46 := Tryz.zeroValue239
  t51 := Tryz.underlying272
  a51 := Tryz.isAgg272
  z51 := Tryz.sizeOf272
  v51 := Tryz.zeroValue272
  t53 := Tryz.underlying43
  a53 := Tryz.isAgg43
  z53 := Tryz.sizeOf43
  v53 := Tryz.zeroValue43
  t131 := Tryz.underlying245
  a131 := Tryz.isAgg245
  z131 := Tryz.sizeOf245
  v131 := Tryz.zeroValue245
  t182 := Tryz.underlying265
  a182 := Tryz.isAgg265
  z182 := Tryz.sizeOf265
  v182 := Tryz.zeroValue265
  t183 := Tryz.underlying266
  a183 := Tryz.isAgg266
  z183 := Tryz.sizeOf266
  v183 := Tryz.zeroValue266
  t218 := Tryz.underlying306
  a218 := Tryz.isAgg306
  z218 := Tryz.sizeOf306
  v218 := Tryz.zeroValue306
  t222 := Tryz.underlying309
  a222 := Tryz.isAgg309
  z222 := Tryz.sizeOf309
  v222 := Tryz.zeroValue309
  t228 := Tryz.underlying328
  a228 := Tryz.isAgg328
  z228 := Tryz.sizeOf328
  v228 := Tryz.zeroValue328
  t229 := Tryz.underlying329
  a229 := Tryz.isAgg329
  z229 := Tryz.sizeOf329
  v229 := Tryz.zeroValue329 }
open Go.Sort Go.RowKit in
theorem Tryz.slices_Sort_int (blk off cap : Nat) (zs : List Int) (w : World) (hH : Holds (Value.int .i64) w blk off zs.toArray) (hblk : blk < w.heap.size) (hsz : zs.length < 4611686018427387904) :
    Calls Tryz.prog 100 #[.slice (some ⟨blk, off, none⟩) zs.length cap] w fun e w' =>
      e = .returned (.tuple #[]) ∧ ∃ n os, w' = grow (putRow (Value.int .i64) (Sort.ahead w n) blk off (zs.mergeSort fun x y => decide (x ≤ y)).toArray) os := Any.slices_Sort_int Tryz.lays189 blk off cap zs w hH hblk hsz
open Go.RowKit Go.Sort in
theorem Tryz.slices_Sort_int_none (p : Option Addr) (cap : Nat) (w : World) :
    Calls Tryz.prog 100 #[.slice p 0 cap] w fun e w' => e = .returned (.tuple #[]) ∧ w' = w := Any.slices_Sort_int_none Tryz.lays189 p cap w

end Go.Proofs
namespace Go.SLYtpcjdohmjmeehaaGreat
open Go Go.RowKit Go.Sort Go.Proofs
theorem rows_int : ∀ l : List Int, rows intE l = l.map (Value.int .i64)
  | [] => rfl
  | x :: l => by rw [rows_cons, rows_int l]; rfl
theorem Sat.setCells {W : World} {R : HProp} {b : Nat} : ∀ (vs : List Value) {off : Nat} {w : World} {pre post : List Value} (cs : List Value), cs.length = vs.length → pre.length = off → Sat W w (sep (arr b 0 (pre ++ cs ++ post)) R) → Sat W (w.setCells b off vs) (sep (arr b 0 (pre ++ vs ++ post)) R)
  | [], off, w, pre, post, cs, hl, hp, s => by
    obtain rfl := List.eq_nil_of_length_eq_zero hl
    exact s
  | v :: vs, off, w, pre, post, cs, hl, hp, s => by
    obtain ⟨c, cs, rfl⟩ : ∃ c r, cs = c :: r := by
      cases cs with
      | nil => cases hl
      | cons c r => exact ⟨c, r, rfl⟩
    have h1 := Sat.setCell (off := 0) s (i := off) v (by simp; omega)
    rw [Nat.zero_add] at h1
    have e : (pre ++ (c :: cs) ++ post).set off v = (pre ++ [v]) ++ cs ++ post := by
      subst hp
      simp
    rw [e] at h1
    have := Sat.setCells vs (off := off + 1) (pre := pre ++ [v]) (post := post) cs (by simpa using hl) (by simp [hp]) h1
    show Sat W ((w.setCell ⟨b, off, none⟩ v).setCells b (off + 1) vs) _
    simpa using this
theorem SortI {W : World} {v : Value} {xs : List Int} (hl : xs.length ≤ 1000000000) : Fn Tryz.prog W 100 [v] [sl intE 1 v xs] Unit (fun _ => .tuple #[]) (fun _ => True) (fun _ => [sl intE 1 v (sortI xs)]) := fun F w hs => by
  simp only [seps, sep_emp] at hs ⊢
  rcases hs.of_sl with ⟨⟨a, rfl⟩, rfl, s⟩ | ⟨b, cap, sp, rfl, hle, hk, hsp, s⟩
  · refine (Go.Proofs.Tryz.slices_Sort_int_none a 0 w).mono fun e w' ⟨he, hw⟩ => ⟨(), he, trivial, ?_⟩
    rw [hw]; exact hs
  · have hrow : ∀ j, j < xs.length → (rows intE xs ++ sp)[j]? = some (.int .i64 (xs.getD j 0)) := fun j hj => by
      rw [rows_int, List.getElem?_append_left (by simpa using hj), List.getElem?_map, getD_some (d := 0) hj]; rfl
    have hH : Holds (Value.int .i64) w b 0 xs.toArray := fun j hj => by
      have hj' : j < xs.length := by simpa using hj
      obtain ⟨h1, h2⟩ := arr_cell s (hrow j hj')
      refine ⟨?_, arr_fz s (i := j) (List.getElem?_eq_some_iff.1 (hrow j hj')).1⟩
      rw [h2]
      congr 1
      congr 1
      rw [getElem!_pos xs.toArray j hj]
      simp [List.getD_eq_getElem?_getD, hj']
    by_cases hx0 : xs = []
    · subst hx0
      refine (Go.Proofs.Tryz.slices_Sort_int_none (some ⟨b, 0, none⟩) cap w).mono fun e w' ⟨he, hw⟩ => ⟨(), he, trivial, ?_⟩
      rw [hw]; exact hs
    · have hb : b < w.heap.size := by
        have hpos : 0 < xs.length := by
          rcases Nat.eq_zero_or_pos xs.length with h | h
          · exact absurd (List.eq_nil_of_length_eq_zero h) hx0
          · exact h
        exact cell_lt (arr_cell s (hrow 0 hpos)).2
      refine (Go.Proofs.Tryz.slices_Sort_int b 0 cap xs w hH hb (by omega)).mono fun e w' ⟨he, q, os, hw⟩ => ⟨(), he, trivial, ?_⟩
      rw [hw, sort_merge, Lib.sorted_world (Value.int .i64) w b 0 q xs.toArray (sortI xs) os hH (by rw [sort_len]; simp)]
      have s1 : Sat W (w.drewN q) (sep (arr b 0 ([] ++ rows intE xs ++ sp)) F) := s.below ⟨rfl, rfl, rfl, Nat.le_refl _, fun _ _ => rfl⟩
      have s2 := Sat.setCells ((sortI xs).map (Value.int .i64)) (off := 0) (pre := []) (post := sp) (rows intE xs) (by rw [rows_int]; simp [sort_len]) rfl s1
      have s3 : Sat W (grow ((w.drewN q).setCells b 0 ((sortI xs).map (Value.int .i64))) os) (sep (arr b 0 ([] ++ (sortI xs).map (Value.int .i64) ++ sp)) F) := s2.below ⟨rfl, rfl, rfl, by simp [grow], fun k hk => by simp [grow, Array.getElem?_append_left hk]⟩
      rw [List.nil_append, ← rows_int] at s3
      have := Sat.mk_sl (enc := intE) (k := 1) (xs := sortI xs) (cap := cap) (by rw [sort_len]; exact hle) (fun _ _ => rfl) (by rw [sort_len]; exact hsp) s3
      rwa [sort_len, rows_int] at this

end Go.SLYtpcjdohmjmeehaaGreat
namespace Go.SLYtpcjdohmjmeehaaGreat
open Go Go.RowKit Go.Proofs Go.Proofs.Tryz

set_option maxRecDepth 20000 in
theorem wheel_Sleep {W : World} {b : Nat} {w : Whl} {who n : Int} (hn : 0 ≤ w.now ∧ w.now ≤ 1099511627776) : Fn Tryz.prog W 164 [ptr b, .int .i64 who, .int .i64 n] [whlH b w] Unit (fun _ => .int .i64 (w.sleep who n).1) (fun _ => True) (fun _ => [whlH b (w.sleep who n).2]) := by
  refine Fn.intro (N := 38) func164 rfl ntmps164 rfl fun F => ?_
  show GoC _ _ _ _ _ _ [whlH b w, F]
  refine .o1 (C := whlH b w) .auto rfl ?_
  rintro m -
  refine .s (.r (.p (.a rfl) (.n (.t (.s (.b (.s (.r (.p (.m rfl) (.p (.eqp rfl rfl) (.p (.m rfl) (.g (.m rfl) (.g (.lss rfl rfl) (.p (.u rfl rfl) (.p (.m rfl) ?_)))))))))))))))
  apply GoL.segOD 3 17 14 [14, 15, 16, 17] rfl
  · intro h14
    refine .g (.m rfl) (.g (.gtr rfl rfl) (.p (.u rfl rfl) (.n ?_)))
    refine .seg .auto rfl (by first | exact fun _ h => h | exact Ent.kept .auto)
  · intro h14
    refine .u (.u (.p (.t rfl rfl) (.n ?_)))
    refine .seg .auto rfl (by first | exact fun _ h => h | exact Ent.kept .auto)
  refine .p (.a rfl) (.n (.t (.cond rfl (fun h7 => ?_) (fun h7 => ?_))))
  · refine .s (.r (.p (.a rfl) (.n (.t (.e (.br (.tr ?_)))))))
    rw [show w.sleep who n = (1, w) from by unfold Whl.sleep; rw [if_pos (by simpa using h7)]]
    refine .ret1 rfl rfl fun w s => ⟨(), ?_, trivial, finE .auto s⟩
    rfl
  · refine .s (.r (.p (.m rfl) (.p (.n rfl) (.p (.f rfl) (.p (.l rfl) (.p (.m rfl) ?_))))))
    refine .p (.lookI underlying176 underlying3 zeroValue3 rfl rfl .auto) ?_
    refine .p (.gtr rfl rfl) (.p (.a rfl) (.n (.t (.condD rfl (fun h18 => ?_) (fun h18 => ?_)))))
    · refine .s (.r (.p (.a rfl) (.n (.t (.e (.br (.tr ?_)))))))
      rw [show w.sleep who n = (4, w) from by unfold Whl.sleep; rw [if_neg (by simpa using h7), if_pos h18]]
      refine .ret1 rfl rfl fun w s => ⟨(), ?_, trivial, finE .auto s⟩
      rfl
    · refine .v (.b (.t (.s ?_)))
      refine .draw [] [1, 1, 1, 1, 1, 1, 1, 1, 1, 1, 1, 1, 3] rfl (by kernel_rfl) ?_
      simp only [Bool.or_eq_false_iff, decide_eq_false_iff_not] at h7
      refine .p (.m rfl) (.p (.n rfl) (.p (.f rfl) (.p (.l rfl) (.p (.m rfl) (.p (.m rfl) ?_)))))
      refine .p (.n rfl) (.p (.z rfl) (.p (.l rfl) (.p (.m rfl) ?_)))
      refine .p (.add rfl rfl (by omega)) ?_
      refine .p (.min2m rfl rfl) ?_
      refine .d3 rfl (Does.mapSet underlying176 underlying3 rfl rfl rfl .auto) ?_
      rintro _ _ ⟨rfl, rfl⟩
      refine .n (.t (.s (.r (.p (.a rfl) (.n (.t (.e ?_)))))))
      rw [show w.sleep who n = (0, { w with till := mapSet w.till who (min (w.now + n) 1099511627776) }) from by unfold Whl.sleep; rw [if_neg (by omega), if_neg h18]]
      refine .ret1 rfl rfl fun w s => ⟨(), ?_, trivial, finE .auto s⟩
      rfl

set_option maxRecDepth 20000 in
theorem wheel_Tick {W : World} {b : Nat} {w : Whl} (hn : 0 ≤ w.now ∧ w.now ≤ 1099511627776) (hl : w.till.length ≤ 1000000) : Fn Tryz.prog W 69 [ptr b] [whlH b w] Value (fun u => u) (fun _ => True) (fun u => [sl intE 1 u w.due, whlH b w.tick.2]) := by
  refine Fn.intro (N := 54) func69 rfl ntmps69 rfl fun F => ?_
  show GoC _ _ _ _ _ _ [whlH b w, F]
  refine .o1 (C := whlH b w) .auto rfl ?_
  rintro m -
  refine .s (.r (.p (.a rfl) (.n (.t (.s (.s (.r (.p (.m rfl) (.p (.eqp rfl rfl) (.n (.t (.condF rfl ?_))))))))))))
  refine .v (.t (.s (.r (.p (.m rfl) (.p (.m rfl) (.p (.n rfl) (.p (.z rfl) (.p (.l rfl) ?_))))))))
  refine .p (.add rfl rfl (by omega)) ?_
  refine .p (.min2m rfl rfl) ?_
  refine .p (.n rfl) (.p (.z rfl) ?_)
  refine .does rfl (Does.st sizeOf3 rfl rfl rfl rfl) ?_
  rintro _ _ ⟨rfl, rfl⟩
  refine .n (.t (.s (.r (.p (.a rfl) (.n (.t (.s (.s (.r (.p (.m rfl) (.p (.n rfl) (.p (.f rfl) (.p (.l rfl) ?_)))))))))))))
  refine .o2 (C := mapH m w.till) .auto rfl ?_
  rintro es c ho
  have hel : es.length = w.till.length := by have := congrArg List.length ho.1; simpa using this
  refine .does rfl (Does.rangeI rfl underlying176 rfl .auto) ?_
  rintro _ _ ⟨it, rfl, rfl⟩
  refine .n (.t (.b ?_))
  refine .loopK (X := List MapEntry × Value) [3, 4, 5, 24, 25, 26, 27, 28, 29, 30, 31, 32, 33, 34, 35, 36, 37, 38] (fun z => es.length + 1 - z.1.length) (fun z => SeenOk es z.1) (fun z => [(3, some z.2)]) (fun z => [itH it m c z.1, sl intE 1 z.2 (dueOf (min (w.now + 1) 1099511627776) z.1), objAt m (.map es.toArray c), arr b 0 [.int .i64 (min (w.now + 1) 1099511627776), .map (some m)], F]) ([], .slice none 0 0) ?_ ?_ ?_ ?_
  · exact SeenOk.zero es
  · exact ⟨rfl, trivial⟩
  · exact fun w s => Ent.kept .auto w s
  rintro ⟨seen, u⟩ hS
  simp only at hS
  have hSl := hS.len
  have hdl := due_len (min (w.now + 1) 1099511627776) seen
  refine .s (.r ?_)
  refine .does rfl (Does.nextI rfl rfl .auto .auto ho.2.2.1) ?_
  rintro _ _ ⟨o, ho2, rfl, rfl⟩
  refine .p (.extract (vs := nextA o) rfl (nextA0 o)) ?_
  refine .n (.t (.s (.cond rfl (fun h25 => ?_) (fun h25 => ?_))))
  · refine .v (.t (.b (.s (.r ?_))))
    obtain ⟨e, rfl⟩ : ∃ e, o = some e := Option.isSome_iff_exists.1 h25
    obtain ⟨he, hne⟩ := ho2.2 e rfl
    have hkv := (ok_ent ho).2 e he
    have hS2 := hS.next he hne
    have hS3 := hS2.len
    rw [List.length_append] at hS3
    simp only [List.length_cons, List.length_nil] at hS3
    refine .p (.entryI rfl .auto .auto he ho.2.2.2) ?_
    rw [hkv.1, hkv.2]
    refine .p (.extract rfl rfl) (.p (.extract rfl rfl) (.p (.a rfl) (.p (.a rfl) (.n (.t (.s (.r (.p (.m rfl) (.p (.m rfl) (.p (.n rfl) (.p (.z rfl) (.p (.l rfl) (.p (.leq rfl rfl) (.n (.t (.condD rfl (fun h34 => ?_) (fun h34 => ?_)))))))))))))))))
    · refine .r (.p (.m rfl) (.p (.m rfl) ?_))
      refine .does rfl (Does.bsl 3 rfl rfl (by kernel_rfl)) ?_
      rintro _ _ ⟨b37, rfl, rfl⟩
      refine .does rfl (Does.app1 (enc := intE) (k := 1) (entI e).1 rfl underlying23 underlying23 typeInfo3 rfl rfl rfl (by decide) rfl rfl rfl .auto rfl .auto (by dsimp only; omega) rfl) ?_
      rintro _ _ ⟨v38, rfl, rfl⟩
      refine .p (.a rfl) (.n (.b ?_))
      refine .againK (seen ++ [e], v38) .auto rfl ?_ ?_ ?_ ?_
      · show es.length + 1 - (seen ++ [e]).length < es.length + 1 - seen.length; rw [List.length_append]; simp only [List.length_cons, List.length_nil]; omega
      · exact hS2
      · exact ⟨rfl, trivial⟩
      · show ∀ w, Sat _ w _ → Sat _ w (seps [_, sl intE 1 v38 (dueOf _ (seen ++ [e])), _, _, F])
        rw [due_yes h34]
        exact fun w s => Ent.kept .auto w s
    · refine .v (.b ?_)
      refine .againK (seen ++ [e], u) .auto rfl ?_ ?_ ?_ ?_
      · show es.length + 1 - (seen ++ [e]).length < es.length + 1 - seen.length; rw [List.length_append]; simp only [List.length_cons, List.length_nil]; omega
      · exact hS2
      · exact ⟨rfl, trivial⟩
      · show ∀ w, Sat _ w _ → Sat _ w (seps [_, sl intE 1 u (dueOf _ (seen ++ [e])), _, _, F])
        rw [due_no h34]
        exact fun w s => Ent.kept .auto w s
  · have hall := ho2.1 (by cases o with
      | none => rfl
      | some e => cases h25)
    refine .x (.tx (.tx (.bh (.t (.s (.r (.p (.m rfl) ?_)))))))
    refine .to (A := mapH m w.till) (Bs := [objAt m (.map es.toArray c)]) .auto (fun h a => ⟨es, c, ho, a⟩) ?_
    refine .does rfl (Does.callE rfl call100 rfl (SortI (xs := dueOf (min (w.now + 1) 1099511627776) seen) (by omega)) .auto) ?_
    rintro _ _ ⟨⟨⟩, -, rfl, rfl⟩
    rw [due_all ho hS hall]
    have hdw : w.due.length ≤ 1000000 := by rw [← due_all ho hS hall, sort_len]; omega
    refine .n (.t (.s (.s (.r (.p (.m rfl) (.p (.len rfl) (.p (.m rfl) (.n (.t (.b ?_))))))))))
    refine .loopK (X := Nat) [7, 43, 44, 45, 46, 47, 48, 49, 50, 51, 52] (fun k => w.due.length - k) (fun k => k ≤ w.due.length) (fun k => [(43, some (.int .i64 (k : Int)))]) (fun k => [mapH m ((w.due.take k).foldl mapDel w.till), sl intE 1 u w.due, arr b 0 [.int .i64 (min (w.now + 1) 1099511627776), .map (some m)], F]) 0 ?_ ?_ ?_ ?_
    · exact Nat.zero_le _
    · exact ⟨rfl, trivial⟩
    · exact fun w s => Ent.kept .auto w s
    rintro k hk
    refine .s (.r (.p (.lss rfl rfl) (.n (.t (.s (.condD rfl (fun h44 => ?_) (fun h44 => ?_)))))))
    · obtain ⟨x, hx⟩ := at_some (show k < w.due.length by omega)
      refine .v (.t (.s (.b (.s (.r ?_)))))
      refine .p (.ix _ rfl rfl rfl (by first | omega | decide)) ?_
      refine .p (.lr rfl hx) ?_
      refine .p (.a rfl) (.n (.t (.r (.p (.m rfl) (.p (.n rfl) (.p (.f rfl) (.p (.l rfl) (.p (.m rfl) ?_))))))))
      refine .does rfl (Does.mapDel underlying176 underlying3 rfl rfl .auto rfl) ?_
      rintro _ _ ⟨rfl, rfl⟩
      refine .n (.b (.t (.r ?_)))
      refine .p (.inc rfl rfl (by omega)) ?_
      refine .p (.m rfl) (.n ?_)
      refine .againK (k + 1) .auto rfl ?_ ?_ ?_ ?_
      · omega
      · omega
      · exact ⟨rfl, trivial⟩
      · show ∀ w2, Sat _ w2 _ → Sat _ w2 (seps [mapH m ((w.due.take (k + 1)).foldl mapDel w.till), _, _, F])
        rw [take_snoc hx, List.foldl_append]
        exact fun w s => Ent.kept .auto w s
    · obtain rfl : k = w.due.length := by omega
      rw [List.take_length]
      refine .x (.tx (.tx (.bh (.t (.s (.r (.p (.m rfl) (.p (.a rfl) (.n (.t (.e ?_)))))))))))
      show GoE W 54 (bodyPost _ _ (fun e w2 => ∃ u, e = _ ∧ True ∧ Sat W w2 (sep (seps [sl intE 1 u w.due, whlH b ⟨min (w.now + 1) 1099511627776, w.due.foldl mapDel w.till⟩]) F))) _ _ _
      refine .ret1 rfl rfl fun w s => ⟨u, ?_, trivial, finE .auto s⟩
      rfl

end Go.SLYtpcjdohmjmeehaaGreat
namespace Go.SLYtpcjdohmjmeehaaGreat
open Go Go.RowKit Go.Proofs Go.Proofs.Tryz

set_option maxRecDepth 20000 in
theorem dng_other {W : World} {bd b p : Nat} {ps : List (Option Nat)} {d : Dng} {h : Int} (h0 : 0 ≤ h) (hT : TakeOk d.s.table) (hs : ∀ n, slotFind d.s.table h = some n → LiveAt ps d.s n) : Fn Tryz.prog W 120 [ptr bd, .int .u64 h] [dngX bd b p ps d] Unit (fun _ => .tuple #[.int .i64 (((d.other h).1 : Nat) : Int), .int .i64 (d.other h).2]) (fun _ => True) (fun _ => [dngX bd b p ps d]) := by
  refine Fn.intro (N := 60) func120 rfl ntmps120 rfl fun F => ?_
  show GoC _ _ _ _ _ _ [dngX bd b p ps d, F]
  refine .o2 (C := dngX bd b p ps d) .auto rfl ?_
  rintro vw ve -
  refine .o10 (C := spcX b ps d.s) .auto rfl ?_
  rintro fv sv pv bt vm bg vt bk bw vr -
  refine .s (.r (.p (.a rfl) (.p (.a rfl) (.n (.t (.s (.r (.p (.m rfl) (.p (.n rfl) (.p (.z rfl) (.p (.l rfl) ?_)))))))))))
  refine .p (.n rfl) (.p (.f rfl) (.p (.l rfl) (.p (.m rfl) ?_)))
  refine .does rfl (Does.callE rfl call148 rfl (slot_Find hT h0) .auto) ?_
  rintro _ _ ⟨⟨⟩, -, rfl, rfl⟩
  refine .p (.m rfl) ?_
  refine .p (.extract (v := .int .i64 (((slotFind d.s.table h).getD 0 : Nat) : Int)) rfl rfl) ?_
  refine .p (.extract (v := .bool (slotFind d.s.table h).isSome) rfl rfl) ?_
  refine .p (.a rfl) (.p (.a rfl) (.n (.t (.s (.b (.s (.r ?_)))))))
  obtain ⟨m, hm⟩ : ∃ m, m = (slotFind d.s.table h).getD 0 := ⟨_, rfl⟩
  rw [← hm]
  refine .p (.m rfl) (.p (.not rfl) (.p (.m rfl) ?_))
  refine .part (t := 23) rfl (fun h23 => ?_) (fun h23 => ?_)
  · refine .u (.u (.u (.u (.u (.u (.p (.t rfl rfl) (.p (.m rfl) (.u (.u (.u (.u (.u (.u (.u (.u (.u (.u (.u (.u (.p (.t rfl rfl) (.p (.a rfl) (.n (.t (.condT rfl ?_))))))))))))))))))))))))
    refine .s (.r (.p (.a rfl) (.p (.a rfl) (.n (.t (.e (.br (.tr ?_))))))))
    rw [other_no (Option.isNone_iff_eq_none.mp (by simpa using h23))]
    refine .ret2 rfl rfl rfl fun w s => ⟨(), ?_, trivial, finE .auto s⟩
    rfl
  · obtain ⟨n, hf⟩ : ∃ n, slotFind d.s.table h = some n := Option.isSome_iff_exists.mp (by simpa using h23)
    obtain rfl : m = n := by rw [hm, hf]; rfl
    obtain ⟨hm16, q, u, hq, hu, hR⟩ := hs m hf
    refine .fr .auto (thrs_out hq hu) ?_
    refine .g (.m rfl) (.g (.m rfl) (.g (.n rfl) (.g (.f rfl) (.g (.l rfl) (.g (.eql rfl rfl) (.p (.u rfl rfl) (.p (.m rfl) ?_)))))))
    refine .partD (t := 31) rfl (fun h31 => ?_) (fun h31 => ?_)
    · refine .u (.u (.u (.u (.u (.u (.u (.u (.u (.u (.u (.u (.p (.t rfl rfl) (.p (.a rfl) (.n (.t (.condT rfl ?_))))))))))))))))
      refine .s (.r (.p (.a rfl) (.p (.a rfl) (.n (.t (.e (.br (.tr ?_))))))))
      refine .to (A := thrsH ps d.s.thr) (Bs := [arr q 0 (thrC u), thrsH (ps.set m none) (d.s.thr.set m none)]) .auto (thrs_keep hq hu) ?_
      rw [other_self hf hu (.inl (Int.ofNat_inj.mp h31))]
      refine .ret2 rfl rfl rfl fun w s => ⟨(), ?_, trivial, finE .auto s⟩
      rfl
    · refine .g (.m rfl) (.g (.n rfl) (.g (.z rfl) (.g (.l rfl) (.g (.m rfl) ?_))))
      refine .g (.n rfl) (.g (.f rfl) ?_)
      refine .g (.ixArr m underlying115 sizeOf114 rfl rfl rfl hm16) ?_
      refine .g (.ld rfl (Cell.a (by rw [Nat.mul_one, spcC_get hm16, getD_of hq]))) ?_
      refine .g (.n rfl) (.g (.f rfl) (.g (.l rfl) (.p (.u rfl rfl) (.p (.a rfl) (.n (.t (.cond rfl (fun h20 => ?_) (fun h20 => ?_))))))))
      · refine .s (.r (.p (.a rfl) (.p (.a rfl) (.n (.t (.e (.br (.tr ?_))))))))
        refine .to (A := thrsH ps d.s.thr) (Bs := [arr q 0 (thrC u), thrsH (ps.set m none) (d.s.thr.set m none)]) .auto (thrs_keep hq hu) ?_
        rw [other_self hf hu (.inr h20)]
        refine .ret2 rfl rfl rfl fun w s => ⟨(), ?_, trivial, finE .auto s⟩
        rfl
      · have hno : ¬ (m = d.n ∨ u.detached = true) := fun hh => hh.elim (fun e => h31 (Int.ofNat_inj.mpr e)) (fun e => by rw [h20] at e; cases e)
        refine .s (.r (.p (.m rfl) (.p (.n rfl) (.p (.z rfl) (.p (.l rfl) (.p (.m rfl) ?_))))))
        refine .p (.n rfl) (.p (.f rfl) ?_)
        refine .p (.ixArr m underlying115 sizeOf114 rfl rfl rfl hm16) ?_
        refine .p (.ld rfl (Cell.a (by rw [Nat.mul_one, spcC_get hm16, getD_of hq]))) ?_
        refine .p (.n rfl) (.p (.f rfl) (.p (.l rfl) (.p (.neq rfl rfl) (.p (.a rfl) (.n (.t (.condD rfl (fun h45 => ?_) (fun h45 => ?_))))))))
        · refine .s (.r (.p (.a rfl) (.p (.a rfl) (.n (.t (.e (.br (.tr ?_))))))))
          refine .to (A := thrsH ps d.s.thr) (Bs := [arr q 0 (thrC u), thrsH (ps.set m none) (d.s.thr.set m none)]) .auto (thrs_keep hq hu) ?_
          rw [other_join hf hu hno h45]
          refine .ret2 rfl rfl rfl fun w s => ⟨(), ?_, trivial, finE .auto s⟩
          rfl
        · refine .v (.b (.t (.s (.r (.p (.m rfl) (.p (.a rfl) (.p (.a rfl) (.n (.t (.e ?_))))))))))
          refine .to (A := thrsH ps d.s.thr) (Bs := [arr q 0 (thrC u), thrsH (ps.set m none) (d.s.thr.set m none)]) .auto (thrs_keep hq hu) ?_
          rw [other_ok hf hu hno (Decidable.byContradiction h45)]
          refine .ret2 rfl rfl rfl fun w s => ⟨(), ?_, trivial, finE .auto s⟩
          rfl

set_option maxRecDepth 20000 in
theorem dng_detach {W : World} {bd b p : Nat} {ps : List (Option Nat)} {d : Dng} {t : Thr} (hp : ps[d.n]? = some (some p)) (ht : d.s.thr[d.n]? = some (some t)) (hk : CallOk ps d t) : Fn Tryz.prog W 91 [ptr bd] [dngX bd b p ps d] (List (Option Nat)) (fun _ => .tuple #[]) (fun _ => True) (fun qs => [dngX bd b p qs d.detach]) := by
  refine Fn.intro (N := 51) func91 rfl ntmps91 rfl fun F => ?_
  show GoC _ _ _ _ _ _ [dngX bd b p ps d, F]
  refine .s (.r (.p (.m rfl) ?_))
  refine .does rfl (Does.callE rfl call92 rfl (dng_a hp ht hk.I.a) .auto) ?_
  rintro _ _ ⟨⟨⟩, -, rfl, rfl⟩
  have hx0 : 0 ≤ d.a := by
    unfold Dng.a; rw [dng_t ht]; exact (hk.R.r _).1
  obtain ⟨x, hx⟩ : ∃ x, x = d.a := ⟨_, rfl⟩
  rw [← hx]
  rw [← hx] at hx0
  refine .p (.a rfl) (.n (.t (.s (.r (.p (.m rfl) (.p (.m rfl) ?_))))))
  refine .does rfl (Does.callE rfl call120 rfl (dng_other hx0 hk.T (hk.slot x)) .auto) ?_
  rintro _ _ ⟨⟨⟩, -, rfl, rfl⟩
  refine .p (.m rfl) ?_
  refine .p (.extract (v := .int .i64 (((d.other x).1 : Nat) : Int)) rfl rfl) ?_
  refine .p (.extract (v := .int .i64 (d.other x).2) rfl rfl) ?_
  refine .p (.a rfl) (.p (.a rfl) (.n (.t (.s (.b (.s (.r (.p (.m rfl) (.p (.neq rfl rfl) (.p (.a rfl) (.n (.t (.condD rfl (fun h24 => ?_) (fun h24 => ?_))))))))))))))
  · refine .v (.b (.t (.r (.p (.m rfl) (.p (.m rfl) (.p (.m rfl) ?_))))))
    refine .does rfl (Does.callE rfl call89 rfl (dng_pass hp ht (Nat.le_trans hk.recs (by decide)) other_bd hk.R.l) .auto) ?_
    rintro _ _ ⟨⟨⟩, -, rfl, rfl⟩
    refine .n ?_
    rw [show d.detach = d.pass x 0 (d.other x).2 from by unfold Dng.detach; rw [← hx]; simp only; rw [if_pos h24]]
    refine .end0 rfl fun w s => ⟨ps, ?_, trivial, finE .auto s⟩
    rfl
  · have hz : (d.other x).2 = 0 := Decidable.byContradiction h24
    obtain ⟨m, q, u, hf, ho1, hmn, hm16, hq, hu, hRu, hdt, hjo⟩ := other_zero (hk.slot x) hz
    rw [ho1, hz]
    refine .s (.r ?_)
    refine .o2 (C := dngX bd b p ps (d)) .auto rfl ?_
    rintro vw ve -
    refine .o10 (C := spcX b ps (d).s) .auto rfl ?_
    rintro fv sv pv bt vm bg vt bk bw vr -
    refine .fr .auto (thrs_out hq hu) ?_
    refine .p (.m rfl) (.p (.n rfl) (.p (.z rfl) (.p (.l rfl) (.p (.m rfl) ?_))))
    refine .p (.n rfl) (.p (.f rfl) ?_)
    refine .p (.ixArr m underlying115 sizeOf114 rfl rfl rfl hm16) ?_
    refine .p (.ld rfl (Cell.a (by rw [Nat.mul_one, spcC_get hm16, getD_of hq]))) ?_
    refine .p (.n rfl) (.p (.f rfl) (.p (.l rfl) (.p (.eql rfl rfl) (.p (.a rfl) (.n (.t (.condD rfl (fun h27 => ?_) (fun h27 => ?_))))))))
    · refine .r ?_
      refine .to (A := thrsH ps d.s.thr) (Bs := [arr q 0 (thrC u), thrsH (ps.set m none) (d.s.thr.set m none)]) .auto (thrs_keep hq hu) ?_
      refine .p (.m rfl) (.p (.n rfl) (.p (.z rfl) (.p (.l rfl) (.p (.m rfl) ?_))))
      refine .does rfl (Does.callE rfl call85 rfl (core_free (s := d.s) hq hu hk.lt hk.lp hk.T hRu.h.1) .auto) ?_
      rintro _ _ ⟨⟨⟩, -, rfl, rfl⟩
      refine .n (.b (.t (.r (.p (.m rfl) (.p (.m rfl) (.p (.m rfl) ?_))))))
      refine .does rfl (Does.callE rfl call89 rfl (dng_pass (d := d.free m) (ps := ps.set m none) (p := p) (t := t) (by show (ps.set m none)[d.n]? = _; rw [List.getElem?_set_ne hmn]; exact hp) (by show (d.s.thr.set m none)[d.n]? = _; rw [List.getElem?_set_ne hmn]; exact ht) (Nat.le_trans hk.recs (by decide)) (by decide) hk.R.l) .auto) ?_
      rintro _ _ ⟨⟨⟩, -, rfl, rfl⟩
      refine .n ?_
      rw [show d.detach = (d.free m).pass x 0 0 from by unfold Dng.detach; rw [← hx]; simp only; rw [if_neg (by rw [hz]; simp), ho1, spc_t hu, if_pos h27]]
      refine .end0 rfl fun w s => ⟨ps.set m none, ?_, trivial, finE .auto s⟩
      rfl
    · refine .r (.p (.m rfl) (.p (.n rfl) (.p (.z rfl) (.p (.l rfl) (.p (.m rfl) ?_)))))
      refine .p (.n rfl) (.p (.f rfl) ?_)
      refine .p (.ixArr m underlying115 sizeOf114 rfl rfl rfl hm16) ?_
      refine .p (.ld rfl (Cell.a (by rw [Nat.mul_one, spcC_get hm16, getD_of hq]))) ?_
      refine .p (.n rfl) (.p (.f rfl) ?_)
      refine .does rfl (Does.st sizeOf4 rfl rfl rfl rfl) ?_
      rintro _ _ ⟨rfl, rfl⟩
      rw [thr_det]
      refine .n (.b (.t (.r (.p (.m rfl) (.p (.m rfl) (.p (.m rfl) ?_))))))
      refine .to (A := thrsH ps (d.s.thr.set m (some ({ u with detached := true })))) (Bs := [arr q 0 (thrC ({ u with detached := true })), thrsH (ps.set m none) (d.s.thr.set m none)]) .auto (thrs_shut (List.getElem?_eq_some_iff.1 hu).1 hq) ?_
      refine .does rfl (Does.callE rfl call89 rfl (dng_pass (d := { d with s := d.s.setT m { u with detached := true } }) (ps := ps) (p := p) (t := t) hp (setT_thr ht hmn) (Nat.le_trans hk.recs (by decide)) (by decide) hk.R.l) .auto) ?_
      rintro _ _ ⟨⟨⟩, -, rfl, rfl⟩
      refine .n ?_
      rw [show d.detach = ({ d with s := d.s.setT m { u with detached := true } } : Dng).pass x 0 0 from by unfold Dng.detach; rw [← hx]; simp only; rw [if_neg (by rw [hz]; simp), ho1, spc_t hu, if_neg h27]]
      refine .end0 rfl fun w s => ⟨ps, ?_, trivial, finE .auto s⟩
      rfl

set_option maxRecDepth 20000 in
theorem dng_join {W : World} {bd b p : Nat} {ps : List (Option Nat)} {d : Dng} {t : Thr} (hp : ps[d.n]? = some (some p)) (ht : d.s.thr[d.n]? = some (some t)) (hk : CallOk ps d t) : Fn Tryz.prog W 90 [ptr bd] [dngX bd b p ps d] (List (Option Nat)) (fun _ => .tuple #[]) (fun _ => True) (fun qs => [dngX bd b p qs d.join]) := by
  refine Fn.intro (N := 94) func90 rfl ntmps90 rfl fun F => ?_
  show GoC _ _ _ _ _ _ [dngX bd b p ps d, F]
  have hIa := hk.I.a
  have hRl := hk.R.l
  refine .s (.r (.p (.m rfl) ?_))
  refine .does rfl (Does.callE rfl call119 rfl (dng_b hp ht hk.I.b) .auto) ?_
  rintro _ _ ⟨⟨⟩, -, rfl, rfl⟩
  have hx0 : 0 ≤ d.b := by
    unfold Dng.b; rw [dng_t ht]; exact (hk.R.r _).1
  obtain ⟨x, hx⟩ : ∃ x, x = d.b := ⟨_, rfl⟩
  rw [← hx]
  rw [← hx] at hx0
  refine .p (.a rfl) (.n (.t (.s (.r (.p (.m rfl) (.p (.m rfl) ?_))))))
  refine .does rfl (Does.callE rfl call120 rfl (dng_other hx0 hk.T (hk.slot x)) .auto) ?_
  rintro _ _ ⟨⟨⟩, -, rfl, rfl⟩
  refine .p (.m rfl) ?_
  refine .p (.extract (v := .int .i64 (((d.other x).1 : Nat) : Int)) rfl rfl) ?_
  refine .p (.extract (v := .int .i64 (d.other x).2) rfl rfl) ?_
  refine .p (.a rfl) (.p (.a rfl) (.n (.t (.b (.s (.r (.p (.m rfl) (.p (.neq rfl rfl) (.p (.a rfl) (.n (.t (.condD rfl (fun h37 => ?_) (fun h37 => ?_)))))))))))))
  · refine .r (.p (.m rfl) (.p (.m rfl) (.p (.m rfl) ?_)))
    refine .does rfl (Does.callE rfl call89 rfl (dng_pass hp ht (Nat.le_trans hk.recs (by decide)) other_bd hk.R.l) .auto) ?_
    rintro _ _ ⟨⟨⟩, -, rfl, rfl⟩
    refine .n (.b ?_)
    rw [show d.join = d.pass x 0 (d.other x).2 from by unfold Dng.join; rw [← hx]; simp only; rw [if_pos h37]]
    refine .end0 rfl fun w s => ⟨ps, ?_, trivial, finE .auto s⟩
    rfl
  · have hz : (d.other x).2 = 0 := Decidable.byContradiction h37
    obtain ⟨m, q, u, hf, ho1, hmn, hm16, hq, hu, hRu, hdt, hjo⟩ := other_zero (hk.slot x) hz
    rw [ho1, hz]
    refine .s (.r ?_)
    refine .o2 (C := dngX bd b p ps (d)) .auto rfl ?_
    rintro vw ve -
    refine .o10 (C := spcX b ps (d).s) .auto rfl ?_
    rintro fv sv pv bt vm bg vt bk bw vr -
    refine .fr .auto (thrs_out hq hu) ?_
    refine .p (.m rfl) (.p (.n rfl) (.p (.z rfl) (.p (.l rfl) (.p (.m rfl) ?_))))
    refine .p (.n rfl) (.p (.f rfl) ?_)
    refine .p (.ixArr m underlying115 sizeOf114 rfl rfl rfl hm16) ?_
    refine .p (.ld rfl (Cell.a (by rw [Nat.mul_one, spcC_get hm16, getD_of hq]))) ?_
    refine .p (.n rfl) (.p (.f rfl) (.p (.l rfl) (.p (.eql rfl rfl) (.p (.a rfl) (.n (.t (.condD rfl (fun h44 => ?_) (fun h44 => ?_))))))))
    · refine .s (.r (.p (.m rfl) (.p (.n rfl) (.p (.z rfl) (.p (.l rfl) (.p (.m rfl) ?_))))))
      refine .p (.n rfl) (.p (.f rfl) ?_)
      refine .p (.ixArr m underlying115 sizeOf114 rfl rfl rfl hm16) ?_
      refine .p (.ld rfl (Cell.a (by rw [Nat.mul_one, spcC_get hm16, getD_of hq]))) ?_
      refine .p (.n rfl) (.p (.f rfl) (.p (.l rfl) (.p (.a rfl) (.n (.t (.s ?_))))))
      refine .to (A := thrsH ps d.s.thr) (Bs := [arr q 0 (thrC u), thrsH (ps.set m none) (d.s.thr.set m none)]) .auto (thrs_keep hq hu) ?_
      refine .fr .auto (thrs_out hp ht) ?_
      refine .draw [arr bd 0 (dngC b p d vw ve)] [1, 1, 1, 1, 1, 1, 1, 1, 1, 1, 1, 1, 1, 1, 3] rfl (by kernel_rfl) ?_
      refine .p (.m rfl) (.p (.n rfl) (.p (.f rfl) (.p (.l rfl) (.p (.m rfl) ?_))))
      refine .p (.n rfl) (.p (.f rfl) (.p (.o rfl) (.p (.l rfl) (.p (.m rfl) ?_))))
      refine .p (.n rfl) (.p (.z rfl) (.p (.f rfl) ?_))
      refine .p (.ixArr d.i.a.toNat underlying57 sizeOf43 rfl rfl (by omega) (by omega)) ?_
      refine .d3 rfl (Does.st sizeOf43 rfl rfl rfl (Nat.blt_eq.mpr (by show 2 + d.i.a.toNat * 1 < 18; omega))) ?_
      rintro _ _ ⟨rfl, rfl⟩
      rw [thr_setI _ (by omega) (by omega) hRl]
      refine .to (A := thrsH ps (d.s.thr.set d.n (some (t.put d.i.a u.value)))) (Bs := [arr p 0 (thrC (t.put d.i.a u.value)), thrsH (ps.set d.n none) (d.s.thr.set d.n none)]) .auto (thrs_shut (List.getElem?_eq_some_iff.1 ht).1 hp) ?_
      refine .n (.t (.s (.r (.p (.m rfl) (.p (.n rfl) (.p (.z rfl) (.p (.l rfl) (.p (.m rfl) ?_))))))))
      refine .does rfl (Does.callE rfl call85 rfl (core_free (s := (d.setT (t.put d.i.a u.value)).s) hq (setT_thr hu (Ne.symm hmn)) (by simp [Dng.setT, Spc.setT, hk.lt]) hk.lp hk.T hRu.h.1) .auto) ?_
      rintro _ _ ⟨⟨⟩, -, rfl, rfl⟩
      refine .n (.t (.r (.p (.m rfl) (.p (.m rfl) (.p (.m rfl) ?_)))))
      refine .does rfl (Does.callE rfl call89 rfl (dng_pass (d := (d.setT (t.put d.i.a u.value)).free m) (ps := ps.set m none) (p := p) (t := t.put d.i.a u.value) (by show (ps.set m none)[d.n]? = _; rw [List.getElem?_set_ne hmn]; exact hp) (by show ((d.setT (t.put d.i.a u.value)).s.thr.set m none)[d.n]? = _; rw [List.getElem?_set_ne hmn]; exact setT_same ht) (Nat.le_trans hk.recs (by decide)) (by decide) (by rw [put_len]; exact hRl)) .auto) ?_
      rintro _ _ ⟨⟨⟩, -, rfl, rfl⟩
      refine .n (.b ?_)
      rw [show d.join = ((d.setT (t.put d.i.a u.value)).free m).pass x u.value 0 from by unfold Dng.join; rw [← hx]; simp only; rw [if_neg (by rw [hz]; simp), ho1, spc_t hu, if_pos h44, dng_t ht]]
      refine .end0 rfl fun w s => ⟨ps.set m none, ?_, trivial, finE .auto s⟩
      rfl
    · refine .s ?_
      refine .draw [arr bd 0 (dngC b p d vw ve)] [1, 1, 1, 1, 1, 1, 1, 1, 1, 1, 1, 1, 1, 1, 1, 3] rfl (by kernel_rfl) ?_
      refine .p (.m rfl) (.p (.n rfl) (.p (.z rfl) (.p (.l rfl) (.p (.m rfl) ?_))))
      refine .p (.n rfl) (.p (.f rfl) ?_)
      refine .p (.ixArr m underlying115 sizeOf114 rfl rfl rfl hm16) ?_
      refine .p (.ld rfl (Cell.a (by rw [Nat.mul_one, spcC_get hm16, getD_of hq]))) ?_
      refine .p (.m rfl) (.p (.n rfl) (.p (.f rfl) (.p (.l rfl) ?_)))
      refine .p (.n rfl) (.p (.f rfl) ?_)
      refine .d3 rfl (Does.st sizeOf3 rfl rfl rfl rfl) ?_
      rintro _ _ ⟨rfl, rfl⟩
      rw [thr_joiner]
      refine .to (A := thrsH ps (d.s.thr.set m (some ({ u with joiner := d.n })))) (Bs := [arr q 0 (thrC ({ u with joiner := d.n })), thrsH (ps.set m none) (d.s.thr.set m none)]) .auto (thrs_shut (List.getElem?_eq_some_iff.1 hu).1 hq) ?_
      refine .n (.t (.r (.p (.m rfl) (.p (.m rfl) (.p (.n rfl) (.p (.f rfl) (.p (.o rfl) (.p (.l rfl) (.p (.m rfl) ?_)))))))))
      refine .does rfl (Does.callE rfl call121 rfl (dng_block (d := { d with s := d.s.setT m { u with joiner := d.n } }) (ps := ps) (p := p) (t := t) hp (setT_thr ht hmn) (Nat.le_trans hk.recs (by decide))) .auto) ?_
      rintro _ _ ⟨⟨⟩, -, rfl, rfl⟩
      refine .n (.b ?_)
      rw [show d.join = ({ d with s := d.s.setT m { u with joiner := d.n } } : Dng).block 4 d.i.a x 0 from by unfold Dng.join; rw [← hx]; simp only; rw [if_neg (by rw [hz]; simp), ho1, spc_t hu, if_neg h44]]
      refine .end0 rfl fun w s => ⟨ps, ?_, trivial, finE .auto s⟩
      rfl

set_option maxRecDepth 20000 in
theorem dng_sleep {W : World} {bd b p : Nat} {ps : List (Option Nat)} {d : Dng} {t : Thr} (hp : ps[d.n]? = some (some p)) (ht : d.s.thr[d.n]? = some (some t)) (hk : CallOk ps d t) : Fn Tryz.prog W 135 [ptr bd] [dngX bd b p ps d] Unit (fun _ => .tuple #[]) (fun _ => True) (fun _ => [dngX bd b p ps (d.sleep)]) := by
  refine Fn.intro (N := 34) func135 rfl ntmps135 rfl fun F => ?_
  show GoC _ _ _ _ _ _ [dngX bd b p ps d, F]
  refine .s (.r (.p (.m rfl) ?_))
  refine .does rfl (Does.callE rfl call92 rfl (dng_a hp ht hk.I.a) .auto) ?_
  rintro _ _ ⟨⟨⟩, -, rfl, rfl⟩
  have hx0 : 0 ≤ d.a := by
    unfold Dng.a; rw [dng_t ht]; exact (hk.R.r _).1
  obtain ⟨x, hx⟩ : ∃ x, x = d.a := ⟨_, rfl⟩
  rw [← hx]
  rw [← hx] at hx0
  refine .p (.a rfl) (.n (.t (.b (.s (.r (.p (.m rfl) (.p (.eql rfl rfl) (.p (.a rfl) (.n (.t (.condD rfl (fun h22 => ?_) (fun h22 => ?_))))))))))))
  · refine .r (.p (.m rfl) (.p (.m rfl) ?_))
    refine .does rfl (Does.callE rfl call89 rfl (dng_pass hp ht (Nat.le_trans hk.recs (by decide)) (by decide) hk.R.l) .auto) ?_
    rintro _ _ ⟨⟨⟩, -, rfl, rfl⟩
    refine .n (.b ?_)
    rw [show d.sleep = d.pass x 0 0 from by unfold Dng.sleep; rw [← hx]; simp only; rw [if_pos h22]]
    refine .end0 rfl fun w s => ⟨(), ?_, trivial, finE .auto s⟩
    rfl
  · refine .s (.r (.p (.m rfl) (.p (.gtr rfl rfl) (.p (.a rfl) (.n (.t (.condD rfl (fun h28 => ?_) (fun h28 => ?_))))))))
    · refine .r (.p (.m rfl) (.p (.m rfl) ?_))
      refine .does rfl (Does.callE rfl call89 rfl (dng_pass hp ht (Nat.le_trans hk.recs (by decide)) (by decide) hk.R.l) .auto) ?_
      rintro _ _ ⟨⟨⟩, -, rfl, rfl⟩
      refine .n (.b ?_)
      rw [show d.sleep = d.pass x 0 1 from by unfold Dng.sleep; rw [← hx]; simp only; rw [if_neg h22, if_pos h28]]
      refine .end0 rfl fun w s => ⟨(), ?_, trivial, finE .auto s⟩
      rfl
    · refine .s ?_
      refine .o2 (C := dngX bd b p ps (d)) .auto rfl ?_
      rintro vw ve -
      refine .o10 (C := spcX b ps (d).s) .auto rfl ?_
      rintro fv sv pv bt vm bg vt bk bw vr -
      refine .draw [arr bd 0 (dngC b p d vw ve), arr b 0 (spcC fv sv pv d.s.prg bt ps vm bg vt bk bw vr)] [1, 1, 1, 1, 1, 1, 1, 1, 1, 1, 1, 1, 1, 3] rfl (by kernel_rfl) ?_
      refine .p (.m rfl) (.p (.n rfl) (.p (.z rfl) (.p (.l rfl) ?_)))
      refine .p (.n rfl) (.p (.f rfl) (.p (.l rfl) (.p (.m rfl) ?_)))
      refine .p (.n rfl) (.p (.f rfl) (.p (.l rfl) (.p (.m rfl) ?_)))
      refine .p (.convI underlying43 underlying3 rfl (by omega)) ?_
      refine .d3 rfl (Does.callE rfl call164 rfl (wheel_Sleep hk.wn) .auto) ?_
      rintro _ _ ⟨⟨⟩, -, rfl, rfl⟩
      refine .n (.t (.r (.p (.m rfl) (.p (.m rfl) ?_))))
      refine .does rfl (Does.callE rfl call121 rfl (dng_block (d := d.withW (d.s.wheel.sleep d.n x).2) hp ht (Nat.le_trans hk.recs (by decide))) .auto) ?_
      rintro _ _ ⟨⟨⟩, -, rfl, rfl⟩
      refine .n (.b ?_)
      rw [show d.sleep = (d.withW (d.s.wheel.sleep d.n x).2).block 8 (-1) x 0 from by unfold Dng.sleep; rw [← hx]; simp only; rw [if_neg h22, if_neg h28]]
      refine .end0 rfl fun w s => ⟨(), ?_, trivial, finE .auto s⟩
      rfl

set_option maxRecDepth 20000 in
theorem dng_ask {W : World} {bd b p : Nat} {ps : List (Option Nat)} {d : Dng} {t : Thr} (hp : ps[d.n]? = some (some p)) (ht : d.s.thr[d.n]? = some (some t)) (hk : CallOk ps d t) {block y into : Int} (hb : 0 ≤ block) : Fn Tryz.prog W 132 [ptr bd, .int .u64 block, .int .u64 y, .int .i64 into] [dngX bd b p ps d] Unit (fun _ => .tuple #[]) (fun _ => True) (fun _ => [dngX bd b p ps (d.ask block y into)]) := by
  refine Fn.intro (N := 45) func132 rfl ntmps132 rfl fun F => ?_
  show GoC _ _ _ _ _ _ [dngX bd b p ps d, F]
  refine .s (.r (.p (.a rfl) (.n (.t (.s (.s (.r (.p (.m rfl) (.p (.lss rfl rfl) (.n (.t (.condD rfl (fun h10 => ?_) (fun h10 => ?_)))))))))))))
  · refine .o2 (C := dngX bd b p ps (d)) .auto rfl ?_
    rintro vw ve -
    refine .o10 (C := spcX b ps (d).s) .auto rfl ?_
    rintro fv sv pv bt vm bg vt bk bw vr -
    refine .draw [arr bd 0 (dngC b p d vw ve), arr b 0 (spcC fv sv pv d.s.prg bt ps vm bg vt bk bw vr)] [1, 1, 1, 1, 1, 1, 1, 1, 1, 1, 1, 1, 1, 1, 1, 1, 1, 1, 1, 1, 1, 3, 1] rfl (by kernel_rfl) ?_
    refine .p (.m rfl) (.p (.n rfl) (.p (.z rfl) (.p (.l rfl) ?_)))
    refine .p (.n rfl) (.p (.f rfl) (.p (.l rfl) (.p (.m rfl) ?_)))
    refine .p (.n rfl) (.p (.f rfl) (.p (.l rfl) (.p (.m rfl) ?_)))
    refine .p (.convI underlying43 underlying3 rfl (by omega)) ?_
    refine .p (.m rfl) (.p (.n rfl) (.p (.f rfl) (.p (.z rfl) (.p (.l rfl) (.p (.eql rfl rfl) (.p (.m rfl) ?_))))))
    refine .p (.bld4 (fun v1 v2 v3 v4 => [v1, v2, v3, v4]) rfl rfl rfl rfl (by kernel_rfl)) ?_
    refine .d3 rfl (Does.callE rfl call161 rfl (disk_Ask (r := (⟨d.n, block, decide (d.i.op = 34), y⟩ : Rqs)) hk.dw) .auto) ?_
    rintro _ _ ⟨⟨⟩, -, rfl, rfl⟩
    refine .p (.a rfl) (.n (.t (.s (.s (.r (.p (.m rfl) (.p (.neq rfl rfl) (.n (.t (.condD rfl (fun h34 => ?_) (fun h34 => ?_)))))))))))
    · refine .s (.r (.p (.m rfl) (.p (.m rfl) (.p (.m rfl) (.p (.m rfl) ?_)))))
      refine .does rfl (Does.callE rfl call89 rfl (dng_pass (d := d.withD (d.s.disk.ask ⟨d.n, block, decide (d.i.op = 34), y⟩).2) hp ht (Nat.le_trans hk.recs (by decide)) ask_bd hk.R.l) .auto) ?_
      rintro _ _ ⟨⟨⟩, -, rfl, rfl⟩
      refine .n (.t (.e (.tr ?_)))
      rw [show d.ask block y into = (d.withD (d.s.disk.ask ⟨d.n, block, decide (d.i.op = 34), y⟩).2).pass block y (d.s.disk.ask ⟨d.n, block, decide (d.i.op = 34), y⟩).1 from by unfold Dng.ask; rw [if_pos h10]; simp only; rw [if_pos h34]]
      refine .ret0 rfl fun w s => ⟨(), ?_, trivial, finE .auto s⟩
      rfl
    · refine .v (.t (.r (.p (.m rfl) (.p (.m rfl) (.p (.m rfl) (.p (.m rfl) ?_))))))
      refine .does rfl (Does.callE rfl call121 rfl (dng_block (d := d.withD (d.s.disk.ask ⟨d.n, block, decide (d.i.op = 34), y⟩).2) hp ht (Nat.le_trans hk.recs (by decide))) .auto) ?_
      rintro _ _ ⟨⟨⟩, -, rfl, rfl⟩
      refine .n ?_
      rw [show d.ask block y into = (d.withD (d.s.disk.ask ⟨d.n, block, decide (d.i.op = 34), y⟩).2).block 5 into block y from by unfold Dng.ask; rw [if_pos h10]; simp only; rw [if_neg h34]]
      refine .end0 rfl fun w s => ⟨(), ?_, trivial, finE .auto s⟩
      rfl
  · refine .v (.t (.s (.s (.r (.p (.m rfl) (.p (.neq rfl rfl) (.n (.t (.condT rfl ?_)))))))))
    refine .s (.r (.p (.m rfl) (.p (.m rfl) (.p (.m rfl) (.p (.m rfl) ?_)))))
    refine .does rfl (Does.callE rfl call89 rfl (dng_pass hp ht (Nat.le_trans hk.recs (by decide)) (by decide) hk.R.l) .auto) ?_
    rintro _ _ ⟨⟨⟩, -, rfl, rfl⟩
    refine .n (.t (.e (.tr ?_)))
    rw [show d.ask block y into = d.pass block y 1 from by unfold Dng.ask; rw [if_neg h10]]
    refine .ret0 rfl fun w s => ⟨(), ?_, trivial, finE .auto s⟩
    rfl

end Go.SLYtpcjdohmjmeehaaGreat
