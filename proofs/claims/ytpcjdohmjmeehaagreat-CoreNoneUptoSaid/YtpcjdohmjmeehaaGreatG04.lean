/- Walks of functions, and what they compute. Conditions: none, this text proves no statement. -/
import Derived.Test.YtpcjdohmjmeehaaGreatProg
import Derived.Test.YtpcjdohmjmeehaaGreatG03
import Derived.KernelRfl
import Derived.Test.YtpcjdohmjmeehaaGreatG02
namespace Go.SLYtpcjdohmjmeehaaGreat
open Go Go.RowKit Go.Proofs

set_option maxRecDepth 20000 in
theorem gate_clamp {W : World} {n m : Int} : Fn Tryz.prog W 83 [.int .i64 n, .int .i64 m] [] Unit (fun _ => .int .i64 (clamp n m)) (fun _ => True) (fun _ => []) := by
  refine Fn.intro (N := 9) Tryz.func83 rfl Tryz.ntmps83 rfl fun F => ?_
  show GoC _ _ _ _ _ _ [F]
  refine GoC.seq ?_
  refine GoC.region ?_
  refine GoL.y rfl (Y.assign rfl) ?_
  refine GoL.nil ?_
  refine GoE.then_normal ?_
  refine GoC.seq ?_
  refine GoC.region ?_
  refine GoL.y rfl (Y.move rfl) ?_
  refine GoL.y rfl (Y.max2m rfl rfl) ?_
  refine GoL.y rfl (Y.move rfl) ?_
  refine GoL.y rfl (Y.min2m rfl rfl) ?_
  refine GoL.y rfl (Y.assign rfl) ?_
  refine GoL.nil ?_
  refine GoE.then_normal ?_
  refine GoC.ret ?_
  refine GoE.ret1 rfl rfl fun w s => ⟨(), ?_, trivial, finE .auto s⟩
  rfl

set_option maxRecDepth 20000 in
theorem slot_New {W : World} {n : Int} : Fn Tryz.prog W 50 [.int .i64 n] [] Nat (fun b => ptr b) (fun _ => True) (fun b => [tblH b (List.replicate (clamp n 1024).toNat (false, 0))]) := by
  refine Fn.intro (N := 9) Tryz.func50 rfl Tryz.ntmps50 rfl fun F => ?_
  show GoC _ _ _ _ _ _ [F]
  refine GoC.seq ?_
  refine GoC.region ?_
  refine GoL.y rfl (Y.assign rfl) ?_
  refine GoL.nil ?_
  refine GoE.then_normal ?_
  refine GoC.seq ?_
  refine GoC.region ?_
  refine GoL.y rfl (Y.move rfl) ?_
  refine GoL.y rfl (Y.max2m rfl rfl) ?_
  refine GoL.y rfl (Y.min2m rfl rfl) ?_
  have hc : (clamp n 1024).toNat ≤ 1024 := by unfold clamp; omega
  refine GoL.does rfl (Does.mkSl (enc := oneE) (k := 2) (false, 0) (clamp n 1024).toNat rfl Tryz.underlying159 Tryz.typeInfo209 rfl rfl rfl rfl (by decide) (by decide) rfl rfl (by unfold clamp; omega) (by unfold clamp; omega) (by omega)) ?_
  rintro _ _ ⟨b6, rfl, rfl⟩
  refine GoL.y rfl (Y.bld1 (fun v1 => [v1]) rfl (by kernel_rfl)) ?_
  refine GoL.does rfl (Does.box rfl rfl rfl) ?_
  rintro _ _ ⟨b8, rfl, rfl⟩
  refine GoL.y rfl (Y.assign rfl) ?_
  refine GoL.nil ?_
  refine GoE.then_normal ?_
  refine GoC.ret ?_
  refine GoE.ret1 rfl rfl fun w s => ⟨b8, ?_, trivial, finE .auto s⟩
  rfl

set_option maxRecDepth 20000 in
theorem disk_New {W : World} {n : Int} : Fn Tryz.prog W 52 [.int .i64 n] [] Nat (fun b => ptr b) (fun _ => True) (fun b => [dskH b (Dsk.new n)]) := by
  refine Fn.intro (N := 9) Tryz.func52 rfl Tryz.ntmps52 rfl fun F => ?_
  show GoC _ _ _ _ _ _ [F]
  refine GoC.seq ?_
  refine GoC.region ?_
  refine GoL.y rfl (Y.assign rfl) ?_
  refine GoL.nil ?_
  refine GoE.then_normal ?_
  refine GoC.seq ?_
  refine GoC.region ?_
  refine GoL.y rfl (Y.move rfl) ?_
  refine GoL.y rfl (Y.max2m rfl rfl) ?_
  refine GoL.y rfl (Y.min2m rfl rfl) ?_
  have hc : (clamp n 64).toNat ≤ 64 := by unfold clamp; omega
  refine GoL.does rfl (Does.mkSl (enc := wrdE) (k := 1) (0 : Int) (clamp n 64).toNat rfl Tryz.underlying51 Tryz.typeInfo43 rfl rfl rfl rfl (by decide) (by decide) rfl rfl (by unfold clamp; omega) (by unfold clamp; omega) (by omega)) ?_
  rintro _ _ ⟨b6, rfl, rfl⟩
  refine GoL.y rfl (Y.bld1 (fun v1 => [v1, (.slice none 0 0)]) rfl (by kernel_rfl)) ?_
  refine GoL.does rfl (Does.box rfl rfl rfl) ?_
  rintro _ _ ⟨b8, rfl, rfl⟩
  refine GoL.y rfl (Y.assign rfl) ?_
  refine GoL.nil ?_
  refine GoE.then_normal ?_
  refine GoC.ret ?_
  refine GoE.ret1 rfl rfl fun w s => ⟨b8, ?_, trivial, finE .auto s⟩
  rfl

set_option maxRecDepth 20000 in
theorem tube_New {W : World} {n : Int} : Fn Tryz.prog W 56 [.int .i64 n] [] Nat (fun b => ptr b) (fun _ => True) (fun b => [tubH b (Tub.new n)]) := by
  refine Fn.intro (N := 8) Tryz.func56 rfl Tryz.ntmps56 rfl fun F => ?_
  show GoC _ _ _ _ _ _ [F]
  refine GoC.seq ?_
  refine GoC.region ?_
  refine GoL.y rfl (Y.assign rfl) ?_
  refine GoL.nil ?_
  refine GoE.then_normal ?_
  refine GoC.seq ?_
  refine GoC.region ?_
  refine GoL.y rfl (Y.move rfl) ?_
  refine GoL.y rfl (Y.max2m rfl rfl) ?_
  refine GoL.y rfl (Y.min2m rfl rfl) ?_
  refine GoL.y rfl (Y.bld1 (fun v1 => [v1, (.slice none 0 0), (.slice none 0 0), (.slice none 0 0)]) rfl (by kernel_rfl)) ?_
  refine GoL.does rfl (Does.box rfl rfl rfl) ?_
  rintro _ _ ⟨b7, rfl, rfl⟩
  refine GoL.y rfl (Y.assign rfl) ?_
  refine GoL.nil ?_
  refine GoE.then_normal ?_
  refine GoC.ret ?_
  refine GoE.ret1 rfl rfl fun w s => ⟨b7, ?_, trivial, finE .auto s⟩
  rfl

set_option maxRecDepth 20000 in
theorem wheel_New {W : World}  : Fn Tryz.prog W 53 [] [] Nat (fun b => ptr b) (fun _ => True) (fun b => [whlH b Whl.new]) := by
  refine Fn.intro (N := 4) Tryz.func53 rfl Tryz.ntmps53 rfl fun F => ?_
  show GoC _ _ _ _ _ _ [F]
  refine GoC.seq ?_
  refine GoC.region ?_
  refine GoL.y rfl (Y.assign rfl) ?_
  refine GoL.nil ?_
  refine GoE.then_normal ?_
  refine GoC.seq ?_
  refine GoC.region ?_
  refine GoL.does rfl (Does.makeMap rfl) ?_
  rintro _ _ ⟨m1, rfl, rfl⟩
  refine GoL.y rfl (Y.bld1 (fun v1 => [(.int .i64 0), v1]) rfl (by kernel_rfl)) ?_
  refine GoL.does rfl (Does.box rfl rfl rfl) ?_
  rintro _ _ ⟨b3, rfl, rfl⟩
  refine GoL.y rfl (Y.assign rfl) ?_
  refine GoL.nil ?_
  refine GoE.then_normal ?_
  refine GoC.ret ?_
  refine GoE.to (A := mapH m1 []) (Bs := [objAt m1 (.map #[] 0)]) .auto (fun h a => ⟨[], 0, ⟨rfl, List.nodup_nil, fun e he => (by cases he), List.nodup_nil⟩, a⟩) ?_
  refine GoE.ret1 rfl rfl fun w s => ⟨b3, ?_, trivial, finE .auto s⟩
  rfl

set_option maxRecDepth 20000 in
theorem slot_handle {W : World} {o : Bool × Int} {n : Nat} (ho : 0 ≤ o.2 ∧ o.2 < 2199023255552) (hn : n < 65536) : Fn Tryz.prog W 115 [.agg (oneE o).toArray, .int .i64 (n : Int)] [] Unit (fun _ => .int .u64 (slotH o.2 n)) (fun _ => True) (fun _ => []) := by
  refine Fn.intro (N := 12) Tryz.func115 rfl Tryz.ntmps115 rfl fun F => ?_
  show GoC _ _ _ _ _ _ [F]
  refine GoC.seq ?_
  refine GoC.region ?_
  refine GoL.does rfl (Does.box rfl rfl rfl) ?_
  rintro _ _ ⟨b2, rfl, rfl⟩
  refine GoL.y rfl (Y.assign rfl) ?_
  refine GoL.nil ?_
  refine GoE.then_normal ?_
  refine GoC.seq ?_
  refine GoC.region ?_
  refine GoL.y rfl (Y.fieldAddr0 1 43 Tryz.underlying209 rfl Tryz.sizeOf43 rfl) ?_
  refine GoL.y rfl (Y.load Tryz.isAgg43 rfl (Cell.a (by rfl))) ?_
  refine GoL.y rfl (Y.mulU rfl rfl (by omega)) ?_
  refine GoL.y rfl (Y.move rfl) ?_
  refine GoL.y rfl (Y.convU Tryz.underlying3 Tryz.underlying43 rfl (by omega)) ?_
  refine GoL.y rfl (Y.addU rfl rfl (by omega)) ?_
  refine GoL.y rfl (Y.addU rfl rfl (by omega)) ?_
  refine GoL.y rfl (Y.assign rfl) ?_
  refine GoL.nil ?_
  refine GoE.then_normal ?_
  refine GoC.ret ?_
  refine GoE.ret1 rfl rfl fun w s => ⟨(), ?_, trivial, finE .auto s⟩
  rfl

set_option maxRecDepth 20000 in
theorem slot_Take {W : World} {b : Nat} {l : List (Bool × Int)} (hl : TakeOk l) : Fn Tryz.prog W 84 [ptr b] [tblH b l] Unit (fun _ => .tuple #[.int .i64 (slotTake l).1, .int .u64 (slotTake l).2.1, .int .i64 (slotTake l).2.2.1]) (fun _ => True) (fun _ => [tblH b (slotTake l).2.2.2]) := by
  refine Fn.intro (N := 45) Tryz.func84 rfl Tryz.ntmps84 rfl fun F => ?_
  show GoC _ _ _ _ _ _ [tblH b l, F]
  refine GoC.o1 (C := tblH b l) .auto rfl ?_
  rintro v -
  obtain ⟨hl1, hl2⟩ := hl
  refine GoC.seq ?_
  refine GoC.region ?_
  refine GoL.y rfl (Y.assign rfl) ?_
  refine GoL.y rfl (Y.assign rfl) ?_
  refine GoL.y rfl (Y.assign rfl) ?_
  refine GoL.nil ?_
  refine GoE.then_normal ?_
  refine GoC.seq ?_
  refine GoC.seq ?_
  refine GoC.region ?_
  refine GoL.y rfl (Y.move rfl) ?_
  refine GoL.y rfl (Y.eqPtrNil Tryz.underlying106 rfl rfl) ?_
  refine GoL.nil ?_
  refine GoE.then_normal ?_
  refine GoC.condF rfl ?_
  refine GoC.skip ?_
  refine GoE.then_normal ?_
  refine GoC.seq ?_
  refine GoC.seq ?_
  refine GoC.region ?_
  refine GoL.y rfl (Y.move rfl) ?_
  refine GoL.y rfl (Y.nilCheck rfl) ?_
  refine GoL.y rfl (Y.fieldAddrZ 159 Tryz.underlying161 rfl Tryz.sizeOf159 rfl) ?_
  refine GoL.y rfl (Y.load Tryz.isAgg159 rfl (Cell.a (by rfl))) ?_
  refine GoL.y rfl (Y.lenRd Tryz.underlying159 rfl Rd.s) ?_
  refine GoL.y rfl (Y.move rfl) ?_
  refine GoL.nil ?_
  refine GoE.then_normal ?_
  refine GoC.block ?_
  refine GoC.loopK (X := Nat) [2, 3, 4, 5, 6, 14, 15, 16, 17, 18, 19, 20, 21, 22, 23, 24, 25, 26, 27, 28, 29, 30, 31, 32, 33, 34, 35, 36, 37, 38, 39, 40, 41, 42, 43, 44] (fun k => l.length - k) (fun k => k ≤ l.length ∧ slotFree? l 0 = slotFree? (l.drop k) k) (fun k => [(14, some (.int .i64 (k : Int)))]) (fun k => [arr b 0 [v], sl oneE 2 v l, F]) 0 ?_ ?_ ?_ ?_
  · exact ⟨Nat.zero_le _, by simp⟩
  · exact ⟨rfl, trivial⟩
  · exact fun w s => Ent.kept .auto w s
  rintro k ⟨hk, hn⟩
  refine GoC.seq ?_
  refine GoC.region ?_
  refine GoL.y rfl (Y.lss rfl rfl) ?_
  refine GoL.nil ?_
  refine GoE.then_normal ?_
  refine GoC.seq ?_
  refine GoC.condD rfl (fun h15 => ?_) (fun h15 => ?_)
  · refine GoC.skip ?_
    refine GoE.then_normal ?_
    refine GoC.seq ?_
    refine GoC.block ?_
    refine GoC.seq ?_
    refine GoC.region ?_
    refine GoL.y rfl (Y.move rfl) ?_
    refine GoL.y rfl (Y.assign rfl) ?_
    refine GoL.nil ?_
    refine GoE.then_normal ?_
    refine GoC.seq ?_
    refine GoC.region ?_
    refine GoL.y rfl (Y.move rfl) ?_
    refine GoL.y rfl (Y.nilCheck rfl) ?_
    refine GoL.y rfl (Y.fieldAddrZ 159 Tryz.underlying161 rfl Tryz.sizeOf159 rfl) ?_
    refine GoL.y rfl (Y.load Tryz.isAgg159 rfl (Cell.a (by rfl))) ?_
    refine GoL.y rfl (Y.move rfl) ?_
    obtain ⟨o, hx⟩ := at_some (show k < l.length by omega)
    have ho := hl2 o (List.mem_of_getElem? hx)
    refine GoL.y rfl (Y.ixRd _ Tryz.underlying159 Tryz.sizeOf209 rfl rfl Rd.s rfl (by first | omega | decide)) ?_
    refine GoL.y rfl (Y.assign rfl) ?_
    refine GoL.nil ?_
    refine GoE.then_normal ?_
    refine GoC.seq ?_
    refine GoC.region ?_
    refine GoL.y rfl (Y.move rfl) ?_
    refine GoL.y rfl (Y.nilCheck rfl) ?_
    refine GoL.y rfl (Y.fieldAddrZ 4 Tryz.underlying209 rfl Tryz.sizeOf4 rfl) ?_
    refine GoL.y rfl (Y.load Tryz.isAgg4 rfl (Cell.rd0 Rd.s ‹_› (by rfl))) ?_
    refine GoL.y rfl (Y.not rfl) ?_
    refine GoL.nil ?_
    refine GoE.then_normal ?_
    refine GoC.cond rfl (fun h27 => ?_) (fun h27 => ?_)
    · refine GoC.seq ?_
      refine GoC.region ?_
      have hu : o.1 = false := by simpa using h27
      obtain ⟨o1, o2⟩ := o
      have hu : o1 = false := hu
      subst hu
      have hx2 : (l.set k (true, o2))[k]? = some (true, o2) := set_self hx
      have hx3 : ((l.set k (true, o2)).set k (true, o2 + 1))[k]? = some (true, o2 + 1) := set_self hx2
      refine GoL.y rfl (Y.move rfl) ?_
      refine GoL.y rfl (Y.nilCheck rfl) ?_
      refine GoL.y rfl (Y.fieldAddrZ 4 Tryz.underlying209 rfl Tryz.sizeOf4 rfl) ?_
      refine GoL.does rfl (Does.storeSl0 (x' := (true, o2)) rfl rfl Tryz.sizeOf4 rfl hx (by decide) rfl (by repeat (first | exact Repl.here | apply Repl.there))) ?_
      rintro _ _ ⟨rfl, rfl⟩
      refine GoL.nil ?_
      refine GoE.then_normal ?_
      refine GoC.seq ?_
      refine GoC.region ?_
      refine GoL.y rfl (Y.move rfl) ?_
      refine GoL.y rfl (Y.nilCheck rfl) ?_
      refine GoL.y rfl (Y.fieldAddr 1 43 Tryz.underlying209 rfl Tryz.sizeOf43 rfl) ?_
      refine GoL.y rfl (Y.load Tryz.isAgg43 rfl (Cell.rd Rd.s ‹_› (by rfl))) ?_
      refine GoL.y rfl (Y.addU rfl rfl (by simp only at ho; omega)) ?_
      refine GoL.y rfl (Y.nilCheck rfl) ?_
      refine GoL.y rfl (Y.fieldAddr 1 43 Tryz.underlying209 rfl Tryz.sizeOf43 rfl) ?_
      refine GoL.does rfl (Does.storeSl (c := 1) (x' := (true, o2 + 1)) rfl rfl Tryz.sizeOf43 rfl hx2 (by decide) rfl (by repeat (first | exact Repl.here | apply Repl.there))) ?_
      rintro _ _ ⟨rfl, rfl⟩
      refine GoL.nil ?_
      refine GoE.then_normal ?_
      refine GoC.seq ?_
      refine GoC.region ?_
      refine GoL.y rfl (Y.move rfl) ?_
      refine GoL.y rfl (Y.move rfl) ?_
      refine GoL.y rfl (Y.nilCheck rfl) ?_
      refine GoL.y rfl (Y.lda Tryz.isAgg209 rfl (Cells.rd Rd.s ‹_›) (by exact Tryz.sizeOf209)) ?_
      refine GoL.y rfl (Y.move rfl) ?_
      refine GoL.does rfl (Does.callE rfl Tryz.call115 rfl (slot_handle (o := (true, o2 + 1)) (n := k) (by simp only at ho ⊢; omega) (by omega)) .auto) ?_
      rintro _ _ ⟨⟨⟩, -, rfl, rfl⟩
      refine GoL.y rfl (Y.assign rfl) ?_
      refine GoL.y rfl (Y.assign rfl) ?_
      refine GoL.y rfl (Y.assign rfl) ?_
      refine GoL.nil ?_
      refine GoE.then_normal ?_
      refine GoC.ret ?_
      refine GoE.block_ret (GoE.then_ret (GoE.then_ret (GoE.block_ret (GoE.then_ret ?_))))
      have e : slotTake l = ((k : Int), slotH (o2 + 1) k, 0, (l.set k (true, o2)).set k (true, o2 + 1)) := by
        unfold slotTake; rw [hn, slot_hit hx rfl]; simp only [List.getD_eq_getElem?_getD, hx, List.set_set]; rfl
      rw [e]
      refine GoE.ret3 rfl rfl rfl rfl fun w s => ⟨(), ?_, trivial, finE .auto s⟩
      rfl
    · refine GoC.skip ?_
      refine GoE.block_normal (GoE.then_normal ?_)
      refine GoC.region ?_
      refine GoL.y rfl (Y.inc rfl rfl (by omega)) ?_
      refine GoL.y rfl (Y.move rfl) ?_
      refine GoL.nil ?_
      refine GoE.againK (k + 1) .auto rfl ?_ ?_ ?_ ?_
      · first | omega | (dsimp only; omega)
      · exact ⟨by omega, hn.trans (slot_skip hx (by simpa using h27))⟩
      · exact ⟨rfl, trivial⟩
      · exact fun w s => Ent.kept .auto w s
  · refine GoC.exit ?_
    refine GoE.then_exit (GoE.then_exit (GoE.block_here (GoE.then_normal ?_)))
    refine GoC.seq ?_
    refine GoC.region ?_
    refine GoL.y rfl (Y.assign rfl) ?_
    refine GoL.y rfl (Y.assign rfl) ?_
    refine GoL.y rfl (Y.assign rfl) ?_
    refine GoL.nil ?_
    refine GoE.then_normal ?_
    refine GoC.ret ?_
    rw [show slotTake l = (0, 0, 2, l) from by unfold slotTake; rw [hn, slot_end (by omega)]]
    refine GoE.ret3 rfl rfl rfl rfl fun w s => ⟨(), ?_, trivial, finE .auto s⟩
    rfl

set_option maxRecDepth 20000 in
theorem core_begin {W : World} {b : Nat} {ps : List (Option Nat)} {s : Spc} {f arg : Int} (hT : TakeOk s.table) (hl : s.thr.length = 16) (hf : ∀ n, slotFree? s.table 0 = some n → s.thr[n]? = some none) : Fn Tryz.prog W 57 [ptr b, .int .i64 f, .int .u64 arg] [spcX b ps s] (List (Option Nat)) (fun _ => .tuple #[.int .i64 (s.begin f arg).1, .int .i64 (s.begin f arg).2.1]) (fun qs => ∃ p, qs = psBegin s.table ps p) (fun qs => [spcX b qs (s.begin f arg).2.2]) := by
  refine Fn.intro (N := 45) Tryz.func57 rfl Tryz.ntmps57 rfl fun F => ?_
  show GoC _ _ _ _ _ _ [spcX b ps s, F]
  refine GoC.o10 (C := spcX b ps s) .auto rfl ?_
  rintro fv sv pv bt vm bg vt bd bw vr -
  refine GoC.know (fun w s => s.fact .auto thrs_same) fun hs => ?_
  refine GoC.seq ?_
  refine GoC.region ?_
  refine GoL.y rfl (Y.assign rfl) ?_
  refine GoL.y rfl (Y.assign rfl) ?_
  refine GoL.nil ?_
  refine GoE.then_normal ?_
  refine GoC.seq ?_
  refine GoC.region ?_
  refine GoL.y rfl (Y.move rfl) ?_
  refine GoL.y rfl (Y.nilCheck rfl) ?_
  refine GoL.y rfl (Y.fieldAddr0 8 106 Tryz.underlying118 rfl Tryz.sizeOf106 rfl) ?_
  refine GoL.y rfl (Y.load Tryz.isAgg106 rfl (Cell.a (by rfl))) ?_
  refine GoL.does rfl (Does.callE rfl Tryz.call84 rfl (slot_Take hT) .auto) ?_
  rintro _ _ ⟨⟨⟩, -, rfl, rfl⟩
  refine GoL.y rfl (Y.move rfl) ?_
  refine GoL.y rfl (Y.extract rfl rfl) ?_
  refine GoL.y rfl (Y.extract rfl rfl) ?_
  refine GoL.y rfl (Y.extract rfl rfl) ?_
  refine GoL.y rfl (Y.assign rfl) ?_
  refine GoL.y rfl (Y.assign rfl) ?_
  refine GoL.y rfl (Y.assign rfl) ?_
  refine GoL.nil ?_
  refine GoE.then_normal ?_
  refine GoC.seq ?_
  refine GoC.seq ?_
  refine GoC.region ?_
  refine GoL.y rfl (Y.move rfl) ?_
  refine GoL.y rfl (Y.neq rfl rfl) ?_
  refine GoL.nil ?_
  refine GoE.then_normal ?_
  refine GoC.condD rfl (fun h22 => ?_) (fun h22 => ?_)
  · refine GoC.seq ?_
    refine GoC.region ?_
    refine GoL.y rfl (Y.move rfl) ?_
    refine GoL.y rfl (Y.assign rfl) ?_
    refine GoL.y rfl (Y.assign rfl) ?_
    refine GoL.nil ?_
    refine GoE.then_normal ?_
    refine GoC.ret ?_
    refine GoE.then_ret ?_
    obtain ⟨hn, e⟩ := slotTake_no h22
    rw [e, begin_no hn]
    refine GoE.ret2 rfl rfl rfl fun w s => ⟨ps, ?_, ⟨0, by unfold psBegin; rw [hn]⟩, finE .auto s⟩
    rfl
  · refine GoC.skip ?_
    refine GoE.then_normal ?_
    refine GoC.seq ?_
    refine GoC.region ?_
    obtain ⟨n, hn, e⟩ := slotTake_ok (Decidable.of_not_not h22)
    have hfn := hf n hn
    have hn16 : n < 16 := hl ▸ (List.getElem?_eq_some_iff.1 hfn).1
    rw [e, begin_ok hn]
    refine GoL.y rfl (Y.move rfl) ?_
    refine GoL.y rfl (Y.bld3 (fun v1 v2 v3 => [(.int .i64 0), (.int .i64 0), (.int .u64 0), (.int .u64 0), (.int .u64 0), (.int .u64 0), (.int .u64 0), (.int .u64 0), (.int .u64 0), (.int .u64 0), v1, (.int .i64 0), (.int .u64 0), (.bool false), v2, (.int .i64 0), v3, (.int .u64 0)]) rfl rfl rfl (by kernel_rfl)) ?_
    refine GoL.does rfl (Does.box rfl rfl rfl) ?_
    rintro _ _ ⟨b26, rfl, rfl⟩
    refine GoL.y rfl (Y.assign rfl) ?_
    refine GoL.nil ?_
    refine GoE.then_normal ?_
    refine GoC.seq ?_
    refine GoC.region ?_
    refine GoL.y rfl (Y.move rfl) ?_
    refine GoL.y rfl (Y.move rfl) ?_
    refine GoL.y rfl (Y.nilCheck rfl) ?_
    refine GoL.y rfl (Y.fieldAddrZ 131 Tryz.underlying133 rfl Tryz.sizeOf131 rfl) ?_
    refine GoL.y rfl (Y.fieldAddrZ 3 Tryz.underlying131 rfl Tryz.sizeOf3 rfl) ?_
    refine GoL.does rfl (Does.st Tryz.sizeOf3 rfl rfl rfl rfl) ?_
    rintro _ _ ⟨rfl, rfl⟩
    refine GoL.nil ?_
    refine GoE.then_normal ?_
    refine GoC.seq ?_
    refine GoC.region ?_
    refine GoL.y rfl (Y.move rfl) ?_
    refine GoL.y rfl (Y.move rfl) ?_
    refine GoL.y rfl (Y.nilCheck rfl) ?_
    refine GoL.y rfl (Y.fieldAddrZ 131 Tryz.underlying133 rfl Tryz.sizeOf131 rfl) ?_
    refine GoL.y rfl (Y.fieldAddr0 2 57 Tryz.underlying131 rfl Tryz.sizeOf57 rfl) ?_
    refine GoL.y rfl (Y.ixArr _ Tryz.underlying57 Tryz.sizeOf43 rfl rfl rfl (by first | omega | decide)) ?_
    refine GoL.does rfl (Does.st Tryz.sizeOf43 rfl rfl rfl rfl) ?_
    rintro _ _ ⟨rfl, rfl⟩
    refine GoL.nil ?_
    refine GoE.then_normal ?_
    refine GoC.seq ?_
    refine GoC.region ?_
    refine GoL.y rfl (Y.move rfl) ?_
    refine GoL.y rfl (Y.move rfl) ?_
    refine GoL.y rfl (Y.move rfl) ?_
    refine GoL.y rfl (Y.nilCheck rfl) ?_
    refine GoL.y rfl (Y.fieldAddr0 9 115 Tryz.underlying118 rfl Tryz.sizeOf115 rfl) ?_
    refine GoL.y rfl (Y.ixArr n Tryz.underlying115 Tryz.sizeOf114 rfl rfl rfl (by omega)) ?_
    refine GoL.does rfl (Does.st Tryz.sizeOf114 rfl rfl rfl (Nat.blt_eq.mpr (by show 9 + n * 1 < 31; omega))) ?_
    rintro _ _ ⟨rfl, rfl⟩
    rw [Nat.mul_one]
    have e9 := @spcC_set fv sv pv s.prg bt ps vm bg vt bd bw vr n (by omega) (hs.1.trans hl) (some b26)
    rw [show ptrO (some b26) = Value.pointer (some ⟨b26, 0, none⟩) from rfl] at e9
    rw [e9]
    refine GoL.nil ?_
    refine GoE.then_normal ?_
    refine GoC.seq ?_
    refine GoC.region ?_
    refine GoL.y rfl (Y.move rfl) ?_
    refine GoL.y rfl (Y.assign rfl) ?_
    refine GoL.y rfl (Y.assign rfl) ?_
    refine GoL.nil ?_
    refine GoE.then_normal ?_
    refine GoC.ret ?_
    refine GoE.to (A := thrsH (ps.set n (some b26)) (s.thr.set n (some (thr0 f arg (slotH ((s.table.getD n (false, 0)).2 + 1) n))))) (Bs := [arr b26 0 (thrC (thr0 f arg (slotH ((s.table.getD n (false, 0)).2 + 1) n))), thrsH ps s.thr]) .auto (thrs_new hfn) ?_
    refine GoE.ret2 rfl rfl rfl fun w s => ⟨ps.set n (some b26), ?_, ⟨b26, by unfold psBegin; rw [hn]⟩, finE .auto s⟩
    rfl

set_option maxRecDepth 20000 in
theorem gate_New {W : World} {A : HProp} {m c : Int} {v : Value} {sems : List Int} (hr : Rd W [A] intE 1 v sems) : Fn Tryz.prog W 51 [.int .i64 m, .int .i64 c, v] [A] Nat (fun b => ptr b) (fun _ => True) (fun b => [gatesH b (Gates.new m c sems), A]) := by
  refine Fn.intro (N := 42) Tryz.func51 rfl Tryz.ntmps51 rfl fun F => ?_
  haveI hRI : ∀ (H : List HProp) [HasH H A], ReadsC W H v intE 1 sems := fun H h => ⟨hr.at h.has⟩
  show GoC _ _ _ _ _ _ [A, F]
  refine GoC.seq ?_
  refine GoC.region ?_
  refine GoL.y rfl (Y.assign rfl) ?_
  refine GoL.nil ?_
  refine GoE.then_normal ?_
  refine GoC.seq ?_
  refine GoC.drawF [] [0, 2, 4, 0, 2, 4, 0, 4, 0] [0, 1, 3, 4, 2, 5, 6, 7, 8] rfl (by kernel_rfl) ?_
  refine GoF.q rfl rfl rfl Kept.auto (Y.move rfl) ?_
  refine GoF.callE rfl (.inl rfl) rfl (fun _ => Kept.auto) Tryz.call83 rfl gate_clamp .auto (fun _ _ => Kept.auto) ?_
  rintro ⟨⟩ -
  refine GoF.q rfl rfl rfl Kept.auto (Y.move rfl) ?_
  refine GoF.callE rfl (.inl rfl) rfl (fun _ => Kept.auto) Tryz.call83 rfl gate_clamp .auto (fun _ _ => Kept.auto) ?_
  rintro ⟨⟩ -
  refine GoF.fresh rfl rfl rfl (by decide) Kept.auto (fresh_make (enc := mtxE) (k := 3) ((Value.slice none 0 0 : Value), (⟨[], false, 0⟩ : Mtx)) (clamp m 4).toNat Tryz.underlying162 Tryz.typeInfo233 rfl rfl rfl rfl (by decide) (by decide) rfl rfl (by unfold clamp; omega) (by unfold clamp; omega) (by unfold clamp; omega)) ?_
  rintro b12
  refine GoF.fresh rfl rfl rfl (by decide) Kept.auto (fresh_make (enc := fstE) (k := 1) ((Value.slice none 0 0 : Value), ([] : List Wtr)) (clamp c 4).toNat Tryz.underlying164 Tryz.typeInfo170 rfl rfl rfl rfl (by decide) (by decide) rfl rfl (by unfold clamp; omega) (by unfold clamp; omega) (by unfold clamp; omega)) ?_
  rintro b15
  refine GoF.q rfl rfl rfl Kept.auto (Y.bld2 (fun v1 v2 => [v1, v2, (.slice none 0 0)]) rfl rfl (by kernel_rfl)) ?_
  refine GoF.fresh rfl rfl rfl (by decide) Kept.auto (fresh_box rfl rfl) ?_
  rintro b17
  refine GoF.q rfl rfl rfl Kept.auto (Y.assign rfl) ?_
  refine GoF.nil ?_
  refine GoE.then_normal ?_
  refine GoC.seq ?_
  refine GoC.seq ?_
  refine GoC.region ?_
  refine GoL.to (A := sl mtxE 3 (.slice (some ⟨b12, 0, none⟩) (clamp m 4).toNat (clamp m 4).toNat) (List.replicate (clamp m 4).toNat ((Value.slice none 0 0 : Value), (⟨[], false, 0⟩ : Mtx)))) .auto (arr_slR rfl) ?_
  refine GoL.to (A := sl fstE 1 (.slice (some ⟨b15, 0, none⟩) (clamp c 4).toNat (clamp c 4).toNat) (List.replicate (clamp c 4).toNat ((Value.slice none 0 0 : Value), ([] : List Wtr)))) .auto (arr_slR rfl) ?_
  have hr4 := hr.cut (lo := 0) (hi := min sems.length 4) (Nat.zero_le _) (by omega)
  rw [List.drop_zero, show sems.take (min sems.length 4) = sems.take 4 from by rw [List.take_eq_take_iff]; omega] at hr4
  haveI hI4 : ∀ (H : List HProp) [HasH H A], ReadsC W H (cut 1 0 (min sems.length 4) v) intE 1 (sems.take 4) := fun H h => ⟨hr4.at h.has⟩
  refine GoL.y rfl (Y.move rfl) ?_
  refine GoL.y rfl (Y.move rfl) ?_
  refine GoL.y rfl (Y.lenRd Tryz.underlying23 rfl Rd.s) ?_
  refine GoL.y rfl (Y.min2m rfl rfl) ?_
  refine GoL.y rfl (Y.sliceTo (min sems.length 4) Tryz.underlying23 Tryz.sizeOf3 rfl rfl Rd.s (by omega) (by omega)) ?_
  refine GoL.y rfl (Y.lenRd Tryz.underlying23 rfl Rd.s) ?_
  refine GoL.y rfl (Y.move rfl) ?_
  refine GoL.nil ?_
  refine GoE.then_normal ?_
  refine GoC.block ?_
  refine GoC.loopK (X := Nat × Value) [9, 24, 25, 26, 27, 28, 29, 30, 31, 32, 33, 34, 35, 36, 37, 38, 39, 40] (fun z => (sems.take 4).length - z.1) (fun z => z.1 ≤ (sems.take 4).length) (fun z => [(24, some (.int .i64 (z.1 : Int)))]) (fun z => [arr b17 0 [.slice (some ⟨b12, 0, none⟩) (clamp m 4).toNat (clamp m 4).toNat, .slice (some ⟨b15, 0, none⟩) (clamp c 4).toNat (clamp c 4).toNat, z.2], sl smpE 2 z.2 (((sems.take 4).take z.1).map (fun n => ((Value.slice none 0 0 : Value), (⟨[], clamp n 1048576⟩ : Smp)))), sl mtxE 3 (.slice (some ⟨b12, 0, none⟩) (clamp m 4).toNat (clamp m 4).toNat) (List.replicate (clamp m 4).toNat ((Value.slice none 0 0 : Value), (⟨[], false, 0⟩ : Mtx))), sl fstE 1 (.slice (some ⟨b15, 0, none⟩) (clamp c 4).toNat (clamp c 4).toNat) (List.replicate (clamp c 4).toNat ((Value.slice none 0 0 : Value), ([] : List Wtr))), A, F]) (0, .slice none 0 0) ?_ ?_ ?_ ?_
  · exact Nat.zero_le _
  · exact ⟨rfl, trivial⟩
  · exact fun w s => Ent.kept .auto w s
  rintro ⟨k, u⟩ hk
  simp only at hk
  have h4 : (sems.take 4).length ≤ 4 := by simp; omega
  have h44 : ((sems.take 4).take k).length ≤ 4 := by simp; omega
  refine GoC.seq ?_
  refine GoC.region ?_
  refine GoL.y rfl (Y.lss rfl rfl) ?_
  refine GoL.nil ?_
  refine GoE.then_normal ?_
  refine GoC.seq ?_
  refine GoC.condD rfl (fun h25 => ?_) (fun h25 => ?_)
  · refine GoC.skip ?_
    refine GoE.then_normal ?_
    refine GoC.seq ?_
    refine GoC.block ?_
    refine GoC.seq ?_
    refine GoC.region ?_
    obtain ⟨x, hx⟩ := at_some (show k < (sems.take 4).length by omega)
    refine GoL.y rfl (Y.ixRd _ Tryz.underlying23 Tryz.sizeOf3 rfl rfl Rd.s rfl (by first | omega | decide)) ?_
    refine GoL.y rfl (Y.load Tryz.isAgg3 rfl (Cell.rd0 Rd.s ‹_› (by rfl))) ?_
    refine GoL.y rfl (Y.assign rfl) ?_
    refine GoL.nil ?_
    refine GoE.then_normal ?_
    refine GoC.draw [arr b17 0 [.slice (some ⟨b12, 0, none⟩) (clamp m 4).toNat (clamp m 4).toNat, .slice (some ⟨b15, 0, none⟩) (clamp c 4).toNat (clamp c 4).toNat, u]] [0, 0, 0, 0, 0, 1, 2, 1, 2, 2, 1, 1, 3] rfl (by kernel_rfl) ?_
    refine GoK.k rfl Kept.auto (Y.move rfl) ?_
    refine GoK.k rfl Kept.auto (Y.move rfl) ?_
    refine GoK.k rfl Kept.auto (Y.nilCheck rfl) ?_
    refine GoK.k rfl Kept.auto (Y.fieldAddr0 2 165 Tryz.underlying167 rfl Tryz.sizeOf165 rfl) ?_
    refine GoK.k rfl Kept.auto (Y.load Tryz.isAgg165 rfl (Cell.a (by rfl))) ?_
    refine GoK.s rfl (Y.move rfl) ?_
    refine GoK.d2 rfl Kept.auto (Does.callE rfl Tryz.call83 rfl gate_clamp .auto) (by rintro _ _ ⟨⟨⟩, -, rfl, rfl⟩; exact Kept.auto) ?_
    rintro _ _ ⟨⟨⟩, -, rfl, rfl⟩
    refine GoK.s rfl (Y.bld1 (fun v1 => [(.slice none 0 0), v1]) rfl (by kernel_rfl)) ?_
    refine GoK.d2 rfl Kept.auto (Does.bsl 172 rfl rfl (by kernel_rfl)) (by rintro _ _ ⟨b36, rfl, rfl⟩; exact Kept.auto) ?_
    rintro _ _ ⟨b36, rfl, rfl⟩
    refine GoK.d2 rfl Kept.auto (Does.app1 (enc := smpE) (k := 2) ((Value.slice none 0 0 : Value), (⟨[], clamp x 1048576⟩ : Smp)) rfl Tryz.underlying165 Tryz.underlying165 Tryz.typeInfo172 rfl rfl rfl (by decide) rfl rfl rfl .auto rfl .auto (by rw [List.length_map]; dsimp only; omega) rfl) (by rintro _ _ ⟨v37, rfl, rfl⟩; exact Kept.auto) ?_
    rintro _ _ ⟨v37, rfl, rfl⟩
    refine GoK.s rfl (Y.nilCheck rfl) ?_
    refine GoK.s rfl (Y.fieldAddr0 2 165 Tryz.underlying167 rfl Tryz.sizeOf165 rfl) ?_
    refine GoK.d3 rfl (Does.stS Tryz.sizeOf165 rfl rfl rfl) ?_
    rintro _ _ ⟨rfl, rfl⟩
    refine GoK.nil ?_
    refine GoE.block_normal (GoE.then_normal ?_)
    refine GoC.region ?_
    refine GoL.y rfl (Y.inc rfl rfl (by omega)) ?_
    refine GoL.y rfl (Y.move rfl) ?_
    refine GoL.nil ?_
    refine GoE.againK (k + 1, v37) .auto rfl ?_ ?_ ?_ ?_
    · show (sems.take 4).length - (k + 1) < (sems.take 4).length - k; omega
    · show k + 1 ≤ _; omega
    · exact ⟨rfl, trivial⟩
    · show ∀ w, Sat _ w _ → Sat _ w (seps [_, sl smpE 2 v37 (((sems.take 4).take (k + 1)).map (fun n => ((Value.slice none 0 0 : Value), (⟨[], clamp n 1048576⟩ : Smp)))), _, _, A, F])
      rw [gates_sems hx]
      exact fun w s => Ent.kept .auto w s
  · refine GoC.exit ?_
    refine GoE.then_exit (GoE.then_exit (GoE.block_here (GoE.then_normal ?_)))
    refine GoC.seq ?_
    refine GoC.region ?_
    refine GoL.y rfl (Y.move rfl) ?_
    refine GoL.y rfl (Y.assign rfl) ?_
    refine GoL.nil ?_
    refine GoE.then_normal ?_
    refine GoC.ret ?_
    obtain rfl : k = (sems.take 4).length := by omega
    rw [List.take_length]
    refine GoE.ret1 rfl rfl fun w s => ⟨b17, ?_, trivial, finE (by repeat (first | exact Ent.nil | (apply Ent.cons; · repeat (first | exact Take.here | apply Take.there)) | apply Ent.opt0 | apply Ent.opt1 | apply Ent.void | apply Ent.emp0 | apply Ent.two | (apply Ent.allV; · exact sl_void) | (apply Ent.allM; · exact fun _ => sl_void) | apply Ent.f1 rfl | apply Ent.f2 rfl | apply Ent.f3 rfl | apply Ent.f4 rfl | apply Ent.f10 rfl | apply Ent.grp | assumption | exact trivial | rfl | omega | (focus (simp [Gates.new]; done)) | (unfold Gates.new; simp only [List.map_map]; rfl))) s⟩
    rfl

set_option maxRecDepth 20000 in
theorem core_New {W : World} {A : HProp} {v : PrgV} (hp : PrgRd W [A] v) (hl : v.fs.length ≤ 1000000000 ∧ v.sems.length ≤ 1000000000 ∧ v.pipes.length ≤ 1000000000) : Fn Tryz.prog W 15 [.agg (prgE v).toArray] [A] (Option Nat) (fun o => .tuple #[ptrO o, .int .i64 (checkI v.p)]) (fun o => o.isSome = decide (checkI v.p = 0)) (fun o => [optH (fun b => spcH b (Spc.new v.p)) o, A]) := by
  refine Fn.intro (N := 83) Tryz.func15 rfl Tryz.ntmps15 rfl fun F => ?_
  haveI hI1 : ∀ (H : List HProp) [HasH H A], ReadsC W H v.fv fstE 1 v.fs := fun H h => ⟨hp.fs.at h.has⟩
  haveI hI2 : ∀ (H : List HProp) [HasH H A], ReadsC W H v.sv intE 1 v.sems := fun H h => ⟨hp.sems.at h.has⟩
  haveI hI3 : ∀ (H : List HProp) [HasH H A], ReadsC W H v.pv intE 1 v.pipes := fun H h => ⟨hp.pipes.at h.has⟩
  show GoC _ _ _ _ _ _ [A, F]
  refine GoC.know (fun w s => prg_one hp .here w s) fun hone => ?_
  refine GoC.seq ?_
  refine GoC.region ?_
  refine GoL.does rfl (Does.box rfl rfl rfl) ?_
  rintro _ _ ⟨b1, rfl, rfl⟩
  refine GoL.y rfl (Y.assign rfl) ?_
  refine GoL.y rfl (Y.assign rfl) ?_
  refine GoL.nil ?_
  refine GoE.then_normal ?_
  refine GoC.seq ?_
  refine GoC.seq ?_
  refine GoC.region ?_
  refine GoL.y rfl (Y.lda Tryz.isAgg25 rfl Cells.a (by exact Tryz.sizeOf25)) ?_
  refine GoL.does rfl (Does.callE rfl Tryz.call49 rfl (inst_Check hp hl) .auto) ?_
  rintro _ _ ⟨⟨⟩, -, rfl, rfl⟩
  refine GoL.y rfl (Y.assign rfl) ?_
  refine GoL.nil ?_
  refine GoE.then_normal ?_
  refine GoC.seq ?_
  refine GoC.region ?_
  refine GoL.y rfl (Y.move rfl) ?_
  refine GoL.y rfl (Y.neq rfl rfl) ?_
  refine GoL.nil ?_
  refine GoE.then_normal ?_
  refine GoC.condD rfl (fun h13 => ?_) (fun h13 => ?_)
  · refine GoC.seq ?_
    refine GoC.region ?_
    refine GoL.y rfl (Y.move rfl) ?_
    refine GoL.y rfl (Y.assign rfl) ?_
    refine GoL.y rfl (Y.assign rfl) ?_
    refine GoL.nil ?_
    refine GoE.then_normal ?_
    refine GoC.ret ?_
    refine GoE.then_ret ?_
    refine GoE.ret2 rfl rfl rfl fun w s => ⟨none, ?_, (decide_eq_false h13).symm, finE .auto s⟩
    rfl
  · refine GoC.skip ?_
    refine GoE.then_normal ?_
    refine GoC.seq ?_
    refine GoC.drawF [arr b1 0 (prgE v)] [0, 2, 0, 0, 4, 0, 0, 0, 0, 0, 0, 2, 0, 0, 2, 2, 0, 4, 0] [0, 1, 2, 3, 5, 6, 7, 8, 9, 10, 11, 12, 13, 14, 15, 4, 16, 17, 18] rfl (by kernel_rfl) ?_
    have hcs := caps_and (check_caps (Decidable.of_not_not h13))
    have hw : 0 ≤ v.words ∧ v.words ≤ 64 := hcs.2.2.1
    have hf8 : v.fs.length ≤ 8 := by simpa [PrgV.p] using hcs.2.1
    have hp4 : v.pipes.length ≤ 4 := hcs.2.2.2.2.2.2.2.2.1
    refine GoF.q rfl rfl rfl Kept.auto (Y.lda Tryz.isAgg25 rfl Cells.a (by exact Tryz.sizeOf25)) ?_
    refine GoF.callE rfl (.inl rfl) rfl (fun _ => Kept.auto) Tryz.call50 rfl slot_New .auto (fun _ _ => Kept.auto) ?_
    rintro x16 -
    refine GoF.q rfl rfl rfl Kept.auto (Y.fieldAddr0 1 3 Tryz.underlying25 rfl Tryz.sizeOf3 rfl) ?_
    refine GoF.q rfl rfl rfl Kept.auto (Y.load Tryz.isAgg3 rfl (Cell.a (by rfl))) ?_
    refine GoF.q rfl rfl rfl Kept.auto (Y.fieldAddr0 2 3 Tryz.underlying25 rfl Tryz.sizeOf3 rfl) ?_
    refine GoF.q rfl rfl rfl Kept.auto (Y.load Tryz.isAgg3 rfl (Cell.a (by rfl))) ?_
    refine GoF.q rfl rfl rfl Kept.auto (Y.fieldAddr0 3 3 Tryz.underlying25 rfl Tryz.sizeOf3 rfl) ?_
    refine GoF.q rfl rfl rfl Kept.auto (Y.load Tryz.isAgg3 rfl (Cell.a (by rfl))) ?_
    refine GoF.q rfl rfl rfl Kept.auto (Y.fieldAddr0 4 23 Tryz.underlying25 rfl Tryz.sizeOf23 rfl) ?_
    refine GoF.q rfl rfl rfl Kept.auto (Y.load Tryz.isAgg23 rfl (Cell.a (by rfl))) ?_
    refine GoF.callE rfl (.inl rfl) rfl (fun _ => Kept.auto) Tryz.call51 rfl (gate_New hp.sems) .auto (fun _ _ => Kept.auto) ?_
    rintro x26 -
    refine GoF.q rfl rfl rfl Kept.auto (Y.fieldAddr0 6 3 Tryz.underlying25 rfl Tryz.sizeOf3 rfl) ?_
    refine GoF.q rfl rfl rfl Kept.auto (Y.load Tryz.isAgg3 rfl (Cell.a (by rfl))) ?_
    refine GoF.callE rfl (.inl rfl) rfl (fun _ => Kept.auto) Tryz.call52 rfl disk_New .auto (fun _ _ => Kept.auto) ?_
    rintro x29 -
    refine GoF.callE rfl (.inl rfl) rfl (fun _ => Kept.auto) Tryz.call53 rfl wheel_New .auto (fun _ _ => Kept.auto) ?_
    rintro x30 -
    refine GoF.fresh rfl rfl rfl (by decide) Kept.auto (fresh_make (enc := wrdE) (k := 1) 0 v.words.toNat Tryz.underlying51 Tryz.typeInfo43 rfl rfl rfl rfl (by decide) (by decide) rfl rfl (by omega) (by omega) (by omega)) ?_
    rintro b19
    refine GoF.q rfl rfl rfl Kept.auto (Y.bld6 (fun _ v2 v3 v4 v5 v6 => [v.fv, .int .i64 v.words, .int .i64 v.mutexes, .int .i64 v.conds, v.sv, v.pv, .int .i64 v.blocks, .int .i64 v.prio, v2, .pointer none, .pointer none, .pointer none, .pointer none, .pointer none, .pointer none, .pointer none, .pointer none, .pointer none, .pointer none, .pointer none, .pointer none, .pointer none, .pointer none, .pointer none, .pointer none, v3, v4, .slice none 0 0, v5, v6, .slice none 0 0]) rfl rfl rfl rfl rfl rfl (by kernel_rfl)) ?_
    refine GoF.fresh rfl rfl rfl (by decide) Kept.auto (fresh_box rfl rfl) ?_
    rintro b32
    refine GoF.q rfl rfl rfl Kept.auto (Y.assign rfl) ?_
    refine GoF.nil ?_
    refine GoE.then_normal ?_
    refine GoC.seq ?_
    refine GoC.region ?_
    refine GoL.to (A := sl wrdE 1 (.slice (some ⟨b19, 0, none⟩) v.words.toNat v.words.toNat) (List.replicate v.words.toNat 0)) .auto (arr_slR rfl) ?_
    refine GoL.y rfl (Y.move rfl) ?_
    refine GoL.y rfl (Y.fieldAddrZ 22 Tryz.underlying25 rfl Tryz.sizeOf22 rfl) ?_
    refine GoL.y rfl (Y.load Tryz.isAgg22 rfl (Cell.a (by rfl))) ?_
    refine GoL.does rfl (Does.callE rfl Tryz.call54 rfl (CloneNN hp.fs hl.1 hone) .auto) ?_
    rintro _ _ ⟨u36, -, rfl, rfl⟩
    refine GoL.y rfl (Y.nilCheck rfl) ?_
    refine GoL.y rfl (Y.fieldAddrZ 25 Tryz.underlying118 rfl Tryz.sizeOf25 rfl) ?_
    refine GoL.y rfl (Y.fieldAddrZ 22 Tryz.underlying25 rfl Tryz.sizeOf22 rfl) ?_
    refine GoL.does rfl (Does.stS Tryz.sizeOf22 rfl rfl rfl) ?_
    rintro _ _ ⟨rfl, rfl⟩
    refine GoL.nil ?_
    refine GoE.then_normal ?_
    refine GoC.seq ?_
    refine GoC.seq ?_
    refine GoC.region ?_
    refine GoL.y rfl (Y.move rfl) ?_
    refine GoL.y rfl (Y.nilCheck rfl) ?_
    refine GoL.y rfl (Y.fieldAddrZ 25 Tryz.underlying118 rfl Tryz.sizeOf25 rfl) ?_
    refine GoL.y rfl (Y.fieldAddrZ 22 Tryz.underlying25 rfl Tryz.sizeOf22 rfl) ?_
    refine GoL.y rfl (Y.load Tryz.isAgg22 rfl (Cell.a (by rfl))) ?_
    refine GoL.y rfl (Y.lenRd Tryz.underlying22 rfl Rd.s) ?_
    refine GoL.y rfl (Y.move rfl) ?_
    refine GoL.nil ?_
    refine GoE.then_normal ?_
    refine GoC.block ?_
    refine GoC.loopK (X := Nat × List (Value × List Ins)) [6, 7, 46, 47, 48, 49, 50, 51, 52, 53, 54, 55, 56, 57, 58, 59, 60] (fun z => v.fs.length - z.1) (fun z => z.1 ≤ v.fs.length ∧ z.2.length = z.1 ∧ z.2.map (·.2) = (v.fs.take z.1).map (·.2)) (fun z => [(46, some (.int .i64 (z.1 : Int)))]) (fun z => [arr b32 0 [u36, .int .i64 v.words, .int .i64 v.mutexes, .int .i64 v.conds, v.sv, v.pv, .int .i64 v.blocks, .int .i64 v.prio, ptr x16, .pointer none, .pointer none, .pointer none, .pointer none, .pointer none, .pointer none, .pointer none, .pointer none, .pointer none, .pointer none, .pointer none, .pointer none, .pointer none, .pointer none, .pointer none, .pointer none, .slice (some ⟨b19, 0, none⟩) v.words.toNat v.words.toNat, ptr x26, .slice none 0 0, ptr x29, ptr x30, .slice none 0 0], sl fstE 1 u36 (z.2 ++ v.fs.drop z.1), allH (fun x => sl insE 5 x.1 x.2) z.2, sl wrdE 1 (.slice (some ⟨b19, 0, none⟩) v.words.toNat v.words.toNat) (List.replicate v.words.toNat 0), tblH x16 (List.replicate (clamp 16 1024).toNat (false, 0)), gatesH x26 (Gates.new v.mutexes v.conds v.sems), dskH x29 (Dsk.new v.blocks), whlH x30 Whl.new, arr b1 0 (prgE v), A, F]) (0, []) ?_ ?_ ?_ ?_
    · exact ⟨Nat.zero_le _, rfl, by simp⟩
    · exact ⟨rfl, trivial⟩
    · exact fun w s => Ent.kept .auto w s
    rintro ⟨k, cl⟩ ⟨hk, hcl, hcm⟩
    simp only at hk hcl hcm
    refine GoC.seq ?_
    refine GoC.region ?_
    refine GoL.y rfl (Y.lss rfl rfl) ?_
    refine GoL.nil ?_
    refine GoE.then_normal ?_
    refine GoC.seq ?_
    refine GoC.condD rfl (fun h47 => ?_) (fun h47 => ?_)
    · refine GoC.skip ?_
      refine GoE.then_normal ?_
      refine GoC.seq ?_
      refine GoC.block ?_
      refine GoC.seq ?_
      refine GoC.region ?_
      refine GoL.y rfl (Y.move rfl) ?_
      obtain ⟨x, hx⟩ := at_some (show k < v.fs.length by omega)
      have hx2 := fs_get hcl hx
      have hi := hp.ins x (List.mem_of_getElem? hx)
      have hx256 : x.2.length ≤ 256 := caps_fs (check_caps (Decidable.of_not_not h13)) (List.mem_of_getElem? hx)
      refine GoL.y rfl (Y.ixRd k Tryz.underlying22 Tryz.sizeOf120 rfl rfl Rd.s rfl (by simp; omega)) ?_
      refine GoL.y rfl (Y.load Tryz.isAgg120 rfl (Cell.rd0 Rd.s ‹_› (by rfl))) ?_
      refine GoL.y rfl (Y.assign rfl) ?_
      refine GoL.y rfl (Y.assign rfl) ?_
      refine GoL.nil ?_
      refine GoE.then_normal ?_
      refine GoC.draw [arr b32 0 [u36, .int .i64 v.words, .int .i64 v.mutexes, .int .i64 v.conds, v.sv, v.pv, .int .i64 v.blocks, .int .i64 v.prio, ptr x16, .pointer none, .pointer none, .pointer none, .pointer none, .pointer none, .pointer none, .pointer none, .pointer none, .pointer none, .pointer none, .pointer none, .pointer none, .pointer none, .pointer none, .pointer none, .pointer none, .slice (some ⟨b19, 0, none⟩) v.words.toNat v.words.toNat, ptr x26, .slice none 0 0, ptr x29, ptr x30, .slice none 0 0], sl fstE 1 u36 (cl ++ v.fs.drop k)] [0, 0, 0, 0, 0, 0, 1, 2, 1, 3] rfl (by kernel_rfl) ?_
      refine GoK.k rfl Kept.auto (Y.move rfl) ?_
      refine GoK.k rfl Kept.auto (Y.nilCheck rfl) ?_
      refine GoK.k rfl Kept.auto (Y.fieldAddrZ 25 Tryz.underlying118 rfl Tryz.sizeOf25 rfl) ?_
      refine GoK.k rfl Kept.auto (Y.fieldAddrZ 22 Tryz.underlying25 rfl Tryz.sizeOf22 rfl) ?_
      refine GoK.k rfl Kept.auto (Y.load Tryz.isAgg22 rfl (Cell.a (by rfl))) ?_
      refine GoK.k rfl Kept.auto (Y.move rfl) ?_
      refine GoK.s rfl (Y.move rfl) ?_
      refine GoK.d2 rfl Kept.auto (Does.callE rfl Tryz.call55 rfl (CloneN hi (by omega)) .auto) (by rintro _ _ ⟨u58, -, rfl, rfl⟩; exact Kept.auto) ?_
      rintro _ _ ⟨u58, -, rfl, rfl⟩
      refine GoK.know (fun w s => Rd.isSl (Rd.sl .here) w s) fun hu58 => ?_
      refine GoK.s rfl (Y.ixRd k Tryz.underlying22 Tryz.sizeOf120 rfl rfl Rd.s rfl (by simp; omega)) ?_
      refine GoK.d3 rfl (Does.storeSl0 (x' := (u58, x.2)) rfl rfl Tryz.sizeOf120 (isSl_one hu58) (fs_get hcl hx) (by decide) rfl (by repeat (first | exact Repl.here | apply Repl.there))) ?_
      rintro _ _ ⟨rfl, rfl⟩
      refine GoK.nil ?_
      refine GoE.block_normal (GoE.then_normal ?_)
      refine GoC.region ?_
      refine GoL.y rfl (Y.inc rfl rfl (by omega)) ?_
      refine GoL.y rfl (Y.move rfl) ?_
      refine GoL.nil ?_
      refine GoE.againK (k + 1, cl ++ [(u58, x.2)]) .auto rfl ?_ ?_ ?_ ?_
      · show v.fs.length - (k + 1) < v.fs.length - k; omega
      · exact ⟨by show k + 1 ≤ _; omega, by simp [hcl], by rw [take_snoc hx]; simp [hcm]⟩
      · exact ⟨rfl, trivial⟩
      · show ∀ w, Sat _ w _ → Sat _ w (seps [_, sl fstE 1 u36 ((cl ++ [(u58, x.2)]) ++ v.fs.drop (k + 1)), allH (fun x => sl insE 5 x.1 x.2) (cl ++ [(u58, x.2)]), _, _, _, _, _, _, A, F])
        rw [← fs_step hcl hx, allH_snoc]
        exact fun w s => Ent.kept .auto w s
    · refine GoC.exit ?_
      refine GoE.then_exit (GoE.then_exit (GoE.block_here (GoE.then_normal ?_)))
      refine GoC.seq ?_
      refine GoC.seq ?_
      refine GoC.region ?_
      refine GoL.y rfl (Y.fieldAddr0 5 23 Tryz.underlying25 rfl Tryz.sizeOf23 rfl) ?_
      refine GoL.y rfl (Y.load Tryz.isAgg23 rfl (Cell.a (by rfl))) ?_
      refine GoL.y rfl (Y.lenRd Tryz.underlying23 rfl Rd.s) ?_
      refine GoL.y rfl (Y.move rfl) ?_
      refine GoL.nil ?_
      refine GoE.then_normal ?_
      refine GoC.block ?_
      obtain rfl : k = v.fs.length := by omega
      rw [List.drop_length, List.append_nil]
      refine GoC.loopK (X := Nat × Value × List (Nat × Tub)) [9, 64, 65, 66, 67, 68, 69, 70, 71, 72, 73, 74, 75, 76, 77, 78, 79] (fun z => v.pipes.length - z.1) (fun z => z.1 ≤ v.pipes.length ∧ z.2.2.length = z.1 ∧ z.2.2.map (·.2) = (v.pipes.take z.1).map Tub.new) (fun z => [(64, some (.int .i64 (z.1 : Int)))]) (fun z => [arr b32 0 [u36, .int .i64 v.words, .int .i64 v.mutexes, .int .i64 v.conds, v.sv, v.pv, .int .i64 v.blocks, .int .i64 v.prio, ptr x16, .pointer none, .pointer none, .pointer none, .pointer none, .pointer none, .pointer none, .pointer none, .pointer none, .pointer none, .pointer none, .pointer none, .pointer none, .pointer none, .pointer none, .pointer none, .pointer none, .slice (some ⟨b19, 0, none⟩) v.words.toNat v.words.toNat, ptr x26, z.2.1, ptr x29, ptr x30, .slice none 0 0], sl ptrE 1 z.2.1 z.2.2, allH (fun x => tubH x.1 x.2) z.2.2, sl fstE 1 u36 cl, allH (fun x => sl insE 5 x.1 x.2) cl, sl wrdE 1 (.slice (some ⟨b19, 0, none⟩) v.words.toNat v.words.toNat) (List.replicate v.words.toNat 0), tblH x16 (List.replicate (clamp 16 1024).toNat (false, 0)), gatesH x26 (Gates.new v.mutexes v.conds v.sems), dskH x29 (Dsk.new v.blocks), whlH x30 Whl.new, arr b1 0 (prgE v), A, F]) (0, .slice none 0 0, []) ?_ ?_ ?_ ?_
      · exact ⟨Nat.zero_le _, rfl, by simp⟩
      · exact ⟨rfl, trivial⟩
      · exact fun w s => Ent.kept .auto w s
      rintro ⟨k, vt, ts⟩ ⟨hk, htl, htm⟩
      simp only at hk htl htm
      refine GoC.seq ?_
      refine GoC.region ?_
      refine GoL.y rfl (Y.lss rfl rfl) ?_
      refine GoL.nil ?_
      refine GoE.then_normal ?_
      refine GoC.seq ?_
      refine GoC.condD rfl (fun h65 => ?_) (fun h65 => ?_)
      · refine GoC.skip ?_
        refine GoE.then_normal ?_
        refine GoC.seq ?_
        refine GoC.block ?_
        refine GoC.seq ?_
        refine GoC.region ?_
        obtain ⟨x, hx⟩ := at_some (show k < v.pipes.length by omega)
        refine GoL.y rfl (Y.ixRd _ Tryz.underlying23 Tryz.sizeOf3 rfl rfl Rd.s rfl (by first | omega | decide)) ?_
        refine GoL.y rfl (Y.load Tryz.isAgg3 rfl (Cell.rd0 Rd.s ‹_› (by rfl))) ?_
        refine GoL.y rfl (Y.assign rfl) ?_
        refine GoL.nil ?_
        refine GoE.then_normal ?_
        refine GoC.draw [arr b32 0 [u36, .int .i64 v.words, .int .i64 v.mutexes, .int .i64 v.conds, v.sv, v.pv, .int .i64 v.blocks, .int .i64 v.prio, ptr x16, .pointer none, .pointer none, .pointer none, .pointer none, .pointer none, .pointer none, .pointer none, .pointer none, .pointer none, .pointer none, .pointer none, .pointer none, .pointer none, .pointer none, .pointer none, .pointer none, .slice (some ⟨b19, 0, none⟩) v.words.toNat v.words.toNat, ptr x26, vt, ptr x29, ptr x30, .slice none 0 0]] [0, 0, 0, 0, 0, 1, 2, 2, 2, 1, 1, 3] rfl (by kernel_rfl) ?_
        refine GoK.k rfl Kept.auto (Y.move rfl) ?_
        refine GoK.k rfl Kept.auto (Y.move rfl) ?_
        refine GoK.k rfl Kept.auto (Y.nilCheck rfl) ?_
        refine GoK.k rfl Kept.auto (Y.fieldAddr0 27 116 Tryz.underlying118 rfl Tryz.sizeOf116 rfl) ?_
        refine GoK.k rfl Kept.auto (Y.load Tryz.isAgg116 rfl (Cell.a (by rfl))) ?_
        refine GoK.s rfl (Y.move rfl) ?_
        refine GoK.d2 rfl Kept.auto (Does.callE rfl Tryz.call56 rfl tube_New .auto) (by rintro _ _ ⟨x74, -, rfl, rfl⟩; exact Kept.auto) ?_
        rintro _ _ ⟨x74, -, rfl, rfl⟩
        refine GoK.d2 rfl Kept.auto (Does.bsl 124 rfl rfl (by kernel_rfl)) (by rintro _ _ ⟨b75, rfl, rfl⟩; exact Kept.auto) ?_
        rintro _ _ ⟨b75, rfl, rfl⟩
        refine GoK.d2 rfl Kept.auto (Does.app1 (enc := ptrE) (k := 1) ((x74, Tub.new x) : Nat × Tub) rfl Tryz.underlying116 Tryz.underlying116 Tryz.typeInfo124 rfl rfl rfl (by decide) rfl rfl rfl .auto rfl .auto (by first | omega | (dsimp only; omega)) rfl) (by rintro _ _ ⟨v76, rfl, rfl⟩; exact Kept.auto) ?_
        rintro _ _ ⟨v76, rfl, rfl⟩
        refine GoK.s rfl (Y.nilCheck rfl) ?_
        refine GoK.s rfl (Y.fieldAddr0 27 116 Tryz.underlying118 rfl Tryz.sizeOf116 rfl) ?_
        refine GoK.d3 rfl (Does.stS Tryz.sizeOf116 rfl rfl rfl) ?_
        rintro _ _ ⟨rfl, rfl⟩
        refine GoK.nil ?_
        refine GoE.block_normal (GoE.then_normal ?_)
        refine GoC.region ?_
        refine GoL.y rfl (Y.inc rfl rfl (by omega)) ?_
        refine GoL.y rfl (Y.move rfl) ?_
        refine GoL.nil ?_
        refine GoE.againK (k + 1, v76, ts ++ [(x74, Tub.new x)]) .auto rfl ?_ ?_ ?_ ?_
        · show v.pipes.length - (k + 1) < v.pipes.length - k; omega
        · exact ⟨by show k + 1 ≤ _; omega, by simp [htl], by rw [take_snoc hx]; simp [htm]⟩
        · exact ⟨rfl, trivial⟩
        · show ∀ w, Sat _ w _ → Sat _ w (seps [_, sl ptrE 1 v76 (ts ++ [(x74, Tub.new x)]), allH (fun x => tubH x.1 x.2) (ts ++ [(x74, Tub.new x)]), _, _, _, _, _, _, _, _, A, F])
          rw [allH_snoc]
          exact fun w s => Ent.kept .auto w s
      · refine GoC.exit ?_
        refine GoE.then_exit (GoE.then_exit (GoE.block_here (GoE.then_normal ?_)))
        refine GoC.seq ?_
        refine GoC.region ?_
        refine GoL.y rfl (Y.move rfl) ?_
        obtain rfl : k = v.pipes.length := by omega
        have htm2 : ts.map (·.2) = (spc0 v.p).tubes := by rw [htm, List.take_length]; rfl
        have hcm2 : cl.map (·.2) = (spc0 v.p).prg.funcs := by rw [hcm, List.take_length]; rfl
        refine GoL.does rfl (Does.callE rfl Tryz.call57 rfl (core_begin (ps := List.replicate 16 none) (s := spc0 v.p) (spc0_take _) rfl (spc0_free _)) .auto) ?_
        rintro _ _ ⟨qs, -, rfl, rfl⟩
        refine GoL.nil ?_
        refine GoE.then_normal ?_
        refine GoC.seq ?_
        refine GoC.region ?_
        refine GoL.y rfl (Y.move rfl) ?_
        refine GoL.y rfl (Y.assign rfl) ?_
        refine GoL.y rfl (Y.assign rfl) ?_
        refine GoL.nil ?_
        refine GoE.then_normal ?_
        refine GoC.ret ?_
        refine GoE.ret2 rfl rfl rfl fun w s => ⟨some b32, ?_, (decide_eq_true (Decidable.of_not_not h13)).symm, finE .auto s⟩
        rw [Decidable.of_not_not h13]; rfl

end Go.SLYtpcjdohmjmeehaaGreat
namespace Go.SLYtpcjdohmjmeehaaGreat
open Go Go.RowKit

theorem map_set {α β : Type} {f : α → β} {xs : List α} {ys : List β} (h : xs.map f = ys) (i : Nat) (y : α) : (xs.set i y).map f = ys.set i (f y) := by rw [List.map_set, h]

/-! processors -/
/-- The processors; where their libraries lie. -/
def krnX (b : Nat) (bl : List Nat) (k : Krn) : HProp := exP3 (fun _ _ (xs : List (Nat × Lib)) => xs.map (·.1) = bl ∧ xs.map (·.2) = k.libs) fun vo vl xs => [arr b 0 [vo, vl], sl intE 1 vo k.owner, sl ptrE 1 vl xs, allH (fun x => libH x.1 x.2) xs]
def krnH (b : Nat) (k : Krn) : HProp := exP1 (fun _ => True) fun bl => [krnX b bl k]
def evSum (l : Lib) : Nat := l.waiting.length + (l.vs.map (fun v => v.evs.length)).sum
structure LOk (m : Nat) (l : Lib) : Prop where
  ev : evSum l ≤ m
  vl : l.vs.length ≤ 64
  th : l.spc.thr.length = 16
structure KOk (m : Nat) (k : Krn) : Prop where
  own : ∀ v ∈ k.owner, v = -1 ∨ (0 ≤ v ∧ v < (k.libs.length : Int))
  ol : k.owner.length ≤ 64
  ll : k.libs.length ≤ 8
  lib : ∀ l ∈ k.libs, LOk m l
def isThere (k : Krn) (p : Int) : Bool := decide (0 ≤ p) && decide (p < (k.owner.length : Int))
def ownAt (o : List Int) (p : Int) : Int := o.getD p.toNat 0
/-- Whose it is that is to be taken, or why not. -/
def mineE (k : Krn) (p : Int) : Int := match geti k.owner p with | none => 1 | some o => if o = -1 then 11 else 0
def mineB (bl : List Nat) (k : Krn) (p : Int) : Option Nat := match geti k.owner p with | none => none | some o => if o = -1 then none else bl[o.toNat]?
theorem nsum_mem {l : List Nat} {n : Nat} (h : n ∈ l) : n ≤ l.sum := by
  induction l with
  | nil => cases h
  | cons x l ih =>
    rw [List.sum_cons]
    rcases List.mem_cons.1 h with h | h
    · omega
    · have := ih h; omega
theorem LOk.w {m : Nat} {l : Lib} (h : LOk m l) : l.waiting.length ≤ m := by have := h.ev; unfold evSum at this; omega
theorem LOk.e {m : Nat} {l : Lib} (h : LOk m l) : ∀ v ∈ l.vs, v.evs.length ≤ m := fun v hv => by
  have := h.ev; unfold evSum at this
  have := nsum_mem (List.mem_map_of_mem (f := fun v : Vsl => v.evs.length) hv)
  omega
end Go.SLYtpcjdohmjmeehaaGreat
namespace Go.SLYtpcjdohmjmeehaaGreat
open Go Go.RowKit

structure DOk (d : Deal) : Prop where
  left : 0 ≤ d.left ∧ d.left ≤ 64
  pl : d.prio.length = d.demand.length
  ol : d.out.length = d.demand.length
  dm : ∀ z ∈ d.demand, z ≤ 1000000
  om : ∀ y ∈ d.out, 0 ≤ y
  dl : d.demand.length ≤ 8
/-- Rounds, so long as somebody gets one. -/
def dr (p : Int) (f : Nat) (d : Deal) : Deal := Deal.rounds p f (d.left.toNat + 1) d
def priosN (f : Nat) : Nat → Deal → Deal
  | 0, d => d
  | p + 1, d => priosN f p (dr (p : Int) f d)
theorem pick_int {t : Int} {n : Nat} (hn : 0 < n) : ((t.tmod n + n).tmod n) = ((pick t n : Nat) : Int) := by
  unfold pick
  have h1 : -(n : Int) < t.tmod n := Int.lt_tmod_of_pos t (show (0 : Int) < n by omega)
  have h2 : 0 ≤ (t.tmod n + n).tmod n := Int.tmod_nonneg _ (by omega)
  omega
theorem pick_lt {t : Int} {n : Nat} (hn : 0 < n) : pick t n < n := by
  have := pick_int (t := t) hn
  have h2 := Int.tmod_lt_of_pos (t.tmod n + n) (show (0 : Int) < n by omega)
  omega
def dl0 (procs : Int) (demand prio : List Int) : Deal := ⟨procs, demand, prio, List.replicate demand.length 0⟩
/-! what New makes -/
end Go.SLYtpcjdohmjmeehaaGreat
namespace Go.SLYtpcjdohmjmeehaaGreat

structure Eff where
  woken : List Int
  stopped : Bool
  ended : Bool
  yielded : Bool
deriving DecidableEq
def Eff.z : Eff := ⟨[], false, false, false⟩

/-! words as numbers with a point -/
def fLt (a b : Int) : Bool := Ieee.double.order a.toNat b.toNat == some .lt
def fEq (a b : Int) : Bool := Ieee.double.order a.toNat b.toNat == some .eq
def fNan (a : Int) : Bool := !fEq a a
/-- A number's word: nobody, if it is none. -/
def fClean (a : Int) : Int := if fNan a = true then fNone else a
def fOut : Option Nat → Int
  | some r => fClean r
  | none => fNone
def fAdd (a b : Int) : Int := fOut (Ieee.double.add a.toNat b.toNat)
def fSub (a b : Int) : Int := fOut (Ieee.double.sub a.toNat b.toNat)
def fMul (a b : Int) : Int := fOut (Ieee.double.mul a.toNat b.toNat)
def fDiv (a b : Int) : Int := fOut (Ieee.double.div a.toNat b.toNat)
def fToFloat (a : Int) : Int := fClean (Go.FloatKind.f64.nearest (Go.IntKind.i64.wrap a))
def yesI (b : Bool) : Int := if b = true then 1 else 0
/-- What the lesser, the greater of two numbers is, where none of them is none. -/
def archPick (neg : Bool) (win : Ordering) (x y : Nat) : Nat :=
  let a := Go.FloatKind.f64.decode x
  let b := Go.FloatKind.f64.decode y
  if a == .infinity neg || b == .infinity neg then Go.FloatKind.f64.encode (.infinity neg)
  else if a.isNaN || b.isNaN then 0x7FF8000000000001
  else if a.isZero && b.isZero then (if a.neg == neg then x else y)
  else if a.order b == some win then x else y
def fMinW (a b : Int) : Int := if (fNan a || fNan b) = true then fNone else fClean (archPick true .lt a.toNat b.toNat : Nat)
def fMaxW (a b : Int) : Int := if (fNan a || fNan b) = true then fNone else fClean (archPick false .gt a.toNat b.toNat : Nat)
def fFar : Nat := 4890909195324358656
def fMFar : Nat := 14114281232179134464
def fToInt (a : Int) : Int :=
  if fNan a = true then 0 else
  if (Ieee.double.order a.toNat fFar == some .gt || Ieee.double.order a.toNat fFar == some .eq) = true then 9223372036854775807 else
  if (Ieee.double.order a.toNat fMFar == some .lt) = true then 9223372036854775808 else w64 (((Go.FloatKind.f64.decode a.toNat).toInt .zero).getD 0)

def arithI (op a b : Int) : Int :=
  if op = 2 then a else if op = 3 then w64 (a + b) else if op = 4 then w64 (a - b) else if op = 5 then w64 (a * b) else if op = 6 then yesI (decide (a < b)) else
  if op = 7 then fAdd a b else if op = 8 then fSub a b else if op = 9 then fMul a b else if op = 10 then fDiv a b else
  if op = 11 then fMinW a b else if op = 12 then fMaxW a b else if op = 13 then yesI (fLt a b) else
  if op = 14 then fToInt a else if op = 15 then fToFloat a else 0

/-! plain instructions -/
structure Frm where
  fn : Int
  pc : Int
  regs : List Int
def Frm.z : Frm := ⟨0, 0, [0, 0, 0, 0, 0, 0, 0, 0]⟩
def Frm.reg (f : Frm) (a : Int) : Int := f.regs.getD a.toNat 0
def Frm.put (f : Frm) (a v : Int) : Frm := { f with regs := f.regs.set a.toNat v }
def shortB (op : Int) : Bool := decide (op = 2) || decide (op = 14) || decide (op = 15)
/-- What a plain instruction makes of a frame and a memory; nothing: it can not go on. -/
def doI (f : Frm) (m : List Int) (i : Ins) : Option (Frm × List Int) :=
  if i.op = 16 then some ({ f with pc := i.n }, m) else
  if i.op = 17 then some ({ f with pc := if f.reg i.a = 0 then i.n else f.pc + 1 }, m) else
  if i.op = 1 then some ({ f.put i.a i.n with pc := f.pc + 1 }, m) else
  if i.op = 18 then (if f.reg i.b < m.length then some ({ f.put i.a (m.getD (f.reg i.b).toNat 0) with pc := f.pc + 1 }, m) else none) else
  if i.op = 19 then (if f.reg i.a < m.length then some ({ f with pc := f.pc + 1 }, m.set (f.reg i.a).toNat (f.reg i.b)) else none) else
  some ({ f.put i.a (arithI i.op (f.reg i.b) (if shortB i.op = true then 0 else f.reg i.c)) with pc := f.pc + 1 }, m)

/-! threads -/
def thrZ : Thr := ⟨0, 0, [0, 0, 0, 0, 0, 0, 0, 0], 0, 0, 0, false, -1, 0, -1⟩
def Thr.frm (t : Thr) : Frm := ⟨t.fn, t.pc, t.regs⟩
def Thr.setF (t : Thr) (f : Frm) : Thr := { t with fn := f.fn, pc := f.pc, regs := f.regs }
def Thr.reg (t : Thr) (a : Int) : Int := t.regs.getD a.toNat 0
def Thr.put (t : Thr) (a : Int) (v : Int) : Thr := { t with regs := t.regs.set a.toNat v }
def Spc.t (s : Spc) (n : Nat) : Thr := (s.thr.getD n none).getD thrZ
def Spc.setT (s : Spc) (n : Nat) (t : Thr) : Spc := { s with thr := s.thr.set n (some t) }
def Spc.at (s : Spc) (n : Int) : Option Thr := (geti s.thr n).getD none
def Spc.free (s : Spc) (n : Nat) : Spc := { s with table := slotFreed s.table (s.t n).handle, thr := s.thr.set n none }
def Spc.tell (s : Spc) (r : Rec) : Spc := { s with recs := s.recs ++ [r] }
def nextI (p : Prg) (f : Frm) : Option Ins := if f.fn < 0 ∨ f.pc < 0 then none else (p.funcs.getD f.fn.toNat [])[f.pc.toNat]?
/-- A thread goes on, with what it got: its record. -/
def Thr.wakes (t : Thr) (y : Int) : Thr := { (if t.into = -1 then t else t.put t.into y).put 7 0 with why := 0, into := -1 }
def Thr.woke (t : Thr) (y : Int) : Rec := ⟨t.handle, t.op, 0, if t.into = -1 then 0 else y, 0, true⟩
def Spc.wake (s : Spc) (n : Nat) (y : Int) : Spc := s.setT n ((s.t n).wakes y)

/-! an instruction that a thread does -/
structure Dng where
  s : Spc
  n : Nat
  i : Ins
  choice : Int
  out : Eff
  ends : List Rec
def Dng.t (d : Dng) : Thr := d.s.t d.n
def Dng.setT (d : Dng) (t : Thr) : Dng := { d with s := d.s.setT d.n t }
def Dng.a (d : Dng) : Int := d.t.reg d.i.a
def Dng.b (d : Dng) : Int := d.t.reg d.i.b
def Dng.tell (d : Dng) (x y e : Int) (fin : Bool) : Dng := { d with s := d.s.tell ⟨d.t.handle, d.i.op, x, y, e, fin⟩ }
def Dng.pass (d : Dng) (x y e : Int) : Dng := (d.tell x y e true).setT (d.t.put 7 e)
def Dng.block (d : Dng) (why into x y : Int) : Dng := { (d.tell x y 0 false).setT { d.t with why := why, op := d.i.op, into := into } with out := { d.out with stopped := true } }
def Dng.goes (d : Dng) (n : Nat) (y : Int) : Dng := { d with s := d.s.wake n y, ends := d.ends ++ [(d.s.t n).woke y], out := { d.out with woken := d.out.woken ++ [(n : Int)] } }
def Dng.free (d : Dng) (n : Nat) : Dng := { d with s := d.s.free n }
def Dng.ended (d : Dng) : Dng := { d with out := { d.out with ended := true } }
def Dng.fin (d : Dng) (v : Int) : Dng :=
  if d.t.detached = true then d.ended.free d.n else
  if d.t.joiner = -1 then d.ended.setT { d.t with why := 9, value := v } else (d.ended.goes d.t.joiner.toNat v).free d.n
def Dng.finish (d : Dng) : Eff × Spc := (d.out, { d.s with recs := d.s.recs ++ d.ends })
def Dng.withG (d : Dng) (g : Gates) : Dng := { d with s := { d.s with gates := g } }
def Dng.withU (d : Dng) (k : Nat) (u : Tub) : Dng := { d with s := { d.s with tubes := d.s.tubes.set k u } }
def Dng.withD (d : Dng) (u : Dsk) : Dng := { d with s := { d.s with disk := u } }
def Dng.withW (d : Dng) (u : Whl) : Dng := { d with s := { d.s with wheel := u } }

def Dng.plain (d : Dng) : Dng :=
  match doI d.t.frm d.s.mem d.i with
  | some (f, m) =>
    let d1 := if d.i.op = 18 then d.tell d.b (d.s.mem.getD d.b.toNat 0) 0 true else if d.i.op = 19 then d.tell d.a d.b 0 true else d
    { d1 with s := { d1.s.setT d.n (d.t.setF f) with mem := m } }
  | none => (if d.i.op = 18 then d.tell d.b 0 6 true else d.tell d.a d.b 6 true).fin 18446744073709551615

def Dng.spawn (d : Dng) : Dng :=
  let r := d.s.begin d.i.n d.b
  let h := if r.2.1 = 0 then (r.2.2.t r.1.toNat).handle else 0
  let d1 : Dng := { d with s := r.2.2, out := if r.2.1 = 0 then { d.out with woken := d.out.woken ++ [r.1] } else d.out }
  (d1.setT (d1.t.put d.i.a h)).pass d.i.n h r.2.1
def Dng.other (d : Dng) (h : Int) : Nat × Int :=
  match slotFind d.s.table h with
  | none => (0, 3)
  | some n => if n = d.n ∨ (d.s.t n).detached = true then (0, 3) else if (d.s.t n).joiner = -1 then (n, 0) else (0, 4)
def Dng.join (d : Dng) : Dng :=
  let x := d.b
  if (d.other x).2 ≠ 0 then d.pass x 0 (d.other x).2 else
  let n := (d.other x).1
  if (d.s.t n).why = 9 then ((d.setT (d.t.put d.i.a (d.s.t n).value)).free n).pass x (d.s.t n).value 0 else
  ({ d with s := d.s.setT n { d.s.t n with joiner := d.n } } : Dng).block 4 d.i.a x 0
def Dng.detach (d : Dng) : Dng :=
  let x := d.a
  if (d.other x).2 ≠ 0 then d.pass x 0 (d.other x).2 else
  let n := (d.other x).1
  (if (d.s.t n).why = 9 then d.free n else ({ d with s := d.s.setT n { d.s.t n with detached := true } } : Dng)).pass x 0 0
def Dng.goesAll (d : Dng) : List Int → Dng
  | [] => d
  | n :: l => (d.goes n.toNat 0).goesAll l
def whyAll (s : Spc) : List Int → Spc
  | [] => s
  | n :: l => whyAll (s.setT n.toNat { s.t n.toNat with why := 1 }) l
def Dng.waits (d : Dng) : List Int := ((d.s.gates.mtx.take d.s.prg.mutexes.toNat).flatMap fun m => m.wait.map (·.who))
def Dng.moved (d : Dng) (l : List Int) : Dng := ({ d with s := whyAll d.s d.waits } : Dng).goesAll l
def Dng.given (d : Dng) (n : Int) (ok : Bool) : Dng := if ok = true then d.goes n.toNat 0 else d
def Dng.mutex (d : Dng) : Dng :=
  let m := d.i.n
  if d.i.op = 25 then
    let r := d.s.gates.lock d.n m
    if r.2.1 = 0 ∧ r.1 = false then (d.withG r.2.2).block 1 (-1) m 0 else (d.withG r.2.2).pass m 0 r.2.1
  else if d.i.op = 26 then
    let r := d.s.gates.unlock d.n m d.choice
    ((d.withG r.2.2.2).pass m 0 r.2.2.1).given r.1 r.2.1
  else
    let r := d.s.gates.wait d.n m d.i.c d.choice
    if r.2.2.1 ≠ 0 then (d.withG r.2.2.2).pass m (w64 d.i.c) r.2.2.1 else ((d.withG r.2.2.2).block 2 (-1) m (w64 d.i.c)).given r.1 r.2.1
def Dng.sem (d : Dng) : Dng :=
  if d.i.op = 31 then
    let r := d.s.gates.up d.i.n d.choice
    ((d.withG r.2.2.2).pass d.i.n 0 r.2.2.1).given r.1 r.2.1
  else
    let r := d.s.gates.down d.n d.i.n
    if r.2.1 = 0 ∧ r.1 = false then (d.withG r.2.2).block 3 (-1) d.i.n 0 else (d.withG r.2.2).pass d.i.n 0 r.2.1
def Dng.ask (d : Dng) (block y into : Int) : Dng :=
  if block < 64 then
    let r := d.s.disk.ask ⟨d.n, block, decide (d.i.op = 34), y⟩
    if r.1 ≠ 0 then (d.withD r.2).pass block y r.1 else (d.withD r.2).block 5 into block y
  else d.pass block y 1
def tubZ : Tub := ⟨0, [], [], []⟩
def Dng.tube (d : Dng) : Tub := d.s.tubes.getD d.i.n.toNat tubZ
def Dng.put (d : Dng) : Dng :=
  let x := d.a
  let r := d.tube.put d.n x
  let d1 := d.withU d.i.n.toNat r.2.2.2
  if r.1 = false then d1.block 7 (-1) d.i.n x else
  if r.2.2.1 = true then (d1.pass d.i.n x 0).goes r.2.1.toNat x else d1.pass d.i.n x 0
def Dng.get (d : Dng) : Dng :=
  let r := d.tube.get d.n
  let d1 := d.withU d.i.n.toNat r.2.2.2.2
  if r.2.1 = false then d1.block 6 d.i.a d.i.n 0 else
  let d2 := (d1.setT (d1.t.put d.i.a r.1)).pass d.i.n r.1 0
  if r.2.2.2.1 = true then d2.goes r.2.2.1.toNat 0 else d2
def Dng.sleep (d : Dng) : Dng :=
  let x := d.a
  if x = 0 then d.pass x 0 0 else if 1099511627776 < x then d.pass x 0 1 else (d.withW (d.s.wheel.sleep d.n x).2).block 8 (-1) x 0
def Dng.kernel (d : Dng) : Dng :=
  if d.i.op = 33 then d.ask d.b 0 d.i.a else
  if d.i.op = 34 then d.ask d.a d.b (-1) else
  if d.i.op = 35 then d.put else
  if d.i.op = 36 then d.get else
  if d.i.op = 37 then d.sleep else d.pass d.a 0 0
def Dng.call (d : Dng) : Dng :=
  if d.i.op = 20 then d.spawn else
  if d.i.op = 32 then (d.setT (d.t.put d.i.a d.t.handle)).pass 0 d.t.handle 0 else
  if d.i.op = 24 then { d.pass 0 0 0 with out := { d.out with yielded := true } } else
  if d.i.op = 21 then d.join else
  if d.i.op = 22 then d.detach else
  if d.i.op = 23 then (d.tell d.a 0 0 true).fin d.a else
  if d.i.op = 25 ∨ d.i.op = 26 ∨ d.i.op = 27 then d.mutex else
  if d.i.op = 28 ∨ d.i.op = 29 then
    let r := d.s.gates.signal d.i.n d.choice (decide (d.i.op = 29))
    ((d.withG r.2.2).pass d.i.n 0 r.2.1).moved r.1
  else
  if d.i.op = 30 ∨ d.i.op = 31 then d.sem else d.kernel

/-! a space's steps -/
def Spc.doing (s : Spc) (n : Nat) (i : Ins) (choice : Int) : Dng := ⟨s, n, i, choice, Eff.z, []⟩
def Spc.run (s : Spc) (n choice : Int) : Eff × Int × Spc :=
  match s.at n with
  | none => (Eff.z, 1, s)
  | some t =>
    if t.why ≠ 0 then (Eff.z, 4, s) else
    match nextI s.prg t.frm with
    | none => let r := (((s.doing n.toNat ⟨23, 0, 0, 0, 0⟩ choice).tell 0 0 0 true).fin 0).finish; (r.1, 0, r.2)
    | some i =>
      let d := s.doing n.toNat i choice
      let r := (if cls i.op = 1 then d.plain else (d.setT { t with pc := t.pc + 1 }).call).finish
      (r.1, 0, r.2)
def Spc.done (s : Spc) (k : Int) : Eff × Int × Spc :=
  let r := s.disk.done k
  if r.2.2.1 = false then (Eff.z, 3, s) else
  let s1 : Spc := { s with disk := r.2.2.2 }
  (⟨[r.1.who], false, false, false⟩, 0, (s1.wake r.1.who.toNat r.2.1).tell ((s1.t r.1.who.toNat).woke r.2.1))
def wakeAll (s : Spc) : List Int → Spc
  | [] => s
  | n :: l => wakeAll ((s.wake n.toNat 0).tell ((s.t n.toNat).woke 0)) l
def Spc.tick (s : Spc) : Eff × Spc := (⟨s.wheel.due, false, false, false⟩, wakeAll { s with wheel := s.wheel.tick.2 } s.wheel.due)
def Spc.class (s : Spc) (n : Int) : Int :=
  match s.at n with
  | none => 0
  | some t => if t.why ≠ 0 then 0 else match nextI s.prg t.frm with | none => 2 | some i => cls i.op
end Go.SLYtpcjdohmjmeehaaGreat
namespace Go.SLYtpcjdohmjmeehaaGreat
open Go Go.RowKit

/-- A contract whose call ends so: with a value, or a panic. -/
def FnB (P : Program) (W : World) (f : FuncId) (args : List Value) (pre : List HProp) (X : Type) (en : X → Ending) (fact : X → Prop) (post : X → List HProp) : Prop :=
  ∀ (F : HProp) (w : World), Sat W w (sep (seps pre) F) → Calls P f args.toArray w (fun e w' => ∃ x, e = en x ∧ fact x ∧ Sat W w' (sep (seps (post x)) F))
section
variable {P : Program} {W : World} {N : Nat} {Q : Exit → Act → World → Prop} {L : List (Nat × Option Value)} {H K R : List HProp} {O : Array Oper} {T : TypeId} {rest : List Oper}
theorem Fn.b {f : FuncId} {args : List Value} {pre : List HProp} {X : Type} {val : X → Value} {fact : X → Prop} {post : X → List HProp} (h : Fn P W f args pre X val fact post) : FnB P W f args pre X (fun x => .returned (val x)) fact post := h
theorem FnB.intro {f : FuncId} {fn : Func} {c : Code} {args : List Value} {pre : List HProp} {X : Type} {en : X → Ending} {fact : X → Prop} {post : X → List HProp} (hf : P.funcs[f]? = some fn) (hb : fn.body = some c) (hn : fn.ntmps = N) (ha : Nat.ble args.length N = true)
    (h : ∀ F, GoC P W N (bodyPost P fn (fun e w' => ∃ x, e = en x ∧ fact x ∧ Sat W w' (sep (seps (post x)) F))) c (enum 0 args) (pre ++ [F])) : FnB P W f args pre X en fact post := fun F w hs => by
  have hle : args.length ≤ N := Nat.ble_eq.mp ha
  refine calls_of_wp hf hb (h F _ w ⟨?_, fun k v hv => ?_, rfl⟩ ?_)
  · simp [hn]; omega
  · obtain ⟨_, h2⟩ := look_enum args 0 k v hv
    have hk : k < args.length := by
      have := (List.getElem?_eq_some_iff.1 h2).1; simpa using this
    show (args.toArray ++ Array.replicate (fn.ntmps - args.toArray.size) undef)[k]? = some v
    rw [Array.getElem?_append_left (by simpa using hk)]
    simpa using h2
  · rw [seps_append]; simp only [seps]; rw [sep_emp]; exact hs
/-- The call of a function that may panic: what goes on, what goes out. -/
theorem GoL.callB {f : FuncId} {xs : Array Operand} {ts : Array TypeId} {pos : String} {after : Array Edge} {d : Nat} {args : List Value} {pre : List HProp} {X : Type} {en : X → Ending} {fact : X → Prop} {post : X → List HProp} (hN : Nat.blt d N = true)
    (hc : ∀ args w, (callFunc f args).run P w = .ok (.enter f args) w) (hx : evs L xs.toList = some args) (hfn : FnB P W f args pre X en fact post) (ht : Ent H pre R) (hno : ∀ x, en x ≠ .outgrown)
    (h1 : ∀ x v, en x = .returned v → fact x → GoL P W N O Q rest ((d, some v) :: L) (post x ++ R)) (h2 : ∀ x c, en x = .panicked c → fact x → GoE W N Q (.panic c) L (post x ++ R)) :
    GoL P W N O Q (⟨some d, .call ⟨.value (.func f), xs, ts⟩, T, pos, after, none⟩ :: rest) L H := fun a w ha hs => wpList_plain rfl fun Kp hK => by
  have e : xs.map a.eval = args.toArray := by
    rw [← ha.evals hx, ← List.map_toArray]
  have hs := ht.sat hs
  rw [seps_append] at hs
  unfold Oper.wp
  have hr : (execOp a.eval ⟨some d, .call ⟨.value (.func f), xs, ts⟩, T, pos, after, none⟩).run P w = .ok (.enter f args.toArray) w := by
    simp [execOp, resolve, Act.eval, Deferred.ofValue, invoke, e, hc]
  rw [hr]
  simp only [Oper.upon]
  refine (hfn _ w hs).mono fun en' w' ⟨x, he, hf, hs'⟩ => ?_
  rw [← seps_append] at hs'
  subst he
  cases e2 : en x with
  | returned v => exact hK _ _ (h1 x v e2 hf _ _ (ha.put (Nat.blt_eq.mp hN) _) hs')
  | panicked c => exact h2 x c e2 hf _ _ ha hs'
  | outgrown => exact absurd e2 (hno x)
/-- A panic leaves a function that has put nothing off. -/
theorem GoE.panics {fn : Func} {R : Ending → World → Prop} {c : List PanicEntry} (h : ∀ w, Sat W w (seps H) → R (.panicked c) w) : GoE W N (bodyPost P fn R) (.panic c) L H := fun a w ha hs => by
  unfold bodyPost
  exact ⟨ha.defers, h w hs⟩
theorem Y.mkIface {t : TypeId} {u : TypeDesc} {x : Operand} {v : Value} (hu : P.underlying t = some u) (hn : (match u with | .interface _ => true | _ => false) = false) (hx : ev L x = some v) : Yields P W N (.makeInterface t x) T L H (.iface t v) := fun dst pos after guard a w ha hs => by
  simp only [execOp, ha.eval hx]
  refine value_run ?_
  cases u <;> first | (simp at hn; done) | simp [Instr.makeInterface, run_underlying hu]
/-- A panic of the text's own. -/
theorem GoL.panic {t : TypeId} {x : Operand} {v : Value} {pos : String} {after : Array Edge} {d : Option Nat} (hx : ev L x = some (.iface t v)) (h : GoE W N Q (.panic [{ v := .iface t v, recovered := false }]) L H) :
    GoL P W N O Q (⟨d, .panic x, T, pos, after, none⟩ :: rest) L H := fun a w ha hs => wpList_plain rfl fun Kp hK => by
  unfold Oper.wp
  have hr : (execOp a.eval ⟨d, .panic x, T, pos, after, none⟩).run P w = .halt (.panic (.iface t v)) w := by
    simp only [execOp, ha.eval hx]; rfl
  rw [hr]
  exact h a w ha hs
end
end Go.SLYtpcjdohmjmeehaaGreat
namespace Go.SLYtpcjdohmjmeehaaGreat
open Go Go.RowKit

/-! a part apart, and how it is laid back -/
def wands {X : Type} (B C : X → HProp) : HProp := fun h => ∀ x h', disj h' h → B x h' → C x (join h' h)
theorem wands_use {X : Type} {B C : X → HProp} (x : X) : ∀ h, seps [B x, wands B C] h → C x h := fun h a => by
  simp only [seps, sep_emp] at a
  obtain ⟨h1, h2, b, c, d, rfl⟩ := a
  exact c x h1 d b
theorem wands_mk {X : Type} {B C : X → HProp} {R : HProp} (f : ∀ x h, sep (B x) R h → C x h) : ∀ h, R h → wands B C h := fun h r x h' d b => f x _ ⟨h', h, b, r, d, rfl⟩
theorem sep2 {A B : HProp} {h : Heap} : seps [A, B] h ↔ sep A B h := by simp only [seps, sep_emp]

section
variable {α : Type} {enc : α → List Value} {k : Nat} {v : Value} {xs : List α}
theorem focusH {i : Nat} {x : α} (hx : xs[i]? = some x) : ∀ h, sl enc k v xs h → sep (arr (blk v) (ofs v + i * k) (enc x)) (hole enc k v xs i) h := fun h s => by
  have hi := (List.getElem?_eq_some_iff.1 hx).1
  rcases s with ⟨_, rfl, _⟩ | ⟨b, cap, sp, rfl, hle, hk, hsp, s⟩
  · simp at hx
  · have hl : (rows enc (xs.take i)).length = i * k := by
      rw [rows_length fun y hy => hk y (List.mem_of_mem_take hy), List.length_take, Nat.min_eq_left (Nat.le_of_lt hi)]
    have hxk := hk x (List.mem_of_getElem? hx)
    have e : rows enc xs ++ sp = rows enc (xs.take i) ++ (enc x ++ (rows enc (xs.drop (i + 1)) ++ sp)) := by
      conv => lhs; rw [split_at hx]
      rw [rows_append, rows_cons]; simp
    rw [e, arr_append, arr_append, hl, hxk, sep_left_comm] at s
    simp only [blk, ofs]
    refine sep_mono (fun _ h => h) (fun h hh => ⟨b, cap, sp, rfl, hle, hk, hsp, ?_⟩) h s
    rw [show (i + 1) * k = 0 + i * k + k from by rw [Nat.succ_mul]; omega]; exact hh
theorem unfocusH {i : Nat} {x' : α} (hi : i < xs.length) (hx' : (enc x').length = k) : ∀ h, sep (arr (blk v) (ofs v + i * k) (enc x')) (hole enc k v xs i) h → sl enc k v (xs.set i x') h := fun h s => by
  obtain ⟨x, hx⟩ : ∃ x, xs[i]? = some x := ⟨xs[i], by simp [hi]⟩
  obtain ⟨h3, h4, a3, ⟨b, cap, sp, hv, hle, hk, hsp, a4⟩, d', e'⟩ := s
  subst hv
  have s' : sep (arr b (0 + i * k) (enc x')) (sep (arr b 0 (rows enc (xs.take i))) (arr b ((i + 1) * k) (rows enc (xs.drop (i + 1)) ++ sp))) h := ⟨h3, h4, a3, a4, d', e'⟩
  have hl : (rows enc (xs.take i)).length = i * k := by
    rw [rows_length fun y hy => hk y (List.mem_of_mem_take hy), List.length_take, Nat.min_eq_left (Nat.le_of_lt hi)]
  have e2 : rows enc (xs.set i x') ++ sp = rows enc (xs.take i) ++ (enc x' ++ (rows enc (xs.drop (i + 1)) ++ sp)) := by
    rw [set_at hx, rows_append, rows_cons]; simp
  have hk' : ∀ y ∈ xs.set i x', (enc y).length = k := fun y hy => by
    rcases List.mem_or_eq_of_mem_set hy with h | h
    · exact hk y h
    · subst h; exact hx'
  right
  refine ⟨b, cap, sp, by simp, by simpa using hle, hk', by simpa using hsp, ?_⟩
  rw [e2, arr_append, arr_append, hl, hx', sep_left_comm]
  rwa [show (i + 1) * k = 0 + i * k + k from by rw [Nat.succ_mul]; omega] at s'
theorem sl_shape (h0 : xs ≠ []) : ∀ h, sl enc k v xs h → ∃ b cap, v = .slice (some ⟨b, 0, none⟩) xs.length cap ∧ xs.length ≤ cap := fun h s => by
  rcases s with ⟨_, hx0, _⟩ | ⟨b, cap, _, hv, hle, _⟩
  · exact absurd hx0 h0
  · exact ⟨b, cap, hv, hle⟩
end
theorem erase_td {α : Type} (xs : List α) (i : Nat) : xs.take i ++ xs.drop (i + 1) = xs.eraseIdx i := (List.eraseIdx_eq_take_drop_succ ..).symm
theorem arr_cut1 {b o : Nat} {u : Value} {cs : List Value} : ∀ h, arr b o (u :: cs) h → seps [arr b o [u], arr b (o + 1) cs] h := fun h a => by
  rw [show u :: cs = [u] ++ cs from rfl, arr_append] at a
  exact sep2.2 a
theorem arr_join1 {b o : Nat} {u : Value} {cs : List Value} : ∀ h, seps [arr b o [u], arr b (o + 1) cs] h → arr b o (u :: cs) h := fun h a => by
  rw [show u :: cs = [u] ++ cs from rfl, arr_append]
  exact sep2.1 a

/-! gates -/
def mtxAt (b o : Nat) (m : Mtx) : HProp := exP1 (fun _ : Value => True) fun u => [arr b o [u, .bool m.held, .int .i64 m.owner], sl wtrE 2 u m.wait]
def smpAt (b o : Nat) (m : Smp) : HProp := exP1 (fun _ : Value => True) fun u => [arr b o [u, .int .i64 m.count], sl wtrE 2 u m.wait]
theorem mtx_open {v : Value} {l : List Mtx} {i : Nat} {m : Mtx} (hm : l[i]? = some m) : ∀ h, mtxsH v l h → seps [mtxAt (blk v) (ofs v + i * 3) m, wands (mtxAt (blk v) (ofs v + i * 3)) (fun m' => mtxsH v (l.set i m'))] h := fun h ⟨xs, hxs, a⟩ => by
  obtain ⟨x, hx⟩ := at_some (show i < xs.length by rw [← List.length_map (f := (·.2)), hxs]; exact (List.getElem?_eq_some_iff.1 hm).1)
  have hxm : x.2 = m := by have := map_get hxs hx; rw [hm] at this; exact (Option.some.inj this).symm
  rw [sep2] at a ⊢
  have a2 : sep (sep (arr (blk v) (ofs v + i * 3) (mtxE x)) (hole mtxE 3 v xs i)) (sep (sl wtrE 2 x.1 x.2.wait) (allH (fun x : Value × Mtx => sl wtrE 2 x.1 x.2.wait) (xs.eraseIdx i))) h := sep_mono (focusH hx) (fun g b => by rw [allH_get _ hx] at b; exact b) h a
  rw [sep_assoc, sep_left_comm (hole mtxE 3 v xs i), ← sep_assoc] at a2
  refine sep_mono ?_ ?_ h a2
  · intro g b; exact ⟨x.1, trivial, by rw [sep2, ← hxm]; exact b⟩
  · refine wands_mk fun m' g b => ?_
    obtain ⟨h1, h2, ⟨u, -, b1⟩, b2, d, rfl⟩ := b
    refine ⟨xs.set i (u, m'), by show (xs.set i (u, m')).map (·.2) = _; rw [List.map_set, show xs.map (·.2) = l from hxs], ?_⟩
    rw [sep2] at b1 ⊢
    have b3 : sep (sep (arr (blk v) (ofs v + i * 3) (mtxE (u, m'))) (sl wtrE 2 u m'.wait)) (sep (hole mtxE 3 v xs i) (allH (fun x : Value × Mtx => sl wtrE 2 x.1 x.2.wait) (xs.eraseIdx i))) (join h1 h2) := ⟨h1, h2, b1, b2, d, rfl⟩
    rw [sep_assoc, sep_left_comm (sl wtrE 2 u m'.wait), ← sep_assoc] at b3
    refine sep_mono (unfocusH (List.getElem?_eq_some_iff.1 hx).1 rfl) (fun g c => ?_) _ b3
    rw [allH_set _ _ (List.getElem?_eq_some_iff.1 hx).1]; exact c
theorem smp_open {v : Value} {l : List Smp} {i : Nat} {m : Smp} (hm : l[i]? = some m) : ∀ h, smpsH v l h → seps [smpAt (blk v) (ofs v + i * 2) m, wands (smpAt (blk v) (ofs v + i * 2)) (fun m' => smpsH v (l.set i m'))] h := fun h ⟨xs, hxs, a⟩ => by
  obtain ⟨x, hx⟩ := at_some (show i < xs.length by rw [← List.length_map (f := (·.2)), hxs]; exact (List.getElem?_eq_some_iff.1 hm).1)
  have hxm : x.2 = m := by have := map_get hxs hx; rw [hm] at this; exact (Option.some.inj this).symm
  rw [sep2] at a ⊢
  have a2 : sep (sep (arr (blk v) (ofs v + i * 2) (smpE x)) (hole smpE 2 v xs i)) (sep (sl wtrE 2 x.1 x.2.wait) (allH (fun x : Value × Smp => sl wtrE 2 x.1 x.2.wait) (xs.eraseIdx i))) h := sep_mono (focusH hx) (fun g b => by rw [allH_get _ hx] at b; exact b) h a
  rw [sep_assoc, sep_left_comm (hole smpE 2 v xs i), ← sep_assoc] at a2
  refine sep_mono ?_ ?_ h a2
  · intro g b; exact ⟨x.1, trivial, by rw [sep2, ← hxm]; exact b⟩
  · refine wands_mk fun m' g b => ?_
    obtain ⟨h1, h2, ⟨u, -, b1⟩, b2, d, rfl⟩ := b
    refine ⟨xs.set i (u, m'), by show (xs.set i (u, m')).map (·.2) = _; rw [List.map_set, show xs.map (·.2) = l from hxs], ?_⟩
    rw [sep2] at b1 ⊢
    have b3 : sep (sep (arr (blk v) (ofs v + i * 2) (smpE (u, m'))) (sl wtrE 2 u m'.wait)) (sep (hole smpE 2 v xs i) (allH (fun x : Value × Smp => sl wtrE 2 x.1 x.2.wait) (xs.eraseIdx i))) (join h1 h2) := ⟨h1, h2, b1, b2, d, rfl⟩
    rw [sep_assoc, sep_left_comm (sl wtrE 2 u m'.wait), ← sep_assoc] at b3
    refine sep_mono (unfocusH (List.getElem?_eq_some_iff.1 hx).1 rfl) (fun g c => ?_) _ b3
    rw [allH_set _ _ (List.getElem?_eq_some_iff.1 hx).1]; exact c
theorem cnd_open {v : Value} {l : List (List Wtr)} {i : Nat} {m : List Wtr} (hm : l[i]? = some m) : ∀ h, cndsH v l h → seps [rowH (blk v) (ofs v + i * 1) m, wands (rowH (blk v) (ofs v + i * 1)) (fun m' => cndsH v (l.set i m'))] h := fun h ⟨xs, hxs, a⟩ => by
  obtain ⟨x, hx⟩ := at_some (show i < xs.length by rw [← List.length_map (f := (·.2)), hxs]; exact (List.getElem?_eq_some_iff.1 hm).1)
  have hxm : x.2 = m := by have := map_get hxs hx; rw [hm] at this; exact (Option.some.inj this).symm
  rw [sep2] at a ⊢
  have a2 : sep (sep (arr (blk v) (ofs v + i * 1) (fstE x)) (hole fstE 1 v xs i)) (sep (sl wtrE 2 x.1 x.2) (allH (fun x : Value × List Wtr => sl wtrE 2 x.1 x.2) (xs.eraseIdx i))) h := sep_mono (focusH hx) (fun g b => by rw [allH_get _ hx] at b; exact b) h a
  rw [sep_assoc, sep_left_comm (hole fstE 1 v xs i), ← sep_assoc] at a2
  refine sep_mono ?_ ?_ h a2
  · intro g b; exact ⟨x.1, trivial, by rw [sep2, ← hxm]; exact b⟩
  · refine wands_mk fun m' g b => ?_
    obtain ⟨h1, h2, ⟨u, -, b1⟩, b2, d, rfl⟩ := b
    refine ⟨xs.set i (u, m'), by show (xs.set i (u, m')).map (·.2) = _; rw [List.map_set, show xs.map (·.2) = l from hxs], ?_⟩
    rw [sep2] at b1 ⊢
    have b3 : sep (sep (arr (blk v) (ofs v + i * 1) (fstE (u, m'))) (sl wtrE 2 u m')) (sep (hole fstE 1 v xs i) (allH (fun x : Value × List Wtr => sl wtrE 2 x.1 x.2) (xs.eraseIdx i))) (join h1 h2) := ⟨h1, h2, b1, b2, d, rfl⟩
    rw [sep_assoc, sep_left_comm (sl wtrE 2 u m'), ← sep_assoc] at b3
    refine sep_mono (unfocusH (List.getElem?_eq_some_iff.1 hx).1 rfl) (fun g c => ?_) _ b3
    rw [allH_set _ _ (List.getElem?_eq_some_iff.1 hx).1]; exact c
theorem row_mtx {b o : Nat} {m : Mtx} : ∀ h, seps [rowH b o m.wait, arr b (o + 1) [.bool m.held, .int .i64 m.owner]] h → mtxAt b o m h := fun h a => by
  rw [sep2] at a
  obtain ⟨h1, h2, ⟨u, -, b1⟩, b2, d, rfl⟩ := a
  refine ⟨u, trivial, ?_⟩
  rw [sep2] at b1 ⊢
  have b3 : sep (sep (arr b o [u]) (sl wtrE 2 u m.wait)) (arr b (o + 1) [.bool m.held, .int .i64 m.owner]) (join h1 h2) := ⟨h1, h2, b1, b2, d, rfl⟩
  rw [sep_assoc, sep_comm (sl wtrE 2 u m.wait), ← sep_assoc] at b3
  exact sep_mono (fun g c => arr_join1 g (sep2.2 c)) (fun _ c => c) _ b3
theorem row_smp {b o : Nat} {m : Smp} : ∀ h, seps [rowH b o m.wait, arr b (o + 1) [.int .i64 m.count]] h → smpAt b o m h := fun h a => by
  rw [sep2] at a
  obtain ⟨h1, h2, ⟨u, -, b1⟩, b2, d, rfl⟩ := a
  refine ⟨u, trivial, ?_⟩
  rw [sep2] at b1 ⊢
  have b3 : sep (sep (arr b o [u]) (sl wtrE 2 u m.wait)) (arr b (o + 1) [.int .i64 m.count]) (join h1 h2) := ⟨h1, h2, b1, b2, d, rfl⟩
  rw [sep_assoc, sep_comm (sl wtrE 2 u m.wait), ← sep_assoc] at b3
  exact sep_mono (fun g c => arr_join1 g (sep2.2 c)) (fun _ c => c) _ b3

/-- A place in a row of things, or nowhere. -/
def elP (v : Value) (n k : Nat) (i : Int) : Value := .pointer (if 0 ≤ i ∧ i < (n : Int) then some ⟨blk v, ofs v + i.toNat * k, none⟩ else none)

/-! searches -/
def idxP {α : Type} (p : α → Bool) : List α → Nat → Int
  | [], _ => -1
  | x :: l, k => if p x = true then (k : Int) else idxP p l (k + 1)
theorem idxP_hit {α : Type} {p : α → Bool} {l : List α} {k : Nat} {x : α} (h : l[k]? = some x) (hp : p x = true) : idxP p (l.drop k) k = (k : Int) := by rw [drop_cons h, idxP, if_pos hp]
theorem idxP_miss {α : Type} {p : α → Bool} {l : List α} {k : Nat} {x : α} (h : l[k]? = some x) (hp : p x = false) : idxP p (l.drop k) k = idxP p (l.drop (k + 1)) (k + 1) := by rw [drop_cons h, idxP, if_neg (by rw [hp]; simp)]
theorem idxP_end {α : Type} {p : α → Bool} {l : List α} {k : Nat} (h : l.length ≤ k) : idxP p (l.drop k) k = -1 := by rw [List.drop_of_length_le h]; rfl
theorem idxP_any {α : Type} {p : α → Bool} : ∀ (l : List α) (k : Nat), decide (0 ≤ idxP p l k) = l.any p
  | [], _ => rfl
  | x :: l, k => by
    rw [idxP, List.any_cons]
    cases h : p x with
    | true => rw [if_pos rfl]; simp
    | false => rw [if_neg (by simp), idxP_any l (k + 1), Bool.false_or]
theorem any_fst {α β : Type} {p : β → Bool} {xs : List (α × β)} {l : List β} (h : xs.map (·.2) = l) : (xs.any fun x => p x.2) = l.any p := by rw [← h, List.any_map]; rfl
end Go.SLYtpcjdohmjmeehaaGreat
namespace Go.SLYtpcjdohmjmeehaaGreat
open Go Go.RowKit Go.Proofs

set_option maxRecDepth 20000 in
theorem DeleteG {W : World} {v : Value} {xs : List Wtr} {i : Nat} (hi : i < xs.length) (hl : xs.length ≤ 1000000000) : Fn Tryz.prog W 158 [v, .int .i64 (i : Int), .int .i64 ((i + 1 : Nat) : Int)] [sl wtrE 2 v xs] Value (fun u => u) (fun _ => True) (fun u => [sl wtrE 2 u (xs.eraseIdx i)]) := by
  refine Fn.intro (N := 33) Tryz.func158 rfl Tryz.ntmps158 rfl fun F => ?_
  show GoC _ _ _ _ _ _ [sl wtrE 2 v xs, F]
  have h0 : xs ≠ [] := by intro e; rw [e] at hi; simp at hi
  refine GoC.know (fun w s => s.fact .auto (sl_shape h0)) fun e => ?_
  obtain ⟨b, cap, rfl, hc⟩ := e
  refine GoC.seq ?_
  refine GoC.region ?_
  refine GoL.y rfl (Y.assign rfl) ?_
  refine GoL.nil ?_
  refine GoE.then_normal ?_
  refine GoC.seq ?_
  refine GoC.region ?_
  refine GoL.y rfl (Y.move rfl) ?_
  refine GoL.y rfl (Y.move rfl) ?_
  refine GoL.y rfl (Y.move rfl) ?_
  refine GoL.y rfl (Y.move rfl) ?_
  refine GoL.y rfl (Y.lenRd Tryz.underlying168 rfl Rd.s) ?_
  refine GoL.y rfl (Y.slice3 i (i + 1) xs.length Tryz.underlying168 Tryz.sizeOf229 rfl rfl rfl rfl rfl rfl rfl (by omega) (by omega) hc) ?_
  refine GoL.nil ?_
  refine GoE.then_normal ?_
  refine GoC.seq ?_
  refine GoC.seq ?_
  refine GoC.region ?_
  refine GoL.y rfl (Y.move rfl) ?_
  refine GoL.y rfl (Y.move rfl) ?_
  refine GoL.y rfl (Y.eql rfl rfl) ?_
  refine GoL.nil ?_
  refine GoE.then_normal ?_
  refine GoC.condD rfl (fun h16 => ?_) (fun h16 => ?_)
  · exact absurd h16 (by omega)
  · refine GoC.skip ?_
    refine GoE.then_normal ?_
    refine GoC.seq ?_
    refine GoC.region ?_
    refine GoL.y rfl (Y.move rfl) ?_
    refine GoL.y rfl (Y.lenRd Tryz.underlying168 rfl Rd.s) ?_
    refine GoL.y rfl (Y.assign rfl) ?_
    refine GoL.nil ?_
    refine GoE.then_normal ?_
    refine GoC.seq ?_
    refine GoC.draw [] [1, 1, 1, 1, 1, 1, 3, 1] rfl (by kernel_rfl) ?_
    refine GoK.s rfl (Y.move rfl) ?_
    refine GoK.s rfl (Y.move rfl) ?_
    refine GoK.s rfl (Y.slice0X i Tryz.underlying168 Tryz.sizeOf229 rfl rfl rfl (by omega)) ?_
    refine GoK.s rfl (Y.move rfl) ?_
    refine GoK.s rfl (Y.move rfl) ?_
    refine GoK.s rfl (Y.sliceX0 (i + 1) Tryz.underlying168 Tryz.sizeOf229 rfl rfl rfl (by omega)) ?_
    refine GoK.d3 rfl (Does.appendDel rfl Tryz.underlying168 Tryz.underlying168 Tryz.typeInfo229 rfl rfl rfl .auto (by omega) (by omega) (wtrE_one _) h0) ?_
    rintro _ _ ⟨rfl, rfl⟩
    refine GoK.s rfl (Y.assign rfl) ?_
    refine GoK.nil ?_
    refine GoE.then_normal ?_
    refine GoC.seq ?_
    refine GoC.region ?_
    refine GoL.y rfl (Y.move rfl) ?_
    refine GoL.y rfl (Y.move rfl) ?_
    refine GoL.y rfl (Y.lenSlice Tryz.underlying168 rfl) ?_
    refine GoL.y rfl (Y.move rfl) ?_
    refine GoL.y rfl (Y.sliceX (i + (xs.length - (i + 1))) xs.length Tryz.underlying168 Tryz.sizeOf229 rfl rfl rfl rfl rfl (by omega) hc) ?_
    refine GoL.does rfl (Does.clearSp (xs := xs.take i ++ xs.drop (i + 1)) Tryz.underlying168 Tryz.zeroValue229 rfl rfl rfl rfl (by rw [List.length_append, List.length_take, List.length_drop]; omega) (by omega) .auto) ?_
    rintro _ _ ⟨rfl, rfl⟩
    refine GoL.nil ?_
    refine GoE.then_normal ?_
    refine GoC.seq ?_
    refine GoC.region ?_
    refine GoL.y rfl (Y.move rfl) ?_
    refine GoL.y rfl (Y.assign rfl) ?_
    refine GoL.nil ?_
    refine GoE.then_normal ?_
    refine GoC.ret ?_
    rw [erase_td]
    refine GoE.ret1 rfl rfl fun w s => ⟨_, ?_, trivial, finE .auto s⟩
    rfl

set_option maxRecDepth 20000 in
theorem DeleteP {W : World} {v : Value} {xs : List Ptr} {i : Nat} (hi : i < xs.length) (hl : xs.length ≤ 1000000000) : Fn Tryz.prog W 238 [v, .int .i64 (i : Int), .int .i64 ((i + 1 : Nat) : Int)] [sl putE 2 v xs] Value (fun u => u) (fun _ => True) (fun u => [sl putE 2 u (xs.eraseIdx i)]) := by
  refine Fn.intro (N := 33) Tryz.func238 rfl Tryz.ntmps238 rfl fun F => ?_
  show GoC _ _ _ _ _ _ [sl putE 2 v xs, F]
  have h0 : xs ≠ [] := by intro e; rw [e] at hi; simp at hi
  refine GoC.know (fun w s => s.fact .auto (sl_shape h0)) fun e => ?_
  obtain ⟨b, cap, rfl, hc⟩ := e
  refine GoC.seq ?_
  refine GoC.region ?_
  refine GoL.y rfl (Y.assign rfl) ?_
  refine GoL.nil ?_
  refine GoE.then_normal ?_
  refine GoC.seq ?_
  refine GoC.region ?_
  refine GoL.y rfl (Y.move rfl) ?_
  refine GoL.y rfl (Y.move rfl) ?_
  refine GoL.y rfl (Y.move rfl) ?_
  refine GoL.y rfl (Y.move rfl) ?_
  refine GoL.y rfl (Y.lenRd Tryz.underlying179 rfl Rd.s) ?_
  refine GoL.y rfl (Y.slice3 i (i + 1) xs.length Tryz.underlying179 Tryz.sizeOf301 rfl rfl rfl rfl rfl rfl rfl (by omega) (by omega) hc) ?_
  refine GoL.nil ?_
  refine GoE.then_normal ?_
  refine GoC.seq ?_
  refine GoC.seq ?_
  refine GoC.region ?_
  refine GoL.y rfl (Y.move rfl) ?_
  refine GoL.y rfl (Y.move rfl) ?_
  refine GoL.y rfl (Y.eql rfl rfl) ?_
  refine GoL.nil ?_
  refine GoE.then_normal ?_
  refine GoC.condD rfl (fun h16 => ?_) (fun h16 => ?_)
  · exact absurd h16 (by omega)
  · refine GoC.skip ?_
    refine GoE.then_normal ?_
    refine GoC.seq ?_
    refine GoC.region ?_
    refine GoL.y rfl (Y.move rfl) ?_
    refine GoL.y rfl (Y.lenRd Tryz.underlying179 rfl Rd.s) ?_
    refine GoL.y rfl (Y.assign rfl) ?_
    refine GoL.nil ?_
    refine GoE.then_normal ?_
    refine GoC.seq ?_
    refine GoC.draw [] [1, 1, 1, 1, 1, 1, 3, 1] rfl (by kernel_rfl) ?_
    refine GoK.s rfl (Y.move rfl) ?_
    refine GoK.s rfl (Y.move rfl) ?_
    refine GoK.s rfl (Y.slice0X i Tryz.underlying179 Tryz.sizeOf301 rfl rfl rfl (by omega)) ?_
    refine GoK.s rfl (Y.move rfl) ?_
    refine GoK.s rfl (Y.move rfl) ?_
    refine GoK.s rfl (Y.sliceX0 (i + 1) Tryz.underlying179 Tryz.sizeOf301 rfl rfl rfl (by omega)) ?_
    refine GoK.d3 rfl (Does.appendDel rfl Tryz.underlying179 Tryz.underlying179 Tryz.typeInfo301 rfl rfl rfl .auto (by omega) (by omega) (putE_one _) h0) ?_
    rintro _ _ ⟨rfl, rfl⟩
    refine GoK.s rfl (Y.assign rfl) ?_
    refine GoK.nil ?_
    refine GoE.then_normal ?_
    refine GoC.seq ?_
    refine GoC.region ?_
    refine GoL.y rfl (Y.move rfl) ?_
    refine GoL.y rfl (Y.move rfl) ?_
    refine GoL.y rfl (Y.lenSlice Tryz.underlying179 rfl) ?_
    refine GoL.y rfl (Y.move rfl) ?_
    refine GoL.y rfl (Y.sliceX (i + (xs.length - (i + 1))) xs.length Tryz.underlying179 Tryz.sizeOf301 rfl rfl rfl rfl rfl (by omega) hc) ?_
    refine GoL.does rfl (Does.clearSp (xs := xs.take i ++ xs.drop (i + 1)) Tryz.underlying179 Tryz.zeroValue301 rfl rfl rfl rfl (by rw [List.length_append, List.length_take, List.length_drop]; omega) (by omega) .auto) ?_
    rintro _ _ ⟨rfl, rfl⟩
    refine GoL.nil ?_
    refine GoE.then_normal ?_
    refine GoC.seq ?_
    refine GoC.region ?_
    refine GoL.y rfl (Y.move rfl) ?_
    refine GoL.y rfl (Y.assign rfl) ?_
    refine GoL.nil ?_
    refine GoE.then_normal ?_
    refine GoC.ret ?_
    rw [erase_td]
    refine GoE.ret1 rfl rfl fun w s => ⟨_, ?_, trivial, finE .auto s⟩
    rfl

set_option maxRecDepth 20000 in
theorem DeleteI {W : World} {v : Value} {xs : List Int} {i : Nat} (hi : i < xs.length) (hl : xs.length ≤ 1000000000) : Fn Tryz.prog W 236 [v, .int .i64 (i : Int), .int .i64 ((i + 1 : Nat) : Int)] [sl intE 1 v xs] Value (fun u => u) (fun _ => True) (fun u => [sl intE 1 u (xs.eraseIdx i)]) := by
  refine Fn.intro (N := 33) Tryz.func236 rfl Tryz.ntmps236 rfl fun F => ?_
  show GoC _ _ _ _ _ _ [sl intE 1 v xs, F]
  have h0 : xs ≠ [] := by intro e; rw [e] at hi; simp at hi
  refine GoC.know (fun w s => s.fact .auto (sl_shape h0)) fun e => ?_
  obtain ⟨b, cap, rfl, hc⟩ := e
  refine GoC.seq ?_
  refine GoC.region ?_
  refine GoL.y rfl (Y.assign rfl) ?_
  refine GoL.nil ?_
  refine GoE.then_normal ?_
  refine GoC.seq ?_
  refine GoC.region ?_
  refine GoL.y rfl (Y.move rfl) ?_
  refine GoL.y rfl (Y.move rfl) ?_
  refine GoL.y rfl (Y.move rfl) ?_
  refine GoL.y rfl (Y.move rfl) ?_
  refine GoL.y rfl (Y.lenRd Tryz.underlying23 rfl Rd.s) ?_
  refine GoL.y rfl (Y.slice3 i (i + 1) xs.length Tryz.underlying23 Tryz.sizeOf3 rfl rfl rfl rfl rfl rfl rfl (by omega) (by omega) hc) ?_
  refine GoL.nil ?_
  refine GoE.then_normal ?_
  refine GoC.seq ?_
  refine GoC.seq ?_
  refine GoC.region ?_
  refine GoL.y rfl (Y.move rfl) ?_
  refine GoL.y rfl (Y.move rfl) ?_
  refine GoL.y rfl (Y.eql rfl rfl) ?_
  refine GoL.nil ?_
  refine GoE.then_normal ?_
  refine GoC.condD rfl (fun h16 => ?_) (fun h16 => ?_)
  · exact absurd h16 (by omega)
  · refine GoC.skip ?_
    refine GoE.then_normal ?_
    refine GoC.seq ?_
    refine GoC.region ?_
    refine GoL.y rfl (Y.move rfl) ?_
    refine GoL.y rfl (Y.lenRd Tryz.underlying23 rfl Rd.s) ?_
    refine GoL.y rfl (Y.assign rfl) ?_
    refine GoL.nil ?_
    refine GoE.then_normal ?_
    refine GoC.seq ?_
    refine GoC.draw [] [1, 1, 1, 1, 1, 1, 3, 1] rfl (by kernel_rfl) ?_
    refine GoK.s rfl (Y.move rfl) ?_
    refine GoK.s rfl (Y.move rfl) ?_
    refine GoK.s rfl (Y.slice0X i Tryz.underlying23 Tryz.sizeOf3 rfl rfl rfl (by omega)) ?_
    refine GoK.s rfl (Y.move rfl) ?_
    refine GoK.s rfl (Y.move rfl) ?_
    refine GoK.s rfl (Y.sliceX0 (i + 1) Tryz.underlying23 Tryz.sizeOf3 rfl rfl rfl (by omega)) ?_
    refine GoK.d3 rfl (Does.appendDel rfl Tryz.underlying23 Tryz.underlying23 Tryz.typeInfo3 rfl rfl rfl .auto (by omega) (by omega) (intE_one _) h0) ?_
    rintro _ _ ⟨rfl, rfl⟩
    refine GoK.s rfl (Y.assign rfl) ?_
    refine GoK.nil ?_
    refine GoE.then_normal ?_
    refine GoC.seq ?_
    refine GoC.region ?_
    refine GoL.y rfl (Y.move rfl) ?_
    refine GoL.y rfl (Y.move rfl) ?_
    refine GoL.y rfl (Y.lenSlice Tryz.underlying23 rfl) ?_
    refine GoL.y rfl (Y.move rfl) ?_
    refine GoL.y rfl (Y.sliceX (i + (xs.length - (i + 1))) xs.length Tryz.underlying23 Tryz.sizeOf3 rfl rfl rfl rfl rfl (by omega) hc) ?_
    refine GoL.does rfl (Does.clearSp (xs := xs.take i ++ xs.drop (i + 1)) Tryz.underlying23 Tryz.zeroValue3 rfl rfl rfl rfl (by rw [List.length_append, List.length_take, List.length_drop]; omega) (by omega) .auto) ?_
    rintro _ _ ⟨rfl, rfl⟩
    refine GoL.nil ?_
    refine GoE.then_normal ?_
    refine GoC.seq ?_
    refine GoC.region ?_
    refine GoL.y rfl (Y.move rfl) ?_
    refine GoL.y rfl (Y.assign rfl) ?_
    refine GoL.nil ?_
    refine GoE.then_normal ?_
    refine GoC.ret ?_
    rw [erase_td]
    refine GoE.ret1 rfl rfl fun w s => ⟨_, ?_, trivial, finE .auto s⟩
    rfl

set_option maxRecDepth 20000 in
theorem DeleteW {W : World} {v : Value} {xs : List Int} {i : Nat} (hi : i < xs.length) (hl : xs.length ≤ 1000000000) : Fn Tryz.prog W 237 [v, .int .i64 (i : Int), .int .i64 ((i + 1 : Nat) : Int)] [sl wrdE 1 v xs] Value (fun u => u) (fun _ => True) (fun u => [sl wrdE 1 u (xs.eraseIdx i)]) := by
  refine Fn.intro (N := 33) Tryz.func237 rfl Tryz.ntmps237 rfl fun F => ?_
  show GoC _ _ _ _ _ _ [sl wrdE 1 v xs, F]
  have h0 : xs ≠ [] := by intro e; rw [e] at hi; simp at hi
  refine GoC.know (fun w s => s.fact .auto (sl_shape h0)) fun e => ?_
  obtain ⟨b, cap, rfl, hc⟩ := e
  refine GoC.seq ?_
  refine GoC.region ?_
  refine GoL.y rfl (Y.assign rfl) ?_
  refine GoL.nil ?_
  refine GoE.then_normal ?_
  refine GoC.seq ?_
  refine GoC.region ?_
  refine GoL.y rfl (Y.move rfl) ?_
  refine GoL.y rfl (Y.move rfl) ?_
  refine GoL.y rfl (Y.move rfl) ?_
  refine GoL.y rfl (Y.move rfl) ?_
  refine GoL.y rfl (Y.lenRd Tryz.underlying51 rfl Rd.s) ?_
  refine GoL.y rfl (Y.slice3 i (i + 1) xs.length Tryz.underlying51 Tryz.sizeOf43 rfl rfl rfl rfl rfl rfl rfl (by omega) (by omega) hc) ?_
  refine GoL.nil ?_
  refine GoE.then_normal ?_
  refine GoC.seq ?_
  refine GoC.seq ?_
  refine GoC.region ?_
  refine GoL.y rfl (Y.move rfl) ?_
  refine GoL.y rfl (Y.move rfl) ?_
  refine GoL.y rfl (Y.eql rfl rfl) ?_
  refine GoL.nil ?_
  refine GoE.then_normal ?_
  refine GoC.condD rfl (fun h16 => ?_) (fun h16 => ?_)
  · exact absurd h16 (by omega)
  · refine GoC.skip ?_
    refine GoE.then_normal ?_
    refine GoC.seq ?_
    refine GoC.region ?_
    refine GoL.y rfl (Y.move rfl) ?_
    refine GoL.y rfl (Y.lenRd Tryz.underlying51 rfl Rd.s) ?_
    refine GoL.y rfl (Y.assign rfl) ?_
    refine GoL.nil ?_
    refine GoE.then_normal ?_
    refine GoC.seq ?_
    refine GoC.draw [] [1, 1, 1, 1, 1, 1, 3, 1] rfl (by kernel_rfl) ?_
    refine GoK.s rfl (Y.move rfl) ?_
    refine GoK.s rfl (Y.move rfl) ?_
    refine GoK.s rfl (Y.slice0X i Tryz.underlying51 Tryz.sizeOf43 rfl rfl rfl (by omega)) ?_
    refine GoK.s rfl (Y.move rfl) ?_
    refine GoK.s rfl (Y.move rfl) ?_
    refine GoK.s rfl (Y.sliceX0 (i + 1) Tryz.underlying51 Tryz.sizeOf43 rfl rfl rfl (by omega)) ?_
    refine GoK.d3 rfl (Does.appendDel rfl Tryz.underlying51 Tryz.underlying51 Tryz.typeInfo43 rfl rfl rfl .auto (by omega) (by omega) (wrdE_one _) h0) ?_
    rintro _ _ ⟨rfl, rfl⟩
    refine GoK.s rfl (Y.assign rfl) ?_
    refine GoK.nil ?_
    refine GoE.then_normal ?_
    refine GoC.seq ?_
    refine GoC.region ?_
    refine GoL.y rfl (Y.move rfl) ?_
    refine GoL.y rfl (Y.move rfl) ?_
    refine GoL.y rfl (Y.lenSlice Tryz.underlying51 rfl) ?_
    refine GoL.y rfl (Y.move rfl) ?_
    refine GoL.y rfl (Y.sliceX (i + (xs.length - (i + 1))) xs.length Tryz.underlying51 Tryz.sizeOf43 rfl rfl rfl rfl rfl (by omega) hc) ?_
    refine GoL.does rfl (Does.clearSp (xs := xs.take i ++ xs.drop (i + 1)) Tryz.underlying51 Tryz.zeroValue43 rfl rfl rfl rfl (by rw [List.length_append, List.length_take, List.length_drop]; omega) (by omega) .auto) ?_
    rintro _ _ ⟨rfl, rfl⟩
    refine GoL.nil ?_
    refine GoE.then_normal ?_
    refine GoC.seq ?_
    refine GoC.region ?_
    refine GoL.y rfl (Y.move rfl) ?_
    refine GoL.y rfl (Y.assign rfl) ?_
    refine GoL.nil ?_
    refine GoE.then_normal ?_
    refine GoC.ret ?_
    rw [erase_td]
    refine GoE.ret1 rfl rfl fun w s => ⟨_, ?_, trivial, finE .auto s⟩
    rfl

set_option maxRecDepth 20000 in
theorem IndexFuncG {W : World} {A : HProp} {v : Value} {xs : List Wtr} {p : Wtr → Bool} {g : Nat} {c : Value} (hr : Rd W [A] wtrE 2 v xs) (hl : xs.length ≤ 1000000000) (hg : ∀ args w, (callFunc g args).run Tryz.prog w = .ok (.enter g args) w) (hf : ∀ x ∈ xs, Fn Tryz.prog W g [.agg (wtrE x).toArray, c] [A] Unit (fun _ => .bool (p x)) (fun _ => True) (fun _ => [A])) : Fn Tryz.prog W 245 [v, .func (.func g) #[] #[c]] [A] Unit (fun _ => .int .i64 (idxP p xs 0)) (fun _ => True) (fun _ => [A]) := by
  refine Fn.intro (N := 19) Tryz.func245 rfl Tryz.ntmps245 rfl fun F => ?_
  haveI hRI : ∀ (H : List HProp) [HasH H A], ReadsC W H v wtrE 2 xs := fun H h => ⟨hr.at h.has⟩
  show GoC _ _ _ _ _ _ [A, F]
  refine GoC.seq ?_
  refine GoC.region ?_
  refine GoL.y rfl (Y.assign rfl) ?_
  refine GoL.nil ?_
  refine GoE.then_normal ?_
  refine GoC.seq ?_
  refine GoC.seq ?_
  refine GoC.region ?_
  refine GoL.y rfl (Y.move rfl) ?_
  refine GoL.y rfl (Y.lenRd Tryz.underlying168 rfl Rd.s) ?_
  refine GoL.y rfl (Y.move rfl) ?_
  refine GoL.nil ?_
  refine GoE.then_normal ?_
  refine GoC.block ?_
  refine GoC.loopK (X := Nat) [4, 5, 8, 9, 10, 11, 12, 13, 14, 15, 16, 17, 18] (fun k => xs.length - k) (fun k => k ≤ xs.length ∧ idxP p xs 0 = idxP p (xs.drop k) k) (fun k => [(8, some (.int .i64 (k : Int)))]) (fun k => [A, F]) 0 ?_ ?_ ?_ ?_
  · exact ⟨Nat.zero_le _, by simp⟩
  · exact ⟨rfl, trivial⟩
  · exact fun w s => Ent.kept .auto w s
  rintro k ⟨hk, hn⟩
  refine GoC.seq ?_
  refine GoC.region ?_
  refine GoL.y rfl (Y.lss rfl rfl) ?_
  refine GoL.nil ?_
  refine GoE.then_normal ?_
  refine GoC.seq ?_
  refine GoC.condD rfl (fun h9 => ?_) (fun h9 => ?_)
  · refine GoC.skip ?_
    refine GoE.then_normal ?_
    refine GoC.seq ?_
    refine GoC.block ?_
    refine GoC.seq ?_
    refine GoC.region ?_
    refine GoL.y rfl (Y.move rfl) ?_
    refine GoL.y rfl (Y.assign rfl) ?_
    refine GoL.nil ?_
    refine GoE.then_normal ?_
    refine GoC.seq ?_
    refine GoC.region ?_
    refine GoL.y rfl (Y.move rfl) ?_
    refine GoL.y rfl (Y.move rfl) ?_
    refine GoL.y rfl (Y.move rfl) ?_
    obtain ⟨x, hx⟩ := at_some (show k < xs.length by omega)
    refine GoL.y rfl (Y.ixRd _ Tryz.underlying168 Tryz.sizeOf229 rfl rfl Rd.s rfl (by first | omega | decide)) ?_
    refine GoL.y rfl (Y.lda Tryz.isAgg229 rfl (Cells.rd Rd.s ‹_›) (by exact Tryz.sizeOf229)) ?_
    refine GoL.does rfl (Does.callvE rfl rfl hg rfl (hf x (List.mem_of_getElem? hx)) .auto) ?_
    rintro _ _ ⟨⟨⟩, -, rfl, rfl⟩
    refine GoL.nil ?_
    refine GoE.then_normal ?_
    refine GoC.cond rfl (fun h16 => ?_) (fun h16 => ?_)
    · refine GoC.seq ?_
      refine GoC.region ?_
      refine GoL.y rfl (Y.move rfl) ?_
      refine GoL.y rfl (Y.assign rfl) ?_
      refine GoL.nil ?_
      refine GoE.then_normal ?_
      refine GoC.ret ?_
      refine GoE.block_ret (GoE.then_ret (GoE.then_ret (GoE.block_ret (GoE.then_ret ?_))))
      refine GoE.ret1 rfl rfl fun w s => ⟨(), ?_, trivial, finE .auto s⟩
      rw [hn, idxP_hit hx h16]
    · refine GoC.skip ?_
      refine GoE.block_normal (GoE.then_normal ?_)
      refine GoC.region ?_
      refine GoL.y rfl (Y.inc rfl rfl (by omega)) ?_
      refine GoL.y rfl (Y.move rfl) ?_
      refine GoL.nil ?_
      refine GoE.againK (k + 1) .auto rfl ?_ ?_ ?_ ?_
      · first | omega | (dsimp only; omega)
      · exact ⟨by omega, hn.trans (idxP_miss hx h16)⟩
      · exact ⟨rfl, trivial⟩
      · exact fun w s => Ent.kept .auto w s
  · refine GoC.exit ?_
    refine GoE.then_exit (GoE.then_exit (GoE.block_here (GoE.then_normal ?_)))
    refine GoC.seq ?_
    refine GoC.region ?_
    refine GoL.y rfl (Y.assign rfl) ?_
    refine GoL.nil ?_
    refine GoE.then_normal ?_
    refine GoC.ret ?_
    refine GoE.ret1 rfl rfl fun w s => ⟨(), ?_, trivial, finE .auto s⟩
    rw [hn, idxP_end (by omega)]

set_option maxRecDepth 20000 in
theorem ContainsFuncG {W : World} {A : HProp} {v : Value} {xs : List Wtr} {p : Wtr → Bool} {g : Nat} {c : Value} (hr : Rd W [A] wtrE 2 v xs) (hl : xs.length ≤ 1000000000) (hg : ∀ args w, (callFunc g args).run Tryz.prog w = .ok (.enter g args) w) (hf : ∀ x ∈ xs, Fn Tryz.prog W g [.agg (wtrE x).toArray, c] [A] Unit (fun _ => .bool (p x)) (fun _ => True) (fun _ => [A])) : Fn Tryz.prog W 228 [v, .func (.func g) #[] #[c]] [A] Unit (fun _ => .bool (xs.any p)) (fun _ => True) (fun _ => [A]) := by
  refine Fn.intro (N := 9) Tryz.func228 rfl Tryz.ntmps228 rfl fun F => ?_
  show GoC _ _ _ _ _ _ [A, F]
  refine GoC.seq ?_
  refine GoC.region ?_
  refine GoL.y rfl (Y.assign rfl) ?_
  refine GoL.nil ?_
  refine GoE.then_normal ?_
  refine GoC.seq ?_
  refine GoC.region ?_
  refine GoL.y rfl (Y.move rfl) ?_
  refine GoL.y rfl (Y.move rfl) ?_
  refine GoL.does rfl (Does.callE rfl Tryz.call245 rfl (IndexFuncG hr hl hg hf) .auto) ?_
  rintro _ _ ⟨⟨⟩, -, rfl, rfl⟩
  refine GoL.y rfl (Y.geq rfl rfl) ?_
  refine GoL.y rfl (Y.assign rfl) ?_
  refine GoL.nil ?_
  refine GoE.then_normal ?_
  refine GoC.ret ?_
  refine GoE.ret1 rfl rfl fun w s => ⟨(), ?_, trivial, finE .auto s⟩
  rw [← idxP_any xs 0]

set_option maxRecDepth 20000 in
theorem IndexFuncQ {W : World} {A : HProp} {v : Value} {xs : List Rqs} {p : Rqs → Bool} {g : Nat} {c : Value} (hr : Rd W [A] rqsE 4 v xs) (hl : xs.length ≤ 1000000000) (hg : ∀ args w, (callFunc g args).run Tryz.prog w = .ok (.enter g args) w) (hf : ∀ x ∈ xs, Fn Tryz.prog W g [.agg (rqsE x).toArray, c] [A] Unit (fun _ => .bool (p x)) (fun _ => True) (fun _ => [A])) : Fn Tryz.prog W 232 [v, .func (.func g) #[] #[c]] [A] Unit (fun _ => .int .i64 (idxP p xs 0)) (fun _ => True) (fun _ => [A]) := by
  refine Fn.intro (N := 19) Tryz.func232 rfl Tryz.ntmps232 rfl fun F => ?_
  haveI hRI : ∀ (H : List HProp) [HasH H A], ReadsC W H v rqsE 4 xs := fun H h => ⟨hr.at h.has⟩
  show GoC _ _ _ _ _ _ [A, F]
  refine GoC.seq ?_
  refine GoC.region ?_
  refine GoL.y rfl (Y.assign rfl) ?_
  refine GoL.nil ?_
  refine GoE.then_normal ?_
  refine GoC.seq ?_
  refine GoC.seq ?_
  refine GoC.region ?_
  refine GoL.y rfl (Y.move rfl) ?_
  refine GoL.y rfl (Y.lenRd Tryz.underlying173 rfl Rd.s) ?_
  refine GoL.y rfl (Y.move rfl) ?_
  refine GoL.nil ?_
  refine GoE.then_normal ?_
  refine GoC.block ?_
  refine GoC.loopK (X := Nat) [4, 5, 8, 9, 10, 11, 12, 13, 14, 15, 16, 17, 18] (fun k => xs.length - k) (fun k => k ≤ xs.length ∧ idxP p xs 0 = idxP p (xs.drop k) k) (fun k => [(8, some (.int .i64 (k : Int)))]) (fun k => [A, F]) 0 ?_ ?_ ?_ ?_
  · exact ⟨Nat.zero_le _, by simp⟩
  · exact ⟨rfl, trivial⟩
  · exact fun w s => Ent.kept .auto w s
  rintro k ⟨hk, hn⟩
  refine GoC.seq ?_
  refine GoC.region ?_
  refine GoL.y rfl (Y.lss rfl rfl) ?_
  refine GoL.nil ?_
  refine GoE.then_normal ?_
  refine GoC.seq ?_
  refine GoC.condD rfl (fun h9 => ?_) (fun h9 => ?_)
  · refine GoC.skip ?_
    refine GoE.then_normal ?_
    refine GoC.seq ?_
    refine GoC.block ?_
    refine GoC.seq ?_
    refine GoC.region ?_
    refine GoL.y rfl (Y.move rfl) ?_
    refine GoL.y rfl (Y.assign rfl) ?_
    refine GoL.nil ?_
    refine GoE.then_normal ?_
    refine GoC.seq ?_
    refine GoC.region ?_
    refine GoL.y rfl (Y.move rfl) ?_
    refine GoL.y rfl (Y.move rfl) ?_
    refine GoL.y rfl (Y.move rfl) ?_
    obtain ⟨x, hx⟩ := at_some (show k < xs.length by omega)
    refine GoL.y rfl (Y.ixRd _ Tryz.underlying173 Tryz.sizeOf142 rfl rfl Rd.s rfl (by first | omega | decide)) ?_
    refine GoL.y rfl (Y.lda Tryz.isAgg142 rfl (Cells.rd Rd.s ‹_›) (by exact Tryz.sizeOf142)) ?_
    refine GoL.does rfl (Does.callvE rfl rfl hg rfl (hf x (List.mem_of_getElem? hx)) .auto) ?_
    rintro _ _ ⟨⟨⟩, -, rfl, rfl⟩
    refine GoL.nil ?_
    refine GoE.then_normal ?_
    refine GoC.cond rfl (fun h16 => ?_) (fun h16 => ?_)
    · refine GoC.seq ?_
      refine GoC.region ?_
      refine GoL.y rfl (Y.move rfl) ?_
      refine GoL.y rfl (Y.assign rfl) ?_
      refine GoL.nil ?_
      refine GoE.then_normal ?_
      refine GoC.ret ?_
      refine GoE.block_ret (GoE.then_ret (GoE.then_ret (GoE.block_ret (GoE.then_ret ?_))))
      refine GoE.ret1 rfl rfl fun w s => ⟨(), ?_, trivial, finE .auto s⟩
      rw [hn, idxP_hit hx h16]
    · refine GoC.skip ?_
      refine GoE.block_normal (GoE.then_normal ?_)
      refine GoC.region ?_
      refine GoL.y rfl (Y.inc rfl rfl (by omega)) ?_
      refine GoL.y rfl (Y.move rfl) ?_
      refine GoL.nil ?_
      refine GoE.againK (k + 1) .auto rfl ?_ ?_ ?_ ?_
      · first | omega | (dsimp only; omega)
      · exact ⟨by omega, hn.trans (idxP_miss hx h16)⟩
      · exact ⟨rfl, trivial⟩
      · exact fun w s => Ent.kept .auto w s
  · refine GoC.exit ?_
    refine GoE.then_exit (GoE.then_exit (GoE.block_here (GoE.then_normal ?_)))
    refine GoC.seq ?_
    refine GoC.region ?_
    refine GoL.y rfl (Y.assign rfl) ?_
    refine GoL.nil ?_
    refine GoE.then_normal ?_
    refine GoC.ret ?_
    refine GoE.ret1 rfl rfl fun w s => ⟨(), ?_, trivial, finE .auto s⟩
    rw [hn, idxP_end (by omega)]

set_option maxRecDepth 20000 in
theorem ContainsFuncQ {W : World} {A : HProp} {v : Value} {xs : List Rqs} {p : Rqs → Bool} {g : Nat} {c : Value} (hr : Rd W [A] rqsE 4 v xs) (hl : xs.length ≤ 1000000000) (hg : ∀ args w, (callFunc g args).run Tryz.prog w = .ok (.enter g args) w) (hf : ∀ x ∈ xs, Fn Tryz.prog W g [.agg (rqsE x).toArray, c] [A] Unit (fun _ => .bool (p x)) (fun _ => True) (fun _ => [A])) : Fn Tryz.prog W 204 [v, .func (.func g) #[] #[c]] [A] Unit (fun _ => .bool (xs.any p)) (fun _ => True) (fun _ => [A]) := by
  refine Fn.intro (N := 9) Tryz.func204 rfl Tryz.ntmps204 rfl fun F => ?_
  show GoC _ _ _ _ _ _ [A, F]
  refine GoC.seq ?_
  refine GoC.region ?_
  refine GoL.y rfl (Y.assign rfl) ?_
  refine GoL.nil ?_
  refine GoE.then_normal ?_
  refine GoC.seq ?_
  refine GoC.region ?_
  refine GoL.y rfl (Y.move rfl) ?_
  refine GoL.y rfl (Y.move rfl) ?_
  refine GoL.does rfl (Does.callE rfl Tryz.call232 rfl (IndexFuncQ hr hl hg hf) .auto) ?_
  rintro _ _ ⟨⟨⟩, -, rfl, rfl⟩
  refine GoL.y rfl (Y.geq rfl rfl) ?_
  refine GoL.y rfl (Y.assign rfl) ?_
  refine GoL.nil ?_
  refine GoE.then_normal ?_
  refine GoC.ret ?_
  refine GoE.ret1 rfl rfl fun w s => ⟨(), ?_, trivial, finE .auto s⟩
  rw [← idxP_any xs 0]

set_option maxRecDepth 20000 in
theorem IndexFuncP {W : World} {A : HProp} {v : Value} {xs : List Ptr} {p : Ptr → Bool} {g : Nat} {c : Value} (hr : Rd W [A] putE 2 v xs) (hl : xs.length ≤ 1000000000) (hg : ∀ args w, (callFunc g args).run Tryz.prog w = .ok (.enter g args) w) (hf : ∀ x ∈ xs, Fn Tryz.prog W g [.agg (putE x).toArray, c] [A] Unit (fun _ => .bool (p x)) (fun _ => True) (fun _ => [A])) : Fn Tryz.prog W 247 [v, .func (.func g) #[] #[c]] [A] Unit (fun _ => .int .i64 (idxP p xs 0)) (fun _ => True) (fun _ => [A]) := by
  refine Fn.intro (N := 19) Tryz.func247 rfl Tryz.ntmps247 rfl fun F => ?_
  haveI hRI : ∀ (H : List HProp) [HasH H A], ReadsC W H v putE 2 xs := fun H h => ⟨hr.at h.has⟩
  show GoC _ _ _ _ _ _ [A, F]
  refine GoC.seq ?_
  refine GoC.region ?_
  refine GoL.y rfl (Y.assign rfl) ?_
  refine GoL.nil ?_
  refine GoE.then_normal ?_
  refine GoC.seq ?_
  refine GoC.seq ?_
  refine GoC.region ?_
  refine GoL.y rfl (Y.move rfl) ?_
  refine GoL.y rfl (Y.lenRd Tryz.underlying179 rfl Rd.s) ?_
  refine GoL.y rfl (Y.move rfl) ?_
  refine GoL.nil ?_
  refine GoE.then_normal ?_
  refine GoC.block ?_
  refine GoC.loopK (X := Nat) [4, 5, 8, 9, 10, 11, 12, 13, 14, 15, 16, 17, 18] (fun k => xs.length - k) (fun k => k ≤ xs.length ∧ idxP p xs 0 = idxP p (xs.drop k) k) (fun k => [(8, some (.int .i64 (k : Int)))]) (fun k => [A, F]) 0 ?_ ?_ ?_ ?_
  · exact ⟨Nat.zero_le _, by simp⟩
  · exact ⟨rfl, trivial⟩
  · exact fun w s => Ent.kept .auto w s
  rintro k ⟨hk, hn⟩
  refine GoC.seq ?_
  refine GoC.region ?_
  refine GoL.y rfl (Y.lss rfl rfl) ?_
  refine GoL.nil ?_
  refine GoE.then_normal ?_
  refine GoC.seq ?_
  refine GoC.condD rfl (fun h9 => ?_) (fun h9 => ?_)
  · refine GoC.skip ?_
    refine GoE.then_normal ?_
    refine GoC.seq ?_
    refine GoC.block ?_
    refine GoC.seq ?_
    refine GoC.region ?_
    refine GoL.y rfl (Y.move rfl) ?_
    refine GoL.y rfl (Y.assign rfl) ?_
    refine GoL.nil ?_
    refine GoE.then_normal ?_
    refine GoC.seq ?_
    refine GoC.region ?_
    refine GoL.y rfl (Y.move rfl) ?_
    refine GoL.y rfl (Y.move rfl) ?_
    refine GoL.y rfl (Y.move rfl) ?_
    obtain ⟨x, hx⟩ := at_some (show k < xs.length by omega)
    refine GoL.y rfl (Y.ixRd _ Tryz.underlying179 Tryz.sizeOf301 rfl rfl Rd.s rfl (by first | omega | decide)) ?_
    refine GoL.y rfl (Y.lda Tryz.isAgg301 rfl (Cells.rd Rd.s ‹_›) (by exact Tryz.sizeOf301)) ?_
    refine GoL.does rfl (Does.callvE rfl rfl hg rfl (hf x (List.mem_of_getElem? hx)) .auto) ?_
    rintro _ _ ⟨⟨⟩, -, rfl, rfl⟩
    refine GoL.nil ?_
    refine GoE.then_normal ?_
    refine GoC.cond rfl (fun h16 => ?_) (fun h16 => ?_)
    · refine GoC.seq ?_
      refine GoC.region ?_
      refine GoL.y rfl (Y.move rfl) ?_
      refine GoL.y rfl (Y.assign rfl) ?_
      refine GoL.nil ?_
      refine GoE.then_normal ?_
      refine GoC.ret ?_
      refine GoE.block_ret (GoE.then_ret (GoE.then_ret (GoE.block_ret (GoE.then_ret ?_))))
      refine GoE.ret1 rfl rfl fun w s => ⟨(), ?_, trivial, finE .auto s⟩
      rw [hn, idxP_hit hx h16]
    · refine GoC.skip ?_
      refine GoE.block_normal (GoE.then_normal ?_)
      refine GoC.region ?_
      refine GoL.y rfl (Y.inc rfl rfl (by omega)) ?_
      refine GoL.y rfl (Y.move rfl) ?_
      refine GoL.nil ?_
      refine GoE.againK (k + 1) .auto rfl ?_ ?_ ?_ ?_
      · first | omega | (dsimp only; omega)
      · exact ⟨by omega, hn.trans (idxP_miss hx h16)⟩
      · exact ⟨rfl, trivial⟩
      · exact fun w s => Ent.kept .auto w s
  · refine GoC.exit ?_
    refine GoE.then_exit (GoE.then_exit (GoE.block_here (GoE.then_normal ?_)))
    refine GoC.seq ?_
    refine GoC.region ?_
    refine GoL.y rfl (Y.assign rfl) ?_
    refine GoL.nil ?_
    refine GoE.then_normal ?_
    refine GoC.ret ?_
    refine GoE.ret1 rfl rfl fun w s => ⟨(), ?_, trivial, finE .auto s⟩
    rw [hn, idxP_end (by omega)]

set_option maxRecDepth 20000 in
theorem ContainsFuncP {W : World} {A : HProp} {v : Value} {xs : List Ptr} {p : Ptr → Bool} {g : Nat} {c : Value} (hr : Rd W [A] putE 2 v xs) (hl : xs.length ≤ 1000000000) (hg : ∀ args w, (callFunc g args).run Tryz.prog w = .ok (.enter g args) w) (hf : ∀ x ∈ xs, Fn Tryz.prog W g [.agg (putE x).toArray, c] [A] Unit (fun _ => .bool (p x)) (fun _ => True) (fun _ => [A])) : Fn Tryz.prog W 234 [v, .func (.func g) #[] #[c]] [A] Unit (fun _ => .bool (xs.any p)) (fun _ => True) (fun _ => [A]) := by
  refine Fn.intro (N := 9) Tryz.func234 rfl Tryz.ntmps234 rfl fun F => ?_
  show GoC _ _ _ _ _ _ [A, F]
  refine GoC.seq ?_
  refine GoC.region ?_
  refine GoL.y rfl (Y.assign rfl) ?_
  refine GoL.nil ?_
  refine GoE.then_normal ?_
  refine GoC.seq ?_
  refine GoC.region ?_
  refine GoL.y rfl (Y.move rfl) ?_
  refine GoL.y rfl (Y.move rfl) ?_
  refine GoL.does rfl (Does.callE rfl Tryz.call247 rfl (IndexFuncP hr hl hg hf) .auto) ?_
  rintro _ _ ⟨⟨⟩, -, rfl, rfl⟩
  refine GoL.y rfl (Y.geq rfl rfl) ?_
  refine GoL.y rfl (Y.assign rfl) ?_
  refine GoL.nil ?_
  refine GoE.then_normal ?_
  refine GoC.ret ?_
  refine GoE.ret1 rfl rfl fun w s => ⟨(), ?_, trivial, finE .auto s⟩
  rw [← idxP_any xs 0]

set_option maxRecDepth 20000 in
theorem IndexFuncM {W : World} {A : HProp} {v : Value} {xs : List (Value × Mtx)} {p : (Value × Mtx) → Bool} {g : Nat} {c : Value} (hr : Rd W [A] mtxE 3 v xs) (hl : xs.length ≤ 1000000000) (hg : ∀ args w, (callFunc g args).run Tryz.prog w = .ok (.enter g args) w) (hf : ∀ x ∈ xs, Fn Tryz.prog W g [.agg (mtxE x).toArray, c] [A] Unit (fun _ => .bool (p x)) (fun _ => True) (fun _ => [A])) : Fn Tryz.prog W 227 [v, .func (.func g) #[] #[c]] [A] Unit (fun _ => .int .i64 (idxP p xs 0)) (fun _ => True) (fun _ => [A]) := by
  refine Fn.intro (N := 19) Tryz.func227 rfl Tryz.ntmps227 rfl fun F => ?_
  haveI hRI : ∀ (H : List HProp) [HasH H A], ReadsC W H v mtxE 3 xs := fun H h => ⟨hr.at h.has⟩
  show GoC _ _ _ _ _ _ [A, F]
  refine GoC.seq ?_
  refine GoC.region ?_
  refine GoL.y rfl (Y.assign rfl) ?_
  refine GoL.nil ?_
  refine GoE.then_normal ?_
  refine GoC.seq ?_
  refine GoC.seq ?_
  refine GoC.region ?_
  refine GoL.y rfl (Y.move rfl) ?_
  refine GoL.y rfl (Y.lenRd Tryz.underlying162 rfl Rd.s) ?_
  refine GoL.y rfl (Y.move rfl) ?_
  refine GoL.nil ?_
  refine GoE.then_normal ?_
  refine GoC.block ?_
  refine GoC.loopK (X := Nat) [4, 5, 8, 9, 10, 11, 12, 13, 14, 15, 16, 17, 18] (fun k => xs.length - k) (fun k => k ≤ xs.length ∧ idxP p xs 0 = idxP p (xs.drop k) k) (fun k => [(8, some (.int .i64 (k : Int)))]) (fun k => [A, F]) 0 ?_ ?_ ?_ ?_
  · exact ⟨Nat.zero_le _, by simp⟩
  · exact ⟨rfl, trivial⟩
  · exact fun w s => Ent.kept .auto w s
  rintro k ⟨hk, hn⟩
  refine GoC.seq ?_
  refine GoC.region ?_
  refine GoL.y rfl (Y.lss rfl rfl) ?_
  refine GoL.nil ?_
  refine GoE.then_normal ?_
  refine GoC.seq ?_
  refine GoC.condD rfl (fun h9 => ?_) (fun h9 => ?_)
  · refine GoC.skip ?_
    refine GoE.then_normal ?_
    refine GoC.seq ?_
    refine GoC.block ?_
    refine GoC.seq ?_
    refine GoC.region ?_
    refine GoL.y rfl (Y.move rfl) ?_
    refine GoL.y rfl (Y.assign rfl) ?_
    refine GoL.nil ?_
    refine GoE.then_normal ?_
    refine GoC.seq ?_
    refine GoC.region ?_
    refine GoL.y rfl (Y.move rfl) ?_
    refine GoL.y rfl (Y.move rfl) ?_
    refine GoL.y rfl (Y.move rfl) ?_
    obtain ⟨x, hx⟩ := at_some (show k < xs.length by omega)
    refine GoL.y rfl (Y.ixRd _ Tryz.underlying162 Tryz.sizeOf233 rfl rfl Rd.s rfl (by first | omega | decide)) ?_
    refine GoL.y rfl (Y.lda Tryz.isAgg233 rfl (Cells.rd Rd.s ‹_›) (by exact Tryz.sizeOf233)) ?_
    refine GoL.does rfl (Does.callvE rfl rfl hg rfl (hf x (List.mem_of_getElem? hx)) .auto) ?_
    rintro _ _ ⟨⟨⟩, -, rfl, rfl⟩
    refine GoL.nil ?_
    refine GoE.then_normal ?_
    refine GoC.cond rfl (fun h16 => ?_) (fun h16 => ?_)
    · refine GoC.seq ?_
      refine GoC.region ?_
      refine GoL.y rfl (Y.move rfl) ?_
      refine GoL.y rfl (Y.assign rfl) ?_
      refine GoL.nil ?_
      refine GoE.then_normal ?_
      refine GoC.ret ?_
      refine GoE.block_ret (GoE.then_ret (GoE.then_ret (GoE.block_ret (GoE.then_ret ?_))))
      refine GoE.ret1 rfl rfl fun w s => ⟨(), ?_, trivial, finE .auto s⟩
      rw [hn, idxP_hit hx h16]
    · refine GoC.skip ?_
      refine GoE.block_normal (GoE.then_normal ?_)
      refine GoC.region ?_
      refine GoL.y rfl (Y.inc rfl rfl (by omega)) ?_
      refine GoL.y rfl (Y.move rfl) ?_
      refine GoL.nil ?_
      refine GoE.againK (k + 1) .auto rfl ?_ ?_ ?_ ?_
      · first | omega | (dsimp only; omega)
      · exact ⟨by omega, hn.trans (idxP_miss hx h16)⟩
      · exact ⟨rfl, trivial⟩
      · exact fun w s => Ent.kept .auto w s
  · refine GoC.exit ?_
    refine GoE.then_exit (GoE.then_exit (GoE.block_here (GoE.then_normal ?_)))
    refine GoC.seq ?_
    refine GoC.region ?_
    refine GoL.y rfl (Y.assign rfl) ?_
    refine GoL.nil ?_
    refine GoE.then_normal ?_
    refine GoC.ret ?_
    refine GoE.ret1 rfl rfl fun w s => ⟨(), ?_, trivial, finE .auto s⟩
    rw [hn, idxP_end (by omega)]

set_option maxRecDepth 20000 in
theorem ContainsFuncM {W : World} {A : HProp} {v : Value} {xs : List (Value × Mtx)} {p : (Value × Mtx) → Bool} {g : Nat} {c : Value} (hr : Rd W [A] mtxE 3 v xs) (hl : xs.length ≤ 1000000000) (hg : ∀ args w, (callFunc g args).run Tryz.prog w = .ok (.enter g args) w) (hf : ∀ x ∈ xs, Fn Tryz.prog W g [.agg (mtxE x).toArray, c] [A] Unit (fun _ => .bool (p x)) (fun _ => True) (fun _ => [A])) : Fn Tryz.prog W 197 [v, .func (.func g) #[] #[c]] [A] Unit (fun _ => .bool (xs.any p)) (fun _ => True) (fun _ => [A]) := by
  refine Fn.intro (N := 9) Tryz.func197 rfl Tryz.ntmps197 rfl fun F => ?_
  show GoC _ _ _ _ _ _ [A, F]
  refine GoC.seq ?_
  refine GoC.region ?_
  refine GoL.y rfl (Y.assign rfl) ?_
  refine GoL.nil ?_
  refine GoE.then_normal ?_
  refine GoC.seq ?_
  refine GoC.region ?_
  refine GoL.y rfl (Y.move rfl) ?_
  refine GoL.y rfl (Y.move rfl) ?_
  refine GoL.does rfl (Does.callE rfl Tryz.call227 rfl (IndexFuncM hr hl hg hf) .auto) ?_
  rintro _ _ ⟨⟨⟩, -, rfl, rfl⟩
  refine GoL.y rfl (Y.geq rfl rfl) ?_
  refine GoL.y rfl (Y.assign rfl) ?_
  refine GoL.nil ?_
  refine GoE.then_normal ?_
  refine GoC.ret ?_
  refine GoE.ret1 rfl rfl fun w s => ⟨(), ?_, trivial, finE .auto s⟩
  rw [← idxP_any xs 0]

set_option maxRecDepth 20000 in
theorem IndexFuncR {W : World} {A : HProp} {v : Value} {xs : List (Value × List Wtr)} {p : (Value × List Wtr) → Bool} {g : Nat} {c : Value} (hr : Rd W [A] fstE 1 v xs) (hl : xs.length ≤ 1000000000) (hg : ∀ args w, (callFunc g args).run Tryz.prog w = .ok (.enter g args) w) (hf : ∀ x ∈ xs, Fn Tryz.prog W g [.agg (fstE x).toArray, c] [A] Unit (fun _ => .bool (p x)) (fun _ => True) (fun _ => [A])) : Fn Tryz.prog W 230 [v, .func (.func g) #[] #[c]] [A] Unit (fun _ => .int .i64 (idxP p xs 0)) (fun _ => True) (fun _ => [A]) := by
  refine Fn.intro (N := 19) Tryz.func230 rfl Tryz.ntmps230 rfl fun F => ?_
  haveI hRI : ∀ (H : List HProp) [HasH H A], ReadsC W H v fstE 1 xs := fun H h => ⟨hr.at h.has⟩
  show GoC _ _ _ _ _ _ [A, F]
  refine GoC.seq ?_
  refine GoC.region ?_
  refine GoL.y rfl (Y.assign rfl) ?_
  refine GoL.nil ?_
  refine GoE.then_normal ?_
  refine GoC.seq ?_
  refine GoC.seq ?_
  refine GoC.region ?_
  refine GoL.y rfl (Y.move rfl) ?_
  refine GoL.y rfl (Y.lenRd Tryz.underlying164 rfl Rd.s) ?_
  refine GoL.y rfl (Y.move rfl) ?_
  refine GoL.nil ?_
  refine GoE.then_normal ?_
  refine GoC.block ?_
  refine GoC.loopK (X := Nat) [4, 5, 8, 9, 10, 11, 12, 13, 14, 15, 16, 17, 18] (fun k => xs.length - k) (fun k => k ≤ xs.length ∧ idxP p xs 0 = idxP p (xs.drop k) k) (fun k => [(8, some (.int .i64 (k : Int)))]) (fun k => [A, F]) 0 ?_ ?_ ?_ ?_
  · exact ⟨Nat.zero_le _, by simp⟩
  · exact ⟨rfl, trivial⟩
  · exact fun w s => Ent.kept .auto w s
  rintro k ⟨hk, hn⟩
  refine GoC.seq ?_
  refine GoC.region ?_
  refine GoL.y rfl (Y.lss rfl rfl) ?_
  refine GoL.nil ?_
  refine GoE.then_normal ?_
  refine GoC.seq ?_
  refine GoC.condD rfl (fun h9 => ?_) (fun h9 => ?_)
  · refine GoC.skip ?_
    refine GoE.then_normal ?_
    refine GoC.seq ?_
    refine GoC.block ?_
    refine GoC.seq ?_
    refine GoC.region ?_
    refine GoL.y rfl (Y.move rfl) ?_
    refine GoL.y rfl (Y.assign rfl) ?_
    refine GoL.nil ?_
    refine GoE.then_normal ?_
    refine GoC.seq ?_
    refine GoC.region ?_
    refine GoL.y rfl (Y.move rfl) ?_
    refine GoL.y rfl (Y.move rfl) ?_
    refine GoL.y rfl (Y.move rfl) ?_
    obtain ⟨x, hx⟩ := at_some (show k < xs.length by omega)
    refine GoL.y rfl (Y.ixRd _ Tryz.underlying164 Tryz.sizeOf170 rfl rfl Rd.s rfl (by first | omega | decide)) ?_
    refine GoL.y rfl (Y.lda Tryz.isAgg170 rfl (Cells.rd Rd.s ‹_›) (by exact Tryz.sizeOf170)) ?_
    refine GoL.does rfl (Does.callvE rfl rfl hg rfl (hf x (List.mem_of_getElem? hx)) .auto) ?_
    rintro _ _ ⟨⟨⟩, -, rfl, rfl⟩
    refine GoL.nil ?_
    refine GoE.then_normal ?_
    refine GoC.cond rfl (fun h16 => ?_) (fun h16 => ?_)
    · refine GoC.seq ?_
      refine GoC.region ?_
      refine GoL.y rfl (Y.move rfl) ?_
      refine GoL.y rfl (Y.assign rfl) ?_
      refine GoL.nil ?_
      refine GoE.then_normal ?_
      refine GoC.ret ?_
      refine GoE.block_ret (GoE.then_ret (GoE.then_ret (GoE.block_ret (GoE.then_ret ?_))))
      refine GoE.ret1 rfl rfl fun w s => ⟨(), ?_, trivial, finE .auto s⟩
      rw [hn, idxP_hit hx h16]
    · refine GoC.skip ?_
      refine GoE.block_normal (GoE.then_normal ?_)
      refine GoC.region ?_
      refine GoL.y rfl (Y.inc rfl rfl (by omega)) ?_
      refine GoL.y rfl (Y.move rfl) ?_
      refine GoL.nil ?_
      refine GoE.againK (k + 1) .auto rfl ?_ ?_ ?_ ?_
      · first | omega | (dsimp only; omega)
      · exact ⟨by omega, hn.trans (idxP_miss hx h16)⟩
      · exact ⟨rfl, trivial⟩
      · exact fun w s => Ent.kept .auto w s
  · refine GoC.exit ?_
    refine GoE.then_exit (GoE.then_exit (GoE.block_here (GoE.then_normal ?_)))
    refine GoC.seq ?_
    refine GoC.region ?_
    refine GoL.y rfl (Y.assign rfl) ?_
    refine GoL.nil ?_
    refine GoE.then_normal ?_
    refine GoC.ret ?_
    refine GoE.ret1 rfl rfl fun w s => ⟨(), ?_, trivial, finE .auto s⟩
    rw [hn, idxP_end (by omega)]

set_option maxRecDepth 20000 in
theorem ContainsFuncR {W : World} {A : HProp} {v : Value} {xs : List (Value × List Wtr)} {p : (Value × List Wtr) → Bool} {g : Nat} {c : Value} (hr : Rd W [A] fstE 1 v xs) (hl : xs.length ≤ 1000000000) (hg : ∀ args w, (callFunc g args).run Tryz.prog w = .ok (.enter g args) w) (hf : ∀ x ∈ xs, Fn Tryz.prog W g [.agg (fstE x).toArray, c] [A] Unit (fun _ => .bool (p x)) (fun _ => True) (fun _ => [A])) : Fn Tryz.prog W 200 [v, .func (.func g) #[] #[c]] [A] Unit (fun _ => .bool (xs.any p)) (fun _ => True) (fun _ => [A]) := by
  refine Fn.intro (N := 9) Tryz.func200 rfl Tryz.ntmps200 rfl fun F => ?_
  show GoC _ _ _ _ _ _ [A, F]
  refine GoC.seq ?_
  refine GoC.region ?_
  refine GoL.y rfl (Y.assign rfl) ?_
  refine GoL.nil ?_
  refine GoE.then_normal ?_
  refine GoC.seq ?_
  refine GoC.region ?_
  refine GoL.y rfl (Y.move rfl) ?_
  refine GoL.y rfl (Y.move rfl) ?_
  refine GoL.does rfl (Does.callE rfl Tryz.call230 rfl (IndexFuncR hr hl hg hf) .auto) ?_
  rintro _ _ ⟨⟨⟩, -, rfl, rfl⟩
  refine GoL.y rfl (Y.geq rfl rfl) ?_
  refine GoL.y rfl (Y.assign rfl) ?_
  refine GoL.nil ?_
  refine GoE.then_normal ?_
  refine GoC.ret ?_
  refine GoE.ret1 rfl rfl fun w s => ⟨(), ?_, trivial, finE .auto s⟩
  rw [← idxP_any xs 0]

set_option maxRecDepth 20000 in
theorem IndexFuncS {W : World} {A : HProp} {v : Value} {xs : List (Value × Smp)} {p : (Value × Smp) → Bool} {g : Nat} {c : Value} (hr : Rd W [A] smpE 2 v xs) (hl : xs.length ≤ 1000000000) (hg : ∀ args w, (callFunc g args).run Tryz.prog w = .ok (.enter g args) w) (hf : ∀ x ∈ xs, Fn Tryz.prog W g [.agg (smpE x).toArray, c] [A] Unit (fun _ => .bool (p x)) (fun _ => True) (fun _ => [A])) : Fn Tryz.prog W 231 [v, .func (.func g) #[] #[c]] [A] Unit (fun _ => .int .i64 (idxP p xs 0)) (fun _ => True) (fun _ => [A]) := by
  refine Fn.intro (N := 19) Tryz.func231 rfl Tryz.ntmps231 rfl fun F => ?_
  haveI hRI : ∀ (H : List HProp) [HasH H A], ReadsC W H v smpE 2 xs := fun H h => ⟨hr.at h.has⟩
  show GoC _ _ _ _ _ _ [A, F]
  refine GoC.seq ?_
  refine GoC.region ?_
  refine GoL.y rfl (Y.assign rfl) ?_
  refine GoL.nil ?_
  refine GoE.then_normal ?_
  refine GoC.seq ?_
  refine GoC.seq ?_
  refine GoC.region ?_
  refine GoL.y rfl (Y.move rfl) ?_
  refine GoL.y rfl (Y.lenRd Tryz.underlying165 rfl Rd.s) ?_
  refine GoL.y rfl (Y.move rfl) ?_
  refine GoL.nil ?_
  refine GoE.then_normal ?_
  refine GoC.block ?_
  refine GoC.loopK (X := Nat) [4, 5, 8, 9, 10, 11, 12, 13, 14, 15, 16, 17, 18] (fun k => xs.length - k) (fun k => k ≤ xs.length ∧ idxP p xs 0 = idxP p (xs.drop k) k) (fun k => [(8, some (.int .i64 (k : Int)))]) (fun k => [A, F]) 0 ?_ ?_ ?_ ?_
  · exact ⟨Nat.zero_le _, by simp⟩
  · exact ⟨rfl, trivial⟩
  · exact fun w s => Ent.kept .auto w s
  rintro k ⟨hk, hn⟩
  refine GoC.seq ?_
  refine GoC.region ?_
  refine GoL.y rfl (Y.lss rfl rfl) ?_
  refine GoL.nil ?_
  refine GoE.then_normal ?_
  refine GoC.seq ?_
  refine GoC.condD rfl (fun h9 => ?_) (fun h9 => ?_)
  · refine GoC.skip ?_
    refine GoE.then_normal ?_
    refine GoC.seq ?_
    refine GoC.block ?_
    refine GoC.seq ?_
    refine GoC.region ?_
    refine GoL.y rfl (Y.move rfl) ?_
    refine GoL.y rfl (Y.assign rfl) ?_
    refine GoL.nil ?_
    refine GoE.then_normal ?_
    refine GoC.seq ?_
    refine GoC.region ?_
    refine GoL.y rfl (Y.move rfl) ?_
    refine GoL.y rfl (Y.move rfl) ?_
    refine GoL.y rfl (Y.move rfl) ?_
    obtain ⟨x, hx⟩ := at_some (show k < xs.length by omega)
    refine GoL.y rfl (Y.ixRd _ Tryz.underlying165 Tryz.sizeOf172 rfl rfl Rd.s rfl (by first | omega | decide)) ?_
    refine GoL.y rfl (Y.lda Tryz.isAgg172 rfl (Cells.rd Rd.s ‹_›) (by exact Tryz.sizeOf172)) ?_
    refine GoL.does rfl (Does.callvE rfl rfl hg rfl (hf x (List.mem_of_getElem? hx)) .auto) ?_
    rintro _ _ ⟨⟨⟩, -, rfl, rfl⟩
    refine GoL.nil ?_
    refine GoE.then_normal ?_
    refine GoC.cond rfl (fun h16 => ?_) (fun h16 => ?_)
    · refine GoC.seq ?_
      refine GoC.region ?_
      refine GoL.y rfl (Y.move rfl) ?_
      refine GoL.y rfl (Y.assign rfl) ?_
      refine GoL.nil ?_
      refine GoE.then_normal ?_
      refine GoC.ret ?_
      refine GoE.block_ret (GoE.then_ret (GoE.then_ret (GoE.block_ret (GoE.then_ret ?_))))
      refine GoE.ret1 rfl rfl fun w s => ⟨(), ?_, trivial, finE .auto s⟩
      rw [hn, idxP_hit hx h16]
    · refine GoC.skip ?_
      refine GoE.block_normal (GoE.then_normal ?_)
      refine GoC.region ?_
      refine GoL.y rfl (Y.inc rfl rfl (by omega)) ?_
      refine GoL.y rfl (Y.move rfl) ?_
      refine GoL.nil ?_
      refine GoE.againK (k + 1) .auto rfl ?_ ?_ ?_ ?_
      · first | omega | (dsimp only; omega)
      · exact ⟨by omega, hn.trans (idxP_miss hx h16)⟩
      · exact ⟨rfl, trivial⟩
      · exact fun w s => Ent.kept .auto w s
  · refine GoC.exit ?_
    refine GoE.then_exit (GoE.then_exit (GoE.block_here (GoE.then_normal ?_)))
    refine GoC.seq ?_
    refine GoC.region ?_
    refine GoL.y rfl (Y.assign rfl) ?_
    refine GoL.nil ?_
    refine GoE.then_normal ?_
    refine GoC.ret ?_
    refine GoE.ret1 rfl rfl fun w s => ⟨(), ?_, trivial, finE .auto s⟩
    rw [hn, idxP_end (by omega)]

set_option maxRecDepth 20000 in
theorem ContainsFuncS {W : World} {A : HProp} {v : Value} {xs : List (Value × Smp)} {p : (Value × Smp) → Bool} {g : Nat} {c : Value} (hr : Rd W [A] smpE 2 v xs) (hl : xs.length ≤ 1000000000) (hg : ∀ args w, (callFunc g args).run Tryz.prog w = .ok (.enter g args) w) (hf : ∀ x ∈ xs, Fn Tryz.prog W g [.agg (smpE x).toArray, c] [A] Unit (fun _ => .bool (p x)) (fun _ => True) (fun _ => [A])) : Fn Tryz.prog W 202 [v, .func (.func g) #[] #[c]] [A] Unit (fun _ => .bool (xs.any p)) (fun _ => True) (fun _ => [A]) := by
  refine Fn.intro (N := 9) Tryz.func202 rfl Tryz.ntmps202 rfl fun F => ?_
  show GoC _ _ _ _ _ _ [A, F]
  refine GoC.seq ?_
  refine GoC.region ?_
  refine GoL.y rfl (Y.assign rfl) ?_
  refine GoL.nil ?_
  refine GoE.then_normal ?_
  refine GoC.seq ?_
  refine GoC.region ?_
  refine GoL.y rfl (Y.move rfl) ?_
  refine GoL.y rfl (Y.move rfl) ?_
  refine GoL.does rfl (Does.callE rfl Tryz.call231 rfl (IndexFuncS hr hl hg hf) .auto) ?_
  rintro _ _ ⟨⟨⟩, -, rfl, rfl⟩
  refine GoL.y rfl (Y.geq rfl rfl) ?_
  refine GoL.y rfl (Y.assign rfl) ?_
  refine GoL.nil ?_
  refine GoE.then_normal ?_
  refine GoC.ret ?_
  refine GoE.ret1 rfl rfl fun w s => ⟨(), ?_, trivial, finE .auto s⟩
  rw [← idxP_any xs 0]

end Go.SLYtpcjdohmjmeehaaGreat
namespace Go.SLYtpcjdohmjmeehaaGreat
open Go Go.RowKit

theorem getD_some {α : Type} {l : List α} {d : α} {n : Nat} (h : n < l.length) : l[n]? = some (l.getD n d) := by
  rw [List.getD_eq_getElem?_getD, List.getElem?_eq_getElem h]; rfl
section
variable {P : Program} {W : World} {N : Nat} {L : List (Nat × Option Value)} {H : List HProp} {T : TypeId}
theorem Y.val {op : Op} {u v : Value} (h : Yields P W N op T L H u) (e : u = v) : Yields P W N op T L H v := e ▸ h
end
/-! slots -/
def hN (h : Int) : Nat := (h % 65536 - 1).toNat
def slotAt (l : List (Bool × Int)) (n : Nat) : Bool × Int := l.getD n (false, 0)
theorem find_zero {l : List (Bool × Int)} {h : Int} (e : h % 65536 = 0) : slotFind l h = none := by unfold slotFind; rw [if_pos e]
theorem find_eq {l : List (Bool × Int)} {h : Int} (e : ¬ h % 65536 = 0) : slotFind l h = if (decide ((l.length : Int) ≤ (hN h : Int)) || !(slotAt l (hN h)).1 || decide (slotH (slotAt l (hN h)).2 (hN h) ≠ h)) = true then none else some (hN h) := by
  unfold slotFind
  rw [if_neg e]
  have hb : 0 ≤ h % 65536 - 1 := by omega
  have hc : (hN h : Int) = h % 65536 - 1 := by unfold hN; omega
  rw [hc]
  by_cases hl : (l.length : Int) ≤ h % 65536 - 1
  · rw [show l[(h % 65536 - 1).toNat]? = none from by rw [List.getElem?_eq_none]; omega]
    simp [hl]
  · rw [getD_some (d := (false, 0)) (show (h % 65536 - 1).toNat < l.length by omega)]
    unfold slotAt hN
    simp only [hl, decide_false, Bool.false_or]
    generalize l.getD (h % 65536 - 1).toNat (false, 0) = o
    obtain ⟨u, t⟩ := o
    cases u <;> simp <;> rfl
theorem find_lt {l : List (Bool × Int)} {h : Int} {n : Nat} (e : slotFind l h = some n) : n < l.length ∧ n = hN h ∧ (slotAt l n).1 = true ∧ slotH (slotAt l n).2 n = h := by
  by_cases e0 : h % 65536 = 0
  · rw [find_zero e0] at e; cases e
  · rw [find_eq e0] at e
    split at e
    · cases e
    · rename_i hc
      cases e
      simp only [Bool.not_eq_true, Bool.or_eq_false_iff, decide_eq_false_iff_not, Bool.not_eq_false', ne_eq, Decidable.not_not] at hc
      exact ⟨by omega, rfl, hc.1.2, hc.2⟩
theorem hN_cast {h : Int} (e : ¬ h % 65536 = 0) : h % 65536 - 1 = (hN h : Int) := by unfold hN; omega
def findV (o : Option Nat) : Value := .tuple #[.int .i64 ((o.getD 0 : Nat) : Int), .bool o.isSome]
theorem tmod_pos {h : Int} (a : 0 ≤ h) : h.tmod 65536 = h % 65536 := Int.tmod_eq_emod_of_nonneg a
theorem freed_none {l : List (Bool × Int)} {h : Int} (e : slotFind l h = none) : slotFreed l h = l := by unfold slotFreed; rw [e]
theorem freed_some {l : List (Bool × Int)} {h : Int} {n : Nat} (e : slotFind l h = some n) : slotFreed l h = l.set n (false, (slotAt l n).2) := by unfold slotFreed; rw [e]; rfl

theorem pick_bd {t : Int} {n : Nat} (hn : 0 < n) (hb : n ≤ 1000000000) : -9223372036854775808 ≤ t.tmod n + n ∧ t.tmod n + n ≤ 9223372036854775807 := by
  have h1 := Int.lt_tmod_of_pos t (show (0 : Int) < n by omega)
  have h2 := Int.tmod_lt_of_pos t (show (0 : Int) < n by omega)
  omega

/-! gates -/
def rowC (l : List Wtr) : Prop := l.length ≤ 1000000
structure GatesLen (g : Gates) : Prop where
  m : g.mtx.length ≤ 1000000
  c : g.cnd.length ≤ 1000000
  s : g.sem.length ≤ 1000000
  mw : ∀ x ∈ g.mtx, x.wait.length ≤ 1000000
  cw : ∀ x ∈ g.cnd, x.length ≤ 1000000
  sw : ∀ x ∈ g.sem, x.wait.length ≤ 1000000
section
variable {W : World}
theorem rd_one {α β : Type} {enc : α → List Value} {k : Nat} {f : β → Value} {g : β → List α} {xs : List β} {x : β} (hx : x ∈ xs) {H : List HProp} (t : At H (allH (fun x => sl enc k (f x) (g x)) xs)) : Rd W H enc k (f x) (g x) := by
  obtain ⟨i, hi⟩ := List.getElem?_of_mem hx
  exact Rd.sub t fun h a => ⟨_, by rw [allH_get _ hi] at a; exact a⟩
end
theorem waits_eq {g : Gates} {xm : List (Value × Mtx)} {xc : List (Value × List Wtr)} {xs : List (Value × Smp)} {who : Int} (h1 : xm.map (·.2) = g.mtx) (h2 : xc.map (·.2) = g.cnd) (h3 : xs.map (·.2) = g.sem) :
    ((xm.any fun x => hasW x.2.wait who) || (xc.any fun x => hasW x.2 who) || (xs.any fun x => hasW x.2.wait who)) = g.waits who := by
  unfold Gates.waits
  rw [any_fst (p := fun m : Mtx => hasW m.wait who) h1, any_fst (p := fun m : List Wtr => hasW m who) h2, any_fst (p := fun m : Smp => hasW m.wait who) h3]
theorem take_no {l : List Wtr} {c : Int} (h : l.length = 0) : takeW l c = (⟨0, 0⟩, false, l) := by unfold takeW; rw [if_pos h]
theorem take_ok {l : List Wtr} {c : Int} (h : ¬ l.length = 0) : takeW l c = (l.getD (pick c l.length) ⟨0, 0⟩, true, l.eraseIdx (pick c l.length)) := by unfold takeW; rw [if_neg h]
theorem geti_none {α : Type} {l : List α} {i : Int} (h : ¬ (0 ≤ i ∧ i < (l.length : Int))) : geti l i = none := by
  unfold geti
  split
  · rfl
  · rw [List.getElem?_eq_none]; omega
theorem geti_some {α : Type} {l : List α} {i : Int} (h : 0 ≤ i ∧ i < (l.length : Int)) : ∃ x, l[i.toNat]? = some x ∧ geti l i = some x := by
  obtain ⟨x, hx⟩ := at_some (show i.toNat < l.length by omega)
  exact ⟨x, hx, by unfold geti; rw [if_neg (by omega), hx]⟩
theorem geti_of {α : Type} {l : List α} {i : Int} {x : α} (h : geti l i = some x) : 0 ≤ i ∧ i < (l.length : Int) ∧ l[i.toNat]? = some x := by
  unfold geti at h
  split at h
  · cases h
  · have := (List.getElem?_eq_some_iff.1 h).1
    exact ⟨by omega, by omega, h⟩
theorem elP_nil {v : Value} {n k : Nat} {i : Int} (h : ¬ (0 ≤ i ∧ i < (n : Int))) : elP v n k i = .pointer none := by unfold elP; rw [if_neg h]
theorem elP_some {v : Value} {n k : Nat} {i : Int} (h : 0 ≤ i ∧ i < (n : Int)) : elP v n k i = .pointer (some ⟨blk v, ofs v + i.toNat * k, none⟩) := by unfold elP; rw [if_pos h]
def mtxZ : Mtx := ⟨[], false, 0⟩
theorem lock_no {m : Mtx} {who : Int} (h : m.held = true) : m.lock who = (false, { m with wait := m.wait ++ [⟨who, 0⟩] }) := by unfold Mtx.lock; rw [if_pos h]
theorem lock_ok {m : Mtx} {who : Int} (h : m.held = false) : m.lock who = (true, { m with held := true, owner := who }) := by unfold Mtx.lock; rw [if_neg (by rw [h]; simp)]
/-- Waiters of a row, by its kind. -/
def Gates.rowOf (g : Gates) (kind n : Int) : List Wtr :=
  if kind = 1 then ((geti g.mtx n).getD mtxZ).wait else if kind = 2 then (geti g.cnd n).getD [] else if kind = 3 then ((geti g.sem n).getD ⟨[], 0⟩).wait else []
end Go.SLYtpcjdohmjmeehaaGreat
