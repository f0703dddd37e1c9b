/- Walks of functions, and what they compute. Conditions: none, this text proves no statement. -/
import Derived.Test.YtpcjdohmjmeehaaGreatProg
import Derived.Test.YtpcjdohmjmeehaaGreatG06
import Derived.KernelRfl
import Derived.Test.YtpcjdohmjmeehaaGreatG03
namespace Go.SLYtpcjdohmjmeehaaGreat
open Go Go.RowKit Go.Proofs Go.Proofs.Tryz

set_option maxRecDepth 20000 in
theorem gate_clamp {W : World} {n m : Int} : Fn Tryz.prog W 83 [.int .i64 n, .int .i64 m] [] Unit (fun _ => .int .i64 (clamp n m)) (fun _ => True) (fun _ => []) := by
  refine Fn.intro (N := 9) func83 rfl ntmps83 rfl fun F => ?_
  show GoC _ _ _ _ _ _ [F]
  refine GoC.seq (GoC.region ?_)
  refine GoL.y rfl (Y.assign rfl) ?_
  refine GoL.nil (GoE.then_normal (GoC.seq (GoC.region ?_)))
  refine GoL.y rfl (Y.move rfl) ?_
  refine GoL.y rfl (Y.max2m rfl rfl) ?_
  refine GoL.y rfl (Y.move rfl) ?_
  refine GoL.y rfl (Y.min2m rfl rfl) ?_
  refine GoL.y rfl (Y.assign rfl) ?_
  refine GoL.nil (GoE.then_normal (GoC.ret ?_))
  refine GoE.ret1 rfl rfl fun w s => ⟨(), ?_, trivial, finE .auto s⟩
  rfl

set_option maxRecDepth 20000 in
theorem slot_New {W : World} {n : Int} : Fn Tryz.prog W 50 [.int .i64 n] [] Nat (fun b => ptr b) (fun _ => True) (fun b => [tblH b (List.replicate (clamp n 1024).toNat (false, 0))]) := by
  refine Fn.intro (N := 9) func50 rfl ntmps50 rfl fun F => ?_
  show GoC _ _ _ _ _ _ [F]
  refine GoC.seq (GoC.region ?_)
  refine GoL.y rfl (Y.assign rfl) ?_
  refine GoL.nil (GoE.then_normal (GoC.seq (GoC.region ?_)))
  refine GoL.y rfl (Y.move rfl) ?_
  refine GoL.y rfl (Y.max2m rfl rfl) ?_
  refine GoL.y rfl (Y.min2m rfl rfl) ?_
  have hc : (clamp n 1024).toNat ≤ 1024 := by unfold clamp; omega
  refine GoL.does rfl (Does.mkSl (enc := oneE) (k := 2) (false, 0) (clamp n 1024).toNat rfl underlying159 typeInfo209 rfl rfl rfl rfl (by decide) (by decide) rfl rfl (by unfold clamp; omega) (by unfold clamp; omega) (by omega)) ?_
  rintro _ _ ⟨b6, rfl, rfl⟩
  refine GoL.y rfl (Y.bld1 (fun v1 => [v1]) rfl (by kernel_rfl)) ?_
  refine GoL.does rfl (Does.box rfl rfl rfl) ?_
  rintro _ _ ⟨b8, rfl, rfl⟩
  refine GoL.y rfl (Y.assign rfl) ?_
  refine GoL.nil (GoE.then_normal (GoC.ret ?_))
  refine GoE.ret1 rfl rfl fun w s => ⟨b8, ?_, trivial, finE .auto s⟩
  rfl

set_option maxRecDepth 20000 in
theorem disk_New {W : World} {n : Int} : Fn Tryz.prog W 52 [.int .i64 n] [] Nat (fun b => ptr b) (fun _ => True) (fun b => [dskH b (Dsk.new n)]) := by
  refine Fn.intro (N := 9) func52 rfl ntmps52 rfl fun F => ?_
  show GoC _ _ _ _ _ _ [F]
  refine GoC.seq (GoC.region ?_)
  refine GoL.y rfl (Y.assign rfl) ?_
  refine GoL.nil (GoE.then_normal (GoC.seq (GoC.region ?_)))
  refine GoL.y rfl (Y.move rfl) ?_
  refine GoL.y rfl (Y.max2m rfl rfl) ?_
  refine GoL.y rfl (Y.min2m rfl rfl) ?_
  have hc : (clamp n 64).toNat ≤ 64 := by unfold clamp; omega
  refine GoL.does rfl (Does.mkSl (enc := wrdE) (k := 1) (0 : Int) (clamp n 64).toNat rfl underlying51 typeInfo43 rfl rfl rfl rfl (by decide) (by decide) rfl rfl (by unfold clamp; omega) (by unfold clamp; omega) (by omega)) ?_
  rintro _ _ ⟨b6, rfl, rfl⟩
  refine GoL.y rfl (Y.bld1 (fun v1 => [v1, (.slice none 0 0)]) rfl (by kernel_rfl)) ?_
  refine GoL.does rfl (Does.box rfl rfl rfl) ?_
  rintro _ _ ⟨b8, rfl, rfl⟩
  refine GoL.y rfl (Y.assign rfl) ?_
  refine GoL.nil (GoE.then_normal (GoC.ret ?_))
  refine GoE.ret1 rfl rfl fun w s => ⟨b8, ?_, trivial, finE .auto s⟩
  rfl

set_option maxRecDepth 20000 in
theorem tube_New {W : World} {n : Int} : Fn Tryz.prog W 56 [.int .i64 n] [] Nat (fun b => ptr b) (fun _ => True) (fun b => [tubH b (Tub.new n)]) := by
  refine Fn.intro (N := 8) func56 rfl ntmps56 rfl fun F => ?_
  show GoC _ _ _ _ _ _ [F]
  refine GoC.seq (GoC.region ?_)
  refine GoL.y rfl (Y.assign rfl) ?_
  refine GoL.nil (GoE.then_normal (GoC.seq (GoC.region ?_)))
  refine GoL.y rfl (Y.move rfl) ?_
  refine GoL.y rfl (Y.max2m rfl rfl) ?_
  refine GoL.y rfl (Y.min2m rfl rfl) ?_
  refine GoL.y rfl (Y.bld1 (fun v1 => [v1, (.slice none 0 0), (.slice none 0 0), (.slice none 0 0)]) rfl (by kernel_rfl)) ?_
  refine GoL.does rfl (Does.box rfl rfl rfl) ?_
  rintro _ _ ⟨b7, rfl, rfl⟩
  refine GoL.y rfl (Y.assign rfl) ?_
  refine GoL.nil (GoE.then_normal (GoC.ret ?_))
  refine GoE.ret1 rfl rfl fun w s => ⟨b7, ?_, trivial, finE .auto s⟩
  rfl

set_option maxRecDepth 20000 in
theorem wheel_New {W : World}  : Fn Tryz.prog W 53 [] [] Nat (fun b => ptr b) (fun _ => True) (fun b => [whlH b Whl.new]) := by
  refine Fn.intro (N := 4) func53 rfl ntmps53 rfl fun F => ?_
  show GoC _ _ _ _ _ _ [F]
  refine GoC.seq (GoC.region ?_)
  refine GoL.y rfl (Y.assign rfl) ?_
  refine GoL.nil (GoE.then_normal (GoC.seq (GoC.region ?_)))
  refine GoL.does rfl (Does.makeMap rfl) ?_
  rintro _ _ ⟨m1, rfl, rfl⟩
  refine GoL.y rfl (Y.bld1 (fun v1 => [(.int .i64 0), v1]) rfl (by kernel_rfl)) ?_
  refine GoL.does rfl (Does.box rfl rfl rfl) ?_
  rintro _ _ ⟨b3, rfl, rfl⟩
  refine GoL.y rfl (Y.assign rfl) ?_
  refine GoL.nil (GoE.then_normal (GoC.ret ?_))
  refine GoE.to (A := mapH m1 []) (Bs := [objAt m1 (.map #[] 0)]) .auto (fun h a => ⟨[], 0, ⟨rfl, List.nodup_nil, fun e he => (by cases he), List.nodup_nil⟩, a⟩) ?_
  refine GoE.ret1 rfl rfl fun w s => ⟨b3, ?_, trivial, finE .auto s⟩
  rfl

set_option maxRecDepth 20000 in
theorem slot_handle {W : World} {o : Bool × Int} {n : Nat} (ho : 0 ≤ o.2 ∧ o.2 < 2199023255552) (hn : n < 65536) : Fn Tryz.prog W 115 [.agg (oneE o).toArray, .int .i64 (n : Int)] [] Unit (fun _ => .int .u64 (slotH o.2 n)) (fun _ => True) (fun _ => []) := by
  refine Fn.intro (N := 12) func115 rfl ntmps115 rfl fun F => ?_
  show GoC _ _ _ _ _ _ [F]
  refine GoC.seq (GoC.region ?_)
  refine GoL.does rfl (Does.box rfl rfl rfl) ?_
  rintro _ _ ⟨b2, rfl, rfl⟩
  refine GoL.y rfl (Y.assign rfl) ?_
  refine GoL.nil (GoE.then_normal (GoC.seq (GoC.region ?_)))
  refine GoL.y rfl (Y.fieldAddr0 1 43 underlying209 rfl sizeOf43 rfl) ?_
  refine GoL.y rfl (Y.load isAgg43 rfl (Cell.a (by rfl))) ?_
  refine GoL.y rfl (Y.mulU rfl rfl (by omega)) ?_
  refine GoL.y rfl (Y.move rfl) ?_
  refine GoL.y rfl (Y.convU underlying3 underlying43 rfl (by omega)) ?_
  refine GoL.y rfl (Y.addU rfl rfl (by omega)) ?_
  refine GoL.y rfl (Y.addU rfl rfl (by omega)) ?_
  refine GoL.y rfl (Y.assign rfl) ?_
  refine GoL.nil (GoE.then_normal (GoC.ret ?_))
  refine GoE.ret1 rfl rfl fun w s => ⟨(), ?_, trivial, finE .auto s⟩
  rfl

set_option maxRecDepth 20000 in
theorem slot_Take {W : World} {b : Nat} {l : List (Bool × Int)} (hl : TakeOk l) : Fn Tryz.prog W 84 [ptr b] [tblH b l] Unit (fun _ => .tuple #[.int .i64 (slotTake l).1, .int .u64 (slotTake l).2.1, .int .i64 (slotTake l).2.2.1]) (fun _ => True) (fun _ => [tblH b (slotTake l).2.2.2]) := by
  refine Fn.intro (N := 45) func84 rfl ntmps84 rfl fun F => ?_
  show GoC _ _ _ _ _ _ [tblH b l, F]
  refine GoC.o1 (C := tblH b l) .auto rfl ?_
  rintro v -
  obtain ⟨hl1, hl2⟩ := hl
  refine GoC.seq (GoC.region ?_)
  refine GoL.y rfl (Y.assign rfl) ?_
  refine GoL.y rfl (Y.assign rfl) ?_
  refine GoL.y rfl (Y.assign rfl) ?_
  refine GoL.nil (GoE.then_normal (GoC.seq (GoC.seq (GoC.region ?_))))
  refine GoL.y rfl (Y.move rfl) ?_
  refine GoL.y rfl (Y.eqPtrNil underlying106 rfl rfl) ?_
  refine GoL.nil (GoE.then_normal ?_)
  refine GoC.condF rfl ?_
  refine GoC.skip (GoE.then_normal (GoC.seq (GoC.seq (GoC.region ?_))))
  refine GoL.y rfl (Y.move rfl) ?_
  refine GoL.y rfl (Y.nilCheck rfl) ?_
  refine GoL.y rfl (Y.fieldAddrZ 159 underlying161 rfl sizeOf159 rfl) ?_
  refine GoL.y rfl (Y.load isAgg159 rfl (Cell.a (by rfl))) ?_
  refine GoL.y rfl (Y.lenRd underlying159 rfl Rd.s) ?_
  refine GoL.y rfl (Y.move rfl) ?_
  refine GoL.nil (GoE.then_normal (GoC.block ?_))
  refine GoC.loopK (X := Nat) [2, 3, 4, 5, 6, 14, 15, 16, 17, 18, 19, 20, 21, 22, 23, 24, 25, 26, 27, 28, 29, 30, 31, 32, 33, 34, 35, 36, 37, 38, 39, 40, 41, 42, 43, 44] (fun k => l.length - k) (fun k => k ≤ l.length ∧ slotFree? l 0 = slotFree? (l.drop k) k) (fun k => [(14, some (.int .i64 (k : Int)))]) (fun k => [arr b 0 [v], sl oneE 2 v l, F]) 0 ?_ ?_ ?_ ?_
  · exact ⟨Nat.zero_le _, by simp⟩
  · exact ⟨rfl, trivial⟩
  · exact fun w s => Ent.kept .auto w s
  rintro k ⟨hk, hn⟩
  refine GoC.seq (GoC.region ?_)
  refine GoL.y rfl (Y.lss rfl rfl) ?_
  refine GoL.nil (GoE.then_normal (GoC.seq ?_))
  refine GoC.condD rfl (fun h15 => ?_) (fun h15 => ?_)
  · refine GoC.skip (GoE.then_normal (GoC.seq (GoC.block (GoC.seq (GoC.region ?_)))))
    refine GoL.y rfl (Y.move rfl) ?_
    refine GoL.y rfl (Y.assign rfl) ?_
    refine GoL.nil (GoE.then_normal (GoC.seq (GoC.region ?_)))
    refine GoL.y rfl (Y.move rfl) ?_
    refine GoL.y rfl (Y.nilCheck rfl) ?_
    refine GoL.y rfl (Y.fieldAddrZ 159 underlying161 rfl sizeOf159 rfl) ?_
    refine GoL.y rfl (Y.load isAgg159 rfl (Cell.a (by rfl))) ?_
    refine GoL.y rfl (Y.move rfl) ?_
    obtain ⟨o, hx⟩ := at_some (show k < l.length by omega)
    have ho := hl2 o (List.mem_of_getElem? hx)
    refine GoL.y rfl (Y.ixRd _ underlying159 sizeOf209 rfl rfl Rd.s rfl (by first | omega | decide)) ?_
    refine GoL.y rfl (Y.assign rfl) ?_
    refine GoL.nil (GoE.then_normal (GoC.seq (GoC.region ?_)))
    refine GoL.y rfl (Y.move rfl) ?_
    refine GoL.y rfl (Y.nilCheck rfl) ?_
    refine GoL.y rfl (Y.fieldAddrZ 4 underlying209 rfl sizeOf4 rfl) ?_
    refine GoL.y rfl (Y.load isAgg4 rfl (Cell.rd0 Rd.s ‹_› (by rfl))) ?_
    refine GoL.y rfl (Y.not rfl) ?_
    refine GoL.nil (GoE.then_normal ?_)
    refine GoC.cond rfl (fun h27 => ?_) (fun h27 => ?_)
    · refine GoC.seq (GoC.region ?_)
      have hu : o.1 = false := by simpa using h27
      obtain ⟨o1, o2⟩ := o
      have hu : o1 = false := hu
      subst hu
      have hx2 : (l.set k (true, o2))[k]? = some (true, o2) := set_self hx
      have hx3 : ((l.set k (true, o2)).set k (true, o2 + 1))[k]? = some (true, o2 + 1) := set_self hx2
      refine GoL.y rfl (Y.move rfl) ?_
      refine GoL.y rfl (Y.nilCheck rfl) ?_
      refine GoL.y rfl (Y.fieldAddrZ 4 underlying209 rfl sizeOf4 rfl) ?_
      refine GoL.does rfl (Does.storeSl0 (x' := (true, o2)) rfl rfl sizeOf4 rfl hx (by decide) rfl (by repeat (first | exact Repl.here | apply Repl.there))) ?_
      rintro _ _ ⟨rfl, rfl⟩
      refine GoL.nil (GoE.then_normal (GoC.seq (GoC.region ?_)))
      refine GoL.y rfl (Y.move rfl) ?_
      refine GoL.y rfl (Y.nilCheck rfl) ?_
      refine GoL.y rfl (Y.fieldAddr 1 43 underlying209 rfl sizeOf43 rfl) ?_
      refine GoL.y rfl (Y.load isAgg43 rfl (Cell.rd Rd.s ‹_› (by rfl))) ?_
      refine GoL.y rfl (Y.addU rfl rfl (by simp only at ho; omega)) ?_
      refine GoL.y rfl (Y.nilCheck rfl) ?_
      refine GoL.y rfl (Y.fieldAddr 1 43 underlying209 rfl sizeOf43 rfl) ?_
      refine GoL.does rfl (Does.storeSl (c := 1) (x' := (true, o2 + 1)) rfl rfl sizeOf43 rfl hx2 (by decide) rfl (by repeat (first | exact Repl.here | apply Repl.there))) ?_
      rintro _ _ ⟨rfl, rfl⟩
      refine GoL.nil (GoE.then_normal (GoC.seq (GoC.region ?_)))
      refine GoL.y rfl (Y.move rfl) ?_
      refine GoL.y rfl (Y.move rfl) ?_
      refine GoL.y rfl (Y.nilCheck rfl) ?_
      refine GoL.y rfl (Y.lda isAgg209 rfl (Cells.rd Rd.s ‹_›) (by exact sizeOf209)) ?_
      refine GoL.y rfl (Y.move rfl) ?_
      refine GoL.does rfl (Does.callE rfl call115 rfl (slot_handle (o := (true, o2 + 1)) (n := k) (by simp only at ho ⊢; omega) (by omega)) .auto) ?_
      rintro _ _ ⟨⟨⟩, -, rfl, rfl⟩
      refine GoL.y rfl (Y.assign rfl) ?_
      refine GoL.y rfl (Y.assign rfl) ?_
      refine GoL.y rfl (Y.assign rfl) ?_
      refine GoL.nil (GoE.then_normal (GoC.ret ?_))
      refine GoE.block_ret (GoE.then_ret (GoE.then_ret (GoE.block_ret (GoE.then_ret ?_))))
      have e : slotTake l = ((k : Int), slotH (o2 + 1) k, 0, (l.set k (true, o2)).set k (true, o2 + 1)) := by
        unfold slotTake; rw [hn, slot_hit hx rfl]; simp only [List.getD_eq_getElem?_getD, hx, List.set_set]; rfl
      rw [e]
      refine GoE.ret3 rfl rfl rfl rfl fun w s => ⟨(), ?_, trivial, finE .auto s⟩
      rfl
    · refine GoC.skip ?_
      refine GoE.block_normal (GoE.then_normal (GoC.region ?_))
      refine GoL.y rfl (Y.inc rfl rfl (by omega)) ?_
      refine GoL.y rfl (Y.move rfl) ?_
      refine GoL.nil ?_
      refine GoE.againK (k + 1) .auto rfl ?_ ?_ ?_ ?_
      · first | omega | (dsimp only; omega)
      · exact ⟨by omega, hn.trans (slot_skip hx (by simpa using h27))⟩
      · exact ⟨rfl, trivial⟩
      · exact fun w s => Ent.kept .auto w s
  · refine GoC.exit ?_
    refine GoE.then_exit (GoE.then_exit (GoE.block_here (GoE.then_normal ?_)))
    refine GoC.seq (GoC.region ?_)
    refine GoL.y rfl (Y.assign rfl) ?_
    refine GoL.y rfl (Y.assign rfl) ?_
    refine GoL.y rfl (Y.assign rfl) ?_
    refine GoL.nil (GoE.then_normal (GoC.ret ?_))
    rw [show slotTake l = (0, 0, 2, l) from by unfold slotTake; rw [hn, slot_end (by omega)]]
    refine GoE.ret3 rfl rfl rfl rfl fun w s => ⟨(), ?_, trivial, finE .auto s⟩
    rfl

set_option maxRecDepth 20000 in
theorem core_begin {W : World} {b : Nat} {ps : List (Option Nat)} {s : Spc} {f arg : Int} (hT : TakeOk s.table) (hl : s.thr.length = 16) (hf : ∀ n, slotFree? s.table 0 = some n → s.thr[n]? = some none) : Fn Tryz.prog W 57 [ptr b, .int .i64 f, .int .u64 arg] [spcX b ps s] (List (Option Nat)) (fun _ => .tuple #[.int .i64 (s.begin f arg).1, .int .i64 (s.begin f arg).2.1]) (fun qs => ∃ p, qs = psBegin s.table ps p) (fun qs => [spcX b qs (s.begin f arg).2.2]) := by
  refine Fn.intro (N := 45) func57 rfl ntmps57 rfl fun F => ?_
  show GoC _ _ _ _ _ _ [spcX b ps s, F]
  refine GoC.o10 (C := spcX b ps s) .auto rfl ?_
  rintro fv sv pv bt vm bg vt bd bw vr -
  refine GoC.know (fun w s => s.fact .auto thrs_same) fun hs => ?_
  refine GoC.seq (GoC.region ?_)
  refine GoL.y rfl (Y.assign rfl) ?_
  refine GoL.y rfl (Y.assign rfl) ?_
  refine GoL.nil (GoE.then_normal (GoC.seq (GoC.region ?_)))
  refine GoL.y rfl (Y.move rfl) ?_
  refine GoL.y rfl (Y.nilCheck rfl) ?_
  refine GoL.y rfl (Y.fieldAddr0 8 106 underlying118 rfl sizeOf106 rfl) ?_
  refine GoL.y rfl (Y.load isAgg106 rfl (Cell.a (by rfl))) ?_
  refine GoL.does rfl (Does.callE rfl call84 rfl (slot_Take hT) .auto) ?_
  rintro _ _ ⟨⟨⟩, -, rfl, rfl⟩
  refine GoL.y rfl (Y.move rfl) ?_
  refine GoL.y rfl (Y.extract rfl rfl) ?_
  refine GoL.y rfl (Y.extract rfl rfl) ?_
  refine GoL.y rfl (Y.extract rfl rfl) ?_
  refine GoL.y rfl (Y.assign rfl) ?_
  refine GoL.y rfl (Y.assign rfl) ?_
  refine GoL.y rfl (Y.assign rfl) ?_
  refine GoL.nil (GoE.then_normal (GoC.seq (GoC.seq (GoC.region ?_))))
  refine GoL.y rfl (Y.move rfl) ?_
  refine GoL.y rfl (Y.neq rfl rfl) ?_
  refine GoL.nil (GoE.then_normal ?_)
  refine GoC.condD rfl (fun h22 => ?_) (fun h22 => ?_)
  · refine GoC.seq (GoC.region ?_)
    refine GoL.y rfl (Y.move rfl) ?_
    refine GoL.y rfl (Y.assign rfl) ?_
    refine GoL.y rfl (Y.assign rfl) ?_
    refine GoL.nil (GoE.then_normal (GoC.ret ?_))
    refine GoE.then_ret ?_
    obtain ⟨hn, e⟩ := slotTake_no h22
    rw [e, begin_no hn]
    refine GoE.ret2 rfl rfl rfl fun w s => ⟨ps, ?_, ⟨0, by unfold psBegin; rw [hn]⟩, finE .auto s⟩
    rfl
  · refine GoC.skip (GoE.then_normal (GoC.seq (GoC.region ?_)))
    obtain ⟨n, hn, e⟩ := slotTake_ok (Decidable.of_not_not h22)
    have hfn := hf n hn
    have hn16 : n < 16 := hl ▸ (List.getElem?_eq_some_iff.1 hfn).1
    rw [e, begin_ok hn]
    refine GoL.y rfl (Y.move rfl) ?_
    refine GoL.y rfl (Y.bld3 (fun v1 v2 v3 => [(.int .i64 0), (.int .i64 0), (.int .u64 0), (.int .u64 0), (.int .u64 0), (.int .u64 0), (.int .u64 0), (.int .u64 0), (.int .u64 0), (.int .u64 0), v1, (.int .i64 0), (.int .u64 0), (.bool false), v2, (.int .i64 0), v3, (.int .u64 0)]) rfl rfl rfl (by kernel_rfl)) ?_
    refine GoL.does rfl (Does.box rfl rfl rfl) ?_
    rintro _ _ ⟨b26, rfl, rfl⟩
    refine GoL.y rfl (Y.assign rfl) ?_
    refine GoL.nil (GoE.then_normal (GoC.seq (GoC.region ?_)))
    refine GoL.y rfl (Y.move rfl) ?_
    refine GoL.y rfl (Y.move rfl) ?_
    refine GoL.y rfl (Y.nilCheck rfl) ?_
    refine GoL.y rfl (Y.fieldAddrZ 131 underlying133 rfl sizeOf131 rfl) ?_
    refine GoL.y rfl (Y.fieldAddrZ 3 underlying131 rfl sizeOf3 rfl) ?_
    refine GoL.does rfl (Does.st sizeOf3 rfl rfl rfl rfl) ?_
    rintro _ _ ⟨rfl, rfl⟩
    refine GoL.nil (GoE.then_normal (GoC.seq (GoC.region ?_)))
    refine GoL.y rfl (Y.move rfl) ?_
    refine GoL.y rfl (Y.move rfl) ?_
    refine GoL.y rfl (Y.nilCheck rfl) ?_
    refine GoL.y rfl (Y.fieldAddrZ 131 underlying133 rfl sizeOf131 rfl) ?_
    refine GoL.y rfl (Y.fieldAddr0 2 57 underlying131 rfl sizeOf57 rfl) ?_
    refine GoL.y rfl (Y.ixArr _ underlying57 sizeOf43 rfl rfl rfl (by first | omega | decide)) ?_
    refine GoL.does rfl (Does.st sizeOf43 rfl rfl rfl rfl) ?_
    rintro _ _ ⟨rfl, rfl⟩
    refine GoL.nil (GoE.then_normal (GoC.seq (GoC.region ?_)))
    refine GoL.y rfl (Y.move rfl) ?_
    refine GoL.y rfl (Y.move rfl) ?_
    refine GoL.y rfl (Y.move rfl) ?_
    refine GoL.y rfl (Y.nilCheck rfl) ?_
    refine GoL.y rfl (Y.fieldAddr0 9 115 underlying118 rfl sizeOf115 rfl) ?_
    refine GoL.y rfl (Y.ixArr n underlying115 sizeOf114 rfl rfl rfl (by omega)) ?_
    refine GoL.does rfl (Does.st sizeOf114 rfl rfl rfl (Nat.blt_eq.mpr (by show 9 + n * 1 < 31; omega))) ?_
    rintro _ _ ⟨rfl, rfl⟩
    rw [Nat.mul_one]
    have e9 := @spcC_set fv sv pv s.prg bt ps vm bg vt bd bw vr n (by omega) (hs.1.trans hl) (some b26)
    rw [show ptrO (some b26) = Value.pointer (some ⟨b26, 0, none⟩) from rfl] at e9
    rw [e9]
    refine GoL.nil (GoE.then_normal (GoC.seq (GoC.region ?_)))
    refine GoL.y rfl (Y.move rfl) ?_
    refine GoL.y rfl (Y.assign rfl) ?_
    refine GoL.y rfl (Y.assign rfl) ?_
    refine GoL.nil (GoE.then_normal (GoC.ret ?_))
    refine GoE.to (A := thrsH (ps.set n (some b26)) (s.thr.set n (some (thr0 f arg (slotH ((s.table.getD n (false, 0)).2 + 1) n))))) (Bs := [arr b26 0 (thrC (thr0 f arg (slotH ((s.table.getD n (false, 0)).2 + 1) n))), thrsH ps s.thr]) .auto (thrs_new hfn) ?_
    refine GoE.ret2 rfl rfl rfl fun w s => ⟨ps.set n (some b26), ?_, ⟨b26, by unfold psBegin; rw [hn]⟩, finE .auto s⟩
    rfl

set_option maxRecDepth 20000 in
theorem core_Ready {W : World} {b : Nat} {ps : List (Option Nat)} {s : Spc} (hl : s.thr.length = 16) : Fn Tryz.prog W 22 [ptr b] [spcX b ps s] Value (fun u => u) (fun _ => True) (fun u => [sl intE 1 u s.ready, spcX b ps s]) := by
  refine Fn.intro (N := 31) func22 rfl ntmps22 rfl fun F => ?_
  show GoC _ _ _ _ _ _ [spcX b ps s, F]
  refine GoC.o10 (C := spcX b ps s) .auto rfl ?_
  rintro fv sv pv bt vm bg vt bd bw vr -
  refine GoC.know (fun w s => s.fact .auto thrs_same) fun hs => ?_
  refine GoC.seq (GoC.region ?_)
  refine GoL.y rfl (Y.assign rfl) ?_
  refine GoL.nil (GoE.then_normal (GoC.seq (GoC.seq (GoC.region ?_))))
  refine GoL.y rfl (Y.move rfl) ?_
  refine GoL.y rfl (Y.eqPtrNil underlying27 rfl rfl) ?_
  refine GoL.nil (GoE.then_normal ?_)
  refine GoC.condF rfl ?_
  refine GoC.skip (GoE.then_normal (GoC.seq (GoC.region ?_)))
  refine GoL.y rfl (Y.assign rfl) ?_
  refine GoL.nil (GoE.then_normal (GoC.seq (GoC.seq (GoC.region ?_))))
  refine GoL.y rfl (Y.move rfl) ?_
  refine GoL.y rfl (Y.nilCheck rfl) ?_
  refine GoL.y rfl (Y.fieldAddr0 9 115 underlying118 rfl sizeOf115 rfl) ?_
  refine GoL.y rfl (Y.lda isAgg115 rfl (Cells.part0 (ds := ptrs ps) Cells.a rfl) (by exact sizeOf115)) ?_
  refine GoL.y rfl (Y.move rfl) ?_
  refine GoL.nil (GoE.then_normal (GoC.block ?_))
  refine GoC.loopK (X := Nat × Value × List Int) [3, 4, 5, 12, 13, 14, 15, 16, 17, 18, 19, 20, 21, 22, 23, 24, 25, 26, 27, 28, 29] (fun z => 16 - z.1) (fun z => z.1 ≤ 16 ∧ z.2.2.length ≤ z.1 ∧ s.ready = z.2.2 ++ readyFrom (s.thr.drop z.1) z.1) (fun z => [(12, some (.int .i64 (z.1 : Int))), (3, some z.2.1)]) (fun z => [sl intE 1 z.2.1 z.2.2, arr b 0 (spcC fv sv pv s.prg bt ps vm bg vt bd bw vr), codeH fv s.prg.funcs, tblH bt s.table, thrsH ps s.thr, sl wrdE 1 vm s.mem, gatesH bg s.gates, tubsH vt s.tubes, dskH bd s.disk, whlH bw s.wheel, sl recE 6 vr s.recs, F]) (0, .slice none 0 0, []) ?_ ?_ ?_ ?_
  · exact ⟨Nat.zero_le _, Nat.le_refl _, rfl⟩
  · exact ⟨rfl, rfl, trivial⟩
  · exact fun w s => Ent.kept .auto w s
  rintro ⟨k, u, xs⟩ ⟨hk, hxl, hn⟩
  simp only at hk hxl hn
  refine GoC.seq (GoC.region ?_)
  refine GoL.y rfl (Y.lss rfl rfl) ?_
  refine GoL.nil (GoE.then_normal (GoC.seq ?_))
  refine GoC.condD rfl (fun h13 => ?_) (fun h13 => ?_)
  · refine GoC.skip (GoE.then_normal (GoC.seq (GoC.block (GoC.seq (GoC.region ?_)))))
    refine GoL.y rfl (Y.move rfl) ?_
    have hk16 : k < 16 := by omega
    refine GoL.y rfl (Y.index k underlying115 isAgg114 sizeOf114 rfl rfl rfl hk16 (by rw [List.getElem?_toArray]; exact ptrs_get ps hk16)) ?_
    refine GoL.y rfl (Y.assign rfl) ?_
    refine GoL.y rfl (Y.assign rfl) ?_
    refine GoL.nil (GoE.then_normal (GoC.seq (GoC.region ?_)))
    refine GoL.y rfl (Y.move rfl) ?_
    refine GoL.y rfl (Y.neqPtrNil underlying114 rfl rfl) ?_
    refine GoL.y rfl (Y.move rfl) ?_
    apply GoL.segA 6 24 18 [18, 19, 20, 21, 22, 23, 24] rfl
    · intro h18
      refine GoL.yg rfl rfl rfl (Y.move rfl) ?_
      have h18' : ((ps.getD k none).map fun b => (⟨b, 0, none⟩ : Addr)).isNone = false := by simpa using h18
      obtain ⟨p, t, hp, ht⟩ := same_some hs (by omega) h18'
      rw [getD_of hp]
      refine GoL.yg rfl rfl rfl (Y.nilCheck rfl) ?_
      refine GoL.yg rfl rfl rfl (Y.fieldAddr0 11 3 underlying133 rfl sizeOf3 rfl) ?_
      refine GoL.yg rfl rfl rfl (Y.valW (Y.load isAgg3 rfl (Cell.sub0 (by repeat (first | exact At.here | refine At.there ?_)) (thrs_cell hp ht) rfl)) (why_at ht)) ?_
      refine GoL.yg rfl rfl rfl (Y.eql rfl rfl) ?_
      refine GoL.y rfl (Y.pickT rfl rfl) ?_
      refine GoL.nil ?_
      refine GoE.seg .auto rfl (by first | exact fun _ h => h | exact Ent.kept .auto)
    · intro h18
      refine GoL.skip rfl rfl rfl rfl ?_
      refine GoL.skip rfl rfl rfl rfl ?_
      refine GoL.skip rfl rfl rfl rfl ?_
      refine GoL.skip rfl rfl rfl rfl ?_
      refine GoL.skip rfl rfl rfl rfl ?_
      refine GoL.y rfl (Y.pickF rfl rfl) ?_
      refine GoL.nil ?_
      refine GoE.seg .auto rfl (by first | exact fun _ h => h | exact Ent.kept .auto)
    refine GoL.nil (GoE.then_normal ?_)
    refine GoC.cond rfl (fun h24 => ?_) (fun h24 => ?_)
    · simp only [Bool.and_eq_true, Bool.or_eq_true, Bool.and_eq_false_iff, Bool.or_eq_false_iff, decide_eq_true_eq, decide_eq_false_iff_not, Bool.not_eq_true', Bool.not_eq_false'] at h24
      refine GoC.region ?_
      refine GoL.y rfl (Y.move rfl) ?_
      refine GoL.y rfl (Y.move rfl) ?_
      refine GoL.does rfl (Does.bsl 3 rfl rfl (by kernel_rfl)) ?_
      rintro _ _ ⟨b27, rfl, rfl⟩
      refine GoL.does rfl (Does.app1 (enc := intE) (k := 1) (k : Int) rfl underlying23 underlying23 typeInfo3 rfl rfl rfl (by decide) rfl rfl rfl .auto rfl .auto (by first | omega | (dsimp only; omega)) rfl) ?_
      rintro _ _ ⟨v28, rfl, rfl⟩
      refine GoL.y rfl (Y.assign rfl) ?_
      refine GoL.nil ?_
      refine GoE.block_normal (GoE.then_normal (GoC.region ?_))
      refine GoL.y rfl (Y.inc rfl rfl (by omega)) ?_
      refine GoL.y rfl (Y.move rfl) ?_
      refine GoL.nil ?_
      refine GoE.againK (k + 1, v28, xs ++ [(k : Int)]) .auto rfl ?_ ?_ ?_ ?_
      · show 16 - (k + 1) < 16 - k; omega
      · exact ⟨by show k + 1 ≤ 16; omega, by simp; omega, by rw [hn, rdy_yes hs (by omega) h24]; simp⟩
      · exact ⟨rfl, rfl, trivial⟩
      · exact fun w s => Ent.kept .auto w s
    · simp only [Bool.and_eq_true, Bool.or_eq_true, Bool.and_eq_false_iff, Bool.or_eq_false_iff, decide_eq_true_eq, decide_eq_false_iff_not, Bool.not_eq_true', Bool.not_eq_false'] at h24
      refine GoC.skip ?_
      refine GoE.block_normal (GoE.then_normal (GoC.region ?_))
      refine GoL.y rfl (Y.inc rfl rfl (by omega)) ?_
      refine GoL.y rfl (Y.move rfl) ?_
      refine GoL.nil ?_
      refine GoE.againK (k + 1, u, xs) .auto rfl ?_ ?_ ?_ ?_
      · show 16 - (k + 1) < 16 - k; omega
      · exact ⟨by show k + 1 ≤ 16; omega, by show xs.length ≤ k + 1; omega, by rw [hn, rdy_no hs (by omega) h24]⟩
      · exact ⟨rfl, rfl, trivial⟩
      · exact fun w s => Ent.kept .auto w s
  · refine GoC.exit ?_
    refine GoE.then_exit (GoE.then_exit (GoE.block_here (GoE.then_normal ?_)))
    refine GoC.seq (GoC.region ?_)
    refine GoL.y rfl (Y.move rfl) ?_
    refine GoL.y rfl (Y.assign rfl) ?_
    refine GoL.nil (GoE.then_normal (GoC.ret ?_))
    obtain rfl : k = 16 := by omega
    rw [ready_end (by omega), List.append_nil] at hn
    subst hn
    refine GoE.ret1 rfl rfl fun w s => ⟨_, ?_, trivial, finE .auto s⟩
    rfl

set_option maxRecDepth 20000 in
theorem gate_New {W : World} {A : HProp} {m c : Int} {v : Value} {sems : List Int} (hr : Rd W [A] intE 1 v sems) : Fn Tryz.prog W 51 [.int .i64 m, .int .i64 c, v] [A] Nat (fun b => ptr b) (fun _ => True) (fun b => [gatesH b (Gates.new m c sems), A]) := by
  refine Fn.intro (N := 42) func51 rfl ntmps51 rfl fun F => ?_
  haveI hRI : ∀ (H : List HProp) [HasH H A], ReadsC W H v intE 1 sems := fun H h => ⟨hr.at h.has⟩
  show GoC _ _ _ _ _ _ [A, F]
  refine GoC.seq (GoC.region ?_)
  refine GoL.y rfl (Y.assign rfl) ?_
  refine GoL.nil (GoE.then_normal (GoC.seq ?_))
  refine GoC.drawF [] [0, 2, 4, 0, 2, 4, 0, 4, 0] [0, 1, 3, 4, 2, 5, 6, 7, 8] rfl (by kernel_rfl) ?_
  refine GoF.q rfl rfl rfl Kept.auto (Y.move rfl) ?_
  refine GoF.callE rfl (.inl rfl) rfl (fun _ => Kept.auto) call83 rfl gate_clamp .auto (fun _ _ => Kept.auto) ?_
  rintro ⟨⟩ -
  refine GoF.q rfl rfl rfl Kept.auto (Y.move rfl) ?_
  refine GoF.callE rfl (.inl rfl) rfl (fun _ => Kept.auto) call83 rfl gate_clamp .auto (fun _ _ => Kept.auto) ?_
  rintro ⟨⟩ -
  refine GoF.fresh rfl rfl rfl (by decide) Kept.auto (fresh_make (enc := mtxE) (k := 3) ((Value.slice none 0 0 : Value), (⟨[], false, 0⟩ : Mtx)) (clamp m 4).toNat underlying162 typeInfo233 rfl rfl rfl rfl (by decide) (by decide) rfl rfl (by unfold clamp; omega) (by unfold clamp; omega) (by unfold clamp; omega)) ?_
  rintro b12
  refine GoF.fresh rfl rfl rfl (by decide) Kept.auto (fresh_make (enc := fstE) (k := 1) ((Value.slice none 0 0 : Value), ([] : List Wtr)) (clamp c 4).toNat underlying164 typeInfo170 rfl rfl rfl rfl (by decide) (by decide) rfl rfl (by unfold clamp; omega) (by unfold clamp; omega) (by unfold clamp; omega)) ?_
  rintro b15
  refine GoF.q rfl rfl rfl Kept.auto (Y.bld2 (fun v1 v2 => [v1, v2, (.slice none 0 0)]) rfl rfl (by kernel_rfl)) ?_
  refine GoF.fresh rfl rfl rfl (by decide) Kept.auto (fresh_box rfl rfl) ?_
  rintro b17
  refine GoF.q rfl rfl rfl Kept.auto (Y.assign rfl) ?_
  refine GoF.nil ?_
  refine GoE.then_normal (GoC.seq (GoC.seq (GoC.region ?_)))
  refine GoL.to (A := sl mtxE 3 (.slice (some ⟨b12, 0, none⟩) (clamp m 4).toNat (clamp m 4).toNat) (List.replicate (clamp m 4).toNat ((Value.slice none 0 0 : Value), (⟨[], false, 0⟩ : Mtx)))) .auto (arr_slR rfl) ?_
  refine GoL.to (A := sl fstE 1 (.slice (some ⟨b15, 0, none⟩) (clamp c 4).toNat (clamp c 4).toNat) (List.replicate (clamp c 4).toNat ((Value.slice none 0 0 : Value), ([] : List Wtr)))) .auto (arr_slR rfl) ?_
  have hr4 := hr.cut (lo := 0) (hi := min sems.length 4) (Nat.zero_le _) (by omega)
  rw [List.drop_zero, show sems.take (min sems.length 4) = sems.take 4 from by rw [List.take_eq_take_iff]; omega] at hr4
  haveI hI4 : ∀ (H : List HProp) [HasH H A], ReadsC W H (cut 1 0 (min sems.length 4) v) intE 1 (sems.take 4) := fun H h => ⟨hr4.at h.has⟩
  refine GoL.y rfl (Y.move rfl) ?_
  refine GoL.y rfl (Y.move rfl) ?_
  refine GoL.y rfl (Y.lenRd underlying23 rfl Rd.s) ?_
  refine GoL.y rfl (Y.min2m rfl rfl) ?_
  refine GoL.y rfl (Y.sliceTo (min sems.length 4) underlying23 sizeOf3 rfl rfl Rd.s (by omega) (by omega)) ?_
  refine GoL.y rfl (Y.lenRd underlying23 rfl Rd.s) ?_
  refine GoL.y rfl (Y.move rfl) ?_
  refine GoL.nil (GoE.then_normal (GoC.block ?_))
  refine GoC.loopK (X := Nat × Value) [9, 24, 25, 26, 27, 28, 29, 30, 31, 32, 33, 34, 35, 36, 37, 38, 39, 40] (fun z => (sems.take 4).length - z.1) (fun z => z.1 ≤ (sems.take 4).length) (fun z => [(24, some (.int .i64 (z.1 : Int)))]) (fun z => [arr b17 0 [.slice (some ⟨b12, 0, none⟩) (clamp m 4).toNat (clamp m 4).toNat, .slice (some ⟨b15, 0, none⟩) (clamp c 4).toNat (clamp c 4).toNat, z.2], sl smpE 2 z.2 (((sems.take 4).take z.1).map (fun n => ((Value.slice none 0 0 : Value), (⟨[], clamp n 1048576⟩ : Smp)))), sl mtxE 3 (.slice (some ⟨b12, 0, none⟩) (clamp m 4).toNat (clamp m 4).toNat) (List.replicate (clamp m 4).toNat ((Value.slice none 0 0 : Value), (⟨[], false, 0⟩ : Mtx))), sl fstE 1 (.slice (some ⟨b15, 0, none⟩) (clamp c 4).toNat (clamp c 4).toNat) (List.replicate (clamp c 4).toNat ((Value.slice none 0 0 : Value), ([] : List Wtr))), A, F]) (0, .slice none 0 0) ?_ ?_ ?_ ?_
  · exact Nat.zero_le _
  · exact ⟨rfl, trivial⟩
  · exact fun w s => Ent.kept .auto w s
  rintro ⟨k, u⟩ hk
  simp only at hk
  have h4 : (sems.take 4).length ≤ 4 := by simp; omega
  have h44 : ((sems.take 4).take k).length ≤ 4 := by simp; omega
  refine GoC.seq (GoC.region ?_)
  refine GoL.y rfl (Y.lss rfl rfl) ?_
  refine GoL.nil (GoE.then_normal (GoC.seq ?_))
  refine GoC.condD rfl (fun h25 => ?_) (fun h25 => ?_)
  · refine GoC.skip (GoE.then_normal (GoC.seq (GoC.block (GoC.seq (GoC.region ?_)))))
    obtain ⟨x, hx⟩ := at_some (show k < (sems.take 4).length by omega)
    refine GoL.y rfl (Y.ixRd _ underlying23 sizeOf3 rfl rfl Rd.s rfl (by first | omega | decide)) ?_
    refine GoL.y rfl (Y.load isAgg3 rfl (Cell.rd0 Rd.s ‹_› (by rfl))) ?_
    refine GoL.y rfl (Y.assign rfl) ?_
    refine GoL.nil (GoE.then_normal ?_)
    refine GoC.draw [arr b17 0 [.slice (some ⟨b12, 0, none⟩) (clamp m 4).toNat (clamp m 4).toNat, .slice (some ⟨b15, 0, none⟩) (clamp c 4).toNat (clamp c 4).toNat, u]] [0, 0, 0, 0, 0, 1, 2, 1, 2, 2, 1, 1, 3] rfl (by kernel_rfl) ?_
    refine GoK.k rfl Kept.auto (Y.move rfl) ?_
    refine GoK.k rfl Kept.auto (Y.move rfl) ?_
    refine GoK.k rfl Kept.auto (Y.nilCheck rfl) ?_
    refine GoK.k rfl Kept.auto (Y.fieldAddr0 2 165 underlying167 rfl sizeOf165 rfl) ?_
    refine GoK.k rfl Kept.auto (Y.load isAgg165 rfl (Cell.a (by rfl))) ?_
    refine GoK.s rfl (Y.move rfl) ?_
    refine GoK.d2 rfl Kept.auto (Does.callE rfl call83 rfl gate_clamp .auto) (by rintro _ _ ⟨⟨⟩, -, rfl, rfl⟩; exact Kept.auto) ?_
    rintro _ _ ⟨⟨⟩, -, rfl, rfl⟩
    refine GoK.s rfl (Y.bld1 (fun v1 => [(.slice none 0 0), v1]) rfl (by kernel_rfl)) ?_
    refine GoK.d2 rfl Kept.auto (Does.bsl 172 rfl rfl (by kernel_rfl)) (by rintro _ _ ⟨b36, rfl, rfl⟩; exact Kept.auto) ?_
    rintro _ _ ⟨b36, rfl, rfl⟩
    refine GoK.d2 rfl Kept.auto (Does.app1 (enc := smpE) (k := 2) ((Value.slice none 0 0 : Value), (⟨[], clamp x 1048576⟩ : Smp)) rfl underlying165 underlying165 typeInfo172 rfl rfl rfl (by decide) rfl rfl rfl .auto rfl .auto (by rw [List.length_map]; dsimp only; omega) rfl) (by rintro _ _ ⟨v37, rfl, rfl⟩; exact Kept.auto) ?_
    rintro _ _ ⟨v37, rfl, rfl⟩
    refine GoK.s rfl (Y.nilCheck rfl) ?_
    refine GoK.s rfl (Y.fieldAddr0 2 165 underlying167 rfl sizeOf165 rfl) ?_
    refine GoK.d3 rfl (Does.stS sizeOf165 rfl rfl rfl) ?_
    rintro _ _ ⟨rfl, rfl⟩
    refine GoK.nil ?_
    refine GoE.block_normal (GoE.then_normal (GoC.region ?_))
    refine GoL.y rfl (Y.inc rfl rfl (by omega)) ?_
    refine GoL.y rfl (Y.move rfl) ?_
    refine GoL.nil ?_
    refine GoE.againK (k + 1, v37) .auto rfl ?_ ?_ ?_ ?_
    · show (sems.take 4).length - (k + 1) < (sems.take 4).length - k; omega
    · show k + 1 ≤ _; omega
    · exact ⟨rfl, trivial⟩
    · show ∀ w, Sat _ w _ → Sat _ w (seps [_, sl smpE 2 v37 (((sems.take 4).take (k + 1)).map (fun n => ((Value.slice none 0 0 : Value), (⟨[], clamp n 1048576⟩ : Smp)))), _, _, A, F])
      rw [gates_sems hx]
      exact fun w s => Ent.kept .auto w s
  · refine GoC.exit ?_
    refine GoE.then_exit (GoE.then_exit (GoE.block_here (GoE.then_normal ?_)))
    refine GoC.seq (GoC.region ?_)
    refine GoL.y rfl (Y.move rfl) ?_
    refine GoL.y rfl (Y.assign rfl) ?_
    refine GoL.nil (GoE.then_normal (GoC.ret ?_))
    obtain rfl : k = (sems.take 4).length := by omega
    rw [List.take_length]
    refine GoE.ret1 rfl rfl fun w s => ⟨b17, ?_, trivial, finE (by repeat (first | exact Ent.nil | (apply Ent.cons; · repeat (first | exact Take.here | apply Take.there)) | apply Ent.opt0 | apply Ent.opt1 | apply Ent.void | apply Ent.emp0 | apply Ent.two | (apply Ent.allV; · exact sl_void) | (apply Ent.allM; · exact fun _ => sl_void) | apply Ent.f1 rfl | apply Ent.f2 rfl | apply Ent.f3 rfl | apply Ent.f4 rfl | apply Ent.f10 rfl | apply Ent.grp | assumption | exact trivial | rfl | omega | (focus (simp [Gates.new]; done)) | (unfold Gates.new; simp only [List.map_map]; rfl))) s⟩
    rfl

set_option maxRecDepth 20000 in
theorem core_New {W : World} {A : HProp} {v : PrgV} (hp : PrgRd W [A] v) (hl : v.fs.length ≤ 1000000000 ∧ v.sems.length ≤ 1000000000 ∧ v.pipes.length ≤ 1000000000) : Fn Tryz.prog W 15 [.agg (prgE v).toArray] [A] (Option Nat) (fun o => .tuple #[ptrO o, .int .i64 (checkI v.p)]) (fun o => o.isSome = decide (checkI v.p = 0)) (fun o => [optH (fun b => spcH b (Spc.new v.p)) o, A]) := by
  refine Fn.intro (N := 83) func15 rfl ntmps15 rfl fun F => ?_
  haveI hI1 : ∀ (H : List HProp) [HasH H A], ReadsC W H v.fv fstE 1 v.fs := fun H h => ⟨hp.fs.at h.has⟩
  haveI hI2 : ∀ (H : List HProp) [HasH H A], ReadsC W H v.sv intE 1 v.sems := fun H h => ⟨hp.sems.at h.has⟩
  haveI hI3 : ∀ (H : List HProp) [HasH H A], ReadsC W H v.pv intE 1 v.pipes := fun H h => ⟨hp.pipes.at h.has⟩
  show GoC _ _ _ _ _ _ [A, F]
  refine GoC.know (fun w s => prg_one hp .here w s) fun hone => ?_
  refine GoC.seq (GoC.region ?_)
  refine GoL.does rfl (Does.box rfl rfl rfl) ?_
  rintro _ _ ⟨b1, rfl, rfl⟩
  refine GoL.y rfl (Y.assign rfl) ?_
  refine GoL.y rfl (Y.assign rfl) ?_
  refine GoL.nil (GoE.then_normal (GoC.seq (GoC.seq (GoC.region ?_))))
  refine GoL.y rfl (Y.lda isAgg25 rfl Cells.a (by exact sizeOf25)) ?_
  refine GoL.does rfl (Does.callE rfl call49 rfl (inst_Check hp hl) .auto) ?_
  rintro _ _ ⟨⟨⟩, -, rfl, rfl⟩
  refine GoL.y rfl (Y.assign rfl) ?_
  refine GoL.nil (GoE.then_normal (GoC.seq (GoC.region ?_)))
  refine GoL.y rfl (Y.move rfl) ?_
  refine GoL.y rfl (Y.neq rfl rfl) ?_
  refine GoL.nil (GoE.then_normal ?_)
  refine GoC.condD rfl (fun h13 => ?_) (fun h13 => ?_)
  · refine GoC.seq (GoC.region ?_)
    refine GoL.y rfl (Y.move rfl) ?_
    refine GoL.y rfl (Y.assign rfl) ?_
    refine GoL.y rfl (Y.assign rfl) ?_
    refine GoL.nil (GoE.then_normal (GoC.ret ?_))
    refine GoE.then_ret ?_
    refine GoE.ret2 rfl rfl rfl fun w s => ⟨none, ?_, (decide_eq_false h13).symm, finE .auto s⟩
    rfl
  · refine GoC.skip (GoE.then_normal (GoC.seq ?_))
    refine GoC.drawF [arr b1 0 (prgE v)] [0, 2, 0, 0, 4, 0, 0, 0, 0, 0, 0, 2, 0, 0, 2, 2, 0, 4, 0] [0, 1, 2, 3, 5, 6, 7, 8, 9, 10, 11, 12, 13, 14, 15, 4, 16, 17, 18] rfl (by kernel_rfl) ?_
    have hcs := caps_and (check_caps (Decidable.of_not_not h13))
    have hw : 0 ≤ v.words ∧ v.words ≤ 64 := hcs.2.2.1
    have hf8 : v.fs.length ≤ 8 := by simpa [PrgV.p] using hcs.2.1
    have hp4 : v.pipes.length ≤ 4 := hcs.2.2.2.2.2.2.2.2.1
    refine GoF.q rfl rfl rfl Kept.auto (Y.lda isAgg25 rfl Cells.a (by exact sizeOf25)) ?_
    refine GoF.callE rfl (.inl rfl) rfl (fun _ => Kept.auto) call50 rfl slot_New .auto (fun _ _ => Kept.auto) ?_
    rintro x16 -
    refine GoF.q rfl rfl rfl Kept.auto (Y.fieldAddr0 1 3 underlying25 rfl sizeOf3 rfl) ?_
    refine GoF.q rfl rfl rfl Kept.auto (Y.load isAgg3 rfl (Cell.a (by rfl))) ?_
    refine GoF.q rfl rfl rfl Kept.auto (Y.fieldAddr0 2 3 underlying25 rfl sizeOf3 rfl) ?_
    refine GoF.q rfl rfl rfl Kept.auto (Y.load isAgg3 rfl (Cell.a (by rfl))) ?_
    refine GoF.q rfl rfl rfl Kept.auto (Y.fieldAddr0 3 3 underlying25 rfl sizeOf3 rfl) ?_
    refine GoF.q rfl rfl rfl Kept.auto (Y.load isAgg3 rfl (Cell.a (by rfl))) ?_
    refine GoF.q rfl rfl rfl Kept.auto (Y.fieldAddr0 4 23 underlying25 rfl sizeOf23 rfl) ?_
    refine GoF.q rfl rfl rfl Kept.auto (Y.load isAgg23 rfl (Cell.a (by rfl))) ?_
    refine GoF.callE rfl (.inl rfl) rfl (fun _ => Kept.auto) call51 rfl (gate_New hp.sems) .auto (fun _ _ => Kept.auto) ?_
    rintro x26 -
    refine GoF.q rfl rfl rfl Kept.auto (Y.fieldAddr0 6 3 underlying25 rfl sizeOf3 rfl) ?_
    refine GoF.q rfl rfl rfl Kept.auto (Y.load isAgg3 rfl (Cell.a (by rfl))) ?_
    refine GoF.callE rfl (.inl rfl) rfl (fun _ => Kept.auto) call52 rfl disk_New .auto (fun _ _ => Kept.auto) ?_
    rintro x29 -
    refine GoF.callE rfl (.inl rfl) rfl (fun _ => Kept.auto) call53 rfl wheel_New .auto (fun _ _ => Kept.auto) ?_
    rintro x30 -
    refine GoF.fresh rfl rfl rfl (by decide) Kept.auto (fresh_make (enc := wrdE) (k := 1) 0 v.words.toNat underlying51 typeInfo43 rfl rfl rfl rfl (by decide) (by decide) rfl rfl (by omega) (by omega) (by omega)) ?_
    rintro b19
    refine GoF.q rfl rfl rfl Kept.auto (Y.bld6 (fun _ v2 v3 v4 v5 v6 => [v.fv, .int .i64 v.words, .int .i64 v.mutexes, .int .i64 v.conds, v.sv, v.pv, .int .i64 v.blocks, .int .i64 v.prio, v2, .pointer none, .pointer none, .pointer none, .pointer none, .pointer none, .pointer none, .pointer none, .pointer none, .pointer none, .pointer none, .pointer none, .pointer none, .pointer none, .pointer none, .pointer none, .pointer none, v3, v4, .slice none 0 0, v5, v6, .slice none 0 0]) rfl rfl rfl rfl rfl rfl (by kernel_rfl)) ?_
    refine GoF.fresh rfl rfl rfl (by decide) Kept.auto (fresh_box rfl rfl) ?_
    rintro b32
    refine GoF.q rfl rfl rfl Kept.auto (Y.assign rfl) ?_
    refine GoF.nil ?_
    refine GoE.then_normal (GoC.seq (GoC.region ?_))
    refine GoL.to (A := sl wrdE 1 (.slice (some ⟨b19, 0, none⟩) v.words.toNat v.words.toNat) (List.replicate v.words.toNat 0)) .auto (arr_slR rfl) ?_
    refine GoL.y rfl (Y.move rfl) ?_
    refine GoL.y rfl (Y.fieldAddrZ 22 underlying25 rfl sizeOf22 rfl) ?_
    refine GoL.y rfl (Y.load isAgg22 rfl (Cell.a (by rfl))) ?_
    refine GoL.does rfl (Does.callE rfl call54 rfl (CloneNN hp.fs hl.1 hone) .auto) ?_
    rintro _ _ ⟨u36, -, rfl, rfl⟩
    refine GoL.y rfl (Y.nilCheck rfl) ?_
    refine GoL.y rfl (Y.fieldAddrZ 25 underlying118 rfl sizeOf25 rfl) ?_
    refine GoL.y rfl (Y.fieldAddrZ 22 underlying25 rfl sizeOf22 rfl) ?_
    refine GoL.does rfl (Does.stS sizeOf22 rfl rfl rfl) ?_
    rintro _ _ ⟨rfl, rfl⟩
    refine GoL.nil (GoE.then_normal (GoC.seq (GoC.seq (GoC.region ?_))))
    refine GoL.y rfl (Y.move rfl) ?_
    refine GoL.y rfl (Y.nilCheck rfl) ?_
    refine GoL.y rfl (Y.fieldAddrZ 25 underlying118 rfl sizeOf25 rfl) ?_
    refine GoL.y rfl (Y.fieldAddrZ 22 underlying25 rfl sizeOf22 rfl) ?_
    refine GoL.y rfl (Y.load isAgg22 rfl (Cell.a (by rfl))) ?_
    refine GoL.y rfl (Y.lenRd underlying22 rfl Rd.s) ?_
    refine GoL.y rfl (Y.move rfl) ?_
    refine GoL.nil (GoE.then_normal (GoC.block ?_))
    refine GoC.loopK (X := Nat × List (Value × List Ins)) [6, 7, 46, 47, 48, 49, 50, 51, 52, 53, 54, 55, 56, 57, 58, 59, 60] (fun z => v.fs.length - z.1) (fun z => z.1 ≤ v.fs.length ∧ z.2.length = z.1 ∧ z.2.map (·.2) = (v.fs.take z.1).map (·.2)) (fun z => [(46, some (.int .i64 (z.1 : Int)))]) (fun z => [arr b32 0 [u36, .int .i64 v.words, .int .i64 v.mutexes, .int .i64 v.conds, v.sv, v.pv, .int .i64 v.blocks, .int .i64 v.prio, ptr x16, .pointer none, .pointer none, .pointer none, .pointer none, .pointer none, .pointer none, .pointer none, .pointer none, .pointer none, .pointer none, .pointer none, .pointer none, .pointer none, .pointer none, .pointer none, .pointer none, .slice (some ⟨b19, 0, none⟩) v.words.toNat v.words.toNat, ptr x26, .slice none 0 0, ptr x29, ptr x30, .slice none 0 0], sl fstE 1 u36 (z.2 ++ v.fs.drop z.1), allH (fun x => sl insE 5 x.1 x.2) z.2, sl wrdE 1 (.slice (some ⟨b19, 0, none⟩) v.words.toNat v.words.toNat) (List.replicate v.words.toNat 0), tblH x16 (List.replicate (clamp 16 1024).toNat (false, 0)), gatesH x26 (Gates.new v.mutexes v.conds v.sems), dskH x29 (Dsk.new v.blocks), whlH x30 Whl.new, arr b1 0 (prgE v), A, F]) (0, []) ?_ ?_ ?_ ?_
    · exact ⟨Nat.zero_le _, rfl, by simp⟩
    · exact ⟨rfl, trivial⟩
    · exact fun w s => Ent.kept .auto w s
    rintro ⟨k, cl⟩ ⟨hk, hcl, hcm⟩
    simp only at hk hcl hcm
    refine GoC.seq (GoC.region ?_)
    refine GoL.y rfl (Y.lss rfl rfl) ?_
    refine GoL.nil (GoE.then_normal (GoC.seq ?_))
    refine GoC.condD rfl (fun h47 => ?_) (fun h47 => ?_)
    · refine GoC.skip (GoE.then_normal (GoC.seq (GoC.block (GoC.seq (GoC.region ?_)))))
      refine GoL.y rfl (Y.move rfl) ?_
      obtain ⟨x, hx⟩ := at_some (show k < v.fs.length by omega)
      have hx2 := fs_get hcl hx
      have hi := hp.ins x (List.mem_of_getElem? hx)
      have hx256 : x.2.length ≤ 256 := caps_fs (check_caps (Decidable.of_not_not h13)) (List.mem_of_getElem? hx)
      refine GoL.y rfl (Y.ixRd k underlying22 sizeOf120 rfl rfl Rd.s rfl (by simp; omega)) ?_
      refine GoL.y rfl (Y.load isAgg120 rfl (Cell.rd0 Rd.s ‹_› (by rfl))) ?_
      refine GoL.y rfl (Y.assign rfl) ?_
      refine GoL.y rfl (Y.assign rfl) ?_
      refine GoL.nil (GoE.then_normal ?_)
      refine GoC.draw [arr b32 0 [u36, .int .i64 v.words, .int .i64 v.mutexes, .int .i64 v.conds, v.sv, v.pv, .int .i64 v.blocks, .int .i64 v.prio, ptr x16, .pointer none, .pointer none, .pointer none, .pointer none, .pointer none, .pointer none, .pointer none, .pointer none, .pointer none, .pointer none, .pointer none, .pointer none, .pointer none, .pointer none, .pointer none, .pointer none, .slice (some ⟨b19, 0, none⟩) v.words.toNat v.words.toNat, ptr x26, .slice none 0 0, ptr x29, ptr x30, .slice none 0 0], sl fstE 1 u36 (cl ++ v.fs.drop k)] [0, 0, 0, 0, 0, 0, 1, 2, 1, 3] rfl (by kernel_rfl) ?_
      refine GoK.k rfl Kept.auto (Y.move rfl) ?_
      refine GoK.k rfl Kept.auto (Y.nilCheck rfl) ?_
      refine GoK.k rfl Kept.auto (Y.fieldAddrZ 25 underlying118 rfl sizeOf25 rfl) ?_
      refine GoK.k rfl Kept.auto (Y.fieldAddrZ 22 underlying25 rfl sizeOf22 rfl) ?_
      refine GoK.k rfl Kept.auto (Y.load isAgg22 rfl (Cell.a (by rfl))) ?_
      refine GoK.k rfl Kept.auto (Y.move rfl) ?_
      refine GoK.s rfl (Y.move rfl) ?_
      refine GoK.d2 rfl Kept.auto (Does.callE rfl call55 rfl (CloneN hi (by omega)) .auto) (by rintro _ _ ⟨u58, -, rfl, rfl⟩; exact Kept.auto) ?_
      rintro _ _ ⟨u58, -, rfl, rfl⟩
      refine GoK.know (fun w s => Rd.isSl (Rd.sl .here) w s) fun hu58 => ?_
      refine GoK.s rfl (Y.ixRd k underlying22 sizeOf120 rfl rfl Rd.s rfl (by simp; omega)) ?_
      refine GoK.d3 rfl (Does.storeSl0 (x' := (u58, x.2)) rfl rfl sizeOf120 (isSl_one hu58) (fs_get hcl hx) (by decide) rfl (by repeat (first | exact Repl.here | apply Repl.there))) ?_
      rintro _ _ ⟨rfl, rfl⟩
      refine GoK.nil ?_
      refine GoE.block_normal (GoE.then_normal (GoC.region ?_))
      refine GoL.y rfl (Y.inc rfl rfl (by omega)) ?_
      refine GoL.y rfl (Y.move rfl) ?_
      refine GoL.nil ?_
      refine GoE.againK (k + 1, cl ++ [(u58, x.2)]) .auto rfl ?_ ?_ ?_ ?_
      · show v.fs.length - (k + 1) < v.fs.length - k; omega
      · exact ⟨by show k + 1 ≤ _; omega, by simp [hcl], by rw [take_snoc hx]; simp [hcm]⟩
      · exact ⟨rfl, trivial⟩
      · show ∀ w, Sat _ w _ → Sat _ w (seps [_, sl fstE 1 u36 ((cl ++ [(u58, x.2)]) ++ v.fs.drop (k + 1)), allH (fun x => sl insE 5 x.1 x.2) (cl ++ [(u58, x.2)]), _, _, _, _, _, _, A, F])
        rw [← fs_step hcl hx, allH_snoc]
        exact fun w s => Ent.kept .auto w s
    · refine GoC.exit ?_
      refine GoE.then_exit (GoE.then_exit (GoE.block_here (GoE.then_normal ?_)))
      refine GoC.seq (GoC.seq (GoC.region ?_))
      refine GoL.y rfl (Y.fieldAddr0 5 23 underlying25 rfl sizeOf23 rfl) ?_
      refine GoL.y rfl (Y.load isAgg23 rfl (Cell.a (by rfl))) ?_
      refine GoL.y rfl (Y.lenRd underlying23 rfl Rd.s) ?_
      refine GoL.y rfl (Y.move rfl) ?_
      refine GoL.nil (GoE.then_normal (GoC.block ?_))
      obtain rfl : k = v.fs.length := by omega
      rw [List.drop_length, List.append_nil]
      refine GoC.loopK (X := Nat × Value × List (Nat × Tub)) [9, 64, 65, 66, 67, 68, 69, 70, 71, 72, 73, 74, 75, 76, 77, 78, 79] (fun z => v.pipes.length - z.1) (fun z => z.1 ≤ v.pipes.length ∧ z.2.2.length = z.1 ∧ z.2.2.map (·.2) = (v.pipes.take z.1).map Tub.new) (fun z => [(64, some (.int .i64 (z.1 : Int)))]) (fun z => [arr b32 0 [u36, .int .i64 v.words, .int .i64 v.mutexes, .int .i64 v.conds, v.sv, v.pv, .int .i64 v.blocks, .int .i64 v.prio, ptr x16, .pointer none, .pointer none, .pointer none, .pointer none, .pointer none, .pointer none, .pointer none, .pointer none, .pointer none, .pointer none, .pointer none, .pointer none, .pointer none, .pointer none, .pointer none, .pointer none, .slice (some ⟨b19, 0, none⟩) v.words.toNat v.words.toNat, ptr x26, z.2.1, ptr x29, ptr x30, .slice none 0 0], sl ptrE 1 z.2.1 z.2.2, allH (fun x => tubH x.1 x.2) z.2.2, sl fstE 1 u36 cl, allH (fun x => sl insE 5 x.1 x.2) cl, sl wrdE 1 (.slice (some ⟨b19, 0, none⟩) v.words.toNat v.words.toNat) (List.replicate v.words.toNat 0), tblH x16 (List.replicate (clamp 16 1024).toNat (false, 0)), gatesH x26 (Gates.new v.mutexes v.conds v.sems), dskH x29 (Dsk.new v.blocks), whlH x30 Whl.new, arr b1 0 (prgE v), A, F]) (0, .slice none 0 0, []) ?_ ?_ ?_ ?_
      · exact ⟨Nat.zero_le _, rfl, by simp⟩
      · exact ⟨rfl, trivial⟩
      · exact fun w s => Ent.kept .auto w s
      rintro ⟨k, vt, ts⟩ ⟨hk, htl, htm⟩
      simp only at hk htl htm
      refine GoC.seq (GoC.region ?_)
      refine GoL.y rfl (Y.lss rfl rfl) ?_
      refine GoL.nil (GoE.then_normal (GoC.seq ?_))
      refine GoC.condD rfl (fun h65 => ?_) (fun h65 => ?_)
      · refine GoC.skip (GoE.then_normal (GoC.seq (GoC.block (GoC.seq (GoC.region ?_)))))
        obtain ⟨x, hx⟩ := at_some (show k < v.pipes.length by omega)
        refine GoL.y rfl (Y.ixRd _ underlying23 sizeOf3 rfl rfl Rd.s rfl (by first | omega | decide)) ?_
        refine GoL.y rfl (Y.load isAgg3 rfl (Cell.rd0 Rd.s ‹_› (by rfl))) ?_
        refine GoL.y rfl (Y.assign rfl) ?_
        refine GoL.nil (GoE.then_normal ?_)
        refine GoC.draw [arr b32 0 [u36, .int .i64 v.words, .int .i64 v.mutexes, .int .i64 v.conds, v.sv, v.pv, .int .i64 v.blocks, .int .i64 v.prio, ptr x16, .pointer none, .pointer none, .pointer none, .pointer none, .pointer none, .pointer none, .pointer none, .pointer none, .pointer none, .pointer none, .pointer none, .pointer none, .pointer none, .pointer none, .pointer none, .pointer none, .slice (some ⟨b19, 0, none⟩) v.words.toNat v.words.toNat, ptr x26, vt, ptr x29, ptr x30, .slice none 0 0]] [0, 0, 0, 0, 0, 1, 2, 2, 2, 1, 1, 3] rfl (by kernel_rfl) ?_
        refine GoK.k rfl Kept.auto (Y.move rfl) ?_
        refine GoK.k rfl Kept.auto (Y.move rfl) ?_
        refine GoK.k rfl Kept.auto (Y.nilCheck rfl) ?_
        refine GoK.k rfl Kept.auto (Y.fieldAddr0 27 116 underlying118 rfl sizeOf116 rfl) ?_
        refine GoK.k rfl Kept.auto (Y.load isAgg116 rfl (Cell.a (by rfl))) ?_
        refine GoK.s rfl (Y.move rfl) ?_
        refine GoK.d2 rfl Kept.auto (Does.callE rfl call56 rfl tube_New .auto) (by rintro _ _ ⟨x74, -, rfl, rfl⟩; exact Kept.auto) ?_
        rintro _ _ ⟨x74, -, rfl, rfl⟩
        refine GoK.d2 rfl Kept.auto (Does.bsl 124 rfl rfl (by kernel_rfl)) (by rintro _ _ ⟨b75, rfl, rfl⟩; exact Kept.auto) ?_
        rintro _ _ ⟨b75, rfl, rfl⟩
        refine GoK.d2 rfl Kept.auto (Does.app1 (enc := ptrE) (k := 1) ((x74, Tub.new x) : Nat × Tub) rfl underlying116 underlying116 typeInfo124 rfl rfl rfl (by decide) rfl rfl rfl .auto rfl .auto (by first | omega | (dsimp only; omega)) rfl) (by rintro _ _ ⟨v76, rfl, rfl⟩; exact Kept.auto) ?_
        rintro _ _ ⟨v76, rfl, rfl⟩
        refine GoK.s rfl (Y.nilCheck rfl) ?_
        refine GoK.s rfl (Y.fieldAddr0 27 116 underlying118 rfl sizeOf116 rfl) ?_
        refine GoK.d3 rfl (Does.stS sizeOf116 rfl rfl rfl) ?_
        rintro _ _ ⟨rfl, rfl⟩
        refine GoK.nil ?_
        refine GoE.block_normal (GoE.then_normal (GoC.region ?_))
        refine GoL.y rfl (Y.inc rfl rfl (by omega)) ?_
        refine GoL.y rfl (Y.move rfl) ?_
        refine GoL.nil ?_
        refine GoE.againK (k + 1, v76, ts ++ [(x74, Tub.new x)]) .auto rfl ?_ ?_ ?_ ?_
        · show v.pipes.length - (k + 1) < v.pipes.length - k; omega
        · exact ⟨by show k + 1 ≤ _; omega, by simp [htl], by rw [take_snoc hx]; simp [htm]⟩
        · exact ⟨rfl, trivial⟩
        · show ∀ w, Sat _ w _ → Sat _ w (seps [_, sl ptrE 1 v76 (ts ++ [(x74, Tub.new x)]), allH (fun x => tubH x.1 x.2) (ts ++ [(x74, Tub.new x)]), _, _, _, _, _, _, _, _, A, F])
          rw [allH_snoc]
          exact fun w s => Ent.kept .auto w s
      · refine GoC.exit ?_
        refine GoE.then_exit (GoE.then_exit (GoE.block_here (GoE.then_normal ?_)))
        refine GoC.seq (GoC.region ?_)
        refine GoL.y rfl (Y.move rfl) ?_
        obtain rfl : k = v.pipes.length := by omega
        have htm2 : ts.map (·.2) = (spc0 v.p).tubes := by rw [htm, List.take_length]; rfl
        have hcm2 : cl.map (·.2) = (spc0 v.p).prg.funcs := by rw [hcm, List.take_length]; rfl
        refine GoL.does rfl (Does.callE rfl call57 rfl (core_begin (ps := List.replicate 16 none) (s := spc0 v.p) (spc0_take _) rfl (spc0_free _)) .auto) ?_
        rintro _ _ ⟨qs, -, rfl, rfl⟩
        refine GoL.nil (GoE.then_normal (GoC.seq (GoC.region ?_)))
        refine GoL.y rfl (Y.move rfl) ?_
        refine GoL.y rfl (Y.assign rfl) ?_
        refine GoL.y rfl (Y.assign rfl) ?_
        refine GoL.nil (GoE.then_normal (GoC.ret ?_))
        refine GoE.ret2 rfl rfl rfl fun w s => ⟨some b32, ?_, (decide_eq_true (Decidable.of_not_not h13)).symm, finE .auto s⟩
        rw [Decidable.of_not_not h13]; rfl

end Go.SLYtpcjdohmjmeehaaGreat
namespace Go.SLYtpcjdohmjmeehaaGreat
open Go Go.RowKit Go.Proofs Go.Proofs.Tryz

set_option maxRecDepth 20000 in
theorem DeleteG {W : World} {v : Value} {xs : List Wtr} {i : Nat} (hi : i < xs.length) (hl : xs.length ≤ 1000000000) : Fn Tryz.prog W 158 [v, .int .i64 (i : Int), .int .i64 ((i + 1 : Nat) : Int)] [sl wtrE 2 v xs] Value (fun u => u) (fun _ => True) (fun u => [sl wtrE 2 u (xs.eraseIdx i)]) := by
  refine Fn.intro (N := 33) func158 rfl ntmps158 rfl fun F => ?_
  show GoC _ _ _ _ _ _ [sl wtrE 2 v xs, F]
  have h0 : xs ≠ [] := by intro e; rw [e] at hi; simp at hi
  refine GoC.know (fun w s => s.fact .auto (sl_shape h0)) fun e => ?_
  obtain ⟨b, cap, rfl, hc⟩ := e
  refine GoC.seq (GoC.region ?_)
  refine GoL.y rfl (Y.assign rfl) ?_
  refine GoL.nil (GoE.then_normal (GoC.seq (GoC.region ?_)))
  refine GoL.y rfl (Y.move rfl) ?_
  refine GoL.y rfl (Y.move rfl) ?_
  refine GoL.y rfl (Y.move rfl) ?_
  refine GoL.y rfl (Y.move rfl) ?_
  refine GoL.y rfl (Y.lenRd underlying168 rfl Rd.s) ?_
  refine GoL.y rfl (Y.slice3 i (i + 1) xs.length underlying168 sizeOf229 rfl rfl rfl rfl rfl rfl rfl (by omega) (by omega) hc) ?_
  refine GoL.nil (GoE.then_normal (GoC.seq (GoC.seq (GoC.region ?_))))
  refine GoL.y rfl (Y.move rfl) ?_
  refine GoL.y rfl (Y.move rfl) ?_
  refine GoL.y rfl (Y.eql rfl rfl) ?_
  refine GoL.nil (GoE.then_normal ?_)
  refine GoC.condD rfl (fun h16 => ?_) (fun h16 => ?_)
  · exact absurd h16 (by omega)
  · refine GoC.skip (GoE.then_normal (GoC.seq (GoC.region ?_)))
    refine GoL.y rfl (Y.move rfl) ?_
    refine GoL.y rfl (Y.lenRd underlying168 rfl Rd.s) ?_
    refine GoL.y rfl (Y.assign rfl) ?_
    refine GoL.nil (GoE.then_normal (GoC.seq ?_))
    refine GoC.draw [] [1, 1, 1, 1, 1, 1, 3, 1] rfl (by kernel_rfl) ?_
    refine GoK.s rfl (Y.move rfl) ?_
    refine GoK.s rfl (Y.move rfl) ?_
    refine GoK.s rfl (Y.slice0X i underlying168 sizeOf229 rfl rfl rfl (by omega)) ?_
    refine GoK.s rfl (Y.move rfl) ?_
    refine GoK.s rfl (Y.move rfl) ?_
    refine GoK.s rfl (Y.sliceX0 (i + 1) underlying168 sizeOf229 rfl rfl rfl (by omega)) ?_
    refine GoK.d3 rfl (Does.appendDel rfl underlying168 underlying168 typeInfo229 rfl rfl rfl .auto (by omega) (by omega) (wtrE_one _) h0) ?_
    rintro _ _ ⟨rfl, rfl⟩
    refine GoK.s rfl (Y.assign rfl) ?_
    refine GoK.nil (GoE.then_normal (GoC.seq (GoC.region ?_)))
    refine GoL.y rfl (Y.move rfl) ?_
    refine GoL.y rfl (Y.move rfl) ?_
    refine GoL.y rfl (Y.lenSlice underlying168 rfl) ?_
    refine GoL.y rfl (Y.move rfl) ?_
    refine GoL.y rfl (Y.sliceX (i + (xs.length - (i + 1))) xs.length underlying168 sizeOf229 rfl rfl rfl rfl rfl (by omega) hc) ?_
    refine GoL.does rfl (Does.clearSp (xs := xs.take i ++ xs.drop (i + 1)) underlying168 zeroValue229 rfl rfl rfl rfl (by rw [List.length_append, List.length_take, List.length_drop]; omega) (by omega) .auto) ?_
    rintro _ _ ⟨rfl, rfl⟩
    refine GoL.nil (GoE.then_normal (GoC.seq (GoC.region ?_)))
    refine GoL.y rfl (Y.move rfl) ?_
    refine GoL.y rfl (Y.assign rfl) ?_
    refine GoL.nil (GoE.then_normal (GoC.ret ?_))
    rw [erase_td]
    refine GoE.ret1 rfl rfl fun w s => ⟨_, ?_, trivial, finE .auto s⟩
    rfl

set_option maxRecDepth 20000 in
theorem DeleteQ {W : World} {v : Value} {xs : List Rqs} {i : Nat} (hi : i < xs.length) (hl : xs.length ≤ 1000000000) : Fn Tryz.prog W 99 [v, .int .i64 (i : Int), .int .i64 ((i + 1 : Nat) : Int)] [sl rqsE 4 v xs] Value (fun u => u) (fun _ => True) (fun u => [sl rqsE 4 u (xs.eraseIdx i)]) := by
  refine Fn.intro (N := 33) func99 rfl ntmps99 rfl fun F => ?_
  show GoC _ _ _ _ _ _ [sl rqsE 4 v xs, F]
  have h0 : xs ≠ [] := by intro e; rw [e] at hi; simp at hi
  refine GoC.know (fun w s => s.fact .auto (sl_shape h0)) fun e => ?_
  obtain ⟨b, cap, rfl, hc⟩ := e
  refine GoC.seq (GoC.region ?_)
  refine GoL.y rfl (Y.assign rfl) ?_
  refine GoL.nil (GoE.then_normal (GoC.seq (GoC.region ?_)))
  refine GoL.y rfl (Y.move rfl) ?_
  refine GoL.y rfl (Y.move rfl) ?_
  refine GoL.y rfl (Y.move rfl) ?_
  refine GoL.y rfl (Y.move rfl) ?_
  refine GoL.y rfl (Y.lenRd underlying173 rfl Rd.s) ?_
  refine GoL.y rfl (Y.slice3 i (i + 1) xs.length underlying173 sizeOf142 rfl rfl rfl rfl rfl rfl rfl (by omega) (by omega) hc) ?_
  refine GoL.nil (GoE.then_normal (GoC.seq (GoC.seq (GoC.region ?_))))
  refine GoL.y rfl (Y.move rfl) ?_
  refine GoL.y rfl (Y.move rfl) ?_
  refine GoL.y rfl (Y.eql rfl rfl) ?_
  refine GoL.nil (GoE.then_normal ?_)
  refine GoC.condD rfl (fun h16 => ?_) (fun h16 => ?_)
  · exact absurd h16 (by omega)
  · refine GoC.skip (GoE.then_normal (GoC.seq (GoC.region ?_)))
    refine GoL.y rfl (Y.move rfl) ?_
    refine GoL.y rfl (Y.lenRd underlying173 rfl Rd.s) ?_
    refine GoL.y rfl (Y.assign rfl) ?_
    refine GoL.nil (GoE.then_normal (GoC.seq ?_))
    refine GoC.draw [] [1, 1, 1, 1, 1, 1, 3, 1] rfl (by kernel_rfl) ?_
    refine GoK.s rfl (Y.move rfl) ?_
    refine GoK.s rfl (Y.move rfl) ?_
    refine GoK.s rfl (Y.slice0X i underlying173 sizeOf142 rfl rfl rfl (by omega)) ?_
    refine GoK.s rfl (Y.move rfl) ?_
    refine GoK.s rfl (Y.move rfl) ?_
    refine GoK.s rfl (Y.sliceX0 (i + 1) underlying173 sizeOf142 rfl rfl rfl (by omega)) ?_
    refine GoK.d3 rfl (Does.appendDel rfl underlying173 underlying173 typeInfo142 rfl rfl rfl .auto (by omega) (by omega) (rqsE_one _) h0) ?_
    rintro _ _ ⟨rfl, rfl⟩
    refine GoK.s rfl (Y.assign rfl) ?_
    refine GoK.nil (GoE.then_normal (GoC.seq (GoC.region ?_)))
    refine GoL.y rfl (Y.move rfl) ?_
    refine GoL.y rfl (Y.move rfl) ?_
    refine GoL.y rfl (Y.lenSlice underlying173 rfl) ?_
    refine GoL.y rfl (Y.move rfl) ?_
    refine GoL.y rfl (Y.sliceX (i + (xs.length - (i + 1))) xs.length underlying173 sizeOf142 rfl rfl rfl rfl rfl (by omega) hc) ?_
    refine GoL.does rfl (Does.clearSp (xs := xs.take i ++ xs.drop (i + 1)) underlying173 zeroValue142 rfl rfl rfl rfl (by rw [List.length_append, List.length_take, List.length_drop]; omega) (by omega) .auto) ?_
    rintro _ _ ⟨rfl, rfl⟩
    refine GoL.nil (GoE.then_normal (GoC.seq (GoC.region ?_)))
    refine GoL.y rfl (Y.move rfl) ?_
    refine GoL.y rfl (Y.assign rfl) ?_
    refine GoL.nil (GoE.then_normal (GoC.ret ?_))
    rw [erase_td]
    refine GoE.ret1 rfl rfl fun w s => ⟨_, ?_, trivial, finE .auto s⟩
    rfl

set_option maxRecDepth 20000 in
theorem DeleteP {W : World} {v : Value} {xs : List Ptr} {i : Nat} (hi : i < xs.length) (hl : xs.length ≤ 1000000000) : Fn Tryz.prog W 238 [v, .int .i64 (i : Int), .int .i64 ((i + 1 : Nat) : Int)] [sl putE 2 v xs] Value (fun u => u) (fun _ => True) (fun u => [sl putE 2 u (xs.eraseIdx i)]) := by
  refine Fn.intro (N := 33) func238 rfl ntmps238 rfl fun F => ?_
  show GoC _ _ _ _ _ _ [sl putE 2 v xs, F]
  have h0 : xs ≠ [] := by intro e; rw [e] at hi; simp at hi
  refine GoC.know (fun w s => s.fact .auto (sl_shape h0)) fun e => ?_
  obtain ⟨b, cap, rfl, hc⟩ := e
  refine GoC.seq (GoC.region ?_)
  refine GoL.y rfl (Y.assign rfl) ?_
  refine GoL.nil (GoE.then_normal (GoC.seq (GoC.region ?_)))
  refine GoL.y rfl (Y.move rfl) ?_
  refine GoL.y rfl (Y.move rfl) ?_
  refine GoL.y rfl (Y.move rfl) ?_
  refine GoL.y rfl (Y.move rfl) ?_
  refine GoL.y rfl (Y.lenRd underlying179 rfl Rd.s) ?_
  refine GoL.y rfl (Y.slice3 i (i + 1) xs.length underlying179 sizeOf301 rfl rfl rfl rfl rfl rfl rfl (by omega) (by omega) hc) ?_
  refine GoL.nil (GoE.then_normal (GoC.seq (GoC.seq (GoC.region ?_))))
  refine GoL.y rfl (Y.move rfl) ?_
  refine GoL.y rfl (Y.move rfl) ?_
  refine GoL.y rfl (Y.eql rfl rfl) ?_
  refine GoL.nil (GoE.then_normal ?_)
  refine GoC.condD rfl (fun h16 => ?_) (fun h16 => ?_)
  · exact absurd h16 (by omega)
  · refine GoC.skip (GoE.then_normal (GoC.seq (GoC.region ?_)))
    refine GoL.y rfl (Y.move rfl) ?_
    refine GoL.y rfl (Y.lenRd underlying179 rfl Rd.s) ?_
    refine GoL.y rfl (Y.assign rfl) ?_
    refine GoL.nil (GoE.then_normal (GoC.seq ?_))
    refine GoC.draw [] [1, 1, 1, 1, 1, 1, 3, 1] rfl (by kernel_rfl) ?_
    refine GoK.s rfl (Y.move rfl) ?_
    refine GoK.s rfl (Y.move rfl) ?_
    refine GoK.s rfl (Y.slice0X i underlying179 sizeOf301 rfl rfl rfl (by omega)) ?_
    refine GoK.s rfl (Y.move rfl) ?_
    refine GoK.s rfl (Y.move rfl) ?_
    refine GoK.s rfl (Y.sliceX0 (i + 1) underlying179 sizeOf301 rfl rfl rfl (by omega)) ?_
    refine GoK.d3 rfl (Does.appendDel rfl underlying179 underlying179 typeInfo301 rfl rfl rfl .auto (by omega) (by omega) (putE_one _) h0) ?_
    rintro _ _ ⟨rfl, rfl⟩
    refine GoK.s rfl (Y.assign rfl) ?_
    refine GoK.nil (GoE.then_normal (GoC.seq (GoC.region ?_)))
    refine GoL.y rfl (Y.move rfl) ?_
    refine GoL.y rfl (Y.move rfl) ?_
    refine GoL.y rfl (Y.lenSlice underlying179 rfl) ?_
    refine GoL.y rfl (Y.move rfl) ?_
    refine GoL.y rfl (Y.sliceX (i + (xs.length - (i + 1))) xs.length underlying179 sizeOf301 rfl rfl rfl rfl rfl (by omega) hc) ?_
    refine GoL.does rfl (Does.clearSp (xs := xs.take i ++ xs.drop (i + 1)) underlying179 zeroValue301 rfl rfl rfl rfl (by rw [List.length_append, List.length_take, List.length_drop]; omega) (by omega) .auto) ?_
    rintro _ _ ⟨rfl, rfl⟩
    refine GoL.nil (GoE.then_normal (GoC.seq (GoC.region ?_)))
    refine GoL.y rfl (Y.move rfl) ?_
    refine GoL.y rfl (Y.assign rfl) ?_
    refine GoL.nil (GoE.then_normal (GoC.ret ?_))
    rw [erase_td]
    refine GoE.ret1 rfl rfl fun w s => ⟨_, ?_, trivial, finE .auto s⟩
    rfl

set_option maxRecDepth 20000 in
theorem DeleteI {W : World} {v : Value} {xs : List Int} {i : Nat} (hi : i < xs.length) (hl : xs.length ≤ 1000000000) : Fn Tryz.prog W 236 [v, .int .i64 (i : Int), .int .i64 ((i + 1 : Nat) : Int)] [sl intE 1 v xs] Value (fun u => u) (fun _ => True) (fun u => [sl intE 1 u (xs.eraseIdx i)]) := by
  refine Fn.intro (N := 33) func236 rfl ntmps236 rfl fun F => ?_
  show GoC _ _ _ _ _ _ [sl intE 1 v xs, F]
  have h0 : xs ≠ [] := by intro e; rw [e] at hi; simp at hi
  refine GoC.know (fun w s => s.fact .auto (sl_shape h0)) fun e => ?_
  obtain ⟨b, cap, rfl, hc⟩ := e
  refine GoC.seq (GoC.region ?_)
  refine GoL.y rfl (Y.assign rfl) ?_
  refine GoL.nil (GoE.then_normal (GoC.seq (GoC.region ?_)))
  refine GoL.y rfl (Y.move rfl) ?_
  refine GoL.y rfl (Y.move rfl) ?_
  refine GoL.y rfl (Y.move rfl) ?_
  refine GoL.y rfl (Y.move rfl) ?_
  refine GoL.y rfl (Y.lenRd underlying23 rfl Rd.s) ?_
  refine GoL.y rfl (Y.slice3 i (i + 1) xs.length underlying23 sizeOf3 rfl rfl rfl rfl rfl rfl rfl (by omega) (by omega) hc) ?_
  refine GoL.nil (GoE.then_normal (GoC.seq (GoC.seq (GoC.region ?_))))
  refine GoL.y rfl (Y.move rfl) ?_
  refine GoL.y rfl (Y.move rfl) ?_
  refine GoL.y rfl (Y.eql rfl rfl) ?_
  refine GoL.nil (GoE.then_normal ?_)
  refine GoC.condD rfl (fun h16 => ?_) (fun h16 => ?_)
  · exact absurd h16 (by omega)
  · refine GoC.skip (GoE.then_normal (GoC.seq (GoC.region ?_)))
    refine GoL.y rfl (Y.move rfl) ?_
    refine GoL.y rfl (Y.lenRd underlying23 rfl Rd.s) ?_
    refine GoL.y rfl (Y.assign rfl) ?_
    refine GoL.nil (GoE.then_normal (GoC.seq ?_))
    refine GoC.draw [] [1, 1, 1, 1, 1, 1, 3, 1] rfl (by kernel_rfl) ?_
    refine GoK.s rfl (Y.move rfl) ?_
    refine GoK.s rfl (Y.move rfl) ?_
    refine GoK.s rfl (Y.slice0X i underlying23 sizeOf3 rfl rfl rfl (by omega)) ?_
    refine GoK.s rfl (Y.move rfl) ?_
    refine GoK.s rfl (Y.move rfl) ?_
    refine GoK.s rfl (Y.sliceX0 (i + 1) underlying23 sizeOf3 rfl rfl rfl (by omega)) ?_
    refine GoK.d3 rfl (Does.appendDel rfl underlying23 underlying23 typeInfo3 rfl rfl rfl .auto (by omega) (by omega) (intE_one _) h0) ?_
    rintro _ _ ⟨rfl, rfl⟩
    refine GoK.s rfl (Y.assign rfl) ?_
    refine GoK.nil (GoE.then_normal (GoC.seq (GoC.region ?_)))
    refine GoL.y rfl (Y.move rfl) ?_
    refine GoL.y rfl (Y.move rfl) ?_
    refine GoL.y rfl (Y.lenSlice underlying23 rfl) ?_
    refine GoL.y rfl (Y.move rfl) ?_
    refine GoL.y rfl (Y.sliceX (i + (xs.length - (i + 1))) xs.length underlying23 sizeOf3 rfl rfl rfl rfl rfl (by omega) hc) ?_
    refine GoL.does rfl (Does.clearSp (xs := xs.take i ++ xs.drop (i + 1)) underlying23 zeroValue3 rfl rfl rfl rfl (by rw [List.length_append, List.length_take, List.length_drop]; omega) (by omega) .auto) ?_
    rintro _ _ ⟨rfl, rfl⟩
    refine GoL.nil (GoE.then_normal (GoC.seq (GoC.region ?_)))
    refine GoL.y rfl (Y.move rfl) ?_
    refine GoL.y rfl (Y.assign rfl) ?_
    refine GoL.nil (GoE.then_normal (GoC.ret ?_))
    rw [erase_td]
    refine GoE.ret1 rfl rfl fun w s => ⟨_, ?_, trivial, finE .auto s⟩
    rfl

set_option maxRecDepth 20000 in
theorem DeleteW {W : World} {v : Value} {xs : List Int} {i : Nat} (hi : i < xs.length) (hl : xs.length ≤ 1000000000) : Fn Tryz.prog W 237 [v, .int .i64 (i : Int), .int .i64 ((i + 1 : Nat) : Int)] [sl wrdE 1 v xs] Value (fun u => u) (fun _ => True) (fun u => [sl wrdE 1 u (xs.eraseIdx i)]) := by
  refine Fn.intro (N := 33) func237 rfl ntmps237 rfl fun F => ?_
  show GoC _ _ _ _ _ _ [sl wrdE 1 v xs, F]
  have h0 : xs ≠ [] := by intro e; rw [e] at hi; simp at hi
  refine GoC.know (fun w s => s.fact .auto (sl_shape h0)) fun e => ?_
  obtain ⟨b, cap, rfl, hc⟩ := e
  refine GoC.seq (GoC.region ?_)
  refine GoL.y rfl (Y.assign rfl) ?_
  refine GoL.nil (GoE.then_normal (GoC.seq (GoC.region ?_)))
  refine GoL.y rfl (Y.move rfl) ?_
  refine GoL.y rfl (Y.move rfl) ?_
  refine GoL.y rfl (Y.move rfl) ?_
  refine GoL.y rfl (Y.move rfl) ?_
  refine GoL.y rfl (Y.lenRd underlying51 rfl Rd.s) ?_
  refine GoL.y rfl (Y.slice3 i (i + 1) xs.length underlying51 sizeOf43 rfl rfl rfl rfl rfl rfl rfl (by omega) (by omega) hc) ?_
  refine GoL.nil (GoE.then_normal (GoC.seq (GoC.seq (GoC.region ?_))))
  refine GoL.y rfl (Y.move rfl) ?_
  refine GoL.y rfl (Y.move rfl) ?_
  refine GoL.y rfl (Y.eql rfl rfl) ?_
  refine GoL.nil (GoE.then_normal ?_)
  refine GoC.condD rfl (fun h16 => ?_) (fun h16 => ?_)
  · exact absurd h16 (by omega)
  · refine GoC.skip (GoE.then_normal (GoC.seq (GoC.region ?_)))
    refine GoL.y rfl (Y.move rfl) ?_
    refine GoL.y rfl (Y.lenRd underlying51 rfl Rd.s) ?_
    refine GoL.y rfl (Y.assign rfl) ?_
    refine GoL.nil (GoE.then_normal (GoC.seq ?_))
    refine GoC.draw [] [1, 1, 1, 1, 1, 1, 3, 1] rfl (by kernel_rfl) ?_
    refine GoK.s rfl (Y.move rfl) ?_
    refine GoK.s rfl (Y.move rfl) ?_
    refine GoK.s rfl (Y.slice0X i underlying51 sizeOf43 rfl rfl rfl (by omega)) ?_
    refine GoK.s rfl (Y.move rfl) ?_
    refine GoK.s rfl (Y.move rfl) ?_
    refine GoK.s rfl (Y.sliceX0 (i + 1) underlying51 sizeOf43 rfl rfl rfl (by omega)) ?_
    refine GoK.d3 rfl (Does.appendDel rfl underlying51 underlying51 typeInfo43 rfl rfl rfl .auto (by omega) (by omega) (wrdE_one _) h0) ?_
    rintro _ _ ⟨rfl, rfl⟩
    refine GoK.s rfl (Y.assign rfl) ?_
    refine GoK.nil (GoE.then_normal (GoC.seq (GoC.region ?_)))
    refine GoL.y rfl (Y.move rfl) ?_
    refine GoL.y rfl (Y.move rfl) ?_
    refine GoL.y rfl (Y.lenSlice underlying51 rfl) ?_
    refine GoL.y rfl (Y.move rfl) ?_
    refine GoL.y rfl (Y.sliceX (i + (xs.length - (i + 1))) xs.length underlying51 sizeOf43 rfl rfl rfl rfl rfl (by omega) hc) ?_
    refine GoL.does rfl (Does.clearSp (xs := xs.take i ++ xs.drop (i + 1)) underlying51 zeroValue43 rfl rfl rfl rfl (by rw [List.length_append, List.length_take, List.length_drop]; omega) (by omega) .auto) ?_
    rintro _ _ ⟨rfl, rfl⟩
    refine GoL.nil (GoE.then_normal (GoC.seq (GoC.region ?_)))
    refine GoL.y rfl (Y.move rfl) ?_
    refine GoL.y rfl (Y.assign rfl) ?_
    refine GoL.nil (GoE.then_normal (GoC.ret ?_))
    rw [erase_td]
    refine GoE.ret1 rfl rfl fun w s => ⟨_, ?_, trivial, finE .auto s⟩
    rfl

set_option maxRecDepth 20000 in
theorem IndexFuncG {W : World} {A : HProp} {v : Value} {xs : List Wtr} {p : Wtr → Bool} {g : Nat} {c : Value} (hr : Rd W [A] wtrE 2 v xs) (hl : xs.length ≤ 1000000000) (hg : ∀ args w, (callFunc g args).run Tryz.prog w = .ok (.enter g args) w) (hf : ∀ x ∈ xs, Fn Tryz.prog W g [.agg (wtrE x).toArray, c] [A] Unit (fun _ => .bool (p x)) (fun _ => True) (fun _ => [A])) : Fn Tryz.prog W 245 [v, .func (.func g) #[] #[c]] [A] Unit (fun _ => .int .i64 (idxP p xs 0)) (fun _ => True) (fun _ => [A]) := by
  refine Fn.intro (N := 19) func245 rfl ntmps245 rfl fun F => ?_
  haveI hRI : ∀ (H : List HProp) [HasH H A], ReadsC W H v wtrE 2 xs := fun H h => ⟨hr.at h.has⟩
  show GoC _ _ _ _ _ _ [A, F]
  refine GoC.seq (GoC.region ?_)
  refine GoL.y rfl (Y.assign rfl) ?_
  refine GoL.nil (GoE.then_normal (GoC.seq (GoC.seq (GoC.region ?_))))
  refine GoL.y rfl (Y.move rfl) ?_
  refine GoL.y rfl (Y.lenRd underlying168 rfl Rd.s) ?_
  refine GoL.y rfl (Y.move rfl) ?_
  refine GoL.nil (GoE.then_normal (GoC.block ?_))
  refine GoC.loopK (X := Nat) [4, 5, 8, 9, 10, 11, 12, 13, 14, 15, 16, 17, 18] (fun k => xs.length - k) (fun k => k ≤ xs.length ∧ idxP p xs 0 = idxP p (xs.drop k) k) (fun k => [(8, some (.int .i64 (k : Int)))]) (fun k => [A, F]) 0 ?_ ?_ ?_ ?_
  · exact ⟨Nat.zero_le _, by simp⟩
  · exact ⟨rfl, trivial⟩
  · exact fun w s => Ent.kept .auto w s
  rintro k ⟨hk, hn⟩
  refine GoC.seq (GoC.region ?_)
  refine GoL.y rfl (Y.lss rfl rfl) ?_
  refine GoL.nil (GoE.then_normal (GoC.seq ?_))
  refine GoC.condD rfl (fun h9 => ?_) (fun h9 => ?_)
  · refine GoC.skip (GoE.then_normal (GoC.seq (GoC.block (GoC.seq (GoC.region ?_)))))
    refine GoL.y rfl (Y.move rfl) ?_
    refine GoL.y rfl (Y.assign rfl) ?_
    refine GoL.nil (GoE.then_normal (GoC.seq (GoC.region ?_)))
    refine GoL.y rfl (Y.move rfl) ?_
    refine GoL.y rfl (Y.move rfl) ?_
    refine GoL.y rfl (Y.move rfl) ?_
    obtain ⟨x, hx⟩ := at_some (show k < xs.length by omega)
    refine GoL.y rfl (Y.ixRd _ underlying168 sizeOf229 rfl rfl Rd.s rfl (by first | omega | decide)) ?_
    refine GoL.y rfl (Y.lda isAgg229 rfl (Cells.rd Rd.s ‹_›) (by exact sizeOf229)) ?_
    refine GoL.does rfl (Does.callvE rfl rfl hg rfl (hf x (List.mem_of_getElem? hx)) .auto) ?_
    rintro _ _ ⟨⟨⟩, -, rfl, rfl⟩
    refine GoL.nil (GoE.then_normal ?_)
    refine GoC.cond rfl (fun h16 => ?_) (fun h16 => ?_)
    · refine GoC.seq (GoC.region ?_)
      refine GoL.y rfl (Y.move rfl) ?_
      refine GoL.y rfl (Y.assign rfl) ?_
      refine GoL.nil (GoE.then_normal (GoC.ret ?_))
      refine GoE.block_ret (GoE.then_ret (GoE.then_ret (GoE.block_ret (GoE.then_ret ?_))))
      refine GoE.ret1 rfl rfl fun w s => ⟨(), ?_, trivial, finE .auto s⟩
      rw [hn, idxP_hit hx h16]
    · refine GoC.skip ?_
      refine GoE.block_normal (GoE.then_normal (GoC.region ?_))
      refine GoL.y rfl (Y.inc rfl rfl (by omega)) ?_
      refine GoL.y rfl (Y.move rfl) ?_
      refine GoL.nil ?_
      refine GoE.againK (k + 1) .auto rfl ?_ ?_ ?_ ?_
      · first | omega | (dsimp only; omega)
      · exact ⟨by omega, hn.trans (idxP_miss hx h16)⟩
      · exact ⟨rfl, trivial⟩
      · exact fun w s => Ent.kept .auto w s
  · refine GoC.exit ?_
    refine GoE.then_exit (GoE.then_exit (GoE.block_here (GoE.then_normal ?_)))
    refine GoC.seq (GoC.region ?_)
    refine GoL.y rfl (Y.assign rfl) ?_
    refine GoL.nil (GoE.then_normal (GoC.ret ?_))
    refine GoE.ret1 rfl rfl fun w s => ⟨(), ?_, trivial, finE .auto s⟩
    rw [hn, idxP_end (by omega)]

set_option maxRecDepth 20000 in
theorem ContainsFuncG {W : World} {A : HProp} {v : Value} {xs : List Wtr} {p : Wtr → Bool} {g : Nat} {c : Value} (hr : Rd W [A] wtrE 2 v xs) (hl : xs.length ≤ 1000000000) (hg : ∀ args w, (callFunc g args).run Tryz.prog w = .ok (.enter g args) w) (hf : ∀ x ∈ xs, Fn Tryz.prog W g [.agg (wtrE x).toArray, c] [A] Unit (fun _ => .bool (p x)) (fun _ => True) (fun _ => [A])) : Fn Tryz.prog W 228 [v, .func (.func g) #[] #[c]] [A] Unit (fun _ => .bool (xs.any p)) (fun _ => True) (fun _ => [A]) := by
  refine Fn.intro (N := 9) func228 rfl ntmps228 rfl fun F => ?_
  show GoC _ _ _ _ _ _ [A, F]
  refine GoC.seq (GoC.region ?_)
  refine GoL.y rfl (Y.assign rfl) ?_
  refine GoL.nil (GoE.then_normal (GoC.seq (GoC.region ?_)))
  refine GoL.y rfl (Y.move rfl) ?_
  refine GoL.y rfl (Y.move rfl) ?_
  refine GoL.does rfl (Does.callE rfl call245 rfl (IndexFuncG hr hl hg hf) .auto) ?_
  rintro _ _ ⟨⟨⟩, -, rfl, rfl⟩
  refine GoL.y rfl (Y.geq rfl rfl) ?_
  refine GoL.y rfl (Y.assign rfl) ?_
  refine GoL.nil (GoE.then_normal (GoC.ret ?_))
  refine GoE.ret1 rfl rfl fun w s => ⟨(), ?_, trivial, finE .auto s⟩
  rw [← idxP_any xs 0]

set_option maxRecDepth 20000 in
theorem IndexFuncQ {W : World} {A : HProp} {v : Value} {xs : List Rqs} {p : Rqs → Bool} {g : Nat} {c : Value} (hr : Rd W [A] rqsE 4 v xs) (hl : xs.length ≤ 1000000000) (hg : ∀ args w, (callFunc g args).run Tryz.prog w = .ok (.enter g args) w) (hf : ∀ x ∈ xs, Fn Tryz.prog W g [.agg (rqsE x).toArray, c] [A] Unit (fun _ => .bool (p x)) (fun _ => True) (fun _ => [A])) : Fn Tryz.prog W 232 [v, .func (.func g) #[] #[c]] [A] Unit (fun _ => .int .i64 (idxP p xs 0)) (fun _ => True) (fun _ => [A]) := by
  refine Fn.intro (N := 19) func232 rfl ntmps232 rfl fun F => ?_
  haveI hRI : ∀ (H : List HProp) [HasH H A], ReadsC W H v rqsE 4 xs := fun H h => ⟨hr.at h.has⟩
  show GoC _ _ _ _ _ _ [A, F]
  refine GoC.seq (GoC.region ?_)
  refine GoL.y rfl (Y.assign rfl) ?_
  refine GoL.nil (GoE.then_normal (GoC.seq (GoC.seq (GoC.region ?_))))
  refine GoL.y rfl (Y.move rfl) ?_
  refine GoL.y rfl (Y.lenRd underlying173 rfl Rd.s) ?_
  refine GoL.y rfl (Y.move rfl) ?_
  refine GoL.nil (GoE.then_normal (GoC.block ?_))
  refine GoC.loopK (X := Nat) [4, 5, 8, 9, 10, 11, 12, 13, 14, 15, 16, 17, 18] (fun k => xs.length - k) (fun k => k ≤ xs.length ∧ idxP p xs 0 = idxP p (xs.drop k) k) (fun k => [(8, some (.int .i64 (k : Int)))]) (fun k => [A, F]) 0 ?_ ?_ ?_ ?_
  · exact ⟨Nat.zero_le _, by simp⟩
  · exact ⟨rfl, trivial⟩
  · exact fun w s => Ent.kept .auto w s
  rintro k ⟨hk, hn⟩
  refine GoC.seq (GoC.region ?_)
  refine GoL.y rfl (Y.lss rfl rfl) ?_
  refine GoL.nil (GoE.then_normal (GoC.seq ?_))
  refine GoC.condD rfl (fun h9 => ?_) (fun h9 => ?_)
  · refine GoC.skip (GoE.then_normal (GoC.seq (GoC.block (GoC.seq (GoC.region ?_)))))
    refine GoL.y rfl (Y.move rfl) ?_
    refine GoL.y rfl (Y.assign rfl) ?_
    refine GoL.nil (GoE.then_normal (GoC.seq (GoC.region ?_)))
    refine GoL.y rfl (Y.move rfl) ?_
    refine GoL.y rfl (Y.move rfl) ?_
    refine GoL.y rfl (Y.move rfl) ?_
    obtain ⟨x, hx⟩ := at_some (show k < xs.length by omega)
    refine GoL.y rfl (Y.ixRd _ underlying173 sizeOf142 rfl rfl Rd.s rfl (by first | omega | decide)) ?_
    refine GoL.y rfl (Y.lda isAgg142 rfl (Cells.rd Rd.s ‹_›) (by exact sizeOf142)) ?_
    refine GoL.does rfl (Does.callvE rfl rfl hg rfl (hf x (List.mem_of_getElem? hx)) .auto) ?_
    rintro _ _ ⟨⟨⟩, -, rfl, rfl⟩
    refine GoL.nil (GoE.then_normal ?_)
    refine GoC.cond rfl (fun h16 => ?_) (fun h16 => ?_)
    · refine GoC.seq (GoC.region ?_)
      refine GoL.y rfl (Y.move rfl) ?_
      refine GoL.y rfl (Y.assign rfl) ?_
      refine GoL.nil (GoE.then_normal (GoC.ret ?_))
      refine GoE.block_ret (GoE.then_ret (GoE.then_ret (GoE.block_ret (GoE.then_ret ?_))))
      refine GoE.ret1 rfl rfl fun w s => ⟨(), ?_, trivial, finE .auto s⟩
      rw [hn, idxP_hit hx h16]
    · refine GoC.skip ?_
      refine GoE.block_normal (GoE.then_normal (GoC.region ?_))
      refine GoL.y rfl (Y.inc rfl rfl (by omega)) ?_
      refine GoL.y rfl (Y.move rfl) ?_
      refine GoL.nil ?_
      refine GoE.againK (k + 1) .auto rfl ?_ ?_ ?_ ?_
      · first | omega | (dsimp only; omega)
      · exact ⟨by omega, hn.trans (idxP_miss hx h16)⟩
      · exact ⟨rfl, trivial⟩
      · exact fun w s => Ent.kept .auto w s
  · refine GoC.exit ?_
    refine GoE.then_exit (GoE.then_exit (GoE.block_here (GoE.then_normal ?_)))
    refine GoC.seq (GoC.region ?_)
    refine GoL.y rfl (Y.assign rfl) ?_
    refine GoL.nil (GoE.then_normal (GoC.ret ?_))
    refine GoE.ret1 rfl rfl fun w s => ⟨(), ?_, trivial, finE .auto s⟩
    rw [hn, idxP_end (by omega)]

set_option maxRecDepth 20000 in
theorem ContainsFuncQ {W : World} {A : HProp} {v : Value} {xs : List Rqs} {p : Rqs → Bool} {g : Nat} {c : Value} (hr : Rd W [A] rqsE 4 v xs) (hl : xs.length ≤ 1000000000) (hg : ∀ args w, (callFunc g args).run Tryz.prog w = .ok (.enter g args) w) (hf : ∀ x ∈ xs, Fn Tryz.prog W g [.agg (rqsE x).toArray, c] [A] Unit (fun _ => .bool (p x)) (fun _ => True) (fun _ => [A])) : Fn Tryz.prog W 204 [v, .func (.func g) #[] #[c]] [A] Unit (fun _ => .bool (xs.any p)) (fun _ => True) (fun _ => [A]) := by
  refine Fn.intro (N := 9) func204 rfl ntmps204 rfl fun F => ?_
  show GoC _ _ _ _ _ _ [A, F]
  refine GoC.seq (GoC.region ?_)
  refine GoL.y rfl (Y.assign rfl) ?_
  refine GoL.nil (GoE.then_normal (GoC.seq (GoC.region ?_)))
  refine GoL.y rfl (Y.move rfl) ?_
  refine GoL.y rfl (Y.move rfl) ?_
  refine GoL.does rfl (Does.callE rfl call232 rfl (IndexFuncQ hr hl hg hf) .auto) ?_
  rintro _ _ ⟨⟨⟩, -, rfl, rfl⟩
  refine GoL.y rfl (Y.geq rfl rfl) ?_
  refine GoL.y rfl (Y.assign rfl) ?_
  refine GoL.nil (GoE.then_normal (GoC.ret ?_))
  refine GoE.ret1 rfl rfl fun w s => ⟨(), ?_, trivial, finE .auto s⟩
  rw [← idxP_any xs 0]

set_option maxRecDepth 20000 in
theorem IndexFuncP {W : World} {A : HProp} {v : Value} {xs : List Ptr} {p : Ptr → Bool} {g : Nat} {c : Value} (hr : Rd W [A] putE 2 v xs) (hl : xs.length ≤ 1000000000) (hg : ∀ args w, (callFunc g args).run Tryz.prog w = .ok (.enter g args) w) (hf : ∀ x ∈ xs, Fn Tryz.prog W g [.agg (putE x).toArray, c] [A] Unit (fun _ => .bool (p x)) (fun _ => True) (fun _ => [A])) : Fn Tryz.prog W 247 [v, .func (.func g) #[] #[c]] [A] Unit (fun _ => .int .i64 (idxP p xs 0)) (fun _ => True) (fun _ => [A]) := by
  refine Fn.intro (N := 19) func247 rfl ntmps247 rfl fun F => ?_
  haveI hRI : ∀ (H : List HProp) [HasH H A], ReadsC W H v putE 2 xs := fun H h => ⟨hr.at h.has⟩
  show GoC _ _ _ _ _ _ [A, F]
  refine GoC.seq (GoC.region ?_)
  refine GoL.y rfl (Y.assign rfl) ?_
  refine GoL.nil (GoE.then_normal (GoC.seq (GoC.seq (GoC.region ?_))))
  refine GoL.y rfl (Y.move rfl) ?_
  refine GoL.y rfl (Y.lenRd underlying179 rfl Rd.s) ?_
  refine GoL.y rfl (Y.move rfl) ?_
  refine GoL.nil (GoE.then_normal (GoC.block ?_))
  refine GoC.loopK (X := Nat) [4, 5, 8, 9, 10, 11, 12, 13, 14, 15, 16, 17, 18] (fun k => xs.length - k) (fun k => k ≤ xs.length ∧ idxP p xs 0 = idxP p (xs.drop k) k) (fun k => [(8, some (.int .i64 (k : Int)))]) (fun k => [A, F]) 0 ?_ ?_ ?_ ?_
  · exact ⟨Nat.zero_le _, by simp⟩
  · exact ⟨rfl, trivial⟩
  · exact fun w s => Ent.kept .auto w s
  rintro k ⟨hk, hn⟩
  refine GoC.seq (GoC.region ?_)
  refine GoL.y rfl (Y.lss rfl rfl) ?_
  refine GoL.nil (GoE.then_normal (GoC.seq ?_))
  refine GoC.condD rfl (fun h9 => ?_) (fun h9 => ?_)
  · refine GoC.skip (GoE.then_normal (GoC.seq (GoC.block (GoC.seq (GoC.region ?_)))))
    refine GoL.y rfl (Y.move rfl) ?_
    refine GoL.y rfl (Y.assign rfl) ?_
    refine GoL.nil (GoE.then_normal (GoC.seq (GoC.region ?_)))
    refine GoL.y rfl (Y.move rfl) ?_
    refine GoL.y rfl (Y.move rfl) ?_
    refine GoL.y rfl (Y.move rfl) ?_
    obtain ⟨x, hx⟩ := at_some (show k < xs.length by omega)
    refine GoL.y rfl (Y.ixRd _ underlying179 sizeOf301 rfl rfl Rd.s rfl (by first | omega | decide)) ?_
    refine GoL.y rfl (Y.lda isAgg301 rfl (Cells.rd Rd.s ‹_›) (by exact sizeOf301)) ?_
    refine GoL.does rfl (Does.callvE rfl rfl hg rfl (hf x (List.mem_of_getElem? hx)) .auto) ?_
    rintro _ _ ⟨⟨⟩, -, rfl, rfl⟩
    refine GoL.nil (GoE.then_normal ?_)
    refine GoC.cond rfl (fun h16 => ?_) (fun h16 => ?_)
    · refine GoC.seq (GoC.region ?_)
      refine GoL.y rfl (Y.move rfl) ?_
      refine GoL.y rfl (Y.assign rfl) ?_
      refine GoL.nil (GoE.then_normal (GoC.ret ?_))
      refine GoE.block_ret (GoE.then_ret (GoE.then_ret (GoE.block_ret (GoE.then_ret ?_))))
      refine GoE.ret1 rfl rfl fun w s => ⟨(), ?_, trivial, finE .auto s⟩
      rw [hn, idxP_hit hx h16]
    · refine GoC.skip ?_
      refine GoE.block_normal (GoE.then_normal (GoC.region ?_))
      refine GoL.y rfl (Y.inc rfl rfl (by omega)) ?_
      refine GoL.y rfl (Y.move rfl) ?_
      refine GoL.nil ?_
      refine GoE.againK (k + 1) .auto rfl ?_ ?_ ?_ ?_
      · first | omega | (dsimp only; omega)
      · exact ⟨by omega, hn.trans (idxP_miss hx h16)⟩
      · exact ⟨rfl, trivial⟩
      · exact fun w s => Ent.kept .auto w s
  · refine GoC.exit ?_
    refine GoE.then_exit (GoE.then_exit (GoE.block_here (GoE.then_normal ?_)))
    refine GoC.seq (GoC.region ?_)
    refine GoL.y rfl (Y.assign rfl) ?_
    refine GoL.nil (GoE.then_normal (GoC.ret ?_))
    refine GoE.ret1 rfl rfl fun w s => ⟨(), ?_, trivial, finE .auto s⟩
    rw [hn, idxP_end (by omega)]

set_option maxRecDepth 20000 in
theorem ContainsFuncP {W : World} {A : HProp} {v : Value} {xs : List Ptr} {p : Ptr → Bool} {g : Nat} {c : Value} (hr : Rd W [A] putE 2 v xs) (hl : xs.length ≤ 1000000000) (hg : ∀ args w, (callFunc g args).run Tryz.prog w = .ok (.enter g args) w) (hf : ∀ x ∈ xs, Fn Tryz.prog W g [.agg (putE x).toArray, c] [A] Unit (fun _ => .bool (p x)) (fun _ => True) (fun _ => [A])) : Fn Tryz.prog W 234 [v, .func (.func g) #[] #[c]] [A] Unit (fun _ => .bool (xs.any p)) (fun _ => True) (fun _ => [A]) := by
  refine Fn.intro (N := 9) func234 rfl ntmps234 rfl fun F => ?_
  show GoC _ _ _ _ _ _ [A, F]
  refine GoC.seq (GoC.region ?_)
  refine GoL.y rfl (Y.assign rfl) ?_
  refine GoL.nil (GoE.then_normal (GoC.seq (GoC.region ?_)))
  refine GoL.y rfl (Y.move rfl) ?_
  refine GoL.y rfl (Y.move rfl) ?_
  refine GoL.does rfl (Does.callE rfl call247 rfl (IndexFuncP hr hl hg hf) .auto) ?_
  rintro _ _ ⟨⟨⟩, -, rfl, rfl⟩
  refine GoL.y rfl (Y.geq rfl rfl) ?_
  refine GoL.y rfl (Y.assign rfl) ?_
  refine GoL.nil (GoE.then_normal (GoC.ret ?_))
  refine GoE.ret1 rfl rfl fun w s => ⟨(), ?_, trivial, finE .auto s⟩
  rw [← idxP_any xs 0]

set_option maxRecDepth 20000 in
theorem IndexFuncM {W : World} {A : HProp} {v : Value} {xs : List (Value × Mtx)} {p : (Value × Mtx) → Bool} {g : Nat} {c : Value} (hr : Rd W [A] mtxE 3 v xs) (hl : xs.length ≤ 1000000000) (hg : ∀ args w, (callFunc g args).run Tryz.prog w = .ok (.enter g args) w) (hf : ∀ x ∈ xs, Fn Tryz.prog W g [.agg (mtxE x).toArray, c] [A] Unit (fun _ => .bool (p x)) (fun _ => True) (fun _ => [A])) : Fn Tryz.prog W 227 [v, .func (.func g) #[] #[c]] [A] Unit (fun _ => .int .i64 (idxP p xs 0)) (fun _ => True) (fun _ => [A]) := by
  refine Fn.intro (N := 19) func227 rfl ntmps227 rfl fun F => ?_
  haveI hRI : ∀ (H : List HProp) [HasH H A], ReadsC W H v mtxE 3 xs := fun H h => ⟨hr.at h.has⟩
  show GoC _ _ _ _ _ _ [A, F]
  refine GoC.seq (GoC.region ?_)
  refine GoL.y rfl (Y.assign rfl) ?_
  refine GoL.nil (GoE.then_normal (GoC.seq (GoC.seq (GoC.region ?_))))
  refine GoL.y rfl (Y.move rfl) ?_
  refine GoL.y rfl (Y.lenRd underlying162 rfl Rd.s) ?_
  refine GoL.y rfl (Y.move rfl) ?_
  refine GoL.nil (GoE.then_normal (GoC.block ?_))
  refine GoC.loopK (X := Nat) [4, 5, 8, 9, 10, 11, 12, 13, 14, 15, 16, 17, 18] (fun k => xs.length - k) (fun k => k ≤ xs.length ∧ idxP p xs 0 = idxP p (xs.drop k) k) (fun k => [(8, some (.int .i64 (k : Int)))]) (fun k => [A, F]) 0 ?_ ?_ ?_ ?_
  · exact ⟨Nat.zero_le _, by simp⟩
  · exact ⟨rfl, trivial⟩
  · exact fun w s => Ent.kept .auto w s
  rintro k ⟨hk, hn⟩
  refine GoC.seq (GoC.region ?_)
  refine GoL.y rfl (Y.lss rfl rfl) ?_
  refine GoL.nil (GoE.then_normal (GoC.seq ?_))
  refine GoC.condD rfl (fun h9 => ?_) (fun h9 => ?_)
  · refine GoC.skip (GoE.then_normal (GoC.seq (GoC.block (GoC.seq (GoC.region ?_)))))
    refine GoL.y rfl (Y.move rfl) ?_
    refine GoL.y rfl (Y.assign rfl) ?_
    refine GoL.nil (GoE.then_normal (GoC.seq (GoC.region ?_)))
    refine GoL.y rfl (Y.move rfl) ?_
    refine GoL.y rfl (Y.move rfl) ?_
    refine GoL.y rfl (Y.move rfl) ?_
    obtain ⟨x, hx⟩ := at_some (show k < xs.length by omega)
    refine GoL.y rfl (Y.ixRd _ underlying162 sizeOf233 rfl rfl Rd.s rfl (by first | omega | decide)) ?_
    refine GoL.y rfl (Y.lda isAgg233 rfl (Cells.rd Rd.s ‹_›) (by exact sizeOf233)) ?_
    refine GoL.does rfl (Does.callvE rfl rfl hg rfl (hf x (List.mem_of_getElem? hx)) .auto) ?_
    rintro _ _ ⟨⟨⟩, -, rfl, rfl⟩
    refine GoL.nil (GoE.then_normal ?_)
    refine GoC.cond rfl (fun h16 => ?_) (fun h16 => ?_)
    · refine GoC.seq (GoC.region ?_)
      refine GoL.y rfl (Y.move rfl) ?_
      refine GoL.y rfl (Y.assign rfl) ?_
      refine GoL.nil (GoE.then_normal (GoC.ret ?_))
      refine GoE.block_ret (GoE.then_ret (GoE.then_ret (GoE.block_ret (GoE.then_ret ?_))))
      refine GoE.ret1 rfl rfl fun w s => ⟨(), ?_, trivial, finE .auto s⟩
      rw [hn, idxP_hit hx h16]
    · refine GoC.skip ?_
      refine GoE.block_normal (GoE.then_normal (GoC.region ?_))
      refine GoL.y rfl (Y.inc rfl rfl (by omega)) ?_
      refine GoL.y rfl (Y.move rfl) ?_
      refine GoL.nil ?_
      refine GoE.againK (k + 1) .auto rfl ?_ ?_ ?_ ?_
      · first | omega | (dsimp only; omega)
      · exact ⟨by omega, hn.trans (idxP_miss hx h16)⟩
      · exact ⟨rfl, trivial⟩
      · exact fun w s => Ent.kept .auto w s
  · refine GoC.exit ?_
    refine GoE.then_exit (GoE.then_exit (GoE.block_here (GoE.then_normal ?_)))
    refine GoC.seq (GoC.region ?_)
    refine GoL.y rfl (Y.assign rfl) ?_
    refine GoL.nil (GoE.then_normal (GoC.ret ?_))
    refine GoE.ret1 rfl rfl fun w s => ⟨(), ?_, trivial, finE .auto s⟩
    rw [hn, idxP_end (by omega)]

set_option maxRecDepth 20000 in
theorem ContainsFuncM {W : World} {A : HProp} {v : Value} {xs : List (Value × Mtx)} {p : (Value × Mtx) → Bool} {g : Nat} {c : Value} (hr : Rd W [A] mtxE 3 v xs) (hl : xs.length ≤ 1000000000) (hg : ∀ args w, (callFunc g args).run Tryz.prog w = .ok (.enter g args) w) (hf : ∀ x ∈ xs, Fn Tryz.prog W g [.agg (mtxE x).toArray, c] [A] Unit (fun _ => .bool (p x)) (fun _ => True) (fun _ => [A])) : Fn Tryz.prog W 197 [v, .func (.func g) #[] #[c]] [A] Unit (fun _ => .bool (xs.any p)) (fun _ => True) (fun _ => [A]) := by
  refine Fn.intro (N := 9) func197 rfl ntmps197 rfl fun F => ?_
  show GoC _ _ _ _ _ _ [A, F]
  refine GoC.seq (GoC.region ?_)
  refine GoL.y rfl (Y.assign rfl) ?_
  refine GoL.nil (GoE.then_normal (GoC.seq (GoC.region ?_)))
  refine GoL.y rfl (Y.move rfl) ?_
  refine GoL.y rfl (Y.move rfl) ?_
  refine GoL.does rfl (Does.callE rfl call227 rfl (IndexFuncM hr hl hg hf) .auto) ?_
  rintro _ _ ⟨⟨⟩, -, rfl, rfl⟩
  refine GoL.y rfl (Y.geq rfl rfl) ?_
  refine GoL.y rfl (Y.assign rfl) ?_
  refine GoL.nil (GoE.then_normal (GoC.ret ?_))
  refine GoE.ret1 rfl rfl fun w s => ⟨(), ?_, trivial, finE .auto s⟩
  rw [← idxP_any xs 0]

set_option maxRecDepth 20000 in
theorem IndexFuncR {W : World} {A : HProp} {v : Value} {xs : List (Value × List Wtr)} {p : (Value × List Wtr) → Bool} {g : Nat} {c : Value} (hr : Rd W [A] fstE 1 v xs) (hl : xs.length ≤ 1000000000) (hg : ∀ args w, (callFunc g args).run Tryz.prog w = .ok (.enter g args) w) (hf : ∀ x ∈ xs, Fn Tryz.prog W g [.agg (fstE x).toArray, c] [A] Unit (fun _ => .bool (p x)) (fun _ => True) (fun _ => [A])) : Fn Tryz.prog W 230 [v, .func (.func g) #[] #[c]] [A] Unit (fun _ => .int .i64 (idxP p xs 0)) (fun _ => True) (fun _ => [A]) := by
  refine Fn.intro (N := 19) func230 rfl ntmps230 rfl fun F => ?_
  haveI hRI : ∀ (H : List HProp) [HasH H A], ReadsC W H v fstE 1 xs := fun H h => ⟨hr.at h.has⟩
  show GoC _ _ _ _ _ _ [A, F]
  refine GoC.seq (GoC.region ?_)
  refine GoL.y rfl (Y.assign rfl) ?_
  refine GoL.nil (GoE.then_normal (GoC.seq (GoC.seq (GoC.region ?_))))
  refine GoL.y rfl (Y.move rfl) ?_
  refine GoL.y rfl (Y.lenRd underlying164 rfl Rd.s) ?_
  refine GoL.y rfl (Y.move rfl) ?_
  refine GoL.nil (GoE.then_normal (GoC.block ?_))
  refine GoC.loopK (X := Nat) [4, 5, 8, 9, 10, 11, 12, 13, 14, 15, 16, 17, 18] (fun k => xs.length - k) (fun k => k ≤ xs.length ∧ idxP p xs 0 = idxP p (xs.drop k) k) (fun k => [(8, some (.int .i64 (k : Int)))]) (fun k => [A, F]) 0 ?_ ?_ ?_ ?_
  · exact ⟨Nat.zero_le _, by simp⟩
  · exact ⟨rfl, trivial⟩
  · exact fun w s => Ent.kept .auto w s
  rintro k ⟨hk, hn⟩
  refine GoC.seq (GoC.region ?_)
  refine GoL.y rfl (Y.lss rfl rfl) ?_
  refine GoL.nil (GoE.then_normal (GoC.seq ?_))
  refine GoC.condD rfl (fun h9 => ?_) (fun h9 => ?_)
  · refine GoC.skip (GoE.then_normal (GoC.seq (GoC.block (GoC.seq (GoC.region ?_)))))
    refine GoL.y rfl (Y.move rfl) ?_
    refine GoL.y rfl (Y.assign rfl) ?_
    refine GoL.nil (GoE.then_normal (GoC.seq (GoC.region ?_)))
    refine GoL.y rfl (Y.move rfl) ?_
    refine GoL.y rfl (Y.move rfl) ?_
    refine GoL.y rfl (Y.move rfl) ?_
    obtain ⟨x, hx⟩ := at_some (show k < xs.length by omega)
    refine GoL.y rfl (Y.ixRd _ underlying164 sizeOf170 rfl rfl Rd.s rfl (by first | omega | decide)) ?_
    refine GoL.y rfl (Y.lda isAgg170 rfl (Cells.rd Rd.s ‹_›) (by exact sizeOf170)) ?_
    refine GoL.does rfl (Does.callvE rfl rfl hg rfl (hf x (List.mem_of_getElem? hx)) .auto) ?_
    rintro _ _ ⟨⟨⟩, -, rfl, rfl⟩
    refine GoL.nil (GoE.then_normal ?_)
    refine GoC.cond rfl (fun h16 => ?_) (fun h16 => ?_)
    · refine GoC.seq (GoC.region ?_)
      refine GoL.y rfl (Y.move rfl) ?_
      refine GoL.y rfl (Y.assign rfl) ?_
      refine GoL.nil (GoE.then_normal (GoC.ret ?_))
      refine GoE.block_ret (GoE.then_ret (GoE.then_ret (GoE.block_ret (GoE.then_ret ?_))))
      refine GoE.ret1 rfl rfl fun w s => ⟨(), ?_, trivial, finE .auto s⟩
      rw [hn, idxP_hit hx h16]
    · refine GoC.skip ?_
      refine GoE.block_normal (GoE.then_normal (GoC.region ?_))
      refine GoL.y rfl (Y.inc rfl rfl (by omega)) ?_
      refine GoL.y rfl (Y.move rfl) ?_
      refine GoL.nil ?_
      refine GoE.againK (k + 1) .auto rfl ?_ ?_ ?_ ?_
      · first | omega | (dsimp only; omega)
      · exact ⟨by omega, hn.trans (idxP_miss hx h16)⟩
      · exact ⟨rfl, trivial⟩
      · exact fun w s => Ent.kept .auto w s
  · refine GoC.exit ?_
    refine GoE.then_exit (GoE.then_exit (GoE.block_here (GoE.then_normal ?_)))
    refine GoC.seq (GoC.region ?_)
    refine GoL.y rfl (Y.assign rfl) ?_
    refine GoL.nil (GoE.then_normal (GoC.ret ?_))
    refine GoE.ret1 rfl rfl fun w s => ⟨(), ?_, trivial, finE .auto s⟩
    rw [hn, idxP_end (by omega)]

set_option maxRecDepth 20000 in
theorem ContainsFuncR {W : World} {A : HProp} {v : Value} {xs : List (Value × List Wtr)} {p : (Value × List Wtr) → Bool} {g : Nat} {c : Value} (hr : Rd W [A] fstE 1 v xs) (hl : xs.length ≤ 1000000000) (hg : ∀ args w, (callFunc g args).run Tryz.prog w = .ok (.enter g args) w) (hf : ∀ x ∈ xs, Fn Tryz.prog W g [.agg (fstE x).toArray, c] [A] Unit (fun _ => .bool (p x)) (fun _ => True) (fun _ => [A])) : Fn Tryz.prog W 200 [v, .func (.func g) #[] #[c]] [A] Unit (fun _ => .bool (xs.any p)) (fun _ => True) (fun _ => [A]) := by
  refine Fn.intro (N := 9) func200 rfl ntmps200 rfl fun F => ?_
  show GoC _ _ _ _ _ _ [A, F]
  refine GoC.seq (GoC.region ?_)
  refine GoL.y rfl (Y.assign rfl) ?_
  refine GoL.nil (GoE.then_normal (GoC.seq (GoC.region ?_)))
  refine GoL.y rfl (Y.move rfl) ?_
  refine GoL.y rfl (Y.move rfl) ?_
  refine GoL.does rfl (Does.callE rfl call230 rfl (IndexFuncR hr hl hg hf) .auto) ?_
  rintro _ _ ⟨⟨⟩, -, rfl, rfl⟩
  refine GoL.y rfl (Y.geq rfl rfl) ?_
  refine GoL.y rfl (Y.assign rfl) ?_
  refine GoL.nil (GoE.then_normal (GoC.ret ?_))
  refine GoE.ret1 rfl rfl fun w s => ⟨(), ?_, trivial, finE .auto s⟩
  rw [← idxP_any xs 0]

set_option maxRecDepth 20000 in
theorem IndexFuncS {W : World} {A : HProp} {v : Value} {xs : List (Value × Smp)} {p : (Value × Smp) → Bool} {g : Nat} {c : Value} (hr : Rd W [A] smpE 2 v xs) (hl : xs.length ≤ 1000000000) (hg : ∀ args w, (callFunc g args).run Tryz.prog w = .ok (.enter g args) w) (hf : ∀ x ∈ xs, Fn Tryz.prog W g [.agg (smpE x).toArray, c] [A] Unit (fun _ => .bool (p x)) (fun _ => True) (fun _ => [A])) : Fn Tryz.prog W 231 [v, .func (.func g) #[] #[c]] [A] Unit (fun _ => .int .i64 (idxP p xs 0)) (fun _ => True) (fun _ => [A]) := by
  refine Fn.intro (N := 19) func231 rfl ntmps231 rfl fun F => ?_
  haveI hRI : ∀ (H : List HProp) [HasH H A], ReadsC W H v smpE 2 xs := fun H h => ⟨hr.at h.has⟩
  show GoC _ _ _ _ _ _ [A, F]
  refine GoC.seq (GoC.region ?_)
  refine GoL.y rfl (Y.assign rfl) ?_
  refine GoL.nil (GoE.then_normal (GoC.seq (GoC.seq (GoC.region ?_))))
  refine GoL.y rfl (Y.move rfl) ?_
  refine GoL.y rfl (Y.lenRd underlying165 rfl Rd.s) ?_
  refine GoL.y rfl (Y.move rfl) ?_
  refine GoL.nil (GoE.then_normal (GoC.block ?_))
  refine GoC.loopK (X := Nat) [4, 5, 8, 9, 10, 11, 12, 13, 14, 15, 16, 17, 18] (fun k => xs.length - k) (fun k => k ≤ xs.length ∧ idxP p xs 0 = idxP p (xs.drop k) k) (fun k => [(8, some (.int .i64 (k : Int)))]) (fun k => [A, F]) 0 ?_ ?_ ?_ ?_
  · exact ⟨Nat.zero_le _, by simp⟩
  · exact ⟨rfl, trivial⟩
  · exact fun w s => Ent.kept .auto w s
  rintro k ⟨hk, hn⟩
  refine GoC.seq (GoC.region ?_)
  refine GoL.y rfl (Y.lss rfl rfl) ?_
  refine GoL.nil (GoE.then_normal (GoC.seq ?_))
  refine GoC.condD rfl (fun h9 => ?_) (fun h9 => ?_)
  · refine GoC.skip (GoE.then_normal (GoC.seq (GoC.block (GoC.seq (GoC.region ?_)))))
    refine GoL.y rfl (Y.move rfl) ?_
    refine GoL.y rfl (Y.assign rfl) ?_
    refine GoL.nil (GoE.then_normal (GoC.seq (GoC.region ?_)))
    refine GoL.y rfl (Y.move rfl) ?_
    refine GoL.y rfl (Y.move rfl) ?_
    refine GoL.y rfl (Y.move rfl) ?_
    obtain ⟨x, hx⟩ := at_some (show k < xs.length by omega)
    refine GoL.y rfl (Y.ixRd _ underlying165 sizeOf172 rfl rfl Rd.s rfl (by first | omega | decide)) ?_
    refine GoL.y rfl (Y.lda isAgg172 rfl (Cells.rd Rd.s ‹_›) (by exact sizeOf172)) ?_
    refine GoL.does rfl (Does.callvE rfl rfl hg rfl (hf x (List.mem_of_getElem? hx)) .auto) ?_
    rintro _ _ ⟨⟨⟩, -, rfl, rfl⟩
    refine GoL.nil (GoE.then_normal ?_)
    refine GoC.cond rfl (fun h16 => ?_) (fun h16 => ?_)
    · refine GoC.seq (GoC.region ?_)
      refine GoL.y rfl (Y.move rfl) ?_
      refine GoL.y rfl (Y.assign rfl) ?_
      refine GoL.nil (GoE.then_normal (GoC.ret ?_))
      refine GoE.block_ret (GoE.then_ret (GoE.then_ret (GoE.block_ret (GoE.then_ret ?_))))
      refine GoE.ret1 rfl rfl fun w s => ⟨(), ?_, trivial, finE .auto s⟩
      rw [hn, idxP_hit hx h16]
    · refine GoC.skip ?_
      refine GoE.block_normal (GoE.then_normal (GoC.region ?_))
      refine GoL.y rfl (Y.inc rfl rfl (by omega)) ?_
      refine GoL.y rfl (Y.move rfl) ?_
      refine GoL.nil ?_
      refine GoE.againK (k + 1) .auto rfl ?_ ?_ ?_ ?_
      · first | omega | (dsimp only; omega)
      · exact ⟨by omega, hn.trans (idxP_miss hx h16)⟩
      · exact ⟨rfl, trivial⟩
      · exact fun w s => Ent.kept .auto w s
  · refine GoC.exit ?_
    refine GoE.then_exit (GoE.then_exit (GoE.block_here (GoE.then_normal ?_)))
    refine GoC.seq (GoC.region ?_)
    refine GoL.y rfl (Y.assign rfl) ?_
    refine GoL.nil (GoE.then_normal (GoC.ret ?_))
    refine GoE.ret1 rfl rfl fun w s => ⟨(), ?_, trivial, finE .auto s⟩
    rw [hn, idxP_end (by omega)]

set_option maxRecDepth 20000 in
theorem ContainsFuncS {W : World} {A : HProp} {v : Value} {xs : List (Value × Smp)} {p : (Value × Smp) → Bool} {g : Nat} {c : Value} (hr : Rd W [A] smpE 2 v xs) (hl : xs.length ≤ 1000000000) (hg : ∀ args w, (callFunc g args).run Tryz.prog w = .ok (.enter g args) w) (hf : ∀ x ∈ xs, Fn Tryz.prog W g [.agg (smpE x).toArray, c] [A] Unit (fun _ => .bool (p x)) (fun _ => True) (fun _ => [A])) : Fn Tryz.prog W 202 [v, .func (.func g) #[] #[c]] [A] Unit (fun _ => .bool (xs.any p)) (fun _ => True) (fun _ => [A]) := by
  refine Fn.intro (N := 9) func202 rfl ntmps202 rfl fun F => ?_
  show GoC _ _ _ _ _ _ [A, F]
  refine GoC.seq (GoC.region ?_)
  refine GoL.y rfl (Y.assign rfl) ?_
  refine GoL.nil (GoE.then_normal (GoC.seq (GoC.region ?_)))
  refine GoL.y rfl (Y.move rfl) ?_
  refine GoL.y rfl (Y.move rfl) ?_
  refine GoL.does rfl (Does.callE rfl call231 rfl (IndexFuncS hr hl hg hf) .auto) ?_
  rintro _ _ ⟨⟨⟩, -, rfl, rfl⟩
  refine GoL.y rfl (Y.geq rfl rfl) ?_
  refine GoL.y rfl (Y.assign rfl) ?_
  refine GoL.nil (GoE.then_normal (GoC.ret ?_))
  refine GoE.ret1 rfl rfl fun w s => ⟨(), ?_, trivial, finE .auto s⟩
  rw [← idxP_any xs 0]

end Go.SLYtpcjdohmjmeehaaGreat
