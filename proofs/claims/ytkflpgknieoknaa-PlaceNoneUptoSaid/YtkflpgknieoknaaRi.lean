/- Walks of functions, and what they compute. Conditions: none, this text proves no statement. -/
import Derived.Test.YtkflpgknieoknaaProg
import Derived.Test.YtkflpgknieoknaaRh
import Derived.Test.YtkflpgknieoknaaK10
import Derived.KernelRfl
namespace Go.SLYtkflpgknieoknaa
open Go Go.RowKit Go.Proofs

set_option maxRecDepth 20000 in
theorem alloc_Targets {W : World} {b : Nat} {bl : List Nat} {k : Krn} {A : HProp} {v : Value} {prio : List Int} {turn : Int} {m : Nat} (hpr : Rd W [A] intE 1 v prio) (hpl : prio.length ≤ 1000000000) (hk : KOk m k) : Fn Try.prog W 12 [ptr b, v, .int .i64 turn] [krnX b bl k, A] Value (fun u => u) (fun _ => True) (fun u => [sl intE 1 u (k.targets prio turn), krnX b bl k, A]) := by
  refine Fn.intro (N := 14) Try.func12 rfl Try.ntmps12 rfl fun F => ?_
  haveI hRI : ∀ (H : List HProp) [HasH H A], ReadsC W H v intE 1 prio := fun H h => ⟨hpr.at h.has⟩
  show GoC _ _ _ _ _ _ [krnX b bl k, A, F]
  refine GoC.seq ?_
  refine GoC.region ?_
  refine GoL.y rfl (Y.assign rfl) ?_
  refine GoL.nil ?_
  refine GoE.then_normal ?_
  refine GoC.seq ?_
  refine GoC.region ?_
  refine GoL.y rfl (Y.move rfl) ?_
  refine GoL.does rfl (Does.callE rfl Try.call25 rfl kern_Procs (by repeat (first | exact Ent.nil | (apply Ent.cons; · repeat (first | exact Take.here | apply Take.there)) | apply Ent.opt0 | apply Ent.opt1 | apply Ent.void | apply Ent.emp0 | apply Ent.two | (apply Ent.allV; · exact sl_void) | (apply Ent.allM; · exact fun _ => sl_void) | apply Ent.f1 rfl | apply Ent.f2 rfl | apply Ent.f3 rfl | apply Ent.f4 rfl | apply Ent.f10 rfl | apply Ent.grp | assumption | exact trivial | rfl | omega))) ?_
  rintro _ _ ⟨⟨⟩, -, rfl, rfl⟩
  refine GoL.y rfl (Y.move rfl) ?_
  refine GoL.does rfl (Does.callE rfl Try.call28 rfl (kern_Demand hk) (by repeat (first | exact Ent.nil | (apply Ent.cons; · repeat (first | exact Take.here | apply Take.there)) | apply Ent.opt0 | apply Ent.opt1 | apply Ent.void | apply Ent.emp0 | apply Ent.two | (apply Ent.allV; · exact sl_void) | (apply Ent.allM; · exact fun _ => sl_void) | apply Ent.f1 rfl | apply Ent.f2 rfl | apply Ent.f3 rfl | apply Ent.f4 rfl | apply Ent.f10 rfl | apply Ent.grp | assumption | exact trivial | rfl | omega))) ?_
  rintro _ _ ⟨u10, -, rfl, rfl⟩
  refine GoL.y rfl (Y.move rfl) ?_
  refine GoL.y rfl (Y.move rfl) ?_
  refine GoL.does rfl (Does.callE rfl Try.call27 rfl (share_Fair (A := seps [sl intE 1 u10 k.demand, A]) (demand := k.demand) (prio := prio) (Rd.grp (Rd.sl .here)) (Rd.grp (hpr.at (.there .here))) ⟨hpl, dem_le hk⟩) (by repeat (first | exact Ent.nil | (apply Ent.cons; · repeat (first | exact Take.here | apply Take.there)) | apply Ent.opt0 | apply Ent.opt1 | apply Ent.void | apply Ent.emp0 | apply Ent.two | (apply Ent.allV; · exact sl_void) | (apply Ent.allM; · exact fun _ => sl_void) | apply Ent.f1 rfl | apply Ent.f2 rfl | apply Ent.f3 rfl | apply Ent.f4 rfl | apply Ent.f10 rfl | apply Ent.grp | assumption | exact trivial | rfl | omega))) ?_
  rintro _ _ ⟨u13, -, rfl, rfl⟩
  refine GoL.y rfl (Y.assign rfl) ?_
  refine GoL.nil ?_
  refine GoE.then_normal ?_
  refine GoC.ret ?_
  refine GoE.ungrp (by repeat (first | exact Take.here | apply Take.there)) ?_
  refine GoE.ret1 rfl rfl fun w s => ⟨_, ?_, trivial, finE (by repeat (first | exact Ent.nil | (apply Ent.cons; · repeat (first | exact Take.here | apply Take.there)) | apply Ent.opt0 | apply Ent.opt1 | apply Ent.void | apply Ent.emp0 | apply Ent.two | (apply Ent.allV; · exact sl_void) | (apply Ent.allM; · exact fun _ => sl_void) | apply Ent.f1 rfl | apply Ent.f2 rfl | apply Ent.f3 rfl | apply Ent.f4 rfl | apply Ent.f10 rfl | apply Ent.grp | assumption | exact trivial | rfl | omega)) s⟩
  rfl

set_option maxRecDepth 20000 in
theorem alloc_Fair {W : World} {b : Nat} {bl : List Nat} {k : Krn} {A : HProp} {v : Value} {prio : List Int} {turn : Int} {m : Nat} (hpr : Rd W [A] intE 1 v prio) (hpl : prio.length ≤ 1000000000) (hk : KOk m k) : Fn Try.prog W 19 [ptr b, v, .int .i64 turn] [krnX b bl k, A] Unit (fun _ => .bool (k.fair prio turn)) (fun _ => True) (fun _ => [krnX b bl k, A]) := by
  refine Fn.intro (N := 34) Try.func19 rfl Try.ntmps19 rfl fun F => ?_
  haveI hRI : ∀ (H : List HProp) [HasH H A], ReadsC W H v intE 1 prio := fun H h => ⟨hpr.at h.has⟩
  show GoC _ _ _ _ _ _ [krnX b bl k, A, F]
  have htf := targets_facts hk prio turn
  have hll := hk.ll
  refine GoC.seq ?_
  refine GoC.region ?_
  refine GoL.y rfl (Y.assign rfl) ?_
  refine GoL.nil ?_
  refine GoE.then_normal ?_
  refine GoC.seq ?_
  refine GoC.region ?_
  refine GoL.y rfl (Y.move rfl) ?_
  refine GoL.y rfl (Y.move rfl) ?_
  refine GoL.y rfl (Y.move rfl) ?_
  refine GoL.does rfl (Does.callE rfl Try.call12 rfl (alloc_Targets hpr hpl hk) (by repeat (first | exact Ent.nil | (apply Ent.cons; · repeat (first | exact Take.here | apply Take.there)) | apply Ent.opt0 | apply Ent.opt1 | apply Ent.void | apply Ent.emp0 | apply Ent.two | (apply Ent.allV; · exact sl_void) | (apply Ent.allM; · exact fun _ => sl_void) | apply Ent.f1 rfl | apply Ent.f2 rfl | apply Ent.f3 rfl | apply Ent.f4 rfl | apply Ent.f10 rfl | apply Ent.grp | assumption | exact trivial | rfl | omega))) ?_
  rintro _ _ ⟨u13, -, rfl, rfl⟩
  refine GoL.y rfl (Y.assign rfl) ?_
  refine GoL.nil ?_
  refine GoE.then_normal ?_
  refine GoC.seq ?_
  refine GoC.seq ?_
  refine GoC.region ?_
  refine GoL.y rfl (Y.move rfl) ?_
  first
    | refine GoL.y rfl (Y.lenRd Try.underlying23 rfl Rd.s) ?_
    | refine GoL.y rfl (Y.lenRd Try.underlying23 rfl ‹_›) ?_
    | refine GoL.y rfl (Y.lenSlice Try.underlying23 rfl) ?_
  refine GoL.y rfl (Y.move rfl) ?_
  refine GoL.does rfl (Does.callE rfl Try.call37 rfl kern_Spaces (by repeat (first | exact Ent.nil | (apply Ent.cons; · repeat (first | exact Take.here | apply Take.there)) | apply Ent.opt0 | apply Ent.opt1 | apply Ent.void | apply Ent.emp0 | apply Ent.two | (apply Ent.allV; · exact sl_void) | (apply Ent.allM; · exact fun _ => sl_void) | apply Ent.f1 rfl | apply Ent.f2 rfl | apply Ent.f3 rfl | apply Ent.f4 rfl | apply Ent.f10 rfl | apply Ent.grp | assumption | exact trivial | rfl | omega))) ?_
  rintro _ _ ⟨⟨⟩, -, rfl, rfl⟩
  refine GoL.y rfl (Y.neq rfl rfl) ?_
  refine GoL.nil ?_
  refine GoE.then_normal ?_
  refine GoC.condD rfl (fun h18 => ?_) (fun h18 => ?_)
  · refine GoC.seq ?_
    refine GoC.region ?_
    refine GoL.y rfl (Y.assign rfl) ?_
    refine GoL.nil ?_
    refine GoE.then_normal ?_
    refine GoC.ret ?_
    refine GoE.then_ret ?_
    refine GoE.ret1 rfl rfl fun w s => ⟨(), ?_, trivial, finE (by repeat (first | exact Ent.nil | (apply Ent.cons; · repeat (first | exact Take.here | apply Take.there)) | apply Ent.opt0 | apply Ent.opt1 | apply Ent.void | apply Ent.emp0 | apply Ent.two | (apply Ent.allV; · exact sl_void) | (apply Ent.allM; · exact fun _ => sl_void) | apply Ent.f1 rfl | apply Ent.f2 rfl | apply Ent.f3 rfl | apply Ent.f4 rfl | apply Ent.f10 rfl | apply Ent.grp | assumption | exact trivial | rfl | omega)) s⟩
    rw [fair_len h18]
  · have h18 : (k.targets prio turn).length = k.libs.length := by omega
    refine GoC.skip ?_
    refine GoE.then_normal ?_
    refine GoC.seq ?_
    refine GoC.seq ?_
    refine GoC.region ?_
    refine GoL.y rfl (Y.move rfl) ?_
    first
      | refine GoL.y rfl (Y.lenRd Try.underlying23 rfl Rd.s) ?_
      | refine GoL.y rfl (Y.lenRd Try.underlying23 rfl ‹_›) ?_
      | refine GoL.y rfl (Y.lenSlice Try.underlying23 rfl) ?_
    refine GoL.y rfl (Y.move rfl) ?_
    refine GoL.nil ?_
    refine GoE.then_normal ?_
    refine GoC.block ?_
    refine GoC.loopK (X := Nat) [6, 8, 9, 21, 22, 23, 24, 25, 26, 27, 28, 29, 30, 31, 32, 33] (fun z => (k.targets prio turn).length - z) (fun z => z ≤ (k.targets prio turn).length ∧ (k.libs.map fun l => (l.procs.length : Int)).take z = (k.targets prio turn).take z) (fun z => [(21, some (.int .i64 (z : Int)))]) (fun z => [sl intE 1 u13 (k.targets prio turn), krnX b bl k, A, F]) 0 ?_ ?_ ?_ ?_
    · exact ⟨Nat.zero_le _, rfl⟩
    · exact ⟨rfl, trivial⟩
    · exact fun w s => Ent.kept (by repeat (first | exact Ent.nil | (apply Ent.cons; · repeat (first | exact Take.here | apply Take.there)) | apply Ent.opt0 | apply Ent.opt1 | apply Ent.void | apply Ent.emp0 | apply Ent.two | (apply Ent.allV; · exact sl_void) | (apply Ent.allM; · exact fun _ => sl_void) | apply Ent.f1 rfl | apply Ent.f2 rfl | apply Ent.f3 rfl | apply Ent.f4 rfl | apply Ent.f10 rfl | apply Ent.grp | assumption | exact trivial | rfl | omega)) w s
    rintro n ⟨hn, heq⟩
    refine GoC.seq ?_
    refine GoC.region ?_
    refine GoL.y rfl (Y.lss rfl rfl) ?_
    refine GoL.nil ?_
    refine GoE.then_normal ?_
    refine GoC.seq ?_
    refine GoC.condD rfl (fun h22 => ?_) (fun h22 => ?_)
    · refine GoC.skip ?_
      refine GoE.then_normal ?_
      refine GoC.seq ?_
      refine GoC.block ?_
      refine GoC.seq ?_
      refine GoC.region ?_
      refine GoL.y rfl (Y.move rfl) ?_
      obtain ⟨w, hw⟩ := at_some (show n < (k.targets prio turn).length by omega)
      obtain ⟨l, hl⟩ := at_some (show n < k.libs.length by omega)
      have hlo := hk.lib l (List.mem_of_getElem? hl)
      first
        | refine GoL.y rfl (Y.ixRd _ Try.underlying23 Try.sizeOf3 rfl rfl Rd.s rfl (by first | omega | decide)) ?_
        | refine GoL.y rfl (Y.ixRd _ Try.underlying23 Try.sizeOf3 rfl rfl ‹_› rfl (by first | omega | decide)) ?_
      refine GoL.y rfl (Y.load Try.isAgg3 rfl (Cell.rd0 Rd.s hw rfl)) ?_
      refine GoL.y rfl (Y.assign rfl) ?_
      refine GoL.y rfl (Y.assign rfl) ?_
      refine GoL.nil ?_
      refine GoE.then_normal ?_
      refine GoC.seq ?_
      refine GoC.region ?_
      refine GoL.y rfl (Y.move rfl) ?_
      refine GoL.y rfl (Y.move rfl) ?_
      refine GoL.does rfl (Does.callE rfl Try.call20 rfl kern_Lib (by repeat (first | exact Ent.nil | (apply Ent.cons; · repeat (first | exact Take.here | apply Take.there)) | apply Ent.opt0 | apply Ent.opt1 | apply Ent.void | apply Ent.emp0 | apply Ent.two | (apply Ent.allV; · exact sl_void) | (apply Ent.allM; · exact fun _ => sl_void) | apply Ent.f1 rfl | apply Ent.f2 rfl | apply Ent.f3 rfl | apply Ent.f4 rfl | apply Ent.f10 rfl | apply Ent.grp | assumption | exact trivial | rfl | omega))) ?_
      rintro _ _ ⟨⟨⟩, -, rfl, rfl⟩
      refine GoL.o3 (C := krnX b bl k) (by repeat (first | exact Take.here | apply Take.there)) rfl ?_
      rintro vo vl xs ⟨hxb, hxs⟩
      have hxl := map_len hxs
      have hbl := map_len hxb
      have hxx := And.intro hxb hxs
      obtain ⟨x, hx, hxe, hbx⟩ := two_back hxb hxs hl
      rw [geti_nat, hbx]
      subst hxe
      refine GoL.fr (by repeat (first | exact Take.here | apply Take.there)) (all_out (f := fun x : Nat × Lib => libH x.1 x.2) hx) ?_
      refine GoL.o2 (C := libH x.1 x.2) (by repeat (first | exact Take.here | apply Take.there)) rfl ?_
      rintro bs br -
      refine GoL.does rfl (Does.callE rfl Try.call21 rfl (lib_Procs (l := x.2) (Nat.le_trans hlo.vl (by decide))) (by repeat (first | exact Ent.nil | (apply Ent.cons; · repeat (first | exact Take.here | apply Take.there)) | apply Ent.opt0 | apply Ent.opt1 | apply Ent.void | apply Ent.emp0 | apply Ent.two | (apply Ent.allV; · exact sl_void) | (apply Ent.allM; · exact fun _ => sl_void) | apply Ent.f1 rfl | apply Ent.f2 rfl | apply Ent.f3 rfl | apply Ent.f4 rfl | apply Ent.f10 rfl | apply Ent.grp | assumption | exact trivial | rfl | omega))) ?_
      rintro _ _ ⟨u29, -, rfl, rfl⟩
      refine GoL.to (A := allH (fun x : Nat × Lib => libH x.1 x.2) xs) (by repeat (first | exact Ent.nil | (apply Ent.cons; · repeat (first | exact Take.here | apply Take.there)) | apply Ent.opt0 | apply Ent.opt1 | apply Ent.void | apply Ent.emp0 | apply Ent.two | (apply Ent.allV; · exact sl_void) | (apply Ent.allM; · exact fun _ => sl_void) | apply Ent.f1 rfl | apply Ent.f2 rfl | apply Ent.f3 rfl | apply Ent.f4 rfl | apply Ent.f10 rfl | apply Ent.grp | assumption | exact trivial | rfl | omega)) (all_back (f := fun x : Nat × Lib => libH x.1 x.2) hx) ?_
      refine GoL.to (A := krnX b bl k) (by repeat (first | exact Ent.nil | (apply Ent.cons; · repeat (first | exact Take.here | apply Take.there)) | apply Ent.opt0 | apply Ent.opt1 | apply Ent.void | apply Ent.emp0 | apply Ent.two | (apply Ent.allV; · exact sl_void) | (apply Ent.allM; · exact fun _ => sl_void) | apply Ent.f1 rfl | apply Ent.f2 rfl | apply Ent.f3 rfl | apply Ent.f4 rfl | apply Ent.f10 rfl | apply Ent.grp | assumption | exact trivial | rfl | omega)) fold1 ?_
      first
        | refine GoL.y rfl (Y.lenRd Try.underlying23 rfl Rd.s) ?_
        | refine GoL.y rfl (Y.lenRd Try.underlying23 rfl ‹_›) ?_
        | refine GoL.y rfl (Y.lenSlice Try.underlying23 rfl) ?_
      refine GoL.y rfl (Y.move rfl) ?_
      refine GoL.y rfl (Y.neq rfl rfl) ?_
      refine GoL.nil ?_
      refine GoE.then_normal ?_
      refine GoC.condD rfl (fun h32 => ?_) (fun h32 => ?_)
      · refine GoC.seq ?_
        refine GoC.region ?_
        refine GoL.y rfl (Y.assign rfl) ?_
        refine GoL.nil ?_
        refine GoE.then_normal ?_
        refine GoC.ret ?_
        refine GoE.block_ret (GoE.then_ret (GoE.then_ret (GoE.block_ret (GoE.then_ret ?_))))
        refine GoE.ret1 rfl rfl fun w s => ⟨(), ?_, trivial, finE (by repeat (first | exact Ent.nil | (apply Ent.cons; · repeat (first | exact Take.here | apply Take.there)) | apply Ent.opt0 | apply Ent.opt1 | apply Ent.void | apply Ent.emp0 | apply Ent.two | (apply Ent.allV; · exact sl_void) | (apply Ent.allM; · exact fun _ => sl_void) | apply Ent.f1 rfl | apply Ent.f2 rfl | apply Ent.f3 rfl | apply Ent.f4 rfl | apply Ent.f10 rfl | apply Ent.grp | assumption | exact trivial | rfl | omega)) s⟩
        rw [fair_dif hl hw h32]
      · refine GoC.skip ?_
        refine GoE.block_normal (GoE.then_normal ?_)
        refine GoC.region ?_
        first
          | refine GoL.y rfl (Y.inc rfl rfl (by omega)) ?_
          | refine GoL.y rfl (Y.add rfl rfl (by omega)) ?_
        refine GoL.y rfl (Y.move rfl) ?_
        refine GoL.nil ?_
        refine GoE.againK (n + 1) (by repeat (first | exact Top.base | refine Top.cons rfl ?_)) rfl ?_ ?_ ?_ ?_
        · first | omega | (dsimp only; omega)
        · exact ⟨by omega, by rw [take_snoc hw, take_snoc (show (k.libs.map fun l => (l.procs.length : Int))[n]? = some (x.2.procs.length : Int) by rw [List.getElem?_map, hl]; rfl), heq, Decidable.of_not_not h32]⟩
        · exact ⟨rfl, trivial⟩
        · exact fun w s => Ent.kept (by repeat (first | exact Ent.nil | (apply Ent.cons; · repeat (first | exact Take.here | apply Take.there)) | apply Ent.opt0 | apply Ent.opt1 | apply Ent.void | apply Ent.emp0 | apply Ent.two | (apply Ent.allV; · exact sl_void) | (apply Ent.allM; · exact fun _ => sl_void) | apply Ent.f1 rfl | apply Ent.f2 rfl | apply Ent.f3 rfl | apply Ent.f4 rfl | apply Ent.f10 rfl | apply Ent.grp | assumption | exact trivial | rfl | omega)) w s
    · obtain rfl : n = (k.targets prio turn).length := by omega
      rw [List.take_length, List.take_of_length_le (by rw [List.length_map]; omega)] at heq
      refine GoC.exit ?_
      refine GoE.then_exit (GoE.then_exit (GoE.block_here (GoE.then_normal ?_)))
      refine GoC.seq ?_
      refine GoC.region ?_
      refine GoL.y rfl (Y.assign rfl) ?_
      refine GoL.nil ?_
      refine GoE.then_normal ?_
      refine GoC.ret ?_
      refine GoE.ret1 rfl rfl fun w s => ⟨(), ?_, trivial, finE (by repeat (first | exact Ent.nil | (apply Ent.cons; · repeat (first | exact Take.here | apply Take.there)) | apply Ent.opt0 | apply Ent.opt1 | apply Ent.void | apply Ent.emp0 | apply Ent.two | (apply Ent.allV; · exact sl_void) | (apply Ent.allM; · exact fun _ => sl_void) | apply Ent.f1 rfl | apply Ent.f2 rfl | apply Ent.f3 rfl | apply Ent.f4 rfl | apply Ent.f10 rfl | apply Ent.grp | assumption | exact trivial | rfl | omega)) s⟩
      rw [fair_eq h18 heq]

set_option maxRecDepth 20000 in
theorem alloc_Share {W : World} {b : Nat} {bl : List Nat} {k : Krn} {A : HProp} {v : Value} {prio : List Int} {turn : Int} {m : Nat} (hpr : Rd W [A] intE 1 v prio) (hpl : prio.length ≤ 1000000000) (hi : Inv m k) (hm : m ≤ 200000000) : Fn Try.prog W 8 [ptr b, v, .int .i64 turn] [krnX b bl k, A] Unit (fun _ => .int .i64 ((k.share prio turn).2 : Int)) (fun _ => True) (fun _ => [krnX b bl (k.share prio turn).1, A]) := by
  refine Fn.intro (N := 73) Try.func8 rfl Try.ntmps8 rfl fun F => ?_
  haveI hRI : ∀ (H : List HProp) [HasH H A], ReadsC W H v intE 1 prio := fun H h => ⟨hpr.at h.has⟩
  show GoC _ _ _ _ _ _ [krnX b bl k, A, F]
  refine GoC.seq ?_
  refine GoC.region ?_
  refine GoL.y rfl (Y.assign rfl) ?_
  refine GoL.nil ?_
  refine GoE.then_normal ?_
  refine GoC.seq ?_
  refine GoC.region ?_
  refine GoL.y rfl (Y.move rfl) ?_
  refine GoL.y rfl (Y.move rfl) ?_
  refine GoL.y rfl (Y.move rfl) ?_
  refine GoL.does rfl (Does.callE rfl Try.call12 rfl (alloc_Targets hpr hpl hi.ok) (by repeat (first | exact Ent.nil | (apply Ent.cons; · repeat (first | exact Take.here | apply Take.there)) | apply Ent.opt0 | apply Ent.opt1 | apply Ent.void | apply Ent.emp0 | apply Ent.two | (apply Ent.allV; · exact sl_void) | (apply Ent.allM; · exact fun _ => sl_void) | apply Ent.f1 rfl | apply Ent.f2 rfl | apply Ent.f3 rfl | apply Ent.f4 rfl | apply Ent.f10 rfl | apply Ent.grp | assumption | exact trivial | rfl | omega))) ?_
  rintro _ _ ⟨u17, -, rfl, rfl⟩
  obtain ⟨want, hwt⟩ : ∃ want, want = k.targets prio turn := ⟨_, rfl⟩
  have htf := targets_facts hi.ok prio turn
  have hsh : k.share prio turn = giveFrom want 0 (takeFrom want 0 (k, 0)) := by rw [hwt]; rfl
  rw [← hwt] at htf ⊢
  rw [hsh]
  have hll := hi.ok.ll
  refine GoL.y rfl (Y.assign rfl) ?_
  refine GoL.nil ?_
  refine GoE.then_normal ?_
  refine GoC.seq ?_
  refine GoC.region ?_
  refine GoL.y rfl (Y.assign rfl) ?_
  refine GoL.nil ?_
  refine GoE.then_normal ?_
  refine GoC.seq ?_
  refine GoC.seq ?_
  refine GoC.region ?_
  refine GoL.y rfl (Y.move rfl) ?_
  first
    | refine GoL.y rfl (Y.lenRd Try.underlying23 rfl Rd.s) ?_
    | refine GoL.y rfl (Y.lenRd Try.underlying23 rfl ‹_›) ?_
    | refine GoL.y rfl (Y.lenSlice Try.underlying23 rfl) ?_
  refine GoL.y rfl (Y.move rfl) ?_
  refine GoL.nil ?_
  refine GoE.then_normal ?_
  refine GoC.block ?_
  refine GoC.loopK (X := Nat × Krn × Nat) [8, 9, 10, 12, 20, 21, 22, 23, 24, 25, 26, 27, 28, 29, 30, 31, 32, 33, 34, 35, 36, 37, 38, 39, 40, 41, 42, 43, 44, 45, 46, 47] (fun z => want.length - z.1) (fun z => z.1 ≤ want.length ∧ Inv (m + 2 * z.2.2) z.2.1 ∧ z.2.2 ≤ 64 * z.1 ∧ z.2.1.libs.length = k.libs.length ∧ z.2.1.owner.length = k.owner.length ∧ takeFrom want 0 (k, 0) = takeFrom (want.drop z.1) z.1 (z.2.1, z.2.2)) (fun z => [(20, some (.int .i64 (z.1 : Int))), (8, some (.int .i64 (z.2.2 : Int)))]) (fun z => [sl intE 1 u17 want, krnX b bl z.2.1, A, F]) (0, k, 0) ?_ ?_ ?_ ?_
  · exact ⟨Nat.zero_le _, hi, Nat.zero_le _, rfl, rfl, rfl⟩
  · exact ⟨rfl, rfl, trivial⟩
  · exact fun w s => Ent.kept (by repeat (first | exact Ent.nil | (apply Ent.cons; · repeat (first | exact Take.here | apply Take.there)) | apply Ent.opt0 | apply Ent.opt1 | apply Ent.void | apply Ent.emp0 | apply Ent.two | (apply Ent.allV; · exact sl_void) | (apply Ent.allM; · exact fun _ => sl_void) | apply Ent.f1 rfl | apply Ent.f2 rfl | apply Ent.f3 rfl | apply Ent.f4 rfl | apply Ent.f10 rfl | apply Ent.grp | assumption | exact trivial | rfl | omega)) w s
  rintro ⟨n, k1, mv⟩ ⟨hn, hi1, hmv, hl1, ho1, htk⟩
  simp only at hn hi1 hmv hl1 ho1 htk
  refine GoC.seq ?_
  refine GoC.region ?_
  refine GoL.y rfl (Y.lss rfl rfl) ?_
  refine GoL.nil ?_
  refine GoE.then_normal ?_
  refine GoC.seq ?_
  refine GoC.condD rfl (fun h21 => ?_) (fun h21 => ?_)
  · refine GoC.skip ?_
    refine GoE.then_normal ?_
    refine GoC.seq ?_
    refine GoC.block ?_
    refine GoC.seq ?_
    refine GoC.region ?_
    obtain ⟨w, hw⟩ := at_some (show n < want.length by omega)
    have hw64 := htf.2.1 w (List.mem_of_getElem? hw)
    obtain ⟨l, hl⟩ := at_some (show n < k1.libs.length by omega)
    have hlo := hi1.ok.lib l (List.mem_of_getElem? hl)
    refine GoL.y rfl (Y.move rfl) ?_
    refine GoL.y rfl (Y.assign rfl) ?_
    refine GoL.nil ?_
    refine GoE.then_normal ?_
    refine GoC.seq ?_
    refine GoC.region ?_
    refine GoL.y rfl (Y.move rfl) ?_
    refine GoL.y rfl (Y.move rfl) ?_
    refine GoL.does rfl (Does.callE rfl Try.call20 rfl kern_Lib (by repeat (first | exact Ent.nil | (apply Ent.cons; · repeat (first | exact Take.here | apply Take.there)) | apply Ent.opt0 | apply Ent.opt1 | apply Ent.void | apply Ent.emp0 | apply Ent.two | (apply Ent.allV; · exact sl_void) | (apply Ent.allM; · exact fun _ => sl_void) | apply Ent.f1 rfl | apply Ent.f2 rfl | apply Ent.f3 rfl | apply Ent.f4 rfl | apply Ent.f10 rfl | apply Ent.grp | assumption | exact trivial | rfl | omega))) ?_
    rintro _ _ ⟨⟨⟩, -, rfl, rfl⟩
    refine GoL.o3 (C := krnX b bl k1) (by repeat (first | exact Take.here | apply Take.there)) rfl ?_
    rintro vo vl xs ⟨hxb, hxs⟩
    have hxl := map_len hxs
    have hbl := map_len hxb
    have hxx := And.intro hxb hxs
    obtain ⟨x, hx, hxe, hbx⟩ := two_back hxb hxs hl
    rw [geti_nat, hbx]
    subst hxe
    refine GoL.fr (by repeat (first | exact Take.here | apply Take.there)) (all_out (f := fun x : Nat × Lib => libH x.1 x.2) hx) ?_
    refine GoL.o2 (C := libH x.1 x.2) (by repeat (first | exact Take.here | apply Take.there)) rfl ?_
    rintro bs br -
    refine GoL.does rfl (Does.callE rfl Try.call21 rfl (lib_Procs (l := x.2) (Nat.le_trans hlo.vl (by decide))) (by repeat (first | exact Ent.nil | (apply Ent.cons; · repeat (first | exact Take.here | apply Take.there)) | apply Ent.opt0 | apply Ent.opt1 | apply Ent.void | apply Ent.emp0 | apply Ent.two | (apply Ent.allV; · exact sl_void) | (apply Ent.allM; · exact fun _ => sl_void) | apply Ent.f1 rfl | apply Ent.f2 rfl | apply Ent.f3 rfl | apply Ent.f4 rfl | apply Ent.f10 rfl | apply Ent.grp | assumption | exact trivial | rfl | omega))) ?_
    rintro _ _ ⟨u26, -, rfl, rfl⟩
    refine GoL.to (A := allH (fun x : Nat × Lib => libH x.1 x.2) xs) (by repeat (first | exact Ent.nil | (apply Ent.cons; · repeat (first | exact Take.here | apply Take.there)) | apply Ent.opt0 | apply Ent.opt1 | apply Ent.void | apply Ent.emp0 | apply Ent.two | (apply Ent.allV; · exact sl_void) | (apply Ent.allM; · exact fun _ => sl_void) | apply Ent.f1 rfl | apply Ent.f2 rfl | apply Ent.f3 rfl | apply Ent.f4 rfl | apply Ent.f10 rfl | apply Ent.grp | assumption | exact trivial | rfl | omega)) (all_back (f := fun x : Nat × Lib => libH x.1 x.2) hx) ?_
    refine GoL.to (A := krnX b bl k1) (by repeat (first | exact Ent.nil | (apply Ent.cons; · repeat (first | exact Take.here | apply Take.there)) | apply Ent.opt0 | apply Ent.opt1 | apply Ent.void | apply Ent.emp0 | apply Ent.two | (apply Ent.allV; · exact sl_void) | (apply Ent.allM; · exact fun _ => sl_void) | apply Ent.f1 rfl | apply Ent.f2 rfl | apply Ent.f3 rfl | apply Ent.f4 rfl | apply Ent.f10 rfl | apply Ent.grp | assumption | exact trivial | rfl | omega)) fold1 ?_
    refine GoL.y rfl (Y.assign rfl) ?_
    refine GoL.nil ?_
    refine GoE.then_normal ?_
    refine GoC.seq ?_
    refine GoC.region ?_
    refine GoL.y rfl (Y.move rfl) ?_
    refine GoL.y rfl (Y.move rfl) ?_
    first
      | refine GoL.y rfl (Y.lenRd Try.underlying23 rfl Rd.s) ?_
      | refine GoL.y rfl (Y.lenRd Try.underlying23 rfl ‹_›) ?_
      | refine GoL.y rfl (Y.lenSlice Try.underlying23 rfl) ?_
    refine GoL.y rfl (Y.move rfl) ?_
    refine GoL.y rfl (Y.move rfl) ?_
    first
      | refine GoL.y rfl (Y.ixRd _ Try.underlying23 Try.sizeOf3 rfl rfl Rd.s rfl (by first | omega | decide)) ?_
      | refine GoL.y rfl (Y.ixRd _ Try.underlying23 Try.sizeOf3 rfl rfl ‹_› rfl (by first | omega | decide)) ?_
    refine GoL.y rfl (Y.load Try.isAgg3 rfl (Cell.rd0 Rd.s hw rfl)) ?_
    refine GoL.y rfl (Y.min2m rfl rfl) ?_
    refine GoL.y rfl (Y.sliceFrom (min x.2.procs.length w.toNat) Try.underlying23 Try.sizeOf3 rfl rfl Rd.s (by omega) (by omega)) ?_
    obtain ⟨ps, hps⟩ : ∃ ps, ps = x.2.procs.drop w.toNat := ⟨_, rfl⟩
    have hpl64 : x.2.procs.length ≤ 64 := Nat.le_trans (procs_len _ _) hlo.vl
    have hpsl : ps.length ≤ 64 := by rw [hps, List.length_drop]; omega
    have hcut := (Rd.sl (W := W) (H := [sl intE 1 u26 x.2.procs]) .here).cut (lo := min x.2.procs.length w.toNat) (hi := x.2.procs.length) (by omega) (Nat.le_refl _)
    rw [List.take_length, drop_min, ← hps] at hcut
    haveI hIc : ∀ (H : List HProp) [HasH H (sl intE 1 u26 x.2.procs)], ReadsC W H (cut 1 (min x.2.procs.length w.toNat) x.2.procs.length u26) intE 1 ps := fun H h => ⟨hcut.at h.has⟩
    first
      | refine GoL.y rfl (Y.lenRd Try.underlying23 rfl Rd.s) ?_
      | refine GoL.y rfl (Y.lenRd Try.underlying23 rfl ‹_›) ?_
      | refine GoL.y rfl (Y.lenSlice Try.underlying23 rfl) ?_
    refine GoL.y rfl (Y.move rfl) ?_
    refine GoL.nil ?_
    refine GoE.then_normal ?_
    refine GoC.block ?_
    refine GoC.loopK (X := Nat × Krn) [8, 12, 37, 38, 39, 40, 41, 42, 43, 44, 45, 46] (fun z => ps.length - z.1) (fun z => z.1 ≤ ps.length ∧ Inv (m + 2 * (mv + z.1)) z.2 ∧ z.2.libs.length = k.libs.length ∧ z.2.owner.length = k.owner.length ∧ takeAll (ps.drop z.1) z.2 = takeAll ps k1) (fun z => [(37, some (.int .i64 (z.1 : Int))), (8, some (.int .i64 ((mv + z.1 : Nat) : Int)))]) (fun z => [sl intE 1 u26 x.2.procs, sl intE 1 u17 want, krnX b bl z.2, A, F]) (0, k1) ?_ ?_ ?_ ?_
    · exact ⟨Nat.zero_le _, hi1, hl1, ho1, rfl⟩
    · exact ⟨rfl, rfl, trivial⟩
    · exact fun w s => Ent.kept (by repeat (first | exact Ent.nil | (apply Ent.cons; · repeat (first | exact Take.here | apply Take.there)) | apply Ent.opt0 | apply Ent.opt1 | apply Ent.void | apply Ent.emp0 | apply Ent.two | (apply Ent.allV; · exact sl_void) | (apply Ent.allM; · exact fun _ => sl_void) | apply Ent.f1 rfl | apply Ent.f2 rfl | apply Ent.f3 rfl | apply Ent.f4 rfl | apply Ent.f10 rfl | apply Ent.grp | assumption | exact trivial | rfl | omega)) w s
    rintro ⟨j, k2⟩ ⟨hj, hi2, hl2, ho2, hta⟩
    simp only at hj hi2 hl2 ho2 hta
    refine GoC.seq ?_
    refine GoC.region ?_
    refine GoL.y rfl (Y.lss rfl rfl) ?_
    refine GoL.nil ?_
    refine GoE.then_normal ?_
    refine GoC.seq ?_
    refine GoC.condD rfl (fun h38 => ?_) (fun h38 => ?_)
    · refine GoC.skip ?_
      refine GoE.then_normal ?_
      refine GoC.seq ?_
      refine GoC.block ?_
      refine GoC.seq ?_
      refine GoC.region ?_
      obtain ⟨p, hp⟩ := at_some (show j < ps.length by omega)
      first
        | refine GoL.y rfl (Y.ixRd _ Try.underlying23 Try.sizeOf3 rfl rfl Rd.s rfl (by first | omega | decide)) ?_
        | refine GoL.y rfl (Y.ixRd _ Try.underlying23 Try.sizeOf3 rfl rfl ‹_› rfl (by first | omega | decide)) ?_
      first
        | refine GoL.y rfl (Y.load Try.isAgg3 rfl (Cell.a (by rfl))) ?_
        | refine GoL.y rfl (Y.load Try.isAgg3 rfl (Cell.rd0 Rd.s ‹_› (by rfl))) ?_
        | refine GoL.y rfl (Y.load Try.isAgg3 rfl (Cell.rd Rd.s ‹_› (by rfl))) ?_
        | refine GoL.y rfl (Y.load Try.isAgg3 rfl (Cell.ao (by rfl))) ?_
        | refine GoL.y rfl (Y.load Try.isAgg3 rfl (Cell.az (by rfl))) ?_
        | refine GoL.y rfl (Y.load Try.isAgg3 rfl (Cell.a ‹_›)) ?_
        | refine GoL.y rfl (Y.load Try.isAgg3 rfl (Cell.rd0 ‹_› ‹_› (by rfl))) ?_
        | refine GoL.y rfl (Y.load Try.isAgg3 rfl (Cell.rd ‹_› ‹_› (by rfl))) ?_
      refine GoL.y rfl (Y.assign rfl) ?_
      refine GoL.nil ?_
      refine GoE.then_normal ?_
      refine GoC.seq ?_
      refine GoC.region ?_
      refine GoL.y rfl (Y.move rfl) ?_
      refine GoL.y rfl (Y.move rfl) ?_
      refine GoL.does rfl (Does.callE rfl Try.call22 rfl (kern_Take (k := k2) hi2.ok (by omega)) (by repeat (first | exact Ent.nil | (apply Ent.cons; · repeat (first | exact Take.here | apply Take.there)) | apply Ent.opt0 | apply Ent.opt1 | apply Ent.void | apply Ent.emp0 | apply Ent.two | (apply Ent.allV; · exact sl_void) | (apply Ent.allM; · exact fun _ => sl_void) | apply Ent.f1 rfl | apply Ent.f2 rfl | apply Ent.f3 rfl | apply Ent.f4 rfl | apply Ent.f10 rfl | apply Ent.grp | assumption | exact trivial | rfl | omega))) ?_
      rintro _ _ ⟨⟨⟩, -, rfl, rfl⟩
      refine GoL.nil ?_
      refine GoE.then_normal ?_
      refine GoC.region ?_
      refine GoL.y rfl (Y.move rfl) ?_
      refine GoL.y rfl (Y.valW (Y.add rfl rfl (by dsimp only; omega)) (show ((mv + j : Nat) : Int) + 1 = ((mv + (j + 1) : Nat) : Int) from by omega)) ?_
      refine GoL.y rfl (Y.assign rfl) ?_
      refine GoL.nil ?_
      refine GoE.block_normal (GoE.then_normal ?_)
      refine GoC.region ?_
      first
        | refine GoL.y rfl (Y.inc rfl rfl (by omega)) ?_
        | refine GoL.y rfl (Y.add rfl rfl (by omega)) ?_
      refine GoL.y rfl (Y.move rfl) ?_
      refine GoL.nil ?_
      refine GoE.againK (j + 1, (k2.take p).2) (by repeat (first | exact Top.base | refine Top.cons rfl ?_)) rfl ?_ ?_ ?_ ?_
      · show ps.length - (j + 1) < ps.length - j; omega
      · exact ⟨by show j + 1 ≤ _; omega, hi2.take p, (take_len hi2.ok p).1.trans hl2, (take_len hi2.ok p).2.trans ho2, by rw [← hta, drop_cons hp]; rfl⟩
      · exact ⟨rfl, rfl, trivial⟩
      · exact fun w s => Ent.kept (by repeat (first | exact Ent.nil | (apply Ent.cons; · repeat (first | exact Take.here | apply Take.there)) | apply Ent.opt0 | apply Ent.opt1 | apply Ent.void | apply Ent.emp0 | apply Ent.two | (apply Ent.allV; · exact sl_void) | (apply Ent.allM; · exact fun _ => sl_void) | apply Ent.f1 rfl | apply Ent.f2 rfl | apply Ent.f3 rfl | apply Ent.f4 rfl | apply Ent.f10 rfl | apply Ent.grp | assumption | exact trivial | rfl | omega)) w s
    · obtain rfl : j = ps.length := by omega
      rw [List.drop_length] at hta
      refine GoC.exit ?_
      refine GoE.then_exit (GoE.then_exit (GoE.block_here (GoE.block_normal (GoE.then_normal ?_))))
      refine GoC.region ?_
      first
        | refine GoL.y rfl (Y.inc rfl rfl (by omega)) ?_
        | refine GoL.y rfl (Y.add rfl rfl (by omega)) ?_
      refine GoL.y rfl (Y.move rfl) ?_
      refine GoL.nil ?_
      refine GoE.againK (n + 1, k2, mv + ps.length) (by repeat (first | exact Top.base | refine Top.cons rfl ?_)) rfl ?_ ?_ ?_ ?_
      · show want.length - (n + 1) < want.length - n; omega
      · exact ⟨by show n + 1 ≤ _; omega, hi2, by show mv + ps.length ≤ 64 * (n + 1); omega, hl2, ho2, by rw [htk, take_next hw hl hps, ← hta]; rfl⟩
      · exact ⟨rfl, rfl, trivial⟩
      · exact fun w s => Ent.kept (by repeat (first | exact Ent.nil | (apply Ent.cons; · repeat (first | exact Take.here | apply Take.there)) | apply Ent.opt0 | apply Ent.opt1 | apply Ent.void | apply Ent.emp0 | apply Ent.two | (apply Ent.allV; · exact sl_void) | (apply Ent.allM; · exact fun _ => sl_void) | apply Ent.f1 rfl | apply Ent.f2 rfl | apply Ent.f3 rfl | apply Ent.f4 rfl | apply Ent.f10 rfl | apply Ent.grp | assumption | exact trivial | rfl | omega)) w s
  · obtain rfl : n = want.length := by omega
    rw [List.drop_length, takeFrom] at htk
    have hrm : want ≠ [] → Room want k1 := fun hne => by have := room_take hi (htf.2.2.2 hne) htf.2.2.1; rw [htk] at this; exact this
    rw [htk]
    have hmv5 : mv ≤ 512 := by omega
    refine GoC.exit ?_
    refine GoE.then_exit (GoE.then_exit (GoE.block_here (GoE.then_normal ?_)))
    refine GoC.seq ?_
    refine GoC.seq ?_
    refine GoC.region ?_
    refine GoL.y rfl (Y.move rfl) ?_
    first
      | refine GoL.y rfl (Y.lenRd Try.underlying23 rfl Rd.s) ?_
      | refine GoL.y rfl (Y.lenRd Try.underlying23 rfl ‹_›) ?_
      | refine GoL.y rfl (Y.lenSlice Try.underlying23 rfl) ?_
    refine GoL.y rfl (Y.move rfl) ?_
    refine GoL.nil ?_
    refine GoE.then_normal ?_
    refine GoC.block ?_
    refine GoC.loopK (X := Nat × Krn × Nat) [8, 13, 50, 51, 52, 53, 54, 55, 56, 57, 58, 59, 60, 61, 62, 63, 64, 65, 66, 67, 68, 69, 70, 71] (fun z => want.length - z.1) (fun z => z.1 ≤ want.length ∧ Inv (m + 2 * z.2.2) z.2.1 ∧ z.2.2 ≤ 512 + 64 * z.1 ∧ z.2.1.libs.length = k.libs.length ∧ (want ≠ [] → Room want z.2.1) ∧ giveFrom want 0 (k1, mv) = giveFrom (want.drop z.1) z.1 (z.2.1, z.2.2)) (fun z => [(50, some (.int .i64 (z.1 : Int))), (8, some (.int .i64 (z.2.2 : Int)))]) (fun z => [sl intE 1 u17 want, krnX b bl z.2.1, A, F]) (0, k1, mv) ?_ ?_ ?_ ?_
    · exact ⟨Nat.zero_le _, hi1, by show mv ≤ 512 + 64 * 0; omega, hl1, hrm, rfl⟩
    · exact ⟨rfl, rfl, trivial⟩
    · exact fun w s => Ent.kept (by repeat (first | exact Ent.nil | (apply Ent.cons; · repeat (first | exact Take.here | apply Take.there)) | apply Ent.opt0 | apply Ent.opt1 | apply Ent.void | apply Ent.emp0 | apply Ent.two | (apply Ent.allV; · exact sl_void) | (apply Ent.allM; · exact fun _ => sl_void) | apply Ent.f1 rfl | apply Ent.f2 rfl | apply Ent.f3 rfl | apply Ent.f4 rfl | apply Ent.f10 rfl | apply Ent.grp | assumption | exact trivial | rfl | omega)) w s
    rintro ⟨n, k3, mv3⟩ ⟨hn3, hi3, hmv3, hl3, hr3, hgv⟩
    simp only at hn3 hi3 hmv3 hl3 hr3 hgv
    refine GoC.seq ?_
    refine GoC.region ?_
    refine GoL.y rfl (Y.lss rfl rfl) ?_
    refine GoL.nil ?_
    refine GoE.then_normal ?_
    refine GoC.seq ?_
    refine GoC.condD rfl (fun h51 => ?_) (fun h51 => ?_)
    · refine GoC.skip ?_
      refine GoE.then_normal ?_
      refine GoC.seq ?_
      refine GoC.block ?_
      refine GoC.seq ?_
      refine GoC.region ?_
      obtain ⟨w, hw⟩ := at_some (show n < want.length by omega)
      have hw64 := htf.2.1 w (List.mem_of_getElem? hw)
      have hne : want ≠ [] := by rintro rfl; simp at hw
      refine GoL.y rfl (Y.move rfl) ?_
      refine GoL.y rfl (Y.assign rfl) ?_
      refine GoL.nil ?_
      refine GoE.then_normal ?_
      refine GoC.block ?_
      refine GoC.loopK (X := Nat × Krn) [8, 13, 53, 54, 55, 56, 57, 58, 59, 60, 61, 62, 63, 64, 65, 66, 67, 68, 69, 70] (fun z => w.toNat - z.2.owner.count (n : Int)) (fun z => Inv (m + 2 * (mv3 + z.1)) z.2 ∧ Room want z.2 ∧ z.2.libs.length = k.libs.length ∧ z.1 + (w.toNat - z.2.owner.count (n : Int)) = w.toNat - k3.owner.count (n : Int) ∧ giveTo (w.toNat - z.2.owner.count (n : Int)) (n : Int) z.2 = giveTo (w.toNat - k3.owner.count (n : Int)) (n : Int) k3) (fun z => [(13, some (.int .i64 (n : Int))), (8, some (.int .i64 ((mv3 + z.1 : Nat) : Int)))]) (fun z => [sl intE 1 u17 want, krnX b bl z.2, A, F]) (0, k3) ?_ ?_ ?_ ?_
      · exact ⟨hi3, hr3 hne, hl3, by simp, rfl⟩
      · exact ⟨rfl, rfl, trivial⟩
      · exact fun w s => Ent.kept (by repeat (first | exact Ent.nil | (apply Ent.cons; · repeat (first | exact Take.here | apply Take.there)) | apply Ent.opt0 | apply Ent.opt1 | apply Ent.void | apply Ent.emp0 | apply Ent.two | (apply Ent.allV; · exact sl_void) | (apply Ent.allM; · exact fun _ => sl_void) | apply Ent.f1 rfl | apply Ent.f2 rfl | apply Ent.f3 rfl | apply Ent.f4 rfl | apply Ent.f10 rfl | apply Ent.grp | assumption | exact trivial | rfl | omega)) w s
      rintro ⟨j, k2⟩ ⟨hi2, hr2, hlk2, hjc, hgt⟩
      simp only at hi2 hr2 hlk2 hjc hgt
      refine GoC.seq ?_
      refine GoC.seq ?_
      refine GoC.draw [sl intE 1 u17 want] [1, 1, 2, 2, 1, 0, 0, 0, 0, 1] rfl (by kernel_rfl) ?_
      have hnl2 : n < k2.libs.length := by omega
      obtain ⟨l2, hl2⟩ := at_some hnl2
      refine GoK.s rfl (Y.move rfl) ?_
      refine GoK.s rfl (Y.move rfl) ?_
      refine GoK.d2 rfl (Kept.ok (by repeat (first | exact Kept.nil | exact Take.here | apply Take.there | apply Kept.take))) (Does.callE rfl Try.call20 rfl kern_Lib (by repeat (first | exact Ent.nil | (apply Ent.cons; · repeat (first | exact Take.here | apply Take.there)) | apply Ent.opt0 | apply Ent.opt1 | apply Ent.void | apply Ent.emp0 | apply Ent.two | (apply Ent.allV; · exact sl_void) | (apply Ent.allM; · exact fun _ => sl_void) | apply Ent.f1 rfl | apply Ent.f2 rfl | apply Ent.f3 rfl | apply Ent.f4 rfl | apply Ent.f10 rfl | apply Ent.grp | assumption | exact trivial | rfl | omega))) (by rintro _ _ ⟨⟨⟩, -, rfl, rfl⟩; exact (Kept.ok (by repeat (first | exact Kept.nil | exact Take.here | apply Take.there | apply Kept.take)))) ?_
      rintro _ _ ⟨⟨⟩, -, rfl, rfl⟩
      refine GoK.o3 (C := krnX b bl k2) (by repeat (first | exact Take.here | apply Take.there)) rfl ?_
      rintro vo vl xs ⟨hxb, hxs⟩
      have hxl := map_len hxs
      have hbl := map_len hxb
      have hxx := And.intro hxb hxs
      obtain ⟨x, hx, hxe, hbx⟩ := two_back hxb hxs hl2
      rw [geti_nat, hbx]
      subst hxe
      refine GoK.fr (by repeat (first | exact Take.here | apply Take.there)) (all_out (f := fun x : Nat × Lib => libH x.1 x.2) hx) ?_
      refine GoK.o2 (C := libH x.1 x.2) (by repeat (first | exact Take.here | apply Take.there)) rfl ?_
      rintro bs br -
      refine GoK.d2 rfl (Kept.ok (by repeat (first | exact Kept.nil | exact Take.here | apply Take.there | apply Kept.take))) (Does.callE rfl Try.call21 rfl (lib_Procs (l := x.2) (Nat.le_trans (hi2.ok.lib x.2 (List.mem_of_getElem? hl2)).vl (by decide))) (by repeat (first | exact Ent.nil | (apply Ent.cons; · repeat (first | exact Take.here | apply Take.there)) | apply Ent.opt0 | apply Ent.opt1 | apply Ent.void | apply Ent.emp0 | apply Ent.two | (apply Ent.allV; · exact sl_void) | (apply Ent.allM; · exact fun _ => sl_void) | apply Ent.f1 rfl | apply Ent.f2 rfl | apply Ent.f3 rfl | apply Ent.f4 rfl | apply Ent.f10 rfl | apply Ent.grp | assumption | exact trivial | rfl | omega))) (by rintro _ _ ⟨u56, -, rfl, rfl⟩; exact (Kept.ok (by repeat (first | exact Kept.nil | exact Take.here | apply Take.there | apply Kept.take)))) ?_
      rintro _ _ ⟨u56, -, rfl, rfl⟩
      refine GoK.to (A := allH (fun x : Nat × Lib => libH x.1 x.2) xs) (by repeat (first | exact Ent.nil | (apply Ent.cons; · repeat (first | exact Take.here | apply Take.there)) | apply Ent.opt0 | apply Ent.opt1 | apply Ent.void | apply Ent.emp0 | apply Ent.two | (apply Ent.allV; · exact sl_void) | (apply Ent.allM; · exact fun _ => sl_void) | apply Ent.f1 rfl | apply Ent.f2 rfl | apply Ent.f3 rfl | apply Ent.f4 rfl | apply Ent.f10 rfl | apply Ent.grp | assumption | exact trivial | rfl | omega)) (all_back (f := fun x : Nat × Lib => libH x.1 x.2) hx) ?_
      refine GoK.to (A := krnX b bl k2) (by repeat (first | exact Ent.nil | (apply Ent.cons; · repeat (first | exact Take.here | apply Take.there)) | apply Ent.opt0 | apply Ent.opt1 | apply Ent.void | apply Ent.emp0 | apply Ent.two | (apply Ent.allV; · exact sl_void) | (apply Ent.allM; · exact fun _ => sl_void) | apply Ent.f1 rfl | apply Ent.f2 rfl | apply Ent.f3 rfl | apply Ent.f4 rfl | apply Ent.f10 rfl | apply Ent.grp | assumption | exact trivial | rfl | omega)) fold1 ?_
      first
        | refine GoK.s rfl (Y.lenRd Try.underlying23 rfl Rd.s) ?_
        | refine GoK.s rfl (Y.lenRd Try.underlying23 rfl ‹_›) ?_
        | refine GoK.s rfl (Y.lenSlice Try.underlying23 rfl) ?_
      refine GoK.k rfl (Kept.ok (by repeat (first | exact Kept.nil | exact Take.here | apply Take.there | apply Kept.take))) (Y.move rfl) ?_
      refine GoK.k rfl (Kept.ok (by repeat (first | exact Kept.nil | exact Take.here | apply Take.there | apply Kept.take))) (Y.move rfl) ?_
      first
        | refine GoK.k rfl (Kept.ok (by repeat (first | exact Kept.nil | exact Take.here | apply Take.there | apply Kept.take))) (Y.ixRd _ Try.underlying23 Try.sizeOf3 rfl rfl Rd.s rfl (by first | omega | decide)) ?_
        | refine GoK.k rfl (Kept.ok (by repeat (first | exact Kept.nil | exact Take.here | apply Take.there | apply Kept.take))) (Y.ixRd _ Try.underlying23 Try.sizeOf3 rfl rfl ‹_› rfl (by first | omega | decide)) ?_
      refine GoK.k rfl (Kept.ok (by repeat (first | exact Kept.nil | exact Take.here | apply Take.there | apply Kept.take))) (Y.load Try.isAgg3 rfl (Cell.rd0 Rd.s hw rfl)) ?_
      refine GoK.s rfl (Y.lss rfl rfl) ?_
      refine GoK.nil ?_
      refine GoE.then_normal ?_
      refine GoC.condD rfl (fun h62 => ?_) (fun h62 => ?_)
      · have hpc : x.2.procs.length = k2.owner.count (n : Int) := by rw [hi2.ag.procs hl2]; exact pos_len _ _ _
        have hlt : k2.owner.count (n : Int) < w.toNat := by omega
        obtain ⟨i, r, hf, hoi, hmin⟩ := free_head (hr2.free hi2.ok hw hlt)
        have hol := hi2.ok.ol
        have hfl : k2.free.length ≤ 64 := Nat.le_trans (by rw [show k2.free = posFrom (-1) k2.owner 0 from free_pos _ _, pos_len]; exact List.count_le_length) hol
        have hrg := hr2.give hw hlt hoi hl2
        refine GoC.skip ?_
        refine GoE.then_normal ?_
        refine GoC.block ?_
        refine GoC.seq ?_
        refine GoC.region ?_
        refine GoL.y rfl (Y.move rfl) ?_
        refine GoL.y rfl (Y.move rfl) ?_
        refine GoL.does rfl (Does.callE rfl Try.call9 rfl (kern_Free (k := k2) hol) (by repeat (first | exact Ent.nil | (apply Ent.cons; · repeat (first | exact Take.here | apply Take.there)) | apply Ent.opt0 | apply Ent.opt1 | apply Ent.void | apply Ent.emp0 | apply Ent.two | (apply Ent.allV; · exact sl_void) | (apply Ent.allM; · exact fun _ => sl_void) | apply Ent.f1 rfl | apply Ent.f2 rfl | apply Ent.f3 rfl | apply Ent.f4 rfl | apply Ent.f10 rfl | apply Ent.grp | assumption | exact trivial | rfl | omega))) ?_
        rintro _ _ ⟨u65, -, rfl, rfl⟩
        refine GoL.does rfl (Does.callE rfl Try.call24 rfl (MinI (A := sl intE 1 u65 k2.free) (xs := k2.free) (Rd.sl .here) (by omega) (by rw [hf]; simp)) (by repeat (first | exact Ent.nil | (apply Ent.cons; · repeat (first | exact Take.here | apply Take.there)) | apply Ent.opt0 | apply Ent.opt1 | apply Ent.void | apply Ent.emp0 | apply Ent.two | (apply Ent.allV; · exact sl_void) | (apply Ent.allM; · exact fun _ => sl_void) | apply Ent.f1 rfl | apply Ent.f2 rfl | apply Ent.f3 rfl | apply Ent.f4 rfl | apply Ent.f10 rfl | apply Ent.grp | assumption | exact trivial | rfl | omega))) ?_
        rintro _ _ ⟨⟨⟩, -, rfl, rfl⟩
        rw [hmin]
        refine GoL.y rfl (Y.move rfl) ?_
        refine GoL.does rfl (Does.callE rfl Try.call23 rfl (kern_Give (k := k2) (p := (i : Int)) (n := (n : Int)) hi2.ok (by omega)) (by repeat (first | exact Ent.nil | (apply Ent.cons; · repeat (first | exact Take.here | apply Take.there)) | apply Ent.opt0 | apply Ent.opt1 | apply Ent.void | apply Ent.emp0 | apply Ent.two | (apply Ent.allV; · exact sl_void) | (apply Ent.allM; · exact fun _ => sl_void) | apply Ent.f1 rfl | apply Ent.f2 rfl | apply Ent.f3 rfl | apply Ent.f4 rfl | apply Ent.f10 rfl | apply Ent.grp | assumption | exact trivial | rfl | omega))) ?_
        rintro _ _ ⟨⟨⟩, -, rfl, rfl⟩
        refine GoL.nil ?_
        refine GoE.then_normal ?_
        refine GoC.region ?_
        refine GoL.y rfl (Y.move rfl) ?_
        refine GoL.y rfl (Y.valW (Y.add rfl rfl (by dsimp only; omega)) (show ((mv3 + j : Nat) : Int) + 1 = ((mv3 + (j + 1) : Nat) : Int) from by omega)) ?_
        refine GoL.y rfl (Y.assign rfl) ?_
        refine GoL.nil ?_
        refine GoE.block_normal ?_
        refine GoE.againK (j + 1, (k2.give (i : Int) (n : Int)).2) (by repeat (first | exact Top.base | refine Top.cons rfl ?_)) rfl ?_ ?_ ?_ ?_
        · show w.toNat - (k2.give (i : Int) (n : Int)).2.owner.count (n : Int) < w.toNat - k2.owner.count (n : Int); rw [hrg.2]; omega
        · exact ⟨hi2.give hoi hl2, hrg.1, hrg.1.len.symm.trans (hr2.len.trans hlk2), by show j + 1 + (w.toNat - (k2.give (i : Int) (n : Int)).2.owner.count (n : Int)) = _; rw [hrg.2]; omega, by show giveTo (w.toNat - (k2.give (i : Int) (n : Int)).2.owner.count (n : Int)) (n : Int) (k2.give (i : Int) (n : Int)).2 = _; rw [hrg.2, ← hgt, show w.toNat - k2.owner.count (n : Int) = (w.toNat - (k2.owner.count (n : Int) + 1)) + 1 from by omega, giveTo, hf]; rfl⟩
        · exact ⟨rfl, rfl, trivial⟩
        · exact fun w s => Ent.kept (by repeat (first | exact Ent.nil | (apply Ent.cons; · repeat (first | exact Take.here | apply Take.there)) | apply Ent.opt0 | apply Ent.opt1 | apply Ent.void | apply Ent.emp0 | apply Ent.two | (apply Ent.allV; · exact sl_void) | (apply Ent.allM; · exact fun _ => sl_void) | apply Ent.f1 rfl | apply Ent.f2 rfl | apply Ent.f3 rfl | apply Ent.f4 rfl | apply Ent.f10 rfl | apply Ent.grp | assumption | exact trivial | rfl | omega)) w s
      · have hpc : x.2.procs.length = k2.owner.count (n : Int) := by rw [hi2.ag.procs hl2]; exact pos_len _ _ _
        have hge : w.toNat - k2.owner.count (n : Int) = 0 := by omega
        rw [hge] at hjc hgt
        refine GoC.exit ?_
        refine GoE.then_exit (GoE.then_exit (GoE.block_here (GoE.block_normal (GoE.then_normal ?_))))
        refine GoC.region ?_
        first
          | refine GoL.y rfl (Y.inc rfl rfl (by omega)) ?_
          | refine GoL.y rfl (Y.add rfl rfl (by omega)) ?_
        refine GoL.y rfl (Y.move rfl) ?_
        refine GoL.nil ?_
        refine GoE.againK (n + 1, k2, mv3 + j) (by repeat (first | exact Top.base | refine Top.cons rfl ?_)) rfl ?_ ?_ ?_ ?_
        · show want.length - (n + 1) < want.length - n; omega
        · exact ⟨by show n + 1 ≤ _; omega, hi2, by show mv3 + j ≤ 512 + 64 * (n + 1); omega, hlk2, fun _ => hr2, by rw [hgv, give_next hw hi3 (by omega), ← hgt, ← hjc]; rfl⟩
        · exact ⟨rfl, rfl, trivial⟩
        · exact fun w s => Ent.kept (by repeat (first | exact Ent.nil | (apply Ent.cons; · repeat (first | exact Take.here | apply Take.there)) | apply Ent.opt0 | apply Ent.opt1 | apply Ent.void | apply Ent.emp0 | apply Ent.two | (apply Ent.allV; · exact sl_void) | (apply Ent.allM; · exact fun _ => sl_void) | apply Ent.f1 rfl | apply Ent.f2 rfl | apply Ent.f3 rfl | apply Ent.f4 rfl | apply Ent.f10 rfl | apply Ent.grp | assumption | exact trivial | rfl | omega)) w s
    · obtain rfl : n = want.length := by omega
      rw [List.drop_length, giveFrom] at hgv
      refine GoC.exit ?_
      refine GoE.then_exit (GoE.then_exit (GoE.block_here (GoE.then_normal ?_)))
      refine GoC.seq ?_
      refine GoC.region ?_
      refine GoL.y rfl (Y.move rfl) ?_
      refine GoL.y rfl (Y.assign rfl) ?_
      refine GoL.nil ?_
      refine GoE.then_normal ?_
      refine GoC.ret ?_
      rw [hgv]
      refine GoE.ret1 rfl rfl fun w s => ⟨(), ?_, trivial, finE (by repeat (first | exact Ent.nil | (apply Ent.cons; · repeat (first | exact Take.here | apply Take.there)) | apply Ent.opt0 | apply Ent.opt1 | apply Ent.void | apply Ent.emp0 | apply Ent.two | (apply Ent.allV; · exact sl_void) | (apply Ent.allM; · exact fun _ => sl_void) | apply Ent.f1 rfl | apply Ent.f2 rfl | apply Ent.f3 rfl | apply Ent.f4 rfl | apply Ent.f10 rfl | apply Ent.grp | assumption | exact trivial | rfl | omega)) s⟩
      rfl

end Go.SLYtkflpgknieoknaa
