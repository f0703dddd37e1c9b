/- Walks of functions, and what they compute. Conditions: none, this text proves no statement. -/
import Derived.Test.YtkflpgknieoknaaProg
import Derived.Test.YtkflpgknieoknaaRl
import Derived.KernelRfl
namespace Go.SLYtkflpgknieoknaa
open Go Go.RowKit Go.Proofs

set_option maxRecDepth 20000 in
theorem place_Of {W : World} {b : Nat} {bl : List Nat} {k : Krn} {n : Nat} {slot : Int} {l : Lib} (hl : k.libs[n]? = some l) (hlo : l.vs.length ≤ 64) (hev : (∀ v ∈ l.vs, v.evs.length ≤ 1000000) ∧ l.waiting.length ≤ 1000000 ∧ l.rows.length ≤ 64 ∧ ∀ r ∈ l.rows, r.length ≤ 1000000) : Fn Try.prog W 14 [ptr b, .int .i64 (n : Int), .int .i64 slot] [krnX b bl k] Value (fun u => u) (fun _ => True) (fun u => [sl plcE 2 u (placeOf l slot), krnX b bl k]) := by
  refine Fn.intro (N := 54) Try.func14 rfl Try.ntmps14 rfl fun F => ?_
  show GoC _ _ _ _ _ _ [krnX b bl k, F]
  have hwl := told_le l.waiting slot
  refine GoC.seq ?_
  refine GoC.region ?_
  refine GoL.y rfl (Y.assign rfl) ?_
  refine GoL.nil ?_
  refine GoE.then_normal ?_
  refine GoC.seq ?_
  refine GoC.region ?_
  refine GoL.y rfl (Y.move rfl) ?_
  refine GoL.y rfl (Y.move rfl) ?_
  refine GoL.does rfl (Does.callE rfl Try.call20 rfl kern_Lib (by repeat (first | exact Ent.nil | (apply Ent.cons; · repeat (first | exact Take.here | apply Take.there)) | apply Ent.opt0 | apply Ent.opt1 | apply Ent.void | apply Ent.emp0 | apply Ent.two | (apply Ent.allV; · exact sl_void) | (apply Ent.allM; · exact fun _ => sl_void) | apply Ent.f1 rfl | apply Ent.f2 rfl | apply Ent.f3 rfl | apply Ent.f4 rfl | apply Ent.f10 rfl | apply Ent.grp | assumption | exact trivial | rfl | omega))) ?_
  rintro _ _ ⟨⟨⟩, -, rfl, rfl⟩
  refine GoL.o3 (C := krnX b bl k) (by repeat (first | exact Take.here | apply Take.there)) rfl ?_
  rintro vo vl xs ⟨hxb, hxs⟩
  have hxl := map_len hxs
  have hbl := map_len hxb
  have hxx := And.intro hxb hxs
  obtain ⟨x, hx, rfl, hbx⟩ := two_back hxb hxs hl
  rw [geti_nat, hbx]
  refine GoL.fr (by repeat (first | exact Take.here | apply Take.there)) (all_out (f := fun x : Nat × Lib => libH x.1 x.2) hx) ?_
  refine GoL.o2 (C := libH x.1 x.2) (by repeat (first | exact Take.here | apply Take.there)) rfl ?_
  rintro bs br -
  have hpl64 : x.2.procs.length ≤ 64 := Nat.le_trans (procs_len _ _) hlo
  refine GoL.y rfl (Y.assign rfl) ?_
  refine GoL.nil ?_
  refine GoE.then_normal ?_
  refine GoC.seq ?_
  refine GoC.seq ?_
  refine GoC.region ?_
  refine GoL.y rfl (Y.move rfl) ?_
  refine GoL.y rfl (Y.eqPtrNil Try.underlying51 rfl rfl) ?_
  refine GoL.nil ?_
  refine GoE.then_normal ?_
  refine GoC.cond rfl (fun h17 => ?_) (fun h17 => ?_)
  · cases h17
  · refine GoC.skip ?_
    refine GoE.then_normal ?_
    refine GoC.seq ?_
    refine GoC.region ?_
    refine GoL.y rfl (Y.move rfl) ?_
    refine GoL.y rfl (Y.bld1 (fun v1 => [v1, (.slice none 0 0)]) rfl (by kernel_rfl)) ?_
    refine GoL.does rfl (Does.box rfl rfl rfl) ?_
    rintro _ _ ⟨b20, rfl, rfl⟩
    refine GoL.y rfl (Y.assign rfl) ?_
    refine GoL.nil ?_
    refine GoE.then_normal ?_
    refine GoC.seq ?_
    refine GoC.seq ?_
    refine GoC.region ?_
    refine GoL.y rfl (Y.move rfl) ?_
    refine GoL.does rfl (Does.callE rfl Try.call21 rfl (lib_Procs (l := x.2) (by omega)) (by repeat (first | exact Ent.nil | (apply Ent.cons; · repeat (first | exact Take.here | apply Take.there)) | apply Ent.opt0 | apply Ent.opt1 | apply Ent.void | apply Ent.emp0 | apply Ent.two | (apply Ent.allV; · exact sl_void) | (apply Ent.allM; · exact fun _ => sl_void) | apply Ent.f1 rfl | apply Ent.f2 rfl | apply Ent.f3 rfl | apply Ent.f4 rfl | apply Ent.f10 rfl | apply Ent.grp | assumption | exact trivial | rfl | omega))) ?_
    rintro _ _ ⟨u22, -, rfl, rfl⟩
    first
      | refine GoL.y rfl (Y.lenRd Try.underlying23 rfl Rd.s) ?_
      | refine GoL.y rfl (Y.lenRd Try.underlying23 rfl ‹_›) ?_
      | refine GoL.y rfl (Y.lenSlice Try.underlying23 rfl) ?_
    refine GoL.y rfl (Y.move rfl) ?_
    refine GoL.nil ?_
    refine GoE.then_normal ?_
    refine GoC.block ?_
    refine GoC.loopK (X := Nat × Value) [10, 24, 25, 26, 27, 28, 29, 30, 31, 32] (fun z => x.2.procs.length - z.1) (fun z => z.1 ≤ x.2.procs.length) (fun z => [(24, some (.int .i64 (z.1 : Int)))]) (fun z => [arr b20 0 [.int .i64 slot, z.2], sl plcE 2 z.2 ((x.2.procs.take z.1).flatMap (atProc x.2 slot)), sl intE 1 u22 x.2.procs, libX x.1 bs br x.2, arr b 0 [vo, vl], sl intE 1 vo k.owner, sl ptrE 1 vl xs, allH (fun x : Nat × Lib => libH x.1 x.2) (xs.eraseIdx n), F]) (0, .slice none 0 0) ?_ ?_ ?_ ?_
    · exact Nat.zero_le _
    · exact ⟨rfl, trivial⟩
    · exact fun w s => Ent.kept (by repeat (first | exact Ent.nil | (apply Ent.cons; · repeat (first | exact Take.here | apply Take.there)) | apply Ent.opt0 | apply Ent.opt1 | apply Ent.void | apply Ent.emp0 | apply Ent.two | (apply Ent.allV; · exact sl_void) | (apply Ent.allM; · exact fun _ => sl_void) | apply Ent.f1 rfl | apply Ent.f2 rfl | apply Ent.f3 rfl | apply Ent.f4 rfl | apply Ent.f10 rfl | apply Ent.grp | assumption | exact trivial | rfl | omega)) w s
    rintro ⟨j, u⟩ hj
    simp only at hj
    refine GoC.seq ?_
    refine GoC.region ?_
    refine GoL.y rfl (Y.lss rfl rfl) ?_
    refine GoL.nil ?_
    refine GoE.then_normal ?_
    refine GoC.seq ?_
    refine GoC.condD rfl (fun h25 => ?_) (fun h25 => ?_)
    · refine GoC.skip ?_
      refine GoE.then_normal ?_
      refine GoC.seq ?_
      refine GoC.block ?_
      refine GoC.seq ?_
      refine GoC.region ?_
      obtain ⟨p, hp⟩ := at_some (show j < x.2.procs.length by omega)
      have hfl := flat_len' hlo hev.1 slot j
      first
        | refine GoL.y rfl (Y.ixRd _ Try.underlying23 Try.sizeOf3 rfl rfl Rd.s rfl (by first | omega | decide)) ?_
        | refine GoL.y rfl (Y.ixRd _ Try.underlying23 Try.sizeOf3 rfl rfl ‹_› rfl (by first | omega | decide)) ?_
      refine GoL.y rfl (Y.load Try.isAgg3 rfl (Cell.rd0 Rd.s hp rfl)) ?_
      refine GoL.y rfl (Y.assign rfl) ?_
      refine GoL.nil ?_
      refine GoE.then_normal ?_
      refine GoC.region ?_
      refine GoL.y rfl (Y.move rfl) ?_
      refine GoL.y rfl (Y.move rfl) ?_
      refine GoL.y rfl (Y.move rfl) ?_
      refine GoL.does rfl (Does.callE rfl Try.call31 rfl (place_proc (slot := slot) (l := x.2) (p := p) (ys := ((x.2.procs.take j).flatMap (atProc x.2 slot))) (fun v hv => Nat.le_trans (hev.1 v hv) (by decide)) (by omega)) (by repeat (first | exact Ent.nil | (apply Ent.cons; · repeat (first | exact Take.here | apply Take.there)) | apply Ent.opt0 | apply Ent.opt1 | apply Ent.void | apply Ent.emp0 | apply Ent.two | (apply Ent.allV; · exact sl_void) | (apply Ent.allM; · exact fun _ => sl_void) | apply Ent.f1 rfl | apply Ent.f2 rfl | apply Ent.f3 rfl | apply Ent.f4 rfl | apply Ent.f10 rfl | apply Ent.grp | assumption | exact trivial | rfl | omega))) ?_
      rintro _ _ ⟨u31, -, rfl, rfl⟩
      refine GoL.nil ?_
      refine GoE.block_normal (GoE.then_normal ?_)
      refine GoC.region ?_
      first
        | refine GoL.y rfl (Y.inc rfl rfl (by omega)) ?_
        | refine GoL.y rfl (Y.add rfl rfl (by omega)) ?_
      refine GoL.y rfl (Y.move rfl) ?_
      refine GoL.nil ?_
      refine GoE.againK (j + 1, u31) (by repeat (first | exact Top.base | refine Top.cons rfl ?_)) rfl ?_ ?_ ?_ ?_
      · show x.2.procs.length - (j + 1) < x.2.procs.length - j; omega
      · show j + 1 ≤ _; omega
      · exact ⟨rfl, trivial⟩
      · show ∀ w, Sat _ w _ → Sat _ w (seps [_, sl plcE 2 u31 ((x.2.procs.take (j + 1)).flatMap (atProc x.2 slot)), _, _, _, _, _, _, F])
        rw [atp_snoc hp]
        exact fun w s => Ent.kept (by repeat (first | exact Ent.nil | (apply Ent.cons; · repeat (first | exact Take.here | apply Take.there)) | apply Ent.opt0 | apply Ent.opt1 | apply Ent.void | apply Ent.emp0 | apply Ent.two | (apply Ent.allV; · exact sl_void) | (apply Ent.allM; · exact fun _ => sl_void) | apply Ent.f1 rfl | apply Ent.f2 rfl | apply Ent.f3 rfl | apply Ent.f4 rfl | apply Ent.f10 rfl | apply Ent.grp | assumption | exact trivial | rfl | omega)) w s
    · obtain rfl : x.2.procs.length = j := by omega
      rw [List.take_length]
      refine GoC.exit ?_
      refine GoE.then_exit (GoE.then_exit (GoE.block_here (GoE.then_normal ?_)))
      refine GoC.seq ?_
      refine GoC.seq ?_
      refine GoC.region ?_
      have hfl := flat_len' hlo hev.1 slot x.2.procs.length
      rw [List.take_length] at hfl
      refine GoL.y rfl (Y.move rfl) ?_
      refine GoL.does rfl (Does.callE rfl Try.call32 rfl (lib_Rows (l := x.2)) (by repeat (first | exact Ent.nil | (apply Ent.cons; · repeat (first | exact Take.here | apply Take.there)) | apply Ent.opt0 | apply Ent.opt1 | apply Ent.void | apply Ent.emp0 | apply Ent.two | (apply Ent.allV; · exact sl_void) | (apply Ent.allM; · exact fun _ => sl_void) | apply Ent.f1 rfl | apply Ent.f2 rfl | apply Ent.f3 rfl | apply Ent.f4 rfl | apply Ent.f10 rfl | apply Ent.grp | assumption | exact trivial | rfl | omega))) ?_
      rintro _ _ ⟨⟨⟩, -, rfl, rfl⟩
      refine GoL.o2 (C := libX x.1 bs br x.2) (by repeat (first | exact Take.here | apply Take.there)) rfl ?_
      rintro vv vw -
      refine GoL.y rfl (Y.move rfl) ?_
      refine GoL.does rfl (Does.callE rfl Try.call33 rfl (rows_Where (rs := x.2.rows) ⟨hev.2.2.1, fun r hr => Nat.le_trans (hev.2.2.2 r hr) (by decide)⟩) (by repeat (first | exact Ent.nil | (apply Ent.cons; · repeat (first | exact Take.here | apply Take.there)) | apply Ent.opt0 | apply Ent.opt1 | apply Ent.void | apply Ent.emp0 | apply Ent.two | (apply Ent.allV; · exact sl_void) | (apply Ent.allM; · exact fun _ => sl_void) | apply Ent.f1 rfl | apply Ent.f2 rfl | apply Ent.f3 rfl | apply Ent.f4 rfl | apply Ent.f10 rfl | apply Ent.grp | assumption | exact trivial | rfl | omega))) ?_
      rintro _ _ ⟨⟨⟩, -, rfl, rfl⟩
      refine GoL.to (A := libX x.1 bs br x.2) (by repeat (first | exact Ent.nil | (apply Ent.cons; · repeat (first | exact Take.here | apply Take.there)) | apply Ent.opt0 | apply Ent.opt1 | apply Ent.void | apply Ent.emp0 | apply Ent.two | (apply Ent.allV; · exact sl_void) | (apply Ent.allM; · exact fun _ => sl_void) | apply Ent.f1 rfl | apply Ent.f2 rfl | apply Ent.f3 rfl | apply Ent.f4 rfl | apply Ent.f10 rfl | apply Ent.grp | assumption | exact trivial | rfl | omega)) fold1 ?_
      refine GoL.y rfl (Y.move rfl) ?_
      refine GoL.y rfl (Y.extract rfl rfl) ?_
      refine GoL.y rfl (Y.extract rfl rfl) ?_
      refine GoL.y rfl (Y.assign rfl) ?_
      refine GoL.y rfl (Y.assign rfl) ?_
      refine GoL.nil ?_
      refine GoE.then_normal ?_
      refine GoC.seq ?_
      refine GoC.region ?_
      refine GoL.y rfl (Y.move rfl) ?_
      refine GoL.nil ?_
      refine GoE.then_normal ?_
      refine GoC.cond rfl (fun h40 => ?_) (fun h40 => ?_)
      · refine GoC.region ?_
        refine GoL.y rfl (Y.move rfl) ?_
        refine GoL.y rfl (Y.move rfl) ?_
        refine GoL.does rfl (Does.callE rfl Try.call34 rfl (place_add (n := 1) (slot := slot) (ys := x.2.procs.flatMap (atProc x.2 slot)) (by omega)) (by repeat (first | exact Ent.nil | (apply Ent.cons; · repeat (first | exact Take.here | apply Take.there)) | apply Ent.opt0 | apply Ent.opt1 | apply Ent.void | apply Ent.emp0 | apply Ent.two | (apply Ent.allV; · exact sl_void) | (apply Ent.allM; · exact fun _ => sl_void) | apply Ent.f1 rfl | apply Ent.f2 rfl | apply Ent.f3 rfl | apply Ent.f4 rfl | apply Ent.f10 rfl | apply Ent.grp | assumption | exact trivial | rfl | omega))) ?_
        rintro _ _ ⟨u43, -, rfl, rfl⟩
        refine GoL.nil ?_
        refine GoE.then_normal ?_
        refine GoC.seq ?_
        refine GoC.region ?_
        refine GoL.y rfl (Y.move rfl) ?_
        refine GoL.y rfl (Y.move rfl) ?_
        refine GoL.does rfl (Does.callE rfl Try.call36 rfl (lib_Waiting (l := x.2) (by omega)) (by repeat (first | exact Ent.nil | (apply Ent.cons; · repeat (first | exact Take.here | apply Take.there)) | apply Ent.opt0 | apply Ent.opt1 | apply Ent.void | apply Ent.emp0 | apply Ent.two | (apply Ent.allV; · exact sl_void) | (apply Ent.allM; · exact fun _ => sl_void) | apply Ent.f1 rfl | apply Ent.f2 rfl | apply Ent.f3 rfl | apply Ent.f4 rfl | apply Ent.f10 rfl | apply Ent.grp | assumption | exact trivial | rfl | omega))) ?_
        rintro _ _ ⟨u46, -, rfl, rfl⟩
        refine GoL.y rfl (Y.move rfl) ?_
        refine GoL.does rfl (Does.callE rfl Try.call35 rfl (place_told (A := sl evE 3 u46 x.2.waiting) (Rd.sl .here) (by omega)) (by repeat (first | exact Ent.nil | (apply Ent.cons; · repeat (first | exact Take.here | apply Take.there)) | apply Ent.opt0 | apply Ent.opt1 | apply Ent.void | apply Ent.emp0 | apply Ent.two | (apply Ent.allV; · exact sl_void) | (apply Ent.allM; · exact fun _ => sl_void) | apply Ent.f1 rfl | apply Ent.f2 rfl | apply Ent.f3 rfl | apply Ent.f4 rfl | apply Ent.f10 rfl | apply Ent.grp | assumption | exact trivial | rfl | omega))) ?_
        rintro _ _ ⟨⟨⟩, -, rfl, rfl⟩
        refine GoL.does rfl (Does.callE rfl Try.call34 rfl (place_add (slot := slot) (ys := x.2.procs.flatMap (atProc x.2 slot) ++ List.replicate 1 ⟨2, (whereFrom slot x.2.rows 0).1⟩) (by rw [List.length_append, List.length_replicate]; omega)) (by repeat (first | exact Ent.nil | (apply Ent.cons; · repeat (first | exact Take.here | apply Take.there)) | apply Ent.opt0 | apply Ent.opt1 | apply Ent.void | apply Ent.emp0 | apply Ent.two | (apply Ent.allV; · exact sl_void) | (apply Ent.allM; · exact fun _ => sl_void) | apply Ent.f1 rfl | apply Ent.f2 rfl | apply Ent.f3 rfl | apply Ent.f4 rfl | apply Ent.f10 rfl | apply Ent.grp | assumption | exact trivial | rfl | omega))) ?_
        rintro _ _ ⟨u49, -, rfl, rfl⟩
        refine GoL.to (A := libH x.1 x.2) (by repeat (first | exact Ent.nil | (apply Ent.cons; · repeat (first | exact Take.here | apply Take.there)) | apply Ent.opt0 | apply Ent.opt1 | apply Ent.void | apply Ent.emp0 | apply Ent.two | (apply Ent.allV; · exact sl_void) | (apply Ent.allM; · exact fun _ => sl_void) | apply Ent.f1 rfl | apply Ent.f2 rfl | apply Ent.f3 rfl | apply Ent.f4 rfl | apply Ent.f10 rfl | apply Ent.grp | assumption | exact trivial | rfl | omega)) fold1 ?_
        refine GoL.to (A := allH (fun x : Nat × Lib => libH x.1 x.2) xs) (by repeat (first | exact Ent.nil | (apply Ent.cons; · repeat (first | exact Take.here | apply Take.there)) | apply Ent.opt0 | apply Ent.opt1 | apply Ent.void | apply Ent.emp0 | apply Ent.two | (apply Ent.allV; · exact sl_void) | (apply Ent.allM; · exact fun _ => sl_void) | apply Ent.f1 rfl | apply Ent.f2 rfl | apply Ent.f3 rfl | apply Ent.f4 rfl | apply Ent.f10 rfl | apply Ent.grp | assumption | exact trivial | rfl | omega)) (all_back (f := fun x : Nat × Lib => libH x.1 x.2) hx) ?_
        refine GoL.nil ?_
        refine GoE.then_normal ?_
        refine GoC.seq ?_
        refine GoC.region ?_
        refine GoL.y rfl (Y.move rfl) ?_
        refine GoL.y rfl (Y.nilCheck rfl) ?_
        first
          | refine GoL.y rfl (Y.fieldAddr0 1 37 Try.underlying73 rfl Try.sizeOf37 rfl) ?_
          | refine GoL.y rfl (Y.fieldAddr 1 37 Try.underlying73 rfl Try.sizeOf37 rfl) ?_
        first
          | refine GoL.y rfl (Y.load Try.isAgg37 rfl (Cell.a (by rfl))) ?_
          | refine GoL.y rfl (Y.load Try.isAgg37 rfl (Cell.rd0 Rd.s ‹_› (by rfl))) ?_
          | refine GoL.y rfl (Y.load Try.isAgg37 rfl (Cell.rd Rd.s ‹_› (by rfl))) ?_
          | refine GoL.y rfl (Y.load Try.isAgg37 rfl (Cell.ao (by rfl))) ?_
          | refine GoL.y rfl (Y.load Try.isAgg37 rfl (Cell.az (by rfl))) ?_
          | refine GoL.y rfl (Y.load Try.isAgg37 rfl (Cell.a ‹_›)) ?_
          | refine GoL.y rfl (Y.load Try.isAgg37 rfl (Cell.rd0 ‹_› ‹_› (by rfl))) ?_
          | refine GoL.y rfl (Y.load Try.isAgg37 rfl (Cell.rd ‹_› ‹_› (by rfl))) ?_
        refine GoL.y rfl (Y.assign rfl) ?_
        refine GoL.nil ?_
        refine GoE.then_normal ?_
        refine GoC.ret ?_
        rw [placeOf_eq, show wherePart x.2 slot = List.replicate 1 ⟨2, (whereFrom slot x.2.rows 0).1⟩ from by unfold wherePart; rw [if_pos h40]; rfl]
        refine GoE.ret1 rfl rfl fun w s => ⟨_, ?_, trivial, finE (by repeat (first | exact Ent.nil | (apply Ent.cons; · repeat (first | exact Take.here | apply Take.there)) | apply Ent.opt0 | apply Ent.opt1 | apply Ent.void | apply Ent.emp0 | apply Ent.two | (apply Ent.allV; · exact sl_void) | (apply Ent.allM; · exact fun _ => sl_void) | apply Ent.f1 rfl | apply Ent.f2 rfl | apply Ent.f3 rfl | apply Ent.f4 rfl | apply Ent.f10 rfl | apply Ent.grp | assumption | exact trivial | rfl | omega)) s⟩
        rfl
      · refine GoC.skip ?_
        refine GoE.then_normal ?_
        refine GoC.seq ?_
        refine GoC.region ?_
        refine GoL.y rfl (Y.move rfl) ?_
        refine GoL.y rfl (Y.move rfl) ?_
        refine GoL.does rfl (Does.callE rfl Try.call36 rfl (lib_Waiting (l := x.2) (by omega)) (by repeat (first | exact Ent.nil | (apply Ent.cons; · repeat (first | exact Take.here | apply Take.there)) | apply Ent.opt0 | apply Ent.opt1 | apply Ent.void | apply Ent.emp0 | apply Ent.two | (apply Ent.allV; · exact sl_void) | (apply Ent.allM; · exact fun _ => sl_void) | apply Ent.f1 rfl | apply Ent.f2 rfl | apply Ent.f3 rfl | apply Ent.f4 rfl | apply Ent.f10 rfl | apply Ent.grp | assumption | exact trivial | rfl | omega))) ?_
        rintro _ _ ⟨u46, -, rfl, rfl⟩
        refine GoL.y rfl (Y.move rfl) ?_
        refine GoL.does rfl (Does.callE rfl Try.call35 rfl (place_told (A := sl evE 3 u46 x.2.waiting) (Rd.sl .here) (by omega)) (by repeat (first | exact Ent.nil | (apply Ent.cons; · repeat (first | exact Take.here | apply Take.there)) | apply Ent.opt0 | apply Ent.opt1 | apply Ent.void | apply Ent.emp0 | apply Ent.two | (apply Ent.allV; · exact sl_void) | (apply Ent.allM; · exact fun _ => sl_void) | apply Ent.f1 rfl | apply Ent.f2 rfl | apply Ent.f3 rfl | apply Ent.f4 rfl | apply Ent.f10 rfl | apply Ent.grp | assumption | exact trivial | rfl | omega))) ?_
        rintro _ _ ⟨⟨⟩, -, rfl, rfl⟩
        refine GoL.does rfl (Does.callE rfl Try.call34 rfl (place_add (slot := slot) (ys := x.2.procs.flatMap (atProc x.2 slot)) (by omega)) (by repeat (first | exact Ent.nil | (apply Ent.cons; · repeat (first | exact Take.here | apply Take.there)) | apply Ent.opt0 | apply Ent.opt1 | apply Ent.void | apply Ent.emp0 | apply Ent.two | (apply Ent.allV; · exact sl_void) | (apply Ent.allM; · exact fun _ => sl_void) | apply Ent.f1 rfl | apply Ent.f2 rfl | apply Ent.f3 rfl | apply Ent.f4 rfl | apply Ent.f10 rfl | apply Ent.grp | assumption | exact trivial | rfl | omega))) ?_
        rintro _ _ ⟨u49, -, rfl, rfl⟩
        refine GoL.to (A := libH x.1 x.2) (by repeat (first | exact Ent.nil | (apply Ent.cons; · repeat (first | exact Take.here | apply Take.there)) | apply Ent.opt0 | apply Ent.opt1 | apply Ent.void | apply Ent.emp0 | apply Ent.two | (apply Ent.allV; · exact sl_void) | (apply Ent.allM; · exact fun _ => sl_void) | apply Ent.f1 rfl | apply Ent.f2 rfl | apply Ent.f3 rfl | apply Ent.f4 rfl | apply Ent.f10 rfl | apply Ent.grp | assumption | exact trivial | rfl | omega)) fold1 ?_
        refine GoL.to (A := allH (fun x : Nat × Lib => libH x.1 x.2) xs) (by repeat (first | exact Ent.nil | (apply Ent.cons; · repeat (first | exact Take.here | apply Take.there)) | apply Ent.opt0 | apply Ent.opt1 | apply Ent.void | apply Ent.emp0 | apply Ent.two | (apply Ent.allV; · exact sl_void) | (apply Ent.allM; · exact fun _ => sl_void) | apply Ent.f1 rfl | apply Ent.f2 rfl | apply Ent.f3 rfl | apply Ent.f4 rfl | apply Ent.f10 rfl | apply Ent.grp | assumption | exact trivial | rfl | omega)) (all_back (f := fun x : Nat × Lib => libH x.1 x.2) hx) ?_
        refine GoL.nil ?_
        refine GoE.then_normal ?_
        refine GoC.seq ?_
        refine GoC.region ?_
        refine GoL.y rfl (Y.move rfl) ?_
        refine GoL.y rfl (Y.nilCheck rfl) ?_
        first
          | refine GoL.y rfl (Y.fieldAddr0 1 37 Try.underlying73 rfl Try.sizeOf37 rfl) ?_
          | refine GoL.y rfl (Y.fieldAddr 1 37 Try.underlying73 rfl Try.sizeOf37 rfl) ?_
        first
          | refine GoL.y rfl (Y.load Try.isAgg37 rfl (Cell.a (by rfl))) ?_
          | refine GoL.y rfl (Y.load Try.isAgg37 rfl (Cell.rd0 Rd.s ‹_› (by rfl))) ?_
          | refine GoL.y rfl (Y.load Try.isAgg37 rfl (Cell.rd Rd.s ‹_› (by rfl))) ?_
          | refine GoL.y rfl (Y.load Try.isAgg37 rfl (Cell.ao (by rfl))) ?_
          | refine GoL.y rfl (Y.load Try.isAgg37 rfl (Cell.az (by rfl))) ?_
          | refine GoL.y rfl (Y.load Try.isAgg37 rfl (Cell.a ‹_›)) ?_
          | refine GoL.y rfl (Y.load Try.isAgg37 rfl (Cell.rd0 ‹_› ‹_› (by rfl))) ?_
          | refine GoL.y rfl (Y.load Try.isAgg37 rfl (Cell.rd ‹_› ‹_› (by rfl))) ?_
        refine GoL.y rfl (Y.assign rfl) ?_
        refine GoL.nil ?_
        refine GoE.then_normal ?_
        refine GoC.ret ?_
        rw [placeOf_eq, show wherePart x.2 slot = [] from by unfold wherePart; rw [if_neg (by rw [h40]; simp)], List.append_nil]
        refine GoE.ret1 rfl rfl fun w s => ⟨_, ?_, trivial, finE (by repeat (first | exact Ent.nil | (apply Ent.cons; · repeat (first | exact Take.here | apply Take.there)) | apply Ent.opt0 | apply Ent.opt1 | apply Ent.void | apply Ent.emp0 | apply Ent.two | (apply Ent.allV; · exact sl_void) | (apply Ent.allM; · exact fun _ => sl_void) | apply Ent.f1 rfl | apply Ent.f2 rfl | apply Ent.f3 rfl | apply Ent.f4 rfl | apply Ent.f10 rfl | apply Ent.grp | assumption | exact trivial | rfl | omega)) s⟩
        rfl

set_option maxRecDepth 20000 in
theorem place_owners {W : World} {b : Nat} {bl : List Nat} {k : Krn} {m : Nat} (hk : KOk m k) : Fn Try.prog W 41 [ptr b] [krnX b bl k] Unit (fun _ => .bool (ownAll k)) (fun _ => True) (fun _ => [krnX b bl k]) := by
  refine Fn.intro (N := 38) Try.func41 rfl Try.ntmps41 rfl fun F => ?_
  show GoC _ _ _ _ _ _ [krnX b bl k, F]
  have hll := hk.ll
  have hol := hk.ol
  refine GoC.seq ?_
  refine GoC.region ?_
  refine GoL.y rfl (Y.assign rfl) ?_
  refine GoL.nil ?_
  refine GoE.then_normal ?_
  refine GoC.seq ?_
  refine GoC.seq ?_
  refine GoC.region ?_
  refine GoL.y rfl (Y.move rfl) ?_
  refine GoL.does rfl (Does.callE rfl Try.call25 rfl kern_Procs (by repeat (first | exact Ent.nil | (apply Ent.cons; · repeat (first | exact Take.here | apply Take.there)) | apply Ent.opt0 | apply Ent.opt1 | apply Ent.void | apply Ent.emp0 | apply Ent.two | (apply Ent.allV; · exact sl_void) | (apply Ent.allM; · exact fun _ => sl_void) | apply Ent.f1 rfl | apply Ent.f2 rfl | apply Ent.f3 rfl | apply Ent.f4 rfl | apply Ent.f10 rfl | apply Ent.grp | assumption | exact trivial | rfl | omega))) ?_
  rintro _ _ ⟨⟨⟩, -, rfl, rfl⟩
  refine GoL.y rfl (Y.move rfl) ?_
  refine GoL.nil ?_
  refine GoE.then_normal ?_
  refine GoC.block ?_
  refine GoC.loopK (X := Nat) [2, 3, 4, 5, 6, 9, 10, 11, 12, 13, 14, 15, 16, 17, 18, 19, 20, 21, 22, 23, 24, 25, 26, 27, 28, 29, 30, 31, 32, 33, 34, 35, 36, 37] (fun z => k.owner.length - z) (fun z => z ≤ k.owner.length ∧ ownTo k z = true) (fun z => [(9, some (.int .i64 (z : Int)))]) (fun z => [krnX b bl k, F]) 0 ?_ ?_ ?_ ?_
  · exact ⟨Nat.zero_le _, rfl⟩
  · exact ⟨rfl, trivial⟩
  · exact fun w s => Ent.kept (by repeat (first | exact Ent.nil | (apply Ent.cons; · repeat (first | exact Take.here | apply Take.there)) | apply Ent.opt0 | apply Ent.opt1 | apply Ent.void | apply Ent.emp0 | apply Ent.two | (apply Ent.allV; · exact sl_void) | (apply Ent.allM; · exact fun _ => sl_void) | apply Ent.f1 rfl | apply Ent.f2 rfl | apply Ent.f3 rfl | apply Ent.f4 rfl | apply Ent.f10 rfl | apply Ent.grp | assumption | exact trivial | rfl | omega)) w s
  rintro p ⟨hp, hpt⟩
  refine GoC.seq ?_
  refine GoC.region ?_
  refine GoL.y rfl (Y.lss rfl rfl) ?_
  refine GoL.nil ?_
  refine GoE.then_normal ?_
  refine GoC.seq ?_
  refine GoC.condD rfl (fun h10 => ?_) (fun h10 => ?_)
  · have hp1 : p < k.owner.length := by omega
    refine GoC.skip ?_
    refine GoE.then_normal ?_
    refine GoC.seq ?_
    refine GoC.block ?_
    refine GoC.seq ?_
    refine GoC.region ?_
    refine GoL.y rfl (Y.move rfl) ?_
    refine GoL.y rfl (Y.assign rfl) ?_
    refine GoL.nil ?_
    refine GoE.then_normal ?_
    refine GoC.seq ?_
    refine GoC.region ?_
    refine GoL.y rfl (Y.move rfl) ?_
    refine GoL.y rfl (Y.move rfl) ?_
    refine GoL.does rfl (Does.callE rfl Try.call11 rfl kern_Owner (by repeat (first | exact Ent.nil | (apply Ent.cons; · repeat (first | exact Take.here | apply Take.there)) | apply Ent.opt0 | apply Ent.opt1 | apply Ent.void | apply Ent.emp0 | apply Ent.two | (apply Ent.allV; · exact sl_void) | (apply Ent.allM; · exact fun _ => sl_void) | apply Ent.f1 rfl | apply Ent.f2 rfl | apply Ent.f3 rfl | apply Ent.f4 rfl | apply Ent.f10 rfl | apply Ent.grp | assumption | exact trivial | rfl | omega))) ?_
    rintro _ _ ⟨⟨⟩, -, rfl, rfl⟩
    refine GoL.y rfl (Y.move rfl) ?_
    refine GoL.y rfl (Y.extract rfl rfl) ?_
    refine GoL.y rfl (Y.extract rfl rfl) ?_
    refine GoL.y rfl (Y.assign rfl) ?_
    refine GoL.y rfl (Y.assign rfl) ?_
    refine GoL.nil ?_
    refine GoE.then_normal ?_
    refine GoC.seq ?_
    refine GoC.region ?_
    refine GoL.y rfl (Y.move rfl) ?_
    refine GoL.does rfl (Does.callE rfl Try.call37 rfl kern_Spaces (by repeat (first | exact Ent.nil | (apply Ent.cons; · repeat (first | exact Take.here | apply Take.there)) | apply Ent.opt0 | apply Ent.opt1 | apply Ent.void | apply Ent.emp0 | apply Ent.two | (apply Ent.allV; · exact sl_void) | (apply Ent.allM; · exact fun _ => sl_void) | apply Ent.f1 rfl | apply Ent.f2 rfl | apply Ent.f3 rfl | apply Ent.f4 rfl | apply Ent.f10 rfl | apply Ent.grp | assumption | exact trivial | rfl | omega))) ?_
    rintro _ _ ⟨⟨⟩, -, rfl, rfl⟩
    refine GoL.y rfl (Y.move rfl) ?_
    refine GoL.nil ?_
    refine GoE.then_normal ?_
    refine GoC.block ?_
    refine GoC.loopK (X := Nat) [3, 4, 5, 6, 20, 21, 22, 23, 24, 25, 26, 27, 28, 29, 30, 31, 32, 33, 34, 35, 36] (fun z => k.libs.length - z) (fun z => z ≤ k.libs.length ∧ ownIn k p z = true) (fun z => [(20, some (.int .i64 (z : Int))), (3, some (.int .i64 (p : Int))), (4, some (.int .i64 (k.ownerOf (p : Int)).1)), (5, some (.bool (k.ownerOf (p : Int)).2))]) (fun z => [krnX b bl k, F]) 0 ?_ ?_ ?_ ?_
    · exact ⟨Nat.zero_le _, rfl⟩
    · exact ⟨rfl, rfl, rfl, rfl, trivial⟩
    · exact fun w s => Ent.kept (by repeat (first | exact Ent.nil | (apply Ent.cons; · repeat (first | exact Take.here | apply Take.there)) | apply Ent.opt0 | apply Ent.opt1 | apply Ent.void | apply Ent.emp0 | apply Ent.two | (apply Ent.allV; · exact sl_void) | (apply Ent.allM; · exact fun _ => sl_void) | apply Ent.f1 rfl | apply Ent.f2 rfl | apply Ent.f3 rfl | apply Ent.f4 rfl | apply Ent.f10 rfl | apply Ent.grp | assumption | exact trivial | rfl | omega)) w s
    rintro n ⟨hn, hnt⟩
    refine GoC.seq ?_
    refine GoC.region ?_
    refine GoL.y rfl (Y.lss rfl rfl) ?_
    refine GoL.nil ?_
    refine GoE.then_normal ?_
    refine GoC.seq ?_
    refine GoC.condD rfl (fun h21 => ?_) (fun h21 => ?_)
    · obtain ⟨l, hl⟩ := at_some (show n < k.libs.length by omega)
      have hlo := hk.lib l (List.mem_of_getElem? hl)
      refine GoC.skip ?_
      refine GoE.then_normal ?_
      refine GoC.seq ?_
      refine GoC.block ?_
      refine GoC.seq ?_
      refine GoC.region ?_
      refine GoL.y rfl (Y.move rfl) ?_
      refine GoL.y rfl (Y.assign rfl) ?_
      refine GoL.nil ?_
      refine GoE.then_normal ?_
      refine GoC.seq ?_
      refine GoC.region ?_
      refine GoL.y rfl (Y.move rfl) ?_
      refine GoL.y rfl (Y.move rfl) ?_
      refine GoL.does rfl (Does.callE rfl Try.call20 rfl kern_Lib (by repeat (first | exact Ent.nil | (apply Ent.cons; · repeat (first | exact Take.here | apply Take.there)) | apply Ent.opt0 | apply Ent.opt1 | apply Ent.void | apply Ent.emp0 | apply Ent.two | (apply Ent.allV; · exact sl_void) | (apply Ent.allM; · exact fun _ => sl_void) | apply Ent.f1 rfl | apply Ent.f2 rfl | apply Ent.f3 rfl | apply Ent.f4 rfl | apply Ent.f10 rfl | apply Ent.grp | assumption | exact trivial | rfl | omega))) ?_
      rintro _ _ ⟨⟨⟩, -, rfl, rfl⟩
      refine GoL.o3 (C := krnX b bl k) (by repeat (first | exact Take.here | apply Take.there)) rfl ?_
      rintro vo vl xs ⟨hxb, hxs⟩
      have hxl := map_len hxs
      have hbl := map_len hxb
      have hxx := And.intro hxb hxs
      obtain ⟨x, hx, hxe, hbx⟩ := two_back hxb hxs hl
      rw [geti_nat, hbx]
      subst hxe
      refine GoL.fr (by repeat (first | exact Take.here | apply Take.there)) (all_out (f := fun x : Nat × Lib => libH x.1 x.2) hx) ?_
      refine GoL.o2 (C := libH x.1 x.2) (by repeat (first | exact Take.here | apply Take.there)) rfl ?_
      rintro bs br -
      refine GoL.does rfl (Does.callE rfl Try.call21 rfl (lib_Procs (l := x.2) (Nat.le_trans hlo.vl (by decide))) (by repeat (first | exact Ent.nil | (apply Ent.cons; · repeat (first | exact Take.here | apply Take.there)) | apply Ent.opt0 | apply Ent.opt1 | apply Ent.void | apply Ent.emp0 | apply Ent.two | (apply Ent.allV; · exact sl_void) | (apply Ent.allM; · exact fun _ => sl_void) | apply Ent.f1 rfl | apply Ent.f2 rfl | apply Ent.f3 rfl | apply Ent.f4 rfl | apply Ent.f10 rfl | apply Ent.grp | assumption | exact trivial | rfl | omega))) ?_
      rintro _ _ ⟨u26, -, rfl, rfl⟩
      refine GoL.to (A := allH (fun x : Nat × Lib => libH x.1 x.2) xs) (by repeat (first | exact Ent.nil | (apply Ent.cons; · repeat (first | exact Take.here | apply Take.there)) | apply Ent.opt0 | apply Ent.opt1 | apply Ent.void | apply Ent.emp0 | apply Ent.two | (apply Ent.allV; · exact sl_void) | (apply Ent.allM; · exact fun _ => sl_void) | apply Ent.f1 rfl | apply Ent.f2 rfl | apply Ent.f3 rfl | apply Ent.f4 rfl | apply Ent.f10 rfl | apply Ent.grp | assumption | exact trivial | rfl | omega)) (all_back (f := fun x : Nat × Lib => libH x.1 x.2) hx) ?_
      refine GoL.to (A := krnX b bl k) (by repeat (first | exact Ent.nil | (apply Ent.cons; · repeat (first | exact Take.here | apply Take.there)) | apply Ent.opt0 | apply Ent.opt1 | apply Ent.void | apply Ent.emp0 | apply Ent.two | (apply Ent.allV; · exact sl_void) | (apply Ent.allM; · exact fun _ => sl_void) | apply Ent.f1 rfl | apply Ent.f2 rfl | apply Ent.f3 rfl | apply Ent.f4 rfl | apply Ent.f10 rfl | apply Ent.grp | assumption | exact trivial | rfl | omega)) fold1 ?_
      refine GoL.y rfl (Y.move rfl) ?_
      refine GoL.does rfl (Does.callE rfl Try.call40 rfl (ContainsI (A := sl intE 1 u26 x.2.procs) (xs := x.2.procs) (x := (p : Int)) (Rd.sl .here) (by have := procs_len x.2.vs 0; have : x.2.procs.length ≤ x.2.vs.length := this; have := hlo.vl; omega)) (by repeat (first | exact Ent.nil | (apply Ent.cons; · repeat (first | exact Take.here | apply Take.there)) | apply Ent.opt0 | apply Ent.opt1 | apply Ent.void | apply Ent.emp0 | apply Ent.two | (apply Ent.allV; · exact sl_void) | (apply Ent.allM; · exact fun _ => sl_void) | apply Ent.f1 rfl | apply Ent.f2 rfl | apply Ent.f3 rfl | apply Ent.f4 rfl | apply Ent.f10 rfl | apply Ent.grp | assumption | exact trivial | rfl | omega))) ?_
      rintro _ _ ⟨⟨⟩, -, rfl, rfl⟩
      refine GoL.y rfl (Y.move rfl) ?_
      refine GoL.y rfl (Y.move rfl) ?_
      first
        | apply GoL.segAD 4 34 30 [30, 31, 32, 33, 34] rfl
        | apply GoL.segA 4 34 30 [30, 31, 32, 33, 34] rfl
      · intro h30
        refine GoL.yg rfl rfl rfl (Y.move rfl) ?_
        refine GoL.yg rfl rfl rfl (Y.move rfl) ?_
        refine GoL.yg rfl rfl rfl (Y.eql rfl rfl) ?_
        refine GoL.y rfl (Y.pickT rfl rfl) ?_
        refine GoL.nil ?_
        refine GoE.seg (by repeat (first | exact Top.base | refine Top.cons rfl ?_)) rfl (by first | exact fun _ h => h | exact Ent.kept (by repeat (first | exact Ent.nil | (apply Ent.cons; · repeat (first | exact Take.here | apply Take.there)) | apply Ent.opt0 | apply Ent.opt1 | apply Ent.void | apply Ent.emp0 | apply Ent.two | (apply Ent.allV; · exact sl_void) | (apply Ent.allM; · exact fun _ => sl_void) | apply Ent.f1 rfl | apply Ent.f2 rfl | apply Ent.f3 rfl | apply Ent.f4 rfl | apply Ent.f10 rfl | apply Ent.grp | assumption | exact trivial | rfl | omega)))
      · intro h30
        refine GoL.skip rfl rfl rfl rfl ?_
        refine GoL.skip rfl rfl rfl rfl ?_
        refine GoL.skip rfl rfl rfl rfl ?_
        refine GoL.y rfl (Y.pickF rfl rfl) ?_
        refine GoL.nil ?_
        refine GoE.seg (by repeat (first | exact Top.base | refine Top.cons rfl ?_)) rfl (by first | exact fun _ h => h | exact Ent.kept (by repeat (first | exact Ent.nil | (apply Ent.cons; · repeat (first | exact Take.here | apply Take.there)) | apply Ent.opt0 | apply Ent.opt1 | apply Ent.void | apply Ent.emp0 | apply Ent.two | (apply Ent.allV; · exact sl_void) | (apply Ent.allM; · exact fun _ => sl_void) | apply Ent.f1 rfl | apply Ent.f2 rfl | apply Ent.f3 rfl | apply Ent.f4 rfl | apply Ent.f10 rfl | apply Ent.grp | assumption | exact trivial | rfl | omega)))
      refine GoL.y rfl (Y.neqBool Try.underlying4 rfl rfl) ?_
      refine GoL.nil ?_
      refine GoE.then_normal ?_
      refine GoC.cond rfl (fun h35 => ?_) (fun h35 => ?_)
      · have h35 : ¬ x.2.procs.contains (p : Int) = ((k.ownerOf (p : Int)).2 && decide ((n : Int) = (k.ownerOf (p : Int)).1)) := fun e => by rw [e] at h35; simp at h35
        rw [own_bad hp1 (by omega) hl h35]
        refine GoC.seq ?_
        refine GoC.region ?_
        refine GoL.y rfl (Y.assign rfl) ?_
        refine GoL.nil ?_
        refine GoE.then_normal ?_
        refine GoC.ret ?_
        refine GoE.block_ret (GoE.then_ret (GoE.then_ret (GoE.block_ret (GoE.block_ret (GoE.then_ret (GoE.then_ret (GoE.block_ret (GoE.then_ret ?_))))))))
        refine GoE.ret1 rfl rfl fun w s => ⟨(), ?_, trivial, finE (by repeat (first | exact Ent.nil | (apply Ent.cons; · repeat (first | exact Take.here | apply Take.there)) | apply Ent.opt0 | apply Ent.opt1 | apply Ent.void | apply Ent.emp0 | apply Ent.two | (apply Ent.allV; · exact sl_void) | (apply Ent.allM; · exact fun _ => sl_void) | apply Ent.f1 rfl | apply Ent.f2 rfl | apply Ent.f3 rfl | apply Ent.f4 rfl | apply Ent.f10 rfl | apply Ent.grp | assumption | exact trivial | rfl | omega)) s⟩
        rfl
      · refine GoC.skip ?_
        refine GoE.block_normal (GoE.then_normal ?_)
        refine GoC.region ?_
        first
          | refine GoL.y rfl (Y.inc rfl rfl (by omega)) ?_
          | refine GoL.y rfl (Y.add rfl rfl (by omega)) ?_
        refine GoL.y rfl (Y.move rfl) ?_
        refine GoL.nil ?_
        refine GoE.againK (n + 1) (by repeat (first | exact Top.base | refine Top.cons rfl ?_)) rfl ?_ ?_ ?_ ?_
        · omega
        · exact ⟨by omega, by rw [ownIn, hnt, getD_of hl, Bool.true_and]; simpa using h35⟩
        · exact ⟨rfl, rfl, rfl, rfl, trivial⟩
        · exact fun w s => Ent.kept (by repeat (first | exact Ent.nil | (apply Ent.cons; · repeat (first | exact Take.here | apply Take.there)) | apply Ent.opt0 | apply Ent.opt1 | apply Ent.void | apply Ent.emp0 | apply Ent.two | (apply Ent.allV; · exact sl_void) | (apply Ent.allM; · exact fun _ => sl_void) | apply Ent.f1 rfl | apply Ent.f2 rfl | apply Ent.f3 rfl | apply Ent.f4 rfl | apply Ent.f10 rfl | apply Ent.grp | assumption | exact trivial | rfl | omega)) w s
    · obtain rfl : k.libs.length = n := by omega
      refine GoC.exit ?_
      refine GoE.then_exit (GoE.then_exit (GoE.block_here (GoE.block_normal (GoE.then_normal ?_))))
      refine GoC.region ?_
      first
        | refine GoL.y rfl (Y.inc rfl rfl (by omega)) ?_
        | refine GoL.y rfl (Y.add rfl rfl (by omega)) ?_
      refine GoL.y rfl (Y.move rfl) ?_
      refine GoL.nil ?_
      refine GoE.againK (p + 1) (by repeat (first | exact Top.base | refine Top.cons rfl ?_)) rfl ?_ ?_ ?_ ?_
      · omega
      · exact ⟨by omega, by rw [ownTo, hpt, hnt]; rfl⟩
      · exact ⟨rfl, trivial⟩
      · exact fun w s => Ent.kept (by repeat (first | exact Ent.nil | (apply Ent.cons; · repeat (first | exact Take.here | apply Take.there)) | apply Ent.opt0 | apply Ent.opt1 | apply Ent.void | apply Ent.emp0 | apply Ent.two | (apply Ent.allV; · exact sl_void) | (apply Ent.allM; · exact fun _ => sl_void) | apply Ent.f1 rfl | apply Ent.f2 rfl | apply Ent.f3 rfl | apply Ent.f4 rfl | apply Ent.f10 rfl | apply Ent.grp | assumption | exact trivial | rfl | omega)) w s
  · obtain rfl : p = k.owner.length := by omega
    refine GoC.exit ?_
    refine GoE.then_exit (GoE.then_exit (GoE.block_here (GoE.then_normal ?_)))
    refine GoC.seq ?_
    refine GoC.region ?_
    refine GoL.y rfl (Y.assign rfl) ?_
    refine GoL.nil ?_
    refine GoE.then_normal ?_
    refine GoC.ret ?_
    refine GoE.ret1 rfl rfl fun w s => ⟨(), ?_, trivial, finE (by repeat (first | exact Ent.nil | (apply Ent.cons; · repeat (first | exact Take.here | apply Take.there)) | apply Ent.opt0 | apply Ent.opt1 | apply Ent.void | apply Ent.emp0 | apply Ent.two | (apply Ent.allV; · exact sl_void) | (apply Ent.allM; · exact fun _ => sl_void) | apply Ent.f1 rfl | apply Ent.f2 rfl | apply Ent.f3 rfl | apply Ent.f4 rfl | apply Ent.f10 rfl | apply Ent.grp | assumption | exact trivial | rfl | omega)) s⟩
    rw [show ownAll k = true from hpt]

set_option maxRecDepth 20000 in
theorem place_Right {W : World} {b : Nat} {bl : List Nat} {k : Krn} {m : Nat} (hk : KOk m k) (hpk : POk k) : Fn Try.prog W 15 [ptr b] [krnX b bl k] Unit (fun _ => .bool (rightAll k)) (fun _ => True) (fun _ => [krnX b bl k]) := by
  refine Fn.intro (N := 38) Try.func15 rfl Try.ntmps15 rfl fun F => ?_
  show GoC _ _ _ _ _ _ [krnX b bl k, F]
  have hll := hk.ll
  refine GoC.seq ?_
  refine GoC.region ?_
  refine GoL.y rfl (Y.assign rfl) ?_
  refine GoL.nil ?_
  refine GoE.then_normal ?_
  refine GoC.seq ?_
  refine GoC.seq ?_
  refine GoC.region ?_
  refine GoL.y rfl (Y.move rfl) ?_
  refine GoL.does rfl (Does.callE rfl Try.call37 rfl kern_Spaces (by repeat (first | exact Ent.nil | (apply Ent.cons; · repeat (first | exact Take.here | apply Take.there)) | apply Ent.opt0 | apply Ent.opt1 | apply Ent.void | apply Ent.emp0 | apply Ent.two | (apply Ent.allV; · exact sl_void) | (apply Ent.allM; · exact fun _ => sl_void) | apply Ent.f1 rfl | apply Ent.f2 rfl | apply Ent.f3 rfl | apply Ent.f4 rfl | apply Ent.f10 rfl | apply Ent.grp | assumption | exact trivial | rfl | omega))) ?_
  rintro _ _ ⟨⟨⟩, -, rfl, rfl⟩
  refine GoL.y rfl (Y.move rfl) ?_
  refine GoL.nil ?_
  refine GoE.then_normal ?_
  refine GoC.block ?_
  refine GoC.loopK (X := Nat) [2, 3, 4, 5, 6, 9, 10, 11, 12, 13, 14, 15, 16, 17, 18, 19, 20, 21, 22, 23, 24, 25, 26, 27, 28, 29, 30, 31] (fun z => k.libs.length - z) (fun z => z ≤ k.libs.length ∧ rightTo k z = true) (fun z => [(9, some (.int .i64 (z : Int)))]) (fun z => [krnX b bl k, F]) 0 ?_ ?_ ?_ ?_
  · exact ⟨Nat.zero_le _, rfl⟩
  · exact ⟨rfl, trivial⟩
  · exact fun w s => Ent.kept (by repeat (first | exact Ent.nil | (apply Ent.cons; · repeat (first | exact Take.here | apply Take.there)) | apply Ent.opt0 | apply Ent.opt1 | apply Ent.void | apply Ent.emp0 | apply Ent.two | (apply Ent.allV; · exact sl_void) | (apply Ent.allM; · exact fun _ => sl_void) | apply Ent.f1 rfl | apply Ent.f2 rfl | apply Ent.f3 rfl | apply Ent.f4 rfl | apply Ent.f10 rfl | apply Ent.grp | assumption | exact trivial | rfl | omega)) w s
  rintro n ⟨hn, hnt⟩
  refine GoC.seq ?_
  refine GoC.region ?_
  refine GoL.y rfl (Y.lss rfl rfl) ?_
  refine GoL.nil ?_
  refine GoE.then_normal ?_
  refine GoC.seq ?_
  refine GoC.condD rfl (fun h10 => ?_) (fun h10 => ?_)
  · have hn1 : n < k.libs.length := by omega
    obtain ⟨l, hl⟩ := at_some hn1
    have hlo := hk.lib l (List.mem_of_getElem? hl)
    have hpo := hpk.ev l (List.mem_of_getElem? hl)
    refine GoC.skip ?_
    refine GoE.then_normal ?_
    refine GoC.seq ?_
    refine GoC.block ?_
    refine GoC.seq ?_
    refine GoC.region ?_
    refine GoL.y rfl (Y.move rfl) ?_
    refine GoL.y rfl (Y.assign rfl) ?_
    refine GoL.nil ?_
    refine GoE.then_normal ?_
    refine GoC.seq ?_
    refine GoC.region ?_
    refine GoL.y rfl (Y.move rfl) ?_
    refine GoL.y rfl (Y.move rfl) ?_
    refine GoL.does rfl (Does.callE rfl Try.call20 rfl kern_Lib (by repeat (first | exact Ent.nil | (apply Ent.cons; · repeat (first | exact Take.here | apply Take.there)) | apply Ent.opt0 | apply Ent.opt1 | apply Ent.void | apply Ent.emp0 | apply Ent.two | (apply Ent.allV; · exact sl_void) | (apply Ent.allM; · exact fun _ => sl_void) | apply Ent.f1 rfl | apply Ent.f2 rfl | apply Ent.f3 rfl | apply Ent.f4 rfl | apply Ent.f10 rfl | apply Ent.grp | assumption | exact trivial | rfl | omega))) ?_
    rintro _ _ ⟨⟨⟩, -, rfl, rfl⟩
    refine GoL.o3 (C := krnX b bl k) (by repeat (first | exact Take.here | apply Take.there)) rfl ?_
    rintro vo vl xs ⟨hxb, hxs⟩
    have hxl := map_len hxs
    have hbl := map_len hxb
    have hxx := And.intro hxb hxs
    obtain ⟨x, hx, hxe, hbx⟩ := two_back hxb hxs hl
    rw [geti_nat, hbx]
    subst hxe
    refine GoL.fr (by repeat (first | exact Take.here | apply Take.there)) (all_out (f := fun x : Nat × Lib => libH x.1 x.2) hx) ?_
    refine GoL.o2 (C := libH x.1 x.2) (by repeat (first | exact Take.here | apply Take.there)) rfl ?_
    rintro bs br -
    refine GoL.does rfl (Does.callE rfl Try.call38 rfl lib_Space (by repeat (first | exact Ent.nil | (apply Ent.cons; · repeat (first | exact Take.here | apply Take.there)) | apply Ent.opt0 | apply Ent.opt1 | apply Ent.void | apply Ent.emp0 | apply Ent.two | (apply Ent.allV; · exact sl_void) | (apply Ent.allM; · exact fun _ => sl_void) | apply Ent.f1 rfl | apply Ent.f2 rfl | apply Ent.f3 rfl | apply Ent.f4 rfl | apply Ent.f10 rfl | apply Ent.grp | assumption | exact trivial | rfl | omega))) ?_
    rintro _ _ ⟨⟨⟩, -, rfl, rfl⟩
    refine GoL.o2 (C := libX x.1 bs br x.2) (by repeat (first | exact Take.here | apply Take.there)) rfl ?_
    rintro vv vw -
    refine GoL.o1 (C := spcH bs x.2.spc) (by repeat (first | exact Take.here | apply Take.there)) rfl ?_
    rintro pt -
    refine GoL.does rfl (Does.callE rfl Try.call39 rfl (core_Ready hlo.th) (by repeat (first | exact Ent.nil | (apply Ent.cons; · repeat (first | exact Take.here | apply Take.there)) | apply Ent.opt0 | apply Ent.opt1 | apply Ent.void | apply Ent.emp0 | apply Ent.two | (apply Ent.allV; · exact sl_void) | (apply Ent.allM; · exact fun _ => sl_void) | apply Ent.f1 rfl | apply Ent.f2 rfl | apply Ent.f3 rfl | apply Ent.f4 rfl | apply Ent.f10 rfl | apply Ent.grp | assumption | exact trivial | rfl | omega))) ?_
    rintro _ _ ⟨u16, -, rfl, rfl⟩
    refine GoL.to (A := allH (fun x : Nat × Lib => libH x.1 x.2) xs) (by repeat (first | exact Ent.nil | (apply Ent.cons; · repeat (first | exact Take.here | apply Take.there)) | apply Ent.opt0 | apply Ent.opt1 | apply Ent.void | apply Ent.emp0 | apply Ent.two | (apply Ent.allV; · exact sl_void) | (apply Ent.allM; · exact fun _ => sl_void) | apply Ent.f1 rfl | apply Ent.f2 rfl | apply Ent.f3 rfl | apply Ent.f4 rfl | apply Ent.f10 rfl | apply Ent.grp | assumption | exact trivial | rfl | omega)) (all_back (f := fun x : Nat × Lib => libH x.1 x.2) hx) ?_
    refine GoL.to (A := krnX b bl k) (by repeat (first | exact Ent.nil | (apply Ent.cons; · repeat (first | exact Take.here | apply Take.there)) | apply Ent.opt0 | apply Ent.opt1 | apply Ent.void | apply Ent.emp0 | apply Ent.two | (apply Ent.allV; · exact sl_void) | (apply Ent.allM; · exact fun _ => sl_void) | apply Ent.f1 rfl | apply Ent.f2 rfl | apply Ent.f3 rfl | apply Ent.f4 rfl | apply Ent.f10 rfl | apply Ent.grp | assumption | exact trivial | rfl | omega)) fold1 ?_
    refine GoL.y rfl (Y.assign rfl) ?_
    refine GoL.nil ?_
    refine GoE.then_normal ?_
    refine GoC.seq ?_
    refine GoC.region ?_
    refine GoL.y rfl (Y.move rfl) ?_
    refine GoL.nil ?_
    refine GoE.then_normal ?_
    refine GoC.block ?_
    refine GoC.loopK (X := Nat) [3, 4, 5, 6, 17, 18, 19, 20, 21, 22, 23, 24, 25, 26, 27, 28, 29, 30] (fun z => 16 - z) (fun z => z ≤ 16 ∧ rightIn x.2 z = true) (fun z => [(17, some (.int .i64 (z : Int))), (3, some (.int .i64 (n : Int))), (4, some u16)]) (fun z => [sl intE 1 u16 x.2.spc.ready, krnX b bl k, F]) 0 ?_ ?_ ?_ ?_
    · exact ⟨Nat.zero_le _, rfl⟩
    · exact ⟨rfl, rfl, rfl, trivial⟩
    · exact fun w s => Ent.kept (by repeat (first | exact Ent.nil | (apply Ent.cons; · repeat (first | exact Take.here | apply Take.there)) | apply Ent.opt0 | apply Ent.opt1 | apply Ent.void | apply Ent.emp0 | apply Ent.two | (apply Ent.allV; · exact sl_void) | (apply Ent.allM; · exact fun _ => sl_void) | apply Ent.f1 rfl | apply Ent.f2 rfl | apply Ent.f3 rfl | apply Ent.f4 rfl | apply Ent.f10 rfl | apply Ent.grp | assumption | exact trivial | rfl | omega)) w s
    rintro s ⟨hs, hst⟩
    refine GoC.seq ?_
    refine GoC.region ?_
    refine GoL.y rfl (Y.lss rfl rfl) ?_
    refine GoL.nil ?_
    refine GoE.then_normal ?_
    refine GoC.seq ?_
    refine GoC.condD rfl (fun h18 => ?_) (fun h18 => ?_)
    · refine GoC.skip ?_
      refine GoE.then_normal ?_
      refine GoC.seq ?_
      refine GoC.block ?_
      refine GoC.seq ?_
      refine GoC.region ?_
      refine GoL.y rfl (Y.move rfl) ?_
      refine GoL.y rfl (Y.assign rfl) ?_
      refine GoL.nil ?_
      refine GoE.then_normal ?_
      refine GoC.seq ?_
      refine GoC.region ?_
      refine GoL.y rfl (Y.assign rfl) ?_
      refine GoL.nil ?_
      refine GoE.then_normal ?_
      refine GoC.seq ?_
      refine GoC.seq ?_
      refine GoC.region ?_
      refine GoL.y rfl (Y.move rfl) ?_
      refine GoL.y rfl (Y.move rfl) ?_
      refine GoL.does rfl (Does.callE rfl Try.call40 rfl (ContainsI (A := sl intE 1 u16 x.2.spc.ready) (xs := x.2.spc.ready) (x := (s : Int)) (Rd.sl .here) (by have := ready_len x.2.spc.thr 0; have : x.2.spc.ready.length ≤ x.2.spc.thr.length := this; have := hlo.th; omega)) (by repeat (first | exact Ent.nil | (apply Ent.cons; · repeat (first | exact Take.here | apply Take.there)) | apply Ent.opt0 | apply Ent.opt1 | apply Ent.void | apply Ent.emp0 | apply Ent.two | (apply Ent.allV; · exact sl_void) | (apply Ent.allM; · exact fun _ => sl_void) | apply Ent.f1 rfl | apply Ent.f2 rfl | apply Ent.f3 rfl | apply Ent.f4 rfl | apply Ent.f10 rfl | apply Ent.grp | assumption | exact trivial | rfl | omega))) ?_
      rintro _ _ ⟨⟨⟩, -, rfl, rfl⟩
      refine GoL.nil ?_
      refine GoE.then_normal ?_
      refine GoC.cond rfl (fun h22 => ?_) (fun h22 => ?_)
      · refine GoC.region ?_
        refine GoL.y rfl (Y.assign rfl) ?_
        refine GoL.nil ?_
        refine GoE.then_normal ?_
        refine GoC.seq ?_
        refine GoC.region ?_
        refine GoL.y rfl (Y.move rfl) ?_
        refine GoL.y rfl (Y.move rfl) ?_
        refine GoL.y rfl (Y.move rfl) ?_
        refine GoL.does rfl (Does.callE rfl Try.call14 rfl (place_Of (n := n) (slot := (s : Int)) hl hlo.vl hpo) (by repeat (first | exact Ent.nil | (apply Ent.cons; · repeat (first | exact Take.here | apply Take.there)) | apply Ent.opt0 | apply Ent.opt1 | apply Ent.void | apply Ent.emp0 | apply Ent.two | (apply Ent.allV; · exact sl_void) | (apply Ent.allM; · exact fun _ => sl_void) | apply Ent.f1 rfl | apply Ent.f2 rfl | apply Ent.f3 rfl | apply Ent.f4 rfl | apply Ent.f10 rfl | apply Ent.grp | assumption | exact trivial | rfl | omega))) ?_
        rintro _ _ ⟨u26, -, rfl, rfl⟩
        first
          | refine GoL.y rfl (Y.lenRd Try.underlying37 rfl Rd.s) ?_
          | refine GoL.y rfl (Y.lenRd Try.underlying37 rfl ‹_›) ?_
          | refine GoL.y rfl (Y.lenSlice Try.underlying37 rfl) ?_
        refine GoL.y rfl (Y.move rfl) ?_
        refine GoL.y rfl (Y.neq rfl rfl) ?_
        refine GoL.nil ?_
        refine GoE.then_normal ?_
        refine GoC.condD rfl (fun h29 => ?_) (fun h29 => ?_)
        · rw [right_bad (show s < 16 by omega) hn1 hl (by rw [if_pos h22]; omega)]
          refine GoC.seq ?_
          refine GoC.region ?_
          refine GoL.y rfl (Y.assign rfl) ?_
          refine GoL.nil ?_
          refine GoE.then_normal ?_
          refine GoC.ret ?_
          refine GoE.block_ret (GoE.then_ret (GoE.then_ret (GoE.block_ret (GoE.block_ret (GoE.then_ret (GoE.then_ret (GoE.block_ret (GoE.then_ret ?_))))))))
          refine GoE.ret1 rfl rfl fun w s => ⟨(), ?_, trivial, finE (by repeat (first | exact Ent.nil | (apply Ent.cons; · repeat (first | exact Take.here | apply Take.there)) | apply Ent.opt0 | apply Ent.opt1 | apply Ent.void | apply Ent.emp0 | apply Ent.two | (apply Ent.allV; · exact sl_void) | (apply Ent.allM; · exact fun _ => sl_void) | apply Ent.f1 rfl | apply Ent.f2 rfl | apply Ent.f3 rfl | apply Ent.f4 rfl | apply Ent.f10 rfl | apply Ent.grp | assumption | exact trivial | rfl | omega)) s⟩
          rfl
        · refine GoC.skip ?_
          refine GoE.block_normal (GoE.then_normal ?_)
          refine GoC.region ?_
          first
            | refine GoL.y rfl (Y.inc rfl rfl (by omega)) ?_
            | refine GoL.y rfl (Y.add rfl rfl (by omega)) ?_
          refine GoL.y rfl (Y.move rfl) ?_
          refine GoL.nil ?_
          refine GoE.againK (s + 1) (by repeat (first | exact Top.base | refine Top.cons rfl ?_)) rfl ?_ ?_ ?_ ?_
          · omega
          · exact ⟨by omega, by rw [rightIn, hst, Bool.true_and, if_pos h22]; exact decide_eq_true (by omega)⟩
          · exact ⟨rfl, rfl, rfl, trivial⟩
          · exact fun w s => Ent.kept (by repeat (first | exact Ent.nil | (apply Ent.cons; · repeat (first | exact Take.here | apply Take.there)) | apply Ent.opt0 | apply Ent.opt1 | apply Ent.void | apply Ent.emp0 | apply Ent.two | (apply Ent.allV; · exact sl_void) | (apply Ent.allM; · exact fun _ => sl_void) | apply Ent.f1 rfl | apply Ent.f2 rfl | apply Ent.f3 rfl | apply Ent.f4 rfl | apply Ent.f10 rfl | apply Ent.grp | assumption | exact trivial | rfl | omega)) w s
      · refine GoC.skip ?_
        refine GoE.then_normal ?_
        refine GoC.seq ?_
        refine GoC.region ?_
        refine GoL.y rfl (Y.move rfl) ?_
        refine GoL.y rfl (Y.move rfl) ?_
        refine GoL.y rfl (Y.move rfl) ?_
        refine GoL.does rfl (Does.callE rfl Try.call14 rfl (place_Of (n := n) (slot := (s : Int)) hl hlo.vl hpo) (by repeat (first | exact Ent.nil | (apply Ent.cons; · repeat (first | exact Take.here | apply Take.there)) | apply Ent.opt0 | apply Ent.opt1 | apply Ent.void | apply Ent.emp0 | apply Ent.two | (apply Ent.allV; · exact sl_void) | (apply Ent.allM; · exact fun _ => sl_void) | apply Ent.f1 rfl | apply Ent.f2 rfl | apply Ent.f3 rfl | apply Ent.f4 rfl | apply Ent.f10 rfl | apply Ent.grp | assumption | exact trivial | rfl | omega))) ?_
        rintro _ _ ⟨u26, -, rfl, rfl⟩
        first
          | refine GoL.y rfl (Y.lenRd Try.underlying37 rfl Rd.s) ?_
          | refine GoL.y rfl (Y.lenRd Try.underlying37 rfl ‹_›) ?_
          | refine GoL.y rfl (Y.lenSlice Try.underlying37 rfl) ?_
        refine GoL.y rfl (Y.move rfl) ?_
        refine GoL.y rfl (Y.neq rfl rfl) ?_
        refine GoL.nil ?_
        refine GoE.then_normal ?_
        refine GoC.condD rfl (fun h29 => ?_) (fun h29 => ?_)
        · rw [right_bad (show s < 16 by omega) hn1 hl (by rw [if_neg (by rw [h22]; simp)]; omega)]
          refine GoC.seq ?_
          refine GoC.region ?_
          refine GoL.y rfl (Y.assign rfl) ?_
          refine GoL.nil ?_
          refine GoE.then_normal ?_
          refine GoC.ret ?_
          refine GoE.block_ret (GoE.then_ret (GoE.then_ret (GoE.block_ret (GoE.block_ret (GoE.then_ret (GoE.then_ret (GoE.block_ret (GoE.then_ret ?_))))))))
          refine GoE.ret1 rfl rfl fun w s => ⟨(), ?_, trivial, finE (by repeat (first | exact Ent.nil | (apply Ent.cons; · repeat (first | exact Take.here | apply Take.there)) | apply Ent.opt0 | apply Ent.opt1 | apply Ent.void | apply Ent.emp0 | apply Ent.two | (apply Ent.allV; · exact sl_void) | (apply Ent.allM; · exact fun _ => sl_void) | apply Ent.f1 rfl | apply Ent.f2 rfl | apply Ent.f3 rfl | apply Ent.f4 rfl | apply Ent.f10 rfl | apply Ent.grp | assumption | exact trivial | rfl | omega)) s⟩
          rfl
        · refine GoC.skip ?_
          refine GoE.block_normal (GoE.then_normal ?_)
          refine GoC.region ?_
          first
            | refine GoL.y rfl (Y.inc rfl rfl (by omega)) ?_
            | refine GoL.y rfl (Y.add rfl rfl (by omega)) ?_
          refine GoL.y rfl (Y.move rfl) ?_
          refine GoL.nil ?_
          refine GoE.againK (s + 1) (by repeat (first | exact Top.base | refine Top.cons rfl ?_)) rfl ?_ ?_ ?_ ?_
          · omega
          · exact ⟨by omega, by rw [rightIn, hst, Bool.true_and, if_neg (by rw [h22]; simp)]; exact decide_eq_true (by omega)⟩
          · exact ⟨rfl, rfl, rfl, trivial⟩
          · exact fun w s => Ent.kept (by repeat (first | exact Ent.nil | (apply Ent.cons; · repeat (first | exact Take.here | apply Take.there)) | apply Ent.opt0 | apply Ent.opt1 | apply Ent.void | apply Ent.emp0 | apply Ent.two | (apply Ent.allV; · exact sl_void) | (apply Ent.allM; · exact fun _ => sl_void) | apply Ent.f1 rfl | apply Ent.f2 rfl | apply Ent.f3 rfl | apply Ent.f4 rfl | apply Ent.f10 rfl | apply Ent.grp | assumption | exact trivial | rfl | omega)) w s
    · obtain rfl : s = 16 := by omega
      refine GoC.exit ?_
      refine GoE.then_exit (GoE.then_exit (GoE.block_here (GoE.block_normal (GoE.then_normal ?_))))
      refine GoC.region ?_
      first
        | refine GoL.y rfl (Y.inc rfl rfl (by omega)) ?_
        | refine GoL.y rfl (Y.add rfl rfl (by omega)) ?_
      refine GoL.y rfl (Y.move rfl) ?_
      refine GoL.nil ?_
      refine GoE.againK (n + 1) (by repeat (first | exact Top.base | refine Top.cons rfl ?_)) rfl ?_ ?_ ?_ ?_
      · omega
      · exact ⟨by omega, by rw [rightTo, hnt, getD_of hl, hst]; rfl⟩
      · exact ⟨rfl, trivial⟩
      · exact fun w s => Ent.kept (by repeat (first | exact Ent.nil | (apply Ent.cons; · repeat (first | exact Take.here | apply Take.there)) | apply Ent.opt0 | apply Ent.opt1 | apply Ent.void | apply Ent.emp0 | apply Ent.two | (apply Ent.allV; · exact sl_void) | (apply Ent.allM; · exact fun _ => sl_void) | apply Ent.f1 rfl | apply Ent.f2 rfl | apply Ent.f3 rfl | apply Ent.f4 rfl | apply Ent.f10 rfl | apply Ent.grp | assumption | exact trivial | rfl | omega)) w s
  · obtain rfl : n = k.libs.length := by omega
    refine GoC.exit ?_
    refine GoE.then_exit (GoE.then_exit (GoE.block_here (GoE.then_normal ?_)))
    refine GoC.seq ?_
    refine GoC.region ?_
    refine GoL.y rfl (Y.move rfl) ?_
    refine GoL.y rfl (Y.neqPtrNil Try.underlying24 rfl rfl) ?_
    refine GoL.y rfl (Y.move rfl) ?_
    refine GoL.yg rfl rfl rfl (Y.move rfl) ?_
    refine GoL.dg rfl rfl rfl (Does.callE rfl Try.call41 rfl (place_owners hk) (by repeat (first | exact Ent.nil | (apply Ent.cons; · repeat (first | exact Take.here | apply Take.there)) | apply Ent.opt0 | apply Ent.opt1 | apply Ent.void | apply Ent.emp0 | apply Ent.two | (apply Ent.allV; · exact sl_void) | (apply Ent.allM; · exact fun _ => sl_void) | apply Ent.f1 rfl | apply Ent.f2 rfl | apply Ent.f3 rfl | apply Ent.f4 rfl | apply Ent.f10 rfl | apply Ent.grp | assumption | exact trivial | rfl | omega))) ?_
    rintro _ _ ⟨⟨⟩, -, rfl, rfl⟩
    refine GoL.y rfl (Y.pickT rfl rfl) ?_
    refine GoL.y rfl (Y.assign rfl) ?_
    refine GoL.nil ?_
    refine GoE.then_normal ?_
    refine GoC.ret ?_
    refine GoE.ret1 rfl rfl fun w s => ⟨(), ?_, trivial, finE (by repeat (first | exact Ent.nil | (apply Ent.cons; · repeat (first | exact Take.here | apply Take.there)) | apply Ent.opt0 | apply Ent.opt1 | apply Ent.void | apply Ent.emp0 | apply Ent.two | (apply Ent.allV; · exact sl_void) | (apply Ent.allM; · exact fun _ => sl_void) | apply Ent.f1 rfl | apply Ent.f2 rfl | apply Ent.f3 rfl | apply Ent.f4 rfl | apply Ent.f10 rfl | apply Ent.grp | assumption | exact trivial | rfl | omega)) s⟩
    unfold rightAll; rw [hnt]; rfl

set_option maxRecDepth 20000 in
theorem place_RightN {W : World}  : Fn Try.prog W 15 [.pointer none] [] Unit (fun _ => .bool false) (fun _ => True) (fun _ => []) := by
  refine Fn.intro (N := 38) Try.func15 rfl Try.ntmps15 rfl fun F => ?_
  show GoC _ _ _ _ _ _ [F]
  refine GoC.seq ?_
  refine GoC.region ?_
  refine GoL.y rfl (Y.assign rfl) ?_
  refine GoL.nil ?_
  refine GoE.then_normal ?_
  refine GoC.seq ?_
  refine GoC.seq ?_
  refine GoC.region ?_
  refine GoL.y rfl (Y.move rfl) ?_
  refine GoL.does rfl (Does.callE rfl Try.call37 rfl kern_SpacesN (by repeat (first | exact Ent.nil | (apply Ent.cons; · repeat (first | exact Take.here | apply Take.there)) | apply Ent.opt0 | apply Ent.opt1 | apply Ent.void | apply Ent.emp0 | apply Ent.two | (apply Ent.allV; · exact sl_void) | (apply Ent.allM; · exact fun _ => sl_void) | apply Ent.f1 rfl | apply Ent.f2 rfl | apply Ent.f3 rfl | apply Ent.f4 rfl | apply Ent.f10 rfl | apply Ent.grp | assumption | exact trivial | rfl | omega))) ?_
  rintro _ _ ⟨⟨⟩, -, rfl, rfl⟩
  refine GoL.y rfl (Y.move rfl) ?_
  refine GoL.nil ?_
  refine GoE.then_normal ?_
  refine GoC.block ?_
  refine GoC.loopK (X := Nat) [2, 3, 4, 5, 6, 9, 10, 11, 12, 13, 14, 15, 16, 17, 18, 19, 20, 21, 22, 23, 24, 25, 26, 27, 28, 29, 30, 31] (fun z => 0) (fun z => True) (fun z => [(9, some (.int .i64 0))]) (fun z => [F]) 0 ?_ ?_ ?_ ?_
  · trivial
  · exact ⟨rfl, trivial⟩
  · exact fun w s => Ent.kept (by repeat (first | exact Ent.nil | (apply Ent.cons; · repeat (first | exact Take.here | apply Take.there)) | apply Ent.opt0 | apply Ent.opt1 | apply Ent.void | apply Ent.emp0 | apply Ent.two | (apply Ent.allV; · exact sl_void) | (apply Ent.allM; · exact fun _ => sl_void) | apply Ent.f1 rfl | apply Ent.f2 rfl | apply Ent.f3 rfl | apply Ent.f4 rfl | apply Ent.f10 rfl | apply Ent.grp | assumption | exact trivial | rfl | omega)) w s
  rintro n -
  refine GoC.seq ?_
  refine GoC.region ?_
  refine GoL.y rfl (Y.lss rfl rfl) ?_
  refine GoL.nil ?_
  refine GoE.then_normal ?_
  refine GoC.seq ?_
  refine GoC.condD rfl (fun h10 => ?_) (fun h10 => ?_)
  · exact absurd h10 (by decide)
  · refine GoC.exit ?_
    refine GoE.then_exit (GoE.then_exit (GoE.block_here (GoE.then_normal ?_)))
    refine GoC.seq ?_
    refine GoC.region ?_
    refine GoL.y rfl (Y.move rfl) ?_
    refine GoL.y rfl (Y.neqPtrNil Try.underlying24 rfl rfl) ?_
    refine GoL.y rfl (Y.move rfl) ?_
    refine GoL.skip rfl rfl rfl rfl ?_
    refine GoL.skip rfl rfl rfl rfl ?_
    refine GoL.y rfl (Y.pickF rfl rfl) ?_
    refine GoL.y rfl (Y.assign rfl) ?_
    refine GoL.nil ?_
    refine GoE.then_normal ?_
    refine GoC.ret ?_
    refine GoE.ret1 rfl rfl fun w s => ⟨(), ?_, trivial, finE (by repeat (first | exact Ent.nil | (apply Ent.cons; · repeat (first | exact Take.here | apply Take.there)) | apply Ent.opt0 | apply Ent.opt1 | apply Ent.void | apply Ent.emp0 | apply Ent.two | (apply Ent.allV; · exact sl_void) | (apply Ent.allM; · exact fun _ => sl_void) | apply Ent.f1 rfl | apply Ent.f2 rfl | apply Ent.f3 rfl | apply Ent.f4 rfl | apply Ent.f10 rfl | apply Ent.grp | assumption | exact trivial | rfl | omega)) s⟩
    rfl

set_option maxRecDepth 20000 in
theorem place_OfN {W : World} {n slot : Int} : Fn Try.prog W 14 [.pointer none, .int .i64 n, .int .i64 slot] [] Value (fun u => u) (fun _ => True) (fun u => [sl plcE 2 u []]) := by
  refine Fn.intro (N := 54) Try.func14 rfl Try.ntmps14 rfl fun F => ?_
  show GoC _ _ _ _ _ _ [F]
  refine GoC.seq ?_
  refine GoC.region ?_
  refine GoL.y rfl (Y.assign rfl) ?_
  refine GoL.nil ?_
  refine GoE.then_normal ?_
  refine GoC.seq ?_
  refine GoC.region ?_
  refine GoL.y rfl (Y.move rfl) ?_
  refine GoL.y rfl (Y.move rfl) ?_
  refine GoL.does rfl (Does.callE rfl Try.call20 rfl kern_LibN (by repeat (first | exact Ent.nil | (apply Ent.cons; · repeat (first | exact Take.here | apply Take.there)) | apply Ent.opt0 | apply Ent.opt1 | apply Ent.void | apply Ent.emp0 | apply Ent.two | (apply Ent.allV; · exact sl_void) | (apply Ent.allM; · exact fun _ => sl_void) | apply Ent.f1 rfl | apply Ent.f2 rfl | apply Ent.f3 rfl | apply Ent.f4 rfl | apply Ent.f10 rfl | apply Ent.grp | assumption | exact trivial | rfl | omega))) ?_
  rintro _ _ ⟨⟨⟩, -, rfl, rfl⟩
  refine GoL.y rfl (Y.assign rfl) ?_
  refine GoL.nil ?_
  refine GoE.then_normal ?_
  refine GoC.seq ?_
  refine GoC.seq ?_
  refine GoC.region ?_
  refine GoL.y rfl (Y.move rfl) ?_
  refine GoL.y rfl (Y.eqPtrNil Try.underlying51 rfl rfl) ?_
  refine GoL.nil ?_
  refine GoE.then_normal ?_
  refine GoC.condT rfl ?_
  refine GoC.seq ?_
  refine GoC.region ?_
  refine GoL.y rfl (Y.assign rfl) ?_
  refine GoL.nil ?_
  refine GoE.then_normal ?_
  refine GoC.ret ?_
  refine GoE.then_ret ?_
  refine GoE.ret1 rfl rfl fun w s => ⟨.slice none 0 0, ?_, trivial, finE (by repeat (first | exact Ent.nil | (apply Ent.cons; · repeat (first | exact Take.here | apply Take.there)) | apply Ent.opt0 | apply Ent.opt1 | apply Ent.void | apply Ent.emp0 | apply Ent.two | (apply Ent.allV; · exact sl_void) | (apply Ent.allM; · exact fun _ => sl_void) | apply Ent.f1 rfl | apply Ent.f2 rfl | apply Ent.f3 rfl | apply Ent.f4 rfl | apply Ent.f10 rfl | apply Ent.grp | assumption | exact trivial | rfl | omega)) s⟩
  rfl

end Go.SLYtkflpgknieoknaa
