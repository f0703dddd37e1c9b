/- Walks of functions, and what they compute. Conditions: none, this text proves no statement. -/
import Derived.Test.YtkflpgknieoknaaProg
import Derived.Test.YtkflpgknieoknaaRd
import Derived.Test.YtkflpgknieoknaaK6
import Derived.KernelRfl
namespace Go.SLYtkflpgknieoknaa
open Go Go.RowKit Go.Proofs

set_option maxRecDepth 20000 in
theorem ready_New {W : World} {p : Int} : Fn Try.prog W 52 [.int .i64 p] [] Nat (fun b => ptr b) (fun _ => True) (fun b => [rwsH b (List.replicate (clamp p 64).toNat [])]) := by
  refine Fn.intro (N := 23) Try.func52 rfl Try.ntmps52 rfl fun F => ?_
  show GoC _ _ _ _ _ _ [F]
  have hc : 0 ≤ clamp p 64 ∧ clamp p 64 ≤ 64 := by unfold clamp; omega
  refine GoC.seq ?_
  refine GoC.region ?_
  refine GoL.y rfl (Y.assign rfl) ?_
  refine GoL.nil ?_
  refine GoE.then_normal ?_
  refine GoC.seq ?_
  refine GoC.region ?_
  refine GoL.y rfl (Y.bld0 ([(.slice none 0 0)]) (by kernel_rfl)) ?_
  refine GoL.does rfl (Does.box rfl rfl rfl) ?_
  rintro _ _ ⟨b5, rfl, rfl⟩
  refine GoL.y rfl (Y.assign rfl) ?_
  refine GoL.nil ?_
  refine GoE.then_normal ?_
  refine GoC.seq ?_
  refine GoC.seq ?_
  refine GoC.region ?_
  refine GoL.y rfl (Y.move rfl) ?_
  refine GoL.y rfl (Y.max2m rfl rfl) ?_
  refine GoL.y rfl (Y.valW (Y.min2m rfl rfl) (show min (max p 0) 64 = clamp p 64 from rfl)) ?_
  refine GoL.y rfl (Y.move rfl) ?_
  refine GoL.nil ?_
  refine GoE.then_normal ?_
  refine GoC.block ?_
  refine GoC.loopK (X := Nat × Value × List (Nat × List Int)) [9, 10, 11, 12, 13, 14, 15, 16, 17, 18, 19, 20, 21] (fun z => (clamp p 64).toNat - z.1) (fun z => z.1 ≤ (clamp p 64).toNat ∧ z.2.2.length = z.1 ∧ z.2.2.map (·.2) = List.replicate z.1 []) (fun z => [(9, some (.int .i64 (z.1 : Int)))]) (fun z => [arr b5 0 [z.2.1], sl ptrE 1 z.2.1 z.2.2, allH (fun x => dqH x.1 x.2) z.2.2, F]) (0, .slice none 0 0, []) ?_ ?_ ?_ ?_
  · exact ⟨Nat.zero_le _, rfl, rfl⟩
  · exact ⟨rfl, trivial⟩
  · exact fun w s => Ent.kept (by repeat (first | exact Ent.nil | (apply Ent.cons; · repeat (first | exact Take.here | apply Take.there)) | apply Ent.opt0 | apply Ent.opt1 | apply Ent.void | apply Ent.emp0 | apply Ent.two | (apply Ent.allV; · exact sl_void) | (apply Ent.allM; · exact fun _ => sl_void) | apply Ent.f1 rfl | apply Ent.f2 rfl | apply Ent.f3 rfl | apply Ent.f4 rfl | apply Ent.f10 rfl | apply Ent.grp | assumption | exact trivial | rfl | omega)) w s
  rintro ⟨k, v, ts⟩ ⟨hk, htl, htm⟩
  simp only at hk htl htm
  refine GoC.seq ?_
  refine GoC.region ?_
  refine GoL.y rfl (Y.lss rfl rfl) ?_
  refine GoL.nil ?_
  refine GoE.then_normal ?_
  refine GoC.seq ?_
  refine GoC.condD rfl (fun h10 => ?_) (fun h10 => ?_)
  · refine GoC.skip ?_
    refine GoE.then_normal ?_
    refine GoC.seq ?_
    refine GoC.block ?_
    refine GoC.draw [arr b5 0 [v]] [0, 0, 0, 0, 0, 2, 2, 2, 1, 1, 3] rfl (by kernel_rfl) ?_
    refine GoK.k rfl (Kept.ok (by repeat (first | exact Kept.nil | exact Take.here | apply Take.there | apply Kept.take))) (Y.move rfl) ?_
    refine GoK.k rfl (Kept.ok (by repeat (first | exact Kept.nil | exact Take.here | apply Take.there | apply Kept.take))) (Y.move rfl) ?_
    refine GoK.k rfl (Kept.ok (by repeat (first | exact Kept.nil | exact Take.here | apply Take.there | apply Kept.take))) (Y.nilCheck rfl) ?_
    refine GoK.k rfl (Kept.ok (by repeat (first | exact Kept.nil | exact Take.here | apply Take.there | apply Kept.take))) (Y.fieldAddrZ 126 Try.underlying128 rfl Try.sizeOf126 rfl) ?_
    first
      | refine GoK.k rfl (Kept.ok (by repeat (first | exact Kept.nil | exact Take.here | apply Take.there | apply Kept.take))) (Y.load Try.isAgg126 rfl (Cell.a (by rfl))) ?_
      | refine GoK.k rfl (Kept.ok (by repeat (first | exact Kept.nil | exact Take.here | apply Take.there | apply Kept.take))) (Y.load Try.isAgg126 rfl (Cell.rd0 Rd.s ‹_› (by rfl))) ?_
      | refine GoK.k rfl (Kept.ok (by repeat (first | exact Kept.nil | exact Take.here | apply Take.there | apply Kept.take))) (Y.load Try.isAgg126 rfl (Cell.rd Rd.s ‹_› (by rfl))) ?_
      | refine GoK.k rfl (Kept.ok (by repeat (first | exact Kept.nil | exact Take.here | apply Take.there | apply Kept.take))) (Y.load Try.isAgg126 rfl (Cell.ao (by rfl))) ?_
      | refine GoK.k rfl (Kept.ok (by repeat (first | exact Kept.nil | exact Take.here | apply Take.there | apply Kept.take))) (Y.load Try.isAgg126 rfl (Cell.az (by rfl))) ?_
      | refine GoK.k rfl (Kept.ok (by repeat (first | exact Kept.nil | exact Take.here | apply Take.there | apply Kept.take))) (Y.load Try.isAgg126 rfl (Cell.a ‹_›)) ?_
      | refine GoK.k rfl (Kept.ok (by repeat (first | exact Kept.nil | exact Take.here | apply Take.there | apply Kept.take))) (Y.load Try.isAgg126 rfl (Cell.rd0 ‹_› ‹_› (by rfl))) ?_
      | refine GoK.k rfl (Kept.ok (by repeat (first | exact Kept.nil | exact Take.here | apply Take.there | apply Kept.take))) (Y.load Try.isAgg126 rfl (Cell.rd ‹_› ‹_› (by rfl))) ?_
    refine GoK.d2 rfl (Kept.ok (by repeat (first | exact Kept.nil | exact Take.here | apply Take.there | apply Kept.take))) (Does.callE rfl Try.call73 rfl deque_New (by repeat (first | exact Ent.nil | (apply Ent.cons; · repeat (first | exact Take.here | apply Take.there)) | apply Ent.opt0 | apply Ent.opt1 | apply Ent.void | apply Ent.emp0 | apply Ent.two | (apply Ent.allV; · exact sl_void) | (apply Ent.allM; · exact fun _ => sl_void) | apply Ent.f1 rfl | apply Ent.f2 rfl | apply Ent.f3 rfl | apply Ent.f4 rfl | apply Ent.f10 rfl | apply Ent.grp | assumption | exact trivial | rfl | omega))) (by rintro _ _ ⟨x16, -, rfl, rfl⟩; exact (Kept.ok (by repeat (first | exact Kept.nil | exact Take.here | apply Take.there | apply Kept.take)))) ?_
    rintro _ _ ⟨x16, -, rfl, rfl⟩
    refine GoK.d2 rfl (Kept.ok (by repeat (first | exact Kept.nil | exact Take.here | apply Take.there | apply Kept.take))) (Does.bsl 129 rfl rfl (by kernel_rfl)) (by rintro _ _ ⟨b17, rfl, rfl⟩; exact (Kept.ok (by repeat (first | exact Kept.nil | exact Take.here | apply Take.there | apply Kept.take)))) ?_
    rintro _ _ ⟨b17, rfl, rfl⟩
    refine GoK.d2 rfl (Kept.ok (by repeat (first | exact Kept.nil | exact Take.here | apply Take.there | apply Kept.take))) (Does.app1 (enc := ptrE) (k := 1) ((x16, []) : Nat × List Int) rfl Try.underlying126 Try.underlying126 Try.typeInfo129 rfl rfl rfl (by decide) rfl rfl rfl (by repeat (first | exact At.here | refine At.there ?_)) rfl (by repeat (first | exact Take.here | apply Take.there)) (by first | omega | (dsimp only; omega)) rfl) (by rintro _ _ ⟨v18, rfl, rfl⟩; exact (Kept.ok (by repeat (first | exact Kept.nil | exact Take.here | apply Take.there | apply Kept.take)))) ?_
    rintro _ _ ⟨v18, rfl, rfl⟩
    refine GoK.s rfl (Y.nilCheck rfl) ?_
    refine GoK.s rfl (Y.fieldAddrZ 126 Try.underlying128 rfl Try.sizeOf126 rfl) ?_
    first
      | refine GoK.d3 rfl (Does.stS Try.sizeOf126 rfl rfl rfl) ?_
      | refine GoK.d3 rfl (Does.st Try.sizeOf126 rfl rfl rfl rfl) ?_
      | refine GoK.d3 rfl (Does.stoS Try.sizeOf126 rfl rfl rfl) ?_
      | refine GoK.d3 rfl (Does.stzS Try.sizeOf126 rfl rfl rfl) ?_
    rintro _ _ ⟨rfl, rfl⟩
    refine GoK.nil ?_
    refine GoE.block_normal (GoE.then_normal ?_)
    refine GoC.region ?_
    first
      | refine GoL.y rfl (Y.inc rfl rfl (by omega)) ?_
      | refine GoL.y rfl (Y.add rfl rfl (by omega)) ?_
    refine GoL.y rfl (Y.move rfl) ?_
    refine GoL.nil ?_
    refine GoE.againK (k + 1, v18, ts ++ [(x16, [])]) (by repeat (first | exact Top.base | refine Top.cons rfl ?_)) rfl ?_ ?_ ?_ ?_
    · show (clamp p 64).toNat - (k + 1) < (clamp p 64).toNat - k; omega
    · exact ⟨by show k + 1 ≤ _; omega, by simp [htl], by simp [htm, List.replicate_succ']⟩
    · exact ⟨rfl, trivial⟩
    · show ∀ w, Sat _ w _ → Sat _ w (seps [_, sl ptrE 1 v18 (ts ++ [(x16, [])]), allH (fun x => dqH x.1 x.2) (ts ++ [(x16, [])]), F])
      rw [allH_snoc]
      exact fun w s => Ent.kept (by repeat (first | exact Ent.nil | (apply Ent.cons; · repeat (first | exact Take.here | apply Take.there)) | apply Ent.opt0 | apply Ent.opt1 | apply Ent.void | apply Ent.emp0 | apply Ent.two | (apply Ent.allV; · exact sl_void) | (apply Ent.allM; · exact fun _ => sl_void) | apply Ent.f1 rfl | apply Ent.f2 rfl | apply Ent.f3 rfl | apply Ent.f4 rfl | apply Ent.f10 rfl | apply Ent.grp | assumption | exact trivial | rfl | omega)) w s
  · refine GoC.exit ?_
    refine GoE.then_exit (GoE.then_exit (GoE.block_here (GoE.then_normal ?_)))
    refine GoC.seq ?_
    refine GoC.region ?_
    refine GoL.y rfl (Y.move rfl) ?_
    refine GoL.y rfl (Y.assign rfl) ?_
    refine GoL.nil ?_
    refine GoE.then_normal ?_
    refine GoC.ret ?_
    obtain rfl : k = (clamp p 64).toNat := by omega
    refine GoE.ret1 rfl rfl fun w s => ⟨b5, ?_, trivial, finE (by repeat (first | exact Ent.nil | (apply Ent.cons; · repeat (first | exact Take.here | apply Take.there)) | apply Ent.opt0 | apply Ent.opt1 | apply Ent.void | apply Ent.emp0 | apply Ent.two | (apply Ent.allV; · exact sl_void) | (apply Ent.allM; · exact fun _ => sl_void) | apply Ent.f1 rfl | apply Ent.f2 rfl | apply Ent.f3 rfl | apply Ent.f4 rfl | apply Ent.f10 rfl | apply Ent.grp | assumption | exact trivial | rfl | omega)) s⟩
    rfl

set_option maxRecDepth 20000 in
theorem lib_unblocked {W : World} {A : HProp} {v : Value} {xs : List Int} (hr : Rd W [A] intE 1 v xs) (hl : xs.length ≤ 1000000000) : Fn Try.prog W 53 [v] [A] Value (fun u => u) (fun _ => True) (fun u => [sl evE 3 u (unblocked xs), A]) := by
  refine Fn.intro (N := 19) Try.func53 rfl Try.ntmps53 rfl fun F => ?_
  haveI hRI : ∀ (H : List HProp) [HasH H A], ReadsC W H v intE 1 xs := fun H h => ⟨hr.at h.has⟩
  show GoC _ _ _ _ _ _ [A, F]
  refine GoC.seq ?_
  refine GoC.region ?_
  refine GoL.y rfl (Y.assign rfl) ?_
  refine GoL.nil ?_
  refine GoE.then_normal ?_
  refine GoC.seq ?_
  refine GoC.region ?_
  refine GoL.y rfl (Y.assign rfl) ?_
  refine GoL.nil ?_
  refine GoE.then_normal ?_
  refine GoC.seq ?_
  refine GoC.seq ?_
  refine GoC.region ?_
  refine GoL.y rfl (Y.move rfl) ?_
  first
    | refine GoL.y rfl (Y.lenRd Try.underlying23 rfl Rd.s) ?_
    | refine GoL.y rfl (Y.lenRd Try.underlying23 rfl ‹_›) ?_
    | refine GoL.y rfl (Y.lenSlice Try.underlying23 rfl) ?_
  refine GoL.y rfl (Y.move rfl) ?_
  refine GoL.nil ?_
  refine GoE.then_normal ?_
  refine GoC.block ?_
  refine GoC.loopK (X := Nat × Value) [3, 5, 8, 9, 10, 11, 12, 13, 14, 15, 16, 17] (fun z => xs.length - z.1) (fun z => z.1 ≤ xs.length) (fun z => [(8, some (.int .i64 (z.1 : Int))), (3, some z.2)]) (fun z => [sl evE 3 z.2 (unblocked (xs.take z.1)), A, F]) (0, .slice none 0 0) ?_ ?_ ?_ ?_
  · exact Nat.zero_le _
  · exact ⟨rfl, rfl, trivial⟩
  · exact fun w s => Ent.kept (by repeat (first | exact Ent.nil | (apply Ent.cons; · repeat (first | exact Take.here | apply Take.there)) | apply Ent.opt0 | apply Ent.opt1 | apply Ent.void | apply Ent.emp0 | apply Ent.two | (apply Ent.allV; · exact sl_void) | (apply Ent.allM; · exact fun _ => sl_void) | apply Ent.f1 rfl | apply Ent.f2 rfl | apply Ent.f3 rfl | apply Ent.f4 rfl | apply Ent.f10 rfl | apply Ent.grp | assumption | exact trivial | rfl | omega)) w s
  rintro ⟨k, u⟩ hk
  simp only at hk
  refine GoC.seq ?_
  refine GoC.region ?_
  refine GoL.y rfl (Y.lss rfl rfl) ?_
  refine GoL.nil ?_
  refine GoE.then_normal ?_
  refine GoC.seq ?_
  refine GoC.condD rfl (fun h9 => ?_) (fun h9 => ?_)
  · refine GoC.skip ?_
    refine GoE.then_normal ?_
    refine GoC.seq ?_
    refine GoC.block ?_
    refine GoC.seq ?_
    refine GoC.region ?_
    obtain ⟨n, hx⟩ := at_some (show k < xs.length by omega)
    first
      | refine GoL.y rfl (Y.ixRd _ Try.underlying23 Try.sizeOf3 rfl rfl Rd.s rfl (by first | omega | decide)) ?_
      | refine GoL.y rfl (Y.ixRd _ Try.underlying23 Try.sizeOf3 rfl rfl ‹_› rfl (by first | omega | decide)) ?_
    first
      | refine GoL.y rfl (Y.load Try.isAgg3 rfl (Cell.a (by rfl))) ?_
      | refine GoL.y rfl (Y.load Try.isAgg3 rfl (Cell.rd0 Rd.s ‹_› (by rfl))) ?_
      | refine GoL.y rfl (Y.load Try.isAgg3 rfl (Cell.rd Rd.s ‹_› (by rfl))) ?_
      | refine GoL.y rfl (Y.load Try.isAgg3 rfl (Cell.ao (by rfl))) ?_
      | refine GoL.y rfl (Y.load Try.isAgg3 rfl (Cell.az (by rfl))) ?_
      | refine GoL.y rfl (Y.load Try.isAgg3 rfl (Cell.a ‹_›)) ?_
      | refine GoL.y rfl (Y.load Try.isAgg3 rfl (Cell.rd0 ‹_› ‹_› (by rfl))) ?_
      | refine GoL.y rfl (Y.load Try.isAgg3 rfl (Cell.rd ‹_› ‹_› (by rfl))) ?_
    refine GoL.y rfl (Y.assign rfl) ?_
    refine GoL.nil ?_
    refine GoE.then_normal ?_
    refine GoC.region ?_
    refine GoL.y rfl (Y.move rfl) ?_
    refine GoL.y rfl (Y.move rfl) ?_
    refine GoL.y rfl (Y.bld2 (fun v1 v2 => [v1, v2, (.int .i64 0)]) rfl rfl (by kernel_rfl)) ?_
    refine GoL.does rfl (Does.bsl 131 rfl rfl (by kernel_rfl)) ?_
    rintro _ _ ⟨b15, rfl, rfl⟩
    refine GoL.does rfl (Does.app1 (enc := evE) (k := 3) (⟨3, n, 0⟩ : Ev) rfl Try.underlying79 Try.underlying79 Try.typeInfo131 rfl rfl rfl (by decide) rfl rfl rfl (by repeat (first | exact At.here | refine At.there ?_)) rfl (by repeat (first | exact Take.here | apply Take.there)) (by unfold unblocked; rw [List.length_map, List.length_take]; omega) rfl) ?_
    rintro _ _ ⟨v16, rfl, rfl⟩
    refine GoL.y rfl (Y.assign rfl) ?_
    refine GoL.nil ?_
    refine GoE.block_normal (GoE.then_normal ?_)
    refine GoC.region ?_
    first
      | refine GoL.y rfl (Y.inc rfl rfl (by omega)) ?_
      | refine GoL.y rfl (Y.add rfl rfl (by omega)) ?_
    refine GoL.y rfl (Y.move rfl) ?_
    refine GoL.nil ?_
    refine GoE.againK (k + 1, v16) (by repeat (first | exact Top.base | refine Top.cons rfl ?_)) rfl ?_ ?_ ?_ ?_
    · show xs.length - (k + 1) < xs.length - k; omega
    · show k + 1 ≤ _; omega
    · exact ⟨rfl, rfl, trivial⟩
    · show ∀ w, Sat _ w _ → Sat _ w (seps [sl evE 3 v16 (unblocked (xs.take (k + 1))), A, F])
      rw [unb_snoc hx]
      exact fun w s => Ent.kept (by repeat (first | exact Ent.nil | (apply Ent.cons; · repeat (first | exact Take.here | apply Take.there)) | apply Ent.opt0 | apply Ent.opt1 | apply Ent.void | apply Ent.emp0 | apply Ent.two | (apply Ent.allV; · exact sl_void) | (apply Ent.allM; · exact fun _ => sl_void) | apply Ent.f1 rfl | apply Ent.f2 rfl | apply Ent.f3 rfl | apply Ent.f4 rfl | apply Ent.f10 rfl | apply Ent.grp | assumption | exact trivial | rfl | omega)) w s
  · refine GoC.exit ?_
    refine GoE.then_exit (GoE.then_exit (GoE.block_here (GoE.then_normal ?_)))
    refine GoC.seq ?_
    refine GoC.region ?_
    refine GoL.y rfl (Y.move rfl) ?_
    refine GoL.y rfl (Y.assign rfl) ?_
    refine GoL.nil ?_
    refine GoE.then_normal ?_
    refine GoC.ret ?_
    obtain rfl : k = xs.length := by omega
    rw [List.take_length]
    refine GoE.ret1 rfl rfl fun w s => ⟨_, ?_, trivial, finE (by repeat (first | exact Ent.nil | (apply Ent.cons; · repeat (first | exact Take.here | apply Take.there)) | apply Ent.opt0 | apply Ent.opt1 | apply Ent.void | apply Ent.emp0 | apply Ent.two | (apply Ent.allV; · exact sl_void) | (apply Ent.allM; · exact fun _ => sl_void) | apply Ent.f1 rfl | apply Ent.f2 rfl | apply Ent.f3 rfl | apply Ent.f4 rfl | apply Ent.f10 rfl | apply Ent.grp | assumption | exact trivial | rfl | omega)) s⟩
    rfl

set_option maxRecDepth 20000 in
theorem lib_New {W : World} {bs : Nat} {ps : List (Option Nat)} {s : Spc} {p : Int} (hl : s.thr.length = 16) : Fn Try.prog W 18 [ptr bs, .int .i64 p] [spcX bs ps s] Nat (fun b => ptr b) (fun _ => True) (fun b => [libH b (Lib.new s p)]) := by
  refine Fn.intro (N := 24) Try.func18 rfl Try.ntmps18 rfl fun F => ?_
  show GoC _ _ _ _ _ _ [spcX bs ps s, F]
  have hc : 0 ≤ clamp p 64 ∧ clamp p 64 ≤ 64 := by unfold clamp; omega
  have hrl : s.ready.length ≤ 1000000000 := by have := ready_len s.thr 0; show (readyFrom s.thr 0).length ≤ _; omega
  refine GoC.seq ?_
  refine GoC.region ?_
  refine GoL.y rfl (Y.assign rfl) ?_
  refine GoL.nil ?_
  refine GoE.then_normal ?_
  refine GoC.seq ?_
  refine GoC.region ?_
  refine GoL.y rfl (Y.move rfl) ?_
  refine GoL.y rfl (Y.max2m rfl rfl) ?_
  refine GoL.y rfl (Y.valW (Y.min2m rfl rfl) (show min (max p 0) 64 = clamp p 64 from rfl)) ?_
  refine GoL.y rfl (Y.assign rfl) ?_
  refine GoL.nil ?_
  refine GoE.then_normal ?_
  refine GoC.seq ?_
  refine GoC.drawF [] [0, 0, 2, 0, 4, 0, 4, 0] [0, 1, 2, 3, 4, 5, 6, 7] rfl (by kernel_rfl) ?_
  refine GoF.q rfl rfl rfl (Kept.ok (by repeat (first | exact Kept.nil | exact Take.here | apply Take.there | apply Kept.take))) (Y.move rfl) ?_
  refine GoF.q rfl rfl rfl (Kept.ok (by repeat (first | exact Kept.nil | exact Take.here | apply Take.there | apply Kept.take))) (Y.move rfl) ?_
  refine GoF.callE rfl (.inl rfl) rfl (fun _ => (Kept.ok (by repeat (first | exact Kept.nil | exact Take.here | apply Take.there | apply Kept.take)))) Try.call52 rfl ready_New (by repeat (first | exact Ent.nil | (apply Ent.cons; · repeat (first | exact Take.here | apply Take.there)) | apply Ent.opt0 | apply Ent.opt1 | apply Ent.void | apply Ent.emp0 | apply Ent.two | (apply Ent.allV; · exact sl_void) | (apply Ent.allM; · exact fun _ => sl_void) | apply Ent.f1 rfl | apply Ent.f2 rfl | apply Ent.f3 rfl | apply Ent.f4 rfl | apply Ent.f10 rfl | apply Ent.grp | assumption | exact trivial | rfl | omega)) (fun _ _ => (Kept.ok (by repeat (first | exact Kept.nil | exact Take.here | apply Take.there | apply Kept.take)))) ?_
  rintro x12 -
  rw [show clamp (clamp p 64) 64 = clamp p 64 from by unfold clamp; omega]
  refine GoF.q rfl rfl rfl (Kept.ok (by repeat (first | exact Kept.nil | exact Take.here | apply Take.there | apply Kept.take))) (Y.move rfl) ?_
  refine GoF.fresh rfl rfl rfl (by decide) (Kept.ok (by repeat (first | exact Kept.nil | exact Take.here | apply Take.there | apply Kept.take))) (fresh_make (enc := vslE) (k := 3) ((Value.slice none 0 0 : Value), Vsl.z) (clamp p 64).toNat Try.underlying109 Try.typeInfo122 rfl rfl rfl rfl (by decide) (by decide) rfl rfl (by omega) (by omega) (by omega)) ?_
  rintro b14
  refine GoF.q rfl rfl rfl (Kept.ok (by repeat (first | exact Kept.nil | exact Take.here | apply Take.there | apply Kept.take))) (Y.bld3 (fun v1 v2 v3 => [v1, v2, v3, (.slice none 0 0), (.bool false)]) rfl rfl rfl (by kernel_rfl)) ?_
  refine GoF.fresh rfl rfl rfl (by decide) (Kept.ok (by repeat (first | exact Kept.nil | exact Take.here | apply Take.there | apply Kept.take))) (fresh_box rfl rfl) ?_
  rintro b16
  refine GoF.q rfl rfl rfl (Kept.ok (by repeat (first | exact Kept.nil | exact Take.here | apply Take.there | apply Kept.take))) (Y.assign rfl) ?_
  refine GoF.nil ?_
  refine GoE.then_normal ?_
  refine GoC.seq ?_
  refine GoC.region ?_
  refine GoL.to (A := sl vslE 3 (.slice (some ⟨b14, 0, none⟩) (clamp p 64).toNat (clamp p 64).toNat) (List.replicate (clamp p 64).toNat ((Value.slice none 0 0 : Value), Vsl.z))) (by repeat (first | exact Ent.nil | (apply Ent.cons; · repeat (first | exact Take.here | apply Take.there)) | apply Ent.opt0 | apply Ent.opt1 | apply Ent.void | apply Ent.emp0 | apply Ent.two | (apply Ent.allV; · exact sl_void) | (apply Ent.allM; · exact fun _ => sl_void) | apply Ent.f1 rfl | apply Ent.f2 rfl | apply Ent.f3 rfl | apply Ent.f4 rfl | apply Ent.f10 rfl | apply Ent.grp | assumption | exact trivial | rfl | omega)) (arr_slR rfl) ?_
  refine GoL.y rfl (Y.move rfl) ?_
  refine GoL.y rfl (Y.move rfl) ?_
  refine GoL.does rfl (Does.callE rfl Try.call39 rfl (core_Ready hl) (by repeat (first | exact Ent.nil | (apply Ent.cons; · repeat (first | exact Take.here | apply Take.there)) | apply Ent.opt0 | apply Ent.opt1 | apply Ent.void | apply Ent.emp0 | apply Ent.two | (apply Ent.allV; · exact sl_void) | (apply Ent.allM; · exact fun _ => sl_void) | apply Ent.f1 rfl | apply Ent.f2 rfl | apply Ent.f3 rfl | apply Ent.f4 rfl | apply Ent.f10 rfl | apply Ent.grp | assumption | exact trivial | rfl | omega))) ?_
  rintro _ _ ⟨u19, -, rfl, rfl⟩
  refine GoL.does rfl (Does.callE rfl Try.call53 rfl (lib_unblocked (A := sl intE 1 u19 s.ready) (Rd.sl .here) hrl) (by repeat (first | exact Ent.nil | (apply Ent.cons; · repeat (first | exact Take.here | apply Take.there)) | apply Ent.opt0 | apply Ent.opt1 | apply Ent.void | apply Ent.emp0 | apply Ent.two | (apply Ent.allV; · exact sl_void) | (apply Ent.allM; · exact fun _ => sl_void) | apply Ent.f1 rfl | apply Ent.f2 rfl | apply Ent.f3 rfl | apply Ent.f4 rfl | apply Ent.f10 rfl | apply Ent.grp | assumption | exact trivial | rfl | omega))) ?_
  rintro _ _ ⟨u20, -, rfl, rfl⟩
  refine GoL.y rfl (Y.nilCheck rfl) ?_
  first
    | refine GoL.y rfl (Y.fieldAddr0 3 79 Try.underlying111 rfl Try.sizeOf79 rfl) ?_
    | refine GoL.y rfl (Y.fieldAddr 3 79 Try.underlying111 rfl Try.sizeOf79 rfl) ?_
  first
    | refine GoL.does rfl (Does.stS Try.sizeOf79 rfl rfl rfl) ?_
    | refine GoL.does rfl (Does.st Try.sizeOf79 rfl rfl rfl rfl) ?_
    | refine GoL.does rfl (Does.stoS Try.sizeOf79 rfl rfl rfl) ?_
    | refine GoL.does rfl (Does.stzS Try.sizeOf79 rfl rfl rfl) ?_
  rintro _ _ ⟨rfl, rfl⟩
  refine GoL.nil ?_
  refine GoE.then_normal ?_
  refine GoC.seq ?_
  refine GoC.region ?_
  refine GoL.y rfl (Y.move rfl) ?_
  refine GoL.y rfl (Y.assign rfl) ?_
  refine GoL.nil ?_
  refine GoE.then_normal ?_
  refine GoC.ret ?_
  refine GoE.ret1 rfl rfl fun w s => ⟨b16, ?_, trivial, finE (by repeat (first | exact Ent.nil | (apply Ent.cons; · repeat (first | exact Take.here | apply Take.there)) | apply Ent.opt0 | apply Ent.opt1 | apply Ent.void | apply Ent.emp0 | apply Ent.two | (apply Ent.allV; · exact sl_void) | (apply Ent.allM; · exact fun _ => sl_void) | apply Ent.f1 rfl | apply Ent.f2 rfl | apply Ent.f3 rfl | apply Ent.f4 rfl | apply Ent.f10 rfl | apply Ent.grp | assumption | exact trivial | rfl | omega | (apply Ent.allV; · exact sl_void) | (focus (simp [Lib.new]; done)) | (unfold Lib.new; simp only; apply Ent.cons; · repeat (first | exact Take.here | apply Take.there)))) s⟩
  rfl

set_option maxRecDepth 20000 in
theorem lib_Grant {W : World} {b bs br : Nat} {l : Lib} {p : Int} (hw : l.waiting.length ≤ 400000000) : Fn Try.prog W 57 [ptr b, .int .i64 p] [libX b bs br l] Unit (fun _ => .bool (l.grant p).1) (fun _ => True) (fun _ => [libX b bs br (l.grant p).2]) := by
  refine Fn.intro (N := 31) Try.func57 rfl Try.ntmps57 rfl fun F => ?_
  show GoC _ _ _ _ _ _ [libX b bs br l, F]
  refine GoC.seq ?_
  refine GoC.region ?_
  refine GoL.y rfl (Y.assign rfl) ?_
  refine GoL.nil ?_
  refine GoE.then_normal ?_
  refine GoC.seq ?_
  refine GoC.seq ?_
  refine GoC.region ?_
  refine GoL.y rfl (Y.move rfl) ?_
  refine GoL.y rfl (Y.move rfl) ?_
  refine GoL.does rfl (Does.callE rfl Try.call74 rfl lib_in (by repeat (first | exact Ent.nil | (apply Ent.cons; · repeat (first | exact Take.here | apply Take.there)) | apply Ent.opt0 | apply Ent.opt1 | apply Ent.void | apply Ent.emp0 | apply Ent.two | (apply Ent.allV; · exact sl_void) | (apply Ent.allM; · exact fun _ => sl_void) | apply Ent.f1 rfl | apply Ent.f2 rfl | apply Ent.f3 rfl | apply Ent.f4 rfl | apply Ent.f10 rfl | apply Ent.grp | assumption | exact trivial | rfl | omega))) ?_
  rintro _ _ ⟨⟨⟩, -, rfl, rfl⟩
  first
    | refine GoL.y rfl (Y.notD rfl) ?_
    | refine GoL.y rfl (Y.not rfl) ?_
  refine GoL.y rfl (Y.move rfl) ?_
  first
    | apply GoL.segOD 4 13 9 [9, 10, 11, 12, 13] rfl
    | apply GoL.segO 4 13 9 [9, 10, 11, 12, 13] rfl
  · intro h9
    refine GoL.yg rfl rfl rfl (Y.move rfl) ?_
    refine GoL.yg rfl rfl rfl (Y.move rfl) ?_
    refine GoL.dg rfl rfl rfl (Does.callE rfl Try.call54 rfl lib_hasW (by repeat (first | exact Ent.nil | (apply Ent.cons; · repeat (first | exact Take.here | apply Take.there)) | apply Ent.opt0 | apply Ent.opt1 | apply Ent.void | apply Ent.emp0 | apply Ent.two | (apply Ent.allV; · exact sl_void) | (apply Ent.allM; · exact fun _ => sl_void) | apply Ent.f1 rfl | apply Ent.f2 rfl | apply Ent.f3 rfl | apply Ent.f4 rfl | apply Ent.f10 rfl | apply Ent.grp | assumption | exact trivial | rfl | omega))) ?_
    rintro _ _ ⟨⟨⟩, -, rfl, rfl⟩
    refine GoL.y rfl (Y.pickF rfl rfl) ?_
    refine GoL.nil ?_
    refine GoE.seg (by repeat (first | exact Top.base | refine Top.cons rfl ?_)) rfl (by first | exact fun _ h => h | exact Ent.kept (by repeat (first | exact Ent.nil | (apply Ent.cons; · repeat (first | exact Take.here | apply Take.there)) | apply Ent.opt0 | apply Ent.opt1 | apply Ent.void | apply Ent.emp0 | apply Ent.two | (apply Ent.allV; · exact sl_void) | (apply Ent.allM; · exact fun _ => sl_void) | apply Ent.f1 rfl | apply Ent.f2 rfl | apply Ent.f3 rfl | apply Ent.f4 rfl | apply Ent.f10 rfl | apply Ent.grp | assumption | exact trivial | rfl | omega)))
  · intro h9
    refine GoL.skip rfl rfl rfl rfl ?_
    refine GoL.skip rfl rfl rfl rfl ?_
    refine GoL.skip rfl rfl rfl rfl ?_
    refine GoL.y rfl (Y.pickT rfl rfl) ?_
    refine GoL.nil ?_
    refine GoE.seg (by repeat (first | exact Top.base | refine Top.cons rfl ?_)) rfl (by first | exact fun _ h => h | exact Ent.kept (by repeat (first | exact Ent.nil | (apply Ent.cons; · repeat (first | exact Take.here | apply Take.there)) | apply Ent.opt0 | apply Ent.opt1 | apply Ent.void | apply Ent.emp0 | apply Ent.two | (apply Ent.allV; · exact sl_void) | (apply Ent.allM; · exact fun _ => sl_void) | apply Ent.f1 rfl | apply Ent.f2 rfl | apply Ent.f3 rfl | apply Ent.f4 rfl | apply Ent.f10 rfl | apply Ent.grp | assumption | exact trivial | rfl | omega)))
  refine GoL.nil ?_
  refine GoE.then_normal ?_
  refine GoC.cond rfl (fun h13 => ?_) (fun h13 => ?_)
  · simp only [Bool.and_eq_true, Bool.or_eq_true, Bool.and_eq_false_iff, Bool.or_eq_false_iff, decide_eq_true_eq, decide_eq_false_iff_not, Bool.not_eq_true', Bool.not_eq_false'] at h13
    refine GoC.seq ?_
    refine GoC.region ?_
    refine GoL.y rfl (Y.assign rfl) ?_
    refine GoL.nil ?_
    refine GoE.then_normal ?_
    refine GoC.ret ?_
    refine GoE.then_ret ?_
    rw [grant_no h13]
    refine GoE.ret1 rfl rfl fun w s => ⟨(), ?_, trivial, finE (by repeat (first | exact Ent.nil | (apply Ent.cons; · repeat (first | exact Take.here | apply Take.there)) | apply Ent.opt0 | apply Ent.opt1 | apply Ent.void | apply Ent.emp0 | apply Ent.two | (apply Ent.allV; · exact sl_void) | (apply Ent.allM; · exact fun _ => sl_void) | apply Ent.f1 rfl | apply Ent.f2 rfl | apply Ent.f3 rfl | apply Ent.f4 rfl | apply Ent.f10 rfl | apply Ent.grp | assumption | exact trivial | rfl | omega)) s⟩
    rfl
  · simp only [Bool.and_eq_true, Bool.or_eq_true, Bool.and_eq_false_iff, Bool.or_eq_false_iff, decide_eq_true_eq, decide_eq_false_iff_not, Bool.not_eq_true', Bool.not_eq_false'] at h13
    refine GoC.skip ?_
    refine GoE.then_normal ?_
    refine GoC.seq ?_
    obtain ⟨i, v, rfl, hv, hg⟩ := grant_yes h13.1 h13.2
    rw [hg]
    refine GoC.o2 (C := libX b bs br l) (by repeat (first | exact Take.here | apply Take.there)) rfl ?_
    rintro vv vw -
    refine GoC.o1 (C := vslsH vv l.vs) (by repeat (first | exact Take.here | apply Take.there)) rfl ?_
    rintro xs hxs
    have hxl := map_len hxs
    obtain ⟨x, hx, rfl⟩ := map_back hxs hv
    have hil := (List.getElem?_eq_some_iff.1 hx).1
    refine GoC.draw [arr b 0 (libC bs br vv vw l.locked)] [0, 0, 0, 0, 0, 1, 2, 0, 0, 0, 0, 2, 2, 1, 3] rfl (by kernel_rfl) ?_
    refine GoK.k rfl (Kept.ok (by repeat (first | exact Kept.nil | exact Take.here | apply Take.there | apply Kept.take))) (Y.move rfl) ?_
    refine GoK.k rfl (Kept.ok (by repeat (first | exact Kept.nil | exact Take.here | apply Take.there | apply Kept.take))) (Y.nilCheck rfl) ?_
    first
      | refine GoK.k rfl (Kept.ok (by repeat (first | exact Kept.nil | exact Take.here | apply Take.there | apply Kept.take))) (Y.fieldAddr0 2 109 Try.underlying111 rfl Try.sizeOf109 rfl) ?_
      | refine GoK.k rfl (Kept.ok (by repeat (first | exact Kept.nil | exact Take.here | apply Take.there | apply Kept.take))) (Y.fieldAddr 2 109 Try.underlying111 rfl Try.sizeOf109 rfl) ?_
    first
      | refine GoK.k rfl (Kept.ok (by repeat (first | exact Kept.nil | exact Take.here | apply Take.there | apply Kept.take))) (Y.load Try.isAgg109 rfl (Cell.a (by rfl))) ?_
      | refine GoK.k rfl (Kept.ok (by repeat (first | exact Kept.nil | exact Take.here | apply Take.there | apply Kept.take))) (Y.load Try.isAgg109 rfl (Cell.rd0 Rd.s ‹_› (by rfl))) ?_
      | refine GoK.k rfl (Kept.ok (by repeat (first | exact Kept.nil | exact Take.here | apply Take.there | apply Kept.take))) (Y.load Try.isAgg109 rfl (Cell.rd Rd.s ‹_› (by rfl))) ?_
      | refine GoK.k rfl (Kept.ok (by repeat (first | exact Kept.nil | exact Take.here | apply Take.there | apply Kept.take))) (Y.load Try.isAgg109 rfl (Cell.ao (by rfl))) ?_
      | refine GoK.k rfl (Kept.ok (by repeat (first | exact Kept.nil | exact Take.here | apply Take.there | apply Kept.take))) (Y.load Try.isAgg109 rfl (Cell.az (by rfl))) ?_
      | refine GoK.k rfl (Kept.ok (by repeat (first | exact Kept.nil | exact Take.here | apply Take.there | apply Kept.take))) (Y.load Try.isAgg109 rfl (Cell.a ‹_›)) ?_
      | refine GoK.k rfl (Kept.ok (by repeat (first | exact Kept.nil | exact Take.here | apply Take.there | apply Kept.take))) (Y.load Try.isAgg109 rfl (Cell.rd0 ‹_› ‹_› (by rfl))) ?_
      | refine GoK.k rfl (Kept.ok (by repeat (first | exact Kept.nil | exact Take.here | apply Take.there | apply Kept.take))) (Y.load Try.isAgg109 rfl (Cell.rd ‹_› ‹_› (by rfl))) ?_
    refine GoK.k rfl (Kept.ok (by repeat (first | exact Kept.nil | exact Take.here | apply Take.there | apply Kept.take))) (Y.move rfl) ?_
    refine GoK.s rfl (Y.bld2 (fun v1 v2 => [v1, v2, (.int .i64 0)]) rfl rfl (by kernel_rfl)) ?_
    refine GoK.d2 rfl (Kept.ok (by repeat (first | exact Kept.nil | exact Take.here | apply Take.there | apply Kept.take))) (Does.bsl 131 rfl rfl (by kernel_rfl)) (by rintro _ _ ⟨b20, rfl, rfl⟩; exact (Kept.ok (by repeat (first | exact Kept.nil | exact Take.here | apply Take.there | apply Kept.take)))) ?_
    rintro _ _ ⟨b20, rfl, rfl⟩
    refine GoK.k rfl (Kept.ok (by repeat (first | exact Kept.nil | exact Take.here | apply Take.there | apply Kept.take))) (Y.move rfl) ?_
    refine GoK.k rfl (Kept.ok (by repeat (first | exact Kept.nil | exact Take.here | apply Take.there | apply Kept.take))) (Y.nilCheck rfl) ?_
    first
      | refine GoK.k rfl (Kept.ok (by repeat (first | exact Kept.nil | exact Take.here | apply Take.there | apply Kept.take))) (Y.fieldAddr0 3 79 Try.underlying111 rfl Try.sizeOf79 rfl) ?_
      | refine GoK.k rfl (Kept.ok (by repeat (first | exact Kept.nil | exact Take.here | apply Take.there | apply Kept.take))) (Y.fieldAddr 3 79 Try.underlying111 rfl Try.sizeOf79 rfl) ?_
    first
      | refine GoK.k rfl (Kept.ok (by repeat (first | exact Kept.nil | exact Take.here | apply Take.there | apply Kept.take))) (Y.load Try.isAgg79 rfl (Cell.a (by rfl))) ?_
      | refine GoK.k rfl (Kept.ok (by repeat (first | exact Kept.nil | exact Take.here | apply Take.there | apply Kept.take))) (Y.load Try.isAgg79 rfl (Cell.rd0 Rd.s ‹_› (by rfl))) ?_
      | refine GoK.k rfl (Kept.ok (by repeat (first | exact Kept.nil | exact Take.here | apply Take.there | apply Kept.take))) (Y.load Try.isAgg79 rfl (Cell.rd Rd.s ‹_› (by rfl))) ?_
      | refine GoK.k rfl (Kept.ok (by repeat (first | exact Kept.nil | exact Take.here | apply Take.there | apply Kept.take))) (Y.load Try.isAgg79 rfl (Cell.ao (by rfl))) ?_
      | refine GoK.k rfl (Kept.ok (by repeat (first | exact Kept.nil | exact Take.here | apply Take.there | apply Kept.take))) (Y.load Try.isAgg79 rfl (Cell.az (by rfl))) ?_
      | refine GoK.k rfl (Kept.ok (by repeat (first | exact Kept.nil | exact Take.here | apply Take.there | apply Kept.take))) (Y.load Try.isAgg79 rfl (Cell.a ‹_›)) ?_
      | refine GoK.k rfl (Kept.ok (by repeat (first | exact Kept.nil | exact Take.here | apply Take.there | apply Kept.take))) (Y.load Try.isAgg79 rfl (Cell.rd0 ‹_› ‹_› (by rfl))) ?_
      | refine GoK.k rfl (Kept.ok (by repeat (first | exact Kept.nil | exact Take.here | apply Take.there | apply Kept.take))) (Y.load Try.isAgg79 rfl (Cell.rd ‹_› ‹_› (by rfl))) ?_
    refine GoK.d2 rfl (Kept.ok (by repeat (first | exact Kept.nil | exact Take.here | apply Take.there | apply Kept.take))) (Does.callE rfl Try.call78 rfl (JoinE (A := seps [arr b20 0 [.int .i64 1, .int .i64 (-1), .int .i64 0], sl evE 3 vw l.waiting]) (xs := [⟨1, -1, 0⟩]) (ys := l.waiting) (Rd.grp (Rd.lit .here rfl (fun _ _ => rfl) rfl)) (Rd.grp (Rd.sl (by repeat (first | exact At.here | refine At.there ?_)))) (by simp; omega)) (by repeat (first | exact Ent.nil | (apply Ent.cons; · repeat (first | exact Take.here | apply Take.there)) | apply Ent.opt0 | apply Ent.opt1 | apply Ent.void | apply Ent.emp0 | apply Ent.two | (apply Ent.allV; · exact sl_void) | (apply Ent.allM; · exact fun _ => sl_void) | apply Ent.f1 rfl | apply Ent.f2 rfl | apply Ent.f3 rfl | apply Ent.f4 rfl | apply Ent.f10 rfl | apply Ent.grp | assumption | exact trivial | rfl | omega))) (by rintro _ _ ⟨u25, -, rfl, rfl⟩; exact (Kept.ok (by repeat (first | exact Kept.nil | exact Take.here | apply Take.there | apply Kept.take)))) ?_
    rintro _ _ ⟨u25, -, rfl, rfl⟩
    refine GoK.ungrp (by repeat (first | exact Take.here | apply Take.there)) ?_
    refine GoK.d2 rfl (Kept.ok (by repeat (first | exact Kept.nil | exact Take.here | apply Take.there | apply Kept.take))) (Does.callE rfl Try.call77 rfl (vessel_New (A := sl evE 3 u25 (⟨1, -1, 0⟩ :: l.waiting)) (xs := ⟨1, -1, 0⟩ :: l.waiting) (Rd.sl .here) (by simp; omega)) (by repeat (first | exact Ent.nil | (apply Ent.cons; · repeat (first | exact Take.here | apply Take.there)) | apply Ent.opt0 | apply Ent.opt1 | apply Ent.void | apply Ent.emp0 | apply Ent.two | (apply Ent.allV; · exact sl_void) | (apply Ent.allM; · exact fun _ => sl_void) | apply Ent.f1 rfl | apply Ent.f2 rfl | apply Ent.f3 rfl | apply Ent.f4 rfl | apply Ent.f10 rfl | apply Ent.grp | assumption | exact trivial | rfl | omega))) (by rintro _ _ ⟨u26, -, rfl, rfl⟩; exact (Kept.ok (by repeat (first | exact Kept.nil | exact Take.here | apply Take.there | apply Kept.take)))) ?_
    rintro _ _ ⟨u26, -, rfl, rfl⟩
    refine GoK.know (fun w s => Rd.isSl (Rd.sl (by repeat (first | exact At.here | refine At.there ?_))) w s) fun hu26 => ?_
    refine GoK.s rfl (Y.ixRd i Try.underlying109 Try.sizeOf122 rfl rfl Rd.s rfl (by omega)) ?_
    refine GoK.d3 rfl (Does.storeSlA (x' := (u26, Vsl.new (⟨1, -1, 0⟩ :: l.waiting))) rfl rfl Try.sizeOf122 (vsl_one hu26) hx rfl rfl (by repeat (first | exact Repl.here | apply Repl.there))) ?_
    rintro _ _ ⟨rfl, rfl⟩
    refine GoK.nil ?_
    refine GoE.then_normal ?_
    refine GoC.seq ?_
    refine GoC.region ?_
    refine GoL.fr (by repeat (first | exact Take.here | apply Take.there)) (all_out (f := fun x : Value × Vsl => sl evE 3 x.1 x.2.evs) hx) ?_
    refine GoL.to (A := allH (fun x : Value × Vsl => sl evE 3 x.1 x.2.evs) (xs.set i (u26, Vsl.new (⟨1, -1, 0⟩ :: l.waiting)))) (by repeat (first | exact Ent.nil | (apply Ent.cons; · repeat (first | exact Take.here | apply Take.there)) | apply Ent.opt0 | apply Ent.opt1 | apply Ent.void | apply Ent.emp0 | apply Ent.two | (apply Ent.allV; · exact sl_void) | (apply Ent.allM; · exact fun _ => sl_void) | apply Ent.f1 rfl | apply Ent.f2 rfl | apply Ent.f3 rfl | apply Ent.f4 rfl | apply Ent.f10 rfl | apply Ent.grp | assumption | exact trivial | rfl | omega)) (all_in (f := fun x : Value × Vsl => sl evE 3 x.1 x.2.evs) (u26, Vsl.new (⟨1, -1, 0⟩ :: l.waiting)) hx) ?_
    have hms := map_set hxs i (u26, Vsl.new (⟨1, -1, 0⟩ :: l.waiting))
    refine GoL.y rfl (Y.move rfl) ?_
    refine GoL.y rfl (Y.nilCheck rfl) ?_
    first
      | refine GoL.y rfl (Y.fieldAddr0 3 79 Try.underlying111 rfl Try.sizeOf79 rfl) ?_
      | refine GoL.y rfl (Y.fieldAddr 3 79 Try.underlying111 rfl Try.sizeOf79 rfl) ?_
    first
      | refine GoL.does rfl (Does.stS Try.sizeOf79 rfl rfl rfl) ?_
      | refine GoL.does rfl (Does.st Try.sizeOf79 rfl rfl rfl rfl) ?_
      | refine GoL.does rfl (Does.stoS Try.sizeOf79 rfl rfl rfl) ?_
      | refine GoL.does rfl (Does.stzS Try.sizeOf79 rfl rfl rfl) ?_
    rintro _ _ ⟨rfl, rfl⟩
    refine GoL.nil ?_
    refine GoE.then_normal ?_
    refine GoC.seq ?_
    refine GoC.region ?_
    refine GoL.y rfl (Y.assign rfl) ?_
    refine GoL.nil ?_
    refine GoE.then_normal ?_
    refine GoC.ret ?_
    refine GoE.ret1 rfl rfl fun w s => ⟨(), ?_, trivial, finE (by repeat (first | exact Ent.nil | (apply Ent.cons; · repeat (first | exact Take.here | apply Take.there)) | apply Ent.opt0 | apply Ent.opt1 | apply Ent.void | apply Ent.emp0 | apply Ent.two | (apply Ent.allV; · exact sl_void) | (apply Ent.allM; · exact fun _ => sl_void) | apply Ent.f1 rfl | apply Ent.f2 rfl | apply Ent.f3 rfl | apply Ent.f4 rfl | apply Ent.f10 rfl | apply Ent.grp | assumption | exact trivial | rfl | omega)) s⟩
    rfl

set_option maxRecDepth 20000 in
theorem lib_Tell {W : World} {b bs br : Nat} {l : Lib} {A : HProp} {m : Value} {ys : List Ev} (hm : Rd W [A] evE 3 m ys) (hl : ys.length ≤ 400000000 ∧ l.waiting.length ≤ 400000000 ∧ l.vs.length ≤ 1000000000 ∧ ∀ v ∈ l.vs, v.evs.length ≤ 400000000) : Fn Try.prog W 76 [ptr b, m] [libX b bs br l, A] Unit (fun _ => .tuple #[]) (fun _ => True) (fun _ => [libX b bs br (l.tell ys), A]) := by
  refine Fn.intro (N := 45) Try.func76 rfl Try.ntmps76 rfl fun F => ?_
  haveI hRI : ∀ (H : List HProp) [HasH H A], ReadsC W H m evE 3 ys := fun H h => ⟨hm.at h.has⟩
  show GoC _ _ _ _ _ _ [libX b bs br l, A, F]
  refine GoC.seq ?_
  refine GoC.seq ?_
  refine GoC.region ?_
  refine GoL.y rfl (Y.move rfl) ?_
  refine GoL.y rfl (Y.eqPtrNil Try.underlying51 rfl rfl) ?_
  refine GoL.y rfl (Y.move rfl) ?_
  first
    | apply GoL.segOD 4 11 7 [7, 8, 9, 10, 11] rfl
    | apply GoL.segO 4 11 7 [7, 8, 9, 10, 11] rfl
  · intro h7
    refine GoL.yg rfl rfl rfl (Y.move rfl) ?_
    first
      | refine GoL.yg rfl rfl rfl (Y.lenRd Try.underlying79 rfl Rd.s) ?_
      | refine GoL.yg rfl rfl rfl (Y.lenRd Try.underlying79 rfl ‹_›) ?_
      | refine GoL.yg rfl rfl rfl (Y.lenSlice Try.underlying79 rfl) ?_
    refine GoL.yg rfl rfl rfl (Y.eql rfl rfl) ?_
    refine GoL.y rfl (Y.pickF rfl rfl) ?_
    refine GoL.nil ?_
    refine GoE.seg (by repeat (first | exact Top.base | refine Top.cons rfl ?_)) rfl (by first | exact fun _ h => h | exact Ent.kept (by repeat (first | exact Ent.nil | (apply Ent.cons; · repeat (first | exact Take.here | apply Take.there)) | apply Ent.opt0 | apply Ent.opt1 | apply Ent.void | apply Ent.emp0 | apply Ent.two | (apply Ent.allV; · exact sl_void) | (apply Ent.allM; · exact fun _ => sl_void) | apply Ent.f1 rfl | apply Ent.f2 rfl | apply Ent.f3 rfl | apply Ent.f4 rfl | apply Ent.f10 rfl | apply Ent.grp | assumption | exact trivial | rfl | omega)))
  · intro h7
    refine GoL.skip rfl rfl rfl rfl ?_
    refine GoL.skip rfl rfl rfl rfl ?_
    refine GoL.skip rfl rfl rfl rfl ?_
    refine GoL.y rfl (Y.pickT rfl rfl) ?_
    refine GoL.nil ?_
    refine GoE.seg (by repeat (first | exact Top.base | refine Top.cons rfl ?_)) rfl (by first | exact fun _ h => h | exact Ent.kept (by repeat (first | exact Ent.nil | (apply Ent.cons; · repeat (first | exact Take.here | apply Take.there)) | apply Ent.opt0 | apply Ent.opt1 | apply Ent.void | apply Ent.emp0 | apply Ent.two | (apply Ent.allV; · exact sl_void) | (apply Ent.allM; · exact fun _ => sl_void) | apply Ent.f1 rfl | apply Ent.f2 rfl | apply Ent.f3 rfl | apply Ent.f4 rfl | apply Ent.f10 rfl | apply Ent.grp | assumption | exact trivial | rfl | omega)))
  refine GoL.nil ?_
  refine GoE.then_normal ?_
  refine GoC.cond rfl (fun h11 => ?_) (fun h11 => ?_)
  · simp only [Bool.and_eq_true, Bool.or_eq_true, Bool.and_eq_false_iff, Bool.or_eq_false_iff, decide_eq_true_eq, decide_eq_false_iff_not, Bool.not_eq_true', Bool.not_eq_false'] at h11
    refine GoC.ret ?_
    refine GoE.then_ret ?_
    obtain rfl : ys = [] := by simpa using h11
    rw [tell_nil]
    refine GoE.ret0 rfl fun w s => ⟨(), ?_, trivial, finE (by repeat (first | exact Ent.nil | (apply Ent.cons; · repeat (first | exact Take.here | apply Take.there)) | apply Ent.opt0 | apply Ent.opt1 | apply Ent.void | apply Ent.emp0 | apply Ent.two | (apply Ent.allV; · exact sl_void) | (apply Ent.allM; · exact fun _ => sl_void) | apply Ent.f1 rfl | apply Ent.f2 rfl | apply Ent.f3 rfl | apply Ent.f4 rfl | apply Ent.f10 rfl | apply Ent.grp | assumption | exact trivial | rfl | omega)) s⟩
    rfl
  · simp only [Bool.and_eq_true, Bool.or_eq_true, Bool.and_eq_false_iff, Bool.or_eq_false_iff, decide_eq_true_eq, decide_eq_false_iff_not, Bool.not_eq_true', Bool.not_eq_false'] at h11
    refine GoC.skip ?_
    refine GoE.then_normal ?_
    refine GoC.seq ?_
    refine GoC.region ?_
    refine GoL.y rfl (Y.move rfl) ?_
    have hne : ys ≠ [] := by simpa using h11
    refine GoL.does rfl (Does.callE rfl Try.call21 rfl (lib_Procs hl.2.2.1) (by repeat (first | exact Ent.nil | (apply Ent.cons; · repeat (first | exact Take.here | apply Take.there)) | apply Ent.opt0 | apply Ent.opt1 | apply Ent.void | apply Ent.emp0 | apply Ent.two | (apply Ent.allV; · exact sl_void) | (apply Ent.allM; · exact fun _ => sl_void) | apply Ent.f1 rfl | apply Ent.f2 rfl | apply Ent.f3 rfl | apply Ent.f4 rfl | apply Ent.f10 rfl | apply Ent.grp | assumption | exact trivial | rfl | omega))) ?_
    rintro _ _ ⟨u13, -, rfl, rfl⟩
    refine GoL.y rfl (Y.assign rfl) ?_
    refine GoL.nil ?_
    refine GoE.then_normal ?_
    refine GoC.seq ?_
    refine GoC.seq ?_
    refine GoC.region ?_
    refine GoL.y rfl (Y.move rfl) ?_
    first
      | refine GoL.y rfl (Y.lenRd Try.underlying23 rfl Rd.s) ?_
      | refine GoL.y rfl (Y.lenRd Try.underlying23 rfl ‹_›) ?_
      | refine GoL.y rfl (Y.lenSlice Try.underlying23 rfl) ?_
    refine GoL.y rfl (Y.eql rfl rfl) ?_
    refine GoL.nil ?_
    refine GoE.then_normal ?_
    refine GoC.condD rfl (fun h16 => ?_) (fun h16 => ?_)
    · refine GoC.seq ?_
      refine GoC.region ?_
      refine GoL.o2 (C := libX b bs br l) (by repeat (first | exact Take.here | apply Take.there)) rfl ?_
      rintro vv vw -
      refine GoL.o1 (C := vslsH vv l.vs) (by repeat (first | exact Take.here | apply Take.there)) rfl ?_
      rintro xs hxs
      have hxl := map_len hxs
      refine GoL.y rfl (Y.move rfl) ?_
      refine GoL.y rfl (Y.move rfl) ?_
      refine GoL.y rfl (Y.nilCheck rfl) ?_
      first
        | refine GoL.y rfl (Y.fieldAddr0 3 79 Try.underlying111 rfl Try.sizeOf79 rfl) ?_
        | refine GoL.y rfl (Y.fieldAddr 3 79 Try.underlying111 rfl Try.sizeOf79 rfl) ?_
      first
        | refine GoL.y rfl (Y.load Try.isAgg79 rfl (Cell.a (by rfl))) ?_
        | refine GoL.y rfl (Y.load Try.isAgg79 rfl (Cell.rd0 Rd.s ‹_› (by rfl))) ?_
        | refine GoL.y rfl (Y.load Try.isAgg79 rfl (Cell.rd Rd.s ‹_› (by rfl))) ?_
        | refine GoL.y rfl (Y.load Try.isAgg79 rfl (Cell.ao (by rfl))) ?_
        | refine GoL.y rfl (Y.load Try.isAgg79 rfl (Cell.az (by rfl))) ?_
        | refine GoL.y rfl (Y.load Try.isAgg79 rfl (Cell.a ‹_›)) ?_
        | refine GoL.y rfl (Y.load Try.isAgg79 rfl (Cell.rd0 ‹_› ‹_› (by rfl))) ?_
        | refine GoL.y rfl (Y.load Try.isAgg79 rfl (Cell.rd ‹_› ‹_› (by rfl))) ?_
      refine GoL.y rfl (Y.move rfl) ?_
      rw [tell_wait hne (by simpa using h16)]
      refine GoL.does rfl (Does.callE rfl Try.call78 rfl (JoinE (A := seps [sl evE 3 vw l.waiting, A]) (xs := l.waiting) (ys := ys) (Rd.grp (Rd.sl .here)) (Rd.grp (hm.at (.there .here))) (by omega)) (by repeat (first | exact Ent.nil | (apply Ent.cons; · repeat (first | exact Take.here | apply Take.there)) | apply Ent.opt0 | apply Ent.opt1 | apply Ent.void | apply Ent.emp0 | apply Ent.two | (apply Ent.allV; · exact sl_void) | (apply Ent.allM; · exact fun _ => sl_void) | apply Ent.f1 rfl | apply Ent.f2 rfl | apply Ent.f3 rfl | apply Ent.f4 rfl | apply Ent.f10 rfl | apply Ent.grp | assumption | exact trivial | rfl | omega))) ?_
      rintro _ _ ⟨u23, -, rfl, rfl⟩
      refine GoL.ungrp (by repeat (first | exact Take.here | apply Take.there)) ?_
      refine GoL.y rfl (Y.nilCheck rfl) ?_
      first
        | refine GoL.y rfl (Y.fieldAddr0 3 79 Try.underlying111 rfl Try.sizeOf79 rfl) ?_
        | refine GoL.y rfl (Y.fieldAddr 3 79 Try.underlying111 rfl Try.sizeOf79 rfl) ?_
      first
        | refine GoL.does rfl (Does.stS Try.sizeOf79 rfl rfl rfl) ?_
        | refine GoL.does rfl (Does.st Try.sizeOf79 rfl rfl rfl rfl) ?_
        | refine GoL.does rfl (Does.stoS Try.sizeOf79 rfl rfl rfl) ?_
        | refine GoL.does rfl (Does.stzS Try.sizeOf79 rfl rfl rfl) ?_
      rintro _ _ ⟨rfl, rfl⟩
      refine GoL.nil ?_
      refine GoE.then_normal ?_
      refine GoC.ret ?_
      refine GoE.then_ret ?_
      refine GoE.ret0 rfl fun w s => ⟨(), ?_, trivial, finE (by repeat (first | exact Ent.nil | (apply Ent.cons; · repeat (first | exact Take.here | apply Take.there)) | apply Ent.opt0 | apply Ent.opt1 | apply Ent.void | apply Ent.emp0 | apply Ent.two | (apply Ent.allV; · exact sl_void) | (apply Ent.allM; · exact fun _ => sl_void) | apply Ent.f1 rfl | apply Ent.f2 rfl | apply Ent.f3 rfl | apply Ent.f4 rfl | apply Ent.f10 rfl | apply Ent.grp | assumption | exact trivial | rfl | omega)) s⟩
      rfl
    · refine GoC.skip ?_
      refine GoE.then_normal ?_
      obtain ⟨p, r, hp⟩ : ∃ p r, l.procs = p :: r := by
        cases e : l.procs with
        | nil => rw [e] at h16; exact absurd rfl h16
        | cons p r => exact ⟨p, r, rfl⟩
      obtain ⟨i, v, rfl, hv, hmd⟩ := procs_head hp
      have hp0 : l.procs[0]? = some (i : Int) := by rw [hp]; rfl
      rw [tell_some hne hp hv]
      refine GoC.o2 (C := libX b bs br l) (by repeat (first | exact Take.here | apply Take.there)) rfl ?_
      rintro vv vw -
      refine GoC.o1 (C := vslsH vv l.vs) (by repeat (first | exact Take.here | apply Take.there)) rfl ?_
      rintro xs hxs
      have hxl := map_len hxs
      obtain ⟨x, hx, rfl⟩ := map_back hxs hv
      have hil := (List.getElem?_eq_some_iff.1 hx).1
      refine GoC.fr (by repeat (first | exact Take.here | apply Take.there)) (all_out (f := fun x : Value × Vsl => sl evE 3 x.1 x.2.evs) hx) ?_
      have hel := hl.2.2.2 x.2 (List.mem_of_getElem? hv)
      refine GoC.draw [arr b 0 (libC bs br vv vw l.locked), sl intE 1 u13 l.procs] [0, 0, 0, 0, 0, 0, 0, 1, 1, 1, 1, 1, 1, 1, 1, 1, 1, 2, 1, 3] rfl (by kernel_rfl) ?_
      refine GoK.k rfl (Kept.ok (by repeat (first | exact Kept.nil | exact Take.here | apply Take.there | apply Kept.take))) (Y.move rfl) ?_
      refine GoK.k rfl (Kept.ok (by repeat (first | exact Kept.nil | exact Take.here | apply Take.there | apply Kept.take))) (Y.nilCheck rfl) ?_
      first
        | refine GoK.k rfl (Kept.ok (by repeat (first | exact Kept.nil | exact Take.here | apply Take.there | apply Kept.take))) (Y.fieldAddr0 2 109 Try.underlying111 rfl Try.sizeOf109 rfl) ?_
        | refine GoK.k rfl (Kept.ok (by repeat (first | exact Kept.nil | exact Take.here | apply Take.there | apply Kept.take))) (Y.fieldAddr 2 109 Try.underlying111 rfl Try.sizeOf109 rfl) ?_
      first
        | refine GoK.k rfl (Kept.ok (by repeat (first | exact Kept.nil | exact Take.here | apply Take.there | apply Kept.take))) (Y.load Try.isAgg109 rfl (Cell.a (by rfl))) ?_
        | refine GoK.k rfl (Kept.ok (by repeat (first | exact Kept.nil | exact Take.here | apply Take.there | apply Kept.take))) (Y.load Try.isAgg109 rfl (Cell.rd0 Rd.s ‹_› (by rfl))) ?_
        | refine GoK.k rfl (Kept.ok (by repeat (first | exact Kept.nil | exact Take.here | apply Take.there | apply Kept.take))) (Y.load Try.isAgg109 rfl (Cell.rd Rd.s ‹_› (by rfl))) ?_
        | refine GoK.k rfl (Kept.ok (by repeat (first | exact Kept.nil | exact Take.here | apply Take.there | apply Kept.take))) (Y.load Try.isAgg109 rfl (Cell.ao (by rfl))) ?_
        | refine GoK.k rfl (Kept.ok (by repeat (first | exact Kept.nil | exact Take.here | apply Take.there | apply Kept.take))) (Y.load Try.isAgg109 rfl (Cell.az (by rfl))) ?_
        | refine GoK.k rfl (Kept.ok (by repeat (first | exact Kept.nil | exact Take.here | apply Take.there | apply Kept.take))) (Y.load Try.isAgg109 rfl (Cell.a ‹_›)) ?_
        | refine GoK.k rfl (Kept.ok (by repeat (first | exact Kept.nil | exact Take.here | apply Take.there | apply Kept.take))) (Y.load Try.isAgg109 rfl (Cell.rd0 ‹_› ‹_› (by rfl))) ?_
        | refine GoK.k rfl (Kept.ok (by repeat (first | exact Kept.nil | exact Take.here | apply Take.there | apply Kept.take))) (Y.load Try.isAgg109 rfl (Cell.rd ‹_› ‹_› (by rfl))) ?_
      refine GoK.k rfl (Kept.ok (by repeat (first | exact Kept.nil | exact Take.here | apply Take.there | apply Kept.take))) (Y.move rfl) ?_
      refine GoK.k rfl (Kept.ok (by repeat (first | exact Kept.nil | exact Take.here | apply Take.there | apply Kept.take))) (Y.ixRd 0 Try.underlying23 Try.sizeOf3 rfl rfl Rd.s rfl (by rw [hp]; simp)) ?_
      refine GoK.k rfl (Kept.ok (by repeat (first | exact Kept.nil | exact Take.here | apply Take.there | apply Kept.take))) (Y.load Try.isAgg3 rfl (Cell.rd0 Rd.s hp0 rfl)) ?_
      refine GoK.s rfl (Y.move rfl) ?_
      refine GoK.s rfl (Y.nilCheck rfl) ?_
      first
        | refine GoK.s rfl (Y.fieldAddr0 2 109 Try.underlying111 rfl Try.sizeOf109 rfl) ?_
        | refine GoK.s rfl (Y.fieldAddr 2 109 Try.underlying111 rfl Try.sizeOf109 rfl) ?_
      first
        | refine GoK.s rfl (Y.load Try.isAgg109 rfl (Cell.a (by rfl))) ?_
        | refine GoK.s rfl (Y.load Try.isAgg109 rfl (Cell.rd0 Rd.s ‹_› (by rfl))) ?_
        | refine GoK.s rfl (Y.load Try.isAgg109 rfl (Cell.rd Rd.s ‹_› (by rfl))) ?_
        | refine GoK.s rfl (Y.load Try.isAgg109 rfl (Cell.ao (by rfl))) ?_
        | refine GoK.s rfl (Y.load Try.isAgg109 rfl (Cell.az (by rfl))) ?_
        | refine GoK.s rfl (Y.load Try.isAgg109 rfl (Cell.a ‹_›)) ?_
        | refine GoK.s rfl (Y.load Try.isAgg109 rfl (Cell.rd0 ‹_› ‹_› (by rfl))) ?_
        | refine GoK.s rfl (Y.load Try.isAgg109 rfl (Cell.rd ‹_› ‹_› (by rfl))) ?_
      refine GoK.s rfl (Y.move rfl) ?_
      refine GoK.s rfl (Y.ixRd 0 Try.underlying23 Try.sizeOf3 rfl rfl Rd.s rfl (by rw [hp]; simp)) ?_
      refine GoK.s rfl (Y.load Try.isAgg3 rfl (Cell.rd0 Rd.s hp0 rfl)) ?_
      refine GoK.s rfl (Y.ixRd i Try.underlying109 Try.sizeOf122 rfl rfl Rd.s rfl (by omega)) ?_
      first
        | refine GoK.s rfl (Y.lda Try.isAgg122 rfl Cells.a (by exact Try.sizeOf122)) ?_
        | refine GoK.s rfl (Y.lda Try.isAgg122 rfl (Cells.rd ‹_› ‹_›) (by exact Try.sizeOf122)) ?_
        | refine GoK.s rfl (Y.lda Try.isAgg122 rfl (Cells.rd Rd.s ‹_›) (by exact Try.sizeOf122)) ?_
        | refine GoK.s rfl (Y.lda Try.isAgg122 rfl (Cells.part0 Cells.a rfl) (by exact Try.sizeOf122)) ?_
      refine GoK.s rfl (Y.move rfl) ?_
      refine GoK.d2 rfl (Kept.ok (by repeat (first | exact Kept.nil | exact Take.here | apply Take.there | apply Kept.take))) (Does.callE rfl Try.call90 rfl (vessel_Told (A := seps [sl evE 3 x.1 x.2.evs, A]) (u := x.1) (x := x.2) (m := m) (ys := ys) (Rd.grp (Rd.sl .here)) (Rd.grp (hm.at (.there .here))) (by omega)) (by repeat (first | exact Ent.nil | (apply Ent.cons; · repeat (first | exact Take.here | apply Take.there)) | apply Ent.opt0 | apply Ent.opt1 | apply Ent.void | apply Ent.emp0 | apply Ent.two | (apply Ent.allV; · exact sl_void) | (apply Ent.allM; · exact fun _ => sl_void) | apply Ent.f1 rfl | apply Ent.f2 rfl | apply Ent.f3 rfl | apply Ent.f4 rfl | apply Ent.f10 rfl | apply Ent.grp | assumption | exact trivial | rfl | omega))) (by rintro _ _ ⟨u43, -, rfl, rfl⟩; exact (Kept.ok (by repeat (first | exact Kept.nil | exact Take.here | apply Take.there | apply Kept.take)))) ?_
      rintro _ _ ⟨u43, -, rfl, rfl⟩
      refine GoK.know (fun w s => Rd.isSl (Rd.sl (by repeat (first | exact At.here | refine At.there ?_))) w s) fun hu43 => ?_
      refine GoK.ungrp (by repeat (first | exact Take.here | apply Take.there)) ?_
      refine GoK.s rfl (Y.ixRd i Try.underlying109 Try.sizeOf122 rfl rfl Rd.s rfl (by omega)) ?_
      refine GoK.d3 rfl (Does.storeSlA (x' := (u43, x.2.told ys)) rfl rfl Try.sizeOf122 (vsl_one hu43) hx rfl rfl (by repeat (first | exact Repl.here | apply Repl.there))) ?_
      rintro _ _ ⟨rfl, rfl⟩
      refine GoK.nil ?_
      refine GoE.to (A := allH (fun x : Value × Vsl => sl evE 3 x.1 x.2.evs) (xs.set i (u43, x.2.told ys))) (by repeat (first | exact Ent.nil | (apply Ent.cons; · repeat (first | exact Take.here | apply Take.there)) | apply Ent.opt0 | apply Ent.opt1 | apply Ent.void | apply Ent.emp0 | apply Ent.two | (apply Ent.allV; · exact sl_void) | (apply Ent.allM; · exact fun _ => sl_void) | apply Ent.f1 rfl | apply Ent.f2 rfl | apply Ent.f3 rfl | apply Ent.f4 rfl | apply Ent.f10 rfl | apply Ent.grp | assumption | exact trivial | rfl | omega)) (all_in (f := fun x : Value × Vsl => sl evE 3 x.1 x.2.evs) (u43, x.2.told ys) hx) ?_
      have hms := map_set hxs i (u43, x.2.told ys)
      refine GoE.end0 rfl fun w s => ⟨(), ?_, trivial, finE (by repeat (first | exact Ent.nil | (apply Ent.cons; · repeat (first | exact Take.here | apply Take.there)) | apply Ent.opt0 | apply Ent.opt1 | apply Ent.void | apply Ent.emp0 | apply Ent.two | (apply Ent.allV; · exact sl_void) | (apply Ent.allM; · exact fun _ => sl_void) | apply Ent.f1 rfl | apply Ent.f2 rfl | apply Ent.f3 rfl | apply Ent.f4 rfl | apply Ent.f10 rfl | apply Ent.grp | assumption | exact trivial | rfl | omega)) s⟩
      rfl

set_option maxRecDepth 20000 in
theorem lib_Revoke {W : World} {b bs br : Nat} {l : Lib} {p : Int} (hl : l.waiting.length ≤ 400000000 ∧ l.vs.length ≤ 1000000000 ∧ ∀ v ∈ l.vs, v.evs.length ≤ 300000000) : Fn Try.prog W 56 [ptr b, .int .i64 p] [libX b bs br l] Unit (fun _ => .bool (l.revoke p).1) (fun _ => True) (fun _ => [libX b bs br (l.revoke p).2]) := by
  refine Fn.intro (N := 28) Try.func56 rfl Try.ntmps56 rfl fun F => ?_
  show GoC _ _ _ _ _ _ [libX b bs br l, F]
  refine GoC.seq ?_
  refine GoC.region ?_
  refine GoL.y rfl (Y.assign rfl) ?_
  refine GoL.nil ?_
  refine GoE.then_normal ?_
  refine GoC.seq ?_
  refine GoC.seq ?_
  refine GoC.region ?_
  refine GoL.y rfl (Y.move rfl) ?_
  refine GoL.y rfl (Y.move rfl) ?_
  refine GoL.does rfl (Does.callE rfl Try.call54 rfl lib_hasW (by repeat (first | exact Ent.nil | (apply Ent.cons; · repeat (first | exact Take.here | apply Take.there)) | apply Ent.opt0 | apply Ent.opt1 | apply Ent.void | apply Ent.emp0 | apply Ent.two | (apply Ent.allV; · exact sl_void) | (apply Ent.allM; · exact fun _ => sl_void) | apply Ent.f1 rfl | apply Ent.f2 rfl | apply Ent.f3 rfl | apply Ent.f4 rfl | apply Ent.f10 rfl | apply Ent.grp | assumption | exact trivial | rfl | omega))) ?_
  rintro _ _ ⟨⟨⟩, -, rfl, rfl⟩
  first
    | refine GoL.y rfl (Y.notD rfl) ?_
    | refine GoL.y rfl (Y.not rfl) ?_
  refine GoL.nil ?_
  refine GoE.then_normal ?_
  refine GoC.cond rfl (fun h9 => ?_) (fun h9 => ?_)
  · refine GoC.seq ?_
    refine GoC.region ?_
    refine GoL.y rfl (Y.assign rfl) ?_
    refine GoL.nil ?_
    refine GoE.then_normal ?_
    refine GoC.ret ?_
    refine GoE.then_ret ?_
    rw [Bool.not_eq_true'] at h9
    rw [revoke_no h9]
    refine GoE.ret1 rfl rfl fun w s => ⟨(), ?_, trivial, finE (by repeat (first | exact Ent.nil | (apply Ent.cons; · repeat (first | exact Take.here | apply Take.there)) | apply Ent.opt0 | apply Ent.opt1 | apply Ent.void | apply Ent.emp0 | apply Ent.two | (apply Ent.allV; · exact sl_void) | (apply Ent.allM; · exact fun _ => sl_void) | apply Ent.f1 rfl | apply Ent.f2 rfl | apply Ent.f3 rfl | apply Ent.f4 rfl | apply Ent.f10 rfl | apply Ent.grp | assumption | exact trivial | rfl | omega)) s⟩
    rfl
  · refine GoC.skip ?_
    refine GoE.then_normal ?_
    refine GoC.seq ?_
    refine GoC.region ?_
    rw [Bool.not_eq_false'] at h9
    obtain ⟨i, v, rfl, hv⟩ := has_nat (has_in h9)
    rw [revoke_yes h9 hv]
    refine GoL.o2 (C := libX b bs br l) (by repeat (first | exact Take.here | apply Take.there)) rfl ?_
    rintro vv vw -
    refine GoL.o1 (C := vslsH vv l.vs) (by repeat (first | exact Take.here | apply Take.there)) rfl ?_
    rintro xs hxs
    have hxl := map_len hxs
    obtain ⟨x, hx, rfl⟩ := map_back hxs hv
    have hil := (List.getElem?_eq_some_iff.1 hx).1
    refine GoL.fr (by repeat (first | exact Take.here | apply Take.there)) (all_out (f := fun x : Value × Vsl => sl evE 3 x.1 x.2.evs) hx) ?_
    have hel := hl.2.2 x.2 (List.mem_of_getElem? hv)
    have hsl := strip_len x.2
    refine GoL.y rfl (Y.move rfl) ?_
    refine GoL.y rfl (Y.nilCheck rfl) ?_
    first
      | refine GoL.y rfl (Y.fieldAddr0 2 109 Try.underlying111 rfl Try.sizeOf109 rfl) ?_
      | refine GoL.y rfl (Y.fieldAddr 2 109 Try.underlying111 rfl Try.sizeOf109 rfl) ?_
    first
      | refine GoL.y rfl (Y.load Try.isAgg109 rfl (Cell.a (by rfl))) ?_
      | refine GoL.y rfl (Y.load Try.isAgg109 rfl (Cell.rd0 Rd.s ‹_› (by rfl))) ?_
      | refine GoL.y rfl (Y.load Try.isAgg109 rfl (Cell.rd Rd.s ‹_› (by rfl))) ?_
      | refine GoL.y rfl (Y.load Try.isAgg109 rfl (Cell.ao (by rfl))) ?_
      | refine GoL.y rfl (Y.load Try.isAgg109 rfl (Cell.az (by rfl))) ?_
      | refine GoL.y rfl (Y.load Try.isAgg109 rfl (Cell.a ‹_›)) ?_
      | refine GoL.y rfl (Y.load Try.isAgg109 rfl (Cell.rd0 ‹_› ‹_› (by rfl))) ?_
      | refine GoL.y rfl (Y.load Try.isAgg109 rfl (Cell.rd ‹_› ‹_› (by rfl))) ?_
    refine GoL.y rfl (Y.move rfl) ?_
    refine GoL.y rfl (Y.ixRd i Try.underlying109 Try.sizeOf122 rfl rfl Rd.s rfl (by omega)) ?_
    first
      | refine GoL.y rfl (Y.lda Try.isAgg122 rfl Cells.a (by exact Try.sizeOf122)) ?_
      | refine GoL.y rfl (Y.lda Try.isAgg122 rfl (Cells.rd ‹_› ‹_›) (by exact Try.sizeOf122)) ?_
      | refine GoL.y rfl (Y.lda Try.isAgg122 rfl (Cells.rd Rd.s ‹_›) (by exact Try.sizeOf122)) ?_
      | refine GoL.y rfl (Y.lda Try.isAgg122 rfl (Cells.part0 Cells.a rfl) (by exact Try.sizeOf122)) ?_
    refine GoL.does rfl (Does.callE rfl Try.call75 rfl (vessel_Strip (A := sl evE 3 x.1 x.2.evs) (u := x.1) (x := x.2) (Rd.sl .here) (by omega)) (by repeat (first | exact Ent.nil | (apply Ent.cons; · repeat (first | exact Take.here | apply Take.there)) | apply Ent.opt0 | apply Ent.opt1 | apply Ent.void | apply Ent.emp0 | apply Ent.two | (apply Ent.allV; · exact sl_void) | (apply Ent.allM; · exact fun _ => sl_void) | apply Ent.f1 rfl | apply Ent.f2 rfl | apply Ent.f3 rfl | apply Ent.f4 rfl | apply Ent.f10 rfl | apply Ent.grp | assumption | exact trivial | rfl | omega))) ?_
    rintro _ _ ⟨u17, -, rfl, rfl⟩
    refine GoL.y rfl (Y.assign rfl) ?_
    refine GoL.nil ?_
    refine GoE.then_normal ?_
    refine GoC.seq ?_
    refine GoC.region ?_
    refine GoL.y rfl (Y.move rfl) ?_
    refine GoL.y rfl (Y.nilCheck rfl) ?_
    first
      | refine GoL.y rfl (Y.fieldAddr0 2 109 Try.underlying111 rfl Try.sizeOf109 rfl) ?_
      | refine GoL.y rfl (Y.fieldAddr 2 109 Try.underlying111 rfl Try.sizeOf109 rfl) ?_
    first
      | refine GoL.y rfl (Y.load Try.isAgg109 rfl (Cell.a (by rfl))) ?_
      | refine GoL.y rfl (Y.load Try.isAgg109 rfl (Cell.rd0 Rd.s ‹_› (by rfl))) ?_
      | refine GoL.y rfl (Y.load Try.isAgg109 rfl (Cell.rd Rd.s ‹_› (by rfl))) ?_
      | refine GoL.y rfl (Y.load Try.isAgg109 rfl (Cell.ao (by rfl))) ?_
      | refine GoL.y rfl (Y.load Try.isAgg109 rfl (Cell.az (by rfl))) ?_
      | refine GoL.y rfl (Y.load Try.isAgg109 rfl (Cell.a ‹_›)) ?_
      | refine GoL.y rfl (Y.load Try.isAgg109 rfl (Cell.rd0 ‹_› ‹_› (by rfl))) ?_
      | refine GoL.y rfl (Y.load Try.isAgg109 rfl (Cell.rd ‹_› ‹_› (by rfl))) ?_
    refine GoL.y rfl (Y.move rfl) ?_
    refine GoL.y rfl (Y.bld0 ([(.int .i64 0), (.int .i64 0), (.slice none 0 0)]) (by kernel_rfl)) ?_
    refine GoL.y rfl (Y.ixRd i Try.underlying109 Try.sizeOf122 rfl rfl Rd.s rfl (by omega)) ?_
    refine GoL.does rfl (Does.storeSlA (x' := ((Value.slice none 0 0 : Value), Vsl.z)) rfl rfl Try.sizeOf122 rfl hx rfl rfl (by repeat (first | exact Repl.here | apply Repl.there))) ?_
    rintro _ _ ⟨rfl, rfl⟩
    refine GoL.nil ?_
    refine GoE.then_normal ?_
    refine GoC.seq ?_
    refine GoC.region ?_
    refine GoL.to (A := allH (fun x : Value × Vsl => sl evE 3 x.1 x.2.evs) (xs.set i ((Value.slice none 0 0 : Value), Vsl.z))) (by repeat (first | exact Ent.nil | (apply Ent.cons; · repeat (first | exact Take.here | apply Take.there)) | apply Ent.opt0 | apply Ent.opt1 | apply Ent.void | apply Ent.emp0 | apply Ent.two | (apply Ent.allV; · exact sl_void) | (apply Ent.allM; · exact fun _ => sl_void) | apply Ent.f1 rfl | apply Ent.f2 rfl | apply Ent.f3 rfl | apply Ent.f4 rfl | apply Ent.f10 rfl | apply Ent.grp | assumption | exact trivial | rfl | omega)) (all_in (f := fun x : Value × Vsl => sl evE 3 x.1 x.2.evs) ((Value.slice none 0 0 : Value), Vsl.z) hx) ?_
    have hms := map_set hxs i ((Value.slice none 0 0 : Value), Vsl.z)
    refine GoL.y rfl (Y.move rfl) ?_
    refine GoL.y rfl (Y.move rfl) ?_
    refine GoL.does rfl (Does.callE rfl Try.call76 rfl (lib_Tell (l := { l with vs := l.vs.set i Vsl.z }) (A := sl evE 3 u17 x.2.strip) (Rd.sl .here) ⟨by omega, hl.1, by show (l.vs.set i Vsl.z).length ≤ _; rw [List.length_set]; exact hl.2.1, fun v hv => by
      rcases List.mem_or_eq_of_mem_set hv with h | h
      · exact Nat.le_trans (hl.2.2 v h) (by omega)
      · subst h; exact Nat.zero_le _⟩) (by repeat (first | exact Ent.nil | (apply Ent.cons; · repeat (first | exact Take.here | apply Take.there)) | apply Ent.opt0 | apply Ent.opt1 | apply Ent.void | apply Ent.emp0 | apply Ent.two | (apply Ent.allV; · exact sl_void) | (apply Ent.allM; · exact fun _ => sl_void) | apply Ent.f1 rfl | apply Ent.f2 rfl | apply Ent.f3 rfl | apply Ent.f4 rfl | apply Ent.f10 rfl | apply Ent.grp | assumption | exact trivial | rfl | omega))) ?_
    rintro _ _ ⟨⟨⟩, -, rfl, rfl⟩
    refine GoL.nil ?_
    refine GoE.then_normal ?_
    refine GoC.seq ?_
    refine GoC.region ?_
    refine GoL.y rfl (Y.assign rfl) ?_
    refine GoL.nil ?_
    refine GoE.then_normal ?_
    refine GoC.ret ?_
    refine GoE.ret1 rfl rfl fun w s => ⟨(), ?_, trivial, finE (by repeat (first | exact Ent.nil | (apply Ent.cons; · repeat (first | exact Take.here | apply Take.there)) | apply Ent.opt0 | apply Ent.opt1 | apply Ent.void | apply Ent.emp0 | apply Ent.two | (apply Ent.allV; · exact sl_void) | (apply Ent.allM; · exact fun _ => sl_void) | apply Ent.f1 rfl | apply Ent.f2 rfl | apply Ent.f3 rfl | apply Ent.f4 rfl | apply Ent.f10 rfl | apply Ent.grp | assumption | exact trivial | rfl | omega)) s⟩
    rfl

end Go.SLYtkflpgknieoknaa
