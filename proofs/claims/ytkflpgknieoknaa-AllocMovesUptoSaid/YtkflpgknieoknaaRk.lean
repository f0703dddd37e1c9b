/- Walks of functions, and what they compute. Conditions: none, this text proves no statement. -/
import Derived.Test.YtkflpgknieoknaaProg
import Derived.Test.YtkflpgknieoknaaRj
import Derived.Test.YtkflpgknieoknaaK13
import Derived.KernelRfl
namespace Go.SLYtkflpgknieoknaa
open Go Go.RowKit Go.Proofs

set_option maxRecDepth 20000 in
theorem law18_Moves {W : World} {A : HProp} {v : Value} {ps : List PrgV} {p t : Int} (h8 : 0 ≤ p ∧ p ≤ 255) (h9 : 0 ≤ t ∧ t ≤ 255) (hr : Rd W [A] prgE 8 v ps) (hp : ∀ p ∈ ps, PrgRd W [A] p) (hb : ps.length ≤ 1000000000 ∧ ∀ p ∈ ps, p.fs.length ≤ 1000000000 ∧ p.sems.length ≤ 1000000000 ∧ p.pipes.length ≤ 1000000000) : Fn Try.prog W 4 [.int .u8 p, .int .u8 t, v] [A] Unit (fun _ => .bool true) (fun _ => True) (fun _ => [A]) := by
  refine Fn.intro (N := 194) Try.func4 rfl Try.ntmps4 rfl fun F => ?_
  haveI hRI : ∀ (H : List HProp) [HasH H A], ReadsC W H v prgE 8 ps := fun H h => ⟨hr.at h.has⟩
  show GoC _ _ _ _ _ _ [A, F]
  have hq : 0 ≤ p.tmod 9 ∧ p.tmod 9 < 9 := ⟨Int.tmod_nonneg _ h8.1, Int.tmod_lt_of_pos _ (by decide)⟩
  obtain ⟨q, hqe⟩ : ∃ q : Int, q = p.tmod 9 := ⟨_, rfl⟩
  rw [← hqe] at hq
  obtain ⟨N, hN⟩ : ∃ N : Nat, q + 1 = (N : Int) := ⟨(q + 1).toNat, by omega⟩
  have hN9 : 1 ≤ N ∧ N ≤ 9 := by omega
  refine GoC.seq ?_
  refine GoC.region ?_
  refine GoL.y rfl (Y.assign rfl) ?_
  refine GoL.nil ?_
  refine GoE.then_normal ?_
  refine GoC.seq ?_
  refine GoC.region ?_
  refine GoL.y rfl (Y.move rfl) ?_
  refine GoL.y rfl (Y.valW (Y.rem rfl rfl (by decide)) hqe.symm) ?_
  first
    | refine GoL.y rfl (Y.convI Try.underlying5 Try.underlying3 rfl (by omega)) ?_
    | refine GoL.y rfl (Y.conv Try.underlying5 Try.underlying3 rfl) ?_
  refine GoL.y rfl (Y.valW (Y.add rfl rfl (by omega)) hN) ?_
  refine GoL.y rfl (Y.assign rfl) ?_
  refine GoL.nil ?_
  refine GoE.then_normal ?_
  refine GoC.seq ?_
  refine GoC.region ?_
  refine GoL.y rfl (Y.move rfl) ?_
  refine GoL.y rfl (Y.move rfl) ?_
  refine GoL.does rfl (Does.callE rfl Try.call6 rfl (kern_New (procs := (N : Int)) hr hp hb) (by repeat (first | exact Ent.nil | (apply Ent.cons; · repeat (first | exact Take.here | apply Take.there)) | apply Ent.opt0 | apply Ent.opt1 | apply Ent.void | apply Ent.emp0 | apply Ent.two | (apply Ent.allV; · exact sl_void) | (apply Ent.allM; · exact fun _ => sl_void) | apply Ent.f1 rfl | apply Ent.f2 rfl | apply Ent.f3 rfl | apply Ent.f4 rfl | apply Ent.f10 rfl | apply Ent.grp | assumption | exact trivial | rfl | omega))) ?_
  rintro _ _ ⟨o, ho, rfl, rfl⟩
  refine GoL.y rfl (Y.move rfl) ?_
  refine GoL.y rfl (Y.extract rfl rfl) ?_
  refine GoL.y rfl (Y.extract rfl rfl) ?_
  refine GoL.y rfl (Y.assign rfl) ?_
  refine GoL.y rfl (Y.assign rfl) ?_
  refine GoL.nil ?_
  refine GoE.then_normal ?_
  refine GoC.seq ?_
  refine GoC.seq ?_
  refine GoC.region ?_
  refine GoL.y rfl (Y.move rfl) ?_
  refine GoL.y rfl (Y.neq rfl rfl) ?_
  refine GoL.nil ?_
  refine GoE.then_normal ?_
  refine GoC.condD rfl (fun h37 => ?_) (fun h37 => ?_)
  · refine GoC.seq ?_
    refine GoC.region ?_
    refine GoL.does rfl (Does.callE rfl Try.call7 rfl law18_awake (by repeat (first | exact Ent.nil | (apply Ent.cons; · repeat (first | exact Take.here | apply Take.there)) | apply Ent.opt0 | apply Ent.opt1 | apply Ent.void | apply Ent.emp0 | apply Ent.two | (apply Ent.allV; · exact sl_void) | (apply Ent.allM; · exact fun _ => sl_void) | apply Ent.f1 rfl | apply Ent.f2 rfl | apply Ent.f3 rfl | apply Ent.f4 rfl | apply Ent.f10 rfl | apply Ent.grp | assumption | exact trivial | rfl | omega))) ?_
    rintro _ _ ⟨⟨⟩, -, rfl, rfl⟩
    refine GoL.y rfl (Y.assign rfl) ?_
    refine GoL.nil ?_
    refine GoE.then_normal ?_
    refine GoC.ret ?_
    refine GoE.then_ret ?_
    refine GoE.ret1 rfl rfl fun w s => ⟨(), ?_, trivial, finE (by repeat (first | exact Ent.nil | (apply Ent.cons; · repeat (first | exact Take.here | apply Take.there)) | apply Ent.opt0 | apply Ent.opt1 | apply Ent.void | apply Ent.emp0 | apply Ent.two | (apply Ent.allV; · exact sl_void) | (apply Ent.allM; · exact fun _ => sl_void) | apply Ent.f1 rfl | apply Ent.f2 rfl | apply Ent.f3 rfl | apply Ent.f4 rfl | apply Ent.f10 rfl | apply Ent.grp | assumption | exact trivial | rfl | omega)) s⟩
    rfl
  · have hk0 := Decidable.of_not_not h37
    obtain ⟨kb, rfl⟩ := Option.isSome_iff_exists.1 (ho.trans (decide_eq_true hk0))
    obtain ⟨k, hk⟩ : ∃ k, k = Krn.new (N : Int) (ps.map PrgV.p) := ⟨_, rfl⟩
    have hnw := new_inv hk0
    rw [← hk] at hnw ⊢
    have hi := hnw.1
    have hkl : k.libs.length = ps.length := by rw [hnw.2.1, List.length_map]
    have hko : k.owner.length = N := by rw [hnw.2.2.1]; omega
    have hps8 : ps.length ≤ 8 := by have := hnw.2.2.2.2.2; rw [List.length_map] at this; exact this
    refine GoC.fr (A := optH (fun b => krnH b k) (some kb)) (Bs := [krnH kb k]) (by repeat (first | exact Take.here | apply Take.there)) opt_some ?_
    refine GoC.o1 (C := krnH kb k) (by repeat (first | exact Take.here | apply Take.there)) rfl ?_
    rintro bl -
    have hk2 := share_kept hi (List.replicate ps.length 0) t
    have hprl : (List.replicate ps.length (0 : Int)).length ≤ 1000000000 := by rw [List.length_replicate]; omega
    refine GoC.skip ?_
    refine GoE.then_normal ?_
    refine GoC.seq ?_
    refine GoC.region ?_
    refine GoL.y rfl (Y.move rfl) ?_
    first
      | refine GoL.y rfl (Y.lenRd Try.underlying22 rfl Rd.s) ?_
      | refine GoL.y rfl (Y.lenRd Try.underlying22 rfl ‹_›) ?_
      | refine GoL.y rfl (Y.lenSlice Try.underlying22 rfl) ?_
    refine GoL.does rfl (Does.mkSl (enc := intE) (k := 1) 0 ps.length rfl Try.underlying23 Try.typeInfo3 rfl rfl rfl rfl (by decide) (by decide) rfl rfl rfl rfl (by omega)) ?_
    rintro _ _ ⟨b41, rfl, rfl⟩
    refine GoL.y rfl (Y.assign rfl) ?_
    refine GoL.nil ?_
    refine GoE.then_normal ?_
    refine GoC.seq ?_
    refine GoC.region ?_
    refine GoL.y rfl (Y.move rfl) ?_
    refine GoL.y rfl (Y.move rfl) ?_
    refine GoL.y rfl (Y.move rfl) ?_
    first
      | refine GoL.y rfl (Y.convI Try.underlying5 Try.underlying3 rfl (by omega)) ?_
      | refine GoL.y rfl (Y.conv Try.underlying5 Try.underlying3 rfl) ?_
    refine GoL.does rfl (Does.callE rfl Try.call8 rfl (alloc_Share (A := sl intE 1 (.slice (some ⟨b41, 0, none⟩) ps.length ps.length) (List.replicate ps.length 0)) (prio := (List.replicate ps.length 0)) (turn := t) (Rd.sl .here) hprl hi (by decide)) (by repeat (first | exact Ent.nil | (apply Ent.cons; · repeat (first | exact Take.here | apply Take.there)) | apply Ent.opt0 | apply Ent.opt1 | apply Ent.void | apply Ent.emp0 | apply Ent.two | (apply Ent.allV; · exact sl_void) | (apply Ent.allM; · exact fun _ => sl_void) | apply Ent.f1 rfl | apply Ent.f2 rfl | apply Ent.f3 rfl | apply Ent.f4 rfl | apply Ent.f10 rfl | apply Ent.grp | assumption | exact trivial | rfl | omega))) ?_
    rintro _ _ ⟨⟨⟩, -, rfl, rfl⟩
    obtain ⟨k1, hk1⟩ : ∃ k1, k1 = (k.share (List.replicate ps.length 0) t).1 := ⟨_, rfl⟩
    rw [← hk1] at hk2 ⊢
    have hi1 := hk2.1
    have hk1o : k1.owner.length = N := by rw [hk2.2.ol, hko]
    have hk1l : k1.libs.length = ps.length := by rw [hk2.2.ll, hkl]
    refine GoL.nil ?_
    refine GoE.then_normal ?_
    refine GoC.seq ?_
    refine GoC.region ?_
    refine GoL.y rfl (Y.move rfl) ?_
    refine GoL.does rfl (Does.mkSl (enc := intE) (k := 1) 0 N rfl Try.underlying23 Try.typeInfo3 rfl rfl rfl rfl (by decide) (by decide) rfl rfl rfl rfl (by omega)) ?_
    rintro _ _ ⟨b48, rfl, rfl⟩
    refine GoL.y rfl (Y.assign rfl) ?_
    refine GoL.nil ?_
    refine GoE.then_normal ?_
    refine GoC.seq ?_
    refine GoC.seq ?_
    refine GoC.region ?_
    refine GoL.y rfl (Y.assign rfl) ?_
    refine GoL.nil ?_
    refine GoE.then_normal ?_
    refine GoC.block ?_
    refine GoC.loopK (X := Nat × List Int) [12, 13, 14, 49, 50, 51, 52, 53, 54, 55, 56, 57, 58, 59, 60, 61, 62, 63, 64, 65, 66, 67] (fun z => N - z.1) (fun z => z.1 ≤ N ∧ z.2.length = N ∧ z.2.take z.1 = k1.owner.take z.1) (fun z => [(12, some (.int .i64 (z.1 : Int)))]) (fun z => [sl intE 1 (.slice (some ⟨b48, 0, none⟩) N N) z.2, krnX kb bl k1, sl intE 1 (.slice (some ⟨b41, 0, none⟩) ps.length ps.length) (List.replicate ps.length 0), A, F]) (0, List.replicate N 0) ?_ ?_ ?_ ?_
    · exact ⟨Nat.zero_le _, List.length_replicate .., rfl⟩
    · exact ⟨rfl, trivial⟩
    · exact fun w s => Ent.kept (by repeat (first | exact Ent.nil | (apply Ent.cons; · repeat (first | exact Take.here | apply Take.there)) | apply Ent.opt0 | apply Ent.opt1 | apply Ent.void | apply Ent.emp0 | apply Ent.two | (apply Ent.allV; · exact sl_void) | (apply Ent.allM; · exact fun _ => sl_void) | apply Ent.f1 rfl | apply Ent.f2 rfl | apply Ent.f3 rfl | apply Ent.f4 rfl | apply Ent.f10 rfl | apply Ent.grp | assumption | exact trivial | rfl | omega)) w s
    rintro ⟨j, o⟩ ⟨hj, hol, hot⟩
    simp only at hj hol hot
    refine GoC.seq ?_
    refine GoC.seq ?_
    refine GoC.region ?_
    refine GoL.y rfl (Y.move rfl) ?_
    refine GoL.y rfl (Y.move rfl) ?_
    refine GoL.y rfl (Y.lss rfl rfl) ?_
    refine GoL.nil ?_
    refine GoE.then_normal ?_
    refine GoC.condD rfl (fun h51 => ?_) (fun h51 => ?_)
    · have hj1 : j < N := by omega
      obtain ⟨x, hx⟩ := at_some (show j < k1.owner.length by omega)
      obtain ⟨y, hy⟩ := at_some (show j < o.length by omega)
      have hy1 : (o.set j (-1))[j]? = some (-1) := List.getElem?_set_self (by omega)
      refine GoC.skip ?_
      refine GoE.then_normal ?_
      refine GoC.seq ?_
      refine GoC.block ?_
      refine GoC.seq ?_
      refine GoC.region ?_
      refine GoL.y rfl (Y.move rfl) ?_
      refine GoL.y rfl (Y.move rfl) ?_
      refine GoL.does rfl (Does.callE rfl Try.call11 rfl kern_Owner (by repeat (first | exact Ent.nil | (apply Ent.cons; · repeat (first | exact Take.here | apply Take.there)) | apply Ent.opt0 | apply Ent.opt1 | apply Ent.void | apply Ent.emp0 | apply Ent.two | (apply Ent.allV; · exact sl_void) | (apply Ent.allM; · exact fun _ => sl_void) | apply Ent.f1 rfl | apply Ent.f2 rfl | apply Ent.f3 rfl | apply Ent.f4 rfl | apply Ent.f10 rfl | apply Ent.grp | assumption | exact trivial | rfl | omega))) ?_
      rintro _ _ ⟨⟨⟩, -, rfl, rfl⟩
      refine GoL.y rfl (Y.move rfl) ?_
      refine GoL.y rfl (Y.extract rfl rfl) ?_
      refine GoL.y rfl (Y.extract rfl rfl) ?_
      refine GoL.y rfl (Y.assign rfl) ?_
      refine GoL.y rfl (Y.assign rfl) ?_
      refine GoL.nil ?_
      refine GoE.then_normal ?_
      refine GoC.seq ?_
      refine GoC.region ?_
      refine GoL.y rfl (Y.move rfl) ?_
      refine GoL.y rfl (Y.move rfl) ?_
      refine GoL.y rfl (Y.ixRd j Try.underlying23 Try.sizeOf3 rfl rfl Rd.s rfl (by first | omega | (dsimp only; omega))) ?_
      refine GoL.does rfl (Does.storeSl0 (x' := (-1 : Int)) rfl rfl Try.sizeOf3 rfl hy (by decide) rfl (by repeat (first | exact Repl.here | apply Repl.there))) ?_
      rintro _ _ ⟨rfl, rfl⟩
      refine GoL.nil ?_
      refine GoE.then_normal ?_
      refine GoC.seq ?_
      refine GoC.region ?_
      refine GoL.y rfl (Y.move rfl) ?_
      refine GoL.nil ?_
      refine GoE.then_normal ?_
      refine GoC.cond rfl (fun h63 => ?_) (fun h63 => ?_)
      · refine GoC.region ?_
        refine GoL.y rfl (Y.move rfl) ?_
        refine GoL.y rfl (Y.move rfl) ?_
        refine GoL.y rfl (Y.move rfl) ?_
        refine GoL.y rfl (Y.ixRd j Try.underlying23 Try.sizeOf3 rfl rfl Rd.s rfl (by rw [List.length_set]; omega)) ?_
        refine GoL.does rfl (Does.storeSl0 (x' := (k1.ownerOf (j : Int)).1) rfl rfl Try.sizeOf3 rfl hy1 (by decide) rfl (by repeat (first | exact Repl.here | apply Repl.there))) ?_
        rintro _ _ ⟨rfl, rfl⟩
        refine GoL.nil ?_
        refine GoE.block_normal (GoE.then_normal ?_)
        refine GoC.region ?_
        refine GoL.y rfl (Y.move rfl) ?_
        first
          | refine GoL.y rfl (Y.inc rfl rfl (by omega)) ?_
          | refine GoL.y rfl (Y.add rfl rfl (by omega)) ?_
        refine GoL.y rfl (Y.assign rfl) ?_
        refine GoL.nil ?_
        refine GoE.againK (j + 1, (o.set j (-1)).set j (k1.ownerOf (j : Int)).1) (by repeat (first | exact Top.base | refine Top.cons rfl ?_)) rfl ?_ ?_ ?_ ?_
        · show N - (j + 1) < N - j; omega
        · exact ⟨by show j + 1 ≤ N; omega, by simp [hol], by show ((o.set j (-1)).set j (k1.ownerOf (j : Int)).1).take (j + 1) = _; rw [List.set_set, own_yes hx h63]; exact copy_step hot (by omega) hx⟩
        · exact ⟨rfl, trivial⟩
        · exact fun w s => Ent.kept (by repeat (first | exact Ent.nil | (apply Ent.cons; · repeat (first | exact Take.here | apply Take.there)) | apply Ent.opt0 | apply Ent.opt1 | apply Ent.void | apply Ent.emp0 | apply Ent.two | (apply Ent.allV; · exact sl_void) | (apply Ent.allM; · exact fun _ => sl_void) | apply Ent.f1 rfl | apply Ent.f2 rfl | apply Ent.f3 rfl | apply Ent.f4 rfl | apply Ent.f10 rfl | apply Ent.grp | assumption | exact trivial | rfl | omega)) w s
      · refine GoC.skip ?_
        refine GoE.block_normal (GoE.then_normal ?_)
        refine GoC.region ?_
        refine GoL.y rfl (Y.move rfl) ?_
        first
          | refine GoL.y rfl (Y.inc rfl rfl (by omega)) ?_
          | refine GoL.y rfl (Y.add rfl rfl (by omega)) ?_
        refine GoL.y rfl (Y.assign rfl) ?_
        refine GoL.nil ?_
        refine GoE.againK (j + 1, o.set j (-1)) (by repeat (first | exact Top.base | refine Top.cons rfl ?_)) rfl ?_ ?_ ?_ ?_
        · show N - (j + 1) < N - j; omega
        · exact ⟨by show j + 1 ≤ N; omega, by simp [hol], by have := copy_step hot (by omega) hx; rw [own_no hx h63] at this; exact this⟩
        · exact ⟨rfl, trivial⟩
        · exact fun w s => Ent.kept (by repeat (first | exact Ent.nil | (apply Ent.cons; · repeat (first | exact Take.here | apply Take.there)) | apply Ent.opt0 | apply Ent.opt1 | apply Ent.void | apply Ent.emp0 | apply Ent.two | (apply Ent.allV; · exact sl_void) | (apply Ent.allM; · exact fun _ => sl_void) | apply Ent.f1 rfl | apply Ent.f2 rfl | apply Ent.f3 rfl | apply Ent.f4 rfl | apply Ent.f10 rfl | apply Ent.grp | assumption | exact trivial | rfl | omega)) w s
    · obtain rfl : N = j := by omega
      rw [List.take_of_length_le (by omega), List.take_of_length_le (by omega)] at hot
      subst hot
      have hk3 := share_kept hi1 (List.replicate ps.length 0) (t + 1)
      refine GoC.exit ?_
      refine GoE.then_exit (GoE.then_exit (GoE.block_here (GoE.then_normal ?_)))
      refine GoC.seq ?_
      refine GoC.region ?_
      refine GoL.y rfl (Y.move rfl) ?_
      refine GoL.y rfl (Y.move rfl) ?_
      refine GoL.y rfl (Y.move rfl) ?_
      first
        | refine GoL.y rfl (Y.convI Try.underlying5 Try.underlying3 rfl (by omega)) ?_
        | refine GoL.y rfl (Y.conv Try.underlying5 Try.underlying3 rfl) ?_
      first
        | refine GoL.y rfl (Y.inc rfl rfl (by omega)) ?_
        | refine GoL.y rfl (Y.add rfl rfl (by omega)) ?_
      refine GoL.does rfl (Does.callE rfl Try.call8 rfl (alloc_Share (A := sl intE 1 (.slice (some ⟨b41, 0, none⟩) ps.length ps.length) (List.replicate ps.length 0)) (prio := (List.replicate ps.length 0)) (turn := t + 1) (Rd.sl .here) hprl hi1 (by decide)) (by repeat (first | exact Ent.nil | (apply Ent.cons; · repeat (first | exact Take.here | apply Take.there)) | apply Ent.opt0 | apply Ent.opt1 | apply Ent.void | apply Ent.emp0 | apply Ent.two | (apply Ent.allV; · exact sl_void) | (apply Ent.allM; · exact fun _ => sl_void) | apply Ent.f1 rfl | apply Ent.f2 rfl | apply Ent.f3 rfl | apply Ent.f4 rfl | apply Ent.f10 rfl | apply Ent.grp | assumption | exact trivial | rfl | omega))) ?_
      rintro _ _ ⟨⟨⟩, -, rfl, rfl⟩
      obtain ⟨k2, hk2e⟩ : ∃ k2, k2 = (k1.share (List.replicate ps.length 0) (t + 1)).1 := ⟨_, rfl⟩
      rw [← hk2e] at hk3 ⊢
      have hi2 := hk3.1
      have hk2o : k2.owner.length = k1.owner.length := hk3.2.ol
      have hk2l : k2.libs.length = ps.length := by rw [hk3.2.ll, hk1l]
      refine GoL.nil ?_
      refine GoE.then_normal ?_
      refine GoC.seq ?_
      refine GoC.region ?_
      refine GoL.y rfl (Y.move rfl) ?_
      refine GoL.y rfl (Y.move rfl) ?_
      refine GoL.y rfl (Y.move rfl) ?_
      first
        | refine GoL.y rfl (Y.convI Try.underlying5 Try.underlying3 rfl (by omega)) ?_
        | refine GoL.y rfl (Y.conv Try.underlying5 Try.underlying3 rfl) ?_
      first
        | refine GoL.y rfl (Y.inc rfl rfl (by omega)) ?_
        | refine GoL.y rfl (Y.add rfl rfl (by omega)) ?_
      refine GoL.does rfl (Does.callE rfl Try.call12 rfl (alloc_Targets (A := sl intE 1 (.slice (some ⟨b41, 0, none⟩) ps.length ps.length) (List.replicate ps.length 0)) (prio := (List.replicate ps.length 0)) (turn := t + 1) (Rd.sl .here) hprl hi2.ok) (by repeat (first | exact Ent.nil | (apply Ent.cons; · repeat (first | exact Take.here | apply Take.there)) | apply Ent.opt0 | apply Ent.opt1 | apply Ent.void | apply Ent.emp0 | apply Ent.two | (apply Ent.allV; · exact sl_void) | (apply Ent.allM; · exact fun _ => sl_void) | apply Ent.f1 rfl | apply Ent.f2 rfl | apply Ent.f3 rfl | apply Ent.f4 rfl | apply Ent.f10 rfl | apply Ent.grp | assumption | exact trivial | rfl | omega))) ?_
      rintro _ _ ⟨u79, -, rfl, rfl⟩
      have htf := targets_facts hi2.ok (List.replicate ps.length 0) (t + 1)
      have hown := share_owner hi1 (List.replicate ps.length 0) (t + 1)
      have hta := targets_all hi2.ok (t + 1)
      rw [hk2l] at hta
      rw [← hk2e, ← targets_same hk3.2] at hown
      obtain ⟨want, hwt⟩ : ∃ want, want = k2.targets (List.replicate ps.length 0) (t + 1) := ⟨_, rfl⟩
      rw [← hwt] at htf hta hown ⊢
      refine GoL.y rfl (Y.assign rfl) ?_
      refine GoL.nil ?_
      refine GoE.then_normal ?_
      refine GoC.seq ?_
      refine GoC.seq ?_
      refine GoC.region ?_
      refine GoL.y rfl (Y.move rfl) ?_
      first
        | refine GoL.y rfl (Y.lenRd Try.underlying23 rfl Rd.s) ?_
        | refine GoL.y rfl (Y.lenRd Try.underlying23 rfl ‹_›) ?_
        | refine GoL.y rfl (Y.lenSlice Try.underlying23 rfl) ?_
      refine GoL.y rfl (Y.move rfl) ?_
      first
        | refine GoL.y rfl (Y.lenRd Try.underlying22 rfl Rd.s) ?_
        | refine GoL.y rfl (Y.lenRd Try.underlying22 rfl ‹_›) ?_
        | refine GoL.y rfl (Y.lenSlice Try.underlying22 rfl) ?_
      refine GoL.y rfl (Y.neq rfl rfl) ?_
      refine GoL.nil ?_
      refine GoE.then_normal ?_
      refine GoC.condD rfl (fun h84 => ?_) (fun h84 => ?_)
      · exact absurd h84 (by omega)
      · refine GoC.skip ?_
        refine GoE.then_normal ?_
        refine GoC.seq ?_
        refine GoC.seq ?_
        refine GoC.region ?_
        refine GoL.y rfl (Y.assign rfl) ?_
        refine GoL.nil ?_
        refine GoE.then_normal ?_
        refine GoC.block ?_
        refine GoC.loopK (X := Nat) [16, 17, 18, 85, 86, 87, 88, 89, 90, 91, 92, 93, 94, 95, 96, 97, 98, 99, 100, 101, 102, 103, 104, 105, 106, 107, 108, 109, 110, 111, 112, 113, 114, 115, 116, 117, 118, 119, 120] (fun z => ps.length - z) (fun z => z ≤ ps.length) (fun z => [(16, some (.int .i64 (z : Int)))]) (fun z => [sl intE 1 (.slice (some ⟨b48, 0, none⟩) N N) (trims (want.take z) 0 k1.owner), sl intE 1 u79 want, krnX kb bl k2, A, F]) 0 ?_ ?_ ?_ ?_
        · exact Nat.zero_le _
        · exact ⟨rfl, trivial⟩
        · exact fun w s => Ent.kept (by repeat (first | exact Ent.nil | (apply Ent.cons; · repeat (first | exact Take.here | apply Take.there)) | apply Ent.opt0 | apply Ent.opt1 | apply Ent.void | apply Ent.emp0 | apply Ent.two | (apply Ent.allV; · exact sl_void) | (apply Ent.allM; · exact fun _ => sl_void) | apply Ent.f1 rfl | apply Ent.f2 rfl | apply Ent.f3 rfl | apply Ent.f4 rfl | apply Ent.f10 rfl | apply Ent.grp | assumption | exact trivial | rfl | omega)) w s
        rintro s hs
        refine GoC.seq ?_
        refine GoC.seq ?_
        refine GoC.region ?_
        refine GoL.y rfl (Y.move rfl) ?_
        refine GoL.y rfl (Y.move rfl) ?_
        first
          | refine GoL.y rfl (Y.lenRd Try.underlying22 rfl Rd.s) ?_
          | refine GoL.y rfl (Y.lenRd Try.underlying22 rfl ‹_›) ?_
          | refine GoL.y rfl (Y.lenSlice Try.underlying22 rfl) ?_
        refine GoL.y rfl (Y.lss rfl rfl) ?_
        refine GoL.nil ?_
        refine GoE.then_normal ?_
        refine GoC.condD rfl (fun h88 => ?_) (fun h88 => ?_)
        · obtain ⟨w, hw⟩ := at_some (show s < want.length by omega)
          have hw64 := htf.2.1 w (List.mem_of_getElem? hw)
          obtain ⟨wn, rfl⟩ : ∃ wn : Nat, w = (wn : Int) := ⟨w.toNat, by omega⟩
          obtain ⟨T, hT⟩ : ∃ T, T = trims (want.take (s + 1)) 0 k1.owner := ⟨_, rfl⟩
          have hTt := trims_next (o := k1.owner) hw
          rw [← hT, Int.toNat_natCast] at hTt
          refine GoC.skip ?_
          refine GoE.then_normal ?_
          refine GoC.seq ?_
          refine GoC.block ?_
          refine GoC.seq ?_
          refine GoC.region ?_
          refine GoL.y rfl (Y.move rfl) ?_
          refine GoL.y rfl (Y.move rfl) ?_
          refine GoL.y rfl (Y.ixRd s Try.underlying23 Try.sizeOf3 rfl rfl Rd.s rfl (by first | omega | (dsimp only; omega))) ?_
          refine GoL.y rfl (Y.load Try.isAgg3 rfl (Cell.rd0 Rd.s hw rfl)) ?_
          refine GoL.y rfl (Y.assign rfl) ?_
          refine GoL.nil ?_
          refine GoE.then_normal ?_
          refine GoC.seq ?_
          refine GoC.region ?_
          refine GoL.y rfl (Y.assign rfl) ?_
          refine GoL.nil ?_
          refine GoE.then_normal ?_
          refine GoC.block ?_
          refine GoC.loopK (X := Nat × Nat × List Int) [17, 18, 95, 96, 97, 98, 99, 100, 101, 102, 103, 104, 105, 106, 107, 108, 109, 110, 111, 112, 113, 114, 115, 116, 117, 118, 119, 120] (fun z => N - z.1) (fun z => z.1 ≤ N ∧ z.2.2.length = N ∧ z.2.1 ≤ 64 ∧ T = z.2.2.take z.1 ++ trim (s : Int) z.2.1 (z.2.2.drop z.1)) (fun z => [(18, some (.int .i64 (z.1 : Int))), (17, some (.int .i64 (z.2.1 : Int)))]) (fun z => [sl intE 1 (.slice (some ⟨b48, 0, none⟩) N N) z.2.2, sl intE 1 u79 want, krnX kb bl k2, A, F]) (0, wn, trims (want.take s) 0 k1.owner) ?_ ?_ ?_ ?_
          · exact ⟨Nat.zero_le _, by rw [trims_len, hk1o], by show wn ≤ 64; omega, hTt⟩
          · exact ⟨rfl, rfl, trivial⟩
          · exact fun w s => Ent.kept (by repeat (first | exact Ent.nil | (apply Ent.cons; · repeat (first | exact Take.here | apply Take.there)) | apply Ent.opt0 | apply Ent.opt1 | apply Ent.void | apply Ent.emp0 | apply Ent.two | (apply Ent.allV; · exact sl_void) | (apply Ent.allM; · exact fun _ => sl_void) | apply Ent.f1 rfl | apply Ent.f2 rfl | apply Ent.f3 rfl | apply Ent.f4 rfl | apply Ent.f10 rfl | apply Ent.grp | assumption | exact trivial | rfl | omega)) w s
          rintro ⟨j, l, o⟩ ⟨hj, hol, hl64, hTo⟩
          simp only at hj hol hl64 hTo
          refine GoC.seq ?_
          refine GoC.seq ?_
          refine GoC.region ?_
          refine GoL.y rfl (Y.move rfl) ?_
          refine GoL.y rfl (Y.move rfl) ?_
          refine GoL.y rfl (Y.lss rfl rfl) ?_
          refine GoL.nil ?_
          refine GoE.then_normal ?_
          refine GoC.condD rfl (fun h97 => ?_) (fun h97 => ?_)
          · have hj1 : j < N := by omega
            obtain ⟨x, hx⟩ := at_some (show j < o.length by omega)
            refine GoC.skip ?_
            refine GoE.then_normal ?_
            refine GoC.seq ?_
            refine GoC.block ?_
            refine GoC.seq ?_
            refine GoC.region ?_
            refine GoL.y rfl (Y.move rfl) ?_
            refine GoL.y rfl (Y.move rfl) ?_
            refine GoL.y rfl (Y.ixRd j Try.underlying23 Try.sizeOf3 rfl rfl Rd.s rfl (by first | omega | (dsimp only; omega))) ?_
            refine GoL.y rfl (Y.load Try.isAgg3 rfl (Cell.rd0 Rd.s hx rfl)) ?_
            refine GoL.y rfl (Y.move rfl) ?_
            refine GoL.y rfl (Y.eql rfl rfl) ?_
            refine GoL.y rfl (Y.move rfl) ?_
            first
              | apply GoL.segAD 3 109 106 [106, 107, 108, 109] rfl
              | apply GoL.segA 3 109 106 [106, 107, 108, 109] rfl
            · intro h106
              refine GoL.yg rfl rfl rfl (Y.move rfl) ?_
              refine GoL.yg rfl rfl rfl (Y.eql rfl rfl) ?_
              refine GoL.y rfl (Y.pickT rfl rfl) ?_
              refine GoL.nil ?_
              refine GoE.seg (by repeat (first | exact Top.base | refine Top.cons rfl ?_)) rfl (by first | exact fun _ h => h | exact Ent.kept (by repeat (first | exact Ent.nil | (apply Ent.cons; · repeat (first | exact Take.here | apply Take.there)) | apply Ent.opt0 | apply Ent.opt1 | apply Ent.void | apply Ent.emp0 | apply Ent.two | (apply Ent.allV; · exact sl_void) | (apply Ent.allM; · exact fun _ => sl_void) | apply Ent.f1 rfl | apply Ent.f2 rfl | apply Ent.f3 rfl | apply Ent.f4 rfl | apply Ent.f10 rfl | apply Ent.grp | assumption | exact trivial | rfl | omega)))
            · intro h106
              refine GoL.skip rfl rfl rfl rfl ?_
              refine GoL.skip rfl rfl rfl rfl ?_
              refine GoL.y rfl (Y.pickF rfl rfl) ?_
              refine GoL.nil ?_
              refine GoE.seg (by repeat (first | exact Top.base | refine Top.cons rfl ?_)) rfl (by first | exact fun _ h => h | exact Ent.kept (by repeat (first | exact Ent.nil | (apply Ent.cons; · repeat (first | exact Take.here | apply Take.there)) | apply Ent.opt0 | apply Ent.opt1 | apply Ent.void | apply Ent.emp0 | apply Ent.two | (apply Ent.allV; · exact sl_void) | (apply Ent.allM; · exact fun _ => sl_void) | apply Ent.f1 rfl | apply Ent.f2 rfl | apply Ent.f3 rfl | apply Ent.f4 rfl | apply Ent.f10 rfl | apply Ent.grp | assumption | exact trivial | rfl | omega)))
            refine GoL.nil ?_
            refine GoE.then_normal ?_
            refine GoC.cond rfl (fun h109 => ?_) (fun h109 => ?_)
            · simp only [Bool.and_eq_true, Bool.or_eq_true, Bool.and_eq_false_iff, Bool.or_eq_false_iff, decide_eq_true_eq, decide_eq_false_iff_not, Bool.not_eq_true', Bool.not_eq_false'] at h109
              obtain rfl : l = 0 := by omega
              refine GoC.region ?_
              refine GoL.y rfl (Y.move rfl) ?_
              refine GoL.y rfl (Y.move rfl) ?_
              refine GoL.y rfl (Y.ixRd j Try.underlying23 Try.sizeOf3 rfl rfl Rd.s rfl (by first | omega | (dsimp only; omega))) ?_
              refine GoL.does rfl (Does.storeSl0 (x' := (-1 : Int)) rfl rfl Try.sizeOf3 rfl hx (by decide) rfl (by repeat (first | exact Repl.here | apply Repl.there))) ?_
              rintro _ _ ⟨rfl, rfl⟩
              refine GoL.nil ?_
              refine GoE.block_normal (GoE.then_normal ?_)
              refine GoC.region ?_
              refine GoL.y rfl (Y.move rfl) ?_
              first
                | refine GoL.y rfl (Y.inc rfl rfl (by omega)) ?_
                | refine GoL.y rfl (Y.add rfl rfl (by omega)) ?_
              refine GoL.y rfl (Y.assign rfl) ?_
              refine GoL.nil ?_
              refine GoE.againK (j + 1, 0, o.set j (-1)) (by repeat (first | exact Top.base | refine Top.cons rfl ?_)) rfl ?_ ?_ ?_ ?_
              · show N - (j + 1) < N - j; omega
              · exact ⟨by show j + 1 ≤ N; omega, by simp [hol], by show 0 ≤ 64; omega, trim_hit hTo hx h109.1⟩
              · exact ⟨rfl, rfl, trivial⟩
              · exact fun w s => Ent.kept (by repeat (first | exact Ent.nil | (apply Ent.cons; · repeat (first | exact Take.here | apply Take.there)) | apply Ent.opt0 | apply Ent.opt1 | apply Ent.void | apply Ent.emp0 | apply Ent.two | (apply Ent.allV; · exact sl_void) | (apply Ent.allM; · exact fun _ => sl_void) | apply Ent.f1 rfl | apply Ent.f2 rfl | apply Ent.f3 rfl | apply Ent.f4 rfl | apply Ent.f10 rfl | apply Ent.grp | assumption | exact trivial | rfl | omega)) w s
            · simp only [Bool.and_eq_true, Bool.or_eq_true, Bool.and_eq_false_iff, Bool.or_eq_false_iff, decide_eq_true_eq, decide_eq_false_iff_not, Bool.not_eq_true', Bool.not_eq_false'] at h109
              refine GoC.seq ?_
              refine GoC.region ?_
              refine GoL.y rfl (Y.move rfl) ?_
              refine GoL.y rfl (Y.move rfl) ?_
              refine GoL.y rfl (Y.ixRd j Try.underlying23 Try.sizeOf3 rfl rfl Rd.s rfl (by first | omega | (dsimp only; omega))) ?_
              refine GoL.y rfl (Y.load Try.isAgg3 rfl (Cell.rd0 Rd.s hx rfl)) ?_
              refine GoL.y rfl (Y.move rfl) ?_
              refine GoL.y rfl (Y.eql rfl rfl) ?_
              refine GoL.nil ?_
              refine GoE.then_normal ?_
              refine GoC.condD rfl (fun h118 => ?_) (fun h118 => ?_)
              · obtain ⟨l2, rfl⟩ : ∃ l2, l = l2 + 1 := ⟨l - 1, by rcases h109 with h | h; exact absurd h118 h; omega⟩
                refine GoC.region ?_
                refine GoL.y rfl (Y.move rfl) ?_
                refine GoL.y rfl (Y.valW (Y.sub rfl rfl (by dsimp only; omega)) (show ((l2 + 1 : Nat) : Int) - 1 = (l2 : Int) from by omega)) ?_
                refine GoL.y rfl (Y.assign rfl) ?_
                refine GoL.nil ?_
                refine GoE.block_normal (GoE.then_normal ?_)
                refine GoC.region ?_
                refine GoL.y rfl (Y.move rfl) ?_
                first
                  | refine GoL.y rfl (Y.inc rfl rfl (by omega)) ?_
                  | refine GoL.y rfl (Y.add rfl rfl (by omega)) ?_
                refine GoL.y rfl (Y.assign rfl) ?_
                refine GoL.nil ?_
                refine GoE.againK (j + 1, l2, o) (by repeat (first | exact Top.base | refine Top.cons rfl ?_)) rfl ?_ ?_ ?_ ?_
                · show N - (j + 1) < N - j; omega
                · exact ⟨by show j + 1 ≤ N; omega, hol, by show l2 ≤ 64; omega, trim_keep hTo hx h118⟩
                · exact ⟨rfl, rfl, trivial⟩
                · exact fun w s => Ent.kept (by repeat (first | exact Ent.nil | (apply Ent.cons; · repeat (first | exact Take.here | apply Take.there)) | apply Ent.opt0 | apply Ent.opt1 | apply Ent.void | apply Ent.emp0 | apply Ent.two | (apply Ent.allV; · exact sl_void) | (apply Ent.allM; · exact fun _ => sl_void) | apply Ent.f1 rfl | apply Ent.f2 rfl | apply Ent.f3 rfl | apply Ent.f4 rfl | apply Ent.f10 rfl | apply Ent.grp | assumption | exact trivial | rfl | omega)) w s
              · refine GoC.skip ?_
                refine GoE.block_normal (GoE.then_normal ?_)
                refine GoC.region ?_
                refine GoL.y rfl (Y.move rfl) ?_
                first
                  | refine GoL.y rfl (Y.inc rfl rfl (by omega)) ?_
                  | refine GoL.y rfl (Y.add rfl rfl (by omega)) ?_
                refine GoL.y rfl (Y.assign rfl) ?_
                refine GoL.nil ?_
                refine GoE.againK (j + 1, l, o) (by repeat (first | exact Top.base | refine Top.cons rfl ?_)) rfl ?_ ?_ ?_ ?_
                · show N - (j + 1) < N - j; omega
                · exact ⟨by show j + 1 ≤ N; omega, hol, hl64, trim_pass hTo hx h118⟩
                · exact ⟨rfl, rfl, trivial⟩
                · exact fun w s => Ent.kept (by repeat (first | exact Ent.nil | (apply Ent.cons; · repeat (first | exact Take.here | apply Take.there)) | apply Ent.opt0 | apply Ent.opt1 | apply Ent.void | apply Ent.emp0 | apply Ent.two | (apply Ent.allV; · exact sl_void) | (apply Ent.allM; · exact fun _ => sl_void) | apply Ent.f1 rfl | apply Ent.f2 rfl | apply Ent.f3 rfl | apply Ent.f4 rfl | apply Ent.f10 rfl | apply Ent.grp | assumption | exact trivial | rfl | omega)) w s
          · have hd := trim_done hTo (by omega)
            refine GoC.exit ?_
            refine GoE.then_exit (GoE.then_exit (GoE.block_here (GoE.block_normal (GoE.then_normal ?_))))
            refine GoC.region ?_
            refine GoL.y rfl (Y.move rfl) ?_
            first
              | refine GoL.y rfl (Y.inc rfl rfl (by omega)) ?_
              | refine GoL.y rfl (Y.add rfl rfl (by omega)) ?_
            refine GoL.y rfl (Y.assign rfl) ?_
            refine GoL.nil ?_
            refine GoE.againK (s + 1) (by repeat (first | exact Top.base | refine Top.cons rfl ?_)) rfl ?_ ?_ ?_ ?_
            · omega
            · omega
            · exact ⟨rfl, trivial⟩
            · show ∀ w, Sat _ w _ → Sat _ w (seps [sl intE 1 _ (trims (want.take (s + 1)) 0 k1.owner), sl intE 1 u79 want, krnX kb bl k2, A, F])
              rw [← hT, hd]
              exact fun w s => Ent.kept (by repeat (first | exact Ent.nil | (apply Ent.cons; · repeat (first | exact Take.here | apply Take.there)) | apply Ent.opt0 | apply Ent.opt1 | apply Ent.void | apply Ent.emp0 | apply Ent.two | (apply Ent.allV; · exact sl_void) | (apply Ent.allM; · exact fun _ => sl_void) | apply Ent.f1 rfl | apply Ent.f2 rfl | apply Ent.f3 rfl | apply Ent.f4 rfl | apply Ent.f10 rfl | apply Ent.grp | assumption | exact trivial | rfl | omega)) w s
        · obtain rfl : ps.length = s := by omega
          rw [List.take_of_length_le (by omega)]
          obtain ⟨O, hO⟩ : ∃ O, O = trims want 0 k1.owner := ⟨_, rfl⟩
          have hOl : O.length = N := by rw [hO, trims_len, hk1o]
          rw [← hO] at hown ⊢
          refine GoC.exit ?_
          refine GoE.then_exit (GoE.then_exit (GoE.block_here (GoE.then_normal ?_)))
          refine GoC.seq ?_
          refine GoC.seq ?_
          refine GoC.region ?_
          refine GoL.y rfl (Y.assign rfl) ?_
          refine GoL.nil ?_
          refine GoE.then_normal ?_
          refine GoC.block ?_
          refine GoC.loopK (X := Nat) [19, 20, 21, 22, 121, 122, 123, 124, 125, 126, 127, 128, 129, 130, 131, 132, 133, 134, 135, 136, 137, 138, 139, 140, 141, 142, 143, 144, 145, 146, 147, 148, 149, 150, 151, 152, 153, 154, 155, 156, 157, 158, 159, 160, 161, 162, 163] (fun z => ps.length - z) (fun z => z ≤ ps.length) (fun z => [(19, some (.int .i64 (z : Int)))]) (fun z => [sl intE 1 (.slice (some ⟨b48, 0, none⟩) N N) (fills (want.take z) 0 O), sl intE 1 u79 want, krnX kb bl k2, A, F]) 0 ?_ ?_ ?_ ?_
          · exact Nat.zero_le _
          · exact ⟨rfl, trivial⟩
          · exact fun w s => Ent.kept (by repeat (first | exact Ent.nil | (apply Ent.cons; · repeat (first | exact Take.here | apply Take.there)) | apply Ent.opt0 | apply Ent.opt1 | apply Ent.void | apply Ent.emp0 | apply Ent.two | (apply Ent.allV; · exact sl_void) | (apply Ent.allM; · exact fun _ => sl_void) | apply Ent.f1 rfl | apply Ent.f2 rfl | apply Ent.f3 rfl | apply Ent.f4 rfl | apply Ent.f10 rfl | apply Ent.grp | assumption | exact trivial | rfl | omega)) w s
          rintro s hs
          refine GoC.seq ?_
          refine GoC.seq ?_
          refine GoC.region ?_
          refine GoL.y rfl (Y.move rfl) ?_
          refine GoL.y rfl (Y.move rfl) ?_
          first
            | refine GoL.y rfl (Y.lenRd Try.underlying22 rfl Rd.s) ?_
            | refine GoL.y rfl (Y.lenRd Try.underlying22 rfl ‹_›) ?_
            | refine GoL.y rfl (Y.lenSlice Try.underlying22 rfl) ?_
          refine GoL.y rfl (Y.lss rfl rfl) ?_
          refine GoL.nil ?_
          refine GoE.then_normal ?_
          refine GoC.condD rfl (fun h124 => ?_) (fun h124 => ?_)
          · obtain ⟨w, hw⟩ := at_some (show s < want.length by omega)
            have hw64 := htf.2.1 w (List.mem_of_getElem? hw)
            obtain ⟨wn, rfl⟩ : ∃ wn : Nat, w = (wn : Int) := ⟨w.toNat, by omega⟩
            obtain ⟨T, hT⟩ : ∃ T, T = fills (want.take (s + 1)) 0 O := ⟨_, rfl⟩
            have hTt := fills_next (o := O) hw
            obtain ⟨o0, ho0⟩ : ∃ o0, o0 = fills (want.take s) 0 O := ⟨_, rfl⟩
            rw [← hT, Int.toNat_natCast, ← ho0] at hTt
            have ho0l : o0.length = N := by rw [ho0, fills_len, hOl]
            rw [← ho0]
            refine GoC.skip ?_
            refine GoE.then_normal ?_
            refine GoC.seq ?_
            refine GoC.block ?_
            refine GoC.seq ?_
            refine GoC.region ?_
            refine GoL.y rfl (Y.assign rfl) ?_
            refine GoL.nil ?_
            refine GoE.then_normal ?_
            refine GoC.seq ?_
            refine GoC.seq ?_
            refine GoC.region ?_
            refine GoL.y rfl (Y.assign rfl) ?_
            refine GoL.nil ?_
            refine GoE.then_normal ?_
            refine GoC.block ?_
            refine GoC.loopK (X := Nat × Nat) [20, 21, 127, 128, 129, 130, 131, 132, 133, 134, 135, 136, 137, 138, 139] (fun z => N - z.1) (fun z => z.1 ≤ N ∧ z.2 ≤ z.1 ∧ z.2 = (o0.take z.1).count (s : Int)) (fun z => [(21, some (.int .i64 (z.1 : Int))), (20, some (.int .i64 (z.2 : Int)))]) (fun z => [sl intE 1 (.slice (some ⟨b48, 0, none⟩) N N) o0, sl intE 1 u79 want, krnX kb bl k2, A, F]) (0, 0) ?_ ?_ ?_ ?_
            · exact ⟨Nat.zero_le _, Nat.le_refl _, by simp⟩
            · exact ⟨rfl, rfl, trivial⟩
            · exact fun w s => Ent.kept (by repeat (first | exact Ent.nil | (apply Ent.cons; · repeat (first | exact Take.here | apply Take.there)) | apply Ent.opt0 | apply Ent.opt1 | apply Ent.void | apply Ent.emp0 | apply Ent.two | (apply Ent.allV; · exact sl_void) | (apply Ent.allM; · exact fun _ => sl_void) | apply Ent.f1 rfl | apply Ent.f2 rfl | apply Ent.f3 rfl | apply Ent.f4 rfl | apply Ent.f10 rfl | apply Ent.grp | assumption | exact trivial | rfl | omega)) w s
            rintro ⟨j, c⟩ ⟨hj, hcj, hc⟩
            simp only at hj hcj hc
            refine GoC.seq ?_
            refine GoC.seq ?_
            refine GoC.region ?_
            refine GoL.y rfl (Y.move rfl) ?_
            refine GoL.y rfl (Y.move rfl) ?_
            refine GoL.y rfl (Y.lss rfl rfl) ?_
            refine GoL.nil ?_
            refine GoE.then_normal ?_
            refine GoC.condD rfl (fun h129 => ?_) (fun h129 => ?_)
            · have hj1 : j < N := by omega
              obtain ⟨x, hx⟩ := at_some (show j < o0.length by omega)
              refine GoC.skip ?_
              refine GoE.then_normal ?_
              refine GoC.seq ?_
              refine GoC.block ?_
              refine GoC.seq ?_
              refine GoC.region ?_
              refine GoL.y rfl (Y.move rfl) ?_
              refine GoL.y rfl (Y.move rfl) ?_
              refine GoL.y rfl (Y.ixRd j Try.underlying23 Try.sizeOf3 rfl rfl Rd.s rfl (by first | omega | (dsimp only; omega))) ?_
              refine GoL.y rfl (Y.load Try.isAgg3 rfl (Cell.rd0 Rd.s hx rfl)) ?_
              refine GoL.y rfl (Y.move rfl) ?_
              refine GoL.y rfl (Y.eql rfl rfl) ?_
              refine GoL.nil ?_
              refine GoE.then_normal ?_
              refine GoC.condD rfl (fun h137 => ?_) (fun h137 => ?_)
              · refine GoC.region ?_
                refine GoL.y rfl (Y.move rfl) ?_
                refine GoL.y rfl (Y.valW (Y.add rfl rfl (by dsimp only; omega)) (show (c : Int) + 1 = ((c + 1 : Nat) : Int) from by omega)) ?_
                refine GoL.y rfl (Y.assign rfl) ?_
                refine GoL.nil ?_
                refine GoE.block_normal (GoE.then_normal ?_)
                refine GoC.region ?_
                refine GoL.y rfl (Y.move rfl) ?_
                first
                  | refine GoL.y rfl (Y.inc rfl rfl (by omega)) ?_
                  | refine GoL.y rfl (Y.add rfl rfl (by omega)) ?_
                refine GoL.y rfl (Y.assign rfl) ?_
                refine GoL.nil ?_
                refine GoE.againK (j + 1, c + 1) (by repeat (first | exact Top.base | refine Top.cons rfl ?_)) rfl ?_ ?_ ?_ ?_
                · show N - (j + 1) < N - j; omega
                · exact ⟨by show j + 1 ≤ N; omega, by show c + 1 ≤ j + 1; omega, by rw [count_snoc hx, if_pos h137, ← hc]⟩
                · exact ⟨rfl, rfl, trivial⟩
                · exact fun w s => Ent.kept (by repeat (first | exact Ent.nil | (apply Ent.cons; · repeat (first | exact Take.here | apply Take.there)) | apply Ent.opt0 | apply Ent.opt1 | apply Ent.void | apply Ent.emp0 | apply Ent.two | (apply Ent.allV; · exact sl_void) | (apply Ent.allM; · exact fun _ => sl_void) | apply Ent.f1 rfl | apply Ent.f2 rfl | apply Ent.f3 rfl | apply Ent.f4 rfl | apply Ent.f10 rfl | apply Ent.grp | assumption | exact trivial | rfl | omega)) w s
              · refine GoC.skip ?_
                refine GoE.block_normal (GoE.then_normal ?_)
                refine GoC.region ?_
                refine GoL.y rfl (Y.move rfl) ?_
                first
                  | refine GoL.y rfl (Y.inc rfl rfl (by omega)) ?_
                  | refine GoL.y rfl (Y.add rfl rfl (by omega)) ?_
                refine GoL.y rfl (Y.assign rfl) ?_
                refine GoL.nil ?_
                refine GoE.againK (j + 1, c) (by repeat (first | exact Top.base | refine Top.cons rfl ?_)) rfl ?_ ?_ ?_ ?_
                · show N - (j + 1) < N - j; omega
                · exact ⟨by show j + 1 ≤ N; omega, by show c ≤ j + 1; omega, by rw [count_snoc hx, if_neg h137, ← hc]; rfl⟩
                · exact ⟨rfl, rfl, trivial⟩
                · exact fun w s => Ent.kept (by repeat (first | exact Ent.nil | (apply Ent.cons; · repeat (first | exact Take.here | apply Take.there)) | apply Ent.opt0 | apply Ent.opt1 | apply Ent.void | apply Ent.emp0 | apply Ent.two | (apply Ent.allV; · exact sl_void) | (apply Ent.allM; · exact fun _ => sl_void) | apply Ent.f1 rfl | apply Ent.f2 rfl | apply Ent.f3 rfl | apply Ent.f4 rfl | apply Ent.f10 rfl | apply Ent.grp | assumption | exact trivial | rfl | omega)) w s
            · have hcc : c = o0.count (s : Int) := by rw [hc, List.take_of_length_le (by omega)]
              refine GoC.exit ?_
              refine GoE.then_exit (GoE.then_exit (GoE.block_here (GoE.then_normal ?_)))
              refine GoC.seq ?_
              refine GoC.region ?_
              refine GoL.y rfl (Y.assign rfl) ?_
              refine GoL.nil ?_
              refine GoE.then_normal ?_
              refine GoC.block ?_
              refine GoC.loopK (X := Nat × Nat × List Int) [20, 22, 140, 141, 142, 143, 144, 145, 146, 147, 148, 149, 150, 151, 152, 153, 154, 155, 156, 157, 158, 159, 160, 161, 162, 163] (fun z => N - z.1) (fun z => z.1 ≤ N ∧ z.2.2.length = N ∧ z.2.1 ≤ 64 + z.1 ∧ T = z.2.2.take z.1 ++ fill (s : Int) (wn - z.2.1) (z.2.2.drop z.1)) (fun z => [(22, some (.int .i64 (z.1 : Int))), (20, some (.int .i64 (z.2.1 : Int)))]) (fun z => [sl intE 1 (.slice (some ⟨b48, 0, none⟩) N N) z.2.2, sl intE 1 u79 want, krnX kb bl k2, A, F]) (0, c, o0) ?_ ?_ ?_ ?_
              · exact ⟨Nat.zero_le _, ho0l, by show c ≤ 64 + 0; omega, by rw [hTt, ← hcc]; rfl⟩
              · exact ⟨rfl, rfl, trivial⟩
              · exact fun w s => Ent.kept (by repeat (first | exact Ent.nil | (apply Ent.cons; · repeat (first | exact Take.here | apply Take.there)) | apply Ent.opt0 | apply Ent.opt1 | apply Ent.void | apply Ent.emp0 | apply Ent.two | (apply Ent.allV; · exact sl_void) | (apply Ent.allM; · exact fun _ => sl_void) | apply Ent.f1 rfl | apply Ent.f2 rfl | apply Ent.f3 rfl | apply Ent.f4 rfl | apply Ent.f10 rfl | apply Ent.grp | assumption | exact trivial | rfl | omega)) w s
              rintro ⟨i, c, o⟩ ⟨hi0, hol, hc64, hTo⟩
              simp only at hi0 hol hc64 hTo
              refine GoC.seq ?_
              refine GoC.seq ?_
              refine GoC.region ?_
              refine GoL.y rfl (Y.move rfl) ?_
              refine GoL.y rfl (Y.move rfl) ?_
              refine GoL.y rfl (Y.lss rfl rfl) ?_
              refine GoL.y rfl (Y.move rfl) ?_
              first
                | apply GoL.segAD 7 150 143 [143, 144, 145, 146, 147, 148, 149, 150] rfl
                | apply GoL.segA 7 150 143 [143, 144, 145, 146, 147, 148, 149, 150] rfl
              · intro h143
                refine GoL.yg rfl rfl rfl (Y.move rfl) ?_
                refine GoL.yg rfl rfl rfl (Y.move rfl) ?_
                refine GoL.yg rfl rfl rfl (Y.move rfl) ?_
                refine GoL.yg rfl rfl rfl (Y.ixRd s Try.underlying23 Try.sizeOf3 rfl rfl Rd.s rfl (by first | omega | (dsimp only; omega))) ?_
                refine GoL.yg rfl rfl rfl (Y.load Try.isAgg3 rfl (Cell.rd0 Rd.s hw rfl)) ?_
                refine GoL.yg rfl rfl rfl (Y.lss rfl rfl) ?_
                refine GoL.y rfl (Y.pickT rfl rfl) ?_
                refine GoL.nil ?_
                refine GoE.seg (by repeat (first | exact Top.base | refine Top.cons rfl ?_)) rfl (by first | exact fun _ h => h | exact Ent.kept (by repeat (first | exact Ent.nil | (apply Ent.cons; · repeat (first | exact Take.here | apply Take.there)) | apply Ent.opt0 | apply Ent.opt1 | apply Ent.void | apply Ent.emp0 | apply Ent.two | (apply Ent.allV; · exact sl_void) | (apply Ent.allM; · exact fun _ => sl_void) | apply Ent.f1 rfl | apply Ent.f2 rfl | apply Ent.f3 rfl | apply Ent.f4 rfl | apply Ent.f10 rfl | apply Ent.grp | assumption | exact trivial | rfl | omega)))
              · intro h143
                refine GoL.skip rfl rfl rfl rfl ?_
                refine GoL.skip rfl rfl rfl rfl ?_
                refine GoL.skip rfl rfl rfl rfl ?_
                refine GoL.skip rfl rfl rfl rfl ?_
                refine GoL.skip rfl rfl rfl rfl ?_
                refine GoL.skip rfl rfl rfl rfl ?_
                refine GoL.y rfl (Y.pickF rfl rfl) ?_
                refine GoL.nil ?_
                refine GoE.seg (by repeat (first | exact Top.base | refine Top.cons rfl ?_)) rfl (by first | exact fun _ h => h | exact Ent.kept (by repeat (first | exact Ent.nil | (apply Ent.cons; · repeat (first | exact Take.here | apply Take.there)) | apply Ent.opt0 | apply Ent.opt1 | apply Ent.void | apply Ent.emp0 | apply Ent.two | (apply Ent.allV; · exact sl_void) | (apply Ent.allM; · exact fun _ => sl_void) | apply Ent.f1 rfl | apply Ent.f2 rfl | apply Ent.f3 rfl | apply Ent.f4 rfl | apply Ent.f10 rfl | apply Ent.grp | assumption | exact trivial | rfl | omega)))
              refine GoL.nil ?_
              refine GoE.then_normal ?_
              refine GoC.cond rfl (fun h150 => ?_) (fun h150 => ?_)
              · simp only [Bool.and_eq_true, Bool.or_eq_true, Bool.and_eq_false_iff, Bool.or_eq_false_iff, decide_eq_true_eq, decide_eq_false_iff_not, Bool.not_eq_true', Bool.not_eq_false'] at h150
                have hi1 : i < N := by omega
                have hcw : c < wn := by omega
                obtain ⟨x, hx⟩ := at_some (show i < o.length by omega)
                rw [show wn - c = (wn - (c + 1)) + 1 from by omega] at hTo
                refine GoC.skip ?_
                refine GoE.then_normal ?_
                refine GoC.seq ?_
                refine GoC.block ?_
                refine GoC.seq ?_
                refine GoC.region ?_
                refine GoL.y rfl (Y.move rfl) ?_
                refine GoL.y rfl (Y.move rfl) ?_
                refine GoL.y rfl (Y.ixRd i Try.underlying23 Try.sizeOf3 rfl rfl Rd.s rfl (by first | omega | (dsimp only; omega))) ?_
                refine GoL.y rfl (Y.load Try.isAgg3 rfl (Cell.rd0 Rd.s hx rfl)) ?_
                refine GoL.y rfl (Y.lss rfl rfl) ?_
                refine GoL.nil ?_
                refine GoE.then_normal ?_
                refine GoC.condD rfl (fun h157 => ?_) (fun h157 => ?_)
                · refine GoC.seq ?_
                  refine GoC.region ?_
                  refine GoL.y rfl (Y.move rfl) ?_
                  refine GoL.y rfl (Y.move rfl) ?_
                  refine GoL.y rfl (Y.move rfl) ?_
                  refine GoL.y rfl (Y.ixRd i Try.underlying23 Try.sizeOf3 rfl rfl Rd.s rfl (by first | omega | (dsimp only; omega))) ?_
                  refine GoL.does rfl (Does.storeSl0 (x' := (s : Int)) rfl rfl Try.sizeOf3 rfl hx (by decide) rfl (by repeat (first | exact Repl.here | apply Repl.there))) ?_
                  rintro _ _ ⟨rfl, rfl⟩
                  refine GoL.nil ?_
                  refine GoE.then_normal ?_
                  refine GoC.region ?_
                  refine GoL.y rfl (Y.move rfl) ?_
                  refine GoL.y rfl (Y.valW (Y.add rfl rfl (by dsimp only; omega)) (show (c : Int) + 1 = ((c + 1 : Nat) : Int) from by omega)) ?_
                  refine GoL.y rfl (Y.assign rfl) ?_
                  refine GoL.nil ?_
                  refine GoE.block_normal (GoE.then_normal ?_)
                  refine GoC.region ?_
                  refine GoL.y rfl (Y.move rfl) ?_
                  first
                    | refine GoL.y rfl (Y.inc rfl rfl (by omega)) ?_
                    | refine GoL.y rfl (Y.add rfl rfl (by omega)) ?_
                  refine GoL.y rfl (Y.assign rfl) ?_
                  refine GoL.nil ?_
                  refine GoE.againK (i + 1, c + 1, o.set i (s : Int)) (by repeat (first | exact Top.base | refine Top.cons rfl ?_)) rfl ?_ ?_ ?_ ?_
                  · show N - (i + 1) < N - i; omega
                  · exact ⟨by show i + 1 ≤ N; omega, by simp [hol], by show c + 1 ≤ 64 + (i + 1); omega, fill_hit hTo hx h157⟩
                  · exact ⟨rfl, rfl, trivial⟩
                  · exact fun w s => Ent.kept (by repeat (first | exact Ent.nil | (apply Ent.cons; · repeat (first | exact Take.here | apply Take.there)) | apply Ent.opt0 | apply Ent.opt1 | apply Ent.void | apply Ent.emp0 | apply Ent.two | (apply Ent.allV; · exact sl_void) | (apply Ent.allM; · exact fun _ => sl_void) | apply Ent.f1 rfl | apply Ent.f2 rfl | apply Ent.f3 rfl | apply Ent.f4 rfl | apply Ent.f10 rfl | apply Ent.grp | assumption | exact trivial | rfl | omega)) w s
                · refine GoC.skip ?_
                  refine GoE.block_normal (GoE.then_normal ?_)
                  refine GoC.region ?_
                  refine GoL.y rfl (Y.move rfl) ?_
                  first
                    | refine GoL.y rfl (Y.inc rfl rfl (by omega)) ?_
                    | refine GoL.y rfl (Y.add rfl rfl (by omega)) ?_
                  refine GoL.y rfl (Y.assign rfl) ?_
                  refine GoL.nil ?_
                  refine GoE.againK (i + 1, c, o) (by repeat (first | exact Top.base | refine Top.cons rfl ?_)) rfl ?_ ?_ ?_ ?_
                  · show N - (i + 1) < N - i; omega
                  · exact ⟨by show i + 1 ≤ N; omega, hol, by show c ≤ 64 + (i + 1); omega, by have := fill_pass hTo hx h157; rw [show (wn - (c + 1)) + 1 = wn - c from by omega] at this; exact this⟩
                  · exact ⟨rfl, rfl, trivial⟩
                  · exact fun w s => Ent.kept (by repeat (first | exact Ent.nil | (apply Ent.cons; · repeat (first | exact Take.here | apply Take.there)) | apply Ent.opt0 | apply Ent.opt1 | apply Ent.void | apply Ent.emp0 | apply Ent.two | (apply Ent.allV; · exact sl_void) | (apply Ent.allM; · exact fun _ => sl_void) | apply Ent.f1 rfl | apply Ent.f2 rfl | apply Ent.f3 rfl | apply Ent.f4 rfl | apply Ent.f10 rfl | apply Ent.grp | assumption | exact trivial | rfl | omega)) w s
              · simp only [Bool.and_eq_true, Bool.or_eq_true, Bool.and_eq_false_iff, Bool.or_eq_false_iff, decide_eq_true_eq, decide_eq_false_iff_not, Bool.not_eq_true', Bool.not_eq_false'] at h150
                have hd := fill_done hTo (by omega)
                refine GoC.exit ?_
                refine GoE.then_exit (GoE.then_exit (GoE.block_here (GoE.block_normal (GoE.then_normal ?_))))
                refine GoC.region ?_
                refine GoL.y rfl (Y.move rfl) ?_
                first
                  | refine GoL.y rfl (Y.inc rfl rfl (by omega)) ?_
                  | refine GoL.y rfl (Y.add rfl rfl (by omega)) ?_
                refine GoL.y rfl (Y.assign rfl) ?_
                refine GoL.nil ?_
                refine GoE.againK (s + 1) (by repeat (first | exact Top.base | refine Top.cons rfl ?_)) rfl ?_ ?_ ?_ ?_
                · omega
                · omega
                · exact ⟨rfl, trivial⟩
                · show ∀ w, Sat _ w _ → Sat _ w (seps [sl intE 1 _ (fills (want.take (s + 1)) 0 O), sl intE 1 u79 want, krnX kb bl k2, A, F])
                  rw [← hT, hd]
                  exact fun w s => Ent.kept (by repeat (first | exact Ent.nil | (apply Ent.cons; · repeat (first | exact Take.here | apply Take.there)) | apply Ent.opt0 | apply Ent.opt1 | apply Ent.void | apply Ent.emp0 | apply Ent.two | (apply Ent.allV; · exact sl_void) | (apply Ent.allM; · exact fun _ => sl_void) | apply Ent.f1 rfl | apply Ent.f2 rfl | apply Ent.f3 rfl | apply Ent.f4 rfl | apply Ent.f10 rfl | apply Ent.grp | assumption | exact trivial | rfl | omega)) w s
          · obtain rfl : ps.length = s := by omega
            rw [List.take_of_length_le (by omega), ← hown]
            refine GoC.exit ?_
            refine GoE.then_exit (GoE.then_exit (GoE.block_here (GoE.then_normal ?_)))
            refine GoC.seq ?_
            refine GoC.seq ?_
            refine GoC.region ?_
            refine GoL.y rfl (Y.assign rfl) ?_
            refine GoL.nil ?_
            refine GoE.then_normal ?_
            refine GoC.block ?_
            refine GoC.loopK (X := Nat) [6, 23, 24, 25, 164, 165, 166, 167, 168, 169, 170, 171, 172, 173, 174, 175, 176, 177, 178, 179, 180, 181, 182, 183, 184, 185, 186, 187, 188, 189, 190, 191, 192] (fun z => N - z) (fun z => z ≤ N) (fun z => [(23, some (.int .i64 (z : Int)))]) (fun z => [sl intE 1 (.slice (some ⟨b48, 0, none⟩) N N) k2.owner, sl intE 1 u79 want, krnX kb bl k2, A, F]) 0 ?_ ?_ ?_ ?_
            · exact Nat.zero_le _
            · exact ⟨rfl, trivial⟩
            · exact fun w s => Ent.kept (by repeat (first | exact Ent.nil | (apply Ent.cons; · repeat (first | exact Take.here | apply Take.there)) | apply Ent.opt0 | apply Ent.opt1 | apply Ent.void | apply Ent.emp0 | apply Ent.two | (apply Ent.allV; · exact sl_void) | (apply Ent.allM; · exact fun _ => sl_void) | apply Ent.f1 rfl | apply Ent.f2 rfl | apply Ent.f3 rfl | apply Ent.f4 rfl | apply Ent.f10 rfl | apply Ent.grp | assumption | exact trivial | rfl | omega)) w s
            rintro j hj
            refine GoC.seq ?_
            refine GoC.seq ?_
            refine GoC.region ?_
            refine GoL.y rfl (Y.move rfl) ?_
            refine GoL.y rfl (Y.move rfl) ?_
            refine GoL.y rfl (Y.lss rfl rfl) ?_
            refine GoL.nil ?_
            refine GoE.then_normal ?_
            refine GoC.condD rfl (fun h166 => ?_) (fun h166 => ?_)
            · have hj1 : j < N := by omega
              obtain ⟨x, hx⟩ := at_some (show j < k2.owner.length by omega)
              have hof := own_fine hx (own_ge hi2.ok x (List.mem_of_getElem? hx))
              refine GoC.skip ?_
              refine GoE.then_normal ?_
              refine GoC.seq ?_
              refine GoC.block ?_
              refine GoC.seq ?_
              refine GoC.region ?_
              refine GoL.y rfl (Y.move rfl) ?_
              refine GoL.y rfl (Y.move rfl) ?_
              refine GoL.does rfl (Does.callE rfl Try.call11 rfl kern_Owner (by repeat (first | exact Ent.nil | (apply Ent.cons; · repeat (first | exact Take.here | apply Take.there)) | apply Ent.opt0 | apply Ent.opt1 | apply Ent.void | apply Ent.emp0 | apply Ent.two | (apply Ent.allV; · exact sl_void) | (apply Ent.allM; · exact fun _ => sl_void) | apply Ent.f1 rfl | apply Ent.f2 rfl | apply Ent.f3 rfl | apply Ent.f4 rfl | apply Ent.f10 rfl | apply Ent.grp | assumption | exact trivial | rfl | omega))) ?_
              rintro _ _ ⟨⟨⟩, -, rfl, rfl⟩
              refine GoL.y rfl (Y.move rfl) ?_
              refine GoL.y rfl (Y.extract rfl rfl) ?_
              refine GoL.y rfl (Y.extract rfl rfl) ?_
              refine GoL.y rfl (Y.assign rfl) ?_
              refine GoL.y rfl (Y.assign rfl) ?_
              refine GoL.nil ?_
              refine GoE.then_normal ?_
              refine GoC.seq ?_
              refine GoC.region ?_
              refine GoL.y rfl (Y.move rfl) ?_
              refine GoL.y rfl (Y.move rfl) ?_
              refine GoL.y rfl (Y.move rfl) ?_
              refine GoL.y rfl (Y.ixRd j Try.underlying23 Try.sizeOf3 rfl rfl Rd.s rfl (by first | omega | (dsimp only; omega))) ?_
              refine GoL.y rfl (Y.load Try.isAgg3 rfl (Cell.rd0 Rd.s hx rfl)) ?_
              refine GoL.y rfl (Y.geq rfl rfl) ?_
              refine GoL.y rfl (Y.neqBool Try.underlying4 rfl rfl) ?_
              refine GoL.y rfl (Y.move rfl) ?_
              first
                | apply GoL.segOD 10 192 182 [182, 183, 184, 185, 186, 187, 188, 189, 190, 191, 192] rfl
                | apply GoL.segO 10 192 182 [182, 183, 184, 185, 186, 187, 188, 189, 190, 191, 192] rfl
              · intro h182
                refine GoL.yg rfl rfl rfl (Y.move rfl) ?_
                refine GoL.yg rfl rfl rfl (Y.move rfl) ?_
                first
                  | apply GoL.segAD 7 191 184 [184, 185, 186, 187, 188, 189, 190, 191] rfl
                  | apply GoL.segA 7 191 184 [184, 185, 186, 187, 188, 189, 190, 191] rfl
                · intro h184
                  refine GoL.yg rfl rfl rfl (Y.move rfl) ?_
                  refine GoL.yg rfl rfl rfl (Y.move rfl) ?_
                  refine GoL.yg rfl rfl rfl (Y.move rfl) ?_
                  refine GoL.yg rfl rfl rfl (Y.ixRd j Try.underlying23 Try.sizeOf3 rfl rfl Rd.s rfl (by first | omega | (dsimp only; omega))) ?_
                  refine GoL.yg rfl rfl rfl (Y.load Try.isAgg3 rfl (Cell.rd0 Rd.s hx rfl)) ?_
                  refine GoL.yg rfl rfl rfl (Y.neq rfl rfl) ?_
                  refine GoL.yg rfl rfl rfl (Y.pickT rfl rfl) ?_
                  refine GoL.nil ?_
                  refine GoE.seg (by repeat (first | exact Top.base | refine Top.cons rfl ?_)) rfl (by first | exact fun _ h => h | exact Ent.kept (by repeat (first | exact Ent.nil | (apply Ent.cons; · repeat (first | exact Take.here | apply Take.there)) | apply Ent.opt0 | apply Ent.opt1 | apply Ent.void | apply Ent.emp0 | apply Ent.two | (apply Ent.allV; · exact sl_void) | (apply Ent.allM; · exact fun _ => sl_void) | apply Ent.f1 rfl | apply Ent.f2 rfl | apply Ent.f3 rfl | apply Ent.f4 rfl | apply Ent.f10 rfl | apply Ent.grp | assumption | exact trivial | rfl | omega)))
                · intro h184
                  refine GoL.skip rfl rfl rfl rfl ?_
                  refine GoL.skip rfl rfl rfl rfl ?_
                  refine GoL.skip rfl rfl rfl rfl ?_
                  refine GoL.skip rfl rfl rfl rfl ?_
                  refine GoL.skip rfl rfl rfl rfl ?_
                  refine GoL.skip rfl rfl rfl rfl ?_
                  refine GoL.yg rfl rfl rfl (Y.pickF rfl rfl) ?_
                  refine GoL.nil ?_
                  refine GoE.seg (by repeat (first | exact Top.base | refine Top.cons rfl ?_)) rfl (by first | exact fun _ h => h | exact Ent.kept (by repeat (first | exact Ent.nil | (apply Ent.cons; · repeat (first | exact Take.here | apply Take.there)) | apply Ent.opt0 | apply Ent.opt1 | apply Ent.void | apply Ent.emp0 | apply Ent.two | (apply Ent.allV; · exact sl_void) | (apply Ent.allM; · exact fun _ => sl_void) | apply Ent.f1 rfl | apply Ent.f2 rfl | apply Ent.f3 rfl | apply Ent.f4 rfl | apply Ent.f10 rfl | apply Ent.grp | assumption | exact trivial | rfl | omega)))
                refine GoL.y rfl (Y.pickF rfl rfl) ?_
                refine GoL.nil ?_
                refine GoE.seg (by repeat (first | exact Top.base | refine Top.cons rfl ?_)) rfl (by first | exact fun _ h => h | exact Ent.kept (by repeat (first | exact Ent.nil | (apply Ent.cons; · repeat (first | exact Take.here | apply Take.there)) | apply Ent.opt0 | apply Ent.opt1 | apply Ent.void | apply Ent.emp0 | apply Ent.two | (apply Ent.allV; · exact sl_void) | (apply Ent.allM; · exact fun _ => sl_void) | apply Ent.f1 rfl | apply Ent.f2 rfl | apply Ent.f3 rfl | apply Ent.f4 rfl | apply Ent.f10 rfl | apply Ent.grp | assumption | exact trivial | rfl | omega)))
              · intro h182
                refine GoL.skip rfl rfl rfl rfl ?_
                refine GoL.skip rfl rfl rfl rfl ?_
                refine GoL.skip rfl rfl rfl rfl ?_
                refine GoL.skip rfl rfl rfl rfl ?_
                refine GoL.skip rfl rfl rfl rfl ?_
                refine GoL.skip rfl rfl rfl rfl ?_
                refine GoL.skip rfl rfl rfl rfl ?_
                refine GoL.skip rfl rfl rfl rfl ?_
                refine GoL.skip rfl rfl rfl rfl ?_
                refine GoL.y rfl (Y.pickT rfl rfl) ?_
                refine GoL.nil ?_
                refine GoE.seg (by repeat (first | exact Top.base | refine Top.cons rfl ?_)) rfl (by first | exact fun _ h => h | exact Ent.kept (by repeat (first | exact Ent.nil | (apply Ent.cons; · repeat (first | exact Take.here | apply Take.there)) | apply Ent.opt0 | apply Ent.opt1 | apply Ent.void | apply Ent.emp0 | apply Ent.two | (apply Ent.allV; · exact sl_void) | (apply Ent.allM; · exact fun _ => sl_void) | apply Ent.f1 rfl | apply Ent.f2 rfl | apply Ent.f3 rfl | apply Ent.f4 rfl | apply Ent.f10 rfl | apply Ent.grp | assumption | exact trivial | rfl | omega)))
              refine GoL.nil ?_
              refine GoE.then_normal ?_
              refine GoC.cond rfl (fun h192 => ?_) (fun h192 => ?_)
              · rw [hof.1, hof.2] at h192; cases h192
              · refine GoC.skip ?_
                refine GoE.block_normal (GoE.then_normal ?_)
                refine GoC.region ?_
                refine GoL.y rfl (Y.move rfl) ?_
                first
                  | refine GoL.y rfl (Y.inc rfl rfl (by omega)) ?_
                  | refine GoL.y rfl (Y.add rfl rfl (by omega)) ?_
                refine GoL.y rfl (Y.assign rfl) ?_
                refine GoL.nil ?_
                refine GoE.againK (j + 1) (by repeat (first | exact Top.base | refine Top.cons rfl ?_)) rfl ?_ ?_ ?_ ?_
                · omega
                · omega
                · exact ⟨rfl, trivial⟩
                · exact fun w s => Ent.kept (by repeat (first | exact Ent.nil | (apply Ent.cons; · repeat (first | exact Take.here | apply Take.there)) | apply Ent.opt0 | apply Ent.opt1 | apply Ent.void | apply Ent.emp0 | apply Ent.two | (apply Ent.allV; · exact sl_void) | (apply Ent.allM; · exact fun _ => sl_void) | apply Ent.f1 rfl | apply Ent.f2 rfl | apply Ent.f3 rfl | apply Ent.f4 rfl | apply Ent.f10 rfl | apply Ent.grp | assumption | exact trivial | rfl | omega)) w s
            · refine GoC.exit ?_
              refine GoE.then_exit (GoE.then_exit (GoE.block_here (GoE.then_normal ?_)))
              refine GoC.seq ?_
              refine GoC.region ?_
              refine GoL.does rfl (Does.callE rfl Try.call7 rfl law18_awake (by repeat (first | exact Ent.nil | (apply Ent.cons; · repeat (first | exact Take.here | apply Take.there)) | apply Ent.opt0 | apply Ent.opt1 | apply Ent.void | apply Ent.emp0 | apply Ent.two | (apply Ent.allV; · exact sl_void) | (apply Ent.allM; · exact fun _ => sl_void) | apply Ent.f1 rfl | apply Ent.f2 rfl | apply Ent.f3 rfl | apply Ent.f4 rfl | apply Ent.f10 rfl | apply Ent.grp | assumption | exact trivial | rfl | omega))) ?_
              rintro _ _ ⟨⟨⟩, -, rfl, rfl⟩
              refine GoL.y rfl (Y.assign rfl) ?_
              refine GoL.nil ?_
              refine GoE.then_normal ?_
              refine GoC.ret ?_
              refine GoE.ret1 rfl rfl fun w s => ⟨(), ?_, trivial, finE (by repeat (first | exact Ent.nil | (apply Ent.cons; · repeat (first | exact Take.here | apply Take.there)) | apply Ent.opt0 | apply Ent.opt1 | apply Ent.void | apply Ent.emp0 | apply Ent.two | (apply Ent.allV; · exact sl_void) | (apply Ent.allM; · exact fun _ => sl_void) | apply Ent.f1 rfl | apply Ent.f2 rfl | apply Ent.f3 rfl | apply Ent.f4 rfl | apply Ent.f10 rfl | apply Ent.grp | assumption | exact trivial | rfl | omega)) s⟩
              rfl

end Go.SLYtkflpgknieoknaa
