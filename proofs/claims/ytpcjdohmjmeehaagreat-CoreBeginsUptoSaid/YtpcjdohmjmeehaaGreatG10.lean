/- Walks of functions, and what they compute. Conditions: none, this text proves no statement. -/
import Derived.Test.YtpcjdohmjmeehaaGreatG05
import Derived.Test.YtpcjdohmjmeehaaGreatProg
import Derived.Test.YtpcjdohmjmeehaaGreatG09
import Derived.KernelRfl
namespace Go.SLYtpcjdohmjmeehaaGreat
open Go Go.RowKit Go.Proofs Go.Proofs.Tryz

set_option maxRecDepth 20000 in
theorem law10_Begins {W : World} {A : HProp} {v : PrgV} {u : Value} {acts : List Wha} (hp : PrgRd W [A] v) (hl : v.fs.length ≤ 1000000000 ∧ v.sems.length ≤ 1000000000 ∧ v.pipes.length ≤ 1000000000) (hw : ∀ f ∈ v.p.funcs, ∀ i ∈ f, W64 i.n) (hr : Rd W [A] whaE 3 u acts) (hal : acts.length ≤ 1000000000) : Fn Tryz.prog W 3 [.agg (prgE v).toArray, u] [A] Unit (fun _ => .bool true) (fun _ => True) (fun _ => [A]) := by
  refine Fn.intro (N := 146) func3 rfl ntmps3 rfl fun F => ?_
  haveI hRI : ∀ (H : List HProp) [HasH H A], ReadsC W H u whaE 3 acts := fun H h => ⟨hr.at h.has⟩
  show GoC _ _ _ _ _ _ [A, F]
  refine .s (.r ?_)
  refine .does rfl (Does.box rfl rfl rfl) ?_
  rintro _ _ ⟨b2, rfl, rfl⟩
  refine .mem (H' := [arr b2 0 (prgE v), A, F]) (fun w s => s) ?_
  refine .p (.a rfl) (.n (.t (.s (.r (.p (.lA rfl) ?_)))))
  refine .does rfl (Does.callE rfl call15 rfl (core_New hp hl) .auto) ?_
  rintro _ _ ⟨o, ho, rfl, rfl⟩
  refine .p (.m rfl) (.p (.extract rfl rfl) (.p (.extract rfl rfl) (.p (.a rfl) (.p (.a rfl) (.n (.t (.s (.s (.r (.p (.m rfl) (.p (.neq rfl rfl) (.n (.t (.condD rfl (fun h17 => ?_) (fun h17 => ?_)))))))))))))))
  · refine .s (.r ?_)
    refine .does rfl (Does.callE rfl call16 rfl law10_awake .auto) ?_
    rintro _ _ ⟨⟨⟩, -, rfl, rfl⟩
    refine .p (.a rfl) (.n (.t (.e (.tr (.ret1 rfl rfl fun w s => ⟨(), ?_, trivial, finE .auto s⟩)))))
    rfl
  · have hc : checkI v.p = 0 := Decidable.not_not.mp h17
    obtain ⟨ka, rfl⟩ := Option.isSome_iff_exists.1 (ho.trans (decide_eq_true hc))
    refine .fr (A := optH (fun b => spcH b (Spc.new v.p)) (some ka)) (Bs := [spcH ka (Spc.new v.p)]) .auto opt_some ?_
    have hok : Okr 1 (Spc.new v.p) := Okr.new ⟨hc, hw⟩
    have hrn : (Spc.new v.p).recs = [] := by unfold Spc.new; rw [begin_recs]
    refine .v (.t (.s (.r ?_)))
    refine .does rfl (Does.bsl 45 rfl rfl (by kernel_rfl)) ?_
    rintro _ _ ⟨b20, rfl, rfl⟩
    refine .to (A := sl recE 6 (.slice (some ⟨b20, 0, none⟩) 0 0) ([] : List Rec)) (Bs := []) .nil (fun h e => .inl ⟨⟨_, rfl⟩, rfl, e⟩) ?_
    refine .p (.a rfl) (.n (.t (.s (.s (.r (.p (.a rfl) (.n (.t (.b ?_)))))))))
    refine .loopK (X := Nat × Spc × Value) [4, 7, 8, 9, 21, 22, 23, 24, 25, 26, 27, 28, 29, 30, 31, 32, 33, 34, 35, 36, 37, 38, 39, 40, 41, 42, 43, 44, 45, 46, 47, 48, 49, 50, 51, 52, 53, 54, 55, 56, 57, 58, 59, 60, 61, 62, 63, 64, 65, 66, 67, 68, 69, 70, 71, 72, 73, 74, 75, 76, 77] (fun z => acts.length - z.1) (fun z => z.1 ≤ acts.length ∧ z.1 ≤ 100 ∧ Okr (z.1 + 1) z.2.1) (fun z => [(8, some (.int .i64 (z.1 : Int))), (7, some z.2.2)]) (fun z => [spcH ka z.2.1, sl recE 6 z.2.2 z.2.1.recs, A, F]) (0, Spc.new v.p, .slice (some ⟨b20, 0, none⟩) 0 0) ?_ ?_ ?_ ?_
    · exact ⟨Nat.zero_le _, Nat.zero_le _, hok⟩
    · exact ⟨rfl, rfl, trivial⟩
    · simp only [hrn]; exact fun w s => Ent.kept .auto w s
    rintro ⟨k, s, ul⟩ ⟨hk, hk2, hO⟩
    simp only at hk hk2 hO
    refine .s (.s (.r (.p (.m rfl) (.p (.m rfl) (.p (.len rfl) (.p (.lss rfl rfl) (.p (.m rfl) ?_)))))))
    apply GoL.segAD 3 28 25 [25, 26, 27, 28] rfl
    · intro h25
      refine .g (.m rfl) (.g (.lss rfl rfl) (.p (.t rfl rfl) (.n ?_)))
      refine .seg .auto rfl (by first | exact fun _ h => h | exact Ent.kept .auto)
    · intro h25
      refine .u (.u (.p (.u rfl rfl) (.n ?_)))
      refine .seg .auto rfl (by first | exact fun _ h => h | exact Ent.kept .auto)
    refine .n (.t (.cond rfl (fun h28 => ?_) (fun h28 => ?_)))
    · simp only [Bool.and_eq_true, Bool.or_eq_true, Bool.and_eq_false_iff, Bool.or_eq_false_iff, decide_eq_true_eq, decide_eq_false_iff_not, Bool.not_eq_true', Bool.not_eq_false'] at h28
      refine .v (.t (.s (.b ?_)))
      refine .cutK (X := Spc) [31, 32, 33, 34, 35, 36, 37, 38, 39, 40, 41, 42, 43, 44, 45, 46, 47, 48, 49, 50, 51, 52, 53, 54, 55, 56, 57, 58, 59, 60] (fun s2 => s.recs <+: s2.recs ∧ Okr (k + 2) s2) (fun _ => []) (fun s2 => [sl recE 6 ul s.recs, spcH ka s2, A, F]) ?_ ?_
      · refine .s (.r ?_)
        obtain ⟨x, hx⟩ := at_some (show k < acts.length by omega)
        refine .p (.m rfl) (.p (.m rfl) ?_)
        refine .p (.ix k rfl rfl rfl (by omega)) ?_
        refine .p (.z rfl) ?_
        refine .p (.lr rfl hx) ?_
        refine .n (.t (.b (.s (.r (.p (.eql rfl rfl) (.p (.a rfl) (.n (.t (.condD rfl (fun h38 => ?_) (fun h38 => ?_))))))))))
        · refine .draw [] [1, 1, 1, 1, 1, 1, 1, 1, 1, 1, 1, 3] rfl (by kernel_rfl) ?_
          refine .p (.m rfl) (.p (.m rfl) (.p (.m rfl) ?_))
          refine .p (.ix k rfl rfl rfl (by omega)) ?_
          refine .p (.o rfl) ?_
          refine .p (.ld rfl (Cell.rd (c := 1) Rd.s hx rfl)) ?_
          refine .p (.m rfl) (.p (.m rfl) ?_)
          refine .p (.ix k rfl rfl rfl (by omega)) ?_
          refine .p (.o rfl) ?_
          refine .p (.ld rfl (Cell.rd (c := 2) Rd.s hx rfl)) ?_
          refine .d3 rfl (Does.callE rfl call17 rfl (core_Run (s := s) (hO.spc (by omega))) .auto) ?_
          rintro _ _ ⟨u51, -, rfl, rfl⟩
          refine .n (.b ?_)
          refine .midK ((s.run x.slot x.choice).2.2) .auto ?_ ?_ ?_
          · exact ⟨hO.runP (by omega) _ _, hO.run (by omega) _ _⟩
          · trivial
          · exact fun w s => Ent.kept .auto w s
        · refine .s (.r (.p (.eql rfl rfl) (.p (.a rfl) (.n (.t (.condD rfl (fun h52 => ?_) (fun h52 => ?_)))))))
          · refine .r (.p (.m rfl) (.p (.m rfl) (.p (.m rfl) ?_)))
            refine .p (.ix k rfl rfl rfl (by omega)) ?_
            refine .p (.o rfl) ?_
            refine .p (.ld rfl (Cell.rd (c := 2) Rd.s hx rfl)) ?_
            refine .does rfl (Does.callE rfl call18 rfl (core_Done (s := s) (hO.spc (by omega))) .auto) ?_
            rintro _ _ ⟨u60, -, rfl, rfl⟩
            refine .n (.b ?_)
            refine .midK ((s.done x.choice).2.2) .auto ?_ ?_ ?_
            · exact ⟨hO.doneP _, hO.done _⟩
            · trivial
            · exact fun w s => Ent.kept .auto w s
          · refine .r (.p (.m rfl) ?_)
            refine .does rfl (Does.callE rfl call19 rfl (core_Tick (s := s) (hO.spc (by omega))) .auto) ?_
            rintro _ _ ⟨u37, -, rfl, rfl⟩
            refine .n (.b ?_)
            refine .midK (s.tick.2) .auto ?_ ?_ ?_
            · exact ⟨hO.tickP, hO.tick⟩
            · trivial
            · exact fun w s => Ent.kept .auto w s
      · rintro s2 ⟨hpx, hO2⟩
        refine .s (.r (.p (.m rfl) ?_))
        refine .does rfl (Does.callE rfl call20 rfl (core_Records (s := s2) (Nat.le_trans (hO2.rec (by omega)) (by decide))) .auto) ?_
        rintro _ _ ⟨u62, -, rfl, rfl⟩
        refine .p (.a rfl) (.n (.t (.s (.s (.r (.p (.m rfl) (.p (.len rfl) (.p (.m rfl) (.p (.len rfl) (.p (.lss rfl rfl) (.p (.m rfl) ?_)))))))))))
        apply GoL.segOD 8 76 68 [68, 69, 70, 71, 72, 73, 74, 75, 76] rfl
        · intro h68
          refine .g (.m rfl) (.g (.m rfl) (.g (.len rfl) ?_))
          have hpl := hpx.length_le
          refine .g (.sliceTo s.recs.length underlying32 sizeOf45 rfl rfl Rd.s rfl hpl) ?_
          refine .g (.m rfl) ?_
          refine .dg rfl rfl rfl (Does.callE rfl call21 rfl (ref_Same (A := seps [sl recE 6 u62 s2.recs, sl recE 6 ul s.recs]) (xs := s2.recs.take s.recs.length) (Rd.grp (Rd.cutTo hpl (Rd.sl .here))) (Rd.grp (Rd.sl (.there .here))) (by rw [List.length_take]; have := hO.rec (by omega); omega)) .auto) ?_
          rintro _ _ ⟨⟨⟩, -, rfl, rfl⟩
          refine .ungrp .auto ?_
          refine .g (.notD rfl) (.p (.u rfl rfl) (.n ?_))
          refine .seg .auto rfl (by first | exact fun _ h => h | exact Ent.kept .auto)
        · intro h68
          refine .u (.u (.u (.u (.u (.u (.u (.p (.t rfl rfl) (.n ?_))))))))
          refine .seg .auto rfl (by first | exact fun _ h => h | exact Ent.kept .auto)
        refine .n (.t (.cond rfl (fun h76 => ?_) (fun h76 => ?_)))
        · simp only [Bool.or_eq_true, decide_eq_true_eq, Bool.not_eq_true', decide_eq_false_iff_not] at h76
          rcases h76 with h | h
          · have := hpx.length_le; omega
          · exact absurd (List.prefix_iff_eq_take.1 hpx).symm h
        · refine .v (.t (.r (.p (.m rfl) (.p (.a rfl) (.n (.b (.t (.r (.p (.m rfl) ?_)))))))))
          refine .p (.inc rfl rfl (by omega)) ?_
          refine .p (.a rfl) (.n ?_)
          refine .againK (k + 1, s2, u62) .auto rfl ?_ ?_ ?_ ?_
          · show acts.length - (k + 1) < acts.length - k; omega
          · exact ⟨by show k + 1 ≤ _; omega, by show k + 1 ≤ 100; omega, hO2⟩
          · exact ⟨rfl, rfl, trivial⟩
          · exact fun w s => Ent.kept .auto w s
    · simp only [Bool.and_eq_true, Bool.or_eq_true, Bool.and_eq_false_iff, Bool.or_eq_false_iff, decide_eq_true_eq, decide_eq_false_iff_not, Bool.not_eq_true', Bool.not_eq_false'] at h28
      have hrb := hO.rec (by omega)
      refine .x (.tx (.tx (.bh (.t (.s (.s (.r (.p (.a rfl) (.n (.t (.b ?_)))))))))))
      refine .loopK (X := Nat) [4, 10, 11, 78, 79, 80, 81, 82, 83, 84, 85, 86, 87, 88, 89, 90, 91, 92, 93, 94, 95, 96, 97, 98, 99, 100, 101, 102, 103, 104, 105, 106, 107, 108, 109, 110, 111, 112, 113, 114, 115, 116, 117, 118, 119, 120, 121, 122, 123, 124, 125, 126, 127, 128, 129, 130, 131, 132, 133, 134, 135, 136, 137, 138, 139, 140, 141, 142, 143, 144] (fun i => s.recs.length - i) (fun i => i ≤ s.recs.length) (fun i => [(10, some (.int .i64 (i : Int)))]) (fun i => [sl recE 6 ul s.recs, A, F]) 0 ?_ ?_ ?_ ?_
      · exact Nat.zero_le _
      · exact ⟨rfl, trivial⟩
      · exact fun w s => Ent.kept .auto w s
      rintro i hi
      refine .s (.s (.r (.p (.m rfl) (.p (.m rfl) (.p (.len rfl) (.p (.lss rfl rfl) (.n (.t (.condD rfl (fun h81 => ?_) (fun h81 => ?_))))))))))
      · refine .v (.t (.s (.b (.s (.s (.r ?_))))))
        obtain ⟨r, hri⟩ := at_some (show i < s.recs.length by omega)
        refine .p (.m rfl) (.p (.m rfl) ?_)
        refine .p (.ix i rfl rfl rfl (by omega)) ?_
        refine .p (.o rfl) ?_
        refine .p (.ld rfl (Cell.rd (c := 5) Rd.s hri rfl)) ?_
        refine .n (.t (.cond rfl (fun h88 => ?_) (fun h88 => ?_)))
        · refine .x (.tx (.bh (.t (.r (.p (.m rfl) ?_)))))
          refine .p (.inc rfl rfl (by omega)) ?_
          refine .p (.a rfl) (.n ?_)
          refine .againK (i + 1) .auto rfl ?_ ?_ ?_ ?_
          · omega
          · show i + 1 ≤ _; omega
          · exact ⟨rfl, trivial⟩
          · exact fun w s => Ent.kept .auto w s
        · refine .v (.t (.s (.r (.p (.m rfl) ?_))))
          refine .p (.inc rfl rfl (by omega)) ?_
          refine .p (.a rfl) (.n (.t (.b ?_)))
          refine .loopK (X := Nat) [4, 11, 91, 92, 93, 94, 95, 96, 97, 98, 99, 100, 101, 102, 103, 104, 105, 106, 107, 108, 109, 110, 111, 112, 113, 114, 115, 116, 117, 118, 119, 120, 121, 122, 123, 124, 125, 126, 127, 128, 129, 130, 131, 132, 133, 134, 135, 136, 137, 138, 139, 140, 141, 142, 143, 144] (fun j => s.recs.length + 1 - j) (fun j => (i < j ∧ j ≤ s.recs.length ∧ ∀ j2 z, i < j2 → j2 < j → s.recs[j2]? = some z → z.thread ≠ r.thread) ∨ j = s.recs.length + 1) (fun j => [(11, some (.int .i64 (j : Int)))]) (fun j => [sl recE 6 ul s.recs, A, F]) (i + 1) ?_ ?_ ?_ ?_
          · exact .inl ⟨by omega, by omega, fun j2 z a b => by omega⟩
          · exact ⟨rfl, trivial⟩
          · exact fun w s => Ent.kept .auto w s
          rintro j hj
          refine .s (.s (.r (.p (.m rfl) (.p (.m rfl) (.p (.len rfl) (.p (.lss rfl rfl) (.n (.t (.condD rfl (fun h94 => ?_) (fun h94 => ?_))))))))))
          · obtain ⟨hj1, hj2, hj3⟩ := hj.resolve_right (by omega)
            refine .v (.t (.s (.b (.s ?_))))
            refine .draw [] [1, 1, 1, 1, 1, 1, 1, 1, 1, 1, 1] rfl (by kernel_rfl) ?_
            obtain ⟨q, hqi⟩ := at_some (show j < s.recs.length by omega)
            refine .p (.m rfl) (.p (.m rfl) ?_)
            refine .p (.ix j rfl rfl rfl (by omega)) ?_
            refine .p (.z rfl) ?_
            refine .p (.lr rfl hqi) ?_
            refine .p (.m rfl) (.p (.m rfl) ?_)
            refine .p (.ix i rfl rfl rfl (by omega)) ?_
            refine .p (.z rfl) ?_
            refine .p (.lr rfl hri) ?_
            refine .p (.eql rfl rfl) (.n (.t (.condD rfl (fun h107 => ?_) (fun h107 => ?_))))
            · have hpa := pairs_at hO.pairs hri h88 hqi hj1 h107 hj3
              refine .s (.s ?_)
              refine .draw [] [1, 1, 1, 1, 1, 1, 1, 1, 1, 1, 1, 1, 1, 1, 1, 1, 1, 1, 1, 1, 1, 1, 1, 1, 1, 1, 1, 1, 1, 1, 1, 1, 1, 1, 1] rfl (by kernel_rfl) ?_
              refine .p (.m rfl) (.p (.m rfl) ?_)
              refine .p (.ix j rfl rfl rfl (by omega)) ?_
              refine .p (.o rfl) ?_
              refine .p (.ld rfl (Cell.rd (c := 5) Rd.s hqi rfl)) ?_
              refine .p (.not rfl) (.p (.m rfl) ?_)
              apply GoK.segO 12 126 114 [114, 115, 116, 117, 118, 119, 120, 121, 122, 123, 124, 125, 126] rfl
              · intro h114
                refine .g (.m rfl) (.g (.m rfl) ?_)
                refine .g (.ix j rfl rfl rfl (by omega)) ?_
                refine .g (.o rfl) ?_
                refine .g (.ld rfl (Cell.rd (c := 1) Rd.s hqi rfl)) ?_
                refine .g (.m rfl) (.g (.m rfl) ?_)
                refine .g (.ix i rfl rfl rfl (by omega)) ?_
                refine .g (.o rfl) ?_
                refine .g (.ld rfl (Cell.rd (c := 1) Rd.s hri rfl)) ?_
                refine .g (.neq rfl rfl) (.p (.u rfl rfl) (.n ?_))
                refine .seg .auto rfl (by first | exact fun _ h => h | exact Ent.kept .auto)
              · intro h114
                refine .w (.w (.w (.w (.w (.w (.w (.w (.w (.w (.w (.p (.t rfl rfl) (.n ?_))))))))))))
                refine .seg .auto rfl (by first | exact fun _ h => h | exact Ent.kept .auto)
              refine .p (.m rfl) ?_
              apply GoK.segO 7 134 127 [127, 128, 129, 130, 131, 132, 133, 134] rfl
              · intro h127
                refine .g (.m rfl) (.g (.m rfl) ?_)
                refine .g (.ix j rfl rfl rfl (by omega)) ?_
                refine .g (.o rfl) ?_
                refine .g (.ld rfl (Cell.rd (c := 2) Rd.s hqi rfl)) ?_
                refine .g (.neq rfl rfl) (.p (.u rfl rfl) (.n ?_))
                refine .seg .auto rfl (by first | exact fun _ h => h | exact Ent.kept .auto)
              · intro h127
                refine .w (.w (.w (.w (.w (.w (.p (.t rfl rfl) (.n ?_)))))))
                refine .seg .auto rfl (by first | exact fun _ h => h | exact Ent.kept .auto)
              refine .p (.m rfl) ?_
              apply GoK.segO 7 142 135 [135, 136, 137, 138, 139, 140, 141, 142] rfl
              · intro h135
                refine .g (.m rfl) (.g (.m rfl) ?_)
                refine .g (.ix j rfl rfl rfl (by omega)) ?_
                refine .g (.o rfl) ?_
                refine .g (.ld rfl (Cell.rd (c := 4) Rd.s hqi rfl)) ?_
                refine .g (.neq rfl rfl) (.p (.u rfl rfl) (.n ?_))
                refine .seg .auto rfl (by first | exact fun _ h => h | exact Ent.kept .auto)
              · intro h135
                refine .w (.w (.w (.w (.w (.w (.p (.t rfl rfl) (.n ?_)))))))
                refine .seg .auto rfl (by first | exact fun _ h => h | exact Ent.kept .auto)
              refine .n (.t (.cond rfl (fun h142 => ?_) (fun h142 => ?_)))
              · simp only [Bool.and_eq_true, Bool.or_eq_true, Bool.and_eq_false_iff, Bool.or_eq_false_iff, decide_eq_true_eq, decide_eq_false_iff_not, Bool.not_eq_true', Bool.not_eq_false'] at h142
                rcases h142 with ((h | h) | h) | h
                · rw [hpa.1] at h; cases h
                · exact absurd hpa.2.1 h
                · exact absurd hpa.2.2.1 h
                · exact absurd hpa.2.2.2 h
              · simp only [Bool.and_eq_true, Bool.or_eq_true, Bool.and_eq_false_iff, Bool.or_eq_false_iff, decide_eq_true_eq, decide_eq_false_iff_not, Bool.not_eq_true', Bool.not_eq_false'] at h142
                refine .v (.t (.r (.p (.m rfl) (.p (.len rfl) (.p (.a rfl) (.n (.b (.t (.r (.p (.m rfl) ?_))))))))))
                refine .p (.inc rfl rfl (by omega)) ?_
                refine .p (.a rfl) (.n ?_)
                refine .againK (s.recs.length + 1) .auto rfl ?_ ?_ ?_ ?_
                · omega
                · exact .inr rfl
                · exact ⟨rfl, trivial⟩
                · exact fun w s => Ent.kept .auto w s
            · refine .v (.b (.t (.r (.p (.m rfl) ?_))))
              refine .p (.inc rfl rfl (by omega)) ?_
              refine .p (.a rfl) (.n ?_)
              refine .againK (j + 1) .auto rfl ?_ ?_ ?_ ?_
              · omega
              · exact .inl ⟨by omega, by omega, fun j2 z a b hz => (by
                  rcases Nat.lt_or_ge j2 j with h | h
                  · exact hj3 j2 z a h hz
                  · obtain rfl : j2 = j := by omega
                    rw [hqi] at hz; cases hz; exact h107)⟩
              · exact ⟨rfl, trivial⟩
              · exact fun w s => Ent.kept .auto w s
          · refine .x (.tx (.tx (.bh (.b (.t (.r (.p (.m rfl) ?_)))))))
            refine .p (.inc rfl rfl (by omega)) ?_
            refine .p (.a rfl) (.n ?_)
            refine .againK (i + 1) .auto rfl ?_ ?_ ?_ ?_
            · omega
            · show i + 1 ≤ _; omega
            · exact ⟨rfl, trivial⟩
            · exact fun w s => Ent.kept .auto w s
      · refine .x (.tx (.tx (.bh (.t (.s (.r ?_))))))
        refine .does rfl (Does.callE rfl call16 rfl law10_awake .auto) ?_
        rintro _ _ ⟨⟨⟩, -, rfl, rfl⟩
        refine .p (.a rfl) (.n (.t (.e (.ret1 rfl rfl fun w s => ⟨(), ?_, trivial, finE .auto s⟩))))
        rfl

end Go.SLYtpcjdohmjmeehaaGreat
