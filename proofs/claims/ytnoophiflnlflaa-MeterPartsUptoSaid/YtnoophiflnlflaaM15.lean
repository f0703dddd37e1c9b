/- Walks of functions, and what they compute. Conditions: none, this text proves no statement. -/
import Derived.Test.YtnoophiflnlflaaM14
import Derived.Test.YtnoophiflnlflaaM8
import Derived.Test.YtnoophiflnlflaaSLk
import Derived.KernelRfl
namespace Go.SLYtnoophiflnlflaa
open Go Go.RowKit Go.Proofs Go.Proofs.YtnoophiflnlflaaX

theorem MeterParts_fn {W : World} {v : Value} {sp cu : Int} {acts0 : List ActV} (hr0 : RdAt W actE 4 v acts0) (hcu : 0 ≤ cu ∧ cu ≤ 255) (hlen0 : acts0.length ≤ 1048576) : Fn Try.prog W 5 [v, .int .u8 cu, .int .i64 sp] [] Unit (fun _ => .bool true) (fun _ => True) (fun _ => []) := by
  refine Fn.intro (N := 124) Try.func5 rfl Try.ntmps5 rfl fun F => ?_
  haveI hRI0 : ∀ (H : List HProp), ReadsC W H v actE 4 acts0 := fun H => ⟨Rd.old hr0⟩
  show GoC _ _ _ _ _ _ [F]
  refine GoC.seq ?_
  refine GoC.region ?_
  refine GoL.y rfl (Y.assign rfl) ?_
  refine GoL.nil ?_
  refine GoE.then_normal ?_
  refine GoC.cutK (X := Value × List ActV) [0, 17, 18, 19, 20, 21] (fun p => RdAt W actE 4 p.1 p.2 ∧ p.2.length ≤ 300) (fun p => [(0, some p.1)]) (fun _ => [F]) ?_ ?_
  · refine GoC.seq ?_
    refine GoC.region ?_
    refine GoL.y rfl (Y.move rfl) ?_
    first
      | refine GoL.y rfl (Y.lenRd Try.underlying30 rfl Rd.s) ?_
      | refine GoL.y rfl (Y.lenRd Try.underlying30 rfl ‹_›) ?_
      | refine GoL.y rfl (Y.lenSlice Try.underlying30 rfl) ?_
    refine GoL.y rfl (Y.gtr rfl rfl) ?_
    refine GoL.nil ?_
    refine GoE.then_normal ?_
    refine GoC.condD rfl (fun h19 => ?_) (fun h19 => ?_)
    · refine GoC.region ?_
      refine GoL.y rfl (Y.move rfl) ?_
      refine GoL.y rfl (Y.sliceTo 300 Try.underlying30 Try.sizeOf34 rfl rfl Rd.s rfl (by omega)) ?_
      refine GoL.y rfl (Y.assign rfl) ?_
      refine GoL.nil ?_
      refine GoE.midK (cut 4 0 300 v, acts0.take 300) (by repeat (first | exact Top.base | refine Top.cons rfl ?_)) ?_ ?_ ?_
      · have := hr0.cut (lo := 0) (hi := 300) (by omega) (by omega)
        rw [List.drop_zero] at this
        exact ⟨this, by simp; omega⟩
      · exact ⟨rfl, trivial⟩
      · exact fun w s => fins (by repeat (first | exact Takes.nil | exact Take.here | apply Take.there | apply Takes.cons)) s
    · refine GoC.skip ?_
      refine GoE.midK (v, acts0) (by repeat (first | exact Top.base | refine Top.cons rfl ?_)) ?_ ?_ ?_
      · exact ⟨hr0, by show acts0.length ≤ 300; omega⟩
      · exact ⟨rfl, trivial⟩
      · exact fun w s => fins (by repeat (first | exact Takes.nil | exact Take.here | apply Take.there | apply Takes.cons)) s
  · rintro ⟨v, acts⟩ ⟨hr, hlen⟩
    simp only at hr hlen
    haveI hRI : ∀ (H : List HProp), ReadsC W H v actE 4 acts := fun H => ⟨Rd.old hr⟩
    refine GoC.seq ?_
    refine GoC.region ?_
    refine GoL.y rfl (Y.move rfl) ?_
    first
      | refine GoL.y rfl (Y.convI Try.underlying5 Try.underlying3 rfl (by omega)) ?_
      | refine GoL.y rfl (Y.conv Try.underlying5 Try.underlying3 rfl) ?_
    refine GoL.y rfl (Y.move rfl) ?_
    first
      | refine GoL.y rfl (Y.lenRd Try.underlying30 rfl Rd.s) ?_
      | refine GoL.y rfl (Y.lenRd Try.underlying30 rfl ‹_›) ?_
      | refine GoL.y rfl (Y.lenSlice Try.underlying30 rfl) ?_
    first
      | refine GoL.y rfl (Y.inc rfl rfl (by omega)) ?_
      | refine GoL.y rfl (Y.add rfl rfl (by omega)) ?_
    refine GoL.y rfl (Y.rem rfl rfl (by omega)) ?_
    refine GoL.y rfl (Y.assign rfl) ?_
    refine GoL.nil ?_
    refine GoE.then_normal ?_
    refine GoC.seq ?_
    refine GoC.drawF [] [0, 0, 0, 0, 2, 0, 0, 0, 0, 2, 0, 0, 2, 4, 4, 4, 3, 3, 3] [0, 1, 2, 3, 4, 5, 6, 7, 8, 9, 10, 11, 12, 13, 14, 15, 16, 17, 18] rfl (by kernel_rfl) ?_
    obtain ⟨kk, hkk, hkl⟩ : ∃ kk : Nat, cu.tmod ((acts.length + 1 : Nat) : Int) = (kk : Int) ∧ kk ≤ acts.length := by
      have h1 := Int.tmod_nonneg ((acts.length + 1 : Nat) : Int) hcu.1
      have h2 := Int.tmod_lt_of_pos cu (b := ((acts.length + 1 : Nat) : Int)) (by omega)
      exact ⟨(cu.tmod ((acts.length + 1 : Nat) : Int)).toNat, by omega, by omega⟩
    rw [hkk]
    have hra := hr.cut (lo := 0) (hi := kk) (Nat.zero_le _) hkl
    have hrb := hr.cut (lo := kk) (hi := acts.length) hkl (Nat.le_refl _)
    rw [List.drop_zero] at hra
    rw [List.take_length] at hrb
    refine GoF.q rfl rfl rfl (Kept.ok (by repeat (first | exact Kept.nil | exact Take.here | apply Take.there | apply Kept.take))) (Y.move rfl) ?_
    refine GoF.q rfl rfl rfl (Kept.ok (by repeat (first | exact Kept.nil | exact Take.here | apply Take.there | apply Kept.take))) (Y.move rfl) ?_
    refine GoF.q rfl rfl rfl (Kept.ok (by repeat (first | exact Kept.nil | exact Take.here | apply Take.there | apply Kept.take))) (Y.sliceTo kk Try.underlying30 Try.sizeOf34 rfl rfl Rd.s rfl hkl) ?_
    refine GoF.q rfl rfl rfl (Kept.ok (by repeat (first | exact Kept.nil | exact Take.here | apply Take.there | apply Kept.take))) (Y.move rfl) ?_
    refine GoF.call rfl rfl rfl (Kept.ok (by repeat (first | exact Kept.nil | exact Take.here | apply Take.there | apply Kept.take))) Try.call10 rfl (Spread_fn (acts := acts.take kk) (sp := sp) (pre := []) (Rd.old hra) (by simp; omega)) (by repeat (first | exact Takes.nil | exact Take.here | apply Take.there | apply Takes.cons)) (fun _ => (Kept.ok (by repeat (first | exact Kept.nil | exact Take.here | apply Take.there | apply Kept.take)))) ?_
    rintro ⟨⟩ -
    refine GoF.q rfl rfl rfl (Kept.ok (by repeat (first | exact Kept.nil | exact Take.here | apply Take.there | apply Kept.take))) (Y.move rfl) ?_
    refine GoF.q rfl rfl rfl (Kept.ok (by repeat (first | exact Kept.nil | exact Take.here | apply Take.there | apply Kept.take))) (Y.move rfl) ?_
    refine GoF.q rfl rfl rfl (Kept.ok (by repeat (first | exact Kept.nil | exact Take.here | apply Take.there | apply Kept.take))) (Y.sliceFrom kk Try.underlying30 Try.sizeOf34 rfl rfl Rd.s rfl hkl) ?_
    refine GoF.q rfl rfl rfl (Kept.ok (by repeat (first | exact Kept.nil | exact Take.here | apply Take.there | apply Kept.take))) (Y.move rfl) ?_
    refine GoF.call rfl rfl rfl (Kept.ok (by repeat (first | exact Kept.nil | exact Take.here | apply Take.there | apply Kept.take))) Try.call10 rfl (Spread_fn (acts := acts.drop kk) (sp := sp) (pre := []) (Rd.old hrb) (by simp; omega)) (by repeat (first | exact Takes.nil | exact Take.here | apply Take.there | apply Takes.cons)) (fun _ => (Kept.ok (by repeat (first | exact Kept.nil | exact Take.here | apply Take.there | apply Kept.take)))) ?_
    rintro ⟨⟩ -
    refine GoF.q rfl rfl rfl (Kept.ok (by repeat (first | exact Kept.nil | exact Take.here | apply Take.there | apply Kept.take))) (Y.move rfl) ?_
    refine GoF.q rfl rfl rfl (Kept.ok (by repeat (first | exact Kept.nil | exact Take.here | apply Take.there | apply Kept.take))) (Y.move rfl) ?_
    refine GoF.call rfl rfl rfl (Kept.ok (by repeat (first | exact Kept.nil | exact Take.here | apply Take.there | apply Kept.take))) Try.call10 rfl (Spread_fn (acts := acts) (sp := sp) (pre := []) (Rd.old hr) (by omega)) (by repeat (first | exact Takes.nil | exact Take.here | apply Take.there | apply Takes.cons)) (fun _ => (Kept.ok (by repeat (first | exact Kept.nil | exact Take.here | apply Take.there | apply Kept.take)))) ?_
    rintro ⟨⟩ -
    refine GoF.fresh rfl rfl rfl (by decide) (Kept.ok (by repeat (first | exact Kept.nil | exact Take.here | apply Take.there | apply Kept.take))) (fresh_alloc Try.zeroValue31 rfl) ?_
    rintro b8
    refine GoF.fresh rfl rfl rfl (by decide) (Kept.ok (by repeat (first | exact Kept.nil | exact Take.here | apply Take.there | apply Kept.take))) (fresh_alloc Try.zeroValue31 rfl) ?_
    rintro b9
    refine GoF.fresh rfl rfl rfl (by decide) (Kept.ok (by repeat (first | exact Kept.nil | exact Take.here | apply Take.there | apply Kept.take))) (fresh_alloc Try.zeroValue31 rfl) ?_
    rintro b10
    refine GoF.sta rfl rfl (by intro w; rw [List.length_map, spr_length]; exact Try.sizeOf31 w) rfl rfl (map_one _) (by rw [List.length_map, spr_length]; rfl) ?_
    refine GoF.sta rfl rfl (by intro w; rw [List.length_map, spr_length]; exact Try.sizeOf31 w) rfl rfl (map_one _) (by rw [List.length_map, spr_length]; rfl) ?_
    refine GoF.sta rfl rfl (by intro w; rw [List.length_map, spr_length]; exact Try.sizeOf31 w) rfl rfl (map_one _) (by rw [List.length_map, spr_length]; rfl) ?_
    refine GoF.nil ?_
    refine GoE.then_normal ?_
    refine GoC.seq ?_
    refine GoC.region ?_
    refine GoL.y rfl (Y.assign rfl) ?_
    refine GoL.nil ?_
    refine GoE.then_normal ?_
    refine GoC.seq ?_
    refine GoC.seq ?_
    refine GoC.region ?_
    refine GoL.y rfl (Y.assign rfl) ?_
    refine GoL.nil ?_
    refine GoE.then_normal ?_
    refine GoC.block ?_
    refine GoC.loopK (X := Nat) [11, 12, 41, 42, 43, 44, 45, 46, 47, 48, 49, 50, 51, 52, 53, 54, 55, 56, 57, 58, 59, 60, 61, 62, 63] (fun k => acts.length - k) (fun k => k ≤ acts.length) (fun k => [(12, some (.int .i64 (k : Int))), (11, some (.int .i64 ((pr sp acts k).length : Int)))]) (fun _ => [arr b10 0 ((spr (runsOf sp acts)).map (Value.int .i64)), arr b9 0 ((spr (runsOf sp (acts.drop kk))).map (Value.int .i64)), arr b8 0 ((spr (runsOf sp (acts.take kk))).map (Value.int .i64)), F]) 0 ?_ ?_ ?_ ?_
    · exact Nat.zero_le _
    · exact ⟨rfl, rfl, trivial⟩
    · exact fun w s => fins (by repeat (first | exact Takes.nil | exact Take.here | apply Take.there | apply Takes.cons)) s
    rintro k hk
    refine GoC.seq ?_
    refine GoC.seq ?_
    refine GoC.region ?_
    refine GoL.y rfl (Y.move rfl) ?_
    refine GoL.y rfl (Y.move rfl) ?_
    first
      | refine GoL.y rfl (Y.lenRd Try.underlying30 rfl Rd.s) ?_
      | refine GoL.y rfl (Y.lenRd Try.underlying30 rfl ‹_›) ?_
      | refine GoL.y rfl (Y.lenSlice Try.underlying30 rfl) ?_
    refine GoL.y rfl (Y.lss rfl rfl) ?_
    refine GoL.nil ?_
    refine GoE.then_normal ?_
    refine GoC.condD rfl (fun h44 => ?_) (fun h44 => ?_)
    · refine GoC.skip ?_
      refine GoE.then_normal ?_
      refine GoC.seq ?_
      refine GoC.block ?_
      refine GoC.seq ?_
      refine GoC.region ?_
      obtain ⟨⟨ki, si, x, ch⟩, hx⟩ : ∃ a, acts[k]? = some a := ⟨acts[k]'(by omega), by simp⟩
      refine GoL.y rfl (Y.move rfl) ?_
      refine GoL.y rfl (Y.move rfl) ?_
      first
        | refine GoL.y rfl (Y.ixRd _ Try.underlying30 Try.sizeOf34 rfl rfl Rd.s rfl (by first | omega | decide)) ?_
        | refine GoL.y rfl (Y.ixRd _ Try.underlying30 Try.sizeOf34 rfl rfl ‹_› rfl (by first | omega | decide)) ?_
      refine GoL.y rfl (Y.fieldAddrZ 3 Try.underlying34 rfl Try.sizeOf3 rfl) ?_
      first
        | refine GoL.y rfl (Y.load Try.isAgg3 rfl (Cell.a (by rfl))) ?_
        | refine GoL.y rfl (Y.load Try.isAgg3 rfl (Cell.rd0 Rd.s ‹_› (by rfl))) ?_
        | refine GoL.y rfl (Y.load Try.isAgg3 rfl (Cell.rd Rd.s ‹_› (by rfl))) ?_
        | refine GoL.y rfl (Y.load Try.isAgg3 rfl (Cell.ao (by rfl))) ?_
        | refine GoL.y rfl (Y.load Try.isAgg3 rfl (Cell.az (by rfl))) ?_
        | refine GoL.y rfl (Y.load Try.isAgg3 rfl (Cell.a ‹_›)) ?_
        | refine GoL.y rfl (Y.load Try.isAgg3 rfl (Cell.rd0 ‹_› ‹_› (by rfl))) ?_
        | refine GoL.y rfl (Y.load Try.isAgg3 rfl (Cell.rd ‹_› ‹_› (by rfl))) ?_
      refine GoL.y rfl (Y.eql rfl rfl) ?_
      refine GoL.y rfl (Y.move rfl) ?_
      refine GoL.partD (t := 53) rfl (fun h53 => ?_) (fun h53 => ?_)
      · refine GoL.yg rfl rfl rfl (Y.move rfl) ?_
        refine GoL.yg rfl rfl rfl (Y.move rfl) ?_
        first
          | refine GoL.yg rfl rfl rfl (Y.ixRd _ Try.underlying30 Try.sizeOf34 rfl rfl Rd.s rfl (by first | omega | decide)) ?_
          | refine GoL.yg rfl rfl rfl (Y.ixRd _ Try.underlying30 Try.sizeOf34 rfl rfl ‹_› rfl (by first | omega | decide)) ?_
        first
          | refine GoL.yg rfl rfl rfl (Y.fieldAddr0 1 3 Try.underlying34 rfl Try.sizeOf3 rfl) ?_
          | refine GoL.yg rfl rfl rfl (Y.fieldAddr 1 3 Try.underlying34 rfl Try.sizeOf3 rfl) ?_
        first
          | refine GoL.yg rfl rfl rfl (Y.load Try.isAgg3 rfl (Cell.a (by rfl))) ?_
          | refine GoL.yg rfl rfl rfl (Y.load Try.isAgg3 rfl (Cell.rd0 Rd.s ‹_› (by rfl))) ?_
          | refine GoL.yg rfl rfl rfl (Y.load Try.isAgg3 rfl (Cell.rd Rd.s ‹_› (by rfl))) ?_
          | refine GoL.yg rfl rfl rfl (Y.load Try.isAgg3 rfl (Cell.ao (by rfl))) ?_
          | refine GoL.yg rfl rfl rfl (Y.load Try.isAgg3 rfl (Cell.az (by rfl))) ?_
          | refine GoL.yg rfl rfl rfl (Y.load Try.isAgg3 rfl (Cell.a ‹_›)) ?_
          | refine GoL.yg rfl rfl rfl (Y.load Try.isAgg3 rfl (Cell.rd0 ‹_› ‹_› (by rfl))) ?_
          | refine GoL.yg rfl rfl rfl (Y.load Try.isAgg3 rfl (Cell.rd ‹_› ‹_› (by rfl))) ?_
        refine GoL.yg rfl rfl rfl (Y.move rfl) ?_
        refine GoL.yg rfl rfl rfl (Y.eql rfl rfl) ?_
        refine GoL.y rfl (Y.pickT rfl rfl) ?_
        refine GoL.nil ?_
        refine GoE.then_normal ?_
        refine GoC.condD rfl (fun h61 => ?_) (fun h61 => ?_)
        · refine GoC.region ?_
          have hpl0 := pr_len sp acts k
          refine GoL.y rfl (Y.move rfl) ?_
          first
            | refine GoL.y rfl (Y.inc rfl rfl (by omega)) ?_
            | refine GoL.y rfl (Y.add rfl rfl (by omega)) ?_
          refine GoL.y rfl (Y.assign rfl) ?_
          refine GoL.nil ?_
          refine GoE.block_normal (GoE.then_normal ?_)
          refine GoC.region ?_
          refine GoL.y rfl (Y.move rfl) ?_
          first
            | refine GoL.y rfl (Y.inc rfl rfl (by omega)) ?_
            | refine GoL.y rfl (Y.add rfl rfl (by omega)) ?_
          refine GoL.y rfl (Y.assign rfl) ?_
          refine GoL.nil ?_
          have hs : pr sp acts (k + 1) = pr sp acts k ++ [x] := pr_hit hx (by simp only [hits]; rw [decide_eq_true h53, decide_eq_true h61]; rfl)
          have hpl := pr_len sp acts k
          refine GoE.againK (k + 1) (by repeat (first | exact Top.base | refine Top.cons rfl ?_)) rfl ?_ ?_ ?_ ?_
          · first | omega | (dsimp only; omega)
          · omega
          · show Sub [_, (11, some (.int .i64 ((pr sp acts (k + 1)).length : Int)))] _
            rw [hs, List.length_append, List.length_singleton]; exact ⟨rfl, rfl, trivial⟩
          · exact fun w s => fins (by repeat (first | exact Takes.nil | exact Take.here | apply Take.there | apply Takes.cons)) s
        · refine GoC.skip ?_
          refine GoE.block_normal (GoE.then_normal ?_)
          refine GoC.region ?_
          refine GoL.y rfl (Y.move rfl) ?_
          first
            | refine GoL.y rfl (Y.inc rfl rfl (by omega)) ?_
            | refine GoL.y rfl (Y.add rfl rfl (by omega)) ?_
          refine GoL.y rfl (Y.assign rfl) ?_
          refine GoL.nil ?_
          have hs : pr sp acts (k + 1) = pr sp acts k := pr_miss hx (by simp only [hits]; rw [decide_eq_false h61, Bool.and_false])
          refine GoE.againK (k + 1) (by repeat (first | exact Top.base | refine Top.cons rfl ?_)) rfl ?_ ?_ ?_ ?_
          · first | omega | (dsimp only; omega)
          · omega
          · show Sub [_, (11, some (.int .i64 ((pr sp acts (k + 1)).length : Int)))] _
            rw [hs]; exact ⟨rfl, rfl, trivial⟩
          · exact fun w s => fins (by repeat (first | exact Takes.nil | exact Take.here | apply Take.there | apply Takes.cons)) s
      · refine GoL.skip rfl rfl rfl rfl ?_
        refine GoL.skip rfl rfl rfl rfl ?_
        refine GoL.skip rfl rfl rfl rfl ?_
        refine GoL.skip rfl rfl rfl rfl ?_
        refine GoL.skip rfl rfl rfl rfl ?_
        refine GoL.skip rfl rfl rfl rfl ?_
        refine GoL.skip rfl rfl rfl rfl ?_
        refine GoL.y rfl (Y.pickF rfl rfl) ?_
        refine GoL.nil ?_
        refine GoE.then_normal ?_
        refine GoC.condF rfl ?_
        refine GoC.skip ?_
        refine GoE.block_normal (GoE.then_normal ?_)
        refine GoC.region ?_
        refine GoL.y rfl (Y.move rfl) ?_
        first
          | refine GoL.y rfl (Y.inc rfl rfl (by omega)) ?_
          | refine GoL.y rfl (Y.add rfl rfl (by omega)) ?_
        refine GoL.y rfl (Y.assign rfl) ?_
        refine GoL.nil ?_
        have hs : pr sp acts (k + 1) = pr sp acts k := pr_miss hx (by simp only [hits]; rw [decide_eq_false h53]; rfl)
        refine GoE.againK (k + 1) (by repeat (first | exact Top.base | refine Top.cons rfl ?_)) rfl ?_ ?_ ?_ ?_
        · first | omega | (dsimp only; omega)
        · omega
        · show Sub [_, (11, some (.int .i64 ((pr sp acts (k + 1)).length : Int)))] _
          rw [hs]; exact ⟨rfl, rfl, trivial⟩
        · exact fun w s => fins (by repeat (first | exact Takes.nil | exact Take.here | apply Take.there | apply Takes.cons)) s
    · refine GoC.exit ?_
      refine GoE.then_exit (GoE.then_exit (GoE.block_here (GoE.then_normal ?_)))
      refine GoC.seq ?_
      refine GoC.region ?_
      try (obtain rfl : k = acts.length := by omega)
      refine GoL.y rfl (Y.assign rfl) ?_
      refine GoL.nil ?_
      refine GoE.then_normal ?_
      refine GoC.seq ?_
      refine GoC.seq ?_
      refine GoC.region ?_
      refine GoL.y rfl (Y.assign rfl) ?_
      refine GoL.nil ?_
      refine GoE.then_normal ?_
      refine GoC.block ?_
      refine GoC.loopK (X := Nat) [6, 13, 14, 64, 65, 66, 67, 68, 69, 70, 71, 72, 73, 74, 75, 76, 77, 78, 79, 80, 81, 82, 83] (fun k => 16 - k) (fun k => k ≤ 16) (fun k => [(14, some (.int .i64 (k : Int))), (13, some (.int .i64 ((((spr (runsOf sp acts)).take k).sum))))]) (fun _ => [arr b10 0 ((spr (runsOf sp acts)).map (Value.int .i64)), arr b9 0 ((spr (runsOf sp (acts.drop kk))).map (Value.int .i64)), arr b8 0 ((spr (runsOf sp (acts.take kk))).map (Value.int .i64)), F]) 0 ?_ ?_ ?_ ?_
      · exact Nat.zero_le _
      · exact ⟨rfl, rfl, trivial⟩
      · exact fun w s => fins (by repeat (first | exact Takes.nil | exact Take.here | apply Take.there | apply Takes.cons)) s
      rintro n hn
      refine GoC.seq ?_
      refine GoC.seq ?_
      refine GoC.region ?_
      refine GoL.y rfl (Y.move rfl) ?_
      refine GoL.y rfl (Y.lss rfl rfl) ?_
      refine GoL.nil ?_
      refine GoE.then_normal ?_
      refine GoC.condD rfl (fun h65 => ?_) (fun h65 => ?_)
      · refine GoC.skip ?_
        refine GoE.then_normal ?_
        refine GoC.seq ?_
        refine GoC.block ?_
        refine GoC.seq ?_
        refine GoC.seq ?_
        refine GoC.draw [] [1, 1, 1, 1, 1, 1, 1, 1, 1, 1, 1] rfl (by kernel_rfl) ?_
        have hn16 : n < 16 := by omega
        have hsum : (spr (runsOf sp acts)).getD n 0 = (spr (runsOf sp (acts.take kk))).getD n 0 + (spr (runsOf sp (acts.drop kk))).getD n 0 := by
          rw [← spr_app _ _ hn16, ← runsOf_app, List.take_append_drop]
        have hc1 : (runsOf sp acts).count (n : Int) ≤ (runsOf sp acts).length := List.count_le_length
        have hc2 := runsOf_le sp acts
        have hc3 := spr_getD (runsOf sp acts) hn16
        refine GoK.s rfl (Y.move rfl) ?_
        refine GoK.s rfl (Y.ixA1 n Try.underlying31 Try.sizeOf3 rfl rfl rfl (by omega)) ?_
        refine GoK.s rfl (Y.load Try.isAgg3 rfl (Cell.a (map_get (by rw [spr_length]; omega)))) ?_
        refine GoK.s rfl (Y.move rfl) ?_
        refine GoK.s rfl (Y.ixA1 n Try.underlying31 Try.sizeOf3 rfl rfl rfl (by omega)) ?_
        refine GoK.s rfl (Y.load Try.isAgg3 rfl (Cell.a (map_get (by rw [spr_length]; omega)))) ?_
        refine GoK.s rfl (Y.move rfl) ?_
        refine GoK.s rfl (Y.ixA1 n Try.underlying31 Try.sizeOf3 rfl rfl rfl (by omega)) ?_
        refine GoK.s rfl (Y.load Try.isAgg3 rfl (Cell.a (map_get (by rw [spr_length]; omega)))) ?_
        first
          | refine GoK.s rfl (Y.inc rfl rfl (by omega)) ?_
          | refine GoK.s rfl (Y.add rfl rfl (by omega)) ?_
        refine GoK.s rfl (Y.neq rfl rfl) ?_
        refine GoK.nil ?_
        refine GoE.then_normal ?_
        refine GoC.condD rfl (fun h78 => ?_) (fun h78 => ?_)
        · exact absurd hsum h78
        · refine GoC.skip ?_
          refine GoE.then_normal ?_
          refine GoC.region ?_
          have hs1 := spr_sum (runsOf sp acts) n (by omega)
          have hs2 := below_le (runsOf sp acts) n
          refine GoL.y rfl (Y.move rfl) ?_
          refine GoL.y rfl (Y.move rfl) ?_
          refine GoL.y rfl (Y.ixA1 n Try.underlying31 Try.sizeOf3 rfl rfl rfl (by omega)) ?_
          refine GoL.y rfl (Y.load Try.isAgg3 rfl (Cell.a (map_get (by rw [spr_length]; omega)))) ?_
          first
            | refine GoL.y rfl (Y.inc rfl rfl (by omega)) ?_
            | refine GoL.y rfl (Y.add rfl rfl (by omega)) ?_
          try (obtain rfl : k = acts.length := by omega)
          refine GoL.y rfl (Y.assign rfl) ?_
          refine GoL.nil ?_
          refine GoE.block_normal (GoE.then_normal ?_)
          refine GoC.region ?_
          refine GoL.y rfl (Y.move rfl) ?_
          first
            | refine GoL.y rfl (Y.inc rfl rfl (by omega)) ?_
            | refine GoL.y rfl (Y.add rfl rfl (by omega)) ?_
          refine GoL.y rfl (Y.assign rfl) ?_
          refine GoL.nil ?_
          refine GoE.againK (n + 1) (by repeat (first | exact Top.base | refine Top.cons rfl ?_)) rfl ?_ ?_ ?_ ?_
          · first | omega | (dsimp only; omega)
          · omega
          · show Sub [_, (13, some (.int .i64 (((spr (runsOf sp acts)).take (n + 1)).sum)))] _
            rw [sum_take_succ _ (by rw [spr_length]; omega)]; exact ⟨rfl, rfl, trivial⟩
          · exact fun w s => fins (by repeat (first | exact Takes.nil | exact Take.here | apply Take.there | apply Takes.cons)) s
      · refine GoC.exit ?_
        refine GoE.then_exit (GoE.then_exit (GoE.block_here (GoE.then_normal ?_)))
        refine GoC.seq ?_
        refine GoC.region ?_
        obtain rfl : n = 16 := by omega
        refine GoL.y rfl (Y.move rfl) ?_
        refine GoL.y rfl (Y.move rfl) ?_
        refine GoL.does rfl (Does.call rfl Try.call11 rfl (Turns_fn (acts := acts) (sp := sp) (pre := []) (Rd.old hr) (by omega)) (by repeat (first | exact Takes.nil | exact Take.here | apply Take.there | apply Takes.cons))) ?_
        rintro _ _ ⟨⟨⟩, -, rfl, rfl⟩
        refine GoL.y rfl (Y.assign rfl) ?_
        refine GoL.nil ?_
        refine GoE.then_normal ?_
        refine GoC.seq ?_
        refine GoC.draw [] [1, 1, 1, 1, 2, 0, 0, 0, 0, 3, 1, 1] rfl (by kernel_rfl) ?_
        refine GoK.s rfl (Y.move rfl) ?_
        refine GoK.s rfl (Y.move rfl) ?_
        refine GoK.s rfl (Y.sliceTo kk Try.underlying30 Try.sizeOf34 rfl rfl Rd.s rfl hkl) ?_
        refine GoK.s rfl (Y.move rfl) ?_
        refine GoK.d2 rfl (Kept.ok (by repeat (first | exact Kept.nil | exact Take.here | apply Take.there | apply Kept.take))) (Does.call rfl Try.call11 rfl (Turns_fn (acts := acts.take kk) (sp := sp) (pre := []) (Rd.old hra) (by simp; omega)) (by repeat (first | exact Takes.nil | exact Take.here | apply Take.there | apply Takes.cons))) (by rintro _ _ ⟨⟨⟩, -, rfl, rfl⟩; exact (Kept.ok (by repeat (first | exact Kept.nil | exact Take.here | apply Take.there | apply Kept.take)))) ?_
        rintro _ _ ⟨⟨⟩, -, rfl, rfl⟩
        refine GoK.k rfl (Kept.ok (by repeat (first | exact Kept.nil | exact Take.here | apply Take.there | apply Kept.take))) (Y.move rfl) ?_
        refine GoK.k rfl (Kept.ok (by repeat (first | exact Kept.nil | exact Take.here | apply Take.there | apply Kept.take))) (Y.move rfl) ?_
        refine GoK.k rfl (Kept.ok (by repeat (first | exact Kept.nil | exact Take.here | apply Take.there | apply Kept.take))) (Y.sliceFrom kk Try.underlying30 Try.sizeOf34 rfl rfl Rd.s rfl hkl) ?_
        refine GoK.k rfl (Kept.ok (by repeat (first | exact Kept.nil | exact Take.here | apply Take.there | apply Kept.take))) (Y.move rfl) ?_
        refine GoK.d3 rfl (Does.call rfl Try.call11 rfl (Turns_fn (acts := acts.drop kk) (sp := sp) (pre := []) (Rd.old hrb) (by simp; omega)) (by repeat (first | exact Takes.nil | exact Take.here | apply Take.there | apply Takes.cons))) ?_
        rintro _ _ ⟨⟨⟩, -, rfl, rfl⟩
        have w1 := turnSt_le (runsOf sp (acts.take kk))
        have w2 := runsOf_le sp (acts.take kk)
        rw [List.length_take] at w2
        have w3 := turnSt_le (runsOf sp (acts.drop kk))
        have w4 := runsOf_le sp (acts.drop kk)
        rw [List.length_drop] at w4
        first
          | refine GoK.s rfl (Y.inc rfl rfl (by omega)) ?_
          | refine GoK.s rfl (Y.add rfl rfl (by omega)) ?_
        refine GoK.s rfl (Y.assign rfl) ?_
        refine GoK.nil ?_
        refine GoE.then_normal ?_
        refine GoC.seq ?_
        refine GoC.region ?_
        have u1 := spr_sum (runsOf sp acts) 16 (by omega)
        have u2 := below_le (runsOf sp acts) 16
        have u3 : (pr sp acts acts.length) = runsOf sp acts := by unfold pr; rw [List.take_length]
        have u4 := turn_lt (runsOf sp acts)
        have u5 := turn_app (runsOf sp (acts.take kk)) (runsOf sp (acts.drop kk))
        rw [← runsOf_app, List.take_append_drop] at u5
        rw [u3]
        have q1 : ((spr (runsOf sp acts)).take 16).sum ≤ ((runsOf sp acts).length : Int) := by omega
        have q2 : ((turnSt (runsOf sp acts)).1 : Int) = 0 ∨ ((turnSt (runsOf sp acts)).1 : Int) < ((runsOf sp acts).length : Int) := by omega
        have q3 : ((turnSt (runsOf sp (acts.take kk))).1 : Int) + ((turnSt (runsOf sp (acts.drop kk))).1 : Int) ≤ ((turnSt (runsOf sp acts)).1 : Int) := by omega
        have q4 : ((turnSt (runsOf sp acts)).1 : Int) ≤ ((turnSt (runsOf sp (acts.take kk))).1 : Int) + ((turnSt (runsOf sp (acts.drop kk))).1 : Int) + 1 := by omega
        refine GoL.does rfl (Does.call rfl Try.call7 rfl awake29 (by repeat (first | exact Takes.nil | exact Take.here | apply Take.there | apply Takes.cons))) ?_
        rintro _ _ ⟨⟨⟩, -, rfl, rfl⟩
        refine GoL.y rfl (Y.move rfl) ?_
        refine GoL.yg rfl rfl rfl (Y.move rfl) ?_
        refine GoL.yg rfl rfl rfl (Y.move rfl) ?_
        refine GoL.yg rfl rfl rfl (Y.leq rfl rfl) ?_
        refine GoL.y rfl (Y.pickT rfl rfl) ?_
        refine GoL.y rfl (Y.move rfl) ?_
        refine GoL.partD (t := 104) rfl (fun h104 => ?_) (fun h104 => ?_)
        · refine GoL.yg rfl rfl rfl (Y.move rfl) ?_
          refine GoL.yg rfl rfl rfl (Y.eql rfl rfl) ?_
          refine GoL.yg rfl rfl rfl (Y.move rfl) ?_
          refine GoL.partD (t := 107) rfl (fun h107 => ?_) (fun h107 => ?_)
          · refine GoL.skip rfl rfl rfl rfl ?_
            refine GoL.skip rfl rfl rfl rfl ?_
            refine GoL.skip rfl rfl rfl rfl ?_
            refine GoL.yg rfl rfl rfl (Y.pickT rfl rfl) ?_
            refine GoL.y rfl (Y.pickT rfl rfl) ?_
            refine GoL.y rfl (Y.move rfl) ?_
            refine GoL.yg rfl rfl rfl (Y.move rfl) ?_
            refine GoL.yg rfl rfl rfl (Y.move rfl) ?_
            refine GoL.yg rfl rfl rfl (Y.leq rfl rfl) ?_
            refine GoL.y rfl (Y.pickT rfl rfl) ?_
            refine GoL.y rfl (Y.move rfl) ?_
            refine GoL.partD (t := 118) rfl (fun h118 => ?_) (fun h118 => ?_)
            · refine GoL.yg rfl rfl rfl (Y.move rfl) ?_
              refine GoL.yg rfl rfl rfl (Y.move rfl) ?_
              first
                | refine GoL.yg rfl rfl rfl (Y.inc rfl rfl (by omega)) ?_
                | refine GoL.yg rfl rfl rfl (Y.add rfl rfl (by omega)) ?_
              refine GoL.yg rfl rfl rfl (Y.leq rfl rfl) ?_
              refine GoL.y rfl (Y.pickT rfl rfl) ?_
              refine GoL.y rfl (Y.assign rfl) ?_
              refine GoL.nil ?_
              refine GoE.then_normal ?_
              refine GoC.ret ?_
              refine GoE.ret1 rfl rfl fun w s => ⟨(), ?_, trivial, fin (by repeat (first | exact Takes.nil | exact Take.here | apply Take.there | apply Takes.cons)) s⟩
              exact congrArg (fun b => Ending.returned (Value.bool b)) (decide_eq_true (by omega))
            · exact absurd q3 h118
          · refine GoL.yg rfl rfl rfl (Y.move rfl) ?_
            refine GoL.yg rfl rfl rfl (Y.move rfl) ?_
            refine GoL.yg rfl rfl rfl (Y.lss rfl rfl) ?_
            refine GoL.yg rfl rfl rfl (Y.pickF rfl rfl) ?_
            refine GoL.y rfl (Y.pickT rfl rfl) ?_
            refine GoL.y rfl (Y.move rfl) ?_
            refine GoL.partD (t := 113) rfl (fun h113 => ?_) (fun h113 => ?_)
            · refine GoL.yg rfl rfl rfl (Y.move rfl) ?_
              refine GoL.yg rfl rfl rfl (Y.move rfl) ?_
              refine GoL.yg rfl rfl rfl (Y.leq rfl rfl) ?_
              refine GoL.y rfl (Y.pickT rfl rfl) ?_
              refine GoL.y rfl (Y.move rfl) ?_
              refine GoL.partD (t := 118) rfl (fun h118 => ?_) (fun h118 => ?_)
              · refine GoL.yg rfl rfl rfl (Y.move rfl) ?_
                refine GoL.yg rfl rfl rfl (Y.move rfl) ?_
                first
                  | refine GoL.yg rfl rfl rfl (Y.inc rfl rfl (by omega)) ?_
                  | refine GoL.yg rfl rfl rfl (Y.add rfl rfl (by omega)) ?_
                refine GoL.yg rfl rfl rfl (Y.leq rfl rfl) ?_
                refine GoL.y rfl (Y.pickT rfl rfl) ?_
                refine GoL.y rfl (Y.assign rfl) ?_
                refine GoL.nil ?_
                refine GoE.then_normal ?_
                refine GoC.ret ?_
                refine GoE.ret1 rfl rfl fun w s => ⟨(), ?_, trivial, fin (by repeat (first | exact Takes.nil | exact Take.here | apply Take.there | apply Takes.cons)) s⟩
                exact congrArg (fun b => Ending.returned (Value.bool b)) (decide_eq_true (by omega))
              · exact absurd q3 h118
            · exact absurd (q2.resolve_left h107) h113
        · exact absurd q1 h104

end Go.SLYtnoophiflnlflaa
