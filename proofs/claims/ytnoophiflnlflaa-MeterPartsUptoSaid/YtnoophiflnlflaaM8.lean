/- Walks of functions, and what they compute. Conditions: none, this text proves no statement. -/
import Derived.Test.YtnoophiflnlflaaM7
import Derived.KernelRfl
namespace Go.SLYtnoophiflnlflaa
open Go Go.RowKit Go.Proofs Go.Proofs.YtnoophiflnlflaaX

theorem MeterSpreads_fn {W : World} {v : Value} {sp : Int} {acts : List ActV} (hr : RdAt W actE 4 v acts) (hlen : acts.length ≤ 1048576) : Fn Try.prog W 4 [v, .int .i64 sp] [] Unit (fun _ => .bool true) (fun _ => True) (fun _ => []) := by
  refine Fn.intro (N := 73) Try.func4 rfl Try.ntmps4 rfl fun F => ?_
  haveI hRI : ∀ (H : List HProp), ReadsC W H v actE 4 acts := fun H => ⟨Rd.old hr⟩
  show GoC _ _ _ _ _ _ [F]
  refine GoC.seq ?_
  refine GoC.region ?_
  refine GoL.y rfl (Y.assign rfl) ?_
  refine GoL.nil ?_
  refine GoE.then_normal ?_
  refine GoC.seq ?_
  refine GoC.region ?_
  refine GoL.y rfl (Y.move rfl) ?_
  refine GoL.y rfl (Y.move rfl) ?_
  refine GoL.does rfl (Does.call rfl Try.call10 rfl (Spread_fn (acts := acts) (sp := sp) (pre := []) (Rd.old hr) hlen) (by repeat (first | exact Takes.nil | exact Take.here | apply Take.there | apply Takes.cons))) ?_
  rintro _ _ ⟨⟨⟩, -, rfl, rfl⟩
  refine GoL.does rfl (Does.alloc rfl Try.zeroValue31 rfl) ?_
  rintro _ _ ⟨b5, rfl, rfl⟩
  refine GoL.does rfl (Does.sta (by intro w; rw [List.length_map, spr_length]; exact Try.sizeOf31 w) rfl rfl (map_one _) (by rw [List.length_map, spr_length]; rfl)) ?_
  rintro _ _ ⟨rfl, rfl⟩
  refine GoL.nil ?_
  refine GoE.then_normal ?_
  refine GoC.seq ?_
  refine GoC.region ?_
  refine GoL.y rfl (Y.assign rfl) ?_
  refine GoL.y rfl (Y.assign rfl) ?_
  refine GoL.y rfl (Y.assign rfl) ?_
  refine GoL.nil ?_
  refine GoE.then_normal ?_
  refine GoC.seq ?_
  refine GoC.seq ?_
  refine GoC.region ?_
  refine GoL.y rfl (Y.assign rfl) ?_
  refine GoL.nil ?_
  refine GoE.then_normal ?_
  refine GoC.block ?_
  refine GoC.loopK (X := Nat) [6, 7, 8, 9, 10, 14, 15, 16, 17, 18, 19, 20, 21, 22, 23, 24, 25, 26, 27, 28, 29, 30, 31, 32, 33, 34, 35, 36, 37, 38, 39, 40, 41, 42, 43, 44, 45, 46, 47, 48, 49, 50, 51, 52, 53, 54, 55, 56, 57, 58, 59] (fun k => acts.length - k) (fun k => k ≤ acts.length) (fun k => [(9, some (.int .i64 (k : Int))), (6, some (.int .i64 (tF sp acts k : Int))), (7, some (.int .i64 (lF sp acts k))), (8, some (.bool (aF sp acts k)))]) (fun k => [arr b5 0 ((dF sp acts k).map (Value.int .i64)), F]) 0 ?_ ?_ ?_ ?_
  · exact Nat.zero_le _
  · show Sub [_, (6, some (.int .i64 (tF sp acts 0 : Int))), (7, some (.int .i64 (lF sp acts 0))), (8, some (.bool (aF sp acts 0)))] _
    rw [(tF_zero sp acts).1, (tF_zero sp acts).2.1, (tF_zero sp acts).2.2]; exact ⟨rfl, rfl, rfl, rfl, trivial⟩
  · intro w s; rw [dF_zero]; exact fins (by repeat (first | exact Takes.nil | exact Take.here | apply Take.there | apply Takes.cons)) s
  rintro k hk
  refine GoC.seq ?_
  refine GoC.seq ?_
  refine GoC.region ?_
  refine GoL.y rfl (Y.move rfl) ?_
  refine GoL.y rfl (Y.move rfl) ?_
  first
    | refine GoL.y rfl (Y.lenRd Try.underlying30 rfl Rd.s) ?_
    | refine GoL.y rfl (Y.lenRd Try.underlying30 rfl ‹_›) ?_
    | refine GoL.y rfl (Y.lenSlice Try.underlying30 rfl) ?_
  refine GoL.y rfl (Y.lss rfl rfl) ?_
  refine GoL.nil ?_
  refine GoE.then_normal ?_
  refine GoC.condD rfl (fun h17 => ?_) (fun h17 => ?_)
  · refine GoC.skip ?_
    refine GoE.then_normal ?_
    refine GoC.seq ?_
    refine GoC.block ?_
    refine GoC.seq ?_
    refine GoC.seq ?_
    refine GoC.region ?_
    obtain ⟨⟨ki, si, x, ch⟩, hx⟩ : ∃ a, acts[k]? = some a := ⟨acts[k]'(by omega), by simp⟩
    refine GoL.y rfl (Y.move rfl) ?_
    refine GoL.y rfl (Y.move rfl) ?_
    first
      | refine GoL.y rfl (Y.ixRd _ Try.underlying30 Try.sizeOf34 rfl rfl Rd.s rfl (by first | omega | decide)) ?_
      | refine GoL.y rfl (Y.ixRd _ Try.underlying30 Try.sizeOf34 rfl rfl ‹_› rfl (by first | omega | decide)) ?_
    refine GoL.y rfl (Y.fieldAddrZ 3 Try.underlying34 rfl Try.sizeOf3 rfl) ?_
    first
      | refine GoL.y rfl (Y.load Try.isAgg3 rfl (Cell.a (by rfl))) ?_
      | refine GoL.y rfl (Y.load Try.isAgg3 rfl (Cell.rd0 Rd.s ‹_› (by rfl))) ?_
      | refine GoL.y rfl (Y.load Try.isAgg3 rfl (Cell.rd Rd.s ‹_› (by rfl))) ?_
      | refine GoL.y rfl (Y.load Try.isAgg3 rfl (Cell.ao (by rfl))) ?_
      | refine GoL.y rfl (Y.load Try.isAgg3 rfl (Cell.az (by rfl))) ?_
      | refine GoL.y rfl (Y.load Try.isAgg3 rfl (Cell.a ‹_›)) ?_
      | refine GoL.y rfl (Y.load Try.isAgg3 rfl (Cell.rd0 ‹_› ‹_› (by rfl))) ?_
      | refine GoL.y rfl (Y.load Try.isAgg3 rfl (Cell.rd ‹_› ‹_› (by rfl))) ?_
    refine GoL.y rfl (Y.neq rfl rfl) ?_
    refine GoL.y rfl (Y.move rfl) ?_
    refine GoL.partD (t := 26) rfl (fun h26 => ?_) (fun h26 => ?_)
    · refine GoL.skip rfl rfl rfl rfl ?_
      refine GoL.skip rfl rfl rfl rfl ?_
      refine GoL.skip rfl rfl rfl rfl ?_
      refine GoL.skip rfl rfl rfl rfl ?_
      refine GoL.skip rfl rfl rfl rfl ?_
      refine GoL.skip rfl rfl rfl rfl ?_
      refine GoL.skip rfl rfl rfl rfl ?_
      refine GoL.y rfl (Y.pickT rfl rfl) ?_
      refine GoL.nil ?_
      refine GoE.then_normal ?_
      refine GoC.condT rfl ?_
      refine GoC.exit ?_
      refine GoE.then_exit (GoE.block_here (GoE.then_normal ?_))
      refine GoC.region ?_
      refine GoL.y rfl (Y.move rfl) ?_
      first
        | refine GoL.y rfl (Y.inc rfl rfl (by omega)) ?_
        | refine GoL.y rfl (Y.add rfl rfl (by omega)) ?_
      refine GoL.y rfl (Y.assign rfl) ?_
      refine GoL.nil ?_
      have hs : pr sp acts (k + 1) = pr sp acts k := pr_miss hx (by simp only [hits]; rw [decide_eq_false h26]; rfl)
      obtain ⟨e1, e2, e3⟩ := tF_same hs
      refine GoE.againK (k + 1) (by repeat (first | exact Top.base | refine Top.cons rfl ?_)) rfl ?_ ?_ ?_ ?_
      · first | omega | (dsimp only; omega)
      · omega
      · show Sub [_, (6, some (.int .i64 (tF sp acts (k + 1) : Int))), (7, some (.int .i64 (lF sp acts (k + 1)))), (8, some (.bool (aF sp acts (k + 1))))] _
        rw [e1, e2, e3]; exact ⟨rfl, rfl, rfl, rfl, trivial⟩
      · intro w s; rw [dF_step hs]; exact fins (by repeat (first | exact Takes.nil | exact Take.here | apply Take.there | apply Takes.cons)) s
    · refine GoL.yg rfl rfl rfl (Y.move rfl) ?_
      refine GoL.yg rfl rfl rfl (Y.move rfl) ?_
      first
        | refine GoL.yg rfl rfl rfl (Y.ixRd _ Try.underlying30 Try.sizeOf34 rfl rfl Rd.s rfl (by first | omega | decide)) ?_
        | refine GoL.yg rfl rfl rfl (Y.ixRd _ Try.underlying30 Try.sizeOf34 rfl rfl ‹_› rfl (by first | omega | decide)) ?_
      first
        | refine GoL.yg rfl rfl rfl (Y.fieldAddr0 1 3 Try.underlying34 rfl Try.sizeOf3 rfl) ?_
        | refine GoL.yg rfl rfl rfl (Y.fieldAddr 1 3 Try.underlying34 rfl Try.sizeOf3 rfl) ?_
      first
        | refine GoL.yg rfl rfl rfl (Y.load Try.isAgg3 rfl (Cell.a (by rfl))) ?_
        | refine GoL.yg rfl rfl rfl (Y.load Try.isAgg3 rfl (Cell.rd0 Rd.s ‹_› (by rfl))) ?_
        | refine GoL.yg rfl rfl rfl (Y.load Try.isAgg3 rfl (Cell.rd Rd.s ‹_› (by rfl))) ?_
        | refine GoL.yg rfl rfl rfl (Y.load Try.isAgg3 rfl (Cell.ao (by rfl))) ?_
        | refine GoL.yg rfl rfl rfl (Y.load Try.isAgg3 rfl (Cell.az (by rfl))) ?_
        | refine GoL.yg rfl rfl rfl (Y.load Try.isAgg3 rfl (Cell.a ‹_›)) ?_
        | refine GoL.yg rfl rfl rfl (Y.load Try.isAgg3 rfl (Cell.rd0 ‹_› ‹_› (by rfl))) ?_
        | refine GoL.yg rfl rfl rfl (Y.load Try.isAgg3 rfl (Cell.rd ‹_› ‹_› (by rfl))) ?_
      refine GoL.yg rfl rfl rfl (Y.move rfl) ?_
      refine GoL.yg rfl rfl rfl (Y.neq rfl rfl) ?_
      refine GoL.y rfl (Y.pickF rfl rfl) ?_
      refine GoL.nil ?_
      refine GoE.then_normal ?_
      refine GoC.condD rfl (fun h34 => ?_) (fun h34 => ?_)
      · refine GoC.exit ?_
        refine GoE.then_exit (GoE.block_here (GoE.then_normal ?_))
        refine GoC.region ?_
        refine GoL.y rfl (Y.move rfl) ?_
        first
          | refine GoL.y rfl (Y.inc rfl rfl (by omega)) ?_
          | refine GoL.y rfl (Y.add rfl rfl (by omega)) ?_
        refine GoL.y rfl (Y.assign rfl) ?_
        refine GoL.nil ?_
        have hs : pr sp acts (k + 1) = pr sp acts k := pr_miss hx (by simp only [hits]; rw [decide_eq_false h34, Bool.and_false])
        obtain ⟨e1, e2, e3⟩ := tF_same hs
        refine GoE.againK (k + 1) (by repeat (first | exact Top.base | refine Top.cons rfl ?_)) rfl ?_ ?_ ?_ ?_
        · first | omega | (dsimp only; omega)
        · omega
        · show Sub [_, (6, some (.int .i64 (tF sp acts (k + 1) : Int))), (7, some (.int .i64 (lF sp acts (k + 1)))), (8, some (.bool (aF sp acts (k + 1))))] _
          rw [e1, e2, e3]; exact ⟨rfl, rfl, rfl, rfl, trivial⟩
        · intro w s; rw [dF_step hs]; exact fins (by repeat (first | exact Takes.nil | exact Take.here | apply Take.there | apply Takes.cons)) s
      · refine GoC.skip ?_
        refine GoE.then_normal ?_
        refine GoC.seq ?_
        refine GoC.region ?_
        have hit : hits sp ⟨ki, si, x, ch⟩ = true := by simp only [hits]; rw [decide_eq_true (Decidable.of_not_not h26), decide_eq_true (Decidable.of_not_not h34)]; rfl
        have hs : pr sp acts (k + 1) = pr sp acts k ++ [x] := pr_hit hx hit
        have hbd := fun i (hi : i < 16) => dF_bound (sp := sp) (k := k) hlen hi
        have htl := tF_le sp acts k
        refine GoL.y rfl (Y.move rfl) ?_
        refine GoL.y rfl (Y.move rfl) ?_
        first
          | refine GoL.y rfl (Y.ixRd _ Try.underlying30 Try.sizeOf34 rfl rfl Rd.s rfl (by first | omega | decide)) ?_
          | refine GoL.y rfl (Y.ixRd _ Try.underlying30 Try.sizeOf34 rfl rfl ‹_› rfl (by first | omega | decide)) ?_
        first
          | refine GoL.y rfl (Y.fieldAddr0 2 3 Try.underlying34 rfl Try.sizeOf3 rfl) ?_
          | refine GoL.y rfl (Y.fieldAddr 2 3 Try.underlying34 rfl Try.sizeOf3 rfl) ?_
        first
          | refine GoL.y rfl (Y.load Try.isAgg3 rfl (Cell.a (by rfl))) ?_
          | refine GoL.y rfl (Y.load Try.isAgg3 rfl (Cell.rd0 Rd.s ‹_› (by rfl))) ?_
          | refine GoL.y rfl (Y.load Try.isAgg3 rfl (Cell.rd Rd.s ‹_› (by rfl))) ?_
          | refine GoL.y rfl (Y.load Try.isAgg3 rfl (Cell.ao (by rfl))) ?_
          | refine GoL.y rfl (Y.load Try.isAgg3 rfl (Cell.az (by rfl))) ?_
          | refine GoL.y rfl (Y.load Try.isAgg3 rfl (Cell.a ‹_›)) ?_
          | refine GoL.y rfl (Y.load Try.isAgg3 rfl (Cell.rd0 ‹_› ‹_› (by rfl))) ?_
          | refine GoL.y rfl (Y.load Try.isAgg3 rfl (Cell.rd ‹_› ‹_› (by rfl))) ?_
        refine GoL.y rfl (Y.assign rfl) ?_
        refine GoL.nil ?_
        refine GoE.then_normal ?_
        refine GoC.cutK (X := Unit) [40, 41, 42, 43, 44, 45, 46, 47, 48, 49, 50] (fun _ => True) (fun _ => []) (fun _ => [arr b5 0 ((dF sp acts (k + 1)).map (Value.int .i64)), F]) ?_ ?_
        · refine GoC.seq ?_
          refine GoC.region ?_
          refine GoL.y rfl (Y.move rfl) ?_
          refine GoL.y rfl (Y.geq rfl rfl) ?_
          refine GoL.y rfl (Y.move rfl) ?_
          refine GoL.partD (t := 42) rfl (fun h42 => ?_) (fun h42 => ?_)
          · refine GoL.yg rfl rfl rfl (Y.move rfl) ?_
            refine GoL.yg rfl rfl rfl (Y.lss rfl rfl) ?_
            refine GoL.y rfl (Y.pickT rfl rfl) ?_
            refine GoL.nil ?_
            refine GoE.then_normal ?_
            refine GoC.condD rfl (fun h45 => ?_) (fun h45 => ?_)
            · refine GoC.region ?_
              have h42' : 0 ≤ x := h42
              have h45' : x < 16 := h45
              have hb1 := hbd x.toNat (by omega)
              refine GoL.y rfl (Y.move rfl) ?_
              refine GoL.y rfl (Y.ixA1 x.toNat Try.underlying31 Try.sizeOf3 rfl rfl (by show x = _; omega) (by omega)) ?_
              refine GoL.y rfl (Y.load Try.isAgg3 rfl (Cell.a (map_get (by rw [dF_len]; omega)))) ?_
              refine GoL.y rfl (Y.sub rfl rfl (by omega)) ?_
              refine GoL.y rfl (Y.ixA1 x.toNat Try.underlying31 Try.sizeOf3 rfl rfl (by show x = _; omega) (by omega)) ?_
              refine GoL.does rfl (Does.st Try.sizeOf3 rfl rfl rfl (by rw [List.length_map, dF_len]; exact Nat.blt_eq.mpr (by omega))) ?_
              rintro _ _ ⟨rfl, rfl⟩
              rw [map_set', dF_in hs h42 h45]
              refine GoL.nil ?_
              refine GoE.midK () (by repeat (first | exact Top.base | refine Top.cons rfl ?_)) ?_ ?_ ?_
              · trivial
              · trivial
              · exact fun w s => fins (by repeat (first | exact Takes.nil | exact Take.here | apply Take.there | apply Takes.cons)) s
            · refine GoC.skip ?_
              refine GoE.midK () (by repeat (first | exact Top.base | refine Top.cons rfl ?_)) ?_ ?_ ?_
              · trivial
              · trivial
              · intro w s; rw [dF_out hs (fun h => h45 h.2)]; exact fins (by repeat (first | exact Takes.nil | exact Take.here | apply Take.there | apply Takes.cons)) s
          · refine GoL.skip rfl rfl rfl rfl ?_
            refine GoL.skip rfl rfl rfl rfl ?_
            refine GoL.y rfl (Y.pickF rfl rfl) ?_
            refine GoL.nil ?_
            refine GoE.then_normal ?_
            refine GoC.condF rfl ?_
            refine GoC.skip ?_
            refine GoE.midK () (by repeat (first | exact Top.base | refine Top.cons rfl ?_)) ?_ ?_ ?_
            · trivial
            · trivial
            · intro w s; rw [dF_out hs (fun h => h42 h.1)]; exact fins (by repeat (first | exact Takes.nil | exact Take.here | apply Take.there | apply Takes.cons)) s
        · rintro ⟨⟩ -
          refine GoC.cutK (X := Unit) [6, 51, 52, 53, 54, 55, 56, 57, 58] (fun _ => True) (fun _ => [(6, some (.int .i64 (tF sp acts (k + 1) : Int)))]) (fun _ => [arr b5 0 ((dF sp acts (k + 1)).map (Value.int .i64)), F]) ?_ ?_
          · refine GoC.seq ?_
            refine GoC.region ?_
            refine GoL.y rfl (Y.move rfl) ?_
            refine GoL.y rfl (Y.move rfl) ?_
            first
              | refine GoL.partD (t := 52) rfl (fun h52 => ?_) (fun h52 => ?_)
              | refine GoL.part (t := 52) rfl (fun h52 => ?_) (fun h52 => ?_)
            · refine GoL.yg rfl rfl rfl (Y.move rfl) ?_
              refine GoL.yg rfl rfl rfl (Y.move rfl) ?_
              refine GoL.yg rfl rfl rfl (Y.neq rfl rfl) ?_
              refine GoL.y rfl (Y.pickT rfl rfl) ?_
              refine GoL.nil ?_
              refine GoE.then_normal ?_
              refine GoC.condD rfl (fun h56 => ?_) (fun h56 => ?_)
              · refine GoC.region ?_
                refine GoL.y rfl (Y.move rfl) ?_
                first
                  | refine GoL.y rfl (Y.inc rfl rfl (by omega)) ?_
                  | refine GoL.y rfl (Y.add rfl rfl (by omega)) ?_
                refine GoL.y rfl (Y.assign rfl) ?_
                refine GoL.nil ?_
                refine GoE.midK () (by repeat (first | exact Top.base | refine Top.cons rfl ?_)) ?_ ?_ ?_
                · trivial
                · show Sub [(6, some (.int .i64 (tF sp acts (k + 1) : Int)))] _
                  rw [tF_ne hs h52 h56]; exact ⟨rfl, trivial⟩
                · exact fun w s => fins (by repeat (first | exact Takes.nil | exact Take.here | apply Take.there | apply Takes.cons)) s
              · refine GoC.skip ?_
                refine GoE.midK () (by repeat (first | exact Top.base | refine Top.cons rfl ?_)) ?_ ?_ ?_
                · trivial
                · show Sub [(6, some (.int .i64 (tF sp acts (k + 1) : Int)))] _
                  rw [tF_eq hs h52 h56]; exact ⟨rfl, trivial⟩
                · exact fun w s => fins (by repeat (first | exact Takes.nil | exact Take.here | apply Take.there | apply Takes.cons)) s
            · refine GoL.skip rfl rfl rfl rfl ?_
              refine GoL.skip rfl rfl rfl rfl ?_
              refine GoL.skip rfl rfl rfl rfl ?_
              refine GoL.y rfl (Y.pickF rfl rfl) ?_
              refine GoL.nil ?_
              refine GoE.then_normal ?_
              refine GoC.condF rfl ?_
              refine GoC.skip ?_
              refine GoE.midK () (by repeat (first | exact Top.base | refine Top.cons rfl ?_)) ?_ ?_ ?_
              · trivial
              · show Sub [(6, some (.int .i64 (tF sp acts (k + 1) : Int)))] _
                rw [tF_none hs h52]; exact ⟨rfl, trivial⟩
              · exact fun w s => fins (by repeat (first | exact Takes.nil | exact Take.here | apply Take.there | apply Takes.cons)) s
          · rintro ⟨⟩ -
            refine GoC.region ?_
            refine GoL.y rfl (Y.move rfl) ?_
            refine GoL.y rfl (Y.assign rfl) ?_
            refine GoL.y rfl (Y.assign rfl) ?_
            refine GoL.nil ?_
            refine GoE.block_normal (GoE.then_normal ?_)
            refine GoC.region ?_
            refine GoL.y rfl (Y.move rfl) ?_
            first
              | refine GoL.y rfl (Y.inc rfl rfl (by omega)) ?_
              | refine GoL.y rfl (Y.add rfl rfl (by omega)) ?_
            refine GoL.y rfl (Y.assign rfl) ?_
            refine GoL.nil ?_
            refine GoE.againK (k + 1) (by repeat (first | exact Top.base | refine Top.cons rfl ?_)) rfl ?_ ?_ ?_ ?_
            · first | omega | (dsimp only; omega)
            · omega
            · show Sub [_, _, (7, some (.int .i64 (lF sp acts (k + 1)))), (8, some (.bool (aF sp acts (k + 1))))] _
              rw [(lF_hit hs).1, (lF_hit hs).2]; exact ⟨rfl, rfl, rfl, rfl, trivial⟩
            · exact fun w s => fins (by repeat (first | exact Takes.nil | exact Take.here | apply Take.there | apply Takes.cons)) s
  · refine GoC.exit ?_
    refine GoE.then_exit (GoE.then_exit (GoE.block_here (GoE.then_normal ?_)))
    refine GoC.seq ?_
    refine GoC.region ?_
    obtain rfl : k = acts.length := by omega
    rw [dF_all]
    refine GoL.does rfl (Does.call rfl Try.call7 rfl awake29 (by repeat (first | exact Takes.nil | exact Take.here | apply Take.there | apply Takes.cons))) ?_
    rintro _ _ ⟨⟨⟩, -, rfl, rfl⟩
    refine GoL.y rfl (Y.move rfl) ?_
    refine GoL.yg rfl rfl rfl (Y.loadAgg Try.isAgg31 (by exact Try.sizeOf31) rfl Cells.a) ?_
    refine GoL.yg rfl rfl rfl (Y.bld0 ([(.int .i64 0), (.int .i64 0), (.int .i64 0), (.int .i64 0), (.int .i64 0), (.int .i64 0), (.int .i64 0), (.int .i64 0), (.int .i64 0), (.int .i64 0), (.int .i64 0), (.int .i64 0), (.int .i64 0), (.int .i64 0), (.int .i64 0), (.int .i64 0)]) (by kernel_rfl)) ?_
    refine GoL.yg rfl rfl rfl (Y.eqAgg (by kernel_rfl) (EqV.arrI (xs := z16) (ys := z16) Try.underlying31 Try.underlying3 Try.isAgg3 Try.sizeOf3 rfl rfl) rfl rfl rfl) ?_
    refine GoL.y rfl (Y.pickT rfl rfl) ?_
    refine GoL.y rfl (Y.move rfl) ?_
    refine GoL.yg rfl rfl rfl (Y.move rfl) ?_
    refine GoL.yg rfl rfl rfl (Y.move rfl) ?_
    refine GoL.dg rfl rfl rfl (Does.call rfl Try.call11 rfl (Turns_fn (acts := acts) (sp := sp) (pre := []) (Rd.old hr) hlen) (by repeat (first | exact Takes.nil | exact Take.here | apply Take.there | apply Takes.cons))) ?_
    rintro _ _ ⟨⟨⟩, -, rfl, rfl⟩
    refine GoL.yg rfl rfl rfl (Y.move rfl) ?_
    refine GoL.yg rfl rfl rfl (Y.eql rfl rfl) ?_
    refine GoL.y rfl (Y.pickT rfl rfl) ?_
    refine GoL.y rfl (Y.assign rfl) ?_
    refine GoL.nil ?_
    refine GoE.then_normal ?_
    refine GoC.ret ?_
    refine GoE.ret1 rfl rfl fun w s => ⟨(), ?_, trivial, fin (by repeat (first | exact Takes.nil | exact Take.here | apply Take.there | apply Takes.cons)) s⟩
    rw [tF_all, decide_eq_true rfl]

end Go.SLYtnoophiflnlflaa
