/- Walks of functions, and what they compute. Conditions: none, this text proves no statement. -/
import Derived.Test.YtnoophiflnlflaaM5
import Derived.KernelRfl
namespace Go.SLYtnoophiflnlflaa
open Go Go.RowKit Go.Proofs Go.Proofs.YtnoophiflnlflaaX

theorem Count_add {W : World} {b : Nat} {c : Cnt} {r : RecV} (hl : c.ops.length = 39) : Fn Try.prog W 12 [.pointer (some ⟨b, 0, none⟩), .agg (recE r).toArray] [arr b 0 (cntV c)] Unit (fun _ => .tuple #[]) (fun _ => True) (fun _ => [arr b 0 (cntV (addC c r))]) := by
  refine Fn.intro (N := 49) Try.func12 rfl Try.ntmps12 rfl fun F => ?_
  show GoC _ _ _ _ _ _ [arr b 0 (cntV c), F]
  obtain ⟨rt, ro, rx, ry, rr, rf⟩ := r
  simp only [recE]
  refine GoC.seq ?_
  refine GoC.region ?_
  refine GoL.does rfl (Does.box rfl rfl rfl) ?_
  rintro _ _ ⟨b3, rfl, rfl⟩
  refine GoL.nil ?_
  refine GoE.then_normal ?_
  refine GoC.cutK (X := Unit) [4, 5, 6, 7, 8, 9, 10, 11, 12, 13, 14, 15, 16, 17, 18, 19, 20, 21, 22] (fun _ => True) (fun _ => []) (fun _ => [arr b3 0 (recE ⟨rt, ro, rx, ry, rr, rf⟩), arr b 0 (cntV (st1 c ⟨rt, ro, rx, ry, rr, rf⟩)), F]) ?_ ?_
  · refine GoC.seq ?_
    refine GoC.region ?_
    first
      | refine GoL.y rfl (Y.fieldAddr0 1 3 Try.underlying41 rfl Try.sizeOf3 rfl) ?_
      | refine GoL.y rfl (Y.fieldAddr 1 3 Try.underlying41 rfl Try.sizeOf3 rfl) ?_
    first
      | refine GoL.y rfl (Y.load Try.isAgg3 rfl (Cell.a (by rfl))) ?_
      | refine GoL.y rfl (Y.load Try.isAgg3 rfl (Cell.rd0 Rd.s ‹_› (by rfl))) ?_
      | refine GoL.y rfl (Y.load Try.isAgg3 rfl (Cell.rd Rd.s ‹_› (by rfl))) ?_
      | refine GoL.y rfl (Y.load Try.isAgg3 rfl (Cell.ao (by rfl))) ?_
      | refine GoL.y rfl (Y.load Try.isAgg3 rfl (Cell.az (by rfl))) ?_
      | refine GoL.y rfl (Y.load Try.isAgg3 rfl (Cell.a ‹_›)) ?_
      | refine GoL.y rfl (Y.load Try.isAgg3 rfl (Cell.rd0 ‹_› ‹_› (by rfl))) ?_
      | refine GoL.y rfl (Y.load Try.isAgg3 rfl (Cell.rd ‹_› ‹_› (by rfl))) ?_
    refine GoL.y rfl (Y.geq rfl rfl) ?_
    refine GoL.y rfl (Y.move rfl) ?_
    refine GoL.partD (t := 7) rfl (fun h7 => ?_) (fun h7 => ?_)
    · first
        | refine GoL.yg rfl rfl rfl (Y.fieldAddr0 1 3 Try.underlying41 rfl Try.sizeOf3 rfl) ?_
        | refine GoL.yg rfl rfl rfl (Y.fieldAddr 1 3 Try.underlying41 rfl Try.sizeOf3 rfl) ?_
      first
        | refine GoL.yg rfl rfl rfl (Y.load Try.isAgg3 rfl (Cell.a (by rfl))) ?_
        | refine GoL.yg rfl rfl rfl (Y.load Try.isAgg3 rfl (Cell.rd0 Rd.s ‹_› (by rfl))) ?_
        | refine GoL.yg rfl rfl rfl (Y.load Try.isAgg3 rfl (Cell.rd Rd.s ‹_› (by rfl))) ?_
        | refine GoL.yg rfl rfl rfl (Y.load Try.isAgg3 rfl (Cell.ao (by rfl))) ?_
        | refine GoL.yg rfl rfl rfl (Y.load Try.isAgg3 rfl (Cell.az (by rfl))) ?_
        | refine GoL.yg rfl rfl rfl (Y.load Try.isAgg3 rfl (Cell.a ‹_›)) ?_
        | refine GoL.yg rfl rfl rfl (Y.load Try.isAgg3 rfl (Cell.rd0 ‹_› ‹_› (by rfl))) ?_
        | refine GoL.yg rfl rfl rfl (Y.load Try.isAgg3 rfl (Cell.rd ‹_› ‹_› (by rfl))) ?_
      refine GoL.yg rfl rfl rfl (Y.lss rfl rfl) ?_
      refine GoL.y rfl (Y.pickT rfl rfl) ?_
      refine GoL.nil ?_
      refine GoE.then_normal ?_
      refine GoC.condD rfl (fun h11 => ?_) (fun h11 => ?_)
      · refine GoC.draw [] [1, 1, 1, 1, 1, 1, 1, 1, 1, 1, 1, 3] rfl (by kernel_rfl) ?_
        refine GoK.s rfl (Y.move rfl) ?_
        first
          | refine GoK.s rfl (Y.fieldAddr0 1 3 Try.underlying41 rfl Try.sizeOf3 rfl) ?_
          | refine GoK.s rfl (Y.fieldAddr 1 3 Try.underlying41 rfl Try.sizeOf3 rfl) ?_
        first
          | refine GoK.s rfl (Y.load Try.isAgg3 rfl (Cell.a (by rfl))) ?_
          | refine GoK.s rfl (Y.load Try.isAgg3 rfl (Cell.rd0 Rd.s ‹_› (by rfl))) ?_
          | refine GoK.s rfl (Y.load Try.isAgg3 rfl (Cell.rd Rd.s ‹_› (by rfl))) ?_
          | refine GoK.s rfl (Y.load Try.isAgg3 rfl (Cell.ao (by rfl))) ?_
          | refine GoK.s rfl (Y.load Try.isAgg3 rfl (Cell.az (by rfl))) ?_
          | refine GoK.s rfl (Y.load Try.isAgg3 rfl (Cell.a ‹_›)) ?_
          | refine GoK.s rfl (Y.load Try.isAgg3 rfl (Cell.rd0 ‹_› ‹_› (by rfl))) ?_
          | refine GoK.s rfl (Y.load Try.isAgg3 rfl (Cell.rd ‹_› ‹_› (by rfl))) ?_
        refine GoK.s rfl (Y.nilCheck rfl) ?_
        refine GoK.s rfl (Y.fieldAddrZ 23 Try.underlying25 rfl Try.sizeOf23 rfl) ?_
        refine GoK.s rfl (Y.ixA1 ro.toNat Try.underlying23 Try.sizeOf3 rfl rfl (by omega) (by omega)) ?_
        refine GoK.s rfl (Y.load Try.isAgg3 rfl (Cell.a (cnt_op hl (by omega)))) ?_
        refine GoK.s rfl (Y.addW rfl rfl) ?_
        refine GoK.s rfl (Y.nilCheck rfl) ?_
        refine GoK.s rfl (Y.fieldAddrZ 23 Try.underlying25 rfl Try.sizeOf23 rfl) ?_
        refine GoK.s rfl (Y.ixA1 ro.toNat Try.underlying23 Try.sizeOf3 rfl rfl (by omega) (by omega)) ?_
        refine GoK.d3 rfl (Does.st Try.sizeOf3 rfl rfl rfl (cnt_blt hl (by omega))) ?_
        rintro _ _ ⟨rfl, rfl⟩
        rw [set_op hl (by omega)]
        refine GoK.nil ?_
        refine GoE.midK () (by repeat (first | exact Top.base | refine Top.cons rfl ?_)) ?_ ?_ ?_
        · trivial
        · trivial
        · intro w s; rw [show st1 c ⟨rt, ro, rx, ry, rr, rf⟩ = _ from if_pos ⟨h7, h11⟩]; exact fins (by repeat (first | exact Takes.nil | exact Take.here | apply Take.there | apply Takes.cons)) s
      · refine GoC.skip ?_
        refine GoE.midK () (by repeat (first | exact Top.base | refine Top.cons rfl ?_)) ?_ ?_ ?_
        · trivial
        · trivial
        · intro w s; rw [show st1 c ⟨rt, ro, rx, ry, rr, rf⟩ = c from if_neg (fun h => absurd h.2 h11)]; exact fins (by repeat (first | exact Takes.nil | exact Take.here | apply Take.there | apply Takes.cons)) s
    · refine GoL.skip rfl rfl rfl rfl ?_
      refine GoL.skip rfl rfl rfl rfl ?_
      refine GoL.skip rfl rfl rfl rfl ?_
      refine GoL.y rfl (Y.pickF rfl rfl) ?_
      refine GoL.nil ?_
      refine GoE.then_normal ?_
      refine GoC.condF rfl ?_
      refine GoC.skip ?_
      refine GoE.midK () (by repeat (first | exact Top.base | refine Top.cons rfl ?_)) ?_ ?_ ?_
      · trivial
      · trivial
      · intro w s; rw [show st1 c ⟨rt, ro, rx, ry, rr, rf⟩ = c from if_neg (fun h => absurd h.1 h7)]; exact fins (by repeat (first | exact Takes.nil | exact Take.here | apply Take.there | apply Takes.cons)) s
  · rintro ⟨⟩ -
    refine GoC.cutK (X := Unit) [23, 24, 25, 26, 27, 28, 29, 30, 31, 32, 33, 34, 35, 36, 37, 38] (fun _ => True) (fun _ => []) (fun _ => [arr b3 0 (recE ⟨rt, ro, rx, ry, rr, rf⟩), arr b 0 (cntV (st2 (st1 c ⟨rt, ro, rx, ry, rr, rf⟩) ⟨rt, ro, rx, ry, rr, rf⟩)), F]) ?_ ?_
    · refine GoC.seq ?_
      refine GoC.region ?_
      first
        | refine GoL.y rfl (Y.fieldAddr0 5 4 Try.underlying41 rfl Try.sizeOf4 rfl) ?_
        | refine GoL.y rfl (Y.fieldAddr 5 4 Try.underlying41 rfl Try.sizeOf4 rfl) ?_
      first
        | refine GoL.y rfl (Y.load Try.isAgg4 rfl (Cell.a (by rfl))) ?_
        | refine GoL.y rfl (Y.load Try.isAgg4 rfl (Cell.rd0 Rd.s ‹_› (by rfl))) ?_
        | refine GoL.y rfl (Y.load Try.isAgg4 rfl (Cell.rd Rd.s ‹_› (by rfl))) ?_
        | refine GoL.y rfl (Y.load Try.isAgg4 rfl (Cell.ao (by rfl))) ?_
        | refine GoL.y rfl (Y.load Try.isAgg4 rfl (Cell.az (by rfl))) ?_
        | refine GoL.y rfl (Y.load Try.isAgg4 rfl (Cell.a ‹_›)) ?_
        | refine GoL.y rfl (Y.load Try.isAgg4 rfl (Cell.rd0 ‹_› ‹_› (by rfl))) ?_
        | refine GoL.y rfl (Y.load Try.isAgg4 rfl (Cell.rd ‹_› ‹_› (by rfl))) ?_
      refine GoL.nil ?_
      refine GoE.then_normal ?_
      refine GoC.cond rfl (fun h24 => ?_) (fun h24 => ?_)
      · refine GoC.region ?_
        refine GoL.y rfl (Y.move rfl) ?_
        refine GoL.y rfl (Y.nilCheck rfl) ?_
        first
          | refine GoL.y rfl (Y.fieldAddr0 40 3 Try.underlying25 rfl Try.sizeOf3 rfl) ?_
          | refine GoL.y rfl (Y.fieldAddr 40 3 Try.underlying25 rfl Try.sizeOf3 rfl) ?_
        refine GoL.y rfl (Y.load Try.isAgg3 rfl (Cell.a (cnt_o (len1 hl)))) ?_
        refine GoL.y rfl (Y.addW rfl rfl) ?_
        refine GoL.y rfl (Y.nilCheck rfl) ?_
        first
          | refine GoL.y rfl (Y.fieldAddr0 40 3 Try.underlying25 rfl Try.sizeOf3 rfl) ?_
          | refine GoL.y rfl (Y.fieldAddr 40 3 Try.underlying25 rfl Try.sizeOf3 rfl) ?_
        refine GoL.does rfl (Does.st Try.sizeOf3 rfl rfl rfl (cnt_blt (len1 hl) (by omega))) ?_
        rintro _ _ ⟨rfl, rfl⟩
        rw [set_o (len1 hl)]
        refine GoL.nil ?_
        refine GoE.midK () (by repeat (first | exact Top.base | refine Top.cons rfl ?_)) ?_ ?_ ?_
        · trivial
        · trivial
        · intro w s; rw [show st2 (st1 c ⟨rt, ro, rx, ry, rr, rf⟩) ⟨rt, ro, rx, ry, rr, rf⟩ = _ from if_pos h24]; exact fins (by repeat (first | exact Takes.nil | exact Take.here | apply Take.there | apply Takes.cons)) s
      · refine GoC.region ?_
        refine GoL.y rfl (Y.move rfl) ?_
        refine GoL.y rfl (Y.nilCheck rfl) ?_
        first
          | refine GoL.y rfl (Y.fieldAddr0 39 3 Try.underlying25 rfl Try.sizeOf3 rfl) ?_
          | refine GoL.y rfl (Y.fieldAddr 39 3 Try.underlying25 rfl Try.sizeOf3 rfl) ?_
        refine GoL.y rfl (Y.load Try.isAgg3 rfl (Cell.a (cnt_b (len1 hl)))) ?_
        refine GoL.y rfl (Y.addW rfl rfl) ?_
        refine GoL.y rfl (Y.nilCheck rfl) ?_
        first
          | refine GoL.y rfl (Y.fieldAddr0 39 3 Try.underlying25 rfl Try.sizeOf3 rfl) ?_
          | refine GoL.y rfl (Y.fieldAddr 39 3 Try.underlying25 rfl Try.sizeOf3 rfl) ?_
        refine GoL.does rfl (Does.st Try.sizeOf3 rfl rfl rfl (cnt_blt (len1 hl) (by omega))) ?_
        rintro _ _ ⟨rfl, rfl⟩
        rw [set_b (len1 hl)]
        refine GoL.nil ?_
        refine GoE.midK () (by repeat (first | exact Top.base | refine Top.cons rfl ?_)) ?_ ?_ ?_
        · trivial
        · trivial
        · intro w s; rw [show st2 (st1 c ⟨rt, ro, rx, ry, rr, rf⟩) ⟨rt, ro, rx, ry, rr, rf⟩ = _ from if_neg (fun h => by rw [h24] at h; cases h)]; exact fins (by repeat (first | exact Takes.nil | exact Take.here | apply Take.there | apply Takes.cons)) s
    · rintro ⟨⟩ -
      refine GoC.seq ?_
      refine GoC.region ?_
      first
        | refine GoL.y rfl (Y.fieldAddr0 4 39 Try.underlying41 rfl Try.sizeOf39 rfl) ?_
        | refine GoL.y rfl (Y.fieldAddr 4 39 Try.underlying41 rfl Try.sizeOf39 rfl) ?_
      first
        | refine GoL.y rfl (Y.load Try.isAgg39 rfl (Cell.a (by rfl))) ?_
        | refine GoL.y rfl (Y.load Try.isAgg39 rfl (Cell.rd0 Rd.s ‹_› (by rfl))) ?_
        | refine GoL.y rfl (Y.load Try.isAgg39 rfl (Cell.rd Rd.s ‹_› (by rfl))) ?_
        | refine GoL.y rfl (Y.load Try.isAgg39 rfl (Cell.ao (by rfl))) ?_
        | refine GoL.y rfl (Y.load Try.isAgg39 rfl (Cell.az (by rfl))) ?_
        | refine GoL.y rfl (Y.load Try.isAgg39 rfl (Cell.a ‹_›)) ?_
        | refine GoL.y rfl (Y.load Try.isAgg39 rfl (Cell.rd0 ‹_› ‹_› (by rfl))) ?_
        | refine GoL.y rfl (Y.load Try.isAgg39 rfl (Cell.rd ‹_› ‹_› (by rfl))) ?_
      refine GoL.y rfl (Y.neq rfl rfl) ?_
      refine GoL.nil ?_
      refine GoE.then_normal ?_
      refine GoC.condD rfl (fun h41 => ?_) (fun h41 => ?_)
      · refine GoC.region ?_
        refine GoL.y rfl (Y.move rfl) ?_
        refine GoL.y rfl (Y.nilCheck rfl) ?_
        first
          | refine GoL.y rfl (Y.fieldAddr0 41 3 Try.underlying25 rfl Try.sizeOf3 rfl) ?_
          | refine GoL.y rfl (Y.fieldAddr 41 3 Try.underlying25 rfl Try.sizeOf3 rfl) ?_
        refine GoL.y rfl (Y.load Try.isAgg3 rfl (Cell.a (cnt_e (len2 (len1 hl))))) ?_
        refine GoL.y rfl (Y.addW rfl rfl) ?_
        refine GoL.y rfl (Y.nilCheck rfl) ?_
        first
          | refine GoL.y rfl (Y.fieldAddr0 41 3 Try.underlying25 rfl Try.sizeOf3 rfl) ?_
          | refine GoL.y rfl (Y.fieldAddr 41 3 Try.underlying25 rfl Try.sizeOf3 rfl) ?_
        refine GoL.does rfl (Does.st Try.sizeOf3 rfl rfl rfl (cnt_blt (len2 (len1 hl)) (by omega))) ?_
        rintro _ _ ⟨rfl, rfl⟩
        rw [set_e (len2 (len1 hl))]
        refine GoL.nil ?_
        refine GoE.end0 rfl fun w s => ⟨(), rfl, trivial, ?_⟩
        rw [show addC c ⟨rt, ro, rx, ry, rr, rf⟩ = _ from if_pos h41]
        exact fin (by repeat (first | exact Takes.nil | exact Take.here | apply Take.there | apply Takes.cons)) s
      · refine GoC.skip ?_
        refine GoE.end0 rfl fun w s => ⟨(), rfl, trivial, ?_⟩
        rw [show addC c ⟨rt, ro, rx, ry, rr, rf⟩ = _ from if_neg h41]
        exact fin (by repeat (first | exact Takes.nil | exact Take.here | apply Take.there | apply Takes.cons)) s

theorem meter_Of {W : World} {v : Value} {l : List RecV} {A : HProp} (hr : Rd W [A] recE 6 v l) (hlen : l.length ≤ 4194304) : Fn Try.prog W 6 [v] [A] Unit (fun _ => .agg (cntV (countC l)).toArray) (fun _ => True) (fun _ => [A]) := by
  refine Fn.intro (N := 16) Try.func6 rfl Try.ntmps6 rfl fun F => ?_
  haveI hRI : ∀ (H : List HProp) [HasH H A], ReadsC W H v recE 6 l := fun H h => ⟨hr.at h.has⟩
  show GoC _ _ _ _ _ _ [A, F]
  refine GoC.seq ?_
  refine GoC.region ?_
  refine GoL.does rfl (Does.alloc rfl Try.zeroValue25 rfl) ?_
  rintro _ _ ⟨b2, rfl, rfl⟩
  refine GoL.nil ?_
  refine GoE.then_normal ?_
  refine GoC.seq ?_
  refine GoC.region ?_
  refine GoL.does rfl (Does.alloc rfl Try.zeroValue25 rfl) ?_
  rintro _ _ ⟨b3, rfl, rfl⟩
  refine GoL.nil ?_
  refine GoE.then_normal ?_
  refine GoC.seq ?_
  refine GoC.seq ?_
  refine GoC.region ?_
  refine GoL.y rfl (Y.move rfl) ?_
  first
    | refine GoL.y rfl (Y.lenRd Try.underlying22 rfl Rd.s) ?_
    | refine GoL.y rfl (Y.lenRd Try.underlying22 rfl ‹_›) ?_
    | refine GoL.y rfl (Y.lenSlice Try.underlying22 rfl) ?_
  refine GoL.y rfl (Y.move rfl) ?_
  refine GoL.nil ?_
  refine GoE.then_normal ?_
  refine GoC.block ?_
  refine GoC.loopK (X := Nat) [5, 8, 9, 10, 11, 12, 13, 14] (fun k => l.length - k) (fun k => k ≤ l.length) (fun k => [(8, some (.int .i64 (k : Int)))]) (fun k => [arr b3 0 (cntV (countC (l.take k))), arr b2 0 [.int .i64 0, .int .i64 0, .int .i64 0, .int .i64 0, .int .i64 0, .int .i64 0, .int .i64 0, .int .i64 0, .int .i64 0, .int .i64 0, .int .i64 0, .int .i64 0, .int .i64 0, .int .i64 0, .int .i64 0, .int .i64 0, .int .i64 0, .int .i64 0, .int .i64 0, .int .i64 0, .int .i64 0, .int .i64 0, .int .i64 0, .int .i64 0, .int .i64 0, .int .i64 0, .int .i64 0, .int .i64 0, .int .i64 0, .int .i64 0, .int .i64 0, .int .i64 0, .int .i64 0, .int .i64 0, .int .i64 0, .int .i64 0, .int .i64 0, .int .i64 0, .int .i64 0, .int .i64 0, .int .i64 0, .int .i64 0], A, F]) 0 ?_ ?_ ?_ ?_
  · exact Nat.zero_le _
  · exact ⟨rfl, trivial⟩
  · exact fun w s => fins (by repeat (first | exact Takes.nil | exact Take.here | apply Take.there | apply Takes.cons)) s
  rintro k hk
  refine GoC.seq ?_
  refine GoC.region ?_
  refine GoL.y rfl (Y.lss rfl rfl) ?_
  refine GoL.nil ?_
  refine GoE.then_normal ?_
  refine GoC.seq ?_
  refine GoC.condD rfl (fun h9 => ?_) (fun h9 => ?_)
  · refine GoC.skip ?_
    refine GoE.then_normal ?_
    refine GoC.seq ?_
    refine GoC.block ?_
    refine GoC.seq ?_
    refine GoC.region ?_
    obtain ⟨r, hx⟩ : ∃ r, l[k]? = some r := ⟨l[k]'(by omega), by simp⟩
    first
      | refine GoL.y rfl (Y.ixRd _ Try.underlying22 Try.sizeOf41 rfl rfl Rd.s rfl (by first | omega | decide)) ?_
      | refine GoL.y rfl (Y.ixRd _ Try.underlying22 Try.sizeOf41 rfl rfl ‹_› rfl (by first | omega | decide)) ?_
    first
      | refine GoL.y rfl (Y.lda Try.isAgg41 rfl Cells.a (by exact Try.sizeOf41)) ?_
      | refine GoL.y rfl (Y.lda Try.isAgg41 rfl (Cells.rd ‹_› ‹_›) (by exact Try.sizeOf41)) ?_
      | refine GoL.y rfl (Y.lda Try.isAgg41 rfl (Cells.rd Rd.s ‹_›) (by exact Try.sizeOf41)) ?_
      | refine GoL.y rfl (Y.lda Try.isAgg41 rfl (Cells.part0 Cells.a rfl) (by exact Try.sizeOf41)) ?_
    refine GoL.does rfl (Does.alloc rfl Try.zeroValue41 rfl) ?_
    rintro _ _ ⟨b5, rfl, rfl⟩
    first
      | refine GoL.does rfl (Does.sta (by exact Try.sizeOf41) rfl rfl rfl rfl) ?_
      | refine GoL.does rfl (Does.stp (by exact Try.sizeOf41) rfl rfl rfl rfl) ?_
    rintro _ _ ⟨rfl, rfl⟩
    refine GoL.nil ?_
    refine GoE.then_normal ?_
    refine GoC.region ?_
    first
      | refine GoL.y rfl (Y.lda Try.isAgg41 rfl Cells.a (by exact Try.sizeOf41)) ?_
      | refine GoL.y rfl (Y.lda Try.isAgg41 rfl (Cells.rd ‹_› ‹_›) (by exact Try.sizeOf41)) ?_
      | refine GoL.y rfl (Y.lda Try.isAgg41 rfl (Cells.rd Rd.s ‹_›) (by exact Try.sizeOf41)) ?_
      | refine GoL.y rfl (Y.lda Try.isAgg41 rfl (Cells.part0 Cells.a rfl) (by exact Try.sizeOf41)) ?_
    refine GoL.does rfl (Does.call rfl Try.call12 rfl (Count_add (c := countC (l.take k)) (r := r) (lenC _)) (by repeat (first | exact Takes.nil | exact Take.here | apply Take.there | apply Takes.cons))) ?_
    rintro _ _ ⟨⟨⟩, -, rfl, rfl⟩
    refine GoL.nil ?_
    refine GoE.block_normal (GoE.then_normal ?_)
    refine GoC.region ?_
    first
      | refine GoL.y rfl (Y.inc rfl rfl (by omega)) ?_
      | refine GoL.y rfl (Y.add rfl rfl (by omega)) ?_
    refine GoL.y rfl (Y.move rfl) ?_
    refine GoL.nil ?_
    refine GoE.againK (k + 1) (by repeat (first | exact Top.base | refine Top.cons rfl ?_)) rfl ?_ ?_ ?_ ?_
    · first | omega | (dsimp only; omega)
    · omega
    · exact ⟨rfl, trivial⟩
    · have e : countC (l.take (k + 1)) = addC (countC (l.take k)) r := by rw [take_snoc hx, count_snoc']
      intro w s; rw [e]; exact fins (by repeat (first | exact Takes.nil | exact Take.here | apply Take.there | apply Takes.cons)) s
  · refine GoC.exit ?_
    refine GoE.then_exit (GoE.then_exit (GoE.block_here (GoE.then_normal ?_)))
    refine GoC.seq ?_
    refine GoC.region ?_
    refine GoL.y rfl (Y.loadAgg Try.isAgg25 (by intro w; rw [cntV_length (lenC _)]; exact Try.sizeOf25 w) rfl Cells.a) ?_
    refine GoL.does rfl (Does.sta (by intro w; rw [cntV_length (lenC _)]; exact Try.sizeOf25 w) rfl rfl (cntV_one _) (by rw [cntV_length (lenC _)]; rfl)) ?_
    rintro _ _ ⟨rfl, rfl⟩
    refine GoL.nil ?_
    refine GoE.then_normal ?_
    refine GoC.ret ?_
    obtain rfl : k = l.length := by omega
    rw [List.take_length]
    refine GoE.retC rfl rfl Try.isAgg25 (by intro w; rw [cntV_length (lenC _)]; exact Try.sizeOf25 w) Cells.a fun w s => ⟨(), rfl, trivial, fin (by repeat (first | exact Takes.nil | exact Take.here | apply Take.there | apply Takes.cons)) s⟩

theorem law_count {W : World} {v : Value} {l : List RecV} {A : HProp} (hr : Rd W [A] recE 6 v l) (hlen : l.length ≤ 4194304) : Fn Try.prog W 8 [v] [A] Unit (fun _ => .agg (cntV (countC l)).toArray) (fun _ => True) (fun _ => [A]) := by
  refine Fn.intro (N := 54) Try.func8 rfl Try.ntmps8 rfl fun F => ?_
  haveI hRI : ∀ (H : List HProp) [HasH H A], ReadsC W H v recE 6 l := fun H h => ⟨hr.at h.has⟩
  show GoC _ _ _ _ _ _ [A, F]
  refine GoC.seq ?_
  refine GoC.region ?_
  refine GoL.does rfl (Does.alloc rfl Try.zeroValue25 rfl) ?_
  rintro _ _ ⟨b2, rfl, rfl⟩
  refine GoL.nil ?_
  refine GoE.then_normal ?_
  refine GoC.seq ?_
  refine GoC.region ?_
  refine GoL.y rfl (Y.bld0 ([(.int .i64 0), (.int .i64 0), (.int .i64 0), (.int .i64 0), (.int .i64 0), (.int .i64 0), (.int .i64 0), (.int .i64 0), (.int .i64 0), (.int .i64 0), (.int .i64 0), (.int .i64 0), (.int .i64 0), (.int .i64 0), (.int .i64 0), (.int .i64 0), (.int .i64 0), (.int .i64 0), (.int .i64 0), (.int .i64 0), (.int .i64 0), (.int .i64 0), (.int .i64 0), (.int .i64 0), (.int .i64 0), (.int .i64 0), (.int .i64 0), (.int .i64 0), (.int .i64 0), (.int .i64 0), (.int .i64 0), (.int .i64 0), (.int .i64 0), (.int .i64 0), (.int .i64 0), (.int .i64 0), (.int .i64 0), (.int .i64 0), (.int .i64 0), (.int .i64 0), (.int .i64 0), (.int .i64 0)]) (by kernel_rfl)) ?_
  refine GoL.does rfl (Does.alloc rfl Try.zeroValue25 rfl) ?_
  rintro _ _ ⟨b3, rfl, rfl⟩
  first
    | refine GoL.does rfl (Does.sta (by exact Try.sizeOf25) rfl rfl rfl rfl) ?_
    | refine GoL.does rfl (Does.stp (by exact Try.sizeOf25) rfl rfl rfl rfl) ?_
  rintro _ _ ⟨rfl, rfl⟩
  refine GoL.nil ?_
  refine GoE.then_normal ?_
  refine GoC.seq ?_
  refine GoC.seq ?_
  refine GoC.region ?_
  refine GoL.y rfl (Y.assign rfl) ?_
  refine GoL.nil ?_
  refine GoE.then_normal ?_
  refine GoC.block ?_
  refine GoC.loopK (X := Nat) [4, 5, 7, 8, 9, 10, 11, 12, 13, 14, 15, 16, 17, 18, 19, 20, 21, 22, 23, 24, 25, 26, 27, 28, 29, 30, 31, 32, 33, 34, 35, 36, 37, 38, 39, 40, 41, 42, 43, 44, 45, 46, 47, 48, 49, 50, 51, 52] (fun k => l.length - k) (fun k => k ≤ l.length) (fun k => [(4, some (.int .i64 (k : Int)))]) (fun k => [arr b3 0 (cntV (countC (l.take k))), arr b2 0 [.int .i64 0, .int .i64 0, .int .i64 0, .int .i64 0, .int .i64 0, .int .i64 0, .int .i64 0, .int .i64 0, .int .i64 0, .int .i64 0, .int .i64 0, .int .i64 0, .int .i64 0, .int .i64 0, .int .i64 0, .int .i64 0, .int .i64 0, .int .i64 0, .int .i64 0, .int .i64 0, .int .i64 0, .int .i64 0, .int .i64 0, .int .i64 0, .int .i64 0, .int .i64 0, .int .i64 0, .int .i64 0, .int .i64 0, .int .i64 0, .int .i64 0, .int .i64 0, .int .i64 0, .int .i64 0, .int .i64 0, .int .i64 0, .int .i64 0, .int .i64 0, .int .i64 0, .int .i64 0, .int .i64 0, .int .i64 0], A, F]) 0 ?_ ?_ ?_ ?_
  · exact Nat.zero_le _
  · exact ⟨rfl, trivial⟩
  · exact fun w s => fins (by repeat (first | exact Takes.nil | exact Take.here | apply Take.there | apply Takes.cons)) s
  rintro k hk
  refine GoC.seq ?_
  refine GoC.seq ?_
  refine GoC.region ?_
  refine GoL.y rfl (Y.move rfl) ?_
  refine GoL.y rfl (Y.move rfl) ?_
  first
    | refine GoL.y rfl (Y.lenRd Try.underlying22 rfl Rd.s) ?_
    | refine GoL.y rfl (Y.lenRd Try.underlying22 rfl ‹_›) ?_
    | refine GoL.y rfl (Y.lenSlice Try.underlying22 rfl) ?_
  refine GoL.y rfl (Y.lss rfl rfl) ?_
  refine GoL.nil ?_
  refine GoE.then_normal ?_
  refine GoC.condD rfl (fun h10 => ?_) (fun h10 => ?_)
  · refine GoC.skip ?_
    refine GoE.then_normal ?_
    refine GoC.seq ?_
    refine GoC.block ?_
    refine GoC.seq ?_
    refine GoC.region ?_
    obtain ⟨⟨rt, ro, rx, ry, rr, rf⟩, hx⟩ : ∃ r, l[k]? = some r := ⟨l[k]'(by omega), by simp⟩
    refine GoL.y rfl (Y.move rfl) ?_
    refine GoL.y rfl (Y.move rfl) ?_
    first
      | refine GoL.y rfl (Y.ixRd _ Try.underlying22 Try.sizeOf41 rfl rfl Rd.s rfl (by first | omega | decide)) ?_
      | refine GoL.y rfl (Y.ixRd _ Try.underlying22 Try.sizeOf41 rfl rfl ‹_› rfl (by first | omega | decide)) ?_
    first
      | refine GoL.y rfl (Y.lda Try.isAgg41 rfl Cells.a (by exact Try.sizeOf41)) ?_
      | refine GoL.y rfl (Y.lda Try.isAgg41 rfl (Cells.rd ‹_› ‹_›) (by exact Try.sizeOf41)) ?_
      | refine GoL.y rfl (Y.lda Try.isAgg41 rfl (Cells.rd Rd.s ‹_›) (by exact Try.sizeOf41)) ?_
      | refine GoL.y rfl (Y.lda Try.isAgg41 rfl (Cells.part0 Cells.a rfl) (by exact Try.sizeOf41)) ?_
    refine GoL.does rfl (Does.alloc rfl Try.zeroValue41 rfl) ?_
    rintro _ _ ⟨b5, rfl, rfl⟩
    first
      | refine GoL.does rfl (Does.sta (by exact Try.sizeOf41) rfl rfl rfl rfl) ?_
      | refine GoL.does rfl (Does.stp (by exact Try.sizeOf41) rfl rfl rfl rfl) ?_
    rintro _ _ ⟨rfl, rfl⟩
    refine GoL.nil ?_
    refine GoE.then_normal ?_
    refine GoC.cutK (X := Unit) [17, 18, 19, 20, 21, 22, 23, 24, 25, 26, 27, 28, 29, 30, 31, 32] (fun _ => True) (fun _ => []) (fun _ => [arr b5 0 (recE ⟨rt, ro, rx, ry, rr, rf⟩), arr b3 0 (cntV (st1 (countC (l.take k)) ⟨rt, ro, rx, ry, rr, rf⟩)), arr b2 0 [.int .i64 0, .int .i64 0, .int .i64 0, .int .i64 0, .int .i64 0, .int .i64 0, .int .i64 0, .int .i64 0, .int .i64 0, .int .i64 0, .int .i64 0, .int .i64 0, .int .i64 0, .int .i64 0, .int .i64 0, .int .i64 0, .int .i64 0, .int .i64 0, .int .i64 0, .int .i64 0, .int .i64 0, .int .i64 0, .int .i64 0, .int .i64 0, .int .i64 0, .int .i64 0, .int .i64 0, .int .i64 0, .int .i64 0, .int .i64 0, .int .i64 0, .int .i64 0, .int .i64 0, .int .i64 0, .int .i64 0, .int .i64 0, .int .i64 0, .int .i64 0, .int .i64 0, .int .i64 0, .int .i64 0, .int .i64 0], A, F]) ?_ ?_
    · refine GoC.seq ?_
      refine GoC.region ?_
      first
        | refine GoL.y rfl (Y.fieldAddr0 1 3 Try.underlying41 rfl Try.sizeOf3 rfl) ?_
        | refine GoL.y rfl (Y.fieldAddr 1 3 Try.underlying41 rfl Try.sizeOf3 rfl) ?_
      first
        | refine GoL.y rfl (Y.load Try.isAgg3 rfl (Cell.a (by rfl))) ?_
        | refine GoL.y rfl (Y.load Try.isAgg3 rfl (Cell.rd0 Rd.s ‹_› (by rfl))) ?_
        | refine GoL.y rfl (Y.load Try.isAgg3 rfl (Cell.rd Rd.s ‹_› (by rfl))) ?_
        | refine GoL.y rfl (Y.load Try.isAgg3 rfl (Cell.ao (by rfl))) ?_
        | refine GoL.y rfl (Y.load Try.isAgg3 rfl (Cell.az (by rfl))) ?_
        | refine GoL.y rfl (Y.load Try.isAgg3 rfl (Cell.a ‹_›)) ?_
        | refine GoL.y rfl (Y.load Try.isAgg3 rfl (Cell.rd0 ‹_› ‹_› (by rfl))) ?_
        | refine GoL.y rfl (Y.load Try.isAgg3 rfl (Cell.rd ‹_› ‹_› (by rfl))) ?_
      refine GoL.y rfl (Y.geq rfl rfl) ?_
      refine GoL.y rfl (Y.move rfl) ?_
      refine GoL.partD (t := 20) rfl (fun h20 => ?_) (fun h20 => ?_)
      · first
          | refine GoL.yg rfl rfl rfl (Y.fieldAddr0 1 3 Try.underlying41 rfl Try.sizeOf3 rfl) ?_
          | refine GoL.yg rfl rfl rfl (Y.fieldAddr 1 3 Try.underlying41 rfl Try.sizeOf3 rfl) ?_
        first
          | refine GoL.yg rfl rfl rfl (Y.load Try.isAgg3 rfl (Cell.a (by rfl))) ?_
          | refine GoL.yg rfl rfl rfl (Y.load Try.isAgg3 rfl (Cell.rd0 Rd.s ‹_› (by rfl))) ?_
          | refine GoL.yg rfl rfl rfl (Y.load Try.isAgg3 rfl (Cell.rd Rd.s ‹_› (by rfl))) ?_
          | refine GoL.yg rfl rfl rfl (Y.load Try.isAgg3 rfl (Cell.ao (by rfl))) ?_
          | refine GoL.yg rfl rfl rfl (Y.load Try.isAgg3 rfl (Cell.az (by rfl))) ?_
          | refine GoL.yg rfl rfl rfl (Y.load Try.isAgg3 rfl (Cell.a ‹_›)) ?_
          | refine GoL.yg rfl rfl rfl (Y.load Try.isAgg3 rfl (Cell.rd0 ‹_› ‹_› (by rfl))) ?_
          | refine GoL.yg rfl rfl rfl (Y.load Try.isAgg3 rfl (Cell.rd ‹_› ‹_› (by rfl))) ?_
        refine GoL.yg rfl rfl rfl (Y.leq rfl rfl) ?_
        refine GoL.y rfl (Y.pickT rfl rfl) ?_
        refine GoL.nil ?_
        refine GoE.then_normal ?_
        refine GoC.condD rfl (fun h24 => ?_) (fun h24 => ?_)
        · refine GoC.region ?_
          have h20' : 0 ≤ ro := h20
          have h24' : ro ≤ 38 := h24
          first
            | refine GoL.y rfl (Y.fieldAddr0 1 3 Try.underlying41 rfl Try.sizeOf3 rfl) ?_
            | refine GoL.y rfl (Y.fieldAddr 1 3 Try.underlying41 rfl Try.sizeOf3 rfl) ?_
          first
            | refine GoL.y rfl (Y.load Try.isAgg3 rfl (Cell.a (by rfl))) ?_
            | refine GoL.y rfl (Y.load Try.isAgg3 rfl (Cell.rd0 Rd.s ‹_› (by rfl))) ?_
            | refine GoL.y rfl (Y.load Try.isAgg3 rfl (Cell.rd Rd.s ‹_› (by rfl))) ?_
            | refine GoL.y rfl (Y.load Try.isAgg3 rfl (Cell.ao (by rfl))) ?_
            | refine GoL.y rfl (Y.load Try.isAgg3 rfl (Cell.az (by rfl))) ?_
            | refine GoL.y rfl (Y.load Try.isAgg3 rfl (Cell.a ‹_›)) ?_
            | refine GoL.y rfl (Y.load Try.isAgg3 rfl (Cell.rd0 ‹_› ‹_› (by rfl))) ?_
            | refine GoL.y rfl (Y.load Try.isAgg3 rfl (Cell.rd ‹_› ‹_› (by rfl))) ?_
          refine GoL.y rfl (Y.fieldAddrZ 23 Try.underlying25 rfl Try.sizeOf23 rfl) ?_
          refine GoL.y rfl (Y.ixA1 ro.toNat Try.underlying23 Try.sizeOf3 rfl rfl (by show ro = _; omega) (by omega)) ?_
          refine GoL.y rfl (Y.load Try.isAgg3 rfl (Cell.a (cnt_op (lenC _) (by omega)))) ?_
          refine GoL.y rfl (Y.addW rfl rfl) ?_
          refine GoL.y rfl (Y.fieldAddrZ 23 Try.underlying25 rfl Try.sizeOf23 rfl) ?_
          refine GoL.y rfl (Y.ixA1 ro.toNat Try.underlying23 Try.sizeOf3 rfl rfl (by show ro = _; omega) (by omega)) ?_
          refine GoL.does rfl (Does.st Try.sizeOf3 rfl rfl rfl (cnt_blt (lenC _) (by omega))) ?_
          rintro _ _ ⟨rfl, rfl⟩
          rw [set_op (lenC _) (by omega)]
          refine GoL.nil ?_
          refine GoE.midK () (by repeat (first | exact Top.base | refine Top.cons rfl ?_)) ?_ ?_ ?_
          · trivial
          · trivial
          · intro w s; rw [show st1 (countC (l.take k)) ⟨rt, ro, rx, ry, rr, rf⟩ = _ from if_pos ⟨h20, by show ro < 39; omega⟩]; exact fins (by repeat (first | exact Takes.nil | exact Take.here | apply Take.there | apply Takes.cons)) s
        · refine GoC.skip ?_
          refine GoE.midK () (by repeat (first | exact Top.base | refine Top.cons rfl ?_)) ?_ ?_ ?_
          · trivial
          · trivial
          · intro w s; rw [show st1 (countC (l.take k)) ⟨rt, ro, rx, ry, rr, rf⟩ = (countC (l.take k)) from if_neg (fun h => h24 (by have h' : ro < 39 := h.2; show ro ≤ 38; omega))]; exact fins (by repeat (first | exact Takes.nil | exact Take.here | apply Take.there | apply Takes.cons)) s
      · refine GoL.skip rfl rfl rfl rfl ?_
        refine GoL.skip rfl rfl rfl rfl ?_
        refine GoL.skip rfl rfl rfl rfl ?_
        refine GoL.y rfl (Y.pickF rfl rfl) ?_
        refine GoL.nil ?_
        refine GoE.then_normal ?_
        refine GoC.condF rfl ?_
        refine GoC.skip ?_
        refine GoE.midK () (by repeat (first | exact Top.base | refine Top.cons rfl ?_)) ?_ ?_ ?_
        · trivial
        · trivial
        · intro w s; rw [show st1 (countC (l.take k)) ⟨rt, ro, rx, ry, rr, rf⟩ = (countC (l.take k)) from if_neg (fun h => h20 h.1)]; exact fins (by repeat (first | exact Takes.nil | exact Take.here | apply Take.there | apply Takes.cons)) s
    · rintro ⟨⟩ -
      refine GoC.cutK (X := Unit) [33, 34, 35, 36, 37, 38] (fun _ => True) (fun _ => []) (fun _ => [arr b5 0 (recE ⟨rt, ro, rx, ry, rr, rf⟩), arr b3 0 (cntV (stO (st1 (countC (l.take k)) ⟨rt, ro, rx, ry, rr, rf⟩) ⟨rt, ro, rx, ry, rr, rf⟩)), arr b2 0 [.int .i64 0, .int .i64 0, .int .i64 0, .int .i64 0, .int .i64 0, .int .i64 0, .int .i64 0, .int .i64 0, .int .i64 0, .int .i64 0, .int .i64 0, .int .i64 0, .int .i64 0, .int .i64 0, .int .i64 0, .int .i64 0, .int .i64 0, .int .i64 0, .int .i64 0, .int .i64 0, .int .i64 0, .int .i64 0, .int .i64 0, .int .i64 0, .int .i64 0, .int .i64 0, .int .i64 0, .int .i64 0, .int .i64 0, .int .i64 0, .int .i64 0, .int .i64 0, .int .i64 0, .int .i64 0, .int .i64 0, .int .i64 0, .int .i64 0, .int .i64 0, .int .i64 0, .int .i64 0, .int .i64 0, .int .i64 0], A, F]) ?_ ?_
      · refine GoC.seq ?_
        refine GoC.region ?_
        first
          | refine GoL.y rfl (Y.fieldAddr0 5 4 Try.underlying41 rfl Try.sizeOf4 rfl) ?_
          | refine GoL.y rfl (Y.fieldAddr 5 4 Try.underlying41 rfl Try.sizeOf4 rfl) ?_
        first
          | refine GoL.y rfl (Y.load Try.isAgg4 rfl (Cell.a (by rfl))) ?_
          | refine GoL.y rfl (Y.load Try.isAgg4 rfl (Cell.rd0 Rd.s ‹_› (by rfl))) ?_
          | refine GoL.y rfl (Y.load Try.isAgg4 rfl (Cell.rd Rd.s ‹_› (by rfl))) ?_
          | refine GoL.y rfl (Y.load Try.isAgg4 rfl (Cell.ao (by rfl))) ?_
          | refine GoL.y rfl (Y.load Try.isAgg4 rfl (Cell.az (by rfl))) ?_
          | refine GoL.y rfl (Y.load Try.isAgg4 rfl (Cell.a ‹_›)) ?_
          | refine GoL.y rfl (Y.load Try.isAgg4 rfl (Cell.rd0 ‹_› ‹_› (by rfl))) ?_
          | refine GoL.y rfl (Y.load Try.isAgg4 rfl (Cell.rd ‹_› ‹_› (by rfl))) ?_
        refine GoL.nil ?_
        refine GoE.then_normal ?_
        refine GoC.cond rfl (fun h34 => ?_) (fun h34 => ?_)
        · refine GoC.region ?_
          first
            | refine GoL.y rfl (Y.fieldAddr0 40 3 Try.underlying25 rfl Try.sizeOf3 rfl) ?_
            | refine GoL.y rfl (Y.fieldAddr 40 3 Try.underlying25 rfl Try.sizeOf3 rfl) ?_
          refine GoL.y rfl (Y.load Try.isAgg3 rfl (Cell.a (cnt_o (len1 (lenC _))))) ?_
          refine GoL.y rfl (Y.addW rfl rfl) ?_
          first
            | refine GoL.y rfl (Y.fieldAddr0 40 3 Try.underlying25 rfl Try.sizeOf3 rfl) ?_
            | refine GoL.y rfl (Y.fieldAddr 40 3 Try.underlying25 rfl Try.sizeOf3 rfl) ?_
          refine GoL.does rfl (Does.st Try.sizeOf3 rfl rfl rfl (cnt_blt (len1 (lenC _)) (by omega))) ?_
          rintro _ _ ⟨rfl, rfl⟩
          rw [set_o (len1 (lenC _))]
          refine GoL.nil ?_
          refine GoE.midK () (by repeat (first | exact Top.base | refine Top.cons rfl ?_)) ?_ ?_ ?_
          · trivial
          · trivial
          · intro w s; rw [show stO (st1 (countC (l.take k)) ⟨rt, ro, rx, ry, rr, rf⟩) ⟨rt, ro, rx, ry, rr, rf⟩ = _ from if_pos h34]; exact fins (by repeat (first | exact Takes.nil | exact Take.here | apply Take.there | apply Takes.cons)) s
        · refine GoC.skip ?_
          refine GoE.midK () (by repeat (first | exact Top.base | refine Top.cons rfl ?_)) ?_ ?_ ?_
          · trivial
          · trivial
          · intro w s; rw [show stO (st1 (countC (l.take k)) ⟨rt, ro, rx, ry, rr, rf⟩) ⟨rt, ro, rx, ry, rr, rf⟩ = (st1 (countC (l.take k)) ⟨rt, ro, rx, ry, rr, rf⟩) from if_neg (fun h => by rw [h34] at h; cases h)]; exact fins (by repeat (first | exact Takes.nil | exact Take.here | apply Take.there | apply Takes.cons)) s
      · rintro ⟨⟩ -
        refine GoC.cutK (X := Unit) [39, 40, 41, 42, 43, 44, 45] (fun _ => True) (fun _ => []) (fun _ => [arr b5 0 (recE ⟨rt, ro, rx, ry, rr, rf⟩), arr b3 0 (cntV (stB (stO (st1 (countC (l.take k)) ⟨rt, ro, rx, ry, rr, rf⟩) ⟨rt, ro, rx, ry, rr, rf⟩) ⟨rt, ro, rx, ry, rr, rf⟩)), arr b2 0 [.int .i64 0, .int .i64 0, .int .i64 0, .int .i64 0, .int .i64 0, .int .i64 0, .int .i64 0, .int .i64 0, .int .i64 0, .int .i64 0, .int .i64 0, .int .i64 0, .int .i64 0, .int .i64 0, .int .i64 0, .int .i64 0, .int .i64 0, .int .i64 0, .int .i64 0, .int .i64 0, .int .i64 0, .int .i64 0, .int .i64 0, .int .i64 0, .int .i64 0, .int .i64 0, .int .i64 0, .int .i64 0, .int .i64 0, .int .i64 0, .int .i64 0, .int .i64 0, .int .i64 0, .int .i64 0, .int .i64 0, .int .i64 0, .int .i64 0, .int .i64 0, .int .i64 0, .int .i64 0, .int .i64 0, .int .i64 0], A, F]) ?_ ?_
        · refine GoC.seq ?_
          refine GoC.region ?_
          first
            | refine GoL.y rfl (Y.fieldAddr0 5 4 Try.underlying41 rfl Try.sizeOf4 rfl) ?_
            | refine GoL.y rfl (Y.fieldAddr 5 4 Try.underlying41 rfl Try.sizeOf4 rfl) ?_
          first
            | refine GoL.y rfl (Y.load Try.isAgg4 rfl (Cell.a (by rfl))) ?_
            | refine GoL.y rfl (Y.load Try.isAgg4 rfl (Cell.rd0 Rd.s ‹_› (by rfl))) ?_
            | refine GoL.y rfl (Y.load Try.isAgg4 rfl (Cell.rd Rd.s ‹_› (by rfl))) ?_
            | refine GoL.y rfl (Y.load Try.isAgg4 rfl (Cell.ao (by rfl))) ?_
            | refine GoL.y rfl (Y.load Try.isAgg4 rfl (Cell.az (by rfl))) ?_
            | refine GoL.y rfl (Y.load Try.isAgg4 rfl (Cell.a ‹_›)) ?_
            | refine GoL.y rfl (Y.load Try.isAgg4 rfl (Cell.rd0 ‹_› ‹_› (by rfl))) ?_
            | refine GoL.y rfl (Y.load Try.isAgg4 rfl (Cell.rd ‹_› ‹_› (by rfl))) ?_
          first
            | refine GoL.y rfl (Y.notD rfl) ?_
            | refine GoL.y rfl (Y.not rfl) ?_
          refine GoL.nil ?_
          refine GoE.then_normal ?_
          refine GoC.cond rfl (fun h41 => ?_) (fun h41 => ?_)
          · refine GoC.region ?_
            first
              | refine GoL.y rfl (Y.fieldAddr0 39 3 Try.underlying25 rfl Try.sizeOf3 rfl) ?_
              | refine GoL.y rfl (Y.fieldAddr 39 3 Try.underlying25 rfl Try.sizeOf3 rfl) ?_
            refine GoL.y rfl (Y.load Try.isAgg3 rfl (Cell.a (cnt_b (lenO (len1 (lenC _)))))) ?_
            refine GoL.y rfl (Y.addW rfl rfl) ?_
            first
              | refine GoL.y rfl (Y.fieldAddr0 39 3 Try.underlying25 rfl Try.sizeOf3 rfl) ?_
              | refine GoL.y rfl (Y.fieldAddr 39 3 Try.underlying25 rfl Try.sizeOf3 rfl) ?_
            refine GoL.does rfl (Does.st Try.sizeOf3 rfl rfl rfl (cnt_blt (lenO (len1 (lenC _))) (by omega))) ?_
            rintro _ _ ⟨rfl, rfl⟩
            rw [set_b (lenO (len1 (lenC _)))]
            refine GoL.nil ?_
            refine GoE.midK () (by repeat (first | exact Top.base | refine Top.cons rfl ?_)) ?_ ?_ ?_
            · trivial
            · trivial
            · intro w s; rw [show stB (stO (st1 (countC (l.take k)) ⟨rt, ro, rx, ry, rr, rf⟩) ⟨rt, ro, rx, ry, rr, rf⟩) ⟨rt, ro, rx, ry, rr, rf⟩ = _ from if_neg (fun h => by rw [show rf = true from h] at h41; cases h41)]; exact fins (by repeat (first | exact Takes.nil | exact Take.here | apply Take.there | apply Takes.cons)) s
          · refine GoC.skip ?_
            refine GoE.midK () (by repeat (first | exact Top.base | refine Top.cons rfl ?_)) ?_ ?_ ?_
            · trivial
            · trivial
            · intro w s; rw [show stB (stO (st1 (countC (l.take k)) ⟨rt, ro, rx, ry, rr, rf⟩) ⟨rt, ro, rx, ry, rr, rf⟩) ⟨rt, ro, rx, ry, rr, rf⟩ = (stO (st1 (countC (l.take k)) ⟨rt, ro, rx, ry, rr, rf⟩) ⟨rt, ro, rx, ry, rr, rf⟩) from if_pos (by have h41' : (!rf) = false := h41; show rf = true; cases rf <;> first | rfl | cases h41')]; exact fins (by repeat (first | exact Takes.nil | exact Take.here | apply Take.there | apply Takes.cons)) s
        · rintro ⟨⟩ -
          refine GoC.seq ?_
          refine GoC.region ?_
          first
            | refine GoL.y rfl (Y.fieldAddr0 4 39 Try.underlying41 rfl Try.sizeOf39 rfl) ?_
            | refine GoL.y rfl (Y.fieldAddr 4 39 Try.underlying41 rfl Try.sizeOf39 rfl) ?_
          first
            | refine GoL.y rfl (Y.load Try.isAgg39 rfl (Cell.a (by rfl))) ?_
            | refine GoL.y rfl (Y.load Try.isAgg39 rfl (Cell.rd0 Rd.s ‹_› (by rfl))) ?_
            | refine GoL.y rfl (Y.load Try.isAgg39 rfl (Cell.rd Rd.s ‹_› (by rfl))) ?_
            | refine GoL.y rfl (Y.load Try.isAgg39 rfl (Cell.ao (by rfl))) ?_
            | refine GoL.y rfl (Y.load Try.isAgg39 rfl (Cell.az (by rfl))) ?_
            | refine GoL.y rfl (Y.load Try.isAgg39 rfl (Cell.a ‹_›)) ?_
            | refine GoL.y rfl (Y.load Try.isAgg39 rfl (Cell.rd0 ‹_› ‹_› (by rfl))) ?_
            | refine GoL.y rfl (Y.load Try.isAgg39 rfl (Cell.rd ‹_› ‹_› (by rfl))) ?_
          refine GoL.y rfl (Y.neq rfl rfl) ?_
          refine GoL.nil ?_
          refine GoE.then_normal ?_
          refine GoC.condD rfl (fun h48 => ?_) (fun h48 => ?_)
          · refine GoC.region ?_
            first
              | refine GoL.y rfl (Y.fieldAddr0 41 3 Try.underlying25 rfl Try.sizeOf3 rfl) ?_
              | refine GoL.y rfl (Y.fieldAddr 41 3 Try.underlying25 rfl Try.sizeOf3 rfl) ?_
            refine GoL.y rfl (Y.load Try.isAgg3 rfl (Cell.a (cnt_e (lenB (lenO (len1 (lenC _))))))) ?_
            refine GoL.y rfl (Y.addW rfl rfl) ?_
            first
              | refine GoL.y rfl (Y.fieldAddr0 41 3 Try.underlying25 rfl Try.sizeOf3 rfl) ?_
              | refine GoL.y rfl (Y.fieldAddr 41 3 Try.underlying25 rfl Try.sizeOf3 rfl) ?_
            refine GoL.does rfl (Does.st Try.sizeOf3 rfl rfl rfl (cnt_blt (lenB (lenO (len1 (lenC _)))) (by omega))) ?_
            rintro _ _ ⟨rfl, rfl⟩
            rw [set_e (lenB (lenO (len1 (lenC _))))]
            refine GoL.nil ?_
            refine GoE.block_normal (GoE.then_normal ?_)
            refine GoC.region ?_
            refine GoL.y rfl (Y.move rfl) ?_
            first
              | refine GoL.y rfl (Y.inc rfl rfl (by omega)) ?_
              | refine GoL.y rfl (Y.add rfl rfl (by omega)) ?_
            refine GoL.y rfl (Y.assign rfl) ?_
            refine GoL.nil ?_
            refine GoE.againK (k + 1) (by repeat (first | exact Top.base | refine Top.cons rfl ?_)) rfl ?_ ?_ ?_ ?_
            · first | omega | (dsimp only; omega)
            · omega
            · exact ⟨rfl, trivial⟩
            · have e : countC (l.take (k + 1)) = _ := (by rw [take_snoc hx, count_snoc', addC_alt] : countC (l.take (k + 1)) = st3 (stB (stO (st1 (countC (l.take k)) ⟨rt, ro, rx, ry, rr, rf⟩) ⟨rt, ro, rx, ry, rr, rf⟩) ⟨rt, ro, rx, ry, rr, rf⟩) ⟨rt, ro, rx, ry, rr, rf⟩)
              intro w s; rw [e, show st3 (stB (stO (st1 (countC (l.take k)) ⟨rt, ro, rx, ry, rr, rf⟩) ⟨rt, ro, rx, ry, rr, rf⟩) ⟨rt, ro, rx, ry, rr, rf⟩) ⟨rt, ro, rx, ry, rr, rf⟩ = _ from if_pos h48]; exact fins (by repeat (first | exact Takes.nil | exact Take.here | apply Take.there | apply Takes.cons)) s
          · refine GoC.skip ?_
            refine GoE.block_normal (GoE.then_normal ?_)
            refine GoC.region ?_
            refine GoL.y rfl (Y.move rfl) ?_
            first
              | refine GoL.y rfl (Y.inc rfl rfl (by omega)) ?_
              | refine GoL.y rfl (Y.add rfl rfl (by omega)) ?_
            refine GoL.y rfl (Y.assign rfl) ?_
            refine GoL.nil ?_
            refine GoE.againK (k + 1) (by repeat (first | exact Top.base | refine Top.cons rfl ?_)) rfl ?_ ?_ ?_ ?_
            · first | omega | (dsimp only; omega)
            · omega
            · exact ⟨rfl, trivial⟩
            · have e : countC (l.take (k + 1)) = _ := (by rw [take_snoc hx, count_snoc', addC_alt] : countC (l.take (k + 1)) = st3 (stB (stO (st1 (countC (l.take k)) ⟨rt, ro, rx, ry, rr, rf⟩) ⟨rt, ro, rx, ry, rr, rf⟩) ⟨rt, ro, rx, ry, rr, rf⟩) ⟨rt, ro, rx, ry, rr, rf⟩)
              intro w s; rw [e, show st3 (stB (stO (st1 (countC (l.take k)) ⟨rt, ro, rx, ry, rr, rf⟩) ⟨rt, ro, rx, ry, rr, rf⟩) ⟨rt, ro, rx, ry, rr, rf⟩) ⟨rt, ro, rx, ry, rr, rf⟩ = _ from if_neg h48]; exact fins (by repeat (first | exact Takes.nil | exact Take.here | apply Take.there | apply Takes.cons)) s
  · refine GoC.exit ?_
    refine GoE.then_exit (GoE.then_exit (GoE.block_here (GoE.then_normal ?_)))
    refine GoC.seq ?_
    refine GoC.region ?_
    refine GoL.y rfl (Y.loadAgg Try.isAgg25 (by intro w; rw [cntV_length (lenC _)]; exact Try.sizeOf25 w) rfl Cells.a) ?_
    refine GoL.does rfl (Does.sta (by intro w; rw [cntV_length (lenC _)]; exact Try.sizeOf25 w) rfl rfl (cntV_one _) (by rw [cntV_length (lenC _)]; rfl)) ?_
    rintro _ _ ⟨rfl, rfl⟩
    refine GoL.nil ?_
    refine GoE.then_normal ?_
    refine GoC.ret ?_
    obtain rfl : k = l.length := by omega
    rw [List.take_length]
    refine GoE.retC rfl rfl Try.isAgg25 (by intro w; rw [cntV_length (lenC _)]; exact Try.sizeOf25 w) Cells.a fun w s => ⟨(), rfl, trivial, fin (by repeat (first | exact Takes.nil | exact Take.here | apply Take.there | apply Takes.cons)) s⟩

theorem meter_Sum {W : World} {x y : Cnt} (hx : x.ops.length = 39) (hy : y.ops.length = 39) : Fn Try.prog W 9 [.agg (cntV x).toArray, .agg (cntV y).toArray] [] Unit (fun _ => .agg (cntV (sumC x y)).toArray) (fun _ => True) (fun _ => []) := by
  refine Fn.intro (N := 41) Try.func9 rfl Try.ntmps9 rfl fun F => ?_
  show GoC _ _ _ _ _ _ [F]
  refine GoC.seq ?_
  refine GoC.region ?_
  refine GoL.does rfl (Does.box rfl rfl rfl) ?_
  rintro _ _ ⟨b2, rfl, rfl⟩
  refine GoL.does rfl (Does.box rfl rfl rfl) ?_
  rintro _ _ ⟨b3, rfl, rfl⟩
  refine GoL.does rfl (Does.alloc rfl Try.zeroValue25 rfl) ?_
  rintro _ _ ⟨b4, rfl, rfl⟩
  refine GoL.nil ?_
  refine GoE.then_normal ?_
  refine GoC.seq ?_
  refine GoC.seq ?_
  refine GoC.region ?_
  refine GoL.y rfl (Y.fieldAddrZ 23 Try.underlying25 rfl Try.sizeOf23 rfl) ?_
  refine GoL.y rfl (Y.loadAgg Try.isAgg23 (by intro w; rw [List.length_map, hy]; exact Try.sizeOf23 w) rfl (Cells.left Cells.a)) ?_
  refine GoL.y rfl (Y.move rfl) ?_
  refine GoL.nil ?_
  refine GoE.then_normal ?_
  refine GoC.block ?_
  refine GoC.loopK (X := Nat) [5, 6, 9, 10, 11, 12, 13, 14, 15, 16, 17, 18, 19, 20, 21] (fun k => 39 - k) (fun k => k ≤ 39) (fun k => [(9, some (.int .i64 (k : Int)))]) (fun k => [arr b4 0 [.int .i64 0, .int .i64 0, .int .i64 0, .int .i64 0, .int .i64 0, .int .i64 0, .int .i64 0, .int .i64 0, .int .i64 0, .int .i64 0, .int .i64 0, .int .i64 0, .int .i64 0, .int .i64 0, .int .i64 0, .int .i64 0, .int .i64 0, .int .i64 0, .int .i64 0, .int .i64 0, .int .i64 0, .int .i64 0, .int .i64 0, .int .i64 0, .int .i64 0, .int .i64 0, .int .i64 0, .int .i64 0, .int .i64 0, .int .i64 0, .int .i64 0, .int .i64 0, .int .i64 0, .int .i64 0, .int .i64 0, .int .i64 0, .int .i64 0, .int .i64 0, .int .i64 0, .int .i64 0, .int .i64 0, .int .i64 0], arr b3 0 (cntV y), arr b2 0 (cntV (mixC x y k)), F]) 0 ?_ ?_ ?_ ?_
  · exact Nat.zero_le _
  · exact ⟨rfl, trivial⟩
  · intro w s; rw [mix_zero]; exact fins (by repeat (first | exact Takes.nil | exact Take.here | apply Take.there | apply Takes.cons)) s
  rintro k hk
  refine GoC.seq ?_
  refine GoC.region ?_
  refine GoL.y rfl (Y.lss rfl rfl) ?_
  refine GoL.nil ?_
  refine GoE.then_normal ?_
  refine GoC.seq ?_
  refine GoC.condD rfl (fun h10 => ?_) (fun h10 => ?_)
  · refine GoC.skip ?_
    refine GoE.then_normal ?_
    refine GoC.seq ?_
    refine GoC.block ?_
    refine GoC.seq ?_
    refine GoC.region ?_
    refine GoL.y rfl (Y.move rfl) ?_
    refine GoL.y rfl (Y.indexA k Try.underlying23 Try.isAgg3 Try.sizeOf3 rfl rfl rfl (by omega) (show _ = some (Value.int .i64 (y.ops.getD k 0)) by rw [List.getElem?_toArray, List.getElem?_map, List.getD_eq_getElem?_getD, List.getElem?_eq_getElem (by omega)]; rfl)) ?_
    refine GoL.y rfl (Y.assign rfl) ?_
    refine GoL.y rfl (Y.assign rfl) ?_
    refine GoL.nil ?_
    refine GoE.then_normal ?_
    refine GoC.region ?_
    refine GoL.y rfl (Y.move rfl) ?_
    refine GoL.y rfl (Y.fieldAddrZ 23 Try.underlying25 rfl Try.sizeOf23 rfl) ?_
    refine GoL.y rfl (Y.ixA1 k Try.underlying23 Try.sizeOf3 rfl rfl rfl (by omega)) ?_
    refine GoL.y rfl (Y.load Try.isAgg3 rfl (Cell.a (cnt_op (mix_len hx hy (by omega)) (by omega)))) ?_
    refine GoL.y rfl (Y.move rfl) ?_
    refine GoL.y rfl (Y.addW rfl rfl) ?_
    refine GoL.y rfl (Y.fieldAddrZ 23 Try.underlying25 rfl Try.sizeOf23 rfl) ?_
    refine GoL.y rfl (Y.ixA1 k Try.underlying23 Try.sizeOf3 rfl rfl rfl (by omega)) ?_
    refine GoL.does rfl (Does.st Try.sizeOf3 rfl rfl rfl (cnt_blt (mix_len hx hy (by omega)) (by omega))) ?_
    rintro _ _ ⟨rfl, rfl⟩
    rw [set_op (mix_len hx hy (by omega)) (by omega), mix_get hx hy (by omega)]
    have hms := mix_set hx hy (k := k) (by omega)
    unfold w64 at hms
    rw [hms]
    refine GoL.nil ?_
    refine GoE.block_normal (GoE.then_normal ?_)
    refine GoC.region ?_
    first
      | refine GoL.y rfl (Y.inc rfl rfl (by omega)) ?_
      | refine GoL.y rfl (Y.add rfl rfl (by omega)) ?_
    refine GoL.y rfl (Y.move rfl) ?_
    refine GoL.nil ?_
    refine GoE.againK (k + 1) (by repeat (first | exact Top.base | refine Top.cons rfl ?_)) rfl ?_ ?_ ?_ ?_
    · first | omega | (dsimp only; omega)
    · omega
    · exact ⟨rfl, trivial⟩
    · exact fun w s => fins (by repeat (first | exact Takes.nil | exact Take.here | apply Take.there | apply Takes.cons)) s
  · refine GoC.exit ?_
    refine GoE.then_exit (GoE.then_exit (GoE.block_here (GoE.then_normal ?_)))
    refine GoC.seq ?_
    refine GoC.region ?_
    obtain rfl : k = 39 := by omega
    rw [mix_all hx hy]
    first
      | refine GoL.y rfl (Y.fieldAddr0 39 3 Try.underlying25 rfl Try.sizeOf3 rfl) ?_
      | refine GoL.y rfl (Y.fieldAddr 39 3 Try.underlying25 rfl Try.sizeOf3 rfl) ?_
    refine GoL.y rfl (Y.load Try.isAgg3 rfl (Cell.a (cnt_b (show (Cnt.mk ((sumC x y).ops) (x.begun) (x.over) (x.errors)).ops.length = 39 from sumC_len hx hy)))) ?_
    first
      | refine GoL.y rfl (Y.fieldAddr0 39 3 Try.underlying25 rfl Try.sizeOf3 rfl) ?_
      | refine GoL.y rfl (Y.fieldAddr 39 3 Try.underlying25 rfl Try.sizeOf3 rfl) ?_
    refine GoL.y rfl (Y.load Try.isAgg3 rfl (Cell.a (cnt_b hy))) ?_
    refine GoL.y rfl (Y.addW rfl rfl) ?_
    first
      | refine GoL.y rfl (Y.fieldAddr0 39 3 Try.underlying25 rfl Try.sizeOf3 rfl) ?_
      | refine GoL.y rfl (Y.fieldAddr 39 3 Try.underlying25 rfl Try.sizeOf3 rfl) ?_
    refine GoL.does rfl (Does.st Try.sizeOf3 rfl rfl rfl (cnt_blt (show (Cnt.mk ((sumC x y).ops) (x.begun) (x.over) (x.errors)).ops.length = 39 from sumC_len hx hy) (by omega))) ?_
    rintro _ _ ⟨rfl, rfl⟩
    rw [set_b (show (Cnt.mk ((sumC x y).ops) (x.begun) (x.over) (x.errors)).ops.length = 39 from sumC_len hx hy)]
    refine GoL.nil ?_
    refine GoE.then_normal ?_
    refine GoC.seq ?_
    refine GoC.region ?_
    first
      | refine GoL.y rfl (Y.fieldAddr0 40 3 Try.underlying25 rfl Try.sizeOf3 rfl) ?_
      | refine GoL.y rfl (Y.fieldAddr 40 3 Try.underlying25 rfl Try.sizeOf3 rfl) ?_
    refine GoL.y rfl (Y.load Try.isAgg3 rfl (Cell.a (cnt_o (show (Cnt.mk ((sumC x y).ops) (w64 (x.begun + y.begun)) (x.over) (x.errors)).ops.length = 39 from sumC_len hx hy)))) ?_
    first
      | refine GoL.y rfl (Y.fieldAddr0 40 3 Try.underlying25 rfl Try.sizeOf3 rfl) ?_
      | refine GoL.y rfl (Y.fieldAddr 40 3 Try.underlying25 rfl Try.sizeOf3 rfl) ?_
    refine GoL.y rfl (Y.load Try.isAgg3 rfl (Cell.a (cnt_o hy))) ?_
    refine GoL.y rfl (Y.addW rfl rfl) ?_
    first
      | refine GoL.y rfl (Y.fieldAddr0 40 3 Try.underlying25 rfl Try.sizeOf3 rfl) ?_
      | refine GoL.y rfl (Y.fieldAddr 40 3 Try.underlying25 rfl Try.sizeOf3 rfl) ?_
    refine GoL.does rfl (Does.st Try.sizeOf3 rfl rfl rfl (cnt_blt (show (Cnt.mk ((sumC x y).ops) (w64 (x.begun + y.begun)) (x.over) (x.errors)).ops.length = 39 from sumC_len hx hy) (by omega))) ?_
    rintro _ _ ⟨rfl, rfl⟩
    first | rw [set_o (show (Cnt.mk ((sumC x y).ops) (w64 (x.begun + y.begun)) (x.over) (x.errors)).ops.length = 39 from sumC_len hx hy)] | rw [set_o (c := Cnt.mk (sumC x y).ops (IntKind.i64.wrap (x.begun + y.begun)) x.over x.errors) (show (Cnt.mk ((sumC x y).ops) (w64 (x.begun + y.begun)) (x.over) (x.errors)).ops.length = 39 from sumC_len hx hy)]
    refine GoL.nil ?_
    refine GoE.then_normal ?_
    refine GoC.seq ?_
    refine GoC.region ?_
    first
      | refine GoL.y rfl (Y.fieldAddr0 41 3 Try.underlying25 rfl Try.sizeOf3 rfl) ?_
      | refine GoL.y rfl (Y.fieldAddr 41 3 Try.underlying25 rfl Try.sizeOf3 rfl) ?_
    refine GoL.y rfl (Y.load Try.isAgg3 rfl (Cell.a (cnt_e (show (Cnt.mk ((sumC x y).ops) (w64 (x.begun + y.begun)) (w64 (x.over + y.over)) (x.errors)).ops.length = 39 from sumC_len hx hy)))) ?_
    first
      | refine GoL.y rfl (Y.fieldAddr0 41 3 Try.underlying25 rfl Try.sizeOf3 rfl) ?_
      | refine GoL.y rfl (Y.fieldAddr 41 3 Try.underlying25 rfl Try.sizeOf3 rfl) ?_
    refine GoL.y rfl (Y.load Try.isAgg3 rfl (Cell.a (cnt_e hy))) ?_
    refine GoL.y rfl (Y.addW rfl rfl) ?_
    first
      | refine GoL.y rfl (Y.fieldAddr0 41 3 Try.underlying25 rfl Try.sizeOf3 rfl) ?_
      | refine GoL.y rfl (Y.fieldAddr 41 3 Try.underlying25 rfl Try.sizeOf3 rfl) ?_
    refine GoL.does rfl (Does.st Try.sizeOf3 rfl rfl rfl (cnt_blt (show (Cnt.mk ((sumC x y).ops) (w64 (x.begun + y.begun)) (w64 (x.over + y.over)) (x.errors)).ops.length = 39 from sumC_len hx hy) (by omega))) ?_
    rintro _ _ ⟨rfl, rfl⟩
    first | rw [set_e (show (Cnt.mk ((sumC x y).ops) (w64 (x.begun + y.begun)) (w64 (x.over + y.over)) (x.errors)).ops.length = 39 from sumC_len hx hy)] | rw [set_e (c := Cnt.mk (sumC x y).ops (IntKind.i64.wrap (x.begun + y.begun)) (IntKind.i64.wrap (x.over + y.over)) x.errors) (show (Cnt.mk ((sumC x y).ops) (w64 (x.begun + y.begun)) (w64 (x.over + y.over)) (x.errors)).ops.length = 39 from sumC_len hx hy)]
    refine GoL.nil ?_
    refine GoE.then_normal ?_
    refine GoC.seq ?_
    refine GoC.region ?_
    refine GoL.y rfl (Y.loadAgg Try.isAgg25 (by intro w; rw [cntV_length]; exact Try.sizeOf25 w; exact sumC_len hx hy) rfl Cells.a) ?_
    refine GoL.does rfl (Does.sta (by intro w; rw [cntV_length]; exact Try.sizeOf25 w; exact sumC_len hx hy) rfl rfl (cntV_one _) (by rw [cntV_length]; rfl; exact sumC_len hx hy)) ?_
    rintro _ _ ⟨rfl, rfl⟩
    refine GoL.nil ?_
    refine GoE.then_normal ?_
    refine GoC.ret ?_
    refine GoE.retC rfl rfl Try.isAgg25 (by intro w; rw [cntV_length]; exact Try.sizeOf25 w; exact sumC_len hx hy) Cells.a fun w s => ⟨(), rfl, trivial, fin (by repeat (first | exact Takes.nil | exact Take.here | apply Take.there | apply Takes.cons)) s⟩

theorem Check_empty {W : World}  : Fn Try.prog W 13 [.agg #[.slice none 0 0, .int .i64 0, .int .i64 0, .int .i64 0, .slice none 0 0, .slice none 0 0, .int .i64 0, .int .i64 0]] [] Unit (fun _ => .int .i64 9) (fun _ => True) (fun _ => []) := by
  refine Fn.intro (N := 164) Try.func13 rfl Try.ntmps13 rfl fun F => ?_
  show GoC _ _ _ _ _ _ [F]
  refine GoC.seq ?_
  refine GoC.region ?_
  refine GoL.does rfl (Does.box rfl rfl rfl) ?_
  rintro _ _ ⟨b1, rfl, rfl⟩
  refine GoL.y rfl (Y.assign rfl) ?_
  refine GoL.nil ?_
  refine GoE.then_normal ?_
  refine GoC.seq ?_
  refine GoC.seq ?_
  refine GoC.region ?_
  refine GoL.y rfl (Y.fieldAddrZ 44 Try.underlying47 rfl Try.sizeOf44 rfl) ?_
  first
    | refine GoL.y rfl (Y.load Try.isAgg44 rfl (Cell.a (by rfl))) ?_
    | refine GoL.y rfl (Y.load Try.isAgg44 rfl (Cell.rd0 Rd.s ‹_› (by rfl))) ?_
    | refine GoL.y rfl (Y.load Try.isAgg44 rfl (Cell.rd Rd.s ‹_› (by rfl))) ?_
    | refine GoL.y rfl (Y.load Try.isAgg44 rfl (Cell.ao (by rfl))) ?_
    | refine GoL.y rfl (Y.load Try.isAgg44 rfl (Cell.az (by rfl))) ?_
    | refine GoL.y rfl (Y.load Try.isAgg44 rfl (Cell.a ‹_›)) ?_
    | refine GoL.y rfl (Y.load Try.isAgg44 rfl (Cell.rd0 ‹_› ‹_› (by rfl))) ?_
    | refine GoL.y rfl (Y.load Try.isAgg44 rfl (Cell.rd ‹_› ‹_› (by rfl))) ?_
  refine GoL.y rfl (Y.lenSlice Try.underlying44 rfl) ?_
  refine GoL.y rfl (Y.eql rfl rfl) ?_
  refine GoL.y rfl (Y.move rfl) ?_
  refine GoL.partD (t := 12) rfl (fun h12 => ?_) (fun h12 => ?_)
  · refine GoL.skip rfl rfl rfl rfl ?_
    refine GoL.skip rfl rfl rfl rfl ?_
    refine GoL.skip rfl rfl rfl rfl ?_
    refine GoL.skip rfl rfl rfl rfl ?_
    refine GoL.y rfl (Y.pickT rfl rfl) ?_
    refine GoL.y rfl (Y.move rfl) ?_
    refine GoL.skip rfl rfl rfl rfl ?_
    refine GoL.skip rfl rfl rfl rfl ?_
    refine GoL.skip rfl rfl rfl rfl ?_
    refine GoL.y rfl (Y.pickT rfl rfl) ?_
    refine GoL.y rfl (Y.move rfl) ?_
    refine GoL.skip rfl rfl rfl rfl ?_
    refine GoL.skip rfl rfl rfl rfl ?_
    refine GoL.skip rfl rfl rfl rfl ?_
    refine GoL.y rfl (Y.pickT rfl rfl) ?_
    refine GoL.y rfl (Y.move rfl) ?_
    refine GoL.skip rfl rfl rfl rfl ?_
    refine GoL.skip rfl rfl rfl rfl ?_
    refine GoL.skip rfl rfl rfl rfl ?_
    refine GoL.y rfl (Y.pickT rfl rfl) ?_
    refine GoL.y rfl (Y.move rfl) ?_
    refine GoL.skip rfl rfl rfl rfl ?_
    refine GoL.skip rfl rfl rfl rfl ?_
    refine GoL.skip rfl rfl rfl rfl ?_
    refine GoL.y rfl (Y.pickT rfl rfl) ?_
    refine GoL.y rfl (Y.move rfl) ?_
    refine GoL.skip rfl rfl rfl rfl ?_
    refine GoL.skip rfl rfl rfl rfl ?_
    refine GoL.skip rfl rfl rfl rfl ?_
    refine GoL.y rfl (Y.pickT rfl rfl) ?_
    refine GoL.y rfl (Y.move rfl) ?_
    refine GoL.skip rfl rfl rfl rfl ?_
    refine GoL.skip rfl rfl rfl rfl ?_
    refine GoL.skip rfl rfl rfl rfl ?_
    refine GoL.y rfl (Y.pickT rfl rfl) ?_
    refine GoL.y rfl (Y.move rfl) ?_
    refine GoL.skip rfl rfl rfl rfl ?_
    refine GoL.skip rfl rfl rfl rfl ?_
    refine GoL.skip rfl rfl rfl rfl ?_
    refine GoL.skip rfl rfl rfl rfl ?_
    refine GoL.y rfl (Y.pickT rfl rfl) ?_
    refine GoL.y rfl (Y.move rfl) ?_
    refine GoL.skip rfl rfl rfl rfl ?_
    refine GoL.skip rfl rfl rfl rfl ?_
    refine GoL.skip rfl rfl rfl rfl ?_
    refine GoL.skip rfl rfl rfl rfl ?_
    refine GoL.y rfl (Y.pickT rfl rfl) ?_
    refine GoL.y rfl (Y.move rfl) ?_
    refine GoL.skip rfl rfl rfl rfl ?_
    refine GoL.skip rfl rfl rfl rfl ?_
    refine GoL.skip rfl rfl rfl rfl ?_
    refine GoL.y rfl (Y.pickT rfl rfl) ?_
    refine GoL.y rfl (Y.move rfl) ?_
    refine GoL.skip rfl rfl rfl rfl ?_
    refine GoL.skip rfl rfl rfl rfl ?_
    refine GoL.skip rfl rfl rfl rfl ?_
    refine GoL.y rfl (Y.pickT rfl rfl) ?_
    refine GoL.y rfl (Y.move rfl) ?_
    refine GoL.skip rfl rfl rfl rfl ?_
    refine GoL.skip rfl rfl rfl rfl ?_
    refine GoL.skip rfl rfl rfl rfl ?_
    refine GoL.y rfl (Y.pickT rfl rfl) ?_
    refine GoL.y rfl (Y.move rfl) ?_
    refine GoL.skip rfl rfl rfl rfl ?_
    refine GoL.skip rfl rfl rfl rfl ?_
    refine GoL.skip rfl rfl rfl rfl ?_
    refine GoL.y rfl (Y.pickT rfl rfl) ?_
    refine GoL.nil ?_
    refine GoE.then_normal ?_
    refine GoC.condT rfl ?_
    refine GoC.seq ?_
    refine GoC.region ?_
    refine GoL.y rfl (Y.assign rfl) ?_
    refine GoL.nil ?_
    refine GoE.then_normal ?_
    refine GoC.ret ?_
    refine GoE.then_ret ?_
    exact GoE.ret1 rfl rfl fun w s => ⟨(), rfl, trivial, fin (by repeat (first | exact Takes.nil | exact Take.here | apply Take.there | apply Takes.cons)) s⟩
  · exact absurd rfl h12

def rs29 : List RecV := [⟨0, 36, 0, 0, 0, false⟩, ⟨0, 36, 0, 0, 0, true⟩, ⟨0, 99, 0, 0, 3, true⟩]
def as29 : List ActV := [⟨1, 0, 1, 0⟩, ⟨1, 2, 0, 0⟩, ⟨1, 0, 3, 0⟩]
def c29 : Cnt := ⟨[0, 0, 0, 0, 0, 0, 0, 0, 0, 0, 0, 0, 0, 0, 0, 0, 0, 0, 0, 0, 0, 0, 0, 0, 0, 0, 0, 0, 0, 0, 0, 0, 0, 0, 0, 0, 2, 0, 0], 1, 2, 1⟩
theorem rs29_len : ∀ x ∈ rs29, (recE x).length = 6 := fun _ _ => rfl
theorem as29_len : ∀ x ∈ as29, (actE x).length = 4 := fun _ _ => rfl

theorem awake29 {W : World}  : Fn Try.prog W 7 [] [] Unit (fun _ => .bool true) (fun _ => True) (fun _ => []) := by
  refine Fn.intro (N := 66) Try.func7 rfl Try.ntmps7 rfl fun F => ?_
  show GoC _ _ _ _ _ _ [F]
  refine GoC.seq ?_
  refine GoC.region ?_
  refine GoL.y rfl (Y.assign rfl) ?_
  refine GoL.nil ?_
  refine GoE.then_normal ?_
  refine GoC.seq ?_
  refine GoC.region ?_
  refine GoL.y rfl (Y.bld1 (fun v1 => [(.int .u64 0), v1, (.int .u64 0), (.int .u64 0), (.int .i64 0), (.bool false)]) rfl (by kernel_rfl)) ?_
  refine GoL.y rfl (Y.bld2 (fun v1 v2 => [(.int .u64 0), v1, (.int .u64 0), (.int .u64 0), (.int .i64 0), v2]) rfl rfl (by kernel_rfl)) ?_
  refine GoL.y rfl (Y.bld3 (fun v1 v2 v3 => [(.int .u64 0), v1, (.int .u64 0), (.int .u64 0), v2, v3]) rfl rfl rfl (by kernel_rfl)) ?_
  refine GoL.does rfl (Does.bsl 41 rfl rfl (by kernel_rfl)) ?_
  rintro _ _ ⟨b7, rfl, rfl⟩
  refine GoL.does rfl (Does.call rfl Try.call6 rfl (meter_Of (l := rs29) (show Rd W [arr b7 0 [.int .u64 0, .int .i64 36, .int .u64 0, .int .u64 0, .int .i64 0, .bool false, .int .u64 0, .int .i64 36, .int .u64 0, .int .u64 0, .int .i64 0, .bool true, .int .u64 0, .int .i64 99, .int .u64 0, .int .u64 0, .int .i64 3, .bool true]] recE 6 _ rs29 from Rd.lit .here rfl rs29_len rfl) (by decide)) (by repeat (first | exact Takes.nil | exact Take.here | apply Take.there | apply Takes.cons))) ?_
  rintro _ _ ⟨⟨⟩, -, rfl, rfl⟩
  rw [show countC rs29 = c29 from by kernel_rfl]
  refine GoL.does rfl (Does.alloc rfl Try.zeroValue25 rfl) ?_
  rintro _ _ ⟨b1, rfl, rfl⟩
  refine GoL.does rfl (Does.sta (by exact Try.sizeOf25) rfl rfl (cntV_one _) (by rfl)) ?_
  rintro _ _ ⟨rfl, rfl⟩
  refine GoL.nil ?_
  refine GoE.then_normal ?_
  refine GoC.seq ?_
  refine GoC.region ?_
  refine GoL.y rfl (Y.bld2 (fun v1 v2 => [v1, (.int .i64 0), v2, (.int .i64 0)]) rfl rfl (by kernel_rfl)) ?_
  refine GoL.y rfl (Y.bld2 (fun v1 v2 => [v1, v2, (.int .i64 0), (.int .i64 0)]) rfl rfl (by kernel_rfl)) ?_
  refine GoL.y rfl (Y.bld2 (fun v1 v2 => [v1, (.int .i64 0), v2, (.int .i64 0)]) rfl rfl (by kernel_rfl)) ?_
  refine GoL.does rfl (Does.bsl 34 rfl rfl (by kernel_rfl)) ?_
  rintro _ _ ⟨b12, rfl, rfl⟩
  refine GoL.y rfl (Y.assign rfl) ?_
  refine GoL.nil ?_
  refine GoE.then_normal ?_
  refine GoC.seq ?_
  refine GoC.region ?_
  refine GoL.y rfl (Y.move rfl) ?_
  refine GoL.does rfl (Does.call rfl Try.call10 rfl (Spread_fn (acts := as29) (sp := 0) (show Rd W [arr b12 0 [.int .i64 1, .int .i64 0, .int .i64 1, .int .i64 0, .int .i64 1, .int .i64 2, .int .i64 0, .int .i64 0, .int .i64 1, .int .i64 0, .int .i64 3, .int .i64 0]] actE 4 _ as29 from Rd.lit .here rfl as29_len rfl) (by decide)) (by repeat (first | exact Takes.nil | exact Take.here | apply Take.there | apply Takes.cons))) ?_
  rintro _ _ ⟨⟨⟩, -, rfl, rfl⟩
  rw [show (spr (runsOf 0 as29)).map (Value.int .i64) = [.int .i64 0, .int .i64 1, .int .i64 0, .int .i64 1, .int .i64 0, .int .i64 0, .int .i64 0, .int .i64 0, .int .i64 0, .int .i64 0, .int .i64 0, .int .i64 0, .int .i64 0, .int .i64 0, .int .i64 0, .int .i64 0] from by kernel_rfl]
  refine GoL.does rfl (Does.alloc rfl Try.zeroValue31 rfl) ?_
  rintro _ _ ⟨b3, rfl, rfl⟩
  first
    | refine GoL.does rfl (Does.sta (by exact Try.sizeOf31) rfl rfl rfl rfl) ?_
    | refine GoL.does rfl (Does.stp (by exact Try.sizeOf31) rfl rfl rfl rfl) ?_
  rintro _ _ ⟨rfl, rfl⟩
  refine GoL.nil ?_
  refine GoE.then_normal ?_
  refine GoC.seq ?_
  refine GoC.region ?_
  refine GoL.y rfl (Y.fieldAddrZ 23 Try.underlying25 rfl Try.sizeOf23 rfl) ?_
  refine GoL.y rfl (Y.ixArr _ Try.underlying23 Try.sizeOf3 rfl rfl rfl (by first | omega | decide)) ?_
  first
    | refine GoL.y rfl (Y.load Try.isAgg3 rfl (Cell.a (by rfl))) ?_
    | refine GoL.y rfl (Y.load Try.isAgg3 rfl (Cell.rd0 Rd.s ‹_› (by rfl))) ?_
    | refine GoL.y rfl (Y.load Try.isAgg3 rfl (Cell.rd Rd.s ‹_› (by rfl))) ?_
    | refine GoL.y rfl (Y.load Try.isAgg3 rfl (Cell.ao (by rfl))) ?_
    | refine GoL.y rfl (Y.load Try.isAgg3 rfl (Cell.az (by rfl))) ?_
    | refine GoL.y rfl (Y.load Try.isAgg3 rfl (Cell.a ‹_›)) ?_
    | refine GoL.y rfl (Y.load Try.isAgg3 rfl (Cell.rd0 ‹_› ‹_› (by rfl))) ?_
    | refine GoL.y rfl (Y.load Try.isAgg3 rfl (Cell.rd ‹_› ‹_› (by rfl))) ?_
  refine GoL.y rfl (Y.eql rfl rfl) ?_
  refine GoL.y rfl (Y.move rfl) ?_
  first
    | refine GoL.yg rfl rfl rfl (Y.fieldAddr0 39 3 Try.underlying25 rfl Try.sizeOf3 rfl) ?_
    | refine GoL.yg rfl rfl rfl (Y.fieldAddr 39 3 Try.underlying25 rfl Try.sizeOf3 rfl) ?_
  first
    | refine GoL.yg rfl rfl rfl (Y.load Try.isAgg3 rfl (Cell.a (by rfl))) ?_
    | refine GoL.yg rfl rfl rfl (Y.load Try.isAgg3 rfl (Cell.rd0 Rd.s ‹_› (by rfl))) ?_
    | refine GoL.yg rfl rfl rfl (Y.load Try.isAgg3 rfl (Cell.rd Rd.s ‹_› (by rfl))) ?_
    | refine GoL.yg rfl rfl rfl (Y.load Try.isAgg3 rfl (Cell.ao (by rfl))) ?_
    | refine GoL.yg rfl rfl rfl (Y.load Try.isAgg3 rfl (Cell.az (by rfl))) ?_
    | refine GoL.yg rfl rfl rfl (Y.load Try.isAgg3 rfl (Cell.a ‹_›)) ?_
    | refine GoL.yg rfl rfl rfl (Y.load Try.isAgg3 rfl (Cell.rd0 ‹_› ‹_› (by rfl))) ?_
    | refine GoL.yg rfl rfl rfl (Y.load Try.isAgg3 rfl (Cell.rd ‹_› ‹_› (by rfl))) ?_
  refine GoL.yg rfl rfl rfl (Y.eql rfl rfl) ?_
  refine GoL.y rfl (Y.pickT rfl rfl) ?_
  refine GoL.y rfl (Y.move rfl) ?_
  first
    | refine GoL.yg rfl rfl rfl (Y.fieldAddr0 40 3 Try.underlying25 rfl Try.sizeOf3 rfl) ?_
    | refine GoL.yg rfl rfl rfl (Y.fieldAddr 40 3 Try.underlying25 rfl Try.sizeOf3 rfl) ?_
  first
    | refine GoL.yg rfl rfl rfl (Y.load Try.isAgg3 rfl (Cell.a (by rfl))) ?_
    | refine GoL.yg rfl rfl rfl (Y.load Try.isAgg3 rfl (Cell.rd0 Rd.s ‹_› (by rfl))) ?_
    | refine GoL.yg rfl rfl rfl (Y.load Try.isAgg3 rfl (Cell.rd Rd.s ‹_› (by rfl))) ?_
    | refine GoL.yg rfl rfl rfl (Y.load Try.isAgg3 rfl (Cell.ao (by rfl))) ?_
    | refine GoL.yg rfl rfl rfl (Y.load Try.isAgg3 rfl (Cell.az (by rfl))) ?_
    | refine GoL.yg rfl rfl rfl (Y.load Try.isAgg3 rfl (Cell.a ‹_›)) ?_
    | refine GoL.yg rfl rfl rfl (Y.load Try.isAgg3 rfl (Cell.rd0 ‹_› ‹_› (by rfl))) ?_
    | refine GoL.yg rfl rfl rfl (Y.load Try.isAgg3 rfl (Cell.rd ‹_› ‹_› (by rfl))) ?_
  refine GoL.yg rfl rfl rfl (Y.eql rfl rfl) ?_
  refine GoL.y rfl (Y.pickT rfl rfl) ?_
  refine GoL.y rfl (Y.move rfl) ?_
  first
    | refine GoL.yg rfl rfl rfl (Y.fieldAddr0 41 3 Try.underlying25 rfl Try.sizeOf3 rfl) ?_
    | refine GoL.yg rfl rfl rfl (Y.fieldAddr 41 3 Try.underlying25 rfl Try.sizeOf3 rfl) ?_
  first
    | refine GoL.yg rfl rfl rfl (Y.load Try.isAgg3 rfl (Cell.a (by rfl))) ?_
    | refine GoL.yg rfl rfl rfl (Y.load Try.isAgg3 rfl (Cell.rd0 Rd.s ‹_› (by rfl))) ?_
    | refine GoL.yg rfl rfl rfl (Y.load Try.isAgg3 rfl (Cell.rd Rd.s ‹_› (by rfl))) ?_
    | refine GoL.yg rfl rfl rfl (Y.load Try.isAgg3 rfl (Cell.ao (by rfl))) ?_
    | refine GoL.yg rfl rfl rfl (Y.load Try.isAgg3 rfl (Cell.az (by rfl))) ?_
    | refine GoL.yg rfl rfl rfl (Y.load Try.isAgg3 rfl (Cell.a ‹_›)) ?_
    | refine GoL.yg rfl rfl rfl (Y.load Try.isAgg3 rfl (Cell.rd0 ‹_› ‹_› (by rfl))) ?_
    | refine GoL.yg rfl rfl rfl (Y.load Try.isAgg3 rfl (Cell.rd ‹_› ‹_› (by rfl))) ?_
  refine GoL.yg rfl rfl rfl (Y.eql rfl rfl) ?_
  refine GoL.y rfl (Y.pickT rfl rfl) ?_
  refine GoL.y rfl (Y.move rfl) ?_
  refine GoL.yg rfl rfl rfl (Y.ixArr _ Try.underlying31 Try.sizeOf3 rfl rfl rfl (by first | omega | decide)) ?_
  first
    | refine GoL.yg rfl rfl rfl (Y.load Try.isAgg3 rfl (Cell.a (by rfl))) ?_
    | refine GoL.yg rfl rfl rfl (Y.load Try.isAgg3 rfl (Cell.rd0 Rd.s ‹_› (by rfl))) ?_
    | refine GoL.yg rfl rfl rfl (Y.load Try.isAgg3 rfl (Cell.rd Rd.s ‹_› (by rfl))) ?_
    | refine GoL.yg rfl rfl rfl (Y.load Try.isAgg3 rfl (Cell.ao (by rfl))) ?_
    | refine GoL.yg rfl rfl rfl (Y.load Try.isAgg3 rfl (Cell.az (by rfl))) ?_
    | refine GoL.yg rfl rfl rfl (Y.load Try.isAgg3 rfl (Cell.a ‹_›)) ?_
    | refine GoL.yg rfl rfl rfl (Y.load Try.isAgg3 rfl (Cell.rd0 ‹_› ‹_› (by rfl))) ?_
    | refine GoL.yg rfl rfl rfl (Y.load Try.isAgg3 rfl (Cell.rd ‹_› ‹_› (by rfl))) ?_
  refine GoL.yg rfl rfl rfl (Y.eql rfl rfl) ?_
  refine GoL.y rfl (Y.pickT rfl rfl) ?_
  refine GoL.y rfl (Y.move rfl) ?_
  refine GoL.yg rfl rfl rfl (Y.ixArr _ Try.underlying31 Try.sizeOf3 rfl rfl rfl (by first | omega | decide)) ?_
  first
    | refine GoL.yg rfl rfl rfl (Y.load Try.isAgg3 rfl (Cell.a (by rfl))) ?_
    | refine GoL.yg rfl rfl rfl (Y.load Try.isAgg3 rfl (Cell.rd0 Rd.s ‹_› (by rfl))) ?_
    | refine GoL.yg rfl rfl rfl (Y.load Try.isAgg3 rfl (Cell.rd Rd.s ‹_› (by rfl))) ?_
    | refine GoL.yg rfl rfl rfl (Y.load Try.isAgg3 rfl (Cell.ao (by rfl))) ?_
    | refine GoL.yg rfl rfl rfl (Y.load Try.isAgg3 rfl (Cell.az (by rfl))) ?_
    | refine GoL.yg rfl rfl rfl (Y.load Try.isAgg3 rfl (Cell.a ‹_›)) ?_
    | refine GoL.yg rfl rfl rfl (Y.load Try.isAgg3 rfl (Cell.rd0 ‹_› ‹_› (by rfl))) ?_
    | refine GoL.yg rfl rfl rfl (Y.load Try.isAgg3 rfl (Cell.rd ‹_› ‹_› (by rfl))) ?_
  refine GoL.yg rfl rfl rfl (Y.eql rfl rfl) ?_
  refine GoL.y rfl (Y.pickT rfl rfl) ?_
  refine GoL.y rfl (Y.move rfl) ?_
  refine GoL.yg rfl rfl rfl (Y.ixArr _ Try.underlying31 Try.sizeOf3 rfl rfl rfl (by first | omega | decide)) ?_
  first
    | refine GoL.yg rfl rfl rfl (Y.load Try.isAgg3 rfl (Cell.a (by rfl))) ?_
    | refine GoL.yg rfl rfl rfl (Y.load Try.isAgg3 rfl (Cell.rd0 Rd.s ‹_› (by rfl))) ?_
    | refine GoL.yg rfl rfl rfl (Y.load Try.isAgg3 rfl (Cell.rd Rd.s ‹_› (by rfl))) ?_
    | refine GoL.yg rfl rfl rfl (Y.load Try.isAgg3 rfl (Cell.ao (by rfl))) ?_
    | refine GoL.yg rfl rfl rfl (Y.load Try.isAgg3 rfl (Cell.az (by rfl))) ?_
    | refine GoL.yg rfl rfl rfl (Y.load Try.isAgg3 rfl (Cell.a ‹_›)) ?_
    | refine GoL.yg rfl rfl rfl (Y.load Try.isAgg3 rfl (Cell.rd0 ‹_› ‹_› (by rfl))) ?_
    | refine GoL.yg rfl rfl rfl (Y.load Try.isAgg3 rfl (Cell.rd ‹_› ‹_› (by rfl))) ?_
  refine GoL.yg rfl rfl rfl (Y.eql rfl rfl) ?_
  refine GoL.y rfl (Y.pickT rfl rfl) ?_
  refine GoL.y rfl (Y.move rfl) ?_
  refine GoL.yg rfl rfl rfl (Y.move rfl) ?_
  refine GoL.dg rfl rfl rfl (Does.call rfl Try.call11 rfl (Turns_fn (acts := as29) (sp := 0) (show Rd W [arr b12 0 [.int .i64 1, .int .i64 0, .int .i64 1, .int .i64 0, .int .i64 1, .int .i64 2, .int .i64 0, .int .i64 0, .int .i64 1, .int .i64 0, .int .i64 3, .int .i64 0]] actE 4 _ as29 from Rd.lit .here rfl as29_len rfl) (by decide)) (by repeat (first | exact Takes.nil | exact Take.here | apply Take.there | apply Takes.cons))) ?_
  rintro _ _ ⟨⟨⟩, -, rfl, rfl⟩
  rw [show ((turnSt (runsOf 0 as29)).1 : Int) = 1 from by kernel_rfl]
  refine GoL.yg rfl rfl rfl (Y.eql rfl rfl) ?_
  refine GoL.y rfl (Y.pickT rfl rfl) ?_
  refine GoL.y rfl (Y.move rfl) ?_
  first
    | refine GoL.yg rfl rfl rfl (Y.lda Try.isAgg25 rfl Cells.a (by exact Try.sizeOf25)) ?_
    | refine GoL.yg rfl rfl rfl (Y.lda Try.isAgg25 rfl (Cells.rd ‹_› ‹_›) (by exact Try.sizeOf25)) ?_
    | refine GoL.yg rfl rfl rfl (Y.lda Try.isAgg25 rfl (Cells.rd Rd.s ‹_›) (by exact Try.sizeOf25)) ?_
    | refine GoL.yg rfl rfl rfl (Y.lda Try.isAgg25 rfl (Cells.part0 Cells.a rfl) (by exact Try.sizeOf25)) ?_
  first
    | refine GoL.yg rfl rfl rfl (Y.lda Try.isAgg25 rfl Cells.a (by exact Try.sizeOf25)) ?_
    | refine GoL.yg rfl rfl rfl (Y.lda Try.isAgg25 rfl (Cells.rd ‹_› ‹_›) (by exact Try.sizeOf25)) ?_
    | refine GoL.yg rfl rfl rfl (Y.lda Try.isAgg25 rfl (Cells.rd Rd.s ‹_›) (by exact Try.sizeOf25)) ?_
    | refine GoL.yg rfl rfl rfl (Y.lda Try.isAgg25 rfl (Cells.part0 Cells.a rfl) (by exact Try.sizeOf25)) ?_
  refine GoL.dg rfl rfl rfl (Does.call rfl Try.call9 rfl (meter_Sum (x := c29) (y := c29) rfl rfl) (by repeat (first | exact Takes.nil | exact Take.here | apply Take.there | apply Takes.cons))) ?_
  rintro _ _ ⟨⟨⟩, -, rfl, rfl⟩
  rw [show cntV (sumC c29 c29) = [.int .i64 0, .int .i64 0, .int .i64 0, .int .i64 0, .int .i64 0, .int .i64 0, .int .i64 0, .int .i64 0, .int .i64 0, .int .i64 0, .int .i64 0, .int .i64 0, .int .i64 0, .int .i64 0, .int .i64 0, .int .i64 0, .int .i64 0, .int .i64 0, .int .i64 0, .int .i64 0, .int .i64 0, .int .i64 0, .int .i64 0, .int .i64 0, .int .i64 0, .int .i64 0, .int .i64 0, .int .i64 0, .int .i64 0, .int .i64 0, .int .i64 0, .int .i64 0, .int .i64 0, .int .i64 0, .int .i64 0, .int .i64 0, .int .i64 4, .int .i64 0, .int .i64 0, .int .i64 2, .int .i64 4, .int .i64 2] from by kernel_rfl]
  refine GoL.yg rfl rfl rfl (Y.field 40 3 Try.underlying25 rfl Try.isAgg3 rfl rfl) ?_
  refine GoL.yg rfl rfl rfl (Y.eql rfl rfl) ?_
  refine GoL.y rfl (Y.pickT rfl rfl) ?_
  refine GoL.y rfl (Y.move rfl) ?_
  refine GoL.yg rfl rfl rfl (Y.bld0 ([(.slice none 0 0), (.int .i64 0), (.int .i64 0), (.int .i64 0), (.slice none 0 0), (.slice none 0 0), (.int .i64 0), (.int .i64 0)]) (by kernel_rfl)) ?_
  refine GoL.dg rfl rfl rfl (Does.call rfl Try.call13 rfl Check_empty (by repeat (first | exact Takes.nil | exact Take.here | apply Take.there | apply Takes.cons))) ?_
  rintro _ _ ⟨⟨⟩, -, rfl, rfl⟩
  refine GoL.yg rfl rfl rfl (Y.eql rfl rfl) ?_
  refine GoL.y rfl (Y.pickT rfl rfl) ?_
  refine GoL.y rfl (Y.assign rfl) ?_
  refine GoL.nil ?_
  refine GoE.then_normal ?_
  refine GoC.ret ?_
  exact GoE.ret1 rfl rfl fun w s => ⟨(), rfl, trivial, fin (by repeat (first | exact Takes.nil | exact Take.here | apply Take.there | apply Takes.cons)) s⟩

end Go.SLYtnoophiflnlflaa
