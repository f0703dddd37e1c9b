/- Walks of functions, and what they compute. Conditions: none, this text proves no statement. -/
import Derived.Test.YtpcjdohmjmeehaaGreatProg
import Derived.Test.YtpcjdohmjmeehaaGreatG08
import Derived.Test.YtpcjdohmjmeehaaGreatG03
import Derived.Test.YtpcjdohmjmeehaaGreatG06
import Derived.KernelRfl
namespace Go.SLYtpcjdohmjmeehaaGreat
open Go Go.RowKit Go.Proofs Go.Proofs.Tryz

set_option maxRecDepth 20000 in
theorem frame_do {W : World} {b : Nat} {f : Frm} {v : Value} {m : List Int} {i : Ins} (hI : InsOk i) (hF : FrmOk f) (hl : m.length ≤ 1000000) : FnB Tryz.prog W 118 [ptr b, .agg (insE i).toArray] [arr b 0 (dwC f v), sl wrdE 1 v m] Unit (fun _ => doEnd 213 (doI f m i)) (fun _ => True) (fun _ => doH b v (doI f m i)) := by
  refine FnB.intro (N := 127) func118 rfl ntmps118 rfl fun F => ?_
  show GoC _ _ _ _ _ _ [arr b 0 (dwC f v), sl wrdE 1 v m, F]
  have hia := hI.a
  have hib := hI.b
  have hic := hI.c
  have hin := hI.n
  have hpc := hF.pc
  refine GoC.seq (GoC.region ?_)
  refine GoL.does rfl (Does.box rfl rfl rfl) ?_
  rintro _ _ ⟨b3, rfl, rfl⟩
  refine GoL.mem (H' := [arr b3 0 (insE i), arr b 0 (dwC f v), sl wrdE 1 v m, F]) (fun w s => s) ?_
  refine GoL.nil (GoE.then_normal (GoC.seq (GoC.region ?_)))
  refine GoL.y rfl (Y.move rfl) ?_
  refine GoL.y rfl (Y.nilCheck rfl) ?_
  refine GoL.y rfl (Y.fieldAddrZ 131 underlying216 rfl sizeOf131 rfl) ?_
  refine GoL.y rfl (Y.fieldAddr0 1 3 underlying131 rfl sizeOf3 rfl) ?_
  refine GoL.y rfl (Y.load isAgg3 rfl (Cell.a (by rfl))) ?_
  refine GoL.y rfl (Y.add rfl rfl (by omega)) ?_
  refine GoL.y rfl (Y.assign rfl) ?_
  refine GoL.nil (GoE.then_normal ?_)
  refine GoC.cutK (X := List Int × Int × List Int) [4, 5, 6, 7, 8, 9, 10, 11, 18, 19, 20, 21, 22, 23, 24, 25, 26, 27, 28, 29, 30, 31, 32, 33, 34, 35, 36, 37, 38, 39, 40, 41, 42, 43, 44, 45, 46, 47, 48, 49, 50, 51, 52, 53, 54, 55, 56, 57, 58, 59, 60, 61, 62, 63, 64, 65, 66, 67, 68, 69, 70, 71, 72, 73, 74, 75, 76, 77, 78, 79, 80, 81, 82, 83, 84, 85, 86, 87, 88, 89, 90, 91, 92, 93, 94, 95, 96, 97, 98, 99, 100, 101, 102, 103, 104, 105, 106, 107, 108, 109, 110, 111, 112, 113, 114, 115, 116, 117, 118, 119, 120, 121] (fun z => doI f m i = some (⟨f.fn, z.2.1, z.1⟩, z.2.2)) (fun z => [(4, some (.int .i64 z.2.1))]) (fun z => [arr b 0 (dwC ⟨f.fn, f.pc, z.1⟩ v), sl wrdE 1 v z.2.2, F]) ?_ ?_
  · refine GoC.block (GoC.seq (GoC.region ?_))
    refine GoL.y rfl (Y.fieldAddrZ 3 underlying123 rfl sizeOf3 rfl) ?_
    refine GoL.y rfl (Y.load isAgg3 rfl (Cell.a (by rfl))) ?_
    refine GoL.y rfl (Y.eql rfl rfl) ?_
    refine GoL.y rfl (Y.assign rfl) ?_
    refine GoL.nil (GoE.then_normal ?_)
    refine GoC.condD rfl (fun h48 => ?_) (fun h48 => ?_)
    · refine GoC.region ?_
      refine GoL.y rfl (Y.fieldAddr0 4 43 underlying123 rfl sizeOf43 rfl) ?_
      refine GoL.y rfl (Y.load isAgg43 rfl (Cell.a (by rfl))) ?_
      refine GoL.y rfl (Y.convI underlying43 underlying3 rfl (by have := hI.j (.inl h48); omega)) ?_
      refine GoL.y rfl (Y.assign rfl) ?_
      refine GoL.nil (GoE.block_normal ?_)
      refine GoE.midK (f.regs, i.n, m) .auto ?_ ?_ ?_
      · unfold doI; rw [if_pos h48]
      · exact ⟨rfl, trivial⟩
      · exact fun w s => Ent.kept .auto w s
    · refine GoC.seq (GoC.region ?_)
      refine GoL.y rfl (Y.fieldAddrZ 3 underlying123 rfl sizeOf3 rfl) ?_
      refine GoL.y rfl (Y.load isAgg3 rfl (Cell.a (by rfl))) ?_
      refine GoL.y rfl (Y.eql rfl rfl) ?_
      refine GoL.y rfl (Y.assign rfl) ?_
      refine GoL.nil (GoE.then_normal ?_)
      refine GoC.condD rfl (fun h55 => ?_) (fun h55 => ?_)
      · refine GoC.seq (GoC.region ?_)
        refine GoL.y rfl (Y.move rfl) ?_
        refine GoL.y rfl (Y.fieldAddr0 1 3 underlying123 rfl sizeOf3 rfl) ?_
        refine GoL.y rfl (Y.load isAgg3 rfl (Cell.a (by rfl))) ?_
        refine GoL.does rfl (Does.callE rfl call149 rfl (frame_reg hI.a) .auto) ?_
        rintro _ _ ⟨⟨⟩, -, rfl, rfl⟩
        refine GoL.y rfl (Y.nilCheck rfl) ?_
        refine GoL.y rfl (Y.load isAgg43 rfl (Cell.a (dw_get (by omega)))) ?_
        refine GoL.y rfl (Y.eql rfl rfl) ?_
        refine GoL.nil (GoE.then_normal ?_)
        refine GoC.condD rfl (fun h65 => ?_) (fun h65 => ?_)
        · refine GoC.region ?_
          refine GoL.y rfl (Y.fieldAddr0 4 43 underlying123 rfl sizeOf43 rfl) ?_
          refine GoL.y rfl (Y.load isAgg43 rfl (Cell.a (by rfl))) ?_
          refine GoL.y rfl (Y.convI underlying43 underlying3 rfl (by have := hI.j (.inr h55); omega)) ?_
          refine GoL.y rfl (Y.assign rfl) ?_
          refine GoL.nil (GoE.block_normal ?_)
          refine GoE.midK (f.regs, i.n, m) .auto ?_ ?_ ?_
          · unfold doI; rw [if_neg h48, if_pos h55, if_pos (show f.reg i.a = 0 from h65)]
          · exact ⟨rfl, trivial⟩
          · exact fun w s => Ent.kept .auto w s
        · refine GoC.skip (GoE.block_normal ?_)
          refine GoE.midK (f.regs, f.pc + 1, m) .auto ?_ ?_ ?_
          · unfold doI; rw [if_neg h48, if_pos h55, if_neg (show ¬ f.reg i.a = 0 from h65)]
          · exact ⟨rfl, trivial⟩
          · exact fun w s => Ent.kept .auto w s
      · refine GoC.seq (GoC.region ?_)
        refine GoL.y rfl (Y.fieldAddrZ 3 underlying123 rfl sizeOf3 rfl) ?_
        refine GoL.y rfl (Y.load isAgg3 rfl (Cell.a (by rfl))) ?_
        refine GoL.y rfl (Y.eql rfl rfl) ?_
        refine GoL.y rfl (Y.assign rfl) ?_
        refine GoL.nil (GoE.then_normal ?_)
        refine GoC.condD rfl (fun h69 => ?_) (fun h69 => ?_)
        · refine GoC.draw [arr b3 0 (insE i)] [1, 1, 1, 2, 0, 0, 1, 3] rfl (by kernel_rfl) ?_
          refine GoK.s rfl (Y.move rfl) ?_
          refine GoK.s rfl (Y.fieldAddr0 1 3 underlying123 rfl sizeOf3 rfl) ?_
          refine GoK.s rfl (Y.load isAgg3 rfl (Cell.a (by rfl))) ?_
          refine GoK.d2 rfl Kept.auto (Does.callE rfl call149 rfl (frame_reg hI.a) .auto) (by rintro _ _ ⟨⟨⟩, -, rfl, rfl⟩; exact Kept.auto) ?_
          rintro _ _ ⟨⟨⟩, -, rfl, rfl⟩
          refine GoK.k rfl Kept.auto (Y.fieldAddr0 4 43 underlying123 rfl sizeOf43 rfl) ?_
          refine GoK.k rfl Kept.auto (Y.load isAgg43 rfl (Cell.a (by rfl))) ?_
          refine GoK.s rfl (Y.nilCheck rfl) ?_
          refine GoK.d3 rfl (Does.st sizeOf43 rfl rfl rfl (Nat.blt_eq.mpr (by show 2 + i.a.toNat < 11; omega))) ?_
          rintro _ _ ⟨rfl, rfl⟩
          rw [dw_set _ (show i.a.toNat < 8 by omega) hF.l]
          refine GoK.nil (GoE.block_normal ?_)
          refine GoE.midK (f.regs.set i.a.toNat i.n, f.pc + 1, m) .auto ?_ ?_ ?_
          · unfold doI; rw [if_neg h48, if_neg h55, if_pos h69]; rfl
          · exact ⟨rfl, trivial⟩
          · exact fun w s => Ent.kept .auto w s
        · refine GoC.seq (GoC.region ?_)
          refine GoL.y rfl (Y.fieldAddrZ 3 underlying123 rfl sizeOf3 rfl) ?_
          refine GoL.y rfl (Y.load isAgg3 rfl (Cell.a (by rfl))) ?_
          refine GoL.y rfl (Y.eql rfl rfl) ?_
          refine GoL.y rfl (Y.assign rfl) ?_
          refine GoL.nil (GoE.then_normal ?_)
          refine GoC.condD rfl (fun h80 => ?_) (fun h80 => ?_)
          · refine GoC.seq ?_
            refine GoC.draw [arr b3 0 (insE i)] [1, 1, 1, 2, 0, 0, 0, 3, 1, 1] rfl (by kernel_rfl) ?_
            refine GoK.s rfl (Y.move rfl) ?_
            refine GoK.s rfl (Y.fieldAddr0 1 3 underlying123 rfl sizeOf3 rfl) ?_
            refine GoK.s rfl (Y.load isAgg3 rfl (Cell.a (by rfl))) ?_
            refine GoK.d2 rfl Kept.auto (Does.callE rfl call149 rfl (frame_reg hI.a) .auto) (by rintro _ _ ⟨⟨⟩, -, rfl, rfl⟩; exact Kept.auto) ?_
            rintro _ _ ⟨⟨⟩, -, rfl, rfl⟩
            refine GoK.k rfl Kept.auto (Y.move rfl) ?_
            refine GoK.k rfl Kept.auto (Y.fieldAddr0 2 3 underlying123 rfl sizeOf3 rfl) ?_
            refine GoK.k rfl Kept.auto (Y.load isAgg3 rfl (Cell.a (by rfl))) ?_
            refine GoK.d3 rfl (Does.callE rfl call149 rfl (frame_reg hI.b) .auto) ?_
            rintro _ _ ⟨⟨⟩, -, rfl, rfl⟩
            refine GoK.s rfl (Y.assign rfl) ?_
            refine GoK.s rfl (Y.assign rfl) ?_
            refine GoK.nil (GoE.then_normal (GoC.region ?_))
            refine GoL.y rfl (Y.move rfl) ?_
            refine GoL.y rfl (Y.move rfl) ?_
            refine GoL.y rfl (Y.move rfl) ?_
            refine GoL.y rfl (Y.nilCheck rfl) ?_
            refine GoL.y rfl (Y.load isAgg43 rfl (Cell.a (dw_get (by omega)))) ?_
            refine GoL.callB rfl call150 rfl (frame_cell (f := f) (m := m) (at_ := f.regs.getD i.b.toNat 0) (hF.r _).1 hl) .auto (fun _ h => by split at h <;> cases h) ?_ ?_
            · rintro ⟨⟩ u e -
              have hlt : f.regs.getD i.b.toNat 0 < m.length := Decidable.byContradiction fun hn => by
                rw [if_neg hn] at e
                cases e
              rw [if_pos hlt] at e
              cases e
              have h0 := (hF.r i.b.toNat).1
              refine GoL.y rfl (Y.nilCheck rfl) ?_
              refine GoL.y rfl (Y.load isAgg43 rfl (Cell.rd0 Rd.s (getD_some (d := (0 : Int)) (show (f.regs.getD i.b.toNat 0).toNat < m.length by omega)) (by rfl))) ?_
              refine GoL.y rfl (Y.nilCheck rfl) ?_
              refine GoL.does rfl (Does.st sizeOf43 rfl rfl rfl (Nat.blt_eq.mpr (by show 2 + i.a.toNat < 11; omega))) ?_
              rintro _ _ ⟨rfl, rfl⟩
              rw [dw_set _ (show i.a.toNat < 8 by omega) hF.l]
              refine GoL.nil (GoE.block_normal ?_)
              refine GoE.midK (f.regs.set i.a.toNat (m.getD (f.regs.getD i.b.toNat 0).toNat 0), f.pc + 1, m) .auto ?_ ?_ ?_
              · unfold doI; rw [if_neg h48, if_neg h55, if_neg h69, if_pos h80, if_pos (show f.reg i.b < m.length from hlt)]; rfl
              · exact ⟨rfl, trivial⟩
              · exact fun w s => Ent.kept .auto w s
            · rintro ⟨⟩ c e -
              have hge : ¬ f.regs.getD i.b.toNat 0 < m.length := fun h => by
                rw [if_pos h] at e
                cases e
              rw [if_neg hge] at e
              cases e
              have hz : doI f m i = none := by
                unfold doI; rw [if_neg h48, if_neg h55, if_neg h69, if_pos h80, if_neg (show ¬ f.reg i.b < m.length from hge)]
              rw [hz]
              refine fun a w ha s => And.intro ha.defers (Exists.intro () (And.intro ?_ (And.intro trivial (finE .auto s))))
              rfl
          · refine GoC.seq (GoC.region ?_)
            refine GoL.y rfl (Y.fieldAddrZ 3 underlying123 rfl sizeOf3 rfl) ?_
            refine GoL.y rfl (Y.load isAgg3 rfl (Cell.a (by rfl))) ?_
            refine GoL.y rfl (Y.eql rfl rfl) ?_
            refine GoL.y rfl (Y.assign rfl) ?_
            refine GoL.nil (GoE.then_normal ?_)
            refine GoC.condD rfl (fun h101 => ?_) (fun h101 => ?_)
            · refine GoC.seq ?_
              refine GoC.draw [arr b3 0 (insE i)] [1, 1, 1, 2, 0, 0, 0, 3, 1, 1] rfl (by kernel_rfl) ?_
              refine GoK.s rfl (Y.move rfl) ?_
              refine GoK.s rfl (Y.fieldAddr0 1 3 underlying123 rfl sizeOf3 rfl) ?_
              refine GoK.s rfl (Y.load isAgg3 rfl (Cell.a (by rfl))) ?_
              refine GoK.d2 rfl Kept.auto (Does.callE rfl call149 rfl (frame_reg hI.a) .auto) (by rintro _ _ ⟨⟨⟩, -, rfl, rfl⟩; exact Kept.auto) ?_
              rintro _ _ ⟨⟨⟩, -, rfl, rfl⟩
              refine GoK.k rfl Kept.auto (Y.move rfl) ?_
              refine GoK.k rfl Kept.auto (Y.fieldAddr0 2 3 underlying123 rfl sizeOf3 rfl) ?_
              refine GoK.k rfl Kept.auto (Y.load isAgg3 rfl (Cell.a (by rfl))) ?_
              refine GoK.d3 rfl (Does.callE rfl call149 rfl (frame_reg hI.b) .auto) ?_
              rintro _ _ ⟨⟨⟩, -, rfl, rfl⟩
              refine GoK.s rfl (Y.assign rfl) ?_
              refine GoK.s rfl (Y.assign rfl) ?_
              refine GoK.nil (GoE.then_normal ?_)
              rcases Nat.lt_or_ge (f.regs.getD i.a.toNat 0).toNat m.length with hlt | hge
              · have h0 := (hF.r i.a.toNat).1
                refine GoC.draw [arr b 0 (dwC f v)] [1, 1, 1, 1, 2, 0, 0, 0, 1, 3] rfl (by kernel_rfl) ?_
                refine GoK.s rfl (Y.move rfl) ?_
                refine GoK.s rfl (Y.move rfl) ?_
                refine GoK.s rfl (Y.nilCheck rfl) ?_
                refine GoK.s rfl (Y.load isAgg43 rfl (Cell.a (dw_get (by omega)))) ?_
                refine GoK.d2 rfl Kept.auto (Does.callE rfl call150 rfl (FnB.ok (fun _ => .pointer (some ⟨blk v, ofs v + (f.regs.getD i.a.toNat 0).toNat * 1, none⟩)) (frame_cell (f := f) (m := m) (at_ := f.regs.getD i.a.toNat 0) (hF.r _).1 hl) (fun _ => if_pos (by omega))) .auto) (by rintro _ _ ⟨⟨⟩, -, rfl, rfl⟩; exact Kept.auto) ?_
                rintro _ _ ⟨⟨⟩, -, rfl, rfl⟩
                refine GoK.k rfl Kept.auto (Y.move rfl) ?_
                refine GoK.k rfl Kept.auto (Y.nilCheck rfl) ?_
                refine GoK.k rfl Kept.auto (Y.load isAgg43 rfl (Cell.a (dw_get (by omega)))) ?_
                refine GoK.s rfl (Y.nilCheck rfl) ?_
                refine GoK.d3 rfl (Does.storeSl0 (x' := f.regs.getD i.b.toNat 0) rfl rfl sizeOf43 rfl (getD_some (d := (0 : Int)) hlt) (by decide) rfl .auto) ?_
                rintro _ _ ⟨rfl, rfl⟩
                refine GoK.nil (GoE.block_normal ?_)
                refine GoE.midK (f.regs, f.pc + 1, m.set (f.regs.getD i.a.toNat 0).toNat (f.regs.getD i.b.toNat 0)) .auto ?_ ?_ ?_
                · unfold doI; rw [if_neg h48, if_neg h55, if_neg h69, if_neg h80, if_pos h101, if_pos (show f.reg i.a < m.length by show f.regs.getD i.a.toNat 0 < _; omega)]; rfl
                · exact ⟨rfl, trivial⟩
                · exact fun w s => Ent.kept .auto w s
              · have h0 := (hF.r i.a.toNat).1
                refine GoC.held [arr b 0 (dwC f v)] rfl ?_
                refine GoH.take 0 rfl (by kernel_rfl) (by kernel_rfl) (by kernel_rfl) (fun _ _ _ _ _ h => h) rfl Kept.auto (Y.move rfl) ?_
                refine GoH.take 1 rfl (by kernel_rfl) (by kernel_rfl) (by kernel_rfl) (fun _ _ _ _ _ h => h) rfl Kept.auto (Y.move rfl) ?_
                refine GoH.take 2 rfl (by kernel_rfl) (by kernel_rfl) (by kernel_rfl) (fun _ _ _ _ _ h => h) rfl Kept.auto (Y.nilCheck rfl) ?_
                refine GoH.take 3 rfl (by kernel_rfl) (by kernel_rfl) (by kernel_rfl) (fun _ _ _ _ _ h => h) rfl Kept.auto (Y.load isAgg43 rfl (Cell.a (dw_get (by omega)))) ?_
                refine GoH.take 5 rfl (by kernel_rfl) (by kernel_rfl) (by kernel_rfl) (fun _ _ _ _ _ h => h) rfl Kept.auto (Y.move rfl) ?_
                refine GoH.take 6 rfl (by kernel_rfl) (by kernel_rfl) (by kernel_rfl) (fun _ _ _ _ _ h => h) rfl Kept.auto (Y.nilCheck rfl) ?_
                refine GoH.take 7 rfl (by kernel_rfl) (by kernel_rfl) (by kernel_rfl) (fun _ _ _ _ _ h => h) rfl Kept.auto (Y.load isAgg43 rfl (Cell.a (dw_get (by omega)))) ?_
                refine GoH.callP 4 rfl (by kernel_rfl) call150 rfl (frame_cell (f := f) (m := m) (at_ := f.regs.getD i.a.toNat 0) (hF.r _).1 hl) .auto ?_ ?_
                · exact fun _ => ⟨_, if_neg (by omega)⟩
                rintro ⟨⟩ c e -
                rw [if_neg (by omega)] at e
                cases e
                have hz : doI f m i = none := by
                  unfold doI; rw [if_neg h48, if_neg h55, if_neg h69, if_neg h80, if_pos h101, if_neg (show ¬ f.reg i.a < m.length by show ¬ f.regs.getD i.a.toNat 0 < _; omega)]
                rw [hz]
                refine fun a w ha s => And.intro ha.defers (Exists.intro () (And.intro ?_ (And.intro trivial (finE .auto s))))
                rfl
            · refine GoC.seq ?_
              refine GoC.draw [arr b3 0 (insE i), arr b 0 (dwC f v)] [1, 1, 1, 2, 0, 0, 0, 3, 1, 1, 1, 1, 1] rfl (by kernel_rfl) ?_
              refine GoK.s rfl (Y.move rfl) ?_
              refine GoK.s rfl (Y.fieldAddr0 1 3 underlying123 rfl sizeOf3 rfl) ?_
              refine GoK.s rfl (Y.load isAgg3 rfl (Cell.a (by rfl))) ?_
              refine GoK.d2 rfl Kept.auto (Does.callE rfl call149 rfl (frame_reg hI.a) .auto) (by rintro _ _ ⟨⟨⟩, -, rfl, rfl⟩; exact Kept.auto) ?_
              rintro _ _ ⟨⟨⟩, -, rfl, rfl⟩
              refine GoK.k rfl Kept.auto (Y.move rfl) ?_
              refine GoK.k rfl Kept.auto (Y.fieldAddr0 2 3 underlying123 rfl sizeOf3 rfl) ?_
              refine GoK.k rfl Kept.auto (Y.load isAgg3 rfl (Cell.a (by rfl))) ?_
              refine GoK.d3 rfl (Does.callE rfl call149 rfl (frame_reg hI.b) .auto) ?_
              rintro _ _ ⟨⟨⟩, -, rfl, rfl⟩
              refine GoK.s rfl (Y.nilCheck rfl) ?_
              refine GoK.s rfl (Y.load isAgg43 rfl (Cell.a (dw_get (by omega)))) ?_
              refine GoK.s rfl (Y.assign rfl) ?_
              refine GoK.s rfl (Y.assign rfl) ?_
              refine GoK.s rfl (Y.assign rfl) ?_
              refine GoK.nil (GoE.then_normal ?_)
              refine GoC.cutK (X := Unit) [11, 28, 29, 30, 31, 32, 33, 34, 35, 36, 37] (fun _ => True) (fun _ => [(11, some (.int .u64 (if shortB i.op = true then 0 else f.reg i.c)))]) (fun _ => [arr b3 0 (insE i), arr b 0 (dwC f v), sl wrdE 1 v m, F]) ?_ ?_
              · refine GoC.seq (GoC.region ?_)
                refine GoL.y rfl (Y.fieldAddrZ 3 underlying123 rfl sizeOf3 rfl) ?_
                refine GoL.y rfl (Y.load isAgg3 rfl (Cell.a (by rfl))) ?_
                refine GoL.does rfl (Does.callE rfl call151 rfl frame_short .auto) ?_
                rintro _ _ ⟨⟨⟩, -, rfl, rfl⟩
                refine GoL.y rfl (Y.not rfl) ?_
                refine GoL.nil (GoE.then_normal ?_)
                refine GoC.cond rfl (fun h31 => ?_) (fun h31 => ?_)
                · refine GoC.region ?_
                  refine GoL.y rfl (Y.move rfl) ?_
                  refine GoL.y rfl (Y.fieldAddr0 3 3 underlying123 rfl sizeOf3 rfl) ?_
                  refine GoL.y rfl (Y.load isAgg3 rfl (Cell.a (by rfl))) ?_
                  refine GoL.does rfl (Does.callE rfl call149 rfl (frame_reg hI.c) .auto) ?_
                  rintro _ _ ⟨⟨⟩, -, rfl, rfl⟩
                  refine GoL.y rfl (Y.nilCheck rfl) ?_
                  refine GoL.y rfl (Y.load isAgg43 rfl (Cell.a (dw_get (by omega)))) ?_
                  refine GoL.y rfl (Y.assign rfl) ?_
                  refine GoL.nil ?_
                  refine GoE.midK () .auto ?_ ?_ ?_
                  · trivial
                  · rw [if_neg (show ¬ shortB i.op = true by rw [Bool.not_eq_true'] at h31; rw [h31]; simp)]; exact ⟨rfl, trivial⟩
                  · exact fun w s => Ent.kept .auto w s
                · refine GoC.skip ?_
                  refine GoE.midK () .auto ?_ ?_ ?_
                  · trivial
                  · rw [if_pos (show shortB i.op = true by simpa using h31)]; exact ⟨rfl, trivial⟩
                  · exact fun w s => Ent.kept .auto w s
              · rintro ⟨⟩ -
                obtain ⟨y, hy⟩ : ∃ y, y = (if shortB i.op = true then 0 else f.reg i.c) := ⟨_, rfl⟩
                have hy0 : 0 ≤ y := by
                  subst hy
                  split
                  · exact Int.le_refl _
                  · exact (hF.r _).1
                rw [← hy]
                refine GoC.region ?_
                refine GoL.y rfl (Y.move rfl) ?_
                refine GoL.y rfl (Y.fieldAddrZ 3 underlying123 rfl sizeOf3 rfl) ?_
                refine GoL.y rfl (Y.load isAgg3 rfl (Cell.a (by rfl))) ?_
                refine GoL.y rfl (Y.move rfl) ?_
                refine GoL.y rfl (Y.move rfl) ?_
                refine GoL.does rfl (Does.callE rfl call152 rfl (frame_Arith (hF.r _).1 hy0) .auto) ?_
                rintro _ _ ⟨t38, -, rfl, rfl⟩
                refine GoL.y rfl (Y.move rfl) ?_
                refine GoL.y rfl (Y.extract (v := .int .u64 (arithI i.op (f.regs.getD i.b.toNat 0) y)) rfl rfl) ?_
                refine GoL.y rfl (Y.extract rfl rfl) ?_
                refine GoL.y rfl (Y.nilCheck rfl) ?_
                refine GoL.does rfl (Does.st sizeOf43 rfl rfl rfl (Nat.blt_eq.mpr (by show 2 + i.a.toNat < 11; omega))) ?_
                rintro _ _ ⟨rfl, rfl⟩
                rw [dw_set _ (show i.a.toNat < 8 by omega) hF.l]
                refine GoL.nil (GoE.block_normal ?_)
                refine GoE.midK (f.regs.set i.a.toNat (arithI i.op (f.regs.getD i.b.toNat 0) y), f.pc + 1, m) .auto ?_ ?_ ?_
                · unfold doI; rw [if_neg h48, if_neg h55, if_neg h69, if_neg h80, if_neg h101]; subst hy; rfl
                · exact ⟨rfl, trivial⟩
                · exact fun w s => Ent.kept .auto w s
  · rintro ⟨rs, nx, m2⟩ hz
    simp only at hz
    refine GoC.region ?_
    refine GoL.y rfl (Y.move rfl) ?_
    refine GoL.y rfl (Y.move rfl) ?_
    refine GoL.y rfl (Y.nilCheck rfl) ?_
    refine GoL.y rfl (Y.fieldAddrZ 131 underlying216 rfl sizeOf131 rfl) ?_
    refine GoL.y rfl (Y.fieldAddr0 1 3 underlying131 rfl sizeOf3 rfl) ?_
    refine GoL.does rfl (Does.st sizeOf3 rfl rfl rfl rfl) ?_
    rintro _ _ ⟨rfl, rfl⟩
    refine GoL.nil ?_
    rw [hz]
    refine GoE.end0 rfl fun w s => ⟨(), ?_, trivial, finE .auto s⟩
    rfl

set_option maxRecDepth 20000 in
theorem plain_ret {W : World} {p6 p7 p8 : Nat} {Hs : List HProp} {w : World} (hs : Sat W w (seps Hs)) : CallsD Tryz.prog 117 #[ptr p6, ptr p7, ptr p8] .returning w (fun e u2 w2 => u2 = .returning ∧ e = .returned (.tuple #[]) ∧ Sat W w2 (seps Hs)) := by
  refine callsD_recover (d := 6) (N := 15) (v := .nilIface) (u2 := .returning) (args := [ptr p6, ptr p7, ptr p8]) func117 rfl ntmps117 rfl rfl rfl (fun c cs hc => .inr ⟨by simp [recoverD, hc], rfl, rfl⟩) hs ?_
  refine GoC.block (GoC.seq (GoC.region ?_))
  refine GoL.y rfl (Y.eqIf0 underlying20 rfl) ?_
  refine GoL.nil (GoE.then_normal ?_)
  refine GoC.condT rfl ?_
  refine GoC.region ?_
  refine GoL.y rfl (Y.assign rfl) ?_
  refine GoL.nil (GoE.block_normal ?_)
  refine GoE.endC fun w s => ⟨rfl, rfl, ?_⟩
  first | exact s | exact Ent.kept .auto _ s

set_option maxRecDepth 20000 in
theorem plain_pan {W : World} {p6 p7 p8 : Nat} {F : HProp} {w : World} (hs : Sat W w (seps [arr p6 0 (frmE Frm.z), arr p7 0 [.slice none 0 0], arr p8 0 [.int .i64 0], F])) : CallsD Tryz.prog 117 #[ptr p6, ptr p7, ptr p8] (.panicking (stopC 213 6)) w (fun e u2 w2 => u2 = .panicking [{ v := .iface 213 (.agg #[.int .i64 6]), recovered := true }] ∧ e = .returned (.tuple #[]) ∧ Sat W w2 (seps [arr p6 0 (frmE Frm.z), arr p7 0 [.slice none 0 0], arr p8 0 [.int .i64 6], F])) := by
  refine callsD_recover (d := 6) (N := 15) (v := .iface 213 (.agg #[.int .i64 6])) (u2 := .panicking [{ v := .iface 213 (.agg #[.int .i64 6]), recovered := true }]) (args := [ptr p6, ptr p7, ptr p8]) func117 rfl ntmps117 rfl rfl rfl (fun c cs hc => .inl (by simp [recoverD, hc, stopC])) hs ?_
  refine GoC.block (GoC.seq (GoC.region ?_))
  refine GoL.y rfl (Y.eqIf1 underlying20 rfl) ?_
  refine GoL.nil (GoE.then_normal ?_)
  refine GoC.condF rfl ?_
  refine GoC.seq (GoC.region ?_)
  refine GoL.y rfl (Y.tAssert (r := .tuple #[.agg #[.int .i64 6], .bool true]) rfl (fun w => by simp [Instr.typeAssert, run_underlying underlying213])) ?_
  refine GoL.y rfl (Y.extract (v := .bool true) rfl rfl) ?_
  refine GoL.y rfl (Y.extract (v := .agg #[.int .i64 6]) rfl rfl) ?_
  refine GoL.nil (GoE.then_normal ?_)
  refine GoC.condT rfl ?_
  refine GoC.seq (GoC.region ?_)
  refine GoL.does rfl (Does.alloc rfl zeroValue213 rfl) ?_
  rintro _ _ ⟨b4, rfl, rfl⟩
  refine GoL.does rfl (Does.sta (by exact sizeOf213) rfl rfl rfl (by rfl)) ?_
  rintro _ _ ⟨rfl, rfl⟩
  refine GoL.nil (GoE.then_normal ?_)
  refine GoC.draw [arr b4 0 [.int .i64 6]] [1, 0, 0, 2, 2, 3] rfl (by kernel_rfl) ?_
  refine GoK.s rfl (Y.bld0 ([(.int .i64 0), (.int .i64 0), (.int .u64 0), (.int .u64 0), (.int .u64 0), (.int .u64 0), (.int .u64 0), (.int .u64 0), (.int .u64 0), (.int .u64 0)]) (by kernel_rfl)) ?_
  refine GoK.k rfl Kept.auto (Y.fieldAddrZ 28 underlying213 rfl sizeOf28 rfl) ?_
  refine GoK.k rfl Kept.auto (Y.load isAgg28 rfl (Cell.a (by rfl))) ?_
  refine GoK.d2 rfl Kept.auto (Does.sta (by exact sizeOf131) rfl rfl rfl (by rfl)) (by rintro _ _ ⟨rfl, rfl⟩; exact Kept.auto) ?_
  rintro _ _ ⟨rfl, rfl⟩
  refine GoK.d2 rfl Kept.auto (Does.st sizeOf51 rfl rfl rfl rfl) (by rintro _ _ ⟨rfl, rfl⟩; exact Kept.auto) ?_
  rintro _ _ ⟨rfl, rfl⟩
  refine GoK.d3 rfl (Does.st sizeOf28 rfl rfl rfl rfl) ?_
  rintro _ _ ⟨rfl, rfl⟩
  refine GoK.nil (GoE.block_normal ?_)
  refine GoE.endC fun w s => ⟨rfl, rfl, ?_⟩
  first | exact s | exact Ent.kept .auto _ s

theorem plain_panR {W : World} {p6 p7 p8 : Nat} {R : List HProp} {w : World} (hs : Sat W w (seps ([arr p6 0 (frmE Frm.z), arr p7 0 [.slice none 0 0], arr p8 0 [.int .i64 0]] ++ R))) : CallsD Tryz.prog 117 #[ptr p6, ptr p7, ptr p8] (.panicking (stopC 213 6)) w (fun e u2 w2 => u2 = .panicking [{ v := .iface 213 (.agg #[.int .i64 6]), recovered := true }] ∧ e = .returned (.tuple #[]) ∧ Sat W w2 (seps ([arr p6 0 (frmE Frm.z), arr p7 0 [.slice none 0 0], arr p8 0 [.int .i64 6]] ++ R))) :=
  (plain_pan (F := seps R) (hs.eq (by rw [seps_append]; simp only [seps, sep_emp, sep_assoc]))).mono fun _ _ _ ⟨a, b, c⟩ => ⟨a, b, c.eq (by rw [seps_append]; simp only [seps, sep_emp, sep_assoc])⟩

set_option maxRecDepth 20000 in
theorem frame_Plain {W : World} {A : HProp} {f : Frm} {i : Ins} {v : Value} {m : List Int} (hr : Rd W [A] wrdE 1 v m) (hl : m.length ≤ 1000000) (hI : InsOk i) (hF : FrmOk f) (hc : cls i.op = 1) : Fn Tryz.prog W 87 [.agg (frmE f).toArray, .agg (insE i).toArray, v] [A] Value (fun u => .tuple #[.agg (frmE (plainR f m i).1).toArray, u, .int .i64 (plainR f m i).2.2]) (fun _ => True) (fun u => [sl wrdE 1 u (plainR f m i).2.1, A]) := by
  refine Fn.introD (N := 39) func87 rfl ntmps87 rfl fun F => ?_
  haveI hRI : ∀ (H : List HProp) [HasH H A], ReadsC W H v wrdE 1 m := fun H h => ⟨hr.at h.has⟩
  show GoC _ _ _ _ _ _ [A, F]
  refine GoC.seq (GoC.region ?_)
  refine GoL.does rfl (Does.box rfl rfl rfl) ?_
  rintro _ _ ⟨b3, rfl, rfl⟩
  refine GoL.mem (H' := [arr b3 0 (frmE f), A, F]) (fun w s => s) ?_
  refine GoL.does rfl (Does.box rfl rfl rfl) ?_
  rintro _ _ ⟨b4, rfl, rfl⟩
  refine GoL.mem (H' := [arr b4 0 (insE i), arr b3 0 (frmE f), A, F]) (fun w s => s) ?_
  refine GoL.does rfl (Does.alloc rfl zeroValue131 rfl) ?_
  rintro _ _ ⟨b6, rfl, rfl⟩
  refine GoL.does rfl (Does.alloc rfl zeroValue51 rfl) ?_
  rintro _ _ ⟨b7, rfl, rfl⟩
  refine GoL.does rfl (Does.alloc rfl zeroValue28 rfl) ?_
  rintro _ _ ⟨b8, rfl, rfl⟩
  refine GoL.nil (GoE.then_normal (GoC.seq (GoC.seq (GoC.region ?_))))
  refine GoL.y rfl (Y.fieldAddrZ 3 underlying123 rfl sizeOf3 rfl) ?_
  refine GoL.y rfl (Y.load isAgg3 rfl (Cell.a (by rfl))) ?_
  refine GoL.does rfl (Does.callE rfl call63 rfl inst_Class .auto) ?_
  rintro _ _ ⟨⟨⟩, -, rfl, rfl⟩
  refine GoL.y rfl (Y.neq rfl rfl) ?_
  refine GoL.nil (GoE.then_normal ?_)
  refine GoC.condD rfl (fun h13 => ?_) (fun h13 => ?_)
  · exact absurd hc h13
  · refine GoC.skip (GoE.then_normal (GoC.seq (GoC.region ?_)))
    refine GoL.y rfl (Y.makeFunc rfl rfl) ?_
    refine GoL.deferD rfl ?_
    refine GoLD.nil ?_
    refine GoED.then_normal ?_
    refine GoCD.seq ?_
    refine GoCD.draw [arr b3 0 (frmE f), A] [0, 1, 1, 2, 1, 3, 1] rfl (by kernel_rfl) ?_
    refine GoKD.k rfl Kept.auto (Y.lda isAgg131 rfl Cells.a (by exact sizeOf131)) ?_
    refine GoKD.s rfl (Y.move rfl) ?_
    refine GoKD.s rfl (Y.lenRd underlying51 rfl Rd.s) ?_
    refine GoKD.d2 rfl Kept.auto (Does.mkSl (enc := wrdE) (k := 1) 0 m.length rfl underlying51 typeInfo43 rfl rfl rfl rfl (by decide) (by decide) rfl rfl rfl rfl (by omega)) (by rintro _ _ ⟨b19, rfl, rfl⟩; exact Kept.auto) ?_
    rintro _ _ ⟨b19, rfl, rfl⟩
    refine GoKD.s rfl (Y.bld2 (fun _ v2 => dwC f v2) rfl rfl (by kernel_rfl)) ?_
    refine GoKD.d3 rfl (Does.box rfl rfl rfl) ?_
    rintro _ _ ⟨b21, rfl, rfl⟩
    refine GoKD.s rfl (Y.assign rfl) ?_
    refine GoKD.nil ?_
    refine GoED.then_normal ?_
    refine GoCD.seq ?_
    refine GoCD.region ?_
    refine GoLD.y rfl (Y.move rfl) ?_
    refine GoLD.y rfl (Y.nilCheck rfl) ?_
    refine GoLD.y rfl (Y.fieldAddr0 10 51 underlying216 rfl sizeOf51 rfl) ?_
    refine GoLD.y rfl (Y.load isAgg51 rfl (Cell.a (by rfl))) ?_
    refine GoLD.y rfl (Y.move rfl) ?_
    refine GoLD.does rfl (Does.copyAll rfl underlying51 sizeOf43 rfl rfl Rd.s .auto (by simp) rfl (wrdE_one _)) ?_
    rintro _ _ ⟨rfl, rfl⟩
    refine GoLD.nil ?_
    refine GoED.then_normal ?_
    refine GoCD.seq ?_
    refine GoCD.region ?_
    refine GoLD.y rfl (Y.move rfl) ?_
    refine GoLD.y rfl (Y.lda isAgg123 rfl Cells.a (by exact sizeOf123)) ?_
    refine GoLD.callB_ (fun d h => by cases h; rfl) call118 rfl (frame_do (f := f) (v := .slice (some ⟨b19, 0, none⟩) m.length m.length) (m := m) (i := i) hI hF hl) .auto (fun _ h => by unfold doEnd at h; split at h <;> cases h) ?_ ?_
    · rintro ⟨⟩ u e -
      obtain ⟨z, hz⟩ : ∃ z, doI f m i = some z := by
        cases h : doI f m i with
        | none => rw [h] at e; cases e
        | some z => exact ⟨z, rfl⟩
      rw [hz] at e
      cases e
      rw [show doH b21 (.slice (some ⟨b19, 0, none⟩) m.length m.length) (doI f m i) = [arr b21 0 (dwC z.1 (.slice (some ⟨b19, 0, none⟩) m.length m.length)), sl wrdE 1 (.slice (some ⟨b19, 0, none⟩) m.length m.length) z.2] from by rw [hz]; rfl]
      refine GoLD.nil ?_
      refine GoED.then_normal ?_
      refine GoCD.seq ?_
      refine GoCD.draw [arr b21 0 (dwC z.1 (.slice (some ⟨b19, 0, none⟩) m.length m.length))] [1, 1, 1, 1, 0, 0, 0, 0, 2, 3, 3] rfl (by kernel_rfl) ?_
      refine GoKD.s rfl (Y.move rfl) ?_
      refine GoKD.s rfl (Y.nilCheck rfl) ?_
      refine GoKD.s rfl (Y.fieldAddrZ 131 underlying216 rfl sizeOf131 rfl) ?_
      refine GoKD.s rfl (Y.lda isAgg131 rfl (Cells.part0 (ds := frmE z.1) Cells.a rfl) (by exact sizeOf131)) ?_
      refine GoKD.k rfl Kept.auto (Y.move rfl) ?_
      refine GoKD.k rfl Kept.auto (Y.nilCheck rfl) ?_
      refine GoKD.k rfl Kept.auto (Y.fieldAddr0 10 51 underlying216 rfl sizeOf51 rfl) ?_
      refine GoKD.k rfl Kept.auto (Y.load isAgg51 rfl (Cell.a (by rfl))) ?_
      refine GoKD.d2 rfl Kept.auto (Does.sta (by exact sizeOf131) rfl rfl rfl (by rfl)) (by rintro _ _ ⟨rfl, rfl⟩; exact Kept.auto) ?_
      rintro _ _ ⟨rfl, rfl⟩
      refine GoKD.d3 rfl (Does.stS sizeOf51 rfl rfl rfl) ?_
      rintro _ _ ⟨rfl, rfl⟩
      refine GoKD.d3 rfl (Does.st sizeOf28 rfl rfl rfl rfl) ?_
      rintro _ _ ⟨rfl, rfl⟩
      refine GoKD.nil ?_
      refine GoED.then_normal ?_
      refine GoCD.ret ?_
      refine fun a w ha s => ?_
      show Leaves Tryz.prog Tryz.f87 a.tmps _ a.defers .returning w
      rw [ha.defers]
      refine leaves_cons (by intro h; cases h) (by simp [invoke, call117]) ((plain_ret (p6 := b6) (p7 := b7) (p8 := b8) s).mono ?_)
      rintro e2 u2 w2 ⟨rfl, rfl, s2⟩
      exact ⟨_, (results_3 ha s2 rfl rfl rfl rfl isAgg131 (by exact sizeOf131) isAgg51 isAgg28 Cells.a (Cell.a rfl) (Cell.a rfl)), .slice (some ⟨b19, 0, none⟩) m.length m.length, by rw [plainR, hz], trivial, by rw [plainR, hz]; exact finE .auto s2⟩
    · rintro ⟨⟩ c e -
      have hz : doI f m i = none := by
        cases h : doI f m i with
        | none => rfl
        | some z => rw [h] at e; cases e
      rw [hz] at e
      cases e
      rw [show doH b21 (.slice (some ⟨b19, 0, none⟩) m.length m.length) (doI f m i) = [] from by rw [hz]; rfl]
      refine fun a w ha s => ?_
      show Leaves Tryz.prog Tryz.f87 a.tmps _ a.defers (.panicking (stopC 213 6)) w
      rw [ha.defers]
      have s1 := Ent.sat (As := [arr b6 0 (frmE Frm.z), arr b7 0 [.slice none 0 0], arr b8 0 [.int .i64 0]]) .auto s
      refine leaves_cons (by intro h; cases h) (by simp [invoke, call117]) ((plain_panR (p6 := b6) (p7 := b7) (p8 := b8) s1).mono ?_)
      rintro e2 u2 w2 ⟨rfl, rfl, s2⟩
      exact ⟨_, (results_3 ha s2 rfl rfl rfl rfl isAgg131 (by exact sizeOf131) isAgg51 isAgg28 Cells.a (Cell.a rfl) (Cell.a rfl)), .slice none 0 0, by rw [plainR, hz], trivial, by rw [plainR, hz]; exact finE .auto s2⟩

end Go.SLYtpcjdohmjmeehaaGreat
namespace Go.SLYtpcjdohmjmeehaaGreat
open Go Go.RowKit Go.Proofs Go.Proofs.Tryz

theorem dng_goesI {W : World} {bd b p q : Nat} {ps : List (Option Nat)} {d : Dng} {t : Thr} {n : Int} (h0 : 0 ≤ n) (hp : ps[n.toNat]? = some (some q)) (ht : d.s.thr[n.toNat]? = some (some t)) (hn16 : n.toNat < 16) (hR : ThrR t) (he : d.ends.length ≤ 1000000) (hw : d.out.woken.length ≤ 1000000) {y : Int} : Fn Tryz.prog W 86 [ptr bd, .int .i64 n, .int .u64 y] [dngX bd b p ps d] Unit (fun _ => .tuple #[]) (fun _ => True) (fun _ => [dngX bd b p ps (d.goes n.toNat y)]) := by
  have := dng_goes (W := W) (bd := bd) (b := b) (p := p) hp ht hn16 hR he hw (y := y)
  rwa [show ((n.toNat : Nat) : Int) = n from by omega] at this

set_option maxRecDepth 20000 in
theorem dng_fin {W : World} {bd b p : Nat} {ps : List (Option Nat)} {d : Dng} {t : Thr} (hp : ps[d.n]? = some (some p)) (ht : d.s.thr[d.n]? = some (some t)) {v : Int} (hl : d.s.thr.length = 16) (hpl : ps.length = 16) (hT : TakeOk d.s.table) (hR : ThrR t) (he : d.ends.length ≤ 1000000) (hw : d.out.woken.length ≤ 1000000) (hj : ¬ t.joiner = -1 → 0 ≤ t.joiner ∧ t.joiner.toNat ≠ d.n ∧ LiveAt ps d.s t.joiner.toNat) : Fn Tryz.prog W 62 [ptr bd, .int .u64 v] [dngX bd b p ps d] (List (Option Nat)) (fun _ => .tuple #[]) (fun _ => True) (fun qs => [dngX bd b p qs (d.fin v)]) := by
  refine Fn.intro (N := 66) func62 rfl ntmps62 rfl fun F => ?_
  show GoC _ _ _ _ _ _ [dngX bd b p ps d, F]
  refine GoC.o2 (C := dngX bd b p ps d) .auto rfl ?_
  rintro vw ve -
  refine GoC.o10 (C := spcX b ps d.s) .auto rfl ?_
  rintro fv sv pv bt vm bg vt bk bw vr -
  refine GoC.fr .auto (thrs_out hp ht) ?_
  refine GoC.seq (GoC.region ?_)
  refine GoL.y rfl (Y.move rfl) ?_
  refine GoL.y rfl (Y.nilCheck rfl) ?_
  refine GoL.y rfl (Y.fieldAddr0 9 36 underlying138 rfl sizeOf36 rfl) ?_
  refine GoL.y rfl (Y.fieldAddr 2 4 underlying36 rfl sizeOf4 rfl) ?_
  refine GoL.does rfl (Does.st sizeOf4 rfl rfl rfl rfl) ?_
  rintro _ _ ⟨rfl, rfl⟩
  rw [dng_ended]
  refine GoL.nil (GoE.then_normal (GoC.block (GoC.seq (GoC.region ?_))))
  refine GoL.y rfl (Y.move rfl) ?_
  refine GoL.y rfl (Y.nilCheck rfl) ?_
  refine GoL.y rfl (Y.fieldAddr0 2 114 underlying138 rfl sizeOf114 rfl) ?_
  refine GoL.y rfl (Y.load isAgg114 rfl (Cell.a (by rfl))) ?_
  refine GoL.y rfl (Y.nilCheck rfl) ?_
  refine GoL.y rfl (Y.fieldAddr0 13 4 underlying133 rfl sizeOf4 rfl) ?_
  refine GoL.y rfl (Y.load isAgg4 rfl (Cell.a (by rfl))) ?_
  refine GoL.y rfl (Y.assign rfl) ?_
  refine GoL.nil (GoE.then_normal ?_)
  refine GoC.cond rfl (fun h21 => ?_) (fun h21 => ?_)
  · refine GoC.to (A := thrsH ps d.s.thr) (Bs := [arr p 0 (thrC t), thrsH (ps.set d.n none) (d.s.thr.set d.n none)]) .auto (thrs_keep hp ht) ?_
    refine GoC.draw [arr bd 0 (dngC b p (d.ended) vw ve)] [1, 1, 1, 1, 1, 1, 1, 1, 3] rfl (by kernel_rfl) ?_
    refine GoK.s rfl (Y.move rfl) ?_
    refine GoK.s rfl (Y.nilCheck rfl) ?_
    refine GoK.s rfl (Y.fieldAddrZ 27 underlying138 rfl sizeOf27 rfl) ?_
    refine GoK.s rfl (Y.load isAgg27 rfl (Cell.a (by rfl))) ?_
    refine GoK.s rfl (Y.move rfl) ?_
    refine GoK.s rfl (Y.nilCheck rfl) ?_
    refine GoK.s rfl (Y.fieldAddr0 1 3 underlying138 rfl sizeOf3 rfl) ?_
    refine GoK.s rfl (Y.load isAgg3 rfl (Cell.a (by rfl))) ?_
    refine GoK.d3 rfl (Does.callE rfl call85 rfl (core_free hp ht hl hpl hT hR.h.1) .auto) ?_
    rintro _ _ ⟨⟨⟩, -, rfl, rfl⟩
    refine GoK.nil (GoE.block_normal ?_)
    rw [fin_det ht h21]
    refine GoE.end0 rfl fun w s => ⟨ps.set d.n none, ?_, trivial, finE .auto s⟩
    rfl
  · refine GoC.seq (GoC.region ?_)
    refine GoL.y rfl (Y.move rfl) ?_
    refine GoL.y rfl (Y.nilCheck rfl) ?_
    refine GoL.y rfl (Y.fieldAddr0 2 114 underlying138 rfl sizeOf114 rfl) ?_
    refine GoL.y rfl (Y.load isAgg114 rfl (Cell.a (by rfl))) ?_
    refine GoL.y rfl (Y.nilCheck rfl) ?_
    refine GoL.y rfl (Y.fieldAddr0 14 3 underlying133 rfl sizeOf3 rfl) ?_
    refine GoL.y rfl (Y.load isAgg3 rfl (Cell.a (by rfl))) ?_
    refine GoL.y rfl (Y.neq rfl rfl) ?_
    refine GoL.y rfl (Y.assign rfl) ?_
    refine GoL.nil (GoE.then_normal ?_)
    refine GoC.condD rfl (fun h38 => ?_) (fun h38 => ?_)
    · refine GoC.seq (GoC.region ?_)
      refine GoL.y rfl (Y.move rfl) ?_
      refine GoL.y rfl (Y.move rfl) ?_
      refine GoL.y rfl (Y.nilCheck rfl) ?_
      refine GoL.y rfl (Y.fieldAddr0 2 114 underlying138 rfl sizeOf114 rfl) ?_
      refine GoL.y rfl (Y.load isAgg114 rfl (Cell.a (by rfl))) ?_
      refine GoL.y rfl (Y.nilCheck rfl) ?_
      refine GoL.y rfl (Y.fieldAddr0 14 3 underlying133 rfl sizeOf3 rfl) ?_
      refine GoL.y rfl (Y.load isAgg3 rfl (Cell.a (by rfl))) ?_
      refine GoL.y rfl (Y.move rfl) ?_
      obtain ⟨hj0, hjn, hj16, q, tj, hq, htj, hRj⟩ := hj h38
      refine GoL.to (A := thrsH ps d.s.thr) (Bs := [arr p 0 (thrC t), thrsH (ps.set d.n none) (d.s.thr.set d.n none)]) .auto (thrs_keep hp ht) ?_
      refine GoL.does rfl (Does.callE rfl call86 rfl (dng_goesI (d := d.ended) hj0 hq htj hj16 hRj he hw) .auto) ?_
      rintro _ _ ⟨⟨⟩, -, rfl, rfl⟩
      refine GoL.o2 (C := dngX bd b p ps (d.ended.goes t.joiner.toNat v)) .auto rfl ?_
      rintro vw ve -
      have ht2 : (d.ended.goes t.joiner.toNat v).s.thr[d.n]? = some (some t) := goes_thr ht hjn
      refine GoL.nil (GoE.then_normal ?_)
      refine GoC.draw [arr bd 0 (dngC b p (d.ended.goes t.joiner.toNat v) vw ve)] [1, 1, 1, 1, 1, 1, 1, 1, 3] rfl (by kernel_rfl) ?_
      refine GoK.s rfl (Y.move rfl) ?_
      refine GoK.s rfl (Y.nilCheck rfl) ?_
      refine GoK.s rfl (Y.fieldAddrZ 27 underlying138 rfl sizeOf27 rfl) ?_
      refine GoK.s rfl (Y.load isAgg27 rfl (Cell.a (by rfl))) ?_
      refine GoK.s rfl (Y.move rfl) ?_
      refine GoK.s rfl (Y.nilCheck rfl) ?_
      refine GoK.s rfl (Y.fieldAddr0 1 3 underlying138 rfl sizeOf3 rfl) ?_
      refine GoK.s rfl (Y.load isAgg3 rfl (Cell.a (by rfl))) ?_
      refine GoK.d3 rfl (Does.callE rfl call85 rfl (core_free (s := (d.ended.goes t.joiner.toNat v).s) hp ht2 (by simp [Dng.goes, Spc.wake, Spc.setT, Dng.ended, hl]) hpl hT hR.h.1) .auto) ?_
      rintro _ _ ⟨⟨⟩, -, rfl, rfl⟩
      refine GoK.nil (GoE.block_normal ?_)
      rw [fin_join ht h21 h38]
      refine GoE.end0 rfl fun w s => ⟨ps.set d.n none, ?_, trivial, finE .auto s⟩
      rfl
    · have h38 : t.joiner = -1 := Decidable.byContradiction h38
      refine GoC.draw [arr bd 0 (dngC b p (d.ended) vw ve)] [1, 1, 1, 1, 1, 1, 1, 1, 0, 1, 1, 2, 1, 1, 3] rfl (by kernel_rfl) ?_
      refine GoK.s rfl (Y.move rfl) ?_
      refine GoK.s rfl (Y.nilCheck rfl) ?_
      refine GoK.s rfl (Y.fieldAddr0 2 114 underlying138 rfl sizeOf114 rfl) ?_
      refine GoK.s rfl (Y.load isAgg114 rfl (Cell.a (by rfl))) ?_
      refine GoK.s rfl (Y.move rfl) ?_
      refine GoK.s rfl (Y.nilCheck rfl) ?_
      refine GoK.s rfl (Y.fieldAddr0 2 114 underlying138 rfl sizeOf114 rfl) ?_
      refine GoK.s rfl (Y.load isAgg114 rfl (Cell.a (by rfl))) ?_
      refine GoK.k rfl Kept.auto (Y.move rfl) ?_
      refine GoK.s rfl (Y.nilCheck rfl) ?_
      refine GoK.s rfl (Y.fieldAddr0 11 3 underlying133 rfl sizeOf3 rfl) ?_
      refine GoK.d2 rfl Kept.auto (Does.st sizeOf3 rfl rfl rfl rfl) (by rintro _ _ ⟨rfl, rfl⟩; exact Kept.auto) ?_
      rintro _ _ ⟨rfl, rfl⟩
      rw [thr_why]
      refine GoK.s rfl (Y.nilCheck rfl) ?_
      refine GoK.s rfl (Y.fieldAddr0 12 43 underlying133 rfl sizeOf43 rfl) ?_
      refine GoK.d3 rfl (Does.st sizeOf43 rfl rfl rfl rfl) ?_
      rintro _ _ ⟨rfl, rfl⟩
      rw [thr_value]
      refine GoK.nil (GoE.block_normal ?_)
      rw [fin_none ht h21 h38]
      refine GoE.to (A := thrsH ps (d.s.thr.set d.n (some ({ t with why := 9, value := v })))) (Bs := [arr p 0 (thrC ({ t with why := 9, value := v })), thrsH (ps.set d.n none) (d.s.thr.set d.n none)]) .auto (thrs_shut (List.getElem?_eq_some_iff.1 ht).1 hp) ?_
      refine GoE.end0 rfl fun w s => ⟨ps, ?_, trivial, finE .auto s⟩
      rfl

set_option maxRecDepth 20000 in
theorem dng_given {W : World} {bd b p : Nat} {ps : List (Option Nat)} {d : Dng} {n : Int} {ok : Bool} (hg : ok = true → 0 ≤ n ∧ LiveAt ps d.s n.toNat) (he : d.ends.length ≤ 1000000) (hw : d.out.woken.length ≤ 1000000) : Fn Tryz.prog W 124 [ptr bd, .int .i64 n, .bool ok] [dngX bd b p ps d] Unit (fun _ => .tuple #[]) (fun _ => True) (fun _ => [dngX bd b p ps (d.given n ok)]) := by
  refine Fn.intro (N := 10) func124 rfl ntmps124 rfl fun F => ?_
  show GoC _ _ _ _ _ _ [dngX bd b p ps d, F]
  refine GoC.seq (GoC.region ?_)
  refine GoL.y rfl (Y.move rfl) ?_
  refine GoL.nil (GoE.then_normal ?_)
  refine GoC.cond rfl (fun h6 => ?_) (fun h6 => ?_)
  · refine GoC.region ?_
    obtain ⟨h0, hn16, q, t, hq, ht, hR⟩ := hg h6
    refine GoL.y rfl (Y.move rfl) ?_
    refine GoL.y rfl (Y.move rfl) ?_
    refine GoL.does rfl (Does.callE rfl call86 rfl (dng_goesI h0 hq ht hn16 hR he hw) .auto) ?_
    rintro _ _ ⟨⟨⟩, -, rfl, rfl⟩
    refine GoL.nil ?_
    rw [show d.given n ok = d.goes n.toNat 0 from by unfold Dng.given; rw [if_pos h6]]
    refine GoE.end0 rfl fun w s => ⟨(), ?_, trivial, finE .auto s⟩
    rfl
  · refine GoC.skip ?_
    rw [show d.given n ok = d from by unfold Dng.given; rw [if_neg (by rw [h6]; simp)]]
    refine GoE.end0 rfl fun w s => ⟨(), ?_, trivial, finE .auto s⟩
    rfl

set_option maxRecDepth 20000 in
theorem dng_plain {W : World} {bd b p : Nat} {ps : List (Option Nat)} {d : Dng} {t : Thr} (hp : ps[d.n]? = some (some p)) (ht : d.s.thr[d.n]? = some (some t)) (hI : InsOk d.i) (hF : FrmOk t.frm) (hc : cls d.i.op = 1) (hm : d.s.mem.length ≤ 1000000) (hr : d.s.recs.length ≤ 100000000) (hl : d.s.thr.length = 16) (hpl : ps.length = 16) (hT : TakeOk d.s.table) (hR : ThrR t) (he : d.ends.length ≤ 1000000) (hw : d.out.woken.length ≤ 1000000) (hj : ¬ t.joiner = -1 → 0 ≤ t.joiner ∧ t.joiner.toNat ≠ d.n ∧ LiveAt ps d.s t.joiner.toNat) : Fn Tryz.prog W 64 [ptr bd] [dngX bd b p ps d] (List (Option Nat)) (fun _ => .tuple #[]) (fun _ => True) (fun qs => [dngX bd b p qs d.plain]) := by
  refine Fn.intro (N := 124) func64 rfl ntmps64 rfl fun F => ?_
  show GoC _ _ _ _ _ _ [dngX bd b p ps d, F]
  refine GoC.o2 (C := dngX bd b p ps d) .auto rfl ?_
  rintro vw ve -
  refine GoC.o10 (C := spcX b ps d.s) .auto rfl ?_
  rintro fv sv pv bt vm bg vt bk bw vr -
  refine GoC.fr .auto (thrs_out hp ht) ?_
  have hIa := hI.a
  have hIb := hI.b
  have hb : d.b = t.regs.getD d.i.b.toNat 0 := by unfold Dng.b; rw [dng_t ht]; rfl
  have ha : d.a = t.regs.getD d.i.a.toNat 0 := by unfold Dng.a; rw [dng_t ht]; rfl
  have hbr := hR.r d.i.b.toNat
  refine GoC.seq ?_
  refine GoC.draw [] [1, 1, 1, 1, 1, 1, 1, 1, 1, 1, 1, 1, 1, 1, 1, 1, 1, 1, 1, 1, 1, 1, 1, 1, 1, 1, 1, 1, 1, 1] rfl (by kernel_rfl) ?_
  refine GoK.s rfl (Y.move rfl) ?_
  refine GoK.s rfl (Y.nilCheck rfl) ?_
  refine GoK.s rfl (Y.fieldAddr0 2 114 underlying138 rfl sizeOf114 rfl) ?_
  refine GoK.s rfl (Y.load isAgg114 rfl (Cell.a (by rfl))) ?_
  refine GoK.s rfl (Y.move rfl) ?_
  refine GoK.s rfl (Y.nilCheck rfl) ?_
  refine GoK.s rfl (Y.fieldAddr0 3 123 underlying138 rfl sizeOf123 rfl) ?_
  refine GoK.s rfl (Y.fieldAddr 1 3 underlying123 rfl sizeOf3 rfl) ?_
  refine GoK.s rfl (Y.load isAgg3 rfl (Cell.a (by rfl))) ?_
  refine GoK.s rfl (Y.nilCheck rfl) ?_
  refine GoK.s rfl (Y.fieldAddrZ 131 underlying133 rfl sizeOf131 rfl) ?_
  refine GoK.s rfl (Y.fieldAddr0 2 57 underlying131 rfl sizeOf57 rfl) ?_
  refine GoK.s rfl (Y.ixArr d.i.a.toNat underlying57 sizeOf43 rfl rfl (by omega) (by omega)) ?_
  refine GoK.s rfl (Y.load isAgg43 rfl (Cell.a (thr_get (by omega)))) ?_
  refine GoK.s rfl (Y.move rfl) ?_
  refine GoK.s rfl (Y.nilCheck rfl) ?_
  refine GoK.s rfl (Y.fieldAddr0 2 114 underlying138 rfl sizeOf114 rfl) ?_
  refine GoK.s rfl (Y.load isAgg114 rfl (Cell.a (by rfl))) ?_
  refine GoK.s rfl (Y.move rfl) ?_
  refine GoK.s rfl (Y.nilCheck rfl) ?_
  refine GoK.s rfl (Y.fieldAddr0 3 123 underlying138 rfl sizeOf123 rfl) ?_
  refine GoK.s rfl (Y.fieldAddr 2 3 underlying123 rfl sizeOf3 rfl) ?_
  refine GoK.s rfl (Y.load isAgg3 rfl (Cell.a (by rfl))) ?_
  refine GoK.s rfl (Y.nilCheck rfl) ?_
  refine GoK.s rfl (Y.fieldAddrZ 131 underlying133 rfl sizeOf131 rfl) ?_
  refine GoK.s rfl (Y.fieldAddr0 2 57 underlying131 rfl sizeOf57 rfl) ?_
  refine GoK.s rfl (Y.ixArr d.i.b.toNat underlying57 sizeOf43 rfl rfl (by omega) (by omega)) ?_
  refine GoK.s rfl (Y.load isAgg43 rfl (Cell.a (thr_get (by omega)))) ?_
  refine GoK.s rfl (Y.assign rfl) ?_
  refine GoK.s rfl (Y.assign rfl) ?_
  refine GoK.nil (GoE.then_normal (GoC.seq ?_))
  refine GoC.drawF [arr bd 0 (dngC b p d vw ve), arr b 0 (spcC fv sv pv d.s.prg bt ps vm bg vt bk bw vr), arr p 0 (thrC t), sl wrdE 1 vm d.s.mem] [0, 0, 0, 0, 0, 0, 0, 0, 0, 0, 0, 0, 0, 0, 0, 0, 0, 0, 2, 0, 0, 0, 0, 4, 2, 0, 0] [0, 1, 2, 3, 4, 5, 6, 7, 8, 9, 10, 11, 12, 13, 14, 15, 16, 17, 18, 19, 20, 21, 22, 23, 24, 25, 26] rfl (by kernel_rfl) ?_
  refine GoF.q rfl rfl rfl Kept.auto (Y.move rfl) ?_
  refine GoF.q rfl rfl rfl Kept.auto (Y.nilCheck rfl) ?_
  refine GoF.q rfl rfl rfl Kept.auto (Y.fieldAddr0 2 114 underlying138 rfl sizeOf114 rfl) ?_
  refine GoF.q rfl rfl rfl Kept.auto (Y.load isAgg114 rfl (Cell.a (by rfl))) ?_
  refine GoF.q rfl rfl rfl Kept.auto (Y.nilCheck rfl) ?_
  refine GoF.q rfl rfl rfl Kept.auto (Y.fieldAddrZ 131 underlying133 rfl sizeOf131 rfl) ?_
  refine GoF.q rfl rfl rfl Kept.auto (Y.lda isAgg131 rfl (Cells.part0 (ds := frmE t.frm) (Cells.a (cs := thrC t)) rfl) (by exact sizeOf131)) ?_
  refine GoF.q rfl rfl rfl Kept.auto (Y.move rfl) ?_
  refine GoF.q rfl rfl rfl Kept.auto (Y.nilCheck rfl) ?_
  refine GoF.q rfl rfl rfl Kept.auto (Y.fieldAddr0 3 123 underlying138 rfl sizeOf123 rfl) ?_
  refine GoF.q rfl rfl rfl Kept.auto (Y.lda isAgg123 rfl (Cells.part0 (ds := insE d.i) (Cells.a (cs := dngC b p d vw ve)) rfl) (by exact sizeOf123)) ?_
  refine GoF.q rfl rfl rfl Kept.auto (Y.move rfl) ?_
  refine GoF.q rfl rfl rfl Kept.auto (Y.nilCheck rfl) ?_
  refine GoF.q rfl rfl rfl Kept.auto (Y.fieldAddrZ 27 underlying138 rfl sizeOf27 rfl) ?_
  refine GoF.q rfl rfl rfl Kept.auto (Y.load isAgg27 rfl (Cell.a (by rfl))) ?_
  refine GoF.q rfl rfl rfl Kept.auto (Y.nilCheck rfl) ?_
  refine GoF.q rfl rfl rfl Kept.auto (Y.fieldAddr0 25 51 underlying118 rfl sizeOf51 rfl) ?_
  refine GoF.q rfl rfl rfl Kept.auto (Y.load isAgg51 rfl (Cell.a (by rfl))) ?_
  refine GoF.callE rfl (.inl rfl) rfl (fun _ => Kept.auto) call87 rfl (frame_Plain (A := sl wrdE 1 vm d.s.mem) Rd.s hm hI hF hc) .auto (fun _ _ => Kept.auto) ?_
  rintro u5 -
  refine GoF.q rfl rfl rfl Kept.auto (Y.move rfl) ?_
  refine GoF.q rfl rfl rfl Kept.auto (Y.extract (v := .agg (frmE (plainR t.frm d.s.mem d.i).1).toArray) rfl rfl) ?_
  refine GoF.q rfl rfl rfl Kept.auto (Y.extract (v := u5) rfl rfl) ?_
  refine GoF.q rfl rfl rfl Kept.auto (Y.extract (v := .int .i64 (plainR t.frm d.s.mem d.i).2.2) rfl rfl) ?_
  refine GoF.fresh rfl rfl rfl (by decide) Kept.auto (fresh_alloc zeroValue131 rfl) ?_
  rintro b4
  refine GoF.sta2 rfl rfl (by exact sizeOf131) rfl rfl rfl (by rfl) Kept.auto Kept.auto ?_
  refine GoF.q rfl rfl rfl Kept.auto (Y.assign rfl) ?_
  refine GoF.q rfl rfl rfl Kept.auto (Y.assign rfl) ?_
  refine GoF.nil ?_
  refine GoE.then_normal (GoC.seq (GoC.block (GoC.seq (GoC.region ?_))))
  refine GoL.y rfl (Y.move rfl) ?_
  refine GoL.y rfl (Y.nilCheck rfl) ?_
  refine GoL.y rfl (Y.fieldAddr0 3 123 underlying138 rfl sizeOf123 rfl) ?_
  refine GoL.y rfl (Y.fieldAddrZ 3 underlying123 rfl sizeOf3 rfl) ?_
  refine GoL.y rfl (Y.load isAgg3 rfl (Cell.a (by rfl))) ?_
  refine GoL.y rfl (Y.eql rfl rfl) ?_
  refine GoL.y rfl (Y.move rfl) ?_
  apply GoL.segAD 3 68 65 [65, 66, 67, 68] rfl
  · intro h65
    refine GoL.yg rfl rfl rfl (Y.move rfl) ?_
    refine GoL.yg rfl rfl rfl (Y.eql rfl rfl) ?_
    refine GoL.y rfl (Y.pickT rfl rfl) ?_
    refine GoL.nil ?_
    refine GoE.seg .auto rfl (by first | exact fun _ h => h | exact Ent.kept .auto)
  · intro h65
    refine GoL.skip rfl rfl rfl rfl ?_
    refine GoL.skip rfl rfl rfl rfl ?_
    refine GoL.y rfl (Y.pickF rfl rfl) ?_
    refine GoL.nil ?_
    refine GoE.seg .auto rfl (by first | exact fun _ h => h | exact Ent.kept .auto)
  refine GoL.y rfl (Y.assign rfl) ?_
  refine GoL.nil (GoE.then_normal ?_)
  refine GoC.cond rfl (fun h58 => ?_) (fun h58 => ?_)
  · simp only [Bool.and_eq_true, Bool.or_eq_true, Bool.and_eq_false_iff, Bool.or_eq_false_iff, decide_eq_true_eq, decide_eq_false_iff_not, Bool.not_eq_true', Bool.not_eq_false'] at h58
    obtain ⟨h1, h0⟩ := h58
    obtain ⟨z, hz⟩ := plain_zero h0
    rw [plain_some hz]
    have hlt : t.regs.getD d.i.b.toNat 0 < d.s.mem.length := doI_load hz h1
    refine GoC.region ?_
    refine GoL.y rfl (Y.move rfl) ?_
    refine GoL.y rfl (Y.move rfl) ?_
    refine GoL.y rfl (Y.move rfl) ?_
    refine GoL.y rfl (Y.nilCheck rfl) ?_
    refine GoL.y rfl (Y.fieldAddrZ 27 underlying138 rfl sizeOf27 rfl) ?_
    refine GoL.y rfl (Y.load isAgg27 rfl (Cell.a (by rfl))) ?_
    refine GoL.y rfl (Y.nilCheck rfl) ?_
    refine GoL.y rfl (Y.fieldAddr0 25 51 underlying118 rfl sizeOf51 rfl) ?_
    refine GoL.y rfl (Y.load isAgg51 rfl (Cell.a (by rfl))) ?_
    refine GoL.y rfl (Y.move rfl) ?_
    refine GoL.y rfl (Y.ixRd (t.regs.getD d.i.b.toNat 0).toNat underlying51 sizeOf43 rfl rfl Rd.s (by omega) (by omega)) ?_
    refine GoL.y rfl (Y.load isAgg43 rfl (Cell.rd0 Rd.s (getD_some (d := (0 : Int)) (show (t.regs.getD d.i.b.toNat 0).toNat < d.s.mem.length by omega)) (by rfl))) ?_
    refine GoL.to (A := thrsH ps d.s.thr) (Bs := [arr p 0 (thrC t), thrsH (ps.set d.n none) (d.s.thr.set d.n none)]) .auto (thrs_keep hp ht) ?_
    refine GoL.y rfl (Y.move rfl) ?_
    refine GoL.does rfl (Does.callE rfl call61 rfl (dng_tell hp ht hr) .auto) ?_
    rintro _ _ ⟨⟨⟩, -, rfl, rfl⟩
    refine GoL.nil ?_
    refine GoE.block_normal (GoE.then_normal (GoC.seq (GoC.seq (GoC.region ?_))))
    refine GoL.y rfl (Y.move rfl) ?_
    refine GoL.y rfl (Y.neq rfl rfl) ?_
    refine GoL.nil (GoE.then_normal ?_)
    refine GoC.condF rfl ?_
    refine GoC.skip (GoE.then_normal ?_)
    refine GoC.o2 (C := dngX bd b p ps (d.tell (t.regs.getD d.i.b.toNat 0) (d.s.mem.getD (t.regs.getD d.i.b.toNat 0).toNat 0) 0 true)) .auto rfl ?_
    rintro vw ve -
    refine GoC.o10 (C := spcX b ps (d.tell (t.regs.getD d.i.b.toNat 0) (d.s.mem.getD (t.regs.getD d.i.b.toNat 0).toNat 0) 0 true).s) .auto rfl ?_
    rintro fv sv pv bt vm bg vt bk bw vr -
    refine GoC.fr .auto (thrs_out hp (show (d.tell (t.regs.getD d.i.b.toNat 0) (d.s.mem.getD (t.regs.getD d.i.b.toNat 0).toNat 0) 0 true).s.thr[(d.tell (t.regs.getD d.i.b.toNat 0) (d.s.mem.getD (t.regs.getD d.i.b.toNat 0).toNat 0) 0 true).n]? = some (some t) from ht)) ?_
    refine GoC.draw [arr bd 0 (dngC b p (d.tell (t.regs.getD d.i.b.toNat 0) (d.s.mem.getD (t.regs.getD d.i.b.toNat 0).toNat 0) 0 true) vw ve), arr b4 0 (frmE z.1)] [1, 1, 1, 1, 1, 1, 1, 1, 1, 0, 1, 1, 2, 1, 1, 3] rfl (by kernel_rfl) ?_
    refine GoK.s rfl (Y.move rfl) ?_
    refine GoK.s rfl (Y.nilCheck rfl) ?_
    refine GoK.s rfl (Y.fieldAddr0 2 114 underlying138 rfl sizeOf114 rfl) ?_
    refine GoK.s rfl (Y.load isAgg114 rfl (Cell.a (by rfl))) ?_
    refine GoK.s rfl (Y.move rfl) ?_
    refine GoK.s rfl (Y.nilCheck rfl) ?_
    refine GoK.s rfl (Y.fieldAddrZ 27 underlying138 rfl sizeOf27 rfl) ?_
    refine GoK.s rfl (Y.load isAgg27 rfl (Cell.a (by rfl))) ?_
    refine GoK.s rfl (Y.lda isAgg131 rfl Cells.a (by exact sizeOf131)) ?_
    refine GoK.k rfl Kept.auto (Y.move rfl) ?_
    refine GoK.s rfl (Y.nilCheck rfl) ?_
    refine GoK.s rfl (Y.fieldAddrZ 131 underlying133 rfl sizeOf131 rfl) ?_
    refine GoK.d2 rfl Kept.auto (Does.stp (vs := frmE z.1) (by exact sizeOf131) rfl rfl rfl rfl) (by rintro _ _ ⟨rfl, rfl⟩; exact Kept.auto) ?_
    rintro _ _ ⟨rfl, rfl⟩
    rw [thr_setF]
    refine GoK.s rfl (Y.nilCheck rfl) ?_
    refine GoK.s rfl (Y.fieldAddr0 25 51 underlying118 rfl sizeOf51 rfl) ?_
    refine GoK.d3 rfl (Does.stS sizeOf51 rfl rfl rfl) ?_
    rintro _ _ ⟨rfl, rfl⟩
    rw [spc_mem]
    refine GoK.nil ?_
    refine GoE.to (A := thrsH ps ((d.tell (t.regs.getD d.i.b.toNat 0) (d.s.mem.getD (t.regs.getD d.i.b.toNat 0).toNat 0) 0 true).s.thr.set (d.tell (t.regs.getD d.i.b.toNat 0) (d.s.mem.getD (t.regs.getD d.i.b.toNat 0).toNat 0) 0 true).n (some (t.setF z.1)))) (Bs := [arr p 0 (thrC (t.setF z.1)), thrsH (ps.set (d.tell (t.regs.getD d.i.b.toNat 0) (d.s.mem.getD (t.regs.getD d.i.b.toNat 0).toNat 0) 0 true).n none) ((d.tell (t.regs.getD d.i.b.toNat 0) (d.s.mem.getD (t.regs.getD d.i.b.toNat 0).toNat 0) 0 true).s.thr.set (d.tell (t.regs.getD d.i.b.toNat 0) (d.s.mem.getD (t.regs.getD d.i.b.toNat 0).toNat 0) 0 true).n none)]) .auto (thrs_shut (List.getElem?_eq_some_iff.1 ht).1 hp) ?_
    rw [dplain_some ht hz, show d.told = d.tell (t.regs.getD d.i.b.toNat 0) (d.s.mem.getD (t.regs.getD d.i.b.toNat 0).toNat 0) 0 true from by unfold Dng.told; rw [if_pos h1, hb]]
    refine GoE.end0 rfl fun w s => ⟨ps, ?_, trivial, finE .auto s⟩
    rfl
  · simp only [Bool.and_eq_true, Bool.or_eq_true, Bool.and_eq_false_iff, Bool.or_eq_false_iff, decide_eq_true_eq, decide_eq_false_iff_not, Bool.not_eq_true', Bool.not_eq_false'] at h58
    refine GoC.seq (GoC.region ?_)
    refine GoL.y rfl (Y.move rfl) ?_
    refine GoL.y rfl (Y.nilCheck rfl) ?_
    refine GoL.y rfl (Y.fieldAddr0 3 123 underlying138 rfl sizeOf123 rfl) ?_
    refine GoL.y rfl (Y.fieldAddrZ 3 underlying123 rfl sizeOf3 rfl) ?_
    refine GoL.y rfl (Y.load isAgg3 rfl (Cell.a (by rfl))) ?_
    refine GoL.y rfl (Y.eql rfl rfl) ?_
    refine GoL.y rfl (Y.assign rfl) ?_
    refine GoL.nil (GoE.then_normal ?_)
    refine GoC.condD rfl (fun h83 => ?_) (fun h83 => ?_)
    · have hz := plain_six (h58.resolve_left (fun h => h h83))
      rw [plain_none hz]
      refine GoC.region ?_
      refine GoL.to (A := thrsH ps d.s.thr) (Bs := [arr p 0 (thrC t), thrsH (ps.set d.n none) (d.s.thr.set d.n none)]) .auto (thrs_keep hp ht) ?_
      refine GoL.y rfl (Y.move rfl) ?_
      refine GoL.y rfl (Y.move rfl) ?_
      refine GoL.y rfl (Y.move rfl) ?_
      refine GoL.does rfl (Does.callE rfl call61 rfl (dng_tell hp ht hr) .auto) ?_
      rintro _ _ ⟨⟨⟩, -, rfl, rfl⟩
      refine GoL.nil ?_
      refine GoE.block_normal (GoE.then_normal (GoC.seq (GoC.seq (GoC.region ?_))))
      refine GoL.y rfl (Y.move rfl) ?_
      refine GoL.y rfl (Y.neq rfl rfl) ?_
      refine GoL.nil (GoE.then_normal ?_)
      refine GoC.condT rfl ?_
      refine GoC.seq (GoC.region ?_)
      refine GoL.y rfl (Y.move rfl) ?_
      refine GoL.does rfl (Does.callE rfl call62 rfl (dng_fin (d := (d.tell (t.regs.getD d.i.b.toNat 0) 0 6 true)) hp ht hl hpl hT hR he hw hj) .auto) ?_
      rintro _ _ ⟨qs, -, rfl, rfl⟩
      refine GoL.nil (GoE.then_normal (GoC.ret ?_))
      refine GoE.then_ret ?_
      rw [dplain_none ht hz, if_pos h83, hb]
      refine GoE.ret0 rfl fun w s => ⟨qs, ?_, trivial, finE .auto s⟩
      rfl
    · refine GoC.seq (GoC.region ?_)
      refine GoL.y rfl (Y.move rfl) ?_
      refine GoL.y rfl (Y.nilCheck rfl) ?_
      refine GoL.y rfl (Y.fieldAddr0 3 123 underlying138 rfl sizeOf123 rfl) ?_
      refine GoL.y rfl (Y.fieldAddrZ 3 underlying123 rfl sizeOf3 rfl) ?_
      refine GoL.y rfl (Y.load isAgg3 rfl (Cell.a (by rfl))) ?_
      refine GoL.y rfl (Y.eql rfl rfl) ?_
      refine GoL.y rfl (Y.assign rfl) ?_
      refine GoL.nil (GoE.then_normal ?_)
      refine GoC.condD rfl (fun h94 => ?_) (fun h94 => ?_)
      · refine GoC.region ?_
        refine GoL.to (A := thrsH ps d.s.thr) (Bs := [arr p 0 (thrC t), thrsH (ps.set d.n none) (d.s.thr.set d.n none)]) .auto (thrs_keep hp ht) ?_
        refine GoL.y rfl (Y.move rfl) ?_
        refine GoL.y rfl (Y.move rfl) ?_
        refine GoL.y rfl (Y.move rfl) ?_
        refine GoL.y rfl (Y.move rfl) ?_
        refine GoL.does rfl (Does.callE rfl call61 rfl (dng_tell hp ht hr) .auto) ?_
        rintro _ _ ⟨⟨⟩, -, rfl, rfl⟩
        refine GoL.nil ?_
        refine GoE.block_normal (GoE.then_normal (GoC.seq (GoC.seq (GoC.region ?_))))
        refine GoL.y rfl (Y.move rfl) ?_
        refine GoL.y rfl (Y.neq rfl rfl) ?_
        refine GoL.nil (GoE.then_normal ?_)
        refine GoC.condD rfl (fun h107 => ?_) (fun h107 => ?_)
        · have hz := plain_six h107
          rw [plain_none hz]
          refine GoC.seq (GoC.region ?_)
          refine GoL.y rfl (Y.move rfl) ?_
          refine GoL.does rfl (Does.callE rfl call62 rfl (dng_fin (d := (d.tell (t.regs.getD d.i.a.toNat 0) (t.regs.getD d.i.b.toNat 0) 6 true)) hp ht hl hpl hT hR he hw hj) .auto) ?_
          rintro _ _ ⟨qs, -, rfl, rfl⟩
          refine GoL.nil (GoE.then_normal (GoC.ret ?_))
          refine GoE.then_ret ?_
          rw [dplain_none ht hz, if_neg h83, ha, hb]
          refine GoE.ret0 rfl fun w s => ⟨qs, ?_, trivial, finE .auto s⟩
          rfl
        · obtain ⟨z, hz⟩ := plain_zero (Decidable.not_not.mp h107)
          rw [plain_some hz]
          refine GoC.skip (GoE.then_normal ?_)
          refine GoC.o2 (C := dngX bd b p ps (d.tell (t.regs.getD d.i.a.toNat 0) (t.regs.getD d.i.b.toNat 0) 0 true)) .auto rfl ?_
          rintro vw ve -
          refine GoC.o10 (C := spcX b ps (d.tell (t.regs.getD d.i.a.toNat 0) (t.regs.getD d.i.b.toNat 0) 0 true).s) .auto rfl ?_
          rintro fv sv pv bt vm bg vt bk bw vr -
          refine GoC.fr .auto (thrs_out hp (show (d.tell (t.regs.getD d.i.a.toNat 0) (t.regs.getD d.i.b.toNat 0) 0 true).s.thr[(d.tell (t.regs.getD d.i.a.toNat 0) (t.regs.getD d.i.b.toNat 0) 0 true).n]? = some (some t) from ht)) ?_
          refine GoC.draw [arr bd 0 (dngC b p (d.tell (t.regs.getD d.i.a.toNat 0) (t.regs.getD d.i.b.toNat 0) 0 true) vw ve), arr b4 0 (frmE z.1)] [1, 1, 1, 1, 1, 1, 1, 1, 1, 0, 1, 1, 2, 1, 1, 3] rfl (by kernel_rfl) ?_
          refine GoK.s rfl (Y.move rfl) ?_
          refine GoK.s rfl (Y.nilCheck rfl) ?_
          refine GoK.s rfl (Y.fieldAddr0 2 114 underlying138 rfl sizeOf114 rfl) ?_
          refine GoK.s rfl (Y.load isAgg114 rfl (Cell.a (by rfl))) ?_
          refine GoK.s rfl (Y.move rfl) ?_
          refine GoK.s rfl (Y.nilCheck rfl) ?_
          refine GoK.s rfl (Y.fieldAddrZ 27 underlying138 rfl sizeOf27 rfl) ?_
          refine GoK.s rfl (Y.load isAgg27 rfl (Cell.a (by rfl))) ?_
          refine GoK.s rfl (Y.lda isAgg131 rfl Cells.a (by exact sizeOf131)) ?_
          refine GoK.k rfl Kept.auto (Y.move rfl) ?_
          refine GoK.s rfl (Y.nilCheck rfl) ?_
          refine GoK.s rfl (Y.fieldAddrZ 131 underlying133 rfl sizeOf131 rfl) ?_
          refine GoK.d2 rfl Kept.auto (Does.stp (vs := frmE z.1) (by exact sizeOf131) rfl rfl rfl rfl) (by rintro _ _ ⟨rfl, rfl⟩; exact Kept.auto) ?_
          rintro _ _ ⟨rfl, rfl⟩
          rw [thr_setF]
          refine GoK.s rfl (Y.nilCheck rfl) ?_
          refine GoK.s rfl (Y.fieldAddr0 25 51 underlying118 rfl sizeOf51 rfl) ?_
          refine GoK.d3 rfl (Does.stS sizeOf51 rfl rfl rfl) ?_
          rintro _ _ ⟨rfl, rfl⟩
          rw [spc_mem]
          refine GoK.nil ?_
          refine GoE.to (A := thrsH ps ((d.tell (t.regs.getD d.i.a.toNat 0) (t.regs.getD d.i.b.toNat 0) 0 true).s.thr.set (d.tell (t.regs.getD d.i.a.toNat 0) (t.regs.getD d.i.b.toNat 0) 0 true).n (some (t.setF z.1)))) (Bs := [arr p 0 (thrC (t.setF z.1)), thrsH (ps.set (d.tell (t.regs.getD d.i.a.toNat 0) (t.regs.getD d.i.b.toNat 0) 0 true).n none) ((d.tell (t.regs.getD d.i.a.toNat 0) (t.regs.getD d.i.b.toNat 0) 0 true).s.thr.set (d.tell (t.regs.getD d.i.a.toNat 0) (t.regs.getD d.i.b.toNat 0) 0 true).n none)]) .auto (thrs_shut (List.getElem?_eq_some_iff.1 ht).1 hp) ?_
          rw [dplain_some ht hz, show d.told = d.tell (t.regs.getD d.i.a.toNat 0) (t.regs.getD d.i.b.toNat 0) 0 true from by unfold Dng.told; rw [if_neg h83, if_pos h94, ha, hb]]
          refine GoE.end0 rfl fun w s => ⟨ps, ?_, trivial, finE .auto s⟩
          rfl
      · refine GoC.skip ?_
        refine GoE.block_normal (GoE.then_normal (GoC.seq (GoC.seq (GoC.region ?_))))
        refine GoL.y rfl (Y.move rfl) ?_
        refine GoL.y rfl (Y.neq rfl rfl) ?_
        refine GoL.nil (GoE.then_normal ?_)
        refine GoC.condD rfl (fun h107 => ?_) (fun h107 => ?_)
        · exact absurd (doI_none (plain_six h107)) (by omega)
        · obtain ⟨z, hz⟩ := plain_zero (Decidable.not_not.mp h107)
          rw [plain_some hz]
          refine GoC.skip (GoE.then_normal ?_)
          refine GoC.draw [arr bd 0 (dngC b p (d) vw ve), arr b4 0 (frmE z.1)] [1, 1, 1, 1, 1, 1, 1, 1, 1, 0, 1, 1, 2, 1, 1, 3] rfl (by kernel_rfl) ?_
          refine GoK.s rfl (Y.move rfl) ?_
          refine GoK.s rfl (Y.nilCheck rfl) ?_
          refine GoK.s rfl (Y.fieldAddr0 2 114 underlying138 rfl sizeOf114 rfl) ?_
          refine GoK.s rfl (Y.load isAgg114 rfl (Cell.a (by rfl))) ?_
          refine GoK.s rfl (Y.move rfl) ?_
          refine GoK.s rfl (Y.nilCheck rfl) ?_
          refine GoK.s rfl (Y.fieldAddrZ 27 underlying138 rfl sizeOf27 rfl) ?_
          refine GoK.s rfl (Y.load isAgg27 rfl (Cell.a (by rfl))) ?_
          refine GoK.s rfl (Y.lda isAgg131 rfl Cells.a (by exact sizeOf131)) ?_
          refine GoK.k rfl Kept.auto (Y.move rfl) ?_
          refine GoK.s rfl (Y.nilCheck rfl) ?_
          refine GoK.s rfl (Y.fieldAddrZ 131 underlying133 rfl sizeOf131 rfl) ?_
          refine GoK.d2 rfl Kept.auto (Does.stp (vs := frmE z.1) (by exact sizeOf131) rfl rfl rfl rfl) (by rintro _ _ ⟨rfl, rfl⟩; exact Kept.auto) ?_
          rintro _ _ ⟨rfl, rfl⟩
          rw [thr_setF]
          refine GoK.s rfl (Y.nilCheck rfl) ?_
          refine GoK.s rfl (Y.fieldAddr0 25 51 underlying118 rfl sizeOf51 rfl) ?_
          refine GoK.d3 rfl (Does.stS sizeOf51 rfl rfl rfl) ?_
          rintro _ _ ⟨rfl, rfl⟩
          rw [spc_mem]
          refine GoK.nil ?_
          refine GoE.to (A := thrsH ps ((d).s.thr.set (d).n (some (t.setF z.1)))) (Bs := [arr p 0 (thrC (t.setF z.1)), thrsH (ps.set (d).n none) ((d).s.thr.set (d).n none)]) .auto (thrs_shut (List.getElem?_eq_some_iff.1 ht).1 hp) ?_
          rw [dplain_some ht hz, show d.told = d from by unfold Dng.told; rw [if_neg h83, if_neg h94]]
          refine GoE.end0 rfl fun w s => ⟨ps, ?_, trivial, finE .auto s⟩
          rfl

end Go.SLYtpcjdohmjmeehaaGreat
namespace Go.SLYtpcjdohmjmeehaaGreat
open Go Go.RowKit Go.Proofs Go.Proofs.Tryz

set_option maxRecDepth 20000 in
theorem gate_Lock {W : World} {b : Nat} {g : Gates} {who m : Int} (hg : GatesLen g) : Fn Tryz.prog W 122 [ptr b, .int .i64 who, .int .i64 m] [gatesH b g] Unit (fun _ => .tuple #[.bool (g.lock who m).1, .int .i64 (g.lock who m).2.1]) (fun _ => True) (fun _ => [gatesH b (g.lock who m).2.2]) := by
  refine Fn.intro (N := 27) func122 rfl ntmps122 rfl fun F => ?_
  show GoC _ _ _ _ _ _ [gatesH b g, F]
  refine GoC.o3 (C := gatesH b g) .auto rfl ?_
  rintro vm vc vs -
  refine GoC.seq (GoC.region ?_)
  refine GoL.y rfl (Y.assign rfl) ?_
  refine GoL.y rfl (Y.assign rfl) ?_
  refine GoL.nil (GoE.then_normal (GoC.seq (GoC.region ?_)))
  refine GoL.y rfl (Y.move rfl) ?_
  refine GoL.y rfl (Y.move rfl) ?_
  refine GoL.does rfl (Does.callE rfl call153 rfl gate_mutex .auto) ?_
  rintro _ _ ⟨⟨⟩, -, rfl, rfl⟩
  refine GoL.y rfl (Y.assign rfl) ?_
  refine GoL.nil (GoE.then_normal (GoC.seq (GoC.block (GoC.seq (GoC.region ?_)))))
  refine GoL.y rfl (Y.move rfl) ?_
  refine GoL.y rfl (Y.eqPtrNil underlying250 rfl rfl) ?_
  refine GoL.y rfl (Y.assign rfl) ?_
  refine GoL.nil (GoE.then_normal ?_)
  refine GoC.cond rfl (fun h12 => ?_) (fun h12 => ?_)
  · refine GoC.seq (GoC.region ?_)
    refine GoL.y rfl (Y.assign rfl) ?_
    refine GoL.y rfl (Y.assign rfl) ?_
    refine GoL.nil (GoE.then_normal (GoC.ret ?_))
    refine GoE.block_ret (GoE.then_ret ?_)
    rw [g_lock_no (isNone_no h12)]
    refine GoE.ret2 rfl rfl rfl fun w s => ⟨(), ?_, trivial, finE .auto s⟩
    rfl
  · refine GoC.seq (GoC.region ?_)
    have hmhx := isNone_yes h12
    rw [elP_some hmhx]
    obtain ⟨x, hx, hgx⟩ := geti_some hmhx
    refine GoL.y rfl (Y.move rfl) ?_
    refine GoL.y rfl (Y.move rfl) ?_
    refine GoL.does rfl (Does.callE rfl call154 rfl (gate_waits hg) .auto) ?_
    rintro _ _ ⟨⟨⟩, -, rfl, rfl⟩
    refine GoL.fr .auto (mtx_out hx) ?_
    refine GoL.y rfl (Y.move rfl) ?_
    apply GoL.segO 4 23 19 [19, 20, 21, 22, 23] rfl
    · intro h19
      refine GoL.yg rfl rfl rfl (Y.move rfl) ?_
      refine GoL.yg rfl rfl rfl (Y.move rfl) ?_
      refine GoL.dg rfl rfl rfl (Does.callE rfl call155 rfl mutex_is .auto) ?_
      rintro _ _ ⟨⟨⟩, -, rfl, rfl⟩
      refine GoL.y rfl (Y.pickF rfl rfl) ?_
      refine GoL.nil ?_
      refine GoE.seg .auto rfl (by first | exact fun _ h => h | exact Ent.kept .auto)
    · intro h19
      refine GoL.skip rfl rfl rfl rfl ?_
      refine GoL.skip rfl rfl rfl rfl ?_
      refine GoL.skip rfl rfl rfl rfl ?_
      refine GoL.y rfl (Y.pickT rfl rfl) ?_
      refine GoL.nil ?_
      refine GoE.seg .auto rfl (by first | exact fun _ h => h | exact Ent.kept .auto)
    refine GoL.y rfl (Y.assign rfl) ?_
    refine GoL.nil (GoE.then_normal ?_)
    refine GoC.cond rfl (fun h15 => ?_) (fun h15 => ?_)
    · refine GoC.seq (GoC.region ?_)
      refine GoL.y rfl (Y.assign rfl) ?_
      refine GoL.y rfl (Y.assign rfl) ?_
      refine GoL.nil (GoE.then_normal (GoC.ret ?_))
      refine GoE.block_ret (GoE.then_ret ?_)
      rw [g_lock_busy hgx h15]
      refine GoE.to (A := mtxsH vm g.mtx) (Bs := [mtxAt (blk vm) (ofs vm + m.toNat * 3) x, mtxR vm g.mtx m.toNat]) .auto (mtx_back hx) ?_
      refine GoE.ret2 rfl rfl rfl fun w s => ⟨(), ?_, trivial, finE .auto s⟩
      rfl
    · refine GoC.skip ?_
      refine GoE.block_normal (GoE.then_normal (GoC.seq (GoC.region ?_)))
      refine GoL.y rfl (Y.move rfl) ?_
      refine GoL.y rfl (Y.move rfl) ?_
      refine GoL.does rfl (Does.callE rfl call128 rfl (mutex_lock (Nat.le_trans (hg.mw x (List.mem_of_getElem? hx)) (by decide))) .auto) ?_
      rintro _ _ ⟨⟨⟩, -, rfl, rfl⟩
      refine GoL.y rfl (Y.assign rfl) ?_
      refine GoL.y rfl (Y.assign rfl) ?_
      refine GoL.nil (GoE.then_normal (GoC.ret ?_))
      rw [g_lock_go hgx h15]
      refine GoE.to (A := mtxsH vm (g.mtx.set m.toNat (x.lock who).2)) (Bs := [mtxAt (blk vm) (ofs vm + m.toNat * 3) (x.lock who).2, mtxR vm g.mtx m.toNat]) .auto (mtx_in (x.lock who).2) ?_
      refine GoE.ret2 rfl rfl rfl fun w s => ⟨(), ?_, trivial, finE .auto s⟩
      rfl

set_option maxRecDepth 20000 in
theorem gate_Unlock {W : World} {b : Nat} {g : Gates} {who m c : Int} (hg : GatesLen g) : Fn Tryz.prog W 123 [ptr b, .int .i64 who, .int .i64 m, .int .i64 c] [gatesH b g] Unit (fun _ => .tuple #[.int .i64 (g.unlock who m c).1, .bool (g.unlock who m c).2.1, .int .i64 (g.unlock who m c).2.2.1]) (fun _ => True) (fun _ => [gatesH b (g.unlock who m c).2.2.2]) := by
  refine Fn.intro (N := 33) func123 rfl ntmps123 rfl fun F => ?_
  show GoC _ _ _ _ _ _ [gatesH b g, F]
  refine GoC.o3 (C := gatesH b g) .auto rfl ?_
  rintro vm vc vs -
  refine GoC.seq (GoC.region ?_)
  refine GoL.y rfl (Y.assign rfl) ?_
  refine GoL.y rfl (Y.assign rfl) ?_
  refine GoL.y rfl (Y.assign rfl) ?_
  refine GoL.nil (GoE.then_normal (GoC.seq (GoC.region ?_)))
  refine GoL.y rfl (Y.move rfl) ?_
  refine GoL.y rfl (Y.move rfl) ?_
  refine GoL.does rfl (Does.callE rfl call153 rfl gate_mutex .auto) ?_
  rintro _ _ ⟨⟨⟩, -, rfl, rfl⟩
  refine GoL.y rfl (Y.assign rfl) ?_
  refine GoL.nil (GoE.then_normal (GoC.seq (GoC.block (GoC.seq (GoC.region ?_)))))
  refine GoL.y rfl (Y.move rfl) ?_
  refine GoL.y rfl (Y.eqPtrNil underlying250 rfl rfl) ?_
  refine GoL.y rfl (Y.assign rfl) ?_
  refine GoL.nil (GoE.then_normal ?_)
  refine GoC.cond rfl (fun h17 => ?_) (fun h17 => ?_)
  · refine GoC.seq (GoC.region ?_)
    refine GoL.y rfl (Y.assign rfl) ?_
    refine GoL.y rfl (Y.assign rfl) ?_
    refine GoL.y rfl (Y.assign rfl) ?_
    refine GoL.nil (GoE.then_normal (GoC.ret ?_))
    refine GoE.block_ret (GoE.then_ret ?_)
    rw [g_unlock_no (isNone_no h17)]
    refine GoE.ret3 rfl rfl rfl rfl fun w s => ⟨(), ?_, trivial, finE .auto s⟩
    rfl
  · refine GoC.seq (GoC.region ?_)
    have hmhx := isNone_yes h17
    rw [elP_some hmhx]
    obtain ⟨x, hx, hgx⟩ := geti_some hmhx
    refine GoL.fr .auto (mtx_out hx) ?_
    refine GoL.y rfl (Y.move rfl) ?_
    refine GoL.y rfl (Y.move rfl) ?_
    refine GoL.does rfl (Does.callE rfl call155 rfl mutex_is .auto) ?_
    rintro _ _ ⟨⟨⟩, -, rfl, rfl⟩
    refine GoL.y rfl (Y.not rfl) ?_
    refine GoL.y rfl (Y.assign rfl) ?_
    refine GoL.nil (GoE.then_normal ?_)
    refine GoC.cond rfl (fun h20 => ?_) (fun h20 => ?_)
    · refine GoC.seq (GoC.region ?_)
      refine GoL.y rfl (Y.assign rfl) ?_
      refine GoL.y rfl (Y.assign rfl) ?_
      refine GoL.y rfl (Y.assign rfl) ?_
      refine GoL.nil (GoE.then_normal (GoC.ret ?_))
      refine GoE.block_ret (GoE.then_ret ?_)
      rw [g_unlock_own hgx (by simpa using h20)]
      refine GoE.to (A := mtxsH vm g.mtx) (Bs := [mtxAt (blk vm) (ofs vm + m.toNat * 3) x, mtxR vm g.mtx m.toNat]) .auto (mtx_back hx) ?_
      refine GoE.ret3 rfl rfl rfl rfl fun w s => ⟨(), ?_, trivial, finE .auto s⟩
      rfl
    · refine GoC.skip ?_
      refine GoE.block_normal (GoE.then_normal (GoC.seq (GoC.region ?_)))
      refine GoL.y rfl (Y.move rfl) ?_
      refine GoL.y rfl (Y.move rfl) ?_
      refine GoL.does rfl (Does.callE rfl call156 rfl (mutex_unlock (hg.mw x (List.mem_of_getElem? hx))) .auto) ?_
      rintro _ _ ⟨⟨⟩, -, rfl, rfl⟩
      refine GoL.y rfl (Y.move rfl) ?_
      refine GoL.y rfl (Y.extract rfl rfl) ?_
      refine GoL.y rfl (Y.extract rfl rfl) ?_
      refine GoL.y rfl (Y.assign rfl) ?_
      refine GoL.y rfl (Y.assign rfl) ?_
      refine GoL.nil (GoE.then_normal (GoC.seq (GoC.region ?_)))
      refine GoL.y rfl (Y.move rfl) ?_
      refine GoL.y rfl (Y.move rfl) ?_
      refine GoL.y rfl (Y.assign rfl) ?_
      refine GoL.y rfl (Y.assign rfl) ?_
      refine GoL.y rfl (Y.assign rfl) ?_
      refine GoL.nil (GoE.then_normal (GoC.ret ?_))
      rw [g_unlock_go hgx (by simpa using h20)]
      refine GoE.to (A := mtxsH vm (g.mtx.set m.toNat (x.unlock c).2.2)) (Bs := [mtxAt (blk vm) (ofs vm + m.toNat * 3) (x.unlock c).2.2, mtxR vm g.mtx m.toNat]) .auto (mtx_in (x.unlock c).2.2) ?_
      refine GoE.ret3 rfl rfl rfl rfl fun w s => ⟨(), ?_, trivial, finE .auto s⟩
      rfl

set_option maxRecDepth 20000 in
theorem gate_Wait {W : World} {b : Nat} {g : Gates} {who c m ch : Int} (hg : GatesLen g) : Fn Tryz.prog W 125 [ptr b, .int .i64 who, .int .i64 c, .int .i64 m, .int .i64 ch] [gatesH b g] Unit (fun _ => .tuple #[.int .i64 (g.wait who c m ch).1, .bool (g.wait who c m ch).2.1, .int .i64 (g.wait who c m ch).2.2.1]) (fun _ => True) (fun _ => [gatesH b (g.wait who c m ch).2.2.2]) := by
  refine Fn.intro (N := 52) func125 rfl ntmps125 rfl fun F => ?_
  show GoC _ _ _ _ _ _ [gatesH b g, F]
  refine GoC.o3 (C := gatesH b g) .auto rfl ?_
  rintro vm vc vs -
  refine GoC.seq (GoC.region ?_)
  refine GoL.y rfl (Y.assign rfl) ?_
  refine GoL.y rfl (Y.assign rfl) ?_
  refine GoL.y rfl (Y.assign rfl) ?_
  refine GoL.nil (GoE.then_normal (GoC.seq (GoC.region ?_)))
  refine GoL.y rfl (Y.move rfl) ?_
  refine GoL.y rfl (Y.move rfl) ?_
  refine GoL.does rfl (Does.callE rfl call153 rfl gate_mutex .auto) ?_
  rintro _ _ ⟨⟨⟩, -, rfl, rfl⟩
  refine GoL.y rfl (Y.move rfl) ?_
  refine GoL.y rfl (Y.move rfl) ?_
  refine GoL.does rfl (Does.callE rfl call126 rfl gate_cond .auto) ?_
  rintro _ _ ⟨⟨⟩, -, rfl, rfl⟩
  refine GoL.y rfl (Y.assign rfl) ?_
  refine GoL.y rfl (Y.assign rfl) ?_
  refine GoL.nil (GoE.then_normal (GoC.seq (GoC.block (GoC.seq (GoC.region ?_)))))
  refine GoL.y rfl (Y.move rfl) ?_
  refine GoL.y rfl (Y.eqPtrNil underlying250 rfl rfl) ?_
  refine GoL.y rfl (Y.move rfl) ?_
  apply GoL.segO 3 29 26 [26, 27, 28, 29] rfl
  · intro h26
    refine GoL.yg rfl rfl rfl (Y.move rfl) ?_
    refine GoL.yg rfl rfl rfl (Y.eqPtrNil underlying226 rfl rfl) ?_
    refine GoL.y rfl (Y.pickF rfl rfl) ?_
    refine GoL.nil ?_
    refine GoE.seg .auto rfl (by first | exact fun _ h => h | exact Ent.kept .auto)
  · intro h26
    refine GoL.skip rfl rfl rfl rfl ?_
    refine GoL.skip rfl rfl rfl rfl ?_
    refine GoL.y rfl (Y.pickT rfl rfl) ?_
    refine GoL.nil ?_
    refine GoE.seg .auto rfl (by first | exact fun _ h => h | exact Ent.kept .auto)
  refine GoL.y rfl (Y.assign rfl) ?_
  refine GoL.nil (GoE.then_normal ?_)
  refine GoC.cond rfl (fun h23 => ?_) (fun h23 => ?_)
  · have hw : g.wait who c m ch = (0, false, 1, g) := by
      rcases (Bool.or_eq_true _ _).mp h23 with h | h
      · exact g_wait_no1 (isNone_no h)
      · exact g_wait_no2 (isNone_no h)
    refine GoC.seq (GoC.region ?_)
    refine GoL.y rfl (Y.assign rfl) ?_
    refine GoL.y rfl (Y.assign rfl) ?_
    refine GoL.y rfl (Y.assign rfl) ?_
    refine GoL.nil (GoE.then_normal (GoC.ret ?_))
    refine GoE.block_ret (GoE.then_ret ?_)
    rw [hw]
    refine GoE.ret3 rfl rfl rfl rfl fun w s => ⟨(), ?_, trivial, finE .auto s⟩
    rfl
  · refine GoC.seq (GoC.region ?_)
    rw [Bool.or_eq_false_iff] at h23
    have hmhx := isNone_yes h23.1
    rw [elP_some hmhx]
    obtain ⟨x, hx, hgx⟩ := geti_some hmhx
    have hmhr := isNone_yes h23.2
    rw [elP_some hmhr]
    obtain ⟨r, hr, hgr⟩ := geti_some hmhr
    refine GoL.y rfl (Y.move rfl) ?_
    refine GoL.y rfl (Y.move rfl) ?_
    refine GoL.does rfl (Does.callE rfl call154 rfl (gate_waits hg) .auto) ?_
    rintro _ _ ⟨⟨⟩, -, rfl, rfl⟩
    refine GoL.y rfl (Y.assign rfl) ?_
    refine GoL.nil (GoE.then_normal ?_)
    refine GoC.cond rfl (fun h30 => ?_) (fun h30 => ?_)
    · refine GoC.seq (GoC.region ?_)
      refine GoL.y rfl (Y.assign rfl) ?_
      refine GoL.y rfl (Y.assign rfl) ?_
      refine GoL.y rfl (Y.assign rfl) ?_
      refine GoL.nil (GoE.then_normal (GoC.ret ?_))
      refine GoE.block_ret (GoE.then_ret ?_)
      rw [g_wait_busy hgx hgr h30]
      refine GoE.ret3 rfl rfl rfl rfl fun w s => ⟨(), ?_, trivial, finE .auto s⟩
      rfl
    · refine GoC.seq (GoC.region ?_)
      refine GoL.fr .auto (mtx_out hx) ?_
      refine GoL.y rfl (Y.move rfl) ?_
      refine GoL.y rfl (Y.move rfl) ?_
      refine GoL.does rfl (Does.callE rfl call155 rfl mutex_is .auto) ?_
      rintro _ _ ⟨⟨⟩, -, rfl, rfl⟩
      refine GoL.y rfl (Y.not rfl) ?_
      refine GoL.y rfl (Y.assign rfl) ?_
      refine GoL.nil (GoE.then_normal ?_)
      refine GoC.cond rfl (fun h34 => ?_) (fun h34 => ?_)
      · refine GoC.seq (GoC.region ?_)
        refine GoL.y rfl (Y.assign rfl) ?_
        refine GoL.y rfl (Y.assign rfl) ?_
        refine GoL.y rfl (Y.assign rfl) ?_
        refine GoL.nil (GoE.then_normal (GoC.ret ?_))
        refine GoE.block_ret (GoE.then_ret ?_)
        rw [g_wait_own hgx hgr h30 (by simpa using h34)]
        refine GoE.to (A := mtxsH vm g.mtx) (Bs := [mtxAt (blk vm) (ofs vm + m.toNat * 3) x, mtxR vm g.mtx m.toNat]) .auto (mtx_back hx) ?_
        refine GoE.ret3 rfl rfl rfl rfl fun w s => ⟨(), ?_, trivial, finE .auto s⟩
        rfl
      · refine GoC.skip ?_
        refine GoE.block_normal (GoE.then_normal (GoC.seq (GoC.region ?_)))
        refine GoL.y rfl (Y.move rfl) ?_
        refine GoL.y rfl (Y.move rfl) ?_
        refine GoL.does rfl (Does.callE rfl call156 rfl (mutex_unlock (hg.mw x (List.mem_of_getElem? hx))) .auto) ?_
        rintro _ _ ⟨⟨⟩, -, rfl, rfl⟩
        refine GoL.y rfl (Y.move rfl) ?_
        refine GoL.y rfl (Y.extract rfl rfl) ?_
        refine GoL.y rfl (Y.extract rfl rfl) ?_
        refine GoL.y rfl (Y.assign rfl) ?_
        refine GoL.y rfl (Y.assign rfl) ?_
        refine GoL.nil (GoE.then_normal (GoC.seq (GoC.region ?_)))
        refine GoL.to (A := mtxsH vm (g.mtx.set m.toNat (x.unlock ch).2.2)) (Bs := [mtxAt (blk vm) (ofs vm + m.toNat * 3) (x.unlock ch).2.2, mtxR vm g.mtx m.toNat]) .auto (mtx_in (x.unlock ch).2.2) ?_
        refine GoL.fr .auto (cnd_out hr) ?_
        refine GoL.y rfl (Y.move rfl) ?_
        refine GoL.y rfl (Y.move rfl) ?_
        refine GoL.y rfl (Y.move rfl) ?_
        refine GoL.y rfl (Y.bld2 (fun v1 v2 => [v1, v2]) rfl rfl (by kernel_rfl)) ?_
        refine GoL.does rfl (Does.callE rfl call157 rfl (row_add (x := ⟨who, m⟩) (Nat.le_trans (hg.cw r (List.mem_of_getElem? hr)) (by decide))) .auto) ?_
        rintro _ _ ⟨⟨⟩, -, rfl, rfl⟩
        refine GoL.nil (GoE.then_normal (GoC.seq (GoC.region ?_)))
        refine GoL.y rfl (Y.move rfl) ?_
        refine GoL.y rfl (Y.move rfl) ?_
        refine GoL.y rfl (Y.assign rfl) ?_
        refine GoL.y rfl (Y.assign rfl) ?_
        refine GoL.y rfl (Y.assign rfl) ?_
        refine GoL.nil (GoE.then_normal (GoC.ret ?_))
        rw [g_wait_go hgx hgr h30 (by simpa using h34)]
        refine GoE.to (A := cndsH vc (g.cnd.set c.toNat (r ++ [⟨who, m⟩]))) (Bs := [rowH (blk vc) (ofs vc + c.toNat * 1) (r ++ [⟨who, m⟩]), cndR vc g.cnd c.toNat]) .auto (cnd_in (r ++ [⟨who, m⟩])) ?_
        refine GoE.ret3 rfl rfl rfl rfl fun w s => ⟨(), ?_, trivial, finE .auto s⟩
        rfl

set_option maxRecDepth 20000 in
theorem gate_Down {W : World} {b : Nat} {g : Gates} {who s : Int} (hg : GatesLen g) (hc : ∀ x ∈ g.sem, 0 ≤ x.count ∧ x.count ≤ 1048576) : Fn Tryz.prog W 131 [ptr b, .int .i64 who, .int .i64 s] [gatesH b g] Unit (fun _ => .tuple #[.bool (g.down who s).1, .int .i64 (g.down who s).2.1]) (fun _ => True) (fun _ => [gatesH b (g.down who s).2.2]) := by
  refine Fn.intro (N := 38) func131 rfl ntmps131 rfl fun F => ?_
  show GoC _ _ _ _ _ _ [gatesH b g, F]
  refine GoC.o3 (C := gatesH b g) .auto rfl ?_
  rintro vm vc vs -
  refine GoC.seq (GoC.region ?_)
  refine GoL.y rfl (Y.assign rfl) ?_
  refine GoL.y rfl (Y.assign rfl) ?_
  refine GoL.nil (GoE.then_normal (GoC.seq (GoC.region ?_)))
  refine GoL.y rfl (Y.move rfl) ?_
  refine GoL.y rfl (Y.move rfl) ?_
  refine GoL.does rfl (Does.callE rfl call160 rfl gate_sem .auto) ?_
  rintro _ _ ⟨⟨⟩, -, rfl, rfl⟩
  refine GoL.y rfl (Y.assign rfl) ?_
  refine GoL.nil (GoE.then_normal (GoC.seq (GoC.block (GoC.seq (GoC.region ?_)))))
  refine GoL.y rfl (Y.move rfl) ?_
  refine GoL.y rfl (Y.eqPtrNil underlying256 rfl rfl) ?_
  refine GoL.y rfl (Y.assign rfl) ?_
  refine GoL.nil (GoE.then_normal ?_)
  refine GoC.cond rfl (fun h12 => ?_) (fun h12 => ?_)
  · refine GoC.seq (GoC.region ?_)
    refine GoL.y rfl (Y.assign rfl) ?_
    refine GoL.y rfl (Y.assign rfl) ?_
    refine GoL.nil (GoE.then_normal (GoC.ret ?_))
    refine GoE.block_ret (GoE.then_ret ?_)
    rw [g_down_no (isNone_no h12)]
    refine GoE.ret2 rfl rfl rfl fun w s => ⟨(), ?_, trivial, finE .auto s⟩
    rfl
  · refine GoC.seq (GoC.region ?_)
    have hmhx := isNone_yes h12
    rw [elP_some hmhx]
    obtain ⟨x, hx, hgx⟩ := geti_some hmhx
    refine GoL.y rfl (Y.move rfl) ?_
    refine GoL.y rfl (Y.move rfl) ?_
    refine GoL.does rfl (Does.callE rfl call154 rfl (gate_waits hg) .auto) ?_
    rintro _ _ ⟨⟨⟩, -, rfl, rfl⟩
    refine GoL.y rfl (Y.assign rfl) ?_
    refine GoL.nil (GoE.then_normal ?_)
    refine GoC.cond rfl (fun h15 => ?_) (fun h15 => ?_)
    · refine GoC.seq (GoC.region ?_)
      refine GoL.y rfl (Y.assign rfl) ?_
      refine GoL.y rfl (Y.assign rfl) ?_
      refine GoL.nil (GoE.then_normal (GoC.ret ?_))
      refine GoE.block_ret (GoE.then_ret ?_)
      rw [g_down_busy hgx h15]
      refine GoE.ret2 rfl rfl rfl fun w s => ⟨(), ?_, trivial, finE .auto s⟩
      rfl
    · refine GoC.seq (GoC.region ?_)
      refine GoL.fr .auto (smp_out hx) ?_
      have hcx := hc x (List.mem_of_getElem? hx)
      refine GoL.o1 (C := smpAt (blk vs) (ofs vs + s.toNat * 2) x) .auto rfl ?_
      rintro u -
      refine GoL.y rfl (Y.move rfl) ?_
      refine GoL.y rfl (Y.nilCheck rfl) ?_
      refine GoL.y rfl (Y.fieldAddr 1 3 underlying172 rfl sizeOf3 rfl) ?_
      refine GoL.y rfl (Y.load isAgg3 rfl (Cell.ao (by rfl))) ?_
      refine GoL.y rfl (Y.gtr rfl rfl) ?_
      refine GoL.y rfl (Y.assign rfl) ?_
      refine GoL.nil (GoE.then_normal ?_)
      refine GoC.condD rfl (fun h19 => ?_) (fun h19 => ?_)
      · refine GoC.seq (GoC.region ?_)
        refine GoL.y rfl (Y.move rfl) ?_
        refine GoL.y rfl (Y.nilCheck rfl) ?_
        refine GoL.y rfl (Y.fieldAddr 1 3 underlying172 rfl sizeOf3 rfl) ?_
        refine GoL.y rfl (Y.load isAgg3 rfl (Cell.ao (by rfl))) ?_
        refine GoL.y rfl (Y.sub rfl rfl (by omega)) ?_
        refine GoL.y rfl (Y.nilCheck rfl) ?_
        refine GoL.y rfl (Y.fieldAddr 1 3 underlying172 rfl sizeOf3 rfl) ?_
        refine GoL.does rfl (Does.sto sizeOf3 rfl rfl rfl rfl) ?_
        rintro _ _ ⟨rfl, rfl⟩
        refine GoL.nil (GoE.then_normal (GoC.seq (GoC.region ?_)))
        refine GoL.y rfl (Y.assign rfl) ?_
        refine GoL.y rfl (Y.assign rfl) ?_
        refine GoL.nil (GoE.then_normal (GoC.ret ?_))
        refine GoE.block_ret (GoE.then_ret ?_)
        rw [g_down_go hgx h15 h19]
        refine GoE.to (A := smpsH vs (g.sem.set s.toNat { x with count := x.count - 1 })) (Bs := [smpAt (blk vs) (ofs vs + s.toNat * 2) { x with count := x.count - 1 }, smpR vs g.sem s.toNat]) .auto (smp_in { x with count := x.count - 1 }) ?_
        refine GoE.ret2 rfl rfl rfl fun w s => ⟨(), ?_, trivial, finE .auto s⟩
        rfl
      · refine GoC.skip ?_
        refine GoE.block_normal (GoE.then_normal (GoC.seq (GoC.region ?_)))
        refine GoL.y rfl (Y.move rfl) ?_
        refine GoL.y rfl (Y.nilCheck rfl) ?_
        refine GoL.fr .auto (arr_cut1 (b := blk vs) (o := ofs vs + s.toNat * 2) (u := u)) ?_
        refine GoL.y rfl (Y.fieldAddrZ 170 underlying172 rfl sizeOf170 rfl) ?_
        refine GoL.y rfl (Y.move rfl) ?_
        refine GoL.y rfl (Y.bld1 (fun v1 => [v1, (.int .i64 0)]) rfl (by kernel_rfl)) ?_
        refine GoL.does rfl (Does.callE rfl call157 rfl (row_add (x := ⟨who, 0⟩) (Nat.le_trans (hg.sw x (List.mem_of_getElem? hx)) (by decide))) .auto) ?_
        rintro _ _ ⟨⟨⟩, -, rfl, rfl⟩
        refine GoL.nil (GoE.then_normal (GoC.seq (GoC.region ?_)))
        refine GoL.y rfl (Y.assign rfl) ?_
        refine GoL.y rfl (Y.assign rfl) ?_
        refine GoL.nil (GoE.then_normal (GoC.ret ?_))
        rw [g_down_wait hgx h15 h19]
        refine GoE.to (A := smpAt (blk vs) (ofs vs + s.toNat * 2) { x with wait := x.wait ++ [⟨who, 0⟩] }) (Bs := [rowH (blk vs) (ofs vs + s.toNat * 2) (x.wait ++ [⟨who, 0⟩]), arr (blk vs) (ofs vs + s.toNat * 2 + 1) [.int .i64 x.count]]) .auto (row_smp (m := { x with wait := x.wait ++ [⟨who, 0⟩] })) ?_
        refine GoE.to (A := smpsH vs (g.sem.set s.toNat { x with wait := x.wait ++ [⟨who, 0⟩] })) (Bs := [smpAt (blk vs) (ofs vs + s.toNat * 2) { x with wait := x.wait ++ [⟨who, 0⟩] }, smpR vs g.sem s.toNat]) .auto (smp_in { x with wait := x.wait ++ [⟨who, 0⟩] }) ?_
        refine GoE.ret2 rfl rfl rfl fun w s => ⟨(), ?_, trivial, finE .auto s⟩
        rfl

set_option maxRecDepth 20000 in
theorem gate_Up {W : World} {b : Nat} {g : Gates} {s c : Int} (hg : GatesLen g) (hc : ∀ x ∈ g.sem, 0 ≤ x.count ∧ x.count ≤ 1048576) : Fn Tryz.prog W 130 [ptr b, .int .i64 s, .int .i64 c] [gatesH b g] Unit (fun _ => .tuple #[.int .i64 (g.up s c).1, .bool (g.up s c).2.1, .int .i64 (g.up s c).2.2.1]) (fun _ => True) (fun _ => [gatesH b (g.up s c).2.2.2]) := by
  refine Fn.intro (N := 40) func130 rfl ntmps130 rfl fun F => ?_
  show GoC _ _ _ _ _ _ [gatesH b g, F]
  refine GoC.o3 (C := gatesH b g) .auto rfl ?_
  rintro vm vc vs -
  refine GoC.seq (GoC.region ?_)
  refine GoL.y rfl (Y.assign rfl) ?_
  refine GoL.y rfl (Y.assign rfl) ?_
  refine GoL.y rfl (Y.assign rfl) ?_
  refine GoL.nil (GoE.then_normal (GoC.seq (GoC.region ?_)))
  refine GoL.y rfl (Y.move rfl) ?_
  refine GoL.y rfl (Y.move rfl) ?_
  refine GoL.does rfl (Does.callE rfl call160 rfl gate_sem .auto) ?_
  rintro _ _ ⟨⟨⟩, -, rfl, rfl⟩
  refine GoL.y rfl (Y.assign rfl) ?_
  refine GoL.nil (GoE.then_normal (GoC.seq (GoC.seq (GoC.region ?_))))
  refine GoL.y rfl (Y.move rfl) ?_
  refine GoL.y rfl (Y.eqPtrNil underlying256 rfl rfl) ?_
  refine GoL.nil (GoE.then_normal ?_)
  refine GoC.cond rfl (fun h16 => ?_) (fun h16 => ?_)
  · refine GoC.seq (GoC.region ?_)
    refine GoL.y rfl (Y.assign rfl) ?_
    refine GoL.y rfl (Y.assign rfl) ?_
    refine GoL.y rfl (Y.assign rfl) ?_
    refine GoL.nil (GoE.then_normal (GoC.ret ?_))
    refine GoE.then_ret ?_
    rw [g_up_no (isNone_no h16)]
    refine GoE.ret3 rfl rfl rfl rfl fun w s => ⟨(), ?_, trivial, finE .auto s⟩
    rfl
  · refine GoC.skip (GoE.then_normal (GoC.seq (GoC.seq (GoC.region ?_))))
    have hmhx := isNone_yes h16
    rw [elP_some hmhx]
    obtain ⟨x, hx, hgx⟩ := geti_some hmhx
    refine GoL.fr .auto (smp_out hx) ?_
    have hcx := hc x (List.mem_of_getElem? hx)
    refine GoL.o1 (C := smpAt (blk vs) (ofs vs + s.toNat * 2) x) .auto rfl ?_
    rintro u -
    refine GoL.fr .auto (arr_cut1 (b := blk vs) (o := ofs vs + s.toNat * 2) (u := u)) ?_
    refine GoL.y rfl (Y.move rfl) ?_
    refine GoL.y rfl (Y.nilCheck rfl) ?_
    refine GoL.y rfl (Y.fieldAddrZ 170 underlying172 rfl sizeOf170 rfl) ?_
    refine GoL.y rfl (Y.move rfl) ?_
    refine GoL.does rfl (Does.callE rfl call127 rfl (row_take (hg.sw x (List.mem_of_getElem? hx))) .auto) ?_
    rintro _ _ ⟨⟨⟩, -, rfl, rfl⟩
    refine GoL.y rfl (Y.move rfl) ?_
    refine GoL.y rfl (Y.extract rfl rfl) ?_
    refine GoL.y rfl (Y.extract rfl rfl) ?_
    refine GoL.does rfl (Does.alloc rfl zeroValue229 rfl) ?_
    rintro _ _ ⟨b10, rfl, rfl⟩
    refine GoL.does rfl (Does.sta (by exact sizeOf229) rfl rfl rfl (by rfl)) ?_
    rintro _ _ ⟨rfl, rfl⟩
    refine GoL.y rfl (Y.assign rfl) ?_
    refine GoL.nil (GoE.then_normal (GoC.seq (GoC.region ?_)))
    refine GoL.y rfl (Y.move rfl) ?_
    refine GoL.nil (GoE.then_normal ?_)
    refine GoC.cond rfl (fun h25 => ?_) (fun h25 => ?_)
    · refine GoC.seq (GoC.region ?_)
      refine GoL.y rfl (Y.fieldAddrZ 3 underlying229 rfl sizeOf3 rfl) ?_
      refine GoL.y rfl (Y.load isAgg3 rfl (Cell.a (by rfl))) ?_
      refine GoL.y rfl (Y.assign rfl) ?_
      refine GoL.y rfl (Y.assign rfl) ?_
      refine GoL.y rfl (Y.assign rfl) ?_
      refine GoL.nil (GoE.then_normal (GoC.ret ?_))
      refine GoE.then_ret ?_
      rw [g_up_take hgx h25]
      refine GoE.to (A := smpAt (blk vs) (ofs vs + s.toNat * 2) { x with wait := (takeW x.wait c).2.2 }) (Bs := [rowH (blk vs) (ofs vs + s.toNat * 2) (takeW x.wait c).2.2, arr (blk vs) (ofs vs + s.toNat * 2 + 1) [.int .i64 x.count]]) .auto (row_smp (m := { x with wait := (takeW x.wait c).2.2 })) ?_
      refine GoE.to (A := smpsH vs (g.sem.set s.toNat { x with wait := (takeW x.wait c).2.2 })) (Bs := [smpAt (blk vs) (ofs vs + s.toNat * 2) { x with wait := (takeW x.wait c).2.2 }, smpR vs g.sem s.toNat]) .auto (smp_in { x with wait := (takeW x.wait c).2.2 }) ?_
      refine GoE.ret3 rfl rfl rfl rfl fun w s => ⟨(), ?_, trivial, finE .auto s⟩
      rfl
    · have htw := take_none h25
      refine GoC.skip (GoE.then_normal (GoC.seq (GoC.seq (GoC.region ?_))))
      refine GoL.y rfl (Y.move rfl) ?_
      refine GoL.y rfl (Y.nilCheck rfl) ?_
      refine GoL.y rfl (Y.fieldAddr 1 3 underlying172 rfl sizeOf3 rfl) ?_
      refine GoL.y rfl (Y.load isAgg3 rfl (Cell.az (cs := [.int .i64 x.count]) rfl)) ?_
      refine GoL.y rfl (Y.geq rfl rfl) ?_
      refine GoL.nil (GoE.then_normal ?_)
      refine GoC.condD rfl (fun h32 => ?_) (fun h32 => ?_)
      · refine GoC.seq (GoC.region ?_)
        refine GoL.y rfl (Y.assign rfl) ?_
        refine GoL.y rfl (Y.assign rfl) ?_
        refine GoL.y rfl (Y.assign rfl) ?_
        refine GoL.nil (GoE.then_normal (GoC.ret ?_))
        refine GoE.then_ret ?_
        rw [g_up_full hgx h25 h32]
        rw [htw]
        refine GoE.to (A := smpAt (blk vs) (ofs vs + s.toNat * 2) x) (Bs := [rowH (blk vs) (ofs vs + s.toNat * 2) x.wait, arr (blk vs) (ofs vs + s.toNat * 2 + 1) [.int .i64 x.count]]) .auto row_smp ?_
        refine GoE.to (A := smpsH vs g.sem) (Bs := [smpAt (blk vs) (ofs vs + s.toNat * 2) x, smpR vs g.sem s.toNat]) .auto (smp_back hx) ?_
        refine GoE.ret3 rfl rfl rfl rfl fun w s => ⟨(), ?_, trivial, finE .auto s⟩
        rfl
      · refine GoC.skip (GoE.then_normal (GoC.seq (GoC.region ?_)))
        refine GoL.y rfl (Y.move rfl) ?_
        refine GoL.y rfl (Y.nilCheck rfl) ?_
        refine GoL.y rfl (Y.fieldAddr 1 3 underlying172 rfl sizeOf3 rfl) ?_
        refine GoL.y rfl (Y.load isAgg3 rfl (Cell.az (cs := [.int .i64 x.count]) rfl)) ?_
        refine GoL.y rfl (Y.add rfl rfl (by omega)) ?_
        refine GoL.y rfl (Y.nilCheck rfl) ?_
        refine GoL.y rfl (Y.fieldAddr 1 3 underlying172 rfl sizeOf3 rfl) ?_
        refine GoL.does rfl (Does.stz sizeOf3 rfl rfl rfl rfl) ?_
        rintro _ _ ⟨rfl, rfl⟩
        refine GoL.nil (GoE.then_normal (GoC.seq (GoC.region ?_)))
        refine GoL.y rfl (Y.assign rfl) ?_
        refine GoL.y rfl (Y.assign rfl) ?_
        refine GoL.y rfl (Y.assign rfl) ?_
        refine GoL.nil (GoE.then_normal (GoC.ret ?_))
        rw [g_up_go hgx h25 h32, htw]
        refine GoE.to (A := smpAt (blk vs) (ofs vs + s.toNat * 2) { x with count := x.count + 1 }) (Bs := [rowH (blk vs) (ofs vs + s.toNat * 2) x.wait, arr (blk vs) (ofs vs + s.toNat * 2 + 1) [.int .i64 (x.count + 1)]]) .auto (row_smp (m := { x with count := x.count + 1 })) ?_
        refine GoE.to (A := smpsH vs (g.sem.set s.toNat { x with count := x.count + 1 })) (Bs := [smpAt (blk vs) (ofs vs + s.toNat * 2) { x with count := x.count + 1 }, smpR vs g.sem s.toNat]) .auto (smp_in { x with count := x.count + 1 }) ?_
        refine GoE.ret3 rfl rfl rfl rfl fun w s => ⟨(), ?_, trivial, finE .auto s⟩
        rfl

set_option maxRecDepth 20000 in
theorem gate_Signal {W : World} {b : Nat} {g : Gates} {c ch : Int} {all : Bool} (hg : GatesLen g) (hm : ∀ r ∈ g.cnd, ∀ w ∈ r, 0 ≤ w.mutex ∧ w.mutex < (g.mtx.length : Int)) : Fn Tryz.prog W 94 [ptr b, .int .i64 c, .int .i64 ch, .bool all] [gatesH b g] Value (fun u => .tuple #[u, .int .i64 (g.signal c ch all).2.1]) (fun _ => True) (fun u => [sl intE 1 u (g.signal c ch all).1, gatesH b (g.signal c ch all).2.2]) := by
  refine Fn.intro (N := 58) func94 rfl ntmps94 rfl fun F => ?_
  show GoC _ _ _ _ _ _ [gatesH b g, F]
  refine GoC.o3 (C := gatesH b g) .auto rfl ?_
  rintro vm vc vs -
  refine GoC.seq (GoC.region ?_)
  refine GoL.y rfl (Y.assign rfl) ?_
  refine GoL.y rfl (Y.assign rfl) ?_
  refine GoL.nil (GoE.then_normal (GoC.seq (GoC.region ?_)))
  refine GoL.y rfl (Y.move rfl) ?_
  refine GoL.y rfl (Y.move rfl) ?_
  refine GoL.does rfl (Does.callE rfl call126 rfl gate_cond .auto) ?_
  rintro _ _ ⟨⟨⟩, -, rfl, rfl⟩
  refine GoL.y rfl (Y.assign rfl) ?_
  refine GoL.nil (GoE.then_normal (GoC.seq (GoC.seq (GoC.region ?_))))
  refine GoL.y rfl (Y.move rfl) ?_
  refine GoL.y rfl (Y.eqPtrNil underlying226 rfl rfl) ?_
  refine GoL.nil (GoE.then_normal ?_)
  refine GoC.cond rfl (fun h19 => ?_) (fun h19 => ?_)
  · refine GoC.seq (GoC.region ?_)
    refine GoL.y rfl (Y.assign rfl) ?_
    refine GoL.y rfl (Y.assign rfl) ?_
    refine GoL.nil (GoE.then_normal (GoC.ret ?_))
    refine GoE.then_ret ?_
    rw [g_signal_no (isNone_no h19)]
    refine GoE.ret2 rfl rfl rfl fun w s => ⟨.slice none 0 0, ?_, trivial, finE .auto s⟩
    rfl
  · refine GoC.skip (GoE.then_normal (GoC.seq (GoC.region ?_)))
    have hmhr := isNone_yes h19
    rw [elP_some hmhr]
    obtain ⟨r, hr, hgr⟩ := geti_some hmhr
    refine GoL.fr .auto (cnd_out hr) ?_
    have hrl := hg.cw r (List.mem_of_getElem? hr)
    have hrm := hm r (List.mem_of_getElem? hr)
    refine GoL.o1 (C := rowH (blk vc) (ofs vc + c.toNat * 1) r) .auto rfl ?_
    rintro u0 -
    refine GoL.y rfl (Y.move rfl) ?_
    refine GoL.y rfl (Y.nilCheck rfl) ?_
    refine GoL.y rfl (Y.fieldAddrZ 168 underlying170 rfl sizeOf168 rfl) ?_
    refine GoL.y rfl (Y.load isAgg168 rfl (Cell.az (by rfl))) ?_
    refine GoL.y rfl (Y.lenRd underlying168 rfl Rd.s) ?_
    refine GoL.y rfl (Y.min2m rfl rfl) ?_
    refine GoL.y rfl (Y.assign rfl) ?_
    refine GoL.nil (GoE.then_normal ?_)
    refine GoC.cutK (X := Unit) [2, 11, 26, 27, 28, 29, 30, 31] (fun _ => True) (fun _ => [(11, some (.int .i64 (((if all = true then r.length else min r.length 1) : Nat) : Int))), (2, some (.int .i64 (if all = true then 0 else ch)))]) (fun _ => [arr (blk vc) (ofs vc + c.toNat * 1) [u0], sl wtrE 2 u0 r, cndR vc g.cnd c.toNat, arr b 0 [vm, vc, vs], mtxsH vm g.mtx, smpsH vs g.sem, F]) ?_ ?_
    · refine GoC.seq (GoC.region ?_)
      refine GoL.y rfl (Y.move rfl) ?_
      refine GoL.nil (GoE.then_normal ?_)
      refine GoC.cond rfl (fun h26 => ?_) (fun h26 => ?_)
      · refine GoC.region ?_
        refine GoL.y rfl (Y.move rfl) ?_
        refine GoL.y rfl (Y.nilCheck rfl) ?_
        refine GoL.y rfl (Y.fieldAddrZ 168 underlying170 rfl sizeOf168 rfl) ?_
        refine GoL.y rfl (Y.load isAgg168 rfl (Cell.az (by rfl))) ?_
        refine GoL.y rfl (Y.lenRd underlying168 rfl Rd.s) ?_
        refine GoL.y rfl (Y.assign rfl) ?_
        refine GoL.y rfl (Y.assign rfl) ?_
        refine GoL.nil ?_
        refine GoE.midK () .auto ?_ ?_ ?_
        · trivial
        · subst h26; exact ⟨rfl, rfl, trivial⟩
        · exact fun w s => Ent.kept .auto w s
      · refine GoC.skip ?_
        refine GoE.midK () .auto ?_ ?_ ?_
        · trivial
        · rw [if_neg (by rw [h26]; simp), if_neg (by rw [h26]; simp)]; exact ⟨by show some _ = some _; congr 2; omega, rfl, trivial⟩
        · exact fun w s => Ent.kept .auto w s
    · rintro ⟨⟩ -
      obtain ⟨n0, hn0⟩ : ∃ n0, n0 = (if all = true then r.length else min r.length 1) := ⟨_, rfl⟩
      obtain ⟨c2, hc2⟩ : ∃ c2, c2 = (if all = true then 0 else ch) := ⟨_, rfl⟩
      have h0 : n0 ≤ r.length := by subst hn0; split <;> omega
      rw [← hn0, ← hc2]
      refine GoC.seq (GoC.region ?_)
      refine GoL.y rfl (Y.assign rfl) ?_
      refine GoL.nil (GoE.then_normal (GoC.seq (GoC.seq (GoC.region ?_))))
      refine GoL.y rfl (Y.move rfl) ?_
      refine GoL.y rfl (Y.move rfl) ?_
      refine GoL.nil (GoE.then_normal (GoC.block ?_))
      refine GoC.loopK (X := Nat × List Wtr × List Mtx × Value × List Int) [12, 13, 14, 33, 34, 35, 36, 37, 38, 39, 40, 41, 42, 43, 44, 45, 46, 47, 48, 49, 50, 51, 52, 53, 54, 55, 56] (fun z => n0 - z.1) (fun z => SigOk r g.mtx n0 c2 z.1 z.2.1 z.2.2.1 z.2.2.2.2) (fun z => [(33, some (.int .i64 (z.1 : Int))), (12, some z.2.2.2.1)]) (fun z => [rowH (blk vc) (ofs vc + c.toNat * 1) z.2.1, mtxsH vm z.2.2.1, sl intE 1 z.2.2.2.1 z.2.2.2.2, cndR vc g.cnd c.toNat, arr b 0 [vm, vc, vs], smpsH vs g.sem, F]) (0, r, g.mtx, .slice none 0 0, []) ?_ ?_ ?_ ?_
      · exact SigOk.zero hg.mw
      · exact ⟨rfl, rfl, trivial⟩
      · exact fun w s => Ent.kept .auto w s
      rintro ⟨k, r1, ms, u, out⟩ hS
      simp only at hS
      refine GoC.seq (GoC.region ?_)
      refine GoL.y rfl (Y.lss rfl rfl) ?_
      refine GoL.nil (GoE.then_normal (GoC.seq ?_))
      refine GoC.condD rfl (fun h34 => ?_) (fun h34 => ?_)
      · simp only at h34
        refine GoC.skip (GoE.then_normal (GoC.seq (GoC.block (GoC.seq (GoC.region ?_)))))
        refine GoL.y rfl (Y.move rfl) ?_
        refine GoL.y rfl (Y.move rfl) ?_
        refine GoL.does rfl (Does.callE rfl call127 rfl (row_take (l := r1) (by have := hS.len; omega)) .auto) ?_
        rintro _ _ ⟨⟨⟩, -, rfl, rfl⟩
        refine GoL.y rfl (Y.move rfl) ?_
        refine GoL.y rfl (Y.extract rfl rfl) ?_
        refine GoL.y rfl (Y.extract rfl rfl) ?_
        refine GoL.does rfl (Does.alloc rfl zeroValue229 rfl) ?_
        rintro _ _ ⟨b13, rfl, rfl⟩
        refine GoL.does rfl (Does.sta (by exact sizeOf229) rfl rfl rfl (by rfl)) ?_
        rintro _ _ ⟨rfl, rfl⟩
        refine GoL.y rfl (Y.assign rfl) ?_
        refine GoL.nil (GoE.then_normal (GoC.seq ?_))
        refine GoC.draw [] [1, 1, 1, 1, 1, 1, 1, 1, 1, 3] rfl (by kernel_rfl) ?_
        obtain ⟨hw1, hw2, hw3⟩ := take_mem (l := r1) (c := c2) (by have := hS.len; omega)
        have hwm := hrm _ (hS.mem _ hw1)
        have hml := hS.ml
        obtain ⟨x, hx⟩ := at_some (show (takeW r1 c2).1.mutex.toNat < ms.length by omega)
        have hxl := hS.mw x (List.mem_of_getElem? hx)
        refine GoK.o1 (C := mtxsH vm ms) .auto rfl ?_
        rintro xs hxs
        have hxsl := map_len hxs
        refine GoK.s rfl (Y.move rfl) ?_
        refine GoK.s rfl (Y.nilCheck rfl) ?_
        refine GoK.s rfl (Y.fieldAddrZ 162 underlying167 rfl sizeOf162 rfl) ?_
        refine GoK.s rfl (Y.load isAgg162 rfl (Cell.a (by rfl))) ?_
        refine GoK.s rfl (Y.fieldAddr0 1 3 underlying229 rfl sizeOf3 rfl) ?_
        refine GoK.s rfl (Y.load isAgg3 rfl (Cell.a (by rfl))) ?_
        refine GoK.s rfl (Y.ixRd (takeW r1 c2).1.mutex.toNat underlying162 sizeOf233 rfl rfl Rd.s (by omega) (by omega)) ?_
        refine GoK.s rfl (Y.fieldAddrZ 3 underlying229 rfl sizeOf3 rfl) ?_
        refine GoK.s rfl (Y.load isAgg3 rfl (Cell.a (by rfl))) ?_
        refine GoK.to (A := mtxsH vm ms) .auto (Bs := [sl mtxE 3 vm xs, allH (fun x => sl wtrE 2 x.1 x.2.wait) xs]) (fun h a => ⟨xs, hxs, a⟩) ?_
        refine GoK.fr .auto (mtx_out hx) ?_
        refine GoK.d3 rfl (Does.callE rfl call128 rfl (mutex_lock (m := x) (by omega)) .auto) ?_
        rintro _ _ ⟨⟨⟩, -, rfl, rfl⟩
        refine GoK.to (A := mtxsH vm (ms.set (takeW r1 c2).1.mutex.toNat (x.lock (takeW r1 c2).1.who).2)) (Bs := [mtxAt (blk vm) (ofs vm + (takeW r1 c2).1.mutex.toNat * 3) (x.lock (takeW r1 c2).1.who).2, mtxR vm ms (takeW r1 c2).1.mutex.toNat]) .auto (mtx_in (x.lock (takeW r1 c2).1.who).2) ?_
        have hnx := hS.next (by omega) h0
        have hsl : sigL r1 c2 ms = x.lock (takeW r1 c2).1.who := by unfold sigL; rw [getD_of hx]
        rw [hsl] at hnx
        refine GoK.nil (GoE.then_normal ?_)
        refine GoC.cond rfl (fun h50 => ?_) (fun h50 => ?_)
        · rw [if_pos h50] at hnx
          refine GoC.region ?_
          refine GoL.y rfl (Y.move rfl) ?_
          refine GoL.y rfl (Y.fieldAddrZ 3 underlying229 rfl sizeOf3 rfl) ?_
          refine GoL.y rfl (Y.load isAgg3 rfl (Cell.a (by rfl))) ?_
          refine GoL.does rfl (Does.bsl 3 rfl rfl (by kernel_rfl)) ?_
          rintro _ _ ⟨b54, rfl, rfl⟩
          refine GoL.does rfl (Does.app1 (enc := intE) (k := 1) (takeW r1 c2).1.who rfl underlying23 underlying23 typeInfo3 rfl rfl rfl (by decide) rfl rfl rfl .auto rfl .auto (by have := hS.ol; have := hS.hk; dsimp only; omega) rfl) ?_
          rintro _ _ ⟨v55, rfl, rfl⟩
          refine GoL.y rfl (Y.assign rfl) ?_
          refine GoL.nil ?_
          refine GoE.block_normal (GoE.then_normal (GoC.region ?_))
          refine GoL.y rfl (Y.inc rfl rfl (by omega)) ?_
          refine GoL.y rfl (Y.move rfl) ?_
          refine GoL.nil ?_
          refine GoE.againK (k + 1, (takeW r1 c2).2.2, ms.set (takeW r1 c2).1.mutex.toNat (x.lock (takeW r1 c2).1.who).2, v55, out ++ [(takeW r1 c2).1.who]) .auto rfl ?_ ?_ ?_ ?_
          · show n0 - (k + 1) < n0 - k; omega
          · exact hnx
          · exact ⟨rfl, rfl, trivial⟩
          · exact fun w s => Ent.kept .auto w s
        · rw [if_neg (by rw [h50]; simp)] at hnx
          refine GoC.skip ?_
          refine GoE.block_normal (GoE.then_normal (GoC.region ?_))
          refine GoL.y rfl (Y.inc rfl rfl (by omega)) ?_
          refine GoL.y rfl (Y.move rfl) ?_
          refine GoL.nil ?_
          refine GoE.againK (k + 1, (takeW r1 c2).2.2, ms.set (takeW r1 c2).1.mutex.toNat (x.lock (takeW r1 c2).1.who).2, u, out) .auto rfl ?_ ?_ ?_ ?_
          · show n0 - (k + 1) < n0 - k; omega
          · exact hnx
          · exact ⟨rfl, rfl, trivial⟩
          · exact fun w s => Ent.kept .auto w s
      · simp only at h34
        refine GoC.exit ?_
        refine GoE.then_exit (GoE.then_exit (GoE.block_here (GoE.then_normal ?_)))
        refine GoC.seq (GoC.region ?_)
        refine GoL.y rfl (Y.move rfl) ?_
        refine GoL.y rfl (Y.assign rfl) ?_
        refine GoL.y rfl (Y.assign rfl) ?_
        refine GoL.nil (GoE.then_normal (GoC.ret ?_))
        rw [g_signal_go (z := (r1, ms, out)) hgr (by rw [← hn0, ← hc2]; exact hS.done (by omega))]
        refine GoE.to (A := cndsH vc (g.cnd.set c.toNat r1)) (Bs := [rowH (blk vc) (ofs vc + c.toNat * 1) r1, cndR vc g.cnd c.toNat]) .auto (cnd_in r1) ?_
        refine GoE.ret2 rfl rfl rfl fun w s => ⟨u, ?_, trivial, finE .auto s⟩
        rfl

set_option maxRecDepth 20000 in
theorem gate_row1 {W : World} {b : Nat} {l : List Mtx} {n : Int} {vm vc vs : Value} : Fn Tryz.prog W 159 [ptr b, .int .i64 1, .int .i64 n] [arr b 0 [vm, vc, vs], mtxsH vm l] Unit (fun _ => elP vm l.length 3 n) (fun _ => True) (fun _ => [arr b 0 [vm, vc, vs], mtxsH vm l]) := by
  refine Fn.intro (N := 35) func159 rfl ntmps159 rfl fun F => ?_
  show GoC _ _ _ _ _ _ [arr b 0 [vm, vc, vs], mtxsH vm l, F]
  refine GoC.seq (GoC.region ?_)
  refine GoL.y rfl (Y.assign rfl) ?_
  refine GoL.nil (GoE.then_normal (GoC.seq (GoC.seq (GoC.region ?_))))
  refine GoL.y rfl (Y.move rfl) ?_
  refine GoL.nil (GoE.then_normal (GoC.block (GoC.seq (GoC.region ?_))))
  refine GoL.y rfl (Y.eql rfl rfl) ?_
  refine GoL.y rfl (Y.assign rfl) ?_
  refine GoL.nil (GoE.then_normal ?_)
  refine GoC.condD rfl (fun _ => ?_) (fun hc => absurd rfl hc)
  refine GoC.seq (GoC.region ?_)
  refine GoL.y rfl (Y.move rfl) ?_
  refine GoL.y rfl (Y.move rfl) ?_
  refine GoL.does rfl (Does.callE rfl call153 rfl gate_mutex .auto) ?_
  rintro _ _ ⟨⟨⟩, -, rfl, rfl⟩
  refine GoL.y rfl (Y.assign rfl) ?_
  refine GoL.nil (GoE.then_normal (GoC.seq (GoC.region ?_)))
  refine GoL.y rfl (Y.move rfl) ?_
  refine GoL.y rfl (Y.neqPtrNil underlying250 rfl rfl) ?_
  refine GoL.nil (GoE.then_normal ?_)
  refine GoC.cond rfl (fun h16 => ?_) (fun h16 => ?_)
  · refine GoC.seq (GoC.region ?_)
    have hm := isNone_yes2 h16
    rw [elP_some hm]
    refine GoL.y rfl (Y.move rfl) ?_
    refine GoL.y rfl (Y.nilCheck rfl) ?_
    refine GoL.y rfl (Y.fieldAddrZ 170 underlying233 rfl sizeOf170 rfl) ?_
    refine GoL.y rfl (Y.assign rfl) ?_
    refine GoL.nil (GoE.then_normal (GoC.ret ?_))
    refine GoE.block_ret (GoE.then_ret ?_)
    refine GoE.ret1 rfl rfl fun w s => ⟨(), ?_, trivial, finE .auto s⟩
    rfl
  · refine GoC.skip ?_
    refine GoE.block_normal (GoE.then_normal (GoC.seq (GoC.region ?_)))
    refine GoL.y rfl (Y.assign rfl) ?_
    refine GoL.nil (GoE.then_normal (GoC.ret ?_))
    refine GoE.ret1 rfl rfl fun w s => ⟨(), ?_, trivial, finE .auto s⟩
    rw [elP_nil (isNone_no2 h16)]

set_option maxRecDepth 20000 in
theorem gate_Waiters1 {W : World} {b : Nat} {g : Gates} {n : Nat} {x : Mtx} (hx : g.mtx[n]? = some x) (hl : x.wait.length ≤ 1000000) : Fn Tryz.prog W 129 [ptr b, .int .i64 1, .int .i64 (n : Int)] [gatesH b g] Value (fun u => u) (fun _ => True) (fun u => [sl intE 1 u (x.wait.map (·.who)), gatesH b g]) := by
  refine Fn.intro (N := 33) func129 rfl ntmps129 rfl fun F => ?_
  show GoC _ _ _ _ _ _ [gatesH b g, F]
  refine GoC.o3 (C := gatesH b g) .auto rfl ?_
  rintro vm vc vs -
  have hn := (List.getElem?_eq_some_iff.1 hx).1
  refine GoC.seq (GoC.region ?_)
  refine GoL.y rfl (Y.assign rfl) ?_
  refine GoL.nil (GoE.then_normal (GoC.seq (GoC.region ?_)))
  refine GoL.y rfl (Y.move rfl) ?_
  refine GoL.y rfl (Y.move rfl) ?_
  refine GoL.y rfl (Y.move rfl) ?_
  refine GoL.does rfl (Does.callE rfl call159 rfl gate_row1 .auto) ?_
  rintro _ _ ⟨⟨⟩, -, rfl, rfl⟩
  refine GoL.y rfl (Y.assign rfl) ?_
  refine GoL.nil (GoE.then_normal (GoC.seq (GoC.seq (GoC.region ?_))))
  refine GoL.y rfl (Y.move rfl) ?_
  refine GoL.y rfl (Y.eqPtrNil underlying226 rfl rfl) ?_
  refine GoL.nil (GoE.then_normal ?_)
  refine GoC.cond rfl (fun h16 => ?_) (fun h16 => ?_)
  · exact absurd (show (0 : Int) ≤ (n : Int) ∧ (n : Int) < (g.mtx.length : Int) by omega) (isNone_no h16)
  · refine GoC.skip (GoE.then_normal (GoC.seq (GoC.region ?_)))
    refine GoL.y rfl (Y.assign rfl) ?_
    refine GoL.nil (GoE.then_normal (GoC.seq (GoC.seq (GoC.region ?_))))
    rw [elP_some (by omega), Int.toNat_natCast]
    refine GoL.fr .auto (mtx_out hx) ?_
    refine GoL.o1 (C := mtxAt (blk vm) (ofs vm + n * 3) x) .auto rfl ?_
    rintro u0 -
    refine GoL.y rfl (Y.move rfl) ?_
    refine GoL.y rfl (Y.nilCheck rfl) ?_
    refine GoL.y rfl (Y.fieldAddrZ 168 underlying170 rfl sizeOf168 rfl) ?_
    refine GoL.y rfl (Y.load isAgg168 rfl (Cell.az (by rfl))) ?_
    refine GoL.y rfl (Y.lenRd underlying168 rfl Rd.s) ?_
    refine GoL.y rfl (Y.move rfl) ?_
    refine GoL.nil (GoE.then_normal (GoC.block ?_))
    refine GoC.loopK (X := Nat × Value) [8, 10, 22, 23, 24, 25, 26, 27, 28, 29, 30, 31] (fun z => x.wait.length - z.1) (fun z => z.1 ≤ x.wait.length) (fun z => [(22, some (.int .i64 (z.1 : Int))), (8, some z.2)]) (fun z => [sl intE 1 z.2 ((x.wait.map (·.who)).take z.1), arr (blk vm) (ofs vm + n * 3) [u0, .bool x.held, .int .i64 x.owner], sl wtrE 2 u0 x.wait, mtxR vm g.mtx n, arr b 0 [vm, vc, vs], cndsH vc g.cnd, smpsH vs g.sem, F]) (0, .slice none 0 0) ?_ ?_ ?_ ?_
    · exact Nat.zero_le _
    · exact ⟨rfl, rfl, trivial⟩
    · exact fun w s => Ent.kept .auto w s
    rintro ⟨k, u⟩ hk
    simp only at hk
    refine GoC.seq (GoC.region ?_)
    refine GoL.y rfl (Y.lss rfl rfl) ?_
    refine GoL.nil (GoE.then_normal (GoC.seq ?_))
    refine GoC.condD rfl (fun h23 => ?_) (fun h23 => ?_)
    · refine GoC.skip (GoE.then_normal (GoC.seq (GoC.block (GoC.seq (GoC.region ?_)))))
      obtain ⟨w, hw⟩ := at_some (show k < x.wait.length by omega)
      refine GoL.y rfl (Y.ixRd _ underlying168 sizeOf229 rfl rfl Rd.s rfl (by first | omega | decide)) ?_
      refine GoL.y rfl (Y.lda isAgg229 rfl (Cells.rd Rd.s ‹_›) (by exact sizeOf229)) ?_
      refine GoL.does rfl (Does.alloc rfl zeroValue229 rfl) ?_
      rintro _ _ ⟨b10, rfl, rfl⟩
      refine GoL.does rfl (Does.sta (by exact sizeOf229) rfl rfl rfl (by rfl)) ?_
      rintro _ _ ⟨rfl, rfl⟩
      refine GoL.nil (GoE.then_normal (GoC.region ?_))
      refine GoL.y rfl (Y.move rfl) ?_
      refine GoL.y rfl (Y.fieldAddrZ 3 underlying229 rfl sizeOf3 rfl) ?_
      refine GoL.y rfl (Y.load isAgg3 rfl (Cell.a (by rfl))) ?_
      refine GoL.does rfl (Does.bsl 3 rfl rfl (by kernel_rfl)) ?_
      rintro _ _ ⟨b29, rfl, rfl⟩
      refine GoL.does rfl (Does.app1 (enc := intE) (k := 1) w.who rfl underlying23 underlying23 typeInfo3 rfl rfl rfl (by decide) rfl rfl rfl .auto rfl .auto (by rw [List.length_take, List.length_map]; omega) rfl) ?_
      rintro _ _ ⟨v30, rfl, rfl⟩
      refine GoL.y rfl (Y.assign rfl) ?_
      refine GoL.nil ?_
      refine GoE.block_normal (GoE.then_normal (GoC.region ?_))
      refine GoL.y rfl (Y.inc rfl rfl (by omega)) ?_
      refine GoL.y rfl (Y.move rfl) ?_
      refine GoL.nil ?_
      refine GoE.againK (k + 1, v30) .auto rfl ?_ ?_ ?_ ?_
      · show x.wait.length - (k + 1) < x.wait.length - k; omega
      · show k + 1 ≤ _; omega
      · exact ⟨rfl, rfl, trivial⟩
      · show ∀ w, Sat _ w _ → Sat _ w (seps [sl intE 1 v30 ((x.wait.map (·.who)).take (k + 1)), _, _, _, _, _, _, F])
        rw [take_snoc (show (x.wait.map (·.who))[k]? = some w.who by rw [List.getElem?_map, hw]; rfl)]
        exact fun w s => Ent.kept .auto w s
    · refine GoC.exit ?_
      refine GoE.then_exit (GoE.then_exit (GoE.block_here (GoE.then_normal ?_)))
      refine GoC.seq (GoC.region ?_)
      refine GoL.y rfl (Y.move rfl) ?_
      refine GoL.y rfl (Y.assign rfl) ?_
      refine GoL.nil (GoE.then_normal (GoC.ret ?_))
      obtain rfl : k = x.wait.length := by omega
      rw [List.take_of_length_le (by simp)]
      refine GoE.to (A := mtxsH vm g.mtx) (Bs := [mtxAt (blk vm) (ofs vm + n * 3) x, mtxR vm g.mtx n]) .auto (mtx_back hx) ?_
      refine GoE.ret1 rfl rfl fun w s => ⟨_, ?_, trivial, finE .auto s⟩
      rfl

end Go.SLYtpcjdohmjmeehaaGreat
