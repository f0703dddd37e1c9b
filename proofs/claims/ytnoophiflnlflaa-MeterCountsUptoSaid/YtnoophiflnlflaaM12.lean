/- Walks of functions, and what they compute. Conditions: none, this text proves no statement. -/
import Derived.Test.YtnoophiflnlflaaM11
import Derived.KernelRfl
namespace Go.SLYtnoophiflnlflaa
open Go Go.RowKit Go.Proofs Go.Proofs.YtnoophiflnlflaaX

theorem recE_one (l : List RecV) : ∀ y ∈ l, ∀ c ∈ recE y, c.oneCell' = true := fun y _ c hc => by
  simp only [recE, List.mem_cons, List.not_mem_nil, or_false] at hc
  rcases hc with rfl | rfl | rfl | rfl | rfl | rfl <;> rfl

theorem MeterCounts_fn {W : World} {va vb : Value} {la lb : List RecV} (ha : RdAt W recE 6 va la) (hb : RdAt W recE 6 vb lb) (hla : la.length ≤ 1048576) (hlb : lb.length ≤ 1048576) : Fn Try.prog W 3 [va, vb] [] Unit (fun _ => .bool true) (fun _ => True) (fun _ => []) := by
  refine Fn.intro (N := 47) Try.func3 rfl Try.ntmps3 rfl fun F => ?_
  haveI hIa : ∀ (H : List HProp), ReadsC W H va recE 6 la := fun H => ⟨Rd.old ha⟩
  haveI hIb : ∀ (H : List HProp), ReadsC W H vb recE 6 lb := fun H => ⟨Rd.old hb⟩
  show GoC _ _ _ _ _ _ [F]
  refine GoC.seq ?_
  refine GoC.region ?_
  refine GoL.y rfl (Y.assign rfl) ?_
  refine GoL.nil ?_
  refine GoE.then_normal ?_
  refine GoC.seq ?_
  refine GoC.region ?_
  refine GoL.y rfl (Y.move rfl) ?_
  refine GoL.does rfl (Does.call rfl Try.call6 rfl (Fn.emp (meter_Of (l := la) (A := emp) (Rd.old ha) (by omega))) (by repeat (first | exact Takes.nil | exact Take.here | apply Take.there | apply Takes.cons))) ?_
  rintro _ _ ⟨⟨⟩, -, rfl, rfl⟩
  refine GoL.y rfl (Y.move rfl) ?_
  refine GoL.does rfl (Does.call rfl Try.call6 rfl (Fn.emp (meter_Of (l := lb) (A := emp) (Rd.old hb) (by omega))) (by repeat (first | exact Takes.nil | exact Take.here | apply Take.there | apply Takes.cons))) ?_
  rintro _ _ ⟨⟨⟩, -, rfl, rfl⟩
  refine GoL.does rfl (Does.alloc rfl Try.zeroValue25 rfl) ?_
  rintro _ _ ⟨b5, rfl, rfl⟩
  refine GoL.does rfl (Does.alloc rfl Try.zeroValue25 rfl) ?_
  rintro _ _ ⟨b6, rfl, rfl⟩
  refine GoL.does rfl (Does.sta (by intro w; rw [cntV_length]; exact Try.sizeOf25 w; exact lenC _) rfl rfl (cntV_one _) (by rw [cntV_length (lenC _)]; rfl)) ?_
  rintro _ _ ⟨rfl, rfl⟩
  refine GoL.does rfl (Does.sta (by intro w; rw [cntV_length]; exact Try.sizeOf25 w; exact lenC _) rfl rfl (cntV_one _) (by rw [cntV_length (lenC _)]; rfl)) ?_
  rintro _ _ ⟨rfl, rfl⟩
  refine GoL.nil ?_
  refine GoE.then_normal ?_
  refine GoC.seq ?_
  refine GoC.region ?_
  refine GoL.does rfl (Does.bsl 41 rfl rfl (by kernel_rfl)) ?_
  rintro _ _ ⟨b12, rfl, rfl⟩
  refine GoL.mem (H' := sl recE 6 (.slice (some ⟨b12, 0, none⟩) 0 0) ([] : List RecV) :: _) (fun w s => Sat.mk_sl (xs := ([] : List RecV)) (sp := []) (Nat.le_refl _) (fun _ h => by cases h) rfl s) ?_
  refine GoL.y rfl (Y.move rfl) ?_
  refine GoL.does rfl (Does.append rfl Try.underlying22 Try.underlying22 Try.typeInfo41 rfl rfl rfl (by decide) rfl rfl (by repeat (first | exact Take.here | apply Take.there)) Rd.s (by simp; omega) (recE_one _)) ?_
  rintro _ _ ⟨v14, rfl, rfl⟩
  refine GoL.y rfl (Y.move rfl) ?_
  refine GoL.does rfl (Does.append rfl Try.underlying22 Try.underlying22 Try.typeInfo41 rfl rfl rfl (by decide) rfl rfl (by repeat (first | exact Take.here | apply Take.there)) Rd.s (by simp; omega) (recE_one _)) ?_
  rintro _ _ ⟨v16, rfl, rfl⟩
  refine GoL.y rfl (Y.assign rfl) ?_
  refine GoL.nil ?_
  refine GoE.then_normal ?_
  refine GoC.seq ?_
  refine GoC.draw [arr b5 0 (cntV (countC la)), arr b6 0 (cntV (countC lb))] [3, 1, 0, 1, 2, 1, 1, 1, 0, 1, 2, 1, 1, 1, 1, 1, 2, 0, 3, 1, 1, 1, 1, 1, 2, 0, 0, 3, 1, 1, 1] rfl (by kernel_rfl) ?_
  refine GoK.d3 rfl (Does.call rfl Try.call7 rfl awake29 (by repeat (first | exact Takes.nil | exact Take.here | apply Take.there | apply Takes.cons))) ?_
  rintro _ _ ⟨⟨⟩, -, rfl, rfl⟩
  refine GoK.s rfl (Y.move rfl) ?_
  refine GoK.kg rfl rfl rfl (Kept.ok (by repeat (first | exact Kept.nil | exact Take.here | apply Take.there | apply Kept.take))) (Y.loadAgg Try.isAgg25 (by intro w; rw [cntV_length]; exact Try.sizeOf25 w; exact lenC _) rfl Cells.a) ?_
  refine GoK.sg rfl rfl rfl (Y.move rfl) ?_
  refine GoK.d2g rfl rfl rfl (Kept.ok (by repeat (first | exact Kept.nil | exact Take.here | apply Take.there | apply Kept.take))) (Does.call rfl Try.call8 rfl (Fn.emp (law_count (l := la) (A := emp) (Rd.old ha) (by omega))) (by repeat (first | exact Takes.nil | exact Take.here | apply Take.there | apply Takes.cons))) (by rintro _ _ ⟨⟨⟩, -, rfl, rfl⟩; exact (Kept.ok (by repeat (first | exact Kept.nil | exact Take.here | apply Take.there | apply Kept.take)))) ?_
  rintro _ _ ⟨⟨⟩, -, rfl, rfl⟩
  refine GoK.sg rfl rfl rfl (Y.eqAgg (by kernel_rfl) (eqCnt (lenC _)) rfl rfl rfl) ?_
  refine GoK.s rfl (Y.pickT rfl rfl) ?_
  refine GoK.s rfl (Y.move rfl) ?_
  refine GoK.kg rfl rfl rfl (Kept.ok (by repeat (first | exact Kept.nil | exact Take.here | apply Take.there | apply Kept.take))) (Y.loadAgg Try.isAgg25 (by intro w; rw [cntV_length]; exact Try.sizeOf25 w; exact lenC _) rfl Cells.a) ?_
  refine GoK.sg rfl rfl rfl (Y.move rfl) ?_
  refine GoK.d2g rfl rfl rfl (Kept.ok (by repeat (first | exact Kept.nil | exact Take.here | apply Take.there | apply Kept.take))) (Does.call rfl Try.call8 rfl (Fn.emp (law_count (l := lb) (A := emp) (Rd.old hb) (by omega))) (by repeat (first | exact Takes.nil | exact Take.here | apply Take.there | apply Takes.cons))) (by rintro _ _ ⟨⟨⟩, -, rfl, rfl⟩; exact (Kept.ok (by repeat (first | exact Kept.nil | exact Take.here | apply Take.there | apply Kept.take)))) ?_
  rintro _ _ ⟨⟨⟩, -, rfl, rfl⟩
  refine GoK.sg rfl rfl rfl (Y.eqAgg (by kernel_rfl) (eqCnt (lenC _)) rfl rfl rfl) ?_
  refine GoK.s rfl (Y.pickT rfl rfl) ?_
  refine GoK.s rfl (Y.move rfl) ?_
  refine GoK.sg rfl rfl rfl (Y.loadAgg Try.isAgg25 (by intro w; rw [cntV_length]; exact Try.sizeOf25 w; exact lenC _) rfl Cells.a) ?_
  refine GoK.sg rfl rfl rfl (Y.loadAgg Try.isAgg25 (by intro w; rw [cntV_length]; exact Try.sizeOf25 w; exact lenC _) rfl Cells.a) ?_
  refine GoK.d2g rfl rfl rfl (Kept.ok (by repeat (first | exact Kept.nil | exact Take.here | apply Take.there | apply Kept.take))) (Does.call rfl Try.call9 rfl (meter_Sum (x := countC la) (y := countC lb) (lenC _) (lenC _)) (by repeat (first | exact Takes.nil | exact Take.here | apply Take.there | apply Takes.cons))) (by rintro _ _ ⟨⟨⟩, -, rfl, rfl⟩; exact (Kept.ok (by repeat (first | exact Kept.nil | exact Take.here | apply Take.there | apply Kept.take)))) ?_
  rintro _ _ ⟨⟨⟩, -, rfl, rfl⟩
  refine GoK.kg rfl rfl rfl (Kept.ok (by repeat (first | exact Kept.nil | exact Take.here | apply Take.there | apply Kept.take))) (Y.move rfl) ?_
  refine GoK.dg rfl rfl rfl (Does.call rfl Try.call8 rfl (law_count (l := ([] ++ la) ++ lb) (A := sl recE 6 v16 (([] ++ la) ++ lb)) (Rd.sl .here) (by simp; omega)) (by repeat (first | exact Takes.nil | exact Take.here | apply Take.there | apply Takes.cons))) ?_
  rintro _ _ ⟨⟨⟩, -, rfl, rfl⟩
  rw [show countC (([] ++ la) ++ lb) = sumC (countC la) (countC lb) from by rw [List.nil_append]; exact count_app la lb]
  refine GoK.sg rfl rfl rfl (Y.eqAgg (by kernel_rfl) (eqCnt (sumC_len (lenC _) (lenC _))) rfl rfl rfl) ?_
  refine GoK.s rfl (Y.pickT rfl rfl) ?_
  refine GoK.s rfl (Y.move rfl) ?_
  refine GoK.sg rfl rfl rfl (Y.loadAgg Try.isAgg25 (by intro w; rw [cntV_length]; exact Try.sizeOf25 w; exact lenC _) rfl Cells.a) ?_
  refine GoK.sg rfl rfl rfl (Y.loadAgg Try.isAgg25 (by intro w; rw [cntV_length]; exact Try.sizeOf25 w; exact lenC _) rfl Cells.a) ?_
  refine GoK.d2g rfl rfl rfl (Kept.ok (by repeat (first | exact Kept.nil | exact Take.here | apply Take.there | apply Kept.take))) (Does.call rfl Try.call9 rfl (meter_Sum (x := countC la) (y := countC lb) (lenC _) (lenC _)) (by repeat (first | exact Takes.nil | exact Take.here | apply Take.there | apply Takes.cons))) (by rintro _ _ ⟨⟨⟩, -, rfl, rfl⟩; exact (Kept.ok (by repeat (first | exact Kept.nil | exact Take.here | apply Take.there | apply Kept.take)))) ?_
  rintro _ _ ⟨⟨⟩, -, rfl, rfl⟩
  refine GoK.kg rfl rfl rfl (Kept.ok (by repeat (first | exact Kept.nil | exact Take.here | apply Take.there | apply Kept.take))) (Y.loadAgg Try.isAgg25 (by intro w; rw [cntV_length]; exact Try.sizeOf25 w; exact lenC _) rfl Cells.a) ?_
  refine GoK.kg rfl rfl rfl (Kept.ok (by repeat (first | exact Kept.nil | exact Take.here | apply Take.there | apply Kept.take))) (Y.loadAgg Try.isAgg25 (by intro w; rw [cntV_length]; exact Try.sizeOf25 w; exact lenC _) rfl Cells.a) ?_
  refine GoK.dg rfl rfl rfl (Does.call rfl Try.call9 rfl (meter_Sum (x := countC lb) (y := countC la) (lenC _) (lenC _)) (by repeat (first | exact Takes.nil | exact Take.here | apply Take.there | apply Takes.cons))) ?_
  rintro _ _ ⟨⟨⟩, -, rfl, rfl⟩
  rw [sum_comm (countC lb) (countC la)]
  refine GoK.sg rfl rfl rfl (Y.eqAgg (by kernel_rfl) (eqCnt (sumC_len (lenC _) (lenC _))) rfl rfl rfl) ?_
  refine GoK.s rfl (Y.pickT rfl rfl) ?_
  refine GoK.s rfl (Y.assign rfl) ?_
  refine GoK.nil ?_
  refine GoE.then_normal ?_
  refine GoC.ret ?_
  exact GoE.ret1 rfl rfl fun w s => ⟨(), rfl, trivial, fin (by repeat (first | exact Takes.nil | exact Take.here | apply Take.there | apply Takes.cons)) s⟩

end Go.SLYtnoophiflnlflaa
