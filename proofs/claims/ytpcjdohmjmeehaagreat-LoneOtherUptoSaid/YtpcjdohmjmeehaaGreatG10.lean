/- Walks of functions, and what they compute. Conditions: none, this text proves no statement. -/
import Derived.Test.YtpcjdohmjmeehaaGreatG05
import Derived.Test.YtpcjdohmjmeehaaGreatProg
import Derived.Test.YtpcjdohmjmeehaaGreatG09
import Derived.KernelRfl
import Derived.Test.YtpcjdohmjmeehaaGreatG03
namespace Go.SLYtpcjdohmjmeehaaGreat
open Go Go.RowKit Go.Proofs Go.Proofs.Tryz

set_option maxRecDepth 20000 in
theorem one_Space {W : World} {b : Nat} {v : Value} {xs : List (Nat × Spc)} {n : Int} (_hl : xs.length ≤ 1000000000) : Fn Tryz.prog W 48 [ptr b, .int .i64 n] [arr b 0 [v], sl ptrE 1 v xs] Unit (fun _ => ptrO ((geti xs n).map (·.1))) (fun _ => True) (fun _ => [arr b 0 [v], sl ptrE 1 v xs]) := by
  refine Fn.intro (N := 27) func48 rfl ntmps48 rfl fun F => ?_
  show GoC _ _ _ _ _ _ [arr b 0 [v], sl ptrE 1 v xs, F]
  refine .s (.r (.p (.a rfl) (.n (.t (.s (.s (.r (.p (.m rfl) (.p (.eqp rfl rfl) (.p (.m rfl) (.g (.m rfl) (.g (.lss rfl rfl) (.p (.u rfl rfl) (.p (.m rfl) ?_))))))))))))))
  refine .partD (t := 11) rfl (fun h11 => ?_) (fun h11 => ?_)
  · refine .u (.u (.u (.u (.u (.u (.u (.p (.t rfl rfl) (.n (.t (.condT rfl ?_))))))))))
    refine .s (.r (.p (.a rfl) (.n (.t (.e (.tr (.ret1 rfl rfl fun w s => ⟨(), ?_, trivial, finE .auto s⟩)))))))
    rw [geti_none (by omega)]; rfl
  · refine .g (.m rfl) (.g (.m rfl) (.g (.n rfl) (.g (.z rfl) (.g (.l rfl) (.g (.len rfl) (.g (.geq rfl rfl) (.p (.u rfl rfl) (.n (.t (.condD rfl (fun h19 => ?_) (fun h19 => ?_)))))))))))
    · refine .s (.r (.p (.a rfl) (.n (.t (.e (.tr (.ret1 rfl rfl fun w s => ⟨(), ?_, trivial, finE .auto s⟩)))))))
      rw [geti_none (by omega)]; rfl
    · refine .v (.t (.s (.r (.p (.m rfl) (.p (.n rfl) (.p (.z rfl) (.p (.l rfl) (.p (.m rfl) ?_))))))))
      obtain ⟨x, hx, hg⟩ := geti_some (l := xs) (i := n) ⟨by omega, by omega⟩
      refine .p (.ix n.toNat rfl rfl (by omega) (by omega)) ?_
      refine .p (.lr rfl hx) ?_
      refine .p (.a rfl) (.n (.t (.e (.ret1 rfl rfl fun w s => ⟨(), ?_, trivial, finE .auto s⟩))))
      rw [hg]; rfl

set_option maxRecDepth 20000 in
theorem one_SpaceN {W : World} {n : Int} : Fn Tryz.prog W 48 [.pointer none, .int .i64 n] [] Unit (fun _ => .pointer none) (fun _ => True) (fun _ => []) := by
  refine Fn.intro (N := 27) func48 rfl ntmps48 rfl fun F => ?_
  show GoC _ _ _ _ _ _ [F]
  refine .s (.r (.p (.a rfl) (.n (.t (.s (.s (.r (.p (.m rfl) (.p (.eqp rfl rfl) (.p (.m rfl) (.u (.u (.p (.t rfl rfl) (.p (.m rfl) (.u (.u (.u (.u (.u (.u (.u (.p (.t rfl rfl) (.n (.t (.condT rfl ?_)))))))))))))))))))))))))
  refine .s (.r (.p (.a rfl) (.n (.t (.e (.tr (.ret1 rfl rfl fun w s => ⟨(), ?_, trivial, finE .auto s⟩)))))))
  rfl

set_option maxRecDepth 20000 in
theorem one_Ready_no {W : World} {b : Nat} {l : List Spc} {n : Int} (hl : l.length ≤ 1000000000) (hg : geti l n = none) : Fn Tryz.prog W 38 [ptr b, .int .i64 n] [oneH b l] Value (fun u => u) (fun _ => True) (fun u => [sl intE 1 u (oReady l n), oneH b l]) := by
  refine Fn.intro (N := 9) func38 rfl ntmps38 rfl fun F => ?_
  show GoC _ _ _ _ _ _ [oneH b l, F]
  refine .o2 (C := oneH b l) .auto rfl ?_
  rintro v xs hxs
  have hlx : xs.length = l.length := by rw [← hxs, List.length_map]
  have hgx := one_no hxs hg
  refine .s (.r (.p (.a rfl) (.n (.t (.s (.r (.p (.m rfl) (.p (.m rfl) ?_))))))))
  refine .does rfl (Does.callE rfl call48 rfl (one_Space (xs := xs) (n := n) (v := v) (by omega)) .auto) ?_
  rintro _ _ ⟨⟨⟩, -, rfl, rfl⟩
  rw [hgx]
  refine .does rfl (Does.callE rfl call22 rfl core_ReadyN .auto) ?_
  rintro _ _ ⟨⟨⟩, -, rfl, rfl⟩
  refine .p (.a rfl) (.n (.t (.e ?_)))
  rw [show oReady l n = [] from by unfold oReady; rw [hg]]
  refine .to (A := oneH b l) (Bs := [arr b 0 [v], sl ptrE 1 v xs, allH (fun x : Nat × Spc => spcH x.1 x.2)  xs]) .auto (one_in hxs) ?_
  refine .ret1 rfl rfl fun w s => ⟨(.slice none 0 0), ?_, trivial, finE .auto s⟩
  rfl

set_option maxRecDepth 20000 in
theorem one_Ready_yes {W : World} {b : Nat} {l : List Spc} {n : Int} (hl : l.length ≤ 1000000000) {s : Spc} (hg : geti l n = some s) (hO : ∀ s ∈ l, SpcOk s) : Fn Tryz.prog W 38 [ptr b, .int .i64 n] [oneH b l] Value (fun u => u) (fun _ => True) (fun u => [sl intE 1 u (oReady l n), oneH b l]) := by
  refine Fn.intro (N := 9) func38 rfl ntmps38 rfl fun F => ?_
  show GoC _ _ _ _ _ _ [oneH b l, F]
  refine .o2 (C := oneH b l) .auto rfl ?_
  rintro v xs hxs
  have hlx : xs.length = l.length := by rw [← hxs, List.length_map]
  obtain ⟨q, hgx, hx⟩ := one_at hxs hg
  have hos := hO s (List.mem_of_getElem? (geti_of hg).2.2)
  refine .s (.r (.p (.a rfl) (.n (.t (.s (.r (.p (.m rfl) (.p (.m rfl) ?_))))))))
  refine .does rfl (Does.callE rfl call48 rfl (one_Space (xs := xs) (n := n) (v := v) (by omega)) .auto) ?_
  rintro _ _ ⟨⟨⟩, -, rfl, rfl⟩
  rw [hgx]
  refine .fr .auto (one_out hx) ?_
  refine .o1 (C := spcH q s) .auto rfl ?_
  rintro ps -
  refine .does rfl (Does.callE rfl call22 rfl (core_Ready (s := s) hos.lt) .auto) ?_
  rintro _ _ ⟨u8, -, rfl, rfl⟩
  refine .p (.a rfl) (.n (.t (.e ?_)))
  rw [show oReady l n = s.ready from by unfold oReady; rw [hg]]
  refine .to (A := oneH b l) (Bs := [arr b 0 [v], sl ptrE 1 v xs, spcH q s, allH (fun x : Nat × Spc => spcH x.1 x.2)  (xs.eraseIdx n.toNat)]) .auto (one_keep hxs hx) ?_
  refine .ret1 rfl rfl fun w s => ⟨u8, ?_, trivial, finE .auto s⟩
  rfl

theorem one_Ready {W : World} {b : Nat} {l : List Spc} {n : Int} (hl : l.length ≤ 1000000000) (hO : ∀ s ∈ l, SpcOk s) : Fn Tryz.prog W 38 [ptr b, .int .i64 n] [oneH b l] Value (fun u => u) (fun _ => True) (fun u => [sl intE 1 u (oReady l n), oneH b l]) := by
  cases hg : geti l n with
  | none => exact one_Ready_no hl hg
  | some s => exact one_Ready_yes hl hg hO

set_option maxRecDepth 20000 in
theorem one_ReadyN {W : World} {n : Int} : Fn Tryz.prog W 38 [.pointer none, .int .i64 n] [] Unit (fun _ => (.slice none 0 0)) (fun _ => True) (fun _ => []) := by
  refine Fn.intro (N := 9) func38 rfl ntmps38 rfl fun F => ?_
  show GoC _ _ _ _ _ _ [F]
  refine .s (.r (.p (.a rfl) (.n (.t (.s (.r (.p (.m rfl) (.p (.m rfl) ?_))))))))
  refine .does rfl (Does.callE rfl call48 rfl one_SpaceN .auto) ?_
  rintro _ _ ⟨⟨⟩, -, rfl, rfl⟩
  refine .does rfl (Does.callE rfl call22 rfl core_ReadyN .auto) ?_
  rintro _ _ ⟨⟨⟩, -, rfl, rfl⟩
  refine .p (.a rfl) (.n (.t (.e (.ret1 rfl rfl fun w s => ⟨(), ?_, trivial, finE .auto s⟩))))
  rfl

set_option maxRecDepth 20000 in
theorem one_Records_no {W : World} {b : Nat} {l : List Spc} {n : Int} (hl : l.length ≤ 1000000000) (hg : geti l n = none) : Fn Tryz.prog W 39 [ptr b, .int .i64 n] [oneH b l] Value (fun u => u) (fun _ => True) (fun u => [sl recE 6 u (oRecs l n), oneH b l]) := by
  refine Fn.intro (N := 9) func39 rfl ntmps39 rfl fun F => ?_
  show GoC _ _ _ _ _ _ [oneH b l, F]
  refine .o2 (C := oneH b l) .auto rfl ?_
  rintro v xs hxs
  have hlx : xs.length = l.length := by rw [← hxs, List.length_map]
  have hgx := one_no hxs hg
  refine .s (.r (.p (.a rfl) (.n (.t (.s (.r (.p (.m rfl) (.p (.m rfl) ?_))))))))
  refine .does rfl (Does.callE rfl call48 rfl (one_Space (xs := xs) (n := n) (v := v) (by omega)) .auto) ?_
  rintro _ _ ⟨⟨⟩, -, rfl, rfl⟩
  rw [hgx]
  refine .does rfl (Does.callE rfl call20 rfl core_RecordsN .auto) ?_
  rintro _ _ ⟨⟨⟩, -, rfl, rfl⟩
  refine .p (.a rfl) (.n (.t (.e ?_)))
  rw [show oRecs l n = [] from by unfold oRecs; rw [hg]]
  refine .to (A := oneH b l) (Bs := [arr b 0 [v], sl ptrE 1 v xs, allH (fun x : Nat × Spc => spcH x.1 x.2)  xs]) .auto (one_in hxs) ?_
  refine .ret1 rfl rfl fun w s => ⟨(.slice none 0 0), ?_, trivial, finE .auto s⟩
  rfl

set_option maxRecDepth 20000 in
theorem one_Records_yes {W : World} {b : Nat} {l : List Spc} {n : Int} (hl : l.length ≤ 1000000000) {s : Spc} (hg : geti l n = some s) (hO : ∀ s ∈ l, SpcOk s) : Fn Tryz.prog W 39 [ptr b, .int .i64 n] [oneH b l] Value (fun u => u) (fun _ => True) (fun u => [sl recE 6 u (oRecs l n), oneH b l]) := by
  refine Fn.intro (N := 9) func39 rfl ntmps39 rfl fun F => ?_
  show GoC _ _ _ _ _ _ [oneH b l, F]
  refine .o2 (C := oneH b l) .auto rfl ?_
  rintro v xs hxs
  have hlx : xs.length = l.length := by rw [← hxs, List.length_map]
  obtain ⟨q, hgx, hx⟩ := one_at hxs hg
  have hos := hO s (List.mem_of_getElem? (geti_of hg).2.2)
  refine .s (.r (.p (.a rfl) (.n (.t (.s (.r (.p (.m rfl) (.p (.m rfl) ?_))))))))
  refine .does rfl (Does.callE rfl call48 rfl (one_Space (xs := xs) (n := n) (v := v) (by omega)) .auto) ?_
  rintro _ _ ⟨⟨⟩, -, rfl, rfl⟩
  rw [hgx]
  refine .fr .auto (one_out hx) ?_
  refine .does rfl (Does.callE rfl call20 rfl (core_Records (s := s) (Nat.le_trans hos.recs (by decide))) .auto) ?_
  rintro _ _ ⟨u8, -, rfl, rfl⟩
  refine .p (.a rfl) (.n (.t (.e ?_)))
  rw [show oRecs l n = s.recs from by unfold oRecs; rw [hg]]
  refine .to (A := oneH b l) (Bs := [arr b 0 [v], sl ptrE 1 v xs, spcH q s, allH (fun x : Nat × Spc => spcH x.1 x.2)  (xs.eraseIdx n.toNat)]) .auto (one_keep hxs hx) ?_
  refine .ret1 rfl rfl fun w s => ⟨u8, ?_, trivial, finE .auto s⟩
  rfl

theorem one_Records {W : World} {b : Nat} {l : List Spc} {n : Int} (hl : l.length ≤ 1000000000) (hO : ∀ s ∈ l, SpcOk s) : Fn Tryz.prog W 39 [ptr b, .int .i64 n] [oneH b l] Value (fun u => u) (fun _ => True) (fun u => [sl recE 6 u (oRecs l n), oneH b l]) := by
  cases hg : geti l n with
  | none => exact one_Records_no hl hg
  | some s => exact one_Records_yes hl hg hO

set_option maxRecDepth 20000 in
theorem one_RecordsN {W : World} {n : Int} : Fn Tryz.prog W 39 [.pointer none, .int .i64 n] [] Unit (fun _ => (.slice none 0 0)) (fun _ => True) (fun _ => []) := by
  refine Fn.intro (N := 9) func39 rfl ntmps39 rfl fun F => ?_
  show GoC _ _ _ _ _ _ [F]
  refine .s (.r (.p (.a rfl) (.n (.t (.s (.r (.p (.m rfl) (.p (.m rfl) ?_))))))))
  refine .does rfl (Does.callE rfl call48 rfl one_SpaceN .auto) ?_
  rintro _ _ ⟨⟨⟩, -, rfl, rfl⟩
  refine .does rfl (Does.callE rfl call20 rfl core_RecordsN .auto) ?_
  rintro _ _ ⟨⟨⟩, -, rfl, rfl⟩
  refine .p (.a rfl) (.n (.t (.e (.ret1 rfl rfl fun w s => ⟨(), ?_, trivial, finE .auto s⟩))))
  rfl

set_option maxRecDepth 20000 in
theorem one_Memory_no {W : World} {b : Nat} {l : List Spc} {n : Int} (hl : l.length ≤ 1000000000) (hg : geti l n = none) : Fn Tryz.prog W 41 [ptr b, .int .i64 n] [oneH b l] Value (fun u => u) (fun _ => True) (fun u => [sl wrdE 1 u (oMem l n), oneH b l]) := by
  refine Fn.intro (N := 9) func41 rfl ntmps41 rfl fun F => ?_
  show GoC _ _ _ _ _ _ [oneH b l, F]
  refine .o2 (C := oneH b l) .auto rfl ?_
  rintro v xs hxs
  have hlx : xs.length = l.length := by rw [← hxs, List.length_map]
  have hgx := one_no hxs hg
  refine .s (.r (.p (.a rfl) (.n (.t (.s (.r (.p (.m rfl) (.p (.m rfl) ?_))))))))
  refine .does rfl (Does.callE rfl call48 rfl (one_Space (xs := xs) (n := n) (v := v) (by omega)) .auto) ?_
  rintro _ _ ⟨⟨⟩, -, rfl, rfl⟩
  rw [hgx]
  refine .does rfl (Does.callE rfl call26 rfl core_MemoryN .auto) ?_
  rintro _ _ ⟨⟨⟩, -, rfl, rfl⟩
  refine .p (.a rfl) (.n (.t (.e ?_)))
  rw [show oMem l n = [] from by unfold oMem; rw [hg]]
  refine .to (A := oneH b l) (Bs := [arr b 0 [v], sl ptrE 1 v xs, allH (fun x : Nat × Spc => spcH x.1 x.2)  xs]) .auto (one_in hxs) ?_
  refine .ret1 rfl rfl fun w s => ⟨(.slice none 0 0), ?_, trivial, finE .auto s⟩
  rfl

set_option maxRecDepth 20000 in
theorem one_Memory_yes {W : World} {b : Nat} {l : List Spc} {n : Int} (hl : l.length ≤ 1000000000) {s : Spc} (hg : geti l n = some s) (hO : ∀ s ∈ l, SpcOk s) : Fn Tryz.prog W 41 [ptr b, .int .i64 n] [oneH b l] Value (fun u => u) (fun _ => True) (fun u => [sl wrdE 1 u (oMem l n), oneH b l]) := by
  refine Fn.intro (N := 9) func41 rfl ntmps41 rfl fun F => ?_
  show GoC _ _ _ _ _ _ [oneH b l, F]
  refine .o2 (C := oneH b l) .auto rfl ?_
  rintro v xs hxs
  have hlx : xs.length = l.length := by rw [← hxs, List.length_map]
  obtain ⟨q, hgx, hx⟩ := one_at hxs hg
  have hos := hO s (List.mem_of_getElem? (geti_of hg).2.2)
  refine .s (.r (.p (.a rfl) (.n (.t (.s (.r (.p (.m rfl) (.p (.m rfl) ?_))))))))
  refine .does rfl (Does.callE rfl call48 rfl (one_Space (xs := xs) (n := n) (v := v) (by omega)) .auto) ?_
  rintro _ _ ⟨⟨⟩, -, rfl, rfl⟩
  rw [hgx]
  refine .fr .auto (one_out hx) ?_
  refine .does rfl (Does.callE rfl call26 rfl (core_Memory (s := s) (Nat.le_trans hos.mem (by decide))) .auto) ?_
  rintro _ _ ⟨u8, -, rfl, rfl⟩
  refine .p (.a rfl) (.n (.t (.e ?_)))
  rw [show oMem l n = s.mem from by unfold oMem; rw [hg]]
  refine .to (A := oneH b l) (Bs := [arr b 0 [v], sl ptrE 1 v xs, spcH q s, allH (fun x : Nat × Spc => spcH x.1 x.2)  (xs.eraseIdx n.toNat)]) .auto (one_keep hxs hx) ?_
  refine .ret1 rfl rfl fun w s => ⟨u8, ?_, trivial, finE .auto s⟩
  rfl

theorem one_Memory {W : World} {b : Nat} {l : List Spc} {n : Int} (hl : l.length ≤ 1000000000) (hO : ∀ s ∈ l, SpcOk s) : Fn Tryz.prog W 41 [ptr b, .int .i64 n] [oneH b l] Value (fun u => u) (fun _ => True) (fun u => [sl wrdE 1 u (oMem l n), oneH b l]) := by
  cases hg : geti l n with
  | none => exact one_Memory_no hl hg
  | some s => exact one_Memory_yes hl hg hO

set_option maxRecDepth 20000 in
theorem one_MemoryN {W : World} {n : Int} : Fn Tryz.prog W 41 [.pointer none, .int .i64 n] [] Unit (fun _ => (.slice none 0 0)) (fun _ => True) (fun _ => []) := by
  refine Fn.intro (N := 9) func41 rfl ntmps41 rfl fun F => ?_
  show GoC _ _ _ _ _ _ [F]
  refine .s (.r (.p (.a rfl) (.n (.t (.s (.r (.p (.m rfl) (.p (.m rfl) ?_))))))))
  refine .does rfl (Does.callE rfl call48 rfl one_SpaceN .auto) ?_
  rintro _ _ ⟨⟨⟩, -, rfl, rfl⟩
  refine .does rfl (Does.callE rfl call26 rfl core_MemoryN .auto) ?_
  rintro _ _ ⟨⟨⟩, -, rfl, rfl⟩
  refine .p (.a rfl) (.n (.t (.e (.ret1 rfl rfl fun w s => ⟨(), ?_, trivial, finE .auto s⟩))))
  rfl

set_option maxRecDepth 20000 in
theorem one_Do {W : World} {b : Nat} {l : List Spc} {a : Acm} (hl : l.length ≤ 1000000000) (hO : ∀ s ∈ l, SpcOk s) : Fn Tryz.prog W 40 [ptr b, .agg (actE a).toArray] [oneH b l] Unit (fun _ => .int .i64 (oDo l a).1) (fun _ => True) (fun _ => [oneH b (oDo l a).2]) := by
  refine Fn.intro (N := 60) func40 rfl ntmps40 rfl fun F => ?_
  show GoC _ _ _ _ _ _ [oneH b l, F]
  refine .o2 (C := oneH b l) .auto rfl ?_
  rintro v xs hxs
  have hlx : xs.length = l.length := by rw [← hxs, List.length_map]
  refine .s (.r ?_)
  refine .does rfl (Does.box rfl rfl rfl) ?_
  rintro _ _ ⟨b3, rfl, rfl⟩
  refine .mem (H' := [arr b3 0 (actE a), arr b 0 [v], sl ptrE 1 v xs, allH (fun x : Nat × Spc => spcH x.1 x.2)  xs, F]) (fun w s => s) ?_
  refine .p (.a rfl) (.n (.t (.s (.r (.p (.m rfl) (.p (.f rfl) (.p (.l rfl) ?_)))))))
  refine .does rfl (Does.callE rfl call48 rfl (one_Space (xs := xs) (n := a.space) (v := v) (by omega)) .auto) ?_
  rintro _ _ ⟨⟨⟩, -, rfl, rfl⟩
  refine .p (.a rfl) (.n (.t (.s (.r (.p (.a rfl) (.n (.t (.s (.b (.s (.r (.p (.m rfl) (.p (.eqp rfl rfl) (.p (.a rfl) (.n (.t (.condF rfl ?_)))))))))))))))))
  refine .s (.r (.p (.z rfl) (.p (.l rfl) (.p (.eql rfl rfl) (.p (.a rfl) (.n (.t (.condD rfl (fun h19 => ?_) (fun h19 => ?_)))))))))
  · refine .s (.s (.r (.p (.m rfl) (.p (.n rfl) (.p (.z rfl) (.p (.l rfl) (.p (.len rfl) (.p (.m rfl) (.n (.t (.b ?_)))))))))))
    refine .loopK (X := Nat) [8, 25, 26, 27, 28, 29, 30, 31] (fun k => xs.length - k) (fun k => k ≤ xs.length) (fun k => [(25, some (.int .i64 (k : Int)))]) (fun k => [arr b3 0 (actE a), arr b 0 [v], sl ptrE 1 v xs, allH (fun x : Nat × Spc => spcH x.1 x.2)  (tkd k xs), F]) 0 ?_ ?_ ?_ ?_
    · exact Nat.zero_le _
    · exact ⟨rfl, trivial⟩
    · simp only [tkd_zero]; exact fun w s => Ent.kept .auto w s
    rintro k hk
    refine .s (.r (.p (.lss rfl rfl) (.n (.t (.s (.condD rfl (fun h26 => ?_) (fun h26 => ?_)))))))
    · refine .v (.t (.s (.b (.s (.r ?_)))))
      obtain ⟨⟨q, s⟩, hx⟩ := at_some (show k < xs.length by omega)
      have hos := hO s (by rw [← hxs]; exact List.mem_map.2 ⟨_, List.mem_of_getElem? hx, rfl⟩)
      refine .p (.ix _ rfl rfl rfl (by first | omega | decide)) ?_
      refine .p (.lr rfl hx) ?_
      refine .p (.a rfl) (.n (.t (.r (.p (.m rfl) ?_))))
      refine .fr .auto (tkd_out hx) ?_
      refine .does rfl (Does.callE rfl call19 rfl (core_Tick (s := s) hos) .auto) ?_
      rintro _ _ ⟨u30, -, rfl, rfl⟩
      refine .n (.b (.t (.r ?_)))
      refine .p (.inc rfl rfl (by omega)) ?_
      refine .p (.m rfl) (.n ?_)
      refine .to (A := allH (fun x : Nat × Spc => spcH x.1 x.2)  (tkd (k + 1) xs)) (Bs := [spcH q s.tick.2, allH (fun x : Nat × Spc => spcH x.1 x.2)  ((tkd k xs).eraseIdx k)]) .auto (tkd_in hx) ?_
      refine .againK (k + 1) .auto rfl ?_ ?_ ?_ ?_
      · omega
      · show k + 1 ≤ _; omega
      · exact ⟨rfl, trivial⟩
      · exact fun w s => Ent.kept .auto w s
    · refine .x (.tx (.tx (.bh (.t (.s (.r (.p (.a rfl) (.n (.t (.e (.br (.tr ?_))))))))))))
      obtain rfl : k = xs.length := by omega
      refine .to (A := oneH b (oDo l a).2) (Bs := [arr b 0 [v], sl ptrE 1 v xs, allH (fun x : Nat × Spc => spcH x.1 x.2)  (tkd xs.length xs)]) .auto (one_tick hxs h19) ?_
      refine .ret1 rfl rfl fun w s => ⟨(), ?_, trivial, finE .auto s⟩
      rw [oDo_tick h19]
  · refine .s (.r (.p (.m rfl) (.p (.eqp rfl rfl) (.p (.a rfl) (.n (.t (.cond rfl (fun h34 => ?_) (fun h34 => ?_))))))))
    · have hgl : geti l a.space = none := by
        cases hh : geti xs a.space with
        | none => rw [← hxs, geti_map, hh]; rfl
        | some x => rw [hh] at h34; cases h34
      refine .s (.r (.p (.a rfl) (.n (.t (.e (.br (.tr ?_)))))))
      rw [oDo_none h19 hgl]
      refine .to (A := oneH b l) (Bs := [arr b 0 [v], sl ptrE 1 v xs, allH (fun x : Nat × Spc => spcH x.1 x.2)  xs]) .auto (one_in hxs) ?_
      refine .ret1 rfl rfl fun w s => ⟨(), ?_, trivial, finE .auto s⟩
      rfl
    · obtain ⟨⟨q, s⟩, hgx⟩ : ∃ x, geti xs a.space = some x := by
        cases hh : geti xs a.space with
        | none => rw [hh] at h34; cases h34
        | some x => exact ⟨x, rfl⟩
      have hx := (geti_of hgx).2.2
      have hgl : geti l a.space = some s := by rw [← hxs, geti_map, hgx]; rfl
      rw [hgx]
      refine .fr .auto (one_out hx) ?_
      have hos := hO s (List.mem_of_getElem? (geti_of hgl).2.2)
      refine .s (.r (.p (.z rfl) (.p (.l rfl) (.p (.eql rfl rfl) (.p (.a rfl) (.n (.t (.condD rfl (fun h38 => ?_) (fun h38 => ?_)))))))))
      · refine .r (.p (.m rfl) (.p (.f rfl) (.p (.l rfl) (.p (.f rfl) (.p (.l rfl) ?_)))))
        refine .does rfl (Does.callE rfl call17 rfl (core_Run (s := s) hos) .auto) ?_
        rintro _ _ ⟨u45, -, rfl, rfl⟩
        refine .p (.m rfl) (.p (.extract rfl rfl) (.p (.extract rfl rfl) (.p (.a rfl) (.n (.b (.t (.s (.r (.p (.m rfl) (.p (.a rfl) (.n (.t (.e ?_)))))))))))))
        rw [oDo_run h38 hgl]
        refine .to (A := oneH b (l.set a.space.toNat (s.run a.thread a.choice).2.2)) (Bs := [arr b 0 [v], sl ptrE 1 v xs, spcH q (s.run a.thread a.choice).2.2, allH (fun x : Nat × Spc => spcH x.1 x.2)  (xs.eraseIdx a.space.toNat)]) .auto (one_put hxs hx _) ?_
        refine .ret1 rfl rfl fun w s => ⟨(), ?_, trivial, finE .auto s⟩
        rfl
      · refine .s (.r (.p (.z rfl) (.p (.l rfl) (.p (.eql rfl rfl) (.p (.a rfl) (.n (.t (.condD rfl (fun h51 => ?_) (fun h51 => ?_)))))))))
        · refine .r (.p (.m rfl) (.p (.f rfl) (.p (.l rfl) ?_)))
          refine .does rfl (Does.callE rfl call18 rfl (core_Done (s := s) hos) .auto) ?_
          rintro _ _ ⟨u56, -, rfl, rfl⟩
          refine .p (.m rfl) (.p (.extract rfl rfl) (.p (.extract rfl rfl) (.p (.a rfl) (.n (.b (.t (.s (.r (.p (.m rfl) (.p (.a rfl) (.n (.t (.e ?_)))))))))))))
          rw [oDo_done h51 hgl]
          refine .to (A := oneH b (l.set a.space.toNat (s.done a.choice).2.2)) (Bs := [arr b 0 [v], sl ptrE 1 v xs, spcH q (s.done a.choice).2.2, allH (fun x : Nat × Spc => spcH x.1 x.2)  (xs.eraseIdx a.space.toNat)]) .auto (one_put hxs hx _) ?_
          refine .ret1 rfl rfl fun w s => ⟨(), ?_, trivial, finE .auto s⟩
          rfl
        · refine .r (.p (.a rfl) (.n (.b (.t (.s (.r (.p (.m rfl) (.p (.a rfl) (.n (.t (.e ?_)))))))))))
          rw [oDo_else h19 h38 h51 hgl]
          refine .to (A := oneH b l) (Bs := [arr b 0 [v], sl ptrE 1 v xs, spcH q s, allH (fun x : Nat × Spc => spcH x.1 x.2)  (xs.eraseIdx a.space.toNat)]) .auto (one_keep hxs hx) ?_
          refine .ret1 rfl rfl fun w s => ⟨(), ?_, trivial, finE .auto s⟩
          rfl

set_option maxRecDepth 20000 in
theorem one_DoN {W : World} {a : Acm} : Fn Tryz.prog W 40 [.pointer none, .agg (actE a).toArray] [] Unit (fun _ => .int .i64 1) (fun _ => True) (fun _ => []) := by
  refine Fn.intro (N := 60) func40 rfl ntmps40 rfl fun F => ?_
  show GoC _ _ _ _ _ _ [F]
  refine .s (.r ?_)
  refine .does rfl (Does.box rfl rfl rfl) ?_
  rintro _ _ ⟨b3, rfl, rfl⟩
  refine .mem (H' := [arr b3 0 (actE a), F]) (fun w s => s) ?_
  refine .p (.a rfl) (.n (.t (.s (.r (.p (.m rfl) (.p (.f rfl) (.p (.l rfl) ?_)))))))
  refine .does rfl (Does.callE rfl call48 rfl one_SpaceN .auto) ?_
  rintro _ _ ⟨⟨⟩, -, rfl, rfl⟩
  refine .p (.a rfl) (.n (.t (.s (.r (.p (.a rfl) (.n (.t (.s (.b (.s (.r (.p (.m rfl) (.p (.eqp rfl rfl) (.p (.a rfl) (.n (.t (.condT rfl ?_)))))))))))))))))
  refine .s (.r (.p (.a rfl) (.n (.t (.e (.br (.tr (.ret1 rfl rfl fun w s => ⟨(), ?_, trivial, finE .auto s⟩))))))))
  rfl

set_option maxRecDepth 20000 in
theorem one_LookN {W : World} {n k : Int} : Fn Tryz.prog W 47 [.pointer none, .int .i64 n, .int .i64 k] [] Unit (fun _ => .tuple #[.agg (thdE thrY).toArray, .bool false]) (fun _ => True) (fun _ => []) := by
  refine Fn.intro (N := 15) func47 rfl ntmps47 rfl fun F => ?_
  show GoC _ _ _ _ _ _ [F]
  refine .s (.r ?_)
  refine .does rfl (Does.alloc rfl zeroValue59 rfl) ?_
  rintro _ _ ⟨b6, rfl, rfl⟩
  refine .p (.a rfl) (.n (.t (.s (.r (.p (.m rfl) (.p (.m rfl) ?_))))))
  refine .does rfl (Does.callE rfl call48 rfl one_SpaceN .auto) ?_
  rintro _ _ ⟨⟨⟩, -, rfl, rfl⟩
  refine .p (.m rfl) ?_
  refine .does rfl (Does.callE rfl call30 rfl core_LookN .auto) ?_
  rintro _ _ ⟨⟨⟩, -, rfl, rfl⟩
  refine .p (.extract rfl rfl) (.p (.extract rfl rfl) ?_)
  refine .does rfl (Does.sta (by exact sizeOf59) rfl rfl rfl (by rfl)) ?_
  rintro _ _ ⟨rfl, rfl⟩
  refine .p (.a rfl) (.n (.t (.e ?_)))
  refine .retCT rfl rfl isAgg59 (by exact sizeOf59) Cells.a rfl fun w s => ⟨(), ?_, trivial, finE .auto s⟩
  rfl

set_option maxRecDepth 20000 in
theorem one_New {W : World} {A : HProp} {v : Value} {ps : List PrgV} (hr : Rd W [A] prgE 8 v ps) (hp : ∀ p ∈ ps, PrgRd W [A] p) (hb : ps.length ≤ 1000000000 ∧ ∀ p ∈ ps, p.fs.length ≤ 1000000000 ∧ p.sems.length ≤ 1000000000 ∧ p.pipes.length ≤ 1000000000) : Fn Tryz.prog W 36 [v] [A] (Option Nat) (fun o => .tuple #[ptrO o, .int .i64 (onesErr (ps.map PrgV.p))]) (fun o => o.isSome = decide (onesErr (ps.map PrgV.p) = 0)) (fun o => [optH (fun b => oneH b ((ps.map PrgV.p).map Spc.new)) o, A]) := by
  refine Fn.intro (N := 45) func36 rfl ntmps36 rfl fun F => ?_
  haveI hRI : ∀ (H : List HProp) [HasH H A], ReadsC W H v prgE 8 ps := fun H h => ⟨hr.at h.has⟩
  show GoC _ _ _ _ _ _ [A, F]
  have hml : (ps.map PrgV.p).length = ps.length := List.length_map ..
  refine .s (.r (.p (.a rfl) (.p (.a rfl) (.n (.t (.s (.s (.r (.p (.m rfl) (.p (.len rfl) (.p (.lss rfl rfl) (.p (.m rfl) ?_))))))))))))
  apply GoL.segOD 4 16 12 [12, 13, 14, 15, 16] rfl
  · intro h12
    refine .g (.m rfl) (.g (.len rfl) (.g (.gtr rfl rfl) (.p (.u rfl rfl) (.n ?_))))
    refine .seg .auto rfl (by first | exact fun _ h => h | exact Ent.kept .auto)
  · intro h12
    refine .u (.u (.u (.p (.t rfl rfl) (.n ?_))))
    refine .seg .auto rfl (by first | exact fun _ h => h | exact Ent.kept .auto)
  refine .n (.t (.cond rfl (fun h16 => ?_) (fun h16 => ?_)))
  · simp only [Bool.or_eq_true, decide_eq_true_eq] at h16
    refine .s (.r (.p (.a rfl) (.p (.a rfl) (.n (.t (.e (.tr ?_)))))))
    refine .ret2 rfl rfl rfl fun w s => ⟨none, ?_, by rw [onesErr_bad (by rw [hml]; omega)]; rfl, finE .auto s⟩
    rw [onesErr_bad (by rw [hml]; omega)]; rfl
  · simp only [Bool.or_eq_false_iff, decide_eq_false_iff_not] at h16
    refine .v (.t (.s (.r ?_)))
    refine .p (.bld0 ([(.slice none 0 0)]) (by kernel_rfl)) ?_
    refine .does rfl (Does.box rfl rfl rfl) ?_
    rintro _ _ ⟨b18, rfl, rfl⟩
    refine .p (.a rfl) (.n (.t (.s (.s (.r ?_)))))
    have hke := onesErr_ok (ps := ps.map PrgV.p) (by rw [hml]; omega)
    refine .p (.m rfl) (.p (.len rfl) (.p (.m rfl) (.n (.t (.b ?_)))))
    refine .loopK (X := Nat × Value × List (Nat × Spc)) [2, 3, 6, 7, 8, 21, 22, 23, 24, 25, 26, 27, 28, 29, 30, 31, 32, 33, 34, 35, 36, 37, 38, 39, 40, 41, 42, 43] (fun z => ps.length - z.1) (fun z => z.1 ≤ ps.length ∧ z.2.2.length = z.1 ∧ z.2.2.map (·.2) = ((ps.map PrgV.p).take z.1).map Spc.new ∧ checkAll (ps.map PrgV.p) = checkAll ((ps.map PrgV.p).drop z.1)) (fun z => [(21, some (.int .i64 (z.1 : Int)))]) (fun z => [arr b18 0 [z.2.1], sl ptrE 1 z.2.1 z.2.2, allH (fun x : Nat × Spc => spcH x.1 x.2)  z.2.2, A, F]) (0, .slice none 0 0, []) ?_ ?_ ?_ ?_
    · exact ⟨Nat.zero_le _, rfl, rfl, rfl⟩
    · exact ⟨rfl, trivial⟩
    · exact fun w s => Ent.kept .auto w s
    rintro ⟨n, vl, xs⟩ ⟨hk, hxl, hxm0, hck⟩
    simp only at hk hxl hxm0 hck
    refine .s (.r (.p (.lss rfl rfl) (.n (.t (.s (.condD rfl (fun h22 => ?_) (fun h22 => ?_)))))))
    · refine .v (.t (.s (.b (.s (.r ?_)))))
      obtain ⟨x, hx⟩ := at_some (show n < ps.length by omega)
      have hxm : (ps.map PrgV.p)[n]? = some x.p := by rw [List.getElem?_map, hx]; rfl
      have hpx := hp x (List.mem_of_getElem? hx)
      have hbx := hb.2 x (List.mem_of_getElem? hx)
      refine .know (fun w s => prg_all hpx .auto w s) fun hone => ?_
      refine .p (.ix _ rfl rfl rfl (by first | omega | decide)) ?_
      refine .p (.la rfl (Cells.rd Rd.s hx)) ?_
      refine .does rfl (Does.alloc rfl zeroValue25 rfl) ?_
      rintro _ _ ⟨b6, rfl, rfl⟩
      refine .does rfl (Does.stp (by exact sizeOf25) rfl rfl hone rfl) ?_
      rintro _ _ ⟨rfl, rfl⟩
      refine .n (.t (.s (.r (.p (.lA rfl) ?_))))
      refine .does rfl (Does.callE rfl call15 rfl (core_New hpx hbx) .auto) ?_
      rintro _ _ ⟨o, ho, rfl, rfl⟩
      refine .p (.m rfl) (.p (.extract rfl rfl) (.p (.extract rfl rfl) (.p (.a rfl) (.p (.a rfl) (.n (.t (.s (.s (.r (.p (.m rfl) (.p (.neq rfl rfl) (.n (.t (.condD rfl (fun h31 => ?_) (fun h31 => ?_)))))))))))))))
      · refine .s (.r (.p (.m rfl) (.p (.a rfl) (.p (.a rfl) (.n (.t (.e (.tr (.br (.tr (.tr (.br (.tr ?_)))))))))))))
        refine .ret2 rfl rfl rfl fun w s => ⟨none, ?_, by rw [hke, hck, checkAll_stop hxm h31]; exact (decide_eq_false h31).symm, finE .auto s⟩
        rw [hke, hck, checkAll_stop hxm h31]; rfl
      · have h31 := Decidable.of_not_not h31
        obtain ⟨bs, rfl⟩ := Option.isSome_iff_exists.1 (ho.trans (decide_eq_true h31))
        refine .fr (A := optH (fun b => spcH b (Spc.new x.p)) (some bs)) (Bs := [spcH bs (Spc.new x.p)]) .auto opt_some ?_
        refine .v (.t (.r (.p (.m rfl) (.p (.m rfl) (.p (.n rfl) (.p (.z rfl) (.p (.l rfl) (.p (.m rfl) ?_))))))))
        refine .does rfl (Does.bsl 27 rfl rfl (by kernel_rfl)) ?_
        rintro _ _ ⟨b39, rfl, rfl⟩
        refine .does rfl (Does.app1 (enc := ptrE) (k := 1) ((bs, Spc.new x.p) : Nat × Spc) rfl underlying155 underlying155 typeInfo27 rfl rfl rfl (by decide) rfl rfl rfl .auto rfl .auto (by first | omega | (dsimp only; omega)) rfl) ?_
        rintro _ _ ⟨v40, rfl, rfl⟩
        refine .p (.n rfl) (.p (.z rfl) ?_)
        refine .does rfl (Does.stS sizeOf155 rfl rfl rfl) ?_
        rintro _ _ ⟨rfl, rfl⟩
        refine .n (.b (.t (.r ?_)))
        refine .p (.inc rfl rfl (by omega)) ?_
        refine .p (.m rfl) (.n ?_)
        refine .againK (n + 1, v40, xs ++ [(bs, Spc.new x.p)]) .auto rfl ?_ ?_ ?_ ?_
        · show ps.length - (n + 1) < ps.length - n; omega
        · exact ⟨by show n + 1 ≤ _; omega, by simp [hxl], by rw [take_snoc hxm]; simp [hxm0], by rw [hck, checkAll_snoc hxm h31]⟩
        · exact ⟨rfl, trivial⟩
        · show ∀ w, Sat _ w _ → Sat _ w (seps [_, sl ptrE 1 v40 (xs ++ [(bs, Spc.new x.p)]), allH (fun x : Nat × Spc => spcH x.1 x.2)  (xs ++ [(bs, Spc.new x.p)]), A, F])
          rw [allH_snoc]
          exact fun w s => Ent.kept .auto w s
    · obtain rfl : n = ps.length := by omega
      have hk0 : onesErr (ps.map PrgV.p) = 0 := by rw [hke, hck, List.drop_of_length_le (by rw [hml]; omega)]; rfl
      have hxx : xs.map (·.2) = ((ps.map PrgV.p).map Spc.new) := by rw [hxm0, List.take_of_length_le (by rw [hml]; omega)]
      refine .x (.tx (.tx (.bh (.t (.s (.r (.p (.m rfl) (.p (.a rfl) (.p (.a rfl) (.n (.t (.e ?_))))))))))))
      refine .to (A := oneH b18 ((ps.map PrgV.p).map Spc.new)) (Bs := [arr b18 0 [vl], sl ptrE 1 vl xs, allH (fun x : Nat × Spc => spcH x.1 x.2)  xs]) .auto (one_in hxx) ?_
      refine .ret2 rfl rfl rfl fun w s => ⟨some b18, ?_, by rw [hk0]; rfl, finE .auto s⟩
      rw [hk0]; rfl

end Go.SLYtpcjdohmjmeehaaGreat
namespace Go.SLYtpcjdohmjmeehaaGreat
open Go Go.RowKit

theorem checkAll_zero : ∀ {l : List Prg}, checkAll l = 0 → ∀ p ∈ l, checkI p = 0
  | [], _, p, hp => by cases hp
  | q :: l, h, p, hp => by
    unfold checkAll at h
    split at h
    · rename_i hq
      rcases List.mem_cons.1 hp with rfl | hp
      · exact hq
      · exact checkAll_zero h p hp
    · rename_i hq; exact absurd h hq
theorem onesErr_zero {ps : List Prg} (h : onesErr ps = 0) : 1 ≤ ps.length ∧ ps.length ≤ 8 ∧ ∀ p ∈ ps, checkI p = 0 := by
  unfold onesErr at h
  split at h
  · cases h
  · exact ⟨by omega, by omega, checkAll_zero h⟩
theorem OneOk.new {ps : List Prg} (h : onesErr ps = 0) (hw : ∀ p ∈ ps, ∀ f ∈ p.funcs, ∀ i ∈ f, W64 i.n) : OneOk 1 (ps.map Spc.new) := fun s hs => by
  obtain ⟨p, hp, rfl⟩ := List.mem_map.1 hs
  exact Okr.new ⟨(onesErr_zero h).2.2 p hp, hw p hp⟩
theorem OneOk.spc {k : Nat} {l : List Spc} (h : OneOk k l) (hk : k ≤ 190) : ∀ s ∈ l, SpcOk s := fun s hs => (h s hs).spc hk

theorem oRecs_at {l : List Spc} {k : Nat} {s : Spc} (h : l[k]? = some s) : oRecs l (k : Int) = s.recs := by unfold oRecs; rw [geti_nat, h]
theorem oMem_at {l : List Spc} {k : Nat} {s : Spc} (h : l[k]? = some s) : oMem l (k : Int) = s.mem := by unfold oMem; rw [geti_nat, h]
theorem oReady_at {l : List Spc} {k : Nat} {s : Spc} (h : l[k]? = some s) : oReady l (k : Int) = s.ready := by unfold oReady; rw [geti_nat, h]

/-! the laws' own fact -/
def I11 : List Ins := [⟨32, 1, 0, 0, 0⟩]
def P11 : Prg := ⟨[I11], 0, 0, 0, [], [], 0, 0⟩
def pv11 (x y : Nat) : PrgV := ⟨sl3 y 1, [(sl3 x 1, I11)], 0, 0, 0, .slice none 0 0, [], .slice none 0 0, [], 0, 0⟩
def A11 (x y z : Nat) : HProp := seps [arr z 0 (rows prgE [pv11 x y, pv11 x y]), arr y 0 [sl3 x 1], arr x 0 (rows insE I11)]
theorem pv11_rds {W : World} {x y z : Nat} : Rd W [A11 x y z] prgE 8 (sl3 z 2) [pv11 x y, pv11 x y] := Rd.grp (Rd.lit .here rfl (fun _ _ => rfl) rfl)
theorem pv11_rd {W : World} {x y z : Nat} : ∀ p ∈ [pv11 x y, pv11 x y], PrgRd W [A11 x y z] p := fun p hp => by
  have e : p = pv11 x y := by simpa using hp
  subst e
  refine ⟨Rd.grp (Rd.lit (.there .here) rfl (fun _ _ => rfl) rfl), fun q hq => ?_, Rd.nil, Rd.nil⟩
  rw [show (pv11 x y).fs = [(sl3 x 1, I11)] from rfl, List.mem_singleton] at hq
  subst hq
  exact Rd.grp (Rd.lit (.there (.there .here)) rfl (fun _ _ => rfl) rfl)
theorem pv11_b {x y : Nat} : [pv11 x y, pv11 x y].length ≤ 1000000000 ∧ ∀ p ∈ [pv11 x y, pv11 x y], p.fs.length ≤ 1000000000 ∧ p.sems.length ≤ 1000000000 ∧ p.pipes.length ≤ 1000000000 := ⟨by show 2 ≤ _; decide, fun p hp => by
  have e : p = pv11 x y := by simpa using hp
  subst e
  exact ⟨by show 1 ≤ _; decide, by show 0 ≤ _; decide, by show 0 ≤ _; decide⟩⟩
theorem err11 : onesErr [P11, P11] = 0 := by decide +kernel
theorem w11 : ∀ p ∈ [P11, P11], ∀ f ∈ p.funcs, ∀ i ∈ f, W64 i.n := fun p hp f hf i hi => by
  have : ([P11, P11].all fun p => p.funcs.all fun f => f.all fun i => decide (0 ≤ i.n) && decide (i.n ≤ 18446744073709551615)) = true := by decide +kernel
  have := List.all_eq_true.1 (List.all_eq_true.1 (List.all_eq_true.1 this p hp) f hf) i hi
  exact (by simpa using this : 0 ≤ i.n ∧ i.n ≤ 18446744073709551615)
def o11a : List Spc := [P11, P11].map Spc.new
def o11b : List Spc := (oDo o11a ⟨1, 1, 0, 0⟩).2
def o11c : List Spc := (oDo o11b ⟨1, 2, 0, 0⟩).2
def o11d : List Spc := (oDo o11c ⟨3, 9, 0, 0⟩).2
theorem ok11a : OneOk 1 o11a := OneOk.new err11 w11
theorem ok11b : OneOk 2 o11b := ok11a.act (by decide) _
theorem ok11c : OneOk 3 o11c := ok11b.act (by decide) _
theorem ok11d : OneOk 4 o11d := ok11c.act (by decide) _
theorem len11 : o11a.length = 2 ∧ o11b.length = 2 ∧ o11c.length = 2 ∧ o11d.length = 2 := by
  have h1 : o11a.length = 2 := rfl
  have h2 : o11b.length = 2 := (oDo_len _ _).trans h1
  have h3 : o11c.length = 2 := (oDo_len _ _).trans h2
  exact ⟨h1, h2, h3, (oDo_len _ _).trans h3⟩
theorem f11a : (oDo o11a ⟨1, 1, 0, 0⟩).1 = 0 := by decide +kernel
theorem f11b : (oDo o11b ⟨1, 2, 0, 0⟩).1 = 1 := by decide +kernel
theorem f11c : (oDo o11c ⟨3, 9, 0, 0⟩).1 = 0 := by decide +kernel
def R11 : List Rec := [⟨65537, 32, 0, 65537, 0, true⟩]
theorem r11a : oRecs o11d 0 = [] := by decide +kernel
theorem r11b : oRecs o11d 1 = R11 := by decide +kernel
theorem q11 : oReady o11d 1 = [0] := by decide +kernel
end Go.SLYtpcjdohmjmeehaaGreat
namespace Go.SLYtpcjdohmjmeehaaGreat
open Go Go.RowKit Go.Proofs Go.Proofs.Tryz

set_option maxRecDepth 20000 in
theorem law11_awake {W : World}  : Fn Tryz.prog W 37 [] [] Unit (fun _ => .bool true) (fun _ => True) (fun _ => []) := by
  refine Fn.intro (N := 61) func37 rfl ntmps37 rfl fun F => ?_
  show GoC _ _ _ _ _ _ [F]
  refine .s (.r (.p (.a rfl) (.n (.t (.s (.r ?_))))))
  refine .p (.bld2 (fun v1 v2 => [v1, v2, (.int .i64 0), (.int .i64 0), (.int .u64 0)]) rfl rfl (by kernel_rfl)) ?_
  refine .does rfl (Does.bsl 123 rfl rfl (by kernel_rfl)) ?_
  rintro _ _ ⟨b8, rfl, rfl⟩
  refine .does rfl (Does.bsl 120 rfl rfl (by kernel_rfl)) ?_
  rintro _ _ ⟨b9, rfl, rfl⟩
  refine .p (.bld1 (fun _ => prgE (pv11 b8 b9)) rfl (by kernel_rfl)) ?_
  refine .does rfl (Does.alloc rfl zeroValue25 rfl) ?_
  rintro _ _ ⟨b1, rfl, rfl⟩
  refine .does rfl (Does.sta (by exact sizeOf25) rfl rfl rfl (by rfl)) ?_
  rintro _ _ ⟨rfl, rfl⟩
  refine .n (.t (.s (.r (.p (.lA rfl) (.p (.lA rfl) ?_)))))
  refine .does rfl (Does.bsl 25 rfl rfl (by kernel_rfl)) ?_
  rintro _ _ ⟨b14, rfl, rfl⟩
  refine .does rfl (Does.callE rfl call36 rfl (one_New (A := A11 b8 b9 b14) (v := sl3 b14 2) (ps := [pv11 b8 b9, pv11 b8 b9]) pv11_rds pv11_rd pv11_b) .auto) ?_
  rintro _ _ ⟨o, ho, rfl, rfl⟩
  rw [show [pv11 b8 b9, pv11 b8 b9].map PrgV.p = [P11, P11] from rfl, err11] at ho ⊢
  obtain ⟨kb, rfl⟩ := Option.isSome_iff_exists.1 ho
  refine .fr (A := optH (fun b => oneH b ([P11, P11].map Spc.new)) (some kb)) (Bs := [oneH kb o11a]) .auto opt_some ?_
  refine .p (.m rfl) (.p (.extract rfl rfl) (.p (.extract rfl rfl) (.p (.a rfl) (.p (.a rfl) (.n (.t (.s (.s (.r (.p (.m rfl) (.p (.neq rfl rfl) (.p (.m rfl) (.g (.m rfl) (.g (.eqp rfl rfl) (.p (.u rfl rfl) (.n (.t (.cond rfl (fun h23 => ?_) (fun h23 => ?_)))))))))))))))))))
  · cases h23
  · refine .v (.t (.s (.r (.p (.m rfl) ?_))))
    refine .p (.bld2 (fun v1 v2 => [v1, v2, (.int .i64 0), (.int .i64 0)]) rfl rfl (by kernel_rfl)) ?_
    refine .does rfl (Does.callE rfl call40 rfl (one_Do (l := o11a) (a := ⟨1, 1, 0, 0⟩) (by rw [len11.1]; decide) (ok11a.spc (by decide))) .auto) ?_
    rintro _ _ ⟨⟨⟩, -, rfl, rfl⟩
    rw [f11a, show (oDo o11a ⟨1, 1, 0, 0⟩).2 = o11b from rfl]
    refine .p (.a rfl) (.n (.t (.s (.r (.p (.m rfl) ?_)))))
    refine .p (.bld2 (fun v1 v2 => [v1, v2, (.int .i64 0), (.int .i64 0)]) rfl rfl (by kernel_rfl)) ?_
    refine .does rfl (Does.callE rfl call40 rfl (one_Do (l := o11b) (a := ⟨1, 2, 0, 0⟩) (by rw [len11.2.1]; decide) (ok11b.spc (by decide))) .auto) ?_
    rintro _ _ ⟨⟨⟩, -, rfl, rfl⟩
    rw [f11b, show (oDo o11b ⟨1, 2, 0, 0⟩).2 = o11c from rfl]
    refine .p (.a rfl) (.n (.t (.s (.r (.p (.m rfl) ?_)))))
    refine .p (.bld2 (fun v1 v2 => [v1, v2, (.int .i64 0), (.int .i64 0)]) rfl rfl (by kernel_rfl)) ?_
    refine .does rfl (Does.callE rfl call40 rfl (one_Do (l := o11c) (a := ⟨3, 9, 0, 0⟩) (by rw [len11.2.2.1]; decide) (ok11c.spc (by decide))) .auto) ?_
    rintro _ _ ⟨⟨⟩, -, rfl, rfl⟩
    rw [f11c, show (oDo o11c ⟨3, 9, 0, 0⟩).2 = o11d from rfl]
    refine .p (.a rfl) (.n (.t (.s (.r (.p (.m rfl) (.p (.eql rfl rfl) (.p (.m rfl) (.g (.m rfl) (.g (.eql rfl rfl) (.p (.t rfl rfl) (.p (.m rfl) (.g (.m rfl) (.g (.eql rfl rfl) (.p (.t rfl rfl) (.p (.m rfl) (.g (.m rfl) ?_))))))))))))))))
    refine .dg rfl rfl rfl (Does.callE rfl call39 rfl (one_Records (l := o11d) (n := 0) (by rw [len11.2.2.2]; decide) (ok11d.spc (by decide))) .auto) ?_
    rintro _ _ ⟨u45, -, rfl, rfl⟩
    rw [r11a]
    refine .g (.len rfl) (.g (.eql rfl rfl) (.p (.t rfl rfl) (.p (.m rfl) (.g (.m rfl) ?_))))
    refine .dg rfl rfl rfl (Does.callE rfl call39 rfl (one_Records (l := o11d) (n := 1) (by rw [len11.2.2.2]; decide) (ok11d.spc (by decide))) .auto) ?_
    rintro _ _ ⟨u51, -, rfl, rfl⟩
    rw [r11b]
    refine .g (.len rfl) (.g (.eql rfl rfl) (.p (.t rfl rfl) (.p (.m rfl) (.g (.m rfl) ?_))))
    refine .dg rfl rfl rfl (Does.callE rfl call38 rfl (one_Ready (l := o11d) (n := 1) (by rw [len11.2.2.2]; decide) (ok11d.spc (by decide))) .auto) ?_
    rintro _ _ ⟨u57, -, rfl, rfl⟩
    rw [q11]
    refine .dg rfl rfl rfl (Does.bsl 3 rfl rfl (by kernel_rfl)) ?_
    rintro _ _ ⟨b58, rfl, rfl⟩
    refine .dg rfl rfl rfl (Does.callE rfl call23 rfl (ref_Ints (A := seps [sl intE 1 u57 [0], arr b58 0 [.int .i64 0]]) (xs := [0]) (ys := [0]) (Rd.grp (Rd.sl .here)) (Rd.grp (Rd.lit (.there .here) rfl (fun _ _ => rfl) rfl)) (by decide)) .auto) ?_
    rintro _ _ ⟨⟨⟩, -, rfl, rfl⟩
    refine .p (.t rfl rfl) (.p (.a rfl) (.n (.t (.e (.ret1 rfl rfl fun w s => ⟨(), ?_, trivial, finE .auto s⟩)))))
    rfl

set_option maxRecDepth 20000 in
theorem law11_None {W : World} {a : Acm} {n k : Int} : Fn Tryz.prog W 14 [.agg (actE a).toArray, .int .i64 n, .int .i64 k] [] Unit (fun _ => .bool true) (fun _ => True) (fun _ => []) := by
  refine Fn.intro (N := 51) func14 rfl ntmps14 rfl fun F => ?_
  show GoC _ _ _ _ _ _ [F]
  refine .s (.r ?_)
  refine .does rfl (Does.box rfl rfl rfl) ?_
  rintro _ _ ⟨b3, rfl, rfl⟩
  refine .mem (H' := [arr b3 0 (actE a), F]) (fun w s => s) ?_
  refine .p (.a rfl) (.n (.t (.s (.r (.p (.a rfl) (.n (.t (.s (.r (.p (.m rfl) (.p (.m rfl) (.p (.m rfl) ?_))))))))))))
  refine .does rfl (Does.callE rfl call47 rfl one_LookN .auto) ?_
  rintro _ _ ⟨⟨⟩, -, rfl, rfl⟩
  refine .p (.m rfl) (.p (.extract rfl rfl) (.p (.extract rfl rfl) ?_))
  refine .does rfl (Does.alloc rfl zeroValue59 rfl) ?_
  rintro _ _ ⟨b8, rfl, rfl⟩
  refine .does rfl (Does.sta (by exact sizeOf59) rfl rfl rfl (by rfl)) ?_
  rintro _ _ ⟨rfl, rfl⟩
  refine .p (.a rfl) (.n (.t (.s (.r ?_))))
  refine .does rfl (Does.callE rfl call37 rfl law11_awake .auto) ?_
  rintro _ _ ⟨⟨⟩, -, rfl, rfl⟩
  refine .p (.m rfl) (.g (.m rfl) (.g (.lA rfl) ?_))
  refine .dg rfl rfl rfl (Does.callE rfl call40 rfl one_DoN .auto) ?_
  rintro _ _ ⟨⟨⟩, -, rfl, rfl⟩
  refine .g (.eql rfl rfl) (.p (.t rfl rfl) (.p (.m rfl) (.g (.m rfl) (.g (.m rfl) ?_))))
  refine .dg rfl rfl rfl (Does.callE rfl call38 rfl one_ReadyN .auto) ?_
  rintro _ _ ⟨⟨⟩, -, rfl, rfl⟩
  refine .g (.lens rfl) (.g (.m rfl) (.g (.m rfl) ?_))
  refine .dg rfl rfl rfl (Does.callE rfl call39 rfl one_RecordsN .auto) ?_
  rintro _ _ ⟨⟨⟩, -, rfl, rfl⟩
  refine .g (.lens rfl) ?_
  refine .g (.add rfl rfl (by omega)) ?_
  refine .g (.m rfl) (.g (.m rfl) ?_)
  refine .dg rfl rfl rfl (Does.callE rfl call41 rfl one_MemoryN .auto) ?_
  rintro _ _ ⟨⟨⟩, -, rfl, rfl⟩
  refine .g (.lens rfl) ?_
  refine .g (.add rfl rfl (by omega)) ?_
  refine .g (.eql rfl rfl) (.p (.t rfl rfl) (.p (.m rfl) (.g (.m rfl) (.g (.not rfl) (.p (.t rfl rfl) (.p (.m rfl) (.g (.m rfl) (.g (.m rfl) ?_))))))))
  refine .dg rfl rfl rfl (Does.callE rfl call48 rfl one_SpaceN .auto) ?_
  rintro _ _ ⟨⟨⟩, -, rfl, rfl⟩
  refine .g (.eqp rfl rfl) (.p (.t rfl rfl) (.p (.a rfl) (.n (.t (.e (.ret1 rfl rfl fun w s => ⟨(), ?_, trivial, finE .auto s⟩))))))
  rfl

set_option maxRecDepth 20000 in
theorem law11_Runs {W : World} {A : HProp} {v : Value} {ps : List PrgV} (hr : Rd W [A] prgE 8 v ps) (hp : ∀ p ∈ ps, PrgRd W [A] p) (hb : ps.length ≤ 1000000000 ∧ ∀ p ∈ ps, p.fs.length ≤ 1000000000 ∧ p.sems.length ≤ 1000000000 ∧ p.pipes.length ≤ 1000000000) (hw : ∀ p ∈ ps.map PrgV.p, ∀ f ∈ p.funcs, ∀ i ∈ f, W64 i.n) {u : Value} {acts : List Acm} (ha : Rd W [A] actE 4 u acts) (_hal : acts.length ≤ 1000000000) : Fn Tryz.prog W 8 [v, u] [A] Unit (fun _ => .bool true) (fun _ => True) (fun _ => [A]) := by
  refine Fn.intro (N := 83) func8 rfl ntmps8 rfl fun F => ?_
  haveI hRI : ∀ (H : List HProp) [HasH H A], ReadsC W H v prgE 8 ps := fun H h => ⟨hr.at h.has⟩
  haveI hRJ : ∀ (H : List HProp) [HasH H A], ReadsC W H u actE 4 acts := fun H h => ⟨ha.at h.has⟩
  show GoC _ _ _ _ _ _ [A, F]
  refine .s (.r (.p (.a rfl) (.n (.t (.s (.r (.p (.m rfl) ?_)))))))
  refine .does rfl (Does.callE rfl call36 rfl (one_New hr hp hb) .auto) ?_
  rintro _ _ ⟨o, ho, rfl, rfl⟩
  refine .p (.m rfl) (.p (.extract rfl rfl) (.p (.extract rfl rfl) (.p (.a rfl) (.p (.a rfl) (.n (.t (.s (.s (.r (.p (.m rfl) (.p (.neq rfl rfl) (.n (.t (.condD rfl (fun h18 => ?_) (fun h18 => ?_)))))))))))))))
  · have h0 : o.isSome = false := ho.trans (decide_eq_false h18)
    obtain rfl : o = none := by cases o with
      | none => rfl
      | some z => cases h0
    refine .s (.r ?_)
    refine .does rfl (Does.callE rfl call37 rfl law11_awake .auto) ?_
    rintro _ _ ⟨⟨⟩, -, rfl, rfl⟩
    refine .p (.m rfl) (.g (.m rfl) (.g (.eqp rfl rfl) (.p (.t rfl rfl) (.p (.a rfl) (.n (.t (.e (.tr (.ret1 rfl rfl fun w s => ⟨(), ?_, trivial, finE .auto s⟩)))))))))
    rfl
  · have hc : onesErr (ps.map PrgV.p) = 0 := Decidable.not_not.mp h18
    obtain ⟨ka, rfl⟩ := Option.isSome_iff_exists.1 (ho.trans (decide_eq_true hc))
    refine .fr (A := optH (fun b => oneH b ((ps.map PrgV.p).map Spc.new)) (some ka)) (Bs := [oneH ka ((ps.map PrgV.p).map Spc.new)]) .auto opt_some ?_
    have hok : OneOk 1 ((ps.map PrgV.p).map Spc.new) := OneOk.new hc hw
    have hlp : (ps.map PrgV.p).length = ps.length := List.length_map ..
    have hz := onesErr_zero hc
    rw [hlp] at hz
    have hl8 : ((ps.map PrgV.p).map Spc.new).length ≤ 8 := by rw [List.length_map, hlp]; exact hz.2.1
    refine .v (.t (.s (.s (.r (.p (.a rfl) (.n (.t (.b ?_))))))))
    refine .loopK (X := Nat × List Spc) [4, 7, 8, 9, 10, 11, 24, 25, 26, 27, 28, 29, 30, 31, 32, 33, 34, 35, 36, 37, 38, 39, 40, 41, 42, 43, 44, 45, 46, 47, 48, 49, 50, 51, 52, 53, 54, 55, 56, 57, 58, 59, 60, 61, 62, 63, 64, 65, 66, 67, 68, 69, 70, 71, 72, 73, 74, 75, 76, 77, 78, 79, 80, 81] (fun z => acts.length - z.1) (fun z => z.1 ≤ acts.length ∧ z.1 ≤ 100 ∧ OneOk (z.1 + 1) z.2 ∧ z.2.length ≤ 8) (fun z => [(7, some (.int .i64 (z.1 : Int)))]) (fun z => [oneH ka z.2, A, F]) (0, ((ps.map PrgV.p).map Spc.new)) ?_ ?_ ?_ ?_
    · exact ⟨Nat.zero_le _, Nat.zero_le _, hok, hl8⟩
    · exact ⟨rfl, trivial⟩
    · exact fun w s => Ent.kept .auto w s
    rintro ⟨k, l⟩ ⟨hk, hk2, hO, hl⟩
    simp only at hk hk2 hO hl
    refine .s (.s (.r (.p (.m rfl) (.p (.m rfl) (.p (.len rfl) (.p (.lss rfl rfl) (.p (.m rfl) ?_)))))))
    apply GoL.segAD 3 31 28 [28, 29, 30, 31] rfl
    · intro h28
      refine .g (.m rfl) (.g (.lss rfl rfl) (.p (.t rfl rfl) (.n ?_)))
      refine .seg .auto rfl (by first | exact fun _ h => h | exact Ent.kept .auto)
    · intro h28
      refine .u (.u (.p (.u rfl rfl) (.n ?_)))
      refine .seg .auto rfl (by first | exact fun _ h => h | exact Ent.kept .auto)
    refine .n (.t (.cond rfl (fun h31 => ?_) (fun h31 => ?_)))
    · simp only [Bool.and_eq_true, decide_eq_true_eq] at h31
      refine .v (.t (.s (.b (.s (.r ?_)))))
      obtain ⟨x, hx⟩ := at_some (show k < acts.length by omega)
      have hsp := hO.spc (show k + 1 ≤ 190 by omega)
      refine .p (.m rfl) (.p (.m rfl) ?_)
      refine .p (.ix k rfl rfl rfl (by omega)) ?_
      refine .p (.la rfl (Cells.rd Rd.s hx)) ?_
      refine .does rfl (Does.alloc rfl zeroValue85 rfl) ?_
      rintro _ _ ⟨b8, rfl, rfl⟩
      refine .does rfl (Does.sta (vs := actE x) (by exact sizeOf85) rfl rfl rfl (by rfl)) ?_
      rintro _ _ ⟨rfl, rfl⟩
      refine .n (.t (.s (.r (.p (.m rfl) (.p (.f rfl) (.p (.l rfl) ?_))))))
      refine .does rfl (Does.callE rfl call38 rfl (one_Ready (l := l) (n := x.space) (by omega) hsp) .auto) ?_
      rintro _ _ ⟨u41, -, rfl, rfl⟩
      refine .p (.a rfl) (.n (.t (.s (.r (.p (.m rfl) (.p (.f rfl) (.p (.l rfl) ?_)))))))
      refine .does rfl (Does.callE rfl call39 rfl (one_Records (l := l) (n := x.space) (by omega) hsp) .auto) ?_
      rintro _ _ ⟨u45, -, rfl, rfl⟩
      refine .p (.len rfl) (.p (.a rfl) (.n (.t (.s (.r (.p (.m rfl) (.p (.lA rfl) ?_)))))))
      refine .does rfl (Does.callE rfl call40 rfl (one_Do (l := l) (a := x) (by omega) hsp) .auto) ?_
      rintro _ _ ⟨⟨⟩, -, rfl, rfl⟩
      refine .p (.a rfl) (.n (.t (.s (.s (.r (.p (.z rfl) (.p (.l rfl) (.p (.eql rfl rfl) (.p (.m rfl) ?_)))))))))
      apply GoL.segAD 8 61 53 [53, 54, 55, 56, 57, 58, 59, 60, 61] rfl
      · intro h53
        refine .g (.m rfl) (.g (.eql rfl rfl) (.g (.m rfl) (.g (.f rfl) (.g (.l rfl) ?_))))
        refine .dg rfl rfl rfl (Does.callE rfl call24 rfl (ref_In (A := sl intE 1 u41 (oReady l x.space)) (Rd.sl .here) (hO.ready _)) .auto) ?_
        rintro _ _ ⟨⟨⟩, -, rfl, rfl⟩
        refine .g (.neqBool underlying4 rfl rfl) ?_
        refine .p (.t rfl rfl) (.n ?_)
        refine .seg .auto rfl (by first | exact fun _ h => h | exact Ent.kept .auto)
      · intro h53
        refine .u (.u (.u (.u (.u (.u (.u (.p (.u rfl rfl) (.n ?_))))))))
        refine .seg .auto rfl (by first | exact fun _ h => h | exact Ent.kept .auto)
      refine .n (.t (.cond rfl (fun h61 => ?_) (fun h61 => ?_)))
      · simp only [Bool.and_eq_true, decide_eq_true_eq, bne_iff_ne, ne_eq, decide_eq_decide] at h61
        exact absurd (oDo_runs hO (by omega) h61.1) h61.2
      · have hO2 : OneOk (k + 2) (oDo l x).2 := hO.act (by omega) x
        have hl2 : (oDo l x).2.length ≤ 8 := by rw [oDo_len]; exact hl
        have hsp2 := hO2.spc (show k + 2 ≤ 190 by omega)
        refine .v (.t (.s (.r (.p (.m rfl) (.p (.neq rfl rfl) (.p (.m rfl) ?_))))))
        apply GoL.segAD 17 81 64 [64, 65, 66, 67, 68, 69, 70, 71, 72, 73, 74, 75, 76, 77, 78, 79, 80, 81] rfl
        · intro h64
          refine .g (.m rfl) (.g (.m rfl) (.g (.f rfl) (.g (.l rfl) ?_)))
          refine .dg rfl rfl rfl (Does.callE rfl call38 rfl (one_Ready (l := (oDo l x).2) (n := x.space) (by omega) hsp2) .auto) ?_
          rintro _ _ ⟨u69, -, rfl, rfl⟩
          refine .dg rfl rfl rfl (Does.callE rfl call23 rfl (ref_Ints (A := seps [sl intE 1 u41 (oReady l x.space), sl intE 1 u69 (oReady (oDo l x).2 x.space)]) (Rd.grp (Rd.sl .here)) (Rd.grp (Rd.sl (.there .here))) (hO.ready _)) .auto) ?_
          rintro _ _ ⟨⟨⟩, -, rfl, rfl⟩
          refine .ungrp .auto ?_
          refine .g (.notD rfl) (.g (.m rfl) ?_)
          apply GoL.segOD 8 80 72 [72, 73, 74, 75, 76, 77, 78, 79, 80] rfl
          · intro h72
            refine .g (.m rfl) (.g (.f rfl) (.g (.l rfl) ?_))
            refine .dg rfl rfl rfl (Does.callE rfl call39 rfl (one_Records (l := (oDo l x).2) (n := x.space) (by omega) hsp2) .auto) ?_
            rintro _ _ ⟨u76, -, rfl, rfl⟩
            refine .g (.len rfl) (.g (.m rfl) (.g (.neq rfl rfl) (.g (.u rfl rfl) (.n ?_))))
            refine .seg .auto rfl (by first | exact fun _ h => h | exact Ent.kept .auto)
          · intro h72
            refine .u (.u (.u (.u (.u (.u (.u (.g (.t rfl rfl) (.n ?_))))))))
            refine .seg .auto rfl (by first | exact fun _ h => h | exact Ent.kept .auto)
          refine .p (.t rfl rfl) (.n ?_)
          refine .seg .auto rfl (by first | exact fun _ h => h | exact Ent.kept .auto)
        · intro h64
          refine .u (.u (.u (.u (.u (.u (.u (.u (.u (.u (.u (.u (.u (.u (.u (.u (.p (.u rfl rfl) (.n ?_)))))))))))))))))
          refine .seg .auto rfl (by first | exact fun _ h => h | exact Ent.kept .auto)
        refine .n (.t (.cond rfl (fun h81 => ?_) (fun h81 => ?_)))
        · simp only [Bool.and_eq_true, Bool.or_eq_true, decide_eq_true_eq] at h81
          obtain ⟨h1, h2⟩ := h81
          rw [oDo_same hO (by omega) h1] at h2
          rcases h2 with h2 | h2 <;> exact absurd rfl h2
        · refine .v (.b (.t (.r (.p (.m rfl) ?_))))
          refine .p (.inc rfl rfl (by omega)) ?_
          refine .p (.a rfl) (.n ?_)
          refine .againK (k + 1, (oDo l x).2) .auto rfl ?_ ?_ ?_ ?_
          · show acts.length - (k + 1) < acts.length - k; omega
          · exact ⟨by show k + 1 ≤ _; omega, by show k + 1 ≤ 100; omega, hO2, hl2⟩
          · exact ⟨rfl, trivial⟩
          · exact fun w s => Ent.kept .auto w s
    · simp only [Bool.and_eq_false_iff, decide_eq_false_iff_not] at h31
      refine .x (.tx (.tx (.bh (.t (.s (.r ?_))))))
      refine .does rfl (Does.callE rfl call37 rfl law11_awake .auto) ?_
      rintro _ _ ⟨⟨⟩, -, rfl, rfl⟩
      refine .p (.a rfl) (.n (.t (.e (.ret1 rfl rfl fun w s => ⟨(), ?_, trivial, finE .auto s⟩))))
      rfl

set_option maxRecDepth 20000 in
theorem law11_Apart {W : World} {A : HProp} {v : Value} {ps : List PrgV} (hr : Rd W [A] prgE 8 v ps) (hp : ∀ p ∈ ps, PrgRd W [A] p) (hb : ps.length ≤ 1000000000 ∧ ∀ p ∈ ps, p.fs.length ≤ 1000000000 ∧ p.sems.length ≤ 1000000000 ∧ p.pipes.length ≤ 1000000000) (hw : ∀ p ∈ ps.map PrgV.p, ∀ f ∈ p.funcs, ∀ i ∈ f, W64 i.n) {u : Value} {acts : List Acm} (ha : Rd W [A] actE 4 u acts) (_hal : acts.length ≤ 1000000000) {n : Int} (hn : 0 ≤ n ∧ n ≤ 255) : Fn Tryz.prog W 9 [v, u, .int .u8 n] [A] Unit (fun _ => .bool true) (fun _ => True) (fun _ => [A]) := by
  refine Fn.intro (N := 113) func9 rfl ntmps9 rfl fun F => ?_
  haveI hRI : ∀ (H : List HProp) [HasH H A], ReadsC W H v prgE 8 ps := fun H h => ⟨hr.at h.has⟩
  haveI hRJ : ∀ (H : List HProp) [HasH H A], ReadsC W H u actE 4 acts := fun H h => ⟨ha.at h.has⟩
  show GoC _ _ _ _ _ _ [A, F]
  refine .s (.r (.p (.a rfl) (.n (.t (.s (.r (.p (.m rfl) ?_)))))))
  refine .does rfl (Does.callE rfl call36 rfl (one_New hr hp hb) .auto) ?_
  rintro _ _ ⟨o, ho, rfl, rfl⟩
  refine .p (.m rfl) (.p (.extract rfl rfl) (.p (.extract rfl rfl) (.p (.a rfl) (.p (.a rfl) (.n (.t (.s (.s (.r (.p (.m rfl) (.p (.neq rfl rfl) (.p (.m rfl) ?_))))))))))))
  apply GoL.segOD 4 25 21 [21, 22, 23, 24, 25] rfl
  · intro h21
    refine .g (.m rfl) (.g (.len rfl) (.g (.eql rfl rfl) (.p (.u rfl rfl) (.n ?_))))
    refine .seg .auto rfl (by first | exact fun _ h => h | exact Ent.kept .auto)
  · intro h21
    refine .u (.u (.u (.p (.t rfl rfl) (.n ?_))))
    refine .seg .auto rfl (by first | exact fun _ h => h | exact Ent.kept .auto)
  refine .n (.t (.cond rfl (fun h25 => ?_) (fun h25 => ?_)))
  · simp only [Bool.or_eq_true, decide_eq_true_eq] at h25
    refine .s (.r ?_)
    refine .does rfl (Does.callE rfl call37 rfl law11_awake .auto) ?_
    rintro _ _ ⟨⟨⟩, -, rfl, rfl⟩
    refine .p (.a rfl) (.n (.t (.e (.tr (.ret1 rfl rfl fun w s => ⟨(), ?_, trivial, finE .auto s⟩)))))
    rfl
  · simp only [Bool.or_eq_false_iff, decide_eq_false_iff_not] at h25
    have hc : onesErr (ps.map PrgV.p) = 0 := by omega
    obtain ⟨ka, rfl⟩ := Option.isSome_iff_exists.1 (ho.trans (decide_eq_true hc))
    refine .fr (A := optH (fun b => oneH b ((ps.map PrgV.p).map Spc.new)) (some ka)) (Bs := [oneH ka ((ps.map PrgV.p).map Spc.new)]) .auto opt_some ?_
    have hok : OneOk 1 ((ps.map PrgV.p).map Spc.new) := OneOk.new hc hw
    have hlp : (ps.map PrgV.p).length = ps.length := List.length_map ..
    have hz := onesErr_zero hc
    rw [hlp] at hz
    have hl8 : ((ps.map PrgV.p).map Spc.new).length ≤ 8 := by rw [List.length_map, hlp]; exact hz.2.1
    obtain ⟨kk, hkd⟩ : ∃ kk, kk = n.toNat % ps.length := ⟨_, rfl⟩
    have hkl : kk < ps.length := by rw [hkd]; exact Nat.mod_lt _ (by omega)
    have hkk : n.tmod (ps.length : Int) = (kk : Int) := by
      obtain ⟨m, rfl⟩ : ∃ m : Nat, n = (m : Int) := ⟨n.toNat, by omega⟩
      rw [hkd, Int.toNat_natCast, ← Int.ofNat_tmod]
    refine .v (.t (.s (.r (.p (.m rfl) ?_))))
    refine .p (.convI underlying5 underlying3 rfl (by omega)) ?_
    refine .p (.m rfl) (.p (.len rfl) ?_)
    refine .p (.valW (Y.rem rfl rfl (by omega)) hkk) ?_
    refine .p (.a rfl) (.n (.t (.s (.r (.p (.m rfl) (.p (.m rfl) ?_))))))
    obtain ⟨p0, hpk⟩ := at_some hkl
    have hpm := List.mem_of_getElem? hpk
    have hck : checkI p0.p = 0 := hz.2.2 _ (List.mem_map.2 ⟨p0, hpm, rfl⟩)
    have hpl := hb.2 p0 hpm
    refine .p (.ix kk rfl rfl rfl hkl) ?_
    refine .p (.la rfl (Cells.rd Rd.s hpk)) ?_
    refine .does rfl (Does.callE rfl call15 rfl (core_New (hp p0 hpm) hpl) .auto) ?_
    rintro _ _ ⟨o2, ho2, rfl, rfl⟩
    refine .p (.m rfl) (.p (.extract rfl rfl) (.p (.extract rfl rfl) (.p (.a rfl) (.p (.a rfl) (.n (.t (.s (.s (.r (.p (.m rfl) (.p (.neq rfl rfl) (.n (.t (.condD rfl (fun h41 => ?_) (fun h41 => ?_)))))))))))))))
    · exact absurd hck h41
    · obtain ⟨kb, rfl⟩ := Option.isSome_iff_exists.1 (ho2.trans (decide_eq_true hck))
      refine .fr (A := optH (fun b => spcH b (Spc.new p0.p)) (some kb)) (Bs := [spcH kb (Spc.new p0.p)]) .auto opt_some ?_
      have hl0 : ((ps.map PrgV.p).map Spc.new)[kk]? = some (Spc.new p0.p) := by rw [List.getElem?_map, List.getElem?_map, hpk]; rfl
      refine .v (.t (.s (.s (.r (.p (.a rfl) (.n (.t (.b ?_))))))))
      refine .loopK (X := Nat × List Spc × Spc) [12, 13, 42, 43, 44, 45, 46, 47, 48, 49, 50, 51, 52, 53, 54, 55, 56, 57, 58, 59, 60, 61, 62, 63, 64, 65, 66, 67, 68, 69, 70, 71, 72, 73, 74, 75, 76, 77, 78, 79, 80, 81, 82, 83, 84, 85, 86, 87] (fun z => acts.length - z.1) (fun z => z.1 ≤ acts.length ∧ z.1 ≤ 150 ∧ OneOk (z.1 + 1) z.2.1 ∧ z.2.1.length ≤ 8 ∧ z.2.1[kk]? = some z.2.2) (fun z => [(12, some (.int .i64 (z.1 : Int)))]) (fun z => [oneH ka z.2.1, spcH kb z.2.2, A, F]) (0, ((ps.map PrgV.p).map Spc.new), Spc.new p0.p) ?_ ?_ ?_ ?_
      · exact ⟨Nat.zero_le _, Nat.zero_le _, hok, hl8, hl0⟩
      · exact ⟨rfl, trivial⟩
      · exact fun w s => Ent.kept .auto w s
      rintro ⟨k, l, s⟩ ⟨hk, hk2, hO, hl, hls⟩
      simp only at hk hk2 hO hl hls
      refine .s (.s (.r (.p (.m rfl) (.p (.m rfl) (.p (.len rfl) (.p (.lss rfl rfl) (.p (.m rfl) ?_)))))))
      apply GoL.segAD 3 49 46 [46, 47, 48, 49] rfl
      · intro h46
        refine .g (.m rfl) (.g (.lss rfl rfl) (.p (.t rfl rfl) (.n ?_)))
        refine .seg .auto rfl (by first | exact fun _ h => h | exact Ent.kept .auto)
      · intro h46
        refine .u (.u (.p (.u rfl rfl) (.n ?_)))
        refine .seg .auto rfl (by first | exact fun _ h => h | exact Ent.kept .auto)
      refine .n (.t (.cond rfl (fun h49 => ?_) (fun h49 => ?_)))
      · simp only [Bool.and_eq_true, decide_eq_true_eq] at h49
        refine .v (.t (.s (.b (.s (.r ?_)))))
        obtain ⟨x, hx⟩ := at_some (show k < acts.length by omega)
        have hsp := hO.spc (show k + 1 ≤ 190 by omega)
        have hos : SpcOk s := hsp s (List.mem_of_getElem? hls)
        refine .p (.m rfl) (.p (.m rfl) ?_)
        refine .p (.ix k rfl rfl rfl (by omega)) ?_
        refine .p (.la rfl (Cells.rd Rd.s hx)) ?_
        refine .does rfl (Does.alloc rfl zeroValue85 rfl) ?_
        rintro _ _ ⟨b13, rfl, rfl⟩
        refine .does rfl (Does.sta (vs := actE x) (by exact sizeOf85) rfl rfl rfl (by rfl)) ?_
        rintro _ _ ⟨rfl, rfl⟩
        refine .n (.t (.s (.r (.p (.m rfl) (.p (.lA rfl) ?_)))))
        refine .does rfl (Does.callE rfl call40 rfl (one_Do (l := l) (a := x) (by omega) hsp) .auto) ?_
        rintro _ _ ⟨⟨⟩, -, rfl, rfl⟩
        refine .n (.t (.b (.s (.r (.p (.z rfl) (.p (.l rfl) (.p (.eql rfl rfl) (.p (.a rfl) (.n (.t (.condD rfl (fun h62 => ?_) (fun h62 => ?_))))))))))))
        · refine .r (.p (.m rfl) ?_)
          refine .does rfl (Does.callE rfl call19 rfl (core_Tick (s := s) hos) .auto) ?_
          rintro _ _ ⟨u64, -, rfl, rfl⟩
          refine .n (.b (.b (.t (.r (.p (.m rfl) ?_)))))
          refine .p (.inc rfl rfl (by omega)) ?_
          refine .p (.a rfl) (.n ?_)
          have hsa : sAct s kk x = s.tick.2 := by unfold sAct; rw [if_pos h62]
          have hO2 : OneOk (k + 2) (oDo l x).2 := hO.act (by omega) x
          have hl2 : (oDo l x).2.length ≤ 8 := by rw [oDo_len]; exact hl
          refine .againK (k + 1, (oDo l x).2, s.tick.2) .auto rfl ?_ ?_ ?_ ?_
          · show acts.length - (k + 1) < acts.length - k; omega
          · exact ⟨by show k + 1 ≤ _; omega, by show k + 1 ≤ 150; omega, hO2, hl2, by show (oDo l x).2[kk]? = some s.tick.2; rw [← hsa]; exact oDo_apart hls x⟩
          · exact ⟨rfl, trivial⟩
          · exact fun w s => Ent.kept .auto w s
        · refine .s (.r (.p (.f rfl) (.p (.l rfl) (.p (.m rfl) (.p (.neq rfl rfl) (.p (.a rfl) (.n (.t (.condD rfl (fun h69 => ?_) (fun h69 => ?_))))))))))
          · refine .v (.b (.b (.t (.r (.p (.m rfl) ?_)))))
            refine .p (.inc rfl rfl (by omega)) ?_
            refine .p (.a rfl) (.n ?_)
            have hsa : sAct s kk x = s := by unfold sAct; rw [if_neg h62, if_pos h69]
            have hO2 : OneOk (k + 2) (oDo l x).2 := hO.act (by omega) x
            have hl2 : (oDo l x).2.length ≤ 8 := by rw [oDo_len]; exact hl
            refine .againK (k + 1, (oDo l x).2, s) .auto rfl ?_ ?_ ?_ ?_
            · show acts.length - (k + 1) < acts.length - k; omega
            · exact ⟨by show k + 1 ≤ _; omega, by show k + 1 ≤ 150; omega, hO2, hl2, by show (oDo l x).2[kk]? = some s; rw [← hsa]; exact oDo_apart hls x⟩
            · exact ⟨rfl, trivial⟩
            · exact fun w s => Ent.kept .auto w s
          · refine .s (.r (.p (.z rfl) (.p (.l rfl) (.p (.eql rfl rfl) (.p (.a rfl) (.n (.t (.condD rfl (fun h73 => ?_) (fun h73 => ?_)))))))))
            · refine .r (.p (.m rfl) (.p (.f rfl) (.p (.l rfl) (.p (.f rfl) (.p (.l rfl) ?_)))))
              refine .does rfl (Does.callE rfl call17 rfl (core_Run (s := s) hos) .auto) ?_
              rintro _ _ ⟨u79, -, rfl, rfl⟩
              refine .n (.b (.b (.t (.r (.p (.m rfl) ?_)))))
              refine .p (.inc rfl rfl (by omega)) ?_
              refine .p (.a rfl) (.n ?_)
              have hsa : sAct s kk x = (s.run x.thread x.choice).2.2 := by unfold sAct; rw [if_neg h62, if_neg h69, if_pos h73]
              have hO2 : OneOk (k + 2) (oDo l x).2 := hO.act (by omega) x
              have hl2 : (oDo l x).2.length ≤ 8 := by rw [oDo_len]; exact hl
              refine .againK (k + 1, (oDo l x).2, (s.run x.thread x.choice).2.2) .auto rfl ?_ ?_ ?_ ?_
              · show acts.length - (k + 1) < acts.length - k; omega
              · exact ⟨by show k + 1 ≤ _; omega, by show k + 1 ≤ 150; omega, hO2, hl2, by show (oDo l x).2[kk]? = some (s.run x.thread x.choice).2.2; rw [← hsa]; exact oDo_apart hls x⟩
              · exact ⟨rfl, trivial⟩
              · exact fun w s => Ent.kept .auto w s
            · refine .s (.r (.p (.z rfl) (.p (.l rfl) (.p (.eql rfl rfl) (.p (.a rfl) (.n (.t (.condD rfl (fun h83 => ?_) (fun h83 => ?_)))))))))
              · refine .r (.p (.m rfl) (.p (.f rfl) (.p (.l rfl) ?_)))
                refine .does rfl (Does.callE rfl call18 rfl (core_Done (s := s) hos) .auto) ?_
                rintro _ _ ⟨u87, -, rfl, rfl⟩
                refine .n (.b (.b (.t (.r (.p (.m rfl) ?_)))))
                refine .p (.inc rfl rfl (by omega)) ?_
                refine .p (.a rfl) (.n ?_)
                have hsa : sAct s kk x = (s.done x.choice).2.2 := by unfold sAct; rw [if_neg h62, if_neg h69, if_neg h73, if_pos h83]
                have hO2 : OneOk (k + 2) (oDo l x).2 := hO.act (by omega) x
                have hl2 : (oDo l x).2.length ≤ 8 := by rw [oDo_len]; exact hl
                refine .againK (k + 1, (oDo l x).2, (s.done x.choice).2.2) .auto rfl ?_ ?_ ?_ ?_
                · show acts.length - (k + 1) < acts.length - k; omega
                · exact ⟨by show k + 1 ≤ _; omega, by show k + 1 ≤ 150; omega, hO2, hl2, by show (oDo l x).2[kk]? = some (s.done x.choice).2.2; rw [← hsa]; exact oDo_apart hls x⟩
                · exact ⟨rfl, trivial⟩
                · exact fun w s => Ent.kept .auto w s
              · refine .v (.b (.b (.t (.r (.p (.m rfl) ?_)))))
                refine .p (.inc rfl rfl (by omega)) ?_
                refine .p (.a rfl) (.n ?_)
                have hsa : sAct s kk x = s := by unfold sAct; rw [if_neg h62, if_neg h69, if_neg h73, if_neg h83]
                have hO2 : OneOk (k + 2) (oDo l x).2 := hO.act (by omega) x
                have hl2 : (oDo l x).2.length ≤ 8 := by rw [oDo_len]; exact hl
                refine .againK (k + 1, (oDo l x).2, s) .auto rfl ?_ ?_ ?_ ?_
                · show acts.length - (k + 1) < acts.length - k; omega
                · exact ⟨by show k + 1 ≤ _; omega, by show k + 1 ≤ 150; omega, hO2, hl2, by show (oDo l x).2[kk]? = some s; rw [← hsa]; exact oDo_apart hls x⟩
                · exact ⟨rfl, trivial⟩
                · exact fun w s => Ent.kept .auto w s
      · simp only [Bool.and_eq_false_iff, decide_eq_false_iff_not] at h49
        have hsp := hO.spc (show k + 1 ≤ 190 by omega)
        have hos : Okr (k + 1) s := hO s (List.mem_of_getElem? hls)
        have ho1 := hos.spc (show k + 1 ≤ 190 by omega)
        refine .x (.tx (.tx (.bh (.t (.s (.r ?_))))))
        refine .does rfl (Does.callE rfl call37 rfl law11_awake .auto) ?_
        rintro _ _ ⟨⟨⟩, -, rfl, rfl⟩
        refine .p (.m rfl) (.g (.m rfl) (.g (.m rfl) ?_))
        refine .dg rfl rfl rfl (Does.callE rfl call39 rfl (one_Records (l := l) (n := (kk : Int)) (by omega) hsp) .auto) ?_
        rintro _ _ ⟨u92, -, rfl, rfl⟩
        rw [oRecs_at hls]
        refine .g (.m rfl) ?_
        refine .dg rfl rfl rfl (Does.callE rfl call20 rfl (core_Records (s := s) (Nat.le_trans (hos.rec (by omega)) (by decide))) .auto) ?_
        rintro _ _ ⟨u94, -, rfl, rfl⟩
        refine .dg rfl rfl rfl (Does.callE rfl call21 rfl (ref_Same (A := seps [sl recE 6 u92 s.recs, sl recE 6 u94 s.recs]) (Rd.grp (Rd.sl .here)) (Rd.grp (Rd.sl (.there .here))) (Nat.le_trans (hos.rec (by omega)) (by decide))) .auto) ?_
        rintro _ _ ⟨⟨⟩, -, rfl, rfl⟩
        rw [decide_eq_true (rfl : s.recs = s.recs)]
        refine .p (.t rfl rfl) (.p (.m rfl) (.g (.m rfl) (.g (.m rfl) ?_)))
        refine .dg rfl rfl rfl (Does.callE rfl call41 rfl (one_Memory (l := l) (n := (kk : Int)) (by omega) hsp) .auto) ?_
        rintro _ _ ⟨u100, -, rfl, rfl⟩
        rw [oMem_at hls]
        refine .g (.m rfl) ?_
        refine .dg rfl rfl rfl (Does.callE rfl call26 rfl (core_Memory (s := s) (Nat.le_trans ho1.mem (by decide))) .auto) ?_
        rintro _ _ ⟨u102, -, rfl, rfl⟩
        refine .dg rfl rfl rfl (Does.callE rfl call25 rfl (ref_Words (A := seps [sl wrdE 1 u100 s.mem, sl wrdE 1 u102 s.mem]) (Rd.grp (Rd.sl .here)) (Rd.grp (Rd.sl (.there .here))) (Nat.le_trans ho1.mem (by decide))) .auto) ?_
        rintro _ _ ⟨⟨⟩, -, rfl, rfl⟩
        rw [decide_eq_true (rfl : s.mem = s.mem)]
        refine .p (.t rfl rfl) (.p (.m rfl) (.g (.m rfl) (.g (.m rfl) ?_)))
        refine .dg rfl rfl rfl (Does.callE rfl call38 rfl (one_Ready (l := l) (n := (kk : Int)) (by omega) hsp) .auto) ?_
        rintro _ _ ⟨u108, -, rfl, rfl⟩
        rw [oReady_at hls]
        refine .o1 (C := spcH kb s) .auto rfl ?_
        rintro ps9 -
        refine .g (.m rfl) ?_
        refine .dg rfl rfl rfl (Does.callE rfl call22 rfl (core_Ready (b := kb) (s := s) hos.lt) .auto) ?_
        rintro _ _ ⟨u110, -, rfl, rfl⟩
        refine .dg rfl rfl rfl (Does.callE rfl call23 rfl (ref_Ints (A := seps [sl intE 1 u108 s.ready, sl intE 1 u110 s.ready]) (Rd.grp (Rd.sl .here)) (Rd.grp (Rd.sl (.there .here))) (ready_leB hos.lt)) .auto) ?_
        rintro _ _ ⟨⟨⟩, -, rfl, rfl⟩
        rw [decide_eq_true (rfl : s.ready = s.ready)]
        refine .p (.t rfl rfl) (.p (.a rfl) (.n (.t (.e (.ret1 rfl rfl fun w s => ⟨(), ?_, trivial, finE .auto s⟩)))))
        rfl

end Go.SLYtpcjdohmjmeehaaGreat
namespace Go.SLYtpcjdohmjmeehaaGreat
open Go Go.RowKit

theorem Y.valB {P : Program} {W : World} {N : Nat} {L : List (Nat × Option Value)} {H : List HProp} {T : TypeId} {op : Op} {m n : Bool} (h : Y P W N op T L H (.bool m)) (e : m = n) : Y P W N op T L H (.bool n) := e ▸ h
theorem lAct_tick {n : Int} {a : Acm} (h : a.kind = 3) : lAct n a = [⟨3, 0, 0, 0⟩] := if_pos h
theorem lAct_own {n : Int} {a : Acm} (h : ¬ a.kind = 3) (hs : a.space = n) : lAct n a = [{ a with space := 0 }] := by unfold lAct; rw [if_neg h, if_pos hs]
theorem lAct_oth {n : Int} {a : Acm} (h : ¬ a.kind = 3) (hs : ¬ a.space = n) : lAct n a = [] := by unfold lAct; rw [if_neg h, if_neg hs]
theorem lActs_at {acts : List Acm} {n : Int} {k : Nat} {a w : Acm} (h : acts[k]? = some a) (hw : lAct n a = [w]) : (lActs acts n)[(lActs (acts.take k) n).length]? = some w := by
  have e : lActs acts n = lActs (acts.take k) n ++ (w :: lActs (acts.drop (k + 1)) n) := by
    conv => lhs; rw [← List.take_append_drop k acts]
    unfold lActs
    rw [List.flatMap_append, drop_cons h, List.flatMap_cons, hw]; rfl
  rw [e, List.getElem?_append_right (Nat.le_refl _), Nat.sub_self]; rfl
theorem lActs_one {acts : List Acm} {n : Int} {k : Nat} {a w : Acm} (h : acts[k]? = some a) (hw : lAct n a = [w]) : (lActs (acts.take (k + 1)) n).length = (lActs (acts.take k) n).length + 1 := by rw [lActs_snoc h, hw, List.length_append]; rfl
theorem lActs_non {acts : List Acm} {n : Int} {k : Nat} {a : Acm} (h : acts[k]? = some a) (hw : lAct n a = []) : lActs (acts.take (k + 1)) n = lActs (acts.take k) n := by rw [lActs_snoc h, hw, List.append_nil]
theorem PrgRd.at {W : World} {H : List HProp} {A : HProp} {v : PrgV} (h : PrgRd W [A] v) (ha : At H A) : PrgRd W H v := ⟨h.fs.at ha, fun x hx => (h.ins x hx).at ha, h.sems.at ha, h.pipes.at ha⟩
theorem PrgRd.grp {W : World} {H : List HProp} {v : PrgV} (h : PrgRd W H v) : PrgRd W [seps H] v := ⟨Rd.grp h.fs, fun x hx => Rd.grp (h.ins x hx), Rd.grp h.sems, Rd.grp h.pipes⟩
theorem alone_none {ps : List Prg} {n : Int} (h : geti ps n = none) (acts : List Acm) : aloneE ps n = 1 ∧ aloneR ps n acts = [] := by unfold aloneE aloneR; rw [h]; exact ⟨rfl, rfl⟩
theorem alone_bad {ps : List Prg} {n : Int} {p : Prg} (h : geti ps n = some p) (hc : ¬ checkI p = 0) (acts : List Acm) : aloneE ps n = checkI p ∧ aloneR ps n acts = [] := by
  refine ⟨?_, ?_⟩
  · unfold aloneE; rw [h]
  · unfold aloneR; rw [h]; exact if_neg hc
theorem alone_yes {ps : List Prg} {n : Int} {p : Prg} (h : geti ps n = some p) (hc : checkI p = 0) (acts : List Acm) : aloneE ps n = 0 ∧ aloneR ps n acts = oRecs (oRun [Spc.new p] (lActs acts n)) 0 := by
  refine ⟨?_, ?_⟩
  · unfold aloneE; rw [h]; exact hc
  · unfold aloneR; rw [h]; exact if_pos hc
theorem alone_of {ps qs : List Prg} {n : Int} (h : geti ps n = geti qs n) (acts : List Acm) : aloneE ps n = aloneE qs n ∧ aloneR ps n acts = aloneR qs n acts := by unfold aloneE aloneR; rw [h]; exact ⟨rfl, rfl⟩
theorem onesErr_one (p : Prg) : onesErr [p] = checkI p := by
  rw [onesErr_ok (by simp)]
  by_cases h : checkI p = 0
  · rw [h]; unfold checkAll; rw [if_pos h]; rfl
  · unfold checkAll; rw [if_neg h]
theorem oRun_len {l : List Spc} : ∀ acts : List Acm, (oRun l acts).length = l.length
  | [] => rfl
  | a :: acts => (oRun_len (l := (oDo l a).2) acts).trans (oDo_len _ _)
theorem aloneR_len {ps : List Prg} (hw : ∀ p ∈ ps, ∀ f ∈ p.funcs, ∀ i ∈ f, W64 i.n) {n : Int} {acts : List Acm} (hl : acts.length ≤ 180) : (aloneR ps n acts).length ≤ 1000000000 := by
  unfold aloneR
  split
  · exact Nat.zero_le _
  · rename_i p e
    split
    · rename_i hc
      have ho : OneOk 1 [Spc.new p] := fun s hs => by
        rw [List.mem_singleton] at hs; subst hs
        exact Okr.new ⟨hc, hw p (List.mem_of_getElem? (geti_of e).2.2)⟩
      have hla := lActs_len acts n
      have := oRun_ok ho (lActs acts n) (lActs acts n).length (Nat.le_refl _) (by omega)
      rw [List.take_length] at this
      exact Nat.le_trans (this.recs (by omega) 0) (by decide)
    · exact Nat.zero_le _

/-! the laws' own fact -/
def L24 : List Acm := [⟨1, 1, 0, 3⟩, ⟨3, 5, 0, 0⟩, ⟨1, 0, 0, 0⟩]
def M24 : List Acm := [⟨1, 0, 0, 3⟩, ⟨3, 0, 0, 0⟩]
theorem l24 : lActs L24 1 = M24 := by decide +kernel
def K24 : List Acm := [⟨1, 1, 0, 0⟩]
def A24 (x y z w : Nat) : HProp := seps [A11 x y z, arr w 0 (rows actE K24)]
theorem pv24_rds {W : World} {x y z w : Nat} : Rd W [A24 x y z w] prgE 8 (sl3 z 2) [pv11 x y, pv11 x y] := Rd.grp (pv11_rds.at .here)
theorem pv24_rd {W : World} {x y z w : Nat} : ∀ p ∈ [pv11 x y, pv11 x y], PrgRd W [A24 x y z w] p := fun p hp => ((pv11_rd p hp).at .here).grp
theorem pv24_acts {W : World} {x y z w : Nat} : Rd W [A24 x y z w] actE 4 (sl3 w 1) K24 := Rd.grp (Rd.lit (.there .here) rfl (fun _ _ => rfl) rfl)
theorem e24 : aloneE [P11, P11] 1 = 0 := by decide +kernel
theorem r24 : aloneR [P11, P11] 1 K24 = R11 := by decide +kernel
end Go.SLYtpcjdohmjmeehaaGreat
namespace Go.SLYtpcjdohmjmeehaaGreat
open Go Go.RowKit Go.Proofs Go.Proofs.Tryz

theorem eqAct {a b : Acm} : EqV Tryz.prog 85 2 (.agg (actE a).toArray) (.agg (actE b).toArray) (decide (a = b)) := fun d w => by
  have hs : Tryz.prog.stoodInHeld 85 = false := by kernel_rfl
  have one : ∀ (r : Acm) (t : TypeId) (i : Nat) (v : Value), (∀ w, (isAgg t).run Tryz.prog w = .ok false w) → (actE r)[i]? = some v → Part Tryz.prog t (actE r).toArray i v := fun r t i v ha hv => Part.one ha (by rw [List.getElem?_toArray]; exact hv)
  refine (run_eq_struct2 underlying85 hs (d + 1) _ _ w).trans ?_
  show (Op.eqFields (d + 1) _ _ [_, _, _, _]).run Tryz.prog w = _
  have pa0 : Part Tryz.prog 3 (actE a).toArray 0 (.int .i64 a.kind) := one a _ 0 _ isAgg3 rfl
  have pb0 : Part Tryz.prog 3 (actE b).toArray 0 (.int .i64 b.kind) := one b _ 0 _ isAgg3 rfl
  refine Eq.trans (eqFields_cons (a := .int .i64 a.kind) (b := .int .i64 b.kind) (r := decide (a.kind = b.kind)) ?_ ?_ ?_ ?_) ?_
  · decide +kernel
  · exact pa0
  · exact pb0
  · exact (EqV.int underlying3 d w)
  by_cases h0 : a.kind = b.kind
  rotate_left
  · rw [decide_eq_false h0, decide_eq_false (fun e => h0 (by rw [e])), if_neg (by simp)]
  rw [decide_eq_true h0, if_pos rfl]
  have pa1 : Part Tryz.prog 3 (actE a).toArray 1 (.int .i64 a.space) := one a _ 1 _ isAgg3 rfl
  have pb1 : Part Tryz.prog 3 (actE b).toArray 1 (.int .i64 b.space) := one b _ 1 _ isAgg3 rfl
  refine Eq.trans (eqFields_cons (a := .int .i64 a.space) (b := .int .i64 b.space) (r := decide (a.space = b.space)) ?_ ?_ ?_ ?_) ?_
  · decide +kernel
  · exact pa1
  · exact pb1
  · exact (EqV.int underlying3 d w)
  by_cases h1 : a.space = b.space
  rotate_left
  · rw [decide_eq_false h1, decide_eq_false (fun e => h1 (by rw [e])), if_neg (by simp)]
  rw [decide_eq_true h1, if_pos rfl]
  have pa2 : Part Tryz.prog 3 (actE a).toArray 2 (.int .i64 a.thread) := one a _ 2 _ isAgg3 rfl
  have pb2 : Part Tryz.prog 3 (actE b).toArray 2 (.int .i64 b.thread) := one b _ 2 _ isAgg3 rfl
  refine Eq.trans (eqFields_cons (a := .int .i64 a.thread) (b := .int .i64 b.thread) (r := decide (a.thread = b.thread)) ?_ ?_ ?_ ?_) ?_
  · decide +kernel
  · exact pa2
  · exact pb2
  · exact (EqV.int underlying3 d w)
  by_cases h2 : a.thread = b.thread
  rotate_left
  · rw [decide_eq_false h2, decide_eq_false (fun e => h2 (by rw [e])), if_neg (by simp)]
  rw [decide_eq_true h2, if_pos rfl]
  have pa3 : Part Tryz.prog 3 (actE a).toArray 3 (.int .i64 a.choice) := one a _ 3 _ isAgg3 rfl
  have pb3 : Part Tryz.prog 3 (actE b).toArray 3 (.int .i64 b.choice) := one b _ 3 _ isAgg3 rfl
  refine Eq.trans (eqFields_cons (a := .int .i64 a.choice) (b := .int .i64 b.choice) (r := decide (a.choice = b.choice)) ?_ ?_ ?_ ?_) ?_
  · decide +kernel
  · exact pa3
  · exact pb3
  · exact (EqV.int underlying3 d w)
  by_cases h3 : a.choice = b.choice
  rotate_left
  · rw [decide_eq_false h3, decide_eq_false (fun e => h3 (by rw [e])), if_neg (by simp)]
  rw [decide_eq_true h3, if_pos rfl]
  have e : a = b := by
    obtain ⟨a1, a2, a3, a4⟩ := a
    obtain ⟨b1, b2, b3, b4⟩ := b
    simp only at h0 h1 h2 h3
    subst h0 h1 h2 h3
    rfl
  rw [decide_eq_true e]
  simp [Op.eqFields]

set_option maxRecDepth 20000 in
theorem lone_Acts {W : World} {A : HProp} {u : Value} {acts : List Acm} {n : Int} (ha : Rd W [A] actE 4 u acts) (hal : acts.length ≤ 1000000000) : Fn Tryz.prog W 42 [u, .int .i64 n] [A] Value (fun w => w) (fun _ => True) (fun w => [sl actE 4 w (lActs acts n), A]) := by
  refine Fn.intro (N := 34) func42 rfl ntmps42 rfl fun F => ?_
  haveI hRI : ∀ (H : List HProp) [HasH H A], ReadsC W H u actE 4 acts := fun H h => ⟨ha.at h.has⟩
  show GoC _ _ _ _ _ _ [A, F]
  refine .s (.r (.p (.a rfl) (.n (.t (.s (.r (.p (.a rfl) (.n (.t (.s (.s (.r (.p (.m rfl) (.p (.len rfl) (.p (.m rfl) (.n (.t (.b ?_))))))))))))))))))
  refine .loopK (X := Nat × Value) [5, 7, 10, 11, 12, 13, 14, 15, 16, 17, 18, 19, 20, 21, 22, 23, 24, 25, 26, 27, 28, 29, 30, 31, 32] (fun z => acts.length - z.1) (fun z => z.1 ≤ acts.length) (fun z => [(10, some (.int .i64 (z.1 : Int))), (5, some z.2)]) (fun z => [sl actE 4 z.2 (lActs (acts.take z.1) n), A, F]) (0, .slice none 0 0) ?_ ?_ ?_ ?_
  · exact Nat.zero_le _
  · exact ⟨rfl, rfl, trivial⟩
  · show ∀ w, Sat _ w _ → Sat _ w (seps [sl actE 4 (.slice none 0 0) ([] : List Acm), A, F])
    exact fun w s => Ent.kept .auto w s
  rintro ⟨k, vl⟩ hk
  simp only at hk
  refine .s (.r (.p (.lss rfl rfl) (.n (.t (.s (.condD rfl (fun h11 => ?_) (fun h11 => ?_)))))))
  · refine .v (.t (.s (.b (.s (.r ?_)))))
    obtain ⟨x, hx⟩ := at_some (show k < acts.length by omega)
    have hlk : (lActs (acts.take k) n).length ≤ k := Nat.le_trans (lActs_len _ _) (by rw [List.length_take]; omega)
    refine .p (.ix _ rfl rfl rfl (by first | omega | decide)) ?_
    refine .p (.la rfl (Cells.rd Rd.s hx)) ?_
    refine .does rfl (Does.alloc rfl zeroValue85 rfl) ?_
    rintro _ _ ⟨b7, rfl, rfl⟩
    refine .does rfl (Does.sta (vs := actE x) (by exact sizeOf85) rfl rfl rfl (by rfl)) ?_
    rintro _ _ ⟨rfl, rfl⟩
    refine .n (.t (.b (.s (.r (.p (.z rfl) (.p (.l rfl) (.p (.eql rfl rfl) (.p (.a rfl) (.n (.t (.condD rfl (fun h17 => ?_) (fun h17 => ?_))))))))))))
    · refine .r (.p (.m rfl) ?_)
      refine .p (.bld1 (fun v1 => [v1, (.int .i64 0), (.int .i64 0), (.int .i64 0)]) rfl (by kernel_rfl)) ?_
      refine .does rfl (Does.bsl 85 rfl rfl (by kernel_rfl)) ?_
      rintro _ _ ⟨b20, rfl, rfl⟩
      refine .does rfl (Does.app1 (enc := actE) (k := 4) (⟨3, 0, 0, 0⟩ : Acm) rfl underlying80 underlying80 typeInfo85 rfl rfl rfl (by decide) rfl rfl rfl .auto rfl .auto (by first | omega | (dsimp only; omega)) rfl) ?_
      rintro _ _ ⟨v21, rfl, rfl⟩
      refine .p (.a rfl) (.n (.b (.b (.t (.r ?_)))))
      refine .p (.inc rfl rfl (by omega)) ?_
      refine .p (.m rfl) (.n ?_)
      refine .againK (k + 1, v21) .auto rfl ?_ ?_ ?_ ?_
      · show acts.length - (k + 1) < acts.length - k; omega
      · show k + 1 ≤ _; omega
      · exact ⟨rfl, rfl, trivial⟩
      · show ∀ w, Sat _ w _ → Sat _ w (seps [sl actE 4 v21 (lActs (acts.take (k + 1)) n), A, F])
        rw [lActs_snoc hx, lAct_tick h17]
        exact fun w s => Ent.kept .auto w s
    · refine .s (.r (.p (.f rfl) (.p (.l rfl) (.p (.m rfl) (.p (.eql rfl rfl) (.p (.a rfl) (.n (.t (.condD rfl (fun h26 => ?_) (fun h26 => ?_))))))))))
      · refine .s (.r (.p (.f rfl) ?_))
        refine .does rfl (Does.st sizeOf3 rfl rfl rfl rfl) ?_
        rintro _ _ ⟨rfl, rfl⟩
        rw [show (actE x).set 1 (.int .i64 0) = actE { x with space := 0 } from rfl]
        refine .n (.t (.r (.p (.m rfl) (.p (.lA rfl) ?_))))
        refine .does rfl (Does.bsl 85 rfl rfl (by kernel_rfl)) ?_
        rintro _ _ ⟨b30, rfl, rfl⟩
        refine .does rfl (Does.app1 (enc := actE) (k := 4) ({ x with space := 0 } : Acm) rfl underlying80 underlying80 typeInfo85 rfl rfl rfl (by decide) rfl rfl rfl .auto rfl .auto (by first | omega | (dsimp only; omega)) rfl) ?_
        rintro _ _ ⟨v31, rfl, rfl⟩
        refine .p (.a rfl) (.n (.b (.b (.t (.r ?_)))))
        refine .p (.inc rfl rfl (by omega)) ?_
        refine .p (.m rfl) (.n ?_)
        refine .againK (k + 1, v31) .auto rfl ?_ ?_ ?_ ?_
        · show acts.length - (k + 1) < acts.length - k; omega
        · show k + 1 ≤ _; omega
        · exact ⟨rfl, rfl, trivial⟩
        · show ∀ w, Sat _ w _ → Sat _ w (seps [sl actE 4 v31 (lActs (acts.take (k + 1)) n), A, F])
          rw [lActs_snoc hx, lAct_own h17 h26]
          exact fun w s => Ent.kept .auto w s
      · refine .v (.b (.b (.t (.r ?_))))
        refine .p (.inc rfl rfl (by omega)) ?_
        refine .p (.m rfl) (.n ?_)
        refine .againK (k + 1, vl) .auto rfl ?_ ?_ ?_ ?_
        · show acts.length - (k + 1) < acts.length - k; omega
        · show k + 1 ≤ _; omega
        · exact ⟨rfl, rfl, trivial⟩
        · show ∀ w, Sat _ w _ → Sat _ w (seps [sl actE 4 vl (lActs (acts.take (k + 1)) n), A, F])
          rw [lActs_snoc hx, lAct_oth h17 h26, List.append_nil]
          exact fun w s => Ent.kept .auto w s
  · refine .x (.tx (.tx (.bh (.t (.s (.r (.p (.m rfl) (.p (.a rfl) (.n (.t (.e ?_)))))))))))
    obtain rfl : k = acts.length := by omega
    rw [List.take_length]
    refine .ret1 rfl rfl fun w s => ⟨vl, ?_, trivial, finE .auto s⟩
    rfl

set_option maxRecDepth 20000 in
theorem lone_Alone {W : World} {A : HProp} {v : Value} {ps : List PrgV} (hr : Rd W [A] prgE 8 v ps) (hp : ∀ p ∈ ps, PrgRd W [A] p) (hb : ps.length ≤ 1000000000 ∧ ∀ p ∈ ps, p.fs.length ≤ 1000000000 ∧ p.sems.length ≤ 1000000000 ∧ p.pipes.length ≤ 1000000000) (hw : ∀ p ∈ ps.map PrgV.p, ∀ f ∈ p.funcs, ∀ i ∈ f, W64 i.n) {u : Value} {acts : List Acm} {n : Int} (ha : Rd W [A] actE 4 u acts) (hal : acts.length ≤ 180) : Fn Tryz.prog W 44 [v, .int .i64 n, u] [A] Value (fun w => .tuple #[w, .int .i64 (aloneE (ps.map PrgV.p) n)]) (fun _ => True) (fun w => [sl recE 6 w (aloneR (ps.map PrgV.p) n acts), A]) := by
  refine Fn.intro (N := 46) func44 rfl ntmps44 rfl fun F => ?_
  haveI hRI : ∀ (H : List HProp) [HasH H A], ReadsC W H v prgE 8 ps := fun H h => ⟨hr.at h.has⟩
  show GoC _ _ _ _ _ _ [A, F]
  have hml : (ps.map PrgV.p).length = ps.length := List.length_map ..
  refine .s (.r (.p (.a rfl) (.p (.a rfl) (.n (.t (.s (.s (.r (.p (.m rfl) (.p (.lss rfl rfl) (.p (.m rfl) ?_)))))))))))
  apply GoL.segOD 5 19 14 [14, 15, 16, 17, 18, 19] rfl
  · intro h14
    refine .g (.m rfl) (.g (.m rfl) (.g (.len rfl) (.g (.geq rfl rfl) (.p (.u rfl rfl) (.n ?_)))))
    refine .seg .auto rfl (by first | exact fun _ h => h | exact Ent.kept .auto)
  · intro h14
    refine .u (.u (.u (.u (.p (.t rfl rfl) (.n ?_)))))
    refine .seg .auto rfl (by first | exact fun _ h => h | exact Ent.kept .auto)
  refine .n (.t (.cond rfl (fun h19 => ?_) (fun h19 => ?_)))
  · simp only [Bool.or_eq_true, decide_eq_true_eq] at h19
    have hgn : geti (ps.map PrgV.p) n = none := geti_none (by rw [hml]; omega)
    refine .s (.r (.p (.a rfl) (.p (.a rfl) (.n (.t (.e (.tr ?_)))))))
    rw [(alone_none hgn acts).1, (alone_none hgn acts).2]
    refine .ret2 rfl rfl rfl fun w s => ⟨(.slice none 0 0), ?_, trivial, finE .auto s⟩
    rfl
  · simp only [Bool.or_eq_false_iff, decide_eq_false_iff_not] at h19
    refine .v (.t (.s (.r (.p (.m rfl) (.p (.m rfl) (.p (.m rfl) ?_))))))
    refine .p (.add rfl rfl (by omega)) ?_
    obtain ⟨i, rfl⟩ : ∃ i : Nat, n = (i : Int) := ⟨n.toNat, by omega⟩
    obtain ⟨p0, hpi⟩ := at_some (show i < ps.length by omega)
    have hpm := List.mem_of_getElem? hpi
    have hgi : geti (ps.map PrgV.p) (i : Int) = some p0.p := by rw [geti_nat, List.getElem?_map, hpi]; rfl
    have hcut : (ps.take (i + 1)).drop i = [p0] := by
      rw [take_snoc hpi, List.drop_append_of_le_length (by rw [List.length_take]; omega), List.drop_of_length_le (by rw [List.length_take]; omega)]; rfl
    have hrc : Rd W [A] prgE 8 (cut 8 i (i + 1) v) [p0] := hcut ▸ hr.cut (Nat.le_succ i) (by omega)
    have hw1 : ∀ p ∈ [p0].map PrgV.p, ∀ f ∈ p.funcs, ∀ i ∈ f, W64 i.n := fun p hp => hw p (by
      rw [show [p0].map PrgV.p = [p0.p] from rfl, List.mem_singleton] at hp; subst hp; exact List.mem_map.2 ⟨p0, hpm, rfl⟩)
    refine .p (.sliceLH i (i + 1) underlying79 sizeOf25 rfl rfl rfl Rd.s rfl (by omega) (by omega) (by omega)) ?_
    refine .does rfl (Does.callE rfl call36 rfl (one_New (ps := [p0]) hrc (fun p hq => by rw [List.mem_singleton] at hq; subst hq; exact hp p hpm) ⟨by show 1 ≤ _; decide, fun p hq => by rw [List.mem_singleton] at hq; subst hq; exact hb.2 p hpm⟩) .auto) ?_
    rintro _ _ ⟨o, ho, rfl, rfl⟩
    rw [show [p0].map PrgV.p = [p0.p] from rfl, onesErr_one] at ho ⊢
    refine .p (.m rfl) (.p (.extract rfl rfl) (.p (.extract rfl rfl) (.p (.a rfl) (.p (.a rfl) (.n (.t (.s (.s (.r (.p (.m rfl) (.p (.neq rfl rfl) (.n (.t (.condD rfl (fun h30 => ?_) (fun h30 => ?_)))))))))))))))
    · refine .s (.r (.p (.m rfl) (.p (.a rfl) (.p (.a rfl) (.n (.t (.e (.tr ?_))))))))
      rw [(alone_bad hgi h30 acts).1, (alone_bad hgi h30 acts).2]
      refine .ret2 rfl rfl rfl fun w s => ⟨(.slice none 0 0), ?_, trivial, finE .auto s⟩
      rfl
    · have hc : checkI p0.p = 0 := Decidable.not_not.mp h30
      obtain ⟨ka, rfl⟩ := Option.isSome_iff_exists.1 (ho.trans (decide_eq_true hc))
      refine .fr (A := optH (fun b => oneH b ([p0.p].map Spc.new)) (some ka)) (Bs := [oneH ka [Spc.new p0.p]]) .auto opt_some ?_
      have hk1 : OneOk 1 [Spc.new p0.p] := OneOk.new (ps := [p0.p]) (by rw [onesErr_one]; exact hc) hw1
      refine .v (.t (.s (.s (.r (.p (.m rfl) (.p (.m rfl) ?_))))))
      refine .does rfl (Does.callE rfl call42 rfl (lone_Acts (n := (i : Int)) ha (by omega)) .auto) ?_
      rintro _ _ ⟨u34, -, rfl, rfl⟩
      refine .p (.len rfl) (.p (.m rfl) (.n (.t (.b ?_))))
      refine .loopK (X := Nat) [11, 36, 37, 38, 39, 40, 41, 42, 43] (fun k => (lActs acts (i : Int)).length - k) (fun k => k ≤ (lActs acts (i : Int)).length) (fun k => [(36, some (.int .i64 (k : Int)))]) (fun k => [oneH ka (oRun [Spc.new p0.p] ((lActs acts (i : Int)).take k)), sl actE 4 u34 (lActs acts (i : Int)), A, F]) 0 ?_ ?_ ?_ ?_
      · exact Nat.zero_le _
      · exact ⟨rfl, trivial⟩
      · exact fun w s => Ent.kept .auto w s
      rintro k hk
      refine .s (.r (.p (.lss rfl rfl) (.n (.t (.s (.condD rfl (fun h37 => ?_) (fun h37 => ?_)))))))
      · refine .v (.t (.s (.b (.s (.r ?_)))))
        obtain ⟨x, hx⟩ := at_some (show k < (lActs acts (i : Int)).length by omega)
        have hlb := lActs_len acts (i : Int)
        have hok := oRun_ok hk1 (lActs acts (i : Int)) k hk (by omega)
        refine .p (.ix k rfl rfl rfl (by omega)) ?_
        refine .p (.la rfl (Cells.rd Rd.s hx)) ?_
        refine .does rfl (Does.alloc rfl zeroValue85 rfl) ?_
        rintro _ _ ⟨b11, rfl, rfl⟩
        refine .does rfl (Does.sta (vs := actE x) (by exact sizeOf85) rfl rfl rfl (by rfl)) ?_
        rintro _ _ ⟨rfl, rfl⟩
        refine .n (.t (.r (.p (.m rfl) (.p (.lA rfl) ?_))))
        refine .does rfl (Does.callE rfl call40 rfl (one_Do (l := oRun [Spc.new p0.p] ((lActs acts (i : Int)).take k)) (a := x) (by rw [oRun_len]; exact (by decide : 1 ≤ 1000000000)) (hok.spc (by have := lActs_len acts (i : Int); omega))) .auto) ?_
        rintro _ _ ⟨⟨⟩, -, rfl, rfl⟩
        rw [← oRun_snoc hx]
        refine .n (.b (.t (.r ?_)))
        refine .p (.inc rfl rfl (by omega)) ?_
        refine .p (.m rfl) (.n ?_)
        refine .againK (k + 1) .auto rfl ?_ ?_ ?_ ?_
        · omega
        · show k + 1 ≤ _; omega
        · exact ⟨rfl, trivial⟩
        · exact fun w s => Ent.kept .auto w s
      · refine .x (.tx (.tx (.bh (.t (.s (.r (.p (.m rfl) ?_)))))))
        obtain rfl : k = (lActs acts (i : Int)).length := by omega
        have hok := oRun_ok hk1 (lActs acts (i : Int)) _ (Nat.le_refl _) (by have := lActs_len acts (i : Int); omega)
        rw [List.take_length] at hok ⊢
        refine .does rfl (Does.callE rfl call39 rfl (one_Records (l := oRun [Spc.new p0.p] (lActs acts (i : Int))) (n := 0) (by rw [oRun_len]; exact (by decide : 1 ≤ 1000000000)) (hok.spc (by have := lActs_len acts (i : Int); omega))) .auto) ?_
        rintro _ _ ⟨u45, -, rfl, rfl⟩
        refine .p (.a rfl) (.p (.a rfl) (.n (.t (.e ?_))))
        rw [(alone_yes hgi hc acts).1, (alone_yes hgi hc acts).2]
        refine .ret2 rfl rfl rfl fun w s => ⟨u45, ?_, trivial, finE .auto s⟩
        rfl

set_option maxRecDepth 20000 in
theorem law24_awake {W : World}  : Fn Tryz.prog W 43 [] [] Unit (fun _ => .bool true) (fun _ => True) (fun _ => []) := by
  refine Fn.intro (N := 49) func43 rfl ntmps43 rfl fun F => ?_
  show GoC _ _ _ _ _ _ [F]
  refine .s (.r (.p (.a rfl) (.n (.t (.s (.r ?_))))))
  refine .p (.bld2 (fun v1 v2 => [v1, v2, (.int .i64 0), (.int .i64 0), (.int .u64 0)]) rfl rfl (by kernel_rfl)) ?_
  refine .does rfl (Does.bsl 123 rfl rfl (by kernel_rfl)) ?_
  rintro _ _ ⟨b6, rfl, rfl⟩
  refine .does rfl (Does.bsl 120 rfl rfl (by kernel_rfl)) ?_
  rintro _ _ ⟨b7, rfl, rfl⟩
  refine .p (.bld1 (fun _ => prgE (pv11 b6 b7)) rfl (by kernel_rfl)) ?_
  refine .does rfl (Does.alloc rfl zeroValue25 rfl) ?_
  rintro _ _ ⟨b1, rfl, rfl⟩
  refine .does rfl (Does.sta (by exact sizeOf25) rfl rfl rfl (by rfl)) ?_
  rintro _ _ ⟨rfl, rfl⟩
  refine .n (.t (.s (.r ?_)))
  refine .p (.bld3 (fun v1 v2 v3 => [v1, v2, (.int .i64 0), v3]) rfl rfl rfl (by kernel_rfl)) ?_
  refine .p (.bld2 (fun v1 v2 => [v1, v2, (.int .i64 0), (.int .i64 0)]) rfl rfl (by kernel_rfl)) ?_
  refine .p (.bld1 (fun v1 => [v1, (.int .i64 0), (.int .i64 0), (.int .i64 0)]) rfl (by kernel_rfl)) ?_
  refine .does rfl (Does.bsl 85 rfl rfl (by kernel_rfl)) ?_
  rintro _ _ ⟨b12, rfl, rfl⟩
  refine .does rfl (Does.callE rfl call42 rfl (lone_Acts (A := arr b12 0 (rows actE L24)) (acts := L24) (n := 1) (Rd.lit .here rfl (fun _ _ => rfl) rfl) (by decide)) .auto) ?_
  rintro _ _ ⟨u13, -, rfl, rfl⟩
  rw [l24]
  refine .p (.a rfl) (.n (.t (.s (.r (.p (.lA rfl) (.p (.lA rfl) ?_))))))
  refine .does rfl (Does.bsl 25 rfl rfl (by kernel_rfl)) ?_
  rintro _ _ ⟨b17, rfl, rfl⟩
  refine .p (.bld2 (fun v1 v2 => [v1, v2, (.int .i64 0), (.int .i64 0)]) rfl rfl (by kernel_rfl)) ?_
  refine .does rfl (Does.bsl 85 rfl rfl (by kernel_rfl)) ?_
  rintro _ _ ⟨b19, rfl, rfl⟩
  refine .does rfl (Does.callE rfl call44 rfl (lone_Alone (A := A24 b6 b7 b17 b19) (v := sl3 b17 2) (u := sl3 b19 1) (ps := [pv11 b6 b7, pv11 b6 b7]) (acts := K24) (n := 1) pv24_rds pv24_rd pv11_b w11 pv24_acts (by decide)) .auto) ?_
  rintro _ _ ⟨u20, -, rfl, rfl⟩
  rw [show [pv11 b6 b7, pv11 b6 b7].map PrgV.p = [P11, P11] from rfl, e24, r24]
  refine .p (.m rfl) ?_
  refine .p (.extract (v := u20) rfl rfl) ?_
  refine .p (.extract (v := .int .i64 0) rfl rfl) ?_
  refine .p (.a rfl) (.p (.a rfl) (.n (.t (.s (.r (.p (.m rfl) (.p (.len rfl) (.p (.eql rfl rfl) (.p (.m rfl) (.g (.m rfl) ?_))))))))))
  refine .g (.ix 0 rfl rfl rfl (by decide)) ?_
  refine .g (.la rfl (Cells.rd Rd.s (show M24[0]? = some ⟨1, 0, 0, 3⟩ from rfl))) ?_
  refine .g (.bld2 (fun v1 v2 => [v1, (.int .i64 0), (.int .i64 0), v2]) rfl rfl (by kernel_rfl)) ?_
  refine .g (.valB (Y.eqAgg (by kernel_rfl) (eqAct (a := ⟨1, 0, 0, 3⟩) (b := ⟨1, 0, 0, 3⟩)) rfl rfl rfl) (decide_eq_true rfl)) ?_
  refine .p (.t rfl rfl) (.p (.m rfl) (.g (.m rfl) ?_))
  refine .g (.ix 1 rfl rfl rfl (by decide)) ?_
  refine .g (.la rfl (Cells.rd Rd.s (show M24[1]? = some ⟨3, 0, 0, 0⟩ from rfl))) ?_
  refine .g (.bld1 (fun v1 => [v1, (.int .i64 0), (.int .i64 0), (.int .i64 0)]) rfl (by kernel_rfl)) ?_
  refine .g (.valB (Y.eqAgg (by kernel_rfl) (eqAct (a := ⟨3, 0, 0, 0⟩) (b := ⟨3, 0, 0, 0⟩)) rfl rfl rfl) (decide_eq_true rfl)) ?_
  refine .p (.t rfl rfl) (.p (.m rfl) (.g (.m rfl) (.g (.eql rfl rfl) (.p (.t rfl rfl) (.p (.m rfl) (.g (.m rfl) (.g (.len rfl) (.g (.eql rfl rfl) (.p (.t rfl rfl) (.p (.a rfl) (.n (.t (.e (.ret1 rfl rfl fun w s => ⟨(), ?_, trivial, finE .auto s⟩))))))))))))))
  rfl

set_option maxRecDepth 20000 in
theorem law24_Acts {W : World} {A : HProp} {u : Value} {acts : List Acm} {n : Int} (ha : Rd W [A] actE 4 u acts) (hal : acts.length ≤ 1000000000) : Fn Tryz.prog W 10 [u, .int .i64 n] [A] Unit (fun _ => .bool true) (fun _ => True) (fun _ => [A]) := by
  refine Fn.intro (N := 58) func10 rfl ntmps10 rfl fun F => ?_
  haveI hRI : ∀ (H : List HProp) [HasH H A], ReadsC W H u actE 4 acts := fun H h => ⟨ha.at h.has⟩
  show GoC _ _ _ _ _ _ [A, F]
  refine .s (.r (.p (.a rfl) (.n (.t (.s (.r (.p (.m rfl) (.p (.m rfl) ?_))))))))
  refine .does rfl (Does.callE rfl call42 rfl (lone_Acts (n := n) ha hal) .auto) ?_
  rintro _ _ ⟨u11, -, rfl, rfl⟩
  refine .p (.a rfl) (.n (.t (.s (.r (.p (.a rfl) (.n (.t (.s (.s (.r (.p (.a rfl) (.n (.t (.b ?_))))))))))))))
  refine .loopK (X := Nat × Nat) [4, 6, 7, 8, 12, 13, 14, 15, 16, 17, 18, 19, 20, 21, 22, 23, 24, 25, 26, 27, 28, 29, 30, 31, 32, 33, 34, 35, 36, 37, 38, 39, 40, 41, 42, 43, 44, 45, 46, 47, 48, 49, 50] (fun z => acts.length - z.1) (fun z => z.1 ≤ acts.length ∧ z.2 = (lActs (acts.take z.1) n).length) (fun z => [(7, some (.int .i64 (z.1 : Int))), (6, some (.int .i64 (z.2 : Int)))]) (fun z => [sl actE 4 u11 (lActs acts n), A, F]) (0, 0) ?_ ?_ ?_ ?_
  · exact ⟨Nat.zero_le _, rfl⟩
  · exact ⟨rfl, rfl, trivial⟩
  · exact fun w s => Ent.kept .auto w s
  rintro ⟨k, m⟩ ⟨hk, hm⟩
  simp only at hk hm
  refine .s (.s (.r (.p (.m rfl) (.p (.m rfl) (.p (.len rfl) (.p (.lss rfl rfl) (.n (.t (.condD rfl (fun h15 => ?_) (fun h15 => ?_))))))))))
  · refine .v (.t (.s (.b (.s (.r (.p (.m rfl) (.p (.m rfl) ?_)))))))
    obtain ⟨x, hx⟩ := at_some (show k < acts.length by omega)
    have hlb := lActs_len acts n
    refine .p (.ix k rfl rfl rfl (by omega)) ?_
    refine .p (.la rfl (Cells.rd Rd.s hx)) ?_
    refine .does rfl (Does.alloc rfl zeroValue85 rfl) ?_
    rintro _ _ ⟨b8, rfl, rfl⟩
    refine .does rfl (Does.sta (vs := actE x) (by exact sizeOf85) rfl rfl rfl (by rfl)) ?_
    rintro _ _ ⟨rfl, rfl⟩
    refine .n (.t (.s (.r (.p (.f rfl) ?_))))
    refine .does rfl (Does.st sizeOf3 rfl rfl rfl rfl) ?_
    rintro _ _ ⟨rfl, rfl⟩
    rw [show (actE x).set 1 (.int .i64 0) = actE { x with space := 0 } from rfl]
    refine .n (.t (.s (.s (.r (.p (.m rfl) (.p (.m rfl) ?_))))))
    refine .p (.ix k rfl rfl rfl (by omega)) ?_
    refine .p (.z rfl) ?_
    refine .p (.lr rfl hx) ?_
    refine .p (.eql rfl rfl) (.n (.t (.condD rfl (fun h28 => ?_) (fun h28 => ?_))))
    · have hw : (lActs acts n)[m]? = some ⟨3, 0, 0, 0⟩ := hm ▸ lActs_at hx (lAct_tick h28)
      have hml := (List.getElem?_eq_some_iff.1 hw).1
      have hm1 := lActs_one hx (lAct_tick (n := n) h28)
      refine .r ?_
      refine .p (.bld1 (fun v1 => [v1, (.int .i64 0), (.int .i64 0), (.int .i64 0)]) rfl (by kernel_rfl)) ?_
      refine .does rfl (Does.sta (vs := actE ⟨3, 0, 0, 0⟩) (by exact sizeOf85) rfl rfl rfl (by rfl)) ?_
      rintro _ _ ⟨rfl, rfl⟩
      refine .n (.t (.s (.s ?_)))
      refine .draw [] [1, 1, 1, 1, 1, 1, 1, 1, 1, 1, 1, 1] rfl (by kernel_rfl) ?_
      refine .p (.m rfl) (.p (.m rfl) (.p (.len rfl) ?_))
      refine .p (.valB (Y.geq rfl rfl) (decide_eq_false (by omega))) ?_
      refine .p (.m rfl) (.g (.m rfl) (.g (.m rfl) ?_))
      refine .g (.ix m rfl rfl rfl (by omega)) ?_
      refine .g (.la rfl (Cells.rd Rd.s hw)) ?_
      refine .g (.lA rfl) ?_
      refine .g (.neqAgg (by kernel_rfl) eqAct rfl rfl rfl) ?_
      refine .p (.u rfl rfl) (.n (.t (.cond rfl (fun h48 => ?_) (fun h48 => ?_))))
      · rw [decide_eq_true rfl] at h48; cases h48
      · refine .v (.t (.r (.p (.m rfl) ?_)))
        refine .p (.inc rfl rfl (by omega)) ?_
        refine .p (.a rfl) (.n (.b (.t (.r (.p (.m rfl) ?_)))))
        refine .p (.inc rfl rfl (by omega)) ?_
        refine .p (.a rfl) (.n ?_)
        refine .againK (k + 1, m + 1) .auto rfl ?_ ?_ ?_ ?_
        · show acts.length - (k + 1) < acts.length - k; omega
        · exact ⟨by show k + 1 ≤ _; omega, by show m + 1 = _; rw [hm1, hm]⟩
        · exact ⟨rfl, rfl, trivial⟩
        · exact fun w s => Ent.kept .auto w s
    · refine .s (.r (.p (.m rfl) (.p (.m rfl) ?_)))
      refine .p (.ix k rfl rfl rfl (by omega)) ?_
      refine .p (.o rfl) ?_
      refine .p (.ld rfl (Cell.rd (c := 1) Rd.s hx rfl)) ?_
      refine .p (.m rfl) (.p (.neq rfl rfl) (.n (.t (.condD rfl (fun h36 => ?_) (fun h36 => ?_)))))
      · refine .x (.tx (.bh (.t (.r (.p (.m rfl) ?_)))))
        refine .p (.inc rfl rfl (by omega)) ?_
        refine .p (.a rfl) (.n ?_)
        refine .againK (k + 1, m) .auto rfl ?_ ?_ ?_ ?_
        · show acts.length - (k + 1) < acts.length - k; omega
        · exact ⟨by show k + 1 ≤ _; omega, by show m = _; rw [lActs_non hx (lAct_oth h28 h36)]; exact hm⟩
        · exact ⟨rfl, rfl, trivial⟩
        · exact fun w s => Ent.kept .auto w s
      · have h36 := Decidable.of_not_not h36
        have hw : (lActs acts n)[m]? = some { x with space := 0 } := hm ▸ lActs_at hx (lAct_own h28 h36)
        have hml := (List.getElem?_eq_some_iff.1 hw).1
        have hm1 := lActs_one hx (lAct_own (n := n) h28 h36)
        refine .v (.t (.s (.s ?_)))
        refine .draw [] [1, 1, 1, 1, 1, 1, 1, 1, 1, 1, 1, 1] rfl (by kernel_rfl) ?_
        refine .p (.m rfl) (.p (.m rfl) (.p (.len rfl) ?_))
        refine .p (.valB (Y.geq rfl rfl) (decide_eq_false (by omega))) ?_
        refine .p (.m rfl) (.g (.m rfl) (.g (.m rfl) ?_))
        refine .g (.ix m rfl rfl rfl (by omega)) ?_
        refine .g (.la rfl (Cells.rd Rd.s hw)) ?_
        refine .g (.lA rfl) ?_
        refine .g (.neqAgg (by kernel_rfl) eqAct rfl rfl rfl) ?_
        refine .p (.u rfl rfl) (.n (.t (.cond rfl (fun h48 => ?_) (fun h48 => ?_))))
        · rw [decide_eq_true rfl] at h48; cases h48
        · refine .v (.t (.r (.p (.m rfl) ?_)))
          refine .p (.inc rfl rfl (by omega)) ?_
          refine .p (.a rfl) (.n (.b (.t (.r (.p (.m rfl) ?_)))))
          refine .p (.inc rfl rfl (by omega)) ?_
          refine .p (.a rfl) (.n ?_)
          refine .againK (k + 1, m + 1) .auto rfl ?_ ?_ ?_ ?_
          · show acts.length - (k + 1) < acts.length - k; omega
          · exact ⟨by show k + 1 ≤ _; omega, by show m + 1 = _; rw [hm1, hm]⟩
          · exact ⟨rfl, rfl, trivial⟩
          · exact fun w s => Ent.kept .auto w s
  · obtain rfl : k = acts.length := by omega
    rw [List.take_length] at hm
    refine .x (.tx (.tx (.bh (.t (.s (.r ?_))))))
    refine .does rfl (Does.callE rfl call43 rfl law24_awake .auto) ?_
    rintro _ _ ⟨⟨⟩, -, rfl, rfl⟩
    refine .p (.m rfl) (.g (.m rfl) (.g (.m rfl) (.g (.len rfl) (.g (.eql rfl rfl) (.p (.t rfl rfl) (.p (.a rfl) (.n (.t (.e (.ret1 rfl rfl fun w s => ⟨(), ?_, trivial, finE .auto s⟩))))))))))
    rw [decide_eq_true (by rw [hm])]

end Go.SLYtpcjdohmjmeehaaGreat
namespace Go.SLYtpcjdohmjmeehaaGreat
open Go Go.RowKit Go.Proofs Go.Proofs.Tryz

set_option maxRecDepth 20000 in
theorem law24_Other {W : World} {A : HProp} {v : Value} {ps : List PrgV} (hr : Rd W [A] prgE 8 v ps) (hp : ∀ p ∈ ps, PrgRd W [A] p) (hb : ps.length ≤ 1000000000 ∧ ∀ p ∈ ps, p.fs.length ≤ 1000000000 ∧ p.sems.length ≤ 1000000000 ∧ p.pipes.length ≤ 1000000000) (hw : ∀ p ∈ ps.map PrgV.p, ∀ f ∈ p.funcs, ∀ i ∈ f, W64 i.n) {q : PrgV} (ho : PrgRd W [A] q) (hob : q.fs.length ≤ 1000000000 ∧ q.sems.length ≤ 1000000000 ∧ q.pipes.length ≤ 1000000000) (how : ∀ f ∈ q.p.funcs, ∀ i ∈ f, W64 i.n) {u : Value} {acts : List Acm} {a b : Int} (hac : Rd W [A] actE 4 u acts) (hal : acts.length ≤ 1000000000) (ha : 0 ≤ a ∧ a ≤ 255) (hbb : 0 ≤ b ∧ b ≤ 255) : Fn Tryz.prog W 12 [v, .agg (prgE q).toArray, u, .int .u8 a, .int .u8 b] [A] Unit (fun _ => .bool true) (fun _ => True) (fun _ => [A]) := by
  refine Fn.intro (N := 73) func12 rfl ntmps12 rfl fun F => ?_
  haveI hRI : ∀ (H : List HProp) [HasH H A], ReadsC W H v prgE 8 ps := fun H h => ⟨hr.at h.has⟩
  haveI hRJ : ∀ (H : List HProp) [HasH H A], ReadsC W H u actE 4 acts := fun H h => ⟨hac.at h.has⟩
  show GoC _ _ _ _ _ _ [A, F]
  refine .s (.r ?_)
  refine .does rfl (Does.box rfl rfl rfl) ?_
  rintro _ _ ⟨b6, rfl, rfl⟩
  refine .mem (H' := [arr b6 0 (prgE q), A, F]) (fun w s => s) ?_
  refine .p (.a rfl) (.n (.t (.s (.s (.r (.p (.m rfl) (.p (.len rfl) (.p (.lss rfl rfl) (.p (.m rfl) ?_)))))))))
  apply GoL.segOD 4 25 21 [21, 22, 23, 24, 25] rfl
  · intro h21
    refine .g (.m rfl) (.g (.len rfl) (.g (.gtr rfl rfl) (.p (.u rfl rfl) (.n ?_))))
    refine .seg .auto rfl (by first | exact fun _ h => h | exact Ent.kept .auto)
  · intro h21
    refine .u (.u (.u (.p (.t rfl rfl) (.n ?_))))
    refine .seg .auto rfl (by first | exact fun _ h => h | exact Ent.kept .auto)
  refine .n (.t (.cond rfl (fun h25 => ?_) (fun h25 => ?_)))
  · simp only [Bool.or_eq_true, decide_eq_true_eq] at h25
    refine .s (.r ?_)
    refine .does rfl (Does.callE rfl call43 rfl law24_awake .auto) ?_
    rintro _ _ ⟨⟨⟩, -, rfl, rfl⟩
    refine .p (.a rfl) (.n (.t (.e (.tr (.ret1 rfl rfl fun w s => ⟨(), ?_, trivial, finE .auto s⟩)))))
    rfl
  · simp only [Bool.or_eq_false_iff, decide_eq_false_iff_not] at h25
    obtain ⟨ii, hid⟩ : ∃ ii, ii = a.toNat % ps.length := ⟨_, rfl⟩
    have hil : ii < ps.length := by rw [hid]; exact Nat.mod_lt _ (by omega)
    have hik : a.tmod (ps.length : Int) = (ii : Int) := by
      obtain ⟨m, rfl⟩ : ∃ m : Nat, a = (m : Int) := ⟨a.toNat, by omega⟩
      rw [hid, Int.toNat_natCast, ← Int.ofNat_tmod]
    obtain ⟨kk, hkd⟩ : ∃ kk, kk = b.toNat % ps.length := ⟨_, rfl⟩
    have hkl : kk < ps.length := by rw [hkd]; exact Nat.mod_lt _ (by omega)
    have hkk : b.tmod (ps.length : Int) = (kk : Int) := by
      obtain ⟨m, rfl⟩ : ∃ m : Nat, b = (m : Int) := ⟨b.toNat, by omega⟩
      rw [hkd, Int.toNat_natCast, ← Int.ofNat_tmod]
    refine .v (.t (.s ?_))
    refine .draw [] [1, 1, 1, 1, 1, 1, 1, 1, 1, 1, 1, 1] rfl (by kernel_rfl) ?_
    refine .p (.m rfl) ?_
    refine .p (.convI underlying5 underlying3 rfl (by omega)) ?_
    refine .p (.m rfl) (.p (.len rfl) ?_)
    refine .p (.valW (Y.rem rfl rfl (by omega)) hik) ?_
    refine .p (.m rfl) ?_
    refine .p (.convI underlying5 underlying3 rfl (by omega)) ?_
    refine .p (.m rfl) (.p (.len rfl) ?_)
    refine .p (.valW (Y.rem rfl rfl (by omega)) hkk) ?_
    refine .p (.a rfl) (.p (.a rfl) (.n (.t (.s (.s (.r (.p (.m rfl) (.p (.m rfl) (.p (.eql rfl rfl) (.n (.t (.condD rfl (fun h39 => ?_) (fun h39 => ?_)))))))))))))
    · refine .s (.r ?_)
      refine .does rfl (Does.callE rfl call43 rfl law24_awake .auto) ?_
      rintro _ _ ⟨⟨⟩, -, rfl, rfl⟩
      refine .p (.a rfl) (.n (.t (.e (.tr (.ret1 rfl rfl fun w s => ⟨(), ?_, trivial, finE .auto s⟩)))))
      rfl
    · refine .v (.t (.s (.r ?_)))
      refine .does rfl (Does.bsl 25 rfl rfl (by kernel_rfl)) ?_
      rintro _ _ ⟨b41, rfl, rfl⟩
      refine .to (A := sl prgE 8 (.slice (some ⟨b41, 0, none⟩) 0 0) ([] : List PrgV)) (Bs := []) .nil (fun h e => .inl ⟨⟨_, rfl⟩, rfl, e⟩) ?_
      refine .p (.m rfl) ?_
      refine .know (fun w s p hpm => prg_all (hp p hpm) .auto w s) fun hall => ?_
      refine .does rfl (Does.append rfl underlying79 underlying79 typeInfo25 rfl rfl rfl (by decide) rfl rfl .auto Rd.s (by show 0 + ps.length ≤ _; omega) (fun y hy => List.all_eq_true.1 (hall y hy))) ?_
      rintro _ _ ⟨v43, rfl, rfl⟩
      refine .p (.a rfl) (.n (.t (.s (.r ?_))))
      rw [List.nil_append]
      refine .p (.m rfl) (.p (.m rfl) ?_)
      refine .know (fun w s => prg_all ho .auto w s) fun hone => ?_
      obtain ⟨pk, hpk⟩ := at_some hkl
      refine .p (.lA rfl) ?_
      refine .p (.ix kk rfl rfl rfl hkl) ?_
      refine .does rfl (Does.storeSlA rfl rfl sizeOf25 hone hpk rfl rfl .auto) ?_
      rintro _ _ ⟨rfl, rfl⟩
      refine .n (.t (.s (.r (.p (.m rfl) (.p (.m rfl) (.p (.m rfl) ?_))))))
      refine .does rfl (Does.callE rfl call44 rfl (lone_Alone (n := (ii : Int)) hr hp hb hw hac (by omega)) .auto) ?_
      rintro _ _ ⟨u52, -, rfl, rfl⟩
      refine .p (.m rfl) ?_
      refine .p (.extract (v := u52) rfl rfl) ?_
      refine .p (.extract (v := .int .i64 (aloneE (ps.map PrgV.p) (ii : Int))) rfl rfl) ?_
      refine .p (.a rfl) (.p (.a rfl) (.n (.t (.s (.r ?_)))))
      have hr2 : Rd W [seps [sl prgE 8 v43 (ps.set kk q), A]] prgE 8 v43 (ps.set kk q) := Rd.grp (Rd.sl .here)
      have hm2 : ∀ p ∈ (ps.set kk q), p ∈ ps ∨ p = q := fun p hm => List.mem_or_eq_of_mem_set hm
      have hp2 : ∀ p ∈ (ps.set kk q), PrgRd W [seps [sl prgE 8 v43 (ps.set kk q), A]] p := fun p hm => PrgRd.grp (by
        rcases hm2 p hm with h | h
        · exact (hp p h).at (.there .here)
        · subst h; exact ho.at (.there .here))
      have hb2 : (ps.set kk q).length ≤ 1000000000 ∧ ∀ p ∈ (ps.set kk q), p.fs.length ≤ 1000000000 ∧ p.sems.length ≤ 1000000000 ∧ p.pipes.length ≤ 1000000000 := ⟨by rw [List.length_set]; exact hb.1, fun p hm => by
        rcases hm2 p hm with h | h
        · exact hb.2 p h
        · subst h; exact hob⟩
      have hw2 : ∀ p ∈ (ps.set kk q).map PrgV.p, ∀ f ∈ p.funcs, ∀ i ∈ f, W64 i.n := fun p hm => by
        obtain ⟨z, hz, rfl⟩ := List.mem_map.1 hm
        rcases hm2 z hz with h | h
        · exact hw _ (List.mem_map.2 ⟨z, h, rfl⟩)
        · subst h; exact how
      have ha2 : Rd W [seps [sl prgE 8 v43 (ps.set kk q), A]] actE 4 u acts := Rd.grp (hac.at (.there .here))
      have hgg : geti ((ps.set kk q).map PrgV.p) (ii : Int) = geti (ps.map PrgV.p) (ii : Int) := by
        rw [geti_nat, geti_nat, List.getElem?_map, List.getElem?_map, List.getElem?_set_ne (fun e => h39 (by omega))]
      refine .p (.m rfl) (.p (.m rfl) (.p (.m rfl) ?_))
      refine .does rfl (Does.callE rfl call44 rfl (lone_Alone (A := seps [sl prgE 8 v43 (ps.set kk q), A]) (v := v43) (ps := (ps.set kk q)) (n := (ii : Int)) hr2 hp2 hb2 hw2 ha2 (by omega)) .auto) ?_
      rintro _ _ ⟨u59, -, rfl, rfl⟩
      refine .ungrp .auto ?_
      rw [(alone_of hgg acts).1, (alone_of hgg acts).2]
      refine .p (.m rfl) ?_
      refine .p (.extract (v := u59) rfl rfl) ?_
      refine .p (.extract (v := .int .i64 (aloneE (ps.map PrgV.p) (ii : Int))) rfl rfl) ?_
      refine .p (.a rfl) (.p (.a rfl) (.n (.t (.s (.r ?_)))))
      refine .does rfl (Does.callE rfl call43 rfl law24_awake .auto) ?_
      rintro _ _ ⟨⟨⟩, -, rfl, rfl⟩
      refine .p (.m rfl) (.g (.m rfl) (.g (.m rfl) ?_))
      refine .g (.valB (Y.eql rfl rfl) (decide_eq_true rfl)) ?_
      refine .p (.t rfl rfl) (.p (.m rfl) (.g (.m rfl) (.g (.m rfl) ?_)))
      refine .dg rfl rfl rfl (Does.callE rfl call21 rfl (ref_Same (A := seps [sl recE 6 u52 (aloneR (ps.map PrgV.p) (ii : Int) acts), sl recE 6 u59 (aloneR (ps.map PrgV.p) (ii : Int) acts)]) (Rd.grp (Rd.sl .here)) (Rd.grp (Rd.sl (.there .here))) (aloneR_len hw (by omega))) .auto) ?_
      rintro _ _ ⟨⟨⟩, -, rfl, rfl⟩
      rw [decide_eq_true (rfl : (aloneR (ps.map PrgV.p) (ii : Int) acts) = (aloneR (ps.map PrgV.p) (ii : Int) acts))]
      refine .p (.t rfl rfl) (.p (.a rfl) (.n (.t (.e (.ret1 rfl rfl fun w s => ⟨(), ?_, trivial, finE .auto s⟩)))))
      rfl

end Go.SLYtpcjdohmjmeehaaGreat
