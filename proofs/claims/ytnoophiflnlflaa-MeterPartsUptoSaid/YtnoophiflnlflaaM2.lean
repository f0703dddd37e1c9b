/- Walks of functions, and what they compute. Conditions: none, this text proves no statement. -/
import Derived.Test.YtnoophiflnlflaaM1
namespace Go.Proofs.YtnoophiflnlflaaX
open Go Go.RowKit Go.Shelf Go.SLYtnoophiflnlflaa
attribute [local go_sem] Oper.semAt_some

/-- how often each slot -/
def spr (xs : List Int) : List Int := (List.range 16).map fun (i : Nat) => ((xs.count (i : Int) : Nat) : Int)
theorem spr_get (xs : List Int) {i : Nat} (hi : i < 16) : (spr xs)[i]? = some ((xs.count (i : Int) : Nat) : Int) := by
  unfold spr; rw [List.getElem?_map, List.getElem?_range hi]; rfl

theorem spr_nil : spr [] = [0,0,0,0,0,0,0,0,0,0,0,0,0,0,0,0] := rfl
theorem spr_length (xs : List Int) : (spr xs).length = 16 := by unfold spr; simp

theorem count_snoc (pre : List Int) (x y : Int) : (pre ++ [x]).count y = pre.count y + if x = y then 1 else 0 := by
  rw [List.count_append, List.count_singleton]; by_cases h : x = y <;> simp [h]
theorem spr_in (pre : List Int) {x : Int} (h0 : 0 ≤ x) (h1 : x < 16) : spr (pre ++ [x]) = (spr pre).set x.toNat (((pre.count x : Nat) : Int) + 1) := by
  apply List.ext_getElem?
  intro i
  by_cases hi : i < 16
  · rw [spr_get _ hi]
    by_cases e : x.toNat = i
    · subst e
      rw [List.getElem?_set_self (by rw [spr_length]; exact hi), Int.toNat_of_nonneg h0, count_snoc]; simp
    · rw [List.getElem?_set_ne e, spr_get _ hi, count_snoc, if_neg (by omega)]; simp
  · rw [List.getElem?_eq_none (by rw [spr_length]; omega), List.getElem?_eq_none (by rw [List.length_set, spr_length]; omega)]
theorem spr_out (pre : List Int) {x : Int} (h : ¬ (0 ≤ x ∧ x < 16)) : spr (pre ++ [x]) = spr pre := by
  apply List.ext_getElem?
  intro i
  by_cases hi : i < 16
  · rw [spr_get _ hi, spr_get _ hi, count_snoc, if_neg (by omega)]; simp
  · rw [List.getElem?_eq_none (by rw [spr_length]; omega), List.getElem?_eq_none (by rw [spr_length]; omega)]

def Out (b : Nat) (W : World) (cs : List Int) : Prop := ∀ i c, cs[i]? = some c → W.cell? ⟨b, i, none⟩ = some (.int .i64 c) ∧ W.frozen? ⟨b, i, none⟩ = false

theorem Out.set {b : Nat} {W : World} {cs : List Int} (h : Out b W cs) {i : Nat} (hi : i < cs.length) (v : Int) : Out b (W.setCell ⟨b, i, none⟩ (.int .i64 v)) (cs.set i v) := fun j c hj => by
  by_cases e : i = j
  · subst e
    rw [List.getElem?_set_self hi] at hj
    cases hj
    obtain ⟨h1, h2⟩ := h i cs[i] (by simp [hi])
    exact ⟨World.cell?_setCell_same' _ _ _ (by rw [h1]; rfl), (World.frozen?_setCell ..).trans h2⟩
  · rw [List.getElem?_set_ne e] at hj
    obtain ⟨h1, h2⟩ := h j c hj
    exact ⟨(World.cell?_setCell_other _ _ _ _ (fun e' => e (congrArg Addr.off e'))).trans h1, (World.frozen?_setCell ..).trans h2⟩
theorem Out.other {b b' i : Nat} {W : World} {cs : List Int} (h : Out b W cs) (hb : b' ≠ b) (u : Value) : Out b (W.setCell ⟨b', i, none⟩ u) cs := fun j c hj =>
  ⟨(World.cell?_setCell_other _ _ _ _ (fun e' => hb (congrArg Addr.block e'))).trans (h j c hj).1, (World.frozen?_setCell ..).trans (h j c hj).2⟩

def setCells (b : Nat) : Nat → List Int → World → World
  | _, [], W => W
  | i, c :: r, W => setCells b (i + 1) r (W.setCell ⟨b, i, none⟩ (.int .i64 c))
theorem setCells_keeps (b : Nat) : ∀ (cs : List Int) (i : Nat) (W : World), KeepsOthers W (setCells b i cs W)
  | [], _, W => KeepsOthers.refl W
  | c :: r, i, W => (KeepsOthers.setCell W _ _).trans (setCells_keeps b r (i + 1) _)
theorem setCells_below {B b : Nat} (hb : B ≤ b) : ∀ (cs : List Int) (i : Nat) (W : World), Below B W (setCells b i cs W)
  | [], _, W => Below.refl _ _
  | c :: r, i, W => ((Below.refl B W).setCell (p := ⟨b, i, none⟩) hb _).trans (setCells_below hb r (i + 1) _)
theorem setCells_out (b : Nat) : ∀ (cs ds : List Int) (i : Nat) (W : World), Out b W ds → i + cs.length ≤ ds.length → Out b (setCells b i cs W) (ds.take i ++ cs ++ ds.drop (i + cs.length))
  | [], ds, i, W, h, _ => by simpa [setCells] using h
  | c :: r, ds, i, W, h, hl => by
    have hi : i < ds.length := by simp at hl; omega
    have := setCells_out b r (ds.set i c) (i + 1) _ (h.set hi c) (by simp at hl ⊢; omega)
    have e : (ds.set i c).take (i + 1) ++ r ++ (ds.set i c).drop (i + 1 + r.length) = ds.take i ++ (c :: r) ++ ds.drop (i + (c :: r).length) := by
      rw [List.take_succ_eq_append_getElem (by simpa using hi), List.take_set_of_le (Nat.le_refl i), List.drop_set_of_lt (by omega)]
      simp [Nat.add_assoc, Nat.add_comm 1]
    rw [e] at this
    exact this
theorem Out.put {b D : Nat} {W : World} {cs : List Int} (h : Out b W cs) (o : Obj) (hb : b ≠ D) : Out b (W.putObj D o) cs := fun i c hc =>
  ⟨(World.cell?_of_block (w := W) (World.putObj_heap_other (by show b ≠ D; exact hb))).trans (h i c hc).1, (World.frozen?_of_block (w := W) (World.putObj_heap_other (by show b ≠ D; exact hb))).trans (h i c hc).2⟩

set_option maxRecDepth 100000 in
set_option maxHeartbeats 4000000 in
theorem Spread_in (F : Fence) (n : Nat) (h10 : F.fn 10) (h14 : F.fn 14) (h16 : F.fn 16) (hro : F.round = none) (hn : 3 ≤ n) (a : Option Addr) (len cap : Nat) (sp : Int) (acts : List ActV) (hreach : acts.length ≤ 1048576) (w : World) (hI : ActsAt w.heap.size w (.slice a len cap) acts) :
    CallsIn F n Try.prog 10 #[.slice a len cap, .int .i64 sp] w fun e W' => e = .returned (.agg ((spr (runsOf sp acts)).map (Value.int .i64)).toArray) ∧ Below w.heap.size w W' := by
  have h1 : 1 ≤ n := by omega
  refine callsIn_of_wp_marks Try.func10 rfl h10 ?_ hro
  simp only [Try.ntmps10, List.size_toArray, List.length_cons, List.length_nil, Nat.reduceAdd, Nat.reduceSub, Array.replicate_succ, Array.replicate_zero, List.push_toArray, List.append_toArray, List.nil_append, List.cons_append]
  gi_wp2_with (gi_at_call 14; refine (runs_in F (n - 1) h14 hro _ _ _ _ _).mono ?_; rintro e w' ⟨rfl, rfl⟩)
  obtain ⟨Z, hZ⟩ : ∃ Z : Obj, Z = Obj.cells #[.int .i64 0, .int .i64 0, .int .i64 0, .int .i64 0, .int .i64 0, .int .i64 0, .int .i64 0, .int .i64 0, .int .i64 0, .int .i64 0, .int .i64 0, .int .i64 0, .int .i64 0, .int .i64 0, .int .i64 0, .int .i64 0] 31 := ⟨_, rfl⟩
  rw [← hZ]
  obtain ⟨w1, hw1⟩ : ∃ w1, w1 = ((((w.alloc Z).alloc Z).alloc (.cells #[.slice a len cap] 30)).alloc (.cells #[.int .i64 sp] 3)) := ⟨_, rfl⟩
  have hs1 : w1.heap.size = w.heap.size + 4 := by rw [hw1]; simp
  have hB0 : Below w.heap.size w w1 := by rw [hw1]; exact ((((Below.refl _ w).alloc (Nat.le_refl _) _).alloc (by simp) _).alloc (by simp; omega) _).alloc (by simp; omega) _
  have eZ : w1.heap[w.heap.size]? = some Z := by
    rw [hw1, Below.heap_alloc _ _ _ (by simp; omega), Below.heap_alloc _ _ _ (by simp; omega), Below.heap_alloc _ _ _ (by simp)]; exact World.alloc_heap_new w Z
  have eZ2 : w1.heap[w.heap.size + 1]? = some Z := by
    rw [hw1, Below.heap_alloc _ _ _ (by simp), Below.heap_alloc _ _ _ (by simp)]; have := World.alloc_heap_new (w.alloc Z) Z; rwa [World.size_alloc] at this
  have eS : w1.heap[w.heap.size + 2]? = some (.cells #[.slice a len cap] 30) := by
    rw [hw1, Below.heap_alloc _ _ _ (by simp)]; have := World.alloc_heap_new ((w.alloc Z).alloc Z) (.cells #[.slice a len cap] 30); simpa using this
  have eP : w1.heap[w.heap.size + 3]? = some (.cells #[.int .i64 sp] 3) := by
    rw [hw1]; have := World.alloc_heap_new (((w.alloc Z).alloc Z).alloc (.cells #[.slice a len cap] 30)) (.cells #[.int .i64 sp] 3); simpa using this
  have cS : w1.cell? ⟨w.heap.size + 2, 0, none⟩ = some (.slice a len cap) := by unfold World.cell?; rw [eS]; rfl
  have cP : w1.cell? ⟨w.heap.size + 3, 0, none⟩ = some (.int .i64 sp) := by unfold World.cell?; rw [eP]; rfl
  have oZ : ∀ b, w1.heap[b]? = some Z → Out b w1 (spr []) := by
    intro b hb i c hc
    have hi : i < 16 := by have := (List.getElem?_eq_some_iff.1 hc).1; rwa [spr_length] at this
    rw [spr_get _ hi] at hc
    simp at hc; subst hc
    unfold World.cell? World.frozen?
    rw [hb, hZ]
    rcases (show i = 0 ∨ i = 1 ∨ i = 2 ∨ i = 3 ∨ i = 4 ∨ i = 5 ∨ i = 6 ∨ i = 7 ∨ i = 8 ∨ i = 9 ∨ i = 10 ∨ i = 11 ∨ i = 12 ∨ i = 13 ∨ i = 14 ∨ i = 15 from by omega) with rfl | rfl | rfl | rfl | rfl | rfl | rfl | rfl | rfl | rfl | rfl | rfl | rfl | rfl | rfl | rfl <;> exact ⟨rfl, rfl⟩
  have o1 := oZ _ eZ
  have o2 := oZ _ eZ2
  have hI1 := hI.below hB0
  rw [← hw1]
  refine wpIn_rangeFunc_ownG hro h1 (gf := 16) (lb := #[.pointer (some ⟨w.heap.size + 2, 0, none⟩), .pointer (some ⟨w.heap.size + 3, 0, none⟩)]) rfl h16 (enters_of Try.func16 (by kernel_rfl) rfl)
    (runs_stops F (n - 1) h16 hro (by omega) (w.heap.size + 2) (w.heap.size + 3) w.heap.size _ sp acts (by omega) w1 (by omega) (by omega) (by omega) cS cP hI1) Kp.trans
    (fun W l o o' hl hW hc hk => ⟨belowK_b (w := w1) (by omega) W l o o' hl hW hc hk, World.cell?_of_block (w := W) (World.putObj_heap_other (by show w.heap.size + 3 ≠ l; omega))⟩)
    (Below.refl _ _) (fun _ => rfl)
    (fun pre W => (Out (w.heap.size + 1) W (spr pre) ∧ Out w.heap.size W (spr [])) ∧ Below w.heap.size w W)
    (fun _ _ _ => False)
    (OwnFrom.and (Own.from (fun s A B row hs hg hr => ⟨fun i c h => ⟨cell_kept (hs.1 i c h).1 hg hr, (frozen_kept (hs.1 i c h).1 hg hr).trans (hs.1 i c h).2⟩, fun i c h => ⟨cell_kept (hs.2 i c h).1 hg hr, (frozen_kept (hs.2 i c h).1 hg hr).trans (hs.2 i c h).2⟩⟩) _) (ownFrom_below (Nat.le_refl _) (by omega)))
    (fun _ _ _ _ _ hs _ _ => hs)
    ⟨⟨o2, o1⟩, hB0⟩
    (fun x => { tmps := #[.slice a len cap, .int .i64 sp, undef, undef, .pointer (some ⟨w.heap.size, 0, none⟩), .pointer (some ⟨w.heap.size + 1, 0, none⟩), .int .i64 x, .slice a len cap, .int .i64 sp, .func (.func 16) #[] #[.pointer (some ⟨w.heap.size + 2, 0, none⟩), .pointer (some ⟨w.heap.size + 3, 0, none⟩)], .int .i64 x, undef, undef, undef, undef, undef, undef, undef, undef, undef, undef, undef, undef], defers := [] }) ?assign ?body ?done ?stop
  case assign =>
    intro l x W K hK
    gi_wp2
    exact hK
  case body =>
    rintro l pre x W ⟨⟨hO, hO'⟩, hB⟩ hlen
    have hcnt : pre.count x ≤ pre.length := List.count_le_length
    by_cases hx : 0 ≤ x ∧ x < 16
    · obtain ⟨hx0, hx1⟩ := hx
      have hxn : x.toNat < 16 := by omega
      have hsn := spr_in pre hx0 hx1
      have hg := spr_get pre hxn
      rw [Int.toNat_of_nonneg hx0] at hg
      obtain ⟨hc, hf⟩ := hO _ _ hg
      have hxc : ((x.toNat : Nat) : Int) = x := Int.toNat_of_nonneg hx0
      gi_wp2
      exact ⟨(KeepsOthers.setCell _ _ _).from _, ⟨(Below.refl w.heap.size W).setCell (p := ⟨w.heap.size + 1, x.toNat, none⟩) (by simp) _, World.cell?_setCell_other _ _ _ _ (fun e' => by have := congrArg Addr.block e'; simp at this)⟩,
        ⟨by rw [hsn]; exact hO.set (by rw [spr_length]; exact hxn) _, hO'.other (by omega) _⟩, hB.setCell (p := ⟨w.heap.size + 1, x.toNat, none⟩) (by simp) _⟩
    · have hsn := spr_out pre hx
      gi_wp2
      all_goals exact ⟨KeepsFrom.refl _ _, Kp.refl _ _ _, ⟨by rw [hsn]; exact hO, hO'⟩, hB⟩
  case done =>
    rintro D ys W hD rfl ⟨⟨hO, hO'⟩, hB⟩ hK
    have hlen := spr_length (runsOf sp acts)
    obtain ⟨a0, a1, a2, a3, a4, a5, a6, a7, a8, a9, a10, a11, a12, a13, a14, a15, hcs⟩ : ∃ a0 a1 a2 a3 a4 a5 a6 a7 a8 a9 a10 a11 a12 a13 a14 a15 : Int, spr (runsOf sp acts) = [a0, a1, a2, a3, a4, a5, a6, a7, a8, a9, a10, a11, a12, a13, a14, a15] := by
      match spr (runsOf sp acts), hlen with
      | [a0, a1, a2, a3, a4, a5, a6, a7, a8, a9, a10, a11, a12, a13, a14, a15], _ => exact ⟨a0, a1, a2, a3, a4, a5, a6, a7, a8, a9, a10, a11, a12, a13, a14, a15, rfl⟩
    rw [hcs] at hO
    obtain ⟨p0, q0⟩ := hO 0 _ rfl
    obtain ⟨r0, s0⟩ := hO' 0 0 rfl
    obtain ⟨p1, q1⟩ := hO 1 _ rfl
    obtain ⟨r1, s1⟩ := hO' 1 0 rfl
    obtain ⟨p2, q2⟩ := hO 2 _ rfl
    obtain ⟨r2, s2⟩ := hO' 2 0 rfl
    obtain ⟨p3, q3⟩ := hO 3 _ rfl
    obtain ⟨r3, s3⟩ := hO' 3 0 rfl
    obtain ⟨p4, q4⟩ := hO 4 _ rfl
    obtain ⟨r4, s4⟩ := hO' 4 0 rfl
    obtain ⟨p5, q5⟩ := hO 5 _ rfl
    obtain ⟨r5, s5⟩ := hO' 5 0 rfl
    obtain ⟨p6, q6⟩ := hO 6 _ rfl
    obtain ⟨r6, s6⟩ := hO' 6 0 rfl
    obtain ⟨p7, q7⟩ := hO 7 _ rfl
    obtain ⟨r7, s7⟩ := hO' 7 0 rfl
    obtain ⟨p8, q8⟩ := hO 8 _ rfl
    obtain ⟨r8, s8⟩ := hO' 8 0 rfl
    obtain ⟨p9, q9⟩ := hO 9 _ rfl
    obtain ⟨r9, s9⟩ := hO' 9 0 rfl
    obtain ⟨p10, q10⟩ := hO 10 _ rfl
    obtain ⟨r10, s10⟩ := hO' 10 0 rfl
    obtain ⟨p11, q11⟩ := hO 11 _ rfl
    obtain ⟨r11, s11⟩ := hO' 11 0 rfl
    obtain ⟨p12, q12⟩ := hO 12 _ rfl
    obtain ⟨r12, s12⟩ := hO' 12 0 rfl
    obtain ⟨p13, q13⟩ := hO 13 _ rfl
    obtain ⟨r13, s13⟩ := hO' 13 0 rfl
    obtain ⟨p14, q14⟩ := hO 14 _ rfl
    obtain ⟨r14, s14⟩ := hO' 14 0 rfl
    obtain ⟨p15, q15⟩ := hO 15 _ rfl
    obtain ⟨r15, s15⟩ := hO' 15 0 rfl
    have h16' : Out w.heap.size (setCells w.heap.size 0 [a0, a1, a2, a3, a4, a5, a6, a7, a8, a9, a10, a11, a12, a13, a14, a15] W) [a0, a1, a2, a3, a4, a5, a6, a7, a8, a9, a10, a11, a12, a13, a14, a15] := by
      have := setCells_out w.heap.size [a0, a1, a2, a3, a4, a5, a6, a7, a8, a9, a10, a11, a12, a13, a14, a15] (spr []) 0 W hO' (by rw [spr_length]; simp)
      simpa [spr_nil] using this
    have hkO := setCells_keeps w.heap.size [a0, a1, a2, a3, a4, a5, a6, a7, a8, a9, a10, a11, a12, a13, a14, a15] 0 W
    have hbO := setCells_below (B := w.heap.size) (Nat.le_refl _) [a0, a1, a2, a3, a4, a5, a6, a7, a8, a9, a10, a11, a12, a13, a14, a15] 0 W
    gi_wp2
    have hK' := hkO.same D _ hK rfl
    refine ⟨by simp, .inl ⟨_, _, rfl, run_takeDeferred hK', ?_⟩⟩
    have h17 := h16'.put (D := D) (.deferred none) (by omega)
    have y0 := (h17 0 _ rfl).1
    have y1 := (h17 1 _ rfl).1
    have y2 := (h17 2 _ rfl).1
    have y3 := (h17 3 _ rfl).1
    have y4 := (h17 4 _ rfl).1
    have y5 := (h17 5 _ rfl).1
    have y6 := (h17 6 _ rfl).1
    have y7 := (h17 7 _ rfl).1
    have y8 := (h17 8 _ rfl).1
    have y9 := (h17 9 _ rfl).1
    have y10 := (h17 10 _ rfl).1
    have y11 := (h17 11 _ rfl).1
    have y12 := (h17 12 _ rfl).1
    have y13 := (h17 13 _ rfl).1
    have y14 := (h17 14 _ rfl).1
    have y15 := (h17 15 _ rfl).1
    refine ⟨_, ?_, rfl, (hB.trans hbO).trans (belowK_b (w := w) (Nat.le_refl _) _ D _ _ (by omega) hK' rfl rfl)⟩
    clear hO hO' hkO hbO h16' h17 hK hK'
    simp only [setCells] at *
    simp [hcs, results, Try.f10, go_sem, y0, y1, y2, y3, y4, y5, y6, y7, y8, y9, y10, y11, y12, y13, y14, y15]
  case stop =>
    rintro D c pre W _ _ h _
    exact h.elim



end Go.Proofs.YtnoophiflnlflaaX
