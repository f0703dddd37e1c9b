/- Walks of functions, and what they compute. Conditions: none, this text proves no statement. -/
import Derived.Test.YtefdijgllbkmfaaGreatI06
import Derived.Test.YtefdijgllbkmfaaGreatProg
import Derived.Test.YtefdijgllbkmfaaGreatI05
import Derived.KernelRfl
import Derived.Test.YtefdijgllbkmfaaGreatI03
set_option maxRecDepth 20000
set_option maxHeartbeats 4000000
namespace Go.SLYtefdijgllbkmfaaGreat
open Go Go.RowKit Go.Proofs Go.Proofs.Tryz
attribute [local irreducible] ax aS bo bY bP Y
theorem JE{W:World}{A:aa}{v:Value}{xs:List Rec}(hr:Rd W [A] dp 6 v xs)(hl:xs.length≤1000000000):Fn Tryz.prog W 75 [v] [A] Value (fun u=>u) (fun _=>True) (fun u=>[sl dp 6 u xs,A]):=by
 refine Fn.intro (N:=8) func75 rfl ntmps75 rfl fun F=>?_
 haveI hRI:∀ (H:List aa) [cf H A],aJ W H v dp 6 xs:=fun H h=>⟨hr.at h.has⟩
 show ax _ _ _ _ _ _ [A,F]
 refine J 9 ?_
 refine .p (.Dj underlying49 rfl rfl Rd.s) ?_
 refine JD 2 (fun h4=>?_) fun h4=>?_
 ·refine J 7 ?_
  refine .fo (fun w s=>Rd.Dv Rd.s h4 w s) fun hn=>?_
  subst hn
  refine .to (A:=sl dp 6 (.slice none 0 0) ([]:List Rec)) (Bs:=[]) .nil (fun h e=>.inl ⟨⟨_,rfl⟩,rfl,e⟩) ?_
  refine .aI rfl rfl fun w s=>⟨_,?_,trivial,aq .auto s⟩
  rfl
 ·refine J 4 ?_
  refine .aw rfl (af.gN 101 rfl rfl (by kernel_rfl)) ?_
  rintro _ _ ⟨b5,rfl,rfl⟩
  refine J 1 ?_
  refine .to (A:=sl dp 6 (.slice (some ⟨b5,0,none⟩) 0 0) ([]:List Rec)) (Bs:=[]) .nil (fun h e=>.inl ⟨⟨_,rfl⟩,rfl,e⟩) ?_
  refine .aw rfl (af.append rfl underlying49 underlying49 typeInfo101 rfl rfl rfl (by decide) rfl rfl .auto Rd.s (by simp;omega) (rJ _)) ?_
  rintro _ _ ⟨v7,rfl,rfl⟩
  refine J 4 ?_
  refine .aI rfl rfl fun w s=>⟨_,?_,trivial,aq .auto s⟩
  rfl
theorem KL{W:World}{v:Value}{xs:List Rec}:Fn Tryz.prog W 74 [v] [sl dp 6 v xs] Value (fun u=>u) (fun _=>True) (fun u=>[sl dp 6 u xs]):=by
 refine Fn.intro (N:=9) func74 rfl ntmps74 rfl fun F=>?_
 show ax _ _ _ _ _ _ [sl dp 6 v xs,F]
 refine .fo (fun w s=>(Rd.sl (W:=W) .here w s).1) fun hr=>?_
 obtain⟨a,cap,rfl,hle, -⟩:=hr
 refine J 12 ?_
 refine .p (.F1 xs.length xs.length underlying49 sizeOf101 rfl rfl rfl rfl rfl (Nat.le_refl _) hle) ?_
 refine J 4 ?_
 refine .fx .auto F3 ?_
 rintro J -
 refine .aI rfl rfl fun w s=>⟨_,?_,trivial,aq .auto s⟩
 rfl
theorem JF{W:World}{A:aa}{v:Value}{xs:List Ins}(hr:Rd W [A] dC 5 v xs)(hl:xs.length≤1000000000):Fn Tryz.prog W 63 [v] [A] Value (fun u=>u) (fun _=>True) (fun u=>[sl dC 5 u xs,A]):=by
 refine Fn.intro (N:=8) func63 rfl ntmps63 rfl fun F=>?_
 haveI hRI:∀ (H:List aa) [cf H A],aJ W H v dC 5 xs:=fun H h=>⟨hr.at h.has⟩
 show ax _ _ _ _ _ _ [A,F]
 refine J 9 ?_
 refine .p (.Dj underlying128 rfl rfl Rd.s) ?_
 refine JD 2 (fun h4=>?_) fun h4=>?_
 ·refine J 7 ?_
  refine .fo (fun w s=>Rd.Dv Rd.s h4 w s) fun hn=>?_
  subst hn
  refine .to (A:=sl dC 5 (.slice none 0 0) ([]:List Ins)) (Bs:=[]) .nil (fun h e=>.inl ⟨⟨_,rfl⟩,rfl,e⟩) ?_
  refine .aI rfl rfl fun w s=>⟨_,?_,trivial,aq .auto s⟩
  rfl
 ·refine J 4 ?_
  refine .aw rfl (af.gN 131 rfl rfl (by kernel_rfl)) ?_
  rintro _ _ ⟨b5,rfl,rfl⟩
  refine J 1 ?_
  refine .to (A:=sl dC 5 (.slice (some ⟨b5,0,none⟩) 0 0) ([]:List Ins)) (Bs:=[]) .nil (fun h e=>.inl ⟨⟨_,rfl⟩,rfl,e⟩) ?_
  refine .aw rfl (af.append rfl underlying128 underlying128 typeInfo131 rfl rfl rfl (by decide) rfl rfl .auto Rd.s (by simp;omega) (Du _)) ?_
  rintro _ _ ⟨v7,rfl,rfl⟩
  refine J 4 ?_
  refine .aI rfl rfl fun w s=>⟨_,?_,trivial,aq .auto s⟩
  rfl
theorem Hm{W:World}{A:aa}{v:Value}{xs:List (Value×List Ins)}(hr:Rd W [A] cj 1 v xs)(hl:xs.length≤1000000000)(hone:∀ y∈xs, ∀ c∈cj y,c.oneCell'=true):Fn Tryz.prog W 62 [v] [A] Value (fun u=>u) (fun _=>True) (fun u=>[sl cj 1 u xs,A]):=by
 refine Fn.intro (N:=8) func62 rfl ntmps62 rfl fun F=>?_
 haveI hRI:∀ (H:List aa) [cf H A],aJ W H v cj 1 xs:=fun H h=>⟨hr.at h.has⟩
 show ax _ _ _ _ _ _ [A,F]
 refine J 9 ?_
 refine .p (.Dj underlying22 rfl rfl Rd.s) ?_
 refine JD 2 (fun h4=>?_) fun h4=>?_
 ·refine J 7 ?_
  refine .fo (fun w s=>Rd.Dv Rd.s h4 w s) fun hn=>?_
  subst hn
  refine .to (A:=sl cj 1 (.slice none 0 0) ([]:List (Value×List Ins))) (Bs:=[]) .nil (fun h e=>.inl ⟨⟨_,rfl⟩,rfl,e⟩) ?_
  refine .aI rfl rfl fun w s=>⟨_,?_,trivial,aq .auto s⟩
  rfl
 ·refine J 4 ?_
  refine .aw rfl (af.gN 128 rfl rfl (by kernel_rfl)) ?_
  rintro _ _ ⟨b5,rfl,rfl⟩
  refine J 1 ?_
  refine .to (A:=sl cj 1 (.slice (some ⟨b5,0,none⟩) 0 0) ([]:List (Value×List Ins))) (Bs:=[]) .nil (fun h e=>.inl ⟨⟨_,rfl⟩,rfl,e⟩) ?_
  refine .aw rfl (af.append rfl underlying22 underlying22 typeInfo128 rfl rfl rfl (by decide) rfl rfl .auto Rd.s (by simp;omega) hone) ?_
  rintro _ _ ⟨v7,rfl,rfl⟩
  refine J 4 ?_
  refine .aI rfl rfl fun w s=>⟨_,?_,trivial,aq .auto s⟩
  rfl
theorem JG{W:World}{A:aa}{v:Value}{xs:List Int}{x:Int}(hr:Rd W [A] aP 1 v xs)(hl:xs.length≤1000000000):Fn Tryz.prog W 318 [v,.int .i64 x] [A] Unit (fun _=>.int .i64 (idxOf x xs)) (fun _=>True) (fun _=>[A]):=by
 refine Fn.intro (N:=19) func318 rfl ntmps318 rfl fun F=>?_
 haveI hRI:∀ (H:List aa) [cf H A],aJ W H v aP 1 xs:=fun H h=>⟨hr.at h.has⟩
 show ax _ _ _ _ _ _ [A,F]
 refine J 14 ?_
 refine .da (X:=Nat) [4,5,8,9,10,11,12,13,14,15,16,17,18] (fun k=>xs.length-k) (fun k=>k≤xs.length∧idxOf x xs=idxFrom x (xs.drop k) k) (fun k=>[(8,some (.int .i64 (k:Int)))]) (fun k=>[A,F]) 0 ?_ ?_ ?_ ?_
 ·exact⟨Nat.zero_le _,by simp[idxOf]⟩
 ·exact⟨rfl,trivial⟩
 ·exact fun w s=>aK.kept .auto w s
 rintro k ⟨hk,hn⟩
 refine JD 6 (fun h9=>?_) fun h9=>?_
 ·refine J 15 ?_
  obtain⟨y,hy⟩:=aB (show k<xs.length by omega)
  refine JD 5 (fun h=>?_) fun h=>?_
  ·refine J 12 ?_
   refine .aI rfl rfl fun w s=>⟨(),?_,trivial,aq .auto s⟩
   rw[hn,F4 hy h]
  ·refine J 7 ?_
   refine .bq (k+1) .auto rfl ?_ ?_ ?_ ?_
   ·first | omega | (dsimp only;omega)
   ·exact⟨by omega,hn.trans (Dw hy h)⟩
   ·exact⟨rfl,trivial⟩
   ·exact fun w s=>aK.kept .auto w s
 ·refine J 11 ?_
  refine .aI rfl rfl fun w s=>⟨(),?_,trivial,aq .auto s⟩
  rw[hn,F5 (by omega)]
theorem CA{W:World}{A:aa}{v:Value}{xs:List Int}{x:Int}(hr:Rd W [A] aP 1 v xs)(hl:xs.length≤1000000000):Fn Tryz.prog W 298 [v,.int .i64 x] [A] Unit (fun _=>.bool (xs.contains x)) (fun _=>True) (fun _=>[A]):=by
 refine Fn.intro (N:=9) func298 rfl ntmps298 rfl fun F=>?_
 show ax _ _ _ _ _ _ [A,F]
 refine J 9 ?_
 refine .c call318 rfl (JG hr hl) fun _ _=>?_
 refine J 5 ?_
 refine .aI rfl rfl fun w s=>⟨(),?_,trivial,aq .auto s⟩
 rw[idxOf,vq]
end Go.SLYtefdijgllbkmfaaGreat
namespace Go.SLYtefdijgllbkmfaaGreat
open Go Go.RowKit Go.Proofs Go.Proofs.Tryz
attribute [local irreducible] ax aS bo bY bP Y
theorem fE{W:World}{n m:Int}:Fn Tryz.prog W 153 [.int .i64 n,.int .i64 m] [] Unit (fun _=>.bool (within n m)) (fun _=>True) (fun _=>[]):=by
 refine Fn.intro (N:=12) func153 rfl ntmps153 rfl fun F=>?_
 show ax _ _ _ _ _ _ [F]
 refine J 10 ?_
 apply aS.gr 4 11 7 [7,8,9,10,11] rfl
 ·intro h7
  exact JS 5
 ·intro h7
  exact JS 5
 exact JR 4 ()
theorem mh{W:World}{n:Int}{b:Bool}:Fn Tryz.prog W 155 [.int .i64 n,.bool b] [] Unit (fun _=>.bool (lI n b)) (fun _=>True) (fun _=>[]):=by
 refine Fn.intro (N:=18) func155 rfl ntmps155 rfl fun F=>?_
 show ax _ _ _ _ _ _ [F]
 refine J 10 ?_
 apply aS.fu 10 17 7 [7,8,9,10,11,12,13,14,15,16,17] rfl
 ·intro h7
  refine J 2 ?_
  apply aS.iG 3 12 9 [9,10,11,12] rfl
  ·intro h9
   refine J 4 ?_
   refine .tg .auto rfl (by first | exact fun _ h=>h | exact aK.kept .auto)
  ·intro h9
   refine J 4 ?_
   refine .tg .auto rfl (by first | exact fun _ h=>h | exact aK.kept .auto)
  refine J 1 ?_
  apply aS.iG 3 16 13 [13,14,15,16] rfl
  ·intro h13
   refine J 4 ?_
   refine .tg .auto rfl (by first | exact fun _ h=>h | exact aK.kept .auto)
  ·intro h13
   refine J 4 ?_
   refine .tg .auto rfl (by first | exact fun _ h=>h | exact aK.kept .auto)
  refine J 2 ?_
  refine .tg .auto rfl (by first | exact fun _ h=>h | exact aK.kept .auto)
 ·intro h7
  refine J 11 ?_
  refine .tg .auto rfl (by first | exact fun _ h=>h | exact aK.kept .auto)
 exact JR 4 ()
theorem nv{W:World}{op:Int}:Fn Tryz.prog W 72 [.int .i64 op] [] Unit (fun _=>.int .i64 (cls op)) (fun _=>True) (fun _=>[]):=by
 refine Fn.intro (N:=24) func72 rfl ntmps72 rfl fun F=>?_
 show ax _ _ _ _ _ _ [F]
 refine J 12 ?_
 apply aS.gr 3 9 6 [6,7,8,9] rfl
 ·intro h6
  exact JS 4
 ·intro h6
  exact JS 4
 refine JD 3 (fun h3=>?_) fun h3=>?_
 ·simp only[Bool.and_eq_true,decide_eq_true_eq] at h3
  refine J 8 ?_
  refine .aI rfl rfl fun w s=>⟨(),?_,trivial,aq .auto s⟩
  refine jt ?_;unfold cls;repeat (first | rw[if_pos (by omega)] | rw[if_neg (by omega)])
 ·simp only[Bool.and_eq_false_iff,decide_eq_false_iff_not] at h3
  refine J 5 ?_
  apply aS.gr 3 16 13 [13,14,15,16] rfl
  ·intro h13
   exact JS 4
  ·intro h13
   exact JS 4
  refine JD 3 (fun h10=>?_) fun h10=>?_
  ·simp only[Bool.and_eq_true,decide_eq_true_eq] at h10
   refine J 8 ?_
   refine .aI rfl rfl fun w s=>⟨(),?_,trivial,aq .auto s⟩
   refine jt ?_;unfold cls;repeat (first | rw[if_pos (by omega)] | rw[if_neg (by omega)])
  ·simp only[Bool.and_eq_false_iff,decide_eq_false_iff_not] at h10
   refine J 5 ?_
   apply aS.gr 3 23 20 [20,21,22,23] rfl
   ·intro h20
    exact JS 4
   ·intro h20
    exact JS 4
   refine JD 3 (fun h17=>?_) fun h17=>?_
   ·simp only[Bool.and_eq_true,decide_eq_true_eq] at h17
    refine J 8 ?_
    refine .aI rfl rfl fun w s=>⟨(),?_,trivial,aq .auto s⟩
    refine jt ?_;unfold cls;repeat (first | rw[if_pos (by omega)] | rw[if_neg (by omega)])
   ·simp only[Bool.and_eq_false_iff,decide_eq_false_iff_not] at h17
    refine J 9 ?_
    refine .aI rfl rfl fun w s=>⟨(),?_,trivial,aq .auto s⟩
    refine jt ?_;unfold cls;repeat (first | rw[if_pos (by omega)] | rw[if_neg (by omega)])
theorem s5{W:World}{f:Form}{n:Int}(hf:f.n≤9223372036854775807):Fn Tryz.prog W 156 [.agg (ep f).toArray,.int .u64 n] [] Unit (fun _=>.bool (f.below n)) (fun _=>True) (fun _=>[]):=by
 refine Fn.intro (N:=24) func156 rfl ntmps156 rfl fun F=>?_
 show ax _ _ _ _ _ _ [F]
 refine J 2 ?_
 refine .aw rfl (af.box rfl rfl rfl) ?_
 rintro _ _ ⟨b2,rfl,rfl⟩
 refine JD 12 (fun h5=>?_) fun h5=>?_
 ·refine J 8 ?_
  refine .aI rfl rfl fun w s=>⟨(),?_,trivial,aq .auto s⟩
  rw[Form.below,if_pos h5]
 ·refine JD 8 (fun h8=>?_) fun h8=>?_
  ·refine J 10 ?_
   refine .aI rfl rfl fun w s=>⟨(),?_,trivial,aq .auto s⟩
   rw[Form.below,if_neg (by simp[h5]),if_pos h8]
  ·refine J 9 ?_
   apply aS.gr 6 23 17 [17,18,19,20,21,22,23] rfl
   ·intro h17
    refine J 3 ?_
    refine .g (.fY underlying3 underlying38 rfl (by omega)) ?_
    exact JS 3
   ·intro h17
    exact JS 7
   refine J 4 ?_
   refine .aI rfl rfl fun w s=>⟨(),?_,trivial,aq .auto s⟩
   rw[Form.below,if_neg (by simp[h5]),if_neg h8]
theorem Hn{W:World}{A:aa}{v:bI}(hp:eD W [A] v){op:Int}:Fn Tryz.prog W 154 [.agg (eg v).toArray,.int .i64 op] [A] Unit (fun _=>.agg (ep (aQ v.p op)).toArray) (fun _=>True) (fun _=>[A]):=by
 refine Fn.intro (N:=73) func154 rfl ntmps154 rfl fun F=>?_
 haveI hI1:∀ (H:List aa) [cf H A],aJ W H v.fv cj 1 v.fs:=fun H h=>⟨hp.fs.at h.has⟩
 haveI hI2:∀ (H:List aa) [cf H A],aJ W H v.sv aP 1 v.aT:=fun H h=>⟨hp.aT.at h.has⟩
 haveI hI3:∀ (H:List aa) [cf H A],aJ W H v.pv aP 1 v.aC:=fun H h=>⟨hp.aC.at h.has⟩
 show ax _ _ _ _ _ _ [A,F]
 refine J 2 ?_
 refine .aw rfl (af.box rfl rfl rfl) ?_
 rintro _ _ ⟨b2,rfl,rfl⟩
 refine .aw rfl (af.alloc rfl zeroValue249 rfl) ?_
 rintro _ _ ⟨b4,rfl,rfl⟩
 refine JD 15 (fun h6=>?_) fun h6=>?_
 ·refine J 2 ?_
  refine .p (.gB (fun v1 v2=>[v1,(.bool false),(.int .i64 0),v2]) rfl rfl (by kernel_rfl)) ?_
  refine J 6 ?_
  refine .fp rfl rfl isAgg249 (by exact sizeOf249) Cells.a fun w s=>⟨(),?_,trivial,aq .auto s⟩
  simp[aQ,ep, *]
 ·refine JD 7 (fun h9=>?_) fun h9=>?_
  ·refine J 2 ?_
   first | refine ax.dK rfl (fun _=>?_) (fun hc=>absurd h9 hc) | refine ax.cond rfl (fun _=>?_) (fun hc=>by rw[h9] at hc;cases hc)
   refine J 2 ?_
   refine .p (.gB (fun v1 v2=>[v1,(.bool false),v2,(.bool false)]) rfl rfl (by kernel_rfl)) ?_
   refine J 6 ?_
   refine .fp rfl rfl isAgg249 (by exact sizeOf249) Cells.a fun w s=>⟨(),?_,trivial,aq .auto s⟩
   simp[aQ,ep, *]
  ·refine JD 6 (fun h9=>?_) fun h9=>?_
   ·refine J 2 ?_
    first | refine ax.dK rfl (fun _=>?_) (fun hc=>absurd h9 hc) | refine ax.cond rfl (fun _=>?_) (fun hc=>by rw[h9] at hc;cases hc)
    refine J 2 ?_
    refine .p (.gB (fun v1 v2=>[v1,(.bool false),v2,(.bool false)]) rfl rfl (by kernel_rfl)) ?_
    refine J 6 ?_
    refine .fp rfl rfl isAgg249 (by exact sizeOf249) Cells.a fun w s=>⟨(),?_,trivial,aq .auto s⟩
    simp[aQ,ep, *]
   ·refine JD 6 (fun h9=>?_) fun h9=>?_
    ·refine J 2 ?_
     first | refine ax.dK rfl (fun _=>?_) (fun hc=>absurd h9 hc) | refine ax.cond rfl (fun _=>?_) (fun hc=>by rw[h9] at hc;cases hc)
     refine J 2 ?_
     refine .p (.gB (fun v1 v2=>[v1,(.bool false),v2,(.bool false)]) rfl rfl (by kernel_rfl)) ?_
     refine J 6 ?_
     refine .fp rfl rfl isAgg249 (by exact sizeOf249) Cells.a fun w s=>⟨(),?_,trivial,aq .auto s⟩
     simp[aQ,ep, *]
    ·refine JD 6 (fun h9=>?_) fun h9=>?_
     ·refine J 2 ?_
      first | refine ax.dK rfl (fun _=>?_) (fun hc=>absurd h9 hc) | refine ax.cond rfl (fun _=>?_) (fun hc=>by rw[h9] at hc;cases hc)
      refine J 2 ?_
      refine .p (.gB (fun v1 v2=>[v1,(.bool false),v2,(.bool false)]) rfl rfl (by kernel_rfl)) ?_
      refine J 6 ?_
      refine .fp rfl rfl isAgg249 (by exact sizeOf249) Cells.a fun w s=>⟨(),?_,trivial,aq .auto s⟩
      simp[aQ,ep, *]
     ·refine JD 6 (fun h9=>?_) fun h9=>?_
      ·refine J 2 ?_
       first | refine ax.dK rfl (fun _=>?_) (fun hc=>absurd h9 hc) | refine ax.cond rfl (fun _=>?_) (fun hc=>by rw[h9] at hc;cases hc)
       refine J 2 ?_
       refine .p (.gB (fun v1 v2=>[v1,(.bool false),v2,(.bool false)]) rfl rfl (by kernel_rfl)) ?_
       refine J 6 ?_
       refine .fp rfl rfl isAgg249 (by exact sizeOf249) Cells.a fun w s=>⟨(),?_,trivial,aq .auto s⟩
       simp[aQ,ep, *]
      ·refine JD 6 (fun h9=>?_) fun h9=>?_
       ·refine J 2 ?_
        first | refine ax.dK rfl (fun _=>?_) (fun hc=>absurd h9 hc) | refine ax.cond rfl (fun _=>?_) (fun hc=>by rw[h9] at hc;cases hc)
        refine J 2 ?_
        refine .p (.gB (fun v1 v2=>[v1,(.bool false),v2,(.bool false)]) rfl rfl (by kernel_rfl)) ?_
        refine J 6 ?_
        refine .fp rfl rfl isAgg249 (by exact sizeOf249) Cells.a fun w s=>⟨(),?_,trivial,aq .auto s⟩
        simp[aQ,ep, *]
       ·refine JD 6 (fun h9=>?_) fun h9=>?_
        ·refine J 2 ?_
         first | refine ax.dK rfl (fun _=>?_) (fun hc=>absurd h9 hc) | refine ax.cond rfl (fun _=>?_) (fun hc=>by rw[h9] at hc;cases hc)
         refine J 2 ?_
         refine .p (.gB (fun v1 v2=>[v1,(.bool false),v2,(.bool false)]) rfl rfl (by kernel_rfl)) ?_
         refine J 6 ?_
         refine .fp rfl rfl isAgg249 (by exact sizeOf249) Cells.a fun w s=>⟨(),?_,trivial,aq .auto s⟩
         simp[aQ,ep, *]
        ·refine JD 5 (fun h9=>?_) fun h9=>?_
         ·refine J 2 ?_
          refine .p (.gB (fun v1 v2=>[v1,(.bool false),v2,(.bool false)]) rfl rfl (by kernel_rfl)) ?_
          refine J 6 ?_
          refine .fp rfl rfl isAgg249 (by exact sizeOf249) Cells.a fun w s=>⟨(),?_,trivial,aq .auto s⟩
          simp[aQ,ep, *]
         ·refine JD 6 (fun h19=>?_) fun h19=>?_
          ·refine J 2 ?_
           refine .p (.iv (fun v1=>[(.int .i64 0),(.bool false),v1,(.bool false)]) rfl (by kernel_rfl)) ?_
           refine J 6 ?_
           refine .fp rfl rfl isAgg249 (by exact sizeOf249) Cells.a fun w s=>⟨(),?_,trivial,aq .auto s⟩
           simp[aQ,ep, *]
          ·refine JD 6 (fun h22=>?_) fun h22=>?_
           ·refine J 2 ?_
            refine .p (.gB (fun v1 v2=>[v1,(.bool false),v2,(.bool false)]) rfl rfl (by kernel_rfl)) ?_
            refine J 6 ?_
            refine .fp rfl rfl isAgg249 (by exact sizeOf249) Cells.a fun w s=>⟨(),?_,trivial,aq .auto s⟩
            simp[aQ,ep, *]
           ·refine JD 6 (fun h25=>?_) fun h25=>?_
            ·refine J 5 ?_
             refine .p (.gB (fun v1 v2=>[v1,(.bool false),v2,(.bool false)]) rfl rfl (by kernel_rfl)) ?_
             refine J 6 ?_
             refine .fp rfl rfl isAgg249 (by exact sizeOf249) Cells.a fun w s=>⟨(),?_,trivial,aq .auto s⟩
             simp[aQ,ep,bI.p, *]
            ·refine JD 7 (fun h31=>?_) fun h31=>?_
             ·refine J 2 ?_
              first | refine ax.dK rfl (fun _=>?_) (fun hc=>absurd h31 hc) | refine ax.cond rfl (fun _=>?_) (fun hc=>by rw[h31] at hc;cases hc)
              refine J 2 ?_
              refine .p (.gB (fun v1 v2=>[v1,(.bool false),v2,(.bool false)]) rfl rfl (by kernel_rfl)) ?_
              refine J 6 ?_
              refine .fp rfl rfl isAgg249 (by exact sizeOf249) Cells.a fun w s=>⟨(),?_,trivial,aq .auto s⟩
              simp[aQ,ep, *]
             ·refine JD 6 (fun h31=>?_) fun h31=>?_
              ·refine J 2 ?_
               first | refine ax.dK rfl (fun _=>?_) (fun hc=>absurd h31 hc) | refine ax.cond rfl (fun _=>?_) (fun hc=>by rw[h31] at hc;cases hc)
               refine J 2 ?_
               refine .p (.gB (fun v1 v2=>[v1,(.bool false),v2,(.bool false)]) rfl rfl (by kernel_rfl)) ?_
               refine J 6 ?_
               refine .fp rfl rfl isAgg249 (by exact sizeOf249) Cells.a fun w s=>⟨(),?_,trivial,aq .auto s⟩
               simp[aQ,ep, *]
              ·refine JD 6 (fun h31=>?_) fun h31=>?_
               ·refine J 2 ?_
                first | refine ax.dK rfl (fun _=>?_) (fun hc=>absurd h31 hc) | refine ax.cond rfl (fun _=>?_) (fun hc=>by rw[h31] at hc;cases hc)
                refine J 2 ?_
                refine .p (.gB (fun v1 v2=>[v1,(.bool false),v2,(.bool false)]) rfl rfl (by kernel_rfl)) ?_
                refine J 6 ?_
                refine .fp rfl rfl isAgg249 (by exact sizeOf249) Cells.a fun w s=>⟨(),?_,trivial,aq .auto s⟩
                simp[aQ,ep, *]
               ·refine JD 6 (fun h31=>?_) fun h31=>?_
                ·refine J 2 ?_
                 first | refine ax.dK rfl (fun _=>?_) (fun hc=>absurd h31 hc) | refine ax.cond rfl (fun _=>?_) (fun hc=>by rw[h31] at hc;cases hc)
                 refine J 2 ?_
                 refine .p (.gB (fun v1 v2=>[v1,(.bool false),v2,(.bool false)]) rfl rfl (by kernel_rfl)) ?_
                 refine J 6 ?_
                 refine .fp rfl rfl isAgg249 (by exact sizeOf249) Cells.a fun w s=>⟨(),?_,trivial,aq .auto s⟩
                 simp[aQ,ep, *]
                ·refine JD 5 (fun h31=>?_) fun h31=>?_
                 ·refine J 2 ?_
                  refine .p (.gB (fun v1 v2=>[v1,(.bool false),v2,(.bool false)]) rfl rfl (by kernel_rfl)) ?_
                  refine J 6 ?_
                  refine .fp rfl rfl isAgg249 (by exact sizeOf249) Cells.a fun w s=>⟨(),?_,trivial,aq .auto s⟩
                  simp[aQ,ep, *]
                 ·refine JD 6 (fun h38=>?_) fun h38=>?_
                  ·refine J 2 ?_
                   refine .p (.iv (fun v1=>[(.int .i64 0),(.bool false),v1,(.bool false)]) rfl (by kernel_rfl)) ?_
                   refine J 6 ?_
                   refine .fp rfl rfl isAgg249 (by exact sizeOf249) Cells.a fun w s=>⟨(),?_,trivial,aq .auto s⟩
                   simp[aQ,ep, *]
                  ·refine JD 7 (fun h41=>?_) fun h41=>?_
                   ·refine J 2 ?_
                    first | refine ax.dK rfl (fun _=>?_) (fun hc=>absurd h41 hc) | refine ax.cond rfl (fun _=>?_) (fun hc=>by rw[h41] at hc;cases hc)
                    refine J 4 ?_
                    refine .p (.iv (fun v1=>[(.int .i64 0),(.bool false),v1,(.bool false)]) rfl (by kernel_rfl)) ?_
                    refine J 6 ?_
                    refine .fp rfl rfl isAgg249 (by exact sizeOf249) Cells.a fun w s=>⟨(),?_,trivial,aq .auto s⟩
                    simp[aQ,ep,bI.p, *]
                   ·refine JD 5 (fun h41=>?_) fun h41=>?_
                    ·refine J 4 ?_
                     refine .p (.iv (fun v1=>[(.int .i64 0),(.bool false),v1,(.bool false)]) rfl (by kernel_rfl)) ?_
                     refine J 6 ?_
                     refine .fp rfl rfl isAgg249 (by exact sizeOf249) Cells.a fun w s=>⟨(),?_,trivial,aq .auto s⟩
                     simp[aQ,ep,bI.p, *]
                    ·refine JD 6 (fun h47=>?_) fun h47=>?_
                     ·refine J 4 ?_
                      refine .p (.gB (fun v1 v2=>[(.int .i64 0),v2,v1,(.bool false)]) rfl rfl (by kernel_rfl)) ?_
                      refine J 6 ?_
                      refine .fp rfl rfl isAgg249 (by exact sizeOf249) Cells.a fun w s=>⟨(),?_,trivial,aq .auto s⟩
                      simp[aQ,ep,bI.p, *]
                     ·refine JD 7 (fun h52=>?_) fun h52=>?_
                      ·refine J 2 ?_
                       first | refine ax.dK rfl (fun _=>?_) (fun hc=>absurd h52 hc) | refine ax.cond rfl (fun _=>?_) (fun hc=>by rw[h52] at hc;cases hc)
                       refine J 4 ?_
                       refine .p (.iv (fun v1=>[(.int .i64 0),(.bool false),v1,(.bool false)]) rfl (by kernel_rfl)) ?_
                       refine J 6 ?_
                       refine .fp rfl rfl isAgg249 (by exact sizeOf249) Cells.a fun w s=>⟨(),?_,trivial,aq .auto s⟩
                       simp[aQ,ep,bI.p, *]
                      ·refine JD 5 (fun h52=>?_) fun h52=>?_
                       ·refine J 4 ?_
                        refine .p (.iv (fun v1=>[(.int .i64 0),(.bool false),v1,(.bool false)]) rfl (by kernel_rfl)) ?_
                        refine J 6 ?_
                        refine .fp rfl rfl isAgg249 (by exact sizeOf249) Cells.a fun w s=>⟨(),?_,trivial,aq .auto s⟩
                        simp[aQ,ep,bI.p, *]
                       ·refine JD 7 (fun h58=>?_) fun h58=>?_
                        ·refine J 2 ?_
                         first | refine ax.dK rfl (fun _=>?_) (fun hc=>absurd h58 hc) | refine ax.cond rfl (fun _=>?_) (fun hc=>by rw[h58] at hc;cases hc)
                         refine J 5 ?_
                         refine .p (.iv (fun v1=>[(.int .i64 0),(.bool false),v1,(.bool false)]) rfl (by kernel_rfl)) ?_
                         refine J 6 ?_
                         refine .fp rfl rfl isAgg249 (by exact sizeOf249) Cells.a fun w s=>⟨(),?_,trivial,aq .auto s⟩
                         simp[aQ,ep,bI.p, *]
                        ·refine JD 5 (fun h58=>?_) fun h58=>?_
                         ·refine J 5 ?_
                          refine .p (.iv (fun v1=>[(.int .i64 0),(.bool false),v1,(.bool false)]) rfl (by kernel_rfl)) ?_
                          refine J 6 ?_
                          refine .fp rfl rfl isAgg249 (by exact sizeOf249) Cells.a fun w s=>⟨(),?_,trivial,aq .auto s⟩
                          simp[aQ,ep,bI.p, *]
                         ·refine JD 7 (fun h65=>?_) fun h65=>?_
                          ·refine J 2 ?_
                           first | refine ax.dK rfl (fun _=>?_) (fun hc=>absurd h65 hc) | refine ax.cond rfl (fun _=>?_) (fun hc=>by rw[h65] at hc;cases hc)
                           refine J 5 ?_
                           refine .p (.gB (fun v1 v2=>[v1,(.bool false),v2,(.bool false)]) rfl rfl (by kernel_rfl)) ?_
                           refine J 6 ?_
                           refine .fp rfl rfl isAgg249 (by exact sizeOf249) Cells.a fun w s=>⟨(),?_,trivial,aq .auto s⟩
                           simp[aQ,ep,bI.p, *]
                          ·refine JD 5 (fun h65=>?_) fun h65=>?_
                           ·refine J 5 ?_
                            refine .p (.gB (fun v1 v2=>[v1,(.bool false),v2,(.bool false)]) rfl rfl (by kernel_rfl)) ?_
                            refine J 6 ?_
                            refine .fp rfl rfl isAgg249 (by exact sizeOf249) Cells.a fun w s=>⟨(),?_,trivial,aq .auto s⟩
                            simp[aQ,ep,bI.p, *]
                           ·refine J 5 ?_
                            refine .p (.gB (fun v1 v2=>[v1,(.bool false),v2,(.bool false)]) rfl rfl (by kernel_rfl)) ?_
                            refine J 4 ?_
                            refine .fp rfl rfl isAgg249 (by exact sizeOf249) Cells.a fun w s=>⟨(),?_,trivial,aq .auto s⟩
                            simp[aQ,ep, *]
theorem zQ{W:World}{A:aa}{v:bI}(hp:eD W [A] v){i:Ins}(hb:(aQ v.p i.op).n≤9223372036854775807):Fn Tryz.prog W 106 [.agg (eg v).toArray,.agg (dC i).toArray] [A] Unit (fun _=>.bool (ey v.p i)) (fun _=>True) (fun _=>[A]):=by
 refine Fn.intro (N:=56) func106 rfl ntmps106 rfl fun F=>?_
 haveI hI1:∀ (H:List aa) [cf H A],aJ W H v.fv cj 1 v.fs:=fun H h=>⟨hp.fs.at h.has⟩
 haveI hI2:∀ (H:List aa) [cf H A],aJ W H v.sv aP 1 v.aT:=fun H h=>⟨hp.aT.at h.has⟩
 haveI hI3:∀ (H:List aa) [cf H A],aJ W H v.pv aP 1 v.aC:=fun H h=>⟨hp.aC.at h.has⟩
 show ax _ _ _ _ _ _ [A,F]
 refine J 2 ?_
 refine .aw rfl (af.box rfl rfl rfl) ?_
 rintro _ _ ⟨b2,rfl,rfl⟩
 refine .aw rfl (af.box rfl rfl rfl) ?_
 rintro _ _ ⟨b3,rfl,rfl⟩
 refine J 8 ?_
 refine .c call72 rfl nv fun _ _=>?_
 refine JD 3 (fun h10=>?_) fun h10=>?_
 ·refine J 7 ?_
  refine .aI rfl rfl fun w s=>⟨(),?_,trivial,aq .auto s⟩
  rw[ey,if_pos h10]
 ·refine J 7 ?_
  refine .c call154 rfl (Hn hp) fun _ _=>?_
  refine .aw rfl (af.alloc rfl zeroValue249 rfl) ?_
  rintro _ _ ⟨b5,rfl,rfl⟩
  refine J 10 ?_
  refine .c call155 rfl mh fun _ _=>?_
  refine JD 10 (fun h22=>?_) fun h22=>?_
  ·refine J 5 ?_
   apply aS.gr 6 32 26 [26,27,28,29,30,31,32] rfl
   ·intro h26
    exact JS 7
   ·intro h26
    exact JS 7
   refine J 10 ?_
   refine .c call155 rfl mh fun _ _=>?_
   refine J 1 ?_
   apply aS.iG 7 46 39 [39,40,41,42,43,44,45,46] rfl
   ·intro h39
    refine J 5 ?_
    refine .cg call155 rfl mh fun _ _=>?_
    exact JS 2
   ·intro h39
    exact JS 8
   refine J 1 ?_
   apply aS.iG 2 49 47 [47,48,49] rfl
   ·intro h47
    exact JS 3
   ·intro h47
    exact JS 3
   refine J 1 ?_
   apply aS.iG 5 55 50 [50,51,52,53,54,55] rfl
   ·intro h50
    refine J 3 ?_
    refine .cg call156 rfl (s5 hb) fun _ _=>?_
    exact JS 2
   ·intro h50
    exact JS 6
   refine J 4 ?_
   refine .aI rfl rfl fun w s=>⟨(),?_,trivial,aq .auto s⟩
   refine F6 ?_;rw[ey,if_neg h10];simp only[h22,if_true];try rfl
  ·refine J 9 ?_
   refine .c call155 rfl mh fun _ _=>?_
   refine J 1 ?_
   apply aS.iG 7 46 39 [39,40,41,42,43,44,45,46] rfl
   ·intro h39
    refine J 5 ?_
    refine .cg call155 rfl mh fun _ _=>?_
    exact JS 2
   ·intro h39
    exact JS 8
   refine J 1 ?_
   apply aS.iG 2 49 47 [47,48,49] rfl
   ·intro h47
    exact JS 3
   ·intro h47
    exact JS 3
   refine J 1 ?_
   apply aS.iG 5 55 50 [50,51,52,53,54,55] rfl
   ·intro h50
    refine J 3 ?_
    refine .cg call156 rfl (s5 hb) fun _ _=>?_
    exact JS 2
   ·intro h50
    exact JS 6
   refine J 4 ?_
   refine .aI rfl rfl fun w s=>⟨(),?_,trivial,aq .auto s⟩
   refine F6 ?_;rw[ey,if_neg h10];simp only[h22,if_false,Bool.false_eq_true];try rfl
theorem CB{W:World}{A:aa}{v:bI}(hp:eD W [A] v)(hl:v.fs.length≤1000000000∧v.aT.length≤1000000000∧v.aC.length≤1000000000):Fn Tryz.prog W 105 [.agg (eg v).toArray] [A] Unit (fun _=>.bool (ei v.p)) (fun _=>True) (fun _=>[A]):=by
 refine Fn.intro (N:=102) func105 rfl ntmps105 rfl fun F=>?_
 haveI hI1:∀ (H:List aa) [cf H A],aJ W H v.fv cj 1 v.fs:=fun H h=>⟨hp.fs.at h.has⟩
 haveI hI2:∀ (H:List aa) [cf H A],aJ W H v.sv aP 1 v.aT:=fun H h=>⟨hp.aT.at h.has⟩
 haveI hI3:∀ (H:List aa) [cf H A],aJ W H v.pv aP 1 v.aC:=fun H h=>⟨hp.aC.at h.has⟩
 show ax _ _ _ _ _ _ [A,F]
 refine J 2 ?_
 refine .aw rfl (af.box rfl rfl rfl) ?_
 rintro _ _ ⟨b1,rfl,rfl⟩
 refine J 10 ?_
 apply aS.gr 5 19 14 [14,15,16,17,18,19] rfl
 ·intro h14
  exact JS 6
 ·intro h14
  exact JS 6
 refine J 1 ?_
 apply aS.iG 4 24 20 [20,21,22,23,24] rfl
 ·intro h20
  refine J 2 ?_
  refine .cg call153 rfl fE fun _ _=>?_
  exact JS 2
 ·intro h20
  exact JS 5
 refine J 1 ?_
 apply aS.iG 4 29 25 [25,26,27,28,29] rfl
 ·intro h25
  refine J 2 ?_
  refine .cg call153 rfl fE fun _ _=>?_
  exact JS 2
 ·intro h25
  exact JS 5
 refine J 1 ?_
 apply aS.iG 4 34 30 [30,31,32,33,34] rfl
 ·intro h30
  refine J 2 ?_
  refine .cg call153 rfl fE fun _ _=>?_
  exact JS 2
 ·intro h30
  exact JS 5
 refine J 1 ?_
 apply aS.iG 4 39 35 [35,36,37,38,39] rfl
 ·intro h35
  refine J 2 ?_
  refine .cg call153 rfl fE fun _ _=>?_
  exact JS 2
 ·intro h35
  exact JS 5
 refine J 1 ?_
 apply aS.iG 4 44 40 [40,41,42,43,44] rfl
 ·intro h40
  refine J 2 ?_
  refine .cg call153 rfl fE fun _ _=>?_
  exact JS 2
 ·intro h40
  exact JS 5
 refine J 1 ?_
 apply aS.iG 5 50 45 [45,46,47,48,49,50] rfl
 ·intro h45
  exact JS 6
 ·intro h45
  exact JS 6
 refine J 1 ?_
 apply aS.iG 5 56 51 [51,52,53,54,55,56] rfl
 ·intro h51
  exact JS 6
 ·intro h51
  exact JS 6
 refine J 13 ?_
 refine .da (X:=Nat×Bool) [3,5,60,61,62,63,64,65,66,67,68,69,70] (fun z=>v.fs.length-z.1) (fun z=>z.1≤v.fs.length∧z.2=m3 v z.1) (fun z=>[(60,some (.int .i64 (z.1:Int))),(3,some (.bool z.2))]) (fun z=>[arr b1 0 (eg v),A,F]) (0,vv v) ?_ ?_ ?_ ?_
 ·exact⟨Nat.zero_le _,by simp[m3]⟩
 ·exact⟨rfl,rfl,trivial⟩
 ·exact fun w s=>aK.kept .auto w s
 rintro⟨k,y⟩ ⟨hk,hy⟩
 simp only at hk hy
 refine JD 6 (fun h61=>?_) fun h61=>?_
 ·refine J 6 ?_
  obtain⟨x,hx⟩:=aB (show k<v.fs.length by omega)
  have hi:=hp.ins x (List.mem_of_getElem? hx)
  haveI hI4:∀ (H:List aa) [cf H A],aJ W H x.1 dC 5 x.2:=fun H h=>⟨hi.at h.has⟩
  refine J 8 ?_
  apply aS.iG 4 69 65 [65,66,67,68,69] rfl
  ·intro h65
   exact JS 5
  ·intro h65
   exact JS 5
  refine J 8 ?_
  refine .bq (k+1,(y && decide ((x.2.length:Int)≤256))) .auto rfl ?_ ?_ ?_ ?_
  ·show v.fs.length-(k+1)<v.fs.length-k;omega
  ·refine⟨by show k+1≤_;omega,?_⟩
   rw[m3,ga hx,hy,m3]
   simp only[Bool.and_assoc]
  ·exact⟨rfl,rfl,trivial⟩
  ·exact fun w s=>aK.kept .auto w s
 ·refine J 15 ?_
  obtain rfl:k=v.fs.length:=by omega
  refine .da (X:=Nat×Bool) [3,7,74,75,76,77,78,79,80,81,82,83] (fun z=>v.aT.length-z.1) (fun z=>z.1≤v.aT.length∧z.2=m4 v z.1) (fun z=>[(74,some (.int .i64 (z.1:Int))),(3,some (.bool z.2))]) (fun z=>[arr b1 0 (eg v),A,F]) (0,y) ?_ ?_ ?_ ?_
  ·exact⟨Nat.zero_le _,by rw[m4,hy];simp⟩
  ·exact⟨rfl,rfl,trivial⟩
  ·exact fun w s=>aK.kept .auto w s
  rintro⟨k,y⟩ ⟨hk,hy⟩
  simp only at hk hy
  refine JD 6 (fun h75=>?_) fun h75=>?_
  ·refine J 6 ?_
   obtain⟨x,hx⟩:=aB (show k<v.aT.length by omega)
   refine J 8 ?_
   apply aS.iG 3 82 79 [79,80,81,82] rfl
   ·intro h79
    refine J 1 ?_
    refine .cg call153 rfl fE fun _ _=>?_
    exact JS 2
   ·intro h79
    exact JS 4
   refine J 8 ?_
   refine .bq (k+1,(y && within x 1048576)) .auto rfl ?_ ?_ ?_ ?_
   ·show v.aT.length-(k+1)<v.aT.length-k;omega
   ·refine⟨by show k+1≤_;omega,?_⟩
    rw[m4,ga hx,hy,m4]
    simp only[Bool.and_assoc]
   ·exact⟨rfl,rfl,trivial⟩
   ·exact fun w s=>aK.kept .auto w s
  ·refine J 15 ?_
   obtain rfl:k=v.aT.length:=by omega
   refine .da (X:=Nat×Bool) [3,9,87,88,89,90,91,92,93,94,95,96,97,98,99,100] (fun z=>v.aC.length-z.1) (fun z=>z.1≤v.aC.length∧z.2=m5 v z.1) (fun z=>[(87,some (.int .i64 (z.1:Int))),(3,some (.bool z.2))]) (fun z=>[arr b1 0 (eg v),A,F]) (0,y) ?_ ?_ ?_ ?_
   ·exact⟨Nat.zero_le _,by rw[m5,hy];simp⟩
   ·exact⟨rfl,rfl,trivial⟩
   ·exact fun w s=>aK.kept .auto w s
   rintro⟨k,y⟩ ⟨hk,hy⟩
   simp only at hk hy
   refine JD 6 (fun h88=>?_) fun h88=>?_
   ·refine J 6 ?_
    obtain⟨x,hx⟩:=aB (show k<v.aC.length by omega)
    refine J 8 ?_
    apply aS.iG 3 95 92 [92,93,94,95] rfl
    ·intro h92
     exact JS 4
    ·intro h92
     exact JS 4
    refine J 1 ?_
    apply aS.iG 3 99 96 [96,97,98,99] rfl
    ·intro h96
     refine J 1 ?_
     refine .cg call153 rfl fE fun _ _=>?_
     exact JS 2
    ·intro h96
     exact JS 4
    refine J 8 ?_
    refine .bq (k+1,((y && decide (0<x)) && within x 8)) .auto rfl ?_ ?_ ?_ ?_
    ·show v.aC.length-(k+1)<v.aC.length-k;omega
    ·refine⟨by show k+1≤_;omega,?_⟩
     rw[m5,ga hx,hy,m5]
     simp only[Bool.and_assoc]
    ·exact⟨rfl,rfl,trivial⟩
    ·exact fun w s=>aK.kept .auto w s
   ·refine J 12 ?_
    obtain rfl:k=v.aC.length:=by omega
    refine .aI rfl rfl fun w s=>⟨(),?_,trivial,aq .auto s⟩
    rw[hy,xi]
theorem zR{W:World}{A:aa}{v:bI}(hp:eD W [A] v)(hl:v.fs.length≤1000000000∧v.aT.length≤1000000000∧v.aC.length≤1000000000):Fn Tryz.prog W 57 [.agg (eg v).toArray] [A] Unit (fun _=>.int .i64 (cK v.p)) (fun _=>True) (fun _=>[A]):=by
 refine Fn.intro (N:=29) func57 rfl ntmps57 rfl fun F=>?_
 haveI hI1:∀ (H:List aa) [cf H A],aJ W H v.fv cj 1 v.fs:=fun H h=>⟨hp.fs.at h.has⟩
 haveI hI2:∀ (H:List aa) [cf H A],aJ W H v.sv aP 1 v.aT:=fun H h=>⟨hp.aT.at h.has⟩
 haveI hI3:∀ (H:List aa) [cf H A],aJ W H v.pv aP 1 v.aC:=fun H h=>⟨hp.aC.at h.has⟩
 show ax _ _ _ _ _ _ [A,F]
 refine J 2 ?_
 refine .aw rfl (af.box rfl rfl rfl) ?_
 rintro _ _ ⟨b1,rfl,rfl⟩
 refine J 7 ?_
 refine .c call105 rfl (CB hp hl) fun _ _=>?_
 refine JD 3 (fun h9=>?_) fun h9=>?_
 ·refine J 7 ?_
  rw[Bool.not_eq_true'] at h9
  refine .aI rfl rfl fun w s=>⟨(),?_,trivial,aq .auto s⟩
  refine jt ?_;unfold cK;rw[if_neg (by rw[h9];simp)]
 ·refine J 12 ?_
  rw[Bool.not_eq_false'] at h9
  refine .da (X:=Nat) [2,4,6,13,14,15,16,17,18,19,20,21,22,23,24,25,26,27,28] (fun k=>v.fs.length-k) (fun k=>k≤v.fs.length∧(v.fs.take k).all (fun f:Value×List Ins=>f.2.all (ey v.p))=true) (fun k=>[(13,some (.int .i64 (k:Int)))]) (fun k=>[arr b1 0 (eg v),A,F]) 0 ?_ ?_ ?_ ?_
  ·exact⟨Nat.zero_le _,rfl⟩
  ·exact⟨rfl,trivial⟩
  ·exact fun w s=>aK.kept .auto w s
  rintro k ⟨hk,hs⟩
  refine JD 6 (fun h14=>?_) fun h14=>?_
  ·refine J 6 ?_
   obtain⟨x,hx⟩:=aB (show k<v.fs.length by omega)
   have hi:=hp.ins x (List.mem_of_getElem? hx)
   haveI hI4:∀ (H:List aa) [cf H A],aJ W H x.1 dC 5 x.2:=fun H h=>⟨hi.at h.has⟩
   have hx256:x.2.length≤256:=vx h9 (List.mem_of_getElem? hx)
   refine J 13 ?_
   refine .da (X:=Nat) [2,6,19,20,21,22,23,24,25,26,27] (fun j=>x.2.length-j) (fun j=>j≤x.2.length∧(x.2.take j).all (ey v.p)=true) (fun j=>[(19,some (.int .i64 (j:Int)))]) (fun j=>[arr b1 0 (eg v),A,F]) 0 ?_ ?_ ?_ ?_
   ·exact⟨Nat.zero_le _,rfl⟩
   ·exact⟨rfl,trivial⟩
   ·exact fun w s=>aK.kept .auto w s
   rintro j ⟨hj0,hsj⟩
   refine JD 6 (fun h20=>?_) fun h20=>?_
   ·refine J 6 ?_
    obtain⟨i,hj⟩:=aB (show j<x.2.length by omega)
    refine J 2 ?_
    refine .aw rfl (af.alloc rfl zeroValue131 rfl) ?_
    rintro _ _ ⟨b6,rfl,rfl⟩
    refine J 7 ?_
    refine .c call106 rfl (zQ hp (BC h9 _)) fun _ _=>?_
    refine JD 3 (fun h26=>?_) fun h26=>?_
    ·refine J 15 ?_
     rw[Bool.not_eq_true'] at h26
     refine .aI rfl rfl fun w s=>⟨(),?_,trivial,aq .auto s⟩
     exact jt (tN h9 hx hj h26).symm
    ·refine J 7 ?_
     rw[Bool.not_eq_false'] at h26
     refine .bq (j+1) .auto rfl ?_ ?_ ?_ ?_
     ·first | omega | (dsimp only;omega)
     ·exact⟨by omega,by rw[ga hj,hsj,h26];rfl⟩
     ·exact⟨rfl,trivial⟩
     ·exact fun w s=>aK.kept .auto w s
   ·refine J 10 ?_
    obtain rfl:j=x.2.length:=by omega
    rw[List.take_length] at hsj
    refine .bq (k+1) .auto rfl ?_ ?_ ?_ ?_
    ·first | omega | (dsimp only;omega)
    ·exact⟨by omega,by rw[ga hx,hs,hsj];rfl⟩
    ·exact⟨rfl,trivial⟩
    ·exact fun w s=>aK.kept .auto w s
  ·refine J 11 ?_
   obtain rfl:k=v.fs.length:=by omega
   rw[List.take_length] at hs
   refine .aI rfl rfl fun w s=>⟨(),?_,trivial,aq .auto s⟩
   exact jt (xj h9 hs).symm
end Go.SLYtefdijgllbkmfaaGreat
namespace Go.SLYtefdijgllbkmfaaGreat
open Go Go.RowKit Go.Proofs Go.Proofs.Tryz
attribute [local irreducible] ax aS bo bY bP Y
theorem ny{W:World}{n m:Int}:Fn Tryz.prog W 107 [.int .i64 n,.int .i64 m] [] Unit (fun _=>.int .i64 (aZ n m)) (fun _=>True) (fun _=>[]):=by
 refine Fn.intro (N:=9) func107 rfl ntmps107 rfl fun F=>?_
 show ax _ _ _ _ _ _ [F]
 refine J 8 ?_
 refine .p (.An rfl rfl) ?_
 refine J 1 ?_
 refine .p (.qq rfl rfl) ?_
 exact JR 4 ()
theorem Fj{W:World}{n:Int}:Fn Tryz.prog W 58 [.int .i64 n] [] Nat (fun b=>ptr b) (fun _=>True) (fun b=>[lJ b (List.replicate (aZ n 1024).toNat (false,0))]):=by
 refine Fn.intro (N:=9) func58 rfl ntmps58 rfl fun F=>?_
 show ax _ _ _ _ _ _ [F]
 refine J 8 ?_
 refine .p (.An rfl rfl) ?_
 refine .p (.qq rfl rfl) ?_
 have hc:(aZ n 1024).toNat≤1024:=by unfold aZ;omega
 refine .aw rfl (af.Ip (enc:=F2) (k:=2) (false,0) (aZ n 1024).toNat rfl underlying188 typeInfo255 rfl rfl rfl rfl (by decide) (by decide) rfl rfl (by unfold aZ;omega) (by unfold aZ;omega) (by omega)) ?_
 rintro _ _ ⟨b6,rfl,rfl⟩
 refine .p (.iv (fun v1=>[v1]) rfl (by kernel_rfl)) ?_
 refine .aw rfl (af.box rfl rfl rfl) ?_
 rintro _ _ ⟨b8,rfl,rfl⟩
 exact JR 4 b8
theorem Fk{W:World}{n:Int}:Fn Tryz.prog W 60 [.int .i64 n] [] Nat (fun b=>ptr b) (fun _=>True) (fun b=>[pA b (jB.new n)]):=by
 refine Fn.intro (N:=9) func60 rfl ntmps60 rfl fun F=>?_
 show ax _ _ _ _ _ _ [F]
 refine J 8 ?_
 refine .p (.An rfl rfl) ?_
 refine .p (.qq rfl rfl) ?_
 have hc:(aZ n 64).toNat≤64:=by unfold aZ;omega
 refine .aw rfl (af.Ip (enc:=cM) (k:=1) (0:Int) (aZ n 64).toNat rfl underlying55 typeInfo38 rfl rfl rfl rfl (by decide) (by decide) rfl rfl (by unfold aZ;omega) (by unfold aZ;omega) (by omega)) ?_
 rintro _ _ ⟨b6,rfl,rfl⟩
 refine .p (.iv (fun v1=>[v1,(.slice none 0 0)]) rfl (by kernel_rfl)) ?_
 refine .aw rfl (af.box rfl rfl rfl) ?_
 rintro _ _ ⟨b8,rfl,rfl⟩
 exact JR 4 b8
theorem Fl{W:World}{n:Int}:Fn Tryz.prog W 64 [.int .i64 n] [] Nat (fun b=>ptr b) (fun _=>True) (fun b=>[ib b (Tub.new n)]):=by
 refine Fn.intro (N:=8) func64 rfl ntmps64 rfl fun F=>?_
 show ax _ _ _ _ _ _ [F]
 refine J 8 ?_
 refine .p (.An rfl rfl) ?_
 refine .p (.qq rfl rfl) ?_
 refine .p (.iv (fun v1=>[v1,(.slice none 0 0),(.slice none 0 0),(.slice none 0 0)]) rfl (by kernel_rfl)) ?_
 refine .aw rfl (af.box rfl rfl rfl) ?_
 rintro _ _ ⟨b7,rfl,rfl⟩
 exact JR 4 b7
theorem CC{W:World}  : Fn Tryz.prog W 61 [] [] Nat (fun b=>ptr b) (fun _=>True) (fun b=>[nN b jW.new]):=by
 refine Fn.intro (N:=4) func61 rfl ntmps61 rfl fun F=>?_
 show ax _ _ _ _ _ _ [F]
 refine J 7 ?_
 refine .aw rfl (af.makeMap rfl) ?_
 rintro _ _ ⟨m1,rfl,rfl⟩
 refine .p (.iv (fun v1=>[(.int .i64 0),v1]) rfl (by kernel_rfl)) ?_
 refine .aw rfl (af.box rfl rfl rfl) ?_
 rintro _ _ ⟨b3,rfl,rfl⟩
 refine J 4 ?_
 refine .to (A:=mZ m1 []) (Bs:=[iS m1 (.map #[] 0)]) .auto (fun h a=>⟨[],0,⟨rfl,List.nodup_nil,fun e he=>(by cases he),List.nodup_nil⟩,a⟩) ?_
 exact JR 0 b3
theorem qJ{W:World}{o:Bool×Int}{n:Nat}(ho:0≤o.2∧o.2<2199023255552)(hn:n<65536):Fn Tryz.prog W 157 [.agg (F2 o).toArray,.int .i64 (n:Int)] [] Unit (fun _=>.int .u64 (dn o.2 n)) (fun _=>True) (fun _=>[]):=by
 refine Fn.intro (N:=12) func157 rfl ntmps157 rfl fun F=>?_
 show ax _ _ _ _ _ _ [F]
 refine J 2 ?_
 refine .aw rfl (af.box rfl rfl rfl) ?_
 rintro _ _ ⟨b2,rfl,rfl⟩
 refine J 7 ?_
 refine .p (.K2 rfl rfl (by omega)) ?_
 refine J 1 ?_
 refine .p (.fY underlying3 underlying38 rfl (by omega)) ?_
 refine .p (.C4 rfl rfl (by omega)) ?_
 refine .p (.C4 rfl rfl (by omega)) ?_
 exact JR 4 ()
theorem CD{W:World}{b:Nat}{l:List (Bool×Int)}(hl:iW l):Fn Tryz.prog W 108 [ptr b] [lJ b l] Unit (fun _=>.tuple #[.int .i64 (eE l).1,.int .u64 (eE l).2.1,.int .i64 (eE l).2.2.1]) (fun _=>True) (fun _=>[lJ b (eE l).2.2.2]):=by
 refine Fn.intro (N:=45) func108 rfl ntmps108 rfl fun F=>?_
 show ax _ _ _ _ _ _ [lJ b l,F]
 refine .o1 (C:=lJ b l) .auto rfl ?_
 rintro v -
 obtain⟨hl1,hl2⟩:=hl
 refine J 14 ?_
 refine .nE rfl ?_
 refine J 14 ?_
 refine .da (X:=Nat) [2,3,4,5,6,14,15,16,17,18,19,20,21,22,23,24,25,26,27,28,29,30,31,32,33,34,35,36,37,38,39,40,41,42,43,44] (fun k=>l.length-k) (fun k=>k≤l.length∧slotFree? l 0=slotFree? (l.drop k) k) (fun k=>[(14,some (.int .i64 (k:Int)))]) (fun k=>[arr b 0 [v],sl F2 2 v l,F]) 0 ?_ ?_ ?_ ?_
 ·exact⟨Nat.zero_le _,by simp⟩
 ·exact⟨rfl,trivial⟩
 ·exact fun w s=>aK.kept .auto w s
 rintro k ⟨hk,hn⟩
 refine JD 6 (fun h15=>?_) fun h15=>?_
 ·refine J 17 ?_
  obtain⟨o,hx⟩:=aB (show k<l.length by omega)
  have ho:=hl2 o (List.mem_of_getElem? hx)
  refine JD 13 (fun h27=>?_) fun h27=>?_
  ·refine J 2 ?_
   have hu:o.1=false:=by simpa using h27
   obtain⟨o1,o2⟩:=o
   have hu:o1=false:=hu
   subst hu
   have hx2:(l.set k (true,o2))[k]?=some (true,o2):=xf hx
   have hx3:((l.set k (true,o2)).set k (true,o2+1))[k]?=some (true,o2+1):=xf hx2
   refine J 3 ?_
   refine .aw rfl (af.gE (x':=(true,o2)) rfl rfl sizeOf4 rfl hx (by decide) rfl (by repeat (first | exact gA.here | apply gA.there))) ?_
   rintro _ _ ⟨rfl,rfl⟩
   refine J 7 ?_
   refine .p (.ld rfl (Cell.rd Rd.s ‹_› (by rfl))) ?_
   refine .p (.C4 rfl rfl (by simp only at ho;omega)) ?_
   refine J 2 ?_
   refine .aw rfl (af.Aj (c:=1) (x':=(true,o2+1)) rfl rfl sizeOf38 rfl hx2 (by decide) rfl (by repeat (first | exact gA.here | apply gA.there))) ?_
   rintro _ _ ⟨rfl,rfl⟩
   refine J 9 ?_
   refine .c call157 rfl (qJ (o:=(true,o2+1)) (n:=k) (by simp only at ho ⊢;omega) (by omega)) fun _ _=>?_
   refine J 11 ?_
   have e:eE l=((k:Int),dn (o2+1) k,0,(l.set k (true,o2)).set k (true,o2+1)):=by
    unfold eE;rw[hn,Dx hx rfl];simp only[List.getD_eq_getElem?_getD,hx,List.set_set];rfl
   rw[e]
   refine .lF rfl rfl rfl rfl fun w s=>⟨(),?_,trivial,aq .auto s⟩
   rfl
  ·refine J 7 ?_
   refine .bq (k+1) .auto rfl ?_ ?_ ?_ ?_
   ·first | omega | (dsimp only;omega)
   ·exact⟨by omega,hn.trans (BG hx (by simpa using h27))⟩
   ·exact⟨rfl,trivial⟩
   ·exact fun w s=>aK.kept .auto w s
 ·refine J 13 ?_
  rw[show eE l=(0,0,2,l) from by unfold eE;rw[hn,Dy (by omega)]]
  refine .lF rfl rfl rfl rfl fun w s=>⟨(),?_,trivial,aq .auto s⟩
  rfl
theorem s6{W:World}{b:Nat}{ps:List (Option Nat)}{s:Spc}{f arg:Int}(hT:iW s.table)(hl:s.thr.length=16)(hf:∀ n,slotFree? s.table 0=some n→s.thr[n]?=some none):Fn Tryz.prog W 65 [ptr b,.int .i64 f,.int .u64 arg] [dE b ps s] (List (Option Nat)) (fun _=>.tuple #[.int .i64 (s.begin f arg).1,.int .i64 (s.begin f arg).2.1]) (fun qs=>∃ p,qs=mn s.table ps p) (fun qs=>[dE b qs (s.begin f arg).2.2]):=by
 refine Fn.intro (N:=45) func65 rfl ntmps65 rfl fun F=>?_
 show ax _ _ _ _ _ _ [dE b ps s,F]
 refine .jR (C:=dE b ps s) .auto rfl ?_
 rintro fv sv pv bt vm bg vt bd bw vr -
 refine .fo (fun w s=>s.fact .auto mm) fun hs=>?_
 refine J 12 ?_
 refine .c call108 rfl (CD hT) fun _ _=>?_
 refine JD 16 (fun h22=>?_) fun h22=>?_
 ·refine J 9 ?_
  obtain⟨hn,e⟩:=xn h22
  rw[e,iX hn]
  refine .ef rfl rfl rfl fun w s=>⟨ps,?_,⟨0,by unfold mn;rw[hn]⟩,aq .auto s⟩
  rfl
 ·refine J 4 ?_
  obtain⟨n,hn,e⟩:=xl (Decidable.of_not_not h22)
  have hfn:=hf n hn
  have hn16:n<16:=hl ▸ (List.getElem?_eq_some_iff.1 hfn).1
  rw[e,dU hn]
  refine J 1 ?_
  refine .p (.F0 (fun v1 v2 v3=>[(.int .i64 0),(.int .i64 0),(.int .u64 0),(.int .u64 0),(.int .u64 0),(.int .u64 0),(.int .u64 0),(.int .u64 0),(.int .u64 0),(.int .u64 0),v1,(.int .i64 0),(.int .u64 0),(.bool false),v2,(.int .i64 0),v3,(.int .u64 0)]) rfl rfl rfl (by kernel_rfl)) ?_
  refine .aw rfl (af.box rfl rfl rfl) ?_
  rintro _ _ ⟨b26,rfl,rfl⟩
  refine J 20 ?_
  refine .p (.aF _ underlying39 sizeOf38 rfl rfl rfl (by first | omega | decide)) ?_
  refine J 10 ?_
  refine .p (.aF n underlying123 sizeOf122 rfl rfl rfl (by omega)) ?_
  refine .aw rfl (af.st sizeOf122 rfl rfl rfl (Nat.blt_eq.mpr (by show 9+n * 1<31;omega))) ?_
  rintro _ _ ⟨rfl,rfl⟩
  rw[Nat.mul_one]
  have e9:=@xk fv sv pv s.dG bt ps vm bg vt bd bw vr n (by omega) (hs.1.trans hl) (some b26)
  rw[show iw (some b26)=Value.pointer (some ⟨b26,0,none⟩) from rfl] at e9
  rw[e9]
  refine J 10 ?_
  refine .to (A:=aG (ps.set n (some b26)) (s.thr.set n (some (mM f arg (dn ((s.table.getD n (false,0)).2+1) n))))) (Bs:=[arr b26 0 (bH (mM f arg (dn ((s.table.getD n (false,0)).2+1) n))),aG ps s.thr]) .auto (Dz hfn) ?_
  refine .ef rfl rfl rfl fun w s=>⟨ps.set n (some b26),?_,⟨b26,by unfold mn;rw[hn]⟩,aq .auto s⟩
  rfl
theorem Fm{W:World}{A:aa}{m c:Int}{v:Value}{aT:List Int}(hr:Rd W [A] aP 1 v aT):Fn Tryz.prog W 59 [.int .i64 m,.int .i64 c,v] [A] Nat (fun b=>ptr b) (fun _=>True) (fun b=>[cZ b (Gates.new m c aT),A]):=by
 refine Fn.intro (N:=42) func59 rfl ntmps59 rfl fun F=>?_
 haveI hRI:∀ (H:List aa) [cf H A],aJ W H v aP 1 aT:=fun H h=>⟨hr.at h.has⟩
 show ax _ _ _ _ _ _ [A,F]
 refine J 6 ?_
 refine .w9 [] [0,2,4,0,2,4,0,4,0] [0,1,3,4,2,5,6,7,8] rfl (by kernel_rfl) ?_
 refine bP.q rfl rfl rfl Kept.auto (Y.m rfl) ?_
 refine bP.fQ rfl (.inl rfl) rfl (fun _=>Kept.auto) call107 rfl ny .auto (fun _ _=>Kept.auto) ?_
 rintro⟨⟩ -
 refine bP.q rfl rfl rfl Kept.auto (Y.m rfl) ?_
 refine bP.fQ rfl (.inl rfl) rfl (fun _=>Kept.auto) call107 rfl ny .auto (fun _ _=>Kept.auto) ?_
 rintro⟨⟩ -
 refine bP.fresh rfl rfl rfl (by decide) Kept.auto (ft (enc:=ly) (k:=3) ((Value.slice none 0 0:Value),(⟨[],false,0⟩:dt)) (aZ m 4).toNat underlying191 typeInfo278 rfl rfl rfl rfl (by decide) (by decide) rfl rfl (by unfold aZ;omega) (by unfold aZ;omega) (by unfold aZ;omega)) ?_
 rintro b12
 refine bP.fresh rfl rfl rfl (by decide) Kept.auto (ft (enc:=cj) (k:=1) ((Value.slice none 0 0:Value),([]:List dc)) (aZ c 4).toNat underlying192 typeInfo198 rfl rfl rfl rfl (by decide) (by decide) rfl rfl (by unfold aZ;omega) (by unfold aZ;omega) (by unfold aZ;omega)) ?_
 rintro b15
 refine bP.q rfl rfl rfl Kept.auto (Y.gB (fun v1 v2=>[v1,v2,(.slice none 0 0)]) rfl rfl (by kernel_rfl)) ?_
 refine bP.fresh rfl rfl rfl (by decide) Kept.auto (pD rfl rfl) ?_
 rintro b17
 refine bP.q rfl rfl rfl Kept.auto (Y.a rfl) ?_
 refine bP.nil ?_
 refine J 4 ?_
 refine .to (A:=sl ly 3 (.slice (some ⟨b12,0,none⟩) (aZ m 4).toNat (aZ m 4).toNat) (List.replicate (aZ m 4).toNat ((Value.slice none 0 0:Value),(⟨[],false,0⟩:dt)))) .auto (jC rfl) ?_
 refine .to (A:=sl cj 1 (.slice (some ⟨b15,0,none⟩) (aZ c 4).toNat (aZ c 4).toNat) (List.replicate (aZ c 4).toNat ((Value.slice none 0 0:Value),([]:List dc)))) .auto (jC rfl) ?_
 have hr4:=hr.cut (lo:=0) (hi:=min aT.length 4) (Nat.zero_le _) (by omega)
 rw[List.drop_zero,show aT.take (min aT.length 4)=aT.take 4 from by rw[List.take_eq_take_iff];omega] at hr4
 haveI hI4:∀ (H:List aa) [cf H A],aJ W H (cut 1 0 (min aT.length 4) v) aP 1 (aT.take 4):=fun H h=>⟨hr4.at h.has⟩
 refine J 3 ?_
 refine .p (.qq rfl rfl) ?_
 refine .p (.sliceTo (min aT.length 4) underlying23 sizeOf3 rfl rfl Rd.s (by omega) (by omega)) ?_
 refine J 5 ?_
 refine .da (X:=Nat×Value) [9,24,25,26,27,28,29,30,31,32,33,34,35,36,37,38,39,40] (fun z=>(aT.take 4).length-z.1) (fun z=>z.1≤(aT.take 4).length) (fun z=>[(24,some (.int .i64 (z.1:Int)))]) (fun z=>[arr b17 0 [.slice (some ⟨b12,0,none⟩) (aZ m 4).toNat (aZ m 4).toNat,.slice (some ⟨b15,0,none⟩) (aZ c 4).toNat (aZ c 4).toNat,z.2],sl lK 2 z.2 (((aT.take 4).take z.1).map (fun n=>((Value.slice none 0 0:Value),(⟨[],aZ n 1048576⟩:jr)))),sl ly 3 (.slice (some ⟨b12,0,none⟩) (aZ m 4).toNat (aZ m 4).toNat) (List.replicate (aZ m 4).toNat ((Value.slice none 0 0:Value),(⟨[],false,0⟩:dt))),sl cj 1 (.slice (some ⟨b15,0,none⟩) (aZ c 4).toNat (aZ c 4).toNat) (List.replicate (aZ c 4).toNat ((Value.slice none 0 0:Value),([]:List dc))),A,F]) (0,.slice none 0 0) ?_ ?_ ?_ ?_
 ·exact Nat.zero_le _
 ·exact⟨rfl,trivial⟩
 ·exact fun w s=>aK.kept .auto w s
 rintro⟨k,u⟩ hk
 simp only at hk
 have h4:(aT.take 4).length≤4:=by simp;omega
 have h44:((aT.take 4).take k).length≤4:=by simp;omega
 refine JD 6 (fun h25=>?_) fun h25=>?_
 ·refine J 6 ?_
  obtain⟨x,hx⟩:=aB (show k<(aT.take 4).length by omega)
  refine J 5 ?_
  refine .draw [arr b17 0 [.slice (some ⟨b12,0,none⟩) (aZ m 4).toNat (aZ m 4).toNat,.slice (some ⟨b15,0,none⟩) (aZ c 4).toNat (aZ c 4).toNat,u]] [0,0,0,0,0,1,2,1,2,2,1,1,3] rfl (by kernel_rfl) ?_
  refine J 6 ?_
  refine .c2 call107 rfl ny fun _ _=>?_
  refine .p (.iv (fun v1=>[(.slice none 0 0),v1]) rfl (by kernel_rfl)) ?_
  refine .d2 rfl Kept.auto (af.gN 200 rfl rfl (by kernel_rfl)) (by rintro _ _ ⟨b36,rfl,rfl⟩;exact Kept.auto) ?_
  rintro _ _ ⟨b36,rfl,rfl⟩
  refine .d2 rfl Kept.auto (af.fb (enc:=lK) (k:=2) ((Value.slice none 0 0:Value),(⟨[],aZ x 1048576⟩:jr)) rfl underlying193 underlying193 typeInfo200 rfl rfl rfl (by decide) rfl rfl rfl .auto rfl .auto (by rw[List.length_map];dsimp only;omega) rfl) (by rintro _ _ ⟨v37,rfl,rfl⟩;exact Kept.auto) ?_
  rintro _ _ ⟨v37,rfl,rfl⟩
  refine J 2 ?_
  refine .d3 rfl (af.pn sizeOf193 rfl rfl rfl) ?_
  rintro _ _ ⟨rfl,rfl⟩
  refine J 7 ?_
  refine .bq (k+1,v37) .auto rfl ?_ ?_ ?_ ?_
  ·show(aT.take 4).length-(k+1)<(aT.take 4).length-k;omega
  ·show k+1≤_;omega
  ·exact⟨rfl,trivial⟩
  ·show ∀ w,Sat _ w _→Sat _ w (seps [_,sl lK 2 v37 (((aT.take 4).take (k+1)).map (fun n=>((Value.slice none 0 0:Value),(⟨[],aZ n 1048576⟩:jr)))),_,_,A,F])
   rw[zd hx]
   exact fun w s=>aK.kept .auto w s
 ·refine J 12 ?_
  obtain rfl:k=(aT.take 4).length:=by omega
  rw[List.take_length]
  refine .aI rfl rfl fun w s=>⟨b17,?_,trivial,aq (by repeat (first | exact aK.nil | (apply aK.cons; · repeat (first | exact Take.here | apply Take.there)) | apply aK.J2 | apply aK.J3 | apply aK.void | apply aK.J0 | apply aK.two | (apply aK.J1; · exact nH) | (apply aK.allM; · exact fun _=>nH) | apply aK.f1 rfl | apply aK.f2 rfl | apply aK.f3 rfl | apply aK.f4 rfl | apply aK.f10 rfl | apply aK.kL | assumption | exact trivial | rfl | omega | (focus (simp[Gates.new];done)) | (unfold Gates.new;simp only[List.map_map];rfl))) s⟩
  rfl
theorem Fo{W:World}{A:aa}{v:bI}(hp:eD W [A] v)(hl:v.fs.length≤1000000000∧v.aT.length≤1000000000∧v.aC.length≤1000000000):Fn Tryz.prog W 9 [.agg (eg v).toArray] [A] (Option Nat) (fun o=>.tuple #[iw o,.int .i64 (cK v.p)]) (fun o=>o.isSome=decide (cK v.p=0)) (fun o=>[optH (fun b=>dx b (Spc.new v.p)) o,A]):=by
 refine Fn.intro (N:=83) func9 rfl ntmps9 rfl fun F=>?_
 haveI hI1:∀ (H:List aa) [cf H A],aJ W H v.fv cj 1 v.fs:=fun H h=>⟨hp.fs.at h.has⟩
 haveI hI2:∀ (H:List aa) [cf H A],aJ W H v.sv aP 1 v.aT:=fun H h=>⟨hp.aT.at h.has⟩
 haveI hI3:∀ (H:List aa) [cf H A],aJ W H v.pv aP 1 v.aC:=fun H h=>⟨hp.aC.at h.has⟩
 show ax _ _ _ _ _ _ [A,F]
 refine .fo (fun w s=>F7 hp .here w s) fun hone=>?_
 refine J 2 ?_
 refine .aw rfl (af.box rfl rfl rfl) ?_
 rintro _ _ ⟨b1,rfl,rfl⟩
 refine J 8 ?_
 refine .c call57 rfl (zR hp hl) fun _ _=>?_
 refine JD 9 (fun h13=>?_) fun h13=>?_
 ·refine J 9 ?_
  refine .ef rfl rfl rfl fun w s=>⟨none,?_,(decide_eq_false h13).symm,aq .auto s⟩
  rfl
 ·refine J 3 ?_
  refine .w9 [arr b1 0 (eg v)] [0,2,0,0,4,0,0,0,0,0,0,2,0,0,2,2,0,4,0] [0,1,2,3,5,6,7,8,9,10,11,12,13,14,15,4,16,17,18] rfl (by kernel_rfl) ?_
  have hcs:=nT (m7 (Decidable.of_not_not h13))
  have hw:0≤v.words∧v.words≤64:=hcs.2.2.1
  have hf8:v.fs.length≤8:=by simpa [bI.p] using hcs.2.1
  have hp4:v.aC.length≤4:=hcs.2.2.2.2.2.2.2.2.1
  refine bP.q rfl rfl rfl Kept.auto (Y.FP isAgg25 rfl Cells.a (by exact sizeOf25)) ?_
  refine bP.fQ rfl (.inl rfl) rfl (fun _=>Kept.auto) call58 rfl Fj .auto (fun _ _=>Kept.auto) ?_
  rintro x16 -
  refine bP.q rfl rfl rfl Kept.auto (Y.cY 1 3 underlying25 rfl sizeOf3 rfl) ?_
  refine bP.q rfl rfl rfl Kept.auto (Y.load isAgg3 rfl (Cell.a (by rfl))) ?_
  refine bP.q rfl rfl rfl Kept.auto (Y.cY 2 3 underlying25 rfl sizeOf3 rfl) ?_
  refine bP.q rfl rfl rfl Kept.auto (Y.load isAgg3 rfl (Cell.a (by rfl))) ?_
  refine bP.q rfl rfl rfl Kept.auto (Y.cY 3 3 underlying25 rfl sizeOf3 rfl) ?_
  refine bP.q rfl rfl rfl Kept.auto (Y.load isAgg3 rfl (Cell.a (by rfl))) ?_
  refine bP.q rfl rfl rfl Kept.auto (Y.cY 4 23 underlying25 rfl sizeOf23 rfl) ?_
  refine bP.q rfl rfl rfl Kept.auto (Y.load isAgg23 rfl (Cell.a (by rfl))) ?_
  refine bP.fQ rfl (.inl rfl) rfl (fun _=>Kept.auto) call59 rfl (Fm hp.aT) .auto (fun _ _=>Kept.auto) ?_
  rintro x26 -
  refine bP.q rfl rfl rfl Kept.auto (Y.cY 6 3 underlying25 rfl sizeOf3 rfl) ?_
  refine bP.q rfl rfl rfl Kept.auto (Y.load isAgg3 rfl (Cell.a (by rfl))) ?_
  refine bP.fQ rfl (.inl rfl) rfl (fun _=>Kept.auto) call60 rfl Fk .auto (fun _ _=>Kept.auto) ?_
  rintro x29 -
  refine bP.fQ rfl (.inl rfl) rfl (fun _=>Kept.auto) call61 rfl CC .auto (fun _ _=>Kept.auto) ?_
  rintro x30 -
  refine bP.fresh rfl rfl rfl (by decide) Kept.auto (ft (enc:=cM) (k:=1) 0 v.words.toNat underlying55 typeInfo38 rfl rfl rfl rfl (by decide) (by decide) rfl rfl (by omega) (by omega) (by omega)) ?_
  rintro b19
  refine bP.q rfl rfl rfl Kept.auto (Y.Io (fun _ v2 v3 v4 v5 v6=>[v.fv,.int .i64 v.words,.int .i64 v.ay,.int .i64 v.conds,v.sv,v.pv,.int .i64 v.blocks,.int .i64 v.prio,v2,.pointer none,.pointer none,.pointer none,.pointer none,.pointer none,.pointer none,.pointer none,.pointer none,.pointer none,.pointer none,.pointer none,.pointer none,.pointer none,.pointer none,.pointer none,.pointer none,v3,v4,.slice none 0 0,v5,v6,.slice none 0 0]) rfl rfl rfl rfl rfl rfl (by kernel_rfl)) ?_
  refine bP.fresh rfl rfl rfl (by decide) Kept.auto (pD rfl rfl) ?_
  rintro b32
  refine bP.q rfl rfl rfl Kept.auto (Y.a rfl) ?_
  refine bP.nil ?_
  refine J 3 ?_
  refine .to (A:=sl cM 1 (.slice (some ⟨b19,0,none⟩) v.words.toNat v.words.toNat) (List.replicate v.words.toNat 0)) .auto (jC rfl) ?_
  refine J 3 ?_
  refine .c call62 rfl (Hm hp.fs hl.1 hone) fun u36 _=>?_
  refine J 3 ?_
  refine .aw rfl (af.pn sizeOf22 rfl rfl rfl) ?_
  rintro _ _ ⟨rfl,rfl⟩
  refine J 15 ?_
  refine .da (X:=Nat×List (Value×List Ins)) [6,7,46,47,48,49,50,51,52,53,54,55,56,57,58,59,60] (fun z=>v.fs.length-z.1) (fun z=>z.1≤v.fs.length∧z.2.length=z.1∧z.2.map (·.2)=(v.fs.take z.1).map (·.2)) (fun z=>[(46,some (.int .i64 (z.1:Int)))]) (fun z=>[arr b32 0 [u36,.int .i64 v.words,.int .i64 v.ay,.int .i64 v.conds,v.sv,v.pv,.int .i64 v.blocks,.int .i64 v.prio,ptr x16,.pointer none,.pointer none,.pointer none,.pointer none,.pointer none,.pointer none,.pointer none,.pointer none,.pointer none,.pointer none,.pointer none,.pointer none,.pointer none,.pointer none,.pointer none,.pointer none,.slice (some ⟨b19,0,none⟩) v.words.toNat v.words.toNat,ptr x26,.slice none 0 0,ptr x29,ptr x30,.slice none 0 0],sl cj 1 u36 (z.2++v.fs.drop z.1),bb (fun x=>sl dC 5 x.1 x.2) z.2,sl cM 1 (.slice (some ⟨b19,0,none⟩) v.words.toNat v.words.toNat) (List.replicate v.words.toNat 0),lJ x16 (List.replicate (aZ 16 1024).toNat (false,0)),cZ x26 (Gates.new v.ay v.conds v.aT),pA x29 (jB.new v.blocks),nN x30 jW.new,arr b1 0 (eg v),A,F]) (0,[]) ?_ ?_ ?_ ?_
  ·exact⟨Nat.zero_le _,rfl,by simp⟩
  ·exact⟨rfl,trivial⟩
  ·exact fun w s=>aK.kept .auto w s
  rintro⟨k,cl⟩ ⟨hk,hcl,hcm⟩
  simp only at hk hcl hcm
  refine JD 6 (fun h47=>?_) fun h47=>?_
  ·refine J 7 ?_
   obtain⟨x,hx⟩:=aB (show k<v.fs.length by omega)
   have hx2:=DA hcl hx
   have hi:=hp.ins x (List.mem_of_getElem? hx)
   have hx256:x.2.length≤256:=vx (m7 (Decidable.of_not_not h13)) (List.mem_of_getElem? hx)
   refine .p (.ix k rfl rfl rfl (by simp;omega)) ?_
   refine J 5 ?_
   refine .draw [arr b32 0 [u36,.int .i64 v.words,.int .i64 v.ay,.int .i64 v.conds,v.sv,v.pv,.int .i64 v.blocks,.int .i64 v.prio,ptr x16,.pointer none,.pointer none,.pointer none,.pointer none,.pointer none,.pointer none,.pointer none,.pointer none,.pointer none,.pointer none,.pointer none,.pointer none,.pointer none,.pointer none,.pointer none,.pointer none,.slice (some ⟨b19,0,none⟩) v.words.toNat v.words.toNat,ptr x26,.slice none 0 0,ptr x29,ptr x30,.slice none 0 0],sl cj 1 u36 (cl++v.fs.drop k)] [0,0,0,0,0,0,1,2,1,3] rfl (by kernel_rfl) ?_
   refine J 7 ?_
   refine .c2 call63 rfl (JF hi (by omega)) fun u58 _=>?_
   refine .fo (fun w s=>Rd.isSl (Rd.sl .here) w s) fun hu58=>?_
   refine .p (.ix k rfl rfl rfl (by simp;omega)) ?_
   refine .d3 rfl (af.gE (x':=(u58,x.2)) rfl rfl sizeOf128 (nS hu58) (DA hcl hx) (by decide) rfl (by repeat (first | exact gA.here | apply gA.there))) ?_
   rintro _ _ ⟨rfl,rfl⟩
   refine J 7 ?_
   refine .bq (k+1,cl++[(u58,x.2)]) .auto rfl ?_ ?_ ?_ ?_
   ·show v.fs.length-(k+1)<v.fs.length-k;omega
   ·exact⟨by show k+1≤_;omega,by simp[hcl],by rw[cx hx];simp[hcm]⟩
   ·exact⟨rfl,trivial⟩
   ·show ∀ w,Sat _ w _→Sat _ w (seps [_,sl cj 1 u36 ((cl++[(u58,x.2)])++v.fs.drop (k+1)),bb (fun x=>sl dC 5 x.1 x.2) (cl++[(u58,x.2)]),_,_,_,_,_,_,A,F])
    rw[← F8 hcl hx,jX]
    exact fun w s=>aK.kept .auto w s
  ·refine J 15 ?_
   obtain rfl:k=v.fs.length:=by omega
   rw[List.drop_length,List.append_nil]
   refine .da (X:=Nat×Value×List (Nat×Tub)) [9,64,65,66,67,68,69,70,71,72,73,74,75,76,77,78,79] (fun z=>v.aC.length-z.1) (fun z=>z.1≤v.aC.length∧z.2.2.length=z.1∧z.2.2.map (·.2)=(v.aC.take z.1).map Tub.new) (fun z=>[(64,some (.int .i64 (z.1:Int)))]) (fun z=>[arr b32 0 [u36,.int .i64 v.words,.int .i64 v.ay,.int .i64 v.conds,v.sv,v.pv,.int .i64 v.blocks,.int .i64 v.prio,ptr x16,.pointer none,.pointer none,.pointer none,.pointer none,.pointer none,.pointer none,.pointer none,.pointer none,.pointer none,.pointer none,.pointer none,.pointer none,.pointer none,.pointer none,.pointer none,.pointer none,.slice (some ⟨b19,0,none⟩) v.words.toNat v.words.toNat,ptr x26,z.2.1,ptr x29,ptr x30,.slice none 0 0],sl dD 1 z.2.1 z.2.2,bb (fun x=>ib x.1 x.2) z.2.2,sl cj 1 u36 cl,bb (fun x=>sl dC 5 x.1 x.2) cl,sl cM 1 (.slice (some ⟨b19,0,none⟩) v.words.toNat v.words.toNat) (List.replicate v.words.toNat 0),lJ x16 (List.replicate (aZ 16 1024).toNat (false,0)),cZ x26 (Gates.new v.ay v.conds v.aT),pA x29 (jB.new v.blocks),nN x30 jW.new,arr b1 0 (eg v),A,F]) (0,.slice none 0 0,[]) ?_ ?_ ?_ ?_
   ·exact⟨Nat.zero_le _,rfl,by simp⟩
   ·exact⟨rfl,trivial⟩
   ·exact fun w s=>aK.kept .auto w s
   rintro⟨k,vt,ts⟩ ⟨hk,htl,htm⟩
   simp only at hk htl htm
   refine JD 6 (fun h65=>?_) fun h65=>?_
   ·refine J 6 ?_
    obtain⟨x,hx⟩:=aB (show k<v.aC.length by omega)
    refine J 5 ?_
    refine .draw [arr b32 0 [u36,.int .i64 v.words,.int .i64 v.ay,.int .i64 v.conds,v.sv,v.pv,.int .i64 v.blocks,.int .i64 v.prio,ptr x16,.pointer none,.pointer none,.pointer none,.pointer none,.pointer none,.pointer none,.pointer none,.pointer none,.pointer none,.pointer none,.pointer none,.pointer none,.pointer none,.pointer none,.pointer none,.pointer none,.slice (some ⟨b19,0,none⟩) v.words.toNat v.words.toNat,ptr x26,vt,ptr x29,ptr x30,.slice none 0 0]] [0,0,0,0,0,1,2,2,2,1,1,3] rfl (by kernel_rfl) ?_
    refine J 6 ?_
    refine .c2 call64 rfl Fl fun x74 _=>?_
    refine .d2 rfl Kept.auto (af.gN 132 rfl rfl (by kernel_rfl)) (by rintro _ _ ⟨b75,rfl,rfl⟩;exact Kept.auto) ?_
    rintro _ _ ⟨b75,rfl,rfl⟩
    refine .d2 rfl Kept.auto (af.fb (enc:=dD) (k:=1) ((x74,Tub.new x):Nat×Tub) rfl underlying124 underlying124 typeInfo132 rfl rfl rfl (by decide) rfl rfl rfl .auto rfl .auto (by first | omega | (dsimp only;omega)) rfl) (by rintro _ _ ⟨v76,rfl,rfl⟩;exact Kept.auto) ?_
    rintro _ _ ⟨v76,rfl,rfl⟩
    refine J 2 ?_
    refine .d3 rfl (af.pn sizeOf124 rfl rfl rfl) ?_
    rintro _ _ ⟨rfl,rfl⟩
    refine J 7 ?_
    refine .bq (k+1,v76,ts++[(x74,Tub.new x)]) .auto rfl ?_ ?_ ?_ ?_
    ·show v.aC.length-(k+1)<v.aC.length-k;omega
    ·exact⟨by show k+1≤_;omega,by simp[htl],by rw[cx hx];simp[htm]⟩
    ·exact⟨rfl,trivial⟩
    ·show ∀ w,Sat _ w _→Sat _ w (seps [_,sl dD 1 v76 (ts++[(x74,Tub.new x)]),bb (fun x=>ib x.1 x.2) (ts++[(x74,Tub.new x)]),_,_,_,_,_,_,_,_,A,F])
     rw[jX]
     exact fun w s=>aK.kept .auto w s
   ·refine J 8 ?_
    obtain rfl:k=v.aC.length:=by omega
    have htm2:ts.map (·.2)=(ze v.p).bx:=by rw[htm,List.take_length];rfl
    have hcm2:cl.map (·.2)=(ze v.p).dG.funcs:=by rw[hcm,List.take_length];rfl
    refine .c call65 rfl (s6 (ps:=List.replicate 16 none) (s:=ze v.p) (BH _) rfl (BI _)) fun qs _=>?_
    refine J 10 ?_
    refine .ef rfl rfl rfl fun w s=>⟨some b32,?_,(decide_eq_true (Decidable.of_not_not h13)).symm,aq .auto s⟩
    rw[Decidable.of_not_not h13];rfl
end Go.SLYtefdijgllbkmfaaGreat
namespace Go.SLYtefdijgllbkmfaaGreat
open Go Go.RowKit Go.Proofs Go.Proofs.Tryz
attribute [local irreducible] ax aS bo bY bP Y
theorem Ho{W:World}{v:Value}{xs:List dc}{i:Nat}(hi:i<xs.length)(_hl:xs.length≤1000000000):Fn Tryz.prog W 212 [v,.int .i64 (i:Int),.int .i64 ((i+1:Nat):Int)] [sl cN 2 v xs] Value (fun u=>u) (fun _=>True) (fun u=>[sl cN 2 u (xs.eraseIdx i)]):=by
 refine Fn.intro (N:=33) func212 rfl ntmps212 rfl fun F=>?_
 show ax _ _ _ _ _ _ [sl cN 2 v xs,F]
 have h0:xs≠[]:=by intro e;rw[e] at hi;simp at hi
 refine .fo (fun w s=>s.fact .auto (jZ h0)) fun e=>?_
 obtain⟨b,cap,rfl,hc⟩:=e
 refine .s (.r (.p (.a rfl) (.n (.t (.s (.r (.p (.m rfl) (.p (.m rfl) (.p (.m rfl) (.p (.m rfl) (.p (.len rfl) ?_)))))))))))
 refine .p (.slice3 i (i+1) xs.length underlying196 sizeOf274 rfl rfl rfl rfl rfl rfl rfl (by omega) (by omega) hc) ?_
 refine .n (.t (.s (.s (.r (.p (.m rfl) (.p (.m rfl) (.p (.eql rfl rfl) (.n (.t (.dK rfl (fun h16=>?_) (fun h16=>?_)))))))))))
 ·exact absurd h16 (by omega)
 ·refine .v (.t (.s (.r (.p (.m rfl) (.p (.len rfl) (.p (.a rfl) (.n (.t (.s ?_)))))))))
  refine .draw [] [1,1,1,1,1,1,3,1] rfl (by kernel_rfl) ?_
  refine .p (.m rfl) (.p (.m rfl) ?_)
  refine .p (.nK i underlying196 sizeOf274 rfl rfl rfl (by omega)) ?_
  refine .p (.m rfl) (.p (.m rfl) ?_)
  refine .p (.nL (i+1) underlying196 sizeOf274 rfl rfl rfl (by omega)) ?_
  refine .d3 rfl (af.jV rfl underlying196 underlying196 typeInfo274 rfl rfl rfl .auto (by omega) (by omega) (rL _) h0) ?_
  rintro _ _ ⟨rfl,rfl⟩
  refine .p (.a rfl) (.n (.t (.s (.r (.p (.m rfl) (.p (.m rfl) (.p (.lens rfl) (.p (.m rfl) ?_))))))))
  refine .p (.rF (i+(xs.length-(i+1))) xs.length underlying196 sizeOf274 rfl rfl rfl rfl rfl (by omega) hc) ?_
  refine .aw rfl (af.nM (xs:=xs.take i++xs.drop (i+1)) underlying196 zeroValue274 rfl rfl rfl rfl (by rw[List.length_append,List.length_take,List.length_drop];omega) (by omega) .auto) ?_
  rintro _ _ ⟨rfl,rfl⟩
  refine .n (.t (.s (.r (.p (.m rfl) (.p (.a rfl) (.n (.t (.e ?_))))))))
  rw[j0]
  refine .aI rfl rfl fun w s=>⟨_,?_,trivial,aq .auto s⟩
  rfl
theorem Hp{W:World}{v:Value}{xs:List pz}{i:Nat}(hi:i<xs.length)(_hl:xs.length≤1000000000):Fn Tryz.prog W 137 [v,.int .i64 (i:Int),.int .i64 ((i+1:Nat):Int)] [sl dY 4 v xs] Value (fun u=>u) (fun _=>True) (fun u=>[sl dY 4 u (xs.eraseIdx i)]):=by
 refine Fn.intro (N:=33) func137 rfl ntmps137 rfl fun F=>?_
 show ax _ _ _ _ _ _ [sl dY 4 v xs,F]
 have h0:xs≠[]:=by intro e;rw[e] at hi;simp at hi
 refine .fo (fun w s=>s.fact .auto (jZ h0)) fun e=>?_
 obtain⟨b,cap,rfl,hc⟩:=e
 refine .s (.r (.p (.a rfl) (.n (.t (.s (.r (.p (.m rfl) (.p (.m rfl) (.p (.m rfl) (.p (.m rfl) (.p (.len rfl) ?_)))))))))))
 refine .p (.slice3 i (i+1) xs.length underlying201 sizeOf170 rfl rfl rfl rfl rfl rfl rfl (by omega) (by omega) hc) ?_
 refine .n (.t (.s (.s (.r (.p (.m rfl) (.p (.m rfl) (.p (.eql rfl rfl) (.n (.t (.dK rfl (fun h16=>?_) (fun h16=>?_)))))))))))
 ·exact absurd h16 (by omega)
 ·refine .v (.t (.s (.r (.p (.m rfl) (.p (.len rfl) (.p (.a rfl) (.n (.t (.s ?_)))))))))
  refine .draw [] [1,1,1,1,1,1,3,1] rfl (by kernel_rfl) ?_
  refine .p (.m rfl) (.p (.m rfl) ?_)
  refine .p (.nK i underlying201 sizeOf170 rfl rfl rfl (by omega)) ?_
  refine .p (.m rfl) (.p (.m rfl) ?_)
  refine .p (.nL (i+1) underlying201 sizeOf170 rfl rfl rfl (by omega)) ?_
  refine .d3 rfl (af.jV rfl underlying201 underlying201 typeInfo170 rfl rfl rfl .auto (by omega) (by omega) (rK _) h0) ?_
  rintro _ _ ⟨rfl,rfl⟩
  refine .p (.a rfl) (.n (.t (.s (.r (.p (.m rfl) (.p (.m rfl) (.p (.lens rfl) (.p (.m rfl) ?_))))))))
  refine .p (.rF (i+(xs.length-(i+1))) xs.length underlying201 sizeOf170 rfl rfl rfl rfl rfl (by omega) hc) ?_
  refine .aw rfl (af.nM (xs:=xs.take i++xs.drop (i+1)) underlying201 zeroValue170 rfl rfl rfl rfl (by rw[List.length_append,List.length_take,List.length_drop];omega) (by omega) .auto) ?_
  rintro _ _ ⟨rfl,rfl⟩
  refine .n (.t (.s (.r (.p (.m rfl) (.p (.a rfl) (.n (.t (.e ?_))))))))
  rw[j0]
  refine .aI rfl rfl fun w s=>⟨_,?_,trivial,aq .auto s⟩
  rfl
theorem Hq{W:World}{v:Value}{xs:List Ptr}{i:Nat}(hi:i<xs.length)(_hl:xs.length≤1000000000):Fn Tryz.prog W 303 [v,.int .i64 (i:Int),.int .i64 ((i+1:Nat):Int)] [sl eO 2 v xs] Value (fun u=>u) (fun _=>True) (fun u=>[sl eO 2 u (xs.eraseIdx i)]):=by
 refine Fn.intro (N:=33) func303 rfl ntmps303 rfl fun F=>?_
 show ax _ _ _ _ _ _ [sl eO 2 v xs,F]
 have h0:xs≠[]:=by intro e;rw[e] at hi;simp at hi
 refine .fo (fun w s=>s.fact .auto (jZ h0)) fun e=>?_
 obtain⟨b,cap,rfl,hc⟩:=e
 refine .s (.r (.p (.a rfl) (.n (.t (.s (.r (.p (.m rfl) (.p (.m rfl) (.p (.m rfl) (.p (.m rfl) (.p (.len rfl) ?_)))))))))))
 refine .p (.slice3 i (i+1) xs.length underlying207 sizeOf363 rfl rfl rfl rfl rfl rfl rfl (by omega) (by omega) hc) ?_
 refine .n (.t (.s (.s (.r (.p (.m rfl) (.p (.m rfl) (.p (.eql rfl rfl) (.n (.t (.dK rfl (fun h16=>?_) (fun h16=>?_)))))))))))
 ·exact absurd h16 (by omega)
 ·refine .v (.t (.s (.r (.p (.m rfl) (.p (.len rfl) (.p (.a rfl) (.n (.t (.s ?_)))))))))
  refine .draw [] [1,1,1,1,1,1,3,1] rfl (by kernel_rfl) ?_
  refine .p (.m rfl) (.p (.m rfl) ?_)
  refine .p (.nK i underlying207 sizeOf363 rfl rfl rfl (by omega)) ?_
  refine .p (.m rfl) (.p (.m rfl) ?_)
  refine .p (.nL (i+1) underlying207 sizeOf363 rfl rfl rfl (by omega)) ?_
  refine .d3 rfl (af.jV rfl underlying207 underlying207 typeInfo363 rfl rfl rfl .auto (by omega) (by omega) (xe _) h0) ?_
  rintro _ _ ⟨rfl,rfl⟩
  refine .p (.a rfl) (.n (.t (.s (.r (.p (.m rfl) (.p (.m rfl) (.p (.lens rfl) (.p (.m rfl) ?_))))))))
  refine .p (.rF (i+(xs.length-(i+1))) xs.length underlying207 sizeOf363 rfl rfl rfl rfl rfl (by omega) hc) ?_
  refine .aw rfl (af.nM (xs:=xs.take i++xs.drop (i+1)) underlying207 zeroValue363 rfl rfl rfl rfl (by rw[List.length_append,List.length_take,List.length_drop];omega) (by omega) .auto) ?_
  rintro _ _ ⟨rfl,rfl⟩
  refine .n (.t (.s (.r (.p (.m rfl) (.p (.a rfl) (.n (.t (.e ?_))))))))
  rw[j0]
  refine .aI rfl rfl fun w s=>⟨_,?_,trivial,aq .auto s⟩
  rfl
theorem Hr{W:World}{v:Value}{xs:List Int}{i:Nat}(hi:i<xs.length)(_hl:xs.length≤1000000000):Fn Tryz.prog W 301 [v,.int .i64 (i:Int),.int .i64 ((i+1:Nat):Int)] [sl aP 1 v xs] Value (fun u=>u) (fun _=>True) (fun u=>[sl aP 1 u (xs.eraseIdx i)]):=by
 refine Fn.intro (N:=33) func301 rfl ntmps301 rfl fun F=>?_
 show ax _ _ _ _ _ _ [sl aP 1 v xs,F]
 have h0:xs≠[]:=by intro e;rw[e] at hi;simp at hi
 refine .fo (fun w s=>s.fact .auto (jZ h0)) fun e=>?_
 obtain⟨b,cap,rfl,hc⟩:=e
 refine .s (.r (.p (.a rfl) (.n (.t (.s (.r (.p (.m rfl) (.p (.m rfl) (.p (.m rfl) (.p (.m rfl) (.p (.len rfl) ?_)))))))))))
 refine .p (.slice3 i (i+1) xs.length underlying23 sizeOf3 rfl rfl rfl rfl rfl rfl rfl (by omega) (by omega) hc) ?_
 refine .n (.t (.s (.s (.r (.p (.m rfl) (.p (.m rfl) (.p (.eql rfl rfl) (.n (.t (.dK rfl (fun h16=>?_) (fun h16=>?_)))))))))))
 ·exact absurd h16 (by omega)
 ·refine .v (.t (.s (.r (.p (.m rfl) (.p (.len rfl) (.p (.a rfl) (.n (.t (.s ?_)))))))))
  refine .draw [] [1,1,1,1,1,1,3,1] rfl (by kernel_rfl) ?_
  refine .p (.m rfl) (.p (.m rfl) ?_)
  refine .p (.nK i underlying23 sizeOf3 rfl rfl rfl (by omega)) ?_
  refine .p (.m rfl) (.p (.m rfl) ?_)
  refine .p (.nL (i+1) underlying23 sizeOf3 rfl rfl rfl (by omega)) ?_
  refine .d3 rfl (af.jV rfl underlying23 underlying23 typeInfo3 rfl rfl rfl .auto (by omega) (by omega) (nQ _) h0) ?_
  rintro _ _ ⟨rfl,rfl⟩
  refine .p (.a rfl) (.n (.t (.s (.r (.p (.m rfl) (.p (.m rfl) (.p (.lens rfl) (.p (.m rfl) ?_))))))))
  refine .p (.rF (i+(xs.length-(i+1))) xs.length underlying23 sizeOf3 rfl rfl rfl rfl rfl (by omega) hc) ?_
  refine .aw rfl (af.nM (xs:=xs.take i++xs.drop (i+1)) underlying23 zeroValue3 rfl rfl rfl rfl (by rw[List.length_append,List.length_take,List.length_drop];omega) (by omega) .auto) ?_
  rintro _ _ ⟨rfl,rfl⟩
  refine .n (.t (.s (.r (.p (.m rfl) (.p (.a rfl) (.n (.t (.e ?_))))))))
  rw[j0]
  refine .aI rfl rfl fun w s=>⟨_,?_,trivial,aq .auto s⟩
  rfl
theorem Ht{W:World}{v:Value}{xs:List Int}{i:Nat}(hi:i<xs.length)(_hl:xs.length≤1000000000):Fn Tryz.prog W 302 [v,.int .i64 (i:Int),.int .i64 ((i+1:Nat):Int)] [sl cM 1 v xs] Value (fun u=>u) (fun _=>True) (fun u=>[sl cM 1 u (xs.eraseIdx i)]):=by
 refine Fn.intro (N:=33) func302 rfl ntmps302 rfl fun F=>?_
 show ax _ _ _ _ _ _ [sl cM 1 v xs,F]
 have h0:xs≠[]:=by intro e;rw[e] at hi;simp at hi
 refine .fo (fun w s=>s.fact .auto (jZ h0)) fun e=>?_
 obtain⟨b,cap,rfl,hc⟩:=e
 refine .s (.r (.p (.a rfl) (.n (.t (.s (.r (.p (.m rfl) (.p (.m rfl) (.p (.m rfl) (.p (.m rfl) (.p (.len rfl) ?_)))))))))))
 refine .p (.slice3 i (i+1) xs.length underlying55 sizeOf38 rfl rfl rfl rfl rfl rfl rfl (by omega) (by omega) hc) ?_
 refine .n (.t (.s (.s (.r (.p (.m rfl) (.p (.m rfl) (.p (.eql rfl rfl) (.n (.t (.dK rfl (fun h16=>?_) (fun h16=>?_)))))))))))
 ·exact absurd h16 (by omega)
 ·refine .v (.t (.s (.r (.p (.m rfl) (.p (.len rfl) (.p (.a rfl) (.n (.t (.s ?_)))))))))
  refine .draw [] [1,1,1,1,1,1,3,1] rfl (by kernel_rfl) ?_
  refine .p (.m rfl) (.p (.m rfl) ?_)
  refine .p (.nK i underlying55 sizeOf38 rfl rfl rfl (by omega)) ?_
  refine .p (.m rfl) (.p (.m rfl) ?_)
  refine .p (.nL (i+1) underlying55 sizeOf38 rfl rfl rfl (by omega)) ?_
  refine .d3 rfl (af.jV rfl underlying55 underlying55 typeInfo38 rfl rfl rfl .auto (by omega) (by omega) (rI _) h0) ?_
  rintro _ _ ⟨rfl,rfl⟩
  refine .p (.a rfl) (.n (.t (.s (.r (.p (.m rfl) (.p (.m rfl) (.p (.lens rfl) (.p (.m rfl) ?_))))))))
  refine .p (.rF (i+(xs.length-(i+1))) xs.length underlying55 sizeOf38 rfl rfl rfl rfl rfl (by omega) hc) ?_
  refine .aw rfl (af.nM (xs:=xs.take i++xs.drop (i+1)) underlying55 zeroValue38 rfl rfl rfl rfl (by rw[List.length_append,List.length_take,List.length_drop];omega) (by omega) .auto) ?_
  rintro _ _ ⟨rfl,rfl⟩
  refine .n (.t (.s (.r (.p (.m rfl) (.p (.a rfl) (.n (.t (.e ?_))))))))
  rw[j0]
  refine .aI rfl rfl fun w s=>⟨_,?_,trivial,aq .auto s⟩
  rfl
theorem zS{W:World}{A:aa}{v:Value}{xs:List dc}{p:dc→Bool}{g:Nat}{c:Value}(hr:Rd W [A] cN 2 v xs)(hl:xs.length≤1000000000)(hg:∀ args w,(callFunc g args).run Tryz.prog w = .ok (.enter g args) w)(hf:∀ x∈xs,Fn Tryz.prog W g [.agg (cN x).toArray,c] [A] Unit (fun _=>.bool (p x)) (fun _=>True) (fun _=>[A])):Fn Tryz.prog W 317 [v,.func (.func g) #[] #[c]] [A] Unit (fun _=>.int .i64 (idxP p xs 0)) (fun _=>True) (fun _=>[A]):=by
 refine Fn.intro (N:=19) func317 rfl ntmps317 rfl fun F=>?_
 haveI hRI:∀ (H:List aa) [cf H A],aJ W H v cN 2 xs:=fun H h=>⟨hr.at h.has⟩
 show ax _ _ _ _ _ _ [A,F]
 refine J 14 ?_
 refine .da (X:=Nat) [4,5,8,9,10,11,12,13,14,15,16,17,18] (fun k=>xs.length-k) (fun k=>k≤xs.length∧idxP p xs 0=idxP p (xs.drop k) k) (fun k=>[(8,some (.int .i64 (k:Int)))]) (fun k=>[A,F]) 0 ?_ ?_ ?_ ?_
 ·exact⟨Nat.zero_le _,by simp⟩
 ·exact⟨rfl,trivial⟩
 ·exact fun w s=>aK.kept .auto w s
 rintro k ⟨hk,hn⟩
 refine JD 6 (fun h9=>?_) fun h9=>?_
 ·refine J 15 ?_
  obtain⟨x,hx⟩:=aB (show k<xs.length by omega)
  refine J 2 ?_
  refine .aw rfl (af.py rfl rfl hg rfl (hf x (List.mem_of_getElem? hx)) .auto) ?_
  rintro _ _ ⟨⟨⟩, -,rfl,rfl⟩
  refine JD 2 (fun h16=>?_) fun h16=>?_
  ·refine J 12 ?_
   refine .aI rfl rfl fun w s=>⟨(),?_,trivial,aq .auto s⟩
   rw[hn,j6 hx h16]
  ·refine J 7 ?_
   refine .bq (k+1) .auto rfl ?_ ?_ ?_ ?_
   ·first | omega | (dsimp only;omega)
   ·exact⟨by omega,hn.trans (iN hx h16)⟩
   ·exact⟨rfl,trivial⟩
   ·exact fun w s=>aK.kept .auto w s
 ·refine J 11 ?_
  refine .aI rfl rfl fun w s=>⟨(),?_,trivial,aq .auto s⟩
  rw[hn,j7 (by omega)]
theorem tD{W:World}{A:aa}{v:Value}{xs:List dc}{p:dc→Bool}{g:Nat}{c:Value}(hr:Rd W [A] cN 2 v xs)(hl:xs.length≤1000000000)(hg:∀ args w,(callFunc g args).run Tryz.prog w = .ok (.enter g args) w)(hf:∀ x∈xs,Fn Tryz.prog W g [.agg (cN x).toArray,c] [A] Unit (fun _=>.bool (p x)) (fun _=>True) (fun _=>[A])):Fn Tryz.prog W 293 [v,.func (.func g) #[] #[c]] [A] Unit (fun _=>.bool (xs.any p)) (fun _=>True) (fun _=>[A]):=by
 refine Fn.intro (N:=9) func293 rfl ntmps293 rfl fun F=>?_
 show ax _ _ _ _ _ _ [A,F]
 refine J 9 ?_
 refine .c call317 rfl (zS hr hl hg hf) fun _ _=>?_
 refine J 5 ?_
 refine .aI rfl rfl fun w s=>⟨(),?_,trivial,aq .auto s⟩
 rw[← iZ xs 0]
theorem zT{W:World}{A:aa}{v:Value}{xs:List pz}{p:pz→Bool}{g:Nat}{c:Value}(hr:Rd W [A] dY 4 v xs)(hl:xs.length≤1000000000)(hg:∀ args w,(callFunc g args).run Tryz.prog w = .ok (.enter g args) w)(hf:∀ x∈xs,Fn Tryz.prog W g [.agg (dY x).toArray,c] [A] Unit (fun _=>.bool (p x)) (fun _=>True) (fun _=>[A])):Fn Tryz.prog W 297 [v,.func (.func g) #[] #[c]] [A] Unit (fun _=>.int .i64 (idxP p xs 0)) (fun _=>True) (fun _=>[A]):=by
 refine Fn.intro (N:=19) func297 rfl ntmps297 rfl fun F=>?_
 haveI hRI:∀ (H:List aa) [cf H A],aJ W H v dY 4 xs:=fun H h=>⟨hr.at h.has⟩
 show ax _ _ _ _ _ _ [A,F]
 refine J 14 ?_
 refine .da (X:=Nat) [4,5,8,9,10,11,12,13,14,15,16,17,18] (fun k=>xs.length-k) (fun k=>k≤xs.length∧idxP p xs 0=idxP p (xs.drop k) k) (fun k=>[(8,some (.int .i64 (k:Int)))]) (fun k=>[A,F]) 0 ?_ ?_ ?_ ?_
 ·exact⟨Nat.zero_le _,by simp⟩
 ·exact⟨rfl,trivial⟩
 ·exact fun w s=>aK.kept .auto w s
 rintro k ⟨hk,hn⟩
 refine JD 6 (fun h9=>?_) fun h9=>?_
 ·refine J 15 ?_
  obtain⟨x,hx⟩:=aB (show k<xs.length by omega)
  refine J 2 ?_
  refine .aw rfl (af.py rfl rfl hg rfl (hf x (List.mem_of_getElem? hx)) .auto) ?_
  rintro _ _ ⟨⟨⟩, -,rfl,rfl⟩
  refine JD 2 (fun h16=>?_) fun h16=>?_
  ·refine J 12 ?_
   refine .aI rfl rfl fun w s=>⟨(),?_,trivial,aq .auto s⟩
   rw[hn,j6 hx h16]
  ·refine J 7 ?_
   refine .bq (k+1) .auto rfl ?_ ?_ ?_ ?_
   ·first | omega | (dsimp only;omega)
   ·exact⟨by omega,hn.trans (iN hx h16)⟩
   ·exact⟨rfl,trivial⟩
   ·exact fun w s=>aK.kept .auto w s
 ·refine J 11 ?_
  refine .aI rfl rfl fun w s=>⟨(),?_,trivial,aq .auto s⟩
  rw[hn,j7 (by omega)]
theorem tE{W:World}{A:aa}{v:Value}{xs:List pz}{p:pz→Bool}{g:Nat}{c:Value}(hr:Rd W [A] dY 4 v xs)(hl:xs.length≤1000000000)(hg:∀ args w,(callFunc g args).run Tryz.prog w = .ok (.enter g args) w)(hf:∀ x∈xs,Fn Tryz.prog W g [.agg (dY x).toArray,c] [A] Unit (fun _=>.bool (p x)) (fun _=>True) (fun _=>[A])):Fn Tryz.prog W 263 [v,.func (.func g) #[] #[c]] [A] Unit (fun _=>.bool (xs.any p)) (fun _=>True) (fun _=>[A]):=by
 refine Fn.intro (N:=9) func263 rfl ntmps263 rfl fun F=>?_
 show ax _ _ _ _ _ _ [A,F]
 refine J 9 ?_
 refine .c call297 rfl (zT hr hl hg hf) fun _ _=>?_
 refine J 5 ?_
 refine .aI rfl rfl fun w s=>⟨(),?_,trivial,aq .auto s⟩
 rw[← iZ xs 0]
theorem zU{W:World}{A:aa}{v:Value}{xs:List Ptr}{p:Ptr→Bool}{g:Nat}{c:Value}(hr:Rd W [A] eO 2 v xs)(hl:xs.length≤1000000000)(hg:∀ args w,(callFunc g args).run Tryz.prog w = .ok (.enter g args) w)(hf:∀ x∈xs,Fn Tryz.prog W g [.agg (eO x).toArray,c] [A] Unit (fun _=>.bool (p x)) (fun _=>True) (fun _=>[A])):Fn Tryz.prog W 319 [v,.func (.func g) #[] #[c]] [A] Unit (fun _=>.int .i64 (idxP p xs 0)) (fun _=>True) (fun _=>[A]):=by
 refine Fn.intro (N:=19) func319 rfl ntmps319 rfl fun F=>?_
 haveI hRI:∀ (H:List aa) [cf H A],aJ W H v eO 2 xs:=fun H h=>⟨hr.at h.has⟩
 show ax _ _ _ _ _ _ [A,F]
 refine J 14 ?_
 refine .da (X:=Nat) [4,5,8,9,10,11,12,13,14,15,16,17,18] (fun k=>xs.length-k) (fun k=>k≤xs.length∧idxP p xs 0=idxP p (xs.drop k) k) (fun k=>[(8,some (.int .i64 (k:Int)))]) (fun k=>[A,F]) 0 ?_ ?_ ?_ ?_
 ·exact⟨Nat.zero_le _,by simp⟩
 ·exact⟨rfl,trivial⟩
 ·exact fun w s=>aK.kept .auto w s
 rintro k ⟨hk,hn⟩
 refine JD 6 (fun h9=>?_) fun h9=>?_
 ·refine J 15 ?_
  obtain⟨x,hx⟩:=aB (show k<xs.length by omega)
  refine J 2 ?_
  refine .aw rfl (af.py rfl rfl hg rfl (hf x (List.mem_of_getElem? hx)) .auto) ?_
  rintro _ _ ⟨⟨⟩, -,rfl,rfl⟩
  refine JD 2 (fun h16=>?_) fun h16=>?_
  ·refine J 12 ?_
   refine .aI rfl rfl fun w s=>⟨(),?_,trivial,aq .auto s⟩
   rw[hn,j6 hx h16]
  ·refine J 7 ?_
   refine .bq (k+1) .auto rfl ?_ ?_ ?_ ?_
   ·first | omega | (dsimp only;omega)
   ·exact⟨by omega,hn.trans (iN hx h16)⟩
   ·exact⟨rfl,trivial⟩
   ·exact fun w s=>aK.kept .auto w s
 ·refine J 11 ?_
  refine .aI rfl rfl fun w s=>⟨(),?_,trivial,aq .auto s⟩
  rw[hn,j7 (by omega)]
theorem tF{W:World}{A:aa}{v:Value}{xs:List Ptr}{p:Ptr→Bool}{g:Nat}{c:Value}(hr:Rd W [A] eO 2 v xs)(hl:xs.length≤1000000000)(hg:∀ args w,(callFunc g args).run Tryz.prog w = .ok (.enter g args) w)(hf:∀ x∈xs,Fn Tryz.prog W g [.agg (eO x).toArray,c] [A] Unit (fun _=>.bool (p x)) (fun _=>True) (fun _=>[A])):Fn Tryz.prog W 299 [v,.func (.func g) #[] #[c]] [A] Unit (fun _=>.bool (xs.any p)) (fun _=>True) (fun _=>[A]):=by
 refine Fn.intro (N:=9) func299 rfl ntmps299 rfl fun F=>?_
 show ax _ _ _ _ _ _ [A,F]
 refine J 9 ?_
 refine .c call319 rfl (zU hr hl hg hf) fun _ _=>?_
 refine J 5 ?_
 refine .aI rfl rfl fun w s=>⟨(),?_,trivial,aq .auto s⟩
 rw[← iZ xs 0]
theorem zV{W:World}{A:aa}{v:Value}{xs:List (Value×dt)}{p:(Value×dt)→Bool}{g:Nat}{c:Value}(hr:Rd W [A] ly 3 v xs)(hl:xs.length≤1000000000)(hg:∀ args w,(callFunc g args).run Tryz.prog w = .ok (.enter g args) w)(hf:∀ x∈xs,Fn Tryz.prog W g [.agg (ly x).toArray,c] [A] Unit (fun _=>.bool (p x)) (fun _=>True) (fun _=>[A])):Fn Tryz.prog W 292 [v,.func (.func g) #[] #[c]] [A] Unit (fun _=>.int .i64 (idxP p xs 0)) (fun _=>True) (fun _=>[A]):=by
 refine Fn.intro (N:=19) func292 rfl ntmps292 rfl fun F=>?_
 haveI hRI:∀ (H:List aa) [cf H A],aJ W H v ly 3 xs:=fun H h=>⟨hr.at h.has⟩
 show ax _ _ _ _ _ _ [A,F]
 refine J 14 ?_
 refine .da (X:=Nat) [4,5,8,9,10,11,12,13,14,15,16,17,18] (fun k=>xs.length-k) (fun k=>k≤xs.length∧idxP p xs 0=idxP p (xs.drop k) k) (fun k=>[(8,some (.int .i64 (k:Int)))]) (fun k=>[A,F]) 0 ?_ ?_ ?_ ?_
 ·exact⟨Nat.zero_le _,by simp⟩
 ·exact⟨rfl,trivial⟩
 ·exact fun w s=>aK.kept .auto w s
 rintro k ⟨hk,hn⟩
 refine JD 6 (fun h9=>?_) fun h9=>?_
 ·refine J 15 ?_
  obtain⟨x,hx⟩:=aB (show k<xs.length by omega)
  refine J 2 ?_
  refine .aw rfl (af.py rfl rfl hg rfl (hf x (List.mem_of_getElem? hx)) .auto) ?_
  rintro _ _ ⟨⟨⟩, -,rfl,rfl⟩
  refine JD 2 (fun h16=>?_) fun h16=>?_
  ·refine J 12 ?_
   refine .aI rfl rfl fun w s=>⟨(),?_,trivial,aq .auto s⟩
   rw[hn,j6 hx h16]
  ·refine J 7 ?_
   refine .bq (k+1) .auto rfl ?_ ?_ ?_ ?_
   ·first | omega | (dsimp only;omega)
   ·exact⟨by omega,hn.trans (iN hx h16)⟩
   ·exact⟨rfl,trivial⟩
   ·exact fun w s=>aK.kept .auto w s
 ·refine J 11 ?_
  refine .aI rfl rfl fun w s=>⟨(),?_,trivial,aq .auto s⟩
  rw[hn,j7 (by omega)]
theorem tG{W:World}{A:aa}{v:Value}{xs:List (Value×dt)}{p:(Value×dt)→Bool}{g:Nat}{c:Value}(hr:Rd W [A] ly 3 v xs)(hl:xs.length≤1000000000)(hg:∀ args w,(callFunc g args).run Tryz.prog w = .ok (.enter g args) w)(hf:∀ x∈xs,Fn Tryz.prog W g [.agg (ly x).toArray,c] [A] Unit (fun _=>.bool (p x)) (fun _=>True) (fun _=>[A])):Fn Tryz.prog W 256 [v,.func (.func g) #[] #[c]] [A] Unit (fun _=>.bool (xs.any p)) (fun _=>True) (fun _=>[A]):=by
 refine Fn.intro (N:=9) func256 rfl ntmps256 rfl fun F=>?_
 show ax _ _ _ _ _ _ [A,F]
 refine J 9 ?_
 refine .c call292 rfl (zV hr hl hg hf) fun _ _=>?_
 refine J 5 ?_
 refine .aI rfl rfl fun w s=>⟨(),?_,trivial,aq .auto s⟩
 rw[← iZ xs 0]
theorem zW{W:World}{A:aa}{v:Value}{xs:List (Value×List dc)}{p:(Value×List dc)→Bool}{g:Nat}{c:Value}(hr:Rd W [A] cj 1 v xs)(hl:xs.length≤1000000000)(hg:∀ args w,(callFunc g args).run Tryz.prog w = .ok (.enter g args) w)(hf:∀ x∈xs,Fn Tryz.prog W g [.agg (cj x).toArray,c] [A] Unit (fun _=>.bool (p x)) (fun _=>True) (fun _=>[A])):Fn Tryz.prog W 295 [v,.func (.func g) #[] #[c]] [A] Unit (fun _=>.int .i64 (idxP p xs 0)) (fun _=>True) (fun _=>[A]):=by
 refine Fn.intro (N:=19) func295 rfl ntmps295 rfl fun F=>?_
 haveI hRI:∀ (H:List aa) [cf H A],aJ W H v cj 1 xs:=fun H h=>⟨hr.at h.has⟩
 show ax _ _ _ _ _ _ [A,F]
 refine J 14 ?_
 refine .da (X:=Nat) [4,5,8,9,10,11,12,13,14,15,16,17,18] (fun k=>xs.length-k) (fun k=>k≤xs.length∧idxP p xs 0=idxP p (xs.drop k) k) (fun k=>[(8,some (.int .i64 (k:Int)))]) (fun k=>[A,F]) 0 ?_ ?_ ?_ ?_
 ·exact⟨Nat.zero_le _,by simp⟩
 ·exact⟨rfl,trivial⟩
 ·exact fun w s=>aK.kept .auto w s
 rintro k ⟨hk,hn⟩
 refine JD 6 (fun h9=>?_) fun h9=>?_
 ·refine J 15 ?_
  obtain⟨x,hx⟩:=aB (show k<xs.length by omega)
  refine J 2 ?_
  refine .aw rfl (af.py rfl rfl hg rfl (hf x (List.mem_of_getElem? hx)) .auto) ?_
  rintro _ _ ⟨⟨⟩, -,rfl,rfl⟩
  refine JD 2 (fun h16=>?_) fun h16=>?_
  ·refine J 12 ?_
   refine .aI rfl rfl fun w s=>⟨(),?_,trivial,aq .auto s⟩
   rw[hn,j6 hx h16]
  ·refine J 7 ?_
   refine .bq (k+1) .auto rfl ?_ ?_ ?_ ?_
   ·first | omega | (dsimp only;omega)
   ·exact⟨by omega,hn.trans (iN hx h16)⟩
   ·exact⟨rfl,trivial⟩
   ·exact fun w s=>aK.kept .auto w s
 ·refine J 11 ?_
  refine .aI rfl rfl fun w s=>⟨(),?_,trivial,aq .auto s⟩
  rw[hn,j7 (by omega)]
theorem tH{W:World}{A:aa}{v:Value}{xs:List (Value×List dc)}{p:(Value×List dc)→Bool}{g:Nat}{c:Value}(hr:Rd W [A] cj 1 v xs)(hl:xs.length≤1000000000)(hg:∀ args w,(callFunc g args).run Tryz.prog w = .ok (.enter g args) w)(hf:∀ x∈xs,Fn Tryz.prog W g [.agg (cj x).toArray,c] [A] Unit (fun _=>.bool (p x)) (fun _=>True) (fun _=>[A])):Fn Tryz.prog W 259 [v,.func (.func g) #[] #[c]] [A] Unit (fun _=>.bool (xs.any p)) (fun _=>True) (fun _=>[A]):=by
 refine Fn.intro (N:=9) func259 rfl ntmps259 rfl fun F=>?_
 show ax _ _ _ _ _ _ [A,F]
 refine J 9 ?_
 refine .c call295 rfl (zW hr hl hg hf) fun _ _=>?_
 refine J 5 ?_
 refine .aI rfl rfl fun w s=>⟨(),?_,trivial,aq .auto s⟩
 rw[← iZ xs 0]
theorem zX{W:World}{A:aa}{v:Value}{xs:List (Value×jr)}{p:(Value×jr)→Bool}{g:Nat}{c:Value}(hr:Rd W [A] lK 2 v xs)(hl:xs.length≤1000000000)(hg:∀ args w,(callFunc g args).run Tryz.prog w = .ok (.enter g args) w)(hf:∀ x∈xs,Fn Tryz.prog W g [.agg (lK x).toArray,c] [A] Unit (fun _=>.bool (p x)) (fun _=>True) (fun _=>[A])):Fn Tryz.prog W 296 [v,.func (.func g) #[] #[c]] [A] Unit (fun _=>.int .i64 (idxP p xs 0)) (fun _=>True) (fun _=>[A]):=by
 refine Fn.intro (N:=19) func296 rfl ntmps296 rfl fun F=>?_
 haveI hRI:∀ (H:List aa) [cf H A],aJ W H v lK 2 xs:=fun H h=>⟨hr.at h.has⟩
 show ax _ _ _ _ _ _ [A,F]
 refine J 14 ?_
 refine .da (X:=Nat) [4,5,8,9,10,11,12,13,14,15,16,17,18] (fun k=>xs.length-k) (fun k=>k≤xs.length∧idxP p xs 0=idxP p (xs.drop k) k) (fun k=>[(8,some (.int .i64 (k:Int)))]) (fun k=>[A,F]) 0 ?_ ?_ ?_ ?_
 ·exact⟨Nat.zero_le _,by simp⟩
 ·exact⟨rfl,trivial⟩
 ·exact fun w s=>aK.kept .auto w s
 rintro k ⟨hk,hn⟩
 refine JD 6 (fun h9=>?_) fun h9=>?_
 ·refine J 15 ?_
  obtain⟨x,hx⟩:=aB (show k<xs.length by omega)
  refine J 2 ?_
  refine .aw rfl (af.py rfl rfl hg rfl (hf x (List.mem_of_getElem? hx)) .auto) ?_
  rintro _ _ ⟨⟨⟩, -,rfl,rfl⟩
  refine JD 2 (fun h16=>?_) fun h16=>?_
  ·refine J 12 ?_
   refine .aI rfl rfl fun w s=>⟨(),?_,trivial,aq .auto s⟩
   rw[hn,j6 hx h16]
  ·refine J 7 ?_
   refine .bq (k+1) .auto rfl ?_ ?_ ?_ ?_
   ·first | omega | (dsimp only;omega)
   ·exact⟨by omega,hn.trans (iN hx h16)⟩
   ·exact⟨rfl,trivial⟩
   ·exact fun w s=>aK.kept .auto w s
 ·refine J 11 ?_
  refine .aI rfl rfl fun w s=>⟨(),?_,trivial,aq .auto s⟩
  rw[hn,j7 (by omega)]
theorem tI{W:World}{A:aa}{v:Value}{xs:List (Value×jr)}{p:(Value×jr)→Bool}{g:Nat}{c:Value}(hr:Rd W [A] lK 2 v xs)(hl:xs.length≤1000000000)(hg:∀ args w,(callFunc g args).run Tryz.prog w = .ok (.enter g args) w)(hf:∀ x∈xs,Fn Tryz.prog W g [.agg (lK x).toArray,c] [A] Unit (fun _=>.bool (p x)) (fun _=>True) (fun _=>[A])):Fn Tryz.prog W 261 [v,.func (.func g) #[] #[c]] [A] Unit (fun _=>.bool (xs.any p)) (fun _=>True) (fun _=>[A]):=by
 refine Fn.intro (N:=9) func261 rfl ntmps261 rfl fun F=>?_
 show ax _ _ _ _ _ _ [A,F]
 refine J 9 ?_
 refine .c call296 rfl (zX hr hl hg hf) fun _ _=>?_
 refine J 5 ?_
 refine .aI rfl rfl fun w s=>⟨(),?_,trivial,aq .auto s⟩
 rw[← iZ xs 0]
end Go.SLYtefdijgllbkmfaaGreat
namespace Go.SLYtefdijgllbkmfaaGreat
open Go Go.RowKit Go.Proofs Go.Proofs.Tryz
attribute [local irreducible] ax aS bo bY bP Y
theorem uV{W:World}{b:Nat}{l:List (Bool×Int)}{h:Int}(hl:iW l)(h0:0≤h):Fn Tryz.prog W 202 [ptr b,.int .u64 h] [lJ b l] Unit (fun _=>J6 (bj l h)) (fun _=>True) (fun _=>[lJ b l]):=by
 refine Fn.intro (N:=50) func202 rfl ntmps202 rfl fun F=>?_
 show ax _ _ _ _ _ _ [lJ b l,F]
 refine J 13 ?_
 refine .g (.dJ (Y.rem rfl rfl (by omega)) (xp h0)) ?_
 refine JD 4 (fun h13=>?_) fun h13=>?_
 ·refine J 8 ?_
  refine .ef rfl rfl rfl fun w s=>⟨(),?_,trivial,aq .auto s⟩
  rw[tP h13];rfl
 ·refine J 4 ?_
  refine .o1 (C:=lJ b l) .auto rfl ?_
  rintro v -
  obtain⟨hl1,hl2⟩:=hl
  have hm:h % 65536<65536:=by omega
  have ho:(hh:hN h<l.length)→l[hN h]?=some (jL l (hN h)):=getD_some
  refine J 1 ?_
  refine .p (.dJ (Y.rem rfl rfl (by omega)) (xp h0)) ?_
  refine .p (.gp underlying38 underlying3 rfl (by omega)) ?_
  refine .p (.dJ (Y.sub rfl rfl (by omega)) (Gb h13)) ?_
  refine J 14 ?_
  apply aS.fu 10 35 25 [25,26,27,28,29,30,31,32,33,34,35] rfl
  ·intro h25
   have hlt:hN h<l.length:=by omega
   refine J 5 ?_
   refine .g (.hY (hN h) underlying188 sizeOf255 rfl rfl Rd.s rfl hlt) ?_
   refine J 1 ?_
   refine .g (.ld rfl (Cell.yQ Rd.s (ho (by omega)) (by rfl))) ?_
   exact JS 3
  ·intro h25
   exact JS 11
  refine J 1 ?_
  apply aS.gC 12 48 36 [36,37,38,39,40,41,42,43,44,45,46,47,48] rfl
  ·intro h36
   simp only[Bool.or_eq_false_iff,decide_eq_false_iff_not] at h36
   have hlt:hN h<l.length:=by omega
   have hob:=hl2 _ (List.mem_of_getElem? (ho hlt))
   refine J 5 ?_
   refine .g (.hY (hN h) underlying188 sizeOf255 rfl rfl Rd.s rfl hlt) ?_
   refine .g (.la rfl (Cells.rd Rd.s (ho (by omega)))) ?_
   refine J 1 ?_
   refine .cg call157 rfl (qJ (o:=jL l (hN h)) (n:=hN h) (by omega) (by omega)) fun _ _=>?_
   exact JS 4
  ·intro h36
   exact JS 13
  refine JD 2 (fun h48=>?_) fun h48=>?_
  ·refine J 8 ?_
   refine .ef rfl rfl rfl fun w s=>⟨(),?_,trivial,aq .auto s⟩
   rw[find_eq h13,if_pos (by simpa using h48)];rfl
  ·refine J 10 ?_
   refine .ef rfl rfl rfl fun w s=>⟨(),?_,trivial,aq .auto s⟩
   rw[find_eq h13,if_neg (by simpa using h48)];rfl
theorem CE{W:World}{b:Nat}{l:List (Bool×Int)}{h:Int}(hl:iW l)(h0:0≤h):Fn Tryz.prog W 159 [ptr b,.int .u64 h] [lJ b l] Int (fun e=>.int .i64 e) (fun _=>True) (fun _=>[lJ b (slotFreed l h)]):=by
 refine Fn.intro (N:=22) func159 rfl ntmps159 rfl fun F=>?_
 show ax _ _ _ _ _ _ [lJ b l,F]
 refine J 9 ?_
 refine .c call202 rfl (uV hl h0) fun _ _=>?_
 refine JD 14 (fun h14=>?_) fun h14=>?_
 ·refine J 7 ?_
  rw[zf (show bj l h=none from by cases e:bj l h with
   | none=>rfl
   | some n=>rw[e] at h14;cases h14)]
  refine .aI rfl rfl fun w s=>⟨3,?_,trivial,aq .auto s⟩
  rfl
 ·refine J 4 ?_
  refine .o1 (C:=lJ b l) .auto rfl ?_
  rintro v -
  obtain⟨n,hn⟩:∃ n,bj l h=some n:=by cases e:bj l h with
   | none=>rw[e] at h14;cases h14
   | some n=>exact⟨n,rfl⟩
  obtain⟨hlt, -⟩:=vA hn
  have ho:l[n]?=some (jL l n):=getD_some hlt
  obtain⟨u,tk,hut⟩:∃ u tk,jL l n=(u,tk):=⟨_,_,rfl⟩
  rw[hut] at ho
  refine J 5 ?_
  refine .p (.hY n underlying188 sizeOf255 rfl (by rw[hn];rfl) Rd.s rfl hlt) ?_
  refine J 1 ?_
  refine .aw rfl (af.gE (x':=(false,tk)) rfl rfl sizeOf4 rfl ho (by decide) rfl .auto) ?_
  rintro _ _ ⟨rfl,rfl⟩
  refine J 8 ?_
  rw[rS hn,hut]
  refine .aI rfl rfl fun w s=>⟨0,?_,trivial,aq .auto s⟩
  rfl
theorem KM{W:World}{A:aa}{x:dc}{c:Nat}{who:Int}:Fn Tryz.prog W 294 [.agg (cN x).toArray,ptr c] [seps [arr c 0 [.int .i64 who],A]] Unit (fun _=>.bool (decide (x.who=who))) (fun _=>True) (fun _=>[seps [arr c 0 [.int .i64 who],A]]):=by
 refine Fn.intro (N:=8) func294 rfl ntmps294 rfl fun F=>?_
 show ax _ _ _ _ _ _ [seps [arr c 0 [.int .i64 who],A],F]
 refine .fR .auto ?_
 refine J 2 ?_
 refine .aw rfl (af.box rfl rfl rfl) ?_
 rintro _ _ ⟨b2,rfl,rfl⟩
 exact JR 13 ()
theorem wM{W:World}{A:aa}{b:Nat}{u:Value}{cs:List Value}{l:List dc}{who:Int}(hr:Rd W [A] cN 2 u l)(hl:l.length≤1000000):Fn Tryz.prog W 258 [ptr b,.int .i64 who] [arr b 0 (u::cs),A] Unit (fun _=>.bool (lx l who)) (fun _=>True) (fun _=>[arr b 0 (u::cs),A]):=by
 refine Fn.intro (N:=11) func258 rfl ntmps258 rfl fun F=>?_
 show ax _ _ _ _ _ _ [arr b 0 (u::cs),A,F]
 refine J 2 ?_
 refine .aw rfl (af.box rfl rfl rfl) ?_
 rintro _ _ ⟨b3,rfl,rfl⟩
 refine J 9 ?_
 refine .p (.makeFunc rfl rfl) ?_
 refine .c call293 rfl (tD (A:=seps [arr b3 0 [.int .i64 who],A]) (p:=fun w=>decide (w.who=who)) (Rd.kL (Rd.at hr (.there .here))) (by omega) call294 (fun x _=>KM)) fun _ _=>?_
 refine .fR .auto ?_
 exact JR 4 ()
theorem Fp{W:World}{A:aa}{x:Value×dt}{c:Nat}{who:Int}(hr:Rd W [A] cN 2 x.1 x.2.wait)(hl:x.2.wait.length≤1000000):Fn Tryz.prog W 257 [.agg (ly x).toArray,ptr c] [seps [arr c 0 [.int .i64 who],A]] Unit (fun _=>.bool (lx x.2.wait who)) (fun _=>True) (fun _=>[seps [arr c 0 [.int .i64 who],A]]):=by
 refine Fn.intro (N:=7) func257 rfl ntmps257 rfl fun F=>?_
 show ax _ _ _ _ _ _ [seps [arr c 0 [.int .i64 who],A],F]
 refine .fR .auto ?_
 refine J 2 ?_
 refine .aw rfl (af.box rfl rfl rfl) ?_
 rintro _ _ ⟨b2,rfl,rfl⟩
 refine .mem (H':=[arr b2 0 (ly x),arr c 0 [.int .i64 who],A,F]) (fun w s=>s) ?_
 refine J 7 ?_
 refine .c call258 rfl (wM hr hl) fun _ _=>?_
 exact JR 4 ()
theorem Fq{W:World}{A:aa}{x:Value×List dc}{c:Nat}{who:Int}(hr:Rd W [A] cN 2 x.1 x.2)(hl:x.2.length≤1000000):Fn Tryz.prog W 260 [.agg (cj x).toArray,ptr c] [seps [arr c 0 [.int .i64 who],A]] Unit (fun _=>.bool (lx x.2 who)) (fun _=>True) (fun _=>[seps [arr c 0 [.int .i64 who],A]]):=by
 refine Fn.intro (N:=6) func260 rfl ntmps260 rfl fun F=>?_
 show ax _ _ _ _ _ _ [seps [arr c 0 [.int .i64 who],A],F]
 refine .fR .auto ?_
 refine J 2 ?_
 refine .aw rfl (af.box rfl rfl rfl) ?_
 rintro _ _ ⟨b2,rfl,rfl⟩
 refine .mem (H':=[arr b2 0 (cj x),arr c 0 [.int .i64 who],A,F]) (fun w s=>s) ?_
 refine J 6 ?_
 refine .c call258 rfl (wM hr hl) fun _ _=>?_
 exact JR 4 ()
theorem Fs{W:World}{A:aa}{x:Value×jr}{c:Nat}{who:Int}(hr:Rd W [A] cN 2 x.1 x.2.wait)(hl:x.2.wait.length≤1000000):Fn Tryz.prog W 262 [.agg (lK x).toArray,ptr c] [seps [arr c 0 [.int .i64 who],A]] Unit (fun _=>.bool (lx x.2.wait who)) (fun _=>True) (fun _=>[seps [arr c 0 [.int .i64 who],A]]):=by
 refine Fn.intro (N:=7) func262 rfl ntmps262 rfl fun F=>?_
 show ax _ _ _ _ _ _ [seps [arr c 0 [.int .i64 who],A],F]
 refine .fR .auto ?_
 refine J 2 ?_
 refine .aw rfl (af.box rfl rfl rfl) ?_
 rintro _ _ ⟨b2,rfl,rfl⟩
 refine .mem (H':=[arr b2 0 (lK x),arr c 0 [.int .i64 who],A,F]) (fun w s=>s) ?_
 refine J 7 ?_
 refine .c call258 rfl (wM hr hl) fun _ _=>?_
 exact JR 4 ()
theorem nz{W:World}{b:Nat}{g:Gates}{who:Int}{vm vc vs:Value}(hg:gF g):Fn Tryz.prog W 208 [ptr b,.int .i64 who] [arr b 0 [vm,vc,vs],eo vm g.aD,ia vc g.bm,fq vs g.bX] Unit (fun _=>.bool (g.waits who)) (fun _=>True) (fun _=>[arr b 0 [vm,vc,vs],eo vm g.aD,ia vc g.bm,fq vs g.bX]):=by
 refine Fn.intro (N:=27) func208 rfl ntmps208 rfl fun F=>?_
 show ax _ _ _ _ _ _ [arr b 0 [vm,vc,vs],eo vm g.aD,ia vc g.bm,fq vs g.bX,F]
 refine .o1 (C:=eo vm g.aD) .auto rfl ?_
 rintro xm hxm
 refine .o1 (C:=ia vc g.bm) .auto rfl ?_
 rintro xc hxc
 refine .o1 (C:=fq vs g.bX) .auto rfl ?_
 rintro xs hxs
 have hlm:=kO hxm
 have hlc:=kO hxc
 have hls:=kO hxs
 have hm2:∀ x∈xm,x.2.wait.length≤1000000:=fun x hx=>hg.mw _ (hxm ▸ List.mem_map_of_mem hx)
 have hc2:∀ x∈xc,x.2.length≤1000000:=fun x hx=>hg.cw _ (hxc ▸ List.mem_map_of_mem hx)
 have hs2:∀ x∈xs,x.2.wait.length≤1000000:=fun x hx=>hg.sw _ (hxs ▸ List.mem_map_of_mem hx)
 obtain⟨hg1,hg2,hg3, -, -, -⟩:=hg
 refine J 2 ?_
 refine .aw rfl (af.box rfl rfl rfl) ?_
 rintro _ _ ⟨b3,rfl,rfl⟩
 refine J 9 ?_
 refine .p (.makeFunc rfl rfl) ?_
 refine .c call256 rfl (tG (A:=seps [arr b3 0 [.int .i64 who],seps [sl ly 3 vm xm,bb (fun x=>sl cN 2 x.1 x.2.wait) xm]]) (p:=fun x=>lx x.2.wait who) (Rd.kL (Rd.at (Rd.kL (Rd.sl .here)) (.there .here))) (by omega) call257 (fun x hx=>Fp (Rd.kL (vD (f:=fun x:Value×dt=>x.1) (g:=fun x=>x.2.wait) hx (.there .here))) (hm2 x hx))) fun _ _=>?_
 refine .fR .auto ?_
 refine .fR .auto ?_
 refine J 1 ?_
 apply aS.gC 7 18 11 [11,12,13,14,15,16,17,18] rfl
 ·intro h11
  refine J 4 ?_
  refine .g (.makeFunc rfl rfl) ?_
  refine .cg call259 rfl (tH (A:=seps [arr b3 0 [.int .i64 who],seps [sl cj 1 vc xc,bb (fun x=>sl cN 2 x.1 x.2) xc]]) (p:=fun x=>lx x.2 who) (Rd.kL (Rd.at (Rd.kL (Rd.sl .here)) (.there .here))) (by omega) call260 (fun x hx=>Fq (Rd.kL (vD (f:=fun x:Value×List dc=>x.1) (g:=fun x=>x.2) hx (.there .here))) (hc2 x hx))) fun _ _=>?_
  refine .fR .auto ?_
  refine .fR .auto ?_
  exact JS 2
 ·intro h11
  exact JS 8
 refine J 1 ?_
 apply aS.gC 7 26 19 [19,20,21,22,23,24,25,26] rfl
 ·intro h19
  refine J 4 ?_
  refine .g (.makeFunc rfl rfl) ?_
  refine .cg call261 rfl (tI (A:=seps [arr b3 0 [.int .i64 who],seps [sl lK 2 vs xs,bb (fun x=>sl cN 2 x.1 x.2.wait) xs]]) (p:=fun x=>lx x.2.wait who) (Rd.kL (Rd.at (Rd.kL (Rd.sl .here)) (.there .here))) (by omega) call262 (fun x hx=>Fs (Rd.kL (vD (f:=fun x:Value×jr=>x.1) (g:=fun x=>x.2.wait) hx (.there .here))) (hs2 x hx))) fun _ _=>?_
  refine .fR .auto ?_
  refine .fR .auto ?_
  exact JS 2
 ·intro h19
  exact JS 8
 refine J 4 ?_
 refine .aI rfl rfl fun w s=>⟨(),?_,trivial,aq .auto s⟩
 exact F6 (DG hxm hxc hxs)
theorem lk{W:World}{b:Nat}{l:List (dt)}{m:Int}{vm vc vs:Value}:Fn Tryz.prog W 207 [ptr b,.int .i64 m] [arr b 0 [vm,vc,vs],eo vm l] Unit (fun _=>HS vm l.length 3 m) (fun _=>True) (fun _=>[arr b 0 [vm,vc,vs],eo vm l]):=by
 refine Fn.intro (N:=26) func207 rfl ntmps207 rfl fun F=>?_
 show ax _ _ _ _ _ _ [arr b 0 [vm,vc,vs],eo vm l,F]
 refine .o1 (C:=eo vm l) .auto rfl ?_
 rintro xs hxs
 have hl:=kO hxs
 refine J 15 ?_
 apply aS.fu 8 19 11 [11,12,13,14,15,16,17,18,19] rfl
 ·intro h11
  exact JS 9
 ·intro h11
  exact JS 9
 refine JD 2 (fun h19=>?_) fun h19=>?_
 ·simp only[Bool.or_eq_true,decide_eq_true_eq] at h19
  refine J 7 ?_
  refine .aI rfl rfl fun w s=>⟨(),?_,trivial,aq .auto s⟩
  rw[qV (by omega)]
 ·simp only[Bool.or_eq_false_iff,decide_eq_false_iff_not] at h19
  refine J 9 ?_
  refine .p (.ix m.toNat rfl rfl (by omega) (by omega)) ?_
  refine J 4 ?_
  refine .aI rfl rfl fun w s=>⟨(),?_,trivial,aq .auto s⟩
  rw[fe (by omega)]
theorem uW{W:World}{b:Nat}{l:List (List dc)}{m:Int}{vm vc vs:Value}:Fn Tryz.prog W 169 [ptr b,.int .i64 m] [arr b 0 [vm,vc,vs],ia vc l] Unit (fun _=>HS vc l.length 1 m) (fun _=>True) (fun _=>[arr b 0 [vm,vc,vs],ia vc l]):=by
 refine Fn.intro (N:=26) func169 rfl ntmps169 rfl fun F=>?_
 show ax _ _ _ _ _ _ [arr b 0 [vm,vc,vs],ia vc l,F]
 refine .o1 (C:=ia vc l) .auto rfl ?_
 rintro xs hxs
 have hl:=kO hxs
 refine J 15 ?_
 apply aS.fu 8 19 11 [11,12,13,14,15,16,17,18,19] rfl
 ·intro h11
  exact JS 9
 ·intro h11
  exact JS 9
 refine JD 2 (fun h19=>?_) fun h19=>?_
 ·simp only[Bool.or_eq_true,decide_eq_true_eq] at h19
  refine J 7 ?_
  refine .aI rfl rfl fun w s=>⟨(),?_,trivial,aq .auto s⟩
  rw[qV (by omega)]
 ·simp only[Bool.or_eq_false_iff,decide_eq_false_iff_not] at h19
  refine J 9 ?_
  refine .p (.ix m.toNat rfl rfl (by omega) (by omega)) ?_
  refine J 4 ?_
  refine .aI rfl rfl fun w s=>⟨(),?_,trivial,aq .auto s⟩
  rw[fe (by omega)]
theorem yA{W:World}{b:Nat}{l:List (jr)}{m:Int}{vm vc vs:Value}:Fn Tryz.prog W 214 [ptr b,.int .i64 m] [arr b 0 [vm,vc,vs],fq vs l] Unit (fun _=>HS vs l.length 2 m) (fun _=>True) (fun _=>[arr b 0 [vm,vc,vs],fq vs l]):=by
 refine Fn.intro (N:=26) func214 rfl ntmps214 rfl fun F=>?_
 show ax _ _ _ _ _ _ [arr b 0 [vm,vc,vs],fq vs l,F]
 refine .o1 (C:=fq vs l) .auto rfl ?_
 rintro xs hxs
 have hl:=kO hxs
 refine J 15 ?_
 apply aS.fu 8 19 11 [11,12,13,14,15,16,17,18,19] rfl
 ·intro h11
  exact JS 9
 ·intro h11
  exact JS 9
 refine JD 2 (fun h19=>?_) fun h19=>?_
 ·simp only[Bool.or_eq_true,decide_eq_true_eq] at h19
  refine J 7 ?_
  refine .aI rfl rfl fun w s=>⟨(),?_,trivial,aq .auto s⟩
  rw[qV (by omega)]
 ·simp only[Bool.or_eq_false_iff,decide_eq_false_iff_not] at h19
  refine J 9 ?_
  refine .p (.ix m.toNat rfl rfl (by omega) (by omega)) ?_
  refine J 4 ?_
  refine .aI rfl rfl fun w s=>⟨(),?_,trivial,aq .auto s⟩
  rw[fe (by omega)]
theorem wN{W:World}{b o:Nat}{l:List dc}{x:dc}(hl:l.length≤100000000):Fn Tryz.prog W 211 [.pointer (some ⟨b,o,none⟩),.agg (cN x).toArray] [iy b o l] Unit (fun _=>.tuple #[]) (fun _=>True) (fun _=>[iy b o (l++[x])]):=by
 refine Fn.intro (N:=14) func211 rfl ntmps211 rfl fun F=>?_
 show ax _ _ _ _ _ _ [iy b o l,F]
 refine .o1 (C:=iy b o l) .auto rfl ?_
 rintro v -
 refine J 2 ?_
 refine .aw rfl (af.box rfl rfl rfl) ?_
 rintro _ _ ⟨b3,rfl,rfl⟩
 refine .mem (H':=[arr b3 0 (cN x),arr b o [v],sl cN 2 v l,F]) (fun w s=>s) ?_
 refine J 2 ?_
 refine .draw [arr b o [v]] [0,0,0,0,0,1,2,2,1,1,3] rfl (by kernel_rfl) ?_
 refine J 6 ?_
 refine .d2 rfl Kept.auto (af.gN 274 rfl rfl (by kernel_rfl)) (by rintro _ _ ⟨b10,rfl,rfl⟩;exact Kept.auto) ?_
 rintro _ _ ⟨b10,rfl,rfl⟩
 refine .mem (H':=[arr b10 0 (cN x),arr b3 0 (cN x),arr b o [v],sl cN 2 v l,F]) (fun w s=>s) ?_
 refine .d2 rfl Kept.auto (af.fb (enc:=cN) (k:=2) x rfl underlying196 underlying196 typeInfo274 rfl rfl rfl (by decide) rfl rfl rfl .auto rfl .auto (by omega) rfl) (by rintro _ _ ⟨v11,rfl,rfl⟩;exact Kept.auto) ?_
 rintro _ _ ⟨v11,rfl,rfl⟩
 refine J 2 ?_
 refine .d3 rfl (af.m6 sizeOf196 rfl rfl rfl) ?_
 rintro _ _ ⟨rfl,rfl⟩
 exact JR 1 ()
theorem s7{W:World}{b o:Nat}{l:List dc}{c:Int}(hl:l.length≤1000000):Fn Tryz.prog W 170 [.pointer (some ⟨b,o,none⟩),.int .i64 c] [iy b o l] Unit (fun _=>.tuple #[.agg (cN (aH l c).1).toArray,.bool (aH l c).2.1]) (fun _=>True) (fun _=>[iy b o (aH l c).2.2]):=by
 refine Fn.intro (N:=43) func170 rfl ntmps170 rfl fun F=>?_
 show ax _ _ _ _ _ _ [iy b o l,F]
 refine .o1 (C:=iy b o l) .auto rfl ?_
 rintro v -
 refine J 2 ?_
 refine .aw rfl (af.alloc rfl zeroValue274 rfl) ?_
 rintro _ _ ⟨b4,rfl,rfl⟩
 refine JD 20 (fun h15=>?_) fun h15=>?_
 ·refine J 2 ?_
  refine .p (.tu ([(.int .i64 0),(.int .i64 0)]) (by kernel_rfl)) ?_
  refine J 6 ?_
  rw[vE (show l.length=0 by omega)]
  refine .jU rfl rfl isAgg274 (by exact sizeOf274) Cells.a rfl fun w s=>⟨(),?_,trivial,aq .auto s⟩
  rfl
 ·refine J 4 ?_
  have hpk:pick c l.length<l.length:=eX (by omega)
  refine J 2 ?_
  refine .p (.rem rfl rfl (by omega)) ?_
  refine J 1 ?_
  refine .p (.add rfl rfl (Aq (by omega) (by omega))) ?_
  refine J 1 ?_
  refine .p (.dJ (Y.rem rfl rfl (by omega)) (rN (by omega))) ?_
  refine J 10 ?_
  refine .p (.hY (pick c l.length) underlying196 sizeOf274 rfl rfl Rd.s rfl hpk) ?_
  refine .p (.la rfl (Cells.rd Rd.s (getD_some (d:=⟨0,0⟩) hpk))) ?_
  refine .aw rfl (af.alloc rfl zeroValue274 rfl) ?_
  rintro _ _ ⟨b8,rfl,rfl⟩
  refine J 13 ?_
  refine .c call212 rfl (Ho hpk (by omega)) fun u39 _=>?_
  refine J 2 ?_
  refine .aw rfl (af.m6 sizeOf196 rfl rfl rfl) ?_
  rintro _ _ ⟨rfl,rfl⟩
  refine J 10 ?_
  rw[qU (show ¬l.length=0 by omega)]
  refine .jU rfl rfl isAgg274 (by exact sizeOf274) Cells.a rfl fun w s=>⟨(),?_,trivial,aq .auto s⟩
  rfl
theorem s8{W:World}{b o:Nat}{m:dt}{who:Int}:Fn Tryz.prog W 209 [.pointer (some ⟨b,o,none⟩),.int .i64 who] [ew b o m] Unit (fun _=>.bool (m.is who)) (fun _=>True) (fun _=>[ew b o m]):=by
 refine Fn.intro (N:=17) func209 rfl ntmps209 rfl fun F=>?_
 show ax _ _ _ _ _ _ [ew b o m,F]
 refine .o1 (C:=ew b o m) .auto rfl ?_
 rintro u -
 refine J 12 ?_
 apply aS.iG 7 16 9 [9,10,11,12,13,14,15,16] rfl
 ·intro h9
  exact JS 8
 ·intro h9
  exact JS 8
 exact JR 4 ()
theorem s9{W:World}{b o:Nat}{m:dt}{who:Int}(hl:m.wait.length≤100000000):Fn Tryz.prog W 171 [.pointer (some ⟨b,o,none⟩),.int .i64 who] [ew b o m] Unit (fun _=>.bool (m.lock who).1) (fun _=>True) (fun _=>[ew b o (m.lock who).2]):=by
 refine Fn.intro (N:=22) func171 rfl ntmps171 rfl fun F=>?_
 show ax _ _ _ _ _ _ [ew b o m,F]
 refine .o1 (C:=ew b o m) .auto rfl ?_
 rintro u -
 refine JD 14 (fun h8=>?_) fun h8=>?_
 ·refine J 6 ?_
  refine .p (.iv (fun v1=>[v1,(.int .i64 0)]) rfl (by kernel_rfl)) ?_
  refine .fr .auto (oa (b:=b) (o:=o) (u:=u)) ?_
  refine .c call211 rfl (wN (x:=⟨who,0⟩) hl) fun _ _=>?_
  refine J 9 ?_
  rw[vF h8]
  refine .to (A:=ew b o {m with wait:=m.wait++[⟨who,0⟩] }) (Bs:=[iy b o (m.wait++[⟨who,0⟩]),arr b (o+1) [.bool m.held,.int .i64 m.owner]]) .auto (Ap (m:={m with wait:=m.wait++[⟨who,0⟩] })) ?_
  exact JR 0 ()
 ·refine J 9 ?_
  refine .aw rfl (af.HO sizeOf4 rfl rfl rfl rfl) ?_
  rintro _ _ ⟨rfl,rfl⟩
  refine J 2 ?_
  refine .aw rfl (af.HO sizeOf3 rfl rfl rfl rfl) ?_
  rintro _ _ ⟨rfl,rfl⟩
  refine J 8 ?_
  rw[vG h8]
  exact JR 0 ()
theorem pj{W:World}{b o:Nat}{m:dt}{c:Int}(hl:m.wait.length≤1000000):Fn Tryz.prog W 210 [.pointer (some ⟨b,o,none⟩),.int .i64 c] [ew b o m] Unit (fun _=>.tuple #[.int .i64 (m.unlock c).1,.bool (m.unlock c).2.1]) (fun _=>True) (fun _=>[ew b o (m.unlock c).2.2]):=by
 refine Fn.intro (N:=28) func210 rfl ntmps210 rfl fun F=>?_
 show ax _ _ _ _ _ _ [ew b o m,F]
 refine .o1 (C:=ew b o m) .auto rfl ?_
 rintro u -
 refine J 12 ?_
 refine .fr .auto (oa (b:=b) (o:=o) (u:=u)) ?_
 refine .c call170 rfl (s7 hl) fun _ _=>?_
 refine J 3 ?_
 refine .aw rfl (af.alloc rfl zeroValue274 rfl) ?_
 rintro _ _ ⟨b6,rfl,rfl⟩
 refine J 5 ?_
 refine .draw [arr b6 0 (cN (aH m.wait c).1)] [1,0,1,0,0,1,1,2,1,1,3] rfl (by kernel_rfl) ?_
 refine J 7 ?_
 refine .d2 rfl Kept.auto (af.HP sizeOf4 rfl rfl rfl rfl) (by rintro _ _ ⟨rfl,rfl⟩;exact Kept.auto) ?_
 rintro _ _ ⟨rfl,rfl⟩
 refine J 2 ?_
 refine .d3 rfl (af.HO (i:=1) sizeOf3 rfl rfl rfl rfl) ?_
 rintro _ _ ⟨rfl,rfl⟩
 refine J 12 ?_
 refine .to (A:=ew b o (m.unlock c).2.2) (Bs:=[iy b o (aH m.wait c).2.2,arr b (o+1) [.bool (aH m.wait c).2.1,.int .i64 (aH m.wait c).1.who]]) .auto (Ap (m:=(m.unlock c).2.2)) ?_
 exact JR 0 ()
end Go.SLYtefdijgllbkmfaaGreat
