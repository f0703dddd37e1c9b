/- Walks. Conditions: none. -/
import Derived.Test.YtpbjdoplfgeliaaGreatU07
import Derived.Test.YtpbjdoplfgeliaaGreatProg
import Derived.KernelRfl
import Derived.Test.YtpbjdoplfgeliaaGreatU03
import Derived.Test.YtpbjdoplfgeliaaGreatU06
set_option maxRecDepth 20000
set_option maxHeartbeats 4000000
namespace Go.SLYtpbjdoplfgeliaaGreat
open Go Go.RowKit Go.Proofs Go.Proofs.Tryz
attribute [local irreducible] ar aR bm bA bH Y
theorem fI{W:World}{n m:Int}:Fn Tryz.prog W 154 [.int .i64 n,.int .i64 m] [] Unit (fun _=>.bool (within n m)) (fun _=>True) (fun _=>[]):=by
 refine Fn.intro (N:=12) func154 rfl ntmps154 rfl fun F=>?_
 show ar _ _ _ _ _ _ [F]
 refine J 10 ?_
 apply aR.gz 4 11 7 [7,8,9,10,11] rfl
 ·intro h7
  exact JS 5
 ·intro h7
  exact JS 5
 exact JR 4 ()
theorem qm{W:World}{n m:Int}:Fn Tryz.prog W 144 [.int .i64 n,.int .i64 m] [] Unit (fun _=>.bool (within n m)) (fun _=>True) (fun _=>[]):=by
 refine Fn.intro (N:=12) func144 rfl ntmps144 rfl fun F=>?_
 show ar _ _ _ _ _ _ [F]
 refine J 10 ?_
 apply aR.gz 4 11 7 [7,8,9,10,11] rfl
 ·intro h7
  exact JS 5
 ·intro h7
  exact JS 5
 exact JR 4 ()
theorem nj{W:World}{n:Int}{b:Bool}:Fn Tryz.prog W 156 [.int .i64 n,.bool b] [] Unit (fun _=>.bool (wg n b)) (fun _=>True) (fun _=>[]):=by
 refine Fn.intro (N:=18) func156 rfl ntmps156 rfl fun F=>?_
 show ar _ _ _ _ _ _ [F]
 refine J 10 ?_
 apply aR.gA 10 17 7 [7,8,9,10,11,12,13,14,15,16,17] rfl
 ·intro h7
  refine J 2 ?_
  apply aR.gq 3 12 9 [9,10,11,12] rfl
  ·intro h9
   refine J 4 ?_
   refine .n9 .auto rfl (by first | exact fun _ h=>h | exact aw.kept .auto)
  ·intro h9
   refine J 4 ?_
   refine .n9 .auto rfl (by first | exact fun _ h=>h | exact aw.kept .auto)
  refine J 1 ?_
  apply aR.gq 3 16 13 [13,14,15,16] rfl
  ·intro h13
   refine J 4 ?_
   refine .n9 .auto rfl (by first | exact fun _ h=>h | exact aw.kept .auto)
  ·intro h13
   refine J 4 ?_
   refine .n9 .auto rfl (by first | exact fun _ h=>h | exact aw.kept .auto)
  refine J 2 ?_
  refine .n9 .auto rfl (by first | exact fun _ h=>h | exact aw.kept .auto)
 ·intro h7
  refine J 11 ?_
  refine .n9 .auto rfl (by first | exact fun _ h=>h | exact aw.kept .auto)
 exact JR 4 ()
theorem l5{W:World}{op:Int}:Fn Tryz.prog W 76 [.int .i64 op] [] Unit (fun _=>.int .i64 (cls op)) (fun _=>True) (fun _=>[]):=by
 refine Fn.intro (N:=24) func76 rfl ntmps76 rfl fun F=>?_
 show ar _ _ _ _ _ _ [F]
 refine J 12 ?_
 apply aR.gz 3 9 6 [6,7,8,9] rfl
 ·intro h6
  exact JS 4
 ·intro h6
  exact JS 4
 refine JD 3 (fun h3=>?_) fun h3=>?_
 ·simp only[Bool.and_eq_true,decide_eq_true_eq] at h3
  refine J 8 ?_
  refine .aS rfl rfl fun w s=>⟨(),?_,trivial,ak .auto s⟩
  refine zP ?_;unfold cls;repeat (first | rw[if_pos (by omega)] | rw[if_neg (by omega)])
 ·simp only[Bool.and_eq_false_iff,decide_eq_false_iff_not] at h3
  refine J 5 ?_
  apply aR.gz 3 16 13 [13,14,15,16] rfl
  ·intro h13
   exact JS 4
  ·intro h13
   exact JS 4
  refine JD 3 (fun h10=>?_) fun h10=>?_
  ·simp only[Bool.and_eq_true,decide_eq_true_eq] at h10
   refine J 8 ?_
   refine .aS rfl rfl fun w s=>⟨(),?_,trivial,ak .auto s⟩
   refine zP ?_;unfold cls;repeat (first | rw[if_pos (by omega)] | rw[if_neg (by omega)])
  ·simp only[Bool.and_eq_false_iff,decide_eq_false_iff_not] at h10
   refine J 5 ?_
   apply aR.gz 3 23 20 [20,21,22,23] rfl
   ·intro h20
    exact JS 4
   ·intro h20
    exact JS 4
   refine JD 3 (fun h17=>?_) fun h17=>?_
   ·simp only[Bool.and_eq_true,decide_eq_true_eq] at h17
    refine J 8 ?_
    refine .aS rfl rfl fun w s=>⟨(),?_,trivial,ak .auto s⟩
    refine zP ?_;unfold cls;repeat (first | rw[if_pos (by omega)] | rw[if_neg (by omega)])
   ·simp only[Bool.and_eq_false_iff,decide_eq_false_iff_not] at h17
    refine J 9 ?_
    refine .aS rfl rfl fun w s=>⟨(),?_,trivial,ak .auto s⟩
    refine zP ?_;unfold cls;repeat (first | rw[if_pos (by omega)] | rw[if_neg (by omega)])
theorem uP{W:World}{f:Form}{n:Int}(hf:f.n≤9223372036854775807):Fn Tryz.prog W 157 [.agg (eg f).toArray,.int .u64 n] [] Unit (fun _=>.bool (f.below n)) (fun _=>True) (fun _=>[]):=by
 refine Fn.intro (N:=24) func157 rfl ntmps157 rfl fun F=>?_
 show ar _ _ _ _ _ _ [F]
 refine J 2 ?_
 refine .aj rfl (af.box rfl rfl rfl) ?_
 rintro _ _ ⟨b2,rfl,rfl⟩
 refine JD 12 (fun h5=>?_) fun h5=>?_
 ·refine J 8 ?_
  refine .aS rfl rfl fun w s=>⟨(),?_,trivial,ak .auto s⟩
  rw[Form.below,if_pos h5]
 ·refine JD 8 (fun h8=>?_) fun h8=>?_
  ·refine J 10 ?_
   refine .aS rfl rfl fun w s=>⟨(),?_,trivial,ak .auto s⟩
   rw[Form.below,if_neg (by simp[h5]),if_pos h8]
  ·refine J 9 ?_
   apply aR.gz 6 23 17 [17,18,19,20,21,22,23] rfl
   ·intro h17
    refine J 3 ?_
    refine .g (.tq underlying3 underlying92 rfl (by omega)) ?_
    exact JS 3
   ·intro h17
    exact JS 7
   refine J 4 ?_
   refine .aS rfl rfl fun w s=>⟨(),?_,trivial,ak .auto s⟩
   rw[Form.below,if_neg (by simp[h5]),if_neg h8]
theorem Kx{W:World}{A:aa}{v:bc}(hp:eY W [A] v){op:Int}:Fn Tryz.prog W 155 [.agg (eT v).toArray,.int .i64 op] [A] Unit (fun _=>.agg (eg (bV v.p op)).toArray) (fun _=>True) (fun _=>[A]):=by
 refine Fn.intro (N:=73) func155 rfl ntmps155 rfl fun F=>?_
 haveI hI1:∀ (H:List aa) [bE H A],aC W H v.fv eu 1 v.fs:=fun H h=>⟨hp.fs.at h.has⟩
 haveI hI2:∀ (H:List aa) [bE H A],aC W H v.sv aq 1 v.bK:=fun H h=>⟨hp.bK.at h.has⟩
 haveI hI3:∀ (H:List aa) [bE H A],aC W H v.pv aq 1 v.bf:=fun H h=>⟨hp.bf.at h.has⟩
 show ar _ _ _ _ _ _ [A,F]
 refine J 2 ?_
 refine .aj rfl (af.box rfl rfl rfl) ?_
 rintro _ _ ⟨b2,rfl,rfl⟩
 refine .aj rfl (af.alloc rfl zeroValue258 rfl) ?_
 rintro _ _ ⟨b4,rfl,rfl⟩
 refine JD 15 (fun h6=>?_) fun h6=>?_
 ·refine J 2 ?_
  refine .p (.fY (fun v1 v2=>[v1,(.bool false),(.int .i64 0),v2]) rfl rfl (by kernel_rfl)) ?_
  refine J 6 ?_
  refine .dJ rfl rfl isAgg258 (by exact sizeOf258) Cells.a fun w s=>⟨(),?_,trivial,ak .auto s⟩
  simp[bV,eg, *]
 ·refine JD 7 (fun h9=>?_) fun h9=>?_
  ·refine J 2 ?_
   first | refine ar.da rfl (fun _=>?_) (fun hc=>absurd h9 hc) | refine ar.cond rfl (fun _=>?_) (fun hc=>by rw[h9] at hc;cases hc)
   refine J 2 ?_
   refine .p (.fY (fun v1 v2=>[v1,(.bool false),v2,(.bool false)]) rfl rfl (by kernel_rfl)) ?_
   refine J 6 ?_
   refine .dJ rfl rfl isAgg258 (by exact sizeOf258) Cells.a fun w s=>⟨(),?_,trivial,ak .auto s⟩
   simp[bV,eg, *]
  ·refine JD 6 (fun h9=>?_) fun h9=>?_
   ·refine J 2 ?_
    first | refine ar.da rfl (fun _=>?_) (fun hc=>absurd h9 hc) | refine ar.cond rfl (fun _=>?_) (fun hc=>by rw[h9] at hc;cases hc)
    refine J 2 ?_
    refine .p (.fY (fun v1 v2=>[v1,(.bool false),v2,(.bool false)]) rfl rfl (by kernel_rfl)) ?_
    refine J 6 ?_
    refine .dJ rfl rfl isAgg258 (by exact sizeOf258) Cells.a fun w s=>⟨(),?_,trivial,ak .auto s⟩
    simp[bV,eg, *]
   ·refine JD 6 (fun h9=>?_) fun h9=>?_
    ·refine J 2 ?_
     first | refine ar.da rfl (fun _=>?_) (fun hc=>absurd h9 hc) | refine ar.cond rfl (fun _=>?_) (fun hc=>by rw[h9] at hc;cases hc)
     refine J 2 ?_
     refine .p (.fY (fun v1 v2=>[v1,(.bool false),v2,(.bool false)]) rfl rfl (by kernel_rfl)) ?_
     refine J 6 ?_
     refine .dJ rfl rfl isAgg258 (by exact sizeOf258) Cells.a fun w s=>⟨(),?_,trivial,ak .auto s⟩
     simp[bV,eg, *]
    ·refine JD 6 (fun h9=>?_) fun h9=>?_
     ·refine J 2 ?_
      first | refine ar.da rfl (fun _=>?_) (fun hc=>absurd h9 hc) | refine ar.cond rfl (fun _=>?_) (fun hc=>by rw[h9] at hc;cases hc)
      refine J 2 ?_
      refine .p (.fY (fun v1 v2=>[v1,(.bool false),v2,(.bool false)]) rfl rfl (by kernel_rfl)) ?_
      refine J 6 ?_
      refine .dJ rfl rfl isAgg258 (by exact sizeOf258) Cells.a fun w s=>⟨(),?_,trivial,ak .auto s⟩
      simp[bV,eg, *]
     ·refine JD 6 (fun h9=>?_) fun h9=>?_
      ·refine J 2 ?_
       first | refine ar.da rfl (fun _=>?_) (fun hc=>absurd h9 hc) | refine ar.cond rfl (fun _=>?_) (fun hc=>by rw[h9] at hc;cases hc)
       refine J 2 ?_
       refine .p (.fY (fun v1 v2=>[v1,(.bool false),v2,(.bool false)]) rfl rfl (by kernel_rfl)) ?_
       refine J 6 ?_
       refine .dJ rfl rfl isAgg258 (by exact sizeOf258) Cells.a fun w s=>⟨(),?_,trivial,ak .auto s⟩
       simp[bV,eg, *]
      ·refine JD 6 (fun h9=>?_) fun h9=>?_
       ·refine J 2 ?_
        first | refine ar.da rfl (fun _=>?_) (fun hc=>absurd h9 hc) | refine ar.cond rfl (fun _=>?_) (fun hc=>by rw[h9] at hc;cases hc)
        refine J 2 ?_
        refine .p (.fY (fun v1 v2=>[v1,(.bool false),v2,(.bool false)]) rfl rfl (by kernel_rfl)) ?_
        refine J 6 ?_
        refine .dJ rfl rfl isAgg258 (by exact sizeOf258) Cells.a fun w s=>⟨(),?_,trivial,ak .auto s⟩
        simp[bV,eg, *]
       ·refine JD 6 (fun h9=>?_) fun h9=>?_
        ·refine J 2 ?_
         first | refine ar.da rfl (fun _=>?_) (fun hc=>absurd h9 hc) | refine ar.cond rfl (fun _=>?_) (fun hc=>by rw[h9] at hc;cases hc)
         refine J 2 ?_
         refine .p (.fY (fun v1 v2=>[v1,(.bool false),v2,(.bool false)]) rfl rfl (by kernel_rfl)) ?_
         refine J 6 ?_
         refine .dJ rfl rfl isAgg258 (by exact sizeOf258) Cells.a fun w s=>⟨(),?_,trivial,ak .auto s⟩
         simp[bV,eg, *]
        ·refine JD 5 (fun h9=>?_) fun h9=>?_
         ·refine J 2 ?_
          refine .p (.fY (fun v1 v2=>[v1,(.bool false),v2,(.bool false)]) rfl rfl (by kernel_rfl)) ?_
          refine J 6 ?_
          refine .dJ rfl rfl isAgg258 (by exact sizeOf258) Cells.a fun w s=>⟨(),?_,trivial,ak .auto s⟩
          simp[bV,eg, *]
         ·refine JD 6 (fun h19=>?_) fun h19=>?_
          ·refine J 2 ?_
           refine .p (.gX (fun v1=>[(.int .i64 0),(.bool false),v1,(.bool false)]) rfl (by kernel_rfl)) ?_
           refine J 6 ?_
           refine .dJ rfl rfl isAgg258 (by exact sizeOf258) Cells.a fun w s=>⟨(),?_,trivial,ak .auto s⟩
           simp[bV,eg, *]
          ·refine JD 6 (fun h22=>?_) fun h22=>?_
           ·refine J 2 ?_
            refine .p (.fY (fun v1 v2=>[v1,(.bool false),v2,(.bool false)]) rfl rfl (by kernel_rfl)) ?_
            refine J 6 ?_
            refine .dJ rfl rfl isAgg258 (by exact sizeOf258) Cells.a fun w s=>⟨(),?_,trivial,ak .auto s⟩
            simp[bV,eg, *]
           ·refine JD 6 (fun h25=>?_) fun h25=>?_
            ·refine J 5 ?_
             refine .p (.fY (fun v1 v2=>[v1,(.bool false),v2,(.bool false)]) rfl rfl (by kernel_rfl)) ?_
             refine J 6 ?_
             refine .dJ rfl rfl isAgg258 (by exact sizeOf258) Cells.a fun w s=>⟨(),?_,trivial,ak .auto s⟩
             simp[bV,eg,bc.p, *]
            ·refine JD 7 (fun h31=>?_) fun h31=>?_
             ·refine J 2 ?_
              first | refine ar.da rfl (fun _=>?_) (fun hc=>absurd h31 hc) | refine ar.cond rfl (fun _=>?_) (fun hc=>by rw[h31] at hc;cases hc)
              refine J 2 ?_
              refine .p (.fY (fun v1 v2=>[v1,(.bool false),v2,(.bool false)]) rfl rfl (by kernel_rfl)) ?_
              refine J 6 ?_
              refine .dJ rfl rfl isAgg258 (by exact sizeOf258) Cells.a fun w s=>⟨(),?_,trivial,ak .auto s⟩
              simp[bV,eg, *]
             ·refine JD 6 (fun h31=>?_) fun h31=>?_
              ·refine J 2 ?_
               first | refine ar.da rfl (fun _=>?_) (fun hc=>absurd h31 hc) | refine ar.cond rfl (fun _=>?_) (fun hc=>by rw[h31] at hc;cases hc)
               refine J 2 ?_
               refine .p (.fY (fun v1 v2=>[v1,(.bool false),v2,(.bool false)]) rfl rfl (by kernel_rfl)) ?_
               refine J 6 ?_
               refine .dJ rfl rfl isAgg258 (by exact sizeOf258) Cells.a fun w s=>⟨(),?_,trivial,ak .auto s⟩
               simp[bV,eg, *]
              ·refine JD 6 (fun h31=>?_) fun h31=>?_
               ·refine J 2 ?_
                first | refine ar.da rfl (fun _=>?_) (fun hc=>absurd h31 hc) | refine ar.cond rfl (fun _=>?_) (fun hc=>by rw[h31] at hc;cases hc)
                refine J 2 ?_
                refine .p (.fY (fun v1 v2=>[v1,(.bool false),v2,(.bool false)]) rfl rfl (by kernel_rfl)) ?_
                refine J 6 ?_
                refine .dJ rfl rfl isAgg258 (by exact sizeOf258) Cells.a fun w s=>⟨(),?_,trivial,ak .auto s⟩
                simp[bV,eg, *]
               ·refine JD 6 (fun h31=>?_) fun h31=>?_
                ·refine J 2 ?_
                 first | refine ar.da rfl (fun _=>?_) (fun hc=>absurd h31 hc) | refine ar.cond rfl (fun _=>?_) (fun hc=>by rw[h31] at hc;cases hc)
                 refine J 2 ?_
                 refine .p (.fY (fun v1 v2=>[v1,(.bool false),v2,(.bool false)]) rfl rfl (by kernel_rfl)) ?_
                 refine J 6 ?_
                 refine .dJ rfl rfl isAgg258 (by exact sizeOf258) Cells.a fun w s=>⟨(),?_,trivial,ak .auto s⟩
                 simp[bV,eg, *]
                ·refine JD 5 (fun h31=>?_) fun h31=>?_
                 ·refine J 2 ?_
                  refine .p (.fY (fun v1 v2=>[v1,(.bool false),v2,(.bool false)]) rfl rfl (by kernel_rfl)) ?_
                  refine J 6 ?_
                  refine .dJ rfl rfl isAgg258 (by exact sizeOf258) Cells.a fun w s=>⟨(),?_,trivial,ak .auto s⟩
                  simp[bV,eg, *]
                 ·refine JD 6 (fun h38=>?_) fun h38=>?_
                  ·refine J 2 ?_
                   refine .p (.gX (fun v1=>[(.int .i64 0),(.bool false),v1,(.bool false)]) rfl (by kernel_rfl)) ?_
                   refine J 6 ?_
                   refine .dJ rfl rfl isAgg258 (by exact sizeOf258) Cells.a fun w s=>⟨(),?_,trivial,ak .auto s⟩
                   simp[bV,eg, *]
                  ·refine JD 7 (fun h41=>?_) fun h41=>?_
                   ·refine J 2 ?_
                    first | refine ar.da rfl (fun _=>?_) (fun hc=>absurd h41 hc) | refine ar.cond rfl (fun _=>?_) (fun hc=>by rw[h41] at hc;cases hc)
                    refine J 4 ?_
                    refine .p (.gX (fun v1=>[(.int .i64 0),(.bool false),v1,(.bool false)]) rfl (by kernel_rfl)) ?_
                    refine J 6 ?_
                    refine .dJ rfl rfl isAgg258 (by exact sizeOf258) Cells.a fun w s=>⟨(),?_,trivial,ak .auto s⟩
                    simp[bV,eg,bc.p, *]
                   ·refine JD 5 (fun h41=>?_) fun h41=>?_
                    ·refine J 4 ?_
                     refine .p (.gX (fun v1=>[(.int .i64 0),(.bool false),v1,(.bool false)]) rfl (by kernel_rfl)) ?_
                     refine J 6 ?_
                     refine .dJ rfl rfl isAgg258 (by exact sizeOf258) Cells.a fun w s=>⟨(),?_,trivial,ak .auto s⟩
                     simp[bV,eg,bc.p, *]
                    ·refine JD 6 (fun h47=>?_) fun h47=>?_
                     ·refine J 4 ?_
                      refine .p (.fY (fun v1 v2=>[(.int .i64 0),v2,v1,(.bool false)]) rfl rfl (by kernel_rfl)) ?_
                      refine J 6 ?_
                      refine .dJ rfl rfl isAgg258 (by exact sizeOf258) Cells.a fun w s=>⟨(),?_,trivial,ak .auto s⟩
                      simp[bV,eg,bc.p, *]
                     ·refine JD 7 (fun h52=>?_) fun h52=>?_
                      ·refine J 2 ?_
                       first | refine ar.da rfl (fun _=>?_) (fun hc=>absurd h52 hc) | refine ar.cond rfl (fun _=>?_) (fun hc=>by rw[h52] at hc;cases hc)
                       refine J 4 ?_
                       refine .p (.gX (fun v1=>[(.int .i64 0),(.bool false),v1,(.bool false)]) rfl (by kernel_rfl)) ?_
                       refine J 6 ?_
                       refine .dJ rfl rfl isAgg258 (by exact sizeOf258) Cells.a fun w s=>⟨(),?_,trivial,ak .auto s⟩
                       simp[bV,eg,bc.p, *]
                      ·refine JD 5 (fun h52=>?_) fun h52=>?_
                       ·refine J 4 ?_
                        refine .p (.gX (fun v1=>[(.int .i64 0),(.bool false),v1,(.bool false)]) rfl (by kernel_rfl)) ?_
                        refine J 6 ?_
                        refine .dJ rfl rfl isAgg258 (by exact sizeOf258) Cells.a fun w s=>⟨(),?_,trivial,ak .auto s⟩
                        simp[bV,eg,bc.p, *]
                       ·refine JD 7 (fun h58=>?_) fun h58=>?_
                        ·refine J 2 ?_
                         first | refine ar.da rfl (fun _=>?_) (fun hc=>absurd h58 hc) | refine ar.cond rfl (fun _=>?_) (fun hc=>by rw[h58] at hc;cases hc)
                         refine J 5 ?_
                         refine .p (.gX (fun v1=>[(.int .i64 0),(.bool false),v1,(.bool false)]) rfl (by kernel_rfl)) ?_
                         refine J 6 ?_
                         refine .dJ rfl rfl isAgg258 (by exact sizeOf258) Cells.a fun w s=>⟨(),?_,trivial,ak .auto s⟩
                         simp[bV,eg,bc.p, *]
                        ·refine JD 5 (fun h58=>?_) fun h58=>?_
                         ·refine J 5 ?_
                          refine .p (.gX (fun v1=>[(.int .i64 0),(.bool false),v1,(.bool false)]) rfl (by kernel_rfl)) ?_
                          refine J 6 ?_
                          refine .dJ rfl rfl isAgg258 (by exact sizeOf258) Cells.a fun w s=>⟨(),?_,trivial,ak .auto s⟩
                          simp[bV,eg,bc.p, *]
                         ·refine JD 7 (fun h65=>?_) fun h65=>?_
                          ·refine J 2 ?_
                           first | refine ar.da rfl (fun _=>?_) (fun hc=>absurd h65 hc) | refine ar.cond rfl (fun _=>?_) (fun hc=>by rw[h65] at hc;cases hc)
                           refine J 5 ?_
                           refine .p (.fY (fun v1 v2=>[v1,(.bool false),v2,(.bool false)]) rfl rfl (by kernel_rfl)) ?_
                           refine J 6 ?_
                           refine .dJ rfl rfl isAgg258 (by exact sizeOf258) Cells.a fun w s=>⟨(),?_,trivial,ak .auto s⟩
                           simp[bV,eg,bc.p, *]
                          ·refine JD 5 (fun h65=>?_) fun h65=>?_
                           ·refine J 5 ?_
                            refine .p (.fY (fun v1 v2=>[v1,(.bool false),v2,(.bool false)]) rfl rfl (by kernel_rfl)) ?_
                            refine J 6 ?_
                            refine .dJ rfl rfl isAgg258 (by exact sizeOf258) Cells.a fun w s=>⟨(),?_,trivial,ak .auto s⟩
                            simp[bV,eg,bc.p, *]
                           ·refine J 5 ?_
                            refine .p (.fY (fun v1 v2=>[v1,(.bool false),v2,(.bool false)]) rfl rfl (by kernel_rfl)) ?_
                            refine J 4 ?_
                            refine .dJ rfl rfl isAgg258 (by exact sizeOf258) Cells.a fun w s=>⟨(),?_,trivial,ak .auto s⟩
                            simp[bV,eg, *]
theorem Cs{W:World}{A:aa}{v:bc}(hp:eY W [A] v){i:Ins}(hb:(bV v.p i.op).n≤9223372036854775807):Fn Tryz.prog W 110 [.agg (eT v).toArray,.agg (dM i).toArray] [A] Unit (fun _=>.bool (iT v.p i)) (fun _=>True) (fun _=>[A]):=by
 refine Fn.intro (N:=56) func110 rfl ntmps110 rfl fun F=>?_
 haveI hI1:∀ (H:List aa) [bE H A],aC W H v.fv eu 1 v.fs:=fun H h=>⟨hp.fs.at h.has⟩
 haveI hI2:∀ (H:List aa) [bE H A],aC W H v.sv aq 1 v.bK:=fun H h=>⟨hp.bK.at h.has⟩
 haveI hI3:∀ (H:List aa) [bE H A],aC W H v.pv aq 1 v.bf:=fun H h=>⟨hp.bf.at h.has⟩
 show ar _ _ _ _ _ _ [A,F]
 refine J 2 ?_
 refine .aj rfl (af.box rfl rfl rfl) ?_
 rintro _ _ ⟨b2,rfl,rfl⟩
 refine .aj rfl (af.box rfl rfl rfl) ?_
 rintro _ _ ⟨b3,rfl,rfl⟩
 refine J 8 ?_
 refine .c call76 rfl l5 fun _ _=>?_
 refine JD 3 (fun h10=>?_) fun h10=>?_
 ·refine J 7 ?_
  refine .aS rfl rfl fun w s=>⟨(),?_,trivial,ak .auto s⟩
  rw[iT,if_pos h10]
 ·refine J 7 ?_
  refine .c call155 rfl (Kx hp) fun _ _=>?_
  refine .aj rfl (af.alloc rfl zeroValue258 rfl) ?_
  rintro _ _ ⟨b5,rfl,rfl⟩
  refine J 10 ?_
  refine .c call156 rfl nj fun _ _=>?_
  refine JD 10 (fun h22=>?_) fun h22=>?_
  ·refine J 5 ?_
   apply aR.gz 6 32 26 [26,27,28,29,30,31,32] rfl
   ·intro h26
    exact JS 7
   ·intro h26
    exact JS 7
   refine J 10 ?_
   refine .c call156 rfl nj fun _ _=>?_
   refine J 1 ?_
   apply aR.gq 7 46 39 [39,40,41,42,43,44,45,46] rfl
   ·intro h39
    refine J 5 ?_
    refine .cg call156 rfl nj fun _ _=>?_
    exact JS 2
   ·intro h39
    exact JS 8
   refine J 1 ?_
   apply aR.gq 2 49 47 [47,48,49] rfl
   ·intro h47
    exact JS 3
   ·intro h47
    exact JS 3
   refine J 1 ?_
   apply aR.gq 5 55 50 [50,51,52,53,54,55] rfl
   ·intro h50
    refine J 3 ?_
    refine .cg call157 rfl (uP hb) fun _ _=>?_
    exact JS 2
   ·intro h50
    exact JS 6
   refine J 4 ?_
   refine .aS rfl rfl fun w s=>⟨(),?_,trivial,ak .auto s⟩
   refine LM ?_;rw[iT,if_neg h10];simp only[h22,if_true];try rfl
  ·refine J 9 ?_
   refine .c call156 rfl nj fun _ _=>?_
   refine J 1 ?_
   apply aR.gq 7 46 39 [39,40,41,42,43,44,45,46] rfl
   ·intro h39
    refine J 5 ?_
    refine .cg call156 rfl nj fun _ _=>?_
    exact JS 2
   ·intro h39
    exact JS 8
   refine J 1 ?_
   apply aR.gq 2 49 47 [47,48,49] rfl
   ·intro h47
    exact JS 3
   ·intro h47
    exact JS 3
   refine J 1 ?_
   apply aR.gq 5 55 50 [50,51,52,53,54,55] rfl
   ·intro h50
    refine J 3 ?_
    refine .cg call157 rfl (uP hb) fun _ _=>?_
    exact JS 2
   ·intro h50
    exact JS 6
   refine J 4 ?_
   refine .aS rfl rfl fun w s=>⟨(),?_,trivial,ak .auto s⟩
   refine LM ?_;rw[iT,if_neg h10];simp only[h22,if_false,Bool.false_eq_true];try rfl
theorem Fl{W:World}{A:aa}{v:bc}(hp:eY W [A] v)(hl:v.fs.length≤1000000000∧v.bK.length≤1000000000∧v.bf.length≤1000000000):Fn Tryz.prog W 109 [.agg (eT v).toArray] [A] Unit (fun _=>.bool (gw v.p)) (fun _=>True) (fun _=>[A]):=by
 refine Fn.intro (N:=102) func109 rfl ntmps109 rfl fun F=>?_
 haveI hI1:∀ (H:List aa) [bE H A],aC W H v.fv eu 1 v.fs:=fun H h=>⟨hp.fs.at h.has⟩
 haveI hI2:∀ (H:List aa) [bE H A],aC W H v.sv aq 1 v.bK:=fun H h=>⟨hp.bK.at h.has⟩
 haveI hI3:∀ (H:List aa) [bE H A],aC W H v.pv aq 1 v.bf:=fun H h=>⟨hp.bf.at h.has⟩
 show ar _ _ _ _ _ _ [A,F]
 refine J 2 ?_
 refine .aj rfl (af.box rfl rfl rfl) ?_
 rintro _ _ ⟨b1,rfl,rfl⟩
 refine J 10 ?_
 apply aR.gz 5 19 14 [14,15,16,17,18,19] rfl
 ·intro h14
  exact JS 6
 ·intro h14
  exact JS 6
 refine J 1 ?_
 apply aR.gq 4 24 20 [20,21,22,23,24] rfl
 ·intro h20
  refine J 2 ?_
  refine .cg call154 rfl fI fun _ _=>?_
  exact JS 2
 ·intro h20
  exact JS 5
 refine J 1 ?_
 apply aR.gq 4 29 25 [25,26,27,28,29] rfl
 ·intro h25
  refine J 2 ?_
  refine .cg call154 rfl fI fun _ _=>?_
  exact JS 2
 ·intro h25
  exact JS 5
 refine J 1 ?_
 apply aR.gq 4 34 30 [30,31,32,33,34] rfl
 ·intro h30
  refine J 2 ?_
  refine .cg call154 rfl fI fun _ _=>?_
  exact JS 2
 ·intro h30
  exact JS 5
 refine J 1 ?_
 apply aR.gq 4 39 35 [35,36,37,38,39] rfl
 ·intro h35
  refine J 2 ?_
  refine .cg call154 rfl fI fun _ _=>?_
  exact JS 2
 ·intro h35
  exact JS 5
 refine J 1 ?_
 apply aR.gq 4 44 40 [40,41,42,43,44] rfl
 ·intro h40
  refine J 2 ?_
  refine .cg call154 rfl fI fun _ _=>?_
  exact JS 2
 ·intro h40
  exact JS 5
 refine J 1 ?_
 apply aR.gq 5 50 45 [45,46,47,48,49,50] rfl
 ·intro h45
  exact JS 6
 ·intro h45
  exact JS 6
 refine J 1 ?_
 apply aR.gq 5 56 51 [51,52,53,54,55,56] rfl
 ·intro h51
  exact JS 6
 ·intro h51
  exact JS 6
 refine J 13 ?_
 refine .aZ (X:=Nat×Bool) [3,5,60,61,62,63,64,65,66,67,68,69,70] (fun z=>v.fs.length-z.1) (fun z=>z.1≤v.fs.length∧z.2=qE v z.1) (fun z=>[(60,some (.int .i64 (z.1:Int))),(3,some (.bool z.2))]) (fun z=>[arr b1 0 (eT v),A,F]) (0,BL v) ?_ ?_ ?_ ?_
 ·exact⟨Nat.zero_le _,by simp[qE]⟩
 ·exact⟨rfl,rfl,trivial⟩
 ·exact fun w s=>aw.kept .auto w s
 rintro⟨k,y⟩ ⟨hk,hy⟩
 simp only at hk hy
 refine JD 6 (fun h61=>?_) fun h61=>?_
 ·refine J 6 ?_
  obtain⟨x,hx⟩:=ai (show k<v.fs.length by omega)
  have hi:=hp.ins x (List.mem_of_getElem? hx)
  haveI hI4:∀ (H:List aa) [bE H A],aC W H x.1 dM 5 x.2:=fun H h=>⟨hi.at h.has⟩
  refine J 8 ?_
  apply aR.gq 4 69 65 [65,66,67,68,69] rfl
  ·intro h65
   exact JS 5
  ·intro h65
   exact JS 5
  refine J 8 ?_
  refine .ax (k+1,(y && decide ((x.2.length:Int)≤256))) .auto rfl ?_ ?_ ?_ ?_
  ·show v.fs.length-(k+1)<v.fs.length-k;omega
  ·refine⟨by show k+1≤_;omega,?_⟩
   rw[qE,jA hx,hy,qE]
   simp only[Bool.and_assoc]
  ·exact⟨rfl,rfl,trivial⟩
  ·exact fun w s=>aw.kept .auto w s
 ·refine J 15 ?_
  obtain rfl:k=v.fs.length:=by omega
  refine .aZ (X:=Nat×Bool) [3,7,74,75,76,77,78,79,80,81,82,83] (fun z=>v.bK.length-z.1) (fun z=>z.1≤v.bK.length∧z.2=qF v z.1) (fun z=>[(74,some (.int .i64 (z.1:Int))),(3,some (.bool z.2))]) (fun z=>[arr b1 0 (eT v),A,F]) (0,y) ?_ ?_ ?_ ?_
  ·exact⟨Nat.zero_le _,by rw[qF,hy];simp⟩
  ·exact⟨rfl,rfl,trivial⟩
  ·exact fun w s=>aw.kept .auto w s
  rintro⟨k,y⟩ ⟨hk,hy⟩
  simp only at hk hy
  refine JD 6 (fun h75=>?_) fun h75=>?_
  ·refine J 6 ?_
   obtain⟨x,hx⟩:=ai (show k<v.bK.length by omega)
   refine J 8 ?_
   apply aR.gq 3 82 79 [79,80,81,82] rfl
   ·intro h79
    refine J 1 ?_
    refine .cg call154 rfl fI fun _ _=>?_
    exact JS 2
   ·intro h79
    exact JS 4
   refine J 8 ?_
   refine .ax (k+1,(y && within x 1048576)) .auto rfl ?_ ?_ ?_ ?_
   ·show v.bK.length-(k+1)<v.bK.length-k;omega
   ·refine⟨by show k+1≤_;omega,?_⟩
    rw[qF,jA hx,hy,qF]
    simp only[Bool.and_assoc]
   ·exact⟨rfl,rfl,trivial⟩
   ·exact fun w s=>aw.kept .auto w s
  ·refine J 15 ?_
   obtain rfl:k=v.bK.length:=by omega
   refine .aZ (X:=Nat×Bool) [3,9,87,88,89,90,91,92,93,94,95,96,97,98,99,100] (fun z=>v.bf.length-z.1) (fun z=>z.1≤v.bf.length∧z.2=qG v z.1) (fun z=>[(87,some (.int .i64 (z.1:Int))),(3,some (.bool z.2))]) (fun z=>[arr b1 0 (eT v),A,F]) (0,y) ?_ ?_ ?_ ?_
   ·exact⟨Nat.zero_le _,by rw[qG,hy];simp⟩
   ·exact⟨rfl,rfl,trivial⟩
   ·exact fun w s=>aw.kept .auto w s
   rintro⟨k,y⟩ ⟨hk,hy⟩
   simp only at hk hy
   refine JD 6 (fun h88=>?_) fun h88=>?_
   ·refine J 6 ?_
    obtain⟨x,hx⟩:=ai (show k<v.bf.length by omega)
    refine J 8 ?_
    apply aR.gq 3 95 92 [92,93,94,95] rfl
    ·intro h92
     exact JS 4
    ·intro h92
     exact JS 4
    refine J 1 ?_
    apply aR.gq 3 99 96 [96,97,98,99] rfl
    ·intro h96
     refine J 1 ?_
     refine .cg call154 rfl fI fun _ _=>?_
     exact JS 2
    ·intro h96
     exact JS 4
    refine J 8 ?_
    refine .ax (k+1,((y && decide (0<x)) && within x 8)) .auto rfl ?_ ?_ ?_ ?_
    ·show v.bf.length-(k+1)<v.bf.length-k;omega
    ·refine⟨by show k+1≤_;omega,?_⟩
     rw[qG,jA hx,hy,qG]
     simp only[Bool.and_assoc]
    ·exact⟨rfl,rfl,trivial⟩
    ·exact fun w s=>aw.kept .auto w s
   ·refine J 12 ?_
    obtain rfl:k=v.bf.length:=by omega
    refine .aS rfl rfl fun w s=>⟨(),?_,trivial,ak .auto s⟩
    rw[hy,GB]
theorem Ct{W:World}{A:aa}{v:bc}(hp:eY W [A] v)(hl:v.fs.length≤1000000000∧v.bK.length≤1000000000∧v.bf.length≤1000000000):Fn Tryz.prog W 63 [.agg (eT v).toArray] [A] Unit (fun _=>.int .i64 (dD v.p)) (fun _=>True) (fun _=>[A]):=by
 refine Fn.intro (N:=29) func63 rfl ntmps63 rfl fun F=>?_
 haveI hI1:∀ (H:List aa) [bE H A],aC W H v.fv eu 1 v.fs:=fun H h=>⟨hp.fs.at h.has⟩
 haveI hI2:∀ (H:List aa) [bE H A],aC W H v.sv aq 1 v.bK:=fun H h=>⟨hp.bK.at h.has⟩
 haveI hI3:∀ (H:List aa) [bE H A],aC W H v.pv aq 1 v.bf:=fun H h=>⟨hp.bf.at h.has⟩
 show ar _ _ _ _ _ _ [A,F]
 refine J 2 ?_
 refine .aj rfl (af.box rfl rfl rfl) ?_
 rintro _ _ ⟨b1,rfl,rfl⟩
 refine J 7 ?_
 refine .c call109 rfl (Fl hp hl) fun _ _=>?_
 refine JD 3 (fun h9=>?_) fun h9=>?_
 ·refine J 7 ?_
  rw[Bool.not_eq_true'] at h9
  refine .aS rfl rfl fun w s=>⟨(),?_,trivial,ak .auto s⟩
  refine zP ?_;unfold dD;rw[if_neg (by rw[h9];simp)]
 ·refine J 12 ?_
  rw[Bool.not_eq_false'] at h9
  refine .aZ (X:=Nat) [2,4,6,13,14,15,16,17,18,19,20,21,22,23,24,25,26,27,28] (fun k=>v.fs.length-k) (fun k=>k≤v.fs.length∧(v.fs.take k).all (fun f:Value×List Ins=>f.2.all (iT v.p))=true) (fun k=>[(13,some (.int .i64 (k:Int)))]) (fun k=>[arr b1 0 (eT v),A,F]) 0 ?_ ?_ ?_ ?_
  ·exact⟨Nat.zero_le _,rfl⟩
  ·exact⟨rfl,trivial⟩
  ·exact fun w s=>aw.kept .auto w s
  rintro k ⟨hk,hs⟩
  refine JD 6 (fun h14=>?_) fun h14=>?_
  ·refine J 6 ?_
   obtain⟨x,hx⟩:=ai (show k<v.fs.length by omega)
   have hi:=hp.ins x (List.mem_of_getElem? hx)
   haveI hI4:∀ (H:List aa) [bE H A],aC W H x.1 dM 5 x.2:=fun H h=>⟨hi.at h.has⟩
   have hx256:x.2.length≤256:=Df h9 (List.mem_of_getElem? hx)
   refine J 13 ?_
   refine .aZ (X:=Nat) [2,6,19,20,21,22,23,24,25,26,27] (fun j=>x.2.length-j) (fun j=>j≤x.2.length∧(x.2.take j).all (iT v.p)=true) (fun j=>[(19,some (.int .i64 (j:Int)))]) (fun j=>[arr b1 0 (eT v),A,F]) 0 ?_ ?_ ?_ ?_
   ·exact⟨Nat.zero_le _,rfl⟩
   ·exact⟨rfl,trivial⟩
   ·exact fun w s=>aw.kept .auto w s
   rintro j ⟨hj0,hsj⟩
   refine JD 6 (fun h20=>?_) fun h20=>?_
   ·refine J 6 ?_
    obtain⟨i,hj⟩:=ai (show j<x.2.length by omega)
    refine J 2 ?_
    refine .aj rfl (af.alloc rfl zeroValue94 rfl) ?_
    rintro _ _ ⟨b6,rfl,rfl⟩
    refine J 7 ?_
    refine .c call110 rfl (Cs hp (En h9 _)) fun _ _=>?_
    refine JD 3 (fun h26=>?_) fun h26=>?_
    ·refine J 15 ?_
     rw[Bool.not_eq_true'] at h26
     refine .aS rfl rfl fun w s=>⟨(),?_,trivial,ak .auto s⟩
     exact zP (Eo h9 hx hj h26).symm
    ·refine J 7 ?_
     rw[Bool.not_eq_false'] at h26
     refine .ax (j+1) .auto rfl ?_ ?_ ?_ ?_
     ·first | omega | (dsimp only;omega)
     ·exact⟨by omega,by rw[jA hj,hsj,h26];rfl⟩
     ·exact⟨rfl,trivial⟩
     ·exact fun w s=>aw.kept .auto w s
   ·refine J 10 ?_
    obtain rfl:j=x.2.length:=by omega
    rw[List.take_length] at hsj
    refine .ax (k+1) .auto rfl ?_ ?_ ?_ ?_
    ·first | omega | (dsimp only;omega)
    ·exact⟨by omega,by rw[jA hx,hs,hsj];rfl⟩
    ·exact⟨rfl,trivial⟩
    ·exact fun w s=>aw.kept .auto w s
  ·refine J 11 ?_
   obtain rfl:k=v.fs.length:=by omega
   rw[List.take_length] at hs
   refine .aS rfl rfl fun w s=>⟨(),?_,trivial,ak .auto s⟩
   exact zP (GC h9 hs).symm
end Go.SLYtpbjdoplfgeliaaGreat
namespace Go.SLYtpbjdoplfgeliaaGreat
open Go Go.RowKit Go.Proofs Go.Proofs.Tryz
attribute [local irreducible] ar aR bm bA bH Y
theorem oR{W:World}{n m:Int}:Fn Tryz.prog W 111 [.int .i64 n,.int .i64 m] [] Unit (fun _=>.int .i64 (aN n m)) (fun _=>True) (fun _=>[]):=by
 refine Fn.intro (N:=9) func111 rfl ntmps111 rfl fun F=>?_
 show ar _ _ _ _ _ _ [F]
 refine J 8 ?_
 refine .p (.wi rfl rfl) ?_
 refine J 1 ?_
 refine .p (.mi rfl rfl) ?_
 exact JR 4 ()
theorem Ir{W:World}{n:Int}:Fn Tryz.prog W 64 [.int .i64 n] [] Nat (fun b=>ptr b) (fun _=>True) (fun b=>[mz b (List.replicate (aN n 1024).toNat (false,0))]):=by
 refine Fn.intro (N:=9) func64 rfl ntmps64 rfl fun F=>?_
 show ar _ _ _ _ _ _ [F]
 refine J 8 ?_
 refine .p (.wi rfl rfl) ?_
 refine .p (.mi rfl rfl) ?_
 have hc:(aN n 1024).toNat≤1024:=by unfold aN;omega
 refine .aj rfl (af.Ek (enc:=JB) (k:=2) (false,0) (aN n 1024).toNat rfl underlying187 typeInfo264 rfl rfl rfl rfl (by decide) (by decide) rfl rfl (by unfold aN;omega) (by unfold aN;omega) (by omega)) ?_
 rintro _ _ ⟨b6,rfl,rfl⟩
 refine .p (.gX (fun v1=>[v1]) rfl (by kernel_rfl)) ?_
 refine .aj rfl (af.box rfl rfl rfl) ?_
 rintro _ _ ⟨b8,rfl,rfl⟩
 exact JR 4 b8
theorem Is{W:World}{n:Int}:Fn Tryz.prog W 66 [.int .i64 n] [] Nat (fun b=>ptr b) (fun _=>True) (fun b=>[pq b (lj.new n)]):=by
 refine Fn.intro (N:=9) func66 rfl ntmps66 rfl fun F=>?_
 show ar _ _ _ _ _ _ [F]
 refine J 8 ?_
 refine .p (.wi rfl rfl) ?_
 refine .p (.mi rfl rfl) ?_
 have hc:(aN n 64).toNat≤64:=by unfold aN;omega
 refine .aj rfl (af.Ek (enc:=eS) (k:=1) (0:Int) (aN n 64).toNat rfl underlying64 typeInfo92 rfl rfl rfl rfl (by decide) (by decide) rfl rfl (by unfold aN;omega) (by unfold aN;omega) (by omega)) ?_
 rintro _ _ ⟨b6,rfl,rfl⟩
 refine .p (.gX (fun v1=>[v1,(.slice none 0 0)]) rfl (by kernel_rfl)) ?_
 refine .aj rfl (af.box rfl rfl rfl) ?_
 rintro _ _ ⟨b8,rfl,rfl⟩
 exact JR 4 b8
theorem It{W:World}{n:Int}:Fn Tryz.prog W 70 [.int .i64 n] [] Nat (fun b=>ptr b) (fun _=>True) (fun b=>[iI b (Tub.new n)]):=by
 refine Fn.intro (N:=8) func70 rfl ntmps70 rfl fun F=>?_
 show ar _ _ _ _ _ _ [F]
 refine J 8 ?_
 refine .p (.wi rfl rfl) ?_
 refine .p (.mi rfl rfl) ?_
 refine .p (.gX (fun v1=>[v1,(.slice none 0 0),(.slice none 0 0),(.slice none 0 0)]) rfl (by kernel_rfl)) ?_
 refine .aj rfl (af.box rfl rfl rfl) ?_
 rintro _ _ ⟨b7,rfl,rfl⟩
 exact JR 4 b7
theorem Fm{W:World}  : Fn Tryz.prog W 183 [] [] Nat (fun b=>ptr b) (fun _=>True) (fun b=>[fu b []]):=by
 refine Fn.intro (N:=3) func183 rfl ntmps183 rfl fun F=>?_
 show ar _ _ _ _ _ _ [F]
 refine J 7 ?_
 refine .p (.mq ([(.slice none 0 0)]) (by kernel_rfl)) ?_
 refine .aj rfl (af.box rfl rfl rfl) ?_
 rintro _ _ ⟨b2,rfl,rfl⟩
 exact JR 4 b2
theorem Fo{W:World}  : Fn Tryz.prog W 67 [] [] Nat (fun b=>ptr b) (fun _=>True) (fun b=>[ow b mu.new]):=by
 refine Fn.intro (N:=4) func67 rfl ntmps67 rfl fun F=>?_
 show ar _ _ _ _ _ _ [F]
 refine J 7 ?_
 refine .aj rfl (af.makeMap rfl) ?_
 rintro _ _ ⟨m1,rfl,rfl⟩
 refine .p (.gX (fun v1=>[(.int .i64 0),v1]) rfl (by kernel_rfl)) ?_
 refine .aj rfl (af.box rfl rfl rfl) ?_
 rintro _ _ ⟨b3,rfl,rfl⟩
 refine J 4 ?_
 refine .to (A:=ou m1 []) (Bs:=[jv m1 (.map #[] 0)]) .auto (fun h a=>⟨[],0,⟨rfl,List.nodup_nil,fun e he=>(by cases he),List.nodup_nil⟩,a⟩) ?_
 exact JR 0 b3
theorem rZ{W:World}{o:Bool×Int}{n:Nat}(ho:0≤o.2∧o.2<2199023255552)(hn:n<65536):Fn Tryz.prog W 158 [.agg (JB o).toArray,.int .i64 (n:Int)] [] Unit (fun _=>.int .u64 (et o.2 n)) (fun _=>True) (fun _=>[]):=by
 refine Fn.intro (N:=12) func158 rfl ntmps158 rfl fun F=>?_
 show ar _ _ _ _ _ _ [F]
 refine J 2 ?_
 refine .aj rfl (af.box rfl rfl rfl) ?_
 rintro _ _ ⟨b2,rfl,rfl⟩
 refine J 7 ?_
 refine .p (.Eh rfl rfl (by omega)) ?_
 refine J 1 ?_
 refine .p (.tq underlying3 underlying92 rfl (by omega)) ?_
 refine .p (.Bv rfl rfl (by omega)) ?_
 refine .p (.Bv rfl rfl (by omega)) ?_
 exact JR 4 ()
theorem Fp{W:World}{b:Nat}{l:List (Bool×Int)}(hl:jB l):Fn Tryz.prog W 112 [ptr b] [mz b l] Unit (fun _=>.tuple #[.int .i64 (ew l).1,.int .u64 (ew l).2.1,.int .i64 (ew l).2.2.1]) (fun _=>True) (fun _=>[mz b (ew l).2.2.2]):=by
 refine Fn.intro (N:=45) func112 rfl ntmps112 rfl fun F=>?_
 show ar _ _ _ _ _ _ [mz b l,F]
 refine .o1 (C:=mz b l) .auto rfl ?_
 rintro v -
 obtain⟨hl1,hl2⟩:=hl
 refine J 14 ?_
 refine .ep rfl ?_
 refine J 14 ?_
 refine .aZ (X:=Nat) [2,3,4,5,6,14,15,16,17,18,19,20,21,22,23,24,25,26,27,28,29,30,31,32,33,34,35,36,37,38,39,40,41,42,43,44] (fun k=>l.length-k) (fun k=>k≤l.length∧slotFree? l 0=slotFree? (l.drop k) k) (fun k=>[(14,some (.int .i64 (k:Int)))]) (fun k=>[arr b 0 [v],sl JB 2 v l,F]) 0 ?_ ?_ ?_ ?_
 ·exact⟨Nat.zero_le _,by simp⟩
 ·exact⟨rfl,trivial⟩
 ·exact fun w s=>aw.kept .auto w s
 rintro k ⟨hk,hn⟩
 refine JD 6 (fun h15=>?_) fun h15=>?_
 ·refine J 17 ?_
  obtain⟨o,hx⟩:=ai (show k<l.length by omega)
  have ho:=hl2 o (List.mem_of_getElem? hx)
  refine JD 13 (fun h27=>?_) fun h27=>?_
  ·refine J 2 ?_
   have hu:o.1=false:=by simpa using h27
   obtain⟨o1,o2⟩:=o
   have hu:o1=false:=hu
   subst hu
   have hx2:(l.set k (true,o2))[k]?=some (true,o2):=zM hx
   have hx3:((l.set k (true,o2)).set k (true,o2+1))[k]?=some (true,o2+1):=zM hx2
   refine J 3 ?_
   refine .aj rfl (af.er (x':=(true,o2)) rfl rfl sizeOf4 rfl hx (by decide) rfl (by repeat (first | exact gk.here | apply gk.there))) ?_
   rintro _ _ ⟨rfl,rfl⟩
   refine J 7 ?_
   refine .p (.ld rfl (Cell.rd Rd.s ‹_› (by rfl))) ?_
   refine .p (.Bv rfl rfl (by simp only at ho;omega)) ?_
   refine J 2 ?_
   refine .aj rfl (af.lf (c:=1) (x':=(true,o2+1)) rfl rfl sizeOf92 rfl hx2 (by decide) rfl (by repeat (first | exact gk.here | apply gk.there))) ?_
   rintro _ _ ⟨rfl,rfl⟩
   refine J 9 ?_
   refine .c call158 rfl (rZ (o:=(true,o2+1)) (n:=k) (by simp only at ho ⊢;omega) (by omega)) fun _ _=>?_
   refine J 11 ?_
   have e:ew l=((k:Int),et (o2+1) k,0,(l.set k (true,o2)).set k (true,o2+1)):=by
    unfold ew;rw[hn,GG hx rfl];simp only[List.getD_eq_getElem?_getD,hx,List.set_set];rfl
   rw[e]
   refine .mG rfl rfl rfl rfl fun w s=>⟨(),?_,trivial,ak .auto s⟩
   rfl
  ·refine J 7 ?_
   refine .ax (k+1) .auto rfl ?_ ?_ ?_ ?_
   ·first | omega | (dsimp only;omega)
   ·exact⟨by omega,hn.trans (Et hx (by simpa using h27))⟩
   ·exact⟨rfl,trivial⟩
   ·exact fun w s=>aw.kept .auto w s
 ·refine J 13 ?_
  rw[show ew l=(0,0,2,l) from by unfold ew;rw[hn,GH (by omega)]]
  refine .mG rfl rfl rfl rfl fun w s=>⟨(),?_,trivial,ak .auto s⟩
  rfl
theorem uQ{W:World}{b:Nat}{ps:List (Option Nat)}{s:Spc}{f arg:Int}(hT:jB s.table)(hl:s.aF.length=16)(hf:∀ n,slotFree? s.table 0=some n→s.aF[n]?=some none):Fn Tryz.prog W 71 [ptr b,.int .i64 f,.int .u64 arg] [cE b ps s] (List (Option Nat)) (fun _=>.tuple #[.int .i64 (s.begin f arg).1,.int .i64 (s.begin f arg).2.1]) (fun qs=>∃ p,qs=nA s.table ps p) (fun qs=>[cE b qs (s.begin f arg).2.2]):=by
 refine Fn.intro (N:=45) func71 rfl ntmps71 rfl fun F=>?_
 show ar _ _ _ _ _ _ [cE b ps s,F]
 refine .jw (C:=cE b ps s) .auto rfl ?_
 rintro fv sv pv bt vm bg vt bd bw vr -
 refine .cM (fun w s=>s.fact .auto ib) fun hs=>?_
 refine J 12 ?_
 refine .c call112 rfl (Fp hT) fun _ _=>?_
 refine JD 16 (fun h22=>?_) fun h22=>?_
 ·refine J 9 ?_
  obtain⟨hn,e⟩:=zS h22
  rw[e,kH hn]
  refine .eE rfl rfl rfl fun w s=>⟨ps,?_,⟨0,by unfold nA;rw[hn]⟩,ak .auto s⟩
  rfl
 ·refine J 4 ?_
  obtain⟨n,hn,e⟩:=zR (Decidable.of_not_not h22)
  have hfn:=hf n hn
  have hn16:n<16:=hl ▸ (List.getElem?_eq_some_iff.1 hfn).1
  rw[e,fc hn]
  refine J 1 ?_
  refine .p (.vM (fun v1 v2 v3=>[(.int .i64 0),(.int .i64 0),(.int .u64 0),(.int .u64 0),(.int .u64 0),(.int .u64 0),(.int .u64 0),(.int .u64 0),(.int .u64 0),(.int .u64 0),v1,(.int .i64 0),(.int .u64 0),(.bool false),v2,(.int .i64 0),v3,(.int .u64 0)]) rfl rfl rfl (by kernel_rfl)) ?_
  refine .aj rfl (af.box rfl rfl rfl) ?_
  rintro _ _ ⟨b26,rfl,rfl⟩
  refine J 20 ?_
  refine .p (.dK _ underlying131 sizeOf92 rfl rfl rfl (by first | omega | decide)) ?_
  refine J 10 ?_
  refine .p (.dK n underlying120 sizeOf119 rfl rfl rfl (by omega)) ?_
  refine .aj rfl (af.st sizeOf119 rfl rfl rfl (Nat.blt_eq.mpr (by show 9+n * 1<31;omega))) ?_
  rintro _ _ ⟨rfl,rfl⟩
  rw[Nat.mul_one]
  have e9:=@zQ fv sv pv s.fb bt ps vm bg vt bd bw vr n (by omega) (hs.1.trans hl) (some b26)
  rw[show ed (some b26)=Value.pointer (some ⟨b26,0,none⟩) from rfl] at e9
  rw[e9]
  refine J 10 ?_
  refine .to (A:=aB (ps.set n (some b26)) (s.aF.set n (some (sr f arg (et ((s.table.getD n (false,0)).2+1) n))))) (Bs:=[arr b26 0 (bn (sr f arg (et ((s.table.getD n (false,0)).2+1) n))),aB ps s.aF]) .auto (GJ hfn) ?_
  refine .eE rfl rfl rfl fun w s=>⟨ps.set n (some b26),?_,⟨b26,by unfold nA;rw[hn]⟩,ak .auto s⟩
  rfl
theorem l6{W:World}{b:Nat}{ps:List (Option Nat)}{s:Spc}(hl:s.aF.length=16):Fn Tryz.prog W 58 [ptr b] [cE b ps s] Value (fun u=>u) (fun _=>True) (fun u=>[sl aq 1 u s.ready,cE b ps s]):=by
 refine Fn.intro (N:=31) func58 rfl ntmps58 rfl fun F=>?_
 show ar _ _ _ _ _ _ [cE b ps s,F]
 refine .jw (C:=cE b ps s) .auto rfl ?_
 rintro fv sv pv bt vm bg vt bd bw vr -
 refine .cM (fun w s=>s.fact .auto ib) fun hs=>?_
 refine J 12 ?_
 refine .ep rfl ?_
 refine J 13 ?_
 refine .p (.la rfl (Cells.mg (ds:=Na ps) Cells.a rfl)) ?_
 refine J 4 ?_
 refine .aZ (X:=Nat×Value×List Int) [3,4,5,12,13,14,15,16,17,18,19,20,21,22,23,24,25,26,27,28,29] (fun z=>16-z.1) (fun z=>z.1≤16∧z.2.2.length≤z.1∧s.ready=z.2.2++readyFrom (s.aF.drop z.1) z.1) (fun z=>[(12,some (.int .i64 (z.1:Int))),(3,some z.2.1)]) (fun z=>[sl aq 1 z.2.1 z.2.2,arr b 0 (ft fv sv pv s.fb bt ps vm bg vt bd bw vr),zI fv s.fb.funcs,mz bt s.table,aB ps s.aF,sl eS 1 vm s.mem,cy bg s.al,pn vt s.cj,pq bd s.ca,ow bw s.aT,sl iU 6 vr s.aA,F]) (0,.slice none 0 0,[]) ?_ ?_ ?_ ?_
 ·exact⟨Nat.zero_le _,Nat.le_refl _,rfl⟩
 ·exact⟨rfl,rfl,trivial⟩
 ·exact fun w s=>aw.kept .auto w s
 rintro⟨k,u,xs⟩ ⟨hk,hxl,hn⟩
 simp only at hk hxl hn
 refine JD 6 (fun h13=>?_) fun h13=>?_
 ·refine J 7 ?_
  have hk16:k<16:=by omega
  refine .p (.index k underlying120 isAgg119 sizeOf119 rfl rfl rfl hk16 (by rw[List.getElem?_toArray];exact GF ps hk16)) ?_
  refine J 9 ?_
  apply aR.gq 6 24 18 [18,19,20,21,22,23,24] rfl
  ·intro h18
   refine J 1 ?_
   have h18':((ps.getD k none).map fun b=>(⟨b,0,none⟩:Addr)).isNone=false:=by simpa using h18
   obtain⟨p,t,hp,ht⟩:=wj hs (by omega) h18'
   rw[aP hp]
   refine J 2 ?_
   refine .g (.fa (Y.load isAgg3 rfl (Cell.Od (by repeat (first | exact At.here | refine At.there ?_)) (Er hp ht) rfl)) (BN ht)) ?_
   exact JS 3
  ·intro h18
   exact JS 7
  refine JD 2 (fun h24=>?_) fun h24=>?_
  ·simp only[Bool.and_eq_true,decide_eq_true_eq,Bool.not_eq_true'] at h24
   refine J 3 ?_
   refine .aj rfl (af.gj 3 rfl rfl (by kernel_rfl)) ?_
   rintro _ _ ⟨b27,rfl,rfl⟩
   refine .aj rfl (af.fV (enc:=aq) (k:=1) (k:Int) rfl underlying50 underlying50 typeInfo3 rfl rfl rfl (by decide) rfl rfl rfl .auto rfl .auto (by first | omega | (dsimp only;omega)) rfl) ?_
   rintro _ _ ⟨v28,rfl,rfl⟩
   refine J 8 ?_
   refine .ax (k+1,v28,xs++[(k:Int)]) .auto rfl ?_ ?_ ?_ ?_
   ·show 16-(k+1)<16-k;omega
   ·exact⟨by show k+1≤16;omega,by simp;omega,by rw[hn,JI hs (by omega) h24];simp⟩
   ·exact⟨rfl,rfl,trivial⟩
   ·exact fun w s=>aw.kept .auto w s
  ·simp only[Bool.and_eq_false_iff,decide_eq_false_iff_not,Bool.not_eq_false'] at h24
   refine J 7 ?_
   refine .ax (k+1,u,xs) .auto rfl ?_ ?_ ?_ ?_
   ·show 16-(k+1)<16-k;omega
   ·exact⟨by show k+1≤16;omega,by show xs.length≤k+1;omega,by rw[hn,LN hs (by omega) h24]⟩
   ·exact⟨rfl,rfl,trivial⟩
   ·exact fun w s=>aw.kept .auto w s
 ·refine J 12 ?_
  obtain rfl:k=16:=by omega
  rw[Ew (by omega),List.append_nil] at hn
  subst hn
  refine .aS rfl rfl fun w s=>⟨_,?_,trivial,ak .auto s⟩
  rfl
theorem Iu{W:World}{A:aa}{m c:Int}{v:Value}{bK:List Int}(hr:Rd W [A] aq 1 v bK):Fn Tryz.prog W 65 [.int .i64 m,.int .i64 c,v] [A] Nat (fun b=>ptr b) (fun _=>True) (fun b=>[cy b (Gates.new m c bK),A]):=by
 refine Fn.intro (N:=42) func65 rfl ntmps65 rfl fun F=>?_
 haveI hRI:∀ (H:List aa) [bE H A],aC W H v aq 1 bK:=fun H h=>⟨hr.at h.has⟩
 show ar _ _ _ _ _ _ [A,F]
 refine J 6 ?_
 refine .wc [] [0,2,4,0,2,4,0,4,0] [0,1,3,4,2,5,6,7,8] rfl (by kernel_rfl) ?_
 refine bH.q rfl rfl rfl Kept.auto (Y.m rfl) ?_
 refine bH.eD rfl (.inl rfl) rfl (fun _=>Kept.auto) call111 rfl oR .auto (fun _ _=>Kept.auto) ?_
 rintro⟨⟩ -
 refine bH.q rfl rfl rfl Kept.auto (Y.m rfl) ?_
 refine bH.eD rfl (.inl rfl) rfl (fun _=>Kept.auto) call111 rfl oR .auto (fun _ _=>Kept.auto) ?_
 rintro⟨⟩ -
 refine bH.fresh rfl rfl rfl (by decide) Kept.auto (ln (enc:=mA) (k:=3) ((Value.slice none 0 0:Value),(⟨[],false,0⟩:eK)) (aN m 4).toNat underlying190 typeInfo288 rfl rfl rfl rfl (by decide) (by decide) rfl rfl (by unfold aN;omega) (by unfold aN;omega) (by unfold aN;omega)) ?_
 rintro b12
 refine bH.fresh rfl rfl rfl (by decide) Kept.auto (ln (enc:=eu) (k:=1) ((Value.slice none 0 0:Value),([]:List eW)) (aN c 4).toNat underlying192 typeInfo198 rfl rfl rfl rfl (by decide) (by decide) rfl rfl (by unfold aN;omega) (by unfold aN;omega) (by unfold aN;omega)) ?_
 rintro b15
 refine bH.q rfl rfl rfl Kept.auto (Y.fY (fun v1 v2=>[v1,v2,(.slice none 0 0)]) rfl rfl (by kernel_rfl)) ?_
 refine bH.fresh rfl rfl rfl (by decide) Kept.auto (qH rfl rfl) ?_
 rintro b17
 refine bH.q rfl rfl rfl Kept.auto (Y.a rfl) ?_
 refine bH.nil ?_
 refine J 4 ?_
 refine .to (A:=sl mA 3 (.slice (some ⟨b12,0,none⟩) (aN m 4).toNat (aN m 4).toNat) (List.replicate (aN m 4).toNat ((Value.slice none 0 0:Value),(⟨[],false,0⟩:eK)))) .auto (sE rfl) ?_
 refine .to (A:=sl eu 1 (.slice (some ⟨b15,0,none⟩) (aN c 4).toNat (aN c 4).toNat) (List.replicate (aN c 4).toNat ((Value.slice none 0 0:Value),([]:List eW)))) .auto (sE rfl) ?_
 have hr4:=hr.cut (lo:=0) (hi:=min bK.length 4) (Nat.zero_le _) (by omega)
 rw[List.drop_zero,show bK.take (min bK.length 4)=bK.take 4 from by rw[List.take_eq_take_iff];omega] at hr4
 haveI hI4:∀ (H:List aa) [bE H A],aC W H (cut 1 0 (min bK.length 4) v) aq 1 (bK.take 4):=fun H h=>⟨hr4.at h.has⟩
 refine J 3 ?_
 refine .p (.mi rfl rfl) ?_
 refine .p (.sliceTo (min bK.length 4) underlying50 sizeOf3 rfl rfl Rd.s (by omega) (by omega)) ?_
 refine J 5 ?_
 refine .aZ (X:=Nat×Value) [9,24,25,26,27,28,29,30,31,32,33,34,35,36,37,38,39,40] (fun z=>(bK.take 4).length-z.1) (fun z=>z.1≤(bK.take 4).length) (fun z=>[(24,some (.int .i64 (z.1:Int)))]) (fun z=>[arr b17 0 [.slice (some ⟨b12,0,none⟩) (aN m 4).toNat (aN m 4).toNat,.slice (some ⟨b15,0,none⟩) (aN c 4).toNat (aN c 4).toNat,z.2],sl mK 2 z.2 (((bK.take 4).take z.1).map (fun n=>((Value.slice none 0 0:Value),(⟨[],aN n 1048576⟩:k6)))),sl mA 3 (.slice (some ⟨b12,0,none⟩) (aN m 4).toNat (aN m 4).toNat) (List.replicate (aN m 4).toNat ((Value.slice none 0 0:Value),(⟨[],false,0⟩:eK))),sl eu 1 (.slice (some ⟨b15,0,none⟩) (aN c 4).toNat (aN c 4).toNat) (List.replicate (aN c 4).toNat ((Value.slice none 0 0:Value),([]:List eW))),A,F]) (0,.slice none 0 0) ?_ ?_ ?_ ?_
 ·exact Nat.zero_le _
 ·exact⟨rfl,trivial⟩
 ·exact fun w s=>aw.kept .auto w s
 rintro⟨k,u⟩ hk
 simp only at hk
 have h4:(bK.take 4).length≤4:=by simp;omega
 have h44:((bK.take 4).take k).length≤4:=by simp;omega
 refine JD 6 (fun h25=>?_) fun h25=>?_
 ·refine J 6 ?_
  obtain⟨x,hx⟩:=ai (show k<(bK.take 4).length by omega)
  refine J 5 ?_
  refine .draw [arr b17 0 [.slice (some ⟨b12,0,none⟩) (aN m 4).toNat (aN m 4).toNat,.slice (some ⟨b15,0,none⟩) (aN c 4).toNat (aN c 4).toNat,u]] [0,0,0,0,0,1,2,1,2,2,1,1,3] rfl (by kernel_rfl) ?_
  refine J 6 ?_
  refine .c2 call111 rfl oR fun _ _=>?_
  refine .p (.gX (fun v1=>[(.slice none 0 0),v1]) rfl (by kernel_rfl)) ?_
  refine .d2 rfl Kept.auto (af.gj 200 rfl rfl (by kernel_rfl)) (by rintro _ _ ⟨b36,rfl,rfl⟩;exact Kept.auto) ?_
  rintro _ _ ⟨b36,rfl,rfl⟩
  refine .d2 rfl Kept.auto (af.fV (enc:=mK) (k:=2) ((Value.slice none 0 0:Value),(⟨[],aN x 1048576⟩:k6)) rfl underlying193 underlying193 typeInfo200 rfl rfl rfl (by decide) rfl rfl rfl .auto rfl .auto (by rw[List.length_map];dsimp only;omega) rfl) (by rintro _ _ ⟨v37,rfl,rfl⟩;exact Kept.auto) ?_
  rintro _ _ ⟨v37,rfl,rfl⟩
  refine J 2 ?_
  refine .d3 rfl (af.mC sizeOf193 rfl rfl rfl) ?_
  rintro _ _ ⟨rfl,rfl⟩
  refine J 7 ?_
  refine .ax (k+1,v37) .auto rfl ?_ ?_ ?_ ?_
  ·show(bK.take 4).length-(k+1)<(bK.take 4).length-k;omega
  ·show k+1≤_;omega
  ·exact⟨rfl,trivial⟩
  ·show ∀ w,Sat _ w _→Sat _ w (seps [_,sl mK 2 v37 (((bK.take 4).take (k+1)).map (fun n=>((Value.slice none 0 0:Value),(⟨[],aN n 1048576⟩:k6)))),_,_,A,F])
   rw[BO hx]
   exact fun w s=>aw.kept .auto w s
 ·refine J 12 ?_
  obtain rfl:k=(bK.take 4).length:=by omega
  rw[List.take_length]
  refine .aS rfl rfl fun w s=>⟨b17,?_,trivial,ak (by repeat (first | exact aw.nil | (apply aw.cons; · repeat (first | exact Take.here | apply Take.there)) | apply aw.JJ | apply aw.JK | apply aw.void | apply aw.JH | apply aw.two | (apply aw.GD; · exact iw) | (apply aw.allM; · exact fun _=>iw) | apply aw.f1 rfl | apply aw.f2 rfl | apply aw.f3 rfl | apply aw.f4 rfl | apply aw.f10 rfl | apply aw.eX | assumption | exact trivial | rfl | omega | (focus (simp[Gates.new];done)) | (unfold Gates.new;simp only[List.map_map];rfl))) s⟩
  rfl
theorem Iv{W:World}{A:aa}{v:bc}(hp:eY W [A] v)(hl:v.fs.length≤1000000000∧v.bK.length≤1000000000∧v.bf.length≤1000000000):Fn Tryz.prog W 20 [.agg (eT v).toArray] [A] (Option Nat) (fun o=>.tuple #[ed o,.int .i64 (dD v.p)]) (fun o=>o.isSome=decide (dD v.p=0)) (fun o=>[optH (fun b=>fM b (Spc.new v.p)) o,A]):=by
 refine Fn.intro (N:=83) func20 rfl ntmps20 rfl fun F=>?_
 haveI hI1:∀ (H:List aa) [bE H A],aC W H v.fv eu 1 v.fs:=fun H h=>⟨hp.fs.at h.has⟩
 haveI hI2:∀ (H:List aa) [bE H A],aC W H v.sv aq 1 v.bK:=fun H h=>⟨hp.bK.at h.has⟩
 haveI hI3:∀ (H:List aa) [bE H A],aC W H v.pv aq 1 v.bf:=fun H h=>⟨hp.bf.at h.has⟩
 show ar _ _ _ _ _ _ [A,F]
 refine .cM (fun w s=>JL hp .here w s) fun hone=>?_
 refine J 2 ?_
 refine .aj rfl (af.box rfl rfl rfl) ?_
 rintro _ _ ⟨b1,rfl,rfl⟩
 refine J 8 ?_
 refine .c call63 rfl (Ct hp hl) fun _ _=>?_
 refine JD 9 (fun h13=>?_) fun h13=>?_
 ·refine J 9 ?_
  refine .eE rfl rfl rfl fun w s=>⟨none,?_,(decide_eq_false h13).symm,ak .auto s⟩
  rfl
 ·refine J 3 ?_
  refine .wc [arr b1 0 (eT v)] [0,2,0,0,4,0,0,0,0,0,0,2,0,0,2,2,0,4,0] [0,1,2,3,5,6,7,8,9,10,11,12,13,14,15,4,16,17,18] rfl (by kernel_rfl) ?_
  have hcs:=tF (tG (Decidable.of_not_not h13))
  have hw:0≤v.words∧v.words≤64:=hcs.2.2.1
  have hf8:v.fs.length≤8:=by simpa [bc.p] using hcs.2.1
  have hp4:v.bf.length≤4:=hcs.2.2.2.2.2.2.2.2.1
  refine bH.q rfl rfl rfl Kept.auto (Y.Ge isAgg52 rfl Cells.a (by exact sizeOf52)) ?_
  refine bH.eD rfl (.inl rfl) rfl (fun _=>Kept.auto) call64 rfl Ir .auto (fun _ _=>Kept.auto) ?_
  rintro x16 -
  refine bH.q rfl rfl rfl Kept.auto (Y.eA 1 3 underlying52 rfl sizeOf3 rfl) ?_
  refine bH.q rfl rfl rfl Kept.auto (Y.load isAgg3 rfl (Cell.a (by rfl))) ?_
  refine bH.q rfl rfl rfl Kept.auto (Y.eA 2 3 underlying52 rfl sizeOf3 rfl) ?_
  refine bH.q rfl rfl rfl Kept.auto (Y.load isAgg3 rfl (Cell.a (by rfl))) ?_
  refine bH.q rfl rfl rfl Kept.auto (Y.eA 3 3 underlying52 rfl sizeOf3 rfl) ?_
  refine bH.q rfl rfl rfl Kept.auto (Y.load isAgg3 rfl (Cell.a (by rfl))) ?_
  refine bH.q rfl rfl rfl Kept.auto (Y.eA 4 50 underlying52 rfl sizeOf50 rfl) ?_
  refine bH.q rfl rfl rfl Kept.auto (Y.load isAgg50 rfl (Cell.a (by rfl))) ?_
  refine bH.eD rfl (.inl rfl) rfl (fun _=>Kept.auto) call65 rfl (Iu hp.bK) .auto (fun _ _=>Kept.auto) ?_
  rintro x26 -
  refine bH.q rfl rfl rfl Kept.auto (Y.eA 6 3 underlying52 rfl sizeOf3 rfl) ?_
  refine bH.q rfl rfl rfl Kept.auto (Y.load isAgg3 rfl (Cell.a (by rfl))) ?_
  refine bH.eD rfl (.inl rfl) rfl (fun _=>Kept.auto) call66 rfl Is .auto (fun _ _=>Kept.auto) ?_
  rintro x29 -
  refine bH.eD rfl (.inl rfl) rfl (fun _=>Kept.auto) call67 rfl Fo .auto (fun _ _=>Kept.auto) ?_
  rintro x30 -
  refine bH.fresh rfl rfl rfl (by decide) Kept.auto (ln (enc:=eS) (k:=1) 0 v.words.toNat underlying64 typeInfo92 rfl rfl rfl rfl (by decide) (by decide) rfl rfl (by omega) (by omega) (by omega)) ?_
  rintro b19
  refine bH.q rfl rfl rfl Kept.auto (Y.LH (fun _ v2 v3 v4 v5 v6=>[v.fv,.int .i64 v.words,.int .i64 v.bx,.int .i64 v.conds,v.sv,v.pv,.int .i64 v.blocks,.int .i64 v.prio,v2,.pointer none,.pointer none,.pointer none,.pointer none,.pointer none,.pointer none,.pointer none,.pointer none,.pointer none,.pointer none,.pointer none,.pointer none,.pointer none,.pointer none,.pointer none,.pointer none,v3,v4,.slice none 0 0,v5,v6,.slice none 0 0]) rfl rfl rfl rfl rfl rfl (by kernel_rfl)) ?_
  refine bH.fresh rfl rfl rfl (by decide) Kept.auto (qH rfl rfl) ?_
  rintro b32
  refine bH.q rfl rfl rfl Kept.auto (Y.a rfl) ?_
  refine bH.nil ?_
  refine J 3 ?_
  refine .to (A:=sl eS 1 (.slice (some ⟨b19,0,none⟩) v.words.toNat v.words.toNat) (List.replicate v.words.toNat 0)) .auto (sE rfl) ?_
  refine J 3 ?_
  refine .c call68 rfl (Kv hp.fs hl.1 hone) fun u36 _=>?_
  refine J 3 ?_
  refine .aj rfl (af.mC sizeOf49 rfl rfl rfl) ?_
  rintro _ _ ⟨rfl,rfl⟩
  refine J 15 ?_
  refine .aZ (X:=Nat×List (Value×List Ins)) [6,7,46,47,48,49,50,51,52,53,54,55,56,57,58,59,60] (fun z=>v.fs.length-z.1) (fun z=>z.1≤v.fs.length∧z.2.length=z.1∧z.2.map (·.2)=(v.fs.take z.1).map (·.2)) (fun z=>[(46,some (.int .i64 (z.1:Int)))]) (fun z=>[arr b32 0 [u36,.int .i64 v.words,.int .i64 v.bx,.int .i64 v.conds,v.sv,v.pv,.int .i64 v.blocks,.int .i64 v.prio,ptr x16,.pointer none,.pointer none,.pointer none,.pointer none,.pointer none,.pointer none,.pointer none,.pointer none,.pointer none,.pointer none,.pointer none,.pointer none,.pointer none,.pointer none,.pointer none,.pointer none,.slice (some ⟨b19,0,none⟩) v.words.toNat v.words.toNat,ptr x26,.slice none 0 0,ptr x29,ptr x30,.slice none 0 0],sl eu 1 u36 (z.2++v.fs.drop z.1),aO (fun x=>sl dM 5 x.1 x.2) z.2,sl eS 1 (.slice (some ⟨b19,0,none⟩) v.words.toNat v.words.toNat) (List.replicate v.words.toNat 0),mz x16 (List.replicate (aN 16 1024).toNat (false,0)),cy x26 (Gates.new v.bx v.conds v.bK),pq x29 (lj.new v.blocks),ow x30 mu.new,arr b1 0 (eT v),A,F]) (0,[]) ?_ ?_ ?_ ?_
  ·exact⟨Nat.zero_le _,rfl,by simp⟩
  ·exact⟨rfl,trivial⟩
  ·exact fun w s=>aw.kept .auto w s
  rintro⟨k,cl⟩ ⟨hk,hcl,hcm⟩
  simp only at hk hcl hcm
  refine JD 6 (fun h47=>?_) fun h47=>?_
  ·refine J 7 ?_
   obtain⟨x,hx⟩:=ai (show k<v.fs.length by omega)
   have hx2:=GK hcl hx
   have hi:=hp.ins x (List.mem_of_getElem? hx)
   have hx256:x.2.length≤256:=Df (tG (Decidable.of_not_not h13)) (List.mem_of_getElem? hx)
   refine .p (.ix k rfl rfl rfl (by simp;omega)) ?_
   refine J 5 ?_
   refine .draw [arr b32 0 [u36,.int .i64 v.words,.int .i64 v.bx,.int .i64 v.conds,v.sv,v.pv,.int .i64 v.blocks,.int .i64 v.prio,ptr x16,.pointer none,.pointer none,.pointer none,.pointer none,.pointer none,.pointer none,.pointer none,.pointer none,.pointer none,.pointer none,.pointer none,.pointer none,.pointer none,.pointer none,.pointer none,.pointer none,.slice (some ⟨b19,0,none⟩) v.words.toNat v.words.toNat,ptr x26,.slice none 0 0,ptr x29,ptr x30,.slice none 0 0],sl eu 1 u36 (cl++v.fs.drop k)] [0,0,0,0,0,0,1,2,1,3] rfl (by kernel_rfl) ?_
   refine J 7 ?_
   refine .c2 call69 rfl (MA hi (by omega)) fun u58 _=>?_
   refine .cM (fun w s=>Rd.isSl (Rd.sl .here) w s) fun hu58=>?_
   refine .p (.ix k rfl rfl rfl (by simp;omega)) ?_
   refine .d3 rfl (af.er (x':=(u58,x.2)) rfl rfl sizeOf95 (gb hu58) (GK hcl hx) (by decide) rfl (by repeat (first | exact gk.here | apply gk.there))) ?_
   rintro _ _ ⟨rfl,rfl⟩
   refine J 7 ?_
   refine .ax (k+1,cl++[(u58,x.2)]) .auto rfl ?_ ?_ ?_ ?_
   ·show v.fs.length-(k+1)<v.fs.length-k;omega
   ·exact⟨by show k+1≤_;omega,by simp[hcl],by rw[aW hx];simp[hcm]⟩
   ·exact⟨rfl,trivial⟩
   ·show ∀ w,Sat _ w _→Sat _ w (seps [_,sl eu 1 u36 ((cl++[(u58,x.2)])++v.fs.drop (k+1)),aO (fun x=>sl dM 5 x.1 x.2) (cl++[(u58,x.2)]),_,_,_,_,_,_,A,F])
    rw[← JM hcl hx,nw]
    exact fun w s=>aw.kept .auto w s
  ·refine J 15 ?_
   obtain rfl:k=v.fs.length:=by omega
   rw[List.drop_length,List.append_nil]
   refine .aZ (X:=Nat×Value×List (Nat×Tub)) [9,64,65,66,67,68,69,70,71,72,73,74,75,76,77,78,79] (fun z=>v.bf.length-z.1) (fun z=>z.1≤v.bf.length∧z.2.2.length=z.1∧z.2.2.map (·.2)=(v.bf.take z.1).map Tub.new) (fun z=>[(64,some (.int .i64 (z.1:Int)))]) (fun z=>[arr b32 0 [u36,.int .i64 v.words,.int .i64 v.bx,.int .i64 v.conds,v.sv,v.pv,.int .i64 v.blocks,.int .i64 v.prio,ptr x16,.pointer none,.pointer none,.pointer none,.pointer none,.pointer none,.pointer none,.pointer none,.pointer none,.pointer none,.pointer none,.pointer none,.pointer none,.pointer none,.pointer none,.pointer none,.pointer none,.slice (some ⟨b19,0,none⟩) v.words.toNat v.words.toNat,ptr x26,z.2.1,ptr x29,ptr x30,.slice none 0 0],sl cP 1 z.2.1 z.2.2,aO (fun x=>iI x.1 x.2) z.2.2,sl eu 1 u36 cl,aO (fun x=>sl dM 5 x.1 x.2) cl,sl eS 1 (.slice (some ⟨b19,0,none⟩) v.words.toNat v.words.toNat) (List.replicate v.words.toNat 0),mz x16 (List.replicate (aN 16 1024).toNat (false,0)),cy x26 (Gates.new v.bx v.conds v.bK),pq x29 (lj.new v.blocks),ow x30 mu.new,arr b1 0 (eT v),A,F]) (0,.slice none 0 0,[]) ?_ ?_ ?_ ?_
   ·exact⟨Nat.zero_le _,rfl,by simp⟩
   ·exact⟨rfl,trivial⟩
   ·exact fun w s=>aw.kept .auto w s
   rintro⟨k,vt,ts⟩ ⟨hk,htl,htm⟩
   simp only at hk htl htm
   refine JD 6 (fun h65=>?_) fun h65=>?_
   ·refine J 6 ?_
    obtain⟨x,hx⟩:=ai (show k<v.bf.length by omega)
    refine J 5 ?_
    refine .draw [arr b32 0 [u36,.int .i64 v.words,.int .i64 v.bx,.int .i64 v.conds,v.sv,v.pv,.int .i64 v.blocks,.int .i64 v.prio,ptr x16,.pointer none,.pointer none,.pointer none,.pointer none,.pointer none,.pointer none,.pointer none,.pointer none,.pointer none,.pointer none,.pointer none,.pointer none,.pointer none,.pointer none,.pointer none,.pointer none,.slice (some ⟨b19,0,none⟩) v.words.toNat v.words.toNat,ptr x26,vt,ptr x29,ptr x30,.slice none 0 0]] [0,0,0,0,0,1,2,2,2,1,1,3] rfl (by kernel_rfl) ?_
    refine J 6 ?_
    refine .c2 call70 rfl It fun x74 _=>?_
    refine .d2 rfl Kept.auto (af.gj 126 rfl rfl (by kernel_rfl)) (by rintro _ _ ⟨b75,rfl,rfl⟩;exact Kept.auto) ?_
    rintro _ _ ⟨b75,rfl,rfl⟩
    refine .d2 rfl Kept.auto (af.fV (enc:=cP) (k:=1) ((x74,Tub.new x):Nat×Tub) rfl underlying121 underlying121 typeInfo126 rfl rfl rfl (by decide) rfl rfl rfl .auto rfl .auto (by first | omega | (dsimp only;omega)) rfl) (by rintro _ _ ⟨v76,rfl,rfl⟩;exact Kept.auto) ?_
    rintro _ _ ⟨v76,rfl,rfl⟩
    refine J 2 ?_
    refine .d3 rfl (af.mC sizeOf121 rfl rfl rfl) ?_
    rintro _ _ ⟨rfl,rfl⟩
    refine J 7 ?_
    refine .ax (k+1,v76,ts++[(x74,Tub.new x)]) .auto rfl ?_ ?_ ?_ ?_
    ·show v.bf.length-(k+1)<v.bf.length-k;omega
    ·exact⟨by show k+1≤_;omega,by simp[htl],by rw[aW hx];simp[htm]⟩
    ·exact⟨rfl,trivial⟩
    ·show ∀ w,Sat _ w _→Sat _ w (seps [_,sl cP 1 v76 (ts++[(x74,Tub.new x)]),aO (fun x=>iI x.1 x.2) (ts++[(x74,Tub.new x)]),_,_,_,_,_,_,_,_,A,F])
     rw[nw]
     exact fun w s=>aw.kept .auto w s
   ·refine J 8 ?_
    obtain rfl:k=v.bf.length:=by omega
    have htm2:ts.map (·.2)=(yf v.p).cj:=by rw[htm,List.take_length];rfl
    have hcm2:cl.map (·.2)=(yf v.p).fb.funcs:=by rw[hcm,List.take_length];rfl
    refine .c call71 rfl (uQ (ps:=List.replicate 16 none) (s:=yf v.p) (Ex _) rfl (Ey _)) fun qs _=>?_
    refine J 10 ?_
    refine .eE rfl rfl rfl fun w s=>⟨some b32,?_,(decide_eq_true (Decidable.of_not_not h13)).symm,ak .auto s⟩
    rw[Decidable.of_not_not h13];rfl
end Go.SLYtpbjdoplfgeliaaGreat
namespace Go.SLYtpbjdoplfgeliaaGreat
open Go Go.RowKit Go.Proofs Go.Proofs.Tryz
attribute [local irreducible] ar aR bm bA bH Y
theorem qn{W:World}{u:Value}{x:aH}:Fn Tryz.prog W 185 [.agg (eZ (u,x)).toArray] [] Unit (fun _=>.bool x.holds) (fun _=>True) (fun _=>[]):=by
 refine Fn.intro (N:=16) func185 rfl ntmps185 rfl fun F=>?_
 show ar _ _ _ _ _ _ [F]
 refine J 2 ?_
 refine .aj rfl (af.box rfl rfl rfl) ?_
 rintro _ _ ⟨b1,rfl,rfl⟩
 refine J 9 ?_
 apply aR.gA 4 10 6 [6,7,8,9,10] rfl
 ·intro h6
  exact JS 5
 ·intro h6
  exact JS 5
 refine J 1 ?_
 apply aR.gY 4 15 11 [11,12,13,14,15] rfl
 ·intro h11
  exact JS 5
 ·intro h11
  exact JS 5
 exact JR 4 ()
theorem r8{W:World}{u:Value}{x:aH}(_hu:isSl u=true):Fn Tryz.prog W 149 [.agg (eZ (u,x)).toArray] [] Unit (fun _=>.tuple #[.int .i64 (mO x),.bool x.runs]) (fun _=>True) (fun _=>[]):=by
 refine Fn.intro (N:=24) func149 rfl ntmps149 rfl fun F=>?_
 show ar _ _ _ _ _ _ [F]
 refine J 2 ?_
 refine .aj rfl (af.box rfl rfl rfl) ?_
 rintro _ _ ⟨b1,rfl,rfl⟩
 refine J 11 ?_
 apply aR.gz 4 11 7 [7,8,9,10,11] rfl
 ·intro h7
  exact JS 5
 ·intro h7
  exact JS 5
 refine J 1 ?_
 apply aR.gq 4 16 12 [12,13,14,15,16] rfl
 ·intro h12
  exact JS 5
 ·intro h12
  exact JS 5
 refine J 1 ?_
 apply aR.gY 4 21 17 [17,18,19,20,21] rfl
 ·intro h17
  exact JS 5
 ·intro h17
  exact JS 5
 refine JD 2 (fun h21=>?_) fun h21=>?_
 ·simp only[Bool.and_eq_true,Bool.or_eq_true,decide_eq_true_eq] at h21
  refine J 8 ?_
  refine .eE rfl rfl rfl fun w s=>⟨(),?_,trivial,ak .auto s⟩
  have e:x.runs=false:=by unfold aH.runs;simp;omega
  rw[mO,e];rfl
 ·simp only[Bool.and_eq_false_iff,Bool.or_eq_false_iff,decide_eq_false_iff_not] at h21
  refine J 11 ?_
  refine .eE rfl rfl rfl fun w s=>⟨(),?_,trivial,ak .auto s⟩
  have e:x.runs=true:=by unfold aH.runs;simp;omega
  rw[mO,e];rfl
theorem oS{W:World}{e:Ev}:Fn Tryz.prog W 151 [.agg (cf e).toArray] [] Unit (fun _=>.tuple #[.int .i64 (Nb e),.bool (dE e)]) (fun _=>True) (fun _=>[]):=by
 refine Fn.intro (N:=24) func151 rfl ntmps151 rfl fun F=>?_
 show ar _ _ _ _ _ _ [F]
 refine J 2 ?_
 refine .aj rfl (af.box rfl rfl rfl) ?_
 rintro _ _ ⟨b1,rfl,rfl⟩
 refine J 11 ?_
 apply aR.gA 4 11 7 [7,8,9,10,11] rfl
 ·intro h7
  refine J 5 ?_
  refine .n9 .auto rfl (by first | exact fun _ h=>h | exact aw.kept .auto)
 ·intro h7
  refine J 5 ?_
  refine .n9 .auto rfl (by first | exact fun _ h=>h | exact aw.kept .auto)
 refine J 1 ?_
 apply aR.gY 9 21 12 [12,13,14,15,16,17,18,19,20,21] rfl
 ·intro h12
  refine J 4 ?_
  apply aR.gz 4 20 16 [16,17,18,19,20] rfl
  ·intro h16
   refine J 5 ?_
   refine .n9 .auto rfl (by first | exact fun _ h=>h | exact aw.kept .auto)
  ·intro h16
   refine J 5 ?_
   refine .n9 .auto rfl (by first | exact fun _ h=>h | exact aw.kept .auto)
  refine J 2 ?_
  refine .n9 .auto rfl (by first | exact fun _ h=>h | exact aw.kept .auto)
 ·intro h12
  refine J 10 ?_
  refine .n9 .auto rfl (by first | exact fun _ h=>h | exact aw.kept .auto)
 refine JD 2 (fun h21=>?_) fun h21=>?_
 ·simp only[Bool.and_eq_true,Bool.or_eq_true,decide_eq_true_eq] at h21
  refine J 8 ?_
  refine .eE rfl rfl rfl fun w s=>⟨(),?_,trivial,ak .auto s⟩
  have h:dE e=false:=by unfold dE;simp;omega
  rw[Nb,h];rfl
 ·simp only[Bool.and_eq_false_iff,Bool.or_eq_false_iff,decide_eq_false_iff_not] at h21
  refine J 11 ?_
  refine .eE rfl rfl rfl fun w s=>⟨(),?_,trivial,ak .auto s⟩
  have h:dE e=true:=by unfold dE;simp;omega
  rw[Nb,h];rfl
theorem l7{W:World}{A:aa}{v:Value}{xs:List Ev}(hr:Rd W [A] cf 3 v xs)(hl:xs.length≤1000000000):Fn Tryz.prog W 186 [v] [A] Value (fun u=>u) (fun _=>True) (fun u=>[sl cf 3 u (cV xs),A]):=by
 refine Fn.intro (N:=31) func186 rfl ntmps186 rfl fun F=>?_
 haveI hRI:∀ (H:List aa) [bE H A],aC W H v cf 3 xs:=fun H h=>⟨hr.at h.has⟩
 show ar _ _ _ _ _ _ [A,F]
 refine J 19 ?_
 refine .aZ (X:=Nat×Value) [3,5,6,7,10,11,12,13,14,15,16,17,18,19,20,21,22,23,24,25,26,27,28,29] (fun z=>xs.length-z.1) (fun z=>z.1≤xs.length) (fun z=>[(10,some (.int .i64 (z.1:Int))),(3,some z.2)]) (fun z=>[sl cf 3 z.2 (cV (xs.take z.1)),A,F]) (0,.slice none 0 0) ?_ ?_ ?_ ?_
 ·exact Nat.zero_le _
 ·exact⟨rfl,rfl,trivial⟩
 ·exact fun w s=>aw.kept .auto w s
 rintro⟨k,u⟩ hk
 simp only at hk
 have hkl:=Ez xs k
 refine JD 6 (fun h11=>?_) fun h11=>?_
 ·refine J 6 ?_
  obtain⟨e,hx⟩:=ai (show k<xs.length by omega)
  refine J 2 ?_
  refine .aj rfl (af.alloc rfl zeroValue232 rfl) ?_
  rintro _ _ ⟨b5,rfl,rfl⟩
  refine J 6 ?_
  refine .c call151 rfl oS fun _ _=>?_
  refine J 11 ?_
  apply aR.gY 4 24 20 [20,21,22,23,24] rfl
  ·intro h20
   exact JS 5
  ·intro h20
   exact JS 5
  refine JD 2 (fun h24=>?_) fun h24=>?_
  ·simp only[Bool.or_eq_true,decide_eq_true_eq] at h24
   refine J 3 ?_
   refine .aj rfl (af.gj 232 rfl rfl (by kernel_rfl)) ?_
   rintro _ _ ⟨b27,rfl,rfl⟩
   refine .aj rfl (af.fV (enc:=cf) (k:=3) e rfl underlying165 underlying165 typeInfo232 rfl rfl rfl (by decide) rfl rfl rfl .auto rfl .auto (by first | omega | (dsimp only;omega)) rfl) ?_
   rintro _ _ ⟨v28,rfl,rfl⟩
   refine J 8 ?_
   refine .ax (k+1,v28) .auto rfl ?_ ?_ ?_ ?_
   ·show xs.length-(k+1)<xs.length-k;omega
   ·show k+1≤_;omega
   ·exact⟨rfl,rfl,trivial⟩
   ·show ∀ w,Sat _ w _→Sat _ w (seps [sl cf 3 v28 (cV (xs.take (k+1))),A,F])
    rw[GL hx h24]
    exact fun w s=>aw.kept .auto w s
  ·simp only[Bool.or_eq_false_iff,decide_eq_false_iff_not] at h24
   refine J 7 ?_
   refine .ax (k+1,u) .auto rfl ?_ ?_ ?_ ?_
   ·show xs.length-(k+1)<xs.length-k;omega
   ·show k+1≤_;omega
   ·exact⟨rfl,rfl,trivial⟩
   ·show ∀ w,Sat _ w _→Sat _ w (seps [sl cf 3 u (cV (xs.take (k+1))),A,F])
    rw[JN hx h24]
    exact fun w s=>aw.kept .auto w s
 ·refine J 12 ?_
  obtain rfl:k=xs.length:=by omega
  rw[List.take_length]
  refine .aS rfl rfl fun w s=>⟨_,?_,trivial,ak .auto s⟩
  rfl
theorem qo{W:World}{A:aa}{u:Value}{x:aH}(hr:Rd W [A] cf 3 u x.evs)(hl:x.evs.length≤900000000):Fn Tryz.prog W 135 [.agg (eZ (u,x)).toArray] [A] Value (fun u=>u) (fun _=>True) (fun w=>[sl cf 3 w x.strip,A]):=by
 refine Fn.intro (N:=31) func135 rfl ntmps135 rfl fun F=>?_
 haveI hRI:∀ (H:List aa) [bE H A],aC W H u cf 3 x.evs:=fun H h=>⟨hr.at h.has⟩
 show ar _ _ _ _ _ _ [A,F]
 refine .cM (fun w s=>Rd.isSl (hr.at .here) w s) fun hu=>?_
 refine J 2 ?_
 refine .aj rfl (af.box rfl rfl rfl) ?_
 rintro _ _ ⟨b1,rfl,rfl⟩
 refine J 6 ?_
 refine .c call149 rfl (r8 hu) fun _ _=>?_
 refine JD 14 (fun h12=>?_) fun h12=>?_
 ·refine J 14 ?_
  rw[Bool.not_eq_true'] at h12
  refine .c call185 rfl qn fun _ _=>?_
  refine JD 3 (fun h13=>?_) fun h13=>?_
  ·refine J 4 ?_
   refine .p (.vM (fun v1 v2 v3=>[v1,v2,v3]) rfl rfl rfl (by kernel_rfl)) ?_
   refine .aj rfl (af.gj 232 rfl rfl (by kernel_rfl)) ?_
   rintro _ _ ⟨b20,rfl,rfl⟩
   refine J 9 ?_
   refine .c call186 rfl (l7 hr (by omega)) fun k29 _=>?_
   refine .c call134 rfl (uO (A:=seps [arr b20 0 [.int .i64 4,.int .i64 (-1),.int .i64 x.mode],sl cf 3 k29 (cV x.evs),A]) (xs:=[⟨4, -1,x.mode⟩]) (ys:=cV x.evs) (Rd.eX (Rd.lit .here rfl (fun _ _=>rfl) rfl)) (Rd.eX (Rd.sl .auto)) (by have:=kI x.evs;simp;omega)) fun u30 _=>?_
   refine .dL .auto ?_
   rw[show[⟨4, -1,x.mode⟩]++cV x.evs=x.strip from by unfold aH.strip;rw[if_pos h13,if_neg (by rw[h12];simp)]]
   refine J 4 ?_
   refine .aS rfl rfl fun w s=>⟨_,?_,trivial,ak .auto s⟩
   rfl
  ·refine JD 6 (fun h21=>?_) fun h21=>?_
   ·rw[h12] at h21;cases h21
   ·refine J 8 ?_
    refine .c call186 rfl (l7 hr (by omega)) fun k29 _=>?_
    refine .c call134 rfl (uO (A:=seps [sl cf 3 k29 (cV x.evs),A]) (xs:=([]:List Ev)) (ys:=cV x.evs) (Rd.eX Rd.nil) (Rd.eX (Rd.sl .auto)) (by have:=kI x.evs;simp;omega)) fun u30 _=>?_
    refine .dL .auto ?_
    rw[show([]:List Ev)++cV x.evs=x.strip from by unfold aH.strip;rw[if_neg (by rw[h13];simp),if_neg (by rw[h12];simp)]]
    refine J 4 ?_
    refine .aS rfl rfl fun w s=>⟨_,?_,trivial,ak .auto s⟩
    rfl
 ·refine J 12 ?_
  rw[Bool.not_eq_false'] at h12
  refine .c call185 rfl qn fun _ _=>?_
  refine JD 3 (fun h13=>?_) fun h13=>?_
  ·refine J 4 ?_
   refine .p (.vM (fun v1 v2 v3=>[v1,v2,v3]) rfl rfl rfl (by kernel_rfl)) ?_
   refine .aj rfl (af.gj 232 rfl rfl (by kernel_rfl)) ?_
   rintro _ _ ⟨b20,rfl,rfl⟩
   refine J 9 ?_
   rw[show mO x=x.ab from by unfold mO;rw[if_pos h12]]
   refine .c call186 rfl (l7 hr (by omega)) fun k29 _=>?_
   refine .c call134 rfl (uO (A:=seps [arr b20 0 [.int .i64 4,.int .i64 x.ab,.int .i64 x.mode],sl cf 3 k29 (cV x.evs),A]) (xs:=[⟨4,x.ab,x.mode⟩]) (ys:=cV x.evs) (Rd.eX (Rd.lit .here rfl (fun _ _=>rfl) rfl)) (Rd.eX (Rd.sl .auto)) (by have:=kI x.evs;simp;omega)) fun u30 _=>?_
   refine .dL .auto ?_
   rw[show[⟨4,x.ab,x.mode⟩]++cV x.evs=x.strip from by unfold aH.strip;rw[if_pos h13,if_pos h12]]
   refine J 4 ?_
   refine .aS rfl rfl fun w s=>⟨_,?_,trivial,ak .auto s⟩
   rfl
  ·refine JD 6 (fun h21=>?_) fun h21=>?_
   ·refine J 2 ?_
    refine .p (.fY (fun v1 v2=>[v1,v2,(.int .i64 0)]) rfl rfl (by kernel_rfl)) ?_
    refine .aj rfl (af.gj 232 rfl rfl (by kernel_rfl)) ?_
    rintro _ _ ⟨b25,rfl,rfl⟩
    refine J 9 ?_
    rw[show mO x=x.ab from by unfold mO;rw[if_pos h12]]
    refine .c call186 rfl (l7 hr (by omega)) fun k29 _=>?_
    refine .c call134 rfl (uO (A:=seps [arr b25 0 [.int .i64 4,.int .i64 x.ab,.int .i64 0],sl cf 3 k29 (cV x.evs),A]) (xs:=[⟨4,x.ab,0⟩]) (ys:=cV x.evs) (Rd.eX (Rd.lit .here rfl (fun _ _=>rfl) rfl)) (Rd.eX (Rd.sl .auto)) (by have:=kI x.evs;simp;omega)) fun u30 _=>?_
    refine .dL .auto ?_
    rw[show[⟨4,x.ab,0⟩]++cV x.evs=x.strip from by unfold aH.strip;rw[if_neg (by rw[h13];simp),if_pos h12]]
    refine J 4 ?_
    refine .aS rfl rfl fun w s=>⟨_,?_,trivial,ak .auto s⟩
    rfl
   ·rw[h12] at h21;cases h21
theorem oT{W:World}{A:aa}{v:Value}{xs:List Ev}(hr:Rd W [A] cf 3 v xs)(hl:xs.length≤1000000000):Fn Tryz.prog W 133 [v] [A] Value (fun u=>.agg (eZ (u,aH.new xs)).toArray) (fun _=>True) (fun u=>[sl cf 3 u xs,A]):=by
 refine Fn.intro (N:=6) func133 rfl ntmps133 rfl fun F=>?_
 show ar _ _ _ _ _ _ [A,F]
 refine J 2 ?_
 refine .aj rfl (af.alloc rfl zeroValue228 rfl) ?_
 rintro _ _ ⟨b2,rfl,rfl⟩
 refine J 5 ?_
 refine .c call153 rfl (rp hr hl) fun u4 _=>?_
 refine .cM (fun w s=>Rd.shape (Rd.sl .auto) w s) fun e=>?_
 obtain⟨a4,c4,rfl⟩:=e
 refine .p (.vM (fun v1 v2 v3=>[v1,v2,v3]) rfl rfl rfl (by kernel_rfl)) ?_
 refine J 4 ?_
 refine .dJ rfl rfl isAgg228 (by exact sizeOf228) Cells.a fun w s=>⟨_,?_,trivial,ak .auto s⟩
 rfl
theorem sa{W:World}{A:aa}{u:Value}{x:aH}{m:Value}{ys:List Ev}(hr:Rd W [A] cf 3 u x.evs)(hm:Rd W [A] cf 3 m ys)(hl:x.evs.length≤400000000∧ys.length≤400000000):Fn Tryz.prog W 146 [.agg (eZ (u,x)).toArray,m] [A] Value (fun w=>.agg (eZ (w,x.told ys)).toArray) (fun _=>True) (fun w=>[sl cf 3 w (x.strip++ys),A]):=by
 refine Fn.intro (N:=10) func146 rfl ntmps146 rfl fun F=>?_
 show ar _ _ _ _ _ _ [A,F]
 have hsl:=nB x
 refine .cM (fun w s=>Rd.isSl (hr.at .here) w s) fun hu=>?_
 refine J 2 ?_
 refine .aj rfl (af.box rfl rfl rfl) ?_
 rintro _ _ ⟨b2,rfl,rfl⟩
 refine .aj rfl (af.alloc rfl zeroValue228 rfl) ?_
 rintro _ _ ⟨b4,rfl,rfl⟩
 refine J 5 ?_
 refine .c call135 rfl (qo hr (by omega)) fun u6 _=>?_
 refine J 1 ?_
 refine .c call134 rfl (uO (A:=seps [sl cf 3 u6 x.strip,A]) (xs:=x.strip) (ys:=ys) (Rd.eX (Rd.sl .here)) (Rd.eX (hm.at (.there .here))) (by omega)) fun u8 _=>?_
 refine .dL .auto ?_
 refine .c call133 rfl (oT (A:=sl cf 3 u8 (x.strip++ys)) (xs:=x.strip++ys) (Rd.sl .here) (by simp;omega)) fun u9 _=>?_
 refine .cM (fun w s=>Rd.shape (Rd.sl .auto) w s) fun e=>?_
 obtain⟨a9,c9,rfl⟩:=e
 refine J 4 ?_
 refine .dJ rfl rfl isAgg228 (by exact sizeOf228) Cells.a fun w s=>⟨_,?_,trivial,ak .auto s⟩
 rfl
theorem Iw{W:World}{b bs br:Nat}{l:Lib}{p:Int}:Fn Tryz.prog W 132 [ptr b,.int .i64 p] [bj b bs br l] Unit (fun _=>.bool (gN l p)) (fun _=>True) (fun _=>[bj b bs br l]):=by
 refine Fn.intro (N:=20) func132 rfl ntmps132 rfl fun F=>?_
 show ar _ _ _ _ _ _ [bj b bs br l,F]
 refine .o2 (C:=bj b bs br l) .auto rfl ?_
 rintro vv vw -
 refine .o1 (C:=cv vv l.vs) .auto rfl ?_
 rintro xs hxs
 have hxl:=au hxs
 refine J 10 ?_
 apply aR.gq 3 10 7 [7,8,9,10] rfl
 ·intro h7
  exact JS 4
 ·intro h7
  exact JS 4
 refine J 1 ?_
 apply aR.gz 8 19 11 [11,12,13,14,15,16,17,18,19] rfl
 ·intro h11
  exact JS 9
 ·intro h11
  exact JS 9
 refine J 4 ?_
 refine .aS rfl rfl fun w s=>⟨(),?_,trivial,ak .auto s⟩
 unfold gN;rw[← hxl]
theorem kW{W:World}{b bs br:Nat}{l:Lib}{p:Int}:Fn Tryz.prog W 96 [ptr b,.int .i64 p] [bj b bs br l] Unit (fun _=>.bool (l.has p)) (fun _=>True) (fun _=>[bj b bs br l]):=by
 refine Fn.intro (N:=19) func96 rfl ntmps96 rfl fun F=>?_
 show ar _ _ _ _ _ _ [bj b bs br l,F]
 refine J 9 ?_
 refine .c call132 rfl Iw fun _ _=>?_
 refine J 1 ?_
 apply aR.gq 10 18 8 [8,9,10,11,12,13,14,15,16,17,18] rfl
 ·intro h8
  refine .o2 (C:=bj b bs br l) .auto rfl ?_
  rintro vv vw -
  refine .o1 (C:=cv vv l.vs) .auto rfl ?_
  rintro xs hxs
  have hxl:=au hxs
  unfold gN at h8
  simp only[Bool.and_eq_true,decide_eq_true_eq] at h8
  obtain⟨i,hi⟩:∃ i:Nat,p=(i:Int):=⟨p.toNat,by omega⟩
  obtain⟨x,hx⟩:=ai (show i<xs.length by omega)
  have hx2:=eU hxs hx
  refine J 5 ?_
  refine .g (.tm i underlying164 sizeOf228 rfl (by rw[hi];rfl) Rd.s rfl (by omega)) ?_
  refine J 1 ?_
  refine .g (.fa (Y.load isAgg3 rfl (Cell.Lb Rd.s hx rfl)) ((lC hx2).trans (congrArg _ hi.symm))) ?_
  exact JS 3
 ·intro h8
  exact JS 11
 refine J 4 ?_
 refine .aS rfl rfl fun w s=>⟨(),?_,trivial,ak .auto s⟩
 rw[lB]
theorem fi{W:World}{b bs br:Nat}{l:Lib}(hl:l.vs.length≤1000000000):Fn Tryz.prog W 41 [ptr b] [bj b bs br l] Value (fun u=>u) (fun _=>True) (fun u=>[sl aq 1 u l.procs,bj b bs br l]):=by
 refine Fn.intro (N:=24) func41 rfl ntmps41 rfl fun F=>?_
 show ar _ _ _ _ _ _ [bj b bs br l,F]
 refine J 12 ?_
 refine .ep rfl ?_
 refine J 10 ?_
 refine .o2 (C:=bj b bs br l) .auto rfl ?_
 rintro vv vw -
 refine .o1 (C:=cv vv l.vs) .auto rfl ?_
 rintro xs hxs
 have hxl:=au hxs
 refine J 9 ?_
 refine .aZ (X:=Nat×Value×List Int) [3,4,12,13,14,15,16,17,18,19,20,21,22] (fun z=>l.vs.length-z.1) (fun z=>z.1≤l.vs.length∧z.2.2.length≤z.1∧l.procs=z.2.2++procsFrom (l.vs.drop z.1) z.1) (fun z=>[(12,some (.int .i64 (z.1:Int))),(3,some z.2.1)]) (fun z=>[sl aq 1 z.2.1 z.2.2,bj b bs br l,F]) (0,.slice none 0 0,[]) ?_ ?_ ?_ ?_
 ·exact⟨Nat.zero_le _,Nat.le_refl _,rfl⟩
 ·exact⟨rfl,rfl,trivial⟩
 ·exact fun w s=>aw.kept .auto w s
 rintro⟨k,u,ys⟩ ⟨hk,hyl,hn⟩
 simp only at hk hyl hn
 refine JD 6 (fun h13=>?_) fun h13=>?_
 ·refine J 14 ?_
  refine .c call96 rfl kW fun _ _=>?_
  refine JD 2 (fun h17=>?_) fun h17=>?_
  ·refine J 3 ?_
   refine .aj rfl (af.gj 3 rfl rfl (by kernel_rfl)) ?_
   rintro _ _ ⟨b20,rfl,rfl⟩
   refine .aj rfl (af.fV (enc:=aq) (k:=1) (k:Int) rfl underlying50 underlying50 typeInfo3 rfl rfl rfl (by decide) rfl rfl rfl .auto rfl .auto (by first | omega | (dsimp only;omega)) rfl) ?_
   rintro _ _ ⟨v21,rfl,rfl⟩
   refine J 8 ?_
   refine .ax (k+1,v21,ys++[(k:Int)]) .auto rfl ?_ ?_ ?_ ?_
   ·show l.vs.length-(k+1)<l.vs.length-k;omega
   ·exact⟨by show k+1≤_;omega,by simp;omega,by rw[hn,EA (by omega) h17];simp⟩
   ·exact⟨rfl,rfl,trivial⟩
   ·exact fun w s=>aw.kept .auto w s
  ·refine J 7 ?_
   refine .ax (k+1,u,ys) .auto rfl ?_ ?_ ?_ ?_
   ·show l.vs.length-(k+1)<l.vs.length-k;omega
   ·exact⟨by show k+1≤_;omega,by show ys.length≤k+1;omega,by rw[hn,GM (by omega) h17]⟩
   ·exact⟨rfl,rfl,trivial⟩
   ·exact fun w s=>aw.kept .auto w s
 ·refine J 12 ?_
  obtain rfl:k=l.vs.length:=by omega
  rw[EB (Nat.le_refl _),List.append_nil] at hn
  subst hn
  refine .aS rfl rfl fun w s=>⟨_,?_,trivial,ak .auto s⟩
  rfl
end Go.SLYtpbjdoplfgeliaaGreat
namespace Go.SLYtpbjdoplfgeliaaGreat
open Go Go.RowKit Go.Proofs Go.Proofs.Tryz
attribute [local irreducible] ar aR bm bA bH Y
theorem Fq{W:World}{p:Int}:Fn Tryz.prog W 130 [.int .i64 p] [] Nat (fun b=>ptr b) (fun _=>True) (fun b=>[ga b (List.replicate (aN p 64).toNat [])]):=by
 refine Fn.intro (N:=23) func130 rfl ntmps130 rfl fun F=>?_
 show ar _ _ _ _ _ _ [F]
 have hc:0≤aN p 64∧aN p 64≤64:=by unfold aN;omega
 refine J 7 ?_
 refine .p (.mq ([(.slice none 0 0)]) (by kernel_rfl)) ?_
 refine .aj rfl (af.box rfl rfl rfl) ?_
 rintro _ _ ⟨b5,rfl,rfl⟩
 refine J 7 ?_
 refine .p (.wi rfl rfl) ?_
 refine .p (.fa (Y.mi rfl rfl) (show min (max p 0) 64=aN p 64 from rfl)) ?_
 refine J 4 ?_
 refine .aZ (X:=Nat×Value×List (Nat×List Int)) [9,10,11,12,13,14,15,16,17,18,19,20,21] (fun z=>(aN p 64).toNat-z.1) (fun z=>z.1≤(aN p 64).toNat∧z.2.2.length=z.1∧z.2.2.map (·.2)=List.replicate z.1 []) (fun z=>[(9,some (.int .i64 (z.1:Int)))]) (fun z=>[arr b5 0 [z.2.1],sl cP 1 z.2.1 z.2.2,aO (fun x=>fu x.1 x.2) z.2.2,F]) (0,.slice none 0 0,[]) ?_ ?_ ?_ ?_
 ·exact⟨Nat.zero_le _,rfl,rfl⟩
 ·exact⟨rfl,trivial⟩
 ·exact fun w s=>aw.kept .auto w s
 rintro⟨k,v,ts⟩ ⟨hk,htl,htm⟩
 simp only at hk htl htm
 refine JD 6 (fun h10=>?_) fun h10=>?_
 ·refine J 4 ?_
  refine .draw [arr b5 0 [v]] [0,0,0,0,0,2,2,2,1,1,3] rfl (by kernel_rfl) ?_
  refine J 5 ?_
  refine .c2 call183 rfl Fm fun x16 _=>?_
  refine .d2 rfl Kept.auto (af.gj 252 rfl rfl (by kernel_rfl)) (by rintro _ _ ⟨b17,rfl,rfl⟩;exact Kept.auto) ?_
  rintro _ _ ⟨b17,rfl,rfl⟩
  refine .d2 rfl Kept.auto (af.fV (enc:=cP) (k:=1) ((x16,[]):Nat×List Int) rfl underlying249 underlying249 typeInfo252 rfl rfl rfl (by decide) rfl rfl rfl .auto rfl .auto (by first | omega | (dsimp only;omega)) rfl) (by rintro _ _ ⟨v18,rfl,rfl⟩;exact Kept.auto) ?_
  rintro _ _ ⟨v18,rfl,rfl⟩
  refine J 2 ?_
  refine .d3 rfl (af.mC sizeOf249 rfl rfl rfl) ?_
  rintro _ _ ⟨rfl,rfl⟩
  refine J 7 ?_
  refine .ax (k+1,v18,ts++[(x16,[])]) .auto rfl ?_ ?_ ?_ ?_
  ·show(aN p 64).toNat-(k+1)<(aN p 64).toNat-k;omega
  ·exact⟨by show k+1≤_;omega,by simp[htl],by simp[htm,List.replicate_succ']⟩
  ·exact⟨rfl,trivial⟩
  ·show ∀ w,Sat _ w _→Sat _ w (seps [_,sl cP 1 v18 (ts++[(x16,[])]),aO (fun x=>fu x.1 x.2) (ts++[(x16,[])]),F])
   rw[nw]
   exact fun w s=>aw.kept .auto w s
 ·refine J 12 ?_
  obtain rfl:k=(aN p 64).toNat:=by omega
  exact JR 0 b5
theorem iC{W:World}{A:aa}{v:Value}{xs:List Int}(hr:Rd W [A] aq 1 v xs)(hl:xs.length≤1000000000):Fn Tryz.prog W 131 [v] [A] Value (fun u=>u) (fun _=>True) (fun u=>[sl cf 3 u (aG xs),A]):=by
 refine Fn.intro (N:=19) func131 rfl ntmps131 rfl fun F=>?_
 haveI hRI:∀ (H:List aa) [bE H A],aC W H v aq 1 xs:=fun H h=>⟨hr.at h.has⟩
 show ar _ _ _ _ _ _ [A,F]
 refine J 19 ?_
 refine .aZ (X:=Nat×Value) [3,5,8,9,10,11,12,13,14,15,16,17] (fun z=>xs.length-z.1) (fun z=>z.1≤xs.length) (fun z=>[(8,some (.int .i64 (z.1:Int))),(3,some z.2)]) (fun z=>[sl cf 3 z.2 (aG (xs.take z.1)),A,F]) (0,.slice none 0 0) ?_ ?_ ?_ ?_
 ·exact Nat.zero_le _
 ·exact⟨rfl,rfl,trivial⟩
 ·exact fun w s=>aw.kept .auto w s
 rintro⟨k,u⟩ hk
 simp only at hk
 refine JD 6 (fun h9=>?_) fun h9=>?_
 ·refine J 6 ?_
  obtain⟨n,hx⟩:=ai (show k<xs.length by omega)
  refine J 8 ?_
  refine .p (.fY (fun v1 v2=>[v1,v2,(.int .i64 0)]) rfl rfl (by kernel_rfl)) ?_
  refine .aj rfl (af.gj 232 rfl rfl (by kernel_rfl)) ?_
  rintro _ _ ⟨b15,rfl,rfl⟩
  refine .aj rfl (af.fV (enc:=cf) (k:=3) (⟨3,n,0⟩:Ev) rfl underlying165 underlying165 typeInfo232 rfl rfl rfl (by decide) rfl rfl rfl .auto rfl .auto (by unfold aG;rw[List.length_map,List.length_take];omega) rfl) ?_
  rintro _ _ ⟨v16,rfl,rfl⟩
  refine J 8 ?_
  refine .ax (k+1,v16) .auto rfl ?_ ?_ ?_ ?_
  ·show xs.length-(k+1)<xs.length-k;omega
  ·show k+1≤_;omega
  ·exact⟨rfl,rfl,trivial⟩
  ·show ∀ w,Sat _ w _→Sat _ w (seps [sl cf 3 v16 (aG (xs.take (k+1))),A,F])
   rw[zT hx]
   exact fun w s=>aw.kept .auto w s
 ·refine J 12 ?_
  obtain rfl:k=xs.length:=by omega
  rw[List.take_length]
  refine .aS rfl rfl fun w s=>⟨_,?_,trivial,ak .auto s⟩
  rfl
theorem Ky{W:World}{bs:Nat}{ps:List (Option Nat)}{s:Spc}{p:Int}(hl:s.aF.length=16):Fn Tryz.prog W 88 [ptr bs,.int .i64 p] [cE bs ps s] Nat (fun b=>ptr b) (fun _=>True) (fun b=>[bJ b (Lib.new s p)]):=by
 refine Fn.intro (N:=24) func88 rfl ntmps88 rfl fun F=>?_
 show ar _ _ _ _ _ _ [cE bs ps s,F]
 have hc:0≤aN p 64∧aN p 64≤64:=by unfold aN;omega
 have hrl:s.ready.length≤1000000000:=by have:=ic s.aF 0;show(readyFrom s.aF 0).length≤_;omega
 refine J 8 ?_
 refine .p (.wi rfl rfl) ?_
 refine .p (.fa (Y.mi rfl rfl) (show min (max p 0) 64=aN p 64 from rfl)) ?_
 refine J 4 ?_
 refine .wc [] [0,0,2,0,4,0,4,0] [0,1,2,3,4,5,6,7] rfl (by kernel_rfl) ?_
 refine bH.q rfl rfl rfl Kept.auto (Y.m rfl) ?_
 refine bH.q rfl rfl rfl Kept.auto (Y.m rfl) ?_
 refine bH.eD rfl (.inl rfl) rfl (fun _=>Kept.auto) call130 rfl Fq .auto (fun _ _=>Kept.auto) ?_
 rintro x12 -
 rw[show aN (aN p 64) 64=aN p 64 from by unfold aN;omega]
 refine bH.q rfl rfl rfl Kept.auto (Y.m rfl) ?_
 refine bH.fresh rfl rfl rfl (by decide) Kept.auto (ln (enc:=eZ) (k:=3) ((Value.slice none 0 0:Value),aH.z) (aN p 64).toNat underlying164 typeInfo228 rfl rfl rfl rfl (by decide) (by decide) rfl rfl (by omega) (by omega) (by omega)) ?_
 rintro b14
 refine bH.q rfl rfl rfl Kept.auto (Y.vM (fun v1 v2 v3=>[v1,v2,v3,(.slice none 0 0),(.bool false)]) rfl rfl rfl (by kernel_rfl)) ?_
 refine bH.fresh rfl rfl rfl (by decide) Kept.auto (qH rfl rfl) ?_
 rintro b16
 refine bH.q rfl rfl rfl Kept.auto (Y.a rfl) ?_
 refine bH.nil ?_
 refine J 3 ?_
 refine .to (A:=sl eZ 3 (.slice (some ⟨b14,0,none⟩) (aN p 64).toNat (aN p 64).toNat) (List.replicate (aN p 64).toNat ((Value.slice none 0 0:Value),aH.z))) .auto (sE rfl) ?_
 refine J 2 ?_
 refine .c call58 rfl (l6 hl) fun u19 _=>?_
 refine .c call131 rfl (iC (A:=sl aq 1 u19 s.ready) (Rd.sl .here) hrl) fun u20 _=>?_
 refine J 2 ?_
 refine .aj rfl (af.mC sizeOf165 rfl rfl rfl) ?_
 rintro _ _ ⟨rfl,rfl⟩
 refine J 9 ?_
 refine .aS rfl rfl fun w s=>⟨b16,?_,trivial,ak (by repeat (first | exact aw.nil | (apply aw.cons; · repeat (first | exact Take.here | apply Take.there)) | apply aw.JJ | apply aw.JK | apply aw.void | apply aw.JH | apply aw.two | (apply aw.GD; · exact iw) | (apply aw.allM; · exact fun _=>iw) | apply aw.f1 rfl | apply aw.f2 rfl | apply aw.f3 rfl | apply aw.f4 rfl | apply aw.f10 rfl | apply aw.eX | assumption | exact trivial | rfl | omega | (apply aw.GD; · exact iw) | (focus (simp[Lib.new];done)) | (unfold Lib.new;simp only;apply aw.cons; · repeat (first | exact Take.here | apply Take.there)))) s⟩
 rfl
theorem Fs{W:World}{b bs br:Nat}{l:Lib}{p:Int}(hw:l.waiting.length≤400000000):Fn Tryz.prog W 90 [ptr b,.int .i64 p] [bj b bs br l] Unit (fun _=>.bool (l.dq p).1) (fun _=>True) (fun _=>[bj b bs br (l.dq p).2]):=by
 refine Fn.intro (N:=31) func90 rfl ntmps90 rfl fun F=>?_
 show ar _ _ _ _ _ _ [bj b bs br l,F]
 refine J 10 ?_
 refine .c call132 rfl Iw fun _ _=>?_
 refine J 2 ?_
 apply aR.gY 4 13 9 [9,10,11,12,13] rfl
 ·intro h9
  refine J 2 ?_
  refine .cg call96 rfl kW fun _ _=>?_
  exact JS 2
 ·intro h9
  exact JS 5
 refine JD 2 (fun h13=>?_) fun h13=>?_
 ·simp only[Bool.or_eq_true,Bool.not_eq_true'] at h13
  refine J 7 ?_
  rw[kJ h13]
  exact JR 0 ()
 ·simp only[Bool.or_eq_false_iff,Bool.not_eq_false'] at h13
  refine J 3 ?_
  obtain⟨i,v,rfl,hv,hg⟩:=nC h13.1 h13.2
  rw[hg]
  refine .o2 (C:=bj b bs br l) .auto rfl ?_
  rintro vv vw -
  refine .o1 (C:=cv vv l.vs) .auto rfl ?_
  rintro xs hxs
  have hxl:=au hxs
  obtain⟨x,hx,rfl⟩:=di hxs hv
  have hil:=(List.getElem?_eq_some_iff.1 hx).1
  refine .draw [arr b 0 (mM bs br vv vw l.locked)] [0,0,0,0,0,1,2,0,0,0,0,2,2,1,3] rfl (by kernel_rfl) ?_
  refine J 5 ?_
  refine .p (.fY (fun v1 v2=>[v1,v2,(.int .i64 0)]) rfl rfl (by kernel_rfl)) ?_
  refine .d2 rfl Kept.auto (af.gj 232 rfl rfl (by kernel_rfl)) (by rintro _ _ ⟨b20,rfl,rfl⟩;exact Kept.auto) ?_
  rintro _ _ ⟨b20,rfl,rfl⟩
  refine J 4 ?_
  refine .c2 call134 rfl (uO (A:=seps [arr b20 0 [.int .i64 1,.int .i64 (-1),.int .i64 0],sl cf 3 vw l.waiting]) (xs:=[⟨1, -1,0⟩]) (ys:=l.waiting) (Rd.eX (Rd.lit .here rfl (fun _ _=>rfl) rfl)) (Rd.eX (Rd.sl .auto)) (by simp;omega)) fun u25 _=>?_
  refine .dL .auto ?_
  refine .c2 call133 rfl (oT (A:=sl cf 3 u25 (⟨1, -1,0⟩::l.waiting)) (xs:=⟨1, -1,0⟩::l.waiting) (Rd.sl .here) (by simp;omega)) fun u26 _=>?_
  refine .cM (fun w s=>Rd.isSl (Rd.sl .auto) w s) fun hu26=>?_
  refine .p (.ix i rfl rfl rfl (by omega)) ?_
  refine .d3 rfl (af.mN (x':=(u26,aH.new (⟨1, -1,0⟩::l.waiting))) rfl rfl sizeOf228 (lE hu26) hx rfl rfl .auto) ?_
  rintro _ _ ⟨rfl,rfl⟩
  refine J 4 ?_
  refine .fr .auto (cc (f:=fun x:Value×aH=>sl cf 3 x.1 x.2.evs) hx) ?_
  refine .to (A:=aO (fun x:Value×aH=>sl cf 3 x.1 x.2.evs) (xs.set i (u26,aH.new (⟨1, -1,0⟩::l.waiting)))) .auto (lD (f:=fun x:Value×aH=>sl cf 3 x.1 x.2.evs) (u26,aH.new (⟨1, -1,0⟩::l.waiting)) hx) ?_
  have hms:=map_set hxs i (u26,aH.new (⟨1, -1,0⟩::l.waiting))
  exact JR 12 ()
theorem nk{W:World}{b bs br:Nat}{l:Lib}{A:aa}{m:Value}{ys:List Ev}(hm:Rd W [A] cf 3 m ys)(hl:ys.length≤400000000∧l.waiting.length≤400000000∧l.vs.length≤1000000000∧ ∀ v∈l.vs,v.evs.length≤400000000):Fn Tryz.prog W 136 [ptr b,m] [bj b bs br l,A] Unit (fun _=>.tuple #[]) (fun _=>True) (fun _=>[bj b bs br (l.tell ys),A]):=by
 refine Fn.intro (N:=45) func136 rfl ntmps136 rfl fun F=>?_
 haveI hRI:∀ (H:List aa) [bE H A],aC W H m cf 3 ys:=fun H h=>⟨hm.at h.has⟩
 show ar _ _ _ _ _ _ [bj b bs br l,A,F]
 refine .s (.s (.r (.p (.m rfl) (.p (.Pb rfl rfl) (.p (.m rfl) ?_)))))
 apply aR.gY 4 11 7 [7,8,9,10,11] rfl
 ·intro h7
  refine .g (.m rfl) (.g (.len rfl) (.g (.eql rfl rfl) (.p (.u rfl rfl) (.n ?_))))
  refine .n9 .auto rfl (by first | exact fun _ h=>h | exact aw.kept .auto)
 ·intro h7
  refine .u (.u (.u (.p (.t rfl rfl) (.n ?_))))
  refine .n9 .auto rfl (by first | exact fun _ h=>h | exact aw.kept .auto)
 refine .n (.t (.cond rfl (fun h11=>?_) (fun h11=>?_)))
 ·simp only[Bool.or_eq_true,decide_eq_true_eq] at h11
  refine .e (.tr ?_)
  obtain rfl:ys=[]:=by simpa using h11
  rw[jC]
  refine .LD rfl fun w s=>⟨(),?_,trivial,ak .auto s⟩
  rfl
 ·simp only[Bool.or_eq_false_iff,decide_eq_false_iff_not] at h11
  refine .v (.t (.s (.r (.p (.m rfl) ?_))))
  have hne:ys≠[]:=by simpa using h11
  refine .aj rfl (af.eD rfl call41 rfl (fi hl.2.2.1) .auto) ?_
  rintro _ _ ⟨u13, -,rfl,rfl⟩
  refine .p (.a rfl) (.n (.t (.s (.s (.r (.p (.m rfl) (.p (.len rfl) (.p (.eql rfl rfl) (.n (.t (.da rfl (fun h16=>?_) (fun h16=>?_))))))))))))
  ·refine .s (.r ?_)
   refine .o2 (C:=bj b bs br l) .auto rfl ?_
   rintro vv vw -
   refine .o1 (C:=cv vv l.vs) .auto rfl ?_
   rintro xs hxs
   have hxl:=au hxs
   refine .p (.m rfl) (.p (.m rfl) (.p (.n rfl) (.p (.f rfl) (.p (.l rfl) (.p (.m rfl) ?_)))))
   rw[jm hne (by simpa using h16)]
   refine .aj rfl (af.eD rfl call134 rfl (uO (A:=seps [sl cf 3 vw l.waiting,A]) (xs:=l.waiting) (ys:=ys) (Rd.eX (Rd.sl .here)) (Rd.eX (hm.at (.there .here))) (by omega)) .auto) ?_
   rintro _ _ ⟨u23, -,rfl,rfl⟩
   refine .dL .auto ?_
   refine .p (.n rfl) (.p (.f rfl) ?_)
   refine .aj rfl (af.mC sizeOf165 rfl rfl rfl) ?_
   rintro _ _ ⟨rfl,rfl⟩
   refine .n (.t (.e (.tr (.LD rfl fun w s=>⟨(),?_,trivial,ak .auto s⟩))))
   rfl
  ·refine .v (.t ?_)
   obtain⟨p,r,hp⟩:∃ p r,l.procs=p::r:=by
    cases e:l.procs with
    | nil=>rw[e] at h16;exact absurd rfl h16
    | cons p r=>exact⟨p,r,rfl⟩
   obtain⟨i,v,rfl,hv,hmd⟩:=ig hp
   have hp0:l.procs[0]?=some (i:Int):=by rw[hp];rfl
   rw[jo hne hp hv]
   refine .o2 (C:=bj b bs br l) .auto rfl ?_
   rintro vv vw -
   refine .o1 (C:=cv vv l.vs) .auto rfl ?_
   rintro xs hxs
   have hxl:=au hxs
   obtain⟨x,hx,rfl⟩:=di hxs hv
   have hil:=(List.getElem?_eq_some_iff.1 hx).1
   refine .fr .auto (cc (f:=fun x:Value×aH=>sl cf 3 x.1 x.2.evs) hx) ?_
   have hel:=hl.2.2.2 x.2 (List.mem_of_getElem? hv)
   refine .draw [arr b 0 (mM bs br vv vw l.locked),sl aq 1 u13 l.procs] [0,0,0,0,0,0,0,1,1,1,1,1,1,1,1,1,1,2,1,3] rfl (by kernel_rfl) ?_
   refine .q (.m rfl) (.q (.n rfl) (.q (.f rfl) (.q (.l rfl) (.q (.m rfl) ?_))))
   refine .q (.ix 0 rfl rfl rfl (by rw[hp];simp)) ?_
   refine .q (.lr rfl hp0) ?_
   refine .p (.m rfl) (.p (.n rfl) (.p (.f rfl) (.p (.l rfl) (.p (.m rfl) ?_))))
   refine .p (.ix 0 rfl rfl rfl (by rw[hp];simp)) ?_
   refine .p (.lr rfl hp0) ?_
   refine .p (.ix i rfl rfl rfl (by omega)) ?_
   refine .p (.la rfl (Cells.rd Rd.s ‹_›)) ?_
   refine .p (.m rfl) ?_
   refine .d2 rfl Kept.auto (af.eD rfl call146 rfl (sa (A:=seps [sl cf 3 x.1 x.2.evs,A]) (u:=x.1) (x:=x.2) (m:=m) (ys:=ys) (Rd.eX (Rd.sl .here)) (Rd.eX (hm.at (.there .here))) (by omega)) .auto) (by rintro _ _ ⟨u43, -,rfl,rfl⟩;exact Kept.auto) ?_
   rintro _ _ ⟨u43, -,rfl,rfl⟩
   refine .cM (fun w s=>Rd.isSl (Rd.sl .auto) w s) fun hu43=>?_
   refine .dL .auto ?_
   refine .p (.ix i rfl rfl rfl (by omega)) ?_
   refine .d3 rfl (af.mN (x':=(u43,x.2.told ys)) rfl rfl sizeOf228 (lE hu43) hx rfl rfl .auto) ?_
   rintro _ _ ⟨rfl,rfl⟩
   refine .n ?_
   refine .to (A:=aO (fun x:Value×aH=>sl cf 3 x.1 x.2.evs) (xs.set i (u43,x.2.told ys))) .auto (lD (f:=fun x:Value×aH=>sl cf 3 x.1 x.2.evs) (u43,x.2.told ys) hx) ?_
   have hms:=map_set hxs i (u43,x.2.told ys)
   refine .xR rfl fun w s=>⟨(),?_,trivial,ak .auto s⟩
   rfl
theorem Cu{W:World}{b bs br:Nat}{l:Lib}{p:Int}(hl:l.waiting.length≤400000000∧l.vs.length≤1000000000∧ ∀ v∈l.vs,v.evs.length≤300000000):Fn Tryz.prog W 92 [ptr b,.int .i64 p] [bj b bs br l] Unit (fun _=>.bool (l.cI p).1) (fun _=>True) (fun _=>[bj b bs br (l.cI p).2]):=by
 refine Fn.intro (N:=28) func92 rfl ntmps92 rfl fun F=>?_
 show ar _ _ _ _ _ _ [bj b bs br l,F]
 refine J 10 ?_
 refine .c call96 rfl kW fun _ _=>?_
 refine JD 3 (fun h9=>?_) fun h9=>?_
 ·refine J 7 ?_
  rw[Bool.not_eq_true'] at h9
  rw[jq h9]
  exact JR 0 ()
 ·refine J 4 ?_
  rw[Bool.not_eq_false'] at h9
  obtain⟨i,v,rfl,hv⟩:=lF (qK h9)
  rw[ij h9 hv]
  refine .o2 (C:=bj b bs br l) .auto rfl ?_
  rintro vv vw -
  refine .o1 (C:=cv vv l.vs) .auto rfl ?_
  rintro xs hxs
  have hxl:=au hxs
  obtain⟨x,hx,rfl⟩:=di hxs hv
  have hil:=(List.getElem?_eq_some_iff.1 hx).1
  refine .fr .auto (cc (f:=fun x:Value×aH=>sl cf 3 x.1 x.2.evs) hx) ?_
  have hel:=hl.2.2 x.2 (List.mem_of_getElem? hv)
  have hsl:=nB x.2
  refine J 5 ?_
  refine .p (.ix i rfl rfl rfl (by omega)) ?_
  refine J 1 ?_
  refine .c call135 rfl (qo (A:=sl cf 3 x.1 x.2.evs) (u:=x.1) (x:=x.2) (Rd.sl .here) (by omega)) fun u17 _=>?_
  refine J 10 ?_
  refine .p (.mq ([(.int .i64 0),(.int .i64 0),(.slice none 0 0)]) (by kernel_rfl)) ?_
  refine .p (.ix i rfl rfl rfl (by omega)) ?_
  refine .aj rfl (af.mN (x':=((Value.slice none 0 0:Value),aH.z)) rfl rfl sizeOf228 rfl hx rfl rfl .auto) ?_
  rintro _ _ ⟨rfl,rfl⟩
  refine J 4 ?_
  refine .to (A:=aO (fun x:Value×aH=>sl cf 3 x.1 x.2.evs) (xs.set i ((Value.slice none 0 0:Value),aH.z))) .auto (lD (f:=fun x:Value×aH=>sl cf 3 x.1 x.2.evs) ((Value.slice none 0 0:Value),aH.z) hx) ?_
  have hms:=map_set hxs i ((Value.slice none 0 0:Value),aH.z)
  refine J 2 ?_
  refine .aj rfl (af.eD rfl call136 rfl (nk (l:={l with vs:=l.vs.set i aH.z }) (A:=sl cf 3 u17 x.2.strip) (Rd.sl .here) ⟨by omega,hl.1,by show(l.vs.set i aH.z).length≤_;rw[List.length_set];exact hl.2.1,fun v hv=>by
   rcases List.mem_or_eq_of_mem_set hv with h | h
   ·exact Nat.le_trans (hl.2.2 v h) (by omega)
   ·subst h;exact Nat.zero_le _⟩) .auto) ?_
  rintro _ _ ⟨⟨⟩, -,rfl,rfl⟩
  exact JR 8 ()
end Go.SLYtpbjdoplfgeliaaGreat
namespace Go.SLYtpbjdoplfgeliaaGreat
open Go Go.RowKit Go.Proofs Go.Proofs.Tryz
attribute [local irreducible] ar aR bm bA bH Y
theorem Ix{W:World}{b bs br:Nat}{l:Lib}:Fn Tryz.prog W 103 [ptr b] [bj b bs br l] Unit (fun _=>ptr br) (fun _=>True) (fun _=>[bj b bs br l]):=by
 refine Fn.intro (N:=9) func103 rfl ntmps103 rfl fun F=>?_
 show ar _ _ _ _ _ _ [bj b bs br l,F]
 refine J 12 ?_
 refine .ep rfl ?_
 refine J 4 ?_
 refine .o2 (C:=bj b bs br l) .auto rfl ?_
 rintro vv vw -
 exact JR 8 ()
theorem sd{W:World}{b bs br:Nat}{l:Lib}(hl:l.waiting.length≤1000000000):Fn Tryz.prog W 107 [ptr b] [bj b bs br l] Value (fun u=>u) (fun _=>True) (fun u=>[sl cf 3 u l.waiting,bj b bs br l]):=by
 refine Fn.intro (N:=11) func107 rfl ntmps107 rfl fun F=>?_
 show ar _ _ _ _ _ _ [bj b bs br l,F]
 refine J 12 ?_
 refine .ep rfl ?_
 refine J 4 ?_
 refine .o2 (C:=bj b bs br l) .auto rfl ?_
 rintro vv vw -
 refine J 4 ?_
 refine .c call153 rfl (rp (A:=sl cf 3 vw l.waiting) (Rd.sl .here) hl) fun u9 _=>?_
 refine .c call152 rfl Lm fun u10 _=>?_
 refine J 4 ?_
 refine .aS rfl rfl fun w s=>⟨_,?_,trivial,ak .auto s⟩
 rfl
theorem xp{W:World}{b:Nat}{l:List Int}(hl:l.length≤1000000000):Fn Tryz.prog W 150 [ptr b] [fu b l] Value (fun u=>u) (fun _=>True) (fun u=>[sl aq 1 u l,fu b l]):=by
 refine Fn.intro (N:=11) func150 rfl ntmps150 rfl fun F=>?_
 show ar _ _ _ _ _ _ [fu b l,F]
 refine J 12 ?_
 refine .ep rfl ?_
 refine J 4 ?_
 refine .o1 (C:=fu b l) .auto rfl ?_
 rintro v -
 refine J 4 ?_
 refine .c call197 rfl (My (A:=sl aq 1 v l) (Rd.sl .here) hl) fun u9 _=>?_
 refine .c call196 rfl NK fun u10 _=>?_
 refine J 4 ?_
 refine .aS rfl rfl fun w s=>⟨_,?_,trivial,ak .auto s⟩
 rfl
theorem Iy{W:World}{b bs br:Nat}{l:Lib}{p:Int}(hl:∀ v∈l.vs,v.evs.length≤1000000000):Fn Tryz.prog W 148 [ptr b,.int .i64 p] [bj b bs br l] Value (fun u=>.tuple #[.agg (eZ (u,eN l p)).toArray,.bool (l.has p)]) (fun _=>True) (fun u=>[sl cf 3 u (eN l p).evs,bj b bs br l]):=by
 refine Fn.intro (N:=25) func148 rfl ntmps148 rfl fun F=>?_
 show ar _ _ _ _ _ _ [bj b bs br l,F]
 refine J 2 ?_
 refine .aj rfl (af.alloc rfl zeroValue228 rfl) ?_
 rintro _ _ ⟨b4,rfl,rfl⟩
 refine J 8 ?_
 refine .c call96 rfl kW fun _ _=>?_
 refine JD 3 (fun h10=>?_) fun h10=>?_
 ·rw[Bool.not_eq_true'] at h10
  rw[Kj h10,h10]
  refine J 2 ?_
  refine .p (.mq ([(.int .i64 0),(.int .i64 0),(.slice none 0 0)]) (by kernel_rfl)) ?_
  refine J 6 ?_
  refine .eQ rfl rfl isAgg228 (by exact sizeOf228) Cells.a rfl fun w s=>⟨.slice none 0 0,?_,trivial,ak .auto s⟩
  rfl
 ·rw[Bool.not_eq_false'] at h10
  obtain⟨i,v,rfl,hv⟩:=lF (qK h10)
  rw[uD h10 hv,h10]
  refine .o2 (C:=bj b bs br l) .auto rfl ?_
  rintro vv vw -
  refine .o1 (C:=cv vv l.vs) .auto rfl ?_
  rintro xs hxs
  have hxl:=au hxs
  obtain⟨x,hx,rfl⟩:=di hxs hv
  have hil:=(List.getElem?_eq_some_iff.1 hx).1
  refine J 9 ?_
  refine .p (.ix i rfl rfl rfl (by omega)) ?_
  refine .p (.la rfl (Cells.rd Rd.s hx)) ?_
  refine .fr .auto (cc (f:=fun x:Value×aH=>sl cf 3 x.1 x.2.evs) hx) ?_
  refine .cM (fun w s=>Rd.isSl (Rd.sl .here) w s) fun hu0=>?_
  have hone:=lE (x:=x.2) hu0
  refine .aj rfl (af.alloc rfl zeroValue228 rfl) ?_
  rintro _ _ ⟨b6,rfl,rfl⟩
  refine .aj rfl (af.Jr (by exact sizeOf228) rfl rfl hone rfl) ?_
  rintro _ _ ⟨rfl,rfl⟩
  refine J 6 ?_
  refine .c call153 rfl (rp (A:=sl cf 3 x.1 x.2.evs) (xs:=x.2.evs) (Rd.sl .here) (hl x.2 (List.mem_of_getElem? hv))) fun u21 _=>?_
  refine .c call152 rfl Lm fun u22 _=>?_
  refine .cM (fun w s=>Rd.isSl (Rd.sl .auto) w s) fun hu22=>?_
  refine .to (A:=aO (fun x:Value×aH=>sl cf 3 x.1 x.2.evs) xs) .auto (cC (f:=fun x:Value×aH=>sl cf 3 x.1 x.2.evs) hx) ?_
  refine J 1 ?_
  refine .aj rfl (af.mC sizeOf165 rfl rfl rfl) ?_
  rintro _ _ ⟨rfl,rfl⟩
  refine J 5 ?_
  refine .aj rfl (af.Jr (by exact sizeOf228) rfl rfl (lE hu22) rfl) ?_
  rintro _ _ ⟨rfl,rfl⟩
  refine J 4 ?_
  refine .eQ rfl rfl isAgg228 (by exact sizeOf228) Cells.a rfl fun w s=>⟨_,?_,trivial,ak .auto s⟩
  rfl
theorem l8{W:World}{A:aa}{v:Value}{xs:List Ev}{slot:Int}(hr:Rd W [A] cf 3 v xs)(hl:xs.length≤1000000000):Fn Tryz.prog W 106 [v,.int .i64 slot] [A] Unit (fun _=>.int .i64 (jc xs slot:Int)) (fun _=>True) (fun _=>[A]):=by
 refine Fn.intro (N:=37) func106 rfl ntmps106 rfl fun F=>?_
 haveI hRI:∀ (H:List aa) [bE H A],aC W H v cf 3 xs:=fun H h=>⟨hr.at h.has⟩
 show ar _ _ _ _ _ _ [A,F]
 refine J 19 ?_
 refine .aZ (X:=Nat×Nat) [5,7,8,9,12,13,14,15,16,17,18,19,20,21,22,23,24,25,26,27,28,29,30,31,32,33,34,35] (fun z=>xs.length-z.1) (fun z=>z.1≤xs.length∧z.2≤z.1∧z.2=jc (xs.take z.1) slot) (fun z=>[(12,some (.int .i64 (z.1:Int))),(5,some (.int .i64 (z.2:Int)))]) (fun z=>[A,F]) (0,0) ?_ ?_ ?_ ?_
 ·exact⟨Nat.zero_le _,Nat.le_refl _,rfl⟩
 ·exact⟨rfl,rfl,trivial⟩
 ·exact fun w s=>aw.kept .auto w s
 rintro⟨k,c⟩ ⟨hk,hck,hc⟩
 simp only at hk hck hc
 refine JD 6 (fun h13=>?_) fun h13=>?_
 ·refine J 6 ?_
  obtain⟨e,hx⟩:=ai (show k<xs.length by omega)
  refine J 2 ?_
  refine .aj rfl (af.alloc rfl zeroValue232 rfl) ?_
  rintro _ _ ⟨b7,rfl,rfl⟩
  refine J 6 ?_
  refine .c call151 rfl oS fun _ _=>?_
  refine J 14 ?_
  apply aR.gz 7 32 25 [25,26,27,28,29,30,31,32] rfl
  ·intro h25
   refine J 2 ?_
   apply aR.gY 4 31 27 [27,28,29,30,31] rfl
   ·intro h27
    refine J 5 ?_
    refine .n9 .auto rfl (by first | exact fun _ h=>h | exact aw.kept .auto)
   ·intro h27
    refine J 5 ?_
    refine .n9 .auto rfl (by first | exact fun _ h=>h | exact aw.kept .auto)
   refine J 2 ?_
   refine .n9 .auto rfl (by first | exact fun _ h=>h | exact aw.kept .auto)
  ·intro h25
   refine J 8 ?_
   refine .n9 .auto rfl (by first | exact fun _ h=>h | exact aw.kept .auto)
  refine JD 2 (fun h32=>?_) fun h32=>?_
  ·refine J 2 ?_
   refine .p (.fa (Y.add rfl rfl (by dsimp only;omega)) (show(c:Int)+1=((c+1:Nat):Int) from by omega)) ?_
   refine J 8 ?_
   refine .ax (k+1,c+1) .auto rfl ?_ ?_ ?_ ?_
   ·show xs.length-(k+1)<xs.length-k;omega
   ·exact⟨by show k+1≤_;omega,by show c+1≤k+1;omega,by rw[HU hx h32, ← hc]⟩
   ·exact⟨rfl,rfl,trivial⟩
   ·exact fun w s=>aw.kept .auto w s
  ·refine J 7 ?_
   refine .ax (k+1,c) .auto rfl ?_ ?_ ?_ ?_
   ·show xs.length-(k+1)<xs.length-k;omega
   ·exact⟨by show k+1≤_;omega,by show c≤k+1;omega,by rw[Ki hx h32, ← hc]⟩
   ·exact⟨rfl,rfl,trivial⟩
   ·exact fun w s=>aw.kept .auto w s
 ·obtain rfl:k=xs.length:=by omega
  rw[List.take_length] at hc
  subst hc
  exact JR 12 ()
theorem uR{W:World}{b:Nat}{rs:List (List Int)}{t:Int}(hl:rs.length≤64∧ ∀ r∈rs,r.length≤1000000000):Fn Tryz.prog W 104 [ptr b,.int .i64 t] [ga b rs] Unit (fun _=>.tuple #[.int .i64 (whereFrom t rs 0).1,.bool (whereFrom t rs 0).2]) (fun _=>True) (fun _=>[ga b rs]):=by
 refine Fn.intro (N:=35) func104 rfl ntmps104 rfl fun F=>?_
 show ar _ _ _ _ _ _ [ga b rs,F]
 refine .o2 (C:=ga b rs) .auto rfl ?_
 rintro v xs hxs
 have hxl:=au hxs
 refine J 13 ?_
 refine .ep rfl ?_
 refine J 14 ?_
 refine .aZ (X:=Nat) [4,5,6,7,9,17,18,19,20,21,22,23,24,25,26,27,28,29,30,31,32,33,34] (fun z=>rs.length-z) (fun z=>z≤rs.length∧whereFrom t rs 0=whereFrom t (rs.drop z) z) (fun z=>[(17,some (.int .i64 (z:Int)))]) (fun z=>[arr b 0 [v],sl cP 1 v xs,aO (fun x:Nat×List Int=>fu x.1 x.2) xs,F]) 0 ?_ ?_ ?_ ?_
 ·exact⟨Nat.zero_le _,by rw[List.drop_zero]⟩
 ·exact⟨rfl,trivial⟩
 ·exact fun w s=>aw.kept .auto w s
 rintro n ⟨hn,hw⟩
 refine JD 6 (fun h18=>?_) fun h18=>?_
 ·refine J 6 ?_
  obtain⟨x,hx⟩:=ai (show n<xs.length by omega)
  have hx2:=eU hxs hx
  have hxl2:=hl.2 x.2 (List.mem_of_getElem? hx2)
  refine J 9 ?_
  refine .fr .auto (cc (f:=fun x:Nat×List Int=>fu x.1 x.2) hx) ?_
  refine J 1 ?_
  refine .c call150 rfl (xp (l:=x.2) (hl.2 x.2 (List.mem_of_getElem? hx2))) fun u23 _=>?_
  refine .to (A:=aO (fun x:Nat×List Int=>fu x.1 x.2) xs) .auto (cC (f:=fun x:Nat×List Int=>fu x.1 x.2) hx) ?_
  refine J 5 ?_
  refine .aZ (X:=Nat) [4,5,9,25,26,27,28,29,30,31,32,33] (fun z=>x.2.length-z) (fun z=>z≤x.2.length∧t ∉ x.2.take z) (fun z=>[(25,some (.int .i64 (z:Int)))]) (fun z=>[sl aq 1 u23 x.2,arr b 0 [v],sl cP 1 v xs,aO (fun x:Nat×List Int=>fu x.1 x.2) xs,F]) 0 ?_ ?_ ?_ ?_
  ·exact⟨Nat.zero_le _,by simp⟩
  ·exact⟨rfl,trivial⟩
  ·exact fun w s=>aw.kept .auto w s
  rintro j ⟨hj,hjt⟩
  refine JD 6 (fun h26=>?_) fun h26=>?_
  ·refine J 6 ?_
   obtain⟨y,hy⟩:=ai (show j<x.2.length by omega)
   refine J 1 ?_
   refine .p (.lr rfl hy) ?_
   refine JD 10 (fun h31=>?_) fun h31=>?_
   ·rw[hw,E4 hx2 (by rw[← h31];exact List.mem_of_getElem? hy)]
    exact JR 17 ()
   ·refine J 7 ?_
    refine .ax (j+1) .auto rfl ?_ ?_ ?_ ?_
    ·omega
    ·exact⟨by omega,by rw[aW hy,List.mem_append];rintro(h | h);exact hjt h;exact h31 (List.mem_singleton.1 h).symm⟩
    ·exact⟨rfl,trivial⟩
    ·exact fun w s=>aw.kept .auto w s
  ·obtain rfl:j=x.2.length:=by omega
   rw[List.take_length] at hjt
   refine J 10 ?_
   refine .ax (n+1) .auto rfl ?_ ?_ ?_ ?_
   ·omega
   ·exact⟨by omega,by rw[hw,HV hx2 hjt]⟩
   ·exact⟨rfl,trivial⟩
   ·exact fun w s=>aw.kept .auto w s
 ·obtain rfl:n=rs.length:=by omega
  rw[hw,E5 (Nat.le_refl _)]
  exact JR 12 ()
theorem jt{W:World}{b n:Nat}{slot kind at_:Int}{v:Value}{ys:List HT}(hl:ys.length+n≤1000000000):Fn Tryz.prog W 105 [ptr b,.int .i64 (n:Int),.int .i64 kind,.int .i64 at_] [arr b 0 [.int .i64 slot,v],sl rb 2 v ys] Value (fun _=>.tuple #[]) (fun _=>True) (fun u=>[arr b 0 [.int .i64 slot,u],sl rb 2 u (ys++List.replicate n ⟨kind,at_⟩)]):=by
 refine Fn.intro (N:=24) func105 rfl ntmps105 rfl fun F=>?_
 show ar _ _ _ _ _ _ [arr b 0 [.int .i64 slot,v],sl rb 2 v ys,F]
 refine J 7 ?_
 refine .aZ (X:=Nat×Value) [9,10,11,12,13,14,15,16,17,18,19,20,21,22,23] (fun z=>n-z.1) (fun z=>z.1≤n) (fun z=>[(9,some (.int .i64 (z.1:Int)))]) (fun z=>[arr b 0 [.int .i64 slot,z.2],sl rb 2 z.2 (ys++List.replicate z.1 ⟨kind,at_⟩),F]) (0,v) ?_ ?_ ?_ ?_
 ·exact Nat.zero_le _
 ·exact⟨rfl,trivial⟩
 ·show ∀ w,Sat _ w _→Sat _ w (seps [_,sl rb 2 v (ys++[]),F])
  rw[List.append_nil]
  exact fun w s=>aw.kept .auto w s
 rintro⟨j,u⟩ hj
 simp only at hj
 refine JD 6 (fun h10=>?_) fun h10=>?_
 ·refine J 12 ?_
  refine .p (.fY (fun v1 v2=>[v1,v2]) rfl rfl (by kernel_rfl)) ?_
  refine .aj rfl (af.gj 254 rfl rfl (by kernel_rfl)) ?_
  rintro _ _ ⟨b19,rfl,rfl⟩
  refine .aj rfl (af.fV (enc:=rb) (k:=2) (⟨kind,at_⟩:HT) rfl underlying108 underlying108 typeInfo254 rfl rfl rfl (by decide) rfl rfl rfl .auto rfl .auto (by rw[List.length_append,List.length_replicate];omega) rfl) ?_
  rintro _ _ ⟨v20,rfl,rfl⟩
  refine J 2 ?_
  refine .aj rfl (af.mC sizeOf108 rfl rfl rfl) ?_
  rintro _ _ ⟨rfl,rfl⟩
  refine J 7 ?_
  refine .ax (j+1,v20) .auto rfl ?_ ?_ ?_ ?_
  ·show n-(j+1)<n-j;omega
  ·show j+1≤n;omega
  ·exact⟨rfl,trivial⟩
  ·show ∀ w,Sat _ w _→Sat _ w (seps [_,sl rb 2 v20 (ys++List.replicate (j+1) ⟨kind,at_⟩),F])
   rw[List.replicate_succ', ← List.append_assoc]
   exact fun w s=>aw.kept .auto w s
 ·obtain rfl:n=j:=by omega
  refine J 4 ?_
  refine .xR rfl fun w s=>⟨_,?_,trivial,ak .auto s⟩
  rfl
theorem Cv{W:World}{b c bs br:Nat}{slot p:Int}{v:Value}{ys:List HT}{l:Lib}(hl:∀ v∈l.vs,v.evs.length≤300000000)(hy:ys.length≤600000000):Fn Tryz.prog W 102 [ptr b,ptr c,.int .i64 p] [arr b 0 [.int .i64 slot,v],sl rb 2 v ys,bj c bs br l] Value (fun _=>.tuple #[]) (fun _=>True) (fun u=>[arr b 0 [.int .i64 slot,u],sl rb 2 u (ys++df l slot p),bj c bs br l]):=by
 refine Fn.intro (N:=43) func102 rfl ntmps102 rfl fun F=>?_
 show ar _ _ _ _ _ _ [arr b 0 [.int .i64 slot,v],sl rb 2 v ys,bj c bs br l,F]
 have hle:=DO hl p
 have htl:=yS (eN l p).evs slot
 refine J 4 ?_
 refine .c call148 rfl (Iy (b:=c) (l:=l) (p:=p) (fun v hv=>Nat.le_trans (hl v hv) (by decide))) fun u13 _=>?_
 refine .cM (fun w s=>Rd.isSl (Rd.sl .auto) w s) fun hu13=>?_
 refine J 3 ?_
 refine .aj rfl (af.alloc rfl zeroValue228 rfl) ?_
 rintro _ _ ⟨b6,rfl,rfl⟩
 refine .aj rfl (af.Jr (by exact sizeOf228) rfl rfl (lE hu13) rfl) ?_
 rintro _ _ ⟨rfl,rfl⟩
 refine J 7 ?_
 refine .c call149 rfl (r8 (x:=eN l p) hu13) fun _ _=>?_
 refine J 11 ?_
 apply aR.gq 7 29 22 [22,23,24,25,26,27,28,29] rfl
 ·intro h22
  exact JS 8
 ·intro h22
  exact JS 8
 refine JD 2 (fun h29=>?_) fun h29=>?_
 ·refine J 3 ?_
  refine .c call105 rfl (jt (n:=1) (ys:=ys) (by omega)) fun u32 _=>?_
  refine J 2 ?_
  refine .draw [arr b 0 [.int .i64 slot,u32]] [0,1,1,1,1,1,1,2,0,3] rfl (by kernel_rfl) ?_
  refine J 7 ?_
  refine .c2 call106 rfl (l8 (A:=sl cf 3 u13 (eN l p).evs) (Rd.sl .here) (by omega)) fun _ _=>?_
  refine J 1 ?_
  refine .c call105 rfl (jt (ys:=ys++List.replicate 1 ⟨1,p⟩) (by simp;omega)) fun u42 _=>?_
  refine J 1 ?_
  rw[Kk h29]
  refine .xR rfl fun w s=>⟨_,?_,trivial,ak .auto s⟩
  rfl
 ·refine J 2 ?_
  refine .draw [arr b 0 [.int .i64 slot,v]] [0,1,1,1,1,1,1,2,0,3] rfl (by kernel_rfl) ?_
  refine J 7 ?_
  refine .c2 call106 rfl (l8 (A:=sl cf 3 u13 (eN l p).evs) (Rd.sl .here) (by omega)) fun _ _=>?_
  refine J 1 ?_
  refine .c call105 rfl (jt (ys:=ys) (by omega)) fun u42 _=>?_
  refine J 1 ?_
  rw[Mv h29]
  refine .xR rfl fun w s=>⟨_,?_,trivial,ak .auto s⟩
  rfl
end Go.SLYtpbjdoplfgeliaaGreat
