/- Walks of functions, and what they compute. Conditions: none, this text proves no statement. -/
import Derived.Test.YthlllpngkljgfaaGreatG07
import Derived.Test.YthlllpngkljgfaaGreatProg
import Derived.KernelRfl
import Derived.Test.YthlllpngkljgfaaGreatG03
import Derived.Test.YthlllpngkljgfaaGreatG06
import Derived.Test.YthlllpngkljgfaaGreatG04
set_option maxRecDepth 20000
set_option maxHeartbeats 4000000
namespace Go.SLYthlllpngkljgfaaGreat
open Go Go.RowKit Go.Proofs Go.Proofs.Tryz
attribute [local irreducible] ar aM bm bA bE Y
theorem qt{W:World}{u:Value}{x:aH}:Fn Tryz.prog W 148 [.agg (eA (u,x)).toArray] [] Unit (fun _=>.bool x.holds) (fun _=>True) (fun _=>[]):=by
 refine Fn.intro (N:=16) func148 rfl ntmps148 rfl fun F=>?_
 show ar _ _ _ _ _ _ [F]
 refine J 2 ?_
 refine .ai rfl (ae.box rfl rfl rfl) ?_
 rintro _ _ ⟨b1,rfl,rfl⟩
 refine J 9 ?_
 apply aM.eO 4 10 6 [6,7,8,9,10] rfl
 ·intro h6
  exact JS 5
 ·intro h6
  exact JS 5
 refine J 1 ?_
 apply aM.fA 4 15 11 [11,12,13,14,15] rfl
 ·intro h11
  exact JS 5
 ·intro h11
  exact JS 5
 exact JR 4 ()
theorem rZ{W:World}{u:Value}{x:aH}(_hu:isSl u=true):Fn Tryz.prog W 147 [.agg (eA (u,x)).toArray] [] Unit (fun _=>.tuple #[.int .i64 (mL x),.bool x.runs]) (fun _=>True) (fun _=>[]):=by
 refine Fn.intro (N:=24) func147 rfl ntmps147 rfl fun F=>?_
 show ar _ _ _ _ _ _ [F]
 refine J 2 ?_
 refine .ai rfl (ae.box rfl rfl rfl) ?_
 rintro _ _ ⟨b1,rfl,rfl⟩
 refine J 11 ?_
 apply aM.eb 4 11 7 [7,8,9,10,11] rfl
 ·intro h7
  exact JS 5
 ·intro h7
  exact JS 5
 refine J 1 ?_
 apply aM.fI 4 16 12 [12,13,14,15,16] rfl
 ·intro h12
  exact JS 5
 ·intro h12
  exact JS 5
 refine J 1 ?_
 apply aM.fA 4 21 17 [17,18,19,20,21] rfl
 ·intro h17
  exact JS 5
 ·intro h17
  exact JS 5
 refine JD 2 (fun h21=>?_) fun h21=>?_
 ·simp only[Bool.and_eq_true,Bool.or_eq_true,decide_eq_true_eq] at h21
  refine J 8 ?_
  refine .fk rfl rfl rfl fun w s=>⟨(),?_,trivial,aj .auto s⟩
  have e:x.runs=false:=by unfold aH.runs;simp;omega
  rw[mL,e];rfl
 ·simp only[Bool.and_eq_false_iff,Bool.or_eq_false_iff,decide_eq_false_iff_not] at h21
  refine J 11 ?_
  refine .fk rfl rfl rfl fun w s=>⟨(),?_,trivial,aj .auto s⟩
  have e:x.runs=true:=by unfold aH.runs;simp;omega
  rw[mL,e];rfl
theorem oO{W:World}{e:Ev}:Fn Tryz.prog W 140 [.agg (bP e).toArray] [] Unit (fun _=>.tuple #[.int .i64 (MC e),.bool (dG e)]) (fun _=>True) (fun _=>[]):=by
 refine Fn.intro (N:=24) func140 rfl ntmps140 rfl fun F=>?_
 show ar _ _ _ _ _ _ [F]
 refine J 2 ?_
 refine .ai rfl (ae.box rfl rfl rfl) ?_
 rintro _ _ ⟨b1,rfl,rfl⟩
 refine J 11 ?_
 apply aM.eO 4 11 7 [7,8,9,10,11] rfl
 ·intro h7
  refine J 5 ?_
  refine .eu .auto rfl (by first | exact fun _ h=>h | exact aq.kept .auto)
 ·intro h7
  refine J 5 ?_
  refine .eu .auto rfl (by first | exact fun _ h=>h | exact aq.kept .auto)
 refine J 1 ?_
 apply aM.fA 9 21 12 [12,13,14,15,16,17,18,19,20,21] rfl
 ·intro h12
  refine J 4 ?_
  apply aM.eb 4 20 16 [16,17,18,19,20] rfl
  ·intro h16
   refine J 5 ?_
   refine .eu .auto rfl (by first | exact fun _ h=>h | exact aq.kept .auto)
  ·intro h16
   refine J 5 ?_
   refine .eu .auto rfl (by first | exact fun _ h=>h | exact aq.kept .auto)
  refine J 2 ?_
  refine .eu .auto rfl (by first | exact fun _ h=>h | exact aq.kept .auto)
 ·intro h12
  refine J 10 ?_
  refine .eu .auto rfl (by first | exact fun _ h=>h | exact aq.kept .auto)
 refine JD 2 (fun h21=>?_) fun h21=>?_
 ·simp only[Bool.and_eq_true,Bool.or_eq_true,decide_eq_true_eq] at h21
  refine J 8 ?_
  refine .fk rfl rfl rfl fun w s=>⟨(),?_,trivial,aj .auto s⟩
  have h:dG e=false:=by unfold dG;simp;omega
  rw[MC,h];rfl
 ·simp only[Bool.and_eq_false_iff,Bool.or_eq_false_iff,decide_eq_false_iff_not] at h21
  refine J 11 ?_
  refine .fk rfl rfl rfl fun w s=>⟨(),?_,trivial,aj .auto s⟩
  have h:dG e=true:=by unfold dG;simp;omega
  rw[MC,h];rfl
theorem lX{W:World}{A:aa}{v:Value}{xs:List Ev}(hr:Rd W [A] bP 3 v xs)(hl:xs.length≤1000000000):Fn Tryz.prog W 149 [v] [A] Value (fun u=>u) (fun _=>True) (fun u=>[sl bP 3 u (da xs),A]):=by
 refine Fn.intro (N:=31) func149 rfl ntmps149 rfl fun F=>?_
 haveI hRI:∀ (H:List aa) [bj H A],ax W H v bP 3 xs:=fun H h=>⟨hr.at h.has⟩
 show ar _ _ _ _ _ _ [A,F]
 refine J 19 ?_
 refine .aX (X:=Nat×Value) [3,5,6,7,10,11,12,13,14,15,16,17,18,19,20,21,22,23,24,25,26,27,28,29] (fun z=>xs.length-z.1) (fun z=>z.1≤xs.length) (fun z=>[(10,some (.int .i64 (z.1:Int))),(3,some z.2)]) (fun z=>[sl bP 3 z.2 (da (xs.take z.1)),A,F]) (0,.slice none 0 0) ?_ ?_ ?_ ?_
 ·exact Nat.zero_le _
 ·exact⟨rfl,rfl,trivial⟩
 ·exact fun w s=>aq.kept .auto w s
 rintro⟨k,u⟩ hk
 simp only at hk
 have hkl:=D8 xs k
 refine JD 6 (fun h11=>?_) fun h11=>?_
 ·refine J 6 ?_
  obtain⟨e,hx⟩:=ak (show k<xs.length by omega)
  refine J 2 ?_
  refine .ai rfl (ae.alloc rfl zeroValue87 rfl) ?_
  rintro _ _ ⟨b5,rfl,rfl⟩
  refine J 6 ?_
  refine .c call140 rfl oO fun _ _=>?_
  refine J 11 ?_
  apply aM.fA 4 24 20 [20,21,22,23,24] rfl
  ·intro h20
   exact JS 5
  ·intro h20
   exact JS 5
  refine JD 2 (fun h24=>?_) fun h24=>?_
  ·simp only[Bool.or_eq_true,decide_eq_true_eq] at h24
   refine J 3 ?_
   refine .ai rfl (ae.gC 87 rfl rfl (by kernel_rfl)) ?_
   rintro _ _ ⟨b27,rfl,rfl⟩
   refine .ai rfl (ae.gh (enc:=bP) (k:=3) e rfl underlying75 underlying75 typeInfo87 rfl rfl rfl (by decide) rfl rfl rfl .auto rfl .auto (by first | omega | (dsimp only;omega)) rfl) ?_
   rintro _ _ ⟨v28,rfl,rfl⟩
   refine J 8 ?_
   refine .aw (k+1,v28) .auto rfl ?_ ?_ ?_ ?_
   ·show xs.length-(k+1)<xs.length-k;omega
   ·show k+1≤_;omega
   ·exact⟨rfl,rfl,trivial⟩
   ·show ∀ w,Sat _ w _→Sat _ w (seps [sl bP 3 v28 (da (xs.take (k+1))),A,F])
    rw[Gt hx h24]
    exact fun w s=>aq.kept .auto w s
  ·simp only[Bool.or_eq_false_iff,decide_eq_false_iff_not] at h24
   refine J 7 ?_
   refine .aw (k+1,u) .auto rfl ?_ ?_ ?_ ?_
   ·show xs.length-(k+1)<xs.length-k;omega
   ·show k+1≤_;omega
   ·exact⟨rfl,rfl,trivial⟩
   ·show ∀ w,Sat _ w _→Sat _ w (seps [sl bP 3 u (da (xs.take (k+1))),A,F])
    rw[Je hx h24]
    exact fun w s=>aq.kept .auto w s
 ·refine J 12 ?_
  obtain rfl:k=xs.length:=by omega
  rw[List.take_length]
  refine .aJ rfl rfl fun w s=>⟨_,?_,trivial,aj .auto s⟩
  rfl
theorem qu{W:World}{A:aa}{u:Value}{x:aH}(hr:Rd W [A] bP 3 u x.evs)(hl:x.evs.length≤900000000):Fn Tryz.prog W 96 [.agg (eA (u,x)).toArray] [A] Value (fun u=>u) (fun _=>True) (fun w=>[sl bP 3 w x.strip,A]):=by
 refine Fn.intro (N:=31) func96 rfl ntmps96 rfl fun F=>?_
 haveI hRI:∀ (H:List aa) [bj H A],ax W H u bP 3 x.evs:=fun H h=>⟨hr.at h.has⟩
 show ar _ _ _ _ _ _ [A,F]
 refine .cr (fun w s=>Rd.isSl (hr.at .here) w s) fun hu=>?_
 refine J 2 ?_
 refine .ai rfl (ae.box rfl rfl rfl) ?_
 rintro _ _ ⟨b1,rfl,rfl⟩
 refine J 6 ?_
 refine .c call147 rfl (rZ hu) fun _ _=>?_
 refine JD 14 (fun h12=>?_) fun h12=>?_
 ·refine J 14 ?_
  rw[Bool.not_eq_true'] at h12
  refine .c call148 rfl qt fun _ _=>?_
  refine JD 3 (fun h13=>?_) fun h13=>?_
  ·refine J 4 ?_
   refine .p (.sk (fun v1 v2 v3=>[v1,v2,v3]) rfl rfl rfl (by kernel_rfl)) ?_
   refine .ai rfl (ae.gC 87 rfl rfl (by kernel_rfl)) ?_
   rintro _ _ ⟨b20,rfl,rfl⟩
   refine J 9 ?_
   refine .c call149 rfl (lX hr (by omega)) fun k29 _=>?_
   refine .c call95 rfl (uC (A:=seps [arr b20 0 [.int .i64 4,.int .i64 (-1),.int .i64 x.mode],sl bP 3 k29 (da x.evs),A]) (xs:=[⟨4, -1,x.mode⟩]) (ys:=da x.evs) (Rd.eU (Rd.lit .here rfl (fun _ _=>rfl) rfl)) (Rd.eU (Rd.sl .auto)) (by have:=kE x.evs;simp;omega)) fun u30 _=>?_
   refine .dY .auto ?_
   rw[show[⟨4, -1,x.mode⟩]++da x.evs=x.strip from by unfold aH.strip;rw[if_pos h13,if_neg (by rw[h12];simp)]]
   refine J 4 ?_
   refine .aJ rfl rfl fun w s=>⟨_,?_,trivial,aj .auto s⟩
   rfl
  ·refine JD 6 (fun h21=>?_) fun h21=>?_
   ·rw[h12] at h21;cases h21
   ·refine J 8 ?_
    refine .c call149 rfl (lX hr (by omega)) fun k29 _=>?_
    refine .c call95 rfl (uC (A:=seps [sl bP 3 k29 (da x.evs),A]) (xs:=([]:List Ev)) (ys:=da x.evs) (Rd.eU Rd.nil) (Rd.eU (Rd.sl .auto)) (by have:=kE x.evs;simp;omega)) fun u30 _=>?_
    refine .dY .auto ?_
    rw[show([]:List Ev)++da x.evs=x.strip from by unfold aH.strip;rw[if_neg (by rw[h13];simp),if_neg (by rw[h12];simp)]]
    refine J 4 ?_
    refine .aJ rfl rfl fun w s=>⟨_,?_,trivial,aj .auto s⟩
    rfl
 ·refine J 12 ?_
  rw[Bool.not_eq_false'] at h12
  refine .c call148 rfl qt fun _ _=>?_
  refine JD 3 (fun h13=>?_) fun h13=>?_
  ·refine J 4 ?_
   refine .p (.sk (fun v1 v2 v3=>[v1,v2,v3]) rfl rfl rfl (by kernel_rfl)) ?_
   refine .ai rfl (ae.gC 87 rfl rfl (by kernel_rfl)) ?_
   rintro _ _ ⟨b20,rfl,rfl⟩
   refine J 9 ?_
   rw[show mL x=x.ab from by unfold mL;rw[if_pos h12]]
   refine .c call149 rfl (lX hr (by omega)) fun k29 _=>?_
   refine .c call95 rfl (uC (A:=seps [arr b20 0 [.int .i64 4,.int .i64 x.ab,.int .i64 x.mode],sl bP 3 k29 (da x.evs),A]) (xs:=[⟨4,x.ab,x.mode⟩]) (ys:=da x.evs) (Rd.eU (Rd.lit .here rfl (fun _ _=>rfl) rfl)) (Rd.eU (Rd.sl .auto)) (by have:=kE x.evs;simp;omega)) fun u30 _=>?_
   refine .dY .auto ?_
   rw[show[⟨4,x.ab,x.mode⟩]++da x.evs=x.strip from by unfold aH.strip;rw[if_pos h13,if_pos h12]]
   refine J 4 ?_
   refine .aJ rfl rfl fun w s=>⟨_,?_,trivial,aj .auto s⟩
   rfl
  ·refine JD 6 (fun h21=>?_) fun h21=>?_
   ·refine J 2 ?_
    refine .p (.fF (fun v1 v2=>[v1,v2,(.int .i64 0)]) rfl rfl (by kernel_rfl)) ?_
    refine .ai rfl (ae.gC 87 rfl rfl (by kernel_rfl)) ?_
    rintro _ _ ⟨b25,rfl,rfl⟩
    refine J 9 ?_
    rw[show mL x=x.ab from by unfold mL;rw[if_pos h12]]
    refine .c call149 rfl (lX hr (by omega)) fun k29 _=>?_
    refine .c call95 rfl (uC (A:=seps [arr b25 0 [.int .i64 4,.int .i64 x.ab,.int .i64 0],sl bP 3 k29 (da x.evs),A]) (xs:=[⟨4,x.ab,0⟩]) (ys:=da x.evs) (Rd.eU (Rd.lit .here rfl (fun _ _=>rfl) rfl)) (Rd.eU (Rd.sl .auto)) (by have:=kE x.evs;simp;omega)) fun u30 _=>?_
    refine .dY .auto ?_
    rw[show[⟨4,x.ab,0⟩]++da x.evs=x.strip from by unfold aH.strip;rw[if_neg (by rw[h13];simp),if_pos h12]]
    refine J 4 ?_
    refine .aJ rfl rfl fun w s=>⟨_,?_,trivial,aj .auto s⟩
    rfl
   ·rw[h12] at h21;cases h21
theorem oP{W:World}{A:aa}{v:Value}{xs:List Ev}(hr:Rd W [A] bP 3 v xs)(hl:xs.length≤1000000000):Fn Tryz.prog W 94 [v] [A] Value (fun u=>.agg (eA (u,aH.new xs)).toArray) (fun _=>True) (fun u=>[sl bP 3 u xs,A]):=by
 refine Fn.intro (N:=6) func94 rfl ntmps94 rfl fun F=>?_
 show ar _ _ _ _ _ _ [A,F]
 refine J 2 ?_
 refine .ai rfl (ae.alloc rfl zeroValue80 rfl) ?_
 rintro _ _ ⟨b2,rfl,rfl⟩
 refine J 5 ?_
 refine .c call102 rfl (q9 hr hl) fun u4 _=>?_
 refine .cr (fun w s=>Rd.shape (Rd.sl .auto) w s) fun e=>?_
 obtain⟨a4,c4,rfl⟩:=e
 refine .p (.sk (fun v1 v2 v3=>[v1,v2,v3]) rfl rfl rfl (by kernel_rfl)) ?_
 refine J 4 ?_
 refine .dP rfl rfl isAgg80 (by exact sizeOf80) Cells.a fun w s=>⟨_,?_,trivial,aj .auto s⟩
 rfl
theorem r8{W:World}{A:aa}{u:Value}{x:aH}{m:Value}{ys:List Ev}(hr:Rd W [A] bP 3 u x.evs)(hm:Rd W [A] bP 3 m ys)(hl:x.evs.length≤400000000∧ys.length≤400000000):Fn Tryz.prog W 97 [.agg (eA (u,x)).toArray,m] [A] Value (fun w=>.agg (eA (w,x.told ys)).toArray) (fun _=>True) (fun w=>[sl bP 3 w (x.strip++ys),A]):=by
 refine Fn.intro (N:=10) func97 rfl ntmps97 rfl fun F=>?_
 show ar _ _ _ _ _ _ [A,F]
 have hsl:=ny x
 refine .cr (fun w s=>Rd.isSl (hr.at .here) w s) fun hu=>?_
 refine J 2 ?_
 refine .ai rfl (ae.box rfl rfl rfl) ?_
 rintro _ _ ⟨b2,rfl,rfl⟩
 refine .ai rfl (ae.alloc rfl zeroValue80 rfl) ?_
 rintro _ _ ⟨b4,rfl,rfl⟩
 refine J 5 ?_
 refine .c call96 rfl (qu hr (by omega)) fun u6 _=>?_
 refine J 1 ?_
 refine .c call95 rfl (uC (A:=seps [sl bP 3 u6 x.strip,A]) (xs:=x.strip) (ys:=ys) (Rd.eU (Rd.sl .here)) (Rd.eU (hm.at (.there .here))) (by omega)) fun u8 _=>?_
 refine .dY .auto ?_
 refine .c call94 rfl (oP (A:=sl bP 3 u8 (x.strip++ys)) (xs:=x.strip++ys) (Rd.sl .here) (by simp;omega)) fun u9 _=>?_
 refine .cr (fun w s=>Rd.shape (Rd.sl .auto) w s) fun e=>?_
 obtain⟨a9,c9,rfl⟩:=e
 refine J 4 ?_
 refine .dP rfl rfl isAgg80 (by exact sizeOf80) Cells.a fun w s=>⟨_,?_,trivial,aj .auto s⟩
 rfl
theorem H8{W:World}{b bs br:Nat}{l:Lib}{p:Int}:Fn Tryz.prog W 93 [ptr b,.int .i64 p] [aW b bs br l] Unit (fun _=>.bool (gN l p)) (fun _=>True) (fun _=>[aW b bs br l]):=by
 refine Fn.intro (N:=20) func93 rfl ntmps93 rfl fun F=>?_
 show ar _ _ _ _ _ _ [aW b bs br l,F]
 refine .o2 (C:=aW b bs br l) .auto rfl ?_
 rintro vv vw -
 refine .o1 (C:=cu vv l.vs) .auto rfl ?_
 rintro xs hxs
 have hxl:=ay hxs
 refine J 10 ?_
 apply aM.fI 3 10 7 [7,8,9,10] rfl
 ·intro h7
  exact JS 4
 ·intro h7
  exact JS 4
 refine J 1 ?_
 apply aM.eb 8 19 11 [11,12,13,14,15,16,17,18,19] rfl
 ·intro h11
  exact JS 9
 ·intro h11
  exact JS 9
 refine J 4 ?_
 refine .aJ rfl rfl fun w s=>⟨(),?_,trivial,aj .auto s⟩
 unfold gN;rw[← hxl]
theorem kU{W:World}{b bs br:Nat}{l:Lib}{p:Int}:Fn Tryz.prog W 85 [ptr b,.int .i64 p] [aW b bs br l] Unit (fun _=>.bool (l.has p)) (fun _=>True) (fun _=>[aW b bs br l]):=by
 refine Fn.intro (N:=19) func85 rfl ntmps85 rfl fun F=>?_
 show ar _ _ _ _ _ _ [aW b bs br l,F]
 refine J 9 ?_
 refine .c call93 rfl H8 fun _ _=>?_
 refine J 1 ?_
 apply aM.fI 10 18 8 [8,9,10,11,12,13,14,15,16,17,18] rfl
 ·intro h8
  refine .o2 (C:=aW b bs br l) .auto rfl ?_
  rintro vv vw -
  refine .o1 (C:=cu vv l.vs) .auto rfl ?_
  rintro xs hxs
  have hxl:=ay hxs
  unfold gN at h8
  simp only[Bool.and_eq_true,decide_eq_true_eq] at h8
  obtain⟨i,hi⟩:∃ i:Nat,p=(i:Int):=⟨p.toNat,by omega⟩
  obtain⟨x,hx⟩:=ak (show i<xs.length by omega)
  have hx2:=eH hxs hx
  refine J 5 ?_
  refine .g (.mC i underlying145 sizeOf80 rfl (by rw[hi];rfl) Rd.s rfl (by omega)) ?_
  refine J 1 ?_
  refine .g (.fm (Y.load isAgg3 rfl (Cell.CN Rd.s hx rfl)) ((lu hx2).trans (congrArg _ hi.symm))) ?_
  exact JS 3
 ·intro h8
  exact JS 11
 refine J 4 ?_
 refine .aJ rfl rfl fun w s=>⟨(),?_,trivial,aj .auto s⟩
 rw[lq]
theorem jt{W:World}{b bs br:Nat}{l:Lib}(hl:l.vs.length≤1000000000):Fn Tryz.prog W 81 [ptr b] [aW b bs br l] Value (fun u=>u) (fun _=>True) (fun u=>[sl au 1 u l.procs,aW b bs br l]):=by
 refine Fn.intro (N:=24) func81 rfl ntmps81 rfl fun F=>?_
 show ar _ _ _ _ _ _ [aW b bs br l,F]
 refine J 12 ?_
 refine .eK rfl ?_
 refine J 10 ?_
 refine .o2 (C:=aW b bs br l) .auto rfl ?_
 rintro vv vw -
 refine .o1 (C:=cu vv l.vs) .auto rfl ?_
 rintro xs hxs
 have hxl:=ay hxs
 refine J 9 ?_
 refine .aX (X:=Nat×Value×List Int) [3,4,12,13,14,15,16,17,18,19,20,21,22] (fun z=>l.vs.length-z.1) (fun z=>z.1≤l.vs.length∧z.2.2.length≤z.1∧l.procs=z.2.2++procsFrom (l.vs.drop z.1) z.1) (fun z=>[(12,some (.int .i64 (z.1:Int))),(3,some z.2.1)]) (fun z=>[sl au 1 z.2.1 z.2.2,aW b bs br l,F]) (0,.slice none 0 0,[]) ?_ ?_ ?_ ?_
 ·exact⟨Nat.zero_le _,Nat.le_refl _,rfl⟩
 ·exact⟨rfl,rfl,trivial⟩
 ·exact fun w s=>aq.kept .auto w s
 rintro⟨k,u,ys⟩ ⟨hk,hyl,hn⟩
 simp only at hk hyl hn
 refine JD 6 (fun h13=>?_) fun h13=>?_
 ·refine J 14 ?_
  refine .c call85 rfl kU fun _ _=>?_
  refine JD 2 (fun h17=>?_) fun h17=>?_
  ·refine J 3 ?_
   refine .ai rfl (ae.gC 3 rfl rfl (by kernel_rfl)) ?_
   rintro _ _ ⟨b20,rfl,rfl⟩
   refine .ai rfl (ae.gh (enc:=au) (k:=1) (k:Int) rfl underlying50 underlying50 typeInfo3 rfl rfl rfl (by decide) rfl rfl rfl .auto rfl .auto (by first | omega | (dsimp only;omega)) rfl) ?_
   rintro _ _ ⟨v21,rfl,rfl⟩
   refine J 8 ?_
   refine .aw (k+1,v21,ys++[(k:Int)]) .auto rfl ?_ ?_ ?_ ?_
   ·show l.vs.length-(k+1)<l.vs.length-k;omega
   ·exact⟨by show k+1≤_;omega,by simp;omega,by rw[hn,D9 (by omega) h17];simp⟩
   ·exact⟨rfl,rfl,trivial⟩
   ·exact fun w s=>aq.kept .auto w s
  ·refine J 7 ?_
   refine .aw (k+1,u,ys) .auto rfl ?_ ?_ ?_ ?_
   ·show l.vs.length-(k+1)<l.vs.length-k;omega
   ·exact⟨by show k+1≤_;omega,by show ys.length≤k+1;omega,by rw[hn,Gu (by omega) h17]⟩
   ·exact⟨rfl,rfl,trivial⟩
   ·exact fun w s=>aq.kept .auto w s
 ·refine J 12 ?_
  obtain rfl:k=l.vs.length:=by omega
  rw[Ea (Nat.le_refl _),List.append_nil] at hn
  subst hn
  refine .aJ rfl rfl fun w s=>⟨_,?_,trivial,aj .auto s⟩
  rfl
end Go.SLYthlllpngkljgfaaGreat
namespace Go.SLYthlllpngkljgfaaGreat
open Go Go.RowKit Go.Proofs Go.Proofs.Tryz
attribute [local irreducible] ar aM bm bA bE Y
theorem wY{W:World}{p:Int}:Fn Tryz.prog W 83 [.int .i64 p] [] Nat (fun b=>ptr b) (fun _=>True) (fun b=>[fz b (List.replicate (aG p 64).toNat [])]):=by
 refine Fn.intro (N:=23) func83 rfl ntmps83 rfl fun F=>?_
 show ar _ _ _ _ _ _ [F]
 have hc:0≤aG p 64∧aG p 64≤64:=by unfold aG;omega
 refine J 7 ?_
 refine .p (.mi ([(.slice none 0 0)]) (by kernel_rfl)) ?_
 refine .ai rfl (ae.box rfl rfl rfl) ?_
 rintro _ _ ⟨b5,rfl,rfl⟩
 refine J 7 ?_
 refine .p (.tt rfl rfl) ?_
 refine .p (.fm (Y.kC rfl rfl) (show min (max p 0) 64=aG p 64 from rfl)) ?_
 refine J 4 ?_
 refine .aX (X:=Nat×Value×List (Nat×List Int)) [9,10,11,12,13,14,15,16,17,18,19,20,21] (fun z=>(aG p 64).toNat-z.1) (fun z=>z.1≤(aG p 64).toNat∧z.2.2.length=z.1∧z.2.2.map (·.2)=List.replicate z.1 []) (fun z=>[(9,some (.int .i64 (z.1:Int)))]) (fun z=>[arr b5 0 [z.2.1],sl cQ 1 z.2.1 z.2.2,aO (fun x=>fh x.1 x.2) z.2.2,F]) (0,.slice none 0 0,[]) ?_ ?_ ?_ ?_
 ·exact⟨Nat.zero_le _,rfl,rfl⟩
 ·exact⟨rfl,trivial⟩
 ·exact fun w s=>aq.kept .auto w s
 rintro⟨k,v,ts⟩ ⟨hk,htl,htm⟩
 simp only at hk htl htm
 refine JD 6 (fun h10=>?_) fun h10=>?_
 ·refine J 4 ?_
  refine .draw [arr b5 0 [v]] [0,0,0,0,0,2,2,2,1,1,3] rfl (by kernel_rfl) ?_
  refine J 5 ?_
  refine .c2 call136 rfl E1 fun x16 _=>?_
  refine .d2 rfl Kept.auto (ae.gC 161 rfl rfl (by kernel_rfl)) (by rintro _ _ ⟨b17,rfl,rfl⟩;exact Kept.auto) ?_
  rintro _ _ ⟨b17,rfl,rfl⟩
  refine .d2 rfl Kept.auto (ae.gh (enc:=cQ) (k:=1) ((x16,[]):Nat×List Int) rfl underlying218 underlying218 typeInfo161 rfl rfl rfl (by decide) rfl rfl rfl .auto rfl .auto (by first | omega | (dsimp only;omega)) rfl) (by rintro _ _ ⟨v18,rfl,rfl⟩;exact Kept.auto) ?_
  rintro _ _ ⟨v18,rfl,rfl⟩
  refine J 2 ?_
  refine .d3 rfl (ae.mr sizeOf218 rfl rfl rfl) ?_
  rintro _ _ ⟨rfl,rfl⟩
  refine J 7 ?_
  refine .aw (k+1,v18,ts++[(x16,[])]) .auto rfl ?_ ?_ ?_ ?_
  ·show(aG p 64).toNat-(k+1)<(aG p 64).toNat-k;omega
  ·exact⟨by show k+1≤_;omega,by simp[htl],by simp[htm,List.replicate_succ']⟩
  ·exact⟨rfl,trivial⟩
  ·show ∀ w,Sat _ w _→Sat _ w (seps [_,sl cQ 1 v18 (ts++[(x16,[])]),aO (fun x=>fh x.1 x.2) (ts++[(x16,[])]),F])
   rw[nt]
   exact fun w s=>aq.kept .auto w s
 ·refine J 12 ?_
  obtain rfl:k=(aG p 64).toNat:=by omega
  exact JR 0 b5
theorem gu{W:World}{A:aa}{v:Value}{xs:List Int}(hr:Rd W [A] au 1 v xs)(hl:xs.length≤1000000000):Fn Tryz.prog W 84 [v] [A] Value (fun u=>u) (fun _=>True) (fun u=>[sl bP 3 u (aB xs),A]):=by
 refine Fn.intro (N:=19) func84 rfl ntmps84 rfl fun F=>?_
 haveI hRI:∀ (H:List aa) [bj H A],ax W H v au 1 xs:=fun H h=>⟨hr.at h.has⟩
 show ar _ _ _ _ _ _ [A,F]
 refine J 19 ?_
 refine .aX (X:=Nat×Value) [3,5,8,9,10,11,12,13,14,15,16,17] (fun z=>xs.length-z.1) (fun z=>z.1≤xs.length) (fun z=>[(8,some (.int .i64 (z.1:Int))),(3,some z.2)]) (fun z=>[sl bP 3 z.2 (aB (xs.take z.1)),A,F]) (0,.slice none 0 0) ?_ ?_ ?_ ?_
 ·exact Nat.zero_le _
 ·exact⟨rfl,rfl,trivial⟩
 ·exact fun w s=>aq.kept .auto w s
 rintro⟨k,u⟩ hk
 simp only at hk
 refine JD 6 (fun h9=>?_) fun h9=>?_
 ·refine J 6 ?_
  obtain⟨n,hx⟩:=ak (show k<xs.length by omega)
  refine J 8 ?_
  refine .p (.fF (fun v1 v2=>[v1,v2,(.int .i64 0)]) rfl rfl (by kernel_rfl)) ?_
  refine .ai rfl (ae.gC 87 rfl rfl (by kernel_rfl)) ?_
  rintro _ _ ⟨b15,rfl,rfl⟩
  refine .ai rfl (ae.gh (enc:=bP) (k:=3) (⟨3,n,0⟩:Ev) rfl underlying75 underlying75 typeInfo87 rfl rfl rfl (by decide) rfl rfl rfl .auto rfl .auto (by unfold aB;rw[List.length_map,List.length_take];omega) rfl) ?_
  rintro _ _ ⟨v16,rfl,rfl⟩
  refine J 8 ?_
  refine .aw (k+1,v16) .auto rfl ?_ ?_ ?_ ?_
  ·show xs.length-(k+1)<xs.length-k;omega
  ·show k+1≤_;omega
  ·exact⟨rfl,rfl,trivial⟩
  ·show ∀ w,Sat _ w _→Sat _ w (seps [sl bP 3 v16 (aB (xs.take (k+1))),A,F])
   rw[tv hx]
   exact fun w s=>aq.kept .auto w s
 ·refine J 12 ?_
  obtain rfl:k=xs.length:=by omega
  rw[List.take_length]
  refine .aJ rfl rfl fun w s=>⟨_,?_,trivial,aj .auto s⟩
  rfl
theorem DA{W:World}{bs:Nat}{ps:List (Option Nat)}{s:Spc}{p:Int}(hl:s.aF.length=16):Fn Tryz.prog W 31 [ptr bs,.int .i64 p] [cH bs ps s] Nat (fun b=>ptr b) (fun _=>True) (fun b=>[cn b (Lib.new s p)]):=by
 refine Fn.intro (N:=24) func31 rfl ntmps31 rfl fun F=>?_
 show ar _ _ _ _ _ _ [cH bs ps s,F]
 have hc:0≤aG p 64∧aG p 64≤64:=by unfold aG;omega
 have hrl:s.ready.length≤1000000000:=by have:=fi s.aF 0;show(readyFrom s.aF 0).length≤_;omega
 refine J 8 ?_
 refine .p (.tt rfl rfl) ?_
 refine .p (.fm (Y.kC rfl rfl) (show min (max p 0) 64=aG p 64 from rfl)) ?_
 refine J 4 ?_
 refine .s9 [] [0,0,2,0,4,0,4,0] [0,1,2,3,4,5,6,7] rfl (by kernel_rfl) ?_
 refine bE.q rfl rfl rfl Kept.auto (Y.m rfl) ?_
 refine bE.q rfl rfl rfl Kept.auto (Y.m rfl) ?_
 refine bE.cY rfl (.inl rfl) rfl (fun _=>Kept.auto) call83 rfl wY .auto (fun _ _=>Kept.auto) ?_
 rintro x12 -
 rw[show aG (aG p 64) 64=aG p 64 from by unfold aG;omega]
 refine bE.q rfl rfl rfl Kept.auto (Y.m rfl) ?_
 refine bE.fresh rfl rfl rfl (by decide) Kept.auto (jA (enc:=eA) (k:=3) ((Value.slice none 0 0:Value),aH.z) (aG p 64).toNat underlying145 typeInfo80 rfl rfl rfl rfl (by decide) (by decide) rfl rfl (by omega) (by omega) (by omega)) ?_
 rintro b14
 refine bE.q rfl rfl rfl Kept.auto (Y.sk (fun v1 v2 v3=>[v1,v2,v3,(.slice none 0 0),(.bool false)]) rfl rfl rfl (by kernel_rfl)) ?_
 refine bE.fresh rfl rfl rfl (by decide) Kept.auto (nv rfl rfl) ?_
 rintro b16
 refine bE.q rfl rfl rfl Kept.auto (Y.a rfl) ?_
 refine bE.nil ?_
 refine J 3 ?_
 refine .to (A:=sl eA 3 (.slice (some ⟨b14,0,none⟩) (aG p 64).toNat (aG p 64).toNat) (List.replicate (aG p 64).toNat ((Value.slice none 0 0:Value),aH.z))) .auto (pn rfl) ?_
 refine J 2 ?_
 refine .c call44 rfl (iq hl) fun u19 _=>?_
 refine .c call84 rfl (gu (A:=sl au 1 u19 s.ready) (Rd.sl .here) hrl) fun u20 _=>?_
 refine J 2 ?_
 refine .ai rfl (ae.mr sizeOf75 rfl rfl rfl) ?_
 rintro _ _ ⟨rfl,rfl⟩
 refine J 9 ?_
 refine .aJ rfl rfl fun w s=>⟨b16,?_,trivial,aj (by repeat (first | exact aq.nil | (apply aq.cons; · repeat (first | exact Take.here | apply Take.there)) | apply aq.Gq | apply aq.Gr | apply aq.void | apply aq.Gj | apply aq.two | (apply aq.Bt; · exact fT) | (apply aq.allM; · exact fun _=>fT) | apply aq.f1 rfl | apply aq.f2 rfl | apply aq.f3 rfl | apply aq.f4 rfl | apply aq.f10 rfl | apply aq.eU | assumption | exact trivial | rfl | omega | (apply aq.Bt; · exact fT) | (focus (simp[Lib.new];done)) | (unfold Lib.new;simp only;apply aq.cons; · repeat (first | exact Take.here | apply Take.there)))) s⟩
 rfl
theorem nR{W:World}{b bs br:Nat}{l:Lib}{p:Int}(hw:l.waiting.length≤400000000):Fn Tryz.prog W 33 [ptr b,.int .i64 p] [aW b bs br l] Unit (fun _=>.bool (l.cy p).1) (fun _=>True) (fun _=>[aW b bs br (l.cy p).2]):=by
 refine Fn.intro (N:=31) func33 rfl ntmps33 rfl fun F=>?_
 show ar _ _ _ _ _ _ [aW b bs br l,F]
 refine J 10 ?_
 refine .c call93 rfl H8 fun _ _=>?_
 refine J 2 ?_
 apply aM.fA 4 13 9 [9,10,11,12,13] rfl
 ·intro h9
  refine J 2 ?_
  refine .cg call85 rfl kU fun _ _=>?_
  exact JS 2
 ·intro h9
  exact JS 5
 refine JD 2 (fun h13=>?_) fun h13=>?_
 ·simp only[Bool.or_eq_true,Bool.not_eq_true'] at h13
  refine J 7 ?_
  rw[kF h13]
  exact JR 0 ()
 ·simp only[Bool.or_eq_false_iff,Bool.not_eq_false'] at h13
  refine J 3 ?_
  obtain⟨i,v,rfl,hv,hg⟩:=nz h13.1 h13.2
  rw[hg]
  refine .o2 (C:=aW b bs br l) .auto rfl ?_
  rintro vv vw -
  refine .o1 (C:=cu vv l.vs) .auto rfl ?_
  rintro xs hxs
  have hxl:=ay hxs
  obtain⟨x,hx,rfl⟩:=dn hxs hv
  have hil:=(List.getElem?_eq_some_iff.1 hx).1
  refine .draw [arr b 0 (mJ bs br vv vw l.locked)] [0,0,0,0,0,1,2,0,0,0,0,2,2,1,3] rfl (by kernel_rfl) ?_
  refine J 5 ?_
  refine .p (.fF (fun v1 v2=>[v1,v2,(.int .i64 0)]) rfl rfl (by kernel_rfl)) ?_
  refine .d2 rfl Kept.auto (ae.gC 87 rfl rfl (by kernel_rfl)) (by rintro _ _ ⟨b20,rfl,rfl⟩;exact Kept.auto) ?_
  rintro _ _ ⟨b20,rfl,rfl⟩
  refine J 4 ?_
  refine .c2 call95 rfl (uC (A:=seps [arr b20 0 [.int .i64 1,.int .i64 (-1),.int .i64 0],sl bP 3 vw l.waiting]) (xs:=[⟨1, -1,0⟩]) (ys:=l.waiting) (Rd.eU (Rd.lit .here rfl (fun _ _=>rfl) rfl)) (Rd.eU (Rd.sl .auto)) (by simp;omega)) fun u25 _=>?_
  refine .dY .auto ?_
  refine .c2 call94 rfl (oP (A:=sl bP 3 u25 (⟨1, -1,0⟩::l.waiting)) (xs:=⟨1, -1,0⟩::l.waiting) (Rd.sl .here) (by simp;omega)) fun u26 _=>?_
  refine .cr (fun w s=>Rd.isSl (Rd.sl .auto) w s) fun hu26=>?_
  refine .p (.ix i rfl rfl rfl (by omega)) ?_
  refine .d3 rfl (ae.mK (x':=(u26,aH.new (⟨1, -1,0⟩::l.waiting))) rfl rfl sizeOf80 (j5 hu26) hx rfl rfl .auto) ?_
  rintro _ _ ⟨rfl,rfl⟩
  refine J 4 ?_
  refine .fr .auto (cc (f:=fun x:Value×aH=>sl bP 3 x.1 x.2.evs) hx) ?_
  refine .to (A:=aO (fun x:Value×aH=>sl bP 3 x.1 x.2.evs) (xs.set i (u26,aH.new (⟨1, -1,0⟩::l.waiting)))) .auto (kn (f:=fun x:Value×aH=>sl bP 3 x.1 x.2.evs) (u26,aH.new (⟨1, -1,0⟩::l.waiting)) hx) ?_
  have hms:=map_set hxs i (u26,aH.new (⟨1, -1,0⟩::l.waiting))
  exact JR 12 ()
theorem jR{W:World}{b bs br:Nat}{l:Lib}{A:aa}{m:Value}{ys:List Ev}(hm:Rd W [A] bP 3 m ys)(hl:ys.length≤400000000∧l.waiting.length≤400000000∧l.vs.length≤1000000000∧ ∀ v∈l.vs,v.evs.length≤400000000):Fn Tryz.prog W 37 [ptr b,m] [aW b bs br l,A] Unit (fun _=>.tuple #[]) (fun _=>True) (fun _=>[aW b bs br (l.tell ys),A]):=by
 refine Fn.intro (N:=45) func37 rfl ntmps37 rfl fun F=>?_
 haveI hRI:∀ (H:List aa) [bj H A],ax W H m bP 3 ys:=fun H h=>⟨hm.at h.has⟩
 show ar _ _ _ _ _ _ [aW b bs br l,A,F]
 refine .s (.s (.r (.p (.m rfl) (.p (.Ot rfl rfl) (.p (.m rfl) ?_)))))
 apply aM.fA 4 11 7 [7,8,9,10,11] rfl
 ·intro h7
  refine .g (.m rfl) (.g (.len rfl) (.g (.eql rfl rfl) (.p (.u rfl rfl) (.n ?_))))
  refine .eu .auto rfl (by first | exact fun _ h=>h | exact aq.kept .auto)
 ·intro h7
  refine .u (.u (.u (.p (.t rfl rfl) (.n ?_))))
  refine .eu .auto rfl (by first | exact fun _ h=>h | exact aq.kept .auto)
 refine .n (.t (.cond rfl (fun h11=>?_) (fun h11=>?_)))
 ·simp only[Bool.or_eq_true,decide_eq_true_eq] at h11
  refine .e (.tr ?_)
  obtain rfl:ys=[]:=by simpa using h11
  rw[jD]
  refine .KX rfl fun w s=>⟨(),?_,trivial,aj .auto s⟩
  rfl
 ·simp only[Bool.or_eq_false_iff,decide_eq_false_iff_not] at h11
  refine .v (.t (.s (.r (.p (.m rfl) ?_))))
  have hne:ys≠[]:=by simpa using h11
  refine .ai rfl (ae.cY rfl call81 rfl (jt hl.2.2.1) .auto) ?_
  rintro _ _ ⟨u13, -,rfl,rfl⟩
  refine .p (.a rfl) (.n (.t (.s (.s (.r (.p (.m rfl) (.p (.len rfl) (.p (.eql rfl rfl) (.n (.t (.dD rfl (fun h16=>?_) (fun h16=>?_))))))))))))
  ·refine .s (.r ?_)
   refine .o2 (C:=aW b bs br l) .auto rfl ?_
   rintro vv vw -
   refine .o1 (C:=cu vv l.vs) .auto rfl ?_
   rintro xs hxs
   have hxl:=ay hxs
   refine .p (.m rfl) (.p (.m rfl) (.p (.n rfl) (.p (.f rfl) (.p (.l rfl) (.p (.m rfl) ?_)))))
   rw[jl hne (by simpa using h16)]
   refine .ai rfl (ae.cY rfl call95 rfl (uC (A:=seps [sl bP 3 vw l.waiting,A]) (xs:=l.waiting) (ys:=ys) (Rd.eU (Rd.sl .here)) (Rd.eU (hm.at (.there .here))) (by omega)) .auto) ?_
   rintro _ _ ⟨u23, -,rfl,rfl⟩
   refine .dY .auto ?_
   refine .p (.n rfl) (.p (.f rfl) ?_)
   refine .ai rfl (ae.mr sizeOf75 rfl rfl rfl) ?_
   rintro _ _ ⟨rfl,rfl⟩
   refine .n (.t (.e (.tr (.KX rfl fun w s=>⟨(),?_,trivial,aj .auto s⟩))))
   rfl
  ·refine .v (.t ?_)
   obtain⟨p,r,hp⟩:∃ p r,l.procs=p::r:=by
    cases e:l.procs with
    | nil=>rw[e] at h16;exact absurd rfl h16
    | cons p r=>exact⟨p,r,rfl⟩
   obtain⟨i,v,rfl,hv,hmd⟩:=ig hp
   have hp0:l.procs[0]?=some (i:Int):=by rw[hp];rfl
   rw[jm hne hp hv]
   refine .o2 (C:=aW b bs br l) .auto rfl ?_
   rintro vv vw -
   refine .o1 (C:=cu vv l.vs) .auto rfl ?_
   rintro xs hxs
   have hxl:=ay hxs
   obtain⟨x,hx,rfl⟩:=dn hxs hv
   have hil:=(List.getElem?_eq_some_iff.1 hx).1
   refine .fr .auto (cc (f:=fun x:Value×aH=>sl bP 3 x.1 x.2.evs) hx) ?_
   have hel:=hl.2.2.2 x.2 (List.mem_of_getElem? hv)
   refine .draw [arr b 0 (mJ bs br vv vw l.locked),sl au 1 u13 l.procs] [0,0,0,0,0,0,0,1,1,1,1,1,1,1,1,1,1,2,1,3] rfl (by kernel_rfl) ?_
   refine .q (.m rfl) (.q (.n rfl) (.q (.f rfl) (.q (.l rfl) (.q (.m rfl) ?_))))
   refine .q (.ix 0 rfl rfl rfl (by rw[hp];simp)) ?_
   refine .q (.lr rfl hp0) ?_
   refine .p (.m rfl) (.p (.n rfl) (.p (.f rfl) (.p (.l rfl) (.p (.m rfl) ?_))))
   refine .p (.ix 0 rfl rfl rfl (by rw[hp];simp)) ?_
   refine .p (.lr rfl hp0) ?_
   refine .p (.ix i rfl rfl rfl (by omega)) ?_
   refine .p (.la rfl (Cells.rd Rd.s ‹_›)) ?_
   refine .p (.m rfl) ?_
   refine .d2 rfl Kept.auto (ae.cY rfl call97 rfl (r8 (A:=seps [sl bP 3 x.1 x.2.evs,A]) (u:=x.1) (x:=x.2) (m:=m) (ys:=ys) (Rd.eU (Rd.sl .here)) (Rd.eU (hm.at (.there .here))) (by omega)) .auto) (by rintro _ _ ⟨u43, -,rfl,rfl⟩;exact Kept.auto) ?_
   rintro _ _ ⟨u43, -,rfl,rfl⟩
   refine .cr (fun w s=>Rd.isSl (Rd.sl .auto) w s) fun hu43=>?_
   refine .dY .auto ?_
   refine .p (.ix i rfl rfl rfl (by omega)) ?_
   refine .d3 rfl (ae.mK (x':=(u43,x.2.told ys)) rfl rfl sizeOf80 (j5 hu43) hx rfl rfl .auto) ?_
   rintro _ _ ⟨rfl,rfl⟩
   refine .n ?_
   refine .to (A:=aO (fun x:Value×aH=>sl bP 3 x.1 x.2.evs) (xs.set i (u43,x.2.told ys))) .auto (kn (f:=fun x:Value×aH=>sl bP 3 x.1 x.2.evs) (u43,x.2.told ys) hx) ?_
   have hms:=map_set hxs i (u43,x.2.told ys)
   refine .xA rfl fun w s=>⟨(),?_,trivial,aj .auto s⟩
   rfl
theorem uG{W:World}{b bs br:Nat}{l:Lib}{p:Int}(hl:l.waiting.length≤400000000∧l.vs.length≤1000000000∧ ∀ v∈l.vs,v.evs.length≤300000000):Fn Tryz.prog W 34 [ptr b,.int .i64 p] [aW b bs br l] Unit (fun _=>.bool (l.ck p).1) (fun _=>True) (fun _=>[aW b bs br (l.ck p).2]):=by
 refine Fn.intro (N:=28) func34 rfl ntmps34 rfl fun F=>?_
 show ar _ _ _ _ _ _ [aW b bs br l,F]
 refine J 10 ?_
 refine .c call85 rfl kU fun _ _=>?_
 refine JD 3 (fun h9=>?_) fun h9=>?_
 ·refine J 7 ?_
  rw[Bool.not_eq_true'] at h9
  rw[jo h9]
  exact JR 0 ()
 ·refine J 4 ?_
  rw[Bool.not_eq_false'] at h9
  obtain⟨i,v,rfl,hv⟩:=lx (qL h9)
  rw[ij h9 hv]
  refine .o2 (C:=aW b bs br l) .auto rfl ?_
  rintro vv vw -
  refine .o1 (C:=cu vv l.vs) .auto rfl ?_
  rintro xs hxs
  have hxl:=ay hxs
  obtain⟨x,hx,rfl⟩:=dn hxs hv
  have hil:=(List.getElem?_eq_some_iff.1 hx).1
  refine .fr .auto (cc (f:=fun x:Value×aH=>sl bP 3 x.1 x.2.evs) hx) ?_
  have hel:=hl.2.2 x.2 (List.mem_of_getElem? hv)
  have hsl:=ny x.2
  refine J 5 ?_
  refine .p (.ix i rfl rfl rfl (by omega)) ?_
  refine J 1 ?_
  refine .c call96 rfl (qu (A:=sl bP 3 x.1 x.2.evs) (u:=x.1) (x:=x.2) (Rd.sl .here) (by omega)) fun u17 _=>?_
  refine J 10 ?_
  refine .p (.mi ([(.int .i64 0),(.int .i64 0),(.slice none 0 0)]) (by kernel_rfl)) ?_
  refine .p (.ix i rfl rfl rfl (by omega)) ?_
  refine .ai rfl (ae.mK (x':=((Value.slice none 0 0:Value),aH.z)) rfl rfl sizeOf80 rfl hx rfl rfl .auto) ?_
  rintro _ _ ⟨rfl,rfl⟩
  refine J 4 ?_
  refine .to (A:=aO (fun x:Value×aH=>sl bP 3 x.1 x.2.evs) (xs.set i ((Value.slice none 0 0:Value),aH.z))) .auto (kn (f:=fun x:Value×aH=>sl bP 3 x.1 x.2.evs) ((Value.slice none 0 0:Value),aH.z) hx) ?_
  have hms:=map_set hxs i ((Value.slice none 0 0:Value),aH.z)
  refine J 2 ?_
  refine .ai rfl (ae.cY rfl call37 rfl (jR (l:={l with vs:=l.vs.set i aH.z }) (A:=sl bP 3 u17 x.2.strip) (Rd.sl .here) ⟨by omega,hl.1,by show(l.vs.set i aH.z).length≤_;rw[List.length_set];exact hl.2.1,fun v hv=>by
   rcases List.mem_or_eq_of_mem_set hv with h | h
   ·exact Nat.le_trans (hl.2.2 v h) (by omega)
   ·subst h;exact Nat.zero_le _⟩) .auto) ?_
  rintro _ _ ⟨⟨⟩, -,rfl,rfl⟩
  exact JR 8 ()
end Go.SLYthlllpngkljgfaaGreat
namespace Go.SLYthlllpngkljgfaaGreat
open Go Go.RowKit Go.Proofs Go.Proofs.Tryz
attribute [local irreducible] ar aM bm bA bE Y
theorem wZ{W:World}{n:Int}:Fn Tryz.prog W 48 [.pointer none,.int .i64 n] [] Unit (fun _=>.pointer none) (fun _=>True) (fun _=>[]):=by
 refine Fn.intro (N:=27) func48 rfl ntmps48 rfl fun F=>?_
 show ar _ _ _ _ _ _ [F]
 refine J 25 ?_
 refine .gd rfl ?_
 exact JR 7 ()
theorem Ay{W:World}{b bs br:Nat}{l:Lib}:Fn Tryz.prog W 42 [ptr b] [aW b bs br l] Unit (fun _=>ptr br) (fun _=>True) (fun _=>[aW b bs br l]):=by
 refine Fn.intro (N:=9) func42 rfl ntmps42 rfl fun F=>?_
 show ar _ _ _ _ _ _ [aW b bs br l,F]
 refine J 12 ?_
 refine .eK rfl ?_
 refine J 4 ?_
 refine .o2 (C:=aW b bs br l) .auto rfl ?_
 rintro vv vw -
 exact JR 8 ()
theorem ng{W:World}{b bs br:Nat}{l:Lib}(hl:l.waiting.length≤1000000000):Fn Tryz.prog W 40 [ptr b] [aW b bs br l] Value (fun u=>u) (fun _=>True) (fun u=>[sl bP 3 u l.waiting,aW b bs br l]):=by
 refine Fn.intro (N:=11) func40 rfl ntmps40 rfl fun F=>?_
 show ar _ _ _ _ _ _ [aW b bs br l,F]
 refine J 12 ?_
 refine .eK rfl ?_
 refine J 4 ?_
 refine .o2 (C:=aW b bs br l) .auto rfl ?_
 rintro vv vw -
 refine J 4 ?_
 refine .c call102 rfl (q9 (A:=sl bP 3 vw l.waiting) (Rd.sl .here) hl) fun u9 _=>?_
 refine .c call101 rfl KL fun u10 _=>?_
 refine J 4 ?_
 refine .aJ rfl rfl fun w s=>⟨_,?_,trivial,aj .auto s⟩
 rfl
theorem ra{W:World}{b:Nat}{l:List Int}(hl:l.length≤1000000000):Fn Tryz.prog W 104 [ptr b] [fh b l] Value (fun u=>u) (fun _=>True) (fun u=>[sl au 1 u l,fh b l]):=by
 refine Fn.intro (N:=11) func104 rfl ntmps104 rfl fun F=>?_
 show ar _ _ _ _ _ _ [fh b l,F]
 refine J 12 ?_
 refine .eK rfl ?_
 refine J 4 ?_
 refine .o1 (C:=fh b l) .auto rfl ?_
 rintro v -
 refine J 4 ?_
 refine .c call154 rfl (LQ (A:=sl au 1 v l) (Rd.sl .here) hl) fun u9 _=>?_
 refine .c call153 rfl M1 fun u10 _=>?_
 refine J 4 ?_
 refine .aJ rfl rfl fun w s=>⟨_,?_,trivial,aj .auto s⟩
 rfl
theorem Az{W:World}{b bs br:Nat}{l:Lib}{p:Int}(hl:∀ v∈l.vs,v.evs.length≤1000000000):Fn Tryz.prog W 41 [ptr b,.int .i64 p] [aW b bs br l] Value (fun u=>.tuple #[.agg (eA (u,bS l p)).toArray,.bool (l.has p)]) (fun _=>True) (fun u=>[sl bP 3 u (bS l p).evs,aW b bs br l]):=by
 refine Fn.intro (N:=25) func41 rfl ntmps41 rfl fun F=>?_
 show ar _ _ _ _ _ _ [aW b bs br l,F]
 refine J 2 ?_
 refine .ai rfl (ae.alloc rfl zeroValue80 rfl) ?_
 rintro _ _ ⟨b4,rfl,rfl⟩
 refine J 8 ?_
 refine .c call85 rfl kU fun _ _=>?_
 refine JD 3 (fun h10=>?_) fun h10=>?_
 ·rw[Bool.not_eq_true'] at h10
  rw[JJ h10,h10]
  refine J 2 ?_
  refine .p (.mi ([(.int .i64 0),(.int .i64 0),(.slice none 0 0)]) (by kernel_rfl)) ?_
  refine J 6 ?_
  refine .fp rfl rfl isAgg80 (by exact sizeOf80) Cells.a rfl fun w s=>⟨.slice none 0 0,?_,trivial,aj .auto s⟩
  rfl
 ·rw[Bool.not_eq_false'] at h10
  obtain⟨i,v,rfl,hv⟩:=lx (qL h10)
  rw[uk h10 hv,h10]
  refine .o2 (C:=aW b bs br l) .auto rfl ?_
  rintro vv vw -
  refine .o1 (C:=cu vv l.vs) .auto rfl ?_
  rintro xs hxs
  have hxl:=ay hxs
  obtain⟨x,hx,rfl⟩:=dn hxs hv
  have hil:=(List.getElem?_eq_some_iff.1 hx).1
  refine J 9 ?_
  refine .p (.ix i rfl rfl rfl (by omega)) ?_
  refine .p (.la rfl (Cells.rd Rd.s hx)) ?_
  refine .fr .auto (cc (f:=fun x:Value×aH=>sl bP 3 x.1 x.2.evs) hx) ?_
  refine .cr (fun w s=>Rd.isSl (Rd.sl .here) w s) fun hu0=>?_
  have hone:=j5 (x:=x.2) hu0
  refine .ai rfl (ae.alloc rfl zeroValue80 rfl) ?_
  rintro _ _ ⟨b6,rfl,rfl⟩
  refine .ai rfl (ae.IX (by exact sizeOf80) rfl rfl hone rfl) ?_
  rintro _ _ ⟨rfl,rfl⟩
  refine J 6 ?_
  refine .c call102 rfl (q9 (A:=sl bP 3 x.1 x.2.evs) (xs:=x.2.evs) (Rd.sl .here) (hl x.2 (List.mem_of_getElem? hv))) fun u21 _=>?_
  refine .c call101 rfl KL fun u22 _=>?_
  refine .cr (fun w s=>Rd.isSl (Rd.sl .auto) w s) fun hu22=>?_
  refine .to (A:=aO (fun x:Value×aH=>sl bP 3 x.1 x.2.evs) xs) .auto (cK (f:=fun x:Value×aH=>sl bP 3 x.1 x.2.evs) hx) ?_
  refine J 1 ?_
  refine .ai rfl (ae.mr sizeOf75 rfl rfl rfl) ?_
  rintro _ _ ⟨rfl,rfl⟩
  refine J 5 ?_
  refine .ai rfl (ae.IX (by exact sizeOf80) rfl rfl (j5 hu22) rfl) ?_
  rintro _ _ ⟨rfl,rfl⟩
  refine J 4 ?_
  refine .fp rfl rfl isAgg80 (by exact sizeOf80) Cells.a rfl fun w s=>⟨_,?_,trivial,aj .auto s⟩
  rfl
theorem lY{W:World}{A:aa}{v:Value}{xs:List Ev}{slot:Int}(hr:Rd W [A] bP 3 v xs)(hl:xs.length≤1000000000):Fn Tryz.prog W 111 [v,.int .i64 slot] [A] Unit (fun _=>.int .i64 (iY xs slot:Int)) (fun _=>True) (fun _=>[A]):=by
 refine Fn.intro (N:=37) func111 rfl ntmps111 rfl fun F=>?_
 haveI hRI:∀ (H:List aa) [bj H A],ax W H v bP 3 xs:=fun H h=>⟨hr.at h.has⟩
 show ar _ _ _ _ _ _ [A,F]
 refine J 19 ?_
 refine .aX (X:=Nat×Nat) [5,7,8,9,12,13,14,15,16,17,18,19,20,21,22,23,24,25,26,27,28,29,30,31,32,33,34,35] (fun z=>xs.length-z.1) (fun z=>z.1≤xs.length∧z.2≤z.1∧z.2=iY (xs.take z.1) slot) (fun z=>[(12,some (.int .i64 (z.1:Int))),(5,some (.int .i64 (z.2:Int)))]) (fun z=>[A,F]) (0,0) ?_ ?_ ?_ ?_
 ·exact⟨Nat.zero_le _,Nat.le_refl _,rfl⟩
 ·exact⟨rfl,rfl,trivial⟩
 ·exact fun w s=>aq.kept .auto w s
 rintro⟨k,c⟩ ⟨hk,hck,hc⟩
 simp only at hk hck hc
 refine JD 6 (fun h13=>?_) fun h13=>?_
 ·refine J 6 ?_
  obtain⟨e,hx⟩:=ak (show k<xs.length by omega)
  refine J 2 ?_
  refine .ai rfl (ae.alloc rfl zeroValue87 rfl) ?_
  rintro _ _ ⟨b7,rfl,rfl⟩
  refine J 6 ?_
  refine .c call140 rfl oO fun _ _=>?_
  refine J 14 ?_
  apply aM.eb 7 32 25 [25,26,27,28,29,30,31,32] rfl
  ·intro h25
   refine J 2 ?_
   apply aM.fA 4 31 27 [27,28,29,30,31] rfl
   ·intro h27
    refine J 5 ?_
    refine .eu .auto rfl (by first | exact fun _ h=>h | exact aq.kept .auto)
   ·intro h27
    refine J 5 ?_
    refine .eu .auto rfl (by first | exact fun _ h=>h | exact aq.kept .auto)
   refine J 2 ?_
   refine .eu .auto rfl (by first | exact fun _ h=>h | exact aq.kept .auto)
  ·intro h25
   refine J 8 ?_
   refine .eu .auto rfl (by first | exact fun _ h=>h | exact aq.kept .auto)
  refine JD 2 (fun h32=>?_) fun h32=>?_
  ·refine J 2 ?_
   refine .p (.fm (Y.add rfl rfl (by dsimp only;omega)) (show(c:Int)+1=((c+1:Nat):Int) from by omega)) ?_
   refine J 8 ?_
   refine .aw (k+1,c+1) .auto rfl ?_ ?_ ?_ ?_
   ·show xs.length-(k+1)<xs.length-k;omega
   ·exact⟨by show k+1≤_;omega,by show c+1≤k+1;omega,by rw[HD hx h32, ← hc]⟩
   ·exact⟨rfl,rfl,trivial⟩
   ·exact fun w s=>aq.kept .auto w s
  ·refine J 7 ?_
   refine .aw (k+1,c) .auto rfl ?_ ?_ ?_ ?_
   ·show xs.length-(k+1)<xs.length-k;omega
   ·exact⟨by show k+1≤_;omega,by show c≤k+1;omega,by rw[JI hx h32, ← hc]⟩
   ·exact⟨rfl,rfl,trivial⟩
   ·exact fun w s=>aq.kept .auto w s
 ·obtain rfl:k=xs.length:=by omega
  rw[List.take_length] at hc
  subst hc
  exact JR 12 ()
theorem uH{W:World}{b:Nat}{rs:List (List Int)}{t:Int}(hl:rs.length≤64∧ ∀ r∈rs,r.length≤1000000000):Fn Tryz.prog W 109 [ptr b,.int .i64 t] [fz b rs] Unit (fun _=>.tuple #[.int .i64 (whereFrom t rs 0).1,.bool (whereFrom t rs 0).2]) (fun _=>True) (fun _=>[fz b rs]):=by
 refine Fn.intro (N:=35) func109 rfl ntmps109 rfl fun F=>?_
 show ar _ _ _ _ _ _ [fz b rs,F]
 refine .o2 (C:=fz b rs) .auto rfl ?_
 rintro v xs hxs
 have hxl:=ay hxs
 refine J 13 ?_
 refine .eK rfl ?_
 refine J 14 ?_
 refine .aX (X:=Nat) [4,5,6,7,9,17,18,19,20,21,22,23,24,25,26,27,28,29,30,31,32,33,34] (fun z=>rs.length-z) (fun z=>z≤rs.length∧whereFrom t rs 0=whereFrom t (rs.drop z) z) (fun z=>[(17,some (.int .i64 (z:Int)))]) (fun z=>[arr b 0 [v],sl cQ 1 v xs,aO (fun x:Nat×List Int=>fh x.1 x.2) xs,F]) 0 ?_ ?_ ?_ ?_
 ·exact⟨Nat.zero_le _,by rw[List.drop_zero]⟩
 ·exact⟨rfl,trivial⟩
 ·exact fun w s=>aq.kept .auto w s
 rintro n ⟨hn,hw⟩
 refine JD 6 (fun h18=>?_) fun h18=>?_
 ·refine J 6 ?_
  obtain⟨x,hx⟩:=ak (show n<xs.length by omega)
  have hx2:=eH hxs hx
  have hxl2:=hl.2 x.2 (List.mem_of_getElem? hx2)
  refine J 9 ?_
  refine .fr .auto (cc (f:=fun x:Nat×List Int=>fh x.1 x.2) hx) ?_
  refine J 1 ?_
  refine .c call104 rfl (ra (l:=x.2) (hl.2 x.2 (List.mem_of_getElem? hx2))) fun u23 _=>?_
  refine .to (A:=aO (fun x:Nat×List Int=>fh x.1 x.2) xs) .auto (cK (f:=fun x:Nat×List Int=>fh x.1 x.2) hx) ?_
  refine J 5 ?_
  refine .aX (X:=Nat) [4,5,9,25,26,27,28,29,30,31,32,33] (fun z=>x.2.length-z) (fun z=>z≤x.2.length∧t ∉ x.2.take z) (fun z=>[(25,some (.int .i64 (z:Int)))]) (fun z=>[sl au 1 u23 x.2,arr b 0 [v],sl cQ 1 v xs,aO (fun x:Nat×List Int=>fh x.1 x.2) xs,F]) 0 ?_ ?_ ?_ ?_
  ·exact⟨Nat.zero_le _,by simp⟩
  ·exact⟨rfl,trivial⟩
  ·exact fun w s=>aq.kept .auto w s
  rintro j ⟨hj,hjt⟩
  refine JD 6 (fun h26=>?_) fun h26=>?_
  ·refine J 6 ?_
   obtain⟨y,hy⟩:=ak (show j<x.2.length by omega)
   refine J 1 ?_
   refine .p (.lr rfl hy) ?_
   refine JD 10 (fun h31=>?_) fun h31=>?_
   ·rw[hw,EI hx2 (by rw[← h31];exact List.mem_of_getElem? hy)]
    exact JR 17 ()
   ·refine J 7 ?_
    refine .aw (j+1) .auto rfl ?_ ?_ ?_ ?_
    ·omega
    ·exact⟨by omega,by rw[aQ hy,List.mem_append];rintro(h | h);exact hjt h;exact h31 (List.mem_singleton.1 h).symm⟩
    ·exact⟨rfl,trivial⟩
    ·exact fun w s=>aq.kept .auto w s
  ·obtain rfl:j=x.2.length:=by omega
   rw[List.take_length] at hjt
   refine J 10 ?_
   refine .aw (n+1) .auto rfl ?_ ?_ ?_ ?_
   ·omega
   ·exact⟨by omega,by rw[hw,HE hx2 hjt]⟩
   ·exact⟨rfl,trivial⟩
   ·exact fun w s=>aq.kept .auto w s
 ·obtain rfl:n=rs.length:=by omega
  rw[hw,EJ (Nat.le_refl _)]
  exact JR 12 ()
theorem ju{W:World}{b n:Nat}{slot kind at_:Int}{v:Value}{ys:List mf}(hl:ys.length+n≤1000000000):Fn Tryz.prog W 110 [ptr b,.int .i64 (n:Int),.int .i64 kind,.int .i64 at_] [arr b 0 [.int .i64 slot,v],sl gr 2 v ys] Value (fun _=>.tuple #[]) (fun _=>True) (fun u=>[arr b 0 [.int .i64 slot,u],sl gr 2 u (ys++List.replicate n ⟨kind,at_⟩)]):=by
 refine Fn.intro (N:=24) func110 rfl ntmps110 rfl fun F=>?_
 show ar _ _ _ _ _ _ [arr b 0 [.int .i64 slot,v],sl gr 2 v ys,F]
 refine J 7 ?_
 refine .aX (X:=Nat×Value) [9,10,11,12,13,14,15,16,17,18,19,20,21,22,23] (fun z=>n-z.1) (fun z=>z.1≤n) (fun z=>[(9,some (.int .i64 (z.1:Int)))]) (fun z=>[arr b 0 [.int .i64 slot,z.2],sl gr 2 z.2 (ys++List.replicate z.1 ⟨kind,at_⟩),F]) (0,v) ?_ ?_ ?_ ?_
 ·exact Nat.zero_le _
 ·exact⟨rfl,trivial⟩
 ·show ∀ w,Sat _ w _→Sat _ w (seps [_,sl gr 2 v (ys++[]),F])
  rw[List.append_nil]
  exact fun w s=>aq.kept .auto w s
 rintro⟨j,u⟩ hj
 simp only at hj
 refine JD 6 (fun h10=>?_) fun h10=>?_
 ·refine J 12 ?_
  refine .p (.fF (fun v1 v2=>[v1,v2]) rfl rfl (by kernel_rfl)) ?_
  refine .ai rfl (ae.gC 97 rfl rfl (by kernel_rfl)) ?_
  rintro _ _ ⟨b19,rfl,rfl⟩
  refine .ai rfl (ae.gh (enc:=gr) (k:=2) (⟨kind,at_⟩:mf) rfl underlying93 underlying93 typeInfo97 rfl rfl rfl (by decide) rfl rfl rfl .auto rfl .auto (by rw[List.length_append,List.length_replicate];omega) rfl) ?_
  rintro _ _ ⟨v20,rfl,rfl⟩
  refine J 2 ?_
  refine .ai rfl (ae.mr sizeOf93 rfl rfl rfl) ?_
  rintro _ _ ⟨rfl,rfl⟩
  refine J 7 ?_
  refine .aw (j+1,v20) .auto rfl ?_ ?_ ?_ ?_
  ·show n-(j+1)<n-j;omega
  ·show j+1≤n;omega
  ·exact⟨rfl,trivial⟩
  ·show ∀ w,Sat _ w _→Sat _ w (seps [_,sl gr 2 v20 (ys++List.replicate (j+1) ⟨kind,at_⟩),F])
   rw[List.replicate_succ', ← List.append_assoc]
   exact fun w s=>aq.kept .auto w s
 ·obtain rfl:n=j:=by omega
  refine J 4 ?_
  refine .xA rfl fun w s=>⟨_,?_,trivial,aj .auto s⟩
  rfl
theorem Cd{W:World}{b c bs br:Nat}{slot p:Int}{v:Value}{ys:List mf}{l:Lib}(hl:∀ v∈l.vs,v.evs.length≤300000000)(hy:ys.length≤600000000):Fn Tryz.prog W 108 [ptr b,ptr c,.int .i64 p] [arr b 0 [.int .i64 slot,v],sl gr 2 v ys,aW c bs br l] Value (fun _=>.tuple #[]) (fun _=>True) (fun u=>[arr b 0 [.int .i64 slot,u],sl gr 2 u (ys++dj l slot p),aW c bs br l]):=by
 refine Fn.intro (N:=43) func108 rfl ntmps108 rfl fun F=>?_
 show ar _ _ _ _ _ _ [arr b 0 [.int .i64 slot,v],sl gr 2 v ys,aW c bs br l,F]
 have hle:=Du hl p
 have htl:=yx (bS l p).evs slot
 refine J 4 ?_
 refine .c call41 rfl (Az (b:=c) (l:=l) (p:=p) (fun v hv=>Nat.le_trans (hl v hv) (by decide))) fun u13 _=>?_
 refine .cr (fun w s=>Rd.isSl (Rd.sl .auto) w s) fun hu13=>?_
 refine J 3 ?_
 refine .ai rfl (ae.alloc rfl zeroValue80 rfl) ?_
 rintro _ _ ⟨b6,rfl,rfl⟩
 refine .ai rfl (ae.IX (by exact sizeOf80) rfl rfl (j5 hu13) rfl) ?_
 rintro _ _ ⟨rfl,rfl⟩
 refine J 7 ?_
 refine .c call147 rfl (rZ (x:=bS l p) hu13) fun _ _=>?_
 refine J 11 ?_
 apply aM.fI 7 29 22 [22,23,24,25,26,27,28,29] rfl
 ·intro h22
  exact JS 8
 ·intro h22
  exact JS 8
 refine JD 2 (fun h29=>?_) fun h29=>?_
 ·refine J 3 ?_
  refine .c call110 rfl (ju (n:=1) (ys:=ys) (by omega)) fun u32 _=>?_
  refine J 2 ?_
  refine .draw [arr b 0 [.int .i64 slot,u32]] [0,1,1,1,1,1,1,2,0,3] rfl (by kernel_rfl) ?_
  refine J 7 ?_
  refine .c2 call111 rfl (lY (A:=sl bP 3 u13 (bS l p).evs) (Rd.sl .here) (by omega)) fun _ _=>?_
  refine J 1 ?_
  refine .c call110 rfl (ju (ys:=ys++List.replicate 1 ⟨1,p⟩) (by simp;omega)) fun u42 _=>?_
  refine J 1 ?_
  rw[JK h29]
  refine .xA rfl fun w s=>⟨_,?_,trivial,aj .auto s⟩
  rfl
 ·refine J 2 ?_
  refine .draw [arr b 0 [.int .i64 slot,v]] [0,1,1,1,1,1,1,2,0,3] rfl (by kernel_rfl) ?_
  refine J 7 ?_
  refine .c2 call111 rfl (lY (A:=sl bP 3 u13 (bS l p).evs) (Rd.sl .here) (by omega)) fun _ _=>?_
  refine J 1 ?_
  refine .c call110 rfl (ju (ys:=ys) (by omega)) fun u42 _=>?_
  refine J 1 ?_
  rw[LN h29]
  refine .xA rfl fun w s=>⟨_,?_,trivial,aj .auto s⟩
  rfl
end Go.SLYthlllpngkljgfaaGreat
namespace Go.SLYthlllpngkljgfaaGreat
open Go Go.RowKit Go.Proofs Go.Proofs.Tryz
attribute [local irreducible] ar aM bm bA bE Y
theorem JY{W:World}{v:Value}{xs:List eZ}{i:Nat}(hi:i<xs.length)(_hl:xs.length≤1000000000):Fn Tryz.prog W 259 [v,.int .i64 (i:Int),.int .i64 ((i+1:Nat):Int)] [sl dy 2 v xs] Value (fun u=>u) (fun _=>True) (fun u=>[sl dy 2 u (xs.eraseIdx i)]):=by
 refine Fn.intro (N:=33) func259 rfl ntmps259 rfl fun F=>?_
 show ar _ _ _ _ _ _ [sl dy 2 v xs,F]
 have h0:xs≠[]:=by intro e;rw[e] at hi;simp at hi
 refine .cr (fun w s=>s.fact .auto (mO h0)) fun e=>?_
 obtain⟨b,cap,rfl,hc⟩:=e
 refine .s (.r (.p (.a rfl) (.n (.t (.s (.r (.p (.m rfl) (.p (.m rfl) (.p (.m rfl) (.p (.m rfl) (.p (.len rfl) ?_)))))))))))
 refine .p (.slice3 i (i+1) xs.length underlying202 sizeOf324 rfl rfl rfl rfl rfl rfl rfl (by omega) (by omega) hc) ?_
 refine .n (.t (.s (.s (.r (.p (.m rfl) (.p (.m rfl) (.p (.eql rfl rfl) (.n (.t (.dD rfl (fun h16=>?_) (fun h16=>?_)))))))))))
 ·exact absurd h16 (by omega)
 ·refine .v (.t (.s (.r (.p (.m rfl) (.p (.len rfl) (.p (.a rfl) (.n (.t (.s ?_)))))))))
  refine .draw [] [1,1,1,1,1,1,3,1] rfl (by kernel_rfl) ?_
  refine .p (.m rfl) (.p (.m rfl) ?_)
  refine .p (.j4 i underlying202 sizeOf324 rfl rfl rfl (by omega)) ?_
  refine .p (.m rfl) (.p (.m rfl) ?_)
  refine .p (.ns (i+1) underlying202 sizeOf324 rfl rfl rfl (by omega)) ?_
  refine .d3 rfl (ae.kA rfl underlying202 underlying202 typeInfo324 rfl rfl rfl .auto (by omega) (by omega) (Gd _) h0) ?_
  rintro _ _ ⟨rfl,rfl⟩
  refine .p (.a rfl) (.n (.t (.s (.r (.p (.m rfl) (.p (.m rfl) (.p (.lens rfl) (.p (.m rfl) ?_))))))))
  refine .p (.td (i+(xs.length-(i+1))) xs.length underlying202 sizeOf324 rfl rfl rfl rfl rfl (by omega) hc) ?_
  refine .ai rfl (ae.pf (xs:=xs.take i++xs.drop (i+1)) underlying202 zeroValue324 rfl rfl rfl rfl (by rw[List.length_append,List.length_take,List.length_drop];omega) (by omega) .auto) ?_
  rintro _ _ ⟨rfl,rfl⟩
  refine .n (.t (.s (.r (.p (.m rfl) (.p (.a rfl) (.n (.t (.e ?_))))))))
  rw[mP]
  refine .aJ rfl rfl fun w s=>⟨_,?_,trivial,aj .auto s⟩
  rfl
theorem JZ{W:World}{v:Value}{xs:List vR}{i:Nat}(hi:i<xs.length)(_hl:xs.length≤1000000000):Fn Tryz.prog W 151 [v,.int .i64 (i:Int),.int .i64 ((i+1:Nat):Int)] [sl gK 4 v xs] Value (fun u=>u) (fun _=>True) (fun u=>[sl gK 4 u (xs.eraseIdx i)]):=by
 refine Fn.intro (N:=33) func151 rfl ntmps151 rfl fun F=>?_
 show ar _ _ _ _ _ _ [sl gK 4 v xs,F]
 have h0:xs≠[]:=by intro e;rw[e] at hi;simp at hi
 refine .cr (fun w s=>s.fact .auto (mO h0)) fun e=>?_
 obtain⟨b,cap,rfl,hc⟩:=e
 refine .s (.r (.p (.a rfl) (.n (.t (.s (.r (.p (.m rfl) (.p (.m rfl) (.p (.m rfl) (.p (.m rfl) (.p (.len rfl) ?_)))))))))))
 refine .p (.slice3 i (i+1) xs.length underlying207 sizeOf156 rfl rfl rfl rfl rfl rfl rfl (by omega) (by omega) hc) ?_
 refine .n (.t (.s (.s (.r (.p (.m rfl) (.p (.m rfl) (.p (.eql rfl rfl) (.n (.t (.dD rfl (fun h16=>?_) (fun h16=>?_)))))))))))
 ·exact absurd h16 (by omega)
 ·refine .v (.t (.s (.r (.p (.m rfl) (.p (.len rfl) (.p (.a rfl) (.n (.t (.s ?_)))))))))
  refine .draw [] [1,1,1,1,1,1,3,1] rfl (by kernel_rfl) ?_
  refine .p (.m rfl) (.p (.m rfl) ?_)
  refine .p (.j4 i underlying207 sizeOf156 rfl rfl rfl (by omega)) ?_
  refine .p (.m rfl) (.p (.m rfl) ?_)
  refine .p (.ns (i+1) underlying207 sizeOf156 rfl rfl rfl (by omega)) ?_
  refine .d3 rfl (ae.kA rfl underlying207 underlying207 typeInfo156 rfl rfl rfl .auto (by omega) (by omega) (Gc _) h0) ?_
  rintro _ _ ⟨rfl,rfl⟩
  refine .p (.a rfl) (.n (.t (.s (.r (.p (.m rfl) (.p (.m rfl) (.p (.lens rfl) (.p (.m rfl) ?_))))))))
  refine .p (.td (i+(xs.length-(i+1))) xs.length underlying207 sizeOf156 rfl rfl rfl rfl rfl (by omega) hc) ?_
  refine .ai rfl (ae.pf (xs:=xs.take i++xs.drop (i+1)) underlying207 zeroValue156 rfl rfl rfl rfl (by rw[List.length_append,List.length_take,List.length_drop];omega) (by omega) .auto) ?_
  rintro _ _ ⟨rfl,rfl⟩
  refine .n (.t (.s (.r (.p (.m rfl) (.p (.a rfl) (.n (.t (.e ?_))))))))
  rw[mP]
  refine .aJ rfl rfl fun w s=>⟨_,?_,trivial,aj .auto s⟩
  rfl
theorem J0{W:World}{v:Value}{xs:List Ptr}{i:Nat}(hi:i<xs.length)(_hl:xs.length≤1000000000):Fn Tryz.prog W 304 [v,.int .i64 (i:Int),.int .i64 ((i+1:Nat):Int)] [sl mn 2 v xs] Value (fun u=>u) (fun _=>True) (fun u=>[sl mn 2 u (xs.eraseIdx i)]):=by
 refine Fn.intro (N:=33) func304 rfl ntmps304 rfl fun F=>?_
 show ar _ _ _ _ _ _ [sl mn 2 v xs,F]
 have h0:xs≠[]:=by intro e;rw[e] at hi;simp at hi
 refine .cr (fun w s=>s.fact .auto (mO h0)) fun e=>?_
 obtain⟨b,cap,rfl,hc⟩:=e
 refine .s (.r (.p (.a rfl) (.n (.t (.s (.r (.p (.m rfl) (.p (.m rfl) (.p (.m rfl) (.p (.m rfl) (.p (.len rfl) ?_)))))))))))
 refine .p (.slice3 i (i+1) xs.length underlying213 sizeOf368 rfl rfl rfl rfl rfl rfl rfl (by omega) (by omega) hc) ?_
 refine .n (.t (.s (.s (.r (.p (.m rfl) (.p (.m rfl) (.p (.eql rfl rfl) (.n (.t (.dD rfl (fun h16=>?_) (fun h16=>?_)))))))))))
 ·exact absurd h16 (by omega)
 ·refine .v (.t (.s (.r (.p (.m rfl) (.p (.len rfl) (.p (.a rfl) (.n (.t (.s ?_)))))))))
  refine .draw [] [1,1,1,1,1,1,3,1] rfl (by kernel_rfl) ?_
  refine .p (.m rfl) (.p (.m rfl) ?_)
  refine .p (.j4 i underlying213 sizeOf368 rfl rfl rfl (by omega)) ?_
  refine .p (.m rfl) (.p (.m rfl) ?_)
  refine .p (.ns (i+1) underlying213 sizeOf368 rfl rfl rfl (by omega)) ?_
  refine .d3 rfl (ae.kA rfl underlying213 underlying213 typeInfo368 rfl rfl rfl .auto (by omega) (by omega) (Ge _) h0) ?_
  rintro _ _ ⟨rfl,rfl⟩
  refine .p (.a rfl) (.n (.t (.s (.r (.p (.m rfl) (.p (.m rfl) (.p (.lens rfl) (.p (.m rfl) ?_))))))))
  refine .p (.td (i+(xs.length-(i+1))) xs.length underlying213 sizeOf368 rfl rfl rfl rfl rfl (by omega) hc) ?_
  refine .ai rfl (ae.pf (xs:=xs.take i++xs.drop (i+1)) underlying213 zeroValue368 rfl rfl rfl rfl (by rw[List.length_append,List.length_take,List.length_drop];omega) (by omega) .auto) ?_
  rintro _ _ ⟨rfl,rfl⟩
  refine .n (.t (.s (.r (.p (.m rfl) (.p (.a rfl) (.n (.t (.e ?_))))))))
  rw[mP]
  refine .aJ rfl rfl fun w s=>⟨_,?_,trivial,aj .auto s⟩
  rfl
theorem yG{W:World}{v:Value}{xs:List Int}{i:Nat}(hi:i<xs.length)(_hl:xs.length≤1000000000):Fn Tryz.prog W 221 [v,.int .i64 (i:Int),.int .i64 ((i+1:Nat):Int)] [sl au 1 v xs] Value (fun u=>u) (fun _=>True) (fun u=>[sl au 1 u (xs.eraseIdx i)]):=by
 refine Fn.intro (N:=33) func221 rfl ntmps221 rfl fun F=>?_
 show ar _ _ _ _ _ _ [sl au 1 v xs,F]
 have h0:xs≠[]:=by intro e;rw[e] at hi;simp at hi
 refine .cr (fun w s=>s.fact .auto (mO h0)) fun e=>?_
 obtain⟨b,cap,rfl,hc⟩:=e
 refine .s (.r (.p (.a rfl) (.n (.t (.s (.r (.p (.m rfl) (.p (.m rfl) (.p (.m rfl) (.p (.m rfl) (.p (.len rfl) ?_)))))))))))
 refine .p (.slice3 i (i+1) xs.length underlying50 sizeOf3 rfl rfl rfl rfl rfl rfl rfl (by omega) (by omega) hc) ?_
 refine .n (.t (.s (.s (.r (.p (.m rfl) (.p (.m rfl) (.p (.eql rfl rfl) (.n (.t (.dD rfl (fun h16=>?_) (fun h16=>?_)))))))))))
 ·exact absurd h16 (by omega)
 ·refine .v (.t (.s (.r (.p (.m rfl) (.p (.len rfl) (.p (.a rfl) (.n (.t (.s ?_)))))))))
  refine .draw [] [1,1,1,1,1,1,3,1] rfl (by kernel_rfl) ?_
  refine .p (.m rfl) (.p (.m rfl) ?_)
  refine .p (.j4 i underlying50 sizeOf3 rfl rfl rfl (by omega)) ?_
  refine .p (.m rfl) (.p (.m rfl) ?_)
  refine .p (.ns (i+1) underlying50 sizeOf3 rfl rfl rfl (by omega)) ?_
  refine .d3 rfl (ae.kA rfl underlying50 underlying50 typeInfo3 rfl rfl rfl .auto (by omega) (by omega) (pq _) h0) ?_
  rintro _ _ ⟨rfl,rfl⟩
  refine .p (.a rfl) (.n (.t (.s (.r (.p (.m rfl) (.p (.m rfl) (.p (.lens rfl) (.p (.m rfl) ?_))))))))
  refine .p (.td (i+(xs.length-(i+1))) xs.length underlying50 sizeOf3 rfl rfl rfl rfl rfl (by omega) hc) ?_
  refine .ai rfl (ae.pf (xs:=xs.take i++xs.drop (i+1)) underlying50 zeroValue3 rfl rfl rfl rfl (by rw[List.length_append,List.length_take,List.length_drop];omega) (by omega) .auto) ?_
  rintro _ _ ⟨rfl,rfl⟩
  refine .n (.t (.s (.r (.p (.m rfl) (.p (.a rfl) (.n (.t (.e ?_))))))))
  rw[mP]
  refine .aJ rfl rfl fun w s=>⟨_,?_,trivial,aj .auto s⟩
  rfl
theorem J1{W:World}{v:Value}{xs:List Int}{i:Nat}(hi:i<xs.length)(_hl:xs.length≤1000000000):Fn Tryz.prog W 303 [v,.int .i64 (i:Int),.int .i64 ((i+1:Nat):Int)] [sl dh 1 v xs] Value (fun u=>u) (fun _=>True) (fun u=>[sl dh 1 u (xs.eraseIdx i)]):=by
 refine Fn.intro (N:=33) func303 rfl ntmps303 rfl fun F=>?_
 show ar _ _ _ _ _ _ [sl dh 1 v xs,F]
 have h0:xs≠[]:=by intro e;rw[e] at hi;simp at hi
 refine .cr (fun w s=>s.fact .auto (mO h0)) fun e=>?_
 obtain⟨b,cap,rfl,hc⟩:=e
 refine .s (.r (.p (.a rfl) (.n (.t (.s (.r (.p (.m rfl) (.p (.m rfl) (.p (.m rfl) (.p (.m rfl) (.p (.len rfl) ?_)))))))))))
 refine .p (.slice3 i (i+1) xs.length underlying47 sizeOf110 rfl rfl rfl rfl rfl rfl rfl (by omega) (by omega) hc) ?_
 refine .n (.t (.s (.s (.r (.p (.m rfl) (.p (.m rfl) (.p (.eql rfl rfl) (.n (.t (.dD rfl (fun h16=>?_) (fun h16=>?_)))))))))))
 ·exact absurd h16 (by omega)
 ·refine .v (.t (.s (.r (.p (.m rfl) (.p (.len rfl) (.p (.a rfl) (.n (.t (.s ?_)))))))))
  refine .draw [] [1,1,1,1,1,1,3,1] rfl (by kernel_rfl) ?_
  refine .p (.m rfl) (.p (.m rfl) ?_)
  refine .p (.j4 i underlying47 sizeOf110 rfl rfl rfl (by omega)) ?_
  refine .p (.m rfl) (.p (.m rfl) ?_)
  refine .p (.ns (i+1) underlying47 sizeOf110 rfl rfl rfl (by omega)) ?_
  refine .d3 rfl (ae.kA rfl underlying47 underlying47 typeInfo110 rfl rfl rfl .auto (by omega) (by omega) (tm _) h0) ?_
  rintro _ _ ⟨rfl,rfl⟩
  refine .p (.a rfl) (.n (.t (.s (.r (.p (.m rfl) (.p (.m rfl) (.p (.lens rfl) (.p (.m rfl) ?_))))))))
  refine .p (.td (i+(xs.length-(i+1))) xs.length underlying47 sizeOf110 rfl rfl rfl rfl rfl (by omega) hc) ?_
  refine .ai rfl (ae.pf (xs:=xs.take i++xs.drop (i+1)) underlying47 zeroValue110 rfl rfl rfl rfl (by rw[List.length_append,List.length_take,List.length_drop];omega) (by omega) .auto) ?_
  rintro _ _ ⟨rfl,rfl⟩
  refine .n (.t (.s (.r (.p (.m rfl) (.p (.a rfl) (.n (.t (.e ?_))))))))
  rw[mP]
  refine .aJ rfl rfl fun w s=>⟨_,?_,trivial,aj .auto s⟩
  rfl
theorem Ce{W:World}{A:aa}{v:Value}{xs:List eZ}{p:eZ→Bool}{g:Nat}{c:Value}(hr:Rd W [A] dy 2 v xs)(hl:xs.length≤1000000000)(hg:∀ args w,(callFunc g args).run Tryz.prog w = .ok (.enter g args) w)(hf:∀ x∈xs,Fn Tryz.prog W g [.agg (dy x).toArray,c] [A] Unit (fun _=>.bool (p x)) (fun _=>True) (fun _=>[A])):Fn Tryz.prog W 312 [v,.func (.func g) #[] #[c]] [A] Unit (fun _=>.int .i64 (idxP p xs 0)) (fun _=>True) (fun _=>[A]):=by
 refine Fn.intro (N:=19) func312 rfl ntmps312 rfl fun F=>?_
 haveI hRI:∀ (H:List aa) [bj H A],ax W H v dy 2 xs:=fun H h=>⟨hr.at h.has⟩
 show ar _ _ _ _ _ _ [A,F]
 refine J 14 ?_
 refine .aX (X:=Nat) [4,5,8,9,10,11,12,13,14,15,16,17,18] (fun k=>xs.length-k) (fun k=>k≤xs.length∧idxP p xs 0=idxP p (xs.drop k) k) (fun k=>[(8,some (.int .i64 (k:Int)))]) (fun k=>[A,F]) 0 ?_ ?_ ?_ ?_
 ·exact⟨Nat.zero_le _,by simp⟩
 ·exact⟨rfl,trivial⟩
 ·exact fun w s=>aq.kept .auto w s
 rintro k ⟨hk,hn⟩
 refine JD 6 (fun h9=>?_) fun h9=>?_
 ·refine J 15 ?_
  obtain⟨x,hx⟩:=ak (show k<xs.length by omega)
  refine J 2 ?_
  refine .ai rfl (ae.lf rfl rfl hg rfl (hf x (List.mem_of_getElem? hx)) .auto) ?_
  rintro _ _ ⟨⟨⟩, -,rfl,rfl⟩
  refine JD 2 (fun h16=>?_) fun h16=>?_
  ·refine J 12 ?_
   refine .aJ rfl rfl fun w s=>⟨(),?_,trivial,aj .auto s⟩
   rw[hn,jH hx h16]
  ·refine J 7 ?_
   refine .aw (k+1) .auto rfl ?_ ?_ ?_ ?_
   ·first | omega | (dsimp only;omega)
   ·exact⟨by omega,hn.trans (ik hx h16)⟩
   ·exact⟨rfl,trivial⟩
   ·exact fun w s=>aq.kept .auto w s
 ·refine J 11 ?_
  refine .aJ rfl rfl fun w s=>⟨(),?_,trivial,aj .auto s⟩
  rw[hn,jI (by omega)]
theorem vz{W:World}{A:aa}{v:Value}{xs:List eZ}{p:eZ→Bool}{g:Nat}{c:Value}(hr:Rd W [A] dy 2 v xs)(hl:xs.length≤1000000000)(hg:∀ args w,(callFunc g args).run Tryz.prog w = .ok (.enter g args) w)(hf:∀ x∈xs,Fn Tryz.prog W g [.agg (dy x).toArray,c] [A] Unit (fun _=>.bool (p x)) (fun _=>True) (fun _=>[A])):Fn Tryz.prog W 296 [v,.func (.func g) #[] #[c]] [A] Unit (fun _=>.bool (xs.any p)) (fun _=>True) (fun _=>[A]):=by
 refine Fn.intro (N:=9) func296 rfl ntmps296 rfl fun F=>?_
 show ar _ _ _ _ _ _ [A,F]
 refine J 9 ?_
 refine .c call312 rfl (Ce hr hl hg hf) fun _ _=>?_
 refine J 5 ?_
 refine .aJ rfl rfl fun w s=>⟨(),?_,trivial,aj .auto s⟩
 rw[← jJ xs 0]
theorem Cf{W:World}{A:aa}{v:Value}{xs:List vR}{p:vR→Bool}{g:Nat}{c:Value}(hr:Rd W [A] gK 4 v xs)(hl:xs.length≤1000000000)(hg:∀ args w,(callFunc g args).run Tryz.prog w = .ok (.enter g args) w)(hf:∀ x∈xs,Fn Tryz.prog W g [.agg (gK x).toArray,c] [A] Unit (fun _=>.bool (p x)) (fun _=>True) (fun _=>[A])):Fn Tryz.prog W 300 [v,.func (.func g) #[] #[c]] [A] Unit (fun _=>.int .i64 (idxP p xs 0)) (fun _=>True) (fun _=>[A]):=by
 refine Fn.intro (N:=19) func300 rfl ntmps300 rfl fun F=>?_
 haveI hRI:∀ (H:List aa) [bj H A],ax W H v gK 4 xs:=fun H h=>⟨hr.at h.has⟩
 show ar _ _ _ _ _ _ [A,F]
 refine J 14 ?_
 refine .aX (X:=Nat) [4,5,8,9,10,11,12,13,14,15,16,17,18] (fun k=>xs.length-k) (fun k=>k≤xs.length∧idxP p xs 0=idxP p (xs.drop k) k) (fun k=>[(8,some (.int .i64 (k:Int)))]) (fun k=>[A,F]) 0 ?_ ?_ ?_ ?_
 ·exact⟨Nat.zero_le _,by simp⟩
 ·exact⟨rfl,trivial⟩
 ·exact fun w s=>aq.kept .auto w s
 rintro k ⟨hk,hn⟩
 refine JD 6 (fun h9=>?_) fun h9=>?_
 ·refine J 15 ?_
  obtain⟨x,hx⟩:=ak (show k<xs.length by omega)
  refine J 2 ?_
  refine .ai rfl (ae.lf rfl rfl hg rfl (hf x (List.mem_of_getElem? hx)) .auto) ?_
  rintro _ _ ⟨⟨⟩, -,rfl,rfl⟩
  refine JD 2 (fun h16=>?_) fun h16=>?_
  ·refine J 12 ?_
   refine .aJ rfl rfl fun w s=>⟨(),?_,trivial,aj .auto s⟩
   rw[hn,jH hx h16]
  ·refine J 7 ?_
   refine .aw (k+1) .auto rfl ?_ ?_ ?_ ?_
   ·first | omega | (dsimp only;omega)
   ·exact⟨by omega,hn.trans (ik hx h16)⟩
   ·exact⟨rfl,trivial⟩
   ·exact fun w s=>aq.kept .auto w s
 ·refine J 11 ?_
  refine .aJ rfl rfl fun w s=>⟨(),?_,trivial,aj .auto s⟩
  rw[hn,jI (by omega)]
theorem vA{W:World}{A:aa}{v:Value}{xs:List vR}{p:vR→Bool}{g:Nat}{c:Value}(hr:Rd W [A] gK 4 v xs)(hl:xs.length≤1000000000)(hg:∀ args w,(callFunc g args).run Tryz.prog w = .ok (.enter g args) w)(hf:∀ x∈xs,Fn Tryz.prog W g [.agg (gK x).toArray,c] [A] Unit (fun _=>.bool (p x)) (fun _=>True) (fun _=>[A])):Fn Tryz.prog W 283 [v,.func (.func g) #[] #[c]] [A] Unit (fun _=>.bool (xs.any p)) (fun _=>True) (fun _=>[A]):=by
 refine Fn.intro (N:=9) func283 rfl ntmps283 rfl fun F=>?_
 show ar _ _ _ _ _ _ [A,F]
 refine J 9 ?_
 refine .c call300 rfl (Cf hr hl hg hf) fun _ _=>?_
 refine J 5 ?_
 refine .aJ rfl rfl fun w s=>⟨(),?_,trivial,aj .auto s⟩
 rw[← jJ xs 0]
theorem Cg{W:World}{A:aa}{v:Value}{xs:List Ptr}{p:Ptr→Bool}{g:Nat}{c:Value}(hr:Rd W [A] mn 2 v xs)(hl:xs.length≤1000000000)(hg:∀ args w,(callFunc g args).run Tryz.prog w = .ok (.enter g args) w)(hf:∀ x∈xs,Fn Tryz.prog W g [.agg (mn x).toArray,c] [A] Unit (fun _=>.bool (p x)) (fun _=>True) (fun _=>[A])):Fn Tryz.prog W 313 [v,.func (.func g) #[] #[c]] [A] Unit (fun _=>.int .i64 (idxP p xs 0)) (fun _=>True) (fun _=>[A]):=by
 refine Fn.intro (N:=19) func313 rfl ntmps313 rfl fun F=>?_
 haveI hRI:∀ (H:List aa) [bj H A],ax W H v mn 2 xs:=fun H h=>⟨hr.at h.has⟩
 show ar _ _ _ _ _ _ [A,F]
 refine J 14 ?_
 refine .aX (X:=Nat) [4,5,8,9,10,11,12,13,14,15,16,17,18] (fun k=>xs.length-k) (fun k=>k≤xs.length∧idxP p xs 0=idxP p (xs.drop k) k) (fun k=>[(8,some (.int .i64 (k:Int)))]) (fun k=>[A,F]) 0 ?_ ?_ ?_ ?_
 ·exact⟨Nat.zero_le _,by simp⟩
 ·exact⟨rfl,trivial⟩
 ·exact fun w s=>aq.kept .auto w s
 rintro k ⟨hk,hn⟩
 refine JD 6 (fun h9=>?_) fun h9=>?_
 ·refine J 15 ?_
  obtain⟨x,hx⟩:=ak (show k<xs.length by omega)
  refine J 2 ?_
  refine .ai rfl (ae.lf rfl rfl hg rfl (hf x (List.mem_of_getElem? hx)) .auto) ?_
  rintro _ _ ⟨⟨⟩, -,rfl,rfl⟩
  refine JD 2 (fun h16=>?_) fun h16=>?_
  ·refine J 12 ?_
   refine .aJ rfl rfl fun w s=>⟨(),?_,trivial,aj .auto s⟩
   rw[hn,jH hx h16]
  ·refine J 7 ?_
   refine .aw (k+1) .auto rfl ?_ ?_ ?_ ?_
   ·first | omega | (dsimp only;omega)
   ·exact⟨by omega,hn.trans (ik hx h16)⟩
   ·exact⟨rfl,trivial⟩
   ·exact fun w s=>aq.kept .auto w s
 ·refine J 11 ?_
  refine .aJ rfl rfl fun w s=>⟨(),?_,trivial,aj .auto s⟩
  rw[hn,jI (by omega)]
theorem vB{W:World}{A:aa}{v:Value}{xs:List Ptr}{p:Ptr→Bool}{g:Nat}{c:Value}(hr:Rd W [A] mn 2 v xs)(hl:xs.length≤1000000000)(hg:∀ args w,(callFunc g args).run Tryz.prog w = .ok (.enter g args) w)(hf:∀ x∈xs,Fn Tryz.prog W g [.agg (mn x).toArray,c] [A] Unit (fun _=>.bool (p x)) (fun _=>True) (fun _=>[A])):Fn Tryz.prog W 301 [v,.func (.func g) #[] #[c]] [A] Unit (fun _=>.bool (xs.any p)) (fun _=>True) (fun _=>[A]):=by
 refine Fn.intro (N:=9) func301 rfl ntmps301 rfl fun F=>?_
 show ar _ _ _ _ _ _ [A,F]
 refine J 9 ?_
 refine .c call313 rfl (Cg hr hl hg hf) fun _ _=>?_
 refine J 5 ?_
 refine .aJ rfl rfl fun w s=>⟨(),?_,trivial,aj .auto s⟩
 rw[← jJ xs 0]
theorem Ch{W:World}{A:aa}{v:Value}{xs:List (Value×eN)}{p:(Value×eN)→Bool}{g:Nat}{c:Value}(hr:Rd W [A] mq 3 v xs)(hl:xs.length≤1000000000)(hg:∀ args w,(callFunc g args).run Tryz.prog w = .ok (.enter g args) w)(hf:∀ x∈xs,Fn Tryz.prog W g [.agg (mq x).toArray,c] [A] Unit (fun _=>.bool (p x)) (fun _=>True) (fun _=>[A])):Fn Tryz.prog W 295 [v,.func (.func g) #[] #[c]] [A] Unit (fun _=>.int .i64 (idxP p xs 0)) (fun _=>True) (fun _=>[A]):=by
 refine Fn.intro (N:=19) func295 rfl ntmps295 rfl fun F=>?_
 haveI hRI:∀ (H:List aa) [bj H A],ax W H v mq 3 xs:=fun H h=>⟨hr.at h.has⟩
 show ar _ _ _ _ _ _ [A,F]
 refine J 14 ?_
 refine .aX (X:=Nat) [4,5,8,9,10,11,12,13,14,15,16,17,18] (fun k=>xs.length-k) (fun k=>k≤xs.length∧idxP p xs 0=idxP p (xs.drop k) k) (fun k=>[(8,some (.int .i64 (k:Int)))]) (fun k=>[A,F]) 0 ?_ ?_ ?_ ?_
 ·exact⟨Nat.zero_le _,by simp⟩
 ·exact⟨rfl,trivial⟩
 ·exact fun w s=>aq.kept .auto w s
 rintro k ⟨hk,hn⟩
 refine JD 6 (fun h9=>?_) fun h9=>?_
 ·refine J 15 ?_
  obtain⟨x,hx⟩:=ak (show k<xs.length by omega)
  refine J 2 ?_
  refine .ai rfl (ae.lf rfl rfl hg rfl (hf x (List.mem_of_getElem? hx)) .auto) ?_
  rintro _ _ ⟨⟨⟩, -,rfl,rfl⟩
  refine JD 2 (fun h16=>?_) fun h16=>?_
  ·refine J 12 ?_
   refine .aJ rfl rfl fun w s=>⟨(),?_,trivial,aj .auto s⟩
   rw[hn,jH hx h16]
  ·refine J 7 ?_
   refine .aw (k+1) .auto rfl ?_ ?_ ?_ ?_
   ·first | omega | (dsimp only;omega)
   ·exact⟨by omega,hn.trans (ik hx h16)⟩
   ·exact⟨rfl,trivial⟩
   ·exact fun w s=>aq.kept .auto w s
 ·refine J 11 ?_
  refine .aJ rfl rfl fun w s=>⟨(),?_,trivial,aj .auto s⟩
  rw[hn,jI (by omega)]
theorem vC{W:World}{A:aa}{v:Value}{xs:List (Value×eN)}{p:(Value×eN)→Bool}{g:Nat}{c:Value}(hr:Rd W [A] mq 3 v xs)(hl:xs.length≤1000000000)(hg:∀ args w,(callFunc g args).run Tryz.prog w = .ok (.enter g args) w)(hf:∀ x∈xs,Fn Tryz.prog W g [.agg (mq x).toArray,c] [A] Unit (fun _=>.bool (p x)) (fun _=>True) (fun _=>[A])):Fn Tryz.prog W 276 [v,.func (.func g) #[] #[c]] [A] Unit (fun _=>.bool (xs.any p)) (fun _=>True) (fun _=>[A]):=by
 refine Fn.intro (N:=9) func276 rfl ntmps276 rfl fun F=>?_
 show ar _ _ _ _ _ _ [A,F]
 refine J 9 ?_
 refine .c call295 rfl (Ch hr hl hg hf) fun _ _=>?_
 refine J 5 ?_
 refine .aJ rfl rfl fun w s=>⟨(),?_,trivial,aj .auto s⟩
 rw[← jJ xs 0]
theorem Ci{W:World}{A:aa}{v:Value}{xs:List (Value×List eZ)}{p:(Value×List eZ)→Bool}{g:Nat}{c:Value}(hr:Rd W [A] ep 1 v xs)(hl:xs.length≤1000000000)(hg:∀ args w,(callFunc g args).run Tryz.prog w = .ok (.enter g args) w)(hf:∀ x∈xs,Fn Tryz.prog W g [.agg (ep x).toArray,c] [A] Unit (fun _=>.bool (p x)) (fun _=>True) (fun _=>[A])):Fn Tryz.prog W 298 [v,.func (.func g) #[] #[c]] [A] Unit (fun _=>.int .i64 (idxP p xs 0)) (fun _=>True) (fun _=>[A]):=by
 refine Fn.intro (N:=19) func298 rfl ntmps298 rfl fun F=>?_
 haveI hRI:∀ (H:List aa) [bj H A],ax W H v ep 1 xs:=fun H h=>⟨hr.at h.has⟩
 show ar _ _ _ _ _ _ [A,F]
 refine J 14 ?_
 refine .aX (X:=Nat) [4,5,8,9,10,11,12,13,14,15,16,17,18] (fun k=>xs.length-k) (fun k=>k≤xs.length∧idxP p xs 0=idxP p (xs.drop k) k) (fun k=>[(8,some (.int .i64 (k:Int)))]) (fun k=>[A,F]) 0 ?_ ?_ ?_ ?_
 ·exact⟨Nat.zero_le _,by simp⟩
 ·exact⟨rfl,trivial⟩
 ·exact fun w s=>aq.kept .auto w s
 rintro k ⟨hk,hn⟩
 refine JD 6 (fun h9=>?_) fun h9=>?_
 ·refine J 15 ?_
  obtain⟨x,hx⟩:=ak (show k<xs.length by omega)
  refine J 2 ?_
  refine .ai rfl (ae.lf rfl rfl hg rfl (hf x (List.mem_of_getElem? hx)) .auto) ?_
  rintro _ _ ⟨⟨⟩, -,rfl,rfl⟩
  refine JD 2 (fun h16=>?_) fun h16=>?_
  ·refine J 12 ?_
   refine .aJ rfl rfl fun w s=>⟨(),?_,trivial,aj .auto s⟩
   rw[hn,jH hx h16]
  ·refine J 7 ?_
   refine .aw (k+1) .auto rfl ?_ ?_ ?_ ?_
   ·first | omega | (dsimp only;omega)
   ·exact⟨by omega,hn.trans (ik hx h16)⟩
   ·exact⟨rfl,trivial⟩
   ·exact fun w s=>aq.kept .auto w s
 ·refine J 11 ?_
  refine .aJ rfl rfl fun w s=>⟨(),?_,trivial,aj .auto s⟩
  rw[hn,jI (by omega)]
theorem vD{W:World}{A:aa}{v:Value}{xs:List (Value×List eZ)}{p:(Value×List eZ)→Bool}{g:Nat}{c:Value}(hr:Rd W [A] ep 1 v xs)(hl:xs.length≤1000000000)(hg:∀ args w,(callFunc g args).run Tryz.prog w = .ok (.enter g args) w)(hf:∀ x∈xs,Fn Tryz.prog W g [.agg (ep x).toArray,c] [A] Unit (fun _=>.bool (p x)) (fun _=>True) (fun _=>[A])):Fn Tryz.prog W 279 [v,.func (.func g) #[] #[c]] [A] Unit (fun _=>.bool (xs.any p)) (fun _=>True) (fun _=>[A]):=by
 refine Fn.intro (N:=9) func279 rfl ntmps279 rfl fun F=>?_
 show ar _ _ _ _ _ _ [A,F]
 refine J 9 ?_
 refine .c call298 rfl (Ci hr hl hg hf) fun _ _=>?_
 refine J 5 ?_
 refine .aJ rfl rfl fun w s=>⟨(),?_,trivial,aj .auto s⟩
 rw[← jJ xs 0]
theorem Cj{W:World}{A:aa}{v:Value}{xs:List (Value×k5)}{p:(Value×k5)→Bool}{g:Nat}{c:Value}(hr:Rd W [A] mH 2 v xs)(hl:xs.length≤1000000000)(hg:∀ args w,(callFunc g args).run Tryz.prog w = .ok (.enter g args) w)(hf:∀ x∈xs,Fn Tryz.prog W g [.agg (mH x).toArray,c] [A] Unit (fun _=>.bool (p x)) (fun _=>True) (fun _=>[A])):Fn Tryz.prog W 299 [v,.func (.func g) #[] #[c]] [A] Unit (fun _=>.int .i64 (idxP p xs 0)) (fun _=>True) (fun _=>[A]):=by
 refine Fn.intro (N:=19) func299 rfl ntmps299 rfl fun F=>?_
 haveI hRI:∀ (H:List aa) [bj H A],ax W H v mH 2 xs:=fun H h=>⟨hr.at h.has⟩
 show ar _ _ _ _ _ _ [A,F]
 refine J 14 ?_
 refine .aX (X:=Nat) [4,5,8,9,10,11,12,13,14,15,16,17,18] (fun k=>xs.length-k) (fun k=>k≤xs.length∧idxP p xs 0=idxP p (xs.drop k) k) (fun k=>[(8,some (.int .i64 (k:Int)))]) (fun k=>[A,F]) 0 ?_ ?_ ?_ ?_
 ·exact⟨Nat.zero_le _,by simp⟩
 ·exact⟨rfl,trivial⟩
 ·exact fun w s=>aq.kept .auto w s
 rintro k ⟨hk,hn⟩
 refine JD 6 (fun h9=>?_) fun h9=>?_
 ·refine J 15 ?_
  obtain⟨x,hx⟩:=ak (show k<xs.length by omega)
  refine J 2 ?_
  refine .ai rfl (ae.lf rfl rfl hg rfl (hf x (List.mem_of_getElem? hx)) .auto) ?_
  rintro _ _ ⟨⟨⟩, -,rfl,rfl⟩
  refine JD 2 (fun h16=>?_) fun h16=>?_
  ·refine J 12 ?_
   refine .aJ rfl rfl fun w s=>⟨(),?_,trivial,aj .auto s⟩
   rw[hn,jH hx h16]
  ·refine J 7 ?_
   refine .aw (k+1) .auto rfl ?_ ?_ ?_ ?_
   ·first | omega | (dsimp only;omega)
   ·exact⟨by omega,hn.trans (ik hx h16)⟩
   ·exact⟨rfl,trivial⟩
   ·exact fun w s=>aq.kept .auto w s
 ·refine J 11 ?_
  refine .aJ rfl rfl fun w s=>⟨(),?_,trivial,aj .auto s⟩
  rw[hn,jI (by omega)]
theorem vE{W:World}{A:aa}{v:Value}{xs:List (Value×k5)}{p:(Value×k5)→Bool}{g:Nat}{c:Value}(hr:Rd W [A] mH 2 v xs)(hl:xs.length≤1000000000)(hg:∀ args w,(callFunc g args).run Tryz.prog w = .ok (.enter g args) w)(hf:∀ x∈xs,Fn Tryz.prog W g [.agg (mH x).toArray,c] [A] Unit (fun _=>.bool (p x)) (fun _=>True) (fun _=>[A])):Fn Tryz.prog W 281 [v,.func (.func g) #[] #[c]] [A] Unit (fun _=>.bool (xs.any p)) (fun _=>True) (fun _=>[A]):=by
 refine Fn.intro (N:=9) func281 rfl ntmps281 rfl fun F=>?_
 show ar _ _ _ _ _ _ [A,F]
 refine J 9 ?_
 refine .c call299 rfl (Cj hr hl hg hf) fun _ _=>?_
 refine J 5 ?_
 refine .aJ rfl rfl fun w s=>⟨(),?_,trivial,aj .auto s⟩
 rw[← jJ xs 0]
end Go.SLYthlllpngkljgfaaGreat
namespace Go.SLYthlllpngkljgfaaGreat
open Go Go.RowKit Go.Proofs Go.Proofs.Tryz
attribute [local irreducible] ar aM bm bA bE Y
theorem w8{W:World}{b:Nat}{l:List (Bool×Int)}{h:Int}(hl:jC l)(h0:0≤h):Fn Tryz.prog W 249 [ptr b,.int .u64 h] [mo b l] Unit (fun _=>MF (bC l h)) (fun _=>True) (fun _=>[mo b l]):=by
 refine Fn.intro (N:=50) func249 rfl ntmps249 rfl fun F=>?_
 show ar _ _ _ _ _ _ [mo b l,F]
 refine J 13 ?_
 refine .g (.fm (Y.rem rfl rfl (by omega)) (zJ h0)) ?_
 refine JD 4 (fun h13=>?_) fun h13=>?_
 ·refine J 8 ?_
  refine .fk rfl rfl rfl fun w s=>⟨(),?_,trivial,aj .auto s⟩
  rw[vX h13];rfl
 ·refine J 4 ?_
  refine .o1 (C:=mo b l) .auto rfl ?_
  rintro v -
  obtain⟨hl1,hl2⟩:=hl
  have hm:h % 65536<65536:=by omega
  have ho:(hh:hN h<l.length)→l[hN h]?=some (kq l (hN h)):=getD_some
  refine J 1 ?_
  refine .p (.fm (Y.rem rfl rfl (by omega)) (zJ h0)) ?_
  refine .p (.iD underlying110 underlying3 rfl (by omega)) ?_
  refine .p (.fm (Y.sub rfl rfl (by omega)) (Ji h13)) ?_
  refine J 14 ?_
  apply aM.eO 10 35 25 [25,26,27,28,29,30,31,32,33,34,35] rfl
  ·intro h25
   have hlt:hN h<l.length:=by omega
   refine J 5 ?_
   refine .g (.mC (hN h) underlying193 sizeOf257 rfl rfl Rd.s rfl hlt) ?_
   refine J 1 ?_
   refine .g (.ld rfl (Cell.CN Rd.s (ho (by omega)) (by rfl))) ?_
   exact JS 3
  ·intro h25
   exact JS 11
  refine J 1 ?_
  apply aM.fA 12 48 36 [36,37,38,39,40,41,42,43,44,45,46,47,48] rfl
  ·intro h36
   simp only[Bool.or_eq_false_iff,decide_eq_false_iff_not] at h36
   have hlt:hN h<l.length:=by omega
   have hob:=hl2 _ (List.mem_of_getElem? (ho hlt))
   refine J 5 ?_
   refine .g (.mC (hN h) underlying193 sizeOf257 rfl rfl Rd.s rfl hlt) ?_
   refine .g (.la rfl (Cells.rd Rd.s (ho (by omega)))) ?_
   refine J 1 ?_
   refine .cg call172 rfl (rY (o:=kq l (hN h)) (n:=hN h) (by omega) (by omega)) fun _ _=>?_
   exact JS 4
  ·intro h36
   exact JS 13
  refine JD 2 (fun h48=>?_) fun h48=>?_
  ·refine J 8 ?_
   refine .fk rfl rfl rfl fun w s=>⟨(),?_,trivial,aj .auto s⟩
   rw[find_eq h13,if_pos (by simpa using h48)];rfl
  ·refine J 10 ?_
   refine .fk rfl rfl rfl fun w s=>⟨(),?_,trivial,aj .auto s⟩
   rw[find_eq h13,if_neg (by simpa using h48)];rfl
theorem E4{W:World}{b:Nat}{l:List (Bool×Int)}{h:Int}(hl:jC l)(h0:0≤h):Fn Tryz.prog W 228 [ptr b,.int .u64 h] [mo b l] Int (fun e=>.int .i64 e) (fun _=>True) (fun _=>[mo b (slotFreed l h)]):=by
 refine Fn.intro (N:=22) func228 rfl ntmps228 rfl fun F=>?_
 show ar _ _ _ _ _ _ [mo b l,F]
 refine J 9 ?_
 refine .c call249 rfl (w8 hl h0) fun _ _=>?_
 refine JD 14 (fun h14=>?_) fun h14=>?_
 ·refine J 7 ?_
  rw[BB (show bC l h=none from by cases e:bC l h with
   | none=>rfl
   | some n=>rw[e] at h14;cases h14)]
  refine .aJ rfl rfl fun w s=>⟨3,?_,trivial,aj .auto s⟩
  rfl
 ·refine J 4 ?_
  refine .o1 (C:=mo b l) .auto rfl ?_
  rintro v -
  obtain⟨n,hn⟩:∃ n,bC l h=some n:=by cases e:bC l h with
   | none=>rw[e] at h14;cases h14
   | some n=>exact⟨n,rfl⟩
  obtain⟨hlt, -⟩:=C0 hn
  have ho:l[n]?=some (kq l n):=getD_some hlt
  obtain⟨u,tk,hut⟩:∃ u tk,kq l n=(u,tk):=⟨_,_,rfl⟩
  rw[hut] at ho
  refine J 5 ?_
  refine .p (.mC n underlying193 sizeOf257 rfl (by rw[hn];rfl) Rd.s rfl hlt) ?_
  refine J 1 ?_
  refine .ai rfl (ae.dA (x':=(false,tk)) rfl rfl sizeOf4 rfl ho (by decide) rfl .auto) ?_
  rintro _ _ ⟨rfl,rfl⟩
  refine J 8 ?_
  rw[tH hn,hut]
  refine .aJ rfl rfl fun w s=>⟨0,?_,trivial,aj .auto s⟩
  rfl
theorem M8{W:World}{A:aa}{x:eZ}{c:Nat}{who:Int}:Fn Tryz.prog W 297 [.agg (dy x).toArray,ptr c] [seps [arr c 0 [.int .i64 who],A]] Unit (fun _=>.bool (decide (x.who=who))) (fun _=>True) (fun _=>[seps [arr c 0 [.int .i64 who],A]]):=by
 refine Fn.intro (N:=8) func297 rfl ntmps297 rfl fun F=>?_
 show ar _ _ _ _ _ _ [seps [arr c 0 [.int .i64 who],A],F]
 refine .dY .auto ?_
 refine J 2 ?_
 refine .ai rfl (ae.box rfl rfl rfl) ?_
 rintro _ _ ⟨b2,rfl,rfl⟩
 exact JR 13 ()
theorem yH{W:World}{A:aa}{b:Nat}{u:Value}{cs:List Value}{l:List eZ}{who:Int}(hr:Rd W [A] dy 2 u l)(hl:l.length≤1000000):Fn Tryz.prog W 278 [ptr b,.int .i64 who] [arr b 0 (u::cs),A] Unit (fun _=>.bool (mj l who)) (fun _=>True) (fun _=>[arr b 0 (u::cs),A]):=by
 refine Fn.intro (N:=11) func278 rfl ntmps278 rfl fun F=>?_
 show ar _ _ _ _ _ _ [arr b 0 (u::cs),A,F]
 refine J 2 ?_
 refine .ai rfl (ae.box rfl rfl rfl) ?_
 rintro _ _ ⟨b3,rfl,rfl⟩
 refine J 9 ?_
 refine .p (.makeFunc rfl rfl) ?_
 refine .c call296 rfl (vz (A:=seps [arr b3 0 [.int .i64 who],A]) (p:=fun w=>decide (w.who=who)) (Rd.eU (Rd.at hr (.there .here))) (by omega) call297 (fun x _=>M8)) fun _ _=>?_
 refine .dY .auto ?_
 exact JR 4 ()
theorem H9{W:World}{A:aa}{x:Value×eN}{c:Nat}{who:Int}(hr:Rd W [A] dy 2 x.1 x.2.wait)(hl:x.2.wait.length≤1000000):Fn Tryz.prog W 277 [.agg (mq x).toArray,ptr c] [seps [arr c 0 [.int .i64 who],A]] Unit (fun _=>.bool (mj x.2.wait who)) (fun _=>True) (fun _=>[seps [arr c 0 [.int .i64 who],A]]):=by
 refine Fn.intro (N:=7) func277 rfl ntmps277 rfl fun F=>?_
 show ar _ _ _ _ _ _ [seps [arr c 0 [.int .i64 who],A],F]
 refine .dY .auto ?_
 refine J 2 ?_
 refine .ai rfl (ae.box rfl rfl rfl) ?_
 rintro _ _ ⟨b2,rfl,rfl⟩
 refine .mem (H':=[arr b2 0 (mq x),arr c 0 [.int .i64 who],A,F]) (fun w s=>s) ?_
 refine J 7 ?_
 refine .c call278 rfl (yH hr hl) fun _ _=>?_
 exact JR 4 ()
theorem Ia{W:World}{A:aa}{x:Value×List eZ}{c:Nat}{who:Int}(hr:Rd W [A] dy 2 x.1 x.2)(hl:x.2.length≤1000000):Fn Tryz.prog W 280 [.agg (ep x).toArray,ptr c] [seps [arr c 0 [.int .i64 who],A]] Unit (fun _=>.bool (mj x.2 who)) (fun _=>True) (fun _=>[seps [arr c 0 [.int .i64 who],A]]):=by
 refine Fn.intro (N:=6) func280 rfl ntmps280 rfl fun F=>?_
 show ar _ _ _ _ _ _ [seps [arr c 0 [.int .i64 who],A],F]
 refine .dY .auto ?_
 refine J 2 ?_
 refine .ai rfl (ae.box rfl rfl rfl) ?_
 rintro _ _ ⟨b2,rfl,rfl⟩
 refine .mem (H':=[arr b2 0 (ep x),arr c 0 [.int .i64 who],A,F]) (fun w s=>s) ?_
 refine J 6 ?_
 refine .c call278 rfl (yH hr hl) fun _ _=>?_
 exact JR 4 ()
theorem Ib{W:World}{A:aa}{x:Value×k5}{c:Nat}{who:Int}(hr:Rd W [A] dy 2 x.1 x.2.wait)(hl:x.2.wait.length≤1000000):Fn Tryz.prog W 282 [.agg (mH x).toArray,ptr c] [seps [arr c 0 [.int .i64 who],A]] Unit (fun _=>.bool (mj x.2.wait who)) (fun _=>True) (fun _=>[seps [arr c 0 [.int .i64 who],A]]):=by
 refine Fn.intro (N:=7) func282 rfl ntmps282 rfl fun F=>?_
 show ar _ _ _ _ _ _ [seps [arr c 0 [.int .i64 who],A],F]
 refine .dY .auto ?_
 refine J 2 ?_
 refine .ai rfl (ae.box rfl rfl rfl) ?_
 rintro _ _ ⟨b2,rfl,rfl⟩
 refine .mem (H':=[arr b2 0 (mH x),arr c 0 [.int .i64 who],A,F]) (fun w s=>s) ?_
 refine J 7 ?_
 refine .c call278 rfl (yH hr hl) fun _ _=>?_
 exact JR 4 ()
theorem oQ{W:World}{b:Nat}{g:Gates}{who:Int}{vm vc vs:Value}(hg:gO g):Fn Tryz.prog W 255 [ptr b,.int .i64 who] [arr b 0 [vm,vc,vs],dZ vm g.du,iE vc g.hU,fG vs g.ew] Unit (fun _=>.bool (g.waits who)) (fun _=>True) (fun _=>[arr b 0 [vm,vc,vs],dZ vm g.du,iE vc g.hU,fG vs g.ew]):=by
 refine Fn.intro (N:=27) func255 rfl ntmps255 rfl fun F=>?_
 show ar _ _ _ _ _ _ [arr b 0 [vm,vc,vs],dZ vm g.du,iE vc g.hU,fG vs g.ew,F]
 refine .o1 (C:=dZ vm g.du) .auto rfl ?_
 rintro xm hxm
 refine .o1 (C:=iE vc g.hU) .auto rfl ?_
 rintro xc hxc
 refine .o1 (C:=fG vs g.ew) .auto rfl ?_
 rintro xs hxs
 have hlm:=ay hxm
 have hlc:=ay hxc
 have hls:=ay hxs
 have hm2:∀ x∈xm,x.2.wait.length≤1000000:=fun x hx=>hg.mw _ (hxm ▸ List.mem_map_of_mem hx)
 have hc2:∀ x∈xc,x.2.length≤1000000:=fun x hx=>hg.cw _ (hxc ▸ List.mem_map_of_mem hx)
 have hs2:∀ x∈xs,x.2.wait.length≤1000000:=fun x hx=>hg.sw _ (hxs ▸ List.mem_map_of_mem hx)
 obtain⟨hg1,hg2,hg3, -, -, -⟩:=hg
 refine J 2 ?_
 refine .ai rfl (ae.box rfl rfl rfl) ?_
 rintro _ _ ⟨b3,rfl,rfl⟩
 refine J 9 ?_
 refine .p (.makeFunc rfl rfl) ?_
 refine .c call276 rfl (vC (A:=seps [arr b3 0 [.int .i64 who],seps [sl mq 3 vm xm,aO (fun x=>sl dy 2 x.1 x.2.wait) xm]]) (p:=fun x=>mj x.2.wait who) (Rd.eU (Rd.at (Rd.eU (Rd.sl .here)) (.there .here))) (by omega) call277 (fun x hx=>H9 (Rd.eU (xS (f:=fun x:Value×eN=>x.1) (g:=fun x=>x.2.wait) hx (.there .here))) (hm2 x hx))) fun _ _=>?_
 refine .dY .auto ?_
 refine .dY .auto ?_
 refine J 1 ?_
 apply aM.fA 7 18 11 [11,12,13,14,15,16,17,18] rfl
 ·intro h11
  refine J 4 ?_
  refine .g (.makeFunc rfl rfl) ?_
  refine .cg call279 rfl (vD (A:=seps [arr b3 0 [.int .i64 who],seps [sl ep 1 vc xc,aO (fun x=>sl dy 2 x.1 x.2) xc]]) (p:=fun x=>mj x.2 who) (Rd.eU (Rd.at (Rd.eU (Rd.sl .here)) (.there .here))) (by omega) call280 (fun x hx=>Ia (Rd.eU (xS (f:=fun x:Value×List eZ=>x.1) (g:=fun x=>x.2) hx (.there .here))) (hc2 x hx))) fun _ _=>?_
  refine .dY .auto ?_
  refine .dY .auto ?_
  exact JS 2
 ·intro h11
  exact JS 8
 refine J 1 ?_
 apply aM.fA 7 26 19 [19,20,21,22,23,24,25,26] rfl
 ·intro h19
  refine J 4 ?_
  refine .g (.makeFunc rfl rfl) ?_
  refine .cg call281 rfl (vE (A:=seps [arr b3 0 [.int .i64 who],seps [sl mH 2 vs xs,aO (fun x=>sl dy 2 x.1 x.2.wait) xs]]) (p:=fun x=>mj x.2.wait who) (Rd.eU (Rd.at (Rd.eU (Rd.sl .here)) (.there .here))) (by omega) call282 (fun x hx=>Ib (Rd.eU (xS (f:=fun x:Value×k5=>x.1) (g:=fun x=>x.2.wait) hx (.there .here))) (hs2 x hx))) fun _ _=>?_
  refine .dY .auto ?_
  refine .dY .auto ?_
  exact JS 2
 ·intro h19
  exact JS 8
 refine J 4 ?_
 refine .aJ rfl rfl fun w s=>⟨(),?_,trivial,aj .auto s⟩
 exact K2 (GF hxm hxc hxs)
theorem lZ{W:World}{b:Nat}{l:List (eN)}{m:Int}{vm vc vs:Value}:Fn Tryz.prog W 254 [ptr b,.int .i64 m] [arr b 0 [vm,vc,vs],dZ vm l] Unit (fun _=>KB vm l.length 3 m) (fun _=>True) (fun _=>[arr b 0 [vm,vc,vs],dZ vm l]):=by
 refine Fn.intro (N:=26) func254 rfl ntmps254 rfl fun F=>?_
 show ar _ _ _ _ _ _ [arr b 0 [vm,vc,vs],dZ vm l,F]
 refine .o1 (C:=dZ vm l) .auto rfl ?_
 rintro xs hxs
 have hl:=ay hxs
 refine J 15 ?_
 apply aM.eO 8 19 11 [11,12,13,14,15,16,17,18,19] rfl
 ·intro h11
  exact JS 9
 ·intro h11
  exact JS 9
 refine JD 2 (fun h19=>?_) fun h19=>?_
 ·simp only[Bool.or_eq_true,decide_eq_true_eq] at h19
  refine J 7 ?_
  refine .aJ rfl rfl fun w s=>⟨(),?_,trivial,aj .auto s⟩
  rw[sD (by omega)]
 ·simp only[Bool.or_eq_false_iff,decide_eq_false_iff_not] at h19
  refine J 9 ?_
  refine .p (.ix m.toNat rfl rfl (by omega) (by omega)) ?_
  refine J 4 ?_
  refine .aJ rfl rfl fun w s=>⟨(),?_,trivial,aj .auto s⟩
  rw[fe (by omega)]
theorem w9{W:World}{b:Nat}{l:List (List eZ)}{m:Int}{vm vc vs:Value}:Fn Tryz.prog W 238 [ptr b,.int .i64 m] [arr b 0 [vm,vc,vs],iE vc l] Unit (fun _=>KB vc l.length 1 m) (fun _=>True) (fun _=>[arr b 0 [vm,vc,vs],iE vc l]):=by
 refine Fn.intro (N:=26) func238 rfl ntmps238 rfl fun F=>?_
 show ar _ _ _ _ _ _ [arr b 0 [vm,vc,vs],iE vc l,F]
 refine .o1 (C:=iE vc l) .auto rfl ?_
 rintro xs hxs
 have hl:=ay hxs
 refine J 15 ?_
 apply aM.eO 8 19 11 [11,12,13,14,15,16,17,18,19] rfl
 ·intro h11
  exact JS 9
 ·intro h11
  exact JS 9
 refine JD 2 (fun h19=>?_) fun h19=>?_
 ·simp only[Bool.or_eq_true,decide_eq_true_eq] at h19
  refine J 7 ?_
  refine .aJ rfl rfl fun w s=>⟨(),?_,trivial,aj .auto s⟩
  rw[sD (by omega)]
 ·simp only[Bool.or_eq_false_iff,decide_eq_false_iff_not] at h19
  refine J 9 ?_
  refine .p (.ix m.toNat rfl rfl (by omega) (by omega)) ?_
  refine J 4 ?_
  refine .aJ rfl rfl fun w s=>⟨(),?_,trivial,aj .auto s⟩
  rw[fe (by omega)]
theorem AA{W:World}{b:Nat}{l:List (k5)}{m:Int}{vm vc vs:Value}:Fn Tryz.prog W 261 [ptr b,.int .i64 m] [arr b 0 [vm,vc,vs],fG vs l] Unit (fun _=>KB vs l.length 2 m) (fun _=>True) (fun _=>[arr b 0 [vm,vc,vs],fG vs l]):=by
 refine Fn.intro (N:=26) func261 rfl ntmps261 rfl fun F=>?_
 show ar _ _ _ _ _ _ [arr b 0 [vm,vc,vs],fG vs l,F]
 refine .o1 (C:=fG vs l) .auto rfl ?_
 rintro xs hxs
 have hl:=ay hxs
 refine J 15 ?_
 apply aM.eO 8 19 11 [11,12,13,14,15,16,17,18,19] rfl
 ·intro h11
  exact JS 9
 ·intro h11
  exact JS 9
 refine JD 2 (fun h19=>?_) fun h19=>?_
 ·simp only[Bool.or_eq_true,decide_eq_true_eq] at h19
  refine J 7 ?_
  refine .aJ rfl rfl fun w s=>⟨(),?_,trivial,aj .auto s⟩
  rw[sD (by omega)]
 ·simp only[Bool.or_eq_false_iff,decide_eq_false_iff_not] at h19
  refine J 9 ?_
  refine .p (.ix m.toNat rfl rfl (by omega) (by omega)) ?_
  refine J 4 ?_
  refine .aJ rfl rfl fun w s=>⟨(),?_,trivial,aj .auto s⟩
  rw[fe (by omega)]
theorem yI{W:World}{b o:Nat}{l:List eZ}{x:eZ}(hl:l.length≤100000000):Fn Tryz.prog W 258 [.pointer (some ⟨b,o,none⟩),.agg (dy x).toArray] [iR b o l] Unit (fun _=>.tuple #[]) (fun _=>True) (fun _=>[iR b o (l++[x])]):=by
 refine Fn.intro (N:=14) func258 rfl ntmps258 rfl fun F=>?_
 show ar _ _ _ _ _ _ [iR b o l,F]
 refine .o1 (C:=iR b o l) .auto rfl ?_
 rintro v -
 refine J 2 ?_
 refine .ai rfl (ae.box rfl rfl rfl) ?_
 rintro _ _ ⟨b3,rfl,rfl⟩
 refine .mem (H':=[arr b3 0 (dy x),arr b o [v],sl dy 2 v l,F]) (fun w s=>s) ?_
 refine J 2 ?_
 refine .draw [arr b o [v]] [0,0,0,0,0,1,2,2,1,1,3] rfl (by kernel_rfl) ?_
 refine J 6 ?_
 refine .d2 rfl Kept.auto (ae.gC 324 rfl rfl (by kernel_rfl)) (by rintro _ _ ⟨b10,rfl,rfl⟩;exact Kept.auto) ?_
 rintro _ _ ⟨b10,rfl,rfl⟩
 refine .mem (H':=[arr b10 0 (dy x),arr b3 0 (dy x),arr b o [v],sl dy 2 v l,F]) (fun w s=>s) ?_
 refine .d2 rfl Kept.auto (ae.gh (enc:=dy) (k:=2) x rfl underlying202 underlying202 typeInfo324 rfl rfl rfl (by decide) rfl rfl rfl .auto rfl .auto (by omega) rfl) (by rintro _ _ ⟨v11,rfl,rfl⟩;exact Kept.auto) ?_
 rintro _ _ ⟨v11,rfl,rfl⟩
 refine J 2 ?_
 refine .d3 rfl (ae.MA sizeOf202 rfl rfl rfl) ?_
 rintro _ _ ⟨rfl,rfl⟩
 exact JR 1 ()
theorem uI{W:World}{b o:Nat}{l:List eZ}{c:Int}(hl:l.length≤1000000):Fn Tryz.prog W 239 [.pointer (some ⟨b,o,none⟩),.int .i64 c] [iR b o l] Unit (fun _=>.tuple #[.agg (dy (aP l c).1).toArray,.bool (aP l c).2.1]) (fun _=>True) (fun _=>[iR b o (aP l c).2.2]):=by
 refine Fn.intro (N:=43) func239 rfl ntmps239 rfl fun F=>?_
 show ar _ _ _ _ _ _ [iR b o l,F]
 refine .o1 (C:=iR b o l) .auto rfl ?_
 rintro v -
 refine J 2 ?_
 refine .ai rfl (ae.alloc rfl zeroValue324 rfl) ?_
 rintro _ _ ⟨b4,rfl,rfl⟩
 refine JD 20 (fun h15=>?_) fun h15=>?_
 ·refine J 2 ?_
  refine .p (.mi ([(.int .i64 0),(.int .i64 0)]) (by kernel_rfl)) ?_
  refine J 6 ?_
  rw[xU (show l.length=0 by omega)]
  refine .fp rfl rfl isAgg324 (by exact sizeOf324) Cells.a rfl fun w s=>⟨(),?_,trivial,aj .auto s⟩
  rfl
 ·refine J 4 ?_
  have hpk:pick c l.length<l.length:=ly (by omega)
  refine J 2 ?_
  refine .p (.rem rfl rfl (by omega)) ?_
  refine J 1 ?_
  refine .p (.add rfl rfl (C1 (by omega) (by omega))) ?_
  refine J 1 ?_
  refine .p (.fm (Y.rem rfl rfl (by omega)) (pA (by omega))) ?_
  refine J 10 ?_
  refine .p (.mC (pick c l.length) underlying202 sizeOf324 rfl rfl Rd.s rfl hpk) ?_
  refine .p (.la rfl (Cells.rd Rd.s (getD_some (d:=⟨0,0⟩) hpk))) ?_
  refine .ai rfl (ae.alloc rfl zeroValue324 rfl) ?_
  rintro _ _ ⟨b8,rfl,rfl⟩
  refine J 13 ?_
  refine .c call259 rfl (JY hpk (by omega)) fun u39 _=>?_
  refine J 2 ?_
  refine .ai rfl (ae.MA sizeOf202 rfl rfl rfl) ?_
  rintro _ _ ⟨rfl,rfl⟩
  refine J 10 ?_
  rw[sC (show ¬l.length=0 by omega)]
  refine .fp rfl rfl isAgg324 (by exact sizeOf324) Cells.a rfl fun w s=>⟨(),?_,trivial,aj .auto s⟩
  rfl
theorem uJ{W:World}{b o:Nat}{m:eN}{who:Int}:Fn Tryz.prog W 256 [.pointer (some ⟨b,o,none⟩),.int .i64 who] [ed b o m] Unit (fun _=>.bool (m.is who)) (fun _=>True) (fun _=>[ed b o m]):=by
 refine Fn.intro (N:=17) func256 rfl ntmps256 rfl fun F=>?_
 show ar _ _ _ _ _ _ [ed b o m,F]
 refine .o1 (C:=ed b o m) .auto rfl ?_
 rintro u -
 refine J 12 ?_
 apply aM.fI 7 16 9 [9,10,11,12,13,14,15,16] rfl
 ·intro h9
  exact JS 8
 ·intro h9
  exact JS 8
 exact JR 4 ()
theorem uK{W:World}{b o:Nat}{m:eN}{who:Int}(hl:m.wait.length≤100000000):Fn Tryz.prog W 240 [.pointer (some ⟨b,o,none⟩),.int .i64 who] [ed b o m] Unit (fun _=>.bool (m.lock who).1) (fun _=>True) (fun _=>[ed b o (m.lock who).2]):=by
 refine Fn.intro (N:=22) func240 rfl ntmps240 rfl fun F=>?_
 show ar _ _ _ _ _ _ [ed b o m,F]
 refine .o1 (C:=ed b o m) .auto rfl ?_
 rintro u -
 refine JD 14 (fun h8=>?_) fun h8=>?_
 ·refine J 6 ?_
  refine .p (.hZ (fun v1=>[v1,(.int .i64 0)]) rfl (by kernel_rfl)) ?_
  refine .fr .auto (pD (b:=b) (o:=o) (u:=u)) ?_
  refine .c call258 rfl (yI (x:=⟨who,0⟩) hl) fun _ _=>?_
  refine J 9 ?_
  rw[xV h8]
  refine .to (A:=ed b o {m with wait:=m.wait++[⟨who,0⟩] }) (Bs:=[iR b o (m.wait++[⟨who,0⟩]),arr b (o+1) [.bool m.held,.int .i64 m.owner]]) .auto (CZ (m:={m with wait:=m.wait++[⟨who,0⟩] })) ?_
  exact JR 0 ()
 ·refine J 9 ?_
  refine .ai rfl (ae.Nj sizeOf4 rfl rfl rfl rfl) ?_
  rintro _ _ ⟨rfl,rfl⟩
  refine J 2 ?_
  refine .ai rfl (ae.Nj sizeOf3 rfl rfl rfl rfl) ?_
  rintro _ _ ⟨rfl,rfl⟩
  refine J 8 ?_
  rw[xW h8]
  exact JR 0 ()
theorem qv{W:World}{b o:Nat}{m:eN}{c:Int}(hl:m.wait.length≤1000000):Fn Tryz.prog W 257 [.pointer (some ⟨b,o,none⟩),.int .i64 c] [ed b o m] Unit (fun _=>.tuple #[.int .i64 (m.unlock c).1,.bool (m.unlock c).2.1]) (fun _=>True) (fun _=>[ed b o (m.unlock c).2.2]):=by
 refine Fn.intro (N:=28) func257 rfl ntmps257 rfl fun F=>?_
 show ar _ _ _ _ _ _ [ed b o m,F]
 refine .o1 (C:=ed b o m) .auto rfl ?_
 rintro u -
 refine J 12 ?_
 refine .fr .auto (pD (b:=b) (o:=o) (u:=u)) ?_
 refine .c call239 rfl (uI hl) fun _ _=>?_
 refine J 3 ?_
 refine .ai rfl (ae.alloc rfl zeroValue324 rfl) ?_
 rintro _ _ ⟨b6,rfl,rfl⟩
 refine J 5 ?_
 refine .draw [arr b6 0 (dy (aP m.wait c).1)] [1,0,1,0,0,1,1,2,1,1,3] rfl (by kernel_rfl) ?_
 refine J 7 ?_
 refine .d2 rfl Kept.auto (ae.Nr sizeOf4 rfl rfl rfl rfl) (by rintro _ _ ⟨rfl,rfl⟩;exact Kept.auto) ?_
 rintro _ _ ⟨rfl,rfl⟩
 refine J 2 ?_
 refine .d3 rfl (ae.Nj (i:=1) sizeOf3 rfl rfl rfl rfl) ?_
 rintro _ _ ⟨rfl,rfl⟩
 refine J 12 ?_
 refine .to (A:=ed b o (m.unlock c).2.2) (Bs:=[iR b o (aP m.wait c).2.2,arr b (o+1) [.bool (aP m.wait c).2.1,.int .i64 (aP m.wait c).1.who]]) .auto (CZ (m:=(m.unlock c).2.2)) ?_
 exact JR 0 ()
end Go.SLYthlllpngkljgfaaGreat
namespace Go.SLYthlllpngkljgfaaGreat
open Go Go.RowKit Go.Proofs Go.Proofs.Tryz
attribute [local irreducible] ar aM bm bA bE Y
theorem DB{W:World}{b:Nat}{ps:List (Option Nat)}{s:Spc}{n:Int}:Fn Tryz.prog W 178 [ptr b,.int .i64 n] [cH b ps s] Unit (fun _=>ef (BH ps n)) (fun _=>True) (fun _=>[cH b ps s]):=by
 refine Fn.intro (N:=21) func178 rfl ntmps178 rfl fun F=>?_
 show ar _ _ _ _ _ _ [cH b ps s,F]
 refine .jT (C:=cH b ps s) .auto rfl ?_
 rintro fv sv pv bt vm bg vt bk bw vr -
 refine J 15 ?_
 apply aM.eO 3 14 11 [11,12,13,14] rfl
 ·intro h11
  exact JS 4
 ·intro h11
  exact JS 4
 refine JD 2 (fun h14=>?_) fun h14=>?_
 ·simp only[Bool.or_eq_true,decide_eq_true_eq] at h14
  refine J 7 ?_
  refine .aJ rfl rfl fun w s=>⟨(),?_,trivial,aj .auto s⟩
  rw[BH,if_neg (by omega)];rfl
 ·simp only[Bool.or_eq_false_iff,decide_eq_false_iff_not] at h14
  refine J 8 ?_
  refine .p (.dJ n.toNat underlying134 sizeOf133 rfl rfl (by omega) (by omega)) ?_
  refine .p (.ld rfl (Cell.a (by rw[Nat.mul_one];exact eP (by omega)))) ?_
  refine J 4 ?_
  refine .aJ rfl rfl fun w s=>⟨(),?_,trivial,aj .auto s⟩
  rw[BH,if_pos (by omega)]
theorem nS{W:World}{b p:Nat}{ps:List (Option Nat)}{s:Spc}{n:Nat}{t:bI}(hp:ps[n]?=some (some p))(ht:s.aF[n]?=some (some t))(hl:s.aF.length=16)(hpl:ps.length=16)(hT:jC s.table)(hh:0≤t.handle):Fn Tryz.prog W 206 [ptr b,.int .i64 (n:Int)] [cH b ps s] Unit (fun _=>.tuple #[]) (fun _=>True) (fun _=>[cH b (ps.set n none) (s.free n)]):=by
 refine Fn.intro (N:=23) func206 rfl ntmps206 rfl fun F=>?_
 show ar _ _ _ _ _ _ [cH b ps s,F]
 refine .jT (C:=cH b ps s) .auto rfl ?_
 rintro fv sv pv bt vm bg vt bk bw vr -
 have hn16:n<16:=hl ▸ (List.getElem?_eq_some_iff.1 ht).1
 refine .fr .auto (bQ hp ht) ?_
 refine J 1 ?_
 refine .draw [arr b 0 (fy fv sv pv s.fa bt ps vm bg vt bk bw vr),arr p 0 (bn t)] [1,1,1,1,1,1,1,1,1,1,1,1,1,3] rfl (by kernel_rfl) ?_
 refine J 8 ?_
 refine .p (.dJ n underlying134 sizeOf133 rfl rfl rfl hn16) ?_
 refine .p (.ld rfl (Cell.a (by rw[Nat.mul_one,eP hn16,aY hp]))) ?_
 refine J 3 ?_
 refine .c call228 rfl (E4 hT hh) fun e _=>?_
 refine J 7 ?_
 refine .p (.dJ n underlying134 sizeOf133 rfl rfl rfl hn16) ?_
 refine .ai rfl (ae.st sizeOf133 rfl rfl rfl (Nat.blt_eq.mpr (by show 9+n * 1<31;omega))) ?_
 rintro _ _ ⟨rfl,rfl⟩
 rw[Nat.mul_one,show Value.pointer none=ef none from rfl,zx hn16 hpl]
 refine J 1 ?_
 rw[show s.free n = {s with table:=slotFreed s.table t.handle,aF:=s.aF.set n none } from by unfold Spc.free;rw[dO ht]]
 exact JR 0 ()
theorem jS{W:World}{bd b p:Nat}{ps:List (Option Nat)}{d:Dng}{t:bI}(hp:ps[d.n]?=some (some p))(ht:d.s.aF[d.n]?=some (some t)){x y e:Int}{fin:Bool}(hr:d.s.aC.length≤1000000000):Fn Tryz.prog W 184 [ptr bd,.int .u64 x,.int .u64 y,.int .i64 e,.bool fin] [bx bd b p ps d] Unit (fun _=>.tuple #[]) (fun _=>True) (fun _=>[bx bd b p ps (d.tell x y e fin)]):=by
 refine Fn.intro (N:=42) func184 rfl ntmps184 rfl fun F=>?_
 show ar _ _ _ _ _ _ [bx bd b p ps d,F]
 refine .o2 (C:=bx bd b p ps d) .auto rfl ?_
 rintro vw ve -
 refine .jT (C:=cH b ps d.s) .auto rfl ?_
 rintro fv sv pv bt vm bg vt bk bw vr -
 refine .fr .auto (bQ hp ht) ?_
 refine .draw [arr bd 0 (eh b p d vw ve),arr b 0 (fy fv sv pv d.s.fa bt ps vm bg vt bk bw vr),arr p 0 (bn t)] [0,0,0,0,0,0,0,0,0,0,0,1,1,1,1,1,1,1,1,1,1,1,1,1,1,1,1,1,2,2,1,1,3] rfl (by kernel_rfl) ?_
 refine J 27 ?_
 refine .p (.Mx (fun v1 v2 v3 v4 v5 v6=>[v1,v2,v3,v4,v5,v6]) rfl rfl rfl rfl rfl rfl (by kernel_rfl)) ?_
 refine .d2 rfl Kept.auto (ae.gC 115 rfl rfl (by kernel_rfl)) (by rintro _ _ ⟨b38,rfl,rfl⟩;exact Kept.auto) ?_
 rintro _ _ ⟨b38,rfl,rfl⟩
 refine .d2 rfl Kept.auto (ae.gh (enc:=dT) (k:=6) (⟨t.handle,d.i.op,x,y,e,fin⟩:Rec) rfl underlying44 underlying44 typeInfo115 rfl rfl rfl (by decide) rfl rfl rfl .auto rfl .auto (by omega) rfl) (by rintro _ _ ⟨v39,rfl,rfl⟩;exact Kept.auto) ?_
 rintro _ _ ⟨v39,rfl,rfl⟩
 refine J 2 ?_
 refine .d3 rfl (ae.mr sizeOf44 rfl rfl rfl) ?_
 rintro _ _ ⟨rfl,rfl⟩
 rw[pN]
 refine J 1 ?_
 refine .to (A:=aD ps d.s.aF) (Bs:=[arr p 0 (bn t),aD (ps.set d.n none) (d.s.aF.set d.n none)]) .auto (bN hp ht) ?_
 rw[show d.tell x y e fin = {d with s:=d.s.tell ⟨t.handle,d.i.op,x,y,e,fin⟩ } from by unfold Dng.tell;rw[dq ht]]
 exact JR 0 ()
theorem cx{W:World}{bd b p:Nat}{ps:List (Option Nat)}{d:Dng}{t:bI}(hp:ps[d.n]?=some (some p))(ht:d.s.aF[d.n]?=some (some t)){x y e:Int}(hr:d.s.aC.length≤1000000000)(he:0≤e∧e≤11)(hl:t.aI.length=8):Fn Tryz.prog W 210 [ptr bd,.int .u64 x,.int .u64 y,.int .i64 e] [bx bd b p ps d] Unit (fun _=>.tuple #[]) (fun _=>True) (fun _=>[bx bd b p ps (d.pass x y e)]):=by
 refine Fn.intro (N:=23) func210 rfl ntmps210 rfl fun F=>?_
 show ar _ _ _ _ _ _ [bx bd b p ps d,F]
 refine J 6 ?_
 refine .c call184 rfl (jS hp ht hr) fun _ _=>?_
 refine J 3 ?_
 have ht2:(d.tell x y e true).s.aF[d.n]?=some (some t):=ht
 refine .o2 (C:=bx bd b p ps (d.tell x y e true)) .auto rfl ?_
 rintro vw ve -
 refine .jT (C:=cH b ps (d.tell x y e true).s) .auto rfl ?_
 rintro fv sv pv bt vm bg vt bk bw vr -
 refine .fr .auto (bQ hp ht2) ?_
 refine J 3 ?_
 refine .p (.ld rfl (Cell.a (cs:=eh b p (d.tell x y e true) vw ve) rfl)) ?_
 refine J 1 ?_
 refine .p (.s6 underlying25 underlying110 rfl (by omega)) ?_
 refine J 3 ?_
 refine .p (.dJ 7 underlying163 sizeOf110 rfl rfl (by omega) (by omega)) ?_
 refine J 1 ?_
 rw[sG (n:=7) e (by decide) hl]
 refine J 1 ?_
 refine .to (A:=aD ps (d.s.aF.set d.n (some (t.put 7 e)))) (Bs:=[arr p 0 (bn (t.put 7 e)),aD (ps.set d.n none) ((d.tell x y e true).s.aF.set d.n none)]) .auto (cA (List.getElem?_eq_some_iff.1 ht).1 hp) ?_
 rw[show d.pass x y e=(d.tell x y e true).aZ (t.put 7 e) from by unfold Dng.pass;rw[dq ht]]
 exact JR 0 ()
theorem gJ{W:World}{bd b p:Nat}{ps:List (Option Nat)}{d:Dng}{t:bI}(hp:ps[d.n]?=some (some p))(ht:d.s.aF[d.n]?=some (some t)){cZ bY x y:Int}(hr:d.s.aC.length≤1000000000):Fn Tryz.prog W 233 [ptr bd,.int .i64 cZ,.int .i64 bY,.int .u64 x,.int .u64 y] [bx bd b p ps d] Unit (fun _=>.tuple #[]) (fun _=>True) (fun _=>[bx bd b p ps (d.block cZ bY x y)]):=by
 refine Fn.intro (N:=43) func233 rfl ntmps233 rfl fun F=>?_
 show ar _ _ _ _ _ _ [bx bd b p ps d,F]
 refine J 5 ?_
 refine .c call184 rfl (jS hp ht hr) fun _ _=>?_
 refine J 3 ?_
 have ht2:(d.tell x y 0 false).s.aF[d.n]?=some (some t):=ht
 refine .o2 (C:=bx bd b p ps (d.tell x y 0 false)) .auto rfl ?_
 rintro vw ve -
 refine .jT (C:=cH b ps (d.tell x y 0 false).s) .auto rfl ?_
 rintro fv sv pv bt vm bg vt bk bw vr -
 refine .fr .auto (bQ hp ht2) ?_
 refine .draw [arr bd 0 (eh b p (d.tell x y 0 false) vw ve)] [1,1,1,1,1,1,1,1,1,1,1,1,1,1,1,1,1,1,0,1,1,2,1,1,2,1,1,3] rfl (by kernel_rfl) ?_
 have ht2:(d.tell x y 0 false).s.aF[d.n]?=some (some t):=ht
 refine J 22 ?_
 rw[pM]
 refine J 3 ?_
 rw[Lo]
 refine J 3 ?_
 rw[tM]
 refine J 9 ?_
 refine .to (A:=aD ps (d.s.aF.set d.n (some {t with cZ:=cZ,op:=d.i.op,bY:=bY }))) (Bs:=[arr p 0 (bn {t with cZ:=cZ,op:=d.i.op,bY:=bY }),aD (ps.set d.n none) ((d.tell x y 0 false).s.aF.set d.n none)]) .auto (cA (List.getElem?_eq_some_iff.1 ht).1 hp) ?_
 rw[show d.block cZ bY x y = {(d.tell x y 0 false).aZ {t with cZ:=cZ,op:=d.i.op,bY:=bY } with out:={d.out with aR:=true } } from by unfold Dng.block;rw[dq ht]]
 exact JR 0 ()
theorem Ic{W:World}{b p:Nat}{ps:List (Option Nat)}{s:Spc}{n:Nat}{t:bI}(hp:ps[n]?=some (some p))(ht:s.aF[n]?=some (some t))(hn16:n<16)(hR:hG t){y:Int}:Fn Tryz.prog W 99 [ptr b,.int .i64 (n:Int),.int .u64 y] [cH b ps s] Unit (fun _=>.agg (dT (t.ko y)).toArray) (fun _=>True) (fun _=>[cH b ps (s.dL n y)]):=by
 refine Fn.intro (N:=50) func99 rfl ntmps99 rfl fun F=>?_
 show ar _ _ _ _ _ _ [cH b ps s,F]
 refine .jT (C:=cH b ps s) .auto rfl ?_
 rintro fv sv pv bt vm bg vt bk bw vr -
 refine .fr .auto (bQ hp ht) ?_
 have hRl:=hR.l
 have hRi:=hR.i
 refine J 2 ?_
 refine .ai rfl (ae.alloc rfl zeroValue115 rfl) ?_
 rintro _ _ ⟨b6,rfl,rfl⟩
 refine J 8 ?_
 refine .p (.dJ n underlying134 sizeOf133 rfl rfl rfl hn16) ?_
 refine .p (.ld rfl (Cell.a (by rw[Nat.mul_one,eP hn16,aY hp]))) ?_
 refine J 3 ?_
 refine .zg (X:=Unit) [2,14,15,16,17,18,19,20,21,22,23,24,25,26,27,28] (fun _=>True) (fun _=>[(2,some (.int .u64 (if t.bY = -1 then 0 else y)))]) (fun _=>[arr p 0 (bn (if t.bY = -1 then t else t.put t.bY y)),aD (ps.set n none) (s.aF.set n none),arr b6 0 [.int .u64 0,.int .i64 0,.int .u64 0,.int .u64 0,.int .i64 0,.bool false],arr b 0 (fy fv sv pv s.fa bt ps vm bg vt bk bw vr),zq fv s.fa.funcs,mo bt s.table,sl dh 1 vm s.mem,cz bg s.al,ph vt s.cb,pj bk s.bZ,ou bw s.aT,sl dT 6 vr s.aC,F]) ?_ ?_
 ·refine JD 9 (fun h18=>?_) fun h18=>?_
  ·refine .draw [arr p 0 (bn t)] [1,1,1,1,1,1,1,1,1,1,3] rfl (by kernel_rfl) ?_
   refine J 9 ?_
   refine .p (.dJ t.bY.toNat underlying163 sizeOf110 rfl rfl (by omega) (by omega)) ?_
   refine .d3 rfl (ae.st sizeOf110 rfl rfl rfl (Nat.blt_eq.mpr (by show 2+t.bY.toNat * 1<18;omega))) ?_
   rintro _ _ ⟨rfl,rfl⟩
   rw[jK y (by omega) (by omega) hRl]
   refine J 1 ?_
   refine .jW () .auto ?_ ?_ ?_
   ·trivial
   ·rw[if_neg (by omega)];exact⟨rfl,trivial⟩
   ·rw[if_neg (by omega)];exact fun w s=>aq.kept .auto w s
  ·refine J 3 ?_
   refine .jW () .auto ?_ ?_ ?_
   ·trivial
   ·rw[if_pos (by omega)];exact⟨rfl,trivial⟩
   ·rw[if_pos (by omega)];exact fun w s=>aq.kept .auto w s
 ·rintro⟨⟩ -
  obtain⟨y1,hy1⟩:∃ y1,y1=(if t.bY = -1 then 0 else y):=⟨_,rfl⟩
  obtain⟨t1,h1⟩:∃ t1,t1=(if t.bY = -1 then t else t.put t.bY y):=⟨_,rfl⟩
  have h1l:t1.aI.length=8:=by
   rw[h1]
   split
   ·exact hRl
   ·rw[j6];exact hRl
  have h1h:t1.handle=t.handle∧t1.op=t.op:=by
   rw[h1]
   split <;> exact⟨rfl,rfl⟩
  rw[← hy1, ← h1]
  refine J 6 ?_
  refine .p (.dJ 7 underlying163 sizeOf110 rfl rfl (by omega) (by omega)) ?_
  refine J 1 ?_
  rw[sG (n:=7) 0 (by decide) h1l]
  refine J 9 ?_
  rw[pM]
  refine J 3 ?_
  rw[tM]
  refine J 3 ?_
  refine .draw [arr p 0 (bn {t1.put 7 0 with cZ:=0,bY := -1 })] [1,1,1,1,1,1,1,1,1,1,3] rfl (by kernel_rfl) ?_
  refine J 9 ?_
  refine .p (.FW (fun v1 v2 v3 v4=>[v1,v2,(.int .u64 0),v3,(.int .i64 0),v4]) rfl rfl rfl rfl (by kernel_rfl)) ?_
  refine .d3 rfl (ae.hD (by exact sizeOf115) rfl rfl rfl (by rfl)) ?_
  rintro _ _ ⟨rfl,rfl⟩
  refine J 3 ?_
  refine .to (A:=aD ps (s.aF.set n (some ({t1.put 7 0 with cZ:=0,bY := -1 })))) (Bs:=[arr p 0 (bn ({t1.put 7 0 with cZ:=0,bY := -1 })),aD (ps.set n none) (s.aF.set n none)]) .auto (cA (List.getElem?_eq_some_iff.1 ht).1 hp) ?_
  rw[show s.dL n y=s.aZ n {t1.put 7 0 with cZ:=0,bY := -1 } from by unfold Spc.dL;rw[dO ht,C9 t1 h1]]
  refine .dP rfl rfl isAgg115 (by exact sizeOf115) Cells.a fun w s=>⟨(),?_,trivial,aj .auto s⟩
  show Ending.returned (Value.agg #[.int .u64 t1.handle,.int .i64 t1.op,.int .u64 0,.int .u64 y1,.int .i64 0,.bool true])=_;rw[h1h.1,h1h.2,hy1];rfl
theorem Ie{W:World}{bd b p q:Nat}{ps:List (Option Nat)}{d:Dng}{t:bI}{n:Nat}(hp:ps[n]?=some (some q))(ht:d.s.aF[n]?=some (some t))(hn16:n<16)(hR:hG t)(he:d.ends.length≤1000000)(hw:d.out.av.length≤1000000){y:Int}:Fn Tryz.prog W 207 [ptr bd,.int .i64 (n:Int),.int .u64 y] [bx bd b p ps d] Unit (fun _=>.tuple #[]) (fun _=>True) (fun _=>[bx bd b p ps (d.cj n y)]):=by
 refine Fn.intro (N:=34) func207 rfl ntmps207 rfl fun F=>?_
 show ar _ _ _ _ _ _ [bx bd b p ps d,F]
 refine .o2 (C:=bx bd b p ps d) .auto rfl ?_
 rintro vw ve -
 refine J 1 ?_
 refine .draw [arr bd 0 (eh b p d vw ve)] [0,0,0,0,0,1,1,1,1,1,1,2,2,2,1,1,3] rfl (by kernel_rfl) ?_
 refine J 11 ?_
 refine .c2 call99 rfl (Ic hp ht hn16 hR) fun _ _=>?_
 refine .d2 rfl Kept.auto (ae.gC 115 rfl rfl (by kernel_rfl)) (by rintro _ _ ⟨b18,rfl,rfl⟩;exact Kept.auto) ?_
 rintro _ _ ⟨b18,rfl,rfl⟩
 refine .d2 rfl Kept.auto (ae.gh (enc:=dT) (k:=6) (t.ko y) rfl underlying44 underlying44 typeInfo115 rfl rfl rfl (by decide) rfl rfl rfl .auto rfl .auto (by omega) rfl) (by rintro _ _ ⟨v19,rfl,rfl⟩;exact Kept.auto) ?_
 rintro _ _ ⟨v19,rfl,rfl⟩
 refine J 2 ?_
 refine .d3 rfl (ae.mr sizeOf44 rfl rfl rfl) ?_
 rintro _ _ ⟨rfl,rfl⟩
 refine J 10 ?_
 refine .ai rfl (ae.gC 3 rfl rfl (by kernel_rfl)) ?_
 rintro _ _ ⟨b29,rfl,rfl⟩
 refine .ai rfl (ae.gh (enc:=au) (k:=1) (n:Int) rfl underlying50 underlying50 typeInfo3 rfl rfl rfl (by decide) rfl rfl rfl .auto rfl .auto (by omega) rfl) ?_
 rintro _ _ ⟨v30,rfl,rfl⟩
 refine J 3 ?_
 refine .ai rfl (ae.mr sizeOf50 rfl rfl rfl) ?_
 rintro _ _ ⟨rfl,rfl⟩
 refine J 1 ?_
 rw[show d.cj n y = {d with s:=d.s.dL n y,ends:=d.ends++[t.ko y],out:={d.out with av:=d.out.av++[(n:Int)] } } from by unfold Dng.cj;rw[dO ht]]
 exact JR 0 ()
theorem xa{W:World}{bd b p:Nat}{ps:List (Option Nat)}{d:Dng}{t:bI}(hp:ps[d.n]?=some (some p))(ht:d.s.aF[d.n]?=some (some t))(hI:0≤d.i.a∧d.i.a<8):Fn Tryz.prog W 213 [ptr bd] [bx bd b p ps d] Unit (fun _=>.int .u64 d.a) (fun _=>True) (fun _=>[bx bd b p ps d]):=by
 refine Fn.intro (N:=17) func213 rfl ntmps213 rfl fun F=>?_
 show ar _ _ _ _ _ _ [bx bd b p ps d,F]
 refine .o2 (C:=bx bd b p ps d) .auto rfl ?_
 rintro vw ve -
 refine .jT (C:=cH b ps d.s) .auto rfl ?_
 rintro fv sv pv bt vm bg vt bk bw vr -
 refine .fr .auto (bQ hp ht) ?_
 refine J 6 ?_
 refine .draw [] [1,1,1,1,1,1,1,1,1,1,1,1,1,1,1] rfl (by kernel_rfl) ?_
 refine J 12 ?_
 refine .p (.dJ d.i.a.toNat underlying163 sizeOf110 rfl rfl (by omega) (by omega)) ?_
 refine .p (.ld rfl (Cell.a (nC (by omega)))) ?_
 refine J 4 ?_
 refine .to (A:=aD ps d.s.aF) (Bs:=[arr p 0 (bn t),aD (ps.set d.n none) (d.s.aF.set d.n none)]) .auto (bN hp ht) ?_
 refine .aJ rfl rfl fun w s=>⟨(),?_,trivial,aj .auto s⟩
 rw[show d.a=t.aI.getD d.i.a.toNat 0 from by unfold Dng.a;rw[dq ht];rfl]
theorem KM{W:World}{bd b p:Nat}{ps:List (Option Nat)}{d:Dng}{t:bI}(hp:ps[d.n]?=some (some p))(ht:d.s.aF[d.n]?=some (some t))(hI:0≤d.i.b∧d.i.b<8):Fn Tryz.prog W 231 [ptr bd] [bx bd b p ps d] Unit (fun _=>.int .u64 d.b) (fun _=>True) (fun _=>[bx bd b p ps d]):=by
 refine Fn.intro (N:=17) func231 rfl ntmps231 rfl fun F=>?_
 show ar _ _ _ _ _ _ [bx bd b p ps d,F]
 refine .o2 (C:=bx bd b p ps d) .auto rfl ?_
 rintro vw ve -
 refine .jT (C:=cH b ps d.s) .auto rfl ?_
 rintro fv sv pv bt vm bg vt bk bw vr -
 refine .fr .auto (bQ hp ht) ?_
 refine J 6 ?_
 refine .draw [] [1,1,1,1,1,1,1,1,1,1,1,1,1,1,1] rfl (by kernel_rfl) ?_
 refine J 12 ?_
 refine .p (.dJ d.i.b.toNat underlying163 sizeOf110 rfl rfl (by omega) (by omega)) ?_
 refine .p (.ld rfl (Cell.a (nC (by omega)))) ?_
 refine J 4 ?_
 refine .to (A:=aD ps d.s.aF) (Bs:=[arr p 0 (bn t),aD (ps.set d.n none) (d.s.aF.set d.n none)]) .auto (bN hp ht) ?_
 refine .aJ rfl rfl fun w s=>⟨(),?_,trivial,aj .auto s⟩
 rw[show d.b=t.aI.getD d.i.b.toNat 0 from by unfold Dng.b;rw[dq ht];rfl]
theorem oR{W:World}{bd b p:Nat}{ps:List (Option Nat)}{d:Dng}(hr:d.s.aC.length≤1000000000)(he:d.ends.length≤1000000):Fn Tryz.prog W 188 [ptr bd] [bx bd b p ps d] Value (fun u=>.agg (mS u d.finish.1).toArray) (fun _=>True) (fun u=>[sl au 1 u d.finish.1.av,cH b ps d.finish.2]):=by
 refine Fn.intro (N:=25) func188 rfl ntmps188 rfl fun F=>?_
 show ar _ _ _ _ _ _ [bx bd b p ps d,F]
 refine .o2 (C:=bx bd b p ps d) .auto rfl ?_
 rintro vw ve -
 refine .jT (C:=cH b ps d.s) .auto rfl ?_
 rintro fv sv pv bt vm bg vt bk bw vr -
 refine J 2 ?_
 refine .ai rfl (ae.alloc rfl zeroValue66 rfl) ?_
 rintro _ _ ⟨b2,rfl,rfl⟩
 refine J 3 ?_
 refine .draw [arr bd 0 (eh b p d vw ve),arr b 0 (fy fv sv pv d.s.fa bt ps vm bg vt bk bw vr)] [0,0,0,0,1,1,1,1,1,1,1,1,1,1,1,2,1,1,3] rfl (by kernel_rfl) ?_
 refine J 15 ?_
 refine .d2 rfl Kept.auto (ae.append rfl underlying44 underlying44 typeInfo115 rfl rfl rfl (by decide) rfl rfl .auto Rd.s (by omega) (zr _)) (by rintro _ _ ⟨v18,rfl,rfl⟩;exact Kept.auto) ?_
 rintro _ _ ⟨v18,rfl,rfl⟩
 refine J 2 ?_
 refine .d3 rfl (ae.mr sizeOf44 rfl rfl rfl) ?_
 rintro _ _ ⟨rfl,rfl⟩
 rw[pN]
 refine J 7 ?_
 refine .p (.la rfl (Cells.mD (ds:=mS vw d.out) Cells.a rfl)) ?_
 refine .ai rfl (ae.Js (vs:=[.bool d.out.aR,.bool d.out.ended,.bool d.out.yielded]) (by exact sizeOf66) rfl rfl rfl rfl) ?_
 rintro _ _ ⟨rfl,rfl⟩
 refine J 3 ?_
 refine .dP rfl rfl isAgg66 (by exact sizeOf66) Cells.a fun w s=>⟨vw,?_,trivial,aj .auto s⟩
 rfl
end Go.SLYthlllpngkljgfaaGreat
namespace Go.SLYthlllpngkljgfaaGreat
open Go Go.RowKit Go.Proofs Go.Proofs.Tryz
attribute [local irreducible] ar aM bm bA bE Y
theorem fR{W:World}{a:Int}:Fn Tryz.prog W 289 [.int .u64 a] [] Unit (fun _=>.float .f64 a.toNat) (fun _=>True) (fun _=>[]):=by
 refine Fn.intro (N:=5) func289 rfl ntmps289 rfl fun F=>?_
 show ar _ _ _ _ _ _ [F]
 refine J 8 ?_
 refine .p (.ext (e:=Extern.MathFloatBits.float64frombits) func305 rfl rfl rfl (by kernel_rfl) rfl (fun w=>rfl)) ?_
 exact JR 4 ()
theorem Ck{W:World}{n:Nat}:Fn Tryz.prog W 311 [.float .f64 n] [] Unit (fun _=>.bool (kI n n != some .eq)) (fun _=>True) (fun _=>[]):=by
 refine Fn.intro (N:=6) func311 rfl ntmps311 rfl fun F=>?_
 show ar _ _ _ _ _ _ [F]
 refine J 9 ?_
 refine .p (.NA rfl rfl (fun w=>rfl)) ?_
 exact JR 4 ()
theorem l0{W:World}{n:Nat}:Fn Tryz.prog W 294 [.float .f64 n] [] Unit (fun _=>.bool (kI n n != some .eq)) (fun _=>True) (fun _=>[]):=by
 refine Fn.intro (N:=5) func294 rfl ntmps294 rfl fun F=>?_
 show ar _ _ _ _ _ _ [F]
 refine J 8 ?_
 refine .c call311 rfl Ck fun _ _=>?_
 exact JR 4 ()
theorem kV{W:World}{n:Nat}:Fn Tryz.prog W 290 [.float .f64 n] [] Unit (fun _=>.int .u64 (jG (n:Int))) (fun _=>True) (fun _=>[]):=by
 refine Fn.intro (N:=7) func290 rfl ntmps290 rfl fun F=>?_
 show ar _ _ _ _ _ _ [F]
 refine J 9 ?_
 refine .c call294 rfl l0 fun _ _=>?_
 refine JD 2 (fun h4=>?_) fun h4=>?_
 ·refine J 7 ?_
  refine .aJ rfl rfl fun w s=>⟨(),?_,trivial,aj .auto s⟩
  rw[qQ,if_pos h4];rfl
 ·refine J 5 ?_
  refine .p (.ext (e:=Extern.MathFloatBits.float64bits) func306 rfl rfl rfl (by kernel_rfl) rfl (fun w=>rfl)) ?_
  refine J 4 ?_
  refine .aJ rfl rfl fun w s=>⟨(),?_,trivial,aj .auto s⟩
  rw[qQ,if_neg (by rw[h4];simp)]
theorem J2{W:World}{a b:Int}:Fn Tryz.prog W 267 [.int .u64 a,.int .u64 b] [] Unit (fun _=>.int .u64 (K9 a b)) (fun _=>True) (fun _=>[]):=by
 refine Fn.intro (N:=11) func267 rfl ntmps267 rfl fun F=>?_
 show ar _ _ _ _ _ _ [F]
 refine J 8 ?_
 refine .c call289 rfl fR fun _ _=>?_
 refine J 1 ?_
 refine .c call289 rfl fR fun _ _=>?_
 refine .ai rfl (ae.Jl (Ieee.double.add _ _) rfl rfl rfl (fun w=>rfl)) ?_
 rintro _ _ ⟨r9,hr9,rfl,rfl⟩
 refine .c call290 rfl kV fun _ _=>?_
 refine J 4 ?_
 refine .aJ rfl rfl fun w s=>⟨(),?_,trivial,aj .auto s⟩
 rw[sE hr9];rfl
theorem J3{W:World}{a b:Int}:Fn Tryz.prog W 268 [.int .u64 a,.int .u64 b] [] Unit (fun _=>.int .u64 (La a b)) (fun _=>True) (fun _=>[]):=by
 refine Fn.intro (N:=11) func268 rfl ntmps268 rfl fun F=>?_
 show ar _ _ _ _ _ _ [F]
 refine J 8 ?_
 refine .c call289 rfl fR fun _ _=>?_
 refine J 1 ?_
 refine .c call289 rfl fR fun _ _=>?_
 refine .ai rfl (ae.Jl (Ieee.double.sub _ _) rfl rfl rfl (fun w=>rfl)) ?_
 rintro _ _ ⟨r9,hr9,rfl,rfl⟩
 refine .c call290 rfl kV fun _ _=>?_
 refine J 4 ?_
 refine .aJ rfl rfl fun w s=>⟨(),?_,trivial,aj .auto s⟩
 rw[sE hr9];rfl
theorem J4{W:World}{a b:Int}:Fn Tryz.prog W 269 [.int .u64 a,.int .u64 b] [] Unit (fun _=>.int .u64 (Lb a b)) (fun _=>True) (fun _=>[]):=by
 refine Fn.intro (N:=11) func269 rfl ntmps269 rfl fun F=>?_
 show ar _ _ _ _ _ _ [F]
 refine J 8 ?_
 refine .c call289 rfl fR fun _ _=>?_
 refine J 1 ?_
 refine .c call289 rfl fR fun _ _=>?_
 refine .ai rfl (ae.Jl (Ieee.double.mul _ _) rfl rfl rfl (fun w=>rfl)) ?_
 rintro _ _ ⟨r9,hr9,rfl,rfl⟩
 refine .c call290 rfl kV fun _ _=>?_
 refine J 4 ?_
 refine .aJ rfl rfl fun w s=>⟨(),?_,trivial,aj .auto s⟩
 rw[sE hr9];rfl
theorem J5{W:World}{a b:Int}:Fn Tryz.prog W 270 [.int .u64 a,.int .u64 b] [] Unit (fun _=>.int .u64 (Lc a b)) (fun _=>True) (fun _=>[]):=by
 refine Fn.intro (N:=11) func270 rfl ntmps270 rfl fun F=>?_
 show ar _ _ _ _ _ _ [F]
 refine J 8 ?_
 refine .c call289 rfl fR fun _ _=>?_
 refine J 1 ?_
 refine .c call289 rfl fR fun _ _=>?_
 refine .ai rfl (ae.Jl (Ieee.double.div _ _) rfl rfl rfl (fun w=>rfl)) ?_
 rintro _ _ ⟨r9,hr9,rfl,rfl⟩
 refine .c call290 rfl kV fun _ _=>?_
 refine J 4 ?_
 refine .aJ rfl rfl fun w s=>⟨(),?_,trivial,aj .auto s⟩
 rw[sE hr9];rfl
theorem Ig{W:World}{m n:Nat}:Fn Tryz.prog W 291 [.float .f64 m,.float .f64 n] [] Unit (fun _=>.float .f64 (kH true .lt m n)) (fun _=>True) (fun _=>[]):=by
 refine Fn.intro (N:=11) func291 rfl ntmps291 rfl fun F=>?_
 show ar _ _ _ _ _ _ [F]
 refine J 6 ?_
 refine .gd rfl ?_
 refine J 4 ?_
 refine .p (.ext (e := Extern.MathDim.pick "math.archMin" true .lt) func307 rfl rfl rfl (by kernel_rfl) rfl (fun w => rfl)) ?_
 exact JR 5 ()
theorem Ih{W:World}{m n:Nat}:Fn Tryz.prog W 293 [.float .f64 m,.float .f64 n] [] Unit (fun _=>.float .f64 (kH false .gt m n)) (fun _=>True) (fun _=>[]):=by
 refine Fn.intro (N:=11) func293 rfl ntmps293 rfl fun F=>?_
 show ar _ _ _ _ _ _ [F]
 refine J 6 ?_
 refine .gd rfl ?_
 refine J 4 ?_
 refine .p (.ext (e := Extern.MathDim.pick "math.archMax" false .gt) func309 rfl rfl rfl (by kernel_rfl) rfl (fun w => rfl)) ?_
 exact JR 5 ()
theorem DC{W:World}{n:Nat}{a b:Int}(ha:0≤a)(hb:0≤b):Fn Tryz.prog W 292 [.float .f64 n,.int .u64 a,.int .u64 b] [] Unit (fun _=>.int .u64 (if (tE a || tE b)=true then nY else jG (n:Int))) (fun _=>True) (fun _=>[]):=by
 refine Fn.intro (N:=17) func292 rfl ntmps292 rfl fun F=>?_
 show ar _ _ _ _ _ _ [F]
 refine J 9 ?_
 refine .c call289 rfl fR fun _ _=>?_
 refine .c call294 rfl l0 fun _ _=>?_
 refine J 1 ?_
 apply aM.fA 4 14 10 [10,11,12,13,14] rfl
 ·intro h10
  refine J 1 ?_
  refine .cg call289 rfl fR fun _ _=>?_
  refine .cg call294 rfl l0 fun _ _=>?_
  exact JS 2
 ·intro h10
  exact JS 5
 refine JD 2 (fun h14=>?_) fun h14=>?_
 ·rw[gF ha,gF hb] at h14
  refine J 7 ?_
  refine .aJ rfl rfl fun w s=>⟨(),?_,trivial,aj .auto s⟩
  rw[if_pos h14];rfl
 ·rw[gF ha,gF hb] at h14
  refine J 5 ?_
  refine .c call290 rfl kV fun _ _=>?_
  refine J 4 ?_
  refine .aJ rfl rfl fun w s=>⟨(),?_,trivial,aj .auto s⟩
  rw[if_neg (by rw[h14];simp)]
theorem J6{W:World}{a b:Int}(ha:0≤a)(hb:0≤b):Fn Tryz.prog W 271 [.int .u64 a,.int .u64 b] [] Unit (fun _=>.int .u64 (zG a b)) (fun _=>True) (fun _=>[]):=by
 refine Fn.intro (N:=13) func271 rfl ntmps271 rfl fun F=>?_
 show ar _ _ _ _ _ _ [F]
 refine J 8 ?_
 refine .c call289 rfl fR fun _ _=>?_
 refine J 1 ?_
 refine .c call289 rfl fR fun _ _=>?_
 refine .c call291 rfl Ig fun _ _=>?_
 refine J 2 ?_
 refine .c call292 rfl (DC ha hb) fun _ _=>?_
 exact JR 4 ()
theorem J7{W:World}{a b:Int}(ha:0≤a)(hb:0≤b):Fn Tryz.prog W 272 [.int .u64 a,.int .u64 b] [] Unit (fun _=>.int .u64 (zH a b)) (fun _=>True) (fun _=>[]):=by
 refine Fn.intro (N:=13) func272 rfl ntmps272 rfl fun F=>?_
 show ar _ _ _ _ _ _ [F]
 refine J 8 ?_
 refine .c call289 rfl fR fun _ _=>?_
 refine J 1 ?_
 refine .c call289 rfl fR fun _ _=>?_
 refine .c call293 rfl Ih fun _ _=>?_
 refine J 2 ?_
 refine .c call292 rfl (DC ha hb) fun _ _=>?_
 exact JR 4 ()
theorem Ii{W:World}{a b:Int}:Fn Tryz.prog W 273 [.int .u64 a,.int .u64 b] [] Unit (fun _=>.bool (Nw a b)) (fun _=>True) (fun _=>[]):=by
 refine Fn.intro (N:=10) func273 rfl ntmps273 rfl fun F=>?_
 show ar _ _ _ _ _ _ [F]
 refine J 8 ?_
 refine .c call289 rfl fR fun _ _=>?_
 refine J 1 ?_
 refine .c call289 rfl fR fun _ _=>?_
 refine .p (.MI rfl rfl) ?_
 exact JR 4 ()
theorem E5{W:World}{a:Int}(ha:0≤a):Fn Tryz.prog W 274 [.int .u64 a] [] Unit (fun _=>.int .u64 (lC a)) (fun _=>True) (fun _=>[]):=by
 refine Fn.intro (N:=18) func274 rfl ntmps274 rfl fun F=>?_
 show ar _ _ _ _ _ _ [F]
 refine J 8 ?_
 refine .c call289 rfl fR fun _ _=>?_
 refine J 7 ?_
 refine .c call294 rfl l0 fun _ _=>?_
 refine JD 3 (fun h9=>?_) fun h9=>?_
 ·refine J 7 ?_
  refine .aJ rfl rfl fun w s=>⟨(),?_,trivial,aj .auto s⟩
  rw[lC,if_pos (by rw[← gF ha];exact h9)]
 ·refine J 3 ?_
  refine .p (.Nz rfl rfl) ?_
  refine JD 3 (fun h12=>?_) fun h12=>?_
  ·have g12:(Ieee.double.order a.toNat xP == some .gt || Ieee.double.order a.toNat xP == some .eq)=true:=h12
   refine J 7 ?_
   refine .aJ rfl rfl fun w s=>⟨(),?_,trivial,aj .auto s⟩
   rw[lC,if_neg (by rw[← gF ha,h9];simp),if_pos g12]
  ·have g12:(Ieee.double.order a.toNat xP == some .gt || Ieee.double.order a.toNat xP == some .eq)=false:=h12
   refine J 3 ?_
   refine .p (.MI rfl rfl) ?_
   refine JD 3 (fun h15=>?_) fun h15=>?_
   ·have g15:(Ieee.double.order a.toNat zI == some .lt)=true:=h15
    refine J 7 ?_
    refine .aJ rfl rfl fun w s=>⟨(),?_,trivial,aj .auto s⟩
    rw[lC,if_neg (by rw[← gF ha,h9];simp),if_neg (by rw[g12];simp),if_pos g15]
   ·have g15:(Ieee.double.order a.toNat zI == some .lt)=false:=h15
    refine J 3 ?_
    obtain⟨k,hk,hk1,hk2⟩:=Ei h9 g12 g15
    refine .p (.Lf (fun w=>Ej hk hk1 hk2) rfl) ?_
    refine .p (.conv underlying2 underlying110 rfl) ?_
    refine J 5 ?_
    refine .aJ rfl rfl fun w s=>⟨(),?_,trivial,aj .auto s⟩
    rw[lC,if_neg (by rw[← gF ha,h9];simp),if_neg (by rw[g12];simp),if_neg (by rw[g15];simp),hk];exact zw (GK k)
theorem AB{W:World}{a:Int}:Fn Tryz.prog W 275 [.int .u64 a] [] Unit (fun _=>.int .u64 (mN a)) (fun _=>True) (fun _=>[]):=by
 refine Fn.intro (N:=7) func275 rfl ntmps275 rfl fun F=>?_
 show ar _ _ _ _ _ _ [F]
 refine J 8 ?_
 refine .p (.conv underlying110 underlying2 rfl) ?_
 refine .p (.toFloat (fun w=>rfl) rfl) ?_
 refine .c call290 rfl kV fun _ _=>?_
 exact JR 4 ()
end Go.SLYthlllpngkljgfaaGreat
