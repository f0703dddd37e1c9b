/- Walks of functions, and what they compute. Conditions: none, this text proves no statement. -/
import Derived.Test.YtpbjdoplfgeliaaGreatG07
import Derived.Test.YtpbjdoplfgeliaaGreatProg
import Derived.KernelRfl
import Derived.Test.YtpbjdoplfgeliaaGreatG03
import Derived.Test.YtpbjdoplfgeliaaGreatG05
import Derived.Test.YtpbjdoplfgeliaaGreatG04
set_option maxRecDepth 20000
set_option maxHeartbeats 4000000
namespace Go.SLYtpbjdoplfgeliaaGreat
open Go Go.RowKit Go.Proofs Go.Proofs.Tryz
attribute [local irreducible] aq aR bf bq bB Y
theorem pQ{W:World}{u:Value}{x:aL}:Fn Tryz.prog W 185 [.agg (fe (u,x)).toArray] [] Unit (fun _=>.bool x.holds) (fun _=>True) (fun _=>[]):=by
 refine Fn.intro (N:=16) func185 rfl ntmps185 rfl fun F=>?_
 show aq _ _ _ _ _ _ [F]
 refine J 2 ?_
 refine .ai rfl (af.box rfl rfl rfl) ?_
 rintro _ _ ⟨b1,rfl,rfl⟩
 refine J 9 ?_
 apply aR.ga 4 10 6 [6,7,8,9,10] rfl
 ·intro h6
  exact JS 5
 ·intro h6
  exact JS 5
 refine J 1 ?_
 apply aR.iL 4 15 11 [11,12,13,14,15] rfl
 ·intro h11
  exact JS 5
 ·intro h11
  exact JS 5
 exact JR 4 ()
theorem Aq{W:World}{u:Value}{x:aL}(_hu:isSl u=true):Fn Tryz.prog W 149 [.agg (fe (u,x)).toArray] [] Unit (fun _=>.tuple #[.int .i64 (s8 x),.bool x.runs]) (fun _=>True) (fun _=>[]):=by
 refine Fn.intro (N:=24) func149 rfl ntmps149 rfl fun F=>?_
 show aq _ _ _ _ _ _ [F]
 refine J 2 ?_
 refine .ai rfl (af.box rfl rfl rfl) ?_
 rintro _ _ ⟨b1,rfl,rfl⟩
 refine J 11 ?_
 apply aR.gZ 4 11 7 [7,8,9,10,11] rfl
 ·intro h7
  exact JS 5
 ·intro h7
  exact JS 5
 refine J 1 ?_
 apply aR.gL 4 16 12 [12,13,14,15,16] rfl
 ·intro h12
  exact JS 5
 ·intro h12
  exact JS 5
 refine J 1 ?_
 apply aR.iL 4 21 17 [17,18,19,20,21] rfl
 ·intro h17
  exact JS 5
 ·intro h17
  exact JS 5
 refine JD 2 (fun h21=>?_) fun h21=>?_
 ·simp only[Bool.and_eq_true,Bool.or_eq_true,decide_eq_true_eq] at h21
  refine J 8 ?_
  refine .ez rfl rfl rfl fun w s=>⟨(),?_,trivial,aj .auto s⟩
  have e:x.runs=false:=by unfold aL.runs;simp;omega
  rw[s8,e];rfl
 ·simp only[Bool.and_eq_false_iff,Bool.or_eq_false_iff,decide_eq_false_iff_not] at h21
  refine J 11 ?_
  refine .ez rfl rfl rfl fun w s=>⟨(),?_,trivial,aj .auto s⟩
  have e:x.runs=true:=by unfold aL.runs;simp;omega
  rw[s8,e];rfl
theorem ur{W:World}{e:Ev}:Fn Tryz.prog W 151 [.agg (cv e).toArray] [] Unit (fun _=>.tuple #[.int .i64 (MO e),.bool (dD e)]) (fun _=>True) (fun _=>[]):=by
 refine Fn.intro (N:=24) func151 rfl ntmps151 rfl fun F=>?_
 show aq _ _ _ _ _ _ [F]
 refine J 2 ?_
 refine .ai rfl (af.box rfl rfl rfl) ?_
 rintro _ _ ⟨b1,rfl,rfl⟩
 refine J 11 ?_
 apply aR.ga 4 11 7 [7,8,9,10,11] rfl
 ·intro h7
  refine J 5 ?_
  refine .vR .auto rfl (by first | exact fun _ h=>h | exact aw.kept .auto)
 ·intro h7
  refine J 5 ?_
  refine .vR .auto rfl (by first | exact fun _ h=>h | exact aw.kept .auto)
 refine J 1 ?_
 apply aR.iL 9 21 12 [12,13,14,15,16,17,18,19,20,21] rfl
 ·intro h12
  refine J 4 ?_
  apply aR.gZ 4 20 16 [16,17,18,19,20] rfl
  ·intro h16
   refine J 5 ?_
   refine .vR .auto rfl (by first | exact fun _ h=>h | exact aw.kept .auto)
  ·intro h16
   refine J 5 ?_
   refine .vR .auto rfl (by first | exact fun _ h=>h | exact aw.kept .auto)
  refine J 2 ?_
  refine .vR .auto rfl (by first | exact fun _ h=>h | exact aw.kept .auto)
 ·intro h12
  refine J 10 ?_
  refine .vR .auto rfl (by first | exact fun _ h=>h | exact aw.kept .auto)
 refine JD 2 (fun h21=>?_) fun h21=>?_
 ·simp only[Bool.and_eq_true,Bool.or_eq_true,decide_eq_true_eq] at h21
  refine J 8 ?_
  refine .ez rfl rfl rfl fun w s=>⟨(),?_,trivial,aj .auto s⟩
  have h:dD e=false:=by unfold dD;simp;omega
  rw[MO,h];rfl
 ·simp only[Bool.and_eq_false_iff,Bool.or_eq_false_iff,decide_eq_false_iff_not] at h21
  refine J 11 ?_
  refine .ez rfl rfl rfl fun w s=>⟨(),?_,trivial,aj .auto s⟩
  have h:dD e=true:=by unfold dD;simp;omega
  rw[MO,h];rfl
theorem lu{W:World}{A:aa}{v:Value}{xs:List Ev}(hr:Rd W [A] cv 3 v xs)(hl:xs.length≤1000000000):Fn Tryz.prog W 186 [v] [A] Value (fun u=>u) (fun _=>True) (fun u=>[sl cv 3 u (cV xs),A]):=by
 refine Fn.intro (N:=31) func186 rfl ntmps186 rfl fun F=>?_
 haveI hRI:∀ (H:List aa) [bx H A],aA W H v cv 3 xs:=fun H h=>⟨hr.at h.has⟩
 show aq _ _ _ _ _ _ [A,F]
 refine J 19 ?_
 refine .bm (X:=Nat×Value) [3,5,6,7,10,11,12,13,14,15,16,17,18,19,20,21,22,23,24,25,26,27,28,29] (fun z=>xs.length-z.1) (fun z=>z.1≤xs.length) (fun z=>[(10,some (.int .i64 (z.1:Int))),(3,some z.2)]) (fun z=>[sl cv 3 z.2 (cV (xs.take z.1)),A,F]) (0,.slice none 0 0) ?_ ?_ ?_ ?_
 ·exact Nat.zero_le _
 ·exact⟨rfl,rfl,trivial⟩
 ·exact fun w s=>aw.kept .auto w s
 rintro⟨k,u⟩ hk
 simp only at hk
 have hkl:=D1 xs k
 refine JD 6 (fun h11=>?_) fun h11=>?_
 ·refine J 6 ?_
  obtain⟨e,hx⟩:=ak (show k<xs.length by omega)
  refine J 2 ?_
  refine .ai rfl (af.alloc rfl zeroValue232 rfl) ?_
  rintro _ _ ⟨b5,rfl,rfl⟩
  refine J 6 ?_
  refine .c call151 rfl ur fun _ _=>?_
  refine J 11 ?_
  apply aR.iL 4 24 20 [20,21,22,23,24] rfl
  ·intro h20
   exact JS 5
  ·intro h20
   exact JS 5
  refine JD 2 (fun h24=>?_) fun h24=>?_
  ·simp only[Bool.or_eq_true,decide_eq_true_eq] at h24
   refine J 3 ?_
   refine .ai rfl (af.gF 232 rfl rfl (by kernel_rfl)) ?_
   rintro _ _ ⟨b27,rfl,rfl⟩
   refine .ai rfl (af.fJ (enc:=cv) (k:=3) e rfl underlying165 underlying165 typeInfo232 rfl rfl rfl (by decide) rfl rfl rfl .auto rfl .auto (by first | omega | (dsimp only;omega)) rfl) ?_
   rintro _ _ ⟨v28,rfl,rfl⟩
   refine J 8 ?_
   refine .aH (k+1,v28) .auto rfl ?_ ?_ ?_ ?_
   ·show xs.length-(k+1)<xs.length-k;omega
   ·show k+1≤_;omega
   ·exact⟨rfl,rfl,trivial⟩
   ·show ∀ w,Sat _ w _→Sat _ w (seps [sl cv 3 v28 (cV (xs.take (k+1))),A,F])
    rw[Gp hx h24]
    exact fun w s=>aw.kept .auto w s
  ·simp only[Bool.or_eq_false_iff,decide_eq_false_iff_not] at h24
   refine J 7 ?_
   refine .aH (k+1,u) .auto rfl ?_ ?_ ?_ ?_
   ·show xs.length-(k+1)<xs.length-k;omega
   ·show k+1≤_;omega
   ·exact⟨rfl,rfl,trivial⟩
   ·show ∀ w,Sat _ w _→Sat _ w (seps [sl cv 3 u (cV (xs.take (k+1))),A,F])
    rw[Jk hx h24]
    exact fun w s=>aw.kept .auto w s
 ·refine J 12 ?_
  obtain rfl:k=xs.length:=by omega
  rw[List.take_length]
  refine .aP rfl rfl fun w s=>⟨_,?_,trivial,aj .auto s⟩
  rfl
theorem pR{W:World}{A:aa}{u:Value}{x:aL}(hr:Rd W [A] cv 3 u x.evs)(hl:x.evs.length≤900000000):Fn Tryz.prog W 135 [.agg (fe (u,x)).toArray] [A] Value (fun u=>u) (fun _=>True) (fun w=>[sl cv 3 w x.strip,A]):=by
 refine Fn.intro (N:=31) func135 rfl ntmps135 rfl fun F=>?_
 haveI hRI:∀ (H:List aa) [bx H A],aA W H u cv 3 x.evs:=fun H h=>⟨hr.at h.has⟩
 show aq _ _ _ _ _ _ [A,F]
 refine .cM (fun w s=>Rd.isSl (hr.at .here) w s) fun hu=>?_
 refine J 2 ?_
 refine .ai rfl (af.box rfl rfl rfl) ?_
 rintro _ _ ⟨b1,rfl,rfl⟩
 refine J 6 ?_
 refine .c call149 rfl (Aq hu) fun _ _=>?_
 refine JD 14 (fun h12=>?_) fun h12=>?_
 ·refine J 14 ?_
  rw[Bool.not_eq_true'] at h12
  refine .c call185 rfl pQ fun _ _=>?_
  refine JD 3 (fun h13=>?_) fun h13=>?_
  ·refine J 4 ?_
   refine .p (.vk (fun v1 v2 v3=>[v1,v2,v3]) rfl rfl rfl (by kernel_rfl)) ?_
   refine .ai rfl (af.gF 232 rfl rfl (by kernel_rfl)) ?_
   rintro _ _ ⟨b20,rfl,rfl⟩
   refine J 9 ?_
   refine .c call186 rfl (lu hr (by omega)) fun k29 _=>?_
   refine .c call134 rfl (uk (A:=seps [arr b20 0 [.int .i64 4,.int .i64 (-1),.int .i64 x.mode],sl cv 3 k29 (cV x.evs),A]) (xs:=[⟨4, -1,x.mode⟩]) (ys:=cV x.evs) (Rd.eO (Rd.lit .here rfl (fun _ _=>rfl) rfl)) (Rd.eO (Rd.sl .auto)) (by have:=j5 x.evs;simp;omega)) fun u30 _=>?_
   refine .dO .auto ?_
   rw[show[⟨4, -1,x.mode⟩]++cV x.evs=x.strip from by unfold aL.strip;rw[if_pos h13,if_neg (by rw[h12];simp)]]
   refine J 4 ?_
   refine .aP rfl rfl fun w s=>⟨_,?_,trivial,aj .auto s⟩
   rfl
  ·refine JD 6 (fun h21=>?_) fun h21=>?_
   ·rw[h12] at h21;cases h21
   ·refine J 8 ?_
    refine .c call186 rfl (lu hr (by omega)) fun k29 _=>?_
    refine .c call134 rfl (uk (A:=seps [sl cv 3 k29 (cV x.evs),A]) (xs:=([]:List Ev)) (ys:=cV x.evs) (Rd.eO Rd.nil) (Rd.eO (Rd.sl .auto)) (by have:=j5 x.evs;simp;omega)) fun u30 _=>?_
    refine .dO .auto ?_
    rw[show([]:List Ev)++cV x.evs=x.strip from by unfold aL.strip;rw[if_neg (by rw[h13];simp),if_neg (by rw[h12];simp)]]
    refine J 4 ?_
    refine .aP rfl rfl fun w s=>⟨_,?_,trivial,aj .auto s⟩
    rfl
 ·refine J 12 ?_
  rw[Bool.not_eq_false'] at h12
  refine .c call185 rfl pQ fun _ _=>?_
  refine JD 3 (fun h13=>?_) fun h13=>?_
  ·refine J 4 ?_
   refine .p (.vk (fun v1 v2 v3=>[v1,v2,v3]) rfl rfl rfl (by kernel_rfl)) ?_
   refine .ai rfl (af.gF 232 rfl rfl (by kernel_rfl)) ?_
   rintro _ _ ⟨b20,rfl,rfl⟩
   refine J 9 ?_
   rw[show s8 x=x.ab from by unfold s8;rw[if_pos h12]]
   refine .c call186 rfl (lu hr (by omega)) fun k29 _=>?_
   refine .c call134 rfl (uk (A:=seps [arr b20 0 [.int .i64 4,.int .i64 x.ab,.int .i64 x.mode],sl cv 3 k29 (cV x.evs),A]) (xs:=[⟨4,x.ab,x.mode⟩]) (ys:=cV x.evs) (Rd.eO (Rd.lit .here rfl (fun _ _=>rfl) rfl)) (Rd.eO (Rd.sl .auto)) (by have:=j5 x.evs;simp;omega)) fun u30 _=>?_
   refine .dO .auto ?_
   rw[show[⟨4,x.ab,x.mode⟩]++cV x.evs=x.strip from by unfold aL.strip;rw[if_pos h13,if_pos h12]]
   refine J 4 ?_
   refine .aP rfl rfl fun w s=>⟨_,?_,trivial,aj .auto s⟩
   rfl
  ·refine JD 6 (fun h21=>?_) fun h21=>?_
   ·refine J 2 ?_
    refine .p (.fH (fun v1 v2=>[v1,v2,(.int .i64 0)]) rfl rfl (by kernel_rfl)) ?_
    refine .ai rfl (af.gF 232 rfl rfl (by kernel_rfl)) ?_
    rintro _ _ ⟨b25,rfl,rfl⟩
    refine J 9 ?_
    rw[show s8 x=x.ab from by unfold s8;rw[if_pos h12]]
    refine .c call186 rfl (lu hr (by omega)) fun k29 _=>?_
    refine .c call134 rfl (uk (A:=seps [arr b25 0 [.int .i64 4,.int .i64 x.ab,.int .i64 0],sl cv 3 k29 (cV x.evs),A]) (xs:=[⟨4,x.ab,0⟩]) (ys:=cV x.evs) (Rd.eO (Rd.lit .here rfl (fun _ _=>rfl) rfl)) (Rd.eO (Rd.sl .auto)) (by have:=j5 x.evs;simp;omega)) fun u30 _=>?_
    refine .dO .auto ?_
    rw[show[⟨4,x.ab,0⟩]++cV x.evs=x.strip from by unfold aL.strip;rw[if_neg (by rw[h13];simp),if_pos h12]]
    refine J 4 ?_
    refine .aP rfl rfl fun w s=>⟨_,?_,trivial,aj .auto s⟩
    rfl
   ·rw[h12] at h21;cases h21
theorem oq{W:World}{A:aa}{v:Value}{xs:List Ev}(hr:Rd W [A] cv 3 v xs)(hl:xs.length≤1000000000):Fn Tryz.prog W 133 [v] [A] Value (fun u=>.agg (fe (u,aL.new xs)).toArray) (fun _=>True) (fun u=>[sl cv 3 u xs,A]):=by
 refine Fn.intro (N:=6) func133 rfl ntmps133 rfl fun F=>?_
 show aq _ _ _ _ _ _ [A,F]
 refine J 2 ?_
 refine .ai rfl (af.alloc rfl zeroValue228 rfl) ?_
 rintro _ _ ⟨b2,rfl,rfl⟩
 refine J 5 ?_
 refine .c call153 rfl (yA hr hl) fun u4 _=>?_
 refine .cM (fun w s=>Rd.shape (Rd.sl .auto) w s) fun e=>?_
 obtain⟨a4,c4,rfl⟩:=e
 refine .p (.vk (fun v1 v2 v3=>[v1,v2,v3]) rfl rfl rfl (by kernel_rfl)) ?_
 refine J 4 ?_
 refine .dG rfl rfl isAgg228 (by exact sizeOf228) Cells.a fun w s=>⟨_,?_,trivial,aj .auto s⟩
 rfl
theorem rv{W:World}{A:aa}{u:Value}{x:aL}{m:Value}{ys:List Ev}(hr:Rd W [A] cv 3 u x.evs)(hm:Rd W [A] cv 3 m ys)(hl:x.evs.length≤400000000∧ys.length≤400000000):Fn Tryz.prog W 146 [.agg (fe (u,x)).toArray,m] [A] Value (fun w=>.agg (fe (w,x.told ys)).toArray) (fun _=>True) (fun w=>[sl cv 3 w (x.strip++ys),A]):=by
 refine Fn.intro (N:=10) func146 rfl ntmps146 rfl fun F=>?_
 show aq _ _ _ _ _ _ [A,F]
 have hsl:=mX x
 refine .cM (fun w s=>Rd.isSl (hr.at .here) w s) fun hu=>?_
 refine J 2 ?_
 refine .ai rfl (af.box rfl rfl rfl) ?_
 rintro _ _ ⟨b2,rfl,rfl⟩
 refine .ai rfl (af.alloc rfl zeroValue228 rfl) ?_
 rintro _ _ ⟨b4,rfl,rfl⟩
 refine J 5 ?_
 refine .c call135 rfl (pR hr (by omega)) fun u6 _=>?_
 refine J 1 ?_
 refine .c call134 rfl (uk (A:=seps [sl cv 3 u6 x.strip,A]) (xs:=x.strip) (ys:=ys) (Rd.eO (Rd.sl .here)) (Rd.eO (hm.at (.there .here))) (by omega)) fun u8 _=>?_
 refine .dO .auto ?_
 refine .c call133 rfl (oq (A:=sl cv 3 u8 (x.strip++ys)) (xs:=x.strip++ys) (Rd.sl .here) (by simp;omega)) fun u9 _=>?_
 refine .cM (fun w s=>Rd.shape (Rd.sl .auto) w s) fun e=>?_
 obtain⟨a9,c9,rfl⟩:=e
 refine J 4 ?_
 refine .dG rfl rfl isAgg228 (by exact sizeOf228) Cells.a fun w s=>⟨_,?_,trivial,aj .auto s⟩
 rfl
theorem Ia{W:World}{b bs br:Nat}{l:Lib}{p:Int}:Fn Tryz.prog W 132 [ptr b,.int .i64 p] [bF b bs br l] Unit (fun _=>.bool (gO l p)) (fun _=>True) (fun _=>[bF b bs br l]):=by
 refine Fn.intro (N:=20) func132 rfl ntmps132 rfl fun F=>?_
 show aq _ _ _ _ _ _ [bF b bs br l,F]
 refine .o2 (C:=bF b bs br l) .auto rfl ?_
 rintro vv vw -
 refine .o1 (C:=cx vv l.vs) .auto rfl ?_
 rintro xs hxs
 have hxl:=aC hxs
 refine J 10 ?_
 apply aR.gL 3 10 7 [7,8,9,10] rfl
 ·intro h7
  exact JS 4
 ·intro h7
  exact JS 4
 refine J 1 ?_
 apply aR.gZ 8 19 11 [11,12,13,14,15,16,17,18,19] rfl
 ·intro h11
  exact JS 9
 ·intro h11
  exact JS 9
 refine J 4 ?_
 refine .aP rfl rfl fun w s=>⟨(),?_,trivial,aj .auto s⟩
 unfold gO;rw[← hxl]
theorem mL{W:World}{b bs br:Nat}{l:Lib}{p:Int}:Fn Tryz.prog W 96 [ptr b,.int .i64 p] [bF b bs br l] Unit (fun _=>.bool (l.has p)) (fun _=>True) (fun _=>[bF b bs br l]):=by
 refine Fn.intro (N:=19) func96 rfl ntmps96 rfl fun F=>?_
 show aq _ _ _ _ _ _ [bF b bs br l,F]
 refine J 9 ?_
 refine .c call132 rfl Ia fun _ _=>?_
 refine J 1 ?_
 apply aR.gL 10 18 8 [8,9,10,11,12,13,14,15,16,17,18] rfl
 ·intro h8
  refine .o2 (C:=bF b bs br l) .auto rfl ?_
  rintro vv vw -
  refine .o1 (C:=cx vv l.vs) .auto rfl ?_
  rintro xs hxs
  have hxl:=aC hxs
  unfold gO at h8
  simp only[Bool.and_eq_true,decide_eq_true_eq] at h8
  obtain⟨i,hi⟩:∃ i:Nat,p=(i:Int):=⟨p.toNat,by omega⟩
  obtain⟨x,hx⟩:=ak (show i<xs.length by omega)
  have hx2:=eT hxs hx
  refine J 5 ?_
  refine .g (.sM i underlying164 sizeOf228 rfl (by rw[hi];rfl) Rd.s rfl (by omega)) ?_
  refine J 1 ?_
  refine .g (.fY (Y.load isAgg3 rfl (Cell.KE Rd.s hx rfl)) ((kM hx2).trans (congrArg _ hi.symm))) ?_
  exact JS 3
 ·intro h8
  exact JS 11
 refine J 4 ?_
 refine .aP rfl rfl fun w s=>⟨(),?_,trivial,aj .auto s⟩
 rw[kL]
theorem qC{W:World}{b bs br:Nat}{l:Lib}(hl:l.vs.length≤1000000000):Fn Tryz.prog W 41 [ptr b] [bF b bs br l] Value (fun u=>u) (fun _=>True) (fun u=>[sl av 1 u l.procs,bF b bs br l]):=by
 refine Fn.intro (N:=24) func41 rfl ntmps41 rfl fun F=>?_
 show aq _ _ _ _ _ _ [bF b bs br l,F]
 refine J 12 ?_
 refine .eQ rfl ?_
 refine J 10 ?_
 refine .o2 (C:=bF b bs br l) .auto rfl ?_
 rintro vv vw -
 refine .o1 (C:=cx vv l.vs) .auto rfl ?_
 rintro xs hxs
 have hxl:=aC hxs
 refine J 9 ?_
 refine .bm (X:=Nat×Value×List Int) [3,4,12,13,14,15,16,17,18,19,20,21,22] (fun z=>l.vs.length-z.1) (fun z=>z.1≤l.vs.length∧z.2.2.length≤z.1∧l.procs=z.2.2++procsFrom (l.vs.drop z.1) z.1) (fun z=>[(12,some (.int .i64 (z.1:Int))),(3,some z.2.1)]) (fun z=>[sl av 1 z.2.1 z.2.2,bF b bs br l,F]) (0,.slice none 0 0,[]) ?_ ?_ ?_ ?_
 ·exact⟨Nat.zero_le _,Nat.le_refl _,rfl⟩
 ·exact⟨rfl,rfl,trivial⟩
 ·exact fun w s=>aw.kept .auto w s
 rintro⟨k,u,ys⟩ ⟨hk,hyl,hn⟩
 simp only at hk hyl hn
 refine JD 6 (fun h13=>?_) fun h13=>?_
 ·refine J 14 ?_
  refine .c call96 rfl mL fun _ _=>?_
  refine JD 2 (fun h17=>?_) fun h17=>?_
  ·refine J 3 ?_
   refine .ai rfl (af.gF 3 rfl rfl (by kernel_rfl)) ?_
   rintro _ _ ⟨b20,rfl,rfl⟩
   refine .ai rfl (af.fJ (enc:=av) (k:=1) (k:Int) rfl underlying50 underlying50 typeInfo3 rfl rfl rfl (by decide) rfl rfl rfl .auto rfl .auto (by first | omega | (dsimp only;omega)) rfl) ?_
   rintro _ _ ⟨v21,rfl,rfl⟩
   refine J 8 ?_
   refine .aH (k+1,v21,ys++[(k:Int)]) .auto rfl ?_ ?_ ?_ ?_
   ·show l.vs.length-(k+1)<l.vs.length-k;omega
   ·exact⟨by show k+1≤_;omega,by simp;omega,by rw[hn,D2 (by omega) h17];simp⟩
   ·exact⟨rfl,rfl,trivial⟩
   ·exact fun w s=>aw.kept .auto w s
  ·refine J 7 ?_
   refine .aH (k+1,u,ys) .auto rfl ?_ ?_ ?_ ?_
   ·show l.vs.length-(k+1)<l.vs.length-k;omega
   ·exact⟨by show k+1≤_;omega,by show ys.length≤k+1;omega,by rw[hn,Gq (by omega) h17]⟩
   ·exact⟨rfl,rfl,trivial⟩
   ·exact fun w s=>aw.kept .auto w s
 ·refine J 12 ?_
  obtain rfl:k=l.vs.length:=by omega
  rw[D3 (Nat.le_refl _),List.append_nil] at hn
  subst hn
  refine .aP rfl rfl fun w s=>⟨_,?_,trivial,aj .auto s⟩
  rfl
end Go.SLYtpbjdoplfgeliaaGreat
namespace Go.SLYtpbjdoplfgeliaaGreat
open Go Go.RowKit Go.Proofs Go.Proofs.Tryz
attribute [local irreducible] aq aR bf bq bB Y
theorem EV{W:World}{p:Int}:Fn Tryz.prog W 130 [.int .i64 p] [] Nat (fun b=>ptr b) (fun _=>True) (fun b=>[fX b (List.replicate (aO p 64).toNat [])]):=by
 refine Fn.intro (N:=23) func130 rfl ntmps130 rfl fun F=>?_
 show aq _ _ _ _ _ _ [F]
 have hc:0≤aO p 64∧aO p 64≤64:=by unfold aO;omega
 refine J 7 ?_
 refine .p (.lP ([(.slice none 0 0)]) (by kernel_rfl)) ?_
 refine .ai rfl (af.box rfl rfl rfl) ?_
 rintro _ _ ⟨b5,rfl,rfl⟩
 refine J 7 ?_
 refine .p (.vS rfl rfl) ?_
 refine .p (.fY (Y.lK rfl rfl) (show min (max p 0) 64=aO p 64 from rfl)) ?_
 refine J 4 ?_
 refine .bm (X:=Nat×Value×List (Nat×List Int)) [9,10,11,12,13,14,15,16,17,18,19,20,21] (fun z=>(aO p 64).toNat-z.1) (fun z=>z.1≤(aO p 64).toNat∧z.2.2.length=z.1∧z.2.2.map (·.2)=List.replicate z.1 []) (fun z=>[(9,some (.int .i64 (z.1:Int)))]) (fun z=>[arr b5 0 [z.2.1],sl bP 1 z.2.1 z.2.2,aF (fun x=>fp x.1 x.2) z.2.2,F]) (0,.slice none 0 0,[]) ?_ ?_ ?_ ?_
 ·exact⟨Nat.zero_le _,rfl,rfl⟩
 ·exact⟨rfl,trivial⟩
 ·exact fun w s=>aw.kept .auto w s
 rintro⟨k,v,ts⟩ ⟨hk,htl,htm⟩
 simp only at hk htl htm
 refine JD 6 (fun h10=>?_) fun h10=>?_
 ·refine J 4 ?_
  refine .draw [arr b5 0 [v]] [0,0,0,0,0,2,2,2,1,1,3] rfl (by kernel_rfl) ?_
  refine J 5 ?_
  refine .c2 call183 rfl ES fun x16 _=>?_
  refine .d2 rfl Kept.auto (af.gF 252 rfl rfl (by kernel_rfl)) (by rintro _ _ ⟨b17,rfl,rfl⟩;exact Kept.auto) ?_
  rintro _ _ ⟨b17,rfl,rfl⟩
  refine .d2 rfl Kept.auto (af.fJ (enc:=bP) (k:=1) ((x16,[]):Nat×List Int) rfl underlying249 underlying249 typeInfo252 rfl rfl rfl (by decide) rfl rfl rfl .auto rfl .auto (by first | omega | (dsimp only;omega)) rfl) (by rintro _ _ ⟨v18,rfl,rfl⟩;exact Kept.auto) ?_
  rintro _ _ ⟨v18,rfl,rfl⟩
  refine J 2 ?_
  refine .d3 rfl (af.l9 sizeOf249 rfl rfl rfl) ?_
  rintro _ _ ⟨rfl,rfl⟩
  refine J 7 ?_
  refine .aH (k+1,v18,ts++[(x16,[])]) .auto rfl ?_ ?_ ?_ ?_
  ·show(aO p 64).toNat-(k+1)<(aO p 64).toNat-k;omega
  ·exact⟨by show k+1≤_;omega,by simp[htl],by simp[htm,List.replicate_succ']⟩
  ·exact⟨rfl,trivial⟩
  ·show ∀ w,Sat _ w _→Sat _ w (seps [_,sl bP 1 v18 (ts++[(x16,[])]),aF (fun x=>fp x.1 x.2) (ts++[(x16,[])]),F])
   rw[jZ]
   exact fun w s=>aw.kept .auto w s
 ·refine J 12 ?_
  obtain rfl:k=(aO p 64).toNat:=by omega
  exact JR 0 b5
theorem iu{W:World}{A:aa}{v:Value}{xs:List Int}(hr:Rd W [A] av 1 v xs)(hl:xs.length≤1000000000):Fn Tryz.prog W 131 [v] [A] Value (fun u=>u) (fun _=>True) (fun u=>[sl cv 3 u (aI xs),A]):=by
 refine Fn.intro (N:=19) func131 rfl ntmps131 rfl fun F=>?_
 haveI hRI:∀ (H:List aa) [bx H A],aA W H v av 1 xs:=fun H h=>⟨hr.at h.has⟩
 show aq _ _ _ _ _ _ [A,F]
 refine J 19 ?_
 refine .bm (X:=Nat×Value) [3,5,8,9,10,11,12,13,14,15,16,17] (fun z=>xs.length-z.1) (fun z=>z.1≤xs.length) (fun z=>[(8,some (.int .i64 (z.1:Int))),(3,some z.2)]) (fun z=>[sl cv 3 z.2 (aI (xs.take z.1)),A,F]) (0,.slice none 0 0) ?_ ?_ ?_ ?_
 ·exact Nat.zero_le _
 ·exact⟨rfl,rfl,trivial⟩
 ·exact fun w s=>aw.kept .auto w s
 rintro⟨k,u⟩ hk
 simp only at hk
 refine JD 6 (fun h9=>?_) fun h9=>?_
 ·refine J 6 ?_
  obtain⟨n,hx⟩:=ak (show k<xs.length by omega)
  refine J 8 ?_
  refine .p (.fH (fun v1 v2=>[v1,v2,(.int .i64 0)]) rfl rfl (by kernel_rfl)) ?_
  refine .ai rfl (af.gF 232 rfl rfl (by kernel_rfl)) ?_
  rintro _ _ ⟨b15,rfl,rfl⟩
  refine .ai rfl (af.fJ (enc:=cv) (k:=3) (⟨3,n,0⟩:Ev) rfl underlying165 underlying165 typeInfo232 rfl rfl rfl (by decide) rfl rfl rfl .auto rfl .auto (by unfold aI;rw[List.length_map,List.length_take];omega) rfl) ?_
  rintro _ _ ⟨v16,rfl,rfl⟩
  refine J 8 ?_
  refine .aH (k+1,v16) .auto rfl ?_ ?_ ?_ ?_
  ·show xs.length-(k+1)<xs.length-k;omega
  ·show k+1≤_;omega
  ·exact⟨rfl,rfl,trivial⟩
  ·show ∀ w,Sat _ w _→Sat _ w (seps [sl cv 3 v16 (aI (xs.take (k+1))),A,F])
   rw[zp hx]
   exact fun w s=>aw.kept .auto w s
 ·refine J 12 ?_
  obtain rfl:k=xs.length:=by omega
  rw[List.take_length]
  refine .aP rfl rfl fun w s=>⟨_,?_,trivial,aj .auto s⟩
  rfl
theorem J5{W:World}{bs:Nat}{ps:List (Option Nat)}{s:Spc}{p:Int}(hl:s.aG.length=16):Fn Tryz.prog W 88 [ptr bs,.int .i64 p] [cE bs ps s] Nat (fun b=>ptr b) (fun _=>True) (fun b=>[cX b (Lib.new s p)]):=by
 refine Fn.intro (N:=24) func88 rfl ntmps88 rfl fun F=>?_
 show aq _ _ _ _ _ _ [cE bs ps s,F]
 have hc:0≤aO p 64∧aO p 64≤64:=by unfold aO;omega
 have hrl:s.ready.length≤1000000000:=by have:=jb s.aG 0;show(readyFrom s.aG 0).length≤_;omega
 refine J 8 ?_
 refine .p (.vS rfl rfl) ?_
 refine .p (.fY (Y.lK rfl rfl) (show min (max p 0) 64=aO p 64 from rfl)) ?_
 refine J 4 ?_
 refine .vN [] [0,0,2,0,4,0,4,0] [0,1,2,3,4,5,6,7] rfl (by kernel_rfl) ?_
 refine bB.q rfl rfl rfl Kept.auto (Y.m rfl) ?_
 refine bB.q rfl rfl rfl Kept.auto (Y.m rfl) ?_
 refine bB.eH rfl (.inl rfl) rfl (fun _=>Kept.auto) call130 rfl EV .auto (fun _ _=>Kept.auto) ?_
 rintro x12 -
 rw[show aO (aO p 64) 64=aO p 64 from by unfold aO;omega]
 refine bB.q rfl rfl rfl Kept.auto (Y.m rfl) ?_
 refine bB.fresh rfl rfl rfl (by decide) Kept.auto (kH (enc:=fe) (k:=3) ((Value.slice none 0 0:Value),aL.z) (aO p 64).toNat underlying164 typeInfo228 rfl rfl rfl rfl (by decide) (by decide) rfl rfl (by omega) (by omega) (by omega)) ?_
 rintro b14
 refine bB.q rfl rfl rfl Kept.auto (Y.vk (fun v1 v2 v3=>[v1,v2,v3,(.slice none 0 0),(.bool false)]) rfl rfl rfl (by kernel_rfl)) ?_
 refine bB.fresh rfl rfl rfl (by decide) Kept.auto (qb rfl rfl) ?_
 rintro b16
 refine bB.q rfl rfl rfl Kept.auto (Y.a rfl) ?_
 refine bB.nil ?_
 refine J 3 ?_
 refine .to (A:=sl fe 3 (.slice (some ⟨b14,0,none⟩) (aO p 64).toNat (aO p 64).toNat) (List.replicate (aO p 64).toNat ((Value.slice none 0 0:Value),aL.z))) .auto (rN rfl) ?_
 refine J 2 ?_
 refine .c call58 rfl (oo hl) fun u19 _=>?_
 refine .c call131 rfl (iu (A:=sl av 1 u19 s.ready) (Rd.sl .here) hrl) fun u20 _=>?_
 refine J 2 ?_
 refine .ai rfl (af.l9 sizeOf165 rfl rfl rfl) ?_
 rintro _ _ ⟨rfl,rfl⟩
 refine J 9 ?_
 refine .aP rfl rfl fun w s=>⟨b16,?_,trivial,aj (by repeat (first | exact aw.nil | (apply aw.cons; · repeat (first | exact Take.here | apply Take.there)) | apply aw.Jg | apply aw.Jh | apply aw.void | apply aw.Je | apply aw.two | (apply aw.Gh; · exact iq) | (apply aw.allM; · exact fun _=>iq) | apply aw.f1 rfl | apply aw.f2 rfl | apply aw.f3 rfl | apply aw.f4 rfl | apply aw.f10 rfl | apply aw.eO | assumption | exact trivial | rfl | omega | (apply aw.Gh; · exact iq) | (focus (simp[Lib.new];done)) | (unfold Lib.new;simp only;apply aw.cons; · repeat (first | exact Take.here | apply Take.there)))) s⟩
 rfl
theorem EW{W:World}{b bs br:Nat}{l:Lib}{p:Int}(hw:l.waiting.length≤400000000):Fn Tryz.prog W 90 [ptr b,.int .i64 p] [bF b bs br l] Unit (fun _=>.bool (l.dq p).1) (fun _=>True) (fun _=>[bF b bs br (l.dq p).2]):=by
 refine Fn.intro (N:=31) func90 rfl ntmps90 rfl fun F=>?_
 show aq _ _ _ _ _ _ [bF b bs br l,F]
 refine J 10 ?_
 refine .c call132 rfl Ia fun _ _=>?_
 refine J 2 ?_
 apply aR.iL 4 13 9 [9,10,11,12,13] rfl
 ·intro h9
  refine J 2 ?_
  refine .cg call96 rfl mL fun _ _=>?_
  exact JS 2
 ·intro h9
  exact JS 5
 refine JD 2 (fun h13=>?_) fun h13=>?_
 ·simp only[Bool.or_eq_true,Bool.not_eq_true'] at h13
  refine J 7 ?_
  rw[j6 h13]
  exact JR 0 ()
 ·simp only[Bool.or_eq_false_iff,Bool.not_eq_false'] at h13
  refine J 3 ?_
  obtain⟨i,v,rfl,hv,hg⟩:=mZ h13.1 h13.2
  rw[hg]
  refine .o2 (C:=bF b bs br l) .auto rfl ?_
  rintro vv vw -
  refine .o1 (C:=cx vv l.vs) .auto rfl ?_
  rintro xs hxs
  have hxl:=aC hxs
  obtain⟨x,hx,rfl⟩:=dx hxs hv
  have hil:=(List.getElem?_eq_some_iff.1 hx).1
  refine .draw [arr b 0 (l8 bs br vv vw l.locked)] [0,0,0,0,0,1,2,0,0,0,0,2,2,1,3] rfl (by kernel_rfl) ?_
  refine J 5 ?_
  refine .p (.fH (fun v1 v2=>[v1,v2,(.int .i64 0)]) rfl rfl (by kernel_rfl)) ?_
  refine .d2 rfl Kept.auto (af.gF 232 rfl rfl (by kernel_rfl)) (by rintro _ _ ⟨b20,rfl,rfl⟩;exact Kept.auto) ?_
  rintro _ _ ⟨b20,rfl,rfl⟩
  refine J 4 ?_
  refine .c2 call134 rfl (uk (A:=seps [arr b20 0 [.int .i64 1,.int .i64 (-1),.int .i64 0],sl cv 3 vw l.waiting]) (xs:=[⟨1, -1,0⟩]) (ys:=l.waiting) (Rd.eO (Rd.lit .here rfl (fun _ _=>rfl) rfl)) (Rd.eO (Rd.sl .auto)) (by simp;omega)) fun u25 _=>?_
  refine .dO .auto ?_
  refine .c2 call133 rfl (oq (A:=sl cv 3 u25 (⟨1, -1,0⟩::l.waiting)) (xs:=⟨1, -1,0⟩::l.waiting) (Rd.sl .here) (by simp;omega)) fun u26 _=>?_
  refine .cM (fun w s=>Rd.isSl (Rd.sl .auto) w s) fun hu26=>?_
  refine .p (.ix i rfl rfl rfl (by omega)) ?_
  refine .d3 rfl (af.ma (x':=(u26,aL.new (⟨1, -1,0⟩::l.waiting))) rfl rfl sizeOf228 (rQ hu26) hx rfl rfl .auto) ?_
  rintro _ _ ⟨rfl,rfl⟩
  refine J 4 ?_
  refine .fr .auto (cZ (f:=fun x:Value×aL=>sl cv 3 x.1 x.2.evs) hx) ?_
  refine .to (A:=aF (fun x:Value×aL=>sl cv 3 x.1 x.2.evs) (xs.set i (u26,aL.new (⟨1, -1,0⟩::l.waiting)))) .auto (kN (f:=fun x:Value×aL=>sl cv 3 x.1 x.2.evs) (u26,aL.new (⟨1, -1,0⟩::l.waiting)) hx) ?_
  have hms:=map_set hxs i (u26,aL.new (⟨1, -1,0⟩::l.waiting))
  exact JR 12 ()
theorem mM{W:World}{b bs br:Nat}{l:Lib}{A:aa}{m:Value}{ys:List Ev}(hm:Rd W [A] cv 3 m ys)(hl:ys.length≤400000000∧l.waiting.length≤400000000∧l.vs.length≤1000000000∧ ∀ v∈l.vs,v.evs.length≤400000000):Fn Tryz.prog W 136 [ptr b,m] [bF b bs br l,A] Unit (fun _=>.tuple #[]) (fun _=>True) (fun _=>[bF b bs br (l.tell ys),A]):=by
 refine Fn.intro (N:=45) func136 rfl ntmps136 rfl fun F=>?_
 haveI hRI:∀ (H:List aa) [bx H A],aA W H m cv 3 ys:=fun H h=>⟨hm.at h.has⟩
 show aq _ _ _ _ _ _ [bF b bs br l,A,F]
 refine .s (.s (.r (.p (.m rfl) (.p (.OD rfl rfl) (.p (.m rfl) ?_)))))
 apply aR.iL 4 11 7 [7,8,9,10,11] rfl
 ·intro h7
  refine .g (.m rfl) (.g (.len rfl) (.g (.eql rfl rfl) (.p (.u rfl rfl) (.n ?_))))
  refine .vR .auto rfl (by first | exact fun _ h=>h | exact aw.kept .auto)
 ·intro h7
  refine .u (.u (.u (.p (.t rfl rfl) (.n ?_))))
  refine .vR .auto rfl (by first | exact fun _ h=>h | exact aw.kept .auto)
 refine .n (.t (.cond rfl (fun h11=>?_) (fun h11=>?_)))
 ·simp only[Bool.or_eq_true,decide_eq_true_eq] at h11
  refine .e (.tr ?_)
  obtain rfl:ys=[]:=by simpa using h11
  rw[jo]
  refine .K3 rfl fun w s=>⟨(),?_,trivial,aj .auto s⟩
  rfl
 ·simp only[Bool.or_eq_false_iff,decide_eq_false_iff_not] at h11
  refine .v (.t (.s (.r (.p (.m rfl) ?_))))
  have hne:ys≠[]:=by simpa using h11
  refine .ai rfl (af.eH rfl call41 rfl (qC hl.2.2.1) .auto) ?_
  rintro _ _ ⟨u13, -,rfl,rfl⟩
  refine .p (.a rfl) (.n (.t (.s (.s (.r (.p (.m rfl) (.p (.len rfl) (.p (.eql rfl rfl) (.n (.t (.dY rfl (fun h16=>?_) (fun h16=>?_))))))))))))
  ·refine .s (.r ?_)
   refine .o2 (C:=bF b bs br l) .auto rfl ?_
   rintro vv vw -
   refine .o1 (C:=cx vv l.vs) .auto rfl ?_
   rintro xs hxs
   have hxl:=aC hxs
   refine .p (.m rfl) (.p (.m rfl) (.p (.n rfl) (.p (.f rfl) (.p (.l rfl) (.p (.m rfl) ?_)))))
   rw[jc hne (by simpa using h16)]
   refine .ai rfl (af.eH rfl call134 rfl (uk (A:=seps [sl cv 3 vw l.waiting,A]) (xs:=l.waiting) (ys:=ys) (Rd.eO (Rd.sl .here)) (Rd.eO (hm.at (.there .here))) (by omega)) .auto) ?_
   rintro _ _ ⟨u23, -,rfl,rfl⟩
   refine .dO .auto ?_
   refine .p (.n rfl) (.p (.f rfl) ?_)
   refine .ai rfl (af.l9 sizeOf165 rfl rfl rfl) ?_
   rintro _ _ ⟨rfl,rfl⟩
   refine .n (.t (.e (.tr (.K3 rfl fun w s=>⟨(),?_,trivial,aj .auto s⟩))))
   rfl
  ·refine .v (.t ?_)
   obtain⟨p,r,hp⟩:∃ p r,l.procs=p::r:=by
    cases e:l.procs with
    | nil=>rw[e] at h16;exact absurd rfl h16
    | cons p r=>exact⟨p,r,rfl⟩
   obtain⟨i,v,rfl,hv,hmd⟩:=hZ hp
   have hp0:l.procs[0]?=some (i:Int):=by rw[hp];rfl
   rw[jd hne hp hv]
   refine .o2 (C:=bF b bs br l) .auto rfl ?_
   rintro vv vw -
   refine .o1 (C:=cx vv l.vs) .auto rfl ?_
   rintro xs hxs
   have hxl:=aC hxs
   obtain⟨x,hx,rfl⟩:=dx hxs hv
   have hil:=(List.getElem?_eq_some_iff.1 hx).1
   refine .fr .auto (cZ (f:=fun x:Value×aL=>sl cv 3 x.1 x.2.evs) hx) ?_
   have hel:=hl.2.2.2 x.2 (List.mem_of_getElem? hv)
   refine .draw [arr b 0 (l8 bs br vv vw l.locked),sl av 1 u13 l.procs] [0,0,0,0,0,0,0,1,1,1,1,1,1,1,1,1,1,2,1,3] rfl (by kernel_rfl) ?_
   refine .q (.m rfl) (.q (.n rfl) (.q (.f rfl) (.q (.l rfl) (.q (.m rfl) ?_))))
   refine .q (.ix 0 rfl rfl rfl (by rw[hp];simp)) ?_
   refine .q (.lr rfl hp0) ?_
   refine .p (.m rfl) (.p (.n rfl) (.p (.f rfl) (.p (.l rfl) (.p (.m rfl) ?_))))
   refine .p (.ix 0 rfl rfl rfl (by rw[hp];simp)) ?_
   refine .p (.lr rfl hp0) ?_
   refine .p (.ix i rfl rfl rfl (by omega)) ?_
   refine .p (.la rfl (Cells.rd Rd.s ‹_›)) ?_
   refine .p (.m rfl) ?_
   refine .d2 rfl Kept.auto (af.eH rfl call146 rfl (rv (A:=seps [sl cv 3 x.1 x.2.evs,A]) (u:=x.1) (x:=x.2) (m:=m) (ys:=ys) (Rd.eO (Rd.sl .here)) (Rd.eO (hm.at (.there .here))) (by omega)) .auto) (by rintro _ _ ⟨u43, -,rfl,rfl⟩;exact Kept.auto) ?_
   rintro _ _ ⟨u43, -,rfl,rfl⟩
   refine .cM (fun w s=>Rd.isSl (Rd.sl .auto) w s) fun hu43=>?_
   refine .dO .auto ?_
   refine .p (.ix i rfl rfl rfl (by omega)) ?_
   refine .d3 rfl (af.ma (x':=(u43,x.2.told ys)) rfl rfl sizeOf228 (rQ hu43) hx rfl rfl .auto) ?_
   rintro _ _ ⟨rfl,rfl⟩
   refine .n ?_
   refine .to (A:=aF (fun x:Value×aL=>sl cv 3 x.1 x.2.evs) (xs.set i (u43,x.2.told ys))) .auto (kN (f:=fun x:Value×aL=>sl cv 3 x.1 x.2.evs) (u43,x.2.told ys) hx) ?_
   have hms:=map_set hxs i (u43,x.2.told ys)
   refine .DJ rfl fun w s=>⟨(),?_,trivial,aj .auto s⟩
   rfl
theorem BZ{W:World}{b bs br:Nat}{l:Lib}{p:Int}(hl:l.waiting.length≤400000000∧l.vs.length≤1000000000∧ ∀ v∈l.vs,v.evs.length≤300000000):Fn Tryz.prog W 92 [ptr b,.int .i64 p] [bF b bs br l] Unit (fun _=>.bool (l.cK p).1) (fun _=>True) (fun _=>[bF b bs br (l.cK p).2]):=by
 refine Fn.intro (N:=28) func92 rfl ntmps92 rfl fun F=>?_
 show aq _ _ _ _ _ _ [bF b bs br l,F]
 refine J 10 ?_
 refine .c call96 rfl mL fun _ _=>?_
 refine JD 3 (fun h9=>?_) fun h9=>?_
 ·refine J 7 ?_
  rw[Bool.not_eq_true'] at h9
  rw[je h9]
  exact JR 0 ()
 ·refine J 4 ?_
  rw[Bool.not_eq_false'] at h9
  obtain⟨i,v,rfl,hv⟩:=mY (s9 h9)
  rw[ia h9 hv]
  refine .o2 (C:=bF b bs br l) .auto rfl ?_
  rintro vv vw -
  refine .o1 (C:=cx vv l.vs) .auto rfl ?_
  rintro xs hxs
  have hxl:=aC hxs
  obtain⟨x,hx,rfl⟩:=dx hxs hv
  have hil:=(List.getElem?_eq_some_iff.1 hx).1
  refine .fr .auto (cZ (f:=fun x:Value×aL=>sl cv 3 x.1 x.2.evs) hx) ?_
  have hel:=hl.2.2 x.2 (List.mem_of_getElem? hv)
  have hsl:=mX x.2
  refine J 5 ?_
  refine .p (.ix i rfl rfl rfl (by omega)) ?_
  refine J 1 ?_
  refine .c call135 rfl (pR (A:=sl cv 3 x.1 x.2.evs) (u:=x.1) (x:=x.2) (Rd.sl .here) (by omega)) fun u17 _=>?_
  refine J 10 ?_
  refine .p (.lP ([(.int .i64 0),(.int .i64 0),(.slice none 0 0)]) (by kernel_rfl)) ?_
  refine .p (.ix i rfl rfl rfl (by omega)) ?_
  refine .ai rfl (af.ma (x':=((Value.slice none 0 0:Value),aL.z)) rfl rfl sizeOf228 rfl hx rfl rfl .auto) ?_
  rintro _ _ ⟨rfl,rfl⟩
  refine J 4 ?_
  refine .to (A:=aF (fun x:Value×aL=>sl cv 3 x.1 x.2.evs) (xs.set i ((Value.slice none 0 0:Value),aL.z))) .auto (kN (f:=fun x:Value×aL=>sl cv 3 x.1 x.2.evs) ((Value.slice none 0 0:Value),aL.z) hx) ?_
  have hms:=map_set hxs i ((Value.slice none 0 0:Value),aL.z)
  refine J 2 ?_
  refine .ai rfl (af.eH rfl call136 rfl (mM (l:={l with vs:=l.vs.set i aL.z }) (A:=sl cv 3 u17 x.2.strip) (Rd.sl .here) ⟨by omega,hl.1,by show(l.vs.set i aL.z).length≤_;rw[List.length_set];exact hl.2.1,fun v hv=>by
   rcases List.mem_or_eq_of_mem_set hv with h | h
   ·exact Nat.le_trans (hl.2.2 v h) (by omega)
   ·subst h;exact Nat.zero_le _⟩) .auto) ?_
  rintro _ _ ⟨⟨⟩, -,rfl,rfl⟩
  exact JR 8 ()
end Go.SLYtpbjdoplfgeliaaGreat
namespace Go.SLYtpbjdoplfgeliaaGreat
open Go Go.RowKit Go.Proofs Go.Proofs.Tryz
attribute [local irreducible] aq aR bf bq bB Y
theorem wY{W:World}{b:Nat}{l:List Int}(hl:l.length≤1000000000):Fn Tryz.prog W 150 [ptr b] [fp b l] Value (fun u=>u) (fun _=>True) (fun u=>[sl av 1 u l,fp b l]):=by
 refine Fn.intro (N:=11) func150 rfl ntmps150 rfl fun F=>?_
 show aq _ _ _ _ _ _ [fp b l,F]
 refine J 12 ?_
 refine .eQ rfl ?_
 refine J 4 ?_
 refine .o1 (C:=fp b l) .auto rfl ?_
 rintro v -
 refine J 4 ?_
 refine .c call197 rfl (L4 (A:=sl av 1 v l) (Rd.sl .here) hl) fun u9 _=>?_
 refine .c call196 rfl Nd fun u10 _=>?_
 refine J 4 ?_
 refine .aP rfl rfl fun w s=>⟨_,?_,trivial,aj .auto s⟩
 rfl
theorem B0{W:World}{b:Nat}{rs:List (List Int)}{t:Int}(hl:rs.length≤64∧ ∀ r∈rs,r.length≤1000000000):Fn Tryz.prog W 104 [ptr b,.int .i64 t] [fX b rs] Unit (fun _=>.tuple #[.int .i64 (whereFrom t rs 0).1,.bool (whereFrom t rs 0).2]) (fun _=>True) (fun _=>[fX b rs]):=by
 refine Fn.intro (N:=35) func104 rfl ntmps104 rfl fun F=>?_
 show aq _ _ _ _ _ _ [fX b rs,F]
 refine .o2 (C:=fX b rs) .auto rfl ?_
 rintro v xs hxs
 have hxl:=aC hxs
 refine J 13 ?_
 refine .eQ rfl ?_
 refine J 14 ?_
 refine .bm (X:=Nat) [4,5,6,7,9,17,18,19,20,21,22,23,24,25,26,27,28,29,30,31,32,33,34] (fun z=>rs.length-z) (fun z=>z≤rs.length∧whereFrom t rs 0=whereFrom t (rs.drop z) z) (fun z=>[(17,some (.int .i64 (z:Int)))]) (fun z=>[arr b 0 [v],sl bP 1 v xs,aF (fun x:Nat×List Int=>fp x.1 x.2) xs,F]) 0 ?_ ?_ ?_ ?_
 ·exact⟨Nat.zero_le _,by rw[List.drop_zero]⟩
 ·exact⟨rfl,trivial⟩
 ·exact fun w s=>aw.kept .auto w s
 rintro n ⟨hn,hw⟩
 refine JD 6 (fun h18=>?_) fun h18=>?_
 ·refine J 6 ?_
  obtain⟨x,hx⟩:=ak (show n<xs.length by omega)
  have hx2:=eT hxs hx
  have hxl2:=hl.2 x.2 (List.mem_of_getElem? hx2)
  refine J 9 ?_
  refine .fr .auto (cZ (f:=fun x:Nat×List Int=>fp x.1 x.2) hx) ?_
  refine J 1 ?_
  refine .c call150 rfl (wY (l:=x.2) (hl.2 x.2 (List.mem_of_getElem? hx2))) fun u23 _=>?_
  refine .to (A:=aF (fun x:Nat×List Int=>fp x.1 x.2) xs) .auto (eK (f:=fun x:Nat×List Int=>fp x.1 x.2) hx) ?_
  refine J 5 ?_
  refine .bm (X:=Nat) [4,5,9,25,26,27,28,29,30,31,32,33] (fun z=>x.2.length-z) (fun z=>z≤x.2.length∧t ∉ x.2.take z) (fun z=>[(25,some (.int .i64 (z:Int)))]) (fun z=>[sl av 1 u23 x.2,arr b 0 [v],sl bP 1 v xs,aF (fun x:Nat×List Int=>fp x.1 x.2) xs,F]) 0 ?_ ?_ ?_ ?_
  ·exact⟨Nat.zero_le _,by simp⟩
  ·exact⟨rfl,trivial⟩
  ·exact fun w s=>aw.kept .auto w s
  rintro j ⟨hj,hjt⟩
  refine JD 6 (fun h26=>?_) fun h26=>?_
  ·refine J 6 ?_
   obtain⟨y,hy⟩:=ak (show j<x.2.length by omega)
   refine J 1 ?_
   refine .p (.lr rfl hy) ?_
   refine JD 10 (fun h31=>?_) fun h31=>?_
   ·rw[hw,EA hx2 (by rw[← h31];exact List.mem_of_getElem? hy)]
    exact JR 17 ()
   ·refine J 7 ?_
    refine .aH (j+1) .auto rfl ?_ ?_ ?_ ?_
    ·omega
    ·exact⟨by omega,by rw[aU hy,List.mem_append];rintro(h | h);exact hjt h;exact h31 (List.mem_singleton.1 h).symm⟩
    ·exact⟨rfl,trivial⟩
    ·exact fun w s=>aw.kept .auto w s
  ·obtain rfl:j=x.2.length:=by omega
   rw[List.take_length] at hjt
   refine J 10 ?_
   refine .aH (n+1) .auto rfl ?_ ?_ ?_ ?_
   ·omega
   ·exact⟨by omega,by rw[hw,Hy hx2 hjt]⟩
   ·exact⟨rfl,trivial⟩
   ·exact fun w s=>aw.kept .auto w s
 ·obtain rfl:n=rs.length:=by omega
  rw[hw,EB (Nat.le_refl _)]
  exact JR 12 ()
end Go.SLYtpbjdoplfgeliaaGreat
namespace Go.SLYtpbjdoplfgeliaaGreat
open Go Go.RowKit Go.Proofs Go.Proofs.Tryz
attribute [local irreducible] aq aR bf bq bB Y
theorem J6{W:World}{v:Value}{xs:List eV}{i:Nat}(hi:i<xs.length)(_hl:xs.length≤1000000000):Fn Tryz.prog W 208 [v,.int .i64 (i:Int),.int .i64 ((i+1:Nat):Int)] [sl dt 2 v xs] Value (fun u=>u) (fun _=>True) (fun u=>[sl dt 2 u (xs.eraseIdx i)]):=by
 refine Fn.intro (N:=33) func208 rfl ntmps208 rfl fun F=>?_
 show aq _ _ _ _ _ _ [sl dt 2 v xs,F]
 have h0:xs≠[]:=by intro e;rw[e] at hi;simp at hi
 refine .cM (fun w s=>s.fact .auto (mf h0)) fun e=>?_
 obtain⟨b,cap,rfl,hc⟩:=e
 refine .s (.r (.p (.a rfl) (.n (.t (.s (.r (.p (.m rfl) (.p (.m rfl) (.p (.m rfl) (.p (.m rfl) (.p (.len rfl) ?_)))))))))))
 refine .p (.slice3 i (i+1) xs.length underlying196 sizeOf284 rfl rfl rfl rfl rfl rfl rfl (by omega) (by omega) hc) ?_
 refine .n (.t (.s (.s (.r (.p (.m rfl) (.p (.m rfl) (.p (.eql rfl rfl) (.n (.t (.dY rfl (fun h16=>?_) (fun h16=>?_)))))))))))
 ·exact absurd h16 (by omega)
 ·refine .v (.t (.s (.r (.p (.m rfl) (.p (.len rfl) (.p (.a rfl) (.n (.t (.s ?_)))))))))
  refine .draw [] [1,1,1,1,1,1,3,1] rfl (by kernel_rfl) ?_
  refine .p (.m rfl) (.p (.m rfl) ?_)
  refine .p (.jK i underlying196 sizeOf284 rfl rfl rfl (by omega)) ?_
  refine .p (.m rfl) (.p (.m rfl) ?_)
  refine .p (.mU (i+1) underlying196 sizeOf284 rfl rfl rfl (by omega)) ?_
  refine .d3 rfl (af.jY rfl underlying196 underlying196 typeInfo284 rfl rfl rfl .auto (by omega) (by omega) (Gb _) h0) ?_
  rintro _ _ ⟨rfl,rfl⟩
  refine .p (.a rfl) (.n (.t (.s (.r (.p (.m rfl) (.p (.m rfl) (.p (.lens rfl) (.p (.m rfl) ?_))))))))
  refine .p (.sV (i+(xs.length-(i+1))) xs.length underlying196 sizeOf284 rfl rfl rfl rfl rfl (by omega) hc) ?_
  refine .ai rfl (af.oH (xs:=xs.take i++xs.drop (i+1)) underlying196 zeroValue284 rfl rfl rfl rfl (by rw[List.length_append,List.length_take,List.length_drop];omega) (by omega) .auto) ?_
  rintro _ _ ⟨rfl,rfl⟩
  refine .n (.t (.s (.r (.p (.m rfl) (.p (.a rfl) (.n (.t (.e ?_))))))))
  rw[mg]
  refine .aP rfl rfl fun w s=>⟨_,?_,trivial,aj .auto s⟩
  rfl
theorem J7{W:World}{v:Value}{xs:List vQ}{i:Nat}(hi:i<xs.length)(_hl:xs.length≤1000000000):Fn Tryz.prog W 127 [v,.int .i64 (i:Int),.int .i64 ((i+1:Nat):Int)] [sl gG 4 v xs] Value (fun u=>u) (fun _=>True) (fun u=>[sl gG 4 u (xs.eraseIdx i)]):=by
 refine Fn.intro (N:=33) func127 rfl ntmps127 rfl fun F=>?_
 show aq _ _ _ _ _ _ [sl gG 4 v xs,F]
 have h0:xs≠[]:=by intro e;rw[e] at hi;simp at hi
 refine .cM (fun w s=>s.fact .auto (mf h0)) fun e=>?_
 obtain⟨b,cap,rfl,hc⟩:=e
 refine .s (.r (.p (.a rfl) (.n (.t (.s (.r (.p (.m rfl) (.p (.m rfl) (.p (.m rfl) (.p (.m rfl) (.p (.len rfl) ?_)))))))))))
 refine .p (.slice3 i (i+1) xs.length underlying201 sizeOf145 rfl rfl rfl rfl rfl rfl rfl (by omega) (by omega) hc) ?_
 refine .n (.t (.s (.s (.r (.p (.m rfl) (.p (.m rfl) (.p (.eql rfl rfl) (.n (.t (.dY rfl (fun h16=>?_) (fun h16=>?_)))))))))))
 ·exact absurd h16 (by omega)
 ·refine .v (.t (.s (.r (.p (.m rfl) (.p (.len rfl) (.p (.a rfl) (.n (.t (.s ?_)))))))))
  refine .draw [] [1,1,1,1,1,1,3,1] rfl (by kernel_rfl) ?_
  refine .p (.m rfl) (.p (.m rfl) ?_)
  refine .p (.jK i underlying201 sizeOf145 rfl rfl rfl (by omega)) ?_
  refine .p (.m rfl) (.p (.m rfl) ?_)
  refine .p (.mU (i+1) underlying201 sizeOf145 rfl rfl rfl (by omega)) ?_
  refine .d3 rfl (af.jY rfl underlying201 underlying201 typeInfo145 rfl rfl rfl .auto (by omega) (by omega) (Ga _) h0) ?_
  rintro _ _ ⟨rfl,rfl⟩
  refine .p (.a rfl) (.n (.t (.s (.r (.p (.m rfl) (.p (.m rfl) (.p (.lens rfl) (.p (.m rfl) ?_))))))))
  refine .p (.sV (i+(xs.length-(i+1))) xs.length underlying201 sizeOf145 rfl rfl rfl rfl rfl (by omega) hc) ?_
  refine .ai rfl (af.oH (xs:=xs.take i++xs.drop (i+1)) underlying201 zeroValue145 rfl rfl rfl rfl (by rw[List.length_append,List.length_take,List.length_drop];omega) (by omega) .auto) ?_
  rintro _ _ ⟨rfl,rfl⟩
  refine .n (.t (.s (.r (.p (.m rfl) (.p (.a rfl) (.n (.t (.e ?_))))))))
  rw[mg]
  refine .aP rfl rfl fun w s=>⟨_,?_,trivial,aj .auto s⟩
  rfl
theorem J8{W:World}{v:Value}{xs:List Ptr}{i:Nat}(hi:i<xs.length)(_hl:xs.length≤1000000000):Fn Tryz.prog W 280 [v,.int .i64 (i:Int),.int .i64 ((i+1:Nat):Int)] [sl lS 2 v xs] Value (fun u=>u) (fun _=>True) (fun u=>[sl lS 2 u (xs.eraseIdx i)]):=by
 refine Fn.intro (N:=33) func280 rfl ntmps280 rfl fun F=>?_
 show aq _ _ _ _ _ _ [sl lS 2 v xs,F]
 have h0:xs≠[]:=by intro e;rw[e] at hi;simp at hi
 refine .cM (fun w s=>s.fact .auto (mf h0)) fun e=>?_
 obtain⟨b,cap,rfl,hc⟩:=e
 refine .s (.r (.p (.a rfl) (.n (.t (.s (.r (.p (.m rfl) (.p (.m rfl) (.p (.m rfl) (.p (.m rfl) (.p (.len rfl) ?_)))))))))))
 refine .p (.slice3 i (i+1) xs.length underlying207 sizeOf360 rfl rfl rfl rfl rfl rfl rfl (by omega) (by omega) hc) ?_
 refine .n (.t (.s (.s (.r (.p (.m rfl) (.p (.m rfl) (.p (.eql rfl rfl) (.n (.t (.dY rfl (fun h16=>?_) (fun h16=>?_)))))))))))
 ·exact absurd h16 (by omega)
 ·refine .v (.t (.s (.r (.p (.m rfl) (.p (.len rfl) (.p (.a rfl) (.n (.t (.s ?_)))))))))
  refine .draw [] [1,1,1,1,1,1,3,1] rfl (by kernel_rfl) ?_
  refine .p (.m rfl) (.p (.m rfl) ?_)
  refine .p (.jK i underlying207 sizeOf360 rfl rfl rfl (by omega)) ?_
  refine .p (.m rfl) (.p (.m rfl) ?_)
  refine .p (.mU (i+1) underlying207 sizeOf360 rfl rfl rfl (by omega)) ?_
  refine .d3 rfl (af.jY rfl underlying207 underlying207 typeInfo360 rfl rfl rfl .auto (by omega) (by omega) (Gc _) h0) ?_
  rintro _ _ ⟨rfl,rfl⟩
  refine .p (.a rfl) (.n (.t (.s (.r (.p (.m rfl) (.p (.m rfl) (.p (.lens rfl) (.p (.m rfl) ?_))))))))
  refine .p (.sV (i+(xs.length-(i+1))) xs.length underlying207 sizeOf360 rfl rfl rfl rfl rfl (by omega) hc) ?_
  refine .ai rfl (af.oH (xs:=xs.take i++xs.drop (i+1)) underlying207 zeroValue360 rfl rfl rfl rfl (by rw[List.length_append,List.length_take,List.length_drop];omega) (by omega) .auto) ?_
  rintro _ _ ⟨rfl,rfl⟩
  refine .n (.t (.s (.r (.p (.m rfl) (.p (.a rfl) (.n (.t (.e ?_))))))))
  rw[mg]
  refine .aP rfl rfl fun w s=>⟨_,?_,trivial,aj .auto s⟩
  rfl
theorem yB{W:World}{v:Value}{xs:List Int}{i:Nat}(hi:i<xs.length)(_hl:xs.length≤1000000000):Fn Tryz.prog W 278 [v,.int .i64 (i:Int),.int .i64 ((i+1:Nat):Int)] [sl av 1 v xs] Value (fun u=>u) (fun _=>True) (fun u=>[sl av 1 u (xs.eraseIdx i)]):=by
 refine Fn.intro (N:=33) func278 rfl ntmps278 rfl fun F=>?_
 show aq _ _ _ _ _ _ [sl av 1 v xs,F]
 have h0:xs≠[]:=by intro e;rw[e] at hi;simp at hi
 refine .cM (fun w s=>s.fact .auto (mf h0)) fun e=>?_
 obtain⟨b,cap,rfl,hc⟩:=e
 refine .s (.r (.p (.a rfl) (.n (.t (.s (.r (.p (.m rfl) (.p (.m rfl) (.p (.m rfl) (.p (.m rfl) (.p (.len rfl) ?_)))))))))))
 refine .p (.slice3 i (i+1) xs.length underlying50 sizeOf3 rfl rfl rfl rfl rfl rfl rfl (by omega) (by omega) hc) ?_
 refine .n (.t (.s (.s (.r (.p (.m rfl) (.p (.m rfl) (.p (.eql rfl rfl) (.n (.t (.dY rfl (fun h16=>?_) (fun h16=>?_)))))))))))
 ·exact absurd h16 (by omega)
 ·refine .v (.t (.s (.r (.p (.m rfl) (.p (.len rfl) (.p (.a rfl) (.n (.t (.s ?_)))))))))
  refine .draw [] [1,1,1,1,1,1,3,1] rfl (by kernel_rfl) ?_
  refine .p (.m rfl) (.p (.m rfl) ?_)
  refine .p (.jK i underlying50 sizeOf3 rfl rfl rfl (by omega)) ?_
  refine .p (.m rfl) (.p (.m rfl) ?_)
  refine .p (.mU (i+1) underlying50 sizeOf3 rfl rfl rfl (by omega)) ?_
  refine .d3 rfl (af.jY rfl underlying50 underlying50 typeInfo3 rfl rfl rfl .auto (by omega) (by omega) (oM _) h0) ?_
  rintro _ _ ⟨rfl,rfl⟩
  refine .p (.a rfl) (.n (.t (.s (.r (.p (.m rfl) (.p (.m rfl) (.p (.lens rfl) (.p (.m rfl) ?_))))))))
  refine .p (.sV (i+(xs.length-(i+1))) xs.length underlying50 sizeOf3 rfl rfl rfl rfl rfl (by omega) hc) ?_
  refine .ai rfl (af.oH (xs:=xs.take i++xs.drop (i+1)) underlying50 zeroValue3 rfl rfl rfl rfl (by rw[List.length_append,List.length_take,List.length_drop];omega) (by omega) .auto) ?_
  rintro _ _ ⟨rfl,rfl⟩
  refine .n (.t (.s (.r (.p (.m rfl) (.p (.a rfl) (.n (.t (.e ?_))))))))
  rw[mg]
  refine .aP rfl rfl fun w s=>⟨_,?_,trivial,aj .auto s⟩
  rfl
theorem J9{W:World}{v:Value}{xs:List Int}{i:Nat}(hi:i<xs.length)(_hl:xs.length≤1000000000):Fn Tryz.prog W 279 [v,.int .i64 (i:Int),.int .i64 ((i+1:Nat):Int)] [sl de 1 v xs] Value (fun u=>u) (fun _=>True) (fun u=>[sl de 1 u (xs.eraseIdx i)]):=by
 refine Fn.intro (N:=33) func279 rfl ntmps279 rfl fun F=>?_
 show aq _ _ _ _ _ _ [sl de 1 v xs,F]
 have h0:xs≠[]:=by intro e;rw[e] at hi;simp at hi
 refine .cM (fun w s=>s.fact .auto (mf h0)) fun e=>?_
 obtain⟨b,cap,rfl,hc⟩:=e
 refine .s (.r (.p (.a rfl) (.n (.t (.s (.r (.p (.m rfl) (.p (.m rfl) (.p (.m rfl) (.p (.m rfl) (.p (.len rfl) ?_)))))))))))
 refine .p (.slice3 i (i+1) xs.length underlying64 sizeOf92 rfl rfl rfl rfl rfl rfl rfl (by omega) (by omega) hc) ?_
 refine .n (.t (.s (.s (.r (.p (.m rfl) (.p (.m rfl) (.p (.eql rfl rfl) (.n (.t (.dY rfl (fun h16=>?_) (fun h16=>?_)))))))))))
 ·exact absurd h16 (by omega)
 ·refine .v (.t (.s (.r (.p (.m rfl) (.p (.len rfl) (.p (.a rfl) (.n (.t (.s ?_)))))))))
  refine .draw [] [1,1,1,1,1,1,3,1] rfl (by kernel_rfl) ?_
  refine .p (.m rfl) (.p (.m rfl) ?_)
  refine .p (.jK i underlying64 sizeOf92 rfl rfl rfl (by omega)) ?_
  refine .p (.m rfl) (.p (.m rfl) ?_)
  refine .p (.mU (i+1) underlying64 sizeOf92 rfl rfl rfl (by omega)) ?_
  refine .d3 rfl (af.jY rfl underlying64 underlying64 typeInfo92 rfl rfl rfl .auto (by omega) (by omega) (sZ _) h0) ?_
  rintro _ _ ⟨rfl,rfl⟩
  refine .p (.a rfl) (.n (.t (.s (.r (.p (.m rfl) (.p (.m rfl) (.p (.lens rfl) (.p (.m rfl) ?_))))))))
  refine .p (.sV (i+(xs.length-(i+1))) xs.length underlying64 sizeOf92 rfl rfl rfl rfl rfl (by omega) hc) ?_
  refine .ai rfl (af.oH (xs:=xs.take i++xs.drop (i+1)) underlying64 zeroValue92 rfl rfl rfl rfl (by rw[List.length_append,List.length_take,List.length_drop];omega) (by omega) .auto) ?_
  rintro _ _ ⟨rfl,rfl⟩
  refine .n (.t (.s (.r (.p (.m rfl) (.p (.a rfl) (.n (.t (.e ?_))))))))
  rw[mg]
  refine .aP rfl rfl fun w s=>⟨_,?_,trivial,aj .auto s⟩
  rfl
theorem B1{W:World}{A:aa}{v:Value}{xs:List eV}{p:eV→Bool}{g:Nat}{c:Value}(hr:Rd W [A] dt 2 v xs)(hl:xs.length≤1000000000)(hg:∀ args w,(callFunc g args).run Tryz.prog w = .ok (.enter g args) w)(hf:∀ x∈xs,Fn Tryz.prog W g [.agg (dt x).toArray,c] [A] Unit (fun _=>.bool (p x)) (fun _=>True) (fun _=>[A])):Fn Tryz.prog W 290 [v,.func (.func g) #[] #[c]] [A] Unit (fun _=>.int .i64 (idxP p xs 0)) (fun _=>True) (fun _=>[A]):=by
 refine Fn.intro (N:=19) func290 rfl ntmps290 rfl fun F=>?_
 haveI hRI:∀ (H:List aa) [bx H A],aA W H v dt 2 xs:=fun H h=>⟨hr.at h.has⟩
 show aq _ _ _ _ _ _ [A,F]
 refine J 14 ?_
 refine .bm (X:=Nat) [4,5,8,9,10,11,12,13,14,15,16,17,18] (fun k=>xs.length-k) (fun k=>k≤xs.length∧idxP p xs 0=idxP p (xs.drop k) k) (fun k=>[(8,some (.int .i64 (k:Int)))]) (fun k=>[A,F]) 0 ?_ ?_ ?_ ?_
 ·exact⟨Nat.zero_le _,by simp⟩
 ·exact⟨rfl,trivial⟩
 ·exact fun w s=>aw.kept .auto w s
 rintro k ⟨hk,hn⟩
 refine JD 6 (fun h9=>?_) fun h9=>?_
 ·refine J 15 ?_
  obtain⟨x,hx⟩:=ak (show k<xs.length by omega)
  refine J 2 ?_
  refine .ai rfl (af.kF rfl rfl hg rfl (hf x (List.mem_of_getElem? hx)) .auto) ?_
  rintro _ _ ⟨⟨⟩, -,rfl,rfl⟩
  refine JD 2 (fun h16=>?_) fun h16=>?_
  ·refine J 12 ?_
   refine .aP rfl rfl fun w s=>⟨(),?_,trivial,aj .auto s⟩
   rw[hn,jt hx h16]
  ·refine J 7 ?_
   refine .aH (k+1) .auto rfl ?_ ?_ ?_ ?_
   ·first | omega | (dsimp only;omega)
   ·exact⟨by omega,hn.trans (ib hx h16)⟩
   ·exact⟨rfl,trivial⟩
   ·exact fun w s=>aw.kept .auto w s
 ·refine J 11 ?_
  refine .aP rfl rfl fun w s=>⟨(),?_,trivial,aj .auto s⟩
  rw[hn,ju (by omega)]
theorem vy{W:World}{A:aa}{v:Value}{xs:List eV}{p:eV→Bool}{g:Nat}{c:Value}(hr:Rd W [A] dt 2 v xs)(hl:xs.length≤1000000000)(hg:∀ args w,(callFunc g args).run Tryz.prog w = .ok (.enter g args) w)(hf:∀ x∈xs,Fn Tryz.prog W g [.agg (dt x).toArray,c] [A] Unit (fun _=>.bool (p x)) (fun _=>True) (fun _=>[A])):Fn Tryz.prog W 271 [v,.func (.func g) #[] #[c]] [A] Unit (fun _=>.bool (xs.any p)) (fun _=>True) (fun _=>[A]):=by
 refine Fn.intro (N:=9) func271 rfl ntmps271 rfl fun F=>?_
 show aq _ _ _ _ _ _ [A,F]
 refine J 9 ?_
 refine .c call290 rfl (B1 hr hl hg hf) fun _ _=>?_
 refine J 5 ?_
 refine .aP rfl rfl fun w s=>⟨(),?_,trivial,aj .auto s⟩
 rw[← jv xs 0]
theorem B2{W:World}{A:aa}{v:Value}{xs:List vQ}{p:vQ→Bool}{g:Nat}{c:Value}(hr:Rd W [A] gG 4 v xs)(hl:xs.length≤1000000000)(hg:∀ args w,(callFunc g args).run Tryz.prog w = .ok (.enter g args) w)(hf:∀ x∈xs,Fn Tryz.prog W g [.agg (gG x).toArray,c] [A] Unit (fun _=>.bool (p x)) (fun _=>True) (fun _=>[A])):Fn Tryz.prog W 275 [v,.func (.func g) #[] #[c]] [A] Unit (fun _=>.int .i64 (idxP p xs 0)) (fun _=>True) (fun _=>[A]):=by
 refine Fn.intro (N:=19) func275 rfl ntmps275 rfl fun F=>?_
 haveI hRI:∀ (H:List aa) [bx H A],aA W H v gG 4 xs:=fun H h=>⟨hr.at h.has⟩
 show aq _ _ _ _ _ _ [A,F]
 refine J 14 ?_
 refine .bm (X:=Nat) [4,5,8,9,10,11,12,13,14,15,16,17,18] (fun k=>xs.length-k) (fun k=>k≤xs.length∧idxP p xs 0=idxP p (xs.drop k) k) (fun k=>[(8,some (.int .i64 (k:Int)))]) (fun k=>[A,F]) 0 ?_ ?_ ?_ ?_
 ·exact⟨Nat.zero_le _,by simp⟩
 ·exact⟨rfl,trivial⟩
 ·exact fun w s=>aw.kept .auto w s
 rintro k ⟨hk,hn⟩
 refine JD 6 (fun h9=>?_) fun h9=>?_
 ·refine J 15 ?_
  obtain⟨x,hx⟩:=ak (show k<xs.length by omega)
  refine J 2 ?_
  refine .ai rfl (af.kF rfl rfl hg rfl (hf x (List.mem_of_getElem? hx)) .auto) ?_
  rintro _ _ ⟨⟨⟩, -,rfl,rfl⟩
  refine JD 2 (fun h16=>?_) fun h16=>?_
  ·refine J 12 ?_
   refine .aP rfl rfl fun w s=>⟨(),?_,trivial,aj .auto s⟩
   rw[hn,jt hx h16]
  ·refine J 7 ?_
   refine .aH (k+1) .auto rfl ?_ ?_ ?_ ?_
   ·first | omega | (dsimp only;omega)
   ·exact⟨by omega,hn.trans (ib hx h16)⟩
   ·exact⟨rfl,trivial⟩
   ·exact fun w s=>aw.kept .auto w s
 ·refine J 11 ?_
  refine .aP rfl rfl fun w s=>⟨(),?_,trivial,aj .auto s⟩
  rw[hn,ju (by omega)]
theorem vz{W:World}{A:aa}{v:Value}{xs:List vQ}{p:vQ→Bool}{g:Nat}{c:Value}(hr:Rd W [A] gG 4 v xs)(hl:xs.length≤1000000000)(hg:∀ args w,(callFunc g args).run Tryz.prog w = .ok (.enter g args) w)(hf:∀ x∈xs,Fn Tryz.prog W g [.agg (gG x).toArray,c] [A] Unit (fun _=>.bool (p x)) (fun _=>True) (fun _=>[A])):Fn Tryz.prog W 250 [v,.func (.func g) #[] #[c]] [A] Unit (fun _=>.bool (xs.any p)) (fun _=>True) (fun _=>[A]):=by
 refine Fn.intro (N:=9) func250 rfl ntmps250 rfl fun F=>?_
 show aq _ _ _ _ _ _ [A,F]
 refine J 9 ?_
 refine .c call275 rfl (B2 hr hl hg hf) fun _ _=>?_
 refine J 5 ?_
 refine .aP rfl rfl fun w s=>⟨(),?_,trivial,aj .auto s⟩
 rw[← jv xs 0]
theorem B3{W:World}{A:aa}{v:Value}{xs:List Ptr}{p:Ptr→Bool}{g:Nat}{c:Value}(hr:Rd W [A] lS 2 v xs)(hl:xs.length≤1000000000)(hg:∀ args w,(callFunc g args).run Tryz.prog w = .ok (.enter g args) w)(hf:∀ x∈xs,Fn Tryz.prog W g [.agg (lS x).toArray,c] [A] Unit (fun _=>.bool (p x)) (fun _=>True) (fun _=>[A])):Fn Tryz.prog W 291 [v,.func (.func g) #[] #[c]] [A] Unit (fun _=>.int .i64 (idxP p xs 0)) (fun _=>True) (fun _=>[A]):=by
 refine Fn.intro (N:=19) func291 rfl ntmps291 rfl fun F=>?_
 haveI hRI:∀ (H:List aa) [bx H A],aA W H v lS 2 xs:=fun H h=>⟨hr.at h.has⟩
 show aq _ _ _ _ _ _ [A,F]
 refine J 14 ?_
 refine .bm (X:=Nat) [4,5,8,9,10,11,12,13,14,15,16,17,18] (fun k=>xs.length-k) (fun k=>k≤xs.length∧idxP p xs 0=idxP p (xs.drop k) k) (fun k=>[(8,some (.int .i64 (k:Int)))]) (fun k=>[A,F]) 0 ?_ ?_ ?_ ?_
 ·exact⟨Nat.zero_le _,by simp⟩
 ·exact⟨rfl,trivial⟩
 ·exact fun w s=>aw.kept .auto w s
 rintro k ⟨hk,hn⟩
 refine JD 6 (fun h9=>?_) fun h9=>?_
 ·refine J 15 ?_
  obtain⟨x,hx⟩:=ak (show k<xs.length by omega)
  refine J 2 ?_
  refine .ai rfl (af.kF rfl rfl hg rfl (hf x (List.mem_of_getElem? hx)) .auto) ?_
  rintro _ _ ⟨⟨⟩, -,rfl,rfl⟩
  refine JD 2 (fun h16=>?_) fun h16=>?_
  ·refine J 12 ?_
   refine .aP rfl rfl fun w s=>⟨(),?_,trivial,aj .auto s⟩
   rw[hn,jt hx h16]
  ·refine J 7 ?_
   refine .aH (k+1) .auto rfl ?_ ?_ ?_ ?_
   ·first | omega | (dsimp only;omega)
   ·exact⟨by omega,hn.trans (ib hx h16)⟩
   ·exact⟨rfl,trivial⟩
   ·exact fun w s=>aw.kept .auto w s
 ·refine J 11 ?_
  refine .aP rfl rfl fun w s=>⟨(),?_,trivial,aj .auto s⟩
  rw[hn,ju (by omega)]
theorem vA{W:World}{A:aa}{v:Value}{xs:List Ptr}{p:Ptr→Bool}{g:Nat}{c:Value}(hr:Rd W [A] lS 2 v xs)(hl:xs.length≤1000000000)(hg:∀ args w,(callFunc g args).run Tryz.prog w = .ok (.enter g args) w)(hf:∀ x∈xs,Fn Tryz.prog W g [.agg (lS x).toArray,c] [A] Unit (fun _=>.bool (p x)) (fun _=>True) (fun _=>[A])):Fn Tryz.prog W 276 [v,.func (.func g) #[] #[c]] [A] Unit (fun _=>.bool (xs.any p)) (fun _=>True) (fun _=>[A]):=by
 refine Fn.intro (N:=9) func276 rfl ntmps276 rfl fun F=>?_
 show aq _ _ _ _ _ _ [A,F]
 refine J 9 ?_
 refine .c call291 rfl (B3 hr hl hg hf) fun _ _=>?_
 refine J 5 ?_
 refine .aP rfl rfl fun w s=>⟨(),?_,trivial,aj .auto s⟩
 rw[← jv xs 0]
theorem B4{W:World}{A:aa}{v:Value}{xs:List (Value×eI)}{p:(Value×eI)→Bool}{g:Nat}{c:Value}(hr:Rd W [A] lU 3 v xs)(hl:xs.length≤1000000000)(hg:∀ args w,(callFunc g args).run Tryz.prog w = .ok (.enter g args) w)(hf:∀ x∈xs,Fn Tryz.prog W g [.agg (lU x).toArray,c] [A] Unit (fun _=>.bool (p x)) (fun _=>True) (fun _=>[A])):Fn Tryz.prog W 270 [v,.func (.func g) #[] #[c]] [A] Unit (fun _=>.int .i64 (idxP p xs 0)) (fun _=>True) (fun _=>[A]):=by
 refine Fn.intro (N:=19) func270 rfl ntmps270 rfl fun F=>?_
 haveI hRI:∀ (H:List aa) [bx H A],aA W H v lU 3 xs:=fun H h=>⟨hr.at h.has⟩
 show aq _ _ _ _ _ _ [A,F]
 refine J 14 ?_
 refine .bm (X:=Nat) [4,5,8,9,10,11,12,13,14,15,16,17,18] (fun k=>xs.length-k) (fun k=>k≤xs.length∧idxP p xs 0=idxP p (xs.drop k) k) (fun k=>[(8,some (.int .i64 (k:Int)))]) (fun k=>[A,F]) 0 ?_ ?_ ?_ ?_
 ·exact⟨Nat.zero_le _,by simp⟩
 ·exact⟨rfl,trivial⟩
 ·exact fun w s=>aw.kept .auto w s
 rintro k ⟨hk,hn⟩
 refine JD 6 (fun h9=>?_) fun h9=>?_
 ·refine J 15 ?_
  obtain⟨x,hx⟩:=ak (show k<xs.length by omega)
  refine J 2 ?_
  refine .ai rfl (af.kF rfl rfl hg rfl (hf x (List.mem_of_getElem? hx)) .auto) ?_
  rintro _ _ ⟨⟨⟩, -,rfl,rfl⟩
  refine JD 2 (fun h16=>?_) fun h16=>?_
  ·refine J 12 ?_
   refine .aP rfl rfl fun w s=>⟨(),?_,trivial,aj .auto s⟩
   rw[hn,jt hx h16]
  ·refine J 7 ?_
   refine .aH (k+1) .auto rfl ?_ ?_ ?_ ?_
   ·first | omega | (dsimp only;omega)
   ·exact⟨by omega,hn.trans (ib hx h16)⟩
   ·exact⟨rfl,trivial⟩
   ·exact fun w s=>aw.kept .auto w s
 ·refine J 11 ?_
  refine .aP rfl rfl fun w s=>⟨(),?_,trivial,aj .auto s⟩
  rw[hn,ju (by omega)]
theorem vB{W:World}{A:aa}{v:Value}{xs:List (Value×eI)}{p:(Value×eI)→Bool}{g:Nat}{c:Value}(hr:Rd W [A] lU 3 v xs)(hl:xs.length≤1000000000)(hg:∀ args w,(callFunc g args).run Tryz.prog w = .ok (.enter g args) w)(hf:∀ x∈xs,Fn Tryz.prog W g [.agg (lU x).toArray,c] [A] Unit (fun _=>.bool (p x)) (fun _=>True) (fun _=>[A])):Fn Tryz.prog W 243 [v,.func (.func g) #[] #[c]] [A] Unit (fun _=>.bool (xs.any p)) (fun _=>True) (fun _=>[A]):=by
 refine Fn.intro (N:=9) func243 rfl ntmps243 rfl fun F=>?_
 show aq _ _ _ _ _ _ [A,F]
 refine J 9 ?_
 refine .c call270 rfl (B4 hr hl hg hf) fun _ _=>?_
 refine J 5 ?_
 refine .aP rfl rfl fun w s=>⟨(),?_,trivial,aj .auto s⟩
 rw[← jv xs 0]
theorem B5{W:World}{A:aa}{v:Value}{xs:List (Value×List eV)}{p:(Value×List eV)→Bool}{g:Nat}{c:Value}(hr:Rd W [A] ek 1 v xs)(hl:xs.length≤1000000000)(hg:∀ args w,(callFunc g args).run Tryz.prog w = .ok (.enter g args) w)(hf:∀ x∈xs,Fn Tryz.prog W g [.agg (ek x).toArray,c] [A] Unit (fun _=>.bool (p x)) (fun _=>True) (fun _=>[A])):Fn Tryz.prog W 273 [v,.func (.func g) #[] #[c]] [A] Unit (fun _=>.int .i64 (idxP p xs 0)) (fun _=>True) (fun _=>[A]):=by
 refine Fn.intro (N:=19) func273 rfl ntmps273 rfl fun F=>?_
 haveI hRI:∀ (H:List aa) [bx H A],aA W H v ek 1 xs:=fun H h=>⟨hr.at h.has⟩
 show aq _ _ _ _ _ _ [A,F]
 refine J 14 ?_
 refine .bm (X:=Nat) [4,5,8,9,10,11,12,13,14,15,16,17,18] (fun k=>xs.length-k) (fun k=>k≤xs.length∧idxP p xs 0=idxP p (xs.drop k) k) (fun k=>[(8,some (.int .i64 (k:Int)))]) (fun k=>[A,F]) 0 ?_ ?_ ?_ ?_
 ·exact⟨Nat.zero_le _,by simp⟩
 ·exact⟨rfl,trivial⟩
 ·exact fun w s=>aw.kept .auto w s
 rintro k ⟨hk,hn⟩
 refine JD 6 (fun h9=>?_) fun h9=>?_
 ·refine J 15 ?_
  obtain⟨x,hx⟩:=ak (show k<xs.length by omega)
  refine J 2 ?_
  refine .ai rfl (af.kF rfl rfl hg rfl (hf x (List.mem_of_getElem? hx)) .auto) ?_
  rintro _ _ ⟨⟨⟩, -,rfl,rfl⟩
  refine JD 2 (fun h16=>?_) fun h16=>?_
  ·refine J 12 ?_
   refine .aP rfl rfl fun w s=>⟨(),?_,trivial,aj .auto s⟩
   rw[hn,jt hx h16]
  ·refine J 7 ?_
   refine .aH (k+1) .auto rfl ?_ ?_ ?_ ?_
   ·first | omega | (dsimp only;omega)
   ·exact⟨by omega,hn.trans (ib hx h16)⟩
   ·exact⟨rfl,trivial⟩
   ·exact fun w s=>aw.kept .auto w s
 ·refine J 11 ?_
  refine .aP rfl rfl fun w s=>⟨(),?_,trivial,aj .auto s⟩
  rw[hn,ju (by omega)]
theorem vC{W:World}{A:aa}{v:Value}{xs:List (Value×List eV)}{p:(Value×List eV)→Bool}{g:Nat}{c:Value}(hr:Rd W [A] ek 1 v xs)(hl:xs.length≤1000000000)(hg:∀ args w,(callFunc g args).run Tryz.prog w = .ok (.enter g args) w)(hf:∀ x∈xs,Fn Tryz.prog W g [.agg (ek x).toArray,c] [A] Unit (fun _=>.bool (p x)) (fun _=>True) (fun _=>[A])):Fn Tryz.prog W 246 [v,.func (.func g) #[] #[c]] [A] Unit (fun _=>.bool (xs.any p)) (fun _=>True) (fun _=>[A]):=by
 refine Fn.intro (N:=9) func246 rfl ntmps246 rfl fun F=>?_
 show aq _ _ _ _ _ _ [A,F]
 refine J 9 ?_
 refine .c call273 rfl (B5 hr hl hg hf) fun _ _=>?_
 refine J 5 ?_
 refine .aP rfl rfl fun w s=>⟨(),?_,trivial,aj .auto s⟩
 rw[← jv xs 0]
theorem B6{W:World}{A:aa}{v:Value}{xs:List (Value×kz)}{p:(Value×kz)→Bool}{g:Nat}{c:Value}(hr:Rd W [A] l6 2 v xs)(hl:xs.length≤1000000000)(hg:∀ args w,(callFunc g args).run Tryz.prog w = .ok (.enter g args) w)(hf:∀ x∈xs,Fn Tryz.prog W g [.agg (l6 x).toArray,c] [A] Unit (fun _=>.bool (p x)) (fun _=>True) (fun _=>[A])):Fn Tryz.prog W 274 [v,.func (.func g) #[] #[c]] [A] Unit (fun _=>.int .i64 (idxP p xs 0)) (fun _=>True) (fun _=>[A]):=by
 refine Fn.intro (N:=19) func274 rfl ntmps274 rfl fun F=>?_
 haveI hRI:∀ (H:List aa) [bx H A],aA W H v l6 2 xs:=fun H h=>⟨hr.at h.has⟩
 show aq _ _ _ _ _ _ [A,F]
 refine J 14 ?_
 refine .bm (X:=Nat) [4,5,8,9,10,11,12,13,14,15,16,17,18] (fun k=>xs.length-k) (fun k=>k≤xs.length∧idxP p xs 0=idxP p (xs.drop k) k) (fun k=>[(8,some (.int .i64 (k:Int)))]) (fun k=>[A,F]) 0 ?_ ?_ ?_ ?_
 ·exact⟨Nat.zero_le _,by simp⟩
 ·exact⟨rfl,trivial⟩
 ·exact fun w s=>aw.kept .auto w s
 rintro k ⟨hk,hn⟩
 refine JD 6 (fun h9=>?_) fun h9=>?_
 ·refine J 15 ?_
  obtain⟨x,hx⟩:=ak (show k<xs.length by omega)
  refine J 2 ?_
  refine .ai rfl (af.kF rfl rfl hg rfl (hf x (List.mem_of_getElem? hx)) .auto) ?_
  rintro _ _ ⟨⟨⟩, -,rfl,rfl⟩
  refine JD 2 (fun h16=>?_) fun h16=>?_
  ·refine J 12 ?_
   refine .aP rfl rfl fun w s=>⟨(),?_,trivial,aj .auto s⟩
   rw[hn,jt hx h16]
  ·refine J 7 ?_
   refine .aH (k+1) .auto rfl ?_ ?_ ?_ ?_
   ·first | omega | (dsimp only;omega)
   ·exact⟨by omega,hn.trans (ib hx h16)⟩
   ·exact⟨rfl,trivial⟩
   ·exact fun w s=>aw.kept .auto w s
 ·refine J 11 ?_
  refine .aP rfl rfl fun w s=>⟨(),?_,trivial,aj .auto s⟩
  rw[hn,ju (by omega)]
theorem vD{W:World}{A:aa}{v:Value}{xs:List (Value×kz)}{p:(Value×kz)→Bool}{g:Nat}{c:Value}(hr:Rd W [A] l6 2 v xs)(hl:xs.length≤1000000000)(hg:∀ args w,(callFunc g args).run Tryz.prog w = .ok (.enter g args) w)(hf:∀ x∈xs,Fn Tryz.prog W g [.agg (l6 x).toArray,c] [A] Unit (fun _=>.bool (p x)) (fun _=>True) (fun _=>[A])):Fn Tryz.prog W 248 [v,.func (.func g) #[] #[c]] [A] Unit (fun _=>.bool (xs.any p)) (fun _=>True) (fun _=>[A]):=by
 refine Fn.intro (N:=9) func248 rfl ntmps248 rfl fun F=>?_
 show aq _ _ _ _ _ _ [A,F]
 refine J 9 ?_
 refine .c call274 rfl (B6 hr hl hg hf) fun _ _=>?_
 refine J 5 ?_
 refine .aP rfl rfl fun w s=>⟨(),?_,trivial,aj .auto s⟩
 rw[← jv xs 0]
end Go.SLYtpbjdoplfgeliaaGreat
namespace Go.SLYtpbjdoplfgeliaaGreat
open Go Go.RowKit Go.Proofs Go.Proofs.Tryz
attribute [local irreducible] aq aR bf bq bB Y
theorem wZ{W:World}{b:Nat}{l:List (Bool×Int)}{h:Int}(hl:jm l)(h0:0≤h):Fn Tryz.prog W 198 [ptr b,.int .u64 h] [lT b l] Unit (fun _=>MR (bz l h)) (fun _=>True) (fun _=>[lT b l]):=by
 refine Fn.intro (N:=50) func198 rfl ntmps198 rfl fun F=>?_
 show aq _ _ _ _ _ _ [lT b l,F]
 refine J 13 ?_
 refine .g (.fY (Y.rem rfl rfl (by omega)) (zA h0)) ?_
 refine JD 4 (fun h13=>?_) fun h13=>?_
 ·refine J 8 ?_
  refine .ez rfl rfl rfl fun w s=>⟨(),?_,trivial,aj .auto s⟩
  rw[vY h13];rfl
 ·refine J 4 ?_
  refine .o1 (C:=lT b l) .auto rfl ?_
  rintro v -
  obtain⟨hl1,hl2⟩:=hl
  have hm:h % 65536<65536:=by omega
  have ho:(hh:hN h<l.length)→l[hN h]?=some (jT l (hN h)):=getD_some
  refine J 1 ?_
  refine .p (.fY (Y.rem rfl rfl (by omega)) (zA h0)) ?_
  refine .p (.jj underlying92 underlying3 rfl (by omega)) ?_
  refine .p (.fY (Y.sub rfl rfl (by omega)) (Jo h13)) ?_
  refine J 14 ?_
  apply aR.ga 10 35 25 [25,26,27,28,29,30,31,32,33,34,35] rfl
  ·intro h25
   have hlt:hN h<l.length:=by omega
   refine J 5 ?_
   refine .g (.sM (hN h) underlying187 sizeOf264 rfl rfl Rd.s rfl hlt) ?_
   refine J 1 ?_
   refine .g (.ld rfl (Cell.KE Rd.s (ho (by omega)) (by rfl))) ?_
   exact JS 3
  ·intro h25
   exact JS 11
  refine J 1 ?_
  apply aR.iL 12 48 36 [36,37,38,39,40,41,42,43,44,45,46,47,48] rfl
  ·intro h36
   simp only[Bool.or_eq_false_iff,decide_eq_false_iff_not] at h36
   have hlt:hN h<l.length:=by omega
   have hob:=hl2 _ (List.mem_of_getElem? (ho hlt))
   refine J 5 ?_
   refine .g (.sM (hN h) underlying187 sizeOf264 rfl rfl Rd.s rfl hlt) ?_
   refine .g (.la rfl (Cells.rd Rd.s (ho (by omega)))) ?_
   refine J 1 ?_
   refine .cg call158 rfl (ru (o:=jT l (hN h)) (n:=hN h) (by omega) (by omega)) fun _ _=>?_
   exact JS 4
  ·intro h36
   exact JS 13
  refine JD 2 (fun h48=>?_) fun h48=>?_
  ·refine J 8 ?_
   refine .ez rfl rfl rfl fun w s=>⟨(),?_,trivial,aj .auto s⟩
   rw[find_eq h13,if_pos (by simpa using h48)];rfl
  ·refine J 10 ?_
   refine .ez rfl rfl rfl fun w s=>⟨(),?_,trivial,aj .auto s⟩
   rw[find_eq h13,if_neg (by simpa using h48)];rfl
theorem EX{W:World}{b:Nat}{l:List (Bool×Int)}{h:Int}(hl:jm l)(h0:0≤h):Fn Tryz.prog W 159 [ptr b,.int .u64 h] [lT b l] Int (fun e=>.int .i64 e) (fun _=>True) (fun _=>[lT b (slotFreed l h)]):=by
 refine Fn.intro (N:=22) func159 rfl ntmps159 rfl fun F=>?_
 show aq _ _ _ _ _ _ [lT b l,F]
 refine J 9 ?_
 refine .c call198 rfl (wZ hl h0) fun _ _=>?_
 refine JD 14 (fun h14=>?_) fun h14=>?_
 ·refine J 7 ?_
  rw[Bo (show bz l h=none from by cases e:bz l h with
   | none=>rfl
   | some n=>rw[e] at h14;cases h14)]
  refine .aP rfl rfl fun w s=>⟨3,?_,trivial,aj .auto s⟩
  rfl
 ·refine J 4 ?_
  refine .o1 (C:=lT b l) .auto rfl ?_
  rintro v -
  obtain⟨n,hn⟩:∃ n,bz l h=some n:=by cases e:bz l h with
   | none=>rw[e] at h14;cases h14
   | some n=>exact⟨n,rfl⟩
  obtain⟨hlt, -⟩:=CI hn
  have ho:l[n]?=some (jT l n):=getD_some hlt
  obtain⟨u,tk,hut⟩:∃ u tk,jT l n=(u,tk):=⟨_,_,rfl⟩
  rw[hut] at ho
  refine J 5 ?_
  refine .p (.sM n underlying187 sizeOf264 rfl (by rw[hn];rfl) Rd.s rfl hlt) ?_
  refine J 1 ?_
  refine .ai rfl (af.eG (x':=(false,tk)) rfl rfl sizeOf4 rfl ho (by decide) rfl .auto) ?_
  rintro _ _ ⟨rfl,rfl⟩
  refine J 8 ?_
  rw[tp hn,hut]
  refine .aP rfl rfl fun w s=>⟨0,?_,trivial,aj .auto s⟩
  rfl
theorem Nk{W:World}{A:aa}{x:eV}{c:Nat}{who:Int}:Fn Tryz.prog W 272 [.agg (dt x).toArray,ptr c] [seps [arr c 0 [.int .i64 who],A]] Unit (fun _=>.bool (decide (x.who=who))) (fun _=>True) (fun _=>[seps [arr c 0 [.int .i64 who],A]]):=by
 refine Fn.intro (N:=8) func272 rfl ntmps272 rfl fun F=>?_
 show aq _ _ _ _ _ _ [seps [arr c 0 [.int .i64 who],A],F]
 refine .dO .auto ?_
 refine J 2 ?_
 refine .ai rfl (af.box rfl rfl rfl) ?_
 rintro _ _ ⟨b2,rfl,rfl⟩
 exact JR 13 ()
theorem yC{W:World}{A:aa}{b:Nat}{u:Value}{cs:List Value}{l:List eV}{who:Int}(hr:Rd W [A] dt 2 u l)(hl:l.length≤1000000):Fn Tryz.prog W 245 [ptr b,.int .i64 who] [arr b 0 (u::cs),A] Unit (fun _=>.bool (lQ l who)) (fun _=>True) (fun _=>[arr b 0 (u::cs),A]):=by
 refine Fn.intro (N:=11) func245 rfl ntmps245 rfl fun F=>?_
 show aq _ _ _ _ _ _ [arr b 0 (u::cs),A,F]
 refine J 2 ?_
 refine .ai rfl (af.box rfl rfl rfl) ?_
 rintro _ _ ⟨b3,rfl,rfl⟩
 refine J 9 ?_
 refine .p (.makeFunc rfl rfl) ?_
 refine .c call271 rfl (vy (A:=seps [arr b3 0 [.int .i64 who],A]) (p:=fun w=>decide (w.who=who)) (Rd.eO (Rd.at hr (.there .here))) (by omega) call272 (fun x _=>Nk)) fun _ _=>?_
 refine .dO .auto ?_
 exact JR 4 ()
theorem Ib{W:World}{A:aa}{x:Value×eI}{c:Nat}{who:Int}(hr:Rd W [A] dt 2 x.1 x.2.wait)(hl:x.2.wait.length≤1000000):Fn Tryz.prog W 244 [.agg (lU x).toArray,ptr c] [seps [arr c 0 [.int .i64 who],A]] Unit (fun _=>.bool (lQ x.2.wait who)) (fun _=>True) (fun _=>[seps [arr c 0 [.int .i64 who],A]]):=by
 refine Fn.intro (N:=7) func244 rfl ntmps244 rfl fun F=>?_
 show aq _ _ _ _ _ _ [seps [arr c 0 [.int .i64 who],A],F]
 refine .dO .auto ?_
 refine J 2 ?_
 refine .ai rfl (af.box rfl rfl rfl) ?_
 rintro _ _ ⟨b2,rfl,rfl⟩
 refine .mem (H':=[arr b2 0 (lU x),arr c 0 [.int .i64 who],A,F]) (fun w s=>s) ?_
 refine J 7 ?_
 refine .c call245 rfl (yC hr hl) fun _ _=>?_
 exact JR 4 ()
theorem Ic{W:World}{A:aa}{x:Value×List eV}{c:Nat}{who:Int}(hr:Rd W [A] dt 2 x.1 x.2)(hl:x.2.length≤1000000):Fn Tryz.prog W 247 [.agg (ek x).toArray,ptr c] [seps [arr c 0 [.int .i64 who],A]] Unit (fun _=>.bool (lQ x.2 who)) (fun _=>True) (fun _=>[seps [arr c 0 [.int .i64 who],A]]):=by
 refine Fn.intro (N:=6) func247 rfl ntmps247 rfl fun F=>?_
 show aq _ _ _ _ _ _ [seps [arr c 0 [.int .i64 who],A],F]
 refine .dO .auto ?_
 refine J 2 ?_
 refine .ai rfl (af.box rfl rfl rfl) ?_
 rintro _ _ ⟨b2,rfl,rfl⟩
 refine .mem (H':=[arr b2 0 (ek x),arr c 0 [.int .i64 who],A,F]) (fun w s=>s) ?_
 refine J 6 ?_
 refine .c call245 rfl (yC hr hl) fun _ _=>?_
 exact JR 4 ()
theorem Ie{W:World}{A:aa}{x:Value×kz}{c:Nat}{who:Int}(hr:Rd W [A] dt 2 x.1 x.2.wait)(hl:x.2.wait.length≤1000000):Fn Tryz.prog W 249 [.agg (l6 x).toArray,ptr c] [seps [arr c 0 [.int .i64 who],A]] Unit (fun _=>.bool (lQ x.2.wait who)) (fun _=>True) (fun _=>[seps [arr c 0 [.int .i64 who],A]]):=by
 refine Fn.intro (N:=7) func249 rfl ntmps249 rfl fun F=>?_
 show aq _ _ _ _ _ _ [seps [arr c 0 [.int .i64 who],A],F]
 refine .dO .auto ?_
 refine J 2 ?_
 refine .ai rfl (af.box rfl rfl rfl) ?_
 rintro _ _ ⟨b2,rfl,rfl⟩
 refine .mem (H':=[arr b2 0 (l6 x),arr c 0 [.int .i64 who],A,F]) (fun w s=>s) ?_
 refine J 7 ?_
 refine .c call245 rfl (yC hr hl) fun _ _=>?_
 exact JR 4 ()
theorem ot{W:World}{b:Nat}{g:Gates}{who:Int}{vm vc vs:Value}(hg:gP g):Fn Tryz.prog W 204 [ptr b,.int .i64 who] [arr b 0 [vm,vc,vs],dZ vm g.dn,iy vc g.hD,ft vs g.et] Unit (fun _=>.bool (g.waits who)) (fun _=>True) (fun _=>[arr b 0 [vm,vc,vs],dZ vm g.dn,iy vc g.hD,ft vs g.et]):=by
 refine Fn.intro (N:=27) func204 rfl ntmps204 rfl fun F=>?_
 show aq _ _ _ _ _ _ [arr b 0 [vm,vc,vs],dZ vm g.dn,iy vc g.hD,ft vs g.et,F]
 refine .o1 (C:=dZ vm g.dn) .auto rfl ?_
 rintro xm hxm
 refine .o1 (C:=iy vc g.hD) .auto rfl ?_
 rintro xc hxc
 refine .o1 (C:=ft vs g.et) .auto rfl ?_
 rintro xs hxs
 have hlm:=aC hxm
 have hlc:=aC hxc
 have hls:=aC hxs
 have hm2:∀ x∈xm,x.2.wait.length≤1000000:=fun x hx=>hg.mw _ (hxm ▸ List.mem_map_of_mem hx)
 have hc2:∀ x∈xc,x.2.length≤1000000:=fun x hx=>hg.cw _ (hxc ▸ List.mem_map_of_mem hx)
 have hs2:∀ x∈xs,x.2.wait.length≤1000000:=fun x hx=>hg.sw _ (hxs ▸ List.mem_map_of_mem hx)
 obtain⟨hg1,hg2,hg3, -, -, -⟩:=hg
 refine J 2 ?_
 refine .ai rfl (af.box rfl rfl rfl) ?_
 rintro _ _ ⟨b3,rfl,rfl⟩
 refine J 9 ?_
 refine .p (.makeFunc rfl rfl) ?_
 refine .c call243 rfl (vB (A:=seps [arr b3 0 [.int .i64 who],seps [sl lU 3 vm xm,aF (fun x=>sl dt 2 x.1 x.2.wait) xm]]) (p:=fun x=>lQ x.2.wait who) (Rd.eO (Rd.at (Rd.eO (Rd.sl .here)) (.there .here))) (by omega) call244 (fun x hx=>Ib (Rd.eO (xQ (f:=fun x:Value×eI=>x.1) (g:=fun x=>x.2.wait) hx (.there .here))) (hm2 x hx))) fun _ _=>?_
 refine .dO .auto ?_
 refine .dO .auto ?_
 refine J 1 ?_
 apply aR.iL 7 18 11 [11,12,13,14,15,16,17,18] rfl
 ·intro h11
  refine J 4 ?_
  refine .g (.makeFunc rfl rfl) ?_
  refine .cg call246 rfl (vC (A:=seps [arr b3 0 [.int .i64 who],seps [sl ek 1 vc xc,aF (fun x=>sl dt 2 x.1 x.2) xc]]) (p:=fun x=>lQ x.2 who) (Rd.eO (Rd.at (Rd.eO (Rd.sl .here)) (.there .here))) (by omega) call247 (fun x hx=>Ic (Rd.eO (xQ (f:=fun x:Value×List eV=>x.1) (g:=fun x=>x.2) hx (.there .here))) (hc2 x hx))) fun _ _=>?_
  refine .dO .auto ?_
  refine .dO .auto ?_
  exact JS 2
 ·intro h11
  exact JS 8
 refine J 1 ?_
 apply aR.iL 7 26 19 [19,20,21,22,23,24,25,26] rfl
 ·intro h19
  refine J 4 ?_
  refine .g (.makeFunc rfl rfl) ?_
  refine .cg call248 rfl (vD (A:=seps [arr b3 0 [.int .i64 who],seps [sl l6 2 vs xs,aF (fun x=>sl dt 2 x.1 x.2.wait) xs]]) (p:=fun x=>lQ x.2.wait who) (Rd.eO (Rd.at (Rd.eO (Rd.sl .here)) (.there .here))) (by omega) call249 (fun x hx=>Ie (Rd.eO (xQ (f:=fun x:Value×kz=>x.1) (g:=fun x=>x.2.wait) hx (.there .here))) (hs2 x hx))) fun _ _=>?_
  refine .dO .auto ?_
  refine .dO .auto ?_
  exact JS 2
 ·intro h19
  exact JS 8
 refine J 4 ?_
 refine .aP rfl rfl fun w s=>⟨(),?_,trivial,aj .auto s⟩
 exact La (GA hxm hxc hxs)
theorem lB{W:World}{b:Nat}{l:List (eI)}{m:Int}{vm vc vs:Value}:Fn Tryz.prog W 203 [ptr b,.int .i64 m] [arr b 0 [vm,vc,vs],dZ vm l] Unit (fun _=>KH vm l.length 3 m) (fun _=>True) (fun _=>[arr b 0 [vm,vc,vs],dZ vm l]):=by
 refine Fn.intro (N:=26) func203 rfl ntmps203 rfl fun F=>?_
 show aq _ _ _ _ _ _ [arr b 0 [vm,vc,vs],dZ vm l,F]
 refine .o1 (C:=dZ vm l) .auto rfl ?_
 rintro xs hxs
 have hl:=aC hxs
 refine J 15 ?_
 apply aR.ga 8 19 11 [11,12,13,14,15,16,17,18,19] rfl
 ·intro h11
  exact JS 9
 ·intro h11
  exact JS 9
 refine JD 2 (fun h19=>?_) fun h19=>?_
 ·simp only[Bool.or_eq_true,decide_eq_true_eq] at h19
  refine J 7 ?_
  refine .aP rfl rfl fun w s=>⟨(),?_,trivial,aj .auto s⟩
  rw[rT (by omega)]
 ·simp only[Bool.or_eq_false_iff,decide_eq_false_iff_not] at h19
  refine J 9 ?_
  refine .p (.ix m.toNat rfl rfl (by omega) (by omega)) ?_
  refine J 4 ?_
  refine .aP rfl rfl fun w s=>⟨(),?_,trivial,aj .auto s⟩
  rw[eY (by omega)]
theorem w8{W:World}{b:Nat}{l:List (List eV)}{m:Int}{vm vc vs:Value}:Fn Tryz.prog W 169 [ptr b,.int .i64 m] [arr b 0 [vm,vc,vs],iy vc l] Unit (fun _=>KH vc l.length 1 m) (fun _=>True) (fun _=>[arr b 0 [vm,vc,vs],iy vc l]):=by
 refine Fn.intro (N:=26) func169 rfl ntmps169 rfl fun F=>?_
 show aq _ _ _ _ _ _ [arr b 0 [vm,vc,vs],iy vc l,F]
 refine .o1 (C:=iy vc l) .auto rfl ?_
 rintro xs hxs
 have hl:=aC hxs
 refine J 15 ?_
 apply aR.ga 8 19 11 [11,12,13,14,15,16,17,18,19] rfl
 ·intro h11
  exact JS 9
 ·intro h11
  exact JS 9
 refine JD 2 (fun h19=>?_) fun h19=>?_
 ·simp only[Bool.or_eq_true,decide_eq_true_eq] at h19
  refine J 7 ?_
  refine .aP rfl rfl fun w s=>⟨(),?_,trivial,aj .auto s⟩
  rw[rT (by omega)]
 ·simp only[Bool.or_eq_false_iff,decide_eq_false_iff_not] at h19
  refine J 9 ?_
  refine .p (.ix m.toNat rfl rfl (by omega) (by omega)) ?_
  refine J 4 ?_
  refine .aP rfl rfl fun w s=>⟨(),?_,trivial,aj .auto s⟩
  rw[eY (by omega)]
theorem Ar{W:World}{b:Nat}{l:List (kz)}{m:Int}{vm vc vs:Value}:Fn Tryz.prog W 210 [ptr b,.int .i64 m] [arr b 0 [vm,vc,vs],ft vs l] Unit (fun _=>KH vs l.length 2 m) (fun _=>True) (fun _=>[arr b 0 [vm,vc,vs],ft vs l]):=by
 refine Fn.intro (N:=26) func210 rfl ntmps210 rfl fun F=>?_
 show aq _ _ _ _ _ _ [arr b 0 [vm,vc,vs],ft vs l,F]
 refine .o1 (C:=ft vs l) .auto rfl ?_
 rintro xs hxs
 have hl:=aC hxs
 refine J 15 ?_
 apply aR.ga 8 19 11 [11,12,13,14,15,16,17,18,19] rfl
 ·intro h11
  exact JS 9
 ·intro h11
  exact JS 9
 refine JD 2 (fun h19=>?_) fun h19=>?_
 ·simp only[Bool.or_eq_true,decide_eq_true_eq] at h19
  refine J 7 ?_
  refine .aP rfl rfl fun w s=>⟨(),?_,trivial,aj .auto s⟩
  rw[rT (by omega)]
 ·simp only[Bool.or_eq_false_iff,decide_eq_false_iff_not] at h19
  refine J 9 ?_
  refine .p (.ix m.toNat rfl rfl (by omega) (by omega)) ?_
  refine J 4 ?_
  refine .aP rfl rfl fun w s=>⟨(),?_,trivial,aj .auto s⟩
  rw[eY (by omega)]
theorem yD{W:World}{b o:Nat}{l:List eV}{x:eV}(hl:l.length≤100000000):Fn Tryz.prog W 207 [.pointer (some ⟨b,o,none⟩),.agg (dt x).toArray] [iK b o l] Unit (fun _=>.tuple #[]) (fun _=>True) (fun _=>[iK b o (l++[x])]):=by
 refine Fn.intro (N:=14) func207 rfl ntmps207 rfl fun F=>?_
 show aq _ _ _ _ _ _ [iK b o l,F]
 refine .o1 (C:=iK b o l) .auto rfl ?_
 rintro v -
 refine J 2 ?_
 refine .ai rfl (af.box rfl rfl rfl) ?_
 rintro _ _ ⟨b3,rfl,rfl⟩
 refine .mem (H':=[arr b3 0 (dt x),arr b o [v],sl dt 2 v l,F]) (fun w s=>s) ?_
 refine J 2 ?_
 refine .draw [arr b o [v]] [0,0,0,0,0,1,2,2,1,1,3] rfl (by kernel_rfl) ?_
 refine J 6 ?_
 refine .d2 rfl Kept.auto (af.gF 284 rfl rfl (by kernel_rfl)) (by rintro _ _ ⟨b10,rfl,rfl⟩;exact Kept.auto) ?_
 rintro _ _ ⟨b10,rfl,rfl⟩
 refine .mem (H':=[arr b10 0 (dt x),arr b3 0 (dt x),arr b o [v],sl dt 2 v l,F]) (fun w s=>s) ?_
 refine .d2 rfl Kept.auto (af.fJ (enc:=dt) (k:=2) x rfl underlying196 underlying196 typeInfo284 rfl rfl rfl (by decide) rfl rfl rfl .auto rfl .auto (by omega) rfl) (by rintro _ _ ⟨v11,rfl,rfl⟩;exact Kept.auto) ?_
 rintro _ _ ⟨v11,rfl,rfl⟩
 refine J 2 ?_
 refine .d3 rfl (af.MM sizeOf196 rfl rfl rfl) ?_
 rintro _ _ ⟨rfl,rfl⟩
 exact JR 1 ()
theorem uu{W:World}{b o:Nat}{l:List eV}{c:Int}(hl:l.length≤1000000):Fn Tryz.prog W 170 [.pointer (some ⟨b,o,none⟩),.int .i64 c] [iK b o l] Unit (fun _=>.tuple #[.agg (dt (aN l c).1).toArray,.bool (aN l c).2.1]) (fun _=>True) (fun _=>[iK b o (aN l c).2.2]):=by
 refine Fn.intro (N:=43) func170 rfl ntmps170 rfl fun F=>?_
 show aq _ _ _ _ _ _ [iK b o l,F]
 refine .o1 (C:=iK b o l) .auto rfl ?_
 rintro v -
 refine J 2 ?_
 refine .ai rfl (af.alloc rfl zeroValue284 rfl) ?_
 rintro _ _ ⟨b4,rfl,rfl⟩
 refine JD 20 (fun h15=>?_) fun h15=>?_
 ·refine J 2 ?_
  refine .p (.lP ([(.int .i64 0),(.int .i64 0)]) (by kernel_rfl)) ?_
  refine J 6 ?_
  rw[xR (show l.length=0 by omega)]
  refine .fg rfl rfl isAgg284 (by exact sizeOf284) Cells.a rfl fun w s=>⟨(),?_,trivial,aj .auto s⟩
  rfl
 ·refine J 4 ?_
  have hpk:pick c l.length<l.length:=kO (by omega)
  refine J 2 ?_
  refine .p (.rem rfl rfl (by omega)) ?_
  refine J 1 ?_
  refine .p (.add rfl rfl (CJ (by omega) (by omega))) ?_
  refine J 1 ?_
  refine .p (.fY (Y.rem rfl rfl (by omega)) (oP (by omega))) ?_
  refine J 10 ?_
  refine .p (.sM (pick c l.length) underlying196 sizeOf284 rfl rfl Rd.s rfl hpk) ?_
  refine .p (.la rfl (Cells.rd Rd.s (getD_some (d:=⟨0,0⟩) hpk))) ?_
  refine .ai rfl (af.alloc rfl zeroValue284 rfl) ?_
  rintro _ _ ⟨b8,rfl,rfl⟩
  refine J 13 ?_
  refine .c call208 rfl (J6 hpk (by omega)) fun u39 _=>?_
  refine J 2 ?_
  refine .ai rfl (af.MM sizeOf196 rfl rfl rfl) ?_
  rintro _ _ ⟨rfl,rfl⟩
  refine J 10 ?_
  rw[rS (show ¬l.length=0 by omega)]
  refine .fg rfl rfl isAgg284 (by exact sizeOf284) Cells.a rfl fun w s=>⟨(),?_,trivial,aj .auto s⟩
  rfl
theorem uv{W:World}{b o:Nat}{m:eI}{who:Int}:Fn Tryz.prog W 205 [.pointer (some ⟨b,o,none⟩),.int .i64 who] [ec b o m] Unit (fun _=>.bool (m.is who)) (fun _=>True) (fun _=>[ec b o m]):=by
 refine Fn.intro (N:=17) func205 rfl ntmps205 rfl fun F=>?_
 show aq _ _ _ _ _ _ [ec b o m,F]
 refine .o1 (C:=ec b o m) .auto rfl ?_
 rintro u -
 refine J 12 ?_
 apply aR.gL 7 16 9 [9,10,11,12,13,14,15,16] rfl
 ·intro h9
  exact JS 8
 ·intro h9
  exact JS 8
 exact JR 4 ()
theorem uw{W:World}{b o:Nat}{m:eI}{who:Int}(hl:m.wait.length≤100000000):Fn Tryz.prog W 171 [.pointer (some ⟨b,o,none⟩),.int .i64 who] [ec b o m] Unit (fun _=>.bool (m.lock who).1) (fun _=>True) (fun _=>[ec b o (m.lock who).2]):=by
 refine Fn.intro (N:=22) func171 rfl ntmps171 rfl fun F=>?_
 show aq _ _ _ _ _ _ [ec b o m,F]
 refine .o1 (C:=ec b o m) .auto rfl ?_
 rintro u -
 refine JD 14 (fun h8=>?_) fun h8=>?_
 ·refine J 6 ?_
  refine .p (.gJ (fun v1=>[v1,(.int .i64 0)]) rfl (by kernel_rfl)) ?_
  refine .fr .auto (oR (b:=b) (o:=o) (u:=u)) ?_
  refine .c call207 rfl (yD (x:=⟨who,0⟩) hl) fun _ _=>?_
  refine J 9 ?_
  rw[xS h8]
  refine .to (A:=ec b o {m with wait:=m.wait++[⟨who,0⟩] }) (Bs:=[iK b o (m.wait++[⟨who,0⟩]),arr b (o+1) [.bool m.held,.int .i64 m.owner]]) .auto (CH (m:={m with wait:=m.wait++[⟨who,0⟩] })) ?_
  exact JR 0 ()
 ·refine J 9 ?_
  refine .ai rfl (af.Nw sizeOf4 rfl rfl rfl rfl) ?_
  rintro _ _ ⟨rfl,rfl⟩
  refine J 2 ?_
  refine .ai rfl (af.Nw sizeOf3 rfl rfl rfl rfl) ?_
  rintro _ _ ⟨rfl,rfl⟩
  refine J 8 ?_
  rw[xU h8]
  exact JR 0 ()
theorem pS{W:World}{b o:Nat}{m:eI}{c:Int}(hl:m.wait.length≤1000000):Fn Tryz.prog W 206 [.pointer (some ⟨b,o,none⟩),.int .i64 c] [ec b o m] Unit (fun _=>.tuple #[.int .i64 (m.unlock c).1,.bool (m.unlock c).2.1]) (fun _=>True) (fun _=>[ec b o (m.unlock c).2.2]):=by
 refine Fn.intro (N:=28) func206 rfl ntmps206 rfl fun F=>?_
 show aq _ _ _ _ _ _ [ec b o m,F]
 refine .o1 (C:=ec b o m) .auto rfl ?_
 rintro u -
 refine J 12 ?_
 refine .fr .auto (oR (b:=b) (o:=o) (u:=u)) ?_
 refine .c call170 rfl (uu hl) fun _ _=>?_
 refine J 3 ?_
 refine .ai rfl (af.alloc rfl zeroValue284 rfl) ?_
 rintro _ _ ⟨b6,rfl,rfl⟩
 refine J 5 ?_
 refine .draw [arr b6 0 (dt (aN m.wait c).1)] [1,0,1,0,0,1,1,2,1,1,3] rfl (by kernel_rfl) ?_
 refine J 7 ?_
 refine .d2 rfl Kept.auto (af.NH sizeOf4 rfl rfl rfl rfl) (by rintro _ _ ⟨rfl,rfl⟩;exact Kept.auto) ?_
 rintro _ _ ⟨rfl,rfl⟩
 refine J 2 ?_
 refine .d3 rfl (af.Nw (i:=1) sizeOf3 rfl rfl rfl rfl) ?_
 rintro _ _ ⟨rfl,rfl⟩
 refine J 12 ?_
 refine .to (A:=ec b o (m.unlock c).2.2) (Bs:=[iK b o (aN m.wait c).2.2,arr b (o+1) [.bool (aN m.wait c).2.1,.int .i64 (aN m.wait c).1.who]]) .auto (CH (m:=(m.unlock c).2.2)) ?_
 exact JR 0 ()
end Go.SLYtpbjdoplfgeliaaGreat
namespace Go.SLYtpbjdoplfgeliaaGreat
open Go Go.RowKit Go.Proofs Go.Proofs.Tryz
attribute [local irreducible] aq aR bf bq bB Y
theorem yE{W:World}{b:Nat}{ps:List (Option Nat)}{s:Spc}{n:Int}:Fn Tryz.prog W 72 [ptr b,.int .i64 n] [cE b ps s] Unit (fun _=>dR (xZ ps n)) (fun _=>True) (fun _=>[cE b ps s]):=by
 refine Fn.intro (N:=21) func72 rfl ntmps72 rfl fun F=>?_
 show aq _ _ _ _ _ _ [cE b ps s,F]
 refine .ja (C:=cE b ps s) .auto rfl ?_
 rintro fv sv pv bt vm bg vt bk bw vr -
 refine J 15 ?_
 apply aR.ga 3 14 11 [11,12,13,14] rfl
 ·intro h11
  exact JS 4
 ·intro h11
  exact JS 4
 refine JD 2 (fun h14=>?_) fun h14=>?_
 ·simp only[Bool.or_eq_true,decide_eq_true_eq] at h14
  refine J 7 ?_
  refine .aP rfl rfl fun w s=>⟨(),?_,trivial,aj .auto s⟩
  rw[xZ,if_neg (by omega)];rfl
 ·simp only[Bool.or_eq_false_iff,decide_eq_false_iff_not] at h14
  refine J 8 ?_
  refine .p (.dH n.toNat underlying120 sizeOf119 rfl rfl (by omega) (by omega)) ?_
  refine .p (.ld rfl (Cell.a (by rw[Nat.mul_one];exact eJ (by omega)))) ?_
  refine J 4 ?_
  refine .aP rfl rfl fun w s=>⟨(),?_,trivial,aj .auto s⟩
  rw[xZ,if_pos (by omega)]
theorem nq{W:World}{b p:Nat}{ps:List (Option Nat)}{s:Spc}{n:Nat}{t:bE}(hp:ps[n]?=some (some p))(ht:s.aG[n]?=some (some t))(hl:s.aG.length=16)(hpl:ps.length=16)(hT:jm s.table)(hh:0≤t.handle):Fn Tryz.prog W 113 [ptr b,.int .i64 (n:Int)] [cE b ps s] Unit (fun _=>.tuple #[]) (fun _=>True) (fun _=>[cE b (ps.set n none) (s.free n)]):=by
 refine Fn.intro (N:=23) func113 rfl ntmps113 rfl fun F=>?_
 show aq _ _ _ _ _ _ [cE b ps s,F]
 refine .ja (C:=cE b ps s) .auto rfl ?_
 rintro fv sv pv bt vm bg vt bk bw vr -
 have hn16:n<16:=hl ▸ (List.getElem?_eq_some_iff.1 ht).1
 refine .fr .auto (bM hp ht) ?_
 refine J 1 ?_
 refine .draw [arr b 0 (fo fv sv pv s.eW bt ps vm bg vt bk bw vr),arr p 0 (bc t)] [1,1,1,1,1,1,1,1,1,1,1,1,1,3] rfl (by kernel_rfl) ?_
 refine J 8 ?_
 refine .p (.dH n underlying120 sizeOf119 rfl rfl rfl hn16) ?_
 refine .p (.ld rfl (Cell.a (by rw[Nat.mul_one,eJ hn16,bA hp]))) ?_
 refine J 3 ?_
 refine .c call159 rfl (EX hT hh) fun e _=>?_
 refine J 7 ?_
 refine .p (.dH n underlying120 sizeOf119 rfl rfl rfl hn16) ?_
 refine .ai rfl (af.st sizeOf119 rfl rfl rfl (Nat.blt_eq.mpr (by show 9+n * 1<31;omega))) ?_
 rintro _ _ ⟨rfl,rfl⟩
 rw[Nat.mul_one,show Value.pointer none=dR none from rfl,zm hn16 hpl]
 refine J 1 ?_
 rw[show s.free n = {s with table:=slotFreed s.table t.handle,aG:=s.aG.set n none } from by unfold Spc.free;rw[dQ ht]]
 exact JR 0 ()
theorem jz{W:World}{bd b p:Nat}{ps:List (Option Nat)}{d:Dng}{t:bE}(hp:ps[d.n]?=some (some p))(ht:d.s.aG[d.n]?=some (some t)){x y e:Int}{fin:Bool}(hr:d.s.au.length≤1000000000):Fn Tryz.prog W 74 [ptr bd,.int .u64 x,.int .u64 y,.int .i64 e,.bool fin] [bo bd b p ps d] Unit (fun _=>.tuple #[]) (fun _=>True) (fun _=>[bo bd b p ps (d.tell x y e fin)]):=by
 refine Fn.intro (N:=42) func74 rfl ntmps74 rfl fun F=>?_
 show aq _ _ _ _ _ _ [bo bd b p ps d,F]
 refine .o2 (C:=bo bd b p ps d) .auto rfl ?_
 rintro vw ve -
 refine .ja (C:=cE b ps d.s) .auto rfl ?_
 rintro fv sv pv bt vm bg vt bk bw vr -
 refine .fr .auto (bM hp ht) ?_
 refine .draw [arr bd 0 (ed b p d vw ve),arr b 0 (fo fv sv pv d.s.eW bt ps vm bg vt bk bw vr),arr p 0 (bc t)] [0,0,0,0,0,0,0,0,0,0,0,1,1,1,1,1,1,1,1,1,1,1,1,1,1,1,1,1,2,2,1,1,3] rfl (by kernel_rfl) ?_
 refine J 27 ?_
 refine .p (.K7 (fun v1 v2 v3 v4 v5 v6=>[v1,v2,v3,v4,v5,v6]) rfl rfl rfl rfl rfl rfl (by kernel_rfl)) ?_
 refine .d2 rfl Kept.auto (af.gF 102 rfl rfl (by kernel_rfl)) (by rintro _ _ ⟨b38,rfl,rfl⟩;exact Kept.auto) ?_
 rintro _ _ ⟨b38,rfl,rfl⟩
 refine .d2 rfl Kept.auto (af.fJ (enc:=cW) (k:=6) (⟨t.handle,d.i.op,x,y,e,fin⟩:Rec) rfl underlying33 underlying33 typeInfo102 rfl rfl rfl (by decide) rfl rfl rfl .auto rfl .auto (by omega) rfl) (by rintro _ _ ⟨v39,rfl,rfl⟩;exact Kept.auto) ?_
 rintro _ _ ⟨v39,rfl,rfl⟩
 refine J 2 ?_
 refine .d3 rfl (af.l9 sizeOf33 rfl rfl rfl) ?_
 rintro _ _ ⟨rfl,rfl⟩
 rw[pd]
 refine J 1 ?_
 refine .to (A:=ay ps d.s.aG) (Bs:=[arr p 0 (bc t),ay (ps.set d.n none) (d.s.aG.set d.n none)]) .auto (bI hp ht) ?_
 rw[show d.tell x y e fin = {d with s:=d.s.tell ⟨t.handle,d.i.op,x,y,e,fin⟩ } from by unfold Dng.tell;rw[dj ht]]
 exact JR 0 ()
theorem ct{W:World}{bd b p:Nat}{ps:List (Option Nat)}{d:Dng}{t:bE}(hp:ps[d.n]?=some (some p))(ht:d.s.aG[d.n]?=some (some t)){x y e:Int}(hr:d.s.au.length≤1000000000)(he:0≤e∧e≤11)(hl:t.aE.length=8):Fn Tryz.prog W 117 [ptr bd,.int .u64 x,.int .u64 y,.int .i64 e] [bo bd b p ps d] Unit (fun _=>.tuple #[]) (fun _=>True) (fun _=>[bo bd b p ps (d.pass x y e)]):=by
 refine Fn.intro (N:=23) func117 rfl ntmps117 rfl fun F=>?_
 show aq _ _ _ _ _ _ [bo bd b p ps d,F]
 refine J 6 ?_
 refine .c call74 rfl (jz hp ht hr) fun _ _=>?_
 refine J 3 ?_
 have ht2:(d.tell x y e true).s.aG[d.n]?=some (some t):=ht
 refine .o2 (C:=bo bd b p ps (d.tell x y e true)) .auto rfl ?_
 rintro vw ve -
 refine .ja (C:=cE b ps (d.tell x y e true).s) .auto rfl ?_
 rintro fv sv pv bt vm bg vt bk bw vr -
 refine .fr .auto (bM hp ht2) ?_
 refine J 3 ?_
 refine .p (.ld rfl (Cell.a (cs:=ed b p (d.tell x y e true) vw ve) rfl)) ?_
 refine J 1 ?_
 refine .p (.sP underlying25 underlying92 rfl (by omega)) ?_
 refine J 3 ?_
 refine .p (.dH 7 underlying131 sizeOf92 rfl rfl (by omega) (by omega)) ?_
 refine J 1 ?_
 rw[rW (n:=7) e (by decide) hl]
 refine J 1 ?_
 refine .to (A:=ay ps (d.s.aG.set d.n (some (t.put 7 e)))) (Bs:=[arr p 0 (bc (t.put 7 e)),ay (ps.set d.n none) ((d.tell x y e true).s.aG.set d.n none)]) .auto (cA (List.getElem?_eq_some_iff.1 ht).1 hp) ?_
 rw[show d.pass x y e=(d.tell x y e true).aV (t.put 7 e) from by unfold Dng.pass;rw[dj ht]]
 exact JR 0 ()
theorem gE{W:World}{bd b p:Nat}{ps:List (Option Nat)}{d:Dng}{t:bE}(hp:ps[d.n]?=some (some p))(ht:d.s.aG[d.n]?=some (some t)){cQ bZ x y:Int}(hr:d.s.au.length≤1000000000):Fn Tryz.prog W 164 [ptr bd,.int .i64 cQ,.int .i64 bZ,.int .u64 x,.int .u64 y] [bo bd b p ps d] Unit (fun _=>.tuple #[]) (fun _=>True) (fun _=>[bo bd b p ps (d.block cQ bZ x y)]):=by
 refine Fn.intro (N:=43) func164 rfl ntmps164 rfl fun F=>?_
 show aq _ _ _ _ _ _ [bo bd b p ps d,F]
 refine J 5 ?_
 refine .c call74 rfl (jz hp ht hr) fun _ _=>?_
 refine J 3 ?_
 have ht2:(d.tell x y 0 false).s.aG[d.n]?=some (some t):=ht
 refine .o2 (C:=bo bd b p ps (d.tell x y 0 false)) .auto rfl ?_
 rintro vw ve -
 refine .ja (C:=cE b ps (d.tell x y 0 false).s) .auto rfl ?_
 rintro fv sv pv bt vm bg vt bk bw vr -
 refine .fr .auto (bM hp ht2) ?_
 refine .draw [arr bd 0 (ed b p (d.tell x y 0 false) vw ve)] [1,1,1,1,1,1,1,1,1,1,1,1,1,1,1,1,1,1,0,1,1,2,1,1,2,1,1,3] rfl (by kernel_rfl) ?_
 have ht2:(d.tell x y 0 false).s.aG[d.n]?=some (some t):=ht
 refine J 22 ?_
 rw[o0]
 refine J 3 ?_
 rw[Ly]
 refine J 3 ?_
 rw[tz]
 refine J 9 ?_
 refine .to (A:=ay ps (d.s.aG.set d.n (some {t with cQ:=cQ,op:=d.i.op,bZ:=bZ }))) (Bs:=[arr p 0 (bc {t with cQ:=cQ,op:=d.i.op,bZ:=bZ }),ay (ps.set d.n none) ((d.tell x y 0 false).s.aG.set d.n none)]) .auto (cA (List.getElem?_eq_some_iff.1 ht).1 hp) ?_
 rw[show d.block cQ bZ x y = {(d.tell x y 0 false).aV {t with cQ:=cQ,op:=d.i.op,bZ:=bZ } with out:={d.out with aQ:=true } } from by unfold Dng.block;rw[dj ht]]
 exact JR 0 ()
theorem Ig{W:World}{b p:Nat}{ps:List (Option Nat)}{s:Spc}{n:Nat}{t:bE}(hp:ps[n]?=some (some p))(ht:s.aG[n]?=some (some t))(hn16:n<16)(hR:gV t){y:Int}:Fn Tryz.prog W 81 [ptr b,.int .i64 (n:Int),.int .u64 y] [cE b ps s] Unit (fun _=>.agg (cW (t.jS y)).toArray) (fun _=>True) (fun _=>[cE b ps (s.dJ n y)]):=by
 refine Fn.intro (N:=50) func81 rfl ntmps81 rfl fun F=>?_
 show aq _ _ _ _ _ _ [cE b ps s,F]
 refine .ja (C:=cE b ps s) .auto rfl ?_
 rintro fv sv pv bt vm bg vt bk bw vr -
 refine .fr .auto (bM hp ht) ?_
 have hRl:=hR.l
 have hRi:=hR.i
 refine J 2 ?_
 refine .ai rfl (af.alloc rfl zeroValue102 rfl) ?_
 rintro _ _ ⟨b6,rfl,rfl⟩
 refine J 8 ?_
 refine .p (.dH n underlying120 sizeOf119 rfl rfl rfl hn16) ?_
 refine .p (.ld rfl (Cell.a (by rw[Nat.mul_one,eJ hn16,bA hp]))) ?_
 refine J 3 ?_
 refine .FL (X:=Unit) [2,14,15,16,17,18,19,20,21,22,23,24,25,26,27,28] (fun _=>True) (fun _=>[(2,some (.int .u64 (if t.bZ = -1 then 0 else y)))]) (fun _=>[arr p 0 (bc (if t.bZ = -1 then t else t.put t.bZ y)),ay (ps.set n none) (s.aG.set n none),arr b6 0 [.int .u64 0,.int .i64 0,.int .u64 0,.int .u64 0,.int .i64 0,.bool false],arr b 0 (fo fv sv pv s.eW bt ps vm bg vt bk bw vr),zg fv s.eW.funcs,lT bt s.table,sl de 1 vm s.mem,cz bg s.al,oJ vt s.cf,oK bk s.ca,nM bw s.aS,sl cW 6 vr s.au,F]) ?_ ?_
 ·refine JD 9 (fun h18=>?_) fun h18=>?_
  ·refine .draw [arr p 0 (bc t)] [1,1,1,1,1,1,1,1,1,1,3] rfl (by kernel_rfl) ?_
   refine J 9 ?_
   refine .p (.dH t.bZ.toNat underlying131 sizeOf92 rfl rfl (by omega) (by omega)) ?_
   refine .d3 rfl (af.st sizeOf92 rfl rfl rfl (Nat.blt_eq.mpr (by show 2+t.bZ.toNat * 1<18;omega))) ?_
   rintro _ _ ⟨rfl,rfl⟩
   rw[jw y (by omega) (by omega) hRl]
   refine J 1 ?_
   refine .ns () .auto ?_ ?_ ?_
   ·trivial
   ·rw[if_neg (by omega)];exact⟨rfl,trivial⟩
   ·rw[if_neg (by omega)];exact fun w s=>aw.kept .auto w s
  ·refine J 3 ?_
   refine .ns () .auto ?_ ?_ ?_
   ·trivial
   ·rw[if_pos (by omega)];exact⟨rfl,trivial⟩
   ·rw[if_pos (by omega)];exact fun w s=>aw.kept .auto w s
 ·rintro⟨⟩ -
  obtain⟨y1,hy1⟩:∃ y1,y1=(if t.bZ = -1 then 0 else y):=⟨_,rfl⟩
  obtain⟨t1,h1⟩:∃ t1,t1=(if t.bZ = -1 then t else t.put t.bZ y):=⟨_,rfl⟩
  have h1l:t1.aE.length=8:=by
   rw[h1]
   split
   ·exact hRl
   ·rw[jL];exact hRl
  have h1h:t1.handle=t.handle∧t1.op=t.op:=by
   rw[h1]
   split <;> exact⟨rfl,rfl⟩
  rw[← hy1, ← h1]
  refine J 6 ?_
  refine .p (.dH 7 underlying131 sizeOf92 rfl rfl (by omega) (by omega)) ?_
  refine J 1 ?_
  rw[rW (n:=7) 0 (by decide) h1l]
  refine J 9 ?_
  rw[o0]
  refine J 3 ?_
  rw[tz]
  refine J 3 ?_
  refine .draw [arr p 0 (bc {t1.put 7 0 with cQ:=0,bZ := -1 })] [1,1,1,1,1,1,1,1,1,1,3] rfl (by kernel_rfl) ?_
  refine J 9 ?_
  refine .p (.FT (fun v1 v2 v3 v4=>[v1,v2,(.int .u64 0),v3,(.int .i64 0),v4]) rfl rfl rfl rfl (by kernel_rfl)) ?_
  refine .d3 rfl (af.gW (by exact sizeOf102) rfl rfl rfl (by rfl)) ?_
  rintro _ _ ⟨rfl,rfl⟩
  refine J 3 ?_
  refine .to (A:=ay ps (s.aG.set n (some ({t1.put 7 0 with cQ:=0,bZ := -1 })))) (Bs:=[arr p 0 (bc ({t1.put 7 0 with cQ:=0,bZ := -1 })),ay (ps.set n none) (s.aG.set n none)]) .auto (cA (List.getElem?_eq_some_iff.1 ht).1 hp) ?_
  rw[show s.dJ n y=s.aV n {t1.put 7 0 with cQ:=0,bZ := -1 } from by unfold Spc.dJ;rw[dQ ht,CR t1 h1]]
  refine .dG rfl rfl isAgg102 (by exact sizeOf102) Cells.a fun w s=>⟨(),?_,trivial,aj .auto s⟩
  show Ending.returned (Value.agg #[.int .u64 t1.handle,.int .i64 t1.op,.int .u64 0,.int .u64 y1,.int .i64 0,.bool true])=_;rw[h1h.1,h1h.2,hy1];rfl
theorem Ih{W:World}{bd b p q:Nat}{ps:List (Option Nat)}{d:Dng}{t:bE}{n:Nat}(hp:ps[n]?=some (some q))(ht:d.s.aG[n]?=some (some t))(hn16:n<16)(hR:gV t)(he:d.ends.length≤1000000)(hw:d.out.ar.length≤1000000){y:Int}:Fn Tryz.prog W 114 [ptr bd,.int .i64 (n:Int),.int .u64 y] [bo bd b p ps d] Unit (fun _=>.tuple #[]) (fun _=>True) (fun _=>[bo bd b p ps (d.ck n y)]):=by
 refine Fn.intro (N:=34) func114 rfl ntmps114 rfl fun F=>?_
 show aq _ _ _ _ _ _ [bo bd b p ps d,F]
 refine .o2 (C:=bo bd b p ps d) .auto rfl ?_
 rintro vw ve -
 refine J 1 ?_
 refine .draw [arr bd 0 (ed b p d vw ve)] [0,0,0,0,0,1,1,1,1,1,1,2,2,2,1,1,3] rfl (by kernel_rfl) ?_
 refine J 11 ?_
 refine .c2 call81 rfl (Ig hp ht hn16 hR) fun _ _=>?_
 refine .d2 rfl Kept.auto (af.gF 102 rfl rfl (by kernel_rfl)) (by rintro _ _ ⟨b18,rfl,rfl⟩;exact Kept.auto) ?_
 rintro _ _ ⟨b18,rfl,rfl⟩
 refine .d2 rfl Kept.auto (af.fJ (enc:=cW) (k:=6) (t.jS y) rfl underlying33 underlying33 typeInfo102 rfl rfl rfl (by decide) rfl rfl rfl .auto rfl .auto (by omega) rfl) (by rintro _ _ ⟨v19,rfl,rfl⟩;exact Kept.auto) ?_
 rintro _ _ ⟨v19,rfl,rfl⟩
 refine J 2 ?_
 refine .d3 rfl (af.l9 sizeOf33 rfl rfl rfl) ?_
 rintro _ _ ⟨rfl,rfl⟩
 refine J 10 ?_
 refine .ai rfl (af.gF 3 rfl rfl (by kernel_rfl)) ?_
 rintro _ _ ⟨b29,rfl,rfl⟩
 refine .ai rfl (af.fJ (enc:=av) (k:=1) (n:Int) rfl underlying50 underlying50 typeInfo3 rfl rfl rfl (by decide) rfl rfl rfl .auto rfl .auto (by omega) rfl) ?_
 rintro _ _ ⟨v30,rfl,rfl⟩
 refine J 3 ?_
 refine .ai rfl (af.l9 sizeOf50 rfl rfl rfl) ?_
 rintro _ _ ⟨rfl,rfl⟩
 refine J 1 ?_
 rw[show d.ck n y = {d with s:=d.s.dJ n y,ends:=d.ends++[t.jS y],out:={d.out with ar:=d.out.ar++[(n:Int)] } } from by unfold Dng.ck;rw[dQ ht]]
 exact JR 0 ()
theorem w9{W:World}{bd b p:Nat}{ps:List (Option Nat)}{d:Dng}{t:bE}(hp:ps[d.n]?=some (some p))(ht:d.s.aG[d.n]?=some (some t))(hI:0≤d.i.a∧d.i.a<8):Fn Tryz.prog W 120 [ptr bd] [bo bd b p ps d] Unit (fun _=>.int .u64 d.a) (fun _=>True) (fun _=>[bo bd b p ps d]):=by
 refine Fn.intro (N:=17) func120 rfl ntmps120 rfl fun F=>?_
 show aq _ _ _ _ _ _ [bo bd b p ps d,F]
 refine .o2 (C:=bo bd b p ps d) .auto rfl ?_
 rintro vw ve -
 refine .ja (C:=cE b ps d.s) .auto rfl ?_
 rintro fv sv pv bt vm bg vt bk bw vr -
 refine .fr .auto (bM hp ht) ?_
 refine J 6 ?_
 refine .draw [] [1,1,1,1,1,1,1,1,1,1,1,1,1,1,1] rfl (by kernel_rfl) ?_
 refine J 12 ?_
 refine .p (.dH d.i.a.toNat underlying131 sizeOf92 rfl rfl (by omega) (by omega)) ?_
 refine .p (.ld rfl (Cell.a (m4 (by omega)))) ?_
 refine J 4 ?_
 refine .to (A:=ay ps d.s.aG) (Bs:=[arr p 0 (bc t),ay (ps.set d.n none) (d.s.aG.set d.n none)]) .auto (bI hp ht) ?_
 refine .aP rfl rfl fun w s=>⟨(),?_,trivial,aj .auto s⟩
 rw[show d.a=t.aE.getD d.i.a.toNat 0 from by unfold Dng.a;rw[dj ht];rfl]
theorem KP{W:World}{bd b p:Nat}{ps:List (Option Nat)}{d:Dng}{t:bE}(hp:ps[d.n]?=some (some p))(ht:d.s.aG[d.n]?=some (some t))(hI:0≤d.i.b∧d.i.b<8):Fn Tryz.prog W 162 [ptr bd] [bo bd b p ps d] Unit (fun _=>.int .u64 d.b) (fun _=>True) (fun _=>[bo bd b p ps d]):=by
 refine Fn.intro (N:=17) func162 rfl ntmps162 rfl fun F=>?_
 show aq _ _ _ _ _ _ [bo bd b p ps d,F]
 refine .o2 (C:=bo bd b p ps d) .auto rfl ?_
 rintro vw ve -
 refine .ja (C:=cE b ps d.s) .auto rfl ?_
 rintro fv sv pv bt vm bg vt bk bw vr -
 refine .fr .auto (bM hp ht) ?_
 refine J 6 ?_
 refine .draw [] [1,1,1,1,1,1,1,1,1,1,1,1,1,1,1] rfl (by kernel_rfl) ?_
 refine J 12 ?_
 refine .p (.dH d.i.b.toNat underlying131 sizeOf92 rfl rfl (by omega) (by omega)) ?_
 refine .p (.ld rfl (Cell.a (m4 (by omega)))) ?_
 refine J 4 ?_
 refine .to (A:=ay ps d.s.aG) (Bs:=[arr p 0 (bc t),ay (ps.set d.n none) (d.s.aG.set d.n none)]) .auto (bI hp ht) ?_
 refine .aP rfl rfl fun w s=>⟨(),?_,trivial,aj .auto s⟩
 rw[show d.b=t.aE.getD d.i.b.toNat 0 from by unfold Dng.b;rw[dj ht];rfl]
theorem ou{W:World}{bd b p:Nat}{ps:List (Option Nat)}{d:Dng}(hr:d.s.au.length≤1000000000)(he:d.ends.length≤1000000):Fn Tryz.prog W 79 [ptr bd] [bo bd b p ps d] Value (fun u=>.agg (nU u d.finish.1).toArray) (fun _=>True) (fun u=>[sl av 1 u d.finish.1.ar,cE b ps d.finish.2]):=by
 refine Fn.intro (N:=25) func79 rfl ntmps79 rfl fun F=>?_
 show aq _ _ _ _ _ _ [bo bd b p ps d,F]
 refine .o2 (C:=bo bd b p ps d) .auto rfl ?_
 rintro vw ve -
 refine .ja (C:=cE b ps d.s) .auto rfl ?_
 rintro fv sv pv bt vm bg vt bk bw vr -
 refine J 2 ?_
 refine .ai rfl (af.alloc rfl zeroValue57 rfl) ?_
 rintro _ _ ⟨b2,rfl,rfl⟩
 refine J 3 ?_
 refine .draw [arr bd 0 (ed b p d vw ve),arr b 0 (fo fv sv pv d.s.eW bt ps vm bg vt bk bw vr)] [0,0,0,0,1,1,1,1,1,1,1,1,1,1,1,2,1,1,3] rfl (by kernel_rfl) ?_
 refine J 15 ?_
 refine .d2 rfl Kept.auto (af.append rfl underlying33 underlying33 typeInfo102 rfl rfl rfl (by decide) rfl rfl .auto Rd.s (by omega) (zh _)) (by rintro _ _ ⟨v18,rfl,rfl⟩;exact Kept.auto) ?_
 rintro _ _ ⟨v18,rfl,rfl⟩
 refine J 2 ?_
 refine .d3 rfl (af.l9 sizeOf33 rfl rfl rfl) ?_
 rintro _ _ ⟨rfl,rfl⟩
 rw[pd]
 refine J 7 ?_
 refine .p (.la rfl (Cells.lG (ds:=nU vw d.out) Cells.a rfl)) ?_
 refine .ai rfl (af.Jy (vs:=[.bool d.out.aQ,.bool d.out.ended,.bool d.out.yielded]) (by exact sizeOf57) rfl rfl rfl rfl) ?_
 rintro _ _ ⟨rfl,rfl⟩
 refine J 3 ?_
 refine .dG rfl rfl isAgg57 (by exact sizeOf57) Cells.a fun w s=>⟨vw,?_,trivial,aj .auto s⟩
 rfl
end Go.SLYtpbjdoplfgeliaaGreat
namespace Go.SLYtpbjdoplfgeliaaGreat
open Go Go.RowKit Go.Proofs Go.Proofs.Tryz
attribute [local irreducible] aq aR bf bq bB Y
theorem fG{W:World}{a:Int}:Fn Tryz.prog W 264 [.int .u64 a] [] Unit (fun _=>.float .f64 a.toNat) (fun _=>True) (fun _=>[]):=by
 refine Fn.intro (N:=5) func264 rfl ntmps264 rfl fun F=>?_
 show aq _ _ _ _ _ _ [F]
 refine J 8 ?_
 refine .p (.ext (e:=Extern.MathFloatBits.float64frombits) func283 rfl rfl rfl (by kernel_rfl) rfl (fun w=>rfl)) ?_
 exact JR 4 ()
theorem B7{W:World}{n:Nat}:Fn Tryz.prog W 289 [.float .f64 n] [] Unit (fun _=>.bool (j9 n n != some .eq)) (fun _=>True) (fun _=>[]):=by
 refine Fn.intro (N:=6) func289 rfl ntmps289 rfl fun F=>?_
 show aq _ _ _ _ _ _ [F]
 refine J 9 ?_
 refine .p (.NP rfl rfl (fun w=>rfl)) ?_
 exact JR 4 ()
theorem lC{W:World}{n:Nat}:Fn Tryz.prog W 269 [.float .f64 n] [] Unit (fun _=>.bool (j9 n n != some .eq)) (fun _=>True) (fun _=>[]):=by
 refine Fn.intro (N:=5) func269 rfl ntmps269 rfl fun F=>?_
 show aq _ _ _ _ _ _ [F]
 refine J 8 ?_
 refine .c call289 rfl B7 fun _ _=>?_
 exact JR 4 ()
theorem ko{W:World}{n:Nat}:Fn Tryz.prog W 265 [.float .f64 n] [] Unit (fun _=>.int .u64 (js (n:Int))) (fun _=>True) (fun _=>[]):=by
 refine Fn.intro (N:=7) func265 rfl ntmps265 rfl fun F=>?_
 show aq _ _ _ _ _ _ [F]
 refine J 9 ?_
 refine .c call269 rfl lC fun _ _=>?_
 refine JD 2 (fun h4=>?_) fun h4=>?_
 ·refine J 7 ?_
  refine .aP rfl rfl fun w s=>⟨(),?_,trivial,aj .auto s⟩
  rw[qj,if_pos h4];rfl
 ·refine J 5 ?_
  refine .p (.ext (e:=Extern.MathFloatBits.float64bits) func284 rfl rfl rfl (by kernel_rfl) rfl (fun w=>rfl)) ?_
  refine J 4 ?_
  refine .aP rfl rfl fun w s=>⟨(),?_,trivial,aj .auto s⟩
  rw[qj,if_neg (by rw[h4];simp)]
theorem Ka{W:World}{a b:Int}:Fn Tryz.prog W 234 [.int .u64 a,.int .u64 b] [] Unit (fun _=>.int .u64 (Lh a b)) (fun _=>True) (fun _=>[]):=by
 refine Fn.intro (N:=11) func234 rfl ntmps234 rfl fun F=>?_
 show aq _ _ _ _ _ _ [F]
 refine J 8 ?_
 refine .c call264 rfl fG fun _ _=>?_
 refine J 1 ?_
 refine .c call264 rfl fG fun _ _=>?_
 refine .ai rfl (af.Jr (Ieee.double.add _ _) rfl rfl rfl (fun w=>rfl)) ?_
 rintro _ _ ⟨r9,hr9,rfl,rfl⟩
 refine .c call265 rfl ko fun _ _=>?_
 refine J 4 ?_
 refine .aP rfl rfl fun w s=>⟨(),?_,trivial,aj .auto s⟩
 rw[rU hr9];rfl
theorem Kb{W:World}{a b:Int}:Fn Tryz.prog W 235 [.int .u64 a,.int .u64 b] [] Unit (fun _=>.int .u64 (Li a b)) (fun _=>True) (fun _=>[]):=by
 refine Fn.intro (N:=11) func235 rfl ntmps235 rfl fun F=>?_
 show aq _ _ _ _ _ _ [F]
 refine J 8 ?_
 refine .c call264 rfl fG fun _ _=>?_
 refine J 1 ?_
 refine .c call264 rfl fG fun _ _=>?_
 refine .ai rfl (af.Jr (Ieee.double.sub _ _) rfl rfl rfl (fun w=>rfl)) ?_
 rintro _ _ ⟨r9,hr9,rfl,rfl⟩
 refine .c call265 rfl ko fun _ _=>?_
 refine J 4 ?_
 refine .aP rfl rfl fun w s=>⟨(),?_,trivial,aj .auto s⟩
 rw[rU hr9];rfl
theorem Kc{W:World}{a b:Int}:Fn Tryz.prog W 236 [.int .u64 a,.int .u64 b] [] Unit (fun _=>.int .u64 (Lj a b)) (fun _=>True) (fun _=>[]):=by
 refine Fn.intro (N:=11) func236 rfl ntmps236 rfl fun F=>?_
 show aq _ _ _ _ _ _ [F]
 refine J 8 ?_
 refine .c call264 rfl fG fun _ _=>?_
 refine J 1 ?_
 refine .c call264 rfl fG fun _ _=>?_
 refine .ai rfl (af.Jr (Ieee.double.mul _ _) rfl rfl rfl (fun w=>rfl)) ?_
 rintro _ _ ⟨r9,hr9,rfl,rfl⟩
 refine .c call265 rfl ko fun _ _=>?_
 refine J 4 ?_
 refine .aP rfl rfl fun w s=>⟨(),?_,trivial,aj .auto s⟩
 rw[rU hr9];rfl
theorem Kd{W:World}{a b:Int}:Fn Tryz.prog W 237 [.int .u64 a,.int .u64 b] [] Unit (fun _=>.int .u64 (Ll a b)) (fun _=>True) (fun _=>[]):=by
 refine Fn.intro (N:=11) func237 rfl ntmps237 rfl fun F=>?_
 show aq _ _ _ _ _ _ [F]
 refine J 8 ?_
 refine .c call264 rfl fG fun _ _=>?_
 refine J 1 ?_
 refine .c call264 rfl fG fun _ _=>?_
 refine .ai rfl (af.Jr (Ieee.double.div _ _) rfl rfl rfl (fun w=>rfl)) ?_
 rintro _ _ ⟨r9,hr9,rfl,rfl⟩
 refine .c call265 rfl ko fun _ _=>?_
 refine J 4 ?_
 refine .aP rfl rfl fun w s=>⟨(),?_,trivial,aj .auto s⟩
 rw[rU hr9];rfl
theorem Ii{W:World}{m n:Nat}:Fn Tryz.prog W 266 [.float .f64 m,.float .f64 n] [] Unit (fun _=>.float .f64 (j8 true .lt m n)) (fun _=>True) (fun _=>[]):=by
 refine Fn.intro (N:=11) func266 rfl ntmps266 rfl fun F=>?_
 show aq _ _ _ _ _ _ [F]
 refine J 6 ?_
 refine .gw rfl ?_
 refine J 4 ?_
 refine .p (.ext (e := Extern.MathDim.pick "math.archMin" true .lt) func285 rfl rfl rfl (by kernel_rfl) rfl (fun w => rfl)) ?_
 exact JR 5 ()
theorem Ij{W:World}{m n:Nat}:Fn Tryz.prog W 268 [.float .f64 m,.float .f64 n] [] Unit (fun _=>.float .f64 (j8 false .gt m n)) (fun _=>True) (fun _=>[]):=by
 refine Fn.intro (N:=11) func268 rfl ntmps268 rfl fun F=>?_
 show aq _ _ _ _ _ _ [F]
 refine J 6 ?_
 refine .gw rfl ?_
 refine J 4 ?_
 refine .p (.ext (e := Extern.MathDim.pick "math.archMax" false .gt) func287 rfl rfl rfl (by kernel_rfl) rfl (fun w => rfl)) ?_
 exact JR 5 ()
theorem Dp{W:World}{n:Nat}{a b:Int}(ha:0≤a)(hb:0≤b):Fn Tryz.prog W 267 [.float .f64 n,.int .u64 a,.int .u64 b] [] Unit (fun _=>.int .u64 (if (tg a || tg b)=true then ny else js (n:Int))) (fun _=>True) (fun _=>[]):=by
 refine Fn.intro (N:=17) func267 rfl ntmps267 rfl fun F=>?_
 show aq _ _ _ _ _ _ [F]
 refine J 9 ?_
 refine .c call264 rfl fG fun _ _=>?_
 refine .c call269 rfl lC fun _ _=>?_
 refine J 1 ?_
 apply aR.iL 4 14 10 [10,11,12,13,14] rfl
 ·intro h10
  refine J 1 ?_
  refine .cg call264 rfl fG fun _ _=>?_
  refine .cg call269 rfl lC fun _ _=>?_
  exact JS 2
 ·intro h10
  exact JS 5
 refine JD 2 (fun h14=>?_) fun h14=>?_
 ·rw[gz ha,gz hb] at h14
  refine J 7 ?_
  refine .aP rfl rfl fun w s=>⟨(),?_,trivial,aj .auto s⟩
  rw[if_pos h14];rfl
 ·rw[gz ha,gz hb] at h14
  refine J 5 ?_
  refine .c call265 rfl ko fun _ _=>?_
  refine J 4 ?_
  refine .aP rfl rfl fun w s=>⟨(),?_,trivial,aj .auto s⟩
  rw[if_neg (by rw[h14];simp)]
theorem Ke{W:World}{a b:Int}(ha:0≤a)(hb:0≤b):Fn Tryz.prog W 238 [.int .u64 a,.int .u64 b] [] Unit (fun _=>.int .u64 (zx a b)) (fun _=>True) (fun _=>[]):=by
 refine Fn.intro (N:=13) func238 rfl ntmps238 rfl fun F=>?_
 show aq _ _ _ _ _ _ [F]
 refine J 8 ?_
 refine .c call264 rfl fG fun _ _=>?_
 refine J 1 ?_
 refine .c call264 rfl fG fun _ _=>?_
 refine .c call266 rfl Ii fun _ _=>?_
 refine J 2 ?_
 refine .c call267 rfl (Dp ha hb) fun _ _=>?_
 exact JR 4 ()
theorem Kf{W:World}{a b:Int}(ha:0≤a)(hb:0≤b):Fn Tryz.prog W 239 [.int .u64 a,.int .u64 b] [] Unit (fun _=>.int .u64 (zy a b)) (fun _=>True) (fun _=>[]):=by
 refine Fn.intro (N:=13) func239 rfl ntmps239 rfl fun F=>?_
 show aq _ _ _ _ _ _ [F]
 refine J 8 ?_
 refine .c call264 rfl fG fun _ _=>?_
 refine J 1 ?_
 refine .c call264 rfl fG fun _ _=>?_
 refine .c call268 rfl Ij fun _ _=>?_
 refine J 2 ?_
 refine .c call267 rfl (Dp ha hb) fun _ _=>?_
 exact JR 4 ()
theorem Ik{W:World}{a b:Int}:Fn Tryz.prog W 240 [.int .u64 a,.int .u64 b] [] Unit (fun _=>.bool (NL a b)) (fun _=>True) (fun _=>[]):=by
 refine Fn.intro (N:=10) func240 rfl ntmps240 rfl fun F=>?_
 show aq _ _ _ _ _ _ [F]
 refine J 8 ?_
 refine .c call264 rfl fG fun _ _=>?_
 refine J 1 ?_
 refine .c call264 rfl fG fun _ _=>?_
 refine .p (.MU rfl rfl) ?_
 exact JR 4 ()
theorem EY{W:World}{a:Int}(ha:0≤a):Fn Tryz.prog W 241 [.int .u64 a] [] Unit (fun _=>.int .u64 (kQ a)) (fun _=>True) (fun _=>[]):=by
 refine Fn.intro (N:=18) func241 rfl ntmps241 rfl fun F=>?_
 show aq _ _ _ _ _ _ [F]
 refine J 8 ?_
 refine .c call264 rfl fG fun _ _=>?_
 refine J 7 ?_
 refine .c call269 rfl lC fun _ _=>?_
 refine JD 3 (fun h9=>?_) fun h9=>?_
 ·refine J 7 ?_
  refine .aP rfl rfl fun w s=>⟨(),?_,trivial,aj .auto s⟩
  rw[kQ,if_pos (by rw[← gz ha];exact h9)]
 ·refine J 3 ?_
  refine .p (.NO rfl rfl) ?_
  refine JD 3 (fun h12=>?_) fun h12=>?_
  ·have g12:(Ieee.double.order a.toNat xN == some .gt || Ieee.double.order a.toNat xN == some .eq)=true:=h12
   refine J 7 ?_
   refine .aP rfl rfl fun w s=>⟨(),?_,trivial,aj .auto s⟩
   rw[kQ,if_neg (by rw[← gz ha,h9];simp),if_pos g12]
  ·have g12:(Ieee.double.order a.toNat xN == some .gt || Ieee.double.order a.toNat xN == some .eq)=false:=h12
   refine J 3 ?_
   refine .p (.MU rfl rfl) ?_
   refine JD 3 (fun h15=>?_) fun h15=>?_
   ·have g15:(Ieee.double.order a.toNat zz == some .lt)=true:=h15
    refine J 7 ?_
    refine .aP rfl rfl fun w s=>⟨(),?_,trivial,aj .auto s⟩
    rw[kQ,if_neg (by rw[← gz ha,h9];simp),if_neg (by rw[g12];simp),if_pos g15]
   ·have g15:(Ieee.double.order a.toNat zz == some .lt)=false:=h15
    refine J 3 ?_
    obtain⟨k,hk,hk1,hk2⟩:=Eb h9 g12 g15
    refine .p (.Lo (fun w=>Ec hk hk1 hk2) rfl) ?_
    refine .p (.conv underlying2 underlying92 rfl) ?_
    refine J 5 ?_
    refine .aP rfl rfl fun w s=>⟨(),?_,trivial,aj .auto s⟩
    rw[kQ,if_neg (by rw[← gz ha,h9];simp),if_neg (by rw[g12];simp),if_neg (by rw[g15];simp),hk];exact zl (GG k)
theorem Au{W:World}{a:Int}:Fn Tryz.prog W 242 [.int .u64 a] [] Unit (fun _=>.int .u64 (mc a)) (fun _=>True) (fun _=>[]):=by
 refine Fn.intro (N:=7) func242 rfl ntmps242 rfl fun F=>?_
 show aq _ _ _ _ _ _ [F]
 refine J 8 ?_
 refine .p (.conv underlying92 underlying2 rfl) ?_
 refine .p (.toFloat (fun w=>rfl) rfl) ?_
 refine .c call265 rfl ko fun _ _=>?_
 exact JR 4 ()
end Go.SLYtpbjdoplfgeliaaGreat
namespace Go.SLYtpbjdoplfgeliaaGreat
open Go Go.RowKit Go.Proofs Go.Proofs.Tryz
theorem B8{W:World}{A:aa}{fv c1 c2 c3 c4 c5 c6 c7:Value}{fs:List (Value×List Ins)}{f:iP}{p:fc}(hr:Rd W [A] ek 1 fv fs)(hi:∀ x∈fs,Rd W [A] dM 5 x.1 x.2)(hp:fs.map (·.2)=p.funcs)(_hl:fs.length≤1000000)(_hl2:∀ x∈fs,x.2.length≤1000000):Fn Tryz.prog W 73 [.agg #[fv,c1,c2,c3,c4,c5,c6,c7],.agg (iM f).toArray] [A] Unit (fun _=>KI (dV p f)) (fun _=>True) (fun _=>[A]):=by
 refine Fn.intro (N:=45) func73 rfl ntmps73 rfl fun F=>?_
 haveI hRI:∀ (H:List aa) [bx H A],aA W H fv ek 1 fs:=fun H h=>⟨hr.at h.has⟩
 show aq _ _ _ _ _ _ [A,F]
 obtain⟨x,hxd⟩:∃ x:Value×List Ins,fs.getD f.fn.toNat (.slice none 0 0,[])=x:=⟨_,rfl⟩
 have hx:f.fn.toNat<fs.length→fs[f.fn.toNat]?=some x:=fun h=>hxd ▸ getD_some h
 refine J 2 ?_
 refine .ai rfl (af.box rfl rfl rfl) ?_
 rintro _ _ ⟨b2,rfl,rfl⟩
 refine .mem (H':=[arr b2 0 [fv,c1,c2,c3,c4,c5,c6,c7],A,F]) (fun w s=>s) ?_
 refine .ai rfl (af.box rfl rfl rfl) ?_
 rintro _ _ ⟨b3,rfl,rfl⟩
 refine .mem (H':=[arr b3 0 (iM f),arr b2 0 [fv,c1,c2,c3,c4,c5,c6,c7],A,F]) (fun w s=>s) ?_
 refine .ai rfl (af.alloc rfl zeroValue94 rfl) ?_
 rintro _ _ ⟨b4,rfl,rfl⟩
 refine J 5 ?_
 refine .draw [] [1,1,1,1,1,1,1,1,1,1,1,1,1,1,1,1,1,1,1,1,1,1,1,1,1,1,1,1] rfl (by kernel_rfl) ?_
 refine J 4 ?_
 apply bf.ga 7 16 9 [9,10,11,12,13,14,15,16] rfl
 ·intro h9
  exact JS 8
 ·intro h9
  exact JS 8
 refine J 1 ?_
 apply bf.iL 4 21 17 [17,18,19,20,21] rfl
 ·intro h17
  exact JS 5
 ·intro h17
  exact JS 5
 refine J 1 ?_
 apply bf.iL 11 33 22 [22,23,24,25,26,27,28,29,30,31,32,33] rfl
 ·intro h22
  simp only[Bool.or_eq_false_iff,decide_eq_false_iff_not] at h22
  have hlt:f.fn.toNat<fs.length:=by omega
  have hix:=hi x (List.mem_of_getElem? (hx hlt))
  haveI hI4:∀ (H:List aa) [bx H A],aA W H x.1 dM 5 x.2:=fun H h=>⟨hix.at h.has⟩
  refine J 6 ?_
  refine .g (.ix f.fn.toNat rfl rfl (by omega) hlt) ?_
  refine .g (.ld rfl (Cell.KE Rd.s (hx hlt) (by rfl))) ?_
  exact JS 4
 ·intro h22
  exact JS 12
 refine JD 2 (fun h33=>?_) fun h33=>?_
 ·refine J 2 ?_
  refine .p (.lP ([(.int .i64 0),(.int .i64 0),(.int .i64 0),(.int .i64 0),(.int .u64 0)]) (by kernel_rfl)) ?_
  refine J 6 ?_
  refine .fg rfl rfl isAgg94 (by exact sizeOf94) Cells.a rfl fun w s=>⟨(),?_,trivial,aj .auto s⟩
  rw[Jt (z:=(.slice none 0 0,[])) hp (by rw[hxd];exact h33) rfl];rfl
 ·refine J 3 ?_
  refine .draw [] [1,1,1,1,1,1,1,1,1,1,3,1] rfl (by kernel_rfl) ?_
  simp only[Bool.or_eq_false_iff,decide_eq_false_iff_not] at h33
  have hlt:f.fn.toNat<fs.length:=by omega
  have hix:=hi x (List.mem_of_getElem? (hx hlt))
  haveI hI4:∀ (H:List aa) [bx H A],aA W H x.1 dM 5 x.2:=fun H h=>⟨hix.at h.has⟩
  obtain⟨i,hin⟩:=ak (show f.pc.toNat<x.2.length by omega)
  refine J 4 ?_
  refine .p (.ix f.fn.toNat rfl rfl (by omega) hlt) ?_
  refine .p (.ld rfl (Cell.KE Rd.s (hx hlt) (by rfl))) ?_
  refine J 2 ?_
  refine .p (.ix f.pc.toNat rfl rfl (by omega) (by omega)) ?_
  refine .p (.la rfl (Cells.rd Rd.s hin)) ?_
  refine .d3 rfl (af.gW (by exact sizeOf94) rfl rfl rfl (by rfl)) ?_
  rintro _ _ ⟨rfl,rfl⟩
  refine J 4 ?_
  refine .fg rfl rfl isAgg94 (by exact sizeOf94) Cells.a rfl fun w s=>⟨(),?_,trivial,aj .auto s⟩
  rw[GH hp (by omega) (by omega) (hx hlt) hin];rfl
theorem xa{W:World}{b:Bool}:Fn Tryz.prog W 233 [.bool b] [] Unit (fun _=>.int .u64 (Bn b)) (fun _=>True) (fun _=>[]):=by
 refine Fn.intro (N:=4) func233 rfl ntmps233 rfl fun F=>?_
 show aq _ _ _ _ _ _ [F]
 refine JD 11 (fun h=>?_) fun h=>?_
 ·refine J 7 ?_
  refine .aP rfl rfl fun w s=>⟨(),?_,trivial,aj .auto s⟩
  subst h;rfl
 ·refine J 8 ?_
  refine .aP rfl rfl fun w s=>⟨(),?_,trivial,aj .auto s⟩
  subst h;rfl
theorem Av{W:World}{n:Int}:Fn Tryz.prog W 201 [.int .i64 n] [] Unit (fun _=>.bool (qg n)) (fun _=>True) (fun _=>[]):=by
 refine Fn.intro (N:=13) func201 rfl ntmps201 rfl fun F=>?_
 show aq _ _ _ _ _ _ [F]
 refine J 10 ?_
 apply aR.ga 3 8 5 [5,6,7,8] rfl
 ·intro h5
  exact JS 4
 ·intro h5
  exact JS 4
 refine J 1 ?_
 apply aR.iL 3 12 9 [9,10,11,12] rfl
 ·intro h9
  exact JS 4
 ·intro h9
  exact JS 4
 exact JR 4 ()
theorem Aw{W:World}{op a b:Int}(ha:0≤a)(hb:0≤b):Fn Tryz.prog W 202 [.int .i64 op,.int .u64 a,.int .u64 b] [] Bool (fun t=>.tuple #[.int .u64 (cq op a b),.bool t]) (fun _=>True) (fun _=>[]):=by
 refine Fn.intro (N:=77) func202 rfl ntmps202 rfl fun F=>?_
 show aq _ _ _ _ _ _ [F]
 refine JD 19 (fun h9=>?_) fun h9=>?_
 ·refine J 10 ?_
  refine .ez rfl rfl rfl fun w s=>⟨true,?_,trivial,aj .auto s⟩
  rw[show cq op a b=a from by unfold cq;rw[if_pos h9]]
 ·refine JD 6 (fun h12=>?_) fun h12=>?_
  ·refine J 4 ?_
   refine .p (.K0 rfl rfl) ?_
   refine J 7 ?_
   refine .ez rfl rfl rfl fun w s=>⟨true,?_,trivial,aj .auto s⟩
   rw[show cq op a b=Bb (a+b) from by unfold cq;rw[if_neg h9,if_pos h12]]
   rfl
  ·refine JD 6 (fun h17=>?_) fun h17=>?_
   ·refine J 4 ?_
    refine .p (.ME rfl rfl) ?_
    refine J 7 ?_
    refine .ez rfl rfl rfl fun w s=>⟨true,?_,trivial,aj .auto s⟩
    rw[show cq op a b=Bb (a-b) from by unfold cq;rw[if_neg h9,if_neg h12,if_pos h17]]
    rfl
   ·refine JD 6 (fun h22=>?_) fun h22=>?_
    ·refine J 4 ?_
     refine .p (.K1 rfl rfl) ?_
     refine J 7 ?_
     refine .ez rfl rfl rfl fun w s=>⟨true,?_,trivial,aj .auto s⟩
     rw[show cq op a b=Bb (a * b) from by unfold cq;rw[if_neg h9,if_neg h12,if_neg h17,if_pos h22]]
     rfl
    ·refine JD 6 (fun h27=>?_) fun h27=>?_
     ·refine J 5 ?_
      refine .c call233 rfl xa fun _ _=>?_
      refine J 7 ?_
      refine .ez rfl rfl rfl fun w s=>⟨true,?_,trivial,aj .auto s⟩
      rw[show cq op a b=Bn (decide (a<b)) from by unfold cq;rw[if_neg h9,if_neg h12,if_neg h17,if_neg h22,if_pos h27]]
     ·refine JD 6 (fun h33=>?_) fun h33=>?_
      ·refine J 4 ?_
       refine .c call234 rfl Ka fun _ _=>?_
       refine J 7 ?_
       refine .ez rfl rfl rfl fun w s=>⟨true,?_,trivial,aj .auto s⟩
       rw[show cq op a b=Lh a b from by unfold cq;rw[if_neg h9,if_neg h12,if_neg h17,if_neg h22,if_neg h27,if_pos h33]]
      ·refine JD 6 (fun h38=>?_) fun h38=>?_
       ·refine J 4 ?_
        refine .c call235 rfl Kb fun _ _=>?_
        refine J 7 ?_
        refine .ez rfl rfl rfl fun w s=>⟨true,?_,trivial,aj .auto s⟩
        rw[show cq op a b=Li a b from by unfold cq;rw[if_neg h9,if_neg h12,if_neg h17,if_neg h22,if_neg h27,if_neg h33,if_pos h38]]
       ·refine JD 6 (fun h43=>?_) fun h43=>?_
        ·refine J 4 ?_
         refine .c call236 rfl Kc fun _ _=>?_
         refine J 7 ?_
         refine .ez rfl rfl rfl fun w s=>⟨true,?_,trivial,aj .auto s⟩
         rw[show cq op a b=Lj a b from by unfold cq;rw[if_neg h9,if_neg h12,if_neg h17,if_neg h22,if_neg h27,if_neg h33,if_neg h38,if_pos h43]]
        ·refine JD 6 (fun h48=>?_) fun h48=>?_
         ·refine J 4 ?_
          refine .c call237 rfl Kd fun _ _=>?_
          refine J 7 ?_
          refine .ez rfl rfl rfl fun w s=>⟨true,?_,trivial,aj .auto s⟩
          rw[show cq op a b=Ll a b from by unfold cq;rw[if_neg h9,if_neg h12,if_neg h17,if_neg h22,if_neg h27,if_neg h33,if_neg h38,if_neg h43,if_pos h48]]
         ·refine JD 6 (fun h53=>?_) fun h53=>?_
          ·refine J 4 ?_
           refine .c call238 rfl (Ke ha hb) fun _ _=>?_
           refine J 7 ?_
           refine .ez rfl rfl rfl fun w s=>⟨true,?_,trivial,aj .auto s⟩
           rw[show cq op a b=zx a b from by unfold cq;rw[if_neg h9,if_neg h12,if_neg h17,if_neg h22,if_neg h27,if_neg h33,if_neg h38,if_neg h43,if_neg h48,if_pos h53]]
          ·refine JD 6 (fun h58=>?_) fun h58=>?_
           ·refine J 4 ?_
            refine .c call239 rfl (Kf ha hb) fun _ _=>?_
            refine J 7 ?_
            refine .ez rfl rfl rfl fun w s=>⟨true,?_,trivial,aj .auto s⟩
            rw[show cq op a b=zy a b from by unfold cq;rw[if_neg h9,if_neg h12,if_neg h17,if_neg h22,if_neg h27,if_neg h33,if_neg h38,if_neg h43,if_neg h48,if_neg h53,if_pos h58]]
           ·refine JD 6 (fun h63=>?_) fun h63=>?_
            ·refine J 4 ?_
             refine .c call240 rfl Ik fun _ _=>?_
             refine .c call233 rfl xa fun _ _=>?_
             refine J 7 ?_
             refine .ez rfl rfl rfl fun w s=>⟨true,?_,trivial,aj .auto s⟩
             rw[show cq op a b=Bn (NL a b) from by unfold cq;rw[if_neg h9,if_neg h12,if_neg h17,if_neg h22,if_neg h27,if_neg h33,if_neg h38,if_neg h43,if_neg h48,if_neg h53,if_neg h58,if_pos h63]]
            ·refine JD 6 (fun h69=>?_) fun h69=>?_
             ·refine J 3 ?_
              refine .c call241 rfl (EY ha) fun _ _=>?_
              refine J 7 ?_
              refine .ez rfl rfl rfl fun w s=>⟨true,?_,trivial,aj .auto s⟩
              rw[show cq op a b=kQ a from by unfold cq;rw[if_neg h9,if_neg h12,if_neg h17,if_neg h22,if_neg h27,if_neg h33,if_neg h38,if_neg h43,if_neg h48,if_neg h53,if_neg h58,if_neg h63,if_pos h69]]
             ·refine JD 6 (fun h73=>?_) fun h73=>?_
              ·refine J 3 ?_
               refine .c call242 rfl Au fun _ _=>?_
               refine J 7 ?_
               refine .ez rfl rfl rfl fun w s=>⟨true,?_,trivial,aj .auto s⟩
               rw[show cq op a b=mc a from by unfold cq;rw[if_neg h9,if_neg h12,if_neg h17,if_neg h22,if_neg h27,if_neg h33,if_neg h38,if_neg h43,if_neg h48,if_neg h53,if_neg h58,if_neg h63,if_neg h69,if_pos h73]]
              ·refine J 10 ?_
               refine .ez rfl rfl rfl fun w s=>⟨false,?_,trivial,aj .auto s⟩
               rw[show cq op a b=0 from by unfold cq;rw[if_neg h9,if_neg h12,if_neg h17,if_neg h22,if_neg h27,if_neg h33,if_neg h38,if_neg h43,if_neg h48,if_neg h53,if_neg h58,if_neg h63,if_neg h69,if_neg h73]]
theorem fP{W:World}{b:Nat}{n:Int}(hn:0≤n∧n<8):Fn Tryz.prog W 199 [ptr b,.int .i64 n] [] Unit (fun _=>.pointer (some ⟨b,2+n.toNat,none⟩)) (fun _=>True) (fun _=>[]):=by
 refine Fn.intro (N:=19) func199 rfl ntmps199 rfl fun F=>?_
 show aq _ _ _ _ _ _ [F]
 refine J 11 ?_
 apply aR.ga 3 10 7 [7,8,9,10] rfl
 ·intro h7
  exact JS 4
 ·intro h7
  exact JS 4
 refine JD 2 (fun h10=>?_) fun h10=>?_
 ·simp only[Bool.or_eq_true,decide_eq_true_eq] at h10
  exact absurd h10 (by omega)
 ·simp only[Bool.or_eq_false_iff,decide_eq_false_iff_not] at h10
  refine J 9 ?_
  refine .p (.dH n.toNat underlying131 sizeOf92 rfl rfl (by omega) (by omega)) ?_
  refine J 4 ?_
  refine .aP rfl rfl fun w s=>⟨(),?_,trivial,aj .auto s⟩
  rw[Nat.mul_one]
theorem ow{W:World}{b:Nat}{f:iP}{v:Value}{m:List Int}{at_:Int}(h0:0≤at_)(hl:m.length≤1000000):D9 Tryz.prog W 200 [ptr b,.int .u64 at_] [arr b 0 (vZ f v),sl de 1 v m] Unit (fun _=>if at_<m.length then .returned (.pointer (some ⟨blk v,ef v+at_.toNat * 1,none⟩)) else .panicked (v8 268 6)) (fun _=>True) (fun _=>[arr b 0 (vZ f v),sl de 1 v m]):=by
 refine D9.intro (N:=21) func200 rfl ntmps200 rfl fun F=>?_
 show aq _ _ _ _ _ _ [arr b 0 (vZ f v),sl de 1 v m,F]
 refine J 14 ?_
 refine .p (.sP underlying3 underlying92 rfl (by omega)) ?_
 refine JD 3 (fun h12=>?_) fun h12=>?_
 ·refine J 1 ?_
  refine .p (.gJ (fun v1=>[v1]) rfl (by kernel_rfl)) ?_
  refine .p (.Jn underlying268 rfl rfl) ?_
  refine .panic rfl ?_
  refine fun a w ha s=>And.intro ha.defers (Exists.intro () (And.intro ?_ (And.intro trivial (aj .auto s))))
  rw[if_neg (by omega)];rfl
 ·refine J 9 ?_
  refine .p (.ix at_.toNat rfl rfl (by omega) (by omega)) ?_
  refine J 4 ?_
  refine .aP rfl rfl fun w s=>⟨(),?_,trivial,aj .auto s⟩
  rw[if_pos (by omega)]
end Go.SLYtpbjdoplfgeliaaGreat
