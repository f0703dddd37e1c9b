/- Walks of functions, and what they compute. Conditions: none, this text proves no statement. -/
import Derived.Test.YthlllpngkljgfaaGreatH07
import Derived.Test.YthlllpngkljgfaaGreatProg
import Derived.KernelRfl
import Derived.Test.YthlllpngkljgfaaGreatH03
import Derived.Test.YthlllpngkljgfaaGreatH05
import Derived.Test.YthlllpngkljgfaaGreatH04
set_option maxRecDepth 20000
set_option maxHeartbeats 4000000
namespace Go.SLYthlllpngkljgfaaGreat
open Go Go.RowKit Go.Proofs Go.Proofs.Tryz
attribute [local irreducible] aq aS bc bx bC Y
theorem pR{W:World}{u:Value}{x:aM}:Fn Tryz.prog W 148 [.agg (fe (u,x)).toArray] [] Unit (fun _=>.bool x.holds) (fun _=>True) (fun _=>[]):=by
 refine Fn.intro (N:=16) func148 rfl ntmps148 rfl fun F=>?_
 show aq _ _ _ _ _ _ [F]
 refine J 2 ?_
 refine .aj rfl (af.box rfl rfl rfl) ?_
 rintro _ _ ⟨b1,rfl,rfl⟩
 refine J 9 ?_
 apply aS.gf 4 10 6 [6,7,8,9,10] rfl
 ·intro h6
  exact JS 5
 ·intro h6
  exact JS 5
 refine J 1 ?_
 apply aS.iw 4 15 11 [11,12,13,14,15] rfl
 ·intro h11
  exact JS 5
 ·intro h11
  exact JS 5
 exact JR 4 ()
theorem Aj{W:World}{u:Value}{x:aM}(_hu:isSl u=true):Fn Tryz.prog W 147 [.agg (fe (u,x)).toArray] [] Unit (fun _=>.tuple #[.int .i64 (s7 x),.bool x.runs]) (fun _=>True) (fun _=>[]):=by
 refine Fn.intro (N:=24) func147 rfl ntmps147 rfl fun F=>?_
 show aq _ _ _ _ _ _ [F]
 refine J 2 ?_
 refine .aj rfl (af.box rfl rfl rfl) ?_
 rintro _ _ ⟨b1,rfl,rfl⟩
 refine J 11 ?_
 apply aS.gz 4 11 7 [7,8,9,10,11] rfl
 ·intro h7
  exact JS 5
 ·intro h7
  exact JS 5
 refine J 1 ?_
 apply aS.gd 4 16 12 [12,13,14,15,16] rfl
 ·intro h12
  exact JS 5
 ·intro h12
  exact JS 5
 refine J 1 ?_
 apply aS.iw 4 21 17 [17,18,19,20,21] rfl
 ·intro h17
  exact JS 5
 ·intro h17
  exact JS 5
 refine JD 2 (fun h21=>?_) fun h21=>?_
 ·simp only[Bool.and_eq_true,Bool.or_eq_true,decide_eq_true_eq] at h21
  refine J 8 ?_
  refine .ey rfl rfl rfl fun w s=>⟨(),?_,trivial,ai .auto s⟩
  have e:x.runs=false:=by unfold aM.runs;simp;omega
  rw[s7,e];rfl
 ·simp only[Bool.and_eq_false_iff,Bool.or_eq_false_iff,decide_eq_false_iff_not] at h21
  refine J 11 ?_
  refine .ey rfl rfl rfl fun w s=>⟨(),?_,trivial,ai .auto s⟩
  have e:x.runs=true:=by unfold aM.runs;simp;omega
  rw[s7,e];rfl
theorem uj{W:World}{e:Ev}:Fn Tryz.prog W 140 [.agg (cr e).toArray] [] Unit (fun _=>.tuple #[.int .i64 (MG e),.bool (dC e)]) (fun _=>True) (fun _=>[]):=by
 refine Fn.intro (N:=24) func140 rfl ntmps140 rfl fun F=>?_
 show aq _ _ _ _ _ _ [F]
 refine J 2 ?_
 refine .aj rfl (af.box rfl rfl rfl) ?_
 rintro _ _ ⟨b1,rfl,rfl⟩
 refine J 11 ?_
 apply aS.gf 4 11 7 [7,8,9,10,11] rfl
 ·intro h7
  refine J 5 ?_
  refine .oy .auto rfl (by first | exact fun _ h=>h | exact ax.kept .auto)
 ·intro h7
  refine J 5 ?_
  refine .oy .auto rfl (by first | exact fun _ h=>h | exact ax.kept .auto)
 refine J 1 ?_
 apply aS.iw 9 21 12 [12,13,14,15,16,17,18,19,20,21] rfl
 ·intro h12
  refine J 4 ?_
  apply aS.gz 4 20 16 [16,17,18,19,20] rfl
  ·intro h16
   refine J 5 ?_
   refine .oy .auto rfl (by first | exact fun _ h=>h | exact ax.kept .auto)
  ·intro h16
   refine J 5 ?_
   refine .oy .auto rfl (by first | exact fun _ h=>h | exact ax.kept .auto)
  refine J 2 ?_
  refine .oy .auto rfl (by first | exact fun _ h=>h | exact ax.kept .auto)
 ·intro h12
  refine J 10 ?_
  refine .oy .auto rfl (by first | exact fun _ h=>h | exact ax.kept .auto)
 refine JD 2 (fun h21=>?_) fun h21=>?_
 ·simp only[Bool.and_eq_true,Bool.or_eq_true,decide_eq_true_eq] at h21
  refine J 8 ?_
  refine .ey rfl rfl rfl fun w s=>⟨(),?_,trivial,ai .auto s⟩
  have h:dC e=false:=by unfold dC;simp;omega
  rw[MG,h];rfl
 ·simp only[Bool.and_eq_false_iff,Bool.or_eq_false_iff,decide_eq_false_iff_not] at h21
  refine J 11 ?_
  refine .ey rfl rfl rfl fun w s=>⟨(),?_,trivial,ai .auto s⟩
  have h:dC e=true:=by unfold dC;simp;omega
  rw[MG,h];rfl
theorem lj{W:World}{A:aa}{v:Value}{xs:List Ev}(hr:Rd W [A] cr 3 v xs)(hl:xs.length≤1000000000):Fn Tryz.prog W 149 [v] [A] Value (fun u=>u) (fun _=>True) (fun u=>[sl cr 3 u (cR xs),A]):=by
 refine Fn.intro (N:=31) func149 rfl ntmps149 rfl fun F=>?_
 haveI hRI:∀ (H:List aa) [bf H A],aw W H v cr 3 xs:=fun H h=>⟨hr.at h.has⟩
 show aq _ _ _ _ _ _ [A,F]
 refine J 19 ?_
 refine .bn (X:=Nat×Value) [3,5,6,7,10,11,12,13,14,15,16,17,18,19,20,21,22,23,24,25,26,27,28,29] (fun z=>xs.length-z.1) (fun z=>z.1≤xs.length) (fun z=>[(10,some (.int .i64 (z.1:Int))),(3,some z.2)]) (fun z=>[sl cr 3 z.2 (cR (xs.take z.1)),A,F]) (0,.slice none 0 0) ?_ ?_ ?_ ?_
 ·exact Nat.zero_le _
 ·exact⟨rfl,rfl,trivial⟩
 ·exact fun w s=>ax.kept .auto w s
 rintro⟨k,u⟩ hk
 simp only at hk
 have hkl:=Ee xs k
 refine JD 6 (fun h11=>?_) fun h11=>?_
 ·refine J 6 ?_
  obtain⟨e,hx⟩:=ak (show k<xs.length by omega)
  refine J 2 ?_
  refine .aj rfl (af.alloc rfl zeroValue87 rfl) ?_
  rintro _ _ ⟨b5,rfl,rfl⟩
  refine J 6 ?_
  refine .c call140 rfl uj fun _ _=>?_
  refine J 11 ?_
  apply aS.iw 4 24 20 [20,21,22,23,24] rfl
  ·intro h20
   exact JS 5
  ·intro h20
   exact JS 5
  refine JD 2 (fun h24=>?_) fun h24=>?_
  ·simp only[Bool.or_eq_true,decide_eq_true_eq] at h24
   refine J 3 ?_
   refine .aj rfl (af.gI 87 rfl rfl (by kernel_rfl)) ?_
   rintro _ _ ⟨b27,rfl,rfl⟩
   refine .aj rfl (af.gg (enc:=cr) (k:=3) e rfl underlying75 underlying75 typeInfo87 rfl rfl rfl (by decide) rfl rfl rfl .auto rfl .auto (by first | omega | (dsimp only;omega)) rfl) ?_
   rintro _ _ ⟨v28,rfl,rfl⟩
   refine J 8 ?_
   refine .aL (k+1,v28) .auto rfl ?_ ?_ ?_ ?_
   ·show xs.length-(k+1)<xs.length-k;omega
   ·show k+1≤_;omega
   ·exact⟨rfl,rfl,trivial⟩
   ·show ∀ w,Sat _ w _→Sat _ w (seps [sl cr 3 v28 (cR (xs.take (k+1))),A,F])
    rw[Gx hx h24]
    exact fun w s=>ax.kept .auto w s
  ·simp only[Bool.or_eq_false_iff,decide_eq_false_iff_not] at h24
   refine J 7 ?_
   refine .aL (k+1,u) .auto rfl ?_ ?_ ?_ ?_
   ·show xs.length-(k+1)<xs.length-k;omega
   ·show k+1≤_;omega
   ·exact⟨rfl,rfl,trivial⟩
   ·show ∀ w,Sat _ w _→Sat _ w (seps [sl cr 3 u (cR (xs.take (k+1))),A,F])
    rw[Jq hx h24]
    exact fun w s=>ax.kept .auto w s
 ·refine J 12 ?_
  obtain rfl:k=xs.length:=by omega
  rw[List.take_length]
  refine .aG rfl rfl fun w s=>⟨_,?_,trivial,ai .auto s⟩
  rfl
theorem pS{W:World}{A:aa}{u:Value}{x:aM}(hr:Rd W [A] cr 3 u x.evs)(hl:x.evs.length≤900000000):Fn Tryz.prog W 96 [.agg (fe (u,x)).toArray] [A] Value (fun u=>u) (fun _=>True) (fun w=>[sl cr 3 w x.strip,A]):=by
 refine Fn.intro (N:=31) func96 rfl ntmps96 rfl fun F=>?_
 haveI hRI:∀ (H:List aa) [bf H A],aw W H u cr 3 x.evs:=fun H h=>⟨hr.at h.has⟩
 show aq _ _ _ _ _ _ [A,F]
 refine .cK (fun w s=>Rd.isSl (hr.at .here) w s) fun hu=>?_
 refine J 2 ?_
 refine .aj rfl (af.box rfl rfl rfl) ?_
 rintro _ _ ⟨b1,rfl,rfl⟩
 refine J 6 ?_
 refine .c call147 rfl (Aj hu) fun _ _=>?_
 refine JD 14 (fun h12=>?_) fun h12=>?_
 ·refine J 14 ?_
  rw[Bool.not_eq_true'] at h12
  refine .c call148 rfl pR fun _ _=>?_
  refine JD 3 (fun h13=>?_) fun h13=>?_
  ·refine J 4 ?_
   refine .p (.xk (fun v1 v2 v3=>[v1,v2,v3]) rfl rfl rfl (by kernel_rfl)) ?_
   refine .aj rfl (af.gI 87 rfl rfl (by kernel_rfl)) ?_
   rintro _ _ ⟨b20,rfl,rfl⟩
   refine J 9 ?_
   refine .c call149 rfl (lj hr (by omega)) fun k29 _=>?_
   refine .c call95 rfl (ug (A:=seps [arr b20 0 [.int .i64 4,.int .i64 (-1),.int .i64 x.mode],sl cr 3 k29 (cR x.evs),A]) (xs:=[⟨4, -1,x.mode⟩]) (ys:=cR x.evs) (Rd.ez (Rd.lit .here rfl (fun _ _=>rfl) rfl)) (Rd.ez (Rd.sl .auto)) (by have:=ka x.evs;simp;omega)) fun u30 _=>?_
   refine .dq .auto ?_
   rw[show[⟨4, -1,x.mode⟩]++cR x.evs=x.strip from by unfold aM.strip;rw[if_pos h13,if_neg (by rw[h12];simp)]]
   refine J 4 ?_
   refine .aG rfl rfl fun w s=>⟨_,?_,trivial,ai .auto s⟩
   rfl
  ·refine JD 6 (fun h21=>?_) fun h21=>?_
   ·rw[h12] at h21;cases h21
   ·refine J 8 ?_
    refine .c call149 rfl (lj hr (by omega)) fun k29 _=>?_
    refine .c call95 rfl (ug (A:=seps [sl cr 3 k29 (cR x.evs),A]) (xs:=([]:List Ev)) (ys:=cR x.evs) (Rd.ez Rd.nil) (Rd.ez (Rd.sl .auto)) (by have:=ka x.evs;simp;omega)) fun u30 _=>?_
    refine .dq .auto ?_
    rw[show([]:List Ev)++cR x.evs=x.strip from by unfold aM.strip;rw[if_neg (by rw[h13];simp),if_neg (by rw[h12];simp)]]
    refine J 4 ?_
    refine .aG rfl rfl fun w s=>⟨_,?_,trivial,ai .auto s⟩
    rfl
 ·refine J 12 ?_
  rw[Bool.not_eq_false'] at h12
  refine .c call148 rfl pR fun _ _=>?_
  refine JD 3 (fun h13=>?_) fun h13=>?_
  ·refine J 4 ?_
   refine .p (.xk (fun v1 v2 v3=>[v1,v2,v3]) rfl rfl rfl (by kernel_rfl)) ?_
   refine .aj rfl (af.gI 87 rfl rfl (by kernel_rfl)) ?_
   rintro _ _ ⟨b20,rfl,rfl⟩
   refine J 9 ?_
   rw[show s7 x=x.ab from by unfold s7;rw[if_pos h12]]
   refine .c call149 rfl (lj hr (by omega)) fun k29 _=>?_
   refine .c call95 rfl (ug (A:=seps [arr b20 0 [.int .i64 4,.int .i64 x.ab,.int .i64 x.mode],sl cr 3 k29 (cR x.evs),A]) (xs:=[⟨4,x.ab,x.mode⟩]) (ys:=cR x.evs) (Rd.ez (Rd.lit .here rfl (fun _ _=>rfl) rfl)) (Rd.ez (Rd.sl .auto)) (by have:=ka x.evs;simp;omega)) fun u30 _=>?_
   refine .dq .auto ?_
   rw[show[⟨4,x.ab,x.mode⟩]++cR x.evs=x.strip from by unfold aM.strip;rw[if_pos h13,if_pos h12]]
   refine J 4 ?_
   refine .aG rfl rfl fun w s=>⟨_,?_,trivial,ai .auto s⟩
   rfl
  ·refine JD 6 (fun h21=>?_) fun h21=>?_
   ·refine J 2 ?_
    refine .p (.gr (fun v1 v2=>[v1,v2,(.int .i64 0)]) rfl rfl (by kernel_rfl)) ?_
    refine .aj rfl (af.gI 87 rfl rfl (by kernel_rfl)) ?_
    rintro _ _ ⟨b25,rfl,rfl⟩
    refine J 9 ?_
    rw[show s7 x=x.ab from by unfold s7;rw[if_pos h12]]
    refine .c call149 rfl (lj hr (by omega)) fun k29 _=>?_
    refine .c call95 rfl (ug (A:=seps [arr b25 0 [.int .i64 4,.int .i64 x.ab,.int .i64 0],sl cr 3 k29 (cR x.evs),A]) (xs:=[⟨4,x.ab,0⟩]) (ys:=cR x.evs) (Rd.ez (Rd.lit .here rfl (fun _ _=>rfl) rfl)) (Rd.ez (Rd.sl .auto)) (by have:=ka x.evs;simp;omega)) fun u30 _=>?_
    refine .dq .auto ?_
    rw[show[⟨4,x.ab,0⟩]++cR x.evs=x.strip from by unfold aM.strip;rw[if_neg (by rw[h13];simp),if_pos h12]]
    refine J 4 ?_
    refine .aG rfl rfl fun w s=>⟨_,?_,trivial,ai .auto s⟩
    rfl
   ·rw[h12] at h21;cases h21
theorem og{W:World}{A:aa}{v:Value}{xs:List Ev}(hr:Rd W [A] cr 3 v xs)(hl:xs.length≤1000000000):Fn Tryz.prog W 94 [v] [A] Value (fun u=>.agg (fe (u,aM.new xs)).toArray) (fun _=>True) (fun u=>[sl cr 3 u xs,A]):=by
 refine Fn.intro (N:=6) func94 rfl ntmps94 rfl fun F=>?_
 show aq _ _ _ _ _ _ [A,F]
 refine J 2 ?_
 refine .aj rfl (af.alloc rfl zeroValue80 rfl) ?_
 rintro _ _ ⟨b2,rfl,rfl⟩
 refine J 5 ?_
 refine .c call102 rfl (yn hr hl) fun u4 _=>?_
 refine .cK (fun w s=>Rd.shape (Rd.sl .auto) w s) fun e=>?_
 obtain⟨a4,c4,rfl⟩:=e
 refine .p (.xk (fun v1 v2 v3=>[v1,v2,v3]) rfl rfl rfl (by kernel_rfl)) ?_
 refine J 4 ?_
 refine .dN rfl rfl isAgg80 (by exact sizeOf80) Cells.a fun w s=>⟨_,?_,trivial,ai .auto s⟩
 rfl
theorem rA{W:World}{A:aa}{u:Value}{x:aM}{m:Value}{ys:List Ev}(hr:Rd W [A] cr 3 u x.evs)(hm:Rd W [A] cr 3 m ys)(hl:x.evs.length≤400000000∧ys.length≤400000000):Fn Tryz.prog W 97 [.agg (fe (u,x)).toArray,m] [A] Value (fun w=>.agg (fe (w,x.told ys)).toArray) (fun _=>True) (fun w=>[sl cr 3 w (x.strip++ys),A]):=by
 refine Fn.intro (N:=10) func97 rfl ntmps97 rfl fun F=>?_
 show aq _ _ _ _ _ _ [A,F]
 have hsl:=mT x
 refine .cK (fun w s=>Rd.isSl (hr.at .here) w s) fun hu=>?_
 refine J 2 ?_
 refine .aj rfl (af.box rfl rfl rfl) ?_
 rintro _ _ ⟨b2,rfl,rfl⟩
 refine .aj rfl (af.alloc rfl zeroValue80 rfl) ?_
 rintro _ _ ⟨b4,rfl,rfl⟩
 refine J 5 ?_
 refine .c call96 rfl (pS hr (by omega)) fun u6 _=>?_
 refine J 1 ?_
 refine .c call95 rfl (ug (A:=seps [sl cr 3 u6 x.strip,A]) (xs:=x.strip) (ys:=ys) (Rd.ez (Rd.sl .here)) (Rd.ez (hm.at (.there .here))) (by omega)) fun u8 _=>?_
 refine .dq .auto ?_
 refine .c call94 rfl (og (A:=sl cr 3 u8 (x.strip++ys)) (xs:=x.strip++ys) (Rd.sl .here) (by simp;omega)) fun u9 _=>?_
 refine .cK (fun w s=>Rd.shape (Rd.sl .auto) w s) fun e=>?_
 obtain⟨a9,c9,rfl⟩:=e
 refine J 4 ?_
 refine .dN rfl rfl isAgg80 (by exact sizeOf80) Cells.a fun w s=>⟨_,?_,trivial,ai .auto s⟩
 rfl
theorem Ik{W:World}{b bs br:Nat}{l:Lib}{p:Int}:Fn Tryz.prog W 93 [ptr b,.int .i64 p] [bJ b bs br l] Unit (fun _=>.bool (gN l p)) (fun _=>True) (fun _=>[bJ b bs br l]):=by
 refine Fn.intro (N:=20) func93 rfl ntmps93 rfl fun F=>?_
 show aq _ _ _ _ _ _ [bJ b bs br l,F]
 refine .o2 (C:=bJ b bs br l) .auto rfl ?_
 rintro vv vw -
 refine .o1 (C:=ct vv l.vs) .auto rfl ?_
 rintro xs hxs
 have hxl:=aE hxs
 refine J 10 ?_
 apply aS.gd 3 10 7 [7,8,9,10] rfl
 ·intro h7
  exact JS 4
 ·intro h7
  exact JS 4
 refine J 1 ?_
 apply aS.gz 8 19 11 [11,12,13,14,15,16,17,18,19] rfl
 ·intro h11
  exact JS 9
 ·intro h11
  exact JS 9
 refine J 4 ?_
 refine .aG rfl rfl fun w s=>⟨(),?_,trivial,ai .auto s⟩
 unfold gN;rw[← hxl]
theorem mD{W:World}{b bs br:Nat}{l:Lib}{p:Int}:Fn Tryz.prog W 85 [ptr b,.int .i64 p] [bJ b bs br l] Unit (fun _=>.bool (l.has p)) (fun _=>True) (fun _=>[bJ b bs br l]):=by
 refine Fn.intro (N:=19) func85 rfl ntmps85 rfl fun F=>?_
 show aq _ _ _ _ _ _ [bJ b bs br l,F]
 refine J 9 ?_
 refine .c call93 rfl Ik fun _ _=>?_
 refine J 1 ?_
 apply aS.gd 10 18 8 [8,9,10,11,12,13,14,15,16,17,18] rfl
 ·intro h8
  refine .o2 (C:=bJ b bs br l) .auto rfl ?_
  rintro vv vw -
  refine .o1 (C:=ct vv l.vs) .auto rfl ?_
  rintro xs hxs
  have hxl:=aE hxs
  unfold gN at h8
  simp only[Bool.and_eq_true,decide_eq_true_eq] at h8
  obtain⟨i,hi⟩:∃ i:Nat,p=(i:Int):=⟨p.toNat,by omega⟩
  obtain⟨x,hx⟩:=ak (show i<xs.length by omega)
  have hx2:=eQ hxs hx
  refine J 5 ?_
  refine .g (.sM i underlying145 sizeOf80 rfl (by rw[hi];rfl) Rd.s rfl (by omega)) ?_
  refine J 1 ?_
  refine .g (.fq (Y.load isAgg3 rfl (Cell.KH Rd.s hx rfl)) ((kL hx2).trans (congrArg _ hi.symm))) ?_
  exact JS 3
 ·intro h8
  exact JS 11
 refine J 4 ?_
 refine .aG rfl rfl fun w s=>⟨(),?_,trivial,ai .auto s⟩
 rw[kK]
theorem qK{W:World}{b bs br:Nat}{l:Lib}(hl:l.vs.length≤1000000000):Fn Tryz.prog W 81 [ptr b] [bJ b bs br l] Value (fun u=>u) (fun _=>True) (fun u=>[sl au 1 u l.procs,bJ b bs br l]):=by
 refine Fn.intro (N:=24) func81 rfl ntmps81 rfl fun F=>?_
 show aq _ _ _ _ _ _ [bJ b bs br l,F]
 refine J 12 ?_
 refine .ew rfl ?_
 refine J 10 ?_
 refine .o2 (C:=bJ b bs br l) .auto rfl ?_
 rintro vv vw -
 refine .o1 (C:=ct vv l.vs) .auto rfl ?_
 rintro xs hxs
 have hxl:=aE hxs
 refine J 9 ?_
 refine .bn (X:=Nat×Value×List Int) [3,4,12,13,14,15,16,17,18,19,20,21,22] (fun z=>l.vs.length-z.1) (fun z=>z.1≤l.vs.length∧z.2.2.length≤z.1∧l.procs=z.2.2++procsFrom (l.vs.drop z.1) z.1) (fun z=>[(12,some (.int .i64 (z.1:Int))),(3,some z.2.1)]) (fun z=>[sl au 1 z.2.1 z.2.2,bJ b bs br l,F]) (0,.slice none 0 0,[]) ?_ ?_ ?_ ?_
 ·exact⟨Nat.zero_le _,Nat.le_refl _,rfl⟩
 ·exact⟨rfl,rfl,trivial⟩
 ·exact fun w s=>ax.kept .auto w s
 rintro⟨k,u,ys⟩ ⟨hk,hyl,hn⟩
 simp only at hk hyl hn
 refine JD 6 (fun h13=>?_) fun h13=>?_
 ·refine J 14 ?_
  refine .c call85 rfl mD fun _ _=>?_
  refine JD 2 (fun h17=>?_) fun h17=>?_
  ·refine J 3 ?_
   refine .aj rfl (af.gI 3 rfl rfl (by kernel_rfl)) ?_
   rintro _ _ ⟨b20,rfl,rfl⟩
   refine .aj rfl (af.gg (enc:=au) (k:=1) (k:Int) rfl underlying50 underlying50 typeInfo3 rfl rfl rfl (by decide) rfl rfl rfl .auto rfl .auto (by first | omega | (dsimp only;omega)) rfl) ?_
   rintro _ _ ⟨v21,rfl,rfl⟩
   refine J 8 ?_
   refine .aL (k+1,v21,ys++[(k:Int)]) .auto rfl ?_ ?_ ?_ ?_
   ·show l.vs.length-(k+1)<l.vs.length-k;omega
   ·exact⟨by show k+1≤_;omega,by simp;omega,by rw[hn,Ef (by omega) h17];simp⟩
   ·exact⟨rfl,rfl,trivial⟩
   ·exact fun w s=>ax.kept .auto w s
  ·refine J 7 ?_
   refine .aL (k+1,u,ys) .auto rfl ?_ ?_ ?_ ?_
   ·show l.vs.length-(k+1)<l.vs.length-k;omega
   ·exact⟨by show k+1≤_;omega,by show ys.length≤k+1;omega,by rw[hn,Gy (by omega) h17]⟩
   ·exact⟨rfl,rfl,trivial⟩
   ·exact fun w s=>ax.kept .auto w s
 ·refine J 12 ?_
  obtain rfl:k=l.vs.length:=by omega
  rw[Eg (Nat.le_refl _),List.append_nil] at hn
  subst hn
  refine .aG rfl rfl fun w s=>⟨_,?_,trivial,ai .auto s⟩
  rfl
end Go.SLYthlllpngkljgfaaGreat
namespace Go.SLYthlllpngkljgfaaGreat
open Go Go.RowKit Go.Proofs Go.Proofs.Tryz
attribute [local irreducible] aq aS bc bx bC Y
theorem E9{W:World}{p:Int}:Fn Tryz.prog W 83 [.int .i64 p] [] Nat (fun b=>ptr b) (fun _=>True) (fun b=>[ga b (List.replicate (aQ p 64).toNat [])]):=by
 refine Fn.intro (N:=23) func83 rfl ntmps83 rfl fun F=>?_
 show aq _ _ _ _ _ _ [F]
 have hc:0≤aQ p 64∧aQ p 64≤64:=by unfold aQ;omega
 refine J 7 ?_
 refine .p (.lR ([(.slice none 0 0)]) (by kernel_rfl)) ?_
 refine .aj rfl (af.box rfl rfl rfl) ?_
 rintro _ _ ⟨b5,rfl,rfl⟩
 refine J 7 ?_
 refine .p (.oK rfl rfl) ?_
 refine .p (.fq (Y.jK rfl rfl) (show min (max p 0) 64=aQ p 64 from rfl)) ?_
 refine J 4 ?_
 refine .bn (X:=Nat×Value×List (Nat×List Int)) [9,10,11,12,13,14,15,16,17,18,19,20,21] (fun z=>(aQ p 64).toNat-z.1) (fun z=>z.1≤(aQ p 64).toNat∧z.2.2.length=z.1∧z.2.2.map (·.2)=List.replicate z.1 []) (fun z=>[(9,some (.int .i64 (z.1:Int)))]) (fun z=>[arr b5 0 [z.2.1],sl bH 1 z.2.1 z.2.2,aD (fun x=>fp x.1 x.2) z.2.2,F]) (0,.slice none 0 0,[]) ?_ ?_ ?_ ?_
 ·exact⟨Nat.zero_le _,rfl,rfl⟩
 ·exact⟨rfl,trivial⟩
 ·exact fun w s=>ax.kept .auto w s
 rintro⟨k,v,ts⟩ ⟨hk,htl,htm⟩
 simp only at hk htl htm
 refine JD 6 (fun h10=>?_) fun h10=>?_
 ·refine J 4 ?_
  refine .draw [arr b5 0 [v]] [0,0,0,0,0,2,2,2,1,1,3] rfl (by kernel_rfl) ?_
  refine J 5 ?_
  refine .c2 call136 rfl E6 fun x16 _=>?_
  refine .d2 rfl Kept.auto (af.gI 161 rfl rfl (by kernel_rfl)) (by rintro _ _ ⟨b17,rfl,rfl⟩;exact Kept.auto) ?_
  rintro _ _ ⟨b17,rfl,rfl⟩
  refine .d2 rfl Kept.auto (af.gg (enc:=bH) (k:=1) ((x16,[]):Nat×List Int) rfl underlying218 underlying218 typeInfo161 rfl rfl rfl (by decide) rfl rfl rfl .auto rfl .auto (by first | omega | (dsimp only;omega)) rfl) (by rintro _ _ ⟨v18,rfl,rfl⟩;exact Kept.auto) ?_
  rintro _ _ ⟨v18,rfl,rfl⟩
  refine J 2 ?_
  refine .d3 rfl (af.lY sizeOf218 rfl rfl rfl) ?_
  rintro _ _ ⟨rfl,rfl⟩
  refine J 7 ?_
  refine .aL (k+1,v18,ts++[(x16,[])]) .auto rfl ?_ ?_ ?_ ?_
  ·show(aQ p 64).toNat-(k+1)<(aQ p 64).toNat-k;omega
  ·exact⟨by show k+1≤_;omega,by simp[htl],by simp[htm,List.replicate_succ']⟩
  ·exact⟨rfl,trivial⟩
  ·show ∀ w,Sat _ w _→Sat _ w (seps [_,sl bH 1 v18 (ts++[(x16,[])]),aD (fun x=>fp x.1 x.2) (ts++[(x16,[])]),F])
   rw[j7]
   exact fun w s=>ax.kept .auto w s
 ·refine J 12 ?_
  obtain rfl:k=(aQ p 64).toNat:=by omega
  exact JR 0 b5
theorem il{W:World}{A:aa}{v:Value}{xs:List Int}(hr:Rd W [A] au 1 v xs)(hl:xs.length≤1000000000):Fn Tryz.prog W 84 [v] [A] Value (fun u=>u) (fun _=>True) (fun u=>[sl cr 3 u (aH xs),A]):=by
 refine Fn.intro (N:=19) func84 rfl ntmps84 rfl fun F=>?_
 haveI hRI:∀ (H:List aa) [bf H A],aw W H v au 1 xs:=fun H h=>⟨hr.at h.has⟩
 show aq _ _ _ _ _ _ [A,F]
 refine J 19 ?_
 refine .bn (X:=Nat×Value) [3,5,8,9,10,11,12,13,14,15,16,17] (fun z=>xs.length-z.1) (fun z=>z.1≤xs.length) (fun z=>[(8,some (.int .i64 (z.1:Int))),(3,some z.2)]) (fun z=>[sl cr 3 z.2 (aH (xs.take z.1)),A,F]) (0,.slice none 0 0) ?_ ?_ ?_ ?_
 ·exact Nat.zero_le _
 ·exact⟨rfl,rfl,trivial⟩
 ·exact fun w s=>ax.kept .auto w s
 rintro⟨k,u⟩ hk
 simp only at hk
 refine JD 6 (fun h9=>?_) fun h9=>?_
 ·refine J 6 ?_
  obtain⟨n,hx⟩:=ak (show k<xs.length by omega)
  refine J 8 ?_
  refine .p (.gr (fun v1 v2=>[v1,v2,(.int .i64 0)]) rfl rfl (by kernel_rfl)) ?_
  refine .aj rfl (af.gI 87 rfl rfl (by kernel_rfl)) ?_
  rintro _ _ ⟨b15,rfl,rfl⟩
  refine .aj rfl (af.gg (enc:=cr) (k:=3) (⟨3,n,0⟩:Ev) rfl underlying75 underlying75 typeInfo87 rfl rfl rfl (by decide) rfl rfl rfl .auto rfl .auto (by unfold aH;rw[List.length_map,List.length_take];omega) rfl) ?_
  rintro _ _ ⟨v16,rfl,rfl⟩
  refine J 8 ?_
  refine .aL (k+1,v16) .auto rfl ?_ ?_ ?_ ?_
  ·show xs.length-(k+1)<xs.length-k;omega
  ·show k+1≤_;omega
  ·exact⟨rfl,rfl,trivial⟩
  ·show ∀ w,Sat _ w _→Sat _ w (seps [sl cr 3 v16 (aH (xs.take (k+1))),A,F])
   rw[zi hx]
   exact fun w s=>ax.kept .auto w s
 ·refine J 12 ?_
  obtain rfl:k=xs.length:=by omega
  rw[List.take_length]
  refine .aG rfl rfl fun w s=>⟨_,?_,trivial,ai .auto s⟩
  rfl
theorem J9{W:World}{bs:Nat}{ps:List (Option Nat)}{s:Spc}{p:Int}(hl:s.aF.length=16):Fn Tryz.prog W 31 [ptr bs,.int .i64 p] [cB bs ps s] Nat (fun b=>ptr b) (fun _=>True) (fun b=>[df b (Lib.new s p)]):=by
 refine Fn.intro (N:=24) func31 rfl ntmps31 rfl fun F=>?_
 show aq _ _ _ _ _ _ [cB bs ps s,F]
 have hc:0≤aQ p 64∧aQ p 64≤64:=by unfold aQ;omega
 have hrl:s.ready.length≤1000000000:=by have:=jc s.aF 0;show(readyFrom s.aF 0).length≤_;omega
 refine J 8 ?_
 refine .p (.oK rfl rfl) ?_
 refine .p (.fq (Y.jK rfl rfl) (show min (max p 0) 64=aQ p 64 from rfl)) ?_
 refine J 4 ?_
 refine .vz [] [0,0,2,0,4,0,4,0] [0,1,2,3,4,5,6,7] rfl (by kernel_rfl) ?_
 refine bC.q rfl rfl rfl Kept.auto (Y.m rfl) ?_
 refine bC.q rfl rfl rfl Kept.auto (Y.m rfl) ?_
 refine bC.eH rfl (.inl rfl) rfl (fun _=>Kept.auto) call83 rfl E9 .auto (fun _ _=>Kept.auto) ?_
 rintro x12 -
 rw[show aQ (aQ p 64) 64=aQ p 64 from by unfold aQ;omega]
 refine bC.q rfl rfl rfl Kept.auto (Y.m rfl) ?_
 refine bC.fresh rfl rfl rfl (by decide) Kept.auto (kG (enc:=fe) (k:=3) ((Value.slice none 0 0:Value),aM.z) (aQ p 64).toNat underlying145 typeInfo80 rfl rfl rfl rfl (by decide) (by decide) rfl rfl (by omega) (by omega) (by omega)) ?_
 rintro b14
 refine bC.q rfl rfl rfl Kept.auto (Y.xk (fun v1 v2 v3=>[v1,v2,v3,(.slice none 0 0),(.bool false)]) rfl rfl rfl (by kernel_rfl)) ?_
 refine bC.fresh rfl rfl rfl (by decide) Kept.auto (qj rfl rfl) ?_
 rintro b16
 refine bC.q rfl rfl rfl Kept.auto (Y.a rfl) ?_
 refine bC.nil ?_
 refine J 3 ?_
 refine .to (A:=sl fe 3 (.slice (some ⟨b14,0,none⟩) (aQ p 64).toNat (aQ p 64).toNat) (List.replicate (aQ p 64).toNat ((Value.slice none 0 0:Value),aM.z))) .auto (rP rfl) ?_
 refine J 2 ?_
 refine .c call44 rfl (lh hl) fun u19 _=>?_
 refine .c call84 rfl (il (A:=sl au 1 u19 s.ready) (Rd.sl .here) hrl) fun u20 _=>?_
 refine J 2 ?_
 refine .aj rfl (af.lY sizeOf75 rfl rfl rfl) ?_
 rintro _ _ ⟨rfl,rfl⟩
 refine J 9 ?_
 refine .aG rfl rfl fun w s=>⟨b16,?_,trivial,ai (by repeat (first | exact ax.nil | (apply ax.cons; · repeat (first | exact Take.here | apply Take.there)) | apply ax.Jm | apply ax.Jn | apply ax.void | apply ax.Jk | apply ax.two | (apply ax.Gq; · exact ij) | (apply ax.allM; · exact fun _=>ij) | apply ax.f1 rfl | apply ax.f2 rfl | apply ax.f3 rfl | apply ax.f4 rfl | apply ax.f10 rfl | apply ax.ez | assumption | exact trivial | rfl | omega | (apply ax.Gq; · exact ij) | (focus (simp[Lib.new];done)) | (unfold Lib.new;simp only;apply ax.cons; · repeat (first | exact Take.here | apply Take.there)))) s⟩
 rfl
theorem Fa{W:World}{b bs br:Nat}{l:Lib}{p:Int}(hw:l.waiting.length≤400000000):Fn Tryz.prog W 33 [ptr b,.int .i64 p] [bJ b bs br l] Unit (fun _=>.bool (l.dj p).1) (fun _=>True) (fun _=>[bJ b bs br (l.dj p).2]):=by
 refine Fn.intro (N:=31) func33 rfl ntmps33 rfl fun F=>?_
 show aq _ _ _ _ _ _ [bJ b bs br l,F]
 refine J 10 ?_
 refine .c call93 rfl Ik fun _ _=>?_
 refine J 2 ?_
 apply aS.iw 4 13 9 [9,10,11,12,13] rfl
 ·intro h9
  refine J 2 ?_
  refine .cg call85 rfl mD fun _ _=>?_
  exact JS 2
 ·intro h9
  exact JS 5
 refine JD 2 (fun h13=>?_) fun h13=>?_
 ·simp only[Bool.or_eq_true,Bool.not_eq_true'] at h13
  refine J 7 ?_
  rw[kc h13]
  exact JR 0 ()
 ·simp only[Bool.or_eq_false_iff,Bool.not_eq_false'] at h13
  refine J 3 ?_
  obtain⟨i,v,rfl,hv,hg⟩:=mV h13.1 h13.2
  rw[hg]
  refine .o2 (C:=bJ b bs br l) .auto rfl ?_
  rintro vv vw -
  refine .o1 (C:=ct vv l.vs) .auto rfl ?_
  rintro xs hxs
  have hxl:=aE hxs
  obtain⟨x,hx,rfl⟩:=dt hxs hv
  have hil:=(List.getElem?_eq_some_iff.1 hx).1
  refine .draw [arr b 0 (lX bs br vv vw l.locked)] [0,0,0,0,0,1,2,0,0,0,0,2,2,1,3] rfl (by kernel_rfl) ?_
  refine J 5 ?_
  refine .p (.gr (fun v1 v2=>[v1,v2,(.int .i64 0)]) rfl rfl (by kernel_rfl)) ?_
  refine .d2 rfl Kept.auto (af.gI 87 rfl rfl (by kernel_rfl)) (by rintro _ _ ⟨b20,rfl,rfl⟩;exact Kept.auto) ?_
  rintro _ _ ⟨b20,rfl,rfl⟩
  refine J 4 ?_
  refine .c2 call95 rfl (ug (A:=seps [arr b20 0 [.int .i64 1,.int .i64 (-1),.int .i64 0],sl cr 3 vw l.waiting]) (xs:=[⟨1, -1,0⟩]) (ys:=l.waiting) (Rd.ez (Rd.lit .here rfl (fun _ _=>rfl) rfl)) (Rd.ez (Rd.sl .auto)) (by simp;omega)) fun u25 _=>?_
  refine .dq .auto ?_
  refine .c2 call94 rfl (og (A:=sl cr 3 u25 (⟨1, -1,0⟩::l.waiting)) (xs:=⟨1, -1,0⟩::l.waiting) (Rd.sl .here) (by simp;omega)) fun u26 _=>?_
  refine .cK (fun w s=>Rd.isSl (Rd.sl .auto) w s) fun hu26=>?_
  refine .p (.ix i rfl rfl rfl (by omega)) ?_
  refine .d3 rfl (af.lZ (x':=(u26,aM.new (⟨1, -1,0⟩::l.waiting))) rfl rfl sizeOf80 (rR hu26) hx rfl rfl .auto) ?_
  rintro _ _ ⟨rfl,rfl⟩
  refine J 4 ?_
  refine .fr .auto (c0 (f:=fun x:Value×aM=>sl cr 3 x.1 x.2.evs) hx) ?_
  refine .to (A:=aD (fun x:Value×aM=>sl cr 3 x.1 x.2.evs) (xs.set i (u26,aM.new (⟨1, -1,0⟩::l.waiting)))) .auto (kM (f:=fun x:Value×aM=>sl cr 3 x.1 x.2.evs) (u26,aM.new (⟨1, -1,0⟩::l.waiting)) hx) ?_
  have hms:=map_set hxs i (u26,aM.new (⟨1, -1,0⟩::l.waiting))
  exact JR 12 ()
theorem mE{W:World}{b bs br:Nat}{l:Lib}{A:aa}{m:Value}{ys:List Ev}(hm:Rd W [A] cr 3 m ys)(hl:ys.length≤400000000∧l.waiting.length≤400000000∧l.vs.length≤1000000000∧ ∀ v∈l.vs,v.evs.length≤400000000):Fn Tryz.prog W 37 [ptr b,m] [bJ b bs br l,A] Unit (fun _=>.tuple #[]) (fun _=>True) (fun _=>[bJ b bs br (l.tell ys),A]):=by
 refine Fn.intro (N:=45) func37 rfl ntmps37 rfl fun F=>?_
 haveI hRI:∀ (H:List aa) [bf H A],aw W H m cr 3 ys:=fun H h=>⟨hm.at h.has⟩
 show aq _ _ _ _ _ _ [bJ b bs br l,A,F]
 refine .s (.s (.r (.p (.m rfl) (.p (.Oo rfl rfl) (.p (.m rfl) ?_)))))
 apply aS.iw 4 11 7 [7,8,9,10,11] rfl
 ·intro h7
  refine .g (.m rfl) (.g (.len rfl) (.g (.eql rfl rfl) (.p (.u rfl rfl) (.n ?_))))
  refine .oy .auto rfl (by first | exact fun _ h=>h | exact ax.kept .auto)
 ·intro h7
  refine .u (.u (.u (.p (.t rfl rfl) (.n ?_))))
  refine .oy .auto rfl (by first | exact fun _ h=>h | exact ax.kept .auto)
 refine .n (.t (.cond rfl (fun h11=>?_) (fun h11=>?_)))
 ·simp only[Bool.or_eq_true,decide_eq_true_eq] at h11
  refine .e (.tr ?_)
  obtain rfl:ys=[]:=by simpa using h11
  rw[jq]
  refine .K5 rfl fun w s=>⟨(),?_,trivial,ai .auto s⟩
  rfl
 ·simp only[Bool.or_eq_false_iff,decide_eq_false_iff_not] at h11
  refine .v (.t (.s (.r (.p (.m rfl) ?_))))
  have hne:ys≠[]:=by simpa using h11
  refine .aj rfl (af.eH rfl call81 rfl (qK hl.2.2.1) .auto) ?_
  rintro _ _ ⟨u13, -,rfl,rfl⟩
  refine .p (.a rfl) (.n (.t (.s (.s (.r (.p (.m rfl) (.p (.len rfl) (.p (.eql rfl rfl) (.n (.t (.dX rfl (fun h16=>?_) (fun h16=>?_))))))))))))
  ·refine .s (.r ?_)
   refine .o2 (C:=bJ b bs br l) .auto rfl ?_
   rintro vv vw -
   refine .o1 (C:=ct vv l.vs) .auto rfl ?_
   rintro xs hxs
   have hxl:=aE hxs
   refine .p (.m rfl) (.p (.m rfl) (.p (.n rfl) (.p (.f rfl) (.p (.l rfl) (.p (.m rfl) ?_)))))
   rw[jd hne (by simpa using h16)]
   refine .aj rfl (af.eH rfl call95 rfl (ug (A:=seps [sl cr 3 vw l.waiting,A]) (xs:=l.waiting) (ys:=ys) (Rd.ez (Rd.sl .here)) (Rd.ez (hm.at (.there .here))) (by omega)) .auto) ?_
   rintro _ _ ⟨u23, -,rfl,rfl⟩
   refine .dq .auto ?_
   refine .p (.n rfl) (.p (.f rfl) ?_)
   refine .aj rfl (af.lY sizeOf75 rfl rfl rfl) ?_
   rintro _ _ ⟨rfl,rfl⟩
   refine .n (.t (.e (.tr (.K5 rfl fun w s=>⟨(),?_,trivial,ai .auto s⟩))))
   rfl
  ·refine .v (.t ?_)
   obtain⟨p,r,hp⟩:∃ p r,l.procs=p::r:=by
    cases e:l.procs with
    | nil=>rw[e] at h16;exact absurd rfl h16
    | cons p r=>exact⟨p,r,rfl⟩
   obtain⟨i,v,rfl,hv,hmd⟩:=hY hp
   have hp0:l.procs[0]?=some (i:Int):=by rw[hp];rfl
   rw[je hne hp hv]
   refine .o2 (C:=bJ b bs br l) .auto rfl ?_
   rintro vv vw -
   refine .o1 (C:=ct vv l.vs) .auto rfl ?_
   rintro xs hxs
   have hxl:=aE hxs
   obtain⟨x,hx,rfl⟩:=dt hxs hv
   have hil:=(List.getElem?_eq_some_iff.1 hx).1
   refine .fr .auto (c0 (f:=fun x:Value×aM=>sl cr 3 x.1 x.2.evs) hx) ?_
   have hel:=hl.2.2.2 x.2 (List.mem_of_getElem? hv)
   refine .draw [arr b 0 (lX bs br vv vw l.locked),sl au 1 u13 l.procs] [0,0,0,0,0,0,0,1,1,1,1,1,1,1,1,1,1,2,1,3] rfl (by kernel_rfl) ?_
   refine .q (.m rfl) (.q (.n rfl) (.q (.f rfl) (.q (.l rfl) (.q (.m rfl) ?_))))
   refine .q (.ix 0 rfl rfl rfl (by rw[hp];simp)) ?_
   refine .q (.lr rfl hp0) ?_
   refine .p (.m rfl) (.p (.n rfl) (.p (.f rfl) (.p (.l rfl) (.p (.m rfl) ?_))))
   refine .p (.ix 0 rfl rfl rfl (by rw[hp];simp)) ?_
   refine .p (.lr rfl hp0) ?_
   refine .p (.ix i rfl rfl rfl (by omega)) ?_
   refine .p (.la rfl (Cells.rd Rd.s ‹_›)) ?_
   refine .p (.m rfl) ?_
   refine .d2 rfl Kept.auto (af.eH rfl call97 rfl (rA (A:=seps [sl cr 3 x.1 x.2.evs,A]) (u:=x.1) (x:=x.2) (m:=m) (ys:=ys) (Rd.ez (Rd.sl .here)) (Rd.ez (hm.at (.there .here))) (by omega)) .auto) (by rintro _ _ ⟨u43, -,rfl,rfl⟩;exact Kept.auto) ?_
   rintro _ _ ⟨u43, -,rfl,rfl⟩
   refine .cK (fun w s=>Rd.isSl (Rd.sl .auto) w s) fun hu43=>?_
   refine .dq .auto ?_
   refine .p (.ix i rfl rfl rfl (by omega)) ?_
   refine .d3 rfl (af.lZ (x':=(u43,x.2.told ys)) rfl rfl sizeOf80 (rR hu43) hx rfl rfl .auto) ?_
   rintro _ _ ⟨rfl,rfl⟩
   refine .n ?_
   refine .to (A:=aD (fun x:Value×aM=>sl cr 3 x.1 x.2.evs) (xs.set i (u43,x.2.told ys))) .auto (kM (f:=fun x:Value×aM=>sl cr 3 x.1 x.2.evs) (u43,x.2.told ys) hx) ?_
   have hms:=map_set hxs i (u43,x.2.told ys)
   refine .DW rfl fun w s=>⟨(),?_,trivial,ai .auto s⟩
   rfl
theorem BZ{W:World}{b bs br:Nat}{l:Lib}{p:Int}(hl:l.waiting.length≤400000000∧l.vs.length≤1000000000∧ ∀ v∈l.vs,v.evs.length≤300000000):Fn Tryz.prog W 34 [ptr b,.int .i64 p] [bJ b bs br l] Unit (fun _=>.bool (l.cF p).1) (fun _=>True) (fun _=>[bJ b bs br (l.cF p).2]):=by
 refine Fn.intro (N:=28) func34 rfl ntmps34 rfl fun F=>?_
 show aq _ _ _ _ _ _ [bJ b bs br l,F]
 refine J 10 ?_
 refine .c call85 rfl mD fun _ _=>?_
 refine JD 3 (fun h9=>?_) fun h9=>?_
 ·refine J 7 ?_
  rw[Bool.not_eq_true'] at h9
  rw[jf h9]
  exact JR 0 ()
 ·refine J 4 ?_
  rw[Bool.not_eq_false'] at h9
  obtain⟨i,v,rfl,hv⟩:=mU (s8 h9)
  rw[hZ h9 hv]
  refine .o2 (C:=bJ b bs br l) .auto rfl ?_
  rintro vv vw -
  refine .o1 (C:=ct vv l.vs) .auto rfl ?_
  rintro xs hxs
  have hxl:=aE hxs
  obtain⟨x,hx,rfl⟩:=dt hxs hv
  have hil:=(List.getElem?_eq_some_iff.1 hx).1
  refine .fr .auto (c0 (f:=fun x:Value×aM=>sl cr 3 x.1 x.2.evs) hx) ?_
  have hel:=hl.2.2 x.2 (List.mem_of_getElem? hv)
  have hsl:=mT x.2
  refine J 5 ?_
  refine .p (.ix i rfl rfl rfl (by omega)) ?_
  refine J 1 ?_
  refine .c call96 rfl (pS (A:=sl cr 3 x.1 x.2.evs) (u:=x.1) (x:=x.2) (Rd.sl .here) (by omega)) fun u17 _=>?_
  refine J 10 ?_
  refine .p (.lR ([(.int .i64 0),(.int .i64 0),(.slice none 0 0)]) (by kernel_rfl)) ?_
  refine .p (.ix i rfl rfl rfl (by omega)) ?_
  refine .aj rfl (af.lZ (x':=((Value.slice none 0 0:Value),aM.z)) rfl rfl sizeOf80 rfl hx rfl rfl .auto) ?_
  rintro _ _ ⟨rfl,rfl⟩
  refine J 4 ?_
  refine .to (A:=aD (fun x:Value×aM=>sl cr 3 x.1 x.2.evs) (xs.set i ((Value.slice none 0 0:Value),aM.z))) .auto (kM (f:=fun x:Value×aM=>sl cr 3 x.1 x.2.evs) ((Value.slice none 0 0:Value),aM.z) hx) ?_
  have hms:=map_set hxs i ((Value.slice none 0 0:Value),aM.z)
  refine J 2 ?_
  refine .aj rfl (af.eH rfl call37 rfl (mE (l:={l with vs:=l.vs.set i aM.z }) (A:=sl cr 3 u17 x.2.strip) (Rd.sl .here) ⟨by omega,hl.1,by show(l.vs.set i aM.z).length≤_;rw[List.length_set];exact hl.2.1,fun v hv=>by
   rcases List.mem_or_eq_of_mem_set hv with h | h
   ·exact Nat.le_trans (hl.2.2 v h) (by omega)
   ·subst h;exact Nat.zero_le _⟩) .auto) ?_
  rintro _ _ ⟨⟨⟩, -,rfl,rfl⟩
  exact JR 8 ()
end Go.SLYthlllpngkljgfaaGreat
namespace Go.SLYthlllpngkljgfaaGreat
open Go Go.RowKit Go.Proofs Go.Proofs.Tryz
attribute [local irreducible] aq aS bc bx bC Y
theorem wM{W:World}{b:Nat}{l:List Int}(hl:l.length≤1000000000):Fn Tryz.prog W 104 [ptr b] [fp b l] Value (fun u=>u) (fun _=>True) (fun u=>[sl au 1 u l,fp b l]):=by
 refine Fn.intro (N:=11) func104 rfl ntmps104 rfl fun F=>?_
 show aq _ _ _ _ _ _ [fp b l,F]
 refine J 12 ?_
 refine .ew rfl ?_
 refine J 4 ?_
 refine .o1 (C:=fp b l) .auto rfl ?_
 rintro v -
 refine J 4 ?_
 refine .c call154 rfl (LZ (A:=sl au 1 v l) (Rd.sl .here) hl) fun u9 _=>?_
 refine .c call153 rfl M6 fun u10 _=>?_
 refine J 4 ?_
 refine .aG rfl rfl fun w s=>⟨_,?_,trivial,ai .auto s⟩
 rfl
theorem B0{W:World}{b:Nat}{rs:List (List Int)}{t:Int}(hl:rs.length≤64∧ ∀ r∈rs,r.length≤1000000000):Fn Tryz.prog W 109 [ptr b,.int .i64 t] [ga b rs] Unit (fun _=>.tuple #[.int .i64 (whereFrom t rs 0).1,.bool (whereFrom t rs 0).2]) (fun _=>True) (fun _=>[ga b rs]):=by
 refine Fn.intro (N:=35) func109 rfl ntmps109 rfl fun F=>?_
 show aq _ _ _ _ _ _ [ga b rs,F]
 refine .o2 (C:=ga b rs) .auto rfl ?_
 rintro v xs hxs
 have hxl:=aE hxs
 refine J 13 ?_
 refine .ew rfl ?_
 refine J 14 ?_
 refine .bn (X:=Nat) [4,5,6,7,9,17,18,19,20,21,22,23,24,25,26,27,28,29,30,31,32,33,34] (fun z=>rs.length-z) (fun z=>z≤rs.length∧whereFrom t rs 0=whereFrom t (rs.drop z) z) (fun z=>[(17,some (.int .i64 (z:Int)))]) (fun z=>[arr b 0 [v],sl bH 1 v xs,aD (fun x:Nat×List Int=>fp x.1 x.2) xs,F]) 0 ?_ ?_ ?_ ?_
 ·exact⟨Nat.zero_le _,by rw[List.drop_zero]⟩
 ·exact⟨rfl,trivial⟩
 ·exact fun w s=>ax.kept .auto w s
 rintro n ⟨hn,hw⟩
 refine JD 6 (fun h18=>?_) fun h18=>?_
 ·refine J 6 ?_
  obtain⟨x,hx⟩:=ak (show n<xs.length by omega)
  have hx2:=eQ hxs hx
  have hxl2:=hl.2 x.2 (List.mem_of_getElem? hx2)
  refine J 9 ?_
  refine .fr .auto (c0 (f:=fun x:Nat×List Int=>fp x.1 x.2) hx) ?_
  refine J 1 ?_
  refine .c call104 rfl (wM (l:=x.2) (hl.2 x.2 (List.mem_of_getElem? hx2))) fun u23 _=>?_
  refine .to (A:=aD (fun x:Nat×List Int=>fp x.1 x.2) xs) .auto (eW (f:=fun x:Nat×List Int=>fp x.1 x.2) hx) ?_
  refine J 5 ?_
  refine .bn (X:=Nat) [4,5,9,25,26,27,28,29,30,31,32,33] (fun z=>x.2.length-z) (fun z=>z≤x.2.length∧t ∉ x.2.take z) (fun z=>[(25,some (.int .i64 (z:Int)))]) (fun z=>[sl au 1 u23 x.2,arr b 0 [v],sl bH 1 v xs,aD (fun x:Nat×List Int=>fp x.1 x.2) xs,F]) 0 ?_ ?_ ?_ ?_
  ·exact⟨Nat.zero_le _,by simp⟩
  ·exact⟨rfl,trivial⟩
  ·exact fun w s=>ax.kept .auto w s
  rintro j ⟨hj,hjt⟩
  refine JD 6 (fun h26=>?_) fun h26=>?_
  ·refine J 6 ?_
   obtain⟨y,hy⟩:=ak (show j<x.2.length by omega)
   refine J 1 ?_
   refine .p (.lr rfl hy) ?_
   refine JD 10 (fun h31=>?_) fun h31=>?_
   ·rw[hw,EN hx2 (by rw[← h31];exact List.mem_of_getElem? hy)]
    exact JR 17 ()
   ·refine J 7 ?_
    refine .aL (j+1) .auto rfl ?_ ?_ ?_ ?_
    ·omega
    ·exact⟨by omega,by rw[aX hy,List.mem_append];rintro(h | h);exact hjt h;exact h31 (List.mem_singleton.1 h).symm⟩
    ·exact⟨rfl,trivial⟩
    ·exact fun w s=>ax.kept .auto w s
  ·obtain rfl:j=x.2.length:=by omega
   rw[List.take_length] at hjt
   refine J 10 ?_
   refine .aL (n+1) .auto rfl ?_ ?_ ?_ ?_
   ·omega
   ·exact⟨by omega,by rw[hw,HG hx2 hjt]⟩
   ·exact⟨rfl,trivial⟩
   ·exact fun w s=>ax.kept .auto w s
 ·obtain rfl:n=rs.length:=by omega
  rw[hw,EO (Nat.le_refl _)]
  exact JR 12 ()
end Go.SLYthlllpngkljgfaaGreat
namespace Go.SLYthlllpngkljgfaaGreat
open Go Go.RowKit Go.Proofs Go.Proofs.Tryz
attribute [local irreducible] aq aS bc bx bC Y
theorem Ka{W:World}{v:Value}{xs:List eS}{i:Nat}(hi:i<xs.length)(_hl:xs.length≤1000000000):Fn Tryz.prog W 259 [v,.int .i64 (i:Int),.int .i64 ((i+1:Nat):Int)] [sl dn 2 v xs] Value (fun u=>u) (fun _=>True) (fun u=>[sl dn 2 u (xs.eraseIdx i)]):=by
 refine Fn.intro (N:=33) func259 rfl ntmps259 rfl fun F=>?_
 show aq _ _ _ _ _ _ [sl dn 2 v xs,F]
 have h0:xs≠[]:=by intro e;rw[e] at hi;simp at hi
 refine .cK (fun w s=>s.fact .auto (l5 h0)) fun e=>?_
 obtain⟨b,cap,rfl,hc⟩:=e
 refine .s (.r (.p (.a rfl) (.n (.t (.s (.r (.p (.m rfl) (.p (.m rfl) (.p (.m rfl) (.p (.m rfl) (.p (.len rfl) ?_)))))))))))
 refine .p (.slice3 i (i+1) xs.length underlying202 sizeOf324 rfl rfl rfl rfl rfl rfl rfl (by omega) (by omega) hc) ?_
 refine .n (.t (.s (.s (.r (.p (.m rfl) (.p (.m rfl) (.p (.eql rfl rfl) (.n (.t (.dX rfl (fun h16=>?_) (fun h16=>?_)))))))))))
 ·exact absurd h16 (by omega)
 ·refine .v (.t (.s (.r (.p (.m rfl) (.p (.len rfl) (.p (.a rfl) (.n (.t (.s ?_)))))))))
  refine .draw [] [1,1,1,1,1,1,3,1] rfl (by kernel_rfl) ?_
  refine .p (.m rfl) (.p (.m rfl) ?_)
  refine .p (.jJ i underlying202 sizeOf324 rfl rfl rfl (by omega)) ?_
  refine .p (.m rfl) (.p (.m rfl) ?_)
  refine .p (.mQ (i+1) underlying202 sizeOf324 rfl rfl rfl (by omega)) ?_
  refine .d3 rfl (af.j6 rfl underlying202 underlying202 typeInfo324 rfl rfl rfl .auto (by omega) (by omega) (Gj _) h0) ?_
  rintro _ _ ⟨rfl,rfl⟩
  refine .p (.a rfl) (.n (.t (.s (.r (.p (.m rfl) (.p (.m rfl) (.p (.lens rfl) (.p (.m rfl) ?_))))))))
  refine .p (.sU (i+(xs.length-(i+1))) xs.length underlying202 sizeOf324 rfl rfl rfl rfl rfl (by omega) hc) ?_
  refine .aj rfl (af.oE (xs:=xs.take i++xs.drop (i+1)) underlying202 zeroValue324 rfl rfl rfl rfl (by rw[List.length_append,List.length_take,List.length_drop];omega) (by omega) .auto) ?_
  rintro _ _ ⟨rfl,rfl⟩
  refine .n (.t (.s (.r (.p (.m rfl) (.p (.a rfl) (.n (.t (.e ?_))))))))
  rw[l6]
  refine .aG rfl rfl fun w s=>⟨_,?_,trivial,ai .auto s⟩
  rfl
theorem Kb{W:World}{v:Value}{xs:List vC}{i:Nat}(hi:i<xs.length)(_hl:xs.length≤1000000000):Fn Tryz.prog W 151 [v,.int .i64 (i:Int),.int .i64 ((i+1:Nat):Int)] [sl gJ 4 v xs] Value (fun u=>u) (fun _=>True) (fun u=>[sl gJ 4 u (xs.eraseIdx i)]):=by
 refine Fn.intro (N:=33) func151 rfl ntmps151 rfl fun F=>?_
 show aq _ _ _ _ _ _ [sl gJ 4 v xs,F]
 have h0:xs≠[]:=by intro e;rw[e] at hi;simp at hi
 refine .cK (fun w s=>s.fact .auto (l5 h0)) fun e=>?_
 obtain⟨b,cap,rfl,hc⟩:=e
 refine .s (.r (.p (.a rfl) (.n (.t (.s (.r (.p (.m rfl) (.p (.m rfl) (.p (.m rfl) (.p (.m rfl) (.p (.len rfl) ?_)))))))))))
 refine .p (.slice3 i (i+1) xs.length underlying207 sizeOf156 rfl rfl rfl rfl rfl rfl rfl (by omega) (by omega) hc) ?_
 refine .n (.t (.s (.s (.r (.p (.m rfl) (.p (.m rfl) (.p (.eql rfl rfl) (.n (.t (.dX rfl (fun h16=>?_) (fun h16=>?_)))))))))))
 ·exact absurd h16 (by omega)
 ·refine .v (.t (.s (.r (.p (.m rfl) (.p (.len rfl) (.p (.a rfl) (.n (.t (.s ?_)))))))))
  refine .draw [] [1,1,1,1,1,1,3,1] rfl (by kernel_rfl) ?_
  refine .p (.m rfl) (.p (.m rfl) ?_)
  refine .p (.jJ i underlying207 sizeOf156 rfl rfl rfl (by omega)) ?_
  refine .p (.m rfl) (.p (.m rfl) ?_)
  refine .p (.mQ (i+1) underlying207 sizeOf156 rfl rfl rfl (by omega)) ?_
  refine .d3 rfl (af.j6 rfl underlying207 underlying207 typeInfo156 rfl rfl rfl .auto (by omega) (by omega) (Gi _) h0) ?_
  rintro _ _ ⟨rfl,rfl⟩
  refine .p (.a rfl) (.n (.t (.s (.r (.p (.m rfl) (.p (.m rfl) (.p (.lens rfl) (.p (.m rfl) ?_))))))))
  refine .p (.sU (i+(xs.length-(i+1))) xs.length underlying207 sizeOf156 rfl rfl rfl rfl rfl (by omega) hc) ?_
  refine .aj rfl (af.oE (xs:=xs.take i++xs.drop (i+1)) underlying207 zeroValue156 rfl rfl rfl rfl (by rw[List.length_append,List.length_take,List.length_drop];omega) (by omega) .auto) ?_
  rintro _ _ ⟨rfl,rfl⟩
  refine .n (.t (.s (.r (.p (.m rfl) (.p (.a rfl) (.n (.t (.e ?_))))))))
  rw[l6]
  refine .aG rfl rfl fun w s=>⟨_,?_,trivial,ai .auto s⟩
  rfl
theorem Kc{W:World}{v:Value}{xs:List Ptr}{i:Nat}(hi:i<xs.length)(_hl:xs.length≤1000000000):Fn Tryz.prog W 304 [v,.int .i64 (i:Int),.int .i64 ((i+1:Nat):Int)] [sl lK 2 v xs] Value (fun u=>u) (fun _=>True) (fun u=>[sl lK 2 u (xs.eraseIdx i)]):=by
 refine Fn.intro (N:=33) func304 rfl ntmps304 rfl fun F=>?_
 show aq _ _ _ _ _ _ [sl lK 2 v xs,F]
 have h0:xs≠[]:=by intro e;rw[e] at hi;simp at hi
 refine .cK (fun w s=>s.fact .auto (l5 h0)) fun e=>?_
 obtain⟨b,cap,rfl,hc⟩:=e
 refine .s (.r (.p (.a rfl) (.n (.t (.s (.r (.p (.m rfl) (.p (.m rfl) (.p (.m rfl) (.p (.m rfl) (.p (.len rfl) ?_)))))))))))
 refine .p (.slice3 i (i+1) xs.length underlying213 sizeOf368 rfl rfl rfl rfl rfl rfl rfl (by omega) (by omega) hc) ?_
 refine .n (.t (.s (.s (.r (.p (.m rfl) (.p (.m rfl) (.p (.eql rfl rfl) (.n (.t (.dX rfl (fun h16=>?_) (fun h16=>?_)))))))))))
 ·exact absurd h16 (by omega)
 ·refine .v (.t (.s (.r (.p (.m rfl) (.p (.len rfl) (.p (.a rfl) (.n (.t (.s ?_)))))))))
  refine .draw [] [1,1,1,1,1,1,3,1] rfl (by kernel_rfl) ?_
  refine .p (.m rfl) (.p (.m rfl) ?_)
  refine .p (.jJ i underlying213 sizeOf368 rfl rfl rfl (by omega)) ?_
  refine .p (.m rfl) (.p (.m rfl) ?_)
  refine .p (.mQ (i+1) underlying213 sizeOf368 rfl rfl rfl (by omega)) ?_
  refine .d3 rfl (af.j6 rfl underlying213 underlying213 typeInfo368 rfl rfl rfl .auto (by omega) (by omega) (Gk _) h0) ?_
  rintro _ _ ⟨rfl,rfl⟩
  refine .p (.a rfl) (.n (.t (.s (.r (.p (.m rfl) (.p (.m rfl) (.p (.lens rfl) (.p (.m rfl) ?_))))))))
  refine .p (.sU (i+(xs.length-(i+1))) xs.length underlying213 sizeOf368 rfl rfl rfl rfl rfl (by omega) hc) ?_
  refine .aj rfl (af.oE (xs:=xs.take i++xs.drop (i+1)) underlying213 zeroValue368 rfl rfl rfl rfl (by rw[List.length_append,List.length_take,List.length_drop];omega) (by omega) .auto) ?_
  rintro _ _ ⟨rfl,rfl⟩
  refine .n (.t (.s (.r (.p (.m rfl) (.p (.a rfl) (.n (.t (.e ?_))))))))
  rw[l6]
  refine .aG rfl rfl fun w s=>⟨_,?_,trivial,ai .auto s⟩
  rfl
theorem yo{W:World}{v:Value}{xs:List Int}{i:Nat}(hi:i<xs.length)(_hl:xs.length≤1000000000):Fn Tryz.prog W 221 [v,.int .i64 (i:Int),.int .i64 ((i+1:Nat):Int)] [sl au 1 v xs] Value (fun u=>u) (fun _=>True) (fun u=>[sl au 1 u (xs.eraseIdx i)]):=by
 refine Fn.intro (N:=33) func221 rfl ntmps221 rfl fun F=>?_
 show aq _ _ _ _ _ _ [sl au 1 v xs,F]
 have h0:xs≠[]:=by intro e;rw[e] at hi;simp at hi
 refine .cK (fun w s=>s.fact .auto (l5 h0)) fun e=>?_
 obtain⟨b,cap,rfl,hc⟩:=e
 refine .s (.r (.p (.a rfl) (.n (.t (.s (.r (.p (.m rfl) (.p (.m rfl) (.p (.m rfl) (.p (.m rfl) (.p (.len rfl) ?_)))))))))))
 refine .p (.slice3 i (i+1) xs.length underlying50 sizeOf3 rfl rfl rfl rfl rfl rfl rfl (by omega) (by omega) hc) ?_
 refine .n (.t (.s (.s (.r (.p (.m rfl) (.p (.m rfl) (.p (.eql rfl rfl) (.n (.t (.dX rfl (fun h16=>?_) (fun h16=>?_)))))))))))
 ·exact absurd h16 (by omega)
 ·refine .v (.t (.s (.r (.p (.m rfl) (.p (.len rfl) (.p (.a rfl) (.n (.t (.s ?_)))))))))
  refine .draw [] [1,1,1,1,1,1,3,1] rfl (by kernel_rfl) ?_
  refine .p (.m rfl) (.p (.m rfl) ?_)
  refine .p (.jJ i underlying50 sizeOf3 rfl rfl rfl (by omega)) ?_
  refine .p (.m rfl) (.p (.m rfl) ?_)
  refine .p (.mQ (i+1) underlying50 sizeOf3 rfl rfl rfl (by omega)) ?_
  refine .d3 rfl (af.j6 rfl underlying50 underlying50 typeInfo3 rfl rfl rfl .auto (by omega) (by omega) (oJ _) h0) ?_
  rintro _ _ ⟨rfl,rfl⟩
  refine .p (.a rfl) (.n (.t (.s (.r (.p (.m rfl) (.p (.m rfl) (.p (.lens rfl) (.p (.m rfl) ?_))))))))
  refine .p (.sU (i+(xs.length-(i+1))) xs.length underlying50 sizeOf3 rfl rfl rfl rfl rfl (by omega) hc) ?_
  refine .aj rfl (af.oE (xs:=xs.take i++xs.drop (i+1)) underlying50 zeroValue3 rfl rfl rfl rfl (by rw[List.length_append,List.length_take,List.length_drop];omega) (by omega) .auto) ?_
  rintro _ _ ⟨rfl,rfl⟩
  refine .n (.t (.s (.r (.p (.m rfl) (.p (.a rfl) (.n (.t (.e ?_))))))))
  rw[l6]
  refine .aG rfl rfl fun w s=>⟨_,?_,trivial,ai .auto s⟩
  rfl
theorem Kd{W:World}{v:Value}{xs:List Int}{i:Nat}(hi:i<xs.length)(_hl:xs.length≤1000000000):Fn Tryz.prog W 303 [v,.int .i64 (i:Int),.int .i64 ((i+1:Nat):Int)] [sl cO 1 v xs] Value (fun u=>u) (fun _=>True) (fun u=>[sl cO 1 u (xs.eraseIdx i)]):=by
 refine Fn.intro (N:=33) func303 rfl ntmps303 rfl fun F=>?_
 show aq _ _ _ _ _ _ [sl cO 1 v xs,F]
 have h0:xs≠[]:=by intro e;rw[e] at hi;simp at hi
 refine .cK (fun w s=>s.fact .auto (l5 h0)) fun e=>?_
 obtain⟨b,cap,rfl,hc⟩:=e
 refine .s (.r (.p (.a rfl) (.n (.t (.s (.r (.p (.m rfl) (.p (.m rfl) (.p (.m rfl) (.p (.m rfl) (.p (.len rfl) ?_)))))))))))
 refine .p (.slice3 i (i+1) xs.length underlying47 sizeOf110 rfl rfl rfl rfl rfl rfl rfl (by omega) (by omega) hc) ?_
 refine .n (.t (.s (.s (.r (.p (.m rfl) (.p (.m rfl) (.p (.eql rfl rfl) (.n (.t (.dX rfl (fun h16=>?_) (fun h16=>?_)))))))))))
 ·exact absurd h16 (by omega)
 ·refine .v (.t (.s (.r (.p (.m rfl) (.p (.len rfl) (.p (.a rfl) (.n (.t (.s ?_)))))))))
  refine .draw [] [1,1,1,1,1,1,3,1] rfl (by kernel_rfl) ?_
  refine .p (.m rfl) (.p (.m rfl) ?_)
  refine .p (.jJ i underlying47 sizeOf110 rfl rfl rfl (by omega)) ?_
  refine .p (.m rfl) (.p (.m rfl) ?_)
  refine .p (.mQ (i+1) underlying47 sizeOf110 rfl rfl rfl (by omega)) ?_
  refine .d3 rfl (af.j6 rfl underlying47 underlying47 typeInfo110 rfl rfl rfl .auto (by omega) (by omega) (sY _) h0) ?_
  rintro _ _ ⟨rfl,rfl⟩
  refine .p (.a rfl) (.n (.t (.s (.r (.p (.m rfl) (.p (.m rfl) (.p (.lens rfl) (.p (.m rfl) ?_))))))))
  refine .p (.sU (i+(xs.length-(i+1))) xs.length underlying47 sizeOf110 rfl rfl rfl rfl rfl (by omega) hc) ?_
  refine .aj rfl (af.oE (xs:=xs.take i++xs.drop (i+1)) underlying47 zeroValue110 rfl rfl rfl rfl (by rw[List.length_append,List.length_take,List.length_drop];omega) (by omega) .auto) ?_
  rintro _ _ ⟨rfl,rfl⟩
  refine .n (.t (.s (.r (.p (.m rfl) (.p (.a rfl) (.n (.t (.e ?_))))))))
  rw[l6]
  refine .aG rfl rfl fun w s=>⟨_,?_,trivial,ai .auto s⟩
  rfl
theorem B1{W:World}{A:aa}{v:Value}{xs:List eS}{p:eS→Bool}{g:Nat}{c:Value}(hr:Rd W [A] dn 2 v xs)(hl:xs.length≤1000000000)(hg:∀ args w,(callFunc g args).run Tryz.prog w = .ok (.enter g args) w)(hf:∀ x∈xs,Fn Tryz.prog W g [.agg (dn x).toArray,c] [A] Unit (fun _=>.bool (p x)) (fun _=>True) (fun _=>[A])):Fn Tryz.prog W 312 [v,.func (.func g) #[] #[c]] [A] Unit (fun _=>.int .i64 (idxP p xs 0)) (fun _=>True) (fun _=>[A]):=by
 refine Fn.intro (N:=19) func312 rfl ntmps312 rfl fun F=>?_
 haveI hRI:∀ (H:List aa) [bf H A],aw W H v dn 2 xs:=fun H h=>⟨hr.at h.has⟩
 show aq _ _ _ _ _ _ [A,F]
 refine J 14 ?_
 refine .bn (X:=Nat) [4,5,8,9,10,11,12,13,14,15,16,17,18] (fun k=>xs.length-k) (fun k=>k≤xs.length∧idxP p xs 0=idxP p (xs.drop k) k) (fun k=>[(8,some (.int .i64 (k:Int)))]) (fun k=>[A,F]) 0 ?_ ?_ ?_ ?_
 ·exact⟨Nat.zero_le _,by simp⟩
 ·exact⟨rfl,trivial⟩
 ·exact fun w s=>ax.kept .auto w s
 rintro k ⟨hk,hn⟩
 refine JD 6 (fun h9=>?_) fun h9=>?_
 ·refine J 15 ?_
  obtain⟨x,hx⟩:=ak (show k<xs.length by omega)
  refine J 2 ?_
  refine .aj rfl (af.jU rfl rfl hg rfl (hf x (List.mem_of_getElem? hx)) .auto) ?_
  rintro _ _ ⟨⟨⟩, -,rfl,rfl⟩
  refine JD 2 (fun h16=>?_) fun h16=>?_
  ·refine J 12 ?_
   refine .aG rfl rfl fun w s=>⟨(),?_,trivial,ai .auto s⟩
   rw[hn,iy hx h16]
  ·refine J 7 ?_
   refine .aL (k+1) .auto rfl ?_ ?_ ?_ ?_
   ·first | omega | (dsimp only;omega)
   ·exact⟨by omega,hn.trans (gA hx h16)⟩
   ·exact⟨rfl,trivial⟩
   ·exact fun w s=>ax.kept .auto w s
 ·refine J 11 ?_
  refine .aG rfl rfl fun w s=>⟨(),?_,trivial,ai .auto s⟩
  rw[hn,iz (by omega)]
theorem uX{W:World}{A:aa}{v:Value}{xs:List eS}{p:eS→Bool}{g:Nat}{c:Value}(hr:Rd W [A] dn 2 v xs)(hl:xs.length≤1000000000)(hg:∀ args w,(callFunc g args).run Tryz.prog w = .ok (.enter g args) w)(hf:∀ x∈xs,Fn Tryz.prog W g [.agg (dn x).toArray,c] [A] Unit (fun _=>.bool (p x)) (fun _=>True) (fun _=>[A])):Fn Tryz.prog W 296 [v,.func (.func g) #[] #[c]] [A] Unit (fun _=>.bool (xs.any p)) (fun _=>True) (fun _=>[A]):=by
 refine Fn.intro (N:=9) func296 rfl ntmps296 rfl fun F=>?_
 show aq _ _ _ _ _ _ [A,F]
 refine J 9 ?_
 refine .c call312 rfl (B1 hr hl hg hf) fun _ _=>?_
 refine J 5 ?_
 refine .aG rfl rfl fun w s=>⟨(),?_,trivial,ai .auto s⟩
 rw[← iA xs 0]
theorem B2{W:World}{A:aa}{v:Value}{xs:List vC}{p:vC→Bool}{g:Nat}{c:Value}(hr:Rd W [A] gJ 4 v xs)(hl:xs.length≤1000000000)(hg:∀ args w,(callFunc g args).run Tryz.prog w = .ok (.enter g args) w)(hf:∀ x∈xs,Fn Tryz.prog W g [.agg (gJ x).toArray,c] [A] Unit (fun _=>.bool (p x)) (fun _=>True) (fun _=>[A])):Fn Tryz.prog W 300 [v,.func (.func g) #[] #[c]] [A] Unit (fun _=>.int .i64 (idxP p xs 0)) (fun _=>True) (fun _=>[A]):=by
 refine Fn.intro (N:=19) func300 rfl ntmps300 rfl fun F=>?_
 haveI hRI:∀ (H:List aa) [bf H A],aw W H v gJ 4 xs:=fun H h=>⟨hr.at h.has⟩
 show aq _ _ _ _ _ _ [A,F]
 refine J 14 ?_
 refine .bn (X:=Nat) [4,5,8,9,10,11,12,13,14,15,16,17,18] (fun k=>xs.length-k) (fun k=>k≤xs.length∧idxP p xs 0=idxP p (xs.drop k) k) (fun k=>[(8,some (.int .i64 (k:Int)))]) (fun k=>[A,F]) 0 ?_ ?_ ?_ ?_
 ·exact⟨Nat.zero_le _,by simp⟩
 ·exact⟨rfl,trivial⟩
 ·exact fun w s=>ax.kept .auto w s
 rintro k ⟨hk,hn⟩
 refine JD 6 (fun h9=>?_) fun h9=>?_
 ·refine J 15 ?_
  obtain⟨x,hx⟩:=ak (show k<xs.length by omega)
  refine J 2 ?_
  refine .aj rfl (af.jU rfl rfl hg rfl (hf x (List.mem_of_getElem? hx)) .auto) ?_
  rintro _ _ ⟨⟨⟩, -,rfl,rfl⟩
  refine JD 2 (fun h16=>?_) fun h16=>?_
  ·refine J 12 ?_
   refine .aG rfl rfl fun w s=>⟨(),?_,trivial,ai .auto s⟩
   rw[hn,iy hx h16]
  ·refine J 7 ?_
   refine .aL (k+1) .auto rfl ?_ ?_ ?_ ?_
   ·first | omega | (dsimp only;omega)
   ·exact⟨by omega,hn.trans (gA hx h16)⟩
   ·exact⟨rfl,trivial⟩
   ·exact fun w s=>ax.kept .auto w s
 ·refine J 11 ?_
  refine .aG rfl rfl fun w s=>⟨(),?_,trivial,ai .auto s⟩
  rw[hn,iz (by omega)]
theorem uY{W:World}{A:aa}{v:Value}{xs:List vC}{p:vC→Bool}{g:Nat}{c:Value}(hr:Rd W [A] gJ 4 v xs)(hl:xs.length≤1000000000)(hg:∀ args w,(callFunc g args).run Tryz.prog w = .ok (.enter g args) w)(hf:∀ x∈xs,Fn Tryz.prog W g [.agg (gJ x).toArray,c] [A] Unit (fun _=>.bool (p x)) (fun _=>True) (fun _=>[A])):Fn Tryz.prog W 283 [v,.func (.func g) #[] #[c]] [A] Unit (fun _=>.bool (xs.any p)) (fun _=>True) (fun _=>[A]):=by
 refine Fn.intro (N:=9) func283 rfl ntmps283 rfl fun F=>?_
 show aq _ _ _ _ _ _ [A,F]
 refine J 9 ?_
 refine .c call300 rfl (B2 hr hl hg hf) fun _ _=>?_
 refine J 5 ?_
 refine .aG rfl rfl fun w s=>⟨(),?_,trivial,ai .auto s⟩
 rw[← iA xs 0]
theorem B3{W:World}{A:aa}{v:Value}{xs:List Ptr}{p:Ptr→Bool}{g:Nat}{c:Value}(hr:Rd W [A] lK 2 v xs)(hl:xs.length≤1000000000)(hg:∀ args w,(callFunc g args).run Tryz.prog w = .ok (.enter g args) w)(hf:∀ x∈xs,Fn Tryz.prog W g [.agg (lK x).toArray,c] [A] Unit (fun _=>.bool (p x)) (fun _=>True) (fun _=>[A])):Fn Tryz.prog W 313 [v,.func (.func g) #[] #[c]] [A] Unit (fun _=>.int .i64 (idxP p xs 0)) (fun _=>True) (fun _=>[A]):=by
 refine Fn.intro (N:=19) func313 rfl ntmps313 rfl fun F=>?_
 haveI hRI:∀ (H:List aa) [bf H A],aw W H v lK 2 xs:=fun H h=>⟨hr.at h.has⟩
 show aq _ _ _ _ _ _ [A,F]
 refine J 14 ?_
 refine .bn (X:=Nat) [4,5,8,9,10,11,12,13,14,15,16,17,18] (fun k=>xs.length-k) (fun k=>k≤xs.length∧idxP p xs 0=idxP p (xs.drop k) k) (fun k=>[(8,some (.int .i64 (k:Int)))]) (fun k=>[A,F]) 0 ?_ ?_ ?_ ?_
 ·exact⟨Nat.zero_le _,by simp⟩
 ·exact⟨rfl,trivial⟩
 ·exact fun w s=>ax.kept .auto w s
 rintro k ⟨hk,hn⟩
 refine JD 6 (fun h9=>?_) fun h9=>?_
 ·refine J 15 ?_
  obtain⟨x,hx⟩:=ak (show k<xs.length by omega)
  refine J 2 ?_
  refine .aj rfl (af.jU rfl rfl hg rfl (hf x (List.mem_of_getElem? hx)) .auto) ?_
  rintro _ _ ⟨⟨⟩, -,rfl,rfl⟩
  refine JD 2 (fun h16=>?_) fun h16=>?_
  ·refine J 12 ?_
   refine .aG rfl rfl fun w s=>⟨(),?_,trivial,ai .auto s⟩
   rw[hn,iy hx h16]
  ·refine J 7 ?_
   refine .aL (k+1) .auto rfl ?_ ?_ ?_ ?_
   ·first | omega | (dsimp only;omega)
   ·exact⟨by omega,hn.trans (gA hx h16)⟩
   ·exact⟨rfl,trivial⟩
   ·exact fun w s=>ax.kept .auto w s
 ·refine J 11 ?_
  refine .aG rfl rfl fun w s=>⟨(),?_,trivial,ai .auto s⟩
  rw[hn,iz (by omega)]
theorem uZ{W:World}{A:aa}{v:Value}{xs:List Ptr}{p:Ptr→Bool}{g:Nat}{c:Value}(hr:Rd W [A] lK 2 v xs)(hl:xs.length≤1000000000)(hg:∀ args w,(callFunc g args).run Tryz.prog w = .ok (.enter g args) w)(hf:∀ x∈xs,Fn Tryz.prog W g [.agg (lK x).toArray,c] [A] Unit (fun _=>.bool (p x)) (fun _=>True) (fun _=>[A])):Fn Tryz.prog W 301 [v,.func (.func g) #[] #[c]] [A] Unit (fun _=>.bool (xs.any p)) (fun _=>True) (fun _=>[A]):=by
 refine Fn.intro (N:=9) func301 rfl ntmps301 rfl fun F=>?_
 show aq _ _ _ _ _ _ [A,F]
 refine J 9 ?_
 refine .c call313 rfl (B3 hr hl hg hf) fun _ _=>?_
 refine J 5 ?_
 refine .aG rfl rfl fun w s=>⟨(),?_,trivial,ai .auto s⟩
 rw[← iA xs 0]
theorem B4{W:World}{A:aa}{v:Value}{xs:List (Value×eI)}{p:(Value×eI)→Bool}{g:Nat}{c:Value}(hr:Rd W [A] lM 3 v xs)(hl:xs.length≤1000000000)(hg:∀ args w,(callFunc g args).run Tryz.prog w = .ok (.enter g args) w)(hf:∀ x∈xs,Fn Tryz.prog W g [.agg (lM x).toArray,c] [A] Unit (fun _=>.bool (p x)) (fun _=>True) (fun _=>[A])):Fn Tryz.prog W 295 [v,.func (.func g) #[] #[c]] [A] Unit (fun _=>.int .i64 (idxP p xs 0)) (fun _=>True) (fun _=>[A]):=by
 refine Fn.intro (N:=19) func295 rfl ntmps295 rfl fun F=>?_
 haveI hRI:∀ (H:List aa) [bf H A],aw W H v lM 3 xs:=fun H h=>⟨hr.at h.has⟩
 show aq _ _ _ _ _ _ [A,F]
 refine J 14 ?_
 refine .bn (X:=Nat) [4,5,8,9,10,11,12,13,14,15,16,17,18] (fun k=>xs.length-k) (fun k=>k≤xs.length∧idxP p xs 0=idxP p (xs.drop k) k) (fun k=>[(8,some (.int .i64 (k:Int)))]) (fun k=>[A,F]) 0 ?_ ?_ ?_ ?_
 ·exact⟨Nat.zero_le _,by simp⟩
 ·exact⟨rfl,trivial⟩
 ·exact fun w s=>ax.kept .auto w s
 rintro k ⟨hk,hn⟩
 refine JD 6 (fun h9=>?_) fun h9=>?_
 ·refine J 15 ?_
  obtain⟨x,hx⟩:=ak (show k<xs.length by omega)
  refine J 2 ?_
  refine .aj rfl (af.jU rfl rfl hg rfl (hf x (List.mem_of_getElem? hx)) .auto) ?_
  rintro _ _ ⟨⟨⟩, -,rfl,rfl⟩
  refine JD 2 (fun h16=>?_) fun h16=>?_
  ·refine J 12 ?_
   refine .aG rfl rfl fun w s=>⟨(),?_,trivial,ai .auto s⟩
   rw[hn,iy hx h16]
  ·refine J 7 ?_
   refine .aL (k+1) .auto rfl ?_ ?_ ?_ ?_
   ·first | omega | (dsimp only;omega)
   ·exact⟨by omega,hn.trans (gA hx h16)⟩
   ·exact⟨rfl,trivial⟩
   ·exact fun w s=>ax.kept .auto w s
 ·refine J 11 ?_
  refine .aG rfl rfl fun w s=>⟨(),?_,trivial,ai .auto s⟩
  rw[hn,iz (by omega)]
theorem u3{W:World}{A:aa}{v:Value}{xs:List (Value×eI)}{p:(Value×eI)→Bool}{g:Nat}{c:Value}(hr:Rd W [A] lM 3 v xs)(hl:xs.length≤1000000000)(hg:∀ args w,(callFunc g args).run Tryz.prog w = .ok (.enter g args) w)(hf:∀ x∈xs,Fn Tryz.prog W g [.agg (lM x).toArray,c] [A] Unit (fun _=>.bool (p x)) (fun _=>True) (fun _=>[A])):Fn Tryz.prog W 276 [v,.func (.func g) #[] #[c]] [A] Unit (fun _=>.bool (xs.any p)) (fun _=>True) (fun _=>[A]):=by
 refine Fn.intro (N:=9) func276 rfl ntmps276 rfl fun F=>?_
 show aq _ _ _ _ _ _ [A,F]
 refine J 9 ?_
 refine .c call295 rfl (B4 hr hl hg hf) fun _ _=>?_
 refine J 5 ?_
 refine .aG rfl rfl fun w s=>⟨(),?_,trivial,ai .auto s⟩
 rw[← iA xs 0]
theorem B5{W:World}{A:aa}{v:Value}{xs:List (Value×List eS)}{p:(Value×List eS)→Bool}{g:Nat}{c:Value}(hr:Rd W [A] ej 1 v xs)(hl:xs.length≤1000000000)(hg:∀ args w,(callFunc g args).run Tryz.prog w = .ok (.enter g args) w)(hf:∀ x∈xs,Fn Tryz.prog W g [.agg (ej x).toArray,c] [A] Unit (fun _=>.bool (p x)) (fun _=>True) (fun _=>[A])):Fn Tryz.prog W 298 [v,.func (.func g) #[] #[c]] [A] Unit (fun _=>.int .i64 (idxP p xs 0)) (fun _=>True) (fun _=>[A]):=by
 refine Fn.intro (N:=19) func298 rfl ntmps298 rfl fun F=>?_
 haveI hRI:∀ (H:List aa) [bf H A],aw W H v ej 1 xs:=fun H h=>⟨hr.at h.has⟩
 show aq _ _ _ _ _ _ [A,F]
 refine J 14 ?_
 refine .bn (X:=Nat) [4,5,8,9,10,11,12,13,14,15,16,17,18] (fun k=>xs.length-k) (fun k=>k≤xs.length∧idxP p xs 0=idxP p (xs.drop k) k) (fun k=>[(8,some (.int .i64 (k:Int)))]) (fun k=>[A,F]) 0 ?_ ?_ ?_ ?_
 ·exact⟨Nat.zero_le _,by simp⟩
 ·exact⟨rfl,trivial⟩
 ·exact fun w s=>ax.kept .auto w s
 rintro k ⟨hk,hn⟩
 refine JD 6 (fun h9=>?_) fun h9=>?_
 ·refine J 15 ?_
  obtain⟨x,hx⟩:=ak (show k<xs.length by omega)
  refine J 2 ?_
  refine .aj rfl (af.jU rfl rfl hg rfl (hf x (List.mem_of_getElem? hx)) .auto) ?_
  rintro _ _ ⟨⟨⟩, -,rfl,rfl⟩
  refine JD 2 (fun h16=>?_) fun h16=>?_
  ·refine J 12 ?_
   refine .aG rfl rfl fun w s=>⟨(),?_,trivial,ai .auto s⟩
   rw[hn,iy hx h16]
  ·refine J 7 ?_
   refine .aL (k+1) .auto rfl ?_ ?_ ?_ ?_
   ·first | omega | (dsimp only;omega)
   ·exact⟨by omega,hn.trans (gA hx h16)⟩
   ·exact⟨rfl,trivial⟩
   ·exact fun w s=>ax.kept .auto w s
 ·refine J 11 ?_
  refine .aG rfl rfl fun w s=>⟨(),?_,trivial,ai .auto s⟩
  rw[hn,iz (by omega)]
theorem u7{W:World}{A:aa}{v:Value}{xs:List (Value×List eS)}{p:(Value×List eS)→Bool}{g:Nat}{c:Value}(hr:Rd W [A] ej 1 v xs)(hl:xs.length≤1000000000)(hg:∀ args w,(callFunc g args).run Tryz.prog w = .ok (.enter g args) w)(hf:∀ x∈xs,Fn Tryz.prog W g [.agg (ej x).toArray,c] [A] Unit (fun _=>.bool (p x)) (fun _=>True) (fun _=>[A])):Fn Tryz.prog W 279 [v,.func (.func g) #[] #[c]] [A] Unit (fun _=>.bool (xs.any p)) (fun _=>True) (fun _=>[A]):=by
 refine Fn.intro (N:=9) func279 rfl ntmps279 rfl fun F=>?_
 show aq _ _ _ _ _ _ [A,F]
 refine J 9 ?_
 refine .c call298 rfl (B5 hr hl hg hf) fun _ _=>?_
 refine J 5 ?_
 refine .aG rfl rfl fun w s=>⟨(),?_,trivial,ai .auto s⟩
 rw[← iA xs 0]
theorem B6{W:World}{A:aa}{v:Value}{xs:List (Value×kz)}{p:(Value×kz)→Bool}{g:Nat}{c:Value}(hr:Rd W [A] lV 2 v xs)(hl:xs.length≤1000000000)(hg:∀ args w,(callFunc g args).run Tryz.prog w = .ok (.enter g args) w)(hf:∀ x∈xs,Fn Tryz.prog W g [.agg (lV x).toArray,c] [A] Unit (fun _=>.bool (p x)) (fun _=>True) (fun _=>[A])):Fn Tryz.prog W 299 [v,.func (.func g) #[] #[c]] [A] Unit (fun _=>.int .i64 (idxP p xs 0)) (fun _=>True) (fun _=>[A]):=by
 refine Fn.intro (N:=19) func299 rfl ntmps299 rfl fun F=>?_
 haveI hRI:∀ (H:List aa) [bf H A],aw W H v lV 2 xs:=fun H h=>⟨hr.at h.has⟩
 show aq _ _ _ _ _ _ [A,F]
 refine J 14 ?_
 refine .bn (X:=Nat) [4,5,8,9,10,11,12,13,14,15,16,17,18] (fun k=>xs.length-k) (fun k=>k≤xs.length∧idxP p xs 0=idxP p (xs.drop k) k) (fun k=>[(8,some (.int .i64 (k:Int)))]) (fun k=>[A,F]) 0 ?_ ?_ ?_ ?_
 ·exact⟨Nat.zero_le _,by simp⟩
 ·exact⟨rfl,trivial⟩
 ·exact fun w s=>ax.kept .auto w s
 rintro k ⟨hk,hn⟩
 refine JD 6 (fun h9=>?_) fun h9=>?_
 ·refine J 15 ?_
  obtain⟨x,hx⟩:=ak (show k<xs.length by omega)
  refine J 2 ?_
  refine .aj rfl (af.jU rfl rfl hg rfl (hf x (List.mem_of_getElem? hx)) .auto) ?_
  rintro _ _ ⟨⟨⟩, -,rfl,rfl⟩
  refine JD 2 (fun h16=>?_) fun h16=>?_
  ·refine J 12 ?_
   refine .aG rfl rfl fun w s=>⟨(),?_,trivial,ai .auto s⟩
   rw[hn,iy hx h16]
  ·refine J 7 ?_
   refine .aL (k+1) .auto rfl ?_ ?_ ?_ ?_
   ·first | omega | (dsimp only;omega)
   ·exact⟨by omega,hn.trans (gA hx h16)⟩
   ·exact⟨rfl,trivial⟩
   ·exact fun w s=>ax.kept .auto w s
 ·refine J 11 ?_
  refine .aG rfl rfl fun w s=>⟨(),?_,trivial,ai .auto s⟩
  rw[hn,iz (by omega)]
theorem vd{W:World}{A:aa}{v:Value}{xs:List (Value×kz)}{p:(Value×kz)→Bool}{g:Nat}{c:Value}(hr:Rd W [A] lV 2 v xs)(hl:xs.length≤1000000000)(hg:∀ args w,(callFunc g args).run Tryz.prog w = .ok (.enter g args) w)(hf:∀ x∈xs,Fn Tryz.prog W g [.agg (lV x).toArray,c] [A] Unit (fun _=>.bool (p x)) (fun _=>True) (fun _=>[A])):Fn Tryz.prog W 281 [v,.func (.func g) #[] #[c]] [A] Unit (fun _=>.bool (xs.any p)) (fun _=>True) (fun _=>[A]):=by
 refine Fn.intro (N:=9) func281 rfl ntmps281 rfl fun F=>?_
 show aq _ _ _ _ _ _ [A,F]
 refine J 9 ?_
 refine .c call299 rfl (B6 hr hl hg hf) fun _ _=>?_
 refine J 5 ?_
 refine .aG rfl rfl fun w s=>⟨(),?_,trivial,ai .auto s⟩
 rw[← iA xs 0]
end Go.SLYthlllpngkljgfaaGreat
namespace Go.SLYthlllpngkljgfaaGreat
open Go Go.RowKit Go.Proofs Go.Proofs.Tryz
attribute [local irreducible] aq aS bc bx bC Y
theorem wN{W:World}{b:Nat}{l:List (Bool×Int)}{h:Int}(hl:jo l)(h0:0≤h):Fn Tryz.prog W 249 [ptr b,.int .u64 h] [lL b l] Unit (fun _=>MJ (bz l h)) (fun _=>True) (fun _=>[lL b l]):=by
 refine Fn.intro (N:=50) func249 rfl ntmps249 rfl fun F=>?_
 show aq _ _ _ _ _ _ [lL b l,F]
 refine J 13 ?_
 refine .g (.fq (Y.rem rfl rfl (by omega)) (zt h0)) ?_
 refine JD 4 (fun h13=>?_) fun h13=>?_
 ·refine J 8 ?_
  refine .ey rfl rfl rfl fun w s=>⟨(),?_,trivial,ai .auto s⟩
  rw[vJ h13];rfl
 ·refine J 4 ?_
  refine .o1 (C:=lL b l) .auto rfl ?_
  rintro v -
  obtain⟨hl1,hl2⟩:=hl
  have hm:h % 65536<65536:=by omega
  have ho:(hh:hN h<l.length)→l[hN h]?=some (jW l (hN h)):=getD_some
  refine J 1 ?_
  refine .p (.fq (Y.rem rfl rfl (by omega)) (zt h0)) ?_
  refine .p (.gW underlying110 underlying3 rfl (by omega)) ?_
  refine .p (.fq (Y.sub rfl rfl (by omega)) (Ju h13)) ?_
  refine J 14 ?_
  apply aS.gf 10 35 25 [25,26,27,28,29,30,31,32,33,34,35] rfl
  ·intro h25
   have hlt:hN h<l.length:=by omega
   refine J 5 ?_
   refine .g (.sM (hN h) underlying193 sizeOf257 rfl rfl Rd.s rfl hlt) ?_
   refine J 1 ?_
   refine .g (.ld rfl (Cell.KH Rd.s (ho (by omega)) (by rfl))) ?_
   exact JS 3
  ·intro h25
   exact JS 11
  refine J 1 ?_
  apply aS.iw 12 48 36 [36,37,38,39,40,41,42,43,44,45,46,47,48] rfl
  ·intro h36
   simp only[Bool.or_eq_false_iff,decide_eq_false_iff_not] at h36
   have hlt:hN h<l.length:=by omega
   have hob:=hl2 _ (List.mem_of_getElem? (ho hlt))
   refine J 5 ?_
   refine .g (.sM (hN h) underlying193 sizeOf257 rfl rfl Rd.s rfl hlt) ?_
   refine .g (.la rfl (Cells.rd Rd.s (ho (by omega)))) ?_
   refine J 1 ?_
   refine .cg call172 rfl (rz (o:=jW l (hN h)) (n:=hN h) (by omega) (by omega)) fun _ _=>?_
   exact JS 4
  ·intro h36
   exact JS 13
  refine JD 2 (fun h48=>?_) fun h48=>?_
  ·refine J 8 ?_
   refine .ey rfl rfl rfl fun w s=>⟨(),?_,trivial,ai .auto s⟩
   rw[find_eq h13,if_pos (by simpa using h48)];rfl
  ·refine J 10 ?_
   refine .ey rfl rfl rfl fun w s=>⟨(),?_,trivial,ai .auto s⟩
   rw[find_eq h13,if_neg (by simpa using h48)];rfl
theorem Fb{W:World}{b:Nat}{l:List (Bool×Int)}{h:Int}(hl:jo l)(h0:0≤h):Fn Tryz.prog W 228 [ptr b,.int .u64 h] [lL b l] Int (fun e=>.int .i64 e) (fun _=>True) (fun _=>[lL b (slotFreed l h)]):=by
 refine Fn.intro (N:=22) func228 rfl ntmps228 rfl fun F=>?_
 show aq _ _ _ _ _ _ [lL b l,F]
 refine J 9 ?_
 refine .c call249 rfl (wN hl h0) fun _ _=>?_
 refine JD 14 (fun h14=>?_) fun h14=>?_
 ·refine J 7 ?_
  rw[Bm (show bz l h=none from by cases e:bz l h with
   | none=>rfl
   | some n=>rw[e] at h14;cases h14)]
  refine .aG rfl rfl fun w s=>⟨3,?_,trivial,ai .auto s⟩
  rfl
 ·refine J 4 ?_
  refine .o1 (C:=lL b l) .auto rfl ?_
  rintro v -
  obtain⟨n,hn⟩:∃ n,bz l h=some n:=by cases e:bz l h with
   | none=>rw[e] at h14;cases h14
   | some n=>exact⟨n,rfl⟩
  obtain⟨hlt, -⟩:=CU hn
  have ho:l[n]?=some (jW l n):=getD_some hlt
  obtain⟨u,tk,hut⟩:∃ u tk,jW l n=(u,tk):=⟨_,_,rfl⟩
  rw[hut] at ho
  refine J 5 ?_
  refine .p (.sM n underlying193 sizeOf257 rfl (by rw[hn];rfl) Rd.s rfl hlt) ?_
  refine J 1 ?_
  refine .aj rfl (af.eG (x':=(false,tk)) rfl rfl sizeOf4 rfl ho (by decide) rfl .auto) ?_
  rintro _ _ ⟨rfl,rfl⟩
  refine J 8 ?_
  rw[tn hn,hut]
  refine .aG rfl rfl fun w s=>⟨0,?_,trivial,ai .auto s⟩
  rfl
theorem Nb{W:World}{A:aa}{x:eS}{c:Nat}{who:Int}:Fn Tryz.prog W 297 [.agg (dn x).toArray,ptr c] [seps [arr c 0 [.int .i64 who],A]] Unit (fun _=>.bool (decide (x.who=who))) (fun _=>True) (fun _=>[seps [arr c 0 [.int .i64 who],A]]):=by
 refine Fn.intro (N:=8) func297 rfl ntmps297 rfl fun F=>?_
 show aq _ _ _ _ _ _ [seps [arr c 0 [.int .i64 who],A],F]
 refine .dq .auto ?_
 refine J 2 ?_
 refine .aj rfl (af.box rfl rfl rfl) ?_
 rintro _ _ ⟨b2,rfl,rfl⟩
 exact JR 13 ()
theorem yp{W:World}{A:aa}{b:Nat}{u:Value}{cs:List Value}{l:List eS}{who:Int}(hr:Rd W [A] dn 2 u l)(hl:l.length≤1000000):Fn Tryz.prog W 278 [ptr b,.int .i64 who] [arr b 0 (u::cs),A] Unit (fun _=>.bool (lI l who)) (fun _=>True) (fun _=>[arr b 0 (u::cs),A]):=by
 refine Fn.intro (N:=11) func278 rfl ntmps278 rfl fun F=>?_
 show aq _ _ _ _ _ _ [arr b 0 (u::cs),A,F]
 refine J 2 ?_
 refine .aj rfl (af.box rfl rfl rfl) ?_
 rintro _ _ ⟨b3,rfl,rfl⟩
 refine J 9 ?_
 refine .p (.makeFunc rfl rfl) ?_
 refine .c call296 rfl (uX (A:=seps [arr b3 0 [.int .i64 who],A]) (p:=fun w=>decide (w.who=who)) (Rd.ez (Rd.at hr (.there .here))) (by omega) call297 (fun x _=>Nb)) fun _ _=>?_
 refine .dq .auto ?_
 exact JR 4 ()
theorem Il{W:World}{A:aa}{x:Value×eI}{c:Nat}{who:Int}(hr:Rd W [A] dn 2 x.1 x.2.wait)(hl:x.2.wait.length≤1000000):Fn Tryz.prog W 277 [.agg (lM x).toArray,ptr c] [seps [arr c 0 [.int .i64 who],A]] Unit (fun _=>.bool (lI x.2.wait who)) (fun _=>True) (fun _=>[seps [arr c 0 [.int .i64 who],A]]):=by
 refine Fn.intro (N:=7) func277 rfl ntmps277 rfl fun F=>?_
 show aq _ _ _ _ _ _ [seps [arr c 0 [.int .i64 who],A],F]
 refine .dq .auto ?_
 refine J 2 ?_
 refine .aj rfl (af.box rfl rfl rfl) ?_
 rintro _ _ ⟨b2,rfl,rfl⟩
 refine .mem (H':=[arr b2 0 (lM x),arr c 0 [.int .i64 who],A,F]) (fun w s=>s) ?_
 refine J 7 ?_
 refine .c call278 rfl (yp hr hl) fun _ _=>?_
 exact JR 4 ()
theorem Im{W:World}{A:aa}{x:Value×List eS}{c:Nat}{who:Int}(hr:Rd W [A] dn 2 x.1 x.2)(hl:x.2.length≤1000000):Fn Tryz.prog W 280 [.agg (ej x).toArray,ptr c] [seps [arr c 0 [.int .i64 who],A]] Unit (fun _=>.bool (lI x.2 who)) (fun _=>True) (fun _=>[seps [arr c 0 [.int .i64 who],A]]):=by
 refine Fn.intro (N:=6) func280 rfl ntmps280 rfl fun F=>?_
 show aq _ _ _ _ _ _ [seps [arr c 0 [.int .i64 who],A],F]
 refine .dq .auto ?_
 refine J 2 ?_
 refine .aj rfl (af.box rfl rfl rfl) ?_
 rintro _ _ ⟨b2,rfl,rfl⟩
 refine .mem (H':=[arr b2 0 (ej x),arr c 0 [.int .i64 who],A,F]) (fun w s=>s) ?_
 refine J 6 ?_
 refine .c call278 rfl (yp hr hl) fun _ _=>?_
 exact JR 4 ()
theorem Io{W:World}{A:aa}{x:Value×kz}{c:Nat}{who:Int}(hr:Rd W [A] dn 2 x.1 x.2.wait)(hl:x.2.wait.length≤1000000):Fn Tryz.prog W 282 [.agg (lV x).toArray,ptr c] [seps [arr c 0 [.int .i64 who],A]] Unit (fun _=>.bool (lI x.2.wait who)) (fun _=>True) (fun _=>[seps [arr c 0 [.int .i64 who],A]]):=by
 refine Fn.intro (N:=7) func282 rfl ntmps282 rfl fun F=>?_
 show aq _ _ _ _ _ _ [seps [arr c 0 [.int .i64 who],A],F]
 refine .dq .auto ?_
 refine J 2 ?_
 refine .aj rfl (af.box rfl rfl rfl) ?_
 rintro _ _ ⟨b2,rfl,rfl⟩
 refine .mem (H':=[arr b2 0 (lV x),arr c 0 [.int .i64 who],A,F]) (fun w s=>s) ?_
 refine J 7 ?_
 refine .c call278 rfl (yp hr hl) fun _ _=>?_
 exact JR 4 ()
theorem oh{W:World}{b:Nat}{g:Gates}{who:Int}{vm vc vs:Value}(hg:gO g):Fn Tryz.prog W 255 [ptr b,.int .i64 who] [arr b 0 [vm,vc,vs],dY vm g.dh,iu vc g.gZ,fw vs g.er] Unit (fun _=>.bool (g.waits who)) (fun _=>True) (fun _=>[arr b 0 [vm,vc,vs],dY vm g.dh,iu vc g.gZ,fw vs g.er]):=by
 refine Fn.intro (N:=27) func255 rfl ntmps255 rfl fun F=>?_
 show aq _ _ _ _ _ _ [arr b 0 [vm,vc,vs],dY vm g.dh,iu vc g.gZ,fw vs g.er,F]
 refine .o1 (C:=dY vm g.dh) .auto rfl ?_
 rintro xm hxm
 refine .o1 (C:=iu vc g.gZ) .auto rfl ?_
 rintro xc hxc
 refine .o1 (C:=fw vs g.er) .auto rfl ?_
 rintro xs hxs
 have hlm:=aE hxm
 have hlc:=aE hxc
 have hls:=aE hxs
 have hm2:∀ x∈xm,x.2.wait.length≤1000000:=fun x hx=>hg.mw _ (hxm ▸ List.mem_map_of_mem hx)
 have hc2:∀ x∈xc,x.2.length≤1000000:=fun x hx=>hg.cw _ (hxc ▸ List.mem_map_of_mem hx)
 have hs2:∀ x∈xs,x.2.wait.length≤1000000:=fun x hx=>hg.sw _ (hxs ▸ List.mem_map_of_mem hx)
 obtain⟨hg1,hg2,hg3, -, -, -⟩:=hg
 refine J 2 ?_
 refine .aj rfl (af.box rfl rfl rfl) ?_
 rintro _ _ ⟨b3,rfl,rfl⟩
 refine J 9 ?_
 refine .p (.makeFunc rfl rfl) ?_
 refine .c call276 rfl (u3 (A:=seps [arr b3 0 [.int .i64 who],seps [sl lM 3 vm xm,aD (fun x=>sl dn 2 x.1 x.2.wait) xm]]) (p:=fun x=>lI x.2.wait who) (Rd.ez (Rd.at (Rd.ez (Rd.sl .here)) (.there .here))) (by omega) call277 (fun x hx=>Il (Rd.ez (xH (f:=fun x:Value×eI=>x.1) (g:=fun x=>x.2.wait) hx (.there .here))) (hm2 x hx))) fun _ _=>?_
 refine .dq .auto ?_
 refine .dq .auto ?_
 refine J 1 ?_
 apply aS.iw 7 18 11 [11,12,13,14,15,16,17,18] rfl
 ·intro h11
  refine J 4 ?_
  refine .g (.makeFunc rfl rfl) ?_
  refine .cg call279 rfl (u7 (A:=seps [arr b3 0 [.int .i64 who],seps [sl ej 1 vc xc,aD (fun x=>sl dn 2 x.1 x.2) xc]]) (p:=fun x=>lI x.2 who) (Rd.ez (Rd.at (Rd.ez (Rd.sl .here)) (.there .here))) (by omega) call280 (fun x hx=>Im (Rd.ez (xH (f:=fun x:Value×List eS=>x.1) (g:=fun x=>x.2) hx (.there .here))) (hc2 x hx))) fun _ _=>?_
  refine .dq .auto ?_
  refine .dq .auto ?_
  exact JS 2
 ·intro h11
  exact JS 8
 refine J 1 ?_
 apply aS.iw 7 26 19 [19,20,21,22,23,24,25,26] rfl
 ·intro h19
  refine J 4 ?_
  refine .g (.makeFunc rfl rfl) ?_
  refine .cg call281 rfl (vd (A:=seps [arr b3 0 [.int .i64 who],seps [sl lV 2 vs xs,aD (fun x=>sl dn 2 x.1 x.2.wait) xs]]) (p:=fun x=>lI x.2.wait who) (Rd.ez (Rd.at (Rd.ez (Rd.sl .here)) (.there .here))) (by omega) call282 (fun x hx=>Io (Rd.ez (xH (f:=fun x:Value×kz=>x.1) (g:=fun x=>x.2.wait) hx (.there .here))) (hs2 x hx))) fun _ _=>?_
  refine .dq .auto ?_
  refine .dq .auto ?_
  exact JS 2
 ·intro h19
  exact JS 8
 refine J 4 ?_
 refine .aG rfl rfl fun w s=>⟨(),?_,trivial,ai .auto s⟩
 exact Lb (GJ hxm hxc hxs)
theorem ln{W:World}{b:Nat}{l:List (eI)}{m:Int}{vm vc vs:Value}:Fn Tryz.prog W 254 [ptr b,.int .i64 m] [arr b 0 [vm,vc,vs],dY vm l] Unit (fun _=>KJ vm l.length 3 m) (fun _=>True) (fun _=>[arr b 0 [vm,vc,vs],dY vm l]):=by
 refine Fn.intro (N:=26) func254 rfl ntmps254 rfl fun F=>?_
 show aq _ _ _ _ _ _ [arr b 0 [vm,vc,vs],dY vm l,F]
 refine .o1 (C:=dY vm l) .auto rfl ?_
 rintro xs hxs
 have hl:=aE hxs
 refine J 15 ?_
 apply aS.gf 8 19 11 [11,12,13,14,15,16,17,18,19] rfl
 ·intro h11
  exact JS 9
 ·intro h11
  exact JS 9
 refine JD 2 (fun h19=>?_) fun h19=>?_
 ·simp only[Bool.or_eq_true,decide_eq_true_eq] at h19
  refine J 7 ?_
  refine .aG rfl rfl fun w s=>⟨(),?_,trivial,ai .auto s⟩
  rw[rU (by omega)]
 ·simp only[Bool.or_eq_false_iff,decide_eq_false_iff_not] at h19
  refine J 9 ?_
  refine .p (.ix m.toNat rfl rfl (by omega) (by omega)) ?_
  refine J 4 ?_
  refine .aG rfl rfl fun w s=>⟨(),?_,trivial,ai .auto s⟩
  rw[eY (by omega)]
theorem wO{W:World}{b:Nat}{l:List (List eS)}{m:Int}{vm vc vs:Value}:Fn Tryz.prog W 238 [ptr b,.int .i64 m] [arr b 0 [vm,vc,vs],iu vc l] Unit (fun _=>KJ vc l.length 1 m) (fun _=>True) (fun _=>[arr b 0 [vm,vc,vs],iu vc l]):=by
 refine Fn.intro (N:=26) func238 rfl ntmps238 rfl fun F=>?_
 show aq _ _ _ _ _ _ [arr b 0 [vm,vc,vs],iu vc l,F]
 refine .o1 (C:=iu vc l) .auto rfl ?_
 rintro xs hxs
 have hl:=aE hxs
 refine J 15 ?_
 apply aS.gf 8 19 11 [11,12,13,14,15,16,17,18,19] rfl
 ·intro h11
  exact JS 9
 ·intro h11
  exact JS 9
 refine JD 2 (fun h19=>?_) fun h19=>?_
 ·simp only[Bool.or_eq_true,decide_eq_true_eq] at h19
  refine J 7 ?_
  refine .aG rfl rfl fun w s=>⟨(),?_,trivial,ai .auto s⟩
  rw[rU (by omega)]
 ·simp only[Bool.or_eq_false_iff,decide_eq_false_iff_not] at h19
  refine J 9 ?_
  refine .p (.ix m.toNat rfl rfl (by omega) (by omega)) ?_
  refine J 4 ?_
  refine .aG rfl rfl fun w s=>⟨(),?_,trivial,ai .auto s⟩
  rw[eY (by omega)]
theorem Ak{W:World}{b:Nat}{l:List (kz)}{m:Int}{vm vc vs:Value}:Fn Tryz.prog W 261 [ptr b,.int .i64 m] [arr b 0 [vm,vc,vs],fw vs l] Unit (fun _=>KJ vs l.length 2 m) (fun _=>True) (fun _=>[arr b 0 [vm,vc,vs],fw vs l]):=by
 refine Fn.intro (N:=26) func261 rfl ntmps261 rfl fun F=>?_
 show aq _ _ _ _ _ _ [arr b 0 [vm,vc,vs],fw vs l,F]
 refine .o1 (C:=fw vs l) .auto rfl ?_
 rintro xs hxs
 have hl:=aE hxs
 refine J 15 ?_
 apply aS.gf 8 19 11 [11,12,13,14,15,16,17,18,19] rfl
 ·intro h11
  exact JS 9
 ·intro h11
  exact JS 9
 refine JD 2 (fun h19=>?_) fun h19=>?_
 ·simp only[Bool.or_eq_true,decide_eq_true_eq] at h19
  refine J 7 ?_
  refine .aG rfl rfl fun w s=>⟨(),?_,trivial,ai .auto s⟩
  rw[rU (by omega)]
 ·simp only[Bool.or_eq_false_iff,decide_eq_false_iff_not] at h19
  refine J 9 ?_
  refine .p (.ix m.toNat rfl rfl (by omega) (by omega)) ?_
  refine J 4 ?_
  refine .aG rfl rfl fun w s=>⟨(),?_,trivial,ai .auto s⟩
  rw[eY (by omega)]
theorem yq{W:World}{b o:Nat}{l:List eS}{x:eS}(hl:l.length≤100000000):Fn Tryz.prog W 258 [.pointer (some ⟨b,o,none⟩),.agg (dn x).toArray] [iL b o l] Unit (fun _=>.tuple #[]) (fun _=>True) (fun _=>[iL b o (l++[x])]):=by
 refine Fn.intro (N:=14) func258 rfl ntmps258 rfl fun F=>?_
 show aq _ _ _ _ _ _ [iL b o l,F]
 refine .o1 (C:=iL b o l) .auto rfl ?_
 rintro v -
 refine J 2 ?_
 refine .aj rfl (af.box rfl rfl rfl) ?_
 rintro _ _ ⟨b3,rfl,rfl⟩
 refine .mem (H':=[arr b3 0 (dn x),arr b o [v],sl dn 2 v l,F]) (fun w s=>s) ?_
 refine J 2 ?_
 refine .draw [arr b o [v]] [0,0,0,0,0,1,2,2,1,1,3] rfl (by kernel_rfl) ?_
 refine J 6 ?_
 refine .d2 rfl Kept.auto (af.gI 324 rfl rfl (by kernel_rfl)) (by rintro _ _ ⟨b10,rfl,rfl⟩;exact Kept.auto) ?_
 rintro _ _ ⟨b10,rfl,rfl⟩
 refine .mem (H':=[arr b10 0 (dn x),arr b3 0 (dn x),arr b o [v],sl dn 2 v l,F]) (fun w s=>s) ?_
 refine .d2 rfl Kept.auto (af.gg (enc:=dn) (k:=2) x rfl underlying202 underlying202 typeInfo324 rfl rfl rfl (by decide) rfl rfl rfl .auto rfl .auto (by omega) rfl) (by rintro _ _ ⟨v11,rfl,rfl⟩;exact Kept.auto) ?_
 rintro _ _ ⟨v11,rfl,rfl⟩
 refine J 2 ?_
 refine .d3 rfl (af.ME sizeOf202 rfl rfl rfl) ?_
 rintro _ _ ⟨rfl,rfl⟩
 exact JR 1 ()
theorem uk{W:World}{b o:Nat}{l:List eS}{c:Int}(hl:l.length≤1000000):Fn Tryz.prog W 239 [.pointer (some ⟨b,o,none⟩),.int .i64 c] [iL b o l] Unit (fun _=>.tuple #[.agg (dn (aP l c).1).toArray,.bool (aP l c).2.1]) (fun _=>True) (fun _=>[iL b o (aP l c).2.2]):=by
 refine Fn.intro (N:=43) func239 rfl ntmps239 rfl fun F=>?_
 show aq _ _ _ _ _ _ [iL b o l,F]
 refine .o1 (C:=iL b o l) .auto rfl ?_
 rintro v -
 refine J 2 ?_
 refine .aj rfl (af.alloc rfl zeroValue324 rfl) ?_
 rintro _ _ ⟨b4,rfl,rfl⟩
 refine JD 20 (fun h15=>?_) fun h15=>?_
 ·refine J 2 ?_
  refine .p (.lR ([(.int .i64 0),(.int .i64 0)]) (by kernel_rfl)) ?_
  refine J 6 ?_
  rw[xI (show l.length=0 by omega)]
  refine .fT rfl rfl isAgg324 (by exact sizeOf324) Cells.a rfl fun w s=>⟨(),?_,trivial,ai .auto s⟩
  rfl
 ·refine J 4 ?_
  have hpk:pick c l.length<l.length:=kN (by omega)
  refine J 2 ?_
  refine .p (.rem rfl rfl (by omega)) ?_
  refine J 1 ?_
  refine .p (.add rfl rfl (CV (by omega) (by omega))) ?_
  refine J 1 ?_
  refine .p (.fq (Y.rem rfl rfl (by omega)) (oN (by omega))) ?_
  refine J 10 ?_
  refine .p (.sM (pick c l.length) underlying202 sizeOf324 rfl rfl Rd.s rfl hpk) ?_
  refine .p (.la rfl (Cells.rd Rd.s (getD_some (d:=⟨0,0⟩) hpk))) ?_
  refine .aj rfl (af.alloc rfl zeroValue324 rfl) ?_
  rintro _ _ ⟨b8,rfl,rfl⟩
  refine J 13 ?_
  refine .c call259 rfl (Ka hpk (by omega)) fun u39 _=>?_
  refine J 2 ?_
  refine .aj rfl (af.ME sizeOf202 rfl rfl rfl) ?_
  rintro _ _ ⟨rfl,rfl⟩
  refine J 10 ?_
  rw[rT (show ¬l.length=0 by omega)]
  refine .fT rfl rfl isAgg324 (by exact sizeOf324) Cells.a rfl fun w s=>⟨(),?_,trivial,ai .auto s⟩
  rfl
theorem um{W:World}{b o:Nat}{m:eI}{who:Int}:Fn Tryz.prog W 256 [.pointer (some ⟨b,o,none⟩),.int .i64 who] [eb b o m] Unit (fun _=>.bool (m.is who)) (fun _=>True) (fun _=>[eb b o m]):=by
 refine Fn.intro (N:=17) func256 rfl ntmps256 rfl fun F=>?_
 show aq _ _ _ _ _ _ [eb b o m,F]
 refine .o1 (C:=eb b o m) .auto rfl ?_
 rintro u -
 refine J 12 ?_
 apply aS.gd 7 16 9 [9,10,11,12,13,14,15,16] rfl
 ·intro h9
  exact JS 8
 ·intro h9
  exact JS 8
 exact JR 4 ()
theorem uo{W:World}{b o:Nat}{m:eI}{who:Int}(hl:m.wait.length≤100000000):Fn Tryz.prog W 240 [.pointer (some ⟨b,o,none⟩),.int .i64 who] [eb b o m] Unit (fun _=>.bool (m.lock who).1) (fun _=>True) (fun _=>[eb b o (m.lock who).2]):=by
 refine Fn.intro (N:=22) func240 rfl ntmps240 rfl fun F=>?_
 show aq _ _ _ _ _ _ [eb b o m,F]
 refine .o1 (C:=eb b o m) .auto rfl ?_
 rintro u -
 refine JD 14 (fun h8=>?_) fun h8=>?_
 ·refine J 6 ?_
  refine .p (.hG (fun v1=>[v1,(.int .i64 0)]) rfl (by kernel_rfl)) ?_
  refine .fr .auto (oP (b:=b) (o:=o) (u:=u)) ?_
  refine .c call258 rfl (yq (x:=⟨who,0⟩) hl) fun _ _=>?_
  refine J 9 ?_
  rw[xJ h8]
  refine .to (A:=eb b o {m with wait:=m.wait++[⟨who,0⟩] }) (Bs:=[iL b o (m.wait++[⟨who,0⟩]),arr b (o+1) [.bool m.held,.int .i64 m.owner]]) .auto (CT (m:={m with wait:=m.wait++[⟨who,0⟩] })) ?_
  exact JR 0 ()
 ·refine J 9 ?_
  refine .aj rfl (af.Nh sizeOf4 rfl rfl rfl rfl) ?_
  rintro _ _ ⟨rfl,rfl⟩
  refine J 2 ?_
  refine .aj rfl (af.Nh sizeOf3 rfl rfl rfl rfl) ?_
  rintro _ _ ⟨rfl,rfl⟩
  refine J 8 ?_
  rw[xK h8]
  exact JR 0 ()
theorem pT{W:World}{b o:Nat}{m:eI}{c:Int}(hl:m.wait.length≤1000000):Fn Tryz.prog W 257 [.pointer (some ⟨b,o,none⟩),.int .i64 c] [eb b o m] Unit (fun _=>.tuple #[.int .i64 (m.unlock c).1,.bool (m.unlock c).2.1]) (fun _=>True) (fun _=>[eb b o (m.unlock c).2.2]):=by
 refine Fn.intro (N:=28) func257 rfl ntmps257 rfl fun F=>?_
 show aq _ _ _ _ _ _ [eb b o m,F]
 refine .o1 (C:=eb b o m) .auto rfl ?_
 rintro u -
 refine J 12 ?_
 refine .fr .auto (oP (b:=b) (o:=o) (u:=u)) ?_
 refine .c call239 rfl (uk hl) fun _ _=>?_
 refine J 3 ?_
 refine .aj rfl (af.alloc rfl zeroValue324 rfl) ?_
 rintro _ _ ⟨b6,rfl,rfl⟩
 refine J 5 ?_
 refine .draw [arr b6 0 (dn (aP m.wait c).1)] [1,0,1,0,0,1,1,2,1,1,3] rfl (by kernel_rfl) ?_
 refine J 7 ?_
 refine .d2 rfl Kept.auto (af.Nq sizeOf4 rfl rfl rfl rfl) (by rintro _ _ ⟨rfl,rfl⟩;exact Kept.auto) ?_
 rintro _ _ ⟨rfl,rfl⟩
 refine J 2 ?_
 refine .d3 rfl (af.Nh (i:=1) sizeOf3 rfl rfl rfl rfl) ?_
 rintro _ _ ⟨rfl,rfl⟩
 refine J 12 ?_
 refine .to (A:=eb b o (m.unlock c).2.2) (Bs:=[iL b o (aP m.wait c).2.2,arr b (o+1) [.bool (aP m.wait c).2.1,.int .i64 (aP m.wait c).1.who]]) .auto (CT (m:=(m.unlock c).2.2)) ?_
 exact JR 0 ()
end Go.SLYthlllpngkljgfaaGreat
namespace Go.SLYthlllpngkljgfaaGreat
open Go Go.RowKit Go.Proofs Go.Proofs.Tryz
attribute [local irreducible] aq aS bc bx bC Y
theorem DB{W:World}{b:Nat}{ps:List (Option Nat)}{s:Spc}{n:Int}:Fn Tryz.prog W 178 [ptr b,.int .i64 n] [cB b ps s] Unit (fun _=>dO (Bt ps n)) (fun _=>True) (fun _=>[cB b ps s]):=by
 refine Fn.intro (N:=21) func178 rfl ntmps178 rfl fun F=>?_
 show aq _ _ _ _ _ _ [cB b ps s,F]
 refine .jA (C:=cB b ps s) .auto rfl ?_
 rintro fv sv pv bt vm bg vt bk bw vr -
 refine J 15 ?_
 apply aS.gf 3 14 11 [11,12,13,14] rfl
 ·intro h11
  exact JS 4
 ·intro h11
  exact JS 4
 refine JD 2 (fun h14=>?_) fun h14=>?_
 ·simp only[Bool.or_eq_true,decide_eq_true_eq] at h14
  refine J 7 ?_
  refine .aG rfl rfl fun w s=>⟨(),?_,trivial,ai .auto s⟩
  rw[Bt,if_neg (by omega)];rfl
 ·simp only[Bool.or_eq_false_iff,decide_eq_false_iff_not] at h14
  refine J 8 ?_
  refine .p (.dF n.toNat underlying134 sizeOf133 rfl rfl (by omega) (by omega)) ?_
  refine .p (.ld rfl (Cell.a (by rw[Nat.mul_one];exact eJ (by omega)))) ?_
  refine J 4 ?_
  refine .aG rfl rfl fun w s=>⟨(),?_,trivial,ai .auto s⟩
  rw[Bt,if_pos (by omega)]
theorem nh{W:World}{b p:Nat}{ps:List (Option Nat)}{s:Spc}{n:Nat}{t:bE}(hp:ps[n]?=some (some p))(ht:s.aF[n]?=some (some t))(hl:s.aF.length=16)(hpl:ps.length=16)(hT:jo s.table)(hh:0≤t.handle):Fn Tryz.prog W 206 [ptr b,.int .i64 (n:Int)] [cB b ps s] Unit (fun _=>.tuple #[]) (fun _=>True) (fun _=>[cB b (ps.set n none) (s.free n)]):=by
 refine Fn.intro (N:=23) func206 rfl ntmps206 rfl fun F=>?_
 show aq _ _ _ _ _ _ [cB b ps s,F]
 refine .jA (C:=cB b ps s) .auto rfl ?_
 rintro fv sv pv bt vm bg vt bk bw vr -
 have hn16:n<16:=hl ▸ (List.getElem?_eq_some_iff.1 ht).1
 refine .fr .auto (bQ hp ht) ?_
 refine J 1 ?_
 refine .draw [arr b 0 (fo fv sv pv s.eT bt ps vm bg vt bk bw vr),arr p 0 (bj t)] [1,1,1,1,1,1,1,1,1,1,1,1,1,3] rfl (by kernel_rfl) ?_
 refine J 8 ?_
 refine .p (.dF n underlying134 sizeOf133 rfl rfl rfl hn16) ?_
 refine .p (.ld rfl (Cell.a (by rw[Nat.mul_one,eJ hn16,bA hp]))) ?_
 refine J 3 ?_
 refine .c call228 rfl (Fb hT hh) fun e _=>?_
 refine J 7 ?_
 refine .p (.dF n underlying134 sizeOf133 rfl rfl rfl hn16) ?_
 refine .aj rfl (af.st sizeOf133 rfl rfl rfl (Nat.blt_eq.mpr (by show 9+n * 1<31;omega))) ?_
 rintro _ _ ⟨rfl,rfl⟩
 rw[Nat.mul_one,show Value.pointer none=dO none from rfl,zf hn16 hpl]
 refine J 1 ?_
 rw[show s.free n = {s with table:=slotFreed s.table t.handle,aF:=s.aF.set n none } from by unfold Spc.free;rw[dM ht]]
 exact JR 0 ()
theorem jy{W:World}{bd b p:Nat}{ps:List (Option Nat)}{d:Dng}{t:bE}(hp:ps[d.n]?=some (some p))(ht:d.s.aF[d.n]?=some (some t)){x y e:Int}{fin:Bool}(hr:d.s.av.length≤1000000000):Fn Tryz.prog W 184 [ptr bd,.int .u64 x,.int .u64 y,.int .i64 e,.bool fin] [bq bd b p ps d] Unit (fun _=>.tuple #[]) (fun _=>True) (fun _=>[bq bd b p ps (d.tell x y e fin)]):=by
 refine Fn.intro (N:=42) func184 rfl ntmps184 rfl fun F=>?_
 show aq _ _ _ _ _ _ [bq bd b p ps d,F]
 refine .o2 (C:=bq bd b p ps d) .auto rfl ?_
 rintro vw ve -
 refine .jA (C:=cB b ps d.s) .auto rfl ?_
 rintro fv sv pv bt vm bg vt bk bw vr -
 refine .fr .auto (bQ hp ht) ?_
 refine .draw [arr bd 0 (ee b p d vw ve),arr b 0 (fo fv sv pv d.s.eT bt ps vm bg vt bk bw vr),arr p 0 (bj t)] [0,0,0,0,0,0,0,0,0,0,0,1,1,1,1,1,1,1,1,1,1,1,1,1,1,1,1,1,2,2,1,1,3] rfl (by kernel_rfl) ?_
 refine J 27 ?_
 refine .p (.MB (fun v1 v2 v3 v4 v5 v6=>[v1,v2,v3,v4,v5,v6]) rfl rfl rfl rfl rfl rfl (by kernel_rfl)) ?_
 refine .d2 rfl Kept.auto (af.gI 115 rfl rfl (by kernel_rfl)) (by rintro _ _ ⟨b38,rfl,rfl⟩;exact Kept.auto) ?_
 rintro _ _ ⟨b38,rfl,rfl⟩
 refine .d2 rfl Kept.auto (af.gg (enc:=cP) (k:=6) (⟨t.handle,d.i.op,x,y,e,fin⟩:Rec) rfl underlying44 underlying44 typeInfo115 rfl rfl rfl (by decide) rfl rfl rfl .auto rfl .auto (by omega) rfl) (by rintro _ _ ⟨v39,rfl,rfl⟩;exact Kept.auto) ?_
 rintro _ _ ⟨v39,rfl,rfl⟩
 refine J 2 ?_
 refine .d3 rfl (af.lY sizeOf44 rfl rfl rfl) ?_
 rintro _ _ ⟨rfl,rfl⟩
 rw[oZ]
 refine J 1 ?_
 refine .to (A:=aA ps d.s.aF) (Bs:=[arr p 0 (bj t),aA (ps.set d.n none) (d.s.aF.set d.n none)]) .auto (bP hp ht) ?_
 rw[show d.tell x y e fin = {d with s:=d.s.tell ⟨t.handle,d.i.op,x,y,e,fin⟩ } from by unfold Dng.tell;rw[dc ht]]
 exact JR 0 ()
theorem cq{W:World}{bd b p:Nat}{ps:List (Option Nat)}{d:Dng}{t:bE}(hp:ps[d.n]?=some (some p))(ht:d.s.aF[d.n]?=some (some t)){x y e:Int}(hr:d.s.av.length≤1000000000)(he:0≤e∧e≤11)(hl:t.aI.length=8):Fn Tryz.prog W 210 [ptr bd,.int .u64 x,.int .u64 y,.int .i64 e] [bq bd b p ps d] Unit (fun _=>.tuple #[]) (fun _=>True) (fun _=>[bq bd b p ps (d.pass x y e)]):=by
 refine Fn.intro (N:=23) func210 rfl ntmps210 rfl fun F=>?_
 show aq _ _ _ _ _ _ [bq bd b p ps d,F]
 refine J 6 ?_
 refine .c call184 rfl (jy hp ht hr) fun _ _=>?_
 refine J 3 ?_
 have ht2:(d.tell x y e true).s.aF[d.n]?=some (some t):=ht
 refine .o2 (C:=bq bd b p ps (d.tell x y e true)) .auto rfl ?_
 rintro vw ve -
 refine .jA (C:=cB b ps (d.tell x y e true).s) .auto rfl ?_
 rintro fv sv pv bt vm bg vt bk bw vr -
 refine .fr .auto (bQ hp ht2) ?_
 refine J 3 ?_
 refine .p (.ld rfl (Cell.a (cs:=ee b p (d.tell x y e true) vw ve) rfl)) ?_
 refine J 1 ?_
 refine .p (.sP underlying25 underlying110 rfl (by omega)) ?_
 refine J 3 ?_
 refine .p (.dF 7 underlying163 sizeOf110 rfl rfl (by omega) (by omega)) ?_
 refine J 1 ?_
 rw[rX (n:=7) e (by decide) hl]
 refine J 1 ?_
 refine .to (A:=aA ps (d.s.aF.set d.n (some (t.put 7 e)))) (Bs:=[arr p 0 (bj (t.put 7 e)),aA (ps.set d.n none) ((d.tell x y e true).s.aF.set d.n none)]) .auto (cx (List.getElem?_eq_some_iff.1 ht).1 hp) ?_
 rw[show d.pass x y e=(d.tell x y e true).aV (t.put 7 e) from by unfold Dng.pass;rw[dc ht]]
 exact JR 0 ()
theorem gG{W:World}{bd b p:Nat}{ps:List (Option Nat)}{d:Dng}{t:bE}(hp:ps[d.n]?=some (some p))(ht:d.s.aF[d.n]?=some (some t)){cQ bY x y:Int}(hr:d.s.av.length≤1000000000):Fn Tryz.prog W 233 [ptr bd,.int .i64 cQ,.int .i64 bY,.int .u64 x,.int .u64 y] [bq bd b p ps d] Unit (fun _=>.tuple #[]) (fun _=>True) (fun _=>[bq bd b p ps (d.block cQ bY x y)]):=by
 refine Fn.intro (N:=43) func233 rfl ntmps233 rfl fun F=>?_
 show aq _ _ _ _ _ _ [bq bd b p ps d,F]
 refine J 5 ?_
 refine .c call184 rfl (jy hp ht hr) fun _ _=>?_
 refine J 3 ?_
 have ht2:(d.tell x y 0 false).s.aF[d.n]?=some (some t):=ht
 refine .o2 (C:=bq bd b p ps (d.tell x y 0 false)) .auto rfl ?_
 rintro vw ve -
 refine .jA (C:=cB b ps (d.tell x y 0 false).s) .auto rfl ?_
 rintro fv sv pv bt vm bg vt bk bw vr -
 refine .fr .auto (bQ hp ht2) ?_
 refine .draw [arr bd 0 (ee b p (d.tell x y 0 false) vw ve)] [1,1,1,1,1,1,1,1,1,1,1,1,1,1,1,1,1,1,0,1,1,2,1,1,2,1,1,3] rfl (by kernel_rfl) ?_
 have ht2:(d.tell x y 0 false).s.aF[d.n]?=some (some t):=ht
 refine J 22 ?_
 rw[oY]
 refine J 3 ?_
 rw[Lz]
 refine J 3 ?_
 rw[tv]
 refine J 9 ?_
 refine .to (A:=aA ps (d.s.aF.set d.n (some {t with cQ:=cQ,op:=d.i.op,bY:=bY }))) (Bs:=[arr p 0 (bj {t with cQ:=cQ,op:=d.i.op,bY:=bY }),aA (ps.set d.n none) ((d.tell x y 0 false).s.aF.set d.n none)]) .auto (cx (List.getElem?_eq_some_iff.1 ht).1 hp) ?_
 rw[show d.block cQ bY x y = {(d.tell x y 0 false).aV {t with cQ:=cQ,op:=d.i.op,bY:=bY } with out:={d.out with aR:=true } } from by unfold Dng.block;rw[dc ht]]
 exact JR 0 ()
theorem Ip{W:World}{b p:Nat}{ps:List (Option Nat)}{s:Spc}{n:Nat}{t:bE}(hp:ps[n]?=some (some p))(ht:s.aF[n]?=some (some t))(hn16:n<16)(hR:gV t){y:Int}:Fn Tryz.prog W 99 [ptr b,.int .i64 (n:Int),.int .u64 y] [cB b ps s] Unit (fun _=>.agg (cP (t.jV y)).toArray) (fun _=>True) (fun _=>[cB b ps (s.dI n y)]):=by
 refine Fn.intro (N:=50) func99 rfl ntmps99 rfl fun F=>?_
 show aq _ _ _ _ _ _ [cB b ps s,F]
 refine .jA (C:=cB b ps s) .auto rfl ?_
 rintro fv sv pv bt vm bg vt bk bw vr -
 refine .fr .auto (bQ hp ht) ?_
 have hRl:=hR.l
 have hRi:=hR.i
 refine J 2 ?_
 refine .aj rfl (af.alloc rfl zeroValue115 rfl) ?_
 rintro _ _ ⟨b6,rfl,rfl⟩
 refine J 8 ?_
 refine .p (.dF n underlying134 sizeOf133 rfl rfl rfl hn16) ?_
 refine .p (.ld rfl (Cell.a (by rw[Nat.mul_one,eJ hn16,bA hp]))) ?_
 refine J 3 ?_
 refine .FT (X:=Unit) [2,14,15,16,17,18,19,20,21,22,23,24,25,26,27,28] (fun _=>True) (fun _=>[(2,some (.int .u64 (if t.bY = -1 then 0 else y)))]) (fun _=>[arr p 0 (bj (if t.bY = -1 then t else t.put t.bY y)),aA (ps.set n none) (s.aF.set n none),arr b6 0 [.int .u64 0,.int .i64 0,.int .u64 0,.int .u64 0,.int .i64 0,.bool false],arr b 0 (fo fv sv pv s.eT bt ps vm bg vt bk bw vr),y8 fv s.eT.funcs,lL bt s.table,sl cO 1 vm s.mem,cv bg s.al,oG vt s.cc,oH bk s.bZ,nK bw s.aT,sl cP 6 vr s.av,F]) ?_ ?_
 ·refine JD 9 (fun h18=>?_) fun h18=>?_
  ·refine .draw [arr p 0 (bj t)] [1,1,1,1,1,1,1,1,1,1,3] rfl (by kernel_rfl) ?_
   refine J 9 ?_
   refine .p (.dF t.bY.toNat underlying163 sizeOf110 rfl rfl (by omega) (by omega)) ?_
   refine .d3 rfl (af.st sizeOf110 rfl rfl rfl (Nat.blt_eq.mpr (by show 2+t.bY.toNat * 1<18;omega))) ?_
   rintro _ _ ⟨rfl,rfl⟩
   rw[ju y (by omega) (by omega) hRl]
   refine J 1 ?_
   refine .nj () .auto ?_ ?_ ?_
   ·trivial
   ·rw[if_neg (by omega)];exact⟨rfl,trivial⟩
   ·rw[if_neg (by omega)];exact fun w s=>ax.kept .auto w s
  ·refine J 3 ?_
   refine .nj () .auto ?_ ?_ ?_
   ·trivial
   ·rw[if_pos (by omega)];exact⟨rfl,trivial⟩
   ·rw[if_pos (by omega)];exact fun w s=>ax.kept .auto w s
 ·rintro⟨⟩ -
  obtain⟨y1,hy1⟩:∃ y1,y1=(if t.bY = -1 then 0 else y):=⟨_,rfl⟩
  obtain⟨t1,h1⟩:∃ t1,t1=(if t.bY = -1 then t else t.put t.bY y):=⟨_,rfl⟩
  have h1l:t1.aI.length=8:=by
   rw[h1]
   split
   ·exact hRl
   ·rw[jL];exact hRl
  have h1h:t1.handle=t.handle∧t1.op=t.op:=by
   rw[h1]
   split <;> exact⟨rfl,rfl⟩
  rw[← hy1, ← h1]
  refine J 6 ?_
  refine .p (.dF 7 underlying163 sizeOf110 rfl rfl (by omega) (by omega)) ?_
  refine J 1 ?_
  rw[rX (n:=7) 0 (by decide) h1l]
  refine J 9 ?_
  rw[oY]
  refine J 3 ?_
  rw[tv]
  refine J 3 ?_
  refine .draw [arr p 0 (bj {t1.put 7 0 with cQ:=0,bY := -1 })] [1,1,1,1,1,1,1,1,1,1,3] rfl (by kernel_rfl) ?_
  refine J 9 ?_
  refine .p (.F1 (fun v1 v2 v3 v4=>[v1,v2,(.int .u64 0),v3,(.int .i64 0),v4]) rfl rfl rfl rfl (by kernel_rfl)) ?_
  refine .d3 rfl (af.iJ (by exact sizeOf115) rfl rfl rfl (by rfl)) ?_
  rintro _ _ ⟨rfl,rfl⟩
  refine J 3 ?_
  refine .to (A:=aA ps (s.aF.set n (some ({t1.put 7 0 with cQ:=0,bY := -1 })))) (Bs:=[arr p 0 (bj ({t1.put 7 0 with cQ:=0,bY := -1 })),aA (ps.set n none) (s.aF.set n none)]) .auto (cx (List.getElem?_eq_some_iff.1 ht).1 hp) ?_
  rw[show s.dI n y=s.aV n {t1.put 7 0 with cQ:=0,bY := -1 } from by unfold Spc.dI;rw[dM ht,C3 t1 h1]]
  refine .dN rfl rfl isAgg115 (by exact sizeOf115) Cells.a fun w s=>⟨(),?_,trivial,ai .auto s⟩
  show Ending.returned (Value.agg #[.int .u64 t1.handle,.int .i64 t1.op,.int .u64 0,.int .u64 y1,.int .i64 0,.bool true])=_;rw[h1h.1,h1h.2,hy1];rfl
theorem Iq{W:World}{bd b p q:Nat}{ps:List (Option Nat)}{d:Dng}{t:bE}{n:Nat}(hp:ps[n]?=some (some q))(ht:d.s.aF[n]?=some (some t))(hn16:n<16)(hR:gV t)(he:d.ends.length≤1000000)(hw:d.out.ar.length≤1000000){y:Int}:Fn Tryz.prog W 207 [ptr bd,.int .i64 (n:Int),.int .u64 y] [bq bd b p ps d] Unit (fun _=>.tuple #[]) (fun _=>True) (fun _=>[bq bd b p ps (d.cj n y)]):=by
 refine Fn.intro (N:=34) func207 rfl ntmps207 rfl fun F=>?_
 show aq _ _ _ _ _ _ [bq bd b p ps d,F]
 refine .o2 (C:=bq bd b p ps d) .auto rfl ?_
 rintro vw ve -
 refine J 1 ?_
 refine .draw [arr bd 0 (ee b p d vw ve)] [0,0,0,0,0,1,1,1,1,1,1,2,2,2,1,1,3] rfl (by kernel_rfl) ?_
 refine J 11 ?_
 refine .c2 call99 rfl (Ip hp ht hn16 hR) fun _ _=>?_
 refine .d2 rfl Kept.auto (af.gI 115 rfl rfl (by kernel_rfl)) (by rintro _ _ ⟨b18,rfl,rfl⟩;exact Kept.auto) ?_
 rintro _ _ ⟨b18,rfl,rfl⟩
 refine .d2 rfl Kept.auto (af.gg (enc:=cP) (k:=6) (t.jV y) rfl underlying44 underlying44 typeInfo115 rfl rfl rfl (by decide) rfl rfl rfl .auto rfl .auto (by omega) rfl) (by rintro _ _ ⟨v19,rfl,rfl⟩;exact Kept.auto) ?_
 rintro _ _ ⟨v19,rfl,rfl⟩
 refine J 2 ?_
 refine .d3 rfl (af.lY sizeOf44 rfl rfl rfl) ?_
 rintro _ _ ⟨rfl,rfl⟩
 refine J 10 ?_
 refine .aj rfl (af.gI 3 rfl rfl (by kernel_rfl)) ?_
 rintro _ _ ⟨b29,rfl,rfl⟩
 refine .aj rfl (af.gg (enc:=au) (k:=1) (n:Int) rfl underlying50 underlying50 typeInfo3 rfl rfl rfl (by decide) rfl rfl rfl .auto rfl .auto (by omega) rfl) ?_
 rintro _ _ ⟨v30,rfl,rfl⟩
 refine J 3 ?_
 refine .aj rfl (af.lY sizeOf50 rfl rfl rfl) ?_
 rintro _ _ ⟨rfl,rfl⟩
 refine J 1 ?_
 rw[show d.cj n y = {d with s:=d.s.dI n y,ends:=d.ends++[t.jV y],out:={d.out with ar:=d.out.ar++[(n:Int)] } } from by unfold Dng.cj;rw[dM ht]]
 exact JR 0 ()
theorem wP{W:World}{bd b p:Nat}{ps:List (Option Nat)}{d:Dng}{t:bE}(hp:ps[d.n]?=some (some p))(ht:d.s.aF[d.n]?=some (some t))(hI:0≤d.i.a∧d.i.a<8):Fn Tryz.prog W 213 [ptr bd] [bq bd b p ps d] Unit (fun _=>.int .u64 d.a) (fun _=>True) (fun _=>[bq bd b p ps d]):=by
 refine Fn.intro (N:=17) func213 rfl ntmps213 rfl fun F=>?_
 show aq _ _ _ _ _ _ [bq bd b p ps d,F]
 refine .o2 (C:=bq bd b p ps d) .auto rfl ?_
 rintro vw ve -
 refine .jA (C:=cB b ps d.s) .auto rfl ?_
 rintro fv sv pv bt vm bg vt bk bw vr -
 refine .fr .auto (bQ hp ht) ?_
 refine J 6 ?_
 refine .draw [] [1,1,1,1,1,1,1,1,1,1,1,1,1,1,1] rfl (by kernel_rfl) ?_
 refine J 12 ?_
 refine .p (.dF d.i.a.toNat underlying163 sizeOf110 rfl rfl (by omega) (by omega)) ?_
 refine .p (.ld rfl (Cell.a (mY (by omega)))) ?_
 refine J 4 ?_
 refine .to (A:=aA ps d.s.aF) (Bs:=[arr p 0 (bj t),aA (ps.set d.n none) (d.s.aF.set d.n none)]) .auto (bP hp ht) ?_
 refine .aG rfl rfl fun w s=>⟨(),?_,trivial,ai .auto s⟩
 rw[show d.a=t.aI.getD d.i.a.toNat 0 from by unfold Dng.a;rw[dc ht];rfl]
theorem KT{W:World}{bd b p:Nat}{ps:List (Option Nat)}{d:Dng}{t:bE}(hp:ps[d.n]?=some (some p))(ht:d.s.aF[d.n]?=some (some t))(hI:0≤d.i.b∧d.i.b<8):Fn Tryz.prog W 231 [ptr bd] [bq bd b p ps d] Unit (fun _=>.int .u64 d.b) (fun _=>True) (fun _=>[bq bd b p ps d]):=by
 refine Fn.intro (N:=17) func231 rfl ntmps231 rfl fun F=>?_
 show aq _ _ _ _ _ _ [bq bd b p ps d,F]
 refine .o2 (C:=bq bd b p ps d) .auto rfl ?_
 rintro vw ve -
 refine .jA (C:=cB b ps d.s) .auto rfl ?_
 rintro fv sv pv bt vm bg vt bk bw vr -
 refine .fr .auto (bQ hp ht) ?_
 refine J 6 ?_
 refine .draw [] [1,1,1,1,1,1,1,1,1,1,1,1,1,1,1] rfl (by kernel_rfl) ?_
 refine J 12 ?_
 refine .p (.dF d.i.b.toNat underlying163 sizeOf110 rfl rfl (by omega) (by omega)) ?_
 refine .p (.ld rfl (Cell.a (mY (by omega)))) ?_
 refine J 4 ?_
 refine .to (A:=aA ps d.s.aF) (Bs:=[arr p 0 (bj t),aA (ps.set d.n none) (d.s.aF.set d.n none)]) .auto (bP hp ht) ?_
 refine .aG rfl rfl fun w s=>⟨(),?_,trivial,ai .auto s⟩
 rw[show d.b=t.aI.getD d.i.b.toNat 0 from by unfold Dng.b;rw[dc ht];rfl]
theorem oo{W:World}{bd b p:Nat}{ps:List (Option Nat)}{d:Dng}(hr:d.s.av.length≤1000000000)(he:d.ends.length≤1000000):Fn Tryz.prog W 188 [ptr bd] [bq bd b p ps d] Value (fun u=>.agg (nS u d.finish.1).toArray) (fun _=>True) (fun u=>[sl au 1 u d.finish.1.ar,cB b ps d.finish.2]):=by
 refine Fn.intro (N:=25) func188 rfl ntmps188 rfl fun F=>?_
 show aq _ _ _ _ _ _ [bq bd b p ps d,F]
 refine .o2 (C:=bq bd b p ps d) .auto rfl ?_
 rintro vw ve -
 refine .jA (C:=cB b ps d.s) .auto rfl ?_
 rintro fv sv pv bt vm bg vt bk bw vr -
 refine J 2 ?_
 refine .aj rfl (af.alloc rfl zeroValue66 rfl) ?_
 rintro _ _ ⟨b2,rfl,rfl⟩
 refine J 3 ?_
 refine .draw [arr bd 0 (ee b p d vw ve),arr b 0 (fo fv sv pv d.s.eT bt ps vm bg vt bk bw vr)] [0,0,0,0,1,1,1,1,1,1,1,1,1,1,1,2,1,1,3] rfl (by kernel_rfl) ?_
 refine J 15 ?_
 refine .d2 rfl Kept.auto (af.append rfl underlying44 underlying44 typeInfo115 rfl rfl rfl (by decide) rfl rfl .auto Rd.s (by omega) (y9 _)) (by rintro _ _ ⟨v18,rfl,rfl⟩;exact Kept.auto) ?_
 rintro _ _ ⟨v18,rfl,rfl⟩
 refine J 2 ?_
 refine .d3 rfl (af.lY sizeOf44 rfl rfl rfl) ?_
 rintro _ _ ⟨rfl,rfl⟩
 rw[oZ]
 refine J 7 ?_
 refine .p (.la rfl (Cells.lQ (ds:=nS vw d.out) Cells.a rfl)) ?_
 refine .aj rfl (af.JF (vs:=[.bool d.out.aR,.bool d.out.ended,.bool d.out.yielded]) (by exact sizeOf66) rfl rfl rfl rfl) ?_
 rintro _ _ ⟨rfl,rfl⟩
 refine J 3 ?_
 refine .dN rfl rfl isAgg66 (by exact sizeOf66) Cells.a fun w s=>⟨vw,?_,trivial,ai .auto s⟩
 rfl
end Go.SLYthlllpngkljgfaaGreat
namespace Go.SLYthlllpngkljgfaaGreat
open Go Go.RowKit Go.Proofs Go.Proofs.Tryz
attribute [local irreducible] aq aS bc bx bC Y
theorem fK{W:World}{a:Int}:Fn Tryz.prog W 289 [.int .u64 a] [] Unit (fun _=>.float .f64 a.toNat) (fun _=>True) (fun _=>[]):=by
 refine Fn.intro (N:=5) func289 rfl ntmps289 rfl fun F=>?_
 show aq _ _ _ _ _ _ [F]
 refine J 8 ?_
 refine .p (.ext (e:=Extern.MathFloatBits.float64frombits) func305 rfl rfl rfl (by kernel_rfl) rfl (fun w=>rfl)) ?_
 exact JR 4 ()
theorem B7{W:World}{n:Nat}:Fn Tryz.prog W 311 [.float .f64 n] [] Unit (fun _=>.bool (kk n n != some .eq)) (fun _=>True) (fun _=>[]):=by
 refine Fn.intro (N:=6) func311 rfl ntmps311 rfl fun F=>?_
 show aq _ _ _ _ _ _ [F]
 refine J 9 ?_
 refine .p (.Nz rfl rfl (fun w=>rfl)) ?_
 exact JR 4 ()
theorem lq{W:World}{n:Nat}:Fn Tryz.prog W 294 [.float .f64 n] [] Unit (fun _=>.bool (kk n n != some .eq)) (fun _=>True) (fun _=>[]):=by
 refine Fn.intro (N:=5) func294 rfl ntmps294 rfl fun F=>?_
 show aq _ _ _ _ _ _ [F]
 refine J 8 ?_
 refine .c call311 rfl B7 fun _ _=>?_
 exact JR 4 ()
theorem kq{W:World}{n:Nat}:Fn Tryz.prog W 290 [.float .f64 n] [] Unit (fun _=>.int .u64 (jt (n:Int))) (fun _=>True) (fun _=>[]):=by
 refine Fn.intro (N:=7) func290 rfl ntmps290 rfl fun F=>?_
 show aq _ _ _ _ _ _ [F]
 refine J 9 ?_
 refine .c call294 rfl lq fun _ _=>?_
 refine JD 2 (fun h4=>?_) fun h4=>?_
 ·refine J 7 ?_
  refine .aG rfl rfl fun w s=>⟨(),?_,trivial,ai .auto s⟩
  rw[qt,if_pos h4];rfl
 ·refine J 5 ?_
  refine .p (.ext (e:=Extern.MathFloatBits.float64bits) func306 rfl rfl rfl (by kernel_rfl) rfl (fun w=>rfl)) ?_
  refine J 4 ?_
  refine .aG rfl rfl fun w s=>⟨(),?_,trivial,ai .auto s⟩
  rw[qt,if_neg (by rw[h4];simp)]
theorem Ke{W:World}{a b:Int}:Fn Tryz.prog W 267 [.int .u64 a,.int .u64 b] [] Unit (fun _=>.int .u64 (Li a b)) (fun _=>True) (fun _=>[]):=by
 refine Fn.intro (N:=11) func267 rfl ntmps267 rfl fun F=>?_
 show aq _ _ _ _ _ _ [F]
 refine J 8 ?_
 refine .c call289 rfl fK fun _ _=>?_
 refine J 1 ?_
 refine .c call289 rfl fK fun _ _=>?_
 refine .aj rfl (af.Jx (Ieee.double.add _ _) rfl rfl rfl (fun w=>rfl)) ?_
 rintro _ _ ⟨r9,hr9,rfl,rfl⟩
 refine .c call290 rfl kq fun _ _=>?_
 refine J 4 ?_
 refine .aG rfl rfl fun w s=>⟨(),?_,trivial,ai .auto s⟩
 rw[rV hr9];rfl
theorem Kf{W:World}{a b:Int}:Fn Tryz.prog W 268 [.int .u64 a,.int .u64 b] [] Unit (fun _=>.int .u64 (Lj a b)) (fun _=>True) (fun _=>[]):=by
 refine Fn.intro (N:=11) func268 rfl ntmps268 rfl fun F=>?_
 show aq _ _ _ _ _ _ [F]
 refine J 8 ?_
 refine .c call289 rfl fK fun _ _=>?_
 refine J 1 ?_
 refine .c call289 rfl fK fun _ _=>?_
 refine .aj rfl (af.Jx (Ieee.double.sub _ _) rfl rfl rfl (fun w=>rfl)) ?_
 rintro _ _ ⟨r9,hr9,rfl,rfl⟩
 refine .c call290 rfl kq fun _ _=>?_
 refine J 4 ?_
 refine .aG rfl rfl fun w s=>⟨(),?_,trivial,ai .auto s⟩
 rw[rV hr9];rfl
theorem Kg{W:World}{a b:Int}:Fn Tryz.prog W 269 [.int .u64 a,.int .u64 b] [] Unit (fun _=>.int .u64 (Ll a b)) (fun _=>True) (fun _=>[]):=by
 refine Fn.intro (N:=11) func269 rfl ntmps269 rfl fun F=>?_
 show aq _ _ _ _ _ _ [F]
 refine J 8 ?_
 refine .c call289 rfl fK fun _ _=>?_
 refine J 1 ?_
 refine .c call289 rfl fK fun _ _=>?_
 refine .aj rfl (af.Jx (Ieee.double.mul _ _) rfl rfl rfl (fun w=>rfl)) ?_
 rintro _ _ ⟨r9,hr9,rfl,rfl⟩
 refine .c call290 rfl kq fun _ _=>?_
 refine J 4 ?_
 refine .aG rfl rfl fun w s=>⟨(),?_,trivial,ai .auto s⟩
 rw[rV hr9];rfl
theorem Kh{W:World}{a b:Int}:Fn Tryz.prog W 270 [.int .u64 a,.int .u64 b] [] Unit (fun _=>.int .u64 (Lm a b)) (fun _=>True) (fun _=>[]):=by
 refine Fn.intro (N:=11) func270 rfl ntmps270 rfl fun F=>?_
 show aq _ _ _ _ _ _ [F]
 refine J 8 ?_
 refine .c call289 rfl fK fun _ _=>?_
 refine J 1 ?_
 refine .c call289 rfl fK fun _ _=>?_
 refine .aj rfl (af.Jx (Ieee.double.div _ _) rfl rfl rfl (fun w=>rfl)) ?_
 rintro _ _ ⟨r9,hr9,rfl,rfl⟩
 refine .c call290 rfl kq fun _ _=>?_
 refine J 4 ?_
 refine .aG rfl rfl fun w s=>⟨(),?_,trivial,ai .auto s⟩
 rw[rV hr9];rfl
theorem Ir{W:World}{m n:Nat}:Fn Tryz.prog W 291 [.float .f64 m,.float .f64 n] [] Unit (fun _=>.float .f64 (kh true .lt m n)) (fun _=>True) (fun _=>[]):=by
 refine Fn.intro (N:=11) func291 rfl ntmps291 rfl fun F=>?_
 show aq _ _ _ _ _ _ [F]
 refine J 6 ?_
 refine .fu rfl ?_
 refine J 4 ?_
 refine .p (.ext (e := Extern.MathDim.pick "math.archMin" true .lt) func307 rfl rfl rfl (by kernel_rfl) rfl (fun w => rfl)) ?_
 exact JR 5 ()
theorem Is{W:World}{m n:Nat}:Fn Tryz.prog W 293 [.float .f64 m,.float .f64 n] [] Unit (fun _=>.float .f64 (kh false .gt m n)) (fun _=>True) (fun _=>[]):=by
 refine Fn.intro (N:=11) func293 rfl ntmps293 rfl fun F=>?_
 show aq _ _ _ _ _ _ [F]
 refine J 6 ?_
 refine .fu rfl ?_
 refine J 4 ?_
 refine .p (.ext (e := Extern.MathDim.pick "math.archMax" false .gt) func309 rfl rfl rfl (by kernel_rfl) rfl (fun w => rfl)) ?_
 exact JR 5 ()
theorem DC{W:World}{n:Nat}{a b:Int}(ha:0≤a)(hb:0≤b):Fn Tryz.prog W 292 [.float .f64 n,.int .u64 a,.int .u64 b] [] Unit (fun _=>.int .u64 (if (tf a || tf b)=true then nv else jt (n:Int))) (fun _=>True) (fun _=>[]):=by
 refine Fn.intro (N:=17) func292 rfl ntmps292 rfl fun F=>?_
 show aq _ _ _ _ _ _ [F]
 refine J 9 ?_
 refine .c call289 rfl fK fun _ _=>?_
 refine .c call294 rfl lq fun _ _=>?_
 refine J 1 ?_
 apply aS.iw 4 14 10 [10,11,12,13,14] rfl
 ·intro h10
  refine J 1 ?_
  refine .cg call289 rfl fK fun _ _=>?_
  refine .cg call294 rfl lq fun _ _=>?_
  exact JS 2
 ·intro h10
  exact JS 5
 refine JD 2 (fun h14=>?_) fun h14=>?_
 ·rw[gB ha,gB hb] at h14
  refine J 7 ?_
  refine .aG rfl rfl fun w s=>⟨(),?_,trivial,ai .auto s⟩
  rw[if_pos h14];rfl
 ·rw[gB ha,gB hb] at h14
  refine J 5 ?_
  refine .c call290 rfl kq fun _ _=>?_
  refine J 4 ?_
  refine .aG rfl rfl fun w s=>⟨(),?_,trivial,ai .auto s⟩
  rw[if_neg (by rw[h14];simp)]
theorem Ki{W:World}{a b:Int}(ha:0≤a)(hb:0≤b):Fn Tryz.prog W 271 [.int .u64 a,.int .u64 b] [] Unit (fun _=>.int .u64 (zp a b)) (fun _=>True) (fun _=>[]):=by
 refine Fn.intro (N:=13) func271 rfl ntmps271 rfl fun F=>?_
 show aq _ _ _ _ _ _ [F]
 refine J 8 ?_
 refine .c call289 rfl fK fun _ _=>?_
 refine J 1 ?_
 refine .c call289 rfl fK fun _ _=>?_
 refine .c call291 rfl Ir fun _ _=>?_
 refine J 2 ?_
 refine .c call292 rfl (DC ha hb) fun _ _=>?_
 exact JR 4 ()
theorem Kj{W:World}{a b:Int}(ha:0≤a)(hb:0≤b):Fn Tryz.prog W 272 [.int .u64 a,.int .u64 b] [] Unit (fun _=>.int .u64 (zq a b)) (fun _=>True) (fun _=>[]):=by
 refine Fn.intro (N:=13) func272 rfl ntmps272 rfl fun F=>?_
 show aq _ _ _ _ _ _ [F]
 refine J 8 ?_
 refine .c call289 rfl fK fun _ _=>?_
 refine J 1 ?_
 refine .c call289 rfl fK fun _ _=>?_
 refine .c call293 rfl Is fun _ _=>?_
 refine J 2 ?_
 refine .c call292 rfl (DC ha hb) fun _ _=>?_
 exact JR 4 ()
theorem It{W:World}{a b:Int}:Fn Tryz.prog W 273 [.int .u64 a,.int .u64 b] [] Unit (fun _=>.bool (Nv a b)) (fun _=>True) (fun _=>[]):=by
 refine Fn.intro (N:=10) func273 rfl ntmps273 rfl fun F=>?_
 show aq _ _ _ _ _ _ [F]
 refine J 8 ?_
 refine .c call289 rfl fK fun _ _=>?_
 refine J 1 ?_
 refine .c call289 rfl fK fun _ _=>?_
 refine .p (.MM rfl rfl) ?_
 exact JR 4 ()
theorem Fc{W:World}{a:Int}(ha:0≤a):Fn Tryz.prog W 274 [.int .u64 a] [] Unit (fun _=>.int .u64 (kP a)) (fun _=>True) (fun _=>[]):=by
 refine Fn.intro (N:=18) func274 rfl ntmps274 rfl fun F=>?_
 show aq _ _ _ _ _ _ [F]
 refine J 8 ?_
 refine .c call289 rfl fK fun _ _=>?_
 refine J 7 ?_
 refine .c call294 rfl lq fun _ _=>?_
 refine JD 3 (fun h9=>?_) fun h9=>?_
 ·refine J 7 ?_
  refine .aG rfl rfl fun w s=>⟨(),?_,trivial,ai .auto s⟩
  rw[kP,if_pos (by rw[← gB ha];exact h9)]
 ·refine J 3 ?_
  refine .p (.Ny rfl rfl) ?_
  refine JD 3 (fun h12=>?_) fun h12=>?_
  ·have g12:(Ieee.double.order a.toNat xE == some .gt || Ieee.double.order a.toNat xE == some .eq)=true:=h12
   refine J 7 ?_
   refine .aG rfl rfl fun w s=>⟨(),?_,trivial,ai .auto s⟩
   rw[kP,if_neg (by rw[← gB ha,h9];simp),if_pos g12]
  ·have g12:(Ieee.double.order a.toNat xE == some .gt || Ieee.double.order a.toNat xE == some .eq)=false:=h12
   refine J 3 ?_
   refine .p (.MM rfl rfl) ?_
   refine JD 3 (fun h15=>?_) fun h15=>?_
   ·have g15:(Ieee.double.order a.toNat zr == some .lt)=true:=h15
    refine J 7 ?_
    refine .aG rfl rfl fun w s=>⟨(),?_,trivial,ai .auto s⟩
    rw[kP,if_neg (by rw[← gB ha,h9];simp),if_neg (by rw[g12];simp),if_pos g15]
   ·have g15:(Ieee.double.order a.toNat zr == some .lt)=false:=h15
    refine J 3 ?_
    obtain⟨k,hk,hk1,hk2⟩:=Eo h9 g12 g15
    refine .p (.Lp (fun w=>Ep hk hk1 hk2) rfl) ?_
    refine .p (.conv underlying2 underlying110 rfl) ?_
    refine J 5 ?_
    refine .aG rfl rfl fun w s=>⟨(),?_,trivial,ai .auto s⟩
    rw[kP,if_neg (by rw[← gB ha,h9];simp),if_neg (by rw[g12];simp),if_neg (by rw[g15];simp),hk];exact ze (GO k)
theorem Al{W:World}{a:Int}:Fn Tryz.prog W 275 [.int .u64 a] [] Unit (fun _=>.int .u64 (l4 a)) (fun _=>True) (fun _=>[]):=by
 refine Fn.intro (N:=7) func275 rfl ntmps275 rfl fun F=>?_
 show aq _ _ _ _ _ _ [F]
 refine J 8 ?_
 refine .p (.conv underlying110 underlying2 rfl) ?_
 refine .p (.toFloat (fun w=>rfl) rfl) ?_
 refine .c call290 rfl kq fun _ _=>?_
 exact JR 4 ()
end Go.SLYthlllpngkljgfaaGreat
namespace Go.SLYthlllpngkljgfaaGreat
open Go Go.RowKit Go.Proofs Go.Proofs.Tryz
theorem B8{W:World}{A:aa}{fv c1 c2 c3 c4 c5 c6 c7:Value}{fs:List (Value×List Ins)}{f:iP}{p:fM}(hr:Rd W [A] ej 1 fv fs)(hi:∀ x∈fs,Rd W [A] dH 5 x.1 x.2)(hp:fs.map (·.2)=p.funcs)(_hl:fs.length≤1000000)(_hl2:∀ x∈fs,x.2.length≤1000000):Fn Tryz.prog W 179 [.agg #[fv,c1,c2,c3,c4,c5,c6,c7],.agg (iM f).toArray] [A] Unit (fun _=>KK (dT p f)) (fun _=>True) (fun _=>[A]):=by
 refine Fn.intro (N:=45) func179 rfl ntmps179 rfl fun F=>?_
 haveI hRI:∀ (H:List aa) [bf H A],aw W H fv ej 1 fs:=fun H h=>⟨hr.at h.has⟩
 show aq _ _ _ _ _ _ [A,F]
 obtain⟨x,hxd⟩:∃ x:Value×List Ins,fs.getD f.fn.toNat (.slice none 0 0,[])=x:=⟨_,rfl⟩
 have hx:f.fn.toNat<fs.length→fs[f.fn.toNat]?=some x:=fun h=>hxd ▸ getD_some h
 refine J 2 ?_
 refine .aj rfl (af.box rfl rfl rfl) ?_
 rintro _ _ ⟨b2,rfl,rfl⟩
 refine .mem (H':=[arr b2 0 [fv,c1,c2,c3,c4,c5,c6,c7],A,F]) (fun w s=>s) ?_
 refine .aj rfl (af.box rfl rfl rfl) ?_
 rintro _ _ ⟨b3,rfl,rfl⟩
 refine .mem (H':=[arr b3 0 (iM f),arr b2 0 [fv,c1,c2,c3,c4,c5,c6,c7],A,F]) (fun w s=>s) ?_
 refine .aj rfl (af.alloc rfl zeroValue112 rfl) ?_
 rintro _ _ ⟨b4,rfl,rfl⟩
 refine J 5 ?_
 refine .draw [] [1,1,1,1,1,1,1,1,1,1,1,1,1,1,1,1,1,1,1,1,1,1,1,1,1,1,1,1] rfl (by kernel_rfl) ?_
 refine J 4 ?_
 apply bc.gf 7 16 9 [9,10,11,12,13,14,15,16] rfl
 ·intro h9
  exact JS 8
 ·intro h9
  exact JS 8
 refine J 1 ?_
 apply bc.iw 4 21 17 [17,18,19,20,21] rfl
 ·intro h17
  exact JS 5
 ·intro h17
  exact JS 5
 refine J 1 ?_
 apply bc.iw 11 33 22 [22,23,24,25,26,27,28,29,30,31,32,33] rfl
 ·intro h22
  simp only[Bool.or_eq_false_iff,decide_eq_false_iff_not] at h22
  have hlt:f.fn.toNat<fs.length:=by omega
  have hix:=hi x (List.mem_of_getElem? (hx hlt))
  haveI hI4:∀ (H:List aa) [bf H A],aw W H x.1 dH 5 x.2:=fun H h=>⟨hix.at h.has⟩
  refine J 6 ?_
  refine .g (.ix f.fn.toNat rfl rfl (by omega) hlt) ?_
  refine .g (.ld rfl (Cell.KH Rd.s (hx hlt) (by rfl))) ?_
  exact JS 4
 ·intro h22
  exact JS 12
 refine JD 2 (fun h33=>?_) fun h33=>?_
 ·refine J 2 ?_
  refine .p (.lR ([(.int .i64 0),(.int .i64 0),(.int .i64 0),(.int .i64 0),(.int .u64 0)]) (by kernel_rfl)) ?_
  refine J 6 ?_
  refine .fT rfl rfl isAgg112 (by exact sizeOf112) Cells.a rfl fun w s=>⟨(),?_,trivial,ai .auto s⟩
  rw[Jz (z:=(.slice none 0 0,[])) hp (by rw[hxd];exact h33) rfl];rfl
 ·refine J 3 ?_
  refine .draw [] [1,1,1,1,1,1,1,1,1,1,3,1] rfl (by kernel_rfl) ?_
  simp only[Bool.or_eq_false_iff,decide_eq_false_iff_not] at h33
  have hlt:f.fn.toNat<fs.length:=by omega
  have hix:=hi x (List.mem_of_getElem? (hx hlt))
  haveI hI4:∀ (H:List aa) [bf H A],aw W H x.1 dH 5 x.2:=fun H h=>⟨hix.at h.has⟩
  obtain⟨i,hin⟩:=ak (show f.pc.toNat<x.2.length by omega)
  refine J 4 ?_
  refine .p (.ix f.fn.toNat rfl rfl (by omega) hlt) ?_
  refine .p (.ld rfl (Cell.KH Rd.s (hx hlt) (by rfl))) ?_
  refine J 2 ?_
  refine .p (.ix f.pc.toNat rfl rfl (by omega) (by omega)) ?_
  refine .p (.la rfl (Cells.rd Rd.s hin)) ?_
  refine .d3 rfl (af.iJ (by exact sizeOf112) rfl rfl rfl (by rfl)) ?_
  rintro _ _ ⟨rfl,rfl⟩
  refine J 4 ?_
  refine .fT rfl rfl isAgg112 (by exact sizeOf112) Cells.a rfl fun w s=>⟨(),?_,trivial,ai .auto s⟩
  rw[GP hp (by omega) (by omega) (hx hlt) hin];rfl
theorem wQ{W:World}{b:Bool}:Fn Tryz.prog W 266 [.bool b] [] Unit (fun _=>.int .u64 (Bl b)) (fun _=>True) (fun _=>[]):=by
 refine Fn.intro (N:=4) func266 rfl ntmps266 rfl fun F=>?_
 show aq _ _ _ _ _ _ [F]
 refine JD 11 (fun h=>?_) fun h=>?_
 ·refine J 7 ?_
  refine .aG rfl rfl fun w s=>⟨(),?_,trivial,ai .auto s⟩
  subst h;rfl
 ·refine J 8 ?_
  refine .aG rfl rfl fun w s=>⟨(),?_,trivial,ai .auto s⟩
  subst h;rfl
theorem Am{W:World}{n:Int}:Fn Tryz.prog W 252 [.int .i64 n] [] Unit (fun _=>.bool (qo n)) (fun _=>True) (fun _=>[]):=by
 refine Fn.intro (N:=13) func252 rfl ntmps252 rfl fun F=>?_
 show aq _ _ _ _ _ _ [F]
 refine J 10 ?_
 apply aS.gf 3 8 5 [5,6,7,8] rfl
 ·intro h5
  exact JS 4
 ·intro h5
  exact JS 4
 refine J 1 ?_
 apply aS.iw 3 12 9 [9,10,11,12] rfl
 ·intro h9
  exact JS 4
 ·intro h9
  exact JS 4
 exact JR 4 ()
theorem An{W:World}{op a b:Int}(ha:0≤a)(hb:0≤b):Fn Tryz.prog W 253 [.int .i64 op,.int .u64 a,.int .u64 b] [] Bool (fun t=>.tuple #[.int .u64 (ck op a b),.bool t]) (fun _=>True) (fun _=>[]):=by
 refine Fn.intro (N:=77) func253 rfl ntmps253 rfl fun F=>?_
 show aq _ _ _ _ _ _ [F]
 refine JD 19 (fun h9=>?_) fun h9=>?_
 ·refine J 10 ?_
  refine .ey rfl rfl rfl fun w s=>⟨true,?_,trivial,ai .auto s⟩
  rw[show ck op a b=a from by unfold ck;rw[if_pos h9]]
 ·refine JD 6 (fun h12=>?_) fun h12=>?_
  ·refine J 4 ?_
   refine .p (.K2 rfl rfl) ?_
   refine J 7 ?_
   refine .ey rfl rfl rfl fun w s=>⟨true,?_,trivial,ai .auto s⟩
   rw[show ck op a b=A9 (a+b) from by unfold ck;rw[if_neg h9,if_pos h12]]
   rfl
  ·refine JD 6 (fun h17=>?_) fun h17=>?_
   ·refine J 4 ?_
    refine .p (.Mw rfl rfl) ?_
    refine J 7 ?_
    refine .ey rfl rfl rfl fun w s=>⟨true,?_,trivial,ai .auto s⟩
    rw[show ck op a b=A9 (a-b) from by unfold ck;rw[if_neg h9,if_neg h12,if_pos h17]]
    rfl
   ·refine JD 6 (fun h22=>?_) fun h22=>?_
    ·refine J 4 ?_
     refine .p (.K3 rfl rfl) ?_
     refine J 7 ?_
     refine .ey rfl rfl rfl fun w s=>⟨true,?_,trivial,ai .auto s⟩
     rw[show ck op a b=A9 (a * b) from by unfold ck;rw[if_neg h9,if_neg h12,if_neg h17,if_pos h22]]
     rfl
    ·refine JD 6 (fun h27=>?_) fun h27=>?_
     ·refine J 5 ?_
      refine .c call266 rfl wQ fun _ _=>?_
      refine J 7 ?_
      refine .ey rfl rfl rfl fun w s=>⟨true,?_,trivial,ai .auto s⟩
      rw[show ck op a b=Bl (decide (a<b)) from by unfold ck;rw[if_neg h9,if_neg h12,if_neg h17,if_neg h22,if_pos h27]]
     ·refine JD 6 (fun h33=>?_) fun h33=>?_
      ·refine J 4 ?_
       refine .c call267 rfl Ke fun _ _=>?_
       refine J 7 ?_
       refine .ey rfl rfl rfl fun w s=>⟨true,?_,trivial,ai .auto s⟩
       rw[show ck op a b=Li a b from by unfold ck;rw[if_neg h9,if_neg h12,if_neg h17,if_neg h22,if_neg h27,if_pos h33]]
      ·refine JD 6 (fun h38=>?_) fun h38=>?_
       ·refine J 4 ?_
        refine .c call268 rfl Kf fun _ _=>?_
        refine J 7 ?_
        refine .ey rfl rfl rfl fun w s=>⟨true,?_,trivial,ai .auto s⟩
        rw[show ck op a b=Lj a b from by unfold ck;rw[if_neg h9,if_neg h12,if_neg h17,if_neg h22,if_neg h27,if_neg h33,if_pos h38]]
       ·refine JD 6 (fun h43=>?_) fun h43=>?_
        ·refine J 4 ?_
         refine .c call269 rfl Kg fun _ _=>?_
         refine J 7 ?_
         refine .ey rfl rfl rfl fun w s=>⟨true,?_,trivial,ai .auto s⟩
         rw[show ck op a b=Ll a b from by unfold ck;rw[if_neg h9,if_neg h12,if_neg h17,if_neg h22,if_neg h27,if_neg h33,if_neg h38,if_pos h43]]
        ·refine JD 6 (fun h48=>?_) fun h48=>?_
         ·refine J 4 ?_
          refine .c call270 rfl Kh fun _ _=>?_
          refine J 7 ?_
          refine .ey rfl rfl rfl fun w s=>⟨true,?_,trivial,ai .auto s⟩
          rw[show ck op a b=Lm a b from by unfold ck;rw[if_neg h9,if_neg h12,if_neg h17,if_neg h22,if_neg h27,if_neg h33,if_neg h38,if_neg h43,if_pos h48]]
         ·refine JD 6 (fun h53=>?_) fun h53=>?_
          ·refine J 4 ?_
           refine .c call271 rfl (Ki ha hb) fun _ _=>?_
           refine J 7 ?_
           refine .ey rfl rfl rfl fun w s=>⟨true,?_,trivial,ai .auto s⟩
           rw[show ck op a b=zp a b from by unfold ck;rw[if_neg h9,if_neg h12,if_neg h17,if_neg h22,if_neg h27,if_neg h33,if_neg h38,if_neg h43,if_neg h48,if_pos h53]]
          ·refine JD 6 (fun h58=>?_) fun h58=>?_
           ·refine J 4 ?_
            refine .c call272 rfl (Kj ha hb) fun _ _=>?_
            refine J 7 ?_
            refine .ey rfl rfl rfl fun w s=>⟨true,?_,trivial,ai .auto s⟩
            rw[show ck op a b=zq a b from by unfold ck;rw[if_neg h9,if_neg h12,if_neg h17,if_neg h22,if_neg h27,if_neg h33,if_neg h38,if_neg h43,if_neg h48,if_neg h53,if_pos h58]]
           ·refine JD 6 (fun h63=>?_) fun h63=>?_
            ·refine J 4 ?_
             refine .c call273 rfl It fun _ _=>?_
             refine .c call266 rfl wQ fun _ _=>?_
             refine J 7 ?_
             refine .ey rfl rfl rfl fun w s=>⟨true,?_,trivial,ai .auto s⟩
             rw[show ck op a b=Bl (Nv a b) from by unfold ck;rw[if_neg h9,if_neg h12,if_neg h17,if_neg h22,if_neg h27,if_neg h33,if_neg h38,if_neg h43,if_neg h48,if_neg h53,if_neg h58,if_pos h63]]
            ·refine JD 6 (fun h69=>?_) fun h69=>?_
             ·refine J 3 ?_
              refine .c call274 rfl (Fc ha) fun _ _=>?_
              refine J 7 ?_
              refine .ey rfl rfl rfl fun w s=>⟨true,?_,trivial,ai .auto s⟩
              rw[show ck op a b=kP a from by unfold ck;rw[if_neg h9,if_neg h12,if_neg h17,if_neg h22,if_neg h27,if_neg h33,if_neg h38,if_neg h43,if_neg h48,if_neg h53,if_neg h58,if_neg h63,if_pos h69]]
             ·refine JD 6 (fun h73=>?_) fun h73=>?_
              ·refine J 3 ?_
               refine .c call275 rfl Al fun _ _=>?_
               refine J 7 ?_
               refine .ey rfl rfl rfl fun w s=>⟨true,?_,trivial,ai .auto s⟩
               rw[show ck op a b=l4 a from by unfold ck;rw[if_neg h9,if_neg h12,if_neg h17,if_neg h22,if_neg h27,if_neg h33,if_neg h38,if_neg h43,if_neg h48,if_neg h53,if_neg h58,if_neg h63,if_neg h69,if_pos h73]]
              ·refine J 10 ?_
               refine .ey rfl rfl rfl fun w s=>⟨false,?_,trivial,ai .auto s⟩
               rw[show ck op a b=0 from by unfold ck;rw[if_neg h9,if_neg h12,if_neg h17,if_neg h22,if_neg h27,if_neg h33,if_neg h38,if_neg h43,if_neg h48,if_neg h53,if_neg h58,if_neg h63,if_neg h69,if_neg h73]]
theorem fS{W:World}{b:Nat}{n:Int}(hn:0≤n∧n<8):Fn Tryz.prog W 250 [ptr b,.int .i64 n] [] Unit (fun _=>.pointer (some ⟨b,2+n.toNat,none⟩)) (fun _=>True) (fun _=>[]):=by
 refine Fn.intro (N:=19) func250 rfl ntmps250 rfl fun F=>?_
 show aq _ _ _ _ _ _ [F]
 refine J 11 ?_
 apply aS.gf 3 10 7 [7,8,9,10] rfl
 ·intro h7
  exact JS 4
 ·intro h7
  exact JS 4
 refine JD 2 (fun h10=>?_) fun h10=>?_
 ·simp only[Bool.or_eq_true,decide_eq_true_eq] at h10
  exact absurd h10 (by omega)
 ·simp only[Bool.or_eq_false_iff,decide_eq_false_iff_not] at h10
  refine J 9 ?_
  refine .p (.dF n.toNat underlying163 sizeOf110 rfl rfl (by omega) (by omega)) ?_
  refine J 4 ?_
  refine .aG rfl rfl fun w s=>⟨(),?_,trivial,ai .auto s⟩
  rw[Nat.mul_one]
theorem oq{W:World}{b:Nat}{f:iP}{v:Value}{m:List Int}{at_:Int}(h0:0≤at_)(hl:m.length≤1000000):Em Tryz.prog W 251 [ptr b,.int .u64 at_] [arr b 0 (vK f v),sl cO 1 v m] Unit (fun _=>if at_<m.length then .returned (.pointer (some ⟨blk v,eg v+at_.toNat * 1,none⟩)) else .panicked (vL 308 6)) (fun _=>True) (fun _=>[arr b 0 (vK f v),sl cO 1 v m]):=by
 refine Em.intro (N:=21) func251 rfl ntmps251 rfl fun F=>?_
 show aq _ _ _ _ _ _ [arr b 0 (vK f v),sl cO 1 v m,F]
 refine J 14 ?_
 refine .p (.sP underlying3 underlying110 rfl (by omega)) ?_
 refine JD 3 (fun h12=>?_) fun h12=>?_
 ·refine J 1 ?_
  refine .p (.hG (fun v1=>[v1]) rfl (by kernel_rfl)) ?_
  refine .p (.Jt underlying308 rfl rfl) ?_
  refine .panic rfl ?_
  refine fun a w ha s=>And.intro ha.defers (Exists.intro () (And.intro ?_ (And.intro trivial (ai .auto s))))
  rw[if_neg (by omega)];rfl
 ·refine J 9 ?_
  refine .p (.ix at_.toNat rfl rfl (by omega) (by omega)) ?_
  refine J 4 ?_
  refine .aG rfl rfl fun w s=>⟨(),?_,trivial,ai .auto s⟩
  rw[if_pos (by omega)]
end Go.SLYthlllpngkljgfaaGreat
