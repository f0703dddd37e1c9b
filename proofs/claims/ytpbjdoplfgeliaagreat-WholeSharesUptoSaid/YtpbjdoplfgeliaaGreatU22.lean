/- Walks. Conditions: none. -/
import Derived.Test.YtpbjdoplfgeliaaGreatU07
import Derived.Test.YtpbjdoplfgeliaaGreatProg
import Derived.Test.YtpbjdoplfgeliaaGreatU18
import Derived.Test.YtpbjdoplfgeliaaGreatU21
import Derived.KernelRfl
set_option maxRecDepth 20000
set_option maxHeartbeats 4000000
namespace Go.SLYtpbjdoplfgeliaaGreat
open Go Go.RowKit Go.Proofs Go.Proofs.Tryz
attribute [local irreducible] ar aR bm bA bH Y
theorem Jp{W:World}{o a b c n:Int}:Fn Tryz.prog W 55 [.int .i64 o,.int .i64 a,.int .i64 b,.int .i64 c,.int .u64 n] [] Unit (fun _=>.agg (dM ⟨o,a,b,c,n⟩).toArray) (fun _=>True) (fun _=>[]):=by
 refine Fn.intro (N:=17) func55 rfl ntmps55 rfl fun F=>?_
 show ar _ _ _ _ _ _ [F]
 refine J 2 ?_
 refine .aj rfl (af.alloc rfl zeroValue94 rfl) ?_
 rintro _ _ ⟨b10,rfl,rfl⟩
 refine J 9 ?_
 refine .p (.M6 (fun v1 v2 v3 v4 v5=>[v1,v2,v3,v4,v5]) rfl rfl rfl rfl rfl (by kernel_rfl)) ?_
 refine J 4 ?_
 refine .dJ rfl rfl isAgg94 (by exact sizeOf94) Cells.a fun w s=>⟨(),?_,trivial,ak .auto s⟩
 rfl
theorem K8{W:World}{a n:Int}:Fn Tryz.prog W 54 [.int .i64 a,.int .u64 n] [] Unit (fun _=>.agg (dM ⟨1,a,0,0,n⟩).toArray) (fun _=>True) (fun _=>[]):=by
 refine Fn.intro (N:=8) func54 rfl ntmps54 rfl fun F=>?_
 show ar _ _ _ _ _ _ [F]
 refine J 2 ?_
 refine .aj rfl (af.alloc rfl zeroValue94 rfl) ?_
 rintro _ _ ⟨b4,rfl,rfl⟩
 refine J 6 ?_
 refine .c call55 rfl Jp fun _ _=>?_
 refine .aj rfl (af.iy (vs:=dM ⟨1,a,0,0,n⟩) (by exact sizeOf94) rfl rfl rfl (by rfl)) ?_
 rintro _ _ ⟨rfl,rfl⟩
 refine J 3 ?_
 refine .dJ rfl rfl isAgg94 (by exact sizeOf94) Cells.a fun w s=>⟨(),?_,trivial,ak .auto s⟩
 rfl
theorem K9{W:World}{A:aa}{v:Value}{xs:List oo}(hr:Rd W [A] nW 3 v xs)(hl:xs.length≤1000000000):Fn Tryz.prog W 62 [v] [A] Value (fun u=>u) (fun u=>Rd W [A] nW 3 u (xs.take 200)) (fun _=>[A]):=by
 refine Fn.intro (N:=9) func62 rfl ntmps62 rfl fun F=>?_
 haveI hRI:∀ (H:List aa) [bE H A],aC W H v nW 3 xs:=fun H h=>⟨hr.at h.has⟩
 show ar _ _ _ _ _ _ [A,F]
 refine JD 13 (fun h5=>?_) fun h5=>?_
 ·refine J 3 ?_
  refine .p (.sliceTo 200 underlying23 sizeOf32 rfl rfl Rd.s rfl (by omega)) ?_
  refine J 5 ?_
  refine .aS rfl rfl fun w s=>⟨_,?_,Rd.Lq (n:=200) (by omega) hr,ak .auto s⟩
  rfl
 ·refine J 9 ?_
  refine .aS rfl rfl fun w s=>⟨_,?_,by rw[List.take_of_length_le (by omega)];exact hr,ak .auto s⟩
  rfl
theorem Jq{W:World}{b kb:Nat}{bl:List Nat}{s:Sy}{i N:Nat}(hI:zq i s)(hi:i≤400)(hN:N≤s.k.libs.length):Fn Tryz.prog W 100 [ptr b,.int .i64 (N:Int)] [gK b kb bl s] Unit (fun _=>.bool (F3 s N)) (fun _=>True) (fun _=>[gK b kb bl s]):=by
 refine Fn.intro (N:=47) func100 rfl ntmps100 rfl fun F=>?_
 show ar _ _ _ _ _ _ [gK b kb bl s,F]
 have hll:=hI.k.ll
 refine J 12 ?_
 refine .aZ (X:=Nat) [4,5,6,7,8,9,10,11,12,13,14,15,16,17,18,19,20,21,22,23,24,25,26,27,28,29,30,31,32,33,34,35,36,37,38,39,40,41,42,43,44,45,46] (fun n=>N-n) (fun n=>n≤N∧F3 s n=true) (fun n=>[(5,some (.int .i64 (n:Int)))]) (fun n=>[gK b kb bl s,F]) 0 ?_ ?_ ?_ ?_
 ·exact⟨Nat.zero_le _,rfl⟩
 ·exact⟨rfl,trivial⟩
 ·exact fun w s=>aw.kept .auto w s
 rintro n ⟨hn,ho⟩
 refine JD 8 (fun h11=>?_) fun h11=>?_
 ·obtain⟨l,hl⟩:=ai (show n<s.k.libs.length by omega)
  have hlm:=List.mem_of_getElem? hl
  have hlo:=hI.k.ok.gy l hlm
  have hsp:=(hI.k.gy l hlm).sp.aI (show i+2≤1990 by omega)
  refine J 8 ?_
  refine .c call18 rfl (dC (b:=b) (kb:=kb) (bl:=bl) (s:=s)) fun _ _=>?_
  refine .o2 (C:=gK b kb bl s) .auto rfl ?_
  rintro pv lv -
  refine J 1 ?_
  refine .c call40 rfl (dO (b:=kb) (bl:=bl) (k:=s.k) (n:=(n:Int))) fun _ _=>?_
  refine .o3 (C:=ba kb bl s.k) .auto rfl ?_
  rintro vo vl xl ⟨hxb,hxs⟩
  have hxl:=au hxs
  have hbl:=au hxb
  have hxx:=And.intro hxb hxs
  obtain⟨⟨kx,lx⟩,hx,hxe,hbx⟩:=cX hxb hxs hl
  simp only at hxe hbx
  rw[aV,hbx]
  subst hxe
  refine .fr .auto (cc (f:=fun x:Nat×Lib=>bJ x.1 x.2) hx) ?_
  refine .o2 (C:=bJ kx lx) .auto rfl ?_
  rintro bs br -
  refine .c call53 rfl (ir (b:=kx) (bs:=bs) (br:=br) (l:=lx)) fun _ _=>?_
  refine .o2 (C:=bj kx bs br lx) .auto rfl ?_
  rintro vv vw -
  refine .o1 (C:=fM bs lx.aI) .auto rfl ?_
  rintro pt -
  refine .c call58 rfl (l6 (s:=lx.aI) hlo.th) fun u19 _=>?_
  refine .to (A:=aO (fun x:Nat×Lib=>bJ x.1 x.2) xl) .auto (cC (f:=fun x:Nat×Lib=>bJ x.1 x.2) hx) ?_
  refine .to (A:=ba kb bl s.k) .auto kk ?_
  refine JD 4 (fun h21=>?_) fun h21=>?_
  ·have hov:F3 s N=false:=Jm (n:=n+1) (by rw[C3 hl,(show quiet lx=false from by unfold quiet;rw[decide_eq_false (by omega),Bool.false_and]),Bool.and_false]) (by omega)
   refine J 12 ?_
   rw[hov]
   exact JR 0 ()
  ·refine J 8 ?_
   refine .aZ (X:=Nat) [4,6,7,8,22,23,24,25,26,27,28,29,30,31,32,33,34,35,36,37,38,39,40,41,42,43,44,45,46] (fun t=>16-t) (fun t=>t≤16∧qI lx t=true) (fun t=>[(6,some (.int .i64 (t:Int)))]) (fun t=>[gK b kb bl s,F]) 0 ?_ ?_ ?_ ?_
   ·exact⟨Nat.zero_le _,rfl⟩
   ·exact⟨rfl,trivial⟩
   ·exact fun w s=>aw.kept .auto w s
   rintro t ⟨ht,hq⟩
   refine JD 7 (fun h23=>?_) fun h23=>?_
   ·clear hx hxl hbl hxx hxb hxs hbx
    refine J 7 ?_
    refine .c call18 rfl (dC (b:=b) (kb:=kb) (bl:=bl) (s:=s)) fun _ _=>?_
    refine .o2 (C:=gK b kb bl s) .auto rfl ?_
    rintro pv lv -
    refine J 1 ?_
    refine .c call40 rfl (dO (b:=kb) (bl:=bl) (k:=s.k) (n:=(n:Int))) fun _ _=>?_
    refine .o3 (C:=ba kb bl s.k) .auto rfl ?_
    rintro vo vl xl ⟨hxb,hxs⟩
    have hxl:=au hxs
    have hbl:=au hxb
    have hxx:=And.intro hxb hxs
    obtain⟨⟨ky,ly⟩,hx,hxe,hbx⟩:=cX hxb hxs hl
    simp only at hxe hbx
    rw[aV,hbx]
    subst hxe
    refine .fr .auto (cc (f:=fun x:Nat×Lib=>bJ x.1 x.2) hx) ?_
    refine .o2 (C:=bJ ky ly) .auto rfl ?_
    rintro bs br -
    refine .c call53 rfl (ir (b:=ky) (bs:=bs) (br:=br) (l:=ly)) fun _ _=>?_
    refine .o2 (C:=bj ky bs br ly) .auto rfl ?_
    rintro vv vw -
    refine .o1 (C:=fM bs ly.aI) .auto rfl ?_
    rintro pt -
    refine J 1 ?_
    refine .c call147 rfl (FI (s:=ly.aI) (n:=(t:Int)) hsp) fun _ _=>?_
    refine .to (A:=aO (fun x:Nat×Lib=>bJ x.1 x.2) xl) .auto (cC (f:=fun x:Nat×Lib=>bJ x.1 x.2) hx) ?_
    refine .to (A:=ba kb bl s.k) .auto kk ?_
    refine J 1 ?_
    refine .p (.extract (v:=.agg (J5 ((ly.aI.at (t:Int)).getD Ho)).toArray) rfl rfl) ?_
    refine .p (.extract (v:=.bool (ly.aI.at (t:Int)).isSome) rfl rfl) ?_
    refine .aj rfl (af.alloc rfl zeroValue243 rfl) ?_
    rintro _ _ ⟨b7,rfl,rfl⟩
    refine .aj rfl (af.iy (vs:=J5 ((ly.aI.at (t:Int)).getD Ho)) (by exact sizeOf243) rfl rfl rfl (by rfl)) ?_
    rintro _ _ ⟨rfl,rfl⟩
    refine J 7 ?_
    apply aR.gq 9 46 37 [37,38,39,40,41,42,43,44,45,46] rfl
    ·intro h37
     refine J 4 ?_
     apply aR.gA 4 45 41 [41,42,43,44,45] rfl
     ·intro h41
      refine J 5 ?_
      refine .n9 .auto rfl (by first | exact fun _ h=>h | exact aw.kept .auto)
     ·intro h41
      refine J 5 ?_
      refine .n9 .auto rfl (by first | exact fun _ h=>h | exact aw.kept .auto)
     refine J 2 ?_
     refine .n9 .auto rfl (by first | exact fun _ h=>h | exact aw.kept .auto)
    ·intro h37
     refine J 10 ?_
     refine .n9 .auto rfl (by first | exact fun _ h=>h | exact aw.kept .auto)
    refine JD 2 (fun h46=>?_) fun h46=>?_
    ·simp only[Bool.and_eq_true,Bool.or_eq_true,decide_eq_true_eq] at h46
     have hov:F3 s N=false:=Jm (n:=n+1) (by rw[C3 hl,(show quiet ly=false from Jn hq (by unfold MY;simpa using h46) (by omega)),Bool.and_false]) (by omega)
     refine J 15 ?_
     rw[hov]
     exact JR 0 ()
    ·simp only[Bool.and_eq_false_iff,Bool.or_eq_false_iff,decide_eq_false_iff_not] at h46
     have hsl:MY ly (t:Int)=false:=by
      unfold MY
      by_cases hok:(ly.aI.at (t:Int)).isSome=true
      ·simp only[hok] at h46
       rw[hok]
       simpa using h46
      ·rw[show(ly.aI.at (t:Int)).isSome=false from by simpa using hok];rfl
     refine J 8 ?_
     refine .ax (t+1) .auto rfl ?_ ?_ ?_ ?_
     ·show 16-(t+1)<16-t;omega
     ·exact⟨by show t+1≤16;omega,K5 hq (hsl)⟩
     ·exact⟨rfl,trivial⟩
     ·exact fun w s=>aw.kept .auto w s
   ·refine J 11 ?_
    refine .ax (n+1) .auto rfl ?_ ?_ ?_ ?_
    ·omega
    ·exact⟨by show n+1≤N;omega,by rw[C3 hl,ho,FY (show lx.aI.ready.length=0 by omega) ((show t=16 by omega) ▸ hq)];rfl⟩
    ·exact⟨rfl,trivial⟩
    ·exact fun w s=>aw.kept .auto w s
 ·obtain rfl:n=N:=by omega
  refine J 11 ?_
  rw[ho]
  exact JR 0 ()
theorem F0{W:World}{b kb:Nat}{bl:List Nat}:Fn Tryz.prog W 56 [ptr b,.int .i64 1,.int .i64 5] [gK b kb bl vI] Unit (fun _=>.bool true) (fun _=>True) (fun _=>[gK b kb bl z24]):=by
 refine Fn.intro (N:=60) func56 rfl ntmps56 rfl fun F=>?_
 show ar _ _ _ _ _ _ [gK b kb bl vI,F]
 have hq0:=K7
 have hqT:Bt 2 2 1 (vI.tS 0):=(K7.do (by decide) ⟨5,0,0⟩).do (by decide) ⟨6,0,0⟩
 refine J 12 ?_
 refine .aZ (X:=Nat) [6,7,8,9,10,11,12,13,14,15,16,17,18,19,20,21,22,23,24,25,26,27,28,29,30,31,32,33,34,35,36,37,38,39,40,41,42,43,44,45,46,47,48,49,50,51,52,53,54,55,56] (fun k=>2-k) (fun k=>k≤1) (fun k=>[(7,some (.int .i64 (k:Int)))]) (fun k=>[gK b kb bl (if k=0 then vI else z24),F]) 0 ?_ ?_ ?_ ?_
 ·exact Nat.zero_le _
 ·exact⟨rfl,trivial⟩
 ·exact fun w s=>aw.kept .auto w s
 rintro k hk
 refine JD 8 (fun h13=>?_) fun h13=>?_
 ·have hqk:Bt 84 2 1 (if k=0 then vI else z24):=if e:k=0 then by rw[if_pos e];exact⟨OY,K7.o,K7.l⟩ else by rw[if_neg e];exact N0
  refine J 9 ?_
  refine .c call100 rfl (Jq (b:=b) (kb:=kb) (bl:=bl) (s:=(if k=0 then vI else z24)) (i:=84) (N:=1) hqk.b (by decide) (by rw[hqk.l];decide)) fun _ _=>?_
  refine JD 2 (fun h18=>?_) fun h18=>?_
  ·have hk1:¬k=0:=fun e=>by rw[if_pos e,PG] at h18;cases h18
   refine J 12 ?_
   rw[if_neg hk1]
   exact JR 0 ()
  ·obtain rfl:k=0:=by
    by_cases e:k=0
    ·exact e
    ·rw[if_neg e,OZ] at h18;cases h18
   refine J 6 ?_
   refine .p (.fY (fun v1 v2=>[v1,v2,.int .i64 0]) rfl rfl (by kernel_rfl)) ?_
   refine .c call11 rfl (mf (b:=b) (kb:=kb) (bl:=bl) (s:=vI) (x:=⟨5,0,0⟩) (hq0.b.rn (by omega)) hq0.b.k.inv (by omega) (by have:=hq0.b.log;omega) (Nat.le_trans hq0.b.prio (by decide))) fun _ _=>?_
   have hq1:=K7.do (by decide) ⟨5,0,0⟩
   refine J 5 ?_
   refine .p (.gX (fun v1=>[v1,.int .i64 0,.int .i64 0]) rfl (by kernel_rfl)) ?_
   refine .c call11 rfl (mf (b:=b) (kb:=kb) (bl:=bl) (s:=(vI.do ⟨5,0,0⟩).2) (x:=⟨6,0,0⟩) (hq1.b.rn (by omega)) hq1.b.k.inv (by omega) (by have:=hq1.b.log;omega) (Nat.le_trans hq1.b.prio (by decide))) fun _ _=>?_
   refine J 9 ?_
   refine .aZ (X:=Nat) [8,9,26,27,28,29,30,31,32,33,34,35,36,37,38,39,40,41,42,43] (fun j=>40-j) (fun j=>j≤40) (fun j=>[(8,some (.int .i64 (j:Int)))]) (fun j=>[gK b kb bl ((vI.tS 0).tJ 0 2 j),F]) 0 ?_ ?_ ?_ ?_
   ·exact Nat.zero_le _
   ·exact⟨rfl,trivial⟩
   ·exact fun w s=>aw.kept .auto w s
   rintro j hj
   refine JD 7 (fun h27=>?_) fun h27=>?_
   ·refine J 10 ?_
    refine .aZ (X:=Nat) [9,30,31,32,33,34,35,36,37,38,39,40,41,42,43] (fun p=>2-p) (fun p=>p≤2) (fun p=>[(9,some (.int .i64 (p:Int)))]) (fun p=>[gK b kb bl (((vI.tS 0).tJ 0 2 j).tP (0+(j:Int)) p),F]) 0 ?_ ?_ ?_ ?_
    ·exact Nat.zero_le _
    ·exact⟨rfl,trivial⟩
    ·exact fun w s=>aw.kept .auto w s
    rintro p hp
    have hqj:=hqT.tJ 0 j (by omega)
    have hqp:=hqj.tP (0+(j:Int)) p (by omega)
    refine J 5 ?_
    refine .c call18 rfl (dC (b:=b) (kb:=kb) (bl:=bl) (s:=(((vI.tS 0).tJ 0 2 j).tP (0+(j:Int)) p))) fun _ _=>?_
    refine .o2 (C:=gK b kb bl (((vI.tS 0).tJ 0 2 j).tP (0+(j:Int)) p)) .auto rfl ?_
    rintro pv lv -
    refine .c call35 rfl (eC (b:=kb) (bl:=bl) (k:=(((vI.tS 0).tJ 0 2 j).tP (0+(j:Int)) p).k)) fun _ _=>?_
    rw[hqp.o]
    refine JD 3 (fun h34=>?_) fun h34=>?_
    ·refine J 9 ?_
     refine .p (.add rfl rfl (by omega)) ?_
     refine .p (.vM (fun v1 v2 v3=>[v1,v2,v3]) rfl rfl rfl (by kernel_rfl)) ?_
     refine .c call11 rfl (mf (b:=b) (kb:=kb) (bl:=bl) (s:=(((vI.tS 0).tJ 0 2 j).tP (0+(j:Int)) p)) (x:=⟨1,(p:Int),0+(j:Int)⟩) (hqp.b.rn (by omega)) hqp.b.k.inv (by omega) (by have:=hqp.b.log;omega) (Nat.le_trans hqp.b.prio (by decide))) fun _ _=>?_
     refine J 8 ?_
     refine .ax (p+1) .auto rfl ?_ ?_ ?_ ?_
     ·omega
     ·show p+1≤_;omega
     ·exact⟨rfl,trivial⟩
     ·exact fun w s=>aw.kept .auto w s
    ·obtain rfl:p=2:=by omega
     refine J 11 ?_
     refine .ax (j+1) .auto rfl ?_ ?_ ?_ ?_
     ·omega
     ·show j+1≤_;omega
     ·exact⟨rfl,trivial⟩
     ·exact fun w s=>aw.kept .auto w s
   ·obtain rfl:j=40:=by omega
    have hqJ:=hqT.tJ 0 40 (by decide)
    refine J 12 ?_
    refine .aZ (X:=Nat) [10,44,45,46,47,48,49,50,51,52,53] (fun n=>1-n) (fun n=>n≤1) (fun n=>[(10,some (.int .i64 (n:Int)))]) (fun n=>[gK b kb bl (((vI.tS 0).tJ 0 2 40).tN 0 n),F]) 0 ?_ ?_ ?_ ?_
    ·exact Nat.zero_le _
    ·exact⟨rfl,trivial⟩
    ·exact fun w s=>aw.kept .auto w s
    rintro n hn
    refine JD 8 (fun h46=>?_) fun h46=>?_
    ·have hqn:=hqJ.tN 0 n (by omega)
     refine J 8 ?_
     refine .p (.vM (fun v1 v2 v3=>[v1,v2,v3]) rfl rfl rfl (by kernel_rfl)) ?_
     refine .c call11 rfl (mf (b:=b) (kb:=kb) (bl:=bl) (s:=(((vI.tS 0).tJ 0 2 40).tN 0 n)) (x:=⟨3,(n:Int),0⟩) (hqn.b.rn (by omega)) hqn.b.k.inv (by omega) (by have:=hqn.b.log;omega) (Nat.le_trans hqn.b.prio (by decide))) fun _ _=>?_
     refine J 8 ?_
     refine .ax (n+1) .auto rfl ?_ ?_ ?_ ?_
     ·omega
     ·show n+1≤_;omega
     ·exact⟨rfl,trivial⟩
     ·exact fun w s=>aw.kept .auto w s
    ·obtain rfl:n=1:=by omega
     have hqn:=hqJ.tN 0 1 (by decide)
     refine J 7 ?_
     refine .p (.gX (fun v1=>[v1,.int .i64 0,.int .i64 0]) rfl (by kernel_rfl)) ?_
     refine .c call11 rfl (mf (b:=b) (kb:=kb) (bl:=bl) (s:=(((vI.tS 0).tJ 0 2 40).tN 0 1)) (x:=⟨2,0,0⟩) (hqn.b.rn (by omega)) hqn.b.k.inv (by omega) (by have:=hqn.b.log;omega) (Nat.le_trans hqn.b.prio (by decide))) fun _ _=>?_
     refine J 8 ?_
     refine .ax 1 .auto rfl ?_ ?_ ?_ ?_
     ·decide
     ·exact Nat.le_refl 1
     ·exact⟨rfl,trivial⟩
     ·exact fun w s=>aw.kept .auto w s
 ·exact absurd (show(k:Int)<5 by omega) h13
theorem xN{W:World}{A:aa}{v:Value}{ps:List bc}(hr:Rd W [A] eT 8 v ps)(hp:∀ p∈ps,eY W [A] p)(hb:ps.length≤1000000000∧ ∀ p∈ps,p.fs.length≤1000000000∧p.bK.length≤1000000000∧p.bf.length≤1000000000)(hw:∀ p∈ps.map bc.p, ∀ f∈p.funcs, ∀ i∈f,fK i.n){u:Value}{xs:List oo}(hst:Rd W [A] nW 3 u xs)(hsl:xs.length≤1000000000){procs:Int}:Fn Tryz.prog W 19 [.int .i64 procs,v,u] [A] (Option Nat) (fun o=>ed o) (fun o=>o.isSome=decide (dF procs (ps.map bc.p)=0)) (fun o=>[optH (fun b=>D4 b ((Sy.new procs (ps.map bc.p)).ec (xs.take 200))) o,A]):=by
 refine Fn.intro (N:=37) func19 rfl ntmps19 rfl fun F=>?_
 haveI hRI:∀ (H:List aa) [bE H A],aC W H v eT 8 ps:=fun H h=>⟨hr.at h.has⟩
 haveI hRJ:∀ (H:List aa) [bE H A],aC W H u nW 3 xs:=fun H h=>⟨hst.at h.has⟩
 show ar _ _ _ _ _ _ [A,F]
 refine J 9 ?_
 refine .c call8 rfl (Be (procs:=procs) hr hp hb) fun o ho=>?_
 refine J 13 ?_
 refine .mE (t:=18) rfl (fun h18=>?_) (fun h18=>?_)
 ·refine J 5 ?_
  refine .gu rfl ?_
  refine J 7 ?_
  obtain rfl:o=none:=by simpa [h18] using ho
  refine .aS rfl rfl fun w s=>⟨none,?_,(decide_eq_false h18).symm,ak .auto s⟩
  rfl
 ·have hc:dF procs (ps.map bc.p)=0:=Decidable.not_not.mp h18
  obtain⟨sb,rfl⟩:=Option.isSome_iff_exists.1 (ho.trans (decide_eq_true hc))
  refine .fr (A:=optH (fun b=>D4 b (Sy.new procs (ps.map bc.p))) (some sb)) (Bs:=[D4 sb (Sy.new procs (ps.map bc.p))]) .auto iJ ?_
  refine .o2 (C:=D4 sb (Sy.new procs (ps.map bc.p))) .auto rfl ?_
  rintro kb bl -
  have hP0:=vD.new hc hw
  have h200:(xs.take 200).length≤200:=List.length_take_le ..
  refine J 5 ?_
  refine .ep rfl ?_
  refine J 5 ?_
  refine .c call62 rfl (K9 hst hsl) fun u33 hsm=>?_
  haveI hRK:∀ (H:List aa) [bE H A],aC W H u33 nW 3 (xs.take 200):=fun H h=>⟨hsm.at h.has⟩
  refine J 10 ?_
  refine .aZ (X:=Nat) [9,24,25,26,27,28,29,30,31,32,33,34,35] (fun i=>(xs.take 200).length-i) (fun i=>i≤(xs.take 200).length) (fun i=>[(9,some (.int .i64 (i:Int)))]) (fun i=>[gK sb kb bl ((Sy.new procs (ps.map bc.p)).ec ((xs.take 200).take i)),A,F]) 0 ?_ ?_ ?_ ?_
  ·exact Nat.zero_le _
  ·exact⟨rfl,trivial⟩
  ·exact fun w s=>aw.kept .auto w s
  rintro i hi
  refine JD 9 (fun h27=>?_) fun h27=>?_
  ·have hP:=hP0.ec (by omega) i hi
   have hI:=hP.b
   have hlog:=hI.log
   refine J 8 ?_
   obtain⟨x,hx⟩:=ai (show i<(xs.take 200).length by omega)
   refine .p (.ix i rfl rfl rfl (by omega)) ?_
   refine .p (.la rfl (Cells.rd Rd.s hx)) ?_
   refine .c call11 rfl (mf (b:=sb) (kb:=kb) (bl:=bl) (s:=((Sy.new procs (ps.map bc.p)).ec ((xs.take 200).take i))) (x:=x) (hI.rn (by omega)) hI.k.inv (by omega) (by have:=hI.log;omega) (Nat.le_trans hI.prio (by decide))) fun _ _=>?_
   refine J 8 ?_
   refine .ax (i+1) .auto rfl ?_ ?_ ?_ ?_
   ·omega
   ·show i+1≤_;omega
   ·exact⟨rfl,trivial⟩
   ·show ∀ w,Sat _ w _→Sat _ w (seps [gK sb kb bl ((Sy.new procs (ps.map bc.p)).ec ((xs.take 200).take (i+1))),A,F])
    rw[kr hx]
    exact fun w s=>aw.kept .auto w s
  ·obtain rfl:i=(xs.take 200).length:=by omega
   rw[List.take_length]
   refine J 12 ?_
   refine .aS rfl rfl fun w s=>⟨some sb,?_,(decide_eq_true hc).symm,ak .auto s⟩
   rfl
theorem nU{W:World}  : Fn Tryz.prog W 16 [] [] Unit (fun _=>.bool true) (fun _=>True) (fun _=>[]):=by
 refine Fn.intro (N:=29) func16 rfl ntmps16 rfl fun F=>?_
 show ar _ _ _ _ _ _ [F]
 have hrl:((z24.aA 0).length:Int)=2:=by rw[N1];rfl
 obtain⟨r0,hr0,hx0⟩:=O0
 refine J 7 ?_
 refine .c call54 rfl (K8 (a:=1) (n:=7)) fun _ _=>?_
 refine .c call55 rfl (Jp (o:=38) (a:=1) (b:=0) (c:=0) (n:=0)) fun _ _=>?_
 refine .aj rfl (af.gj 94 rfl rfl (by kernel_rfl)) ?_
 rintro _ _ ⟨b5,rfl,rfl⟩
 refine .aj rfl (af.gj 95 rfl rfl (by kernel_rfl)) ?_
 rintro _ _ ⟨b6,rfl,rfl⟩
 refine .p (.gX (fun _=>eT (mo b5 b6)) rfl (by kernel_rfl)) ?_
 refine .aj rfl (af.gj 52 rfl rfl (by kernel_rfl)) ?_
 rintro _ _ ⟨b8,rfl,rfl⟩
 refine .c call19 rfl (xN (A:=MW b5 b6 b8) (v:=zp b8 1) (ps:=[mo b5 b6]) (u:=.slice none 0 0) (xs:=[]) (procs:=2) FZ Jo K6 Lv Rd.nil (by decide)) fun o ho=>?_
 rw[show[mo b5 b6].map bc.p=[Lu] from rfl,NZ] at ho
 rw[show[mo b5 b6].map bc.p=[Lu] from rfl]
 obtain⟨sb,rfl⟩:=Option.isSome_iff_exists.1 ho
 refine .fr (A:=optH (fun b=>D4 b ((Sy.new 2 [Lu]).ec (List.take 200 []))) (some sb)) (Bs:=[D4 sb vI]) .auto iJ ?_
 refine .o2 (C:=D4 sb vI) .auto rfl ?_
 rintro kb bl -
 refine J 10 ?_
 refine .cg call56 rfl (F0 (b:=sb) (kb:=kb) (bl:=bl)) fun _ _=>?_
 refine JD 4 (fun h16=>?_) fun h16=>?_
 ·cases h16
 ·refine J 5 ?_
  refine .c call15 rfl (Bf (b:=sb) (kb:=kb) (bl:=bl) (s:=z24) (n:=0) (N0.b.rn (by decide))) fun u18 _=>?_
  refine J 6 ?_
  refine .p (.fa (Y.Da underlying33 rfl Rd.s) hrl) ?_
  refine J 3 ?_
  refine .g (.ix 0 rfl rfl rfl (by rw[N1];decide)) ?_
  refine J 1 ?_
  refine .g (.fa (Y.load isAgg92 rfl (Cell.rd (enc:=iU) (k:=6) (v:=u18) (i:=0) (c:=2) Rd.s hr0 rfl)) hx0) ?_
  exact JR 6 ()
end Go.SLYtpbjdoplfgeliaaGreat
