/- Walks of functions, and what they compute. Conditions: none, this text proves no statement. -/
import Derived.Test.YthncobnjdhjnoaaGreatG05
import Derived.Test.YthncobnjdhjnoaaGreatProg
import Derived.Test.YthncobnjdhjnoaaGreatG10
import Derived.KernelRfl
import Derived.Test.YthncobnjdhjnoaaGreatG07
set_option maxRecDepth 20000
set_option maxHeartbeats 4000000
namespace Go.SLYthncobnjdhjnoaaGreat
open Go Go.RowKit Go.Proofs Go.Proofs.Tryz
attribute [local irreducible] aq aJ ba bq bu Y
theorem lH{W:World}{A:aa}{v:Value}{ps:List aW}{procs:Int}(hr:Rd W [A] fe 8 v ps)(hp:∀ p∈ps,ez W [A] p)(hb:ps.length≤1000000000∧ ∀ p∈ps,p.fs.length≤1000000000∧p.sems.length≤1000000000∧p.pipes.length≤1000000000):Fn Tryz.prog W 8 [.int .i64 procs,v] [A] (Option Nat) (fun o=>.tuple #[dN o,.int .i64 (fp procs (ps.map aW.p))]) (fun o=>o.isSome=decide (fp procs (ps.map aW.p)=0)) (fun o=>[optH (fun b=>ma b (Krn.new procs (ps.map aW.p))) o,A]):=by
 refine Fn.intro (N:=60) func8 rfl ntmps8 rfl fun F=>?_
 haveI hRI:∀ (H:List aa) [bE H A],aG W H v fe 8 ps:=fun H h=>⟨hr.at h.has⟩
 show aq _ _ _ _ _ _ [A,F]
 have hml:(ps.map aW.p).length=ps.length:=List.length_map ..
 refine J 12 ?_
 apply aJ.fY 3 16 13 [13,14,15,16] rfl
 ·intro h13
  exact JS 4
 ·intro h13
  exact JS 4
 refine J 1 ?_
 apply aJ.gM 4 21 17 [17,18,19,20,21] rfl
 ·intro h17
  exact JS 5
 ·intro h17
  exact JS 5
 refine J 1 ?_
 apply aJ.gM 4 26 22 [22,23,24,25,26] rfl
 ·intro h22
  exact JS 5
 ·intro h22
  exact JS 5
 refine JD 2 (fun h26=>?_) fun h26=>?_
 ·simp only[Bool.or_eq_true,decide_eq_true_eq] at h26
  refine J 8 ?_
  refine .eO rfl rfl rfl fun w s=>⟨none,?_,by rw[wX (by rw[hml];exact h26)];rfl,aj .auto s⟩
  rw[wX (by rw[hml];exact h26)];rfl
 ·simp only[Bool.or_eq_false_iff,decide_eq_false_iff_not] at h26
  refine J 4 ?_
  have hbd:1≤procs∧procs≤64∧1≤(ps.map aW.p).length∧(ps.map aW.p).length≤8:=by rw[hml];omega
  obtain⟨N,rfl⟩:∃ N:Nat,procs=(N:Int):=⟨procs.toNat,by omega⟩
  have hke:=F0 hbd
  refine .ai rfl (ab.fG 3 rfl rfl (by kernel_rfl)) ?_
  rintro _ _ ⟨b27,rfl,rfl⟩
  refine J 1 ?_
  refine .c call41 rfl (Gr (A:=arr b27 0 [.int .i64 (-1)]) (a := -1) (Rd.lit .here rfl (fun _ _=>rfl) rfl) (by omega)) fun u29 _=>?_
  refine .cA (fun w s=>Rd.shape (Rd.sl .auto) w s) fun e=>?_
  obtain⟨a29,c29,rfl⟩:=e
  rw[show(List.replicate N (-1:Int)).length=N from List.length_replicate ..]
  refine .p (.iK (fun v1=>[v1,(.slice none 0 0)]) rfl (by kernel_rfl)) ?_
  refine .ai rfl (ab.box rfl rfl rfl) ?_
  rintro _ _ ⟨b31,rfl,rfl⟩
  refine J 12 ?_
  refine .bf (X:=Nat×Value×List (Nat×Lib)) [4,5,8,9,10,34,35,36,37,38,39,40,41,42,43,44,45,46,47,48,49,50,51,52,53,54,55,56,57,58] (fun z=>ps.length-z.1) (fun z=>z.1≤ps.length∧z.2.2.length=z.1∧z.2.2.map (·.2)=((ps.map aW.p).take z.1).map (fun p=>Lib.new (Spc.new p) N)∧checkAll (ps.map aW.p)=checkAll ((ps.map aW.p).drop z.1)) (fun z=>[(34,some (.int .i64 (z.1:Int)))]) (fun z=>[arr b31 0 [.slice a29 N c29,z.2.1],sl ar 1 (.slice a29 N c29) (List.replicate N (-1)),sl cX 1 z.2.1 z.2.2,aO (fun x:Nat×Lib=>du x.1 x.2) z.2.2,A,F]) (0,.slice none 0 0,[]) ?_ ?_ ?_ ?_
  ·exact⟨Nat.zero_le _,rfl,rfl,rfl⟩
  ·exact⟨rfl,trivial⟩
  ·exact fun w s=>au.kept .auto w s
  rintro⟨n,vl,xs⟩ ⟨hk,hxl,hxm0,hck⟩
  simp only at hk hxl hxm0 hck
  refine JD 6 (fun h35=>?_) fun h35=>?_
  ·refine J 6 ?_
   obtain⟨x,hx⟩:=al (show n<ps.length by omega)
   have hxm:(ps.map aW.p)[n]?=some x.p:=by rw[List.getElem?_map,hx];rfl
   have hpx:=hp x (List.mem_of_getElem? hx)
   have hbx:=hb.2 x (List.mem_of_getElem? hx)
   refine .cA (fun w s=>FY hpx .auto w s) fun hone=>?_
   refine J 1 ?_
   refine .p (.la rfl (Cells.rd Rd.s hx)) ?_
   refine .ai rfl (ab.alloc rfl zeroValue60 rfl) ?_
   rintro _ _ ⟨b8,rfl,rfl⟩
   refine .ai rfl (ab.G3 (by exact sizeOf60) rfl rfl hone rfl) ?_
   rintro _ _ ⟨rfl,rfl⟩
   refine J 5 ?_
   refine .c call28 rfl (rI hpx hbx) fun o ho=>?_
   refine JD 14 (fun h44=>?_) fun h44=>?_
   ·refine J 14 ?_
    refine .eO rfl rfl rfl fun w s=>⟨none,?_,by rw[hke,hck,q7 hxm h44];exact(decide_eq_false h44).symm,aj .auto s⟩
    rw[hke,hck,q7 hxm h44];rfl
   ·have h44:=Decidable.of_not_not h44
    obtain⟨bs,rfl⟩:=Option.isSome_iff_exists.1 (ho.trans (decide_eq_true h44))
    refine .fr (A:=optH (fun b=>fX b (Spc.new x.p)) (some bs)) (Bs:=[fX bs (Spc.new x.p)]) .auto gN ?_
    refine .o1 (C:=fX bs (Spc.new x.p)) .auto rfl ?_
    rintro pt -
    refine J 2 ?_
    refine .draw [arr b31 0 [.slice a29 N c29,vl]] [0,0,0,0,0,1,1,2,2,2,1,1,3] rfl (by kernel_rfl) ?_
    refine J 7 ?_
    refine .c2 call30 rfl (A6 (bs:=bs) (ps:=pt) (s:=Spc.new x.p) (p:=(N:Int)) (nB _)) fun x53 _=>?_
    refine .d2 rfl Kept.auto (ab.fG 42 rfl rfl (by kernel_rfl)) (by rintro _ _ ⟨b54,rfl,rfl⟩;exact Kept.auto) ?_
    rintro _ _ ⟨b54,rfl,rfl⟩
    refine .d2 rfl Kept.auto (ab.gv (enc:=cX) (k:=1) ((x53,Lib.new (Spc.new x.p) N):Nat×Lib) rfl underlying83 underlying83 typeInfo42 rfl rfl rfl (by decide) rfl rfl rfl .auto rfl .auto (by first | omega | (dsimp only;omega)) rfl) (by rintro _ _ ⟨v55,rfl,rfl⟩;exact Kept.auto) ?_
    rintro _ _ ⟨v55,rfl,rfl⟩
    refine J 2 ?_
    refine .d3 rfl (ab.ng sizeOf83 rfl rfl rfl) ?_
    rintro _ _ ⟨rfl,rfl⟩
    refine J 7 ?_
    refine .aF (n+1,v55,xs++[(x53,Lib.new (Spc.new x.p) N)]) .auto rfl ?_ ?_ ?_ ?_
    ·show ps.length-(n+1)<ps.length-n;omega
    ·exact⟨by show n+1≤_;omega,by simp[hxl],by rw[bj hxm];simp[hxm0],by rw[hck,yX hxm h44]⟩
    ·exact⟨rfl,trivial⟩
    ·show ∀ w,Sat _ w _→Sat _ w (seps [_,_,sl cX 1 v55 (xs++[(x53,Lib.new (Spc.new x.p) N)]),aO (fun x:Nat×Lib=>du x.1 x.2) (xs++[(x53,Lib.new (Spc.new x.p) N)]),A,F])
     rw[lN]
     exact fun w s=>au.kept .auto w s
  ·refine J 13 ?_
   obtain rfl:n=ps.length:=by omega
   have hk0:fp N (ps.map aW.p)=0:=by rw[hke,hck,List.drop_of_length_le (by rw[hml];omega)];rfl
   have hxx:xs.map (·.1)=xs.map (·.1)∧xs.map (·.2)=(Krn.new N (ps.map aW.p)).libs:=⟨rfl,by rw[hxm0,List.take_of_length_le (by rw[hml];omega)];rfl⟩
   refine .eO rfl rfl rfl fun w s=>⟨some b31,?_,by rw[hk0];rfl,aj .auto s⟩
   rw[hk0];rfl
theorem yi{W:World}{b:Nat}{dv pv ov:Value}{d:Deal}{A:aa}(hd:Rd W [A] ar 1 dv d.demand)(hpr:Rd W [A] ar 1 pv d.prio)(hok:uM d){n:Nat}{p:Int}(hn:n<d.demand.length):Fn Tryz.prog W 129 [ptr b,.int .i64 (n:Int),.int .i64 p] [arr b 0 [.int .i64 d.left,dv,pv,ov],sl ar 1 ov d.out,A] Unit (fun _=>.bool (d.kD n p)) (fun _=>True) (fun _=>[arr b 0 [.int .i64 d.left,dv,pv,ov],sl ar 1 ov d.out,A]):=by
 refine Fn.intro (N:=33) func129 rfl ntmps129 rfl fun F=>?_
 haveI hRD:∀ (H:List aa) [bE H A],aG W H dv ar 1 d.demand:=fun H h=>⟨hd.at h.has⟩
 haveI hRP:∀ (H:List aa) [bE H A],aG W H pv ar 1 d.prio:=fun H h=>⟨hpr.at h.has⟩
 show aq _ _ _ _ _ _ [arr b 0 [.int .i64 d.left,dv,pv,ov],sl ar 1 ov d.out,A,F]
 obtain⟨z,hz⟩:=al hn
 obtain⟨x,hx⟩:=al (show n<d.prio.length by rw[hok.pl];exact hn)
 obtain⟨y,hy⟩:=al (show n<d.out.length by rw[hok.ol];exact hn)
 have hpl:=hok.pl
 have hol:=hok.ol
 have hdl:=hok.dl
 refine J 6 ?_
 refine .draw [] [1,1,1,1,1,1,1,1,1,1,1,1,1,1,1,1,1,1,1,1,1,1,1,1,1,1,1] rfl (by kernel_rfl) ?_
 refine J 5 ?_
 refine .p (.ix n rfl rfl rfl (by omega)) ?_
 refine .p (.lr rfl hx) ?_
 refine J 3 ?_
 apply ba.eT 16 32 16 [16,17,18,19,20,21,22,23,24,25,26,27,28,29,30,31,32] rfl
 ·intro h16
  refine J 5 ?_
  refine .g (.ix n rfl rfl rfl (by omega)) ?_
  refine .g (.lr rfl hy) ?_
  refine J 5 ?_
  refine .g (.ix n rfl rfl rfl (by omega)) ?_
  refine .g (.lr rfl hz) ?_
  exact JS 3
 ·intro h16
  exact JS 17
 refine J 4 ?_
 refine .aP rfl rfl fun w s=>⟨(),?_,trivial,aj .auto s⟩
 unfold Deal.kD;rw[bx hx,bx hy,bx hz]
theorem yj{W:World}{b:Nat}{dv pv ov:Value}{d:Deal}{p:Int}{f:Nat}{A:aa}(hd:Rd W [A] ar 1 dv d.demand)(hpr:Rd W [A] ar 1 pv d.prio)(hok:uM d)(hf:f<d.demand.length):Fn Tryz.prog W 108 [ptr b,.int .i64 p,.int .i64 (f:Int)] [arr b 0 [.int .i64 d.left,dv,pv,ov],sl ar 1 ov d.out,A] Unit (fun _=>.bool (d.round p f).2) (fun _=>True) (fun _=>[arr b 0 [.int .i64 (d.round p f).1.left,dv,pv,ov],sl ar 1 ov (d.round p f).1.out,A]):=by
 refine Fn.intro (N:=56) func108 rfl ntmps108 rfl fun F=>?_
 haveI hRD:∀ (H:List aa) [bE H A],aG W H dv ar 1 d.demand:=fun H h=>⟨hd.at h.has⟩
 haveI hRP:∀ (H:List aa) [bE H A],aG W H pv ar 1 d.prio:=fun H h=>⟨hpr.at h.has⟩
 show aq _ _ _ _ _ _ [arr b 0 [.int .i64 d.left,dv,pv,ov],sl ar 1 ov d.out,A,F]
 have hln:d.demand.length≤8:=hok.dl
 refine J 22 ?_
 refine .bf (X:=Nat×Deal×Bool) [7,8,9,15,16,17,18,19,20,21,22,23,24,25,26,27,28,29,30,31,32,33,34,35,36,37,38,39,40,41,42,43,44,45,46,47,48,49,50,51,52,53,54] (fun z=>d.demand.length-z.1) (fun z=>z.1≤d.demand.length∧uM z.2.1∧z.2.1.demand=d.demand∧z.2.1.prio=d.prio∧d.round p f=Deal.go p f (d.demand.length-z.1) z.1 z.2.1 z.2.2) (fun z=>[(15,some (.int .i64 (z.1:Int))),(7,some (.bool z.2.2))]) (fun z=>[arr b 0 [.int .i64 z.2.1.left,dv,pv,ov],sl ar 1 ov z.2.1.out,A,F]) (0,d,false) ?_ ?_ ?_ ?_
 ·exact⟨Nat.zero_le _,hok,rfl,rfl,rfl⟩
 ·exact⟨rfl,rfl,trivial⟩
 ·exact fun w s=>au.kept .auto w s
 rintro⟨k,d1,any⟩ ⟨hk,hok1,hdd,hdp,hgo⟩
 simp only at hk hok1 hdd hdp hgo
 refine JD 6 (fun h16=>?_) fun h16=>?_
 ·refine J 14 ?_
  refine .p (.add rfl rfl (by omega)) ?_
  refine J 5 ?_
  have hd1:d1.demand.length=d.demand.length:=by rw[hdd]
  obtain⟨n,hn⟩:∃ n,n=(f+k) % d.demand.length:=⟨_,rfl⟩
  have hnn:((f:Int)+(k:Int)).tmod (d.demand.length:Int)=(n:Int):=by
   rw[← Int.natCast_add,hn, ← Int.ofNat_tmod]
  have hnl:n<d.demand.length:=by rw[hn];exact Nat.mod_lt _ (by omega)
  have hkl:k<d1.demand.length:=by omega
  have hn1:n=(f+k) % d1.demand.length:=by rw[hd1];exact hn
  have hll:=hok1.left
  refine .p (.eS (Y.rem rfl rfl (by omega)) hnn) ?_
  refine J 11 ?_
  apply aJ.eT 5 37 32 [32,33,34,35,36,37] rfl
  ·intro h32
   refine J 3 ?_
   refine .cg call129 rfl (yi (d:=d1) (hdd ▸ hd) (hdp ▸ hpr) hok1 (n:=n) (by omega)) fun _ _=>?_
   exact JS 2
  ·intro h32
   exact JS 6
  refine JD 2 (fun h37=>?_) fun h37=>?_
  ·simp only[Bool.and_eq_true,decide_eq_true_eq] at h37
   obtain⟨y,hy⟩:=al (show n<d1.out.length by rw[hok1.ol];omega)
   have hol:=(List.getElem?_eq_some_iff.1 hy).1
   have hyb:y<1000000∧0≤y:=BN hok1 h37.2 hy (by omega)
   have hy1:d1.out.set n (y+1)=d1.out.set n (d1.out.getD n 0+1):=by rw[bx hy]
   refine J 7 ?_
   refine .p (.ix n rfl rfl rfl (by omega)) ?_
   refine .p (.lr rfl hy) ?_
   refine .p (.add rfl rfl (by omega)) ?_
   refine .p (.ix n rfl rfl rfl (by omega)) ?_
   refine .ai rfl (ab.ew (x':=y+1) rfl rfl sizeOf3 rfl hy (by decide) rfl .auto) ?_
   rintro _ _ ⟨rfl,rfl⟩
   refine J 8 ?_
   refine .p (.sub rfl rfl (by have:=h37.1;dsimp only;omega)) ?_
   refine J 14 ?_
   refine .aF (k+1,{d1 with out:=d1.out.set n (d1.out.getD n 0+1),left:=d1.left-1 },true) .auto rfl ?_ ?_ ?_ ?_
   ·show d.demand.length-(k+1)<d.demand.length-k;omega
   ·have hs:=ny h37
    have ok:=uN hok1 p n
    rw[hs] at ok
    exact⟨by show k+1≤_;omega,ok,hdd,hdp,by have:=AD (d:=d1) hgo hkl (by rw[hdd]) hn1 hs;rw[hd1,Bool.or_true] at this;exact this⟩
   ·exact⟨rfl,rfl,trivial⟩
   ·show ∀ w,Sat _ w _→Sat _ w (seps [_,sl ar 1 ov (d1.out.set n (d1.out.getD n 0+1)),A,F])
    rw[← hy1]
    exact fun w s=>au.kept .auto w s
  ·simp only[Bool.and_eq_false_iff,decide_eq_false_iff_not] at h37
   have h37:¬(0<d1.left∧d1.kD n p=true):=fun e=>h37.elim (fun h=>h e.1) (fun h=>by rw[e.2] at h;cases h)
   refine J 7 ?_
   refine .aF (k+1,d1,any) .auto rfl ?_ ?_ ?_ ?_
   ·show d.demand.length-(k+1)<d.demand.length-k;omega
   ·exact⟨by show k+1≤_;omega,hok1,hdd,hdp,by have:=AD (d:=d1) hgo hkl (by rw[hdd]) hn1 (nz h37);rw[hd1,Bool.or_false] at this;exact this⟩
   ·exact⟨rfl,rfl,trivial⟩
   ·exact fun w s=>au.kept .auto w s
 ·refine J 12 ?_
  obtain rfl:k=d.demand.length:=by omega
  rw[Nat.sub_self] at hgo
  rw[hgo]
  exact JR 0 ()
theorem Ac{W:World}{A:aa}{dv pv:Value}{procs turn:Int}{demand prio:List Int}(hd:Rd W [A] ar 1 dv demand)(hpr:Rd W [A] ar 1 pv prio)(hb:prio.length≤1000000000∧ ∀ z∈demand,z≤1000000):Fn Tryz.prog W 82 [.int .i64 procs,dv,pv,.int .i64 turn] [A] Value (fun u=>u) (fun _=>True) (fun u=>[sl ar 1 u ((kE procs demand prio turn).getD []),A]):=by
 refine Fn.intro (N:=70) func82 rfl ntmps82 rfl fun F=>?_
 show aq _ _ _ _ _ _ [A,F]
 refine .cA (fun w s=>Rd.shape (hd.at .here) w s) fun e=>?_
 obtain⟨ad,cd,rfl⟩:=e
 refine .cA (fun w s=>Rd.shape (hpr.at .here) w s) fun e=>?_
 obtain⟨ap,cp,rfl⟩:=e
 haveI hRD:∀ (H:List aa) [bE H A],aG W H (.slice ad demand.length cd) ar 1 demand:=fun H h=>⟨hd.at h.has⟩
 haveI hRP:∀ (H:List aa) [bE H A],aG W H (.slice ap prio.length cp) ar 1 prio:=fun H h=>⟨hpr.at h.has⟩
 refine J 20 ?_
 apply aJ.fY 3 23 20 [20,21,22,23] rfl
 ·intro h20
  exact JS 4
 ·intro h20
  exact JS 4
 refine J 1 ?_
 apply aJ.gM 4 28 24 [24,25,26,27,28] rfl
 ·intro h24
  refine J 1 ?_
  refine .cg call107 rfl nW fun _ _=>?_
  exact JS 3
 ·intro h24
  exact JS 5
 refine JD 2 (fun h28=>?_) fun h28=>?_
 ·simp only[Bool.or_eq_true,decide_eq_true_eq,Bool.not_eq_true'] at h28
  rw[AE h28]
  exact JR 7 (Value.slice none 0 0)
 ·simp only[Bool.or_eq_false_iff,decide_eq_false_iff_not,Bool.not_eq_false'] at h28
  have h28:demand.length=prio.length∧demand.length≤8∧within procs 64=true:=⟨by omega,by omega,h28.2⟩
  have hwp:=h28.2.2
  unfold within at hwp
  simp only[Bool.and_eq_true,decide_eq_true_eq] at hwp
  refine J 11 ?_
  refine .bf (X:=Nat) [8,11,31,32,33,34,35,36,37,38] (fun k=>prio.length-k) (fun k=>k≤prio.length∧(prio.take k).all (fun p=>within p 7)=true) (fun k=>[(31,some (.int .i64 (k:Int)))]) (fun k=>[A,F]) 0 ?_ ?_ ?_ ?_
  ·exact⟨Nat.zero_le _,rfl⟩
  ·exact⟨rfl,trivial⟩
  ·exact fun w s=>au.kept .auto w s
  rintro k ⟨hk,hal⟩
  refine JD 6 (fun h32=>?_) fun h32=>?_
  ·refine J 6 ?_
   obtain⟨x,hx⟩:=al (show k<prio.length by omega)
   refine J 1 ?_
   refine .p (.lr rfl hx) ?_
   refine J 6 ?_
   refine .c call107 rfl nW fun _ _=>?_
   refine JD 3 (fun h37=>?_) fun h37=>?_
   ·rw[wU hx (by simpa using h37)]
    exact JR 11 (Value.slice none 0 0)
   ·refine J 7 ?_
    refine .aF (k+1) .auto rfl ?_ ?_ ?_ ?_
    ·first | omega | (dsimp only;omega)
    ·exact⟨by omega,by rw[jo hx,hal];simpa using h37⟩
    ·exact⟨rfl,trivial⟩
    ·exact fun w s=>au.kept .auto w s
  ·obtain rfl:k=prio.length:=by omega
   rw[List.take_length] at hal
   refine J 11 ?_
   refine .ai rfl (ab.Bu (enc:=ar) (k:=1) 0 demand.length rfl underlying33 typeInfo3 rfl rfl rfl rfl (by decide) (by decide) rfl rfl rfl rfl (by omega)) ?_
   rintro _ _ ⟨b43,rfl,rfl⟩
   refine .p (.FJ (fun v1 v2 v3 v4=>[v1,v2,v3,v4]) rfl rfl rfl rfl (by kernel_rfl)) ?_
   refine .ai rfl (ab.box rfl rfl rfl) ?_
   rintro _ _ ⟨b45,rfl,rfl⟩
   refine JD 10 (fun h47=>?_) fun h47=>?_
   ·have h0:demand.length=0:=by omega
    rw[wV h28 hal h0]
    refine J 11 ?_
    rw[h0]
    refine .aP rfl rfl fun w s=>⟨.slice (some ⟨b43,0,none⟩) 0 0,?_,trivial,aj .auto s⟩
    rfl
   ·have h0:¬demand.length=0:=by omega
    have hn0:0<demand.length:=by omega
    rw[wW h28 hal h0]
    have hok0:=DM h28 hb.2
    refine J 9 ?_
    refine .bf (X:=Nat×Deal) [13,52,53,54,55,56,57,58,59,60,61,62,63,64,65] (fun z=>z.1) (fun z=>z.1≤8∧uM z.2∧z.2.demand=demand∧z.2.prio=prio∧priosN (pick turn demand.length) z.1 z.2=priosN (pick turn demand.length) 8 (HG procs demand prio)) (fun z=>[(13,some (.int .i64 ((z.1:Int)-1)))]) (fun z=>[arr b45 0 [.int .i64 z.2.left,.slice ad demand.length cd,.slice ap prio.length cp,(.slice (some ⟨b43,0,none⟩) demand.length demand.length)],sl ar 1 (.slice (some ⟨b43,0,none⟩) demand.length demand.length) z.2.out,A,F]) (8,HG procs demand prio) ?_ ?_ ?_ ?_
    ·exact⟨Nat.le_refl _,hok0,rfl,rfl,rfl⟩
    ·exact⟨rfl,trivial⟩
    ·exact fun w s=>au.kept .auto w s
    rintro⟨r,d⟩ ⟨hr8,hok,hdd,hdp,hpi⟩
    simp only at hr8 hok hdd hdp hpi
    refine JD 7 (fun h53=>?_) fun h53=>?_
    ·obtain⟨q,rfl⟩:∃ q,r=q+1:=⟨r - 1,by omega⟩
     refine J 5 ?_
     refine .bf (X:=Deal) [13,56,57,58,59,60,61,62,63,64,65] (fun z=>z.left.toNat) (fun z=>uM z∧z.demand=demand∧z.prio=prio∧dr (q:Int) (pick turn demand.length) z=dr (q:Int) (pick turn demand.length) d) (fun z=>[(13,some (.int .i64 (q:Int)))]) (fun z=>[arr b45 0 [.int .i64 z.left,.slice ad demand.length cd,.slice ap prio.length cp,(.slice (some ⟨b43,0,none⟩) demand.length demand.length)],sl ar 1 (.slice (some ⟨b43,0,none⟩) demand.length demand.length) z.out,A,F]) d ?_ ?_ ?_ ?_
     ·exact⟨hok,hdd,hdp,rfl⟩
     ·exact⟨show some (Value.int .i64 (((q+1:Nat):Int)-1))=some (.int .i64 (q:Int)) from by rw[show((q+1:Nat):Int)-1=(q:Int) by omega],trivial⟩
     ·exact fun w s=>au.kept .auto w s
     rintro d1 ⟨hok1,hdd1,hdp1,hdr⟩
     have hrf:=round_facts d1 (q:Int) (pick turn demand.length)
     refine J 7 ?_
     have hn0:0<demand.length:=by omega
     refine .p (.rem rfl rfl (by omega)) ?_
     refine J 1 ?_
     refine .p (.add rfl rfl (by have h1:=Int.lt_tmod_of_pos turn (show(0:Int)<(demand.length:Int) by omega);have h2:=Int.tmod_lt_of_pos turn (show(0:Int)<(demand.length:Int) by omega);omega)) ?_
     refine J 1 ?_
     refine .p (.eS (Y.rem rfl rfl (by omega)) (q6 hn0)) ?_
     refine .c call108 rfl (yj (d:=d1) (p:=(q:Int)) (f:=pick turn demand.length) (by rw[hdd1];exact hd) (by rw[hdp1];exact hpr) hok1 (by rw[hdd1];exact nA hn0)) fun _ _=>?_
     refine JD 2 (fun h65=>?_) fun h65=>?_
     ·refine J 5 ?_
      refine .aF ((d1.round (q:Int) (pick turn demand.length)).1) .auto rfl ?_ ?_ ?_ ?_
      ·have h1:=hrf.2.2.1 h65;have h2:=hrf.2.1 hok1.left.1;omega
      ·exact⟨hrf.2.2.2.2.2 hok1,by rw[hrf.2.2.2.1,hdd1],by rw[hrf.2.2.2.2.1,hdp1],by rw[← HF hok1.left.1 h65,hdr]⟩
      ·exact⟨rfl,trivial⟩
      ·exact fun w s=>au.kept .auto w s
     ·refine J 11 ?_
      refine .aF (q,(d1.round (q:Int) (pick turn demand.length)).1) .auto rfl ?_ ?_ ?_ ?_
      ·show q<q+1;omega
      ·exact⟨by show q≤8;omega,hrf.2.2.2.2.2 hok1,by rw[hrf.2.2.2.1,hdd1],by rw[hrf.2.2.2.2.1,hdp1],by rw[← hpi, ← IX h65,hdr];rfl⟩
      ·exact⟨rfl,trivial⟩
      ·exact fun w s=>au.kept .auto w s
    ·obtain rfl:r=0:=by omega
     refine J 15 ?_
     rw[← hpi]
     refine .aP rfl rfl fun w s=>⟨(.slice (some ⟨b43,0,none⟩) demand.length demand.length),?_,trivial,aj .auto s⟩
     rfl
end Go.SLYthncobnjdhjnoaaGreat
namespace Go.SLYthncobnjdhjnoaaGreat
open Go Go.RowKit
def Mo(l l':Lib):Prop:=∀ q:Nat,cH l'.vs (q:Int)≠0↔cH l.vs (q:Int)≠0
theorem Mo.refl(l:Lib):Mo l l:=fun _=>Iff.rfl
theorem Mo.trans{a b c:Lib}(h:Mo a b)(g:Mo b c):Mo a c:=fun q=>(g q).trans (h q)
theorem Mo.set{l l':Lib}{i:Nat}{v y:aR}(hv:l.vs[i]?=some v)(h0:v.mode≠0)(hy:y.mode≠0)(e:l'.vs=l.vs.set i y):Mo l l':=fun q=>by
 have hi:=(List.getElem?_eq_some_iff.1 hv).1
 rw[e,n8 hi]
 by_cases h:q=i
 ·subst h;rw[if_pos rfl, ← j6 hv];exact⟨fun _=>h0,fun _=>hy⟩
 ·rw[if_neg h]
theorem Mo.enter{l:Lib}{i:Nat}{v:aR}{m:Int}(hv:l.vs[i]?=some v)(h0:v.mode≠0)(hm:m≠0):Mo l (l.enter (i:Int) m):=by
 cases h:l.locked with
 | true=>rw[sr h];exact Mo.refl _
 | false=>exact Mo.set (y:={v with mode:=m }) hv h0 hm (by rw[pa hv h])
theorem Mo.leave{l:Lib}{i:Nat}{v:aR}{m t:Int}(hv:l.vs[i]?=some v)(h0:v.mode≠0)(hm:m≠0):Mo l (l.leave (i:Int) m t):=Mo.set (y:={v with mode:=m,af:=t }) hv h0 hm (by rw[su hv])
theorem Mo.tell(l:Lib)(ys:List Ev):Mo l (l.tell ys):=fun q=>not_congr ((ib l ys).2 q)
theorem CM(l:Lib)(p c:Int):Mo l (l.step p c).2.2:=by
 cases hh:l.has p with
 | false=>rw[oq hh];exact Mo.refl _
 | true =>
  obtain⟨i,v,rfl,hv,h0⟩:=jf hh
  by_cases h1:v.mode=1
  ·rw[vK hh hv h1]
   show Mo l (l.upcall (i:Int) c).2
   cases hw:(evWithin v.evs).isSome with
   | false=>rw[pf hv hw];exact Mo.enter hv h0 (by decide)
   | true =>
    rw[mZ hv hw]
    have key:Mo l (l.pe i v (wR v.evs)):=Mo.set (y:={v with evs:=wR v.evs }) hv h0 h0 rfl
    by_cases hm:(wE v.evs).mode=7
    ·by_cases hg:(l.bI.run (wE v.evs).af c).1.cB=true
     ·rw[mY hv hm hg];exact key
     ·rw[kA hv hm hg];exact key
    ·rw[mX hv hm];exact key
  by_cases h2:v.mode=2
  ·rw[vL hh hv h2]
   cases he:v.evs with
   | nil=>rw[m0 hv he];exact Mo.leave hv h0 (by decide)
   | cons e r =>
    by_cases hr:eP e=true
    ·rw[pg hv he hr];exact Mo.set (y:={v with evs:=r }) hv h0 h0 rfl
    ·rw[m3 hv he hr];exact Mo.set (y:={v with evs:=r }) hv h0 h0 rfl
  by_cases h3:v.mode=3
  ·rw[vM hh hv h3];exact Mo.enter hv h0 (by decide)
  by_cases h4:v.mode=4
  ·rw[vN hh hv h4]
   cases hp:(rPick l.rows (i:Int)).isSome with
   | false=>rw[(sA hp).1];exact Mo.leave hv h0 (by decide)
   | true=>rw[ph hp];exact Mo.leave (l:={l with rows:=kI l.rows (i:Int) }) hv h0 (by decide)
  by_cases h5:v.mode=5
  ·rw[vO hh hv h5]
   show Mo l (l.gY (i:Int) c).2
   by_cases hc:l.bI.class v.af=2
   ·rw[m4 hv hc];exact Mo.set (y:={v with mode:=6 }) hv h0 (by show(6:Int)≠0;decide) rfl
   ·by_cases hs:(l.bI.run v.af c).1.aK=true
    ·rw[pj hv hc hs]
     exact(Mo.set (y:=aR.new [⟨2,v.af,0⟩]) hv h0 (by show(1:Int)≠0;decide) rfl).trans (Mo.tell _ _)
    ·by_cases he:(l.bI.run v.af c).1.ended=true
     ·rw[sB hv hc hs he]
      exact(Mo.set (y:={v with mode:=3,af := -1 }) hv h0 (by show(3:Int)≠0;decide) rfl).trans (Mo.tell _ _)
     ·rw[pk hv hc hs he]
      exact(show Mo l (l.aL v.af c).2 from fun _=>Iff.rfl).trans (Mo.tell _ _)
  by_cases h6:v.mode=6
  ·rw[vP hh hv h6];exact Mo.enter hv h0 (by decide)
  by_cases h7:v.mode=7
  ·rw[vQ hh hv h7]
   show Mo l (l.inside (i:Int) c).2
   by_cases hg:(l.bI.run v.af c).1.cB=true
   ·by_cases hy:(l.bI.run v.af c).1.yielded=true
    ·rw[kB hv hg hy]
     exact Mo.leave (l:=((l.aL v.af c).2.fI (i:Int) (l.bI.run v.af c).1.aw).fI (i:Int) [v.af]) hv h0 (by decide)
    ·rw[pn hv hg hy]
     exact Mo.leave (l:=(l.aL v.af c).2.fI (i:Int) (l.bI.run v.af c).1.aw) hv h0 (by decide)
   ·rw[m5 hv hg]
    exact Mo.leave (l:=(l.aL v.af c).2.fI (i:Int) (l.bI.run v.af c).1.aw) hv h0 (by decide)
  by_cases h8:v.mode=8
  ·cases he:gX l.rows with
   | true=>rw[sC hh hv h8 he];exact Mo.refl _
   | false=>rw[sD hh hv h8 he];exact Mo.set (y:={v with mode:=3 }) hv h0 (by show(3:Int)≠0;decide) rfl
  ·rw[vR hh hv ⟨h1,h2,h3,h4,h5,h6,h7,h8⟩];exact Mo.refl _
theorem lI(l:Lib)(p:Int):aC 2 0 l (l.cF p).2:=by
 have h:=fa l p
 exact⟨h.len,congrArg _ h.rows,tP l p,fun m hm=>by rw[h.rows];exact hm⟩
theorem er.cF{k:Nat}{l:Lib}(h:er k l)(p:Int):er (k+1) (l.cF p).2:=h.of ((lI l p).le (by omega) (by omega)) (by rw[(fa l p).bI];exact h.sp.more (by omega))
def Krn.step(k:Krn)(p c:Int):(Int×fo×Int)×Krn :=
 match aV k.owner p with
 | none=>((0,fo.z,1),k)
 | some o=>if o = -1 then ((0,fo.z,11),k) else
  match aV k.libs o with
  | none=>((0,fo.z,11),k)
  | some l=>((o,(l.step p c).1,(l.step p c).2.1),⟨k.owner,k.libs.set o.toNat (l.step p c).2.2⟩)
theorem pw{k:Krn}{p c:Int}(h:¬eI k p=0):k.step p c=((0,fo.z,eI k p),k):=by
 unfold eI at h ⊢
 unfold Krn.step
 cases e:aV k.owner p with
 | none=>rfl
 | some o =>
  rw[e] at h
  simp only at h ⊢
  by_cases ho:o = -1
  ·rw[if_pos ho,if_pos ho]
  ·rw[if_neg ho] at h;exact absurd rfl h
theorem yk{k:Krn}{i n:Nat}{l:Lib}{c:Int}(ho:k.owner[i]?=some (n:Int))(hl:k.libs[n]?=some l):k.step (i:Int) c=(((n:Int),(l.step (i:Int) c).1,(l.step (i:Int) c).2.1),⟨k.owner,k.libs.set n (l.step (i:Int) c).2.2⟩):=by
 unfold Krn.step
 rw[bK,ho]
 simp only
 rw[if_neg (by omega),bK,hl]
 simp only[Int.toNat_natCast]
structure dT(n:Nat)(k:Krn):Prop where
 ag:gg k
 own:∀ v∈k.owner,v = -1∨(0≤v∧v<(k.libs.length:Int))
 ll:k.libs.length≤8
 oz:∀ l∈k.libs,er n l
theorem dT.ok{n:Nat}{k:Krn}(h:dT n k):qX (40 * (n+1)) k:=⟨h.own,h.ag.ol,h.ll,fun l hl=>⟨(h.oz l hl).ev,(h.oz l hl).vl,(h.oz l hl).sp.lt⟩⟩
theorem dT.more{n:Nat}{k:Krn}(h:dT n k):dT (n+1) k:=⟨h.ag,h.own,h.ll,fun l hl=>(h.oz l hl).more⟩
theorem dT.put{n:Nat}{k:Krn}(h:dT n k){i j:Nat}{o:Int}{l':Lib}(ho:o = -1∨(0≤o∧o<(k.libs.length:Int)))(ha:gg ⟨k.owner.set i o,k.libs.set j l'⟩)(hl:er (n+1) l'):dT (n+1) ⟨k.owner.set i o,k.libs.set j l'⟩:=by
 refine⟨ha,fun v hv=>?_,by show(k.libs.set j l').length≤8;rw[List.length_set];exact h.ll,fun x hx=>?_⟩
 ·show v = -1∨(0≤v∧v<((k.libs.set j l').length:Int))
  rw[List.length_set]
  rcases List.mem_or_eq_of_mem_set hv with e | e
  ·exact h.own v e
  ·subst e;exact ho
 ·rcases List.mem_or_eq_of_mem_set hx with e | e
  ·exact(h.oz x e).more
  ·subst e;exact hl
theorem dT.cz{n:Nat}{k:Krn}(h:dT n k){i j:Nat}{l:Lib}(ho:k.owner[i]?=some (-1))(hl:k.libs[j]?=some l):dT (n+1) (k.cz (i:Int) (j:Int)).2:=by
 rw[jy ho hl]
 have:=(List.getElem?_eq_some_iff.1 hl).1
 exact h.put (.inr ⟨by omega,by omega⟩) (h.ag.cz ho hl) ((h.oz l (List.mem_of_getElem? hl)).cO _)
theorem dT.take{n:Nat}{k:Krn}(h:dT n k)(p:Int):dT (n+1) (k.take p).2:=by
 by_cases e:eI k p=0
 ·obtain⟨i,j,l,rfl,ho,hl,e⟩:=gE h.ok e
  rw[e]
  exact h.put (.inl rfl) (h.ag.take ho hl) ((h.oz l (List.mem_of_getElem? hl)).cF _)
 ·rw[iv e];exact h.more
theorem gg.step{k:Krn}(h:gg k){j:Nat}{l l':Lib}(hl:k.libs[j]?=some l)(hm:Mo l l')(he:l'.vs.length=l.vs.length):gg ⟨k.owner,k.libs.set j l'⟩:=by
 refine⟨fun x hx=>?_,h.ol,fun q x hx p=>?_⟩
 ·rcases List.mem_or_eq_of_mem_set hx with e | e
  ·exact h.len x e
  ·subst e;rw[he];exact h.len l (List.mem_of_getElem? hl)
 ·have hx':(k.libs.set j l')[q]?=some x:=hx
  by_cases e:j=q
  ·subst e
   rw[List.getElem?_set_self (List.getElem?_eq_some_iff.1 hl).1] at hx'
   obtain rfl:=Option.some.inj hx'
   rw[hm p];exact h.iff j l hl p
  ·rw[List.getElem?_set_ne e] at hx'
   exact h.iff q x hx' p
theorem dT.step{n:Nat}{k:Krn}(h:dT n k)(hn:n≤180)(p c:Int):dT (n+1) (k.step p c).2:=by
 by_cases e:eI k p=0
 ·obtain⟨i,j,l,rfl,ho,hl, -⟩:=gE h.ok e
  rw[yk ho hl]
  have hli:=h.oz l (List.mem_of_getElem? hl)
  have ha:=h.ag.step hl (CM l (i:Int) c) (uk (hli.yz hn) (i:Int) c).vs
  refine⟨ha,fun v hv=>?_,by show(k.libs.set j _).length≤8;rw[List.length_set];exact h.ll,fun x hx=>?_⟩
  ·show v = -1∨(0≤v∧v<((k.libs.set j _).length:Int));rw[List.length_set];exact h.own v hv
  ·rcases List.mem_or_eq_of_mem_set hx with e | e
   ·exact(h.oz x e).more
   ·subst e;exact hli.step hn _ _
 ·rw[pw e];exact h.more
end Go.SLYthncobnjdhjnoaaGreat
namespace Go.SLYthncobnjdhjnoaaGreat
open Go Go.RowKit
section
variable{P:Program}{W:World}{N:Nat}{L:List (Nat×Option Value)}{H:List aa}
theorem bq.Ad{fn:Func}{R:Ending→World→Prop}{E:TypeId}{t t2 t3 b o:Nat}{cs:List Value}{v2 v3:Value}(hr:fn.results = #[.tmp t2,.cell t E,.tmp t3])(ht:look L t=some (.pointer (some ⟨b,o,none⟩)))(hg:∀ w,(isAgg E).run P w = .ok true w)(hz:∀ w,(sizeOf E).run P w = .ok cs.length w)(hc:Cells W H b o cs)(h2:look L t2=some v2)(h3:look L t3=some v3)
  (h:∀ w,Sat W w (seps H)→R (.returned (.tuple #[v2,.agg cs.toArray,v3])) w):bq W N (bodyPost P fn R) .ret L H :=
 bq.Bo (fun a w ha hs=>by
  have hl:=fJ (P:=P) (w:=w) hg hz fun i v hv=>hc i v hv w hs
  simp[results,hr,ha.get _ _ ht,asAddr,hl,ha.get _ _ h2,ha.get _ _ h3]) h
end
theorem sE(k:Krn):k.free.length=k.owner.count (-1):=by unfold Krn.free;rw[nZ,gF]
theorem vU{n:Int}:∀ {o:List Int} {k:Nat} {p:Int},p∈posFrom n o k→ ∃ i:Nat,p=((k+i:Nat):Int)∧o[i]?=some n
 | [],_,_,h=>by cases h
 | x::o,k,p,h=>by
  unfold posFrom at h
  split at h
  ·rename_i e
   rcases List.mem_cons.1 h with rfl | h
   ·exact⟨0,rfl,by rw[e];rfl⟩
   ·obtain⟨i,h1,h2⟩:=vU h
    exact⟨i+1,by rw[h1];omega,by simpa using h2⟩
  ·obtain⟨i,h1,h2⟩:=vU h
   exact⟨i+1,by rw[h1];omega,by simpa using h2⟩
theorem CN{k:Krn}(h:gg k){n:Nat}{l:Lib}(hl:k.libs[n]?=some l){p:Int}(hp:p∈l.procs):k.eG p=((n:Int),true):=by
 rw[h.procs hl] at hp
 obtain⟨i,rfl,hi⟩:=vU hp
 rw[Nat.zero_add]
 exact oI hi (by omega)
theorem uo{k:Krn}(h:gg k){n:Nat}{l:Lib}(hl:k.libs[n]?=some l):l.procs.length=k.owner.count (n:Int):=by rw[h.procs hl];exact gF _ _ _
theorem CO{n:Nat}{k:Krn}(h:dT n k):k.free.length+cntTo k.owner k.libs.length=k.owner.length:=by rw[sE];exact(vy h.own).symm
end Go.SLYthncobnjdhjnoaaGreat
namespace Go.SLYthncobnjdhjnoaaGreat
open Go Go.RowKit Go.Proofs Go.Proofs.Tryz
attribute [local irreducible] aq aJ ba bq bu Y
theorem l8{W:World}{b:Nat}{bl:List Nat}{k:Krn}{p c:Int}{m:Nat}(hk:dT m k)(hm:m≤180):Fn Tryz.prog W 12 [ptr b,.int .i64 p,.int .i64 c] [bX b bl k] Value (fun u=>.tuple #[.int .i64 (k.step p c).1.1,.agg (cC u (k.step p c).1.2.1).toArray,.int .i64 (k.step p c).1.2.2]) (fun _=>True) (fun u=>[sl ar 1 u (k.step p c).1.2.1.ug.aw,bX b bl (k.step p c).2]):=by
 refine Fn.intro (N:=38) func12 rfl ntmps12 rfl fun F=>?_
 show aq _ _ _ _ _ _ [bX b bl k,F]
 refine J 3 ?_
 refine .ai rfl (ab.alloc rfl zeroValue37 rfl) ?_
 rintro _ _ ⟨b7,rfl,rfl⟩
 refine J 7 ?_
 refine .c call43 rfl (um hk.ok) fun _ _=>?_
 refine JD 14 (fun h19=>?_) fun h19=>?_
 ·refine J 2 ?_
  refine .p (.l9 (cC (.slice none 0 0) fo.z) (by kernel_rfl)) ?_
  refine J 2 ?_
  refine .ai rfl (ab.gC (vs:=cC (.slice none 0 0) fo.z) (by exact sizeOf37) rfl rfl (by rfl) (by rfl)) ?_
  rintro _ _ ⟨rfl,rfl⟩
  refine J 5 ?_
  rw[pw h19]
  refine .Ad rfl rfl isAgg37 (by exact sizeOf37) Cells.a rfl rfl fun w s=>⟨(.slice none 0 0),?_,trivial,aj .auto s⟩
  rfl
 ·refine J 4 ?_
  refine .o3 (C:=bX b bl k) .auto rfl ?_
  rintro vo vl xs ⟨hxb,hxs⟩
  have hxl:=aE hxs
  have hbl:=aE hxb
  have hxx:=And.intro hxb hxs
  obtain⟨i,n,l,rfl,ho,hl, -⟩:=gE hk.ok (Decidable.of_not_not h19)
  obtain⟨x,hx,rfl,hbx⟩:=gb hxb hxs hl
  have hil:=(List.getElem?_eq_some_iff.1 hx).1
  have hio:=(List.getElem?_eq_some_iff.1 ho).1
  have hlo:=hk.oz x.2 (List.mem_of_getElem? hl)
  rw[yk ho hl]
  rw[(k6 (bl:=bl) ho).2,hbx]
  refine .fr .auto (cY (f:=fun x:Nat×Lib=>du x.1 x.2) hx) ?_
  refine .o2 (C:=du x.1 x.2) .auto rfl ?_
  rintro bs br -
  refine J 3 ?_
  refine .c call31 rfl (ot (l:=x.2) (b:=x.1) (bs:=bs) (br:=br) (p:=(i:Int)) (c:=c) (hlo.sz hm) (fun t=>hlo.yz hm t _)) fun u26 _=>?_
  refine .cA (fun w s=>Rd.isSl (Rd.sl .auto) w s) fun hu26=>?_
  refine .to (A:=aO (fun x:Nat×Lib=>du x.1 x.2) (xs.set n (x.1,(x.2.step (i:Int) c).2.2))) .auto (oH (f:=fun x:Nat×Lib=>du x.1 x.2) (x.1,(x.2.step (i:Int) c).2.2) hx) ?_
  have hss:=uL hxb hxs hx (x.2.step (i:Int) c).2.2
  refine .to (A:=sl cX 1 vl (xs.set n (x.1,(x.2.step (i:Int) c).2.2))) (Bs:=[sl cX 1 vl xs]) .auto (yW (hxb.trans hss.1.symm)) ?_
  refine J 1 ?_
  refine .p (.extract (v:=.agg (cC u26 (x.2.step (i:Int) c).1).toArray) rfl rfl) ?_
  refine .p (.extract (v:=.int .i64 (x.2.step (i:Int) c).2.1) rfl rfl) ?_
  refine .ai rfl (ab.alloc rfl zeroValue37 rfl) ?_
  rintro _ _ ⟨b11,rfl,rfl⟩
  refine .ai rfl (ab.gC (vs:=cC u26 (x.2.step (i:Int) c).1) (by exact sizeOf37) rfl rfl (cy hu26) (by rfl)) ?_
  rintro _ _ ⟨rfl,rfl⟩
  refine J 4 ?_
  refine .draw [arr b11 0 (cC u26 (x.2.step (i:Int) c).1)] [1,1,1,1,1,1,1,1,0,1,2,1] rfl (by kernel_rfl) ?_
  refine J 5 ?_
  refine .p (.ix i rfl rfl rfl (by omega)) ?_
  refine .p (.lr rfl ho) ?_
  refine J 3 ?_
  refine .d2 rfl Kept.auto (ab.gC (vs:=cC u26 (x.2.step (i:Int) c).1) (by exact sizeOf37) rfl rfl (cy hu26) (by rfl)) (by rintro _ _ ⟨rfl,rfl⟩;exact Kept.auto) ?_
  rintro _ _ ⟨rfl,rfl⟩
  refine J 4 ?_
  refine .Ad rfl rfl isAgg37 (by exact sizeOf37) Cells.a rfl rfl fun w s=>⟨u26,?_,trivial,aj .auto s⟩
  rfl
end Go.SLYthncobnjdhjnoaaGreat
namespace Go.SLYthncobnjdhjnoaaGreat
open Go Go.RowKit
theorem dT.new{procs:Int}{l:List gD}(h:fp procs l=0)(hw:∀ p∈l, ∀ f∈p.funcs, ∀ i∈f,fu i.n):dT 0 (Krn.new procs l):=by
 have hi:=(vA h).1
 have hc:∀ p∈l,c0 p=0:=by
  unfold fp at h
  split at h
  ·cases h
  ·exact jg h
 refine⟨hi.ag,hi.ok.own,hi.ok.ll,fun x hx=>?_⟩
 obtain⟨p,hp,rfl⟩:=List.mem_map.1 hx
 exact er.new (jj.new ⟨hc p hp,hw p hp⟩) procs
/-! law 17's own fact -/
def Ae:Krn:=Krn.new 3 [sY,sY]
def jh:Krn:=(Ae.cz 1 1).2
def sZ:Krn:=(jh.take 1).2
theorem KC:fp 3 [sY,sY]=0:=by decide +kernel
theorem Jz:dT 0 Ae:=dT.new KC (fun p hp=>by
 have:p=sY:=by simpa using hp
 subst this
 exact Jw.2)
theorem Fs:dT 1 jh:=Jz.cz (i:=1) (j:=1) (l:=Lib.new (Spc.new sY) 3) rfl rfl
theorem Kj:(Ae.cz 1 1).1=0:=by decide +kernel
theorem Kk:(jh.cz 1 0).1=4:=by decide +kernel
theorem Kl:(jh.cz 1 2).1=1:=by decide +kernel
theorem K1:jh.eG 1=(1,true):=by decide +kernel
theorem KD:eI jh 0=11:=by decide +kernel
theorem t17:(jh.take 1).1=0:=by decide +kernel
theorem f17:sZ.free=[0,1,2]:=by decide +kernel
theorem d17:sZ.demand=[1,1]:=by decide +kernel
theorem KE:sZ.libs.length=2∧sZ.owner.length=3:=by decide +kernel
theorem Km:(jh.cz 1 0).2=jh:=by
 show(jh.cz ((1:Nat):Int) ((0:Nat):Int)).2=jh
 rw[mA (o:=1) (l:=Lib.new (Spc.new sY) 3) rfl rfl (by decide)]
theorem Kn:(jh.cz 1 2).2=jh:=rfl
theorem Hn:dT 2 sZ:=Fs.take 1
def Ko(x y z:Nat):aa:=seps [arr z 0 (rows fe [iG x y,iG x y]),arr y 0 [v8 x 1],arr x 0 (rows dO IJ)]
theorem Ft{W:World}{x y z:Nat}:Rd W [Ko x y z] fe 8 (v8 z 2) [iG x y,iG x y]:=Rd.et (Rd.lit .here rfl (fun _ _=>rfl) rfl)
theorem GX{W:World}{x y z:Nat}:∀ p∈ [iG x y,iG x y],ez W [Ko x y z] p:=fun p hp=>by
 have e:p=iG x y:=by simpa using hp
 subst e
 refine⟨Rd.et (Rd.lit (.there .here) rfl (fun _ _=>rfl) rfl),fun q hq=>?_,Rd.nil,Rd.nil⟩
 rw[show(iG x y).fs=[(v8 x 1,IJ)] from rfl,List.mem_singleton] at hq
 subst hq
 exact Rd.et (Rd.lit (.there (.there .here)) rfl (fun _ _=>rfl) rfl)
theorem IF{x y:Nat}:[iG x y,iG x y].length≤1000000000∧ ∀ p∈ [iG x y,iG x y],p.fs.length≤1000000000∧p.sems.length≤1000000000∧p.pipes.length≤1000000000:=⟨by show 2≤_;decide,fun p hp=>by
 have e:p=iG x y:=by simpa using hp
 subst e
 exact⟨by show 1≤_;decide,by show 0≤_;decide,by show 0≤_;decide⟩⟩
end Go.SLYthncobnjdhjnoaaGreat
namespace Go.SLYthncobnjdhjnoaaGreat
open Go Go.RowKit Go.Proofs Go.Proofs.Tryz
attribute [local irreducible] aq aJ ba bq bu Y
theorem gR{W:World}  : Fn Tryz.prog W 9 [] [] Unit (fun _=>.bool true) (fun _=>True) (fun _=>[]):=by
 refine Fn.intro (N:=96) func9 rfl ntmps9 rfl fun F=>?_
 show aq _ _ _ _ _ _ [F]
 refine J 7 ?_
 refine .p (.sK (fun v1 v2 v3=>[v1,v2,(.int .i64 0),(.int .i64 0),v3]) rfl rfl rfl (by kernel_rfl)) ?_
 refine .ai rfl (ab.fG 88 rfl rfl (by kernel_rfl)) ?_
 rintro _ _ ⟨b14,rfl,rfl⟩
 refine .ai rfl (ab.fG 89 rfl rfl (by kernel_rfl)) ?_
 rintro _ _ ⟨b15,rfl,rfl⟩
 refine .p (.iK (fun _=>fe (iG b14 b15)) rfl (by kernel_rfl)) ?_
 refine .ai rfl (ab.alloc rfl zeroValue60 rfl) ?_
 rintro _ _ ⟨b1,rfl,rfl⟩
 refine J 7 ?_
 refine .ai rfl (ab.fG 60 rfl rfl (by kernel_rfl)) ?_
 rintro _ _ ⟨b20,rfl,rfl⟩
 refine .c call8 rfl (lH (A:=Ko b14 b15 b20) (v:=v8 b20 2) (ps:=[iG b14 b15,iG b14 b15]) (procs:=3) Ft GX IF) fun o ho=>?_
 rw[show[iG b14 b15,iG b14 b15].map aW.p=[sY,sY] from rfl,KC] at ho ⊢
 obtain⟨kb,rfl⟩:=Option.isSome_iff_exists.1 ho
 refine .fr (A:=optH (fun b=>ma b (Krn.new 3 [sY,sY])) (some kb)) (Bs:=[ma kb Ae]) .auto gN ?_
 refine .o1 (C:=ma kb Ae) .auto rfl ?_
 rintro bl -
 refine JD 18 (fun h29=>?_) fun h29=>?_
 ·cases h29
 ·refine J 5 ?_
  refine .c call10 rfl (fS (k:=Ae) (p:=1) (n:=1) Jz.ok (by decide)) fun _ _=>?_
  rw[Kj,show(Ae.cz 1 1).2=jh from rfl]
  refine J 1 ?_
  refine .c call10 rfl (fS (k:=jh) (p:=1) (n:=0) Fs.ok (by decide)) fun _ _=>?_
  rw[Kk,Km]
  refine J 1 ?_
  refine .c call10 rfl (fS (k:=jh) (p:=1) (n:=2) Fs.ok (by decide)) fun _ _=>?_
  rw[Kl,Kn]
  refine J 8 ?_
  refine .c call17 rfl (na (k:=jh) (p:=1)) fun _ _=>?_
  rw[K1]
  refine J 1 ?_
  refine .p (.extract (v:=.int .i64 1) rfl rfl) ?_
  refine .p (.extract (v:=.bool true) rfl rfl) ?_
  refine J 7 ?_
  refine .c call12 rfl (l8 (k:=jh) (p:=0) (c:=0) Fs (by decide)) fun u43 _=>?_
  refine .cA (fun w s=>Rd.isSl (Rd.sl .auto) w s) fun hu43=>?_
  rw[pw (k:=jh) (p:=0) (by rw[KD];decide),KD]
  refine J 1 ?_
  refine .p (.extract (v:=.int .i64 0) rfl rfl) ?_
  refine .p (.extract (v:=.agg (cC u43 fo.z).toArray) rfl rfl) ?_
  refine .p (.extract (v:=.int .i64 11) rfl rfl) ?_
  refine .ai rfl (ab.alloc rfl zeroValue37 rfl) ?_
  rintro _ _ ⟨b10,rfl,rfl⟩
  refine J 1 ?_
  refine .ai rfl (ab.gC (vs:=cC u43 fo.z) (by exact sizeOf37) rfl rfl (cy hu43) (by rfl)) ?_
  rintro _ _ ⟨rfl,rfl⟩
  refine J 6 ?_
  refine .c call11 rfl (jQ (k:=jh) (p:=1) Fs.ok (by decide)) fun _ _=>?_
  rw[t17,show(jh.take 1).2=sZ from rfl]
  refine J 32 ?_
  refine .cg call13 rfl (jP (k:=sZ) Hn.ag.ol) fun u76 _=>?_
  rw[f17]
  refine .dg rfl rfl rfl (ab.fG 3 rfl rfl (by kernel_rfl)) ?_
  rintro _ _ ⟨b77,rfl,rfl⟩
  refine .cg call20 rfl (iE (A:=seps [sl ar 1 u76 [0,1,2],arr b77 0 [.int .i64 0,.int .i64  1,.int .i64  2]]) (xs:=[0,1,2]) (ys:=[0,1,2]) (Rd.et (Rd.sl .here)) (Rd.et (Rd.lit (.there .here) rfl (fun _ _=>rfl) rfl)) (by decide)) fun _ _=>?_
  refine J 3 ?_
  refine .cg call19 rfl (fR (k:=sZ) Hn.ok) fun u82 _=>?_
  rw[d17]
  refine .dg rfl rfl rfl (ab.fG 3 rfl rfl (by kernel_rfl)) ?_
  rintro _ _ ⟨b83,rfl,rfl⟩
  refine .cg call20 rfl (iE (A:=seps [sl ar 1 u82 [1,1],arr b83 0 [.int .i64 1,.int .i64  1]]) (xs:=[1,1]) (ys:=[1,1]) (Rd.et (Rd.sl .here)) (Rd.et (Rd.lit (.there .here) rfl (fun _ _=>rfl) rfl)) (by decide)) fun _ _=>?_
  refine J 3 ?_
  refine .cg call14 rfl (iX (k:=sZ)) fun _ _=>?_
  rw[KE.1]
  refine J 4 ?_
  refine .cg call18 rfl (iH (k:=sZ)) fun _ _=>?_
  rw[KE.2]
  exact JR 6 ()
end Go.SLYthncobnjdhjnoaaGreat
namespace Go.SLYthncobnjdhjnoaaGreat
open Go Go.RowKit
theorem dT.JA{n:Nat}{k:Krn}(h:dT n k)(p q:Int):dT (n+1) (k.cz p q).2:=by
 cases e1:aV k.owner p with
 | none=>unfold Krn.cz;rw[e1];exact h.more
 | some o =>
  cases e2:aV k.libs q with
  | none=>unfold Krn.cz;rw[e1,e2];exact h.more
  | some l =>
   by_cases ho:o = -1
   ·obtain⟨p0, -,hp⟩:=dj e1
    obtain⟨q0, -,hq⟩:=dj e2
    subst ho
    have:=h.cz hp hq
    rwa [show((p.toNat:Nat):Int)=p from by omega,show((q.toNat:Nat):Int)=q from by omega] at this
   ·unfold Krn.cz;rw[e1,e2];simp only;rw[if_neg ho];exact h.more
theorem Fu(k:Krn){n:Nat}{l:Lib}(h:gg k)(hl:k.libs[n]?=some l)(f:Nat):((f+cntTo k.owner n:Nat):Int)+(l.procs.length:Int)=((f+cntTo k.owner (n+1):Nat):Int):=by
 have:=uo h hl
 show _=((f+(cntTo k.owner n+k.owner.count (n:Int)):Nat):Int)
 omega
theorem ym{o:List Int}(h:o.length≤64):∀ n,cntTo o n≤n * 64
 | 0=>by unfold cntTo;omega
 | n+1=>by
  show cntTo o n+o.count (n:Int)≤_
  have h1:=ym h n
  have h2:o.count (n:Int)≤64:=Nat.le_trans List.count_le_length h
  omega
theorem dT.vV{n i:Nat}{k:Krn}(h:dT n k)(hi:i≤k.libs.length):k.free.length+cntTo k.owner i≤1000:=by
 have h1:=ym h.ag.ol i
 have h2:k.free.length≤64:=by rw[sE];exact Nat.le_trans List.count_le_length h.ag.ol
 have:=h.ll
 omega
end Go.SLYthncobnjdhjnoaaGreat
namespace Go.SLYthncobnjdhjnoaaGreat
open Go Go.RowKit Go.Proofs Go.Proofs.Tryz
attribute [local irreducible] aq aJ ba bq bu Y
theorem Af{W:World}{A:aa}{v:Value}{ps:List aW}(hr:Rd W [A] fe 8 v ps)(hp:∀ p∈ps,ez W [A] p)(hb:ps.length≤1000000000∧ ∀ p∈ps,p.fs.length≤1000000000∧p.sems.length≤1000000000∧p.pipes.length≤1000000000)(hw:∀ p∈ps.map aW.p, ∀ f∈p.funcs, ∀ i∈f,fu i.n){np:Int}{u:Value}{acts:List Ij}(ha:Rd W [A] rE 3 u acts)(_hal:acts.length≤1000000000)(hnp:0≤np∧np≤255):Fn Tryz.prog W 3 [.int .u8 np,v,u] [A] Unit (fun _=>.bool true) (fun _=>True) (fun _=>[A]):=by
 refine Fn.intro (N:=126) func3 rfl ntmps3 rfl fun F=>?_
 haveI hRI:∀ (H:List aa) [bE H A],aG W H u rE 3 acts:=fun H h=>⟨ha.at h.has⟩
 show aq _ _ _ _ _ _ [A,F]
 obtain⟨mk,hmkd⟩:∃ mk,mk=np.toNat % 9:=⟨_,rfl⟩
 have hmk9:mk<9:=by rw[hmkd];exact Nat.mod_lt _ (by decide)
 have hmk:np.tmod 9=(mk:Int):=by
  obtain⟨m,rfl⟩:∃ m:Nat,np=(m:Int):=⟨np.toNat,by omega⟩
  rw[hmkd,Int.toNat_natCast];exact(Int.ofNat_tmod m 9).symm
 refine J 8 ?_
 refine .p (.eS (Y.rem rfl rfl (by omega)) hmk) ?_
 refine .p (.gm underlying5 underlying3 rfl (by omega)) ?_
 refine .p (.add rfl rfl (by omega)) ?_
 refine J 1 ?_
 refine .c call8 rfl (lH (procs:=(mk:Int)+1) hr hp hb) fun o ho=>?_
 refine JD 14 (fun h26=>?_) fun h26=>?_
 ·have h0:o.isSome=false:=ho.trans (decide_eq_false h26)
  obtain rfl:o=none:=by cases o with
   | none=>rfl
   | some z=>cases h0
  refine J 2 ?_
  refine .c call9 rfl gR fun _ _=>?_
  exact JR 9 ()
 ·have hc:fp ((mk:Int)+1) (ps.map aW.p)=0:=Decidable.not_not.mp h26
  obtain⟨kb,rfl⟩:=Option.isSome_iff_exists.1 (ho.trans (decide_eq_true hc))
  refine .fr (A:=optH (fun b=>ma b (Krn.new ((mk:Int)+1) (ps.map aW.p))) (some kb)) (Bs:=[ma kb (Krn.new ((mk:Int)+1) (ps.map aW.p))]) .auto gN ?_
  refine .o1 (C:=ma kb (Krn.new ((mk:Int)+1) (ps.map aW.p))) .auto rfl ?_
  rintro bl -
  have hI0:=dT.new hc hw
  refine J 9 ?_
  refine .bf (X:=Nat×Krn) [6,9,10,11,12,13,14,15,32,33,34,35,36,37,38,39,40,41,42,43,44,45,46,47,48,49,50,51,52,53,54,55,56,57,58,59,60,61,62,63,64,65,66,67,68,69,70,71,72,73,74,75,76,77,78,79,80,81,82,83,84,85,86,87,88,89,90,91,92,93,94,95,96,97,98,99,100,101,102,103,104,105,106,107,108,109,110,111,112,113,114,115,116,117,118,119,120,121,122,123,124] (fun z=>acts.length-z.1) (fun z=>z.1≤acts.length∧z.1≤100∧dT z.1 z.2) (fun z=>[(9,some (.int .i64 (z.1:Int)))]) (fun z=>[bX kb bl z.2,A,F]) (0,(Krn.new ((mk:Int)+1) (ps.map aW.p))) ?_ ?_ ?_ ?_
  ·exact⟨Nat.zero_le _,Nat.zero_le _,hI0⟩
  ·exact⟨rfl,trivial⟩
  ·exact fun w s=>au.kept .auto w s
  rintro⟨j,k⟩ ⟨hj,hj2,hI⟩
  simp only at hj hj2 hI
  refine J 8 ?_
  apply aJ.eT 3 39 36 [36,37,38,39] rfl
  ·intro h36
   exact JS 4
  ·intro h36
   exact JS 4
  refine JD 2 (fun h39=>?_) fun h39=>?_
  ·simp only[Bool.and_eq_true,decide_eq_true_eq] at h39
   refine J 4 ?_
   refine .yD (X:=Krn) [42,43,44,45,46,47,48,49,50,51,52,53,54,55,56,57,58,59,60,61,62,63,64,65,66,67,68,69,70,71,72,73,74,75,76,77,78,79,80,81] (fun k2=>dT (j+1) k2) (fun _=>[]) (fun k2=>[bX kb bl k2,A,F]) ?_ ?_
   ·refine J 2 ?_
    obtain⟨x,hx⟩:=al (show j<acts.length by omega)
    refine J 2 ?_
    refine .p (.ix j rfl rfl rfl (by omega)) ?_
    refine J 1 ?_
    refine .p (.lr rfl hx) ?_
    refine JD 9 (fun h60=>?_) fun h60=>?_
    ·refine .draw [] [1,1,1,1,1,1,1,1,1,1,1,3] rfl (by kernel_rfl) ?_
     refine J 3 ?_
     refine .p (.ix j rfl rfl rfl (by omega)) ?_
     refine J 1 ?_
     refine .p (.ld rfl (Cell.rd (c:=1) Rd.s hx rfl)) ?_
     refine J 2 ?_
     refine .p (.ix j rfl rfl rfl (by omega)) ?_
     refine J 1 ?_
     refine .p (.ld rfl (Cell.rd (c:=2) Rd.s hx rfl)) ?_
     refine .c call10 rfl (fS (k:=k) (p:=x.slot) (n:=x.choice) hI.ok (by omega)) fun _ _=>?_
     refine J 2 ?_
     refine .hP (k.cz x.slot x.choice).2 .auto ?_ ?_ ?_
     ·exact hI.JA x.slot x.choice
     ·trivial
     ·exact fun w s=>au.kept .auto w s
    ·refine JD 6 (fun h74=>?_) fun h74=>?_
     ·refine J 4 ?_
      refine .p (.ix j rfl rfl rfl (by omega)) ?_
      refine J 1 ?_
      refine .p (.ld rfl (Cell.rd (c:=1) Rd.s hx rfl)) ?_
      refine .c call11 rfl (jQ (k:=k) (p:=x.slot) hI.ok (by omega)) fun _ _=>?_
      refine J 2 ?_
      refine .hP (k.take x.slot).2 .auto ?_ ?_ ?_
      ·exact hI.take _
      ·trivial
      ·exact fun w s=>au.kept .auto w s
     ·refine .draw [] [1,1,1,1,1,1,1,1,1,1,1,3] rfl (by kernel_rfl) ?_
      refine J 3 ?_
      refine .p (.ix j rfl rfl rfl (by omega)) ?_
      refine J 1 ?_
      refine .p (.ld rfl (Cell.rd (c:=1) Rd.s hx rfl)) ?_
      refine J 2 ?_
      refine .p (.ix j rfl rfl rfl (by omega)) ?_
      refine J 1 ?_
      refine .p (.ld rfl (Cell.rd (c:=2) Rd.s hx rfl)) ?_
      refine .c call12 rfl (l8 (k:=k) (p:=x.slot) (c:=x.choice) hI (by omega)) fun u58 _=>?_
      refine J 2 ?_
      refine .hP (k.step x.slot x.choice).2 .auto ?_ ?_ ?_
      ·exact hI.step (by omega) _ _
      ·trivial
      ·exact fun w s=>au.kept .auto w s
   ·rintro k2 hI2
    refine J 3 ?_
    refine .c call13 rfl (jP (k:=k2) hI2.ag.ol) fun u83 _=>?_
    refine J 11 ?_
    refine .bf (X:=Nat) [6,10,11,12,13,14,15,85,86,87,88,89,90,91,92,93,94,95,96,97,98,99,100,101,102,103,104,105,106,107,108,109,110,111,112,113,114,115,116,117,118,119,120] (fun n=>k2.libs.length-n) (fun n=>n≤k2.libs.length) (fun n=>[(11,some (.int .i64 (n:Int))),(10,some (.int .i64 ((k2.free.length+cntTo k2.owner n:Nat):Int)))]) (fun n=>[bX kb bl k2,A,F]) 0 ?_ ?_ ?_ ?_
    ·exact Nat.zero_le _
    ·exact⟨rfl,rfl,trivial⟩
    ·exact fun w s=>au.kept .auto w s
    rintro n hn
    refine J 5 ?_
    refine .c call14 rfl (iX (k:=k2)) fun _ _=>?_
    refine JD 3 (fun h88=>?_) fun h88=>?_
    ·obtain⟨l,hl⟩:=al (show n<k2.libs.length by omega)
     have hln:=hI2.oz l (List.mem_of_getElem? hl)
     have hcn:=Fu k2 hI2.ag hl k2.free.length
     have hpl:l.procs.length≤64:=by rw[uo hI2.ag hl];exact Nat.le_trans List.count_le_length hI2.ag.ol
     have hct:=hI2.vV (show n≤k2.libs.length by omega)
     have hct2:=hI2.vV (show n+1≤k2.libs.length by omega)
     have hll:=hI2.ll
     refine J 8 ?_
     refine .c call15 rfl (iI (k:=k2) (n:=(n:Int))) fun _ _=>?_
     refine .o3 (C:=bX kb bl k2) .auto rfl ?_
     rintro vo vl xs ⟨hxb,hxs⟩
     have hxx:=And.intro hxb hxs
     obtain⟨x2,hx2,rfl,hbx⟩:=gb hxb hxs hl
     rw[bK,hbx]
     refine .fr .auto (cY (f:=fun x:Nat×Lib=>du x.1 x.2) hx2) ?_
     refine .o2 (C:=du x2.1 x2.2) .auto rfl ?_
     rintro bs br -
     refine .c call16 rfl (ia (l:=x2.2) (b:=x2.1) (bs:=bs) (br:=br) (Nat.le_trans hln.vl (by decide))) fun u94 _=>?_
     refine .to (A:=aO (fun x:Nat×Lib=>du x.1 x.2) xs) .auto (dR (f:=fun x:Nat×Lib=>du x.1 x.2) hx2) ?_
     refine J 8 ?_
     refine .p (.eS (Y.add rfl rfl (by omega)) hcn) ?_
     refine J 9 ?_
     refine .bf (X:=Nat) [6,13,14,15,99,100,101,102,103,104,105,106,107,108,109,110,111,112,113,114,115,116,117,118,119,120] (fun i=>x2.2.procs.length-i) (fun i=>i≤x2.2.procs.length) (fun i=>[(13,some (.int .i64 (i:Int)))]) (fun i=>[sl ar 1 u94 x2.2.procs,bX kb bl k2,A,F]) 0 ?_ ?_ ?_ ?_
     ·exact Nat.zero_le _
     ·exact⟨rfl,trivial⟩
     ·exact fun w s=>au.kept .auto w s
     rintro i hi
     refine JD 9 (fun h102=>?_) fun h102=>?_
     ·obtain⟨pi,hpi⟩:=al (show i<x2.2.procs.length by omega)
      have hown:=CN hI2.ag hl (List.mem_of_getElem? hpi)
      refine J 9 ?_
      refine .p (.ix i rfl rfl rfl (by omega)) ?_
      refine .p (.lr rfl hpi) ?_
      refine .c call17 rfl (na (k:=k2) (p:=pi)) fun _ _=>?_
      rw[hown]
      refine JD 18 (fun h120=>?_) fun h120=>?_
      ·exact absurd rfl h120
      ·refine J 8 ?_
       refine .aF (i+1) .auto rfl ?_ ?_ ?_ ?_
       ·omega
       ·show i+1≤_;omega
       ·exact⟨rfl,trivial⟩
       ·exact fun w s=>au.kept .auto w s
     ·refine J 11 ?_
      refine .aF (n+1) .auto rfl ?_ ?_ ?_ ?_
      ·omega
      ·show n+1≤_;omega
      ·exact⟨rfl,rfl,trivial⟩
      ·exact fun w s=>au.kept .auto w s
    ·obtain rfl:n=k2.libs.length:=by omega
     have hoc:=CO hI2
     rw[hoc]
     refine J 9 ?_
     refine .c call18 rfl (iH (k:=k2)) fun _ _=>?_
     refine JD 3 (fun h124=>?_) fun h124=>?_
     ·exact absurd rfl h124
     ·refine J 8 ?_
      refine .aF (j+1,k2) .auto rfl ?_ ?_ ?_ ?_
      ·show acts.length-(j+1)<acts.length-j;omega
      ·exact⟨by show j+1≤_;omega,by show j+1≤100;omega,hI2⟩
      ·exact⟨rfl,trivial⟩
      ·exact fun w s=>au.kept .auto w s
  ·simp only[Bool.and_eq_false_iff,decide_eq_false_iff_not] at h39
   refine J 7 ?_
   refine .c call9 rfl gR fun _ _=>?_
   exact JR 4 ()
end Go.SLYthncobnjdhjnoaaGreat
namespace Go.SLYthncobnjdhjnoaaGreat
open Go Go.RowKit
theorem CP(k:Krn)(p c:Int):(k.step p c).2.owner=k.owner:=by
 unfold Krn.step
 split
 ·rfl
 ·split
  ·rfl
  ·split <;> rfl
theorem uq(k:Krn)(p c:Int):(k.step p c).2.libs.length=k.libs.length:=by
 unfold Krn.step
 split
 ·rfl
 ·split
  ·rfl
  ·split
   ·rfl
   ·exact List.length_set ..
def Fv(n p:Nat)(s:Int):List Int:=(List.replicate n (-1)).set p s
theorem Bi{n p:Nat}{s:Int}(h:p<n):(Fv n p s)[p]?=some s:=by
 unfold Fv;rw[List.getElem?_set_self (by rw[List.length_replicate];exact h)]
theorem CQ{n p:Nat}{s:Int}(h:p<n):(Fv n p s).set p (-1)=List.replicate n (-1):=by
 unfold Fv
 rw[List.set_set]
 refine List.ext_getElem? fun j=>?_
 by_cases e:p=j
 ·subst e;rw[List.getElem?_set_self (by rw[List.length_replicate];exact h),List.getElem?_replicate,if_pos h]
 ·rw[List.getElem?_set_ne e]
structure vW(n p s m j:Nat)(k:Krn):Prop where
 inv:dT j k
 own:k.owner=Fv n p (s:Int)
 len:k.libs.length=m
theorem sF{n p s m j:Nat}{k:Krn}(h:dT j k)(ho:k.owner=List.replicate n (-1))(hm:k.libs.length=m)(hp:p<n)(hs:s<m):(k.cz (p:Int) (s:Int)).1=0∧vW n p s m (j+1) (k.cz (p:Int) (s:Int)).2:=by
 obtain⟨l,hl⟩:=al (show s<k.libs.length by omega)
 have hop:k.owner[p]?=some (-1):=by rw[ho,List.getElem?_replicate,if_pos hp]
 have hg:=h.cz hop hl
 rw[jy hop hl] at hg ⊢
 exact⟨rfl,hg,by show k.owner.set p _=_;rw[ho];rfl,by show(k.libs.set s _).length=m;rw[List.length_set];exact hm⟩
theorem vW.step{n p s m j:Nat}{k:Krn}(h:vW n p s m j k)(hj:j≤180)(q c:Int):vW n p s m (j+1) (k.step q c).2:=⟨h.inv.step hj q c,(CP k q c).trans h.own,(uq k q c).trans h.len⟩
theorem vW.busy{n p s m j:Nat}{k:Krn}(h:vW n p s m j k)(hp:p<n)(hs:s<m):(k.cz (p:Int) (s:Int))=(4,k):=by
 obtain⟨l,hl⟩:=al (show s<k.libs.length by rw[h.len];exact hs)
 exact mA (o:=(s:Int)) (l:=l) (by rw[h.own];exact Bi hp) (by rw[bK];exact hl) (by omega)
theorem vW.take{n p s m j:Nat}{k:Krn}(h:vW n p s m j k)(hp:p<n)(_hs:s<m):∃ k2:Krn,k.take (p:Int)=(0,k2)∧dT (j+1) k2∧k2.owner=List.replicate n (-1)∧k2.libs.length=m∧k2.demand=k.demand:=by
 have hop:k.owner[p]?=some (s:Int):=by rw[h.own];exact Bi hp
 obtain⟨i,q,l,e,ho,hl,ht⟩:=gE h.inv.ok (k6 (bl:=[]) hop).1
 obtain rfl:p=i:=by omega
 have hi:=h.inv.take (p:Int)
 rw[ht] at hi
 refine⟨_,ht,hi,?_,?_,?_⟩
 ·show k.owner.set p (-1)=_
  rw[h.own];exact CQ hp
 ·show(k.libs.set q _).length=m
  rw[List.length_set];exact h.len
 ·exact rR hl (congrArg (fun z:Spc=>(z.ready.length:Int)) (fa l (p:Int)).bI)
theorem Ag{n p:Nat}{k:Krn}(ho:k.owner=List.replicate n (-1))(hp:p<n):k.take (p:Int)=(11,k):=by
 have hop:k.owner[p]?=some (-1):=by rw[ho,List.getElem?_replicate,if_pos hp]
 unfold Krn.take
 rw[bK,hop]
 simp only
 rw[if_pos trivial]
theorem Ah{n:Nat}{k:Krn}(ho:k.owner=List.replicate n (-1)):k.free.length=n:=by rw[sE,ho,List.count_replicate_self]
end Go.SLYthncobnjdhjnoaaGreat
namespace Go.SLYthncobnjdhjnoaaGreat
open Go Go.RowKit Go.Proofs Go.Proofs.Tryz
attribute [local irreducible] aq aJ ba bq bu Y
theorem yn{W:World}{A:aa}{v:Value}{ps:List aW}(hr:Rd W [A] fe 8 v ps)(hp:∀ p∈ps,ez W [A] p)(hb:ps.length≤1000000000∧ ∀ p∈ps,p.fs.length≤1000000000∧p.sems.length≤1000000000∧p.pipes.length≤1000000000)(hw:∀ p∈ps.map aW.p, ∀ f∈p.funcs, ∀ i∈f,fu i.n){np sp pc st:Int}(hnp:0≤np∧np≤255)(hsp:0≤sp∧sp≤255)(hpc:0≤pc∧pc≤255)(hst:0≤st∧st≤255):Fn Tryz.prog W 4 [v,.int .u8 np,.int .u8 sp,.int .u8 pc,.int .u8 st] [A] Unit (fun _=>.bool true) (fun _=>True) (fun _=>[A]):=by
 refine Fn.intro (N:=101) func4 rfl ntmps4 rfl fun F=>?_
 haveI hRI:∀ (H:List aa) [bE H A],aG W H v fe 8 ps:=fun H h=>⟨hr.at h.has⟩
 show aq _ _ _ _ _ _ [A,F]
 obtain⟨mk,mkd⟩:∃ mk,mk=np.toNat % (8):=⟨_,rfl⟩
 have mkl:mk<8:=by rw[mkd];exact Nat.mod_lt _ (by decide)
 have mkt:np.tmod (8)=(mk:Int):=by
  obtain⟨m,rfl⟩:∃ m:Nat,np=(m:Int):=⟨np.toNat,by omega⟩
  rw[mkd,Int.toNat_natCast];exact(Int.ofNat_tmod m (8)).symm
 obtain⟨sm,smd⟩:∃ sm,sm=st.toNat % (40):=⟨_,rfl⟩
 have sml:sm<40:=by rw[smd];exact Nat.mod_lt _ (by decide)
 have smt:st.tmod (40)=(sm:Int):=by
  obtain⟨m,rfl⟩:∃ m:Nat,st=(m:Int):=⟨st.toNat,by omega⟩
  rw[smd,Int.toNat_natCast];exact(Int.ofNat_tmod m (40)).symm
 refine J 8 ?_
 refine .p (.eS (Y.rem rfl rfl (by omega)) mkt) ?_
 refine .p (.gm underlying5 underlying3 rfl (by omega)) ?_
 refine .p (.add rfl rfl (by omega)) ?_
 refine J 7 ?_
 refine .c call8 rfl (lH (procs:=(mk:Int)+1) hr hp hb) fun o ho=>?_
 refine J 13 ?_
 apply aJ.fY 4 34 30 [30,31,32,33,34] rfl
 ·intro h30
  exact JS 5
 ·intro h30
  exact JS 5
 refine JD 2 (fun h34=>?_) fun h34=>?_
 ·simp only[Bool.or_eq_true,decide_eq_true_eq] at h34
  refine J 2 ?_
  refine .c call9 rfl gR fun _ _=>?_
  exact JR 5 ()
 ·simp only[Bool.or_eq_false_iff,decide_eq_false_iff_not] at h34
  have hc:fp ((mk:Int)+1) (ps.map aW.p)=0:=by omega
  have hn0:0<ps.length:=by omega
  obtain⟨kb,rfl⟩:=Option.isSome_iff_exists.1 (ho.trans (decide_eq_true hc))
  refine .fr (A:=optH (fun b=>ma b (Krn.new ((mk:Int)+1) (ps.map aW.p))) (some kb)) (Bs:=[ma kb (Krn.new ((mk:Int)+1) (ps.map aW.p))]) .auto gN ?_
  refine .o1 (C:=ma kb (Krn.new ((mk:Int)+1) (ps.map aW.p))) .auto rfl ?_
  rintro bl -
  have hI0:=dT.new hc hw
  have how:(Krn.new ((mk:Int)+1) (ps.map aW.p)).owner=List.replicate (mk+1) (-1):=by show List.replicate ((mk:Int)+1).toNat (-1)=_;rw[show((mk:Int)+1).toNat=mk+1 by omega]
  have hlw:(Krn.new ((mk:Int)+1) (ps.map aW.p)).libs.length=ps.length:=by show((ps.map aW.p).map _).length=_;rw[List.length_map,List.length_map]
  obtain⟨ss,ssd⟩:∃ ss,ss=sp.toNat % (ps.length):=⟨_,rfl⟩
  have ssl:ss<ps.length:=by rw[ssd];exact Nat.mod_lt _ (by omega)
  have sst:sp.tmod ((ps.length:Int))=(ss:Int):=by
   obtain⟨m,rfl⟩:∃ m:Nat,sp=(m:Int):=⟨sp.toNat,by omega⟩
   rw[ssd,Int.toNat_natCast];exact(Int.ofNat_tmod m (ps.length)).symm
  obtain⟨pp,ppd⟩:∃ pp,pp=pc.toNat % (mk+1):=⟨_,rfl⟩
  have ppl:pp<mk+1:=by rw[ppd];exact Nat.mod_lt _ (by omega)
  have ppt:pc.tmod ((mk:Int)+1)=(pp:Int):=by
   obtain⟨m,rfl⟩:∃ m:Nat,pc=(m:Int):=⟨pc.toNat,by omega⟩
   rw[ppd,Int.toNat_natCast];exact(Int.ofNat_tmod m (mk+1)).symm
  have hg:=sF (p:=pp) (s:=ss) hI0 how hlw ppl ssl
  refine J 3 ?_
  refine .draw [] [1,1,1,1,1,1,1,1,1,1,1] rfl (by kernel_rfl) ?_
  refine J 1 ?_
  refine .p (.gm underlying5 underlying3 rfl (by omega)) ?_
  refine J 2 ?_
  refine .p (.eS (Y.rem rfl rfl (by omega)) sst) ?_
  refine J 1 ?_
  refine .p (.gm underlying5 underlying3 rfl (by omega)) ?_
  refine J 1 ?_
  refine .p (.eS (Y.rem rfl rfl (by omega)) ppt) ?_
  refine J 10 ?_
  refine .c call10 rfl (fS (k:=(Krn.new ((mk:Int)+1) (ps.map aW.p))) (p:=(pp:Int)) (n:=(ss:Int)) hI0.ok (by decide)) fun _ _=>?_
  rw[hg.1]
  refine JD 3 (fun h49=>?_) fun h49=>?_
  ·exact absurd rfl h49
  ·refine J 9 ?_
   refine .bf (X:=Nat×Krn) [16,50,51,52,53,54,55,56,57,58,59,60] (fun z=>sm-z.1) (fun z=>z.1≤sm∧vW (mk+1) pp ss ps.length (z.1+1) z.2) (fun z=>[(16,some (.int .i64 (z.1:Int)))]) (fun z=>[bX kb bl z.2,A,F]) (0,((Krn.new ((mk:Int)+1) (ps.map aW.p)).cz (pp:Int) (ss:Int)).2) ?_ ?_ ?_ ?_
   ·exact⟨Nat.zero_le _,hg.2⟩
   ·exact⟨rfl,trivial⟩
   ·exact fun w s=>au.kept .auto w s
   rintro⟨i,k⟩ ⟨hi,hL⟩
   simp only at hi hL
   refine J 5 ?_
   refine .p (.eS (Y.rem rfl rfl (by omega)) smt) ?_
   refine .p (.gm underlying5 underlying3 rfl (by omega)) ?_
   refine JD 3 (fun h54=>?_) fun h54=>?_
   ·refine J 8 ?_
    refine .c call12 rfl (l8 (k:=k) (p:=(pp:Int)) (c:=(i:Int)) hL.inv (by omega)) fun u60 _=>?_
    refine J 5 ?_
    refine .p (.add rfl rfl (by omega)) ?_
    refine J 2 ?_
    refine .aF (i+1,(k.step (pp:Int) (i:Int)).2) .auto rfl ?_ ?_ ?_ ?_
    ·show sm-(i+1)<sm-i;omega
    ·exact⟨by show i+1≤_;omega,hL.step (by omega) _ _⟩
    ·exact⟨rfl,trivial⟩
    ·exact fun w s=>au.kept .auto w s
   ·refine J 8 ?_
    refine .c call19 rfl (fR (k:=k) hL.inv.ok) fun u62 _=>?_
    obtain⟨k2,ht,hI2,ho2,hl2,hd2⟩:=hL.take ppl ssl
    have ht1:(k.take (pp:Int)).1=0:=by rw[ht]
    have ht2:(k.take (pp:Int)).2=k2:=by rw[ht]
    have hfl:(k2.free.length:Int)=(mk:Int)+1:=by rw[Ah ho2];rfl
    have hti:=Ag ho2 ppl
    have ht3:(k2.take (pp:Int)).1=11:=by rw[hti]
    have ht4:(k2.take (pp:Int)).2=k2:=by rw[hti]
    have hg2:=sF (p:=pp) (s:=ss) hI2 ho2 hl2 ppl ssl
    have hgb:=hg2.2.busy ppl ssl
    have hg3:((k2.cz (pp:Int) (ss:Int)).2.cz (pp:Int) (ss:Int)).1=4:=by rw[hgb]
    refine J 8 ?_
    refine .c call11 rfl (jQ (k:=k) (p:=(pp:Int)) hL.inv.ok (by omega)) fun _ _=>?_
    rw[ht1,ht2]
    refine J 4 ?_
    refine .cg call11 rfl (jQ (k:=k2) (p:=(pp:Int)) hI2.ok (by omega)) fun _ _=>?_
    rw[ht3,ht4]
    refine J 4 ?_
    refine .cg call13 rfl (jP (k:=k2) hI2.ag.ol) fun u75 _=>?_
    refine .g (.eS (Y.C7 underlying33 rfl Rd.s) hfl) ?_
    refine JD 5 (fun h79=>?_) fun h79=>?_
    ·exact absurd rfl h79
    ·refine J 4 ?_
     refine .c call9 rfl gR fun _ _=>?_
     refine J 2 ?_
     refine .cg call19 rfl (fR (k:=k2) hI2.ok) fun u83 _=>?_
     rw[hd2]
     refine J 1 ?_
     refine .cg call20 rfl (iE (A:=seps [sl ar 1 u83 k.demand,sl ar 1 u62 k.demand]) (Rd.et (Rd.sl .here)) (Rd.et (Rd.sl (.there .here))) (by rw[show k.demand.length=k.libs.length from List.length_map ..];have:=hL.inv.ll;omega)) fun _ _=>?_
     rw[show decide (k.demand=k.demand)=true from decide_eq_true rfl]
     refine J 5 ?_
     refine .cg call10 rfl (fS (k:=k2) (p:=(pp:Int)) (n:=(ss:Int)) hI2.ok (by omega)) fun _ _=>?_
     rw[hg2.1]
     refine J 6 ?_
     refine .cg call10 rfl (fS (k:=(k2.cz (pp:Int) (ss:Int)).2) (p:=(pp:Int)) (n:=(ss:Int)) hg2.2.inv.ok (by omega)) fun _ _=>?_
     rw[hg3]
     exact JR 6 ()
end Go.SLYthncobnjdhjnoaaGreat
namespace Go.SLYthncobnjdhjnoaaGreat
open Go Go.RowKit Go.Proofs Go.Proofs.Tryz
attribute [local irreducible] aq aJ ba bq bu Y
theorem CR(p:Int):(decide (p≥0) && decide (p<0))=false:=by
 by_cases h:p≥0
 ·rw[decide_eq_false (show ¬p<0 by omega),Bool.and_false]
 ·rw[decide_eq_false h,Bool.false_and]
theorem lJ{W:World}  : Fn Tryz.prog W 18 [.pointer none] [] Unit (fun _=>.int .i64 0) (fun _=>True) (fun _=>[]):=by
 refine Fn.intro (N:=10) func18 rfl ntmps18 rfl fun F=>?_
 show aq _ _ _ _ _ _ [F]
 refine J 12 ?_
 refine .eM rfl ?_
 exact JR 7 ()
theorem lK{W:World}{p:Int}:Fn Tryz.prog W 42 [.pointer none,.int .i64 p] [] Unit (fun _=>.bool false) (fun _=>True) (fun _=>[]):=by
 refine Fn.intro (N:=13) func42 rfl ntmps42 rfl fun F=>?_
 show aq _ _ _ _ _ _ [F]
 refine J 10 ?_
 apply aJ.eT 5 12 7 [7,8,9,10,11,12] rfl
 ·intro h7
  refine J 2 ?_
  refine .cg call18 rfl lJ fun _ _=>?_
  exact JS 3
 ·intro h7
  exact JS 6
 refine J 4 ?_
 refine .aP rfl rfl fun w s=>⟨(),?_,trivial,aj .auto s⟩
 exact congrArg (fun b=>Ending.returned (.bool b)) (CR p)
theorem yo{W:World}{p:Int}:Fn Tryz.prog W 17 [.pointer none,.int .i64 p] [] Unit (fun _=>.tuple #[.int .i64 0,.bool false]) (fun _=>True) (fun _=>[]):=by
 refine Fn.intro (N:=27) func17 rfl ntmps17 rfl fun F=>?_
 show aq _ _ _ _ _ _ [F]
 refine J 11 ?_
 refine .c call42 rfl lK fun _ _=>?_
 refine J 13 ?_
 refine .eM rfl ?_
 exact JR 8 ()
theorem nf{W:World}{p:Int}:Fn Tryz.prog W 43 [.pointer none,.int .i64 p] [] Unit (fun _=>.tuple #[.pointer none,.int .i64 1]) (fun _=>True) (fun _=>[]):=by
 refine Fn.intro (N:=27) func43 rfl ntmps43 rfl fun F=>?_
 show aq _ _ _ _ _ _ [F]
 refine J 11 ?_
 refine .c call42 rfl lK fun _ _=>?_
 refine J 3 ?_
 refine .eM rfl ?_
 exact JR 8 ()
theorem Ai{W:World}{p c:Int}:Fn Tryz.prog W 12 [.pointer none,.int .i64 p,.int .i64 c] [] Unit (fun _=>.tuple #[.int .i64 0,.agg (cC (.slice none 0 0) fo.z).toArray,.int .i64 1]) (fun _=>True) (fun _=>[]):=by
 refine Fn.intro (N:=38) func12 rfl ntmps12 rfl fun F=>?_
 show aq _ _ _ _ _ _ [F]
 refine J 3 ?_
 refine .ai rfl (ab.alloc rfl zeroValue37 rfl) ?_
 rintro _ _ ⟨b7,rfl,rfl⟩
 refine J 7 ?_
 refine .c call43 rfl nf fun _ _=>?_
 refine J 14 ?_
 refine .eM rfl ?_
 refine J 2 ?_
 refine .p (.l9 (cC (.slice none 0 0) fo.z) (by kernel_rfl)) ?_
 refine J 2 ?_
 refine .ai rfl (ab.gC (vs:=cC (.slice none 0 0) fo.z) (by exact sizeOf37) rfl rfl (by rfl) (by rfl)) ?_
 rintro _ _ ⟨rfl,rfl⟩
 refine J 5 ?_
 refine .Ad rfl rfl isAgg37 (by exact sizeOf37) Cells.a rfl rfl fun w s=>⟨(),?_,trivial,aj .auto s⟩
 rfl
theorem Aj{W:World}{p n:Int}:Fn Tryz.prog W 10 [.pointer none,.int .i64 p,.int .i64 n] [] Unit (fun _=>.int .i64 1) (fun _=>True) (fun _=>[]):=by
 refine Fn.intro (N:=39) func10 rfl ntmps10 rfl fun F=>?_
 show aq _ _ _ _ _ _ [F]
 refine J 9 ?_
 refine .c call15 rfl oX fun _ _=>?_
 refine J 9 ?_
 refine .c call42 rfl lK fun _ _=>?_
 refine J 8 ?_
 refine .eM rfl ?_
 exact JR 8 ()
theorem Ak{W:World}{p:Int}:Fn Tryz.prog W 11 [.pointer none,.int .i64 p] [] Unit (fun _=>.int .i64 1) (fun _=>True) (fun _=>[]):=by
 refine Fn.intro (N:=25) func11 rfl ntmps11 rfl fun F=>?_
 show aq _ _ _ _ _ _ [F]
 refine J 9 ?_
 refine .c call43 rfl nf fun _ _=>?_
 refine J 14 ?_
 refine .eM rfl ?_
 exact JR 8 ()
theorem s4{W:World}{p:Int}:Fn Tryz.prog W 22 [.pointer none,.int .i64 p] [] Unit (fun _=>.int .i64 1) (fun _=>True) (fun _=>[]):=by
 refine Fn.intro (N:=19) func22 rfl ntmps22 rfl fun F=>?_
 show aq _ _ _ _ _ _ [F]
 refine J 9 ?_
 refine .c call43 rfl nf fun _ _=>?_
 refine J 14 ?_
 refine .eN rfl ?_
 exact JR 9 ()
theorem Al{W:World}{n c:Int}:Fn Tryz.prog W 23 [.pointer none,.int .i64 n,.int .i64 c] [] Unit (fun _=>.int .i64 1) (fun _=>True) (fun _=>[]):=by
 refine Fn.intro (N:=27) func23 rfl ntmps23 rfl fun F=>?_
 show aq _ _ _ _ _ _ [F]
 refine J 9 ?_
 refine .c call15 rfl oX fun _ _=>?_
 refine J 10 ?_
 refine .eM rfl ?_
 exact JR 7 ()
theorem Am{W:World}  : Fn Tryz.prog W 13 [.pointer none] [] Unit (fun _=>(.slice none 0 0)) (fun _=>True) (fun _=>[]):=by
 refine Fn.intro (N:=24) func13 rfl ntmps13 rfl fun F=>?_
 show aq _ _ _ _ _ _ [F]
 refine J 14 ?_
 refine .c call18 rfl lJ fun _ _=>?_
 refine J 4 ?_
 refine .bf (X:=Unit) [3,4,7,8,9,10,11,12,13,14,15,16,17,18,19,20,21,22] (fun _=>0) (fun _=>True) (fun _=>[(7,some (.int .i64 0)),(3,some (.slice none 0 0))]) (fun _=>[F]) () ?_ ?_ ?_ ?_
 ·exact trivial
 ·exact⟨rfl,rfl,trivial⟩
 ·exact fun w s=>au.kept .auto w s
 rintro⟨⟩ -
 refine JD 6 (fun h8=>?_) fun h8=>?_
 ·exact absurd h8 (by decide)
 ·exact JR 12 ()
theorem vX{W:World}  : Fn Tryz.prog W 19 [.pointer none] [] Unit (fun _=>(.slice none 0 0)) (fun _=>True) (fun _=>[]):=by
 refine Fn.intro (N:=25) func19 rfl ntmps19 rfl fun F=>?_
 show aq _ _ _ _ _ _ [F]
 refine J 14 ?_
 refine .c call14 rfl ku fun _ _=>?_
 refine J 4 ?_
 refine .bf (X:=Unit) [3,4,7,8,9,10,11,12,13,14,15,16,17,18,19,20,21,22,23] (fun _=>0) (fun _=>True) (fun _=>[(7,some (.int .i64 0)),(3,some (.slice none 0 0))]) (fun _=>[F]) () ?_ ?_ ?_ ?_
 ·exact trivial
 ·exact⟨rfl,rfl,trivial⟩
 ·exact fun w s=>au.kept .auto w s
 rintro⟨⟩ -
 refine JD 6 (fun h8=>?_) fun h8=>?_
 ·exact absurd h8 (by decide)
 ·exact JR 12 ()
theorem An{W:World}  : Fn Tryz.prog W 21 [.pointer none] [] Unit (fun _=>.tuple #[]) (fun _=>True) (fun _=>[]):=by
 refine Fn.intro (N:=27) func21 rfl ntmps21 rfl fun F=>?_
 show aq _ _ _ _ _ _ [F]
 refine J 3 ?_
 refine .c call14 rfl ku fun _ _=>?_
 refine J 4 ?_
 refine .bf (X:=Unit) [2,5,6,7,8,9,10,11,12,13,14,15,16,17,18,19,20,21,22,23,24,25,26] (fun _=>0) (fun _=>True) (fun _=>[(5,some (.int .i64 0))]) (fun _=>[F]) () ?_ ?_ ?_ ?_
 ·exact trivial
 ·exact⟨rfl,trivial⟩
 ·exact fun w s=>au.kept .auto w s
 rintro⟨⟩ -
 refine JD 6 (fun h6=>?_) fun h6=>?_
 ·exact absurd h6 (by decide)
 ·exact JR 4 ()
theorem Ao{W:World}{a b:Int}:Fn Tryz.prog W 5 [.int .i64 a,.int .i64 b] [] Unit (fun _=>.bool true) (fun _=>True) (fun _=>[]):=by
 refine Fn.intro (N:=89) func5 rfl ntmps5 rfl fun F=>?_
 show aq _ _ _ _ _ _ [F]
 refine J 13 ?_
 refine .c call21 rfl An fun _ _=>?_
 refine J 6 ?_
 refine .c call17 rfl yo fun _ _=>?_
 refine J 12 ?_
 refine .c call12 rfl Ai fun _ _=>?_
 refine J 2 ?_
 refine .p (.extract (v:=.agg (cC (.slice none 0 0) fo.z).toArray) rfl rfl) ?_
 refine J 1 ?_
 refine .ai rfl (ab.alloc rfl zeroValue37 rfl) ?_
 rintro _ _ ⟨b9,rfl,rfl⟩
 refine J 1 ?_
 refine .ai rfl (ab.gC (vs:=cC (.slice none 0 0) fo.z) (by exact sizeOf37) rfl rfl (by rfl) (by rfl)) ?_
 rintro _ _ ⟨rfl,rfl⟩
 refine J 5 ?_
 refine .c call9 rfl gR fun _ _=>?_
 refine J 8 ?_
 refine .cg call10 rfl Aj fun _ _=>?_
 refine J 5 ?_
 refine .cg call11 rfl Ak fun _ _=>?_
 refine J 14 ?_
 refine .cg call22 rfl s4 fun _ _=>?_
 refine J 6 ?_
 refine .cg call23 rfl Al fun _ _=>?_
 refine J 4 ?_
 refine .cg call13 rfl Am fun _ _=>?_
 refine J 2 ?_
 refine .cg call19 rfl vX fun _ _=>?_
 refine J 1 ?_
 refine .g (.add rfl rfl (by omega)) ?_
 refine J 1 ?_
 refine .cg call14 rfl ku fun _ _=>?_
 refine .g (.add rfl rfl (by omega)) ?_
 refine J 1 ?_
 refine .cg call18 rfl lJ fun _ _=>?_
 refine .g (.add rfl rfl (by omega)) ?_
 refine J 5 ?_
 refine .cg call15 rfl oX fun _ _=>?_
 exact JR 6 ()
end Go.SLYthncobnjdhjnoaaGreat
namespace Go.SLYthncobnjdhjnoaaGreat
open Go Go.RowKit
def jS(v:aR):Nat:=(if v.holds=true then 1 else 0)+v.evs.countP gr
def kP:List aR→Nat
 | []=>0
 | v::l=>jS v+kP l
def FA(l:Lib):Nat:=kP l.vs+l.waiting.countP gr
def FB(b:Bool):Nat:=if b=true then 1 else 0
structure Lk(l:Lib):Prop where
 n:FA l=FB l.locked
 e:∀ v∈l.vs,v.mode=1∨v.mode=2∨v.evs=[]
theorem lL{vs:List aR}{i:Nat}{v:aR}(h:vs[i]?=some v)(x:aR):kP (vs.set i x)+jS v=kP vs+jS x:=by
 induction vs generalizing i with
 | nil=>simp at h
 | cons y vs ih =>
  cases i with
  | zero =>
   obtain rfl:y=v:=by simpa using h
   simp only[List.set_cons_zero,kP];omega
  | succ i =>
   have:=ih (i:=i) (by simpa using h)
   simp only[List.set_cons_succ,kP];omega
theorem GY(l:List Ev):(cQ l).countP gr=l.countP gr:=by
 induction l with
 | nil=>rfl
 | cons e l ih =>
  unfold cQ at ih ⊢
  by_cases h:0<e.mode
  ·rw[List.filter_cons_of_pos (by simp[h]),List.countP_cons,List.countP_cons,ih]
  ·have h2:gr e=false:=by unfold gr;exact decide_eq_false h
   rw[List.countP_cons,h2]
   by_cases h3:eP e=true
   ·rw[List.filter_cons_of_pos (by simp[h3]),List.countP_cons,h2,ih]
   ·rw[List.filter_cons_of_neg (by simp[h3,h]),ih];simp
theorem CS{v:aR}(h:v.holds=true):0<v.mode:=by
 unfold aR.holds at h
 simp only[Bool.or_eq_true,decide_eq_true_eq] at h
 omega
theorem yp(v:aR):v.strip.countP gr=jS v:=by
 unfold aR.strip jS
 rw[List.countP_append,GY]
 by_cases h:v.holds=true
 ·rw[if_pos h,if_pos h]
  have:∀ t,gr ⟨4,t,v.mode⟩=true:=fun t=>decide_eq_true (CS h)
  simp[this]
 ·rw[if_neg h,if_neg h]
  split <;> simp[gr]
theorem Ap(l:List Ev):jS (aR.new l)=l.countP gr:=by
 show(if _ then 1 else 0)+l.countP gr=_
 rw[if_neg (by show ¬aR.holds _=true;unfold aR.holds aR.new;simp)];omega
theorem vY(v:aR)(l:List Ev):jS (v.told l)=jS v+l.countP gr:=by
 unfold aR.told
 rw[Ap,List.countP_append,yp]
theorem GZ:jS aR.z=0:=rfl
theorem gh(l:List Int):(aQ l).countP gr=0:=by
 rw[List.countP_eq_zero]
 intro e he
 obtain⟨n, -,rfl⟩:=List.mem_map.1 he
 simp[gr]
theorem Lk.set{l:Lib}(h:Lk l){i:Nat}{v x:aR}{b:Bool}{rows:List (List Int)}{s:Spc}(hv:l.vs[i]?=some v)(hn:jS x+FB l.locked=jS v+FB b)(he:x.mode=1∨x.mode=2∨x.evs=[]):Lk ⟨s,rows,l.vs.set i x,l.waiting,b⟩:=by
 refine⟨?_,fun y hy=>?_⟩
 ·have h1:=lL hv x
  have h2:=h.n
  unfold FA at h2 ⊢
  simp only at h2 ⊢
  omega
 ·rcases List.mem_or_eq_of_mem_set hy with hy | rfl
  ·exact h.e y hy
  ·exact he
theorem Lk.same{l:Lib}(h:Lk l){rows:List (List Int)}{s:Spc}:Lk ⟨s,rows,l.vs,l.waiting,l.locked⟩:=⟨h.n,h.e⟩
theorem vV{vs:List aR}{i:Nat}{v:aR}(h:vs[i]?=some v):jS v≤kP vs:=by
 have:=lL h aR.z
 rw[GZ] at this
 omega
theorem Lk.one{l:Lib}(h:Lk l){i:Nat}{v:aR}(hv:l.vs[i]?=some v)(h1:1≤jS v):l.locked=true∧jS v=1:=by
 have h2:=h.n
 have h3:=vV hv
 unfold FA at h2
 cases hl:l.locked with
 | true=>rw[hl] at h2;exact⟨rfl,by unfold FB at h2;rw[if_pos rfl] at h2;omega⟩
 | false=>rw[hl] at h2;unfold FB at h2;rw[if_neg (by decide)] at h2;omega
theorem Lk.tell{l:Lib}(h:Lk l){ys:List Ev}(hy:ys.countP gr=0):Lk (l.tell ys):=by
 by_cases h0:ys=[]
 ·subst h0;rw[k5];exact h
 ·cases hp:l.procs with
  | nil =>
   rw[jv h0 hp]
   exact⟨by have:=h.n;unfold FA at this ⊢;simp only[List.countP_append];omega,h.e⟩
  | cons p r =>
   obtain⟨i,v,rfl,hv, -⟩:=ir hp
   rw[jw h0 hp hv]
   exact h.set hv (by rw[vY];omega) (.inl rfl)
theorem Lk.JB{l:Lib}{ys:List Ev}(hn:FA l+ys.countP gr=FB l.locked)(he:∀ v∈l.vs,v.mode=1∨v.mode=2∨v.evs=[]):Lk (l.tell ys):=by
 by_cases h0:ys=[]
 ·subst h0;rw[k5];exact⟨hn,he⟩
 ·cases hp:l.procs with
  | nil =>
   rw[jv h0 hp]
   exact⟨by unfold FA at hn ⊢;simp only[List.countP_append];omega,he⟩
  | cons p r =>
   obtain⟨i,v,rfl,hv, -⟩:=ir hp
   rw[jw h0 hp hv]
   refine⟨?_,fun y hy=>?_⟩
   ·have h1:=lL hv (v.told ys)
    rw[vY] at h1
    unfold FA at hn ⊢
    simp only at hn ⊢
    omega
   ·rcases List.mem_or_eq_of_mem_set hy with hy | rfl
    ·exact he y hy
    ·exact .inl rfl
theorem Lk.cO{l:Lib}(h:Lk l)(p:Int):Lk (l.cO p).2:=by
 unfold Lib.cO
 cases e:aV l.vs p with
 | none=>exact h
 | some v =>
  simp only
  by_cases hm:v.mode=0
  ·rw[if_pos hm]
   obtain⟨h0, -,hv⟩:=dj e
   have hh:jS v=0:=by
    unfold jS
    rw[if_neg (by unfold aR.holds;rw[hm];simp)]
    rcases h.e v (List.mem_of_getElem? hv) with g | g | g
    ·omega
    ·omega
    ·rw[g];rfl
   refine⟨?_,fun y hy=>?_⟩
   ·have h1:=lL hv (aR.new (⟨1, -1,0⟩::l.waiting))
    have h2:=h.n
    rw[Ap,List.countP_cons] at h1
    unfold FA at h2 ⊢
    simp only[List.countP_nil] at h1 h2 ⊢
    have:gr ⟨1, -1,0⟩=false:=rfl
    rw[this] at h1
    simp only[Bool.false_eq_true,if_false] at h1
    omega
   ·rcases List.mem_or_eq_of_mem_set hy with hy | rfl
    ·exact h.e y hy
    ·exact .inl rfl
  ·rw[if_neg hm];exact h
theorem Lk.cF{l:Lib}(h:Lk l)(p:Int):Lk (l.cF p).2:=by
 cases hh:l.has p with
 | false=>rw[jx hh];exact h
 | true =>
  obtain⟨i,v,rfl,hv, -⟩:=jf hh
  rw[iu hh hv]
  refine Lk.JB ?_ fun y hy=>?_
  ·have h1:=lL hv aR.z
   have h2:=h.n
   rw[GZ] at h1
   rw[yp]
   unfold FA at h2 ⊢
   simp only at h2 ⊢
   omega
  ·rcases List.mem_or_eq_of_mem_set hy with hy | rfl
   ·exact h.e y hy
   ·exact .inr (.inr rfl)
theorem Lk.eb{l:Lib}(h:Lk l)(p:Int):Lk (l.eb p).2:=by
 cases hh:l.has p with
 | false=>rw[m6 hh];exact h
 | true =>
  obtain⟨i,v,rfl,hv, -⟩:=jf hh
  rw[lG hh hv]
  exact h.set hv (by rw[vY];rfl) (.inl rfl)
theorem Lk.enter{l:Lib}(h:Lk l){i:Nat}{v:aR}{m:Int}(hv:l.vs[i]?=some v)(hh:v.holds=false)(hm:m=2∨m=4∨m=7)(he:m=2∨v.evs=[]):Lk (l.enter (i:Int) m):=by
 cases hl:l.locked with
 | true=>rw[sr hl];exact h
 | false =>
  rw[pa hv hl]
  refine h.set hv ?_ (he.elim (fun e=>.inr (.inl e)) fun e=>.inr (.inr e))
  unfold jS
  rw[hl,hh]
  have:aR.holds {v with mode:=m }=true:=by unfold aR.holds;rcases hm with rfl | rfl | rfl <;> rfl
  rw[this]
  simp[FB];omega
theorem Lk.leave{l:Lib}(h:Lk l){i:Nat}{v:aR}{m t:Int}(hv:l.vs[i]?=some v)(hh:v.holds=true)(hm:m=3∨m=5∨m=8)(he:v.evs=[]):Lk (l.leave (i:Int) m t):=by
 rw[su hv]
 have h1:1≤jS v:=by unfold jS;rw[if_pos hh];omega
 obtain⟨hl,h2⟩:=h.one hv h1
 refine h.set hv ?_ (.inr (.inr he))
 rw[h2,hl]
 unfold jS
 have:aR.holds {v with mode:=m,af:=t }=false:=by unfold aR.holds;rcases hm with rfl | rfl | rfl <;> rfl
 rw[this,he]
 simp[FB]
theorem Lk.run{l:Lib}(h:Lk l){i:Nat}{v:aR}(hv:l.vs[i]?=some v)(h1:¬v.mode=1)(h2:¬v.mode=2):v.evs=[]:=by
 rcases h.e v (List.mem_of_getElem? hv) with g | g | g
 ·exact absurd g h1
 ·exact absurd g h2
 ·exact g
theorem Bj{α:Type}{p:α→Bool}:∀ (l:List α) (k:Nat),idxP p l k = -1∨(k:Int)≤idxP p l k
 | [],k=>.inl rfl
 | y::l,k=>by
  unfold idxP
  by_cases hp:p y=true
  ·rw[if_pos hp];exact .inr (Int.le_refl _)
  ·rw[if_neg hp]
   rcases Bj (p:=p) l (k+1) with g | g
   ·exact .inl g
   ·exact .inr (by omega)
theorem yq{α:Type}{p:α→Bool}:∀ {l:List α} {k i:Nat} {x:α},idxP p l k=((k+i:Nat):Int)→l[i]?=some x→p x=true
 | [],k,i,x,h,hx=>by simp at hx
 | y::l,k,i,x,h,hx=>by
  unfold idxP at h
  by_cases hp:p y=true
  ·rw[if_pos hp] at h
   obtain rfl:i=0:=by omega
   obtain rfl:y=x:=by simpa using hx
   exact hp
  ·rw[if_neg hp] at h
   cases i with
   | zero =>
    have:=Bj (p:=p) l (k+1)
    rcases this with g | g <;> omega
   | succ i=>exact yq (l:=l) (k:=k+1) (i:=i) (by rw[h];omega) (by simpa using hx)
theorem CT{l:List Ev}{x:Ev}{r:List Ev}(h:evWithin l=some (x,r)):l.countP gr=r.countP gr+1:=by
 unfold evWithin at h
 split at h
 ·cases h
 ·split at h
  ·cases h
  ·rename_i h0 y e2
   cases h
   have hi:=(List.getElem?_eq_some_iff.1 e2).1
   have hx:gr x=true:=yq (l:=l) (k:=0) (i:=(idxP gr l 0).toNat) (by omega) e2
   have e:l.take (idxP gr l 0).toNat++x::l.drop ((idxP gr l 0).toNat+1)=l:=by rw[← drop_cons e2,List.take_append_drop]
   have h1:=congrArg (List.countP gr) e
   rw[List.countP_append,List.countP_cons,hx] at h1
   rw[List.countP_append]
   simp only[if_true] at h1
   omega
theorem Lk.step{l:Lib}(h:Lk l)(p c:Int):Lk (l.step p c).2.2:=by
 cases hh:l.has p with
 | false=>rw[oq hh];exact h
 | true =>
  obtain⟨i,v,rfl,hv,h0⟩:=jf hh
  by_cases h1:v.mode=1
  ·have hn:v.holds=false:=by unfold aR.holds;rw[h1];rfl
   rw[vK hh hv h1]
   show Lk (l.upcall (i:Int) c).2
   cases hw:(evWithin v.evs).isSome with
   | false=>rw[pf hv hw];exact h.enter hv hn (.inl rfl) (.inl rfl)
   | true =>
    rw[mZ hv hw]
    have hc:v.evs.countP gr=(wR v.evs).countP gr+1:=by
     unfold wR
     cases e:evWithin v.evs with
     | none=>rw[e] at hw;cases hw
     | some x=>exact CT (x:=x.1) (r:=x.2) e
    have hi:jS v=v.evs.countP gr:=by unfold jS;rw[hn];simp
    obtain⟨hl,h2⟩:=h.one hv (by omega)
    have key:Lk (l.pe i v (wR v.evs)):=h.set (b:=false) (x:={v with evs:=wR v.evs }) hv (by
     have:jS {v with evs:=wR v.evs }=(wR v.evs).countP gr:=by
      show(if v.holds=true then 1 else 0)+_=_
      rw[hn];simp
     rw[this,hl]
     unfold FB
     simp;omega) (.inl h1)
    by_cases hm:(wE v.evs).mode=7
    ·by_cases hg:(l.bI.run (wE v.evs).af c).1.cB=true
     ·rw[mY hv hm hg];exact key.same
     ·rw[kA hv hm hg];exact key.same
    ·rw[mX hv hm];exact key
  by_cases h2:v.mode=2
  ·have hn:v.holds=true:=by unfold aR.holds;rw[h2];rfl
   rw[vL hh hv h2]
   cases he:v.evs with
   | nil=>rw[m0 hv he];exact h.leave hv hn (.inl rfl) he
   | cons e r =>
    have hi:jS v=1+v.evs.countP gr:=by unfold jS;rw[hn];simp
    obtain⟨hl,h3⟩:=h.one hv (by omega)
    have hx:jS {v with evs:=r }=jS v:=by
     have:jS {v with evs:=r }=1+r.countP gr:=by
      show(if v.holds=true then 1 else 0)+_=_
      rw[hn];simp
     rw[he,List.countP_cons] at hi
     omega
    by_cases hr:eP e=true
    ·rw[pg hv he hr];exact h.set (x:={v with evs:=r }) hv (by rw[hx]) (.inr (.inl h2))
    ·rw[m3 hv he hr];exact h.set (x:={v with evs:=r }) hv (by rw[hx]) (.inr (.inl h2))
  have hev:=h.run hv h1 h2
  by_cases h3:v.mode=3
  ·rw[vM hh hv h3];exact h.enter hv (by unfold aR.holds;rw[h3];rfl) (.inr (.inl rfl)) (.inr hev)
  by_cases h4:v.mode=4
  ·have hn:v.holds=true:=by unfold aR.holds;rw[h4];rfl
   rw[vN hh hv h4]
   cases hp:(rPick l.rows (i:Int)).isSome with
   | false=>rw[(sA hp).1];exact h.leave hv hn (.inr (.inr rfl)) hev
   | true=>rw[ph hp];exact(h.same (rows:=kI l.rows (i:Int)) (s:=l.bI)).leave hv hn (.inr (.inl rfl)) hev
  by_cases h5:v.mode=5
  ·have hn:v.holds=false:=by unfold aR.holds;rw[h5];rfl
   have hi:jS v=0:=by unfold jS;rw[hn,hev];rfl
   rw[vO hh hv h5]
   show Lk (l.gY (i:Int) c).2
   by_cases hc:l.bI.class v.af=2
   ·rw[m4 hv hc];exact h.set (x:={v with mode:=6 }) hv (by rw[hi];unfold jS;rw[hev];rfl) (.inr (.inr hev))
   ·by_cases hs:(l.bI.run v.af c).1.aK=true
    ·rw[pj hv hc hs]
     exact Lk.tell (h.set (x:=aR.new [⟨2,v.af,0⟩]) hv (by rw[hi,Ap];rfl) (.inl rfl)) (gh _)
    ·by_cases he:(l.bI.run v.af c).1.ended=true
     ·rw[sB hv hc hs he]
      exact Lk.tell (h.set (x:={v with mode:=3,af := -1 }) hv (by rw[hi];unfold jS;rw[hev];rfl) (.inr (.inr hev))) (gh _)
     ·rw[pk hv hc hs he]
      exact Lk.tell h.same (gh _)
  by_cases h6:v.mode=6
  ·rw[vP hh hv h6];exact h.enter hv (by unfold aR.holds;rw[h6];rfl) (.inr (.inr rfl)) (.inr hev)
  by_cases h7:v.mode=7
  ·have hn:v.holds=true:=by unfold aR.holds;rw[h7];rfl
   rw[vQ hh hv h7]
   show Lk (l.inside (i:Int) c).2
   by_cases hg:(l.bI.run v.af c).1.cB=true
   ·by_cases hy:(l.bI.run v.af c).1.yielded=true
    ·rw[kB hv hg hy]
     exact Lk.leave (l:=((l.aL v.af c).2.fI (i:Int) (l.bI.run v.af c).1.aw).fI (i:Int) [v.af]) h.same hv hn (.inl rfl) hev
    ·rw[pn hv hg hy]
     exact Lk.leave (l:=(l.aL v.af c).2.fI (i:Int) (l.bI.run v.af c).1.aw) h.same hv hn (.inr (.inl rfl)) hev
   ·rw[m5 hv hg]
    exact Lk.leave (l:=(l.aL v.af c).2.fI (i:Int) (l.bI.run v.af c).1.aw) h.same hv hn (.inl rfl) hev
  by_cases h8:v.mode=8
  ·cases he:gX l.rows with
   | true=>rw[sC hh hv h8 he];exact h
   | false=>rw[sD hh hv h8 he];exact h.set (x:={v with mode:=3 }) hv (by unfold jS aR.holds;rw[hev,h8];rfl) (.inr (.inr hev))
  ·rw[vR hh hv ⟨h1,h2,h3,h4,h5,h6,h7,h8⟩];exact h
theorem Lk.new(s:Spc)(p:Int):Lk (Lib.new s p):=by
 have:∀ n,kP (List.replicate n aR.z)=0:=fun n=>by
  induction n with
  | zero=>rfl
  | succ n ih=>rw[List.replicate_succ,kP,ih];rfl
 exact⟨by unfold FA;show kP (List.replicate _ aR.z)+(aQ s.ready).countP gr=_;rw[this,gh];rfl,fun v hv=>.inr (.inr (by rw[(List.mem_replicate.1 hv).2];rfl))⟩
end Go.SLYthncobnjdhjnoaaGreat
namespace Go.SLYthncobnjdhjnoaaGreat
open Go Go.RowKit
def ef(l:Lib):Nat→List Ev
 | 0=>l.waiting
 | n+1=>ef l n++(ep l (n:Int)).evs
def gi(l:Lib):Nat→Nat
 | 0=>0
 | n+1=>gi l n+(if (ep l (n:Int)).holds=true then 1 else 0)
theorem py(l:Lib):∀ n,gi l n≤n
 | 0=>Nat.le_refl _
 | n+1=>by
  have:=py l n
  show gi l n+_≤_
  split <;> omega
theorem pz{l:Lib}{m:Nat}(h:∀ v∈l.vs,v.evs.length≤m)(p:Int):(ep l p).evs.length≤m:=by
 unfold ep
 split
 ·rename_i hh
  obtain⟨i,w,e,hv, -⟩:=jf hh
  rw[e,Int.toNat_natCast,bx hv];exact h w (List.mem_of_getElem? hv)
 ·exact Nat.zero_le _
theorem iY{l:Lib}{m:Nat}(hw:l.waiting.length≤m)(h:∀ v∈l.vs,v.evs.length≤m):∀ n,(ef l n).length≤(n+1) * m
 | 0=>by show l.waiting.length≤_;omega
 | n+1=>by
  have h1:=iY hw h n
  have h2:=pz h (n:Int)
  show(ef l n++_).length≤_
  rw[List.length_append,Nat.add_mul (n+1) 1]
  omega
theorem pX:∀ (a b:List aR),kP (a++b)=kP a+kP b
 | [],b=>by show kP b=0+_;omega
 | v::a,b=>by show jS v+kP (a++b)=jS v+kP a+_;rw[pX a b];omega
theorem yr{l:Lib}(h:Lk l):∀ n,gi l n+(ef l n).countP gr=kP (l.vs.take n)+l.waiting.countP gr
 | 0=>by show 0+l.waiting.countP gr=_;rw[List.take_zero];rfl
 | n+1=>by
  have ih:=yr h n
  show gi l n+_+(ef l n++_).countP gr=_
  rw[List.countP_append]
  have key:(if (ep l (n:Int)).holds=true then 1 else 0)+(ep l (n:Int)).evs.countP gr=jS (ep l (n:Int)):=rfl
  by_cases hn:n<l.vs.length
  ·obtain⟨v,hv⟩:=al hn
   rw[bj hv,pX]
   have:jS (ep l (n:Int))=jS v:=by
    unfold ep
    by_cases hm:v.mode=0
    ·rw[if_neg (by unfold Lib.has;rw[bK,hv];simp[hm])]
     rw[GZ]
     unfold jS
     rw[h.run hv (by omega) (by omega)]
     have:v.holds=false:=by unfold aR.holds;rw[hm];rfl
     rw[this];rfl
    ·rw[if_pos (by unfold Lib.has;rw[bK,hv];simp[hm]),Int.toNat_natCast,bx hv]
   show _=kP (l.vs.take n)+(jS v+0)+_
   omega
  ·have hz:ep l (n:Int)=aR.z:=by
    unfold ep
    rw[if_neg]
    unfold Lib.has
    rw[bK,List.getElem?_eq_none (by omega)];simp
   rw[List.take_of_length_le (by omega)] at ih ⊢
   rw[hz,GZ] at key
   rw[hz]
   omega
theorem CU{l:Lib}(h:Lk l)(hl:l.vs.length≤9):gi l 9+(ef l 9).countP gr=FB l.locked:=by
 rw[yr h,List.take_of_length_le hl];exact h.n
theorem pY{l:List Ev}{k:Nat}{e:Ev}(h:l[k]?=some e):(l.take (k+1)).countP gr=(l.take k).countP gr+(if gr e=true then 1 else 0):=by
 rw[bj h,List.countP_append,List.countP_cons,List.countP_nil,Nat.zero_add]
theorem Fw{k:Nat}{s:Spc}(h:jj k s):s.aM.due.length≤16:=by
 have hbal:∀ w,mj s w=dy s w:=fun w=>by have:=h.1.qe w;simpa using this
 have bL:∀ w,cL s.aM w≤dy s w:=fun w=>by have:=hbal w;unfold mj at this;omega
 have h1:s.aM.gx.length≤16:=nV (f:=fun r:Int×Int=>r.1) h.1.lt bL
 have:=ry s.aM
 omega
def Lib.kC(l:Lib):Lib:=({l with bI:=l.bI.tick.2 }:Lib).tell (aQ l.bI.aM.due)
theorem mq(l:List Int):(aQ l).length=l.length:=List.length_map ..
theorem pZ{k:Nat}{l:Lib}(h:er k l):aC 17 0 l l.kC:=by
 have h0:aC 0 0 l ({l with bI:=l.bI.tick.2 }:Lib):=⟨rfl,rfl,Nat.le_refl _,fun _ h=>h⟩
 have h1:=Fw h.sp
 have h2:=mq l.bI.aM.due
 exact(h0.trans (aC.tell _ _)).le (by omega) (by omega)
theorem er.kC{k:Nat}{l:Lib}(h:er k l):er (k+1) l.kC :=
 h.of ((pZ h).le (by omega) (by omega)) (by
  show jj (k+2) (Lib.tell _ _).bI
  rw[(ib _ _).1.bI]
  exact h.sp.tick)
theorem Lk.kC{l:Lib}(h:Lk l):Lk l.kC:=Lk.tell h.same (gh _)
end Go.SLYthncobnjdhjnoaaGreat
namespace Go.SLYthncobnjdhjnoaaGreat
open Go Go.RowKit Go.Proofs Go.Proofs.Tryz
attribute [local irreducible] aq aJ ba bq bu Y
theorem Fx{W:World}{bs:Nat}{ps:List (Option Nat)}{s:Spc}{p:Int}(hl:s.aA.length=16):Fn Tryz.prog W 30 [ptr bs,.int .i64 p] [cn bs ps s] (Nat×Nat) (fun x=>ptr x.1) (fun _=>True) (fun x=>[aX x.1 bs x.2 (Lib.new s p)]):=by
 refine Fn.intro (N:=24) func30 rfl ntmps30 rfl fun F=>?_
 show aq _ _ _ _ _ _ [cn bs ps s,F]
 have hc:0≤ay p 64∧ay p 64≤64:=by unfold ay;omega
 have hrl:s.ready.length≤1000000000:=by have:=gy s.aA 0;show(readyFrom s.aA 0).length≤_;omega
 refine J 8 ?_
 refine .p (.qT rfl rfl) ?_
 refine .p (.eS (Y.jq rfl rfl) (show min (max p 0) 64=ay p 64 from rfl)) ?_
 refine J 4 ?_
 refine .qM [] [0,0,2,0,4,0,4,0] [0,1,2,3,4,5,6,7] rfl (by kernel_rfl) ?_
 refine bu.q rfl rfl rfl Kept.auto (Y.m rfl) ?_
 refine bu.q rfl rfl rfl Kept.auto (Y.m rfl) ?_
 refine bu.dX rfl (.inl rfl) rfl (fun _=>Kept.auto) call62 rfl tL .auto (fun _ _=>Kept.auto) ?_
 rintro x12 -
 rw[show ay (ay p 64) 64=ay p 64 from by unfold ay;omega]
 refine bu.q rfl rfl rfl Kept.auto (Y.m rfl) ?_
 refine bu.fresh rfl rfl rfl (by decide) Kept.auto (il (enc:=dY) (k:=3) ((Value.slice none 0 0:Value),aR.z) (ay p 64).toNat underlying93 typeInfo76 rfl rfl rfl rfl (by decide) (by decide) rfl rfl (by omega) (by omega) (by omega)) ?_
 rintro b14
 refine bu.q rfl rfl rfl Kept.auto (Y.sK (fun v1 v2 v3=>[v1,v2,v3,(.slice none 0 0),(.bool false)]) rfl rfl rfl (by kernel_rfl)) ?_
 refine bu.fresh rfl rfl rfl (by decide) Kept.auto (lP rfl rfl) ?_
 rintro b16
 refine bu.q rfl rfl rfl Kept.auto (Y.a rfl) ?_
 refine bu.nil ?_
 refine J 3 ?_
 refine .to (A:=sl dY 3 (.slice (some ⟨b14,0,none⟩) (ay p 64).toNat (ay p 64).toNat) (List.replicate (ay p 64).toNat ((Value.slice none 0 0:Value),aR.z))) .auto (nu rfl) ?_
 refine J 2 ?_
 refine .c call45 rfl (mR hl) fun u19 _=>?_
 refine .c call63 rfl (fD (A:=sl ar 1 u19 s.ready) (Rd.sl .here) hrl) fun u20 _=>?_
 refine J 2 ?_
 refine .ai rfl (ab.ng sizeOf71 rfl rfl rfl) ?_
 rintro _ _ ⟨rfl,rfl⟩
 refine J 9 ?_
 refine .aP rfl rfl fun w s=>⟨(b16,x12),?_,trivial,aj (by repeat (first | exact au.nil | (apply au.cons; · repeat (first | exact Take.here | apply Take.there)) | apply au.FT | apply au.FU | apply au.void | apply au.FQ | apply au.two | (apply au.BA; · exact fV) | (apply au.allM; · exact fun _=>fV) | apply au.f1 rfl | apply au.f2 rfl | apply au.f3 rfl | apply au.f4 rfl | apply au.f10 rfl | apply au.et | assumption | exact trivial | rfl | omega | (apply au.BA; · exact fV) | (focus (simp[Lib.new];done)) | (unfold Lib.new;simp only;apply au.cons; · repeat (first | exact Take.here | apply Take.there)))) s⟩
 rfl
theorem qf{W:World}{A:aa}{v:Value}{xs:List Int}(hr:Rd W [A] ar 1 v xs)(hl:xs.length≤1000000000):Fn Tryz.prog W 36 [v] [A] Value (fun u=>u) (fun _=>True) (fun u=>[sl bW 3 u (aQ xs),A]):=by
 refine Fn.intro (N:=21) func36 rfl ntmps36 rfl fun F=>?_
 haveI hRI:∀ (H:List aa) [bE H A],aG W H v ar 1 xs:=fun H h=>⟨hr.at h.has⟩
 show aq _ _ _ _ _ _ [A,F]
 refine J 7 ?_
 refine .ai rfl (ab.fG 80 rfl rfl (by kernel_rfl)) ?_
 rintro _ _ ⟨b5,rfl,rfl⟩
 refine J 10 ?_
 refine .bf (X:=Nat×Value) [3,4,6,7,8,9,10,11,12,13,14,15,16,17,18,19] (fun z=>xs.length-z.1) (fun z=>z.1≤xs.length) (fun z=>[(4,some (.int .i64 (z.1:Int))),(3,some z.2)]) (fun z=>[sl bW 3 z.2 (aQ (xs.take z.1)),A,F]) (0,.slice (some ⟨b5,0,none⟩) 0 0) ?_ ?_ ?_ ?_
 ·exact Nat.zero_le _
 ·exact⟨rfl,rfl,trivial⟩
 ·exact fun w s=>au.kept .auto w s
 rintro⟨k,u⟩ hk
 simp only at hk
 refine JD 9 (fun h9=>?_) fun h9=>?_
 ·refine J 8 ?_
  obtain⟨n,hx⟩:=al (show k<xs.length by omega)
  refine J 1 ?_
  refine .p (.lr rfl hx) ?_
  refine .p (.fW (fun v1 v2=>[v1,v2,(.int .i64 0)]) rfl rfl (by kernel_rfl)) ?_
  refine .ai rfl (ab.fG 80 rfl rfl (by kernel_rfl)) ?_
  rintro _ _ ⟨b18,rfl,rfl⟩
  refine .ai rfl (ab.gv (enc:=bW) (k:=3) (⟨3,n,0⟩:Ev) rfl underlying71 underlying71 typeInfo80 rfl rfl rfl (by decide) rfl rfl rfl .auto rfl .auto (by unfold aQ;rw[List.length_map,List.length_take];omega) rfl) ?_
  rintro _ _ ⟨v19,rfl,rfl⟩
  refine J 9 ?_
  refine .aF (k+1,v19) .auto rfl ?_ ?_ ?_ ?_
  ·show xs.length-(k+1)<xs.length-k;omega
  ·show k+1≤_;omega
  ·exact⟨rfl,rfl,trivial⟩
  ·show ∀ w,Sat _ w _→Sat _ w (seps [sl bW 3 v19 (aQ (xs.take (k+1))),A,F])
   rw[wO hx]
   exact fun w s=>au.kept .auto w s
 ·refine J 12 ?_
  obtain rfl:k=xs.length:=by omega
  rw[List.take_length]
  refine .aP rfl rfl fun w s=>⟨_,?_,trivial,aj .auto s⟩
  rfl
theorem yt{W:World}{A:aa}{v:aW}{u:Value}{acts:List Ij}{np:Int}(hp:ez W [A] v)(hl:v.fs.length≤1000000000∧v.sems.length≤1000000000∧v.pipes.length≤1000000000)(hw:∀ f∈v.p.funcs, ∀ i∈f,fu i.n)(hr:Rd W [A] rE 3 u acts)(_hal:acts.length≤1000000000)(hnp:0≤np∧np≤255):Fn Tryz.prog W 7 [.agg (fe v).toArray,.int .u8 np,u] [A] Unit (fun _=>.bool true) (fun _=>True) (fun _=>[A]):=by
 refine Fn.intro (N:=134) func7 rfl ntmps7 rfl fun F=>?_
 haveI hRI:∀ (H:List aa) [bE H A],aG W H u rE 3 acts:=fun H h=>⟨hr.at h.has⟩
 show aq _ _ _ _ _ _ [A,F]
 refine J 2 ?_
 refine .ai rfl (ab.box rfl rfl rfl) ?_
 rintro _ _ ⟨b3,rfl,rfl⟩
 refine .mem (H':=[arr b3 0 (fe v),A,F]) (fun w s=>s) ?_
 refine J 6 ?_
 refine .c call28 rfl (rI hp hl) fun o ho=>?_
 refine JD 14 (fun h24=>?_) fun h24=>?_
 ·refine J 2 ?_
  refine .c call29 rfl pW fun _ _=>?_
  exact JR 5 ()
 ·have hc:c0 v.p=0:=Decidable.not_not.mp h24
  obtain⟨ka,rfl⟩:=Option.isSome_iff_exists.1 (ho.trans (decide_eq_true hc))
  refine .fr (A:=optH (fun b=>fX b (Spc.new v.p)) (some ka)) (Bs:=[fX ka (Spc.new v.p)]) .auto gN ?_
  refine .o1 (C:=fX ka (Spc.new v.p)) .auto rfl ?_
  rintro pt -
  have hok:jj 1 (Spc.new v.p):=jj.new ⟨hc,hw⟩
  obtain⟨mk,hmkd⟩:∃ mk,mk=np.toNat % 9:=⟨_,rfl⟩
  have hmk6:mk<9:=by rw[hmkd];exact Nat.mod_lt _ (by decide)
  have hmk:np.tmod 9=(mk:Int):=by
   obtain⟨m,rfl⟩:∃ m:Nat,np=(m:Int):=⟨np.toNat,by omega⟩
   rw[hmkd,Int.toNat_natCast];exact(Int.ofNat_tmod m 9).symm
  have hI0:=er.new hok (mk:Int)
  have hvl0:(Lib.new (Spc.new v.p) (mk:Int)).vs.length=mk:=by
   show(List.replicate _ _).length=_;rw[List.length_replicate];unfold ay;omega
  refine J 6 ?_
  refine .p (.eS (Y.rem rfl rfl (by omega)) hmk) ?_
  refine .p (.gm underlying5 underlying3 rfl (by omega)) ?_
  refine .c call30 rfl (Fx (bs:=ka) (ps:=pt) (s:=Spc.new v.p) (p:=(mk:Int)) (nB _)) fun z30 _=>?_
  obtain⟨b30,br⟩:=z30
  simp only
  refine J 10 ?_
  refine .bf (X:=Nat×Lib) [6,10,11,12,13,14,15,16,17,31,32,33,34,35,36,37,38,39,40,41,42,43,44,45,46,47,48,49,50,51,52,53,54,55,56,57,58,59,60,61,62,63,64,65,66,67,68,69,70,71,72,73,74,75,76,77,78,79,80,81,82,83,84,85,86,87,88,89,90,91,92,93,94,95,96,97,98,99,100,101,102,103,104,105,106,107,108,109,110,111,112,113,114,115,116,117,118,119,120,121,122,123,124,125,126,127,128,129,130,131,132] (fun z=>acts.length-z.1) (fun z=>z.1≤acts.length∧z.1≤150∧er z.1 z.2∧Lk z.2∧z.2.vs.length=mk) (fun z=>[(10,some (.int .i64 (z.1:Int)))]) (fun z=>[aX b30 ka br z.2,A,F]) (0,(Lib.new (Spc.new v.p) (mk:Int))) ?_ ?_ ?_ ?_
  ·exact⟨Nat.zero_le _,Nat.zero_le _,hI0,Lk.new _ _,hvl0⟩
  ·exact⟨rfl,trivial⟩
  ·exact fun w s=>au.kept .auto w s
  rintro⟨k,l⟩ ⟨hk,hk2,hI,hK,hvl⟩
  simp only at hk hk2 hI hK hvl
  refine J 8 ?_
  apply aJ.eT 3 38 35 [35,36,37,38] rfl
  ·intro h35
   exact JS 4
  ·intro h35
   exact JS 4
  refine JD 2 (fun h38=>?_) fun h38=>?_
  ·simp only[Bool.and_eq_true,decide_eq_true_eq] at h38
   refine J 8 ?_
   obtain⟨x,hx⟩:=al (show k<acts.length by omega)
   have hz:=hI.sz (show k≤180 by omega)
   refine .p (.ix k rfl rfl rfl (by omega)) ?_
   refine .p (.la rfl (Cells.rd Rd.s hx)) ?_
   refine .ai rfl (ab.alloc rfl zeroValue66 rfl) ?_
   rintro _ _ ⟨b11,rfl,rfl⟩
   refine .ai rfl (ab.gC (vs:=rE x) (by exact sizeOf66) rfl rfl rfl (by rfl)) ?_
   rintro _ _ ⟨rfl,rfl⟩
   refine J 2 ?_
   refine .yD (X:=Lib) [45,46,47,48,49,50,51,52,53,54,55,56,57,58,59,60,61,62,63,64,65,66,67,68,69,70,71,72,73,74,75,76,77,78] (fun l2=>er (k+1) l2∧Lk l2∧l2.vs.length=mk) (fun _=>[]) (fun l2=>[aX b30 ka br l2,A,F]) ?_ ?_
   ·refine JD 13 (fun h53=>?_) fun h53=>?_
    ·refine J 6 ?_
     refine .c call31 rfl (ot (l:=l) (p:=x.slot) (c:=x.choice) hz (fun t=>hI.yz (by omega) t _)) fun u60 _=>?_
     refine J 2 ?_
     refine .hP ((l.step x.slot x.choice).2.2) .auto ?_ ?_ ?_
     ·exact⟨hI.step (by omega) _ _,hK.step _ _,(uk (hI.yz (by omega)) _ _).vs.trans hvl⟩
     ·trivial
     ·exact fun w s=>au.kept .auto w s
    ·refine JD 6 (fun h61=>?_) fun h61=>?_
     ·refine J 4 ?_
      refine .c call32 rfl (lX (l:=l) (p:=x.slot) (Nat.le_trans hz.wt (by decide))) fun _ _=>?_
      refine J 2 ?_
      refine .hP ((l.cO x.slot).2) .auto ?_ ?_ ?_
      ·exact⟨hI.cO _,hK.cO _,(m8 l _).vs.trans hvl⟩
      ·trivial
      ·exact fun w s=>au.kept .auto w s
     ·refine JD 6 (fun h67=>?_) fun h67=>?_
      ·refine J 4 ?_
       refine .c call33 rfl (rK (l:=l) (p:=x.slot) ⟨Nat.le_trans hz.wt (by decide),Nat.le_trans hz.vl (by decide),fun y hy=>Nat.le_trans (hz.ev y hy) (by decide)⟩) fun _ _=>?_
       refine J 2 ?_
       refine .hP ((l.cF x.slot).2) .auto ?_ ?_ ?_
       ·exact⟨hI.cF _,hK.cF _,(lI l _).vs.trans hvl⟩
       ·trivial
       ·exact fun w s=>au.kept .auto w s
      ·refine JD 6 (fun h73=>?_) fun h73=>?_
       ·refine J 4 ?_
        refine .c call34 rfl (yf (l:=l) (p:=x.slot) hz) fun _ _=>?_
        refine J 2 ?_
        refine .hP ((l.eb x.slot).2) .auto ?_ ?_ ?_
        ·exact⟨hI.eb _,hK.eb _,(ou l _).vs.trans hvl⟩
        ·trivial
        ·exact fun w s=>au.kept .auto w s
       ·refine J 3 ?_
        refine .o2 (C:=aX b30 ka br l) .auto rfl ?_
        rintro vv vw -
        have hdu:=Fw hI.sp
        refine .c call37 rfl (CA (b:=ka) (s:=l.bI) hz.sp) fun u49 _=>?_
        refine .p (.field 0 33 underlying35 rfl isAgg33 rfl rfl) ?_
        refine .c call36 rfl (qf (A:=sl ar 1 u49 l.bI.aM.due) (Rd.sl .here) (by omega)) fun u51 _=>?_
        refine .c call35 rfl (lx (l:=({l with bI:=l.bI.tick.2 }:Lib)) (b:=b30) (bs:=ka) (br:=br) (A:=sl bW 3 u51 (aQ l.bI.aM.due)) (Rd.sl .here) ⟨by rw[mq];omega,Nat.le_trans hz.wt (by decide),Nat.le_trans hz.vl (by decide),fun y hy=>Nat.le_trans (hz.ev y hy) (by decide)⟩) fun _ _=>?_
        refine J 2 ?_
        refine .hP (l.kC) .auto ?_ ?_ ?_
        ·exact⟨hI.kC,hK.kC,(pZ hI).vs.trans hvl⟩
        ·trivial
        ·exact fun w s=>au.kept .auto w s
   ·rintro l2 ⟨hI2,hK2,hvl2⟩
    refine J 8 ?_
    have hz2:=hI2.sz (show k+1≤180 by omega)
    refine .c call38 rfl (xO (l:=l2) (Nat.le_trans hz2.wt (by decide))) fun u80 _=>?_
    refine J 10 ?_
    refine .bf (X:=Nat×Value) [12,13,14,15,16,81,82,83,84,85,86,87,88,89,90,91,92,93,94,95,96,97,98,99,100,101,102,103,104,105,106,107,108,109] (fun z=>9-z.1) (fun z=>z.1≤9) (fun z=>[(14,some (.int .i64 (z.1:Int))),(13,some z.2),(12,some (.int .i64 (gi l2 z.1:Int)))]) (fun z=>[sl bW 3 z.2 (ef l2 z.1),aX b30 ka br l2,A,F]) (0,u80) ?_ ?_ ?_ ?_
    ·exact Nat.zero_le _
    ·exact⟨rfl,rfl,rfl,trivial⟩
    ·exact fun w s=>au.kept .auto w s
    rintro⟨q,w13⟩ hq
    simp only at hq
    refine JD 7 (fun h82=>?_) fun h82=>?_
    ·refine J 8 ?_
     refine .c call39 rfl (EU (l:=l2) (p:=(q:Int)) (fun y hy=>Nat.le_trans (hz2.ev y hy) (by decide))) fun u88 _=>?_
     refine .cA (fun w s=>Rd.isSl (Rd.sl .auto) w s) fun hu88=>?_
     refine J 1 ?_
     refine .p (.extract (v:=.agg (dY (u88,(ep l2 (q:Int)))).toArray) rfl rfl) ?_
     refine .p (.extract (v:=.bool (l2.has (q:Int))) rfl rfl) ?_
     refine .ai rfl (ab.alloc rfl zeroValue76 rfl) ?_
     rintro _ _ ⟨b15,rfl,rfl⟩
     refine .ai rfl (ab.gC (vs:=dY (u88,(ep l2 (q:Int)))) (by exact sizeOf76) rfl rfl (j7 hu88) (by rfl)) ?_
     rintro _ _ ⟨rfl,rfl⟩
     refine J 10 ?_
     apply aJ.fY 4 98 94 [94,95,96,97,98] rfl
     ·intro h94
      exact JS 5
     ·intro h94
      exact JS 5
     refine J 1 ?_
     apply aJ.gM 4 103 99 [99,100,101,102,103] rfl
     ·intro h99
      exact JS 5
     ·intro h99
      exact JS 5
     refine JD 2 (fun h103=>?_) fun h103=>?_
     ·refine J 2 ?_
      refine .p (.inc rfl rfl (by have:=py l2 q;dsimp only;omega)) ?_
      refine J 7 ?_
      refine .ai rfl (ab.append rfl underlying71 underlying71 typeInfo80 rfl rfl rfl (by decide) rfl rfl .auto Rd.s (by have h1:=iY hz2.wt hz2.ev q;have h2:=pz hz2.ev (q:Int);dsimp only;omega) (qj _)) ?_
      rintro _ _ ⟨v109,rfl,rfl⟩
      refine J 9 ?_
      refine .aF (q+1,v109) .auto rfl ?_ ?_ ?_ ?_
      ·show 9-(q+1)<9-q;omega
      ·show q+1≤9;omega
      ·refine⟨rfl,rfl,?_,trivial⟩
       rw[show gi l2 (q+1)=gi l2 q+1 from by show gi l2 q+_=_;rw[if_pos (show(ep l2 (q:Int)).holds=true from h103)]];rfl
      ·show ∀ w,Sat _ w _→Sat _ w (seps [sl bW 3 v109 (ef l2 q++(ep l2 (q:Int)).evs),aX b30 ka br l2,A,F])
       exact fun w s=>au.kept .auto w s
     ·refine J 6 ?_
      refine .ai rfl (ab.append rfl underlying71 underlying71 typeInfo80 rfl rfl rfl (by decide) rfl rfl .auto Rd.s (by have h1:=iY hz2.wt hz2.ev q;have h2:=pz hz2.ev (q:Int);dsimp only;omega) (qj _)) ?_
      rintro _ _ ⟨v109,rfl,rfl⟩
      refine J 9 ?_
      refine .aF (q+1,v109) .auto rfl ?_ ?_ ?_ ?_
      ·show 9-(q+1)<9-q;omega
      ·show q+1≤9;omega
      ·refine⟨rfl,rfl,?_,trivial⟩
       rw[show gi l2 (q+1)=gi l2 q from by show gi l2 q+_=_;rw[if_neg (show ¬(ep l2 (q:Int)).holds=true from by rw[show(ep l2 (q:Int)).holds=false from h103];simp)];rfl];rfl
      ·show ∀ w,Sat _ w _→Sat _ w (seps [sl bW 3 v109 (ef l2 q++(ep l2 (q:Int)).evs),aX b30 ka br l2,A,F])
       exact fun w s=>au.kept .auto w s
    ·obtain rfl:q=9:=by omega
     have hle:=iY hz2.wt hz2.ev 9
     refine J 12 ?_
     refine .bf (X:=Nat) [12,17,110,111,112,113,114,115,116,117,118,119,120,121,122,123] (fun j=>(ef l2 9).length-j) (fun j=>j≤(ef l2 9).length) (fun j=>[(17,some (.int .i64 (j:Int))),(12,some (.int .i64 ((gi l2 9+((ef l2 9).take j).countP gr:Nat):Int)))]) (fun j=>[sl bW 3 w13 (ef l2 9),aX b30 ka br l2,A,F]) 0 ?_ ?_ ?_ ?_
     ·exact Nat.zero_le _
     ·exact⟨rfl,rfl,trivial⟩
     ·exact fun w s=>au.kept .auto w s
     rintro j hj
     refine JD 9 (fun h113=>?_) fun h113=>?_
     ·obtain⟨e,he⟩:=al (show j<(ef l2 9).length by omega)
      refine J 8 ?_
      refine .p (.ix j rfl rfl rfl (by omega)) ?_
      refine J 1 ?_
      refine .p (.ld rfl (Cell.rd (c:=2) Rd.s he rfl)) ?_
      refine JD 3 (fun h121=>?_) fun h121=>?_
      ·refine J 2 ?_
       refine .p (.inc rfl rfl (by have h1:=py l2 9;have h2:=Nat.le_trans (List.countP_le_length (p:=gr) (l:=(ef l2 9).take j)) (List.length_take_le ..);omega)) ?_
       refine J 9 ?_
       refine .aF (j+1) .auto rfl ?_ ?_ ?_ ?_
       ·omega
       ·show j+1≤_;omega
       ·refine⟨rfl,?_,trivial⟩
        rw[pY he,if_pos (show gr e=true from decide_eq_true h121)];rfl
       ·exact fun w s=>au.kept .auto w s
      ·refine J 8 ?_
       refine .aF (j+1) .auto rfl ?_ ?_ ?_ ?_
       ·omega
       ·show j+1≤_;omega
       ·refine⟨rfl,?_,trivial⟩
        rw[pY he,if_neg (show ¬gr e=true from fun g=>h121 (of_decide_eq_true g))];rfl
       ·exact fun w s=>au.kept .auto w s
     ·obtain rfl:j=(ef l2 9).length:=by omega
      rw[List.take_length,CU hK2 (by omega)]
      refine J 6 ?_
      cases hlk:l2.locked
      ·refine J 7 ?_
       refine .cg call40 rfl m7 fun _ _=>?_
       rw[hlk]
       refine .g (.Aw underlying4 rfl rfl) ?_
       refine J 3 ?_
       refine .eN rfl ?_
       refine J 8 ?_
       refine .aF (k+1,l2) .auto rfl ?_ ?_ ?_ ?_
       ·show acts.length-(k+1)<acts.length-k;omega
       ·exact⟨by show k+1≤_;omega,by show k+1≤150;omega,hI2,hK2,hvl2⟩
       ·exact⟨rfl,trivial⟩
       ·exact fun w s=>au.kept .auto w s
      ·refine J 7 ?_
       refine .cg call40 rfl m7 fun _ _=>?_
       rw[hlk]
       refine .g (.Aw underlying4 rfl rfl) ?_
       refine J 3 ?_
       refine .eN rfl ?_
       refine J 8 ?_
       refine .aF (k+1,l2) .auto rfl ?_ ?_ ?_ ?_
       ·show acts.length-(k+1)<acts.length-k;omega
       ·exact⟨by show k+1≤_;omega,by show k+1≤150;omega,hI2,hK2,hvl2⟩
       ·exact⟨rfl,trivial⟩
       ·exact fun w s=>au.kept .auto w s
  ·simp only[Bool.and_eq_false_iff,decide_eq_false_iff_not] at h38
   refine J 7 ?_
   refine .c call29 rfl pW fun _ _=>?_
   exact JR 4 ()
end Go.SLYthncobnjdhjnoaaGreat
namespace Go.SLYthncobnjdhjnoaaGreat
open Go Go.RowKit Go.Proofs Go.Proofs.Tryz
attribute [local irreducible] aq aJ ba bq bu Y
theorem ji{W:World}{b:Nat}{bl:List Nat}{k:Krn}{A:aa}{v:Value}{prio:List Int}{turn:Int}{m:Nat}(hpr:Rd W [A] ar 1 v prio)(hpl:prio.length≤1000000000)(hk:qX m k):Fn Tryz.prog W 49 [ptr b,v,.int .i64 turn] [bX b bl k,A] Value (fun u=>u) (fun _=>True) (fun u=>[sl ar 1 u (k.targets prio turn),bX b bl k,A]):=by
 refine Fn.intro (N:=14) func49 rfl ntmps49 rfl fun F=>?_
 haveI hRI:∀ (H:List aa) [bE H A],aG W H v ar 1 prio:=fun H h=>⟨hpr.at h.has⟩
 show aq _ _ _ _ _ _ [bX b bl k,A,F]
 refine J 8 ?_
 refine .c call18 rfl iH fun _ _=>?_
 refine J 1 ?_
 refine .c call19 rfl (fR hk) fun u10 _=>?_
 refine J 2 ?_
 refine .c call82 rfl (Ac (A:=seps [sl ar 1 u10 k.demand,A]) (demand:=k.demand) (prio:=prio) (Rd.et (Rd.sl .here)) (Rd.et (hpr.at (.there .here))) ⟨hpl,EI hk⟩) fun u13 _=>?_
 refine J 4 ?_
 refine .dL .auto ?_
 refine .aP rfl rfl fun w s=>⟨_,?_,trivial,aj .auto s⟩
 rfl
theorem sG{W:World}{b:Nat}{bl:List Nat}{k:Krn}{A:aa}{v:Value}{prio:List Int}{turn:Int}{m:Nat}(hpr:Rd W [A] ar 1 v prio)(hpl:prio.length≤1000000000)(hk:qX m k):Fn Tryz.prog W 48 [ptr b,v,.int .i64 turn] [bX b bl k,A] Unit (fun _=>.bool (k.fair prio turn)) (fun _=>True) (fun _=>[bX b bl k,A]):=by
 refine Fn.intro (N:=34) func48 rfl ntmps48 rfl fun F=>?_
 haveI hRI:∀ (H:List aa) [bE H A],aG W H v ar 1 prio:=fun H h=>⟨hpr.at h.has⟩
 show aq _ _ _ _ _ _ [bX b bl k,A,F]
 have htf:=jd hk prio turn
 have hll:=hk.ll
 refine J 10 ?_
 refine .c call49 rfl (ji hpr hpl hk) fun u13 _=>?_
 refine J 9 ?_
 refine .c call14 rfl iX fun _ _=>?_
 refine JD 3 (fun h18=>?_) fun h18=>?_
 ·refine J 7 ?_
  refine .aP rfl rfl fun w s=>⟨(),?_,trivial,aj .auto s⟩
  rw[EK h18]
 ·have h18:(k.targets prio turn).length=k.libs.length:=by omega
  refine J 11 ?_
  refine .bf (X:=Nat) [6,8,9,21,22,23,24,25,26,27,28,29,30,31,32,33] (fun z=>(k.targets prio turn).length-z) (fun z=>z≤(k.targets prio turn).length∧(k.libs.map fun l=>(l.procs.length:Int)).take z=(k.targets prio turn).take z) (fun z=>[(21,some (.int .i64 (z:Int)))]) (fun z=>[sl ar 1 u13 (k.targets prio turn),bX b bl k,A,F]) 0 ?_ ?_ ?_ ?_
  ·exact⟨Nat.zero_le _,rfl⟩
  ·exact⟨rfl,trivial⟩
  ·exact fun w s=>au.kept .auto w s
  rintro n ⟨hn,heq⟩
  refine JD 6 (fun h22=>?_) fun h22=>?_
  ·refine J 7 ?_
   obtain⟨w,hw⟩:=al (show n<(k.targets prio turn).length by omega)
   obtain⟨l,hl⟩:=al (show n<k.libs.length by omega)
   have hlo:=hk.oz l (List.mem_of_getElem? hl)
   refine J 1 ?_
   refine .p (.lr rfl hw) ?_
   refine J 8 ?_
   refine .c call15 rfl iI fun _ _=>?_
   refine .o3 (C:=bX b bl k) .auto rfl ?_
   rintro vo vl xs ⟨hxb,hxs⟩
   have hxl:=aE hxs
   have hbl:=aE hxb
   have hxx:=And.intro hxb hxs
   obtain⟨x,hx,hxe,hbx⟩:=gb hxb hxs hl
   rw[bK,hbx]
   subst hxe
   refine .fr .auto (cY (f:=fun x:Nat×Lib=>du x.1 x.2) hx) ?_
   refine .o2 (C:=du x.1 x.2) .auto rfl ?_
   rintro bs br -
   refine .c call16 rfl (ia (l:=x.2) (Nat.le_trans hlo.vl (by decide))) fun u29 _=>?_
   refine .to (A:=aO (fun x:Nat×Lib=>du x.1 x.2) xs) .auto (dR (f:=fun x:Nat×Lib=>du x.1 x.2) hx) ?_
   refine .to (A:=bX b bl k) .auto EJ ?_
   refine JD 5 (fun h32=>?_) fun h32=>?_
   ·refine J 11 ?_
    refine .aP rfl rfl fun w s=>⟨(),?_,trivial,aj .auto s⟩
    rw[EL hl hw h32]
   ·refine J 7 ?_
    refine .aF (n+1) .auto rfl ?_ ?_ ?_ ?_
    ·first | omega | (dsimp only;omega)
    ·exact⟨by omega,by rw[bj hw,bj (show(k.libs.map fun l=>(l.procs.length:Int))[n]?=some (x.2.procs.length:Int) by rw[List.getElem?_map,hl];rfl),heq,Decidable.of_not_not h32]⟩
    ·exact⟨rfl,trivial⟩
    ·exact fun w s=>au.kept .auto w s
  ·obtain rfl:n=(k.targets prio turn).length:=by omega
   rw[List.take_length,List.take_of_length_le (by rw[List.length_map];omega)] at heq
   refine J 11 ?_
   refine .aP rfl rfl fun w s=>⟨(),?_,trivial,aj .auto s⟩
   rw[Gu h18 heq]
theorem iZ{W:World}{b:Nat}{bl:List Nat}{k:Krn}{A:aa}{v:Value}{prio:List Int}{turn:Int}{m:Nat}(hpr:Rd W [A] ar 1 v prio)(hpl:prio.length≤1000000000)(hi:Inv m k)(hm:m≤200000000):Fn Tryz.prog W 25 [ptr b,v,.int .i64 turn] [bX b bl k,A] Unit (fun _=>.int .i64 ((k.share prio turn).2:Int)) (fun _=>True) (fun _=>[bX b bl (k.share prio turn).1,A]):=by
 refine Fn.intro (N:=73) func25 rfl ntmps25 rfl fun F=>?_
 haveI hRI:∀ (H:List aa) [bE H A],aG W H v ar 1 prio:=fun H h=>⟨hpr.at h.has⟩
 show aq _ _ _ _ _ _ [bX b bl k,A,F]
 refine J 10 ?_
 refine .c call49 rfl (ji hpr hpl hi.ok) fun u17 _=>?_
 obtain⟨want,hwt⟩:∃ want,want=k.targets prio turn:=⟨_,rfl⟩
 have htf:=jd hi.ok prio turn
 have hsh:k.share prio turn=di want 0 (takeFrom want 0 (k,0)):=by rw[hwt];rfl
 rw[← hwt] at htf ⊢
 rw[hsh]
 have hll:=hi.ok.ll
 refine J 17 ?_
 refine .bf (X:=Nat×Krn×Nat) [8,9,10,12,20,21,22,23,24,25,26,27,28,29,30,31,32,33,34,35,36,37,38,39,40,41,42,43,44,45,46,47] (fun z=>want.length-z.1) (fun z=>z.1≤want.length∧Inv (m+2 * z.2.2) z.2.1∧z.2.2≤64 * z.1∧z.2.1.libs.length=k.libs.length∧z.2.1.owner.length=k.owner.length∧takeFrom want 0 (k,0)=takeFrom (want.drop z.1) z.1 (z.2.1,z.2.2)) (fun z=>[(20,some (.int .i64 (z.1:Int))),(8,some (.int .i64 (z.2.2:Int)))]) (fun z=>[sl ar 1 u17 want,bX b bl z.2.1,A,F]) (0,k,0) ?_ ?_ ?_ ?_
 ·exact⟨Nat.zero_le _,hi,Nat.zero_le _,rfl,rfl,rfl⟩
 ·exact⟨rfl,rfl,trivial⟩
 ·exact fun w s=>au.kept .auto w s
 rintro⟨n,k1,mv⟩ ⟨hn,hi1,hmv,hl1,ho1,htk⟩
 simp only at hn hi1 hmv hl1 ho1 htk
 refine JD 6 (fun h21=>?_) fun h21=>?_
 ·refine J 6 ?_
  obtain⟨w,hw⟩:=al (show n<want.length by omega)
  have hw64:=htf.2.1 w (List.mem_of_getElem? hw)
  obtain⟨l,hl⟩:=al (show n<k1.libs.length by omega)
  have hlo:=hi1.ok.oz l (List.mem_of_getElem? hl)
  refine J 8 ?_
  refine .c call15 rfl iI fun _ _=>?_
  refine .o3 (C:=bX b bl k1) .auto rfl ?_
  rintro vo vl xs ⟨hxb,hxs⟩
  have hxl:=aE hxs
  have hbl:=aE hxb
  have hxx:=And.intro hxb hxs
  obtain⟨x,hx,hxe,hbx⟩:=gb hxb hxs hl
  rw[bK,hbx]
  subst hxe
  refine .fr .auto (cY (f:=fun x:Nat×Lib=>du x.1 x.2) hx) ?_
  refine .o2 (C:=du x.1 x.2) .auto rfl ?_
  rintro bs br -
  refine .c call16 rfl (ia (l:=x.2) (Nat.le_trans hlo.vl (by decide))) fun u26 _=>?_
  refine .to (A:=aO (fun x:Nat×Lib=>du x.1 x.2) xs) .auto (dR (f:=fun x:Nat×Lib=>du x.1 x.2) hx) ?_
  refine .to (A:=bX b bl k1) .auto EJ ?_
  refine J 11 ?_
  refine .p (.lr rfl hw) ?_
  refine .p (.jq rfl rfl) ?_
  refine .p (.sliceFrom (min x.2.procs.length w.toNat) underlying33 sizeOf3 rfl rfl Rd.s (by omega) (by omega)) ?_
  obtain⟨ps,hps⟩:∃ ps,ps=x.2.procs.drop w.toNat:=⟨_,rfl⟩
  have hpl64:x.2.procs.length≤64:=Nat.le_trans (oG _ _) hlo.vl
  have hpsl:ps.length≤64:=by rw[hps,List.length_drop];omega
  have hcut:=(Rd.sl (W:=W) (H:=[sl ar 1 u26 x.2.procs]) .here).cut (lo:=min x.2.procs.length w.toNat) (hi:=x.2.procs.length) (by omega) (Nat.le_refl _)
  rw[List.take_length,EM, ← hps] at hcut
  haveI hIc:∀ (H:List aa) [bE H (sl ar 1 u26 x.2.procs)],aG W H (cut 1 (min x.2.procs.length w.toNat) x.2.procs.length u26) ar 1 ps:=fun H h=>⟨hcut.at h.has⟩
  refine J 5 ?_
  refine .bf (X:=Nat×Krn) [8,12,37,38,39,40,41,42,43,44,45,46] (fun z=>ps.length-z.1) (fun z=>z.1≤ps.length∧Inv (m+2 * (mv+z.1)) z.2∧z.2.libs.length=k.libs.length∧z.2.owner.length=k.owner.length∧ec (ps.drop z.1) z.2=ec ps k1) (fun z=>[(37,some (.int .i64 (z.1:Int))),(8,some (.int .i64 ((mv+z.1:Nat):Int)))]) (fun z=>[sl ar 1 u26 x.2.procs,sl ar 1 u17 want,bX b bl z.2,A,F]) (0,k1) ?_ ?_ ?_ ?_
  ·exact⟨Nat.zero_le _,hi1,hl1,ho1,rfl⟩
  ·exact⟨rfl,rfl,trivial⟩
  ·exact fun w s=>au.kept .auto w s
  rintro⟨j,k2⟩ ⟨hj,hi2,hl2,ho2,hta⟩
  simp only at hj hi2 hl2 ho2 hta
  refine JD 6 (fun h38=>?_) fun h38=>?_
  ·refine J 6 ?_
   obtain⟨p,hp⟩:=al (show j<ps.length by omega)
   refine J 9 ?_
   refine .c call11 rfl (jQ (k:=k2) hi2.ok (by omega)) fun _ _=>?_
   refine J 4 ?_
   refine .p (.eS (Y.add rfl rfl (by dsimp only;omega)) (show((mv+j:Nat):Int)+1=((mv+(j+1):Nat):Int) from by omega)) ?_
   refine J 8 ?_
   refine .aF (j+1,(k2.take p).2) .auto rfl ?_ ?_ ?_ ?_
   ·show ps.length-(j+1)<ps.length-j;omega
   ·exact⟨by show j+1≤_;omega,hi2.take p,(lY hi2.ok p).1.trans hl2,(lY hi2.ok p).2.trans ho2,by rw[← hta,drop_cons hp];rfl⟩
   ·exact⟨rfl,rfl,trivial⟩
   ·exact fun w s=>au.kept .auto w s
  ·obtain rfl:j=ps.length:=by omega
   rw[List.drop_length] at hta
   refine J 10 ?_
   refine .aF (n+1,k2,mv+ps.length) .auto rfl ?_ ?_ ?_ ?_
   ·show want.length-(n+1)<want.length-n;omega
   ·exact⟨by show n+1≤_;omega,hi2,by show mv+ps.length≤64 * (n+1);omega,hl2,ho2,by rw[htk,Ci hw hl hps, ← hta];rfl⟩
   ·exact⟨rfl,rfl,trivial⟩
   ·exact fun w s=>au.kept .auto w s
 ·obtain rfl:n=want.length:=by omega
  rw[List.drop_length,takeFrom] at htk
  have hrm:want≠[]→Room want k1:=fun hne=>by have:=Ch hi (htf.2.2.2 hne) htf.2.2.1;rw[htk] at this;exact this
  rw[htk]
  have hmv5:mv≤512:=by omega
  refine J 14 ?_
  refine .bf (X:=Nat×Krn×Nat) [8,13,50,51,52,53,54,55,56,57,58,59,60,61,62,63,64,65,66,67,68,69,70,71] (fun z=>want.length-z.1) (fun z=>z.1≤want.length∧Inv (m+2 * z.2.2) z.2.1∧z.2.2≤512+64 * z.1∧z.2.1.libs.length=k.libs.length∧(want≠[]→Room want z.2.1)∧di want 0 (k1,mv)=di (want.drop z.1) z.1 (z.2.1,z.2.2)) (fun z=>[(50,some (.int .i64 (z.1:Int))),(8,some (.int .i64 (z.2.2:Int)))]) (fun z=>[sl ar 1 u17 want,bX b bl z.2.1,A,F]) (0,k1,mv) ?_ ?_ ?_ ?_
  ·exact⟨Nat.zero_le _,hi1,by show mv≤512+64 * 0;omega,hl1,hrm,rfl⟩
  ·exact⟨rfl,rfl,trivial⟩
  ·exact fun w s=>au.kept .auto w s
  rintro⟨n,k3,mv3⟩ ⟨hn3,hi3,hmv3,hl3,hr3,hgv⟩
  simp only at hn3 hi3 hmv3 hl3 hr3 hgv
  refine JD 6 (fun h51=>?_) fun h51=>?_
  ·refine J 6 ?_
   obtain⟨w,hw⟩:=al (show n<want.length by omega)
   have hw64:=htf.2.1 w (List.mem_of_getElem? hw)
   have hne:want≠[]:=by rintro rfl;simp at hw
   refine J 5 ?_
   refine .bf (X:=Nat×Krn) [8,13,53,54,55,56,57,58,59,60,61,62,63,64,65,66,67,68,69,70] (fun z=>w.toNat-z.2.owner.count (n:Int)) (fun z=>Inv (m+2 * (mv3+z.1)) z.2∧Room want z.2∧z.2.libs.length=k.libs.length∧z.1+(w.toNat-z.2.owner.count (n:Int))=w.toNat-k3.owner.count (n:Int)∧giveTo (w.toNat-z.2.owner.count (n:Int)) (n:Int) z.2=giveTo (w.toNat-k3.owner.count (n:Int)) (n:Int) k3) (fun z=>[(13,some (.int .i64 (n:Int))),(8,some (.int .i64 ((mv3+z.1:Nat):Int)))]) (fun z=>[sl ar 1 u17 want,bX b bl z.2,A,F]) (0,k3) ?_ ?_ ?_ ?_
   ·exact⟨hi3,hr3 hne,hl3,by simp,rfl⟩
   ·exact⟨rfl,rfl,trivial⟩
   ·exact fun w s=>au.kept .auto w s
   rintro⟨j,k2⟩ ⟨hi2,hr2,hlk2,hjc,hgt⟩
   simp only at hi2 hr2 hlk2 hjc hgt
   refine J 2 ?_
   refine .draw [sl ar 1 u17 want] [1,1,2,2,1,0,0,0,0,1] rfl (by kernel_rfl) ?_
   have hnl2:n<k2.libs.length:=by omega
   obtain⟨l2,hl2⟩:=al hnl2
   refine J 2 ?_
   refine .c2 call15 rfl iI fun _ _=>?_
   refine .o3 (C:=bX b bl k2) .auto rfl ?_
   rintro vo vl xs ⟨hxb,hxs⟩
   have hxl:=aE hxs
   have hbl:=aE hxb
   have hxx:=And.intro hxb hxs
   obtain⟨x,hx,hxe,hbx⟩:=gb hxb hxs hl2
   rw[bK,hbx]
   subst hxe
   refine .fr .auto (cY (f:=fun x:Nat×Lib=>du x.1 x.2) hx) ?_
   refine .o2 (C:=du x.1 x.2) .auto rfl ?_
   rintro bs br -
   refine .c2 call16 rfl (ia (l:=x.2) (Nat.le_trans (hi2.ok.oz x.2 (List.mem_of_getElem? hl2)).vl (by decide))) fun u56 _=>?_
   refine .to (A:=aO (fun x:Nat×Lib=>du x.1 x.2) xs) .auto (dR (f:=fun x:Nat×Lib=>du x.1 x.2) hx) ?_
   refine .to (A:=bX b bl k2) .auto EJ ?_
   refine J 4 ?_
   refine .q (.lr rfl hw) ?_
   refine JD 3 (fun h62=>?_) fun h62=>?_
   ·have hpc:x.2.procs.length=k2.owner.count (n:Int):=by rw[hi2.ag.procs hl2];exact gF _ _ _
    have hlt:k2.owner.count (n:Int)<w.toNat:=by omega
    obtain⟨i,r,hf,hoi,hmin⟩:=Cg (hr2.free hi2.ok hw hlt)
    have hol:=hi2.ok.ol
    have hfl:k2.free.length≤64:=Nat.le_trans (by rw[show k2.free=posFrom (-1) k2.owner 0 from nZ _ _,gF];exact List.count_le_length) hol
    have hrg:=hr2.cz hw hlt hoi hl2
    refine J 7 ?_
    refine .c call13 rfl (jP (k:=k2) hol) fun u65 _=>?_
    refine .c call50 rfl (J6 (A:=sl ar 1 u65 k2.free) (xs:=k2.free) (Rd.sl .here) (by omega) (by rw[hf];simp)) fun _ _=>?_
    rw[hmin]
    refine J 1 ?_
    refine .c call10 rfl (fS (k:=k2) (p:=(i:Int)) (n:=(n:Int)) hi2.ok (by omega)) fun _ _=>?_
    refine J 4 ?_
    refine .p (.eS (Y.add rfl rfl (by dsimp only;omega)) (show((mv3+j:Nat):Int)+1=((mv3+(j+1):Nat):Int) from by omega)) ?_
    refine J 3 ?_
    refine .aF (j+1,(k2.cz (i:Int) (n:Int)).2) .auto rfl ?_ ?_ ?_ ?_
    ·show w.toNat-(k2.cz (i:Int) (n:Int)).2.owner.count (n:Int)<w.toNat-k2.owner.count (n:Int);rw[hrg.2];omega
    ·exact⟨hi2.cz hoi hl2,hrg.1,hrg.1.len.symm.trans (hr2.len.trans hlk2),by show j+1+(w.toNat-(k2.cz (i:Int) (n:Int)).2.owner.count (n:Int))=_;rw[hrg.2];omega,by show giveTo (w.toNat-(k2.cz (i:Int) (n:Int)).2.owner.count (n:Int)) (n:Int) (k2.cz (i:Int) (n:Int)).2=_;rw[hrg.2, ← hgt,show w.toNat-k2.owner.count (n:Int)=(w.toNat-(k2.owner.count (n:Int)+1))+1 from by omega,giveTo,hf];rfl⟩
    ·exact⟨rfl,rfl,trivial⟩
    ·exact fun w s=>au.kept .auto w s
   ·have hpc:x.2.procs.length=k2.owner.count (n:Int):=by rw[hi2.ag.procs hl2];exact gF _ _ _
    have hge:w.toNat-k2.owner.count (n:Int)=0:=by omega
    rw[hge] at hjc hgt
    refine J 10 ?_
    refine .aF (n+1,k2,mv3+j) .auto rfl ?_ ?_ ?_ ?_
    ·show want.length-(n+1)<want.length-n;omega
    ·exact⟨by show n+1≤_;omega,hi2,by show mv3+j≤512+64 * (n+1);omega,hlk2,fun _=>hr2,by rw[hgv,Cj hw hi3 (by omega), ← hgt, ← hjc];rfl⟩
    ·exact⟨rfl,rfl,trivial⟩
    ·exact fun w s=>au.kept .auto w s
  ·obtain rfl:n=want.length:=by omega
   rw[List.drop_length,di] at hgv
   refine J 12 ?_
   rw[hgv]
   exact JR 0 ()
end Go.SLYthncobnjdhjnoaaGreat
