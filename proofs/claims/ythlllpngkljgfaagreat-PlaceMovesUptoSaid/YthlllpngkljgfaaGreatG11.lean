/- Walks of functions, and what they compute. Conditions: none, this text proves no statement. -/
import Derived.Test.YthlllpngkljgfaaGreatG07
import Derived.Test.YthlllpngkljgfaaGreatProg
import Derived.Test.YthlllpngkljgfaaGreatG08
import Derived.Test.YthlllpngkljgfaaGreatG10
import Derived.Test.YthlllpngkljgfaaGreatG06
import Derived.KernelRfl
import Derived.Test.YthlllpngkljgfaaGreatG03
set_option maxRecDepth 20000
set_option maxHeartbeats 4000000
namespace Go.SLYthlllpngkljgfaaGreat
open Go Go.RowKit Go.Proofs Go.Proofs.Tryz
attribute [local irreducible] ar aM bm bA bE Y
theorem AK{W:World}{b:Nat}{l:List Int}{n:Int}(hl:l.length≤1000000000):Fn Tryz.prog W 220 [ptr b,.int .i64 n] [fh b l] Unit (fun _=>.bool (!l.contains n)) (fun _=>True) (fun _=>[fh b l]):=by
 refine Fn.intro (N:=16) func220 rfl ntmps220 rfl fun F=>?_
 show ar _ _ _ _ _ _ [fh b l,F]
 refine .o1 (C:=fh b l) .auto rfl ?_
 rintro v -
 refine J 15 ?_
 refine .cg call106 rfl (nQ (A:=sl au 1 v l) (Rd.sl .here) hl) fun _ _=>?_
 exact JR 6 ()
theorem yM{W:World}{n:Int}:Fn Tryz.prog W 220 [.pointer none,.int .i64 n] [] Unit (fun _=>.bool false) (fun _=>True) (fun _=>[]):=by
 refine Fn.intro (N:=16) func220 rfl ntmps220 rfl fun F=>?_
 show ar _ _ _ _ _ _ [F]
 exact JR 22 ()
theorem Cv{W:World}{b:Nat}{l:List Int}{n:Int}(hl:l.length≤1000000000)(hn:l.contains n=false):Fn Tryz.prog W 193 [ptr b,.int .i64 n] [fh b l] Unit (fun _=>.bool true) (fun _=>True) (fun _=>[fh b (l++[n])]):=by
 refine Fn.intro (N:=19) func193 rfl ntmps193 rfl fun F=>?_
 show ar _ _ _ _ _ _ [fh b l,F]
 refine J 10 ?_
 refine .c call220 rfl (AK hl) fun _ _=>?_
 rw[hn]
 refine JD 3 (fun h8=>?_) fun h8=>?_
 ·cases h8
 ·refine J 5 ?_
  refine .o1 (C:=fh b l) .auto rfl ?_
  rintro v -
  refine J 5 ?_
  refine .ai rfl (ae.gC 3 rfl rfl (by kernel_rfl)) ?_
  rintro _ _ ⟨b15,rfl,rfl⟩
  refine .ai rfl (ae.gh (enc:=au) (k:=1) n rfl underlying50 underlying50 typeInfo3 rfl rfl rfl (by decide) rfl rfl rfl .auto rfl .auto (by omega) rfl) ?_
  rintro _ _ ⟨v16,rfl,rfl⟩
  refine J 2 ?_
  refine .ai rfl (ae.mr sizeOf50 rfl rfl rfl) ?_
  rintro _ _ ⟨rfl,rfl⟩
  exact JR 8 ()
theorem AL{W:World}{n:Int}:Fn Tryz.prog W 193 [.pointer none,.int .i64 n] [] Unit (fun _=>.bool false) (fun _=>True) (fun _=>[]):=by
 refine Fn.intro (N:=19) func193 rfl ntmps193 rfl fun F=>?_
 show ar _ _ _ _ _ _ [F]
 refine J 10 ?_
 refine .c call220 rfl yM fun _ _=>?_
 refine J 3 ?_
 refine .gd rfl ?_
 exact JR 7 ()
theorem xn{W:World}{b:Nat}{l:List Int}{a x:Int}{i:Nat}(hl:l.length≤1000000000)(hx:l[i]?=some x)(ha:(0≤a∧a=(i:Int))∨(a<0∧a+(l.length:Int)=(i:Int))):Fn Tryz.prog W 194 [ptr b,.int .i64 a] [fh b l] Unit (fun _=>.tuple #[.int .i64 x,.bool true]) (fun _=>True) (fun _=>[fh b (l.eraseIdx i)]):=by
 refine Fn.intro (N:=45) func194 rfl ntmps194 rfl fun F=>?_
 show ar _ _ _ _ _ _ [fh b l,F]
 refine .o1 (C:=fh b l) .auto rfl ?_
 rintro v -
 have hi:=(List.getElem?_eq_some_iff.1 hx).1
 refine JD 21 (fun h16=>?_) fun h16=>?_
 ·exact absurd h16 (by omega)
 ·refine JD 9 (fun h18=>?_) fun h18=>?_
  ·refine J 7 ?_
   refine .p (.add rfl rfl (by omega)) ?_
   refine J 10 ?_
   refine .p (.ix i rfl rfl (by omega) hi) ?_
   refine .p (.lr rfl hx) ?_
   refine J 10 ?_
   refine .p (.fm (Y.m rfl) (show _=(i:Int) by omega)) ?_
   refine J 1 ?_
   refine .p (.fm (Y.add rfl rfl (by omega)) (show _=((i+1:Nat):Int) by omega)) ?_
   refine .c call221 rfl (yG hi hl) fun u41 _=>?_
   refine J 2 ?_
   refine .ai rfl (ae.mr sizeOf50 rfl rfl rfl) ?_
   rintro _ _ ⟨rfl,rfl⟩
   exact JR 10 ()
  ·refine J 9 ?_
   refine .p (.ix i rfl rfl (by omega) hi) ?_
   refine .p (.lr rfl hx) ?_
   refine J 10 ?_
   refine .p (.fm (Y.m rfl) (show _=(i:Int) by omega)) ?_
   refine J 1 ?_
   refine .p (.fm (Y.add rfl rfl (by omega)) (show _=((i+1:Nat):Int) by omega)) ?_
   refine .c call221 rfl (yG hi hl) fun u41 _=>?_
   refine J 2 ?_
   refine .ai rfl (ae.mr sizeOf50 rfl rfl rfl) ?_
   rintro _ _ ⟨rfl,rfl⟩
   exact JR 10 ()
theorem uT{W:World}{b:Nat}{a:Int}:Fn Tryz.prog W 194 [ptr b,.int .i64 a] [fh b []] Unit (fun _=>.tuple #[.int .i64 0,.bool false]) (fun _=>True) (fun _=>[fh b []]):=by
 refine Fn.intro (N:=45) func194 rfl ntmps194 rfl fun F=>?_
 show ar _ _ _ _ _ _ [fh b [],F]
 refine .o1 (C:=fh b []) .auto rfl ?_
 rintro v -
 refine JD 21 (fun h16=>?_) fun h16=>?_
 ·exact JR 8 ()
 ·exact absurd rfl h16
theorem Fk{W:World}{b:Nat}{t:Int}{l:List Int}(hl:(t::l).length≤1000000000):Fn Tryz.prog W 176 [ptr b] [fh b (t::l)] Unit (fun _=>.tuple #[.int .i64 t,.bool true]) (fun _=>True) (fun _=>[fh b l]):=by
 refine Fn.intro (N:=8) func176 rfl ntmps176 rfl fun F=>?_
 show ar _ _ _ _ _ _ [fh b (t::l),F]
 refine J 9 ?_
 refine .c call194 rfl (xn (l:=t::l) (i:=0) hl rfl (.inl ⟨Int.le_refl _,rfl⟩)) fun _ _=>?_
 rw[show(t::l).eraseIdx 0=l from rfl]
 exact JR 7 ()
theorem Cw{W:World}{b:Nat}:Fn Tryz.prog W 176 [ptr b] [fh b []] Unit (fun _=>.tuple #[.int .i64 0,.bool false]) (fun _=>True) (fun _=>[fh b []]):=by
 refine Fn.intro (N:=8) func176 rfl ntmps176 rfl fun F=>?_
 show ar _ _ _ _ _ _ [fh b [],F]
 refine J 9 ?_
 refine .c call194 rfl uT fun _ _=>?_
 exact JR 7 ()
theorem vH{W:World}{b i:Nat}{t:Int}{l:List Int}(hl:l.length≤1000000000)(hi:i+1=l.length)(ht:l[i]?=some t):Fn Tryz.prog W 177 [ptr b] [fh b l] Unit (fun _=>.tuple #[.int .i64 t,.bool true]) (fun _=>True) (fun _=>[fh b l.dropLast]):=by
 refine Fn.intro (N:=8) func177 rfl ntmps177 rfl fun F=>?_
 show ar _ _ _ _ _ _ [fh b l,F]
 refine J 9 ?_
 refine .c call194 rfl (xn (i:=i) hl ht (.inr ⟨by decide,by omega⟩)) fun _ _=>?_
 rw[B0 hi]
 exact JR 7 ()
theorem uU{W:World}{b:Nat}:Fn Tryz.prog W 177 [ptr b] [fh b []] Unit (fun _=>.tuple #[.int .i64 0,.bool false]) (fun _=>True) (fun _=>[fh b []]):=by
 refine Fn.intro (N:=8) func177 rfl ntmps177 rfl fun F=>?_
 show ar _ _ _ _ _ _ [fh b [],F]
 refine J 9 ?_
 refine .c call194 rfl uT fun _ _=>?_
 exact JR 7 ()
theorem k4{W:World}{b:Nat}{v:Value}{xs:List (Nat×List Int)}{n:Int}(_hl:xs.length≤1000000000):Fn Tryz.prog W 103 [ptr b,.int .i64 n] [arr b 0 [v],sl cQ 1 v xs] Unit (fun _=>ef ((aU xs n).map (·.1))) (fun _=>True) (fun _=>[arr b 0 [v],sl cQ 1 v xs]):=by
 refine Fn.intro (N:=27) func103 rfl ntmps103 rfl fun F=>?_
 show ar _ _ _ _ _ _ [arr b 0 [v],sl cQ 1 v xs,F]
 refine J 15 ?_
 refine .vN (t:=11) rfl (fun h11=>?_) (fun h11=>?_)
 ·refine J 10 ?_
  refine .gd rfl ?_
  refine J 7 ?_
  refine .aJ rfl rfl fun w s=>⟨(),?_,trivial,aj .auto s⟩
  rw[fV (by omega)];rfl
 ·refine JD 10 (fun h19=>?_) fun h19=>?_
  ·refine J 7 ?_
   refine .aJ rfl rfl fun w s=>⟨(),?_,trivial,aj .auto s⟩
   rw[fV (by omega)];rfl
  ·refine J 9 ?_
   obtain⟨x,hx,hg⟩:=cR (l:=xs) (i:=n) ⟨by omega,by omega⟩
   refine .p (.ix n.toNat rfl rfl (by omega) (by omega)) ?_
   refine .p (.lr rfl hx) ?_
   refine J 4 ?_
   refine .aJ rfl rfl fun w s=>⟨(),?_,trivial,aj .auto s⟩
   rw[hg];rfl
theorem Iz{W:World}{b:Nat}{rs:List (List Int)}{p t:Int}(hl:rs.length≤64∧ ∀ r∈rs,r.length≤900000000):Fn Tryz.prog W 175 [ptr b,.int .i64 p,.int .i64 t] [fz b rs] Bool (fun u=>.bool u) (fun _=>True) (fun _=>[fz b (rAdd rs p t)]):=by
 refine Fn.intro (N:=21) func175 rfl ntmps175 rfl fun F=>?_
 show ar _ _ _ _ _ _ [fz b rs,F]
 have hlb:rs.length≤64∧ ∀ r∈rs,r.length≤1000000000:=⟨hl.1,fun r hr=>Nat.le_trans (hl.2 r hr) (by decide)⟩
 refine J 10 ?_
 refine .c call109 rfl (uH hlb) fun _ _=>?_
 refine JD 12 (fun h15=>?_) fun h15=>?_
 ·refine J 7 ?_
  rw[BZ h15]
  exact JR 0 false
 ·refine .o2 (C:=fz b rs) .auto rfl ?_
  rintro v xs hxs
  have hxl:=ay hxs
  have hgr:=wO hxs (p:=p)
  refine J 3 ?_
  rcases hg:aU xs p with _ | ⟨q,r⟩
  ·rw[hg] at hgr
   refine J 3 ?_
   refine .c call103 rfl (k4 (xs:=xs) (n:=p) (by omega)) fun _ _=>?_
   rw[hg]
   refine J 1 ?_
   refine .c call193 rfl AL fun _ _=>?_
   refine J 4 ?_
   rw[EK hgr]
   refine .to (A:=fz b rs) (Bs:=[arr b 0 [v],sl cQ 1 v xs,aO (fun x:Nat×List Int=>fh x.1 x.2) xs]) .auto (p9 hxs) ?_
   exact JR 0 false
  ·rw[hg] at hgr
   have hx:=(cB hg).2.2
   have hrx:=(cB hgr).2.2
   refine J 3 ?_
   refine .c call103 rfl (k4 (xs:=xs) (n:=p) (by omega)) fun _ _=>?_
   rw[hg]
   refine .fr .auto (nG hx) ?_
   refine J 1 ?_
   refine .c call193 rfl (Cv (l:=r) (hlb.2 r (List.mem_of_getElem? hrx)) (EM h15 hrx)) fun _ _=>?_
   refine J 4 ?_
   rw[EL h15 hgr]
   refine .to (A:=fz b (rs.set p.toNat (r++[t]))) (Bs:=[arr b 0 [v],sl cQ 1 v xs,fh q (r++[t]),aO (fun x:Nat×List Int=>fh x.1 x.2) (xs.eraseIdx p.toNat)]) .auto (q6 hxs hx (r++[t])) ?_
   exact JR 0 true
theorem Fl{W:World}{b:Nat}{rs:List (List Int)}{p:Int}(hl:rs.length≤64∧ ∀ r∈rs,r.length≤900000000):Fn Tryz.prog W 142 [ptr b,.int .i64 p] [fz b rs] Unit (fun _=>.tuple #[.int .i64 (uu rs p),.bool (rPick rs p).isSome]) (fun _=>True) (fun _=>[fz b (mg rs p)]):=by
 refine Fn.intro (N:=44) func142 rfl ntmps142 rfl fun F=>?_
 show ar _ _ _ _ _ _ [fz b rs,F]
 have hlb:rs.length≤64∧ ∀ r∈rs,r.length≤1000000000:=⟨hl.1,fun r hr=>Nat.le_trans (hl.2 r hr) (by decide)⟩
 refine .o2 (C:=fz b rs) .auto rfl ?_
 rintro v xs hxs
 have hxl:=ay hxs
 have hgr:=wO hxs (p:=p)
 refine J 1 ?_
 rcases hg:aU xs p with _ | ⟨q,_ | ⟨t,r⟩⟩
 ·rw[hg] at hgr
  refine J 9 ?_
  refine .c call103 rfl (k4 (xs:=xs) (n:=p) (by omega)) fun _ _=>?_
  rw[hg]
  refine J 10 ?_
  refine .gd rfl ?_
  refine J 8 ?_
  rw[(nF (uv hgr)).1,(nF (uv hgr)).2,uv hgr]
  refine .to (A:=fz b rs) (Bs:=[arr b 0 [v],sl cQ 1 v xs,aO (fun x:Nat×List Int=>fh x.1 x.2) xs]) .auto (p9 hxs) ?_
  exact JR 0 ()
 ·rw[hg] at hgr
  have hx:=(cB hg).2.2
  refine J 9 ?_
  refine .c call103 rfl (k4 (xs:=xs) (n:=p) (by omega)) fun _ _=>?_
  rw[hg]
  refine .fr .auto (nG hx) ?_
  refine J 10 ?_
  refine .eK rfl ?_
  refine J 6 ?_
  refine .c call176 rfl Cw fun _ _=>?_
  refine .to (A:=aO (fun x:Nat×List Int=>fh x.1 x.2) xs) (Bs:=[fh q [],aO (fun x:Nat×List Int=>fh x.1 x.2) (xs.eraseIdx p.toNat)]) .auto (cK (f:=(fun x:Nat×List Int=>fh x.1 x.2)) hx) ?_
  refine J 12 ?_
  refine .eK rfl ?_
  refine J 19 ?_
  refine .aX (X:=Nat) [4,5,11,12,13,31,32,33,34,35,36,37,38,39,40,41,42,43] (fun z=>rs.length-z) (fun z=>z≤rs.length∧ ∀ j,j<z→rs[j]?=some []) (fun z=>[(31,some (.int .i64 (z:Int)))]) (fun z=>[arr b 0 [v],sl cQ 1 v xs,aO (fun x:Nat×List Int=>fh x.1 x.2) xs,F]) 0 ?_ ?_ ?_ ?_
  ·exact⟨Nat.zero_le _,fun j h=>absurd h (Nat.not_lt_zero _)⟩
  ·exact⟨rfl,trivial⟩
  ·exact fun w s=>aq.kept .auto w s
  rintro k ⟨hk,hj⟩
  refine JD 6 (fun h32=>?_) fun h32=>?_
  ·obtain⟨⟨q2,r⟩,hxk⟩:=ak (show k<xs.length by omega)
   have hrk:rs[k]?=some r:=eH hxs hxk
   refine J 5 ?_
   rcases hlast:r.getLast? with _ | t
   ·have hr0:r=[]:=List.getLast?_eq_none_iff.1 hlast
    subst hr0
    refine J 2 ?_
    refine .p (.lr rfl hxk) ?_
    refine J 7 ?_
    refine .fr .auto (nG hxk) ?_
    refine .ai rfl (ae.lf rfl rfl call177 rfl uU .auto) ?_
    rintro _ _ ⟨⟨⟩, -,rfl,rfl⟩
    refine .to (A:=aO (fun x:Nat×List Int=>fh x.1 x.2) xs) (Bs:=[fh q2 [],aO (fun x:Nat×List Int=>fh x.1 x.2) (xs.eraseIdx k)]) .auto (cK (f:=(fun x:Nat×List Int=>fh x.1 x.2)) hxk) ?_
    refine J 12 ?_
    refine .eK rfl ?_
    refine J 7 ?_
    refine .aw (k+1) .auto rfl ?_ ?_ ?_ ?_
    ·omega
    ·exact⟨by omega,fun j h=>by
      rcases Nat.lt_or_ge j k with h2 | h2
      ·exact hj j h2
      ·obtain rfl:j=k:=by omega
       exact hrk⟩
    ·exact⟨rfl,trivial⟩
    ·exact fun w s=>aq.kept .auto w s
   ·obtain⟨i,hi,hti⟩:=JM hlast
    have hpk:rPick rs p=some (t,rs.set k r.dropLast):=(ux hgr).trans (Aq hj hrk hlast)
    refine J 2 ?_
    refine .p (.lr rfl hxk) ?_
    refine J 7 ?_
    refine .fr .auto (nG hxk) ?_
    refine .ai rfl (ae.lf rfl rfl call177 rfl (vH (hlb.2 r (List.mem_of_getElem? hrk)) hi hti) .auto) ?_
    rintro _ _ ⟨⟨⟩, -,rfl,rfl⟩
    refine J 12 ?_
    refine .gd rfl ?_
    refine J 13 ?_
    rw[(js hpk).1,(js hpk).2,hpk]
    refine .to (A:=fz b (rs.set k r.dropLast)) (Bs:=[arr b 0 [v],sl cQ 1 v xs,fh q2 r.dropLast,aO (fun x:Nat×List Int=>fh x.1 x.2) (xs.eraseIdx k)]) .auto (q6 hxs hxk r.dropLast) ?_
    exact JR 0 ()
  ·obtain rfl:k=rs.length:=by omega
   have hpk:rPick rs p=none:=(ux hgr).trans (ur hj)
   refine J 12 ?_
   rw[(nF hpk).1,(nF hpk).2,hpk]
   refine .to (A:=fz b rs) (Bs:=[arr b 0 [v],sl cQ 1 v xs,aO (fun x:Nat×List Int=>fh x.1 x.2) xs]) .auto (p9 hxs) ?_
   exact JR 0 ()
 ·rw[hg] at hgr
  have hx:=(cB hg).2.2
  have hpk:rPick rs p=some (t,rs.set p.toNat r):=EN hgr
  refine J 9 ?_
  refine .c call103 rfl (k4 (xs:=xs) (n:=p) (by omega)) fun _ _=>?_
  rw[hg]
  refine .fr .auto (nG hx) ?_
  refine J 10 ?_
  refine .eK rfl ?_
  refine J 6 ?_
  refine .c call176 rfl (Fk (hlb.2 (t::r) (List.mem_of_getElem? (cB hgr).2.2))) fun _ _=>?_
  refine J 12 ?_
  refine .gd rfl ?_
  refine J 9 ?_
  rw[(js hpk).1,(js hpk).2,hpk]
  refine .to (A:=fz b (rs.set p.toNat r)) (Bs:=[arr b 0 [v],sl cQ 1 v xs,fh q r,aO (fun x:Nat×List Int=>fh x.1 x.2) (xs.eraseIdx p.toNat)]) .auto (q6 hxs hx r) ?_
  exact JR 0 ()
theorem Cx{W:World}{b:Nat}{rs:List (List Int)}(hl:rs.length≤64∧ ∀ r∈rs,r.length≤900000000):Fn Tryz.prog W 92 [ptr b] [fz b rs] Unit (fun _=>.bool (gR rs)) (fun _=>True) (fun _=>[fz b rs]):=by
 refine Fn.intro (N:=21) func92 rfl ntmps92 rfl fun F=>?_
 show ar _ _ _ _ _ _ [fz b rs,F]
 have hlb:rs.length≤64∧ ∀ r∈rs,r.length≤1000000000:=⟨hl.1,fun r hr=>Nat.le_trans (hl.2 r hr) (by decide)⟩
 refine .o2 (C:=fz b rs) .auto rfl ?_
 rintro v xs hxs
 have hxl:=ay hxs
 refine J 12 ?_
 refine .eK rfl ?_
 refine J 14 ?_
 refine .aX (X:=Nat) [2,4,12,13,14,15,16,17,18,19,20] (fun z=>rs.length-z) (fun z=>z≤rs.length∧ ∀ j,j<z→rs[j]?=some []) (fun z=>[(12,some (.int .i64 (z:Int)))]) (fun z=>[arr b 0 [v],sl cQ 1 v xs,aO (fun x:Nat×List Int=>fh x.1 x.2) xs,F]) 0 ?_ ?_ ?_ ?_
 ·exact⟨Nat.zero_le _,fun j h=>absurd h (Nat.not_lt_zero _)⟩
 ·exact⟨rfl,trivial⟩
 ·exact fun w s=>aq.kept .auto w s
 rintro k ⟨hk,hj⟩
 refine JD 6 (fun h13=>?_) fun h13=>?_
 ·refine J 6 ?_
  obtain⟨⟨q,r⟩,hx⟩:=ak (show k<xs.length by omega)
  have hrk:rs[k]?=some r:=eH hxs hx
  refine J 1 ?_
  refine .p (.lr rfl hx) ?_
  refine J 6 ?_
  refine .fr .auto (nG hx) ?_
  refine .c call104 rfl (ra (l:=r) (hlb.2 r (List.mem_of_getElem? hrk))) fun u17 _=>?_
  refine .to (A:=aO (fun x:Nat×List Int=>fh x.1 x.2) xs) (Bs:=[fh q r,aO (fun x:Nat×List Int=>fh x.1 x.2) (xs.eraseIdx k)]) .auto (cK (f:=(fun x:Nat×List Int=>fh x.1 x.2)) hx) ?_
  refine JD 4 (fun h19=>?_) fun h19=>?_
  ·have he:gR rs=false:=HG hrk (fun e=>by rw[e] at h19;simp at h19)
   refine J 11 ?_
   rw[he]
   refine .to (A:=fz b rs) (Bs:=[arr b 0 [v],sl cQ 1 v xs,aO (fun x:Nat×List Int=>fh x.1 x.2) xs]) .auto (p9 hxs) ?_
   exact JR 0 ()
  ·refine J 7 ?_
   refine .aw (k+1) .auto rfl ?_ ?_ ?_ ?_
   ·omega
   ·exact⟨by omega,fun j h=>by
     rcases Nat.lt_or_ge j k with h2 | h2
     ·exact hj j h2
     ·obtain rfl:j=k:=by omega
      have hr0:r=[]:=List.eq_nil_of_length_eq_zero (by omega)
      rw[hrk,hr0]⟩
   ·exact⟨rfl,trivial⟩
   ·exact fun w s=>aq.kept .auto w s
 ·obtain rfl:k=rs.length:=by omega
  have he:gR rs=true:=EO hj
  refine J 11 ?_
  rw[he]
  refine .to (A:=fz b rs) (Bs:=[arr b 0 [v],sl cQ 1 v xs,aO (fun x:Nat×List Int=>fh x.1 x.2) xs]) .auto (p9 hxs) ?_
  exact JR 0 ()
theorem AM{W:World}{A:aa}{v:Value}{xs:List Ev}{p:Ev→Bool}{g:Nat}(hr:Rd W [A] bP 3 v xs)(hl:xs.length≤1000000000)(hg:∀ args w,(callFunc g args).run Tryz.prog w = .ok (.enter g args) w)(hf:∀ x∈xs,Fn Tryz.prog W g [.agg (bP x).toArray] [A] Unit (fun _=>.bool (p x)) (fun _=>True) (fun _=>[A])):Fn Tryz.prog W 173 [v,.func (.func g) #[] #[]] [A] Unit (fun _=>.int .i64 (idxP p xs 0)) (fun _=>True) (fun _=>[A]):=by
 refine Fn.intro (N:=19) func173 rfl ntmps173 rfl fun F=>?_
 haveI hRI:∀ (H:List aa) [bj H A],ax W H v bP 3 xs:=fun H h=>⟨hr.at h.has⟩
 show ar _ _ _ _ _ _ [A,F]
 refine J 14 ?_
 refine .aX (X:=Nat) [4,5,8,9,10,11,12,13,14,15,16,17,18] (fun k=>xs.length-k) (fun k=>k≤xs.length∧idxP p xs 0=idxP p (xs.drop k) k) (fun k=>[(8,some (.int .i64 (k:Int)))]) (fun k=>[A,F]) 0 ?_ ?_ ?_ ?_
 ·exact⟨Nat.zero_le _,by simp⟩
 ·exact⟨rfl,trivial⟩
 ·exact fun w s=>aq.kept .auto w s
 rintro k ⟨hk,hn⟩
 refine JD 6 (fun h9=>?_) fun h9=>?_
 ·refine J 15 ?_
  obtain⟨x,hx⟩:=ak (show k<xs.length by omega)
  refine J 2 ?_
  refine .ai rfl (ae.lf rfl rfl hg rfl (hf x (List.mem_of_getElem? hx)) .auto) ?_
  rintro _ _ ⟨⟨⟩, -,rfl,rfl⟩
  refine JD 2 (fun h16=>?_) fun h16=>?_
  ·refine J 12 ?_
   refine .aJ rfl rfl fun w s=>⟨(),?_,trivial,aj .auto s⟩
   rw[hn,jH hx h16]
  ·refine J 7 ?_
   refine .aw (k+1) .auto rfl ?_ ?_ ?_ ?_
   ·first | omega | (dsimp only;omega)
   ·exact⟨by omega,hn.trans (ik hx h16)⟩
   ·exact⟨rfl,trivial⟩
   ·exact fun w s=>aq.kept .auto w s
 ·refine J 11 ?_
  refine .aJ rfl rfl fun w s=>⟨(),?_,trivial,aj .auto s⟩
  rw[hn,jI (by omega)]
theorem vI{W:World}{A:aa}{e:Ev}:Fn Tryz.prog W 174 [.agg (bP e).toArray] [A] Unit (fun _=>.bool (jb e)) (fun _=>True) (fun _=>[A]):=by
 refine Fn.intro (N:=6) func174 rfl ntmps174 rfl fun F=>?_
 show ar _ _ _ _ _ _ [A,F]
 refine J 2 ?_
 refine .ai rfl (ae.box rfl rfl rfl) ?_
 rintro _ _ ⟨b1,rfl,rfl⟩
 exact JR 12 ()
theorem yN{W:World}{A:aa}{v:Value}{xs:List Ev}(hr:Rd W [A] bP 3 v xs)(hl:xs.length≤900000000):Fn Tryz.prog W 137 [v] [A] Value (fun u=>.tuple #[.agg (bP (wE xs)).toArray,u,.bool (evWithin xs).isSome]) (fun _=>True) (fun u=>[sl bP 3 u (wR xs),A]):=by
 refine Fn.intro (N:=26) func137 rfl ntmps137 rfl fun F=>?_
 refine .cr (fun w s=>Rd.shape (hr.at .here) w s) fun e=>?_
 obtain⟨a1,c1,rfl⟩:=e
 haveI hRI:∀ (H:List aa) [bj H A],ax W H (.slice a1 xs.length c1) bP 3 xs:=fun H h=>⟨hr.at h.has⟩
 show ar _ _ _ _ _ _ [A,F]
 refine J 2 ?_
 refine .ai rfl (ae.alloc rfl zeroValue87 rfl) ?_
 rintro _ _ ⟨b2,rfl,rfl⟩
 refine J 7 ?_
 refine .c call173 rfl (AM (p:=jb) (g:=174) hr (by omega) call174 (fun e _=>vI)) fun _ _=>?_
 refine JD 10 (fun h9=>?_) fun h9=>?_
 ·have hw:=EP h9
  refine J 2 ?_
  refine .p (.mi ([(.int .i64 0),(.int .i64 0),(.int .i64 0)]) (by kernel_rfl)) ?_
  refine J 1 ?_
  refine .c call102 rfl (q9 hr (by omega)) fun u12 _=>?_
  refine J 7 ?_
  rw[show wE xs=⟨0,0,0⟩ from by unfold wE;rw[hw],show wR xs=xs from by unfold wR;rw[hw],hw]
  refine .sY rfl rfl isAgg87 (by exact sizeOf87) Cells.a rfl rfl fun w s=>⟨u12,?_,trivial,aj .auto s⟩
  rfl
 ·have hil:=Dv (p:=jb) xs 0
  obtain⟨i,x,hid,hx,hw⟩:=B2 h9 (by omega)
  rw[hid]
  have hib:=(List.getElem?_eq_some_iff.1 hx).1
  have hr1:=hr.cut (lo:=0) (hi:=i) (Nat.zero_le _) (by omega)
  have hr2:=hr.cut (lo:=i+1) (hi:=xs.length) (by omega) (Nat.le_refl _)
  refine J 3 ?_
  refine .draw [A] [0,0,0,0,1,1,1,1,1,1,1,2,2,3,1,1] rfl (by kernel_rfl) ?_
  refine J 2 ?_
  refine .q (.ix i rfl rfl rfl (by omega)) ?_
  refine .q (.la rfl (Cells.rd Rd.s hx)) ?_
  refine J 2 ?_
  refine .p (.sliceTo i underlying75 sizeOf87 rfl rfl Rd.s rfl (by omega)) ?_
  refine J 3 ?_
  refine .p (.sliceFrom (i+1) underlying75 sizeOf87 rfl rfl Rd.s rfl (by omega)) ?_
  refine .d2 rfl Kept.auto (ae.gC 75 rfl rfl (by kernel_rfl)) (by rintro _ _ ⟨b24,rfl,rfl⟩;exact Kept.auto) ?_
  rintro _ _ ⟨b24,rfl,rfl⟩
  refine .d2 rfl Kept.auto (ae.cY rfl call146 rfl (Dz (A:=seps [arr b24 0 [(cut 3 0 i (.slice a1 xs.length c1)),(cut 3 (i+1) xs.length (.slice a1 xs.length c1))],A]) (qs:=[((cut 3 0 i (.slice a1 xs.length c1)),xs.take i),((cut 3 (i+1) xs.length (.slice a1 xs.length c1)),xs.drop (i+1))]) (Rd.eU (Rd.lit .here rfl (fun _ _=>rfl) rfl)) (by
    intro q hq
    simp only[List.mem_cons,List.not_mem_nil,or_false] at hq
    rcases hq with rfl | rfl
    ·exact Rd.eU (Rd.at (by rw[List.drop_zero] at hr1;exact hr1) (.there .here))
    ·exact Rd.eU (Rd.at (by rw[List.take_length] at hr2;exact hr2) (.there .here))) (by simp) (by simp;omega)) .auto) (by rintro _ _ ⟨u25, -,rfl,rfl⟩;exact B1 .auto Kept.auto) ?_
  rintro _ _ ⟨u25, -,rfl,rfl⟩
  rw[show[((cut 3 0 i (.slice a1 xs.length c1)),xs.take i),((cut 3 (i+1) xs.length (.slice a1 xs.length c1)),xs.drop (i+1))].flatMap (fun q:Value×List Ev=>q.2)=xs.take i++xs.drop (i+1) from by simp]
  refine .dY .auto ?_
  refine .d3 rfl (ae.hD (by exact sizeOf87) rfl rfl rfl (by rfl)) ?_
  rintro _ _ ⟨rfl,rfl⟩
  refine J 5 ?_
  rw[show wE xs=x from by unfold wE;rw[hw],show wR xs=xs.take i++xs.drop (i+1) from by unfold wR;rw[hw],hw]
  refine .sY rfl rfl isAgg87 (by exact sizeOf87) Cells.a rfl rfl fun w s=>⟨u25,?_,trivial,aj .auto s⟩
  rfl
end Go.SLYthlllpngkljgfaaGreat
namespace Go.SLYthlllpngkljgfaaGreat
open Go Go.RowKit Go.Proofs Go.Proofs.Tryz
attribute [local irreducible] ar aM bm bA bE Y
theorem qz{W:World}{b bs br:Nat}{vv vw:Value}{lk:Bool}{rows:List (List Int)}{p:Int}{A:aa}{m:Value}{ts:List Int}(hm:Rd W [A] au 1 m ts)(hl:ts.length≤100000∧rows.length≤64∧ ∀ r∈rows,r.length≤800000000):Fn Tryz.prog W 141 [ptr b,.int .i64 p,m] [arr b 0 (mJ bs br vv vw lk),fz br rows,A] Unit (fun _=>.tuple #[]) (fun _=>True) (fun _=>[arr b 0 (mJ bs br vv vw lk),fz br (dW rows p ts),A]):=by
 refine Fn.intro (N:=22) func141 rfl ntmps141 rfl fun F=>?_
 haveI hRI:∀ (H:List aa) [bj H A],ax W H m au 1 ts:=fun H h=>⟨hm.at h.has⟩
 show ar _ _ _ _ _ _ [arr b 0 (mJ bs br vv vw lk),fz br rows,A,F]
 refine J 8 ?_
 refine .aX (X:=Nat) [7,10,11,12,13,14,15,16,17,18,19,20,21] (fun z=>ts.length-z) (fun z=>z≤ts.length) (fun z=>[(10,some (.int .i64 (z:Int)))]) (fun z=>[arr b 0 (mJ bs br vv vw lk),fz br (dW rows p (ts.take z)),A,F]) 0 ?_ ?_ ?_ ?_
 ·exact Nat.zero_le _
 ·exact⟨rfl,trivial⟩
 ·rw[show dW rows p (ts.take 0)=rows from rfl];exact fun w s=>aq.kept .auto w s
 rintro k hk
 refine JD 6 (fun h11=>?_) fun h11=>?_
 ·refine J 6 ?_
  obtain⟨t,hx⟩:=ak (show k<ts.length by omega)
  have hrl:(dW rows p (ts.take k)).length=rows.length:=fY
  have hrr:=lK (ts:=ts.take k) (p:=p) hl.2.2
  refine J 1 ?_
  refine .p (.lr rfl hx) ?_
  refine J 10 ?_
  refine .c call175 rfl (Iz (rs:=dW rows p (ts.take k)) (p:=p) (t:=t) ⟨by omega,fun r hr=>by have:=hrr r hr;rw[List.length_take] at this;omega⟩) fun ub _=>?_
  refine J 7 ?_
  refine .aw (k+1) .auto rfl ?_ ?_ ?_ ?_
  ·omega
  ·show k+1≤_;omega
  ·exact⟨rfl,trivial⟩
  ·rw[B3 hx]
   exact fun w s=>aq.kept .auto w s
 ·obtain rfl:k=ts.length:=by omega
  rw[List.take_length]
  exact JR 4 ()
theorem oT{W:World}{b bs br:Nat}{l:Lib}{t c:Int}(hO:iH l.aK):Fn Tryz.prog W 144 [ptr b,.int .i64 t,.int .i64 c] [aW b bs br l] Value (fun u=>.agg (dt u (l.aL t c).1).toArray) (fun _=>True) (fun u=>[sl au 1 u (l.aL t c).1.wL.av,aW b bs br (l.aL t c).2]):=by
 refine Fn.intro (N:=22) func144 rfl ntmps144 rfl fun F=>?_
 show ar _ _ _ _ _ _ [aW b bs br l,F]
 refine .o2 (C:=aW b bs br l) .auto rfl ?_
 rintro vv vw -
 refine J 2 ?_
 refine .ai rfl (ae.alloc rfl zeroValue68 rfl) ?_
 rintro _ _ ⟨b6,rfl,rfl⟩
 refine J 10 ?_
 refine .c call163 rfl (Ix (s:=l.aK) hO) fun u16 _=>?_
 refine .cr (fun w s=>Rd.isSl (Rd.sl .auto) w s) fun hu16=>?_
 refine J 1 ?_
 refine .p (.extract (v:=.agg (mS u16 (l.aK.run t c).1).toArray) rfl rfl) ?_
 refine .p (.extract (v:=.int .i64 (l.aK.run t c).2.1) rfl rfl) ?_
 refine .ai rfl (ae.alloc rfl zeroValue66 rfl) ?_
 rintro _ _ ⟨b7,rfl,rfl⟩
 refine .ai rfl (ae.hD (vs:=mS u16 (l.aK.run t c).1) (by exact sizeOf66) rfl rfl (yy hu16) (by rfl)) ?_
 rintro _ _ ⟨rfl,rfl⟩
 refine J 7 ?_
 refine .p (.sk (fun _ _ _=>dt u16 (l.aL t c).1) rfl rfl rfl (by kernel_rfl)) ?_
 refine .ai rfl (ae.hD (vs:=dt u16 (l.aL t c).1) (by exact sizeOf68) rfl rfl (cV hu16) (by rfl)) ?_
 rintro _ _ ⟨rfl,rfl⟩
 refine J 3 ?_
 refine .dP rfl rfl isAgg68 (by exact sizeOf68) Cells.a fun w s=>⟨u16,?_,trivial,aj .auto s⟩
 rfl
theorem AN{W:World}{u:Value}{e:lB}:Fn Tryz.prog W 145 [.agg (mS u e).toArray] [] Unit (fun _=>.bool e.cj) (fun _=>True) (fun _=>[]):=by
 refine Fn.intro (N:=11) func145 rfl ntmps145 rfl fun F=>?_
 show ar _ _ _ _ _ _ [F]
 refine J 2 ?_
 refine .ai rfl (ae.box rfl rfl rfl) ?_
 rintro _ _ ⟨b1,rfl,rfl⟩
 refine .mem (H':=[arr b1 0 (mS u e),F]) (fun w s=>s) ?_
 refine J 9 ?_
 apply aM.fI 4 10 6 [6,7,8,9,10] rfl
 ·intro h6
  exact JS 5
 ·intro h6
  exact JS 5
 exact JR 4 ()
theorem rf{W:World}{b bs br i:Nat}{l:Lib}{v:aH}(hv:l.vs[i]?=some v){m:Int}:Fn Tryz.prog W 88 [ptr b,.int .i64 (i:Int),.int .i64 m] [aW b bs br l] Unit (fun _=>.tuple #[]) (fun _=>True) (fun _=>[aW b bs br (l.enter (i:Int) m)]):=by
 refine Fn.intro (N:=22) func88 rfl ntmps88 rfl fun F=>?_
 show ar _ _ _ _ _ _ [aW b bs br l,F]
 refine .o2 (C:=aW b bs br l) .auto rfl ?_
 rintro vv vw -
 refine .o1 (C:=cu vv l.vs) .auto rfl ?_
 rintro xs hxs
 have hxl:=ay hxs
 obtain⟨x,hx,rfl⟩:=dn hxs hv
 have hil:=(List.getElem?_eq_some_iff.1 hx).1
 refine JD 9 (fun h10=>?_) fun h10=>?_
 ·rw[nH hv (by simpa using h10)]
  refine J 6 ?_
  rw[show(mJ bs br vv vw l.locked).set 4 (.bool true)=mJ bs br vv vw true from rfl]
  refine J 9 ?_
  refine .p (.ix i rfl rfl rfl (by omega)) ?_
  refine J 1 ?_
  refine .ai rfl (ae.dA (x':=(x.1,{x.2 with mode:=m })) rfl rfl sizeOf3 rfl hx (by decide) rfl .auto) ?_
  rintro _ _ ⟨rfl,rfl⟩
  refine .to (A:=cu vv (l.vs.set i {x.2 with mode:=m })) (Bs:=[sl eA 3 vv (xs.set i (x.1,{x.2 with mode:=m })),aO (fun x:Value×aH=>sl bP 3 x.1 x.2.evs) xs]) .auto (kQ hxs hx rfl) ?_
  exact JR 1 ()
 ·refine J 1 ?_
  rw[qa (by simpa using h10)]
  refine .to (A:=cu vv l.vs) (Bs:=[sl eA 3 vv xs,aO (fun x:Value×aH=>sl bP 3 x.1 x.2.evs) xs]) .auto (fu hxs) ?_
  exact JR 0 ()
theorem jv{W:World}{b bs br i:Nat}{l:Lib}{v:aH}(hv:l.vs[i]?=some v){m t:Int}:Fn Tryz.prog W 139 [ptr b,.int .i64 (i:Int),.int .i64 m,.int .i64 t] [aW b bs br l] Unit (fun _=>.tuple #[]) (fun _=>True) (fun _=>[aW b bs br (l.leave (i:Int) m t)]):=by
 refine Fn.intro (N:=27) func139 rfl ntmps139 rfl fun F=>?_
 show ar _ _ _ _ _ _ [aW b bs br l,F]
 refine .o2 (C:=aW b bs br l) .auto rfl ?_
 rintro vv vw -
 refine .o1 (C:=cu vv l.vs) .auto rfl ?_
 rintro xs hxs
 have hxl:=ay hxs
 obtain⟨x,hx,rfl⟩:=dn hxs hv
 have hil:=(List.getElem?_eq_some_iff.1 hx).1
 rw[iL hv]
 refine J 6 ?_
 rw[show(mJ bs br vv vw l.locked).set 4 (.bool false)=mJ bs br vv vw false from rfl]
 refine J 2 ?_
 refine .draw [arr b 0 (mJ bs br vv vw false)] [1,1,1,1,1,1,1,1,1,0,1,0,1,1,2,1,1,3] rfl (by kernel_rfl) ?_
 refine J 12 ?_
 refine .p (.ix i rfl rfl rfl (by omega)) ?_
 refine J 1 ?_
 refine .d2 rfl Kept.auto (ae.dA (x':=(x.1,{x.2 with mode:=m })) rfl rfl sizeOf3 rfl hx (by decide) rfl .auto) (by rintro _ _ ⟨rfl,rfl⟩;exact Kept.auto) ?_
 rintro _ _ ⟨rfl,rfl⟩
 have hx2:(xs.set i (x.1,{x.2 with mode:=m }))[i]?=some (x.1,{x.2 with mode:=m }):=List.getElem?_set_self hil
 refine .p (.ix i rfl rfl rfl (by rw[List.length_set];omega)) ?_
 refine J 1 ?_
 refine .d3 rfl (ae.k9 (c:=1) (x':=(x.1,{x.2 with mode:=m,ab:=t })) rfl rfl sizeOf3 rfl hx2 (by decide) rfl .auto) ?_
 rintro _ _ ⟨rfl,rfl⟩
 rw[List.set_set]
 refine .to (A:=cu vv (l.vs.set i {x.2 with mode:=m,ab:=t })) (Bs:=[sl eA 3 vv (xs.set i (x.1,{x.2 with mode:=m,ab:=t })),aO (fun x:Value×aH=>sl bP 3 x.1 x.2.evs) xs]) .auto (kQ hxs hx rfl) ?_
 exact JR 1 ()
end Go.SLYthlllpngkljgfaaGreat
namespace Go.SLYthlllpngkljgfaaGreat
open Go Go.RowKit Go.Proofs Go.Proofs.Tryz
attribute [local irreducible] ar aM bm bA bE Y
theorem AO{W:World}{b bs br i:Nat}{l:Lib}{v:aH}(hv:l.vs[i]?=some v){q:Ev}{m:Value}{rest:List Ev}{c:Int}(hz:HI l)(hw:(l.aK.run q.ab c).1.av.length≤17):Fn Tryz.prog W 138 [ptr b,.int .i64 (i:Int),.agg (bP q).toArray,m,.int .i64 c] [aW b bs br l,sl bP 3 m rest] Value (fun u=>.agg (dt u (l.recover (i:Int) q rest c).1).toArray) (fun _=>True) (fun u=>[sl au 1 u (l.recover (i:Int) q rest c).1.wL.av,aW b bs br (l.recover (i:Int) q rest c).2]):=by
 refine Fn.intro (N:=48) func138 rfl ntmps138 rfl fun F=>?_
 show ar _ _ _ _ _ _ [aW b bs br l,sl bP 3 m rest,F]
 refine .cr (fun w s=>Rd.isSl (Rd.sl (.there .here)) w s) fun hum=>?_
 refine .o2 (C:=aW b bs br l) .auto rfl ?_
 rintro vv vw -
 refine .o1 (C:=cu vv l.vs) .auto rfl ?_
 rintro xs hxs
 have hxl:=ay hxs
 obtain⟨x,hx,rfl⟩:=dn hxs hv
 have hil:=(List.getElem?_eq_some_iff.1 hx).1
 refine .fr .auto (cc (f:=(fun x:Value×aH=>sl bP 3 x.1 x.2.evs)) hx) ?_
 refine J 2 ?_
 refine .ai rfl (ae.box rfl rfl rfl) ?_
 rintro _ _ ⟨b7,rfl,rfl⟩
 refine .to (A:=arr b7 0 (bP q)) (Bs:=[arr b7 0 (bP q)]) .auto (fun g a=>by simpa only[seps,aN] using a) ?_
 refine .ai rfl (ae.alloc rfl zeroValue68 rfl) ?_
 rintro _ _ ⟨b10,rfl,rfl⟩
 refine J 10 ?_
 refine .p (.ix i rfl rfl rfl (by omega)) ?_
 refine J 1 ?_
 refine .ai rfl (ae.k9 (c:=2) (x':=(m,{x.2 with evs:=rest })) rfl rfl sizeOf75 (fH hum) hx (by decide) rfl .auto) ?_
 rintro _ _ ⟨rfl,rfl⟩
 refine .to (A:=cu vv (l.vs.set i {x.2 with evs:=rest })) (Bs:=[sl eA 3 vv (xs.set i (m,{x.2 with evs:=rest })),sl bP 3 m ({x.2 with evs:=rest }).evs,aO (fun x:Value×aH=>sl bP 3 x.1 x.2.evs) (xs.eraseIdx i)]) .auto (m4 hxs hx) ?_
 refine J 8 ?_
 rw[show(mJ bs br vv vw l.locked).set 4 (.bool false)=mJ bs br vv vw false from rfl]
 refine JD 10 (fun h25=>?_) fun h25=>?_
 ·refine J 2 ?_
  refine .p (.mi (dt (.slice none 0 0) gk.z) (by kernel_rfl)) ?_
  refine .ai rfl (ae.hD (vs:=dt (.slice none 0 0) gk.z) (by exact sizeOf68) rfl rfl (by rfl) (by rfl)) ?_
  rintro _ _ ⟨rfl,rfl⟩
  refine J 4 ?_
  rw[lM hv h25]
  refine .dP rfl rfl isAgg68 (by exact sizeOf68) Cells.a fun w s=>⟨(.slice none 0 0),?_,trivial,aj .auto s⟩
  rfl
 ·have h25:q.mode=7:=Decidable.of_not_not h25
  refine J 8 ?_
  refine .c call144 rfl (oT (l:=(l.q7 i x.2 rest)) (t:=q.ab) (c:=c) hz.sp) fun u31 _=>?_
  refine .cr (fun w s=>Rd.isSl (Rd.sl .auto) w s) fun hu31=>?_
  refine .ai rfl (ae.alloc rfl zeroValue68 rfl) ?_
  rintro _ _ ⟨b11,rfl,rfl⟩
  refine .ai rfl (ae.hD (vs:=dt u31 ((l.q7 i x.2 rest).aL q.ab c).1) (by exact sizeOf68) rfl rfl (cV hu31) (by rfl)) ?_
  rintro _ _ ⟨rfl,rfl⟩
  refine J 4 ?_
  refine .o2 (C:=aW b bs br ((l.q7 i x.2 rest).aL q.ab c).2) .auto rfl ?_
  rintro vv vw -
  refine J 5 ?_
  refine .c call141 rfl (qz (rows:=l.rows) (p:=(i:Int)) (A:=sl au 1 u31 (l.aK.run q.ab c).1.av) (ts:=(l.aK.run q.ab c).1.av) (Rd.sl .here) ⟨Nat.le_trans hw (by decide),(yz ⟨hz.rl,hz.rw⟩)⟩) fun _ _=>?_
  refine J 6 ?_
  refine .p (.la rfl (Cells.mD (ds:=mS u31 ((l.q7 i x.2 rest).aL q.ab c).1.wL) Cells.a rfl)) ?_
  refine .c call145 rfl AN fun _ _=>?_
  refine JD 2 (fun h40=>?_) fun h40=>?_
  ·refine J 5 ?_
   refine .ai rfl (ae.gC 3 rfl rfl (by kernel_rfl)) ?_
   rintro _ _ ⟨b45,rfl,rfl⟩
   refine .c call141 rfl (qz (rows:=(dW l.rows (i:Int) (l.aK.run q.ab c).1.av)) (p:=(i:Int)) (A:=arr b45 0 [.int .i64 q.ab]) (ts:=[q.ab]) (Rd.lit .here rfl (fun _ _=>rfl) rfl) ⟨by show 1≤_;decide,(Ar ⟨hz.rl,hz.rw⟩ (Nat.le_trans hw (by decide)))⟩) fun _ _=>?_
   refine J 5 ?_
   refine .ai rfl (ae.hD (vs:=dt u31 ((l.q7 i x.2 rest).aL q.ab c).1) (by exact sizeOf68) rfl rfl (cV hu31) (by rfl)) ?_
   rintro _ _ ⟨rfl,rfl⟩
   refine J 3 ?_
   rw[lN hv h25 h40]
   refine .dP rfl rfl isAgg68 (by exact sizeOf68) Cells.a fun w s=>⟨u31,?_,trivial,aj .auto s⟩
   rfl
  ·refine J 5 ?_
   refine .ai rfl (ae.hD (vs:=dt u31 ((l.q7 i x.2 rest).aL q.ab c).1) (by exact sizeOf68) rfl rfl (cV hu31) (by rfl)) ?_
   rintro _ _ ⟨rfl,rfl⟩
   refine J 3 ?_
   rw[jc hv h25 (by rw[show(l.aK.run q.ab c).1.cj=false from h40];simp)]
   refine .dP rfl rfl isAgg68 (by exact sizeOf68) Cells.a fun w s=>⟨u31,?_,trivial,aj .auto s⟩
   rfl
theorem Cy{W:World}{b bs br i:Nat}{l:Lib}{v:aH}(hv:l.vs[i]?=some v){c:Int}(hz:HI l)(hw:∀ t,(l.aK.run t c).1.av.length≤17):Fn Tryz.prog W 86 [ptr b,.int .i64 (i:Int),.int .i64 c] [aW b bs br l] Value (fun u=>.agg (dt u (l.upcall (i:Int) c).1).toArray) (fun _=>True) (fun u=>[sl au 1 u (l.upcall (i:Int) c).1.wL.av,aW b bs br (l.upcall (i:Int) c).2]):=by
 refine Fn.intro (N:=34) func86 rfl ntmps86 rfl fun F=>?_
 show ar _ _ _ _ _ _ [aW b bs br l,F]
 refine .o2 (C:=aW b bs br l) .auto rfl ?_
 rintro vv vw -
 refine .o1 (C:=cu vv l.vs) .auto rfl ?_
 rintro xs hxs
 have hxl:=ay hxs
 obtain⟨x,hx,rfl⟩:=dn hxs hv
 have hil:=(List.getElem?_eq_some_iff.1 hx).1
 refine .fr .auto (cc (f:=(fun x:Value×aH=>sl bP 3 x.1 x.2.evs)) hx) ?_
 refine J 2 ?_
 refine .ai rfl (ae.alloc rfl zeroValue68 rfl) ?_
 rintro _ _ ⟨b6,rfl,rfl⟩
 refine J 10 ?_
 refine .p (.ix i rfl rfl rfl (by omega)) ?_
 refine J 1 ?_
 refine .p (.ld rfl (Cell.rd (c:=2) Rd.s hx rfl)) ?_
 refine .c call137 rfl (yN (A:=sl bP 3 x.1 x.2.evs) (Rd.sl .here) (Nat.le_trans (hz.ev _ (List.mem_of_getElem? hv)) (by decide))) fun u19 _=>?_
 refine .to (A:=aO (fun x:Value×aH=>sl bP 3 x.1 x.2.evs) xs) (Bs:=[sl bP 3 x.1 x.2.evs,aO (fun x:Value×aH=>sl bP 3 x.1 x.2.evs) (xs.eraseIdx i)]) .auto (cK (f:=(fun x:Value×aH=>sl bP 3 x.1 x.2.evs)) hx) ?_
 refine .to (A:=cu vv l.vs) (Bs:=[sl eA 3 vv xs,aO (fun x:Value×aH=>sl bP 3 x.1 x.2.evs) xs]) .auto (fu hxs) ?_
 refine J 1 ?_
 refine .p (.extract (v:=.agg (bP (wE x.2.evs)).toArray) rfl rfl) ?_
 refine .p (.extract (v:=u19) rfl rfl) ?_
 refine .p (.extract (v:=.bool (evWithin x.2.evs).isSome) rfl rfl) ?_
 refine .ai rfl (ae.alloc rfl zeroValue87 rfl) ?_
 rintro _ _ ⟨b7,rfl,rfl⟩
 refine .ai rfl (ae.hD (vs:=bP (wE x.2.evs)) (by exact sizeOf87) rfl rfl (by rfl) (by rfl)) ?_
 rintro _ _ ⟨rfl,rfl⟩
 refine JD 9 (fun h23=>?_) fun h23=>?_
 ·refine J 7 ?_
  refine .c call138 rfl (AO (q:=wE x.2.evs) (rest:=wR x.2.evs) hv hz (hw _)) fun u29 _=>?_
  refine .cr (fun w s=>Rd.isSl (Rd.sl .auto) w s) fun hu29=>?_
  refine .ai rfl (ae.hD (vs:=dt u29 (l.recover (i:Int) (wE x.2.evs) (wR x.2.evs) c).1) (by exact sizeOf68) rfl rfl (cV hu29) (by rfl)) ?_
  rintro _ _ ⟨rfl,rfl⟩
  refine J 4 ?_
  rw[lO hv h23]
  refine .dP rfl rfl isAgg68 (by exact sizeOf68) Cells.a fun w s=>⟨u29,?_,trivial,aj .auto s⟩
  rfl
 ·refine J 6 ?_
  refine .c call88 rfl (rf hv) fun _ _=>?_
  refine J 4 ?_
  refine .p (.mi (dt (.slice none 0 0) gk.z) (by kernel_rfl)) ?_
  refine .ai rfl (ae.hD (vs:=dt (.slice none 0 0) gk.z) (by exact sizeOf68) rfl rfl (by rfl) (by rfl)) ?_
  rintro _ _ ⟨rfl,rfl⟩
  refine J 3 ?_
  rw[nI hv h23]
  refine .dP rfl rfl isAgg68 (by exact sizeOf68) Cells.a fun w s=>⟨(.slice none 0 0),?_,trivial,aj .auto s⟩
  rfl
theorem IA{W:World}{b bs br i:Nat}{l:Lib}{v:aH}(hv:l.vs[i]?=some v)(hz:HI l):Fn Tryz.prog W 89 [ptr b,.int .i64 (i:Int)] [aW b bs br l] Unit (fun _=>.tuple #[]) (fun _=>True) (fun _=>[aW b bs br (l.pick (i:Int))]):=by
 refine Fn.intro (N:=23) func89 rfl ntmps89 rfl fun F=>?_
 show ar _ _ _ _ _ _ [aW b bs br l,F]
 refine .o2 (C:=aW b bs br l) .auto rfl ?_
 rintro vv vw -
 refine J 8 ?_
 refine .c call142 rfl (Fl (rs:=l.rows) (p:=(i:Int)) ⟨hz.rl,fun r hr=>Nat.le_trans (hz.rw r hr) (by decide)⟩) fun _ _=>?_
 refine JD 12 (fun h15=>?_) fun h15=>?_
 ·refine J 5 ?_
  refine .c call139 rfl (jv (l:={l with rows:=mg l.rows (i:Int) }) hv) fun _ _=>?_
  refine J 4 ?_
  rw[nK h15]
  exact JR 0 ()
 ·have hpn:=qb (l:=l) (i:=i) h15
  rw[hpn.2]
  refine J 5 ?_
  refine .c call139 rfl (jv hv) fun _ _=>?_
  refine J 1 ?_
  rw[hpn.1]
  exact JR 0 ()
theorem Cz{W:World}{b bs br i:Nat}{l:Lib}{v:aH}(hv:l.vs[i]?=some v)(hz:HI l):Fn Tryz.prog W 87 [ptr b,.int .i64 (i:Int)] [aW b bs br l] Unit (fun _=>.tuple #[]) (fun _=>True) (fun _=>[aW b bs br (l.handle (i:Int))]):=by
 refine Fn.intro (N:=47) func87 rfl ntmps87 rfl fun F=>?_
 show ar _ _ _ _ _ _ [aW b bs br l,F]
 refine .o2 (C:=aW b bs br l) .auto rfl ?_
 rintro vv vw -
 refine .o1 (C:=cu vv l.vs) .auto rfl ?_
 rintro xs hxs
 have hxl:=ay hxs
 obtain⟨x,hx,rfl⟩:=dn hxs hv
 have hil:=(List.getElem?_eq_some_iff.1 hx).1
 have hev:=hz.ev _ (List.mem_of_getElem? hv)
 refine .fr .auto (cc (f:=(fun x:Value×aH=>sl bP 3 x.1 x.2.evs)) hx) ?_
 refine J 7 ?_
 refine .p (.ix i rfl rfl rfl (by omega)) ?_
 refine J 9 ?_
 refine .p (.ld rfl (Cell.rd (c:=2) Rd.s hx rfl)) ?_
 refine JD 4 (fun h18=>?_) fun h18=>?_
 ·refine J 4 ?_
  refine .to (A:=aO (fun x:Value×aH=>sl bP 3 x.1 x.2.evs) xs) (Bs:=[sl bP 3 x.1 x.2.evs,aO (fun x:Value×aH=>sl bP 3 x.1 x.2.evs) (xs.eraseIdx i)]) .auto (cK (f:=(fun x:Value×aH=>sl bP 3 x.1 x.2.evs)) hx) ?_
  refine .to (A:=cu vv l.vs) (Bs:=[sl eA 3 vv xs,aO (fun x:Value×aH=>sl bP 3 x.1 x.2.evs) xs]) .auto (fu hxs) ?_
  refine .c call139 rfl (jv hv) fun _ _=>?_
  refine J 4 ?_
  rw[lP hv (List.eq_nil_of_length_eq_zero (by omega))]
  exact JR 0 ()
 ·refine J 5 ?_
  obtain⟨e,r,her⟩:∃ e r,x.2.evs=e::r:=by
   cases h:x.2.evs with
   | nil=>rw[h] at h18;exact absurd rfl h18
   | cons e r=>exact⟨e,r,rfl⟩
  rw[her]
  have hcl:Rd W [sl bP 3 x.1 (e::r)] bP 3 (cut 3 1 (e::r).length x.1) r:=by
   have:=(Rd.sl (W:=W) (H:=[sl bP 3 x.1 (e::r)]) .here).cut (lo:=1) (hi:=(e::r).length) (by simp) (Nat.le_refl _)
   rwa [List.take_length] at this
  refine J 3 ?_
  refine .p (.ld rfl (Cell.rd (c:=2) Rd.s hx rfl)) ?_
  refine .p (.ix 0 rfl rfl rfl (by simp)) ?_
  refine .p (.la rfl (Cells.rd Rd.s (show(e::r)[0]?=some e from rfl))) ?_
  refine .c call140 rfl oO fun _ _=>?_
  refine JD 12 (fun h32=>?_) fun h32=>?_
  ·have het:MC e=e.ab:=by unfold MC;rw[if_pos h32]
   rw[het]
   refine J 4 ?_
   refine .ai rfl (ae.gC 3 rfl rfl (by kernel_rfl)) ?_
   rintro _ _ ⟨b36,rfl,rfl⟩
   refine .c call141 rfl (qz (rows:=l.rows) (p:=(i:Int)) (A:=arr b36 0 [.int .i64 e.ab]) (ts:=[e.ab]) (Rd.lit .here rfl (fun _ _=>rfl) rfl) ⟨by show 1≤_;decide,(yz ⟨hz.rl,hz.rw⟩)⟩) fun _ _=>?_
   refine J 7 ?_
   refine .p (.ld rfl (Cell.rd (c:=2) Rd.s hx rfl)) ?_
   refine .p (.sliceFrom 1 underlying75 sizeOf87 rfl rfl Rd.s rfl (by simp)) ?_
   refine .c call102 rfl (q9 (A:=sl bP 3 x.1 (e::r)) (xs:=r) hcl (by rw[her] at hev;simp only[List.length_cons] at hev;omega)) fun u44 _=>?_
   refine .cr (fun w s=>Rd.isSl (Rd.sl .auto) w s) fun hu44=>?_
   refine J 2 ?_
   refine .ai rfl (ae.k9 (c:=2) (x':=(u44,{x.2 with evs:=r })) rfl rfl sizeOf75 (fH hu44) hx (by decide) rfl .auto) ?_
   rintro _ _ ⟨rfl,rfl⟩
   refine .to (A:=cu vv (l.vs.set i {x.2 with evs:=r })) (Bs:=[sl eA 3 vv (xs.set i (u44,{x.2 with evs:=r })),sl bP 3 u44 ({x.2 with evs:=r }).evs,aO (fun x:Value×aH=>sl bP 3 x.1 x.2.evs) (xs.eraseIdx i)]) .auto (m4 hxs hx) ?_
   refine J 1 ?_
   rw[nJ hv her h32]
   exact JR 0 ()
  ·refine J 7 ?_
   refine .p (.ld rfl (Cell.rd (c:=2) Rd.s hx rfl)) ?_
   refine .p (.sliceFrom 1 underlying75 sizeOf87 rfl rfl Rd.s rfl (by simp)) ?_
   refine .c call102 rfl (q9 (A:=sl bP 3 x.1 (e::r)) (xs:=r) hcl (by rw[her] at hev;simp only[List.length_cons] at hev;omega)) fun u44 _=>?_
   refine .cr (fun w s=>Rd.isSl (Rd.sl .auto) w s) fun hu44=>?_
   refine J 2 ?_
   refine .ai rfl (ae.k9 (c:=2) (x':=(u44,{x.2 with evs:=r })) rfl rfl sizeOf75 (fH hu44) hx (by decide) rfl .auto) ?_
   rintro _ _ ⟨rfl,rfl⟩
   refine .to (A:=cu vv (l.vs.set i {x.2 with evs:=r })) (Bs:=[sl eA 3 vv (xs.set i (u44,{x.2 with evs:=r })),sl bP 3 u44 ({x.2 with evs:=r }).evs,aO (fun x:Value×aH=>sl bP 3 x.1 x.2.evs) (xs.eraseIdx i)]) .auto (m4 hxs hx) ?_
   refine J 1 ?_
   rw[lQ hv her (by rw[h32];simp)]
   exact JR 0 ()
end Go.SLYthlllpngkljgfaaGreat
namespace Go.SLYthlllpngkljgfaaGreat
open Go Go.RowKit Go.Proofs Go.Proofs.Tryz
attribute [local irreducible] ar aM bm bA bE Y
theorem Kg{W:World}{b bs br i:Nat}{l:Lib}{v:aH}(hv:l.vs[i]?=some v){c:Int}(hz:HI l)(hw:∀ t,(l.aK.run t c).1.av.length≤17):Fn Tryz.prog W 90 [ptr b,.int .i64 (i:Int),.int .i64 c] [aW b bs br l] Value (fun u=>.agg (dt u (l.hJ (i:Int) c).1).toArray) (fun _=>True) (fun u=>[sl au 1 u (l.hJ (i:Int) c).1.wL.av,aW b bs br (l.hJ (i:Int) c).2]):=by
 refine Fn.intro (N:=77) func90 rfl ntmps90 rfl fun F=>?_
 show ar _ _ _ _ _ _ [aW b bs br l,F]
 refine .o2 (C:=aW b bs br l) .auto rfl ?_
 rintro vv vw -
 refine .o1 (C:=cu vv l.vs) .auto rfl ?_
 rintro xs hxs
 have hxl:=ay hxs
 obtain⟨x,hx,hxv⟩:=dn hxs hv
 have hil:=(List.getElem?_eq_some_iff.1 hx).1
 subst hxv
 refine J 2 ?_
 refine .ai rfl (ae.alloc rfl zeroValue68 rfl) ?_
 rintro _ _ ⟨b6,rfl,rfl⟩
 refine J 9 ?_
 refine .p (.ix i rfl rfl rfl (by omega)) ?_
 refine J 1 ?_
 refine .p (.ld rfl (Cell.rd (c:=1) Rd.s hx rfl)) ?_
 refine J 10 ?_
 refine .c call143 rfl (Ct (s:=l.aK) (n:=x.2.ab) hz.sp) fun _ _=>?_
 refine JD 10 (fun h25=>?_) fun h25=>?_
 ·refine J 7 ?_
  refine .p (.ix i rfl rfl rfl (by omega)) ?_
  refine J 1 ?_
  refine .ai rfl (ae.dA (x':=(x.1,{x.2 with mode:=6 })) rfl rfl sizeOf3 rfl hx (by decide) rfl .auto) ?_
  rintro _ _ ⟨rfl,rfl⟩
  refine .to (A:=cu vv (l.vs.set i {x.2 with mode:=6 })) (Bs:=[sl eA 3 vv (xs.set i (x.1,{x.2 with mode:=6 })),aO (fun x:Value×aH=>sl bP 3 x.1 x.2.evs) xs]) .auto (kQ hxs hx rfl) ?_
  refine J 4 ?_
  refine .p (.mi (dt (.slice none 0 0) gk.z) (by kernel_rfl)) ?_
  refine .ai rfl (ae.hD (vs:=dt (.slice none 0 0) gk.z) (by exact sizeOf68) rfl rfl (by rfl) (by rfl)) ?_
  rintro _ _ ⟨rfl,rfl⟩
  refine J 4 ?_
  rw[lR hv h25]
  refine .dP rfl rfl isAgg68 (by exact sizeOf68) Cells.a fun w s=>⟨(.slice none 0 0),?_,trivial,aj .auto s⟩
  rfl
 ·refine J 7 ?_
  refine .to (A:=cu vv l.vs) (Bs:=[sl eA 3 vv xs,aO (fun x:Value×aH=>sl bP 3 x.1 x.2.evs) xs]) .auto (fu hxs) ?_
  refine .c call144 rfl (oT (l:=l) (t:=x.2.ab) (c:=c) hz.sp) fun u37 _=>?_
  refine .cr (fun w s=>Rd.isSl (Rd.sl .auto) w s) fun hu37=>?_
  obtain⟨v,hvd⟩:∃ v,v=x.2:=⟨_,rfl⟩
  rw[← hvd] at hv h25 ⊢
  refine .ai rfl (ae.alloc rfl zeroValue68 rfl) ?_
  rintro _ _ ⟨b9,rfl,rfl⟩
  refine .ai rfl (ae.hD (vs:=dt u37 (l.aL v.ab c).1) (by exact sizeOf68) rfl rfl (cV hu37) (by rfl)) ?_
  rintro _ _ ⟨rfl,rfl⟩
  refine JD 12 (fun h38=>?_) fun h38=>?_
  ·refine .o2 (C:=aW b bs br (l.aL v.ab c).2) .auto rfl ?_
   rintro vv vw -
   refine .o1 (C:=cu vv l.vs) .auto rfl ?_
   rintro xs hxs
   have hxl:=ay hxs
   obtain⟨x,hx,hxv⟩:=dn hxs hv
   have hil:=(List.getElem?_eq_some_iff.1 hx).1
   subst hxv
   refine .fr .auto (cc (f:=(fun x:Value×aH=>sl bP 3 x.1 x.2.evs)) hx) ?_
   refine .draw [arr b 0 (mJ bs br vv vw l.locked)] [0,0,0,0,0,1,1,2,2,1,3] rfl (by kernel_rfl) ?_
   refine J 6 ?_
   refine .p (.fF (fun v1 v2=>[v1,v2,(.int .i64 0)]) rfl rfl (by kernel_rfl)) ?_
   refine .d2 rfl Kept.auto (ae.gC 87 rfl rfl (by kernel_rfl)) (by rintro _ _ ⟨b49,rfl,rfl⟩;exact Kept.auto) ?_
   rintro _ _ ⟨b49,rfl,rfl⟩
   refine .c2 call94 rfl (oP (A:=arr b49 0 [.int .i64 2,.int .i64 x.2.ab,.int .i64 0]) (xs:=[⟨2,x.2.ab,0⟩]) (Rd.lit .here rfl (fun _ _=>rfl) rfl) (by show 1≤_;decide)) fun u50 _=>?_
   refine .cr (fun w s=>Rd.isSl (Rd.sl .auto) w s) fun hu50=>?_
   refine .p (.ix i rfl rfl rfl (by omega)) ?_
   refine .d3 rfl (ae.mK (x':=(u50,(aH.new [⟨2,x.2.ab,0⟩]))) rfl rfl sizeOf80 (j5 hu50) hx rfl rfl .auto) ?_
   rintro _ _ ⟨rfl,rfl⟩
   refine J 9 ?_
   refine .to (A:=cu vv (l.vs.set i (aH.new [⟨2,x.2.ab,0⟩]))) (Bs:=[sl eA 3 vv (xs.set i (u50,(aH.new [⟨2,x.2.ab,0⟩]))),sl bP 3 u50 ((aH.new [⟨2,x.2.ab,0⟩])).evs,aO (fun x:Value×aH=>sl bP 3 x.1 x.2.evs) (xs.eraseIdx i)]) .auto (m4 hxs hx) ?_
   refine .c call84 rfl (gu (A:=sl au 1 u37 (l.aK.run x.2.ab c).1.av) (Rd.sl .here) (Nat.le_trans (hw _) (by decide))) fun u74 _=>?_
   refine .ai rfl (ae.cY rfl call37 rfl (jR (l:={l with aK:=(l.aK.run x.2.ab c).2.2,vs:=l.vs.set i (aH.new [⟨2,x.2.ab,0⟩]) }) (A:=sl bP 3 u74 (aB (l.aK.run x.2.ab c).1.av)) (Rd.sl .here) ⟨by unfold aB;rw[List.length_map];exact Nat.le_trans (hw _) (by decide),Nat.le_trans hz.wt (by decide),by show(l.vs.set i _).length≤_;rw[List.length_set];exact Nat.le_trans hz.vl (by decide),fun z hzm=>by
     rcases List.mem_or_eq_of_mem_set hzm with h | rfl
     ·exact Nat.le_trans (hz.ev z h) (by decide)
     ·show 1≤_;decide⟩) .auto) ?_
   rintro _ _ ⟨⟨⟩, -,rfl,rfl⟩
   refine J 5 ?_
   refine .ai rfl (ae.hD (vs:=dt u37 (l.aL x.2.ab c).1) (by exact sizeOf68) rfl rfl (cV hu37) (by rfl)) ?_
   rintro _ _ ⟨rfl,rfl⟩
   refine J 3 ?_
   rw[nL hv h25 h38]
   refine .dP rfl rfl isAgg68 (by exact sizeOf68) Cells.a fun w s=>⟨u37,?_,trivial,aj .auto s⟩
   rfl
  ·refine JD 8 (fun h52=>?_) fun h52=>?_
   ·refine .o2 (C:=aW b bs br (l.aL v.ab c).2) .auto rfl ?_
    rintro vv vw -
    refine .o1 (C:=cu vv l.vs) .auto rfl ?_
    rintro xs hxs
    have hxl:=ay hxs
    obtain⟨x,hx,hxv⟩:=dn hxs hv
    have hil:=(List.getElem?_eq_some_iff.1 hx).1
    subst hxv
    refine .draw [arr b 0 (mJ bs br vv vw l.locked)] [1,1,1,1,1,1,1,1,1,0,1,1,2,1,1,3] rfl (by kernel_rfl) ?_
    refine J 10 ?_
    refine .p (.ix i rfl rfl rfl (by omega)) ?_
    refine J 1 ?_
    refine .d2 rfl Kept.auto (ae.dA (x':=(x.1,{x.2 with mode:=3 })) rfl rfl sizeOf3 rfl hx (by decide) rfl .auto) (by rintro _ _ ⟨rfl,rfl⟩;exact Kept.auto) ?_
    rintro _ _ ⟨rfl,rfl⟩
    have hx2:(xs.set i (x.1,{x.2 with mode:=3 }))[i]?=some (x.1,{x.2 with mode:=3 }):=List.getElem?_set_self hil
    refine .p (.ix i rfl rfl rfl (by rw[List.length_set];omega)) ?_
    refine J 1 ?_
    refine .d3 rfl (ae.k9 (c:=1) (x':=(x.1,{x.2 with mode:=3,ab := -1 })) rfl rfl sizeOf3 rfl hx2 (by decide) rfl .auto) ?_
    rintro _ _ ⟨rfl,rfl⟩
    rw[List.set_set]
    refine .to (A:=cu vv (l.vs.set i {x.2 with mode:=3,ab := -1 })) (Bs:=[sl eA 3 vv (xs.set i (x.1,{x.2 with mode:=3,ab := -1 })),aO (fun x:Value×aH=>sl bP 3 x.1 x.2.evs) xs]) .auto (kQ hxs hx rfl) ?_
    refine J 9 ?_
    refine .c call84 rfl (gu (A:=sl au 1 u37 (l.aK.run x.2.ab c).1.av) (Rd.sl .here) (Nat.le_trans (hw _) (by decide))) fun u74 _=>?_
    refine .ai rfl (ae.cY rfl call37 rfl (jR (l:={l with aK:=(l.aK.run x.2.ab c).2.2,vs:=l.vs.set i ({x.2 with mode:=3,ab := -1 }:aH) }) (A:=sl bP 3 u74 (aB (l.aK.run x.2.ab c).1.av)) (Rd.sl .here) ⟨by unfold aB;rw[List.length_map];exact Nat.le_trans (hw _) (by decide),Nat.le_trans hz.wt (by decide),by show(l.vs.set i _).length≤_;rw[List.length_set];exact Nat.le_trans hz.vl (by decide),fun z hzm=>by
      rcases List.mem_or_eq_of_mem_set hzm with h | rfl
      ·exact Nat.le_trans (hz.ev z h) (by decide)
      ·exact Nat.le_trans (show x.2.evs.length≤1000000 from hz.ev _ (List.mem_of_getElem? hv)) (by decide)⟩) .auto) ?_
    rintro _ _ ⟨⟨⟩, -,rfl,rfl⟩
    refine J 5 ?_
    refine .ai rfl (ae.hD (vs:=dt u37 (l.aL x.2.ab c).1) (by exact sizeOf68) rfl rfl (cV hu37) (by rfl)) ?_
    rintro _ _ ⟨rfl,rfl⟩
    refine J 3 ?_
    rw[qc hv h25 (by rw[show(l.aK.run x.2.ab c).1.aR=false from h38];simp) h52]
    refine .dP rfl rfl isAgg68 (by exact sizeOf68) Cells.a fun w s=>⟨u37,?_,trivial,aj .auto s⟩
    rfl
   ·refine J 9 ?_
    refine .c call84 rfl (gu (A:=sl au 1 u37 (l.aK.run v.ab c).1.av) (Rd.sl .here) (Nat.le_trans (hw _) (by decide))) fun u74 _=>?_
    refine .c call37 rfl (jR (l:=(l.aL v.ab c).2) (A:=sl bP 3 u74 (aB (l.aK.run v.ab c).1.av)) (Rd.sl .here) ⟨by unfold aB;rw[List.length_map];exact Nat.le_trans (hw _) (by decide),Nat.le_trans hz.wt (by decide),Nat.le_trans hz.vl (by decide),fun z hzm=>Nat.le_trans (hz.ev z hzm) (by decide)⟩) fun _ _=>?_
    refine J 5 ?_
    refine .ai rfl (ae.hD (vs:=dt u37 (l.aL v.ab c).1) (by exact sizeOf68) rfl rfl (cV hu37) (by rfl)) ?_
    rintro _ _ ⟨rfl,rfl⟩
    refine J 3 ?_
    rw[nM hv h25 (by rw[show(l.aK.run v.ab c).1.aR=false from h38];simp) (by rw[show(l.aK.run v.ab c).1.ended=false from h52];simp)]
    refine .dP rfl rfl isAgg68 (by exact sizeOf68) Cells.a fun w s=>⟨u37,?_,trivial,aj .auto s⟩
    rfl
theorem CA{W:World}{b bs br i:Nat}{l:Lib}{v:aH}(hv:l.vs[i]?=some v){c:Int}(hz:HI l)(hw:∀ t,(l.aK.run t c).1.av.length≤17):Fn Tryz.prog W 91 [ptr b,.int .i64 (i:Int),.int .i64 c] [aW b bs br l] Value (fun u=>.agg (dt u (l.inside (i:Int) c).1).toArray) (fun _=>True) (fun u=>[sl au 1 u (l.inside (i:Int) c).1.wL.av,aW b bs br (l.inside (i:Int) c).2]):=by
 refine Fn.intro (N:=52) func91 rfl ntmps91 rfl fun F=>?_
 show ar _ _ _ _ _ _ [aW b bs br l,F]
 refine .o2 (C:=aW b bs br l) .auto rfl ?_
 rintro vv vw -
 refine .o1 (C:=cu vv l.vs) .auto rfl ?_
 rintro xs hxs
 have hxl:=ay hxs
 obtain⟨x,hx,rfl⟩:=dn hxs hv
 have hil:=(List.getElem?_eq_some_iff.1 hx).1
 refine J 2 ?_
 refine .ai rfl (ae.alloc rfl zeroValue68 rfl) ?_
 rintro _ _ ⟨b6,rfl,rfl⟩
 refine J 9 ?_
 refine .p (.ix i rfl rfl rfl (by omega)) ?_
 refine J 1 ?_
 refine .p (.ld rfl (Cell.rd (c:=1) Rd.s hx rfl)) ?_
 refine J 5 ?_
 refine .to (A:=cu vv l.vs) (Bs:=[sl eA 3 vv xs,aO (fun x:Value×aH=>sl bP 3 x.1 x.2.evs) xs]) .auto (fu hxs) ?_
 refine J 3 ?_
 refine .c call144 rfl (oT (l:=l) (t:=x.2.ab) (c:=c) hz.sp) fun u20 _=>?_
 refine .cr (fun w s=>Rd.isSl (Rd.sl .auto) w s) fun hu20=>?_
 refine .ai rfl (ae.alloc rfl zeroValue68 rfl) ?_
 rintro _ _ ⟨b8,rfl,rfl⟩
 refine .ai rfl (ae.hD (vs:=dt u20 (l.aL x.2.ab c).1) (by exact sizeOf68) rfl rfl (cV hu20) (by rfl)) ?_
 rintro _ _ ⟨rfl,rfl⟩
 refine J 4 ?_
 refine .o2 (C:=aW b bs br (l.aL x.2.ab c).2) .auto rfl ?_
 rintro vv2 vw2 -
 refine J 5 ?_
 refine .c call141 rfl (qz (rows:=l.rows) (p:=(i:Int)) (A:=sl au 1 u20 (l.aK.run x.2.ab c).1.av) (ts:=(l.aK.run x.2.ab c).1.av) (Rd.sl .here) ⟨Nat.le_trans (hw _) (by decide),(yz ⟨hz.rl,hz.rw⟩)⟩) fun _ _=>?_
 refine J 7 ?_
 refine .p (.la rfl (Cells.mD (ds:=mS u20 (l.aL x.2.ab c).1.wL) Cells.a rfl)) ?_
 refine .c call145 rfl AN fun _ _=>?_
 refine JD 4 (fun h31=>?_) fun h31=>?_
 ·refine J 3 ?_
  refine .c call139 rfl (jv (l:={l with aK:=(l.aK.run x.2.ab c).2.2,rows:=(dW l.rows (i:Int) (l.aK.run x.2.ab c).1.av) }) hv) fun _ _=>?_
  refine J 6 ?_
  refine .ai rfl (ae.hD (vs:=dt u20 (l.aL x.2.ab c).1) (by exact sizeOf68) rfl rfl (cV hu20) (by rfl)) ?_
  rintro _ _ ⟨rfl,rfl⟩
  refine J 3 ?_
  rw[lS hv (by rw[show(l.aK.run x.2.ab c).1.cj=false from by have h:=h31;simp only[Bool.not_eq_true'] at h;exact h];simp)]
  refine .dP rfl rfl isAgg68 (by exact sizeOf68) Cells.a fun w s=>⟨u20,?_,trivial,aj .auto s⟩
  rfl
 ·have hg:(l.aK.run x.2.ab c).1.cj=true:=by have h:=h31;simp only[Bool.not_eq_false'] at h;exact h
  refine JD 8 (fun h39=>?_) fun h39=>?_
  ·refine J 5 ?_
   refine .ai rfl (ae.gC 3 rfl rfl (by kernel_rfl)) ?_
   rintro _ _ ⟨b46,rfl,rfl⟩
   refine .c call141 rfl (qz (rows:=(dW l.rows (i:Int) (l.aK.run x.2.ab c).1.av)) (p:=(i:Int)) (A:=arr b46 0 [.int .i64 x.2.ab]) (ts:=[x.2.ab]) (Rd.lit .here rfl (fun _ _=>rfl) rfl) ⟨by show 1≤_;decide,(Ar ⟨hz.rl,hz.rw⟩ (Nat.le_trans (hw _) (by decide)))⟩) fun _ _=>?_
   refine J 5 ?_
   refine .c call139 rfl (jv (l:={l with aK:=(l.aK.run x.2.ab c).2.2,rows:=(dW (dW l.rows (i:Int) (l.aK.run x.2.ab c).1.av) (i:Int) [x.2.ab]) }) hv) fun _ _=>?_
   refine J 6 ?_
   refine .ai rfl (ae.hD (vs:=dt u20 (l.aL x.2.ab c).1) (by exact sizeOf68) rfl rfl (cV hu20) (by rfl)) ?_
   rintro _ _ ⟨rfl,rfl⟩
   refine J 3 ?_
   rw[jd hv hg h39]
   refine .dP rfl rfl isAgg68 (by exact sizeOf68) Cells.a fun w s=>⟨u20,?_,trivial,aj .auto s⟩
   rfl
  ·refine J 4 ?_
   refine .c call139 rfl (jv (l:={l with aK:=(l.aK.run x.2.ab c).2.2,rows:=(dW l.rows (i:Int) (l.aK.run x.2.ab c).1.av) }) hv) fun _ _=>?_
   refine J 6 ?_
   refine .ai rfl (ae.hD (vs:=dt u20 (l.aL x.2.ab c).1) (by exact sizeOf68) rfl rfl (cV hu20) (by rfl)) ?_
   rintro _ _ ⟨rfl,rfl⟩
   refine J 3 ?_
   rw[nN hv hg (by rw[show(l.aK.run x.2.ab c).1.yielded=false from h39];simp)]
   refine .dP rfl rfl isAgg68 (by exact sizeOf68) Cells.a fun w s=>⟨u20,?_,trivial,aj .auto s⟩
   rfl
theorem qA{W:World}{b bs br:Nat}{l:Lib}{p c:Int}(hz:HI l)(hw:∀ t,(l.aK.run t c).1.av.length≤17):Fn Tryz.prog W 32 [ptr b,.int .i64 p,.int .i64 c] [aW b bs br l] Value (fun u=>.tuple #[.agg (dt u (l.step p c).1).toArray,.int .i64 (l.step p c).2.1]) (fun _=>True) (fun u=>[sl au 1 u (l.step p c).1.wL.av,aW b bs br (l.step p c).2.2]):=by
 refine Fn.intro (N:=76) func32 rfl ntmps32 rfl fun F=>?_
 show ar _ _ _ _ _ _ [aW b bs br l,F]
 refine J 2 ?_
 refine .ai rfl (ae.alloc rfl zeroValue68 rfl) ?_
 rintro _ _ ⟨b6,rfl,rfl⟩
 refine J 8 ?_
 refine .c call85 rfl kU fun _ _=>?_
 refine JD 3 (fun h12=>?_) fun h12=>?_
 ·refine J 2 ?_
  refine .p (.mi (dt (.slice none 0 0) gk.z) (by kernel_rfl)) ?_
  refine .ai rfl (ae.hD (vs:=dt (.slice none 0 0) gk.z) (by exact sizeOf68) rfl rfl (by rfl) (by rfl)) ?_
  rintro _ _ ⟨rfl,rfl⟩
  refine J 5 ?_
  rw[kR (by simpa using h12)]
  refine .fp rfl rfl isAgg68 (by exact sizeOf68) Cells.a rfl fun w s=>⟨(.slice none 0 0),?_,trivial,aj .auto s⟩
  rfl
 ·have h12:l.has p=true:=by simpa using h12
  refine J 4 ?_
  refine .ai rfl (ae.alloc rfl zeroValue68 rfl) ?_
  rintro _ _ ⟨b8,rfl,rfl⟩
  refine J 5 ?_
  obtain⟨i,v,rfl,hv,hm0⟩:=gA h12
  refine .o2 (C:=aW b bs br l) .auto rfl ?_
  rintro vv vw -
  refine .o1 (C:=cu vv l.vs) .auto rfl ?_
  rintro xs hxs
  have hxl:=ay hxs
  obtain⟨x,hx,rfl⟩:=dn hxs hv
  have hil:=(List.getElem?_eq_some_iff.1 hx).1
  refine J 5 ?_
  refine .p (.ix i rfl rfl rfl (by omega)) ?_
  refine J 1 ?_
  refine .p (.lr rfl hx) ?_
  refine JD 9 (fun h23=>?_) fun h23=>?_
  ·refine J 1 ?_
   refine .to (A:=cu vv l.vs) (Bs:=[sl eA 3 vv xs,aO (fun x:Value×aH=>sl bP 3 x.1 x.2.evs) xs]) .auto (fu hxs) ?_
   refine J 3 ?_
   refine .c call86 rfl (Cy hv hz hw) fun u27 _=>?_
   refine .cr (fun w s=>Rd.isSl (Rd.sl .auto) w s) fun hu27=>?_
   refine .ai rfl (ae.hD (vs:=dt u27 (l.upcall (i:Int) c).1) (by exact sizeOf68) rfl rfl (cV hu27) (by rfl)) ?_
   rintro _ _ ⟨rfl,rfl⟩
   refine J 6 ?_
   refine .ai rfl (ae.hD (vs:=dt u27 (l.upcall (i:Int) c).1) (by exact sizeOf68) rfl rfl (cV hu27) (by rfl)) ?_
   rintro _ _ ⟨rfl,rfl⟩
   refine J 4 ?_
   rw[qd h12 hv h23]
   refine .fp rfl rfl isAgg68 (by exact sizeOf68) Cells.a rfl fun w s=>⟨u27,?_,trivial,aj .auto s⟩
   rfl
  ·refine JD 6 (fun h29=>?_) fun h29=>?_
   ·refine J 1 ?_
    refine .to (A:=cu vv l.vs) (Bs:=[sl eA 3 vv xs,aO (fun x:Value×aH=>sl bP 3 x.1 x.2.evs) xs]) .auto (fu hxs) ?_
    refine J 2 ?_
    refine .c call87 rfl (Cz hv hz) fun _ _=>?_
    refine J 6 ?_
    refine .ai rfl (ae.hD (vs:=dt (.slice none 0 0) gk.z) (by exact sizeOf68) rfl rfl (by rfl) (by rfl)) ?_
    rintro _ _ ⟨rfl,rfl⟩
    refine J 4 ?_
    rw[qe h12 hv (by omega)]
    refine .fp rfl rfl isAgg68 (by exact sizeOf68) Cells.a rfl fun w s=>⟨(.slice none 0 0),?_,trivial,aj .auto s⟩
    rfl
   ·refine JD 6 (fun h34=>?_) fun h34=>?_
    ·refine J 1 ?_
     refine .to (A:=cu vv l.vs) (Bs:=[sl eA 3 vv xs,aO (fun x:Value×aH=>sl bP 3 x.1 x.2.evs) xs]) .auto (fu hxs) ?_
     refine J 2 ?_
     refine .c call88 rfl (rf hv) fun _ _=>?_
     refine J 6 ?_
     refine .ai rfl (ae.hD (vs:=dt (.slice none 0 0) gk.z) (by exact sizeOf68) rfl rfl (by rfl) (by rfl)) ?_
     rintro _ _ ⟨rfl,rfl⟩
     refine J 4 ?_
     rw[qf h12 hv (by omega)]
     refine .fp rfl rfl isAgg68 (by exact sizeOf68) Cells.a rfl fun w s=>⟨(.slice none 0 0),?_,trivial,aj .auto s⟩
     rfl
    ·refine JD 6 (fun h39=>?_) fun h39=>?_
     ·refine J 1 ?_
      refine .to (A:=cu vv l.vs) (Bs:=[sl eA 3 vv xs,aO (fun x:Value×aH=>sl bP 3 x.1 x.2.evs) xs]) .auto (fu hxs) ?_
      refine J 2 ?_
      refine .c call89 rfl (IA hv hz) fun _ _=>?_
      refine J 6 ?_
      refine .ai rfl (ae.hD (vs:=dt (.slice none 0 0) gk.z) (by exact sizeOf68) rfl rfl (by rfl) (by rfl)) ?_
      rintro _ _ ⟨rfl,rfl⟩
      refine J 4 ?_
      rw[qg h12 hv (by omega)]
      refine .fp rfl rfl isAgg68 (by exact sizeOf68) Cells.a rfl fun w s=>⟨(.slice none 0 0),?_,trivial,aj .auto s⟩
      rfl
     ·refine JD 6 (fun h44=>?_) fun h44=>?_
      ·refine J 1 ?_
       refine .to (A:=cu vv l.vs) (Bs:=[sl eA 3 vv xs,aO (fun x:Value×aH=>sl bP 3 x.1 x.2.evs) xs]) .auto (fu hxs) ?_
       refine J 3 ?_
       refine .c call90 rfl (Kg hv hz hw) fun u48 _=>?_
       refine .cr (fun w s=>Rd.isSl (Rd.sl .auto) w s) fun hu48=>?_
       refine .ai rfl (ae.hD (vs:=dt u48 (l.hJ (i:Int) c).1) (by exact sizeOf68) rfl rfl (cV hu48) (by rfl)) ?_
       rintro _ _ ⟨rfl,rfl⟩
       refine J 6 ?_
       refine .ai rfl (ae.hD (vs:=dt u48 (l.hJ (i:Int) c).1) (by exact sizeOf68) rfl rfl (cV hu48) (by rfl)) ?_
       rintro _ _ ⟨rfl,rfl⟩
       refine J 4 ?_
       rw[qh h12 hv h44]
       refine .fp rfl rfl isAgg68 (by exact sizeOf68) Cells.a rfl fun w s=>⟨u48,?_,trivial,aj .auto s⟩
       rfl
      ·refine JD 6 (fun h50=>?_) fun h50=>?_
       ·refine J 1 ?_
        refine .to (A:=cu vv l.vs) (Bs:=[sl eA 3 vv xs,aO (fun x:Value×aH=>sl bP 3 x.1 x.2.evs) xs]) .auto (fu hxs) ?_
        refine J 2 ?_
        refine .c call88 rfl (rf hv) fun _ _=>?_
        refine J 6 ?_
        refine .ai rfl (ae.hD (vs:=dt (.slice none 0 0) gk.z) (by exact sizeOf68) rfl rfl (by rfl) (by rfl)) ?_
        rintro _ _ ⟨rfl,rfl⟩
        refine J 4 ?_
        rw[qi h12 hv (by omega)]
        refine .fp rfl rfl isAgg68 (by exact sizeOf68) Cells.a rfl fun w s=>⟨(.slice none 0 0),?_,trivial,aj .auto s⟩
        rfl
       ·refine JD 6 (fun h55=>?_) fun h55=>?_
        ·refine J 1 ?_
         refine .to (A:=cu vv l.vs) (Bs:=[sl eA 3 vv xs,aO (fun x:Value×aH=>sl bP 3 x.1 x.2.evs) xs]) .auto (fu hxs) ?_
         refine J 3 ?_
         refine .c call91 rfl (CA hv hz hw) fun u59 _=>?_
         refine .cr (fun w s=>Rd.isSl (Rd.sl .auto) w s) fun hu59=>?_
         refine .ai rfl (ae.hD (vs:=dt u59 (l.inside (i:Int) c).1) (by exact sizeOf68) rfl rfl (cV hu59) (by rfl)) ?_
         rintro _ _ ⟨rfl,rfl⟩
         refine J 6 ?_
         refine .ai rfl (ae.hD (vs:=dt u59 (l.inside (i:Int) c).1) (by exact sizeOf68) rfl rfl (cV hu59) (by rfl)) ?_
         rintro _ _ ⟨rfl,rfl⟩
         refine J 4 ?_
         rw[qj h12 hv h55]
         refine .fp rfl rfl isAgg68 (by exact sizeOf68) Cells.a rfl fun w s=>⟨u59,?_,trivial,aj .auto s⟩
         rfl
        ·refine JD 6 (fun h61=>?_) fun h61=>?_
         ·refine J 6 ?_
          refine .c call92 rfl (Cx (rs:=l.rows) ⟨hz.rl,fun r hr=>Nat.le_trans (hz.rw r hr) (by decide)⟩) fun _ _=>?_
          refine JD 3 (fun h67=>?_) fun h67=>?_
          ·refine J 6 ?_
           refine .p (.ix i rfl rfl rfl (by omega)) ?_
           refine J 1 ?_
           refine .ai rfl (ae.dA (x':=(x.1,{x.2 with mode:=3 })) rfl rfl sizeOf3 rfl hx (by decide) rfl .auto) ?_
           rintro _ _ ⟨rfl,rfl⟩
           refine .to (A:=cu vv (l.vs.set i {x.2 with mode:=3 })) (Bs:=[sl eA 3 vv (xs.set i (x.1,{x.2 with mode:=3 })),aO (fun x:Value×aH=>sl bP 3 x.1 x.2.evs) xs]) .auto (kQ hxs hx rfl) ?_
           refine J 6 ?_
           refine .ai rfl (ae.hD (vs:=dt (.slice none 0 0) gk.z) (by exact sizeOf68) rfl rfl (by rfl) (by rfl)) ?_
           rintro _ _ ⟨rfl,rfl⟩
           refine J 4 ?_
           rw[m6 h12 hv (by omega) (by simpa using h67)]
           refine .fp rfl rfl isAgg68 (by exact sizeOf68) Cells.a rfl fun w s=>⟨(.slice none 0 0),?_,trivial,aj .auto s⟩
           rfl
          ·refine J 6 ?_
           refine .ai rfl (ae.hD (vs:=dt (.slice none 0 0) gk.z) (by exact sizeOf68) rfl rfl (by rfl) (by rfl)) ?_
           rintro _ _ ⟨rfl,rfl⟩
           refine J 4 ?_
           refine .to (A:=cu vv l.vs) (Bs:=[sl eA 3 vv xs,aO (fun x:Value×aH=>sl bP 3 x.1 x.2.evs) xs]) .auto (fu hxs) ?_
           rw[m5 h12 hv (by omega) (by simpa using h67)]
           refine .fp rfl rfl isAgg68 (by exact sizeOf68) Cells.a rfl fun w s=>⟨(.slice none 0 0),?_,trivial,aj .auto s⟩
           rfl
         ·refine J 6 ?_
          refine .ai rfl (ae.hD (vs:=dt (.slice none 0 0) gk.z) (by exact sizeOf68) rfl rfl (by rfl) (by rfl)) ?_
          rintro _ _ ⟨rfl,rfl⟩
          refine J 4 ?_
          refine .to (A:=cu vv l.vs) (Bs:=[sl eA 3 vv xs,aO (fun x:Value×aH=>sl bP 3 x.1 x.2.evs) xs]) .auto (fu hxs) ?_
          rw[qk h12 hv (by omega)]
          refine .fp rfl rfl isAgg68 (by exact sizeOf68) Cells.a rfl fun w s=>⟨(.slice none 0 0),?_,trivial,aj .auto s⟩
          rfl
theorem sd{W:World}{b bs br:Nat}{l:Lib}{p:Int}(hz:HI l):Fn Tryz.prog W 35 [ptr b,.int .i64 p] [aW b bs br l] Unit (fun _=>.bool (l.preempt p).1) (fun _=>True) (fun _=>[aW b bs br (l.preempt p).2]):=by
 refine Fn.intro (N:=23) func35 rfl ntmps35 rfl fun F=>?_
 show ar _ _ _ _ _ _ [aW b bs br l,F]
 refine J 10 ?_
 refine .c call85 rfl kU fun _ _=>?_
 refine JD 3 (fun h8=>?_) fun h8=>?_
 ·refine J 7 ?_
  rw[jN (by simpa using h8)]
  exact JR 0 ()
 ·refine J 3 ?_
  have h8:l.has p=true:=by simpa using h8
  obtain⟨i,v,rfl,hv,hm0⟩:=gA h8
  refine .o2 (C:=aW b bs br l) .auto rfl ?_
  rintro vv vw -
  refine .o1 (C:=cu vv l.vs) .auto rfl ?_
  rintro xs hxs
  have hxl:=ay hxs
  obtain⟨x,hx,rfl⟩:=dn hxs hv
  have hil:=(List.getElem?_eq_some_iff.1 hx).1
  refine .fr .auto (cc (f:=(fun x:Value×aH=>sl bP 3 x.1 x.2.evs)) hx) ?_
  refine .draw [arr b 0 (mJ bs br vv vw l.locked)] [0,0,0,0,0,1,1,1,1,1,1,1,2,1,3] rfl (by kernel_rfl) ?_
  refine J 10 ?_
  refine .p (.ix i rfl rfl rfl (by omega)) ?_
  refine .p (.la rfl (Cells.rd Rd.s hx)) ?_
  refine .c2 call97 rfl (r8 (A:=sl bP 3 x.1 x.2.evs) (u:=x.1) (x:=x.2) (m:=(.slice none 0 0)) (ys:=[]) (Rd.sl .here) Rd.nil ⟨Nat.le_trans (hz.ev _ (List.mem_of_getElem? hv)) (by decide),by show 0≤_;decide⟩) fun u21 _=>?_
  refine .cr (fun w s=>Rd.isSl (Rd.sl .auto) w s) fun hu21=>?_
  refine .p (.ix i rfl rfl rfl (by omega)) ?_
  refine .d3 rfl (ae.mK (x':=(u21,x.2.told [])) rfl rfl sizeOf80 (j5 hu21) hx rfl rfl .auto) ?_
  rintro _ _ ⟨rfl,rfl⟩
  refine .to (A:=cu vv (l.vs.set i (x.2.told []))) (Bs:=[sl eA 3 vv (xs.set i (u21,(x.2.told []))),sl bP 3 u21 ((x.2.told [])).evs,aO (fun x:Value×aH=>sl bP 3 x.1 x.2.evs) (xs.eraseIdx i)]) .auto (m4 hxs hx) ?_
  refine J 8 ?_
  rw[iM h8 hv]
  exact JR 0 ()
theorem CB{W:World}{b bs br:Nat}{l:Lib}:Fn Tryz.prog W 82 [ptr b] [aW b bs br l] Unit (fun _=>.bool l.locked) (fun _=>True) (fun _=>[aW b bs br l]):=by
 refine Fn.intro (N:=11) func82 rfl ntmps82 rfl fun F=>?_
 show ar _ _ _ _ _ _ [aW b bs br l,F]
 refine .o2 (C:=aW b bs br l) .auto rfl ?_
 rintro vv vw -
 exact JR 19 ()
end Go.SLYthlllpngkljgfaaGreat
namespace Go.SLYthlllpngkljgfaaGreat
open Go Go.RowKit Go.Proofs Go.Proofs.Tryz
attribute [local irreducible] ar aM bm bA bE Y
theorem l4{W:World}  : Fn Tryz.prog W 49 [.pointer none] [] Unit (fun _=>.pointer none) (fun _=>True) (fun _=>[]):=by
 refine Fn.intro (N:=9) func49 rfl ntmps49 rfl fun F=>?_
 show ar _ _ _ _ _ _ [F]
 refine J 12 ?_
 refine .gd rfl ?_
 exact JR 7 ()
theorem se{W:World}  : Fn Tryz.prog W 30 [] [] Unit (fun _=>.bool true) (fun _=>True) (fun _=>[]):=by
 refine Fn.intro (N:=72) func30 rfl ntmps30 rfl fun F=>?_
 show ar _ _ _ _ _ _ [F]
 refine J 7 ?_
 refine .p (.sk (fun v1 v2 v3=>[v1,v2,(.int .i64 0),(.int .i64 0),v3]) rfl rfl rfl (by kernel_rfl)) ?_
 refine .ai rfl (ae.gC 112 rfl rfl (by kernel_rfl)) ?_
 rintro _ _ ⟨b14,rfl,rfl⟩
 refine .ai rfl (ae.gC 113 rfl rfl (by kernel_rfl)) ?_
 rintro _ _ ⟨b15,rfl,rfl⟩
 refine .p (.hZ (fun _=>ez (B4 b14 b15)) rfl (by kernel_rfl)) ?_
 refine .c call29 rfl (uF (A:=Oq b14 b15) (v:=B4 b14 b15) JN ⟨by show 1≤_;decide,by show 0≤_;decide,by show 0≤_;decide⟩) fun o ho=>?_
 rw[show(B4 b14 b15).p=FG from rfl,KK] at ho ⊢
 obtain⟨kb,rfl⟩:=Option.isSome_iff_exists.1 ho
 refine .fr (A:=optH (fun b=>eT b (Spc.new FG)) (some kb)) (Bs:=[eT kb (Spc.new FG)]) .auto fc ?_
 refine .o1 (C:=eT kb (Spc.new FG)) .auto rfl ?_
 rintro pt -
 refine J 10 ?_
 refine .c call31 rfl (DA (bs:=kb) (ps:=pt) (s:=Spc.new FG) (p:=2) (pB _)) fun u21 _=>?_
 rw[show Lib.new (Spc.new FG) 2=B5 from rfl]
 refine .o2 (C:=cn u21 B5) .auto rfl ?_
 rintro bs br -
 refine J 6 ?_
 refine .c call33 rfl (nR (l:=B5) (p:=1) (Nat.le_trans (MX.sz (by decide)).wt (by decide))) fun _ _=>?_
 rw[NT,show(B5.cy 1).2=ER from rfl]
 refine J 1 ?_
 refine .c call33 rfl (nR (l:=ER) (p:=1) (Nat.le_trans (MY.sz (by decide)).wt (by decide))) fun _ _=>?_
 rw[NU,show(ER.cy 1).2=l16 0 from rfl]
 refine J 16 ?_
 refine .aX (X:=Nat) [6,7,8,9,26,27,28,29,30,31,32,33,34,35,36,37,38] (fun k=>20-k) (fun k=>k≤20) (fun k=>[(7,some (.int .i64 (k:Int))),(6,some (.int .i64 (HL k:Int)))]) (fun k=>[aW u21 bs br (l16 k),F]) 0 ?_ ?_ ?_ ?_
 ·exact Nat.zero_le _
 ·exact⟨rfl,rfl,trivial⟩
 ·exact fun w s=>aq.kept .auto w s
 rintro k hk
 refine JD 7 (fun h27=>?_) fun h27=>?_
 ·refine J 6 ?_
  have hI:=i16 k (by omega)
  have hnk:=HM k
  refine J 1 ?_
  refine .c call32 rfl (qA (l:=l16 k) (p:=1) (c:=0) (hI.sz (by omega)) (fun t=>hI.wy (by omega) t _)) fun u32 _=>?_
  refine .cr (fun w s=>Rd.isSl (Rd.sl .auto) w s) fun hu32=>?_
  rw[show((l16 k).step 1 0).2.2=l16 (k+1) from rfl]
  refine J 1 ?_
  refine .p (.extract (v:=.agg (dt u32 ((l16 k).step 1 0).1).toArray) rfl rfl) ?_
  refine .p (.extract (v:=.int .i64 ((l16 k).step 1 0).2.1) rfl rfl) ?_
  refine .ai rfl (ae.alloc rfl zeroValue68 rfl) ?_
  rintro _ _ ⟨b8,rfl,rfl⟩
  refine .ai rfl (ae.hD (vs:=dt u32 ((l16 k).step 1 0).1) (by exact sizeOf68) rfl rfl (cV hu32) (by rfl)) ?_
  rintro _ _ ⟨rfl,rfl⟩
  refine JD 9 (fun h36=>?_) fun h36=>?_
  ·refine J 2 ?_
   refine .p (.add rfl rfl (by omega)) ?_
   refine J 9 ?_
   refine .aw (k+1) .auto rfl ?_ ?_ ?_ ?_
   ·omega
   ·show k+1≤20;omega
   ·refine⟨rfl,?_,trivial⟩
    rw[show HL (k+1)=HL k+1 from by show HL k+_=_;rw[if_pos h36]];rfl
   ·exact fun w s=>aq.kept .auto w s
  ·refine J 8 ?_
   refine .aw (k+1) .auto rfl ?_ ?_ ?_ ?_
   ·omega
   ·show k+1≤20;omega
   ·refine⟨rfl,?_,trivial⟩
    rw[show HL (k+1)=HL k from by show HL k+_=_;rw[if_neg (by rw[h36];simp)];rfl];rfl
   ·exact fun w s=>aq.kept .auto w s
 ·obtain rfl:k=20:=by omega
  have hI:=i16 20 (by decide)
  rw[OL]
  refine J 8 ?_
  refine .c call32 rfl (qA (l:=l16 20) (p:=0) (c:=0) (hI.sz (by decide)) (fun t=>hI.wy (by decide) t _)) fun u41 _=>?_
  refine .cr (fun w s=>Rd.isSl (Rd.sl .auto) w s) fun hu41=>?_
  rw[OM,show((l16 20).step 0 0).2.2=l16 20 from by rw[kR ON]]
  refine J 1 ?_
  refine .p (.extract (v:=.agg (dt u41 ((l16 20).step 0 0).1).toArray) rfl rfl) ?_
  refine .p (.extract (v:=.int .i64 11) rfl rfl) ?_
  refine .ai rfl (ae.alloc rfl zeroValue68 rfl) ?_
  rintro _ _ ⟨b10,rfl,rfl⟩
  refine .ai rfl (ae.hD (vs:=dt u41 ((l16 20).step 0 0).1) (by exact sizeOf68) rfl rfl (cV hu41) (by rfl)) ?_
  rintro _ _ ⟨rfl,rfl⟩
  refine J 23 ?_
  apply aM.eb 5 66 61 [61,62,63,64,65,66] rfl
  ·intro h61
   refine J 1 ?_
   refine .cg call81 rfl (jt (l:=l16 20) (Nat.le_trans (hI.sz (by decide)).vl (by decide))) fun u63 _=>?_
   rw[OO]
   refine .dg rfl rfl rfl (ae.gC 3 rfl rfl (by kernel_rfl)) ?_
   rintro _ _ ⟨b64,rfl,rfl⟩
   refine .cg call26 rfl (AJ (A:=seps [sl au 1 u63 [1],arr b64 0 [.int .i64 1]]) (xs:=[1]) (ys:=[1]) (Rd.eU (Rd.sl .here)) (Rd.eU (Rd.lit (.there .here) rfl (fun _ _=>rfl) rfl)) (by decide)) fun _ _=>?_
   exact JS 2
  ·intro h61
   exact JS 6
  refine J 2 ?_
  refine .cg call82 rfl CB fun _ _=>?_
  rw[OP]
  exact JR 6 ()
end Go.SLYthlllpngkljgfaaGreat
namespace Go.SLYthlllpngkljgfaaGreat
open Go Go.RowKit
theorem eE.at{W:World}{H:List aa}{A:aa}{v:aS}(h:eE W [A] v)(ha:At H A):eE W H v:=⟨h.fs.at ha,fun x hx=>(h.ins x hx).at ha,h.bF.at ha,h.bb.at ha⟩
theorem eE.eU{W:World}{H:List aa}{v:aS}(h:eE W H v):eE W [seps H] v:=⟨Rd.eU h.fs,fun x hx=>Rd.eU (h.ins x hx),Rd.eU h.bF,Rd.eU h.bb⟩
/-! the laws' own fact -/
def O2:List q8:=[⟨1,1,0,3⟩,⟨3,5,0,0⟩,⟨1,0,0,0⟩]
def O3:List q8:=[⟨1,0,0,3⟩,⟨3,0,0,0⟩]
def OS:List q8:=[⟨1,1,0,0⟩]
def O4(x y z w:Nat):aa:=seps [OJ x y z,arr w 0 (rows fC OS)]
end Go.SLYthlllpngkljgfaaGreat
namespace Go.SLYthlllpngkljgfaaGreat
open Go Go.RowKit
def N0(v:aH)(w:Bool):Bool:=(decide (v.mode=1) && !w) || decide (v.mode=3) || decide (v.mode=6)
end Go.SLYthlllpngkljgfaaGreat
namespace Go.SLYthlllpngkljgfaaGreat
open Go Go.RowKit Go.Proofs Go.Proofs.Tryz
attribute [local irreducible] ar aM bm bA bE Y
end Go.SLYthlllpngkljgfaaGreat
namespace Go.SLYthlllpngkljgfaaGreat
open Go Go.RowKit Go.Proofs Go.Proofs.Tryz
attribute [local irreducible] ar aM bm bA bE Y
theorem ir{W:World}{b bs br:Nat}{l:Lib}:Fn Tryz.prog W 49 [ptr b] [aW b bs br l] Unit (fun _=>ptr bs) (fun _=>True) (fun _=>[aW b bs br l]):=by
 refine Fn.intro (N:=9) func49 rfl ntmps49 rfl fun F=>?_
 show ar _ _ _ _ _ _ [aW b bs br l,F]
 refine J 12 ?_
 refine .eK rfl ?_
 refine J 4 ?_
 refine .o2 (C:=aW b bs br l) .auto rfl ?_
 rintro vv vw -
 exact JR 8 ()
theorem l5{W:World}{b:Nat}{bl:List Nat}{k:Krn}:Fn Tryz.prog W 71 [ptr b] [bu b bl k] Unit (fun _=>.int .i64 (k.owner.length:Int)) (fun _=>True) (fun _=>[bu b bl k]):=by
 refine Fn.intro (N:=10) func71 rfl ntmps71 rfl fun F=>?_
 show ar _ _ _ _ _ _ [bu b bl k,F]
 refine J 12 ?_
 refine .eK rfl ?_
 refine J 4 ?_
 refine .o3 (C:=bu b bl k) .auto rfl ?_
 rintro vo vl xs ⟨hxb,hxs⟩
 have hxl:=ay hxs
 have hbl:=ay hxb
 have hxx:=And.intro hxb hxs
 exact JR 9 ()
theorem kl{W:World}{b:Nat}{bl:List Nat}{k:Krn}:Fn Tryz.prog W 105 [ptr b] [bu b bl k] Unit (fun _=>.int .i64 (k.libs.length:Int)) (fun _=>True) (fun _=>[bu b bl k]):=by
 refine Fn.intro (N:=10) func105 rfl ntmps105 rfl fun F=>?_
 show ar _ _ _ _ _ _ [bu b bl k,F]
 refine J 12 ?_
 refine .eK rfl ?_
 refine J 4 ?_
 refine .o3 (C:=bu b bl k) .auto rfl ?_
 rintro vo vl xs ⟨hxb,hxs⟩
 have hxl:=ay hxs
 have hbl:=ay hxb
 have hxx:=And.intro hxb hxs
 refine J 9 ?_
 refine .aJ rfl rfl fun w s=>⟨(),?_,trivial,aj .auto s⟩
 rw[← hxl]
theorem oU{W:World}{b:Nat}{bl:List Nat}{k:Krn}{p:Int}:Fn Tryz.prog W 68 [ptr b,.int .i64 p] [bu b bl k] Unit (fun _=>.bool (ft k p)) (fun _=>True) (fun _=>[bu b bl k]):=by
 refine Fn.intro (N:=13) func68 rfl ntmps68 rfl fun F=>?_
 show ar _ _ _ _ _ _ [bu b bl k,F]
 refine J 10 ?_
 apply aM.eb 5 12 7 [7,8,9,10,11,12] rfl
 ·intro h7
  refine J 2 ?_
  refine .cg call71 rfl l5 fun _ _=>?_
  exact JS 3
 ·intro h7
  exact JS 6
 exact JR 4 ()
theorem l6{W:World}{b:Nat}{bl:List Nat}{k:Krn}{p:Int}:Fn Tryz.prog W 21 [ptr b,.int .i64 p] [bu b bl k] Unit (fun _=>.tuple #[.int .i64 (k.ownerOf p).1,.bool (k.ownerOf p).2]) (fun _=>True) (fun _=>[bu b bl k]):=by
 refine Fn.intro (N:=27) func21 rfl ntmps21 rfl fun F=>?_
 show ar _ _ _ _ _ _ [bu b bl k,F]
 refine J 11 ?_
 refine .c call68 rfl oU fun _ _=>?_
 refine J 2 ?_
 apply aM.fA 9 19 10 [10,11,12,13,14,15,16,17,18,19] rfl
 ·intro h10
  have h9:ft k p=true:=by simpa using h10
  obtain⟨i,o,hi,ho⟩:=jq h9
  have hil:=(List.getElem?_eq_some_iff.1 ho).1
  refine .o3 (C:=bu b bl k) .auto rfl ?_
  rintro vo vl xs ⟨hxb,hxs⟩
  have hxl:=ay hxs
  have hbl:=ay hxb
  have hxx:=And.intro hxb hxs
  refine J 5 ?_
  refine .g (.mC i underlying50 sizeOf3 rfl rfl Rd.s hi (by omega)) ?_
  refine .g (.fm (Y.load isAgg3 rfl (Cell.CN Rd.s ho rfl)) ((xM ho).trans (congrArg _ hi.symm))) ?_
  exact JS 3
 ·intro h10
  exact JS 10
 refine JD 2 (fun h19=>?_) fun h19=>?_
 ·simp only[Bool.or_eq_true,decide_eq_true_eq,Bool.not_eq_true'] at h19
  refine J 8 ?_
  refine .fk rfl rfl rfl fun w s=>⟨(),?_,trivial,aj .auto s⟩
  rw[tA h19]
 ·simp only[Bool.or_eq_false_iff,decide_eq_false_iff_not,Bool.not_eq_false'] at h19
  refine J 4 ?_
  obtain⟨i,o,rfl,ho⟩:=jq (by simpa using h19.1)
  have hil:=(List.getElem?_eq_some_iff.1 ho).1
  have hoo:=xM ho
  refine .o3 (C:=bu b bl k) .auto rfl ?_
  rintro vo vl xs ⟨hxb,hxs⟩
  have hxl:=ay hxs
  have hbl:=ay hxb
  have hxx:=And.intro hxb hxs
  refine J 5 ?_
  refine .p (.ix i rfl rfl rfl (by omega)) ?_
  refine J 6 ?_
  refine .fk rfl rfl rfl fun w s=>⟨(),?_,trivial,aj .auto s⟩
  rw[jr ho (by rw[hoo];exact h19.2)]
theorem rh{W:World}{b:Nat}{bl:List Nat}{k:Krn}(hl:k.owner.length≤64):Fn Tryz.prog W 27 [ptr b] [bu b bl k] Value (fun u=>u) (fun _=>True) (fun u=>[sl au 1 u k.free,bu b bl k]):=by
 refine Fn.intro (N:=24) func27 rfl ntmps27 rfl fun F=>?_
 show ar _ _ _ _ _ _ [bu b bl k,F]
 refine J 14 ?_
 refine .c call71 rfl l5 fun _ _=>?_
 refine .o3 (C:=bu b bl k) .auto rfl ?_
 rintro vo vl xs ⟨hxb,hxs⟩
 have hxl:=ay hxs
 have hbl:=ay hxb
 have hxx:=And.intro hxb hxs
 refine J 4 ?_
 refine .aX (X:=Nat×Value×List Int) [3,4,7,8,9,10,11,12,13,14,15,16,17,18,19,20,21,22] (fun z=>k.owner.length-z.1) (fun z=>z.1≤k.owner.length∧z.2.2.length≤z.1∧k.free=z.2.2++freeFrom (k.owner.drop z.1) z.1) (fun z=>[(7,some (.int .i64 (z.1:Int))),(3,some z.2.1)]) (fun z=>[sl au 1 z.2.1 z.2.2,arr b 0 [vo,vl],sl au 1 vo k.owner,sl cQ 1 vl xs,aO (fun x:Nat×Lib=>cn x.1 x.2) xs,F]) (0,.slice none 0 0,[]) ?_ ?_ ?_ ?_
 ·exact⟨Nat.zero_le _,Nat.le_refl _,rfl⟩
 ·exact⟨rfl,rfl,trivial⟩
 ·exact fun w s=>aq.kept .auto w s
 rintro⟨n,u,ys⟩ ⟨hk,hyl,hn⟩
 simp only at hk hyl hn
 refine JD 6 (fun h8=>?_) fun h8=>?_
 ·refine J 12 ?_
  obtain⟨o,ho⟩:=ak (show n<k.owner.length by omega)
  refine JD 10 (fun h17=>?_) fun h17=>?_
  ·refine J 3 ?_
   refine .ai rfl (ae.gC 3 rfl rfl (by kernel_rfl)) ?_
   rintro _ _ ⟨b20,rfl,rfl⟩
   refine .ai rfl (ae.gh (enc:=au) (k:=1) (n:Int) rfl underlying50 underlying50 typeInfo3 rfl rfl rfl (by decide) rfl rfl rfl .auto rfl .auto (by first | omega | (dsimp only;omega)) rfl) ?_
   rintro _ _ ⟨v21,rfl,rfl⟩
   refine J 8 ?_
   refine .aw (n+1,v21,ys++[(n:Int)]) .auto rfl ?_ ?_ ?_ ?_
   ·show k.owner.length-(n+1)<k.owner.length-n;omega
   ·exact⟨by show n+1≤_;omega,by simp;omega,by rw[hn,Gw ho h17];simp⟩
   ·exact⟨rfl,rfl,trivial⟩
   ·exact fun w s=>aq.kept .auto w s
  ·refine J 7 ?_
   refine .aw (n+1,u,ys) .auto rfl ?_ ?_ ?_ ?_
   ·show k.owner.length-(n+1)<k.owner.length-n;omega
   ·exact⟨by show n+1≤_;omega,by show ys.length≤n+1;omega,by rw[hn,Jf ho h17]⟩
   ·exact⟨rfl,rfl,trivial⟩
   ·exact fun w s=>aq.kept .auto w s
 ·refine J 12 ?_
  obtain rfl:n=k.owner.length:=by omega
  rw[Gx (Nat.le_refl _),List.append_nil] at hn
  subst hn
  refine .aJ rfl rfl fun w s=>⟨_,?_,trivial,aj .auto s⟩
  rfl
theorem AP{W:World}{b:Nat}{bl:List Nat}{k:Krn}{m:Nat}(hk:nZ m k):Fn Tryz.prog W 166 [ptr b] [bu b bl k] Value (fun u=>u) (fun _=>True) (fun u=>[sl au 1 u k.demand,bu b bl k]):=by
 refine Fn.intro (N:=25) func166 rfl ntmps166 rfl fun F=>?_
 show ar _ _ _ _ _ _ [bu b bl k,F]
 have hll:=hk.ll
 refine J 14 ?_
 refine .c call105 rfl kl fun _ _=>?_
 refine .o3 (C:=bu b bl k) .auto rfl ?_
 rintro vo vl xs ⟨hxb,hxs⟩
 have hxl:=ay hxs
 have hbl:=ay hxb
 have hxx:=And.intro hxb hxs
 refine J 4 ?_
 refine .aX (X:=Nat×Value) [3,4,7,8,9,10,11,12,13,14,15,16,17,18,19,20,21,22,23] (fun z=>k.libs.length-z.1) (fun z=>z.1≤k.libs.length) (fun z=>[(7,some (.int .i64 (z.1:Int))),(3,some z.2)]) (fun z=>[sl au 1 z.2 (k.demand.take z.1),arr b 0 [vo,vl],sl au 1 vo k.owner,sl cQ 1 vl xs,aO (fun x:Nat×Lib=>cn x.1 x.2) xs,F]) (0,.slice none 0 0) ?_ ?_ ?_ ?_
 ·exact Nat.zero_le _
 ·exact⟨rfl,rfl,trivial⟩
 ·exact fun w s=>aq.kept .auto w s
 rintro⟨n,u⟩ hn
 simp only at hn
 refine JD 6 (fun h8=>?_) fun h8=>?_
 ·refine J 11 ?_
  obtain⟨x,hx⟩:=ak (show n<xs.length by omega)
  have hx2:=eH hxs hx
  have hlo:=hk.gE x.2 (List.mem_of_getElem? hx2)
  refine J 8 ?_
  refine .fr .auto (cc (f:=fun x:Nat×Lib=>cn x.1 x.2) hx) ?_
  refine .o2 (C:=cn x.1 x.2) .auto rfl ?_
  rintro bs br -
  refine .c call49 rfl ir fun _ _=>?_
  refine .o2 (C:=aW x.1 bs br x.2) .auto rfl ?_
  rintro vv vw -
  refine .o1 (C:=eT bs x.2.aK) .auto rfl ?_
  rintro ps -
  refine .c call44 rfl (iq hlo.th) fun u19 _=>?_
  refine J 1 ?_
  refine .ai rfl (ae.gC 3 rfl rfl (by kernel_rfl)) ?_
  rintro _ _ ⟨b21,rfl,rfl⟩
  refine .to (A:=aO (fun x:Nat×Lib=>cn x.1 x.2) xs) .auto (cK (f:=fun x:Nat×Lib=>cn x.1 x.2) hx) ?_
  refine .ai rfl (ae.gh (enc:=au) (k:=1) (x.2.aK.ready.length:Int) rfl underlying50 underlying50 typeInfo3 rfl rfl rfl (by decide) rfl rfl rfl .auto rfl .auto (by rw[List.length_take];omega) rfl) ?_
  rintro _ _ ⟨v22,rfl,rfl⟩
  refine J 8 ?_
  refine .aw (n+1,v22) .auto rfl ?_ ?_ ?_ ?_
  ·show k.libs.length-(n+1)<k.libs.length-n;omega
  ·show n+1≤_;omega
  ·exact⟨rfl,rfl,trivial⟩
  ·show ∀ w,Sat _ w _→Sat _ w (seps [sl au 1 v22 (k.demand.take (n+1)),arr b 0 [vo,vl],sl au 1 vo k.owner,sl cQ 1 vl xs,aO (fun x:Nat×Lib=>cn x.1 x.2) xs,F])
   rw[Gy hx2]
   exact fun w s=>aq.kept .auto w s
 ·refine J 12 ?_
  obtain rfl:n=k.libs.length:=by omega
  rw[List.take_of_length_le (show k.demand.length≤k.libs.length from by unfold Krn.demand;rw[List.length_map];exact Nat.le_refl _)]
  refine .aJ rfl rfl fun w s=>⟨_,?_,trivial,aj .auto s⟩
  rfl
theorem ff{W:World}{b:Nat}{bl:List Nat}{k:Krn}{n:Int}:Fn Tryz.prog W 48 [ptr b,.int .i64 n] [bu b bl k] Unit (fun _=>ef (aU bl n)) (fun _=>True) (fun _=>[bu b bl k]):=by
 refine Fn.intro (N:=27) func48 rfl ntmps48 rfl fun F=>?_
 show ar _ _ _ _ _ _ [bu b bl k,F]
 refine .o3 (C:=bu b bl k) .auto rfl ?_
 rintro vo vl xs ⟨hxb,hxs⟩
 have hxl:=ay hxs
 have hbl:=ay hxb
 have hxx:=And.intro hxb hxs
 refine J 11 ?_
 apply aM.fA 3 10 7 [7,8,9,10] rfl
 ·intro h7
  exact JS 4
 ·intro h7
  exact JS 4
 refine J 1 ?_
 apply aM.eO 8 19 11 [11,12,13,14,15,16,17,18,19] rfl
 ·intro h11
  exact JS 9
 ·intro h11
  exact JS 9
 refine JD 2 (fun h19=>?_) fun h19=>?_
 ·simp only[Bool.or_eq_true,decide_eq_true_eq] at h19
  refine J 7 ?_
  refine .aJ rfl rfl fun w s=>⟨(),?_,trivial,aj .auto s⟩
  rw[(K6 (kG hxb hxs) (by rw[← hxl];simpa using h19)).1];rfl
 ·simp only[Bool.or_eq_false_iff,decide_eq_false_iff_not] at h19
  refine J 4 ?_
  obtain⟨i,rfl⟩:∃ i:Nat,n=(i:Int):=⟨n.toNat,by omega⟩
  obtain⟨x,hx⟩:=ak (show i<xs.length by omega)
  have hil:=(List.getElem?_eq_some_iff.1 hx).1
  refine J 5 ?_
  refine .p (.ix i rfl rfl rfl (by omega)) ?_
  refine J 5 ?_
  refine .aJ rfl rfl fun w s=>⟨(),?_,trivial,aj .auto s⟩
  rw[bf,eH hxb hx];rfl
theorem ri{W:World}{b:Nat}{bl:List Nat}{k:Krn}{p:Int}{m:Nat}(hk:nZ m k):Fn Tryz.prog W 127 [ptr b,.int .i64 p] [bu b bl k] Unit (fun _=>.tuple #[ef (tB bl k p),.int .i64 (dp k p)]) (fun _=>True) (fun _=>[bu b bl k]):=by
 refine Fn.intro (N:=27) func127 rfl ntmps127 rfl fun F=>?_
 show ar _ _ _ _ _ _ [bu b bl k,F]
 refine J 11 ?_
 refine .c call68 rfl oU fun _ _=>?_
 refine JD 3 (fun h11=>?_) fun h11=>?_
 ·refine J 8 ?_
  refine .fk rfl rfl rfl fun w s=>⟨(),?_,trivial,aj .auto s⟩
  rw[(vT (bl:=bl) (by simpa using h11)).1,(vT (bl:=bl) (by simpa using h11)).2];rfl
 ·refine J 6 ?_
  refine .c call21 rfl l6 fun _ _=>?_
  refine JD 14 (fun h19=>?_) fun h19=>?_
  ·refine J 8 ?_
   refine .fk rfl rfl rfl fun w s=>⟨(),?_,trivial,aj .auto s⟩
   rw[(vU (bl:=bl) (by simpa using h11) (by simpa using h19)).1,(vU (bl:=bl) (by simpa using h11) (by simpa using h19)).2];rfl
  ·refine J 4 ?_
   refine .o3 (C:=bu b bl k) .auto rfl ?_
   rintro vo vl xs ⟨hxb,hxs⟩
   have hxl:=ay hxs
   have hbl:=ay hxb
   have hxx:=And.intro hxb hxs
   obtain⟨i,o,rfl,ho,hon,hoe⟩:=Gz (by simpa using h11) (by simpa using h19)
   obtain⟨n,l,rfl,hl⟩:=hk.nat ho hon
   obtain⟨x,hx,rfl,hbx⟩:=dU hxb hxs hl
   have hil:=(List.getElem?_eq_some_iff.1 hx).1
   rw[(jE (bl:=bl) ho).1,(jE (bl:=bl) ho).2,hbx]
   refine J 5 ?_
   refine .p (.mC n underlying119 sizeOf61 rfl rfl Rd.s (congrArg (·.1) hoe) (by omega)) ?_
   exact JR 6 ()
theorem Fm{W:World}{b:Nat}{bl:List Nat}{k:Krn}{p:Int}{m:Nat}(hk:nZ m k)(hm:m≤300000000):Fn Tryz.prog W 122 [ptr b,.int .i64 p] [bu b bl k] Unit (fun _=>.int .i64 (k.take p).1) (fun _=>True) (fun _=>[bu b bl (k.take p).2]):=by
 refine Fn.intro (N:=25) func122 rfl ntmps122 rfl fun F=>?_
 show ar _ _ _ _ _ _ [bu b bl k,F]
 refine J 9 ?_
 refine .c call127 rfl (ri hk) fun _ _=>?_
 refine JD 14 (fun h14=>?_) fun h14=>?_
 ·refine J 8 ?_
  rw[jF h14]
  exact JR 0 ()
 ·refine J 4 ?_
  refine .o3 (C:=bu b bl k) .auto rfl ?_
  rintro vo vl xs ⟨hxb,hxs⟩
  have hxl:=ay hxs
  have hbl:=ay hxb
  have hxx:=And.intro hxb hxs
  obtain⟨i,n,l,rfl,ho,hl,he⟩:=dE hk (Decidable.of_not_not h14)
  obtain⟨x,hx,rfl,hbx⟩:=dU hxb hxs hl
  have hil:=(List.getElem?_eq_some_iff.1 hx).1
  have hio:=(List.getElem?_eq_some_iff.1 ho).1
  have hlo:=hk.gE x.2 (List.mem_of_getElem? hl)
  rw[he]
  refine J 5 ?_
  refine .p (.ix i rfl rfl rfl (by omega)) ?_
  refine .ai rfl (ae.dA (x':=(-1:Int)) rfl rfl sizeOf3 rfl ho (by decide) rfl .auto) ?_
  rintro _ _ ⟨rfl,rfl⟩
  refine J 4 ?_
  rw[(jE (bl:=bl) ho).2,hbx]
  refine .fr .auto (cc (f:=fun x:Nat×Lib=>cn x.1 x.2) hx) ?_
  refine .o2 (C:=cn x.1 x.2) .auto rfl ?_
  rintro bs br -
  refine J 2 ?_
  refine .c call34 rfl (uG (l:=x.2) (b:=x.1) (bs:=bs) (br:=br) (p:=(i:Int)) ⟨by have:=hlo.w;omega,Nat.le_trans hlo.vl (by decide),fun v hv=>Nat.le_trans (hlo.e v hv) (by omega)⟩) fun _ _=>?_
  refine .to (A:=aO (fun x:Nat×Lib=>cn x.1 x.2) (xs.set n (x.1,(x.2.ck (i:Int)).2))) .auto (kn (f:=fun x:Nat×Lib=>cn x.1 x.2) (x.1,(x.2.ck (i:Int)).2) hx) ?_
  have hss:=nA hxb hxs hx (x.2.ck (i:Int)).2
  refine .to (A:=sl cQ 1 vl (xs.set n (x.1,(x.2.ck (i:Int)).2))) (Bs:=[sl cQ 1 vl xs]) .auto (qM (hxb.trans hss.1.symm)) ?_
  exact JR 8 ()
theorem Fo{W:World}{b:Nat}{bl:List Nat}{k:Krn}{p n:Int}{m:Nat}(hk:nZ m k)(hm:m≤300000000):Fn Tryz.prog W 123 [ptr b,.int .i64 p,.int .i64 n] [bu b bl k] Unit (fun _=>.int .i64 (k.eX p n).1) (fun _=>True) (fun _=>[bu b bl (k.eX p n).2]):=by
 refine Fn.intro (N:=39) func123 rfl ntmps123 rfl fun F=>?_
 show ar _ _ _ _ _ _ [bu b bl k,F]
 refine J 9 ?_
 refine .c call48 rfl ff fun _ _=>?_
 refine J 9 ?_
 refine .c call68 rfl oU fun _ _=>?_
 refine J 2 ?_
 apply aM.fA 3 19 16 [16,17,18,19] rfl
 ·intro h16
  exact JS 4
 ·intro h16
  exact JS 4
 refine JD 3 (fun h11=>?_) fun h11=>?_
 ·simp only[Bool.or_eq_true,Bool.not_eq_true'] at h11
  refine .o3 (C:=bu b bl k) .auto rfl ?_
  rintro vo vl xs ⟨hxb,hxs⟩
  have hxl:=ay hxs
  have hbl:=ay hxb
  have hxx:=And.intro hxb hxs
  rw[By (kG hxb hxs) h11]
  exact JR 8 ()
 ·simp only[Bool.or_eq_false_iff,Bool.not_eq_false'] at h11
  refine .o3 (C:=bu b bl k) .auto rfl ?_
  rintro vo vl xs ⟨hxb,hxs⟩
  have hxl:=ay hxs
  have hbl:=ay hxb
  have hxx:=And.intro hxb hxs
  obtain⟨i,j,o,x,rfl,rfl,ho,hx,hl,hbx⟩:=Ec hxb hxs h11
  have hio:=(List.getElem?_eq_some_iff.1 ho).1
  have hlo:=hk.gE x.2 (List.mem_of_getElem? hl)
  refine J 7 ?_
  refine .p (.ix i rfl rfl rfl (by omega)) ?_
  refine JD 5 (fun h20=>?_) fun h20=>?_
  ·rw[Bx ho ((bf _ _).trans hl) h20]
   exact JR 8 ()
  ·obtain rfl:=Decidable.of_not_not h20
   rw[mM ho hl]
   refine J 11 ?_
   refine .p (.ix i rfl rfl rfl (by omega)) ?_
   refine .ai rfl (ae.dA (x':=(j:Int)) rfl rfl sizeOf3 rfl ho (by decide) rfl .auto) ?_
   rintro _ _ ⟨rfl,rfl⟩
   refine J 4 ?_
   rw[hbx]
   refine .fr .auto (cc (f:=fun x:Nat×Lib=>cn x.1 x.2) hx) ?_
   refine .o2 (C:=cn x.1 x.2) .auto rfl ?_
   rintro bs br -
   refine J 2 ?_
   refine .c call33 rfl (nR (l:=x.2) (b:=x.1) (bs:=bs) (br:=br) (p:=(i:Int)) (by have:=hlo.w;omega)) fun _ _=>?_
   refine .to (A:=aO (fun x:Nat×Lib=>cn x.1 x.2) (xs.set j (x.1,(x.2.cy (i:Int)).2))) .auto (kn (f:=fun x:Nat×Lib=>cn x.1 x.2) (x.1,(x.2.cy (i:Int)).2) hx) ?_
   have hss:=nA hxb hxs hx (x.2.cy (i:Int)).2
   refine .to (A:=sl cQ 1 vl (xs.set j (x.1,(x.2.cy (i:Int)).2))) (Bs:=[sl cQ 1 vl xs]) .auto (qM (hxb.trans hss.1.symm)) ?_
   exact JR 8 ()
end Go.SLYthlllpngkljgfaaGreat
namespace Go.SLYthlllpngkljgfaaGreat
open Go Go.RowKit Go.Proofs Go.Proofs.Tryz
attribute [local irreducible] ar aM bm bA bE Y
theorem IB{W:World}{A:aa}{v:Value}{ps:List aS}{procs:Int}(hr:Rd W [A] ez 8 v ps)(hp:∀ p∈ps,eE W [A] p)(hb:ps.length≤1000000000∧ ∀ p∈ps,p.fs.length≤1000000000∧p.bF.length≤1000000000∧p.bb.length≤1000000000):Fn Tryz.prog W 60 [.int .i64 procs,v] [A] (Option Nat) (fun o=>.tuple #[ef o,.int .i64 (ee procs (ps.map aS.p))]) (fun o=>o.isSome=decide (ee procs (ps.map aS.p)=0)) (fun o=>[optH (fun b=>Gv b (Krn.new procs (ps.map aS.p))) o,A]):=by
 refine Fn.intro (N:=60) func60 rfl ntmps60 rfl fun F=>?_
 haveI hRI:∀ (H:List aa) [bj H A],ax W H v ez 8 ps:=fun H h=>⟨hr.at h.has⟩
 show ar _ _ _ _ _ _ [A,F]
 have hml:(ps.map aS.p).length=ps.length:=List.length_map ..
 refine J 12 ?_
 apply aM.eO 3 16 13 [13,14,15,16] rfl
 ·intro h13
  exact JS 4
 ·intro h13
  exact JS 4
 refine J 1 ?_
 apply aM.fA 4 21 17 [17,18,19,20,21] rfl
 ·intro h17
  exact JS 5
 ·intro h17
  exact JS 5
 refine J 1 ?_
 apply aM.fA 4 26 22 [22,23,24,25,26] rfl
 ·intro h22
  exact JS 5
 ·intro h22
  exact JS 5
 refine JD 2 (fun h26=>?_) fun h26=>?_
 ·simp only[Bool.or_eq_true,decide_eq_true_eq] at h26
  refine J 8 ?_
  refine .fk rfl rfl rfl fun w s=>⟨none,?_,by rw[zF (by rw[hml];exact h26)];rfl,aj .auto s⟩
  rw[zF (by rw[hml];exact h26)];rfl
 ·simp only[Bool.or_eq_false_iff,decide_eq_false_iff_not] at h26
  refine J 4 ?_
  have hbd:1≤procs∧procs≤64∧1≤(ps.map aS.p).length∧(ps.map aS.p).length≤8:=by rw[hml];omega
  obtain⟨N,rfl⟩:∃ N:Nat,procs=(N:Int):=⟨procs.toNat,by omega⟩
  have hke:=Jg hbd
  refine .ai rfl (ae.gC 3 rfl rfl (by kernel_rfl)) ?_
  rintro _ _ ⟨b27,rfl,rfl⟩
  refine J 1 ?_
  refine .c call120 rfl (JW (A:=arr b27 0 [.int .i64 (-1)]) (a := -1) (Rd.lit .here rfl (fun _ _=>rfl) rfl) (by omega)) fun u29 _=>?_
  refine .cr (fun w s=>Rd.shape (Rd.sl .auto) w s) fun e=>?_
  obtain⟨a29,c29,rfl⟩:=e
  rw[show(List.replicate N (-1:Int)).length=N from List.length_replicate ..]
  refine .p (.hZ (fun v1=>[v1,(.slice none 0 0)]) rfl (by kernel_rfl)) ?_
  refine .ai rfl (ae.box rfl rfl rfl) ?_
  rintro _ _ ⟨b31,rfl,rfl⟩
  refine J 12 ?_
  refine .aX (X:=Nat×Value×List (Nat×Lib)) [4,5,8,9,10,34,35,36,37,38,39,40,41,42,43,44,45,46,47,48,49,50,51,52,53,54,55,56,57,58] (fun z=>ps.length-z.1) (fun z=>z.1≤ps.length∧z.2.2.length=z.1∧z.2.2.map (·.2)=((ps.map aS.p).take z.1).map (fun p=>Lib.new (Spc.new p) N)∧checkAll (ps.map aS.p)=checkAll ((ps.map aS.p).drop z.1)) (fun z=>[(34,some (.int .i64 (z.1:Int)))]) (fun z=>[arr b31 0 [.slice a29 N c29,z.2.1],sl au 1 (.slice a29 N c29) (List.replicate N (-1)),sl cQ 1 z.2.1 z.2.2,aO (fun x:Nat×Lib=>cn x.1 x.2) z.2.2,A,F]) (0,.slice none 0 0,[]) ?_ ?_ ?_ ?_
  ·exact⟨Nat.zero_le _,rfl,rfl,rfl⟩
  ·exact⟨rfl,trivial⟩
  ·exact fun w s=>aq.kept .auto w s
  rintro⟨n,vl,xs⟩ ⟨hk,hxl,hxm0,hck⟩
  simp only at hk hxl hxm0 hck
  refine JD 6 (fun h35=>?_) fun h35=>?_
  ·refine J 6 ?_
   obtain⟨x,hx⟩:=ak (show n<ps.length by omega)
   have hxm:(ps.map aS.p)[n]?=some x.p:=by rw[List.getElem?_map,hx];rfl
   have hpx:=hp x (List.mem_of_getElem? hx)
   have hbx:=hb.2 x (List.mem_of_getElem? hx)
   refine .cr (fun w s=>CV hpx .auto w s) fun hone=>?_
   refine J 1 ?_
   refine .p (.la rfl (Cells.rd Rd.s hx)) ?_
   refine .ai rfl (ae.alloc rfl zeroValue56 rfl) ?_
   rintro _ _ ⟨b8,rfl,rfl⟩
   refine .ai rfl (ae.IX (by exact sizeOf56) rfl rfl hone rfl) ?_
   rintro _ _ ⟨rfl,rfl⟩
   refine J 5 ?_
   refine .c call29 rfl (uF hpx hbx) fun o ho=>?_
   refine JD 14 (fun h44=>?_) fun h44=>?_
   ·refine J 14 ?_
    refine .fk rfl rfl rfl fun w s=>⟨none,?_,by rw[hke,hck,tD hxm h44];exact(decide_eq_false h44).symm,aj .auto s⟩
    rw[hke,hck,tD hxm h44];rfl
   ·have h44:=Decidable.of_not_not h44
    obtain⟨bs,rfl⟩:=Option.isSome_iff_exists.1 (ho.trans (decide_eq_true h44))
    refine .fr (A:=optH (fun b=>eT b (Spc.new x.p)) (some bs)) (Bs:=[eT bs (Spc.new x.p)]) .auto fc ?_
    refine .o1 (C:=eT bs (Spc.new x.p)) .auto rfl ?_
    rintro pt -
    refine J 2 ?_
    refine .draw [arr b31 0 [.slice a29 N c29,vl]] [0,0,0,0,0,1,1,2,2,2,1,1,3] rfl (by kernel_rfl) ?_
    refine J 7 ?_
    refine .c2 call31 rfl (DA (bs:=bs) (ps:=pt) (s:=Spc.new x.p) (p:=(N:Int)) (pB _)) fun x53 _=>?_
    refine .d2 rfl Kept.auto (ae.gC 61 rfl rfl (by kernel_rfl)) (by rintro _ _ ⟨b54,rfl,rfl⟩;exact Kept.auto) ?_
    rintro _ _ ⟨b54,rfl,rfl⟩
    refine .d2 rfl Kept.auto (ae.gh (enc:=cQ) (k:=1) ((x53,Lib.new (Spc.new x.p) N):Nat×Lib) rfl underlying119 underlying119 typeInfo61 rfl rfl rfl (by decide) rfl rfl rfl .auto rfl .auto (by first | omega | (dsimp only;omega)) rfl) (by rintro _ _ ⟨v55,rfl,rfl⟩;exact Kept.auto) ?_
    rintro _ _ ⟨v55,rfl,rfl⟩
    refine J 2 ?_
    refine .d3 rfl (ae.mr sizeOf119 rfl rfl rfl) ?_
    rintro _ _ ⟨rfl,rfl⟩
    refine J 7 ?_
    refine .aw (n+1,v55,xs++[(x53,Lib.new (Spc.new x.p) N)]) .auto rfl ?_ ?_ ?_ ?_
    ·show ps.length-(n+1)<ps.length-n;omega
    ·exact⟨by show n+1≤_;omega,by simp[hxl],by rw[aQ hxm];simp[hxm0],by rw[hck,Bz hxm h44]⟩
    ·exact⟨rfl,trivial⟩
    ·show ∀ w,Sat _ w _→Sat _ w (seps [_,_,sl cQ 1 v55 (xs++[(x53,Lib.new (Spc.new x.p) N)]),aO (fun x:Nat×Lib=>cn x.1 x.2) (xs++[(x53,Lib.new (Spc.new x.p) N)]),A,F])
     rw[nt]
     exact fun w s=>aq.kept .auto w s
  ·refine J 13 ?_
   obtain rfl:n=ps.length:=by omega
   have hk0:ee N (ps.map aS.p)=0:=by rw[hke,hck,List.drop_of_length_le (by rw[hml];omega)];rfl
   have hxx:xs.map (·.1)=xs.map (·.1)∧xs.map (·.2)=(Krn.new N (ps.map aS.p)).libs:=⟨rfl,by rw[hxm0,List.take_of_length_le (by rw[hml];omega)];rfl⟩
   refine .fk rfl rfl rfl fun w s=>⟨some b31,?_,by rw[hk0];rfl,aj .auto s⟩
   rw[hk0];rfl
theorem AQ{W:World}{b:Nat}{dv pv ov:Value}{d:Deal}{A:aa}(hd:Rd W [A] au 1 dv d.demand)(hpr:Rd W [A] au 1 pv d.prio)(hok:xN d){n:Nat}{p:Int}(hn:n<d.demand.length):Fn Tryz.prog W 219 [ptr b,.int .i64 (n:Int),.int .i64 p] [arr b 0 [.int .i64 d.left,dv,pv,ov],sl au 1 ov d.out,A] Unit (fun _=>.bool (d.l8 n p)) (fun _=>True) (fun _=>[arr b 0 [.int .i64 d.left,dv,pv,ov],sl au 1 ov d.out,A]):=by
 refine Fn.intro (N:=33) func219 rfl ntmps219 rfl fun F=>?_
 haveI hRD:∀ (H:List aa) [bj H A],ax W H dv au 1 d.demand:=fun H h=>⟨hd.at h.has⟩
 haveI hRP:∀ (H:List aa) [bj H A],ax W H pv au 1 d.prio:=fun H h=>⟨hpr.at h.has⟩
 show ar _ _ _ _ _ _ [arr b 0 [.int .i64 d.left,dv,pv,ov],sl au 1 ov d.out,A,F]
 obtain⟨z,hz⟩:=ak hn
 obtain⟨x,hx⟩:=ak (show n<d.prio.length by rw[hok.pl];exact hn)
 obtain⟨y,hy⟩:=ak (show n<d.out.length by rw[hok.ol];exact hn)
 have hpl:=hok.pl
 have hol:=hok.ol
 have hdl:=hok.dl
 refine J 6 ?_
 refine .draw [] [1,1,1,1,1,1,1,1,1,1,1,1,1,1,1,1,1,1,1,1,1,1,1,1,1,1,1] rfl (by kernel_rfl) ?_
 refine J 5 ?_
 refine .p (.ix n rfl rfl rfl (by omega)) ?_
 refine .p (.lr rfl hx) ?_
 refine J 3 ?_
 apply bm.eb 16 32 16 [16,17,18,19,20,21,22,23,24,25,26,27,28,29,30,31,32] rfl
 ·intro h16
  refine J 5 ?_
  refine .g (.ix n rfl rfl rfl (by omega)) ?_
  refine .g (.lr rfl hy) ?_
  refine J 5 ?_
  refine .g (.ix n rfl rfl rfl (by omega)) ?_
  refine .g (.lr rfl hz) ?_
  exact JS 3
 ·intro h16
  exact JS 17
 refine J 4 ?_
 refine .aJ rfl rfl fun w s=>⟨(),?_,trivial,aj .auto s⟩
 unfold Deal.l8;rw[aY hx,aY hy,aY hz]
theorem AR{W:World}{b:Nat}{dv pv ov:Value}{d:Deal}{p:Int}{f:Nat}{A:aa}(hd:Rd W [A] au 1 dv d.demand)(hpr:Rd W [A] au 1 pv d.prio)(hok:xN d)(hf:f<d.demand.length):Fn Tryz.prog W 192 [ptr b,.int .i64 p,.int .i64 (f:Int)] [arr b 0 [.int .i64 d.left,dv,pv,ov],sl au 1 ov d.out,A] Unit (fun _=>.bool (d.round p f).2) (fun _=>True) (fun _=>[arr b 0 [.int .i64 (d.round p f).1.left,dv,pv,ov],sl au 1 ov (d.round p f).1.out,A]):=by
 refine Fn.intro (N:=56) func192 rfl ntmps192 rfl fun F=>?_
 haveI hRD:∀ (H:List aa) [bj H A],ax W H dv au 1 d.demand:=fun H h=>⟨hd.at h.has⟩
 haveI hRP:∀ (H:List aa) [bj H A],ax W H pv au 1 d.prio:=fun H h=>⟨hpr.at h.has⟩
 show ar _ _ _ _ _ _ [arr b 0 [.int .i64 d.left,dv,pv,ov],sl au 1 ov d.out,A,F]
 have hln:d.demand.length≤8:=hok.dl
 refine J 22 ?_
 refine .aX (X:=Nat×Deal×Bool) [7,8,9,15,16,17,18,19,20,21,22,23,24,25,26,27,28,29,30,31,32,33,34,35,36,37,38,39,40,41,42,43,44,45,46,47,48,49,50,51,52,53,54] (fun z=>d.demand.length-z.1) (fun z=>z.1≤d.demand.length∧xN z.2.1∧z.2.1.demand=d.demand∧z.2.1.prio=d.prio∧d.round p f=Deal.go p f (d.demand.length-z.1) z.1 z.2.1 z.2.2) (fun z=>[(15,some (.int .i64 (z.1:Int))),(7,some (.bool z.2.2))]) (fun z=>[arr b 0 [.int .i64 z.2.1.left,dv,pv,ov],sl au 1 ov z.2.1.out,A,F]) (0,d,false) ?_ ?_ ?_ ?_
 ·exact⟨Nat.zero_le _,hok,rfl,rfl,rfl⟩
 ·exact⟨rfl,rfl,trivial⟩
 ·exact fun w s=>aq.kept .auto w s
 rintro⟨k,d1,any⟩ ⟨hk,hok1,hdd,hdp,hgo⟩
 simp only at hk hok1 hdd hdp hgo
 refine JD 6 (fun h16=>?_) fun h16=>?_
 ·refine J 14 ?_
  refine .p (.add rfl rfl (by omega)) ?_
  refine J 5 ?_
  have hd1:d1.demand.length=d.demand.length:=by rw[hdd]
  obtain⟨n,hn⟩:∃ n,n=(f+k) % d.demand.length:=⟨_,rfl⟩
  have hnn:((f:Int)+(k:Int)).tmod (d.demand.length:Int)=(n:Int):=by
   rw[← Int.natCast_add,hn, ← Int.ofNat_tmod]
  have hnl:n<d.demand.length:=by rw[hn];exact Nat.mod_lt _ (by omega)
  have hkl:k<d1.demand.length:=by omega
  have hn1:n=(f+k) % d1.demand.length:=by rw[hd1];exact hn
  have hll:=hok1.left
  refine .p (.fm (Y.rem rfl rfl (by omega)) hnn) ?_
  refine J 11 ?_
  apply aM.eb 5 37 32 [32,33,34,35,36,37] rfl
  ·intro h32
   refine J 3 ?_
   refine .cg call219 rfl (AQ (d:=d1) (hdd ▸ hd) (hdp ▸ hpr) hok1 (n:=n) (by omega)) fun _ _=>?_
   exact JS 2
  ·intro h32
   exact JS 6
  refine JD 2 (fun h37=>?_) fun h37=>?_
  ·simp only[Bool.and_eq_true,decide_eq_true_eq] at h37
   obtain⟨y,hy⟩:=ak (show n<d1.out.length by rw[hok1.ol];omega)
   have hol:=(List.getElem?_eq_some_iff.1 hy).1
   have hyb:y<1000000∧0≤y:=Ed hok1 h37.2 hy (by omega)
   have hy1:d1.out.set n (y+1)=d1.out.set n (d1.out.getD n 0+1):=by rw[aY hy]
   refine J 7 ?_
   refine .p (.ix n rfl rfl rfl (by omega)) ?_
   refine .p (.lr rfl hy) ?_
   refine .p (.add rfl rfl (by omega)) ?_
   refine .p (.ix n rfl rfl rfl (by omega)) ?_
   refine .ai rfl (ae.dA (x':=y+1) rfl rfl sizeOf3 rfl hy (by decide) rfl .auto) ?_
   rintro _ _ ⟨rfl,rfl⟩
   refine J 8 ?_
   refine .p (.sub rfl rfl (by have:=h37.1;dsimp only;omega)) ?_
   refine J 14 ?_
   refine .aw (k+1,{d1 with out:=d1.out.set n (d1.out.getD n 0+1),left:=d1.left-1 },true) .auto rfl ?_ ?_ ?_ ?_
   ·show d.demand.length-(k+1)<d.demand.length-k;omega
   ·have hs:=py h37
    have ok:=xO hok1 p n
    rw[hs] at ok
    exact⟨by show k+1≤_;omega,ok,hdd,hdp,by have:=CX (d:=d1) hgo hkl (by rw[hdd]) hn1 hs;rw[hd1,Bool.or_true] at this;exact this⟩
   ·exact⟨rfl,rfl,trivial⟩
   ·show ∀ w,Sat _ w _→Sat _ w (seps [_,sl au 1 ov (d1.out.set n (d1.out.getD n 0+1)),A,F])
    rw[← hy1]
    exact fun w s=>aq.kept .auto w s
  ·simp only[Bool.and_eq_false_iff,decide_eq_false_iff_not] at h37
   have h37:¬(0<d1.left∧d1.l8 n p=true):=fun e=>h37.elim (fun h=>h e.1) (fun h=>by rw[e.2] at h;cases h)
   refine J 7 ?_
   refine .aw (k+1,d1,any) .auto rfl ?_ ?_ ?_ ?_
   ·show d.demand.length-(k+1)<d.demand.length-k;omega
   ·exact⟨by show k+1≤_;omega,hok1,hdd,hdp,by have:=CX (d:=d1) hgo hkl (by rw[hdd]) hn1 (pz h37);rw[hd1,Bool.or_false] at this;exact this⟩
   ·exact⟨rfl,rfl,trivial⟩
   ·exact fun w s=>aq.kept .auto w s
 ·refine J 12 ?_
  obtain rfl:k=d.demand.length:=by omega
  rw[Nat.sub_self] at hgo
  rw[hgo]
  exact JR 0 ()
theorem CC{W:World}{A:aa}{dv pv:Value}{procs turn:Int}{demand prio:List Int}(hd:Rd W [A] au 1 dv demand)(hpr:Rd W [A] au 1 pv prio)(hb:prio.length≤1000000000∧ ∀ z∈demand,z≤1000000):Fn Tryz.prog W 165 [.int .i64 procs,dv,pv,.int .i64 turn] [A] Value (fun u=>u) (fun _=>True) (fun u=>[sl au 1 u ((l9 procs demand prio turn).getD []),A]):=by
 refine Fn.intro (N:=70) func165 rfl ntmps165 rfl fun F=>?_
 show ar _ _ _ _ _ _ [A,F]
 refine .cr (fun w s=>Rd.shape (hd.at .here) w s) fun e=>?_
 obtain⟨ad,cd,rfl⟩:=e
 refine .cr (fun w s=>Rd.shape (hpr.at .here) w s) fun e=>?_
 obtain⟨ap,cp,rfl⟩:=e
 haveI hRD:∀ (H:List aa) [bj H A],ax W H (.slice ad demand.length cd) au 1 demand:=fun H h=>⟨hd.at h.has⟩
 haveI hRP:∀ (H:List aa) [bj H A],ax W H (.slice ap prio.length cp) au 1 prio:=fun H h=>⟨hpr.at h.has⟩
 refine J 20 ?_
 apply aM.eO 3 23 20 [20,21,22,23] rfl
 ·intro h20
  exact JS 4
 ·intro h20
  exact JS 4
 refine J 1 ?_
 apply aM.fA 4 28 24 [24,25,26,27,28] rfl
 ·intro h24
  refine J 1 ?_
  refine .cg call191 rfl qq fun _ _=>?_
  exact JS 3
 ·intro h24
  exact JS 5
 refine JD 2 (fun h28=>?_) fun h28=>?_
 ·simp only[Bool.or_eq_true,decide_eq_true_eq,Bool.not_eq_true'] at h28
  rw[CY h28]
  exact JR 7 (Value.slice none 0 0)
 ·simp only[Bool.or_eq_false_iff,decide_eq_false_iff_not,Bool.not_eq_false'] at h28
  have h28:demand.length=prio.length∧demand.length≤8∧within procs 64=true:=⟨by omega,by omega,h28.2⟩
  have hwp:=h28.2.2
  unfold within at hwp
  simp only[Bool.and_eq_true,decide_eq_true_eq] at hwp
  refine J 11 ?_
  refine .aX (X:=Nat) [8,11,31,32,33,34,35,36,37,38] (fun k=>prio.length-k) (fun k=>k≤prio.length∧(prio.take k).all (fun p=>within p 7)=true) (fun k=>[(31,some (.int .i64 (k:Int)))]) (fun k=>[A,F]) 0 ?_ ?_ ?_ ?_
  ·exact⟨Nat.zero_le _,rfl⟩
  ·exact⟨rfl,trivial⟩
  ·exact fun w s=>aq.kept .auto w s
  rintro k ⟨hk,hal⟩
  refine JD 6 (fun h32=>?_) fun h32=>?_
  ·refine J 6 ?_
   obtain⟨x,hx⟩:=ak (show k<prio.length by omega)
   refine J 1 ?_
   refine .p (.lr rfl hx) ?_
   refine J 6 ?_
   refine .c call191 rfl qq fun _ _=>?_
   refine JD 3 (fun h37=>?_) fun h37=>?_
   ·rw[zC hx (by simpa using h37)]
    exact JR 11 (Value.slice none 0 0)
   ·refine J 7 ?_
    refine .aw (k+1) .auto rfl ?_ ?_ ?_ ?_
    ·first | omega | (dsimp only;omega)
    ·exact⟨by omega,by rw[kB hx,hal];simpa using h37⟩
    ·exact⟨rfl,trivial⟩
    ·exact fun w s=>aq.kept .auto w s
  ·obtain rfl:k=prio.length:=by omega
   rw[List.take_length] at hal
   refine J 11 ?_
   refine .ai rfl (ae.Bl (enc:=au) (k:=1) 0 demand.length rfl underlying50 typeInfo3 rfl rfl rfl rfl (by decide) (by decide) rfl rfl rfl rfl (by omega)) ?_
   rintro _ _ ⟨b43,rfl,rfl⟩
   refine .p (.FW (fun v1 v2 v3 v4=>[v1,v2,v3,v4]) rfl rfl rfl rfl (by kernel_rfl)) ?_
   refine .ai rfl (ae.box rfl rfl rfl) ?_
   rintro _ _ ⟨b45,rfl,rfl⟩
   refine JD 10 (fun h47=>?_) fun h47=>?_
   ·have h0:demand.length=0:=by omega
    rw[zD h28 hal h0]
    refine J 11 ?_
    rw[h0]
    refine .aJ rfl rfl fun w s=>⟨.slice (some ⟨b43,0,none⟩) 0 0,?_,trivial,aj .auto s⟩
    rfl
   ·have h0:¬demand.length=0:=by omega
    have hn0:0<demand.length:=by omega
    rw[zE h28 hal h0]
    have hok0:=GA h28 hb.2
    refine J 9 ?_
    refine .aX (X:=Nat×Deal) [13,52,53,54,55,56,57,58,59,60,61,62,63,64,65] (fun z=>z.1) (fun z=>z.1≤8∧xN z.2∧z.2.demand=demand∧z.2.prio=prio∧priosN (pick turn demand.length) z.1 z.2=priosN (pick turn demand.length) 8 (K8 procs demand prio)) (fun z=>[(13,some (.int .i64 ((z.1:Int)-1)))]) (fun z=>[arr b45 0 [.int .i64 z.2.left,.slice ad demand.length cd,.slice ap prio.length cp,(.slice (some ⟨b43,0,none⟩) demand.length demand.length)],sl au 1 (.slice (some ⟨b43,0,none⟩) demand.length demand.length) z.2.out,A,F]) (8,K8 procs demand prio) ?_ ?_ ?_ ?_
    ·exact⟨Nat.le_refl _,hok0,rfl,rfl,rfl⟩
    ·exact⟨rfl,trivial⟩
    ·exact fun w s=>aq.kept .auto w s
    rintro⟨r,d⟩ ⟨hr8,hok,hdd,hdp,hpi⟩
    simp only at hr8 hok hdd hdp hpi
    refine JD 7 (fun h53=>?_) fun h53=>?_
    ·obtain⟨q,rfl⟩:∃ q,r=q+1:=⟨r - 1,by omega⟩
     refine J 5 ?_
     refine .aX (X:=Deal) [13,56,57,58,59,60,61,62,63,64,65] (fun z=>z.left.toNat) (fun z=>xN z∧z.demand=demand∧z.prio=prio∧dr (q:Int) (pick turn demand.length) z=dr (q:Int) (pick turn demand.length) d) (fun z=>[(13,some (.int .i64 (q:Int)))]) (fun z=>[arr b45 0 [.int .i64 z.left,.slice ad demand.length cd,.slice ap prio.length cp,(.slice (some ⟨b43,0,none⟩) demand.length demand.length)],sl au 1 (.slice (some ⟨b43,0,none⟩) demand.length demand.length) z.out,A,F]) d ?_ ?_ ?_ ?_
     ·exact⟨hok,hdd,hdp,rfl⟩
     ·exact⟨show some (Value.int .i64 (((q+1:Nat):Int)-1))=some (.int .i64 (q:Int)) from by rw[show((q+1:Nat):Int)-1=(q:Int) by omega],trivial⟩
     ·exact fun w s=>aq.kept .auto w s
     rintro d1 ⟨hok1,hdd1,hdp1,hdr⟩
     have hrf:=round_facts d1 (q:Int) (pick turn demand.length)
     refine J 7 ?_
     have hn0:0<demand.length:=by omega
     refine .p (.rem rfl rfl (by omega)) ?_
     refine J 1 ?_
     refine .p (.add rfl rfl (by have h1:=Int.lt_tmod_of_pos turn (show(0:Int)<(demand.length:Int) by omega);have h2:=Int.tmod_lt_of_pos turn (show(0:Int)<(demand.length:Int) by omega);omega)) ?_
     refine J 1 ?_
     refine .p (.fm (Y.rem rfl rfl (by omega)) (pA hn0)) ?_
     refine .c call192 rfl (AR (d:=d1) (p:=(q:Int)) (f:=pick turn demand.length) (by rw[hdd1];exact hd) (by rw[hdp1];exact hpr) hok1 (by rw[hdd1];exact ly hn0)) fun _ _=>?_
     refine JD 2 (fun h65=>?_) fun h65=>?_
     ·refine J 5 ?_
      refine .aw ((d1.round (q:Int) (pick turn demand.length)).1) .auto rfl ?_ ?_ ?_ ?_
      ·have h1:=hrf.2.2.1 h65;have h2:=hrf.2.1 hok1.left.1;omega
      ·exact⟨hrf.2.2.2.2.2 hok1,by rw[hrf.2.2.2.1,hdd1],by rw[hrf.2.2.2.2.1,hdp1],by rw[← K7 hok1.left.1 h65,hdr]⟩
      ·exact⟨rfl,trivial⟩
      ·exact fun w s=>aq.kept .auto w s
     ·refine J 11 ?_
      refine .aw (q,(d1.round (q:Int) (pick turn demand.length)).1) .auto rfl ?_ ?_ ?_ ?_
      ·show q<q+1;omega
      ·exact⟨by show q≤8;omega,hrf.2.2.2.2.2 hok1,by rw[hrf.2.2.2.1,hdd1],by rw[hrf.2.2.2.2.1,hdp1],by rw[← hpi, ← MD h65,hdr];rfl⟩
      ·exact⟨rfl,trivial⟩
      ·exact fun w s=>aq.kept .auto w s
    ·obtain rfl:r=0:=by omega
     refine J 15 ?_
     rw[← hpi]
     refine .aJ rfl rfl fun w s=>⟨(.slice (some ⟨b43,0,none⟩) demand.length demand.length),?_,trivial,aj .auto s⟩
     rfl
end Go.SLYthlllpngkljgfaaGreat
namespace Go.SLYthlllpngkljgfaaGreat
open Go Go.RowKit Go.Proofs Go.Proofs.Tryz
attribute [local irreducible] ar aM bm bA bE Y
theorem Fp{W:World}{b:Nat}{bl:List Nat}{k:Krn}{p c:Int}{m:Nat}(hk:nU m k):Fn Tryz.prog W 125 [ptr b,.int .i64 p,.int .i64 c] [bu b bl k] Value (fun u=>.tuple #[.int .i64 (k.step p c).1.1,.agg (dt u (k.step p c).1.2.1).toArray,.int .i64 (k.step p c).1.2.2]) (fun _=>True) (fun u=>[sl au 1 u (k.step p c).1.2.1.wL.av,bu b bl (k.step p c).2]):=by
 refine Fn.intro (N:=38) func125 rfl ntmps125 rfl fun F=>?_
 show ar _ _ _ _ _ _ [bu b bl k,F]
 refine J 3 ?_
 refine .ai rfl (ae.alloc rfl zeroValue68 rfl) ?_
 rintro _ _ ⟨b7,rfl,rfl⟩
 refine J 7 ?_
 refine .c call127 rfl (ri hk.ok) fun _ _=>?_
 refine JD 14 (fun h19=>?_) fun h19=>?_
 ·refine J 2 ?_
  refine .p (.mi (dt (.slice none 0 0) gk.z) (by kernel_rfl)) ?_
  refine J 2 ?_
  refine .ai rfl (ae.hD (vs:=dt (.slice none 0 0) gk.z) (by exact sizeOf68) rfl rfl (by rfl) (by rfl)) ?_
  rintro _ _ ⟨rfl,rfl⟩
  refine J 5 ?_
  rw[gI h19]
  refine .HN rfl rfl isAgg68 (by exact sizeOf68) Cells.a rfl rfl fun w s=>⟨(.slice none 0 0),?_,trivial,aj .auto s⟩
  rfl
 ·refine J 4 ?_
  refine .o3 (C:=bu b bl k) .auto rfl ?_
  rintro vo vl xs ⟨hxb,hxs⟩
  have hxl:=ay hxs
  have hbl:=ay hxb
  have hxx:=And.intro hxb hxs
  obtain⟨i,n,l,rfl,ho,hl, -⟩:=dE hk.ok (Decidable.of_not_not h19)
  obtain⟨x,hx,rfl,hbx⟩:=dU hxb hxs hl
  have hil:=(List.getElem?_eq_some_iff.1 hx).1
  have hio:=(List.getElem?_eq_some_iff.1 ho).1
  have hlo:=hk.gE x.2 (List.mem_of_getElem? hl)
  rw[jO ho hl]
  rw[(jE (bl:=bl) ho).2,hbx]
  refine .fr .auto (cc (f:=fun x:Nat×Lib=>cn x.1 x.2) hx) ?_
  refine .o2 (C:=cn x.1 x.2) .auto rfl ?_
  rintro bs br -
  refine J 3 ?_
  refine .c call32 rfl (qA (l:=x.2) (b:=x.1) (bs:=bs) (br:=br) (p:=(i:Int)) (c:=c) hlo.1 (fun t=>hlo.2 t _)) fun u26 _=>?_
  refine .cr (fun w s=>Rd.isSl (Rd.sl .auto) w s) fun hu26=>?_
  refine .to (A:=aO (fun x:Nat×Lib=>cn x.1 x.2) (xs.set n (x.1,(x.2.step (i:Int) c).2.2))) .auto (kn (f:=fun x:Nat×Lib=>cn x.1 x.2) (x.1,(x.2.step (i:Int) c).2.2) hx) ?_
  have hss:=nA hxb hxs hx (x.2.step (i:Int) c).2.2
  refine .to (A:=sl cQ 1 vl (xs.set n (x.1,(x.2.step (i:Int) c).2.2))) (Bs:=[sl cQ 1 vl xs]) .auto (qM (hxb.trans hss.1.symm)) ?_
  refine J 1 ?_
  refine .p (.extract (v:=.agg (dt u26 (x.2.step (i:Int) c).1).toArray) rfl rfl) ?_
  refine .p (.extract (v:=.int .i64 (x.2.step (i:Int) c).2.1) rfl rfl) ?_
  refine .ai rfl (ae.alloc rfl zeroValue68 rfl) ?_
  rintro _ _ ⟨b11,rfl,rfl⟩
  refine .ai rfl (ae.hD (vs:=dt u26 (x.2.step (i:Int) c).1) (by exact sizeOf68) rfl rfl (cV hu26) (by rfl)) ?_
  rintro _ _ ⟨rfl,rfl⟩
  refine J 4 ?_
  refine .draw [arr b11 0 (dt u26 (x.2.step (i:Int) c).1)] [1,1,1,1,1,1,1,1,0,1,2,1] rfl (by kernel_rfl) ?_
  refine J 5 ?_
  refine .p (.ix i rfl rfl rfl (by omega)) ?_
  refine .p (.lr rfl ho) ?_
  refine J 3 ?_
  refine .d2 rfl Kept.auto (ae.hD (vs:=dt u26 (x.2.step (i:Int) c).1) (by exact sizeOf68) rfl rfl (cV hu26) (by rfl)) (by rintro _ _ ⟨rfl,rfl⟩;exact Kept.auto) ?_
  rintro _ _ ⟨rfl,rfl⟩
  refine J 4 ?_
  refine .HN rfl rfl isAgg68 (by exact sizeOf68) Cells.a rfl rfl fun w s=>⟨u26,?_,trivial,aj .auto s⟩
  rfl
end Go.SLYthlllpngkljgfaaGreat
namespace Go.SLYthlllpngkljgfaaGreat
open Go Go.RowKit Go.Proofs Go.Proofs.Tryz
attribute [local irreducible] ar aM bm bA bE Y
end Go.SLYthlllpngkljgfaaGreat
namespace Go.SLYthlllpngkljgfaaGreat
open Go Go.RowKit Go.Proofs Go.Proofs.Tryz
attribute [local irreducible] ar aM bm bA bE Y
end Go.SLYthlllpngkljgfaaGreat
namespace Go.SLYthlllpngkljgfaaGreat
open Go Go.RowKit Go.Proofs Go.Proofs.Tryz
attribute [local irreducible] ar aM bm bA bE Y
end Go.SLYthlllpngkljgfaaGreat
namespace Go.SLYthlllpngkljgfaaGreat
open Go Go.RowKit Go.Proofs Go.Proofs.Tryz
attribute [local irreducible] ar aM bm bA bE Y
end Go.SLYthlllpngkljgfaaGreat
namespace Go.SLYthlllpngkljgfaaGreat
open Go Go.RowKit Go.Proofs Go.Proofs.Tryz
attribute [local irreducible] ar aM bm bA bE Y
theorem IC{W:World}{bs:Nat}{ps:List (Option Nat)}{s:Spc}{p:Int}(hl:s.aF.length=16):Fn Tryz.prog W 31 [ptr bs,.int .i64 p] [cH bs ps s] (Nat×Nat) (fun x=>ptr x.1) (fun _=>True) (fun x=>[aW x.1 bs x.2 (Lib.new s p)]):=by
 refine Fn.intro (N:=24) func31 rfl ntmps31 rfl fun F=>?_
 show ar _ _ _ _ _ _ [cH bs ps s,F]
 have hc:0≤aG p 64∧aG p 64≤64:=by unfold aG;omega
 have hrl:s.ready.length≤1000000000:=by have:=fi s.aF 0;show(readyFrom s.aF 0).length≤_;omega
 refine J 8 ?_
 refine .p (.tt rfl rfl) ?_
 refine .p (.fm (Y.kC rfl rfl) (show min (max p 0) 64=aG p 64 from rfl)) ?_
 refine J 4 ?_
 refine .s9 [] [0,0,2,0,4,0,4,0] [0,1,2,3,4,5,6,7] rfl (by kernel_rfl) ?_
 refine bE.q rfl rfl rfl Kept.auto (Y.m rfl) ?_
 refine bE.q rfl rfl rfl Kept.auto (Y.m rfl) ?_
 refine bE.cY rfl (.inl rfl) rfl (fun _=>Kept.auto) call83 rfl wY .auto (fun _ _=>Kept.auto) ?_
 rintro x12 -
 rw[show aG (aG p 64) 64=aG p 64 from by unfold aG;omega]
 refine bE.q rfl rfl rfl Kept.auto (Y.m rfl) ?_
 refine bE.fresh rfl rfl rfl (by decide) Kept.auto (jA (enc:=eA) (k:=3) ((Value.slice none 0 0:Value),aH.z) (aG p 64).toNat underlying145 typeInfo80 rfl rfl rfl rfl (by decide) (by decide) rfl rfl (by omega) (by omega) (by omega)) ?_
 rintro b14
 refine bE.q rfl rfl rfl Kept.auto (Y.sk (fun v1 v2 v3=>[v1,v2,v3,(.slice none 0 0),(.bool false)]) rfl rfl rfl (by kernel_rfl)) ?_
 refine bE.fresh rfl rfl rfl (by decide) Kept.auto (nv rfl rfl) ?_
 rintro b16
 refine bE.q rfl rfl rfl Kept.auto (Y.a rfl) ?_
 refine bE.nil ?_
 refine J 3 ?_
 refine .to (A:=sl eA 3 (.slice (some ⟨b14,0,none⟩) (aG p 64).toNat (aG p 64).toNat) (List.replicate (aG p 64).toNat ((Value.slice none 0 0:Value),aH.z))) .auto (pn rfl) ?_
 refine J 2 ?_
 refine .c call44 rfl (iq hl) fun u19 _=>?_
 refine .c call84 rfl (gu (A:=sl au 1 u19 s.ready) (Rd.sl .here) hrl) fun u20 _=>?_
 refine J 2 ?_
 refine .ai rfl (ae.mr sizeOf75 rfl rfl rfl) ?_
 rintro _ _ ⟨rfl,rfl⟩
 refine J 9 ?_
 refine .aJ rfl rfl fun w s=>⟨(b16,x12),?_,trivial,aj (by repeat (first | exact aq.nil | (apply aq.cons; · repeat (first | exact Take.here | apply Take.there)) | apply aq.Gq | apply aq.Gr | apply aq.void | apply aq.Gj | apply aq.two | (apply aq.Bt; · exact fT) | (apply aq.allM; · exact fun _=>fT) | apply aq.f1 rfl | apply aq.f2 rfl | apply aq.f3 rfl | apply aq.f4 rfl | apply aq.f10 rfl | apply aq.eU | assumption | exact trivial | rfl | omega | (apply aq.Bt; · exact fT) | (focus (simp[Lib.new];done)) | (unfold Lib.new;simp only;apply aq.cons; · repeat (first | exact Take.here | apply Take.there)))) s⟩
 rfl
theorem mh{W:World}{A:aa}{v:Value}{xs:List Int}(hr:Rd W [A] au 1 v xs)(hl:xs.length≤1000000000):Fn Tryz.prog W 38 [v] [A] Value (fun u=>u) (fun _=>True) (fun u=>[sl bP 3 u (aB xs),A]):=by
 refine Fn.intro (N:=21) func38 rfl ntmps38 rfl fun F=>?_
 haveI hRI:∀ (H:List aa) [bj H A],ax W H v au 1 xs:=fun H h=>⟨hr.at h.has⟩
 show ar _ _ _ _ _ _ [A,F]
 refine J 7 ?_
 refine .ai rfl (ae.gC 87 rfl rfl (by kernel_rfl)) ?_
 rintro _ _ ⟨b5,rfl,rfl⟩
 refine J 10 ?_
 refine .aX (X:=Nat×Value) [3,4,6,7,8,9,10,11,12,13,14,15,16,17,18,19] (fun z=>xs.length-z.1) (fun z=>z.1≤xs.length) (fun z=>[(4,some (.int .i64 (z.1:Int))),(3,some z.2)]) (fun z=>[sl bP 3 z.2 (aB (xs.take z.1)),A,F]) (0,.slice (some ⟨b5,0,none⟩) 0 0) ?_ ?_ ?_ ?_
 ·exact Nat.zero_le _
 ·exact⟨rfl,rfl,trivial⟩
 ·exact fun w s=>aq.kept .auto w s
 rintro⟨k,u⟩ hk
 simp only at hk
 refine JD 9 (fun h9=>?_) fun h9=>?_
 ·refine J 8 ?_
  obtain⟨n,hx⟩:=ak (show k<xs.length by omega)
  refine J 1 ?_
  refine .p (.lr rfl hx) ?_
  refine .p (.fF (fun v1 v2=>[v1,v2,(.int .i64 0)]) rfl rfl (by kernel_rfl)) ?_
  refine .ai rfl (ae.gC 87 rfl rfl (by kernel_rfl)) ?_
  rintro _ _ ⟨b18,rfl,rfl⟩
  refine .ai rfl (ae.gh (enc:=bP) (k:=3) (⟨3,n,0⟩:Ev) rfl underlying75 underlying75 typeInfo87 rfl rfl rfl (by decide) rfl rfl rfl .auto rfl .auto (by unfold aB;rw[List.length_map,List.length_take];omega) rfl) ?_
  rintro _ _ ⟨v19,rfl,rfl⟩
  refine J 9 ?_
  refine .aw (k+1,v19) .auto rfl ?_ ?_ ?_ ?_
  ·show xs.length-(k+1)<xs.length-k;omega
  ·show k+1≤_;omega
  ·exact⟨rfl,rfl,trivial⟩
  ·show ∀ w,Sat _ w _→Sat _ w (seps [sl bP 3 v19 (aB (xs.take (k+1))),A,F])
   rw[tv hx]
   exact fun w s=>aq.kept .auto w s
 ·refine J 12 ?_
  obtain rfl:k=xs.length:=by omega
  rw[List.take_length]
  refine .aJ rfl rfl fun w s=>⟨_,?_,trivial,aj .auto s⟩
  rfl
end Go.SLYthlllpngkljgfaaGreat
