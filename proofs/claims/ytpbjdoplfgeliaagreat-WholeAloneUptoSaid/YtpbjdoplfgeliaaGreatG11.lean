/- Walks of functions, and what they compute. Conditions: none, this text proves no statement. -/
import Derived.Test.YtpbjdoplfgeliaaGreatG07
import Derived.Test.YtpbjdoplfgeliaaGreatProg
import Derived.Test.YtpbjdoplfgeliaaGreatG08
import Derived.Test.YtpbjdoplfgeliaaGreatG10
import Derived.Test.YtpbjdoplfgeliaaGreatG06
import Derived.KernelRfl
import Derived.Test.YtpbjdoplfgeliaaGreatG03
import Derived.Test.YtpbjdoplfgeliaaGreatG05
set_option maxRecDepth 20000
set_option maxHeartbeats 4000000
namespace Go.SLYtpbjdoplfgeliaaGreat
open Go Go.RowKit Go.Proofs Go.Proofs.Tryz
attribute [local irreducible] aq aR bf bq bB Y
theorem AA{W:World}{b:Nat}{l:List Int}{n:Int}(hl:l.length≤1000000000):Fn Tryz.prog W 282 [ptr b,.int .i64 n] [fp b l] Unit (fun _=>.bool (!l.contains n)) (fun _=>True) (fun _=>[fp b l]):=by
 refine Fn.intro (N:=16) func282 rfl ntmps282 rfl fun F=>?_
 show aq _ _ _ _ _ _ [fp b l,F]
 refine .o1 (C:=fp b l) .auto rfl ?_
 rintro v -
 refine J 15 ?_
 refine .cg call59 rfl (wX (A:=sl av 1 v l) (Rd.sl .here) hl) fun _ _=>?_
 exact JR 6 ()
theorem yI{W:World}{n:Int}:Fn Tryz.prog W 282 [.pointer none,.int .i64 n] [] Unit (fun _=>.bool false) (fun _=>True) (fun _=>[]):=by
 refine Fn.intro (N:=16) func282 rfl ntmps282 rfl fun F=>?_
 show aq _ _ _ _ _ _ [F]
 exact JR 22 ()
theorem Ch{W:World}{b:Nat}{l:List Int}{n:Int}(hl:l.length≤1000000000)(hn:l.contains n=false):Fn Tryz.prog W 262 [ptr b,.int .i64 n] [fp b l] Unit (fun _=>.bool true) (fun _=>True) (fun _=>[fp b (l++[n])]):=by
 refine Fn.intro (N:=19) func262 rfl ntmps262 rfl fun F=>?_
 show aq _ _ _ _ _ _ [fp b l,F]
 refine J 10 ?_
 refine .c call282 rfl (AA hl) fun _ _=>?_
 rw[hn]
 refine JD 3 (fun h8=>?_) fun h8=>?_
 ·cases h8
 ·refine J 5 ?_
  refine .o1 (C:=fp b l) .auto rfl ?_
  rintro v -
  refine J 5 ?_
  refine .ai rfl (af.gF 3 rfl rfl (by kernel_rfl)) ?_
  rintro _ _ ⟨b15,rfl,rfl⟩
  refine .ai rfl (af.fJ (enc:=av) (k:=1) n rfl underlying50 underlying50 typeInfo3 rfl rfl rfl (by decide) rfl rfl rfl .auto rfl .auto (by omega) rfl) ?_
  rintro _ _ ⟨v16,rfl,rfl⟩
  refine J 2 ?_
  refine .ai rfl (af.l9 sizeOf50 rfl rfl rfl) ?_
  rintro _ _ ⟨rfl,rfl⟩
  exact JR 8 ()
theorem AB{W:World}{n:Int}:Fn Tryz.prog W 262 [.pointer none,.int .i64 n] [] Unit (fun _=>.bool false) (fun _=>True) (fun _=>[]):=by
 refine Fn.intro (N:=19) func262 rfl ntmps262 rfl fun F=>?_
 show aq _ _ _ _ _ _ [F]
 refine J 10 ?_
 refine .c call282 rfl yI fun _ _=>?_
 refine J 3 ?_
 refine .gw rfl ?_
 exact JR 7 ()
theorem xi{W:World}{b:Nat}{l:List Int}{a x:Int}{i:Nat}(hl:l.length≤1000000000)(hx:l[i]?=some x)(ha:(0≤a∧a=(i:Int))∨(a<0∧a+(l.length:Int)=(i:Int))):Fn Tryz.prog W 263 [ptr b,.int .i64 a] [fp b l] Unit (fun _=>.tuple #[.int .i64 x,.bool true]) (fun _=>True) (fun _=>[fp b (l.eraseIdx i)]):=by
 refine Fn.intro (N:=45) func263 rfl ntmps263 rfl fun F=>?_
 show aq _ _ _ _ _ _ [fp b l,F]
 refine .o1 (C:=fp b l) .auto rfl ?_
 rintro v -
 have hi:=(List.getElem?_eq_some_iff.1 hx).1
 refine JD 21 (fun h16=>?_) fun h16=>?_
 ·exact absurd h16 (by omega)
 ·refine JD 9 (fun h18=>?_) fun h18=>?_
  ·refine J 7 ?_
   refine .p (.add rfl rfl (by omega)) ?_
   refine J 10 ?_
   refine .p (.ix i rfl rfl (by omega) hi) ?_
   refine .p (.lr rfl hx) ?_
   refine J 10 ?_
   refine .p (.fY (Y.m rfl) (show _=(i:Int) by omega)) ?_
   refine J 1 ?_
   refine .p (.fY (Y.add rfl rfl (by omega)) (show _=((i+1:Nat):Int) by omega)) ?_
   refine .c call278 rfl (yB hi hl) fun u41 _=>?_
   refine J 2 ?_
   refine .ai rfl (af.l9 sizeOf50 rfl rfl rfl) ?_
   rintro _ _ ⟨rfl,rfl⟩
   exact JR 10 ()
  ·refine J 9 ?_
   refine .p (.ix i rfl rfl (by omega) hi) ?_
   refine .p (.lr rfl hx) ?_
   refine J 10 ?_
   refine .p (.fY (Y.m rfl) (show _=(i:Int) by omega)) ?_
   refine J 1 ?_
   refine .p (.fY (Y.add rfl rfl (by omega)) (show _=((i+1:Nat):Int) by omega)) ?_
   refine .c call278 rfl (yB hi hl) fun u41 _=>?_
   refine J 2 ?_
   refine .ai rfl (af.l9 sizeOf50 rfl rfl rfl) ?_
   rintro _ _ ⟨rfl,rfl⟩
   exact JR 10 ()
theorem uH{W:World}{b:Nat}{a:Int}:Fn Tryz.prog W 263 [ptr b,.int .i64 a] [fp b []] Unit (fun _=>.tuple #[.int .i64 0,.bool false]) (fun _=>True) (fun _=>[fp b []]):=by
 refine Fn.intro (N:=45) func263 rfl ntmps263 rfl fun F=>?_
 show aq _ _ _ _ _ _ [fp b [],F]
 refine .o1 (C:=fp b []) .auto rfl ?_
 rintro v -
 refine JD 21 (fun h16=>?_) fun h16=>?_
 ·exact JR 8 ()
 ·exact absurd rfl h16
theorem Fe{W:World}{b:Nat}{t:Int}{l:List Int}(hl:(t::l).length≤1000000000):Fn Tryz.prog W 231 [ptr b] [fp b (t::l)] Unit (fun _=>.tuple #[.int .i64 t,.bool true]) (fun _=>True) (fun _=>[fp b l]):=by
 refine Fn.intro (N:=8) func231 rfl ntmps231 rfl fun F=>?_
 show aq _ _ _ _ _ _ [fp b (t::l),F]
 refine J 9 ?_
 refine .c call263 rfl (xi (l:=t::l) (i:=0) hl rfl (.inl ⟨Int.le_refl _,rfl⟩)) fun _ _=>?_
 rw[show(t::l).eraseIdx 0=l from rfl]
 exact JR 7 ()
theorem Ci{W:World}{b:Nat}:Fn Tryz.prog W 231 [ptr b] [fp b []] Unit (fun _=>.tuple #[.int .i64 0,.bool false]) (fun _=>True) (fun _=>[fp b []]):=by
 refine Fn.intro (N:=8) func231 rfl ntmps231 rfl fun F=>?_
 show aq _ _ _ _ _ _ [fp b [],F]
 refine J 9 ?_
 refine .c call263 rfl uH fun _ _=>?_
 exact JR 7 ()
theorem vG{W:World}{b i:Nat}{t:Int}{l:List Int}(hl:l.length≤1000000000)(hi:i+1=l.length)(ht:l[i]?=some t):Fn Tryz.prog W 232 [ptr b] [fp b l] Unit (fun _=>.tuple #[.int .i64 t,.bool true]) (fun _=>True) (fun _=>[fp b l.dropLast]):=by
 refine Fn.intro (N:=8) func232 rfl ntmps232 rfl fun F=>?_
 show aq _ _ _ _ _ _ [fp b l,F]
 refine J 9 ?_
 refine .c call263 rfl (xi (i:=i) hl ht (.inr ⟨by decide,by omega⟩)) fun _ _=>?_
 rw[BO hi]
 exact JR 7 ()
theorem uI{W:World}{b:Nat}:Fn Tryz.prog W 232 [ptr b] [fp b []] Unit (fun _=>.tuple #[.int .i64 0,.bool false]) (fun _=>True) (fun _=>[fp b []]):=by
 refine Fn.intro (N:=8) func232 rfl ntmps232 rfl fun F=>?_
 show aq _ _ _ _ _ _ [fp b [],F]
 refine J 9 ?_
 refine .c call263 rfl uH fun _ _=>?_
 exact JR 7 ()
theorem mP{W:World}{b:Nat}{v:Value}{xs:List (Nat×List Int)}{n:Int}(_hl:xs.length≤1000000000):Fn Tryz.prog W 230 [ptr b,.int .i64 n] [arr b 0 [v],sl bP 1 v xs] Unit (fun _=>dR ((aB xs n).map (·.1))) (fun _=>True) (fun _=>[arr b 0 [v],sl bP 1 v xs]):=by
 refine Fn.intro (N:=27) func230 rfl ntmps230 rfl fun F=>?_
 show aq _ _ _ _ _ _ [arr b 0 [v],sl bP 1 v xs,F]
 refine J 15 ?_
 refine .sB (t:=11) rfl (fun h11=>?_) (fun h11=>?_)
 ·refine J 10 ?_
  refine .gw rfl ?_
  refine J 7 ?_
  refine .aP rfl rfl fun w s=>⟨(),?_,trivial,aj .auto s⟩
  rw[eh (by omega)];rfl
 ·refine JD 10 (fun h19=>?_) fun h19=>?_
  ·refine J 7 ?_
   refine .aP rfl rfl fun w s=>⟨(),?_,trivial,aj .auto s⟩
   rw[eh (by omega)];rfl
  ·refine J 9 ?_
   obtain⟨x,hx,hg⟩:=cH (l:=xs) (i:=n) ⟨by omega,by omega⟩
   refine .p (.ix n.toNat rfl rfl (by omega) (by omega)) ?_
   refine .p (.lr rfl hx) ?_
   refine J 4 ?_
   refine .aP rfl rfl fun w s=>⟨(),?_,trivial,aj .auto s⟩
   rw[hg];rfl
theorem Iz{W:World}{b:Nat}{rs:List (List Int)}{p t:Int}(hl:rs.length≤64∧ ∀ r∈rs,r.length≤900000000):Fn Tryz.prog W 229 [ptr b,.int .i64 p,.int .i64 t] [fX b rs] Bool (fun u=>.bool u) (fun _=>True) (fun _=>[fX b (rAdd rs p t)]):=by
 refine Fn.intro (N:=21) func229 rfl ntmps229 rfl fun F=>?_
 show aq _ _ _ _ _ _ [fX b rs,F]
 have hlb:rs.length≤64∧ ∀ r∈rs,r.length≤1000000000:=⟨hl.1,fun r hr=>Nat.le_trans (hl.2 r hr) (by decide)⟩
 refine J 10 ?_
 refine .c call104 rfl (B0 hlb) fun _ _=>?_
 refine JD 12 (fun h15=>?_) fun h15=>?_
 ·refine J 7 ?_
  rw[BN h15]
  exact JR 0 false
 ·refine .o2 (C:=fX b rs) .auto rfl ?_
  rintro v xs hxs
  have hxl:=aC hxs
  have hgr:=wN hxs (p:=p)
  refine J 3 ?_
  rcases hg:aB xs p with _ | ⟨q,r⟩
  ·rw[hg] at hgr
   refine J 3 ?_
   refine .c call230 rfl (mP (xs:=xs) (n:=p) (by omega)) fun _ _=>?_
   rw[hg]
   refine J 1 ?_
   refine .c call262 rfl AB fun _ _=>?_
   refine J 4 ?_
   rw[EC hgr]
   refine .to (A:=fX b rs) (Bs:=[arr b 0 [v],sl bP 1 v xs,aF (fun x:Nat×List Int=>fp x.1 x.2) xs]) .auto (pC hxs) ?_
   exact JR 0 false
  ·rw[hg] at hgr
   have hx:=(bQ hg).2.2
   have hrx:=(bQ hgr).2.2
   refine J 3 ?_
   refine .c call230 rfl (mP (xs:=xs) (n:=p) (by omega)) fun _ _=>?_
   rw[hg]
   refine .fr .auto (m8 hx) ?_
   refine J 1 ?_
   refine .c call262 rfl (Ch (l:=r) (hlb.2 r (List.mem_of_getElem? hrx)) (EE h15 hrx)) fun _ _=>?_
   refine J 4 ?_
   rw[ED h15 hgr]
   refine .to (A:=fX b (rs.set p.toNat (r++[t]))) (Bs:=[arr b 0 [v],sl bP 1 v xs,fp q (r++[t]),aF (fun x:Nat×List Int=>fp x.1 x.2) (xs.eraseIdx p.toNat)]) .auto (qy hxs hx (r++[t])) ?_
   exact JR 0 true
theorem Ff{W:World}{b:Nat}{rs:List (List Int)}{p:Int}(hl:rs.length≤64∧ ∀ r∈rs,r.length≤900000000):Fn Tryz.prog W 191 [ptr b,.int .i64 p] [fX b rs] Unit (fun _=>.tuple #[.int .i64 (ud rs p),.bool (rPick rs p).isSome]) (fun _=>True) (fun _=>[fX b (lN rs p)]):=by
 refine Fn.intro (N:=44) func191 rfl ntmps191 rfl fun F=>?_
 show aq _ _ _ _ _ _ [fX b rs,F]
 have hlb:rs.length≤64∧ ∀ r∈rs,r.length≤1000000000:=⟨hl.1,fun r hr=>Nat.le_trans (hl.2 r hr) (by decide)⟩
 refine .o2 (C:=fX b rs) .auto rfl ?_
 rintro v xs hxs
 have hxl:=aC hxs
 have hgr:=wN hxs (p:=p)
 refine J 1 ?_
 rcases hg:aB xs p with _ | ⟨q,_ | ⟨t,r⟩⟩
 ·rw[hg] at hgr
  refine J 9 ?_
  refine .c call230 rfl (mP (xs:=xs) (n:=p) (by omega)) fun _ _=>?_
  rw[hg]
  refine J 10 ?_
  refine .gw rfl ?_
  refine J 8 ?_
  rw[(m7 (ue hgr)).1,(m7 (ue hgr)).2,ue hgr]
  refine .to (A:=fX b rs) (Bs:=[arr b 0 [v],sl bP 1 v xs,aF (fun x:Nat×List Int=>fp x.1 x.2) xs]) .auto (pC hxs) ?_
  exact JR 0 ()
 ·rw[hg] at hgr
  have hx:=(bQ hg).2.2
  refine J 9 ?_
  refine .c call230 rfl (mP (xs:=xs) (n:=p) (by omega)) fun _ _=>?_
  rw[hg]
  refine .fr .auto (m8 hx) ?_
  refine J 10 ?_
  refine .eQ rfl ?_
  refine J 6 ?_
  refine .c call231 rfl Ci fun _ _=>?_
  refine .to (A:=aF (fun x:Nat×List Int=>fp x.1 x.2) xs) (Bs:=[fp q [],aF (fun x:Nat×List Int=>fp x.1 x.2) (xs.eraseIdx p.toNat)]) .auto (eK (f:=(fun x:Nat×List Int=>fp x.1 x.2)) hx) ?_
  refine J 12 ?_
  refine .eQ rfl ?_
  refine J 19 ?_
  refine .bm (X:=Nat) [4,5,11,12,13,31,32,33,34,35,36,37,38,39,40,41,42,43] (fun z=>rs.length-z) (fun z=>z≤rs.length∧ ∀ j,j<z→rs[j]?=some []) (fun z=>[(31,some (.int .i64 (z:Int)))]) (fun z=>[arr b 0 [v],sl bP 1 v xs,aF (fun x:Nat×List Int=>fp x.1 x.2) xs,F]) 0 ?_ ?_ ?_ ?_
  ·exact⟨Nat.zero_le _,fun j h=>absurd h (Nat.not_lt_zero _)⟩
  ·exact⟨rfl,trivial⟩
  ·exact fun w s=>aw.kept .auto w s
  rintro k ⟨hk,hj⟩
  refine JD 6 (fun h32=>?_) fun h32=>?_
  ·obtain⟨⟨q2,r⟩,hxk⟩:=ak (show k<xs.length by omega)
   have hrk:rs[k]?=some r:=eT hxs hxk
   refine J 5 ?_
   rcases hlast:r.getLast? with _ | t
   ·have hr0:r=[]:=List.getLast?_eq_none_iff.1 hlast
    subst hr0
    refine J 2 ?_
    refine .p (.lr rfl hxk) ?_
    refine J 7 ?_
    refine .fr .auto (m8 hxk) ?_
    refine .ai rfl (af.kF rfl rfl call232 rfl uI .auto) ?_
    rintro _ _ ⟨⟨⟩, -,rfl,rfl⟩
    refine .to (A:=aF (fun x:Nat×List Int=>fp x.1 x.2) xs) (Bs:=[fp q2 [],aF (fun x:Nat×List Int=>fp x.1 x.2) (xs.eraseIdx k)]) .auto (eK (f:=(fun x:Nat×List Int=>fp x.1 x.2)) hxk) ?_
    refine J 12 ?_
    refine .eQ rfl ?_
    refine J 7 ?_
    refine .aH (k+1) .auto rfl ?_ ?_ ?_ ?_
    ·omega
    ·exact⟨by omega,fun j h=>by
      rcases Nat.lt_or_ge j k with h2 | h2
      ·exact hj j h2
      ·obtain rfl:j=k:=by omega
       exact hrk⟩
    ·exact⟨rfl,trivial⟩
    ·exact fun w s=>aw.kept .auto w s
   ·obtain⟨i,hi,hti⟩:=JM hlast
    have hpk:rPick rs p=some (t,rs.set k r.dropLast):=(uf hgr).trans (Ag hj hrk hlast)
    refine J 2 ?_
    refine .p (.lr rfl hxk) ?_
    refine J 7 ?_
    refine .fr .auto (m8 hxk) ?_
    refine .ai rfl (af.kF rfl rfl call232 rfl (vG (hlb.2 r (List.mem_of_getElem? hrk)) hi hti) .auto) ?_
    rintro _ _ ⟨⟨⟩, -,rfl,rfl⟩
    refine J 12 ?_
    refine .gw rfl ?_
    refine J 13 ?_
    rw[(jg hpk).1,(jg hpk).2,hpk]
    refine .to (A:=fX b (rs.set k r.dropLast)) (Bs:=[arr b 0 [v],sl bP 1 v xs,fp q2 r.dropLast,aF (fun x:Nat×List Int=>fp x.1 x.2) (xs.eraseIdx k)]) .auto (qy hxs hxk r.dropLast) ?_
    exact JR 0 ()
  ·obtain rfl:k=rs.length:=by omega
   have hpk:rPick rs p=none:=(uf hgr).trans (uc hj)
   refine J 12 ?_
   rw[(m7 hpk).1,(m7 hpk).2,hpk]
   refine .to (A:=fX b rs) (Bs:=[arr b 0 [v],sl bP 1 v xs,aF (fun x:Nat×List Int=>fp x.1 x.2) xs]) .auto (pC hxs) ?_
   exact JR 0 ()
 ·rw[hg] at hgr
  have hx:=(bQ hg).2.2
  have hpk:rPick rs p=some (t,rs.set p.toNat r):=EF hgr
  refine J 9 ?_
  refine .c call230 rfl (mP (xs:=xs) (n:=p) (by omega)) fun _ _=>?_
  rw[hg]
  refine .fr .auto (m8 hx) ?_
  refine J 10 ?_
  refine .eQ rfl ?_
  refine J 6 ?_
  refine .c call231 rfl (Fe (hlb.2 (t::r) (List.mem_of_getElem? (bQ hgr).2.2))) fun _ _=>?_
  refine J 12 ?_
  refine .gw rfl ?_
  refine J 9 ?_
  rw[(jg hpk).1,(jg hpk).2,hpk]
  refine .to (A:=fX b (rs.set p.toNat r)) (Bs:=[arr b 0 [v],sl bP 1 v xs,fp q r,aF (fun x:Nat×List Int=>fp x.1 x.2) (xs.eraseIdx p.toNat)]) .auto (qy hxs hx r) ?_
  exact JR 0 ()
theorem Cj{W:World}{b:Nat}{rs:List (List Int)}(hl:rs.length≤64∧ ∀ r∈rs,r.length≤900000000):Fn Tryz.prog W 143 [ptr b] [fX b rs] Unit (fun _=>.bool (ig rs)) (fun _=>True) (fun _=>[fX b rs]):=by
 refine Fn.intro (N:=21) func143 rfl ntmps143 rfl fun F=>?_
 show aq _ _ _ _ _ _ [fX b rs,F]
 have hlb:rs.length≤64∧ ∀ r∈rs,r.length≤1000000000:=⟨hl.1,fun r hr=>Nat.le_trans (hl.2 r hr) (by decide)⟩
 refine .o2 (C:=fX b rs) .auto rfl ?_
 rintro v xs hxs
 have hxl:=aC hxs
 refine J 12 ?_
 refine .eQ rfl ?_
 refine J 14 ?_
 refine .bm (X:=Nat) [2,4,12,13,14,15,16,17,18,19,20] (fun z=>rs.length-z) (fun z=>z≤rs.length∧ ∀ j,j<z→rs[j]?=some []) (fun z=>[(12,some (.int .i64 (z:Int)))]) (fun z=>[arr b 0 [v],sl bP 1 v xs,aF (fun x:Nat×List Int=>fp x.1 x.2) xs,F]) 0 ?_ ?_ ?_ ?_
 ·exact⟨Nat.zero_le _,fun j h=>absurd h (Nat.not_lt_zero _)⟩
 ·exact⟨rfl,trivial⟩
 ·exact fun w s=>aw.kept .auto w s
 rintro k ⟨hk,hj⟩
 refine JD 6 (fun h13=>?_) fun h13=>?_
 ·refine J 6 ?_
  obtain⟨⟨q,r⟩,hx⟩:=ak (show k<xs.length by omega)
  have hrk:rs[k]?=some r:=eT hxs hx
  refine J 1 ?_
  refine .p (.lr rfl hx) ?_
  refine J 6 ?_
  refine .fr .auto (m8 hx) ?_
  refine .c call150 rfl (wY (l:=r) (hlb.2 r (List.mem_of_getElem? hrk))) fun u17 _=>?_
  refine .to (A:=aF (fun x:Nat×List Int=>fp x.1 x.2) xs) (Bs:=[fp q r,aF (fun x:Nat×List Int=>fp x.1 x.2) (xs.eraseIdx k)]) .auto (eK (f:=(fun x:Nat×List Int=>fp x.1 x.2)) hx) ?_
  refine JD 4 (fun h19=>?_) fun h19=>?_
  ·have he:ig rs=false:=HA hrk (fun e=>by rw[e] at h19;simp at h19)
   refine J 11 ?_
   rw[he]
   refine .to (A:=fX b rs) (Bs:=[arr b 0 [v],sl bP 1 v xs,aF (fun x:Nat×List Int=>fp x.1 x.2) xs]) .auto (pC hxs) ?_
   exact JR 0 ()
  ·refine J 7 ?_
   refine .aH (k+1) .auto rfl ?_ ?_ ?_ ?_
   ·omega
   ·exact⟨by omega,fun j h=>by
     rcases Nat.lt_or_ge j k with h2 | h2
     ·exact hj j h2
     ·obtain rfl:j=k:=by omega
      have hr0:r=[]:=List.eq_nil_of_length_eq_zero (by omega)
      rw[hrk,hr0]⟩
   ·exact⟨rfl,trivial⟩
   ·exact fun w s=>aw.kept .auto w s
 ·obtain rfl:k=rs.length:=by omega
  have he:ig rs=true:=EG hj
  refine J 11 ?_
  rw[he]
  refine .to (A:=fX b rs) (Bs:=[arr b 0 [v],sl bP 1 v xs,aF (fun x:Nat×List Int=>fp x.1 x.2) xs]) .auto (pC hxs) ?_
  exact JR 0 ()
theorem AD{W:World}{A:aa}{v:Value}{xs:List Ev}{p:Ev→Bool}{g:Nat}(hr:Rd W [A] cv 3 v xs)(hl:xs.length≤1000000000)(hg:∀ args w,(callFunc g args).run Tryz.prog w = .ok (.enter g args) w)(hf:∀ x∈xs,Fn Tryz.prog W g [.agg (cv x).toArray] [A] Unit (fun _=>.bool (p x)) (fun _=>True) (fun _=>[A])):Fn Tryz.prog W 227 [v,.func (.func g) #[] #[]] [A] Unit (fun _=>.int .i64 (idxP p xs 0)) (fun _=>True) (fun _=>[A]):=by
 refine Fn.intro (N:=19) func227 rfl ntmps227 rfl fun F=>?_
 haveI hRI:∀ (H:List aa) [bx H A],aA W H v cv 3 xs:=fun H h=>⟨hr.at h.has⟩
 show aq _ _ _ _ _ _ [A,F]
 refine J 14 ?_
 refine .bm (X:=Nat) [4,5,8,9,10,11,12,13,14,15,16,17,18] (fun k=>xs.length-k) (fun k=>k≤xs.length∧idxP p xs 0=idxP p (xs.drop k) k) (fun k=>[(8,some (.int .i64 (k:Int)))]) (fun k=>[A,F]) 0 ?_ ?_ ?_ ?_
 ·exact⟨Nat.zero_le _,by simp⟩
 ·exact⟨rfl,trivial⟩
 ·exact fun w s=>aw.kept .auto w s
 rintro k ⟨hk,hn⟩
 refine JD 6 (fun h9=>?_) fun h9=>?_
 ·refine J 15 ?_
  obtain⟨x,hx⟩:=ak (show k<xs.length by omega)
  refine J 2 ?_
  refine .ai rfl (af.kF rfl rfl hg rfl (hf x (List.mem_of_getElem? hx)) .auto) ?_
  rintro _ _ ⟨⟨⟩, -,rfl,rfl⟩
  refine JD 2 (fun h16=>?_) fun h16=>?_
  ·refine J 12 ?_
   refine .aP rfl rfl fun w s=>⟨(),?_,trivial,aj .auto s⟩
   rw[hn,jt hx h16]
  ·refine J 7 ?_
   refine .aH (k+1) .auto rfl ?_ ?_ ?_ ?_
   ·first | omega | (dsimp only;omega)
   ·exact⟨by omega,hn.trans (ib hx h16)⟩
   ·exact⟨rfl,trivial⟩
   ·exact fun w s=>aw.kept .auto w s
 ·refine J 11 ?_
  refine .aP rfl rfl fun w s=>⟨(),?_,trivial,aj .auto s⟩
  rw[hn,ju (by omega)]
theorem vH{W:World}{A:aa}{e:Ev}:Fn Tryz.prog W 228 [.agg (cv e).toArray] [A] Unit (fun _=>.bool (iU e)) (fun _=>True) (fun _=>[A]):=by
 refine Fn.intro (N:=6) func228 rfl ntmps228 rfl fun F=>?_
 show aq _ _ _ _ _ _ [A,F]
 refine J 2 ?_
 refine .ai rfl (af.box rfl rfl rfl) ?_
 rintro _ _ ⟨b1,rfl,rfl⟩
 exact JR 12 ()
theorem yJ{W:World}{A:aa}{v:Value}{xs:List Ev}(hr:Rd W [A] cv 3 v xs)(hl:xs.length≤900000000):Fn Tryz.prog W 187 [v] [A] Value (fun u=>.tuple #[.agg (cv (wE xs)).toArray,u,.bool (evWithin xs).isSome]) (fun _=>True) (fun u=>[sl cv 3 u (wR xs),A]):=by
 refine Fn.intro (N:=26) func187 rfl ntmps187 rfl fun F=>?_
 refine .cM (fun w s=>Rd.shape (hr.at .here) w s) fun e=>?_
 obtain⟨a1,c1,rfl⟩:=e
 haveI hRI:∀ (H:List aa) [bx H A],aA W H (.slice a1 xs.length c1) cv 3 xs:=fun H h=>⟨hr.at h.has⟩
 show aq _ _ _ _ _ _ [A,F]
 refine J 2 ?_
 refine .ai rfl (af.alloc rfl zeroValue232 rfl) ?_
 rintro _ _ ⟨b2,rfl,rfl⟩
 refine J 7 ?_
 refine .c call227 rfl (AD (p:=iU) (g:=228) hr (by omega) call228 (fun e _=>vH)) fun _ _=>?_
 refine JD 10 (fun h9=>?_) fun h9=>?_
 ·have hw:=EH h9
  refine J 2 ?_
  refine .p (.lP ([(.int .i64 0),(.int .i64 0),(.int .i64 0)]) (by kernel_rfl)) ?_
  refine J 1 ?_
  refine .c call153 rfl (yA hr (by omega)) fun u12 _=>?_
  refine J 7 ?_
  rw[show wE xs=⟨0,0,0⟩ from by unfold wE;rw[hw],show wR xs=xs from by unfold wR;rw[hw],hw]
  refine .sK rfl rfl isAgg232 (by exact sizeOf232) Cells.a rfl rfl fun w s=>⟨u12,?_,trivial,aj .auto s⟩
  rfl
 ·have hil:=De (p:=iU) xs 0
  obtain⟨i,x,hid,hx,hw⟩:=BQ h9 (by omega)
  rw[hid]
  have hib:=(List.getElem?_eq_some_iff.1 hx).1
  have hr1:=hr.cut (lo:=0) (hi:=i) (Nat.zero_le _) (by omega)
  have hr2:=hr.cut (lo:=i+1) (hi:=xs.length) (by omega) (Nat.le_refl _)
  refine J 3 ?_
  refine .draw [A] [0,0,0,0,1,1,1,1,1,1,1,2,2,3,1,1] rfl (by kernel_rfl) ?_
  refine J 2 ?_
  refine .q (.ix i rfl rfl rfl (by omega)) ?_
  refine .q (.la rfl (Cells.rd Rd.s hx)) ?_
  refine J 2 ?_
  refine .p (.sliceTo i underlying165 sizeOf232 rfl rfl Rd.s rfl (by omega)) ?_
  refine J 3 ?_
  refine .p (.sliceFrom (i+1) underlying165 sizeOf232 rfl rfl Rd.s rfl (by omega)) ?_
  refine .d2 rfl Kept.auto (af.gF 165 rfl rfl (by kernel_rfl)) (by rintro _ _ ⟨b24,rfl,rfl⟩;exact Kept.auto) ?_
  rintro _ _ ⟨b24,rfl,rfl⟩
  refine .d2 rfl Kept.auto (af.eH rfl call184 rfl (Dn (A:=seps [arr b24 0 [(cut 3 0 i (.slice a1 xs.length c1)),(cut 3 (i+1) xs.length (.slice a1 xs.length c1))],A]) (qs:=[((cut 3 0 i (.slice a1 xs.length c1)),xs.take i),((cut 3 (i+1) xs.length (.slice a1 xs.length c1)),xs.drop (i+1))]) (Rd.eO (Rd.lit .here rfl (fun _ _=>rfl) rfl)) (by
    intro q hq
    simp only[List.mem_cons,List.not_mem_nil,or_false] at hq
    rcases hq with rfl | rfl
    ·exact Rd.eO (Rd.at (by rw[List.drop_zero] at hr1;exact hr1) (.there .here))
    ·exact Rd.eO (Rd.at (by rw[List.take_length] at hr2;exact hr2) (.there .here))) (by simp) (by simp;omega)) .auto) (by rintro _ _ ⟨u25, -,rfl,rfl⟩;exact BP .auto Kept.auto) ?_
  rintro _ _ ⟨u25, -,rfl,rfl⟩
  rw[show[((cut 3 0 i (.slice a1 xs.length c1)),xs.take i),((cut 3 (i+1) xs.length (.slice a1 xs.length c1)),xs.drop (i+1))].flatMap (fun q:Value×List Ev=>q.2)=xs.take i++xs.drop (i+1) from by simp]
  refine .dO .auto ?_
  refine .d3 rfl (af.gW (by exact sizeOf232) rfl rfl rfl (by rfl)) ?_
  rintro _ _ ⟨rfl,rfl⟩
  refine J 5 ?_
  rw[show wE xs=x from by unfold wE;rw[hw],show wR xs=xs.take i++xs.drop (i+1) from by unfold wR;rw[hw],hw]
  refine .sK rfl rfl isAgg232 (by exact sizeOf232) Cells.a rfl rfl fun w s=>⟨u25,?_,trivial,aj .auto s⟩
  rfl
end Go.SLYtpbjdoplfgeliaaGreat
namespace Go.SLYtpbjdoplfgeliaaGreat
open Go Go.RowKit Go.Proofs Go.Proofs.Tryz
attribute [local irreducible] aq aR bf bq bB Y
theorem pV{W:World}{b bs br:Nat}{vv vw:Value}{lk:Bool}{rows:List (List Int)}{p:Int}{A:aa}{m:Value}{ts:List Int}(hm:Rd W [A] av 1 m ts)(hl:ts.length≤100000∧rows.length≤64∧ ∀ r∈rows,r.length≤800000000):Fn Tryz.prog W 190 [ptr b,.int .i64 p,m] [arr b 0 (l8 bs br vv vw lk),fX br rows,A] Unit (fun _=>.tuple #[]) (fun _=>True) (fun _=>[arr b 0 (l8 bs br vv vw lk),fX br (dW rows p ts),A]):=by
 refine Fn.intro (N:=22) func190 rfl ntmps190 rfl fun F=>?_
 haveI hRI:∀ (H:List aa) [bx H A],aA W H m av 1 ts:=fun H h=>⟨hm.at h.has⟩
 show aq _ _ _ _ _ _ [arr b 0 (l8 bs br vv vw lk),fX br rows,A,F]
 refine J 8 ?_
 refine .bm (X:=Nat) [7,10,11,12,13,14,15,16,17,18,19,20,21] (fun z=>ts.length-z) (fun z=>z≤ts.length) (fun z=>[(10,some (.int .i64 (z:Int)))]) (fun z=>[arr b 0 (l8 bs br vv vw lk),fX br (dW rows p (ts.take z)),A,F]) 0 ?_ ?_ ?_ ?_
 ·exact Nat.zero_le _
 ·exact⟨rfl,trivial⟩
 ·rw[show dW rows p (ts.take 0)=rows from rfl];exact fun w s=>aw.kept .auto w s
 rintro k hk
 refine JD 6 (fun h11=>?_) fun h11=>?_
 ·refine J 6 ?_
  obtain⟨t,hx⟩:=ak (show k<ts.length by omega)
  have hrl:(dW rows p (ts.take k)).length=rows.length:=fM
  have hrr:=kY (ts:=ts.take k) (p:=p) hl.2.2
  refine J 1 ?_
  refine .p (.lr rfl hx) ?_
  refine J 10 ?_
  refine .c call229 rfl (Iz (rs:=dW rows p (ts.take k)) (p:=p) (t:=t) ⟨by omega,fun r hr=>by have:=hrr r hr;rw[List.length_take] at this;omega⟩) fun ub _=>?_
  refine J 7 ?_
  refine .aH (k+1) .auto rfl ?_ ?_ ?_ ?_
  ·omega
  ·show k+1≤_;omega
  ·exact⟨rfl,trivial⟩
  ·rw[BR hx]
   exact fun w s=>aw.kept .auto w s
 ·obtain rfl:k=ts.length:=by omega
  rw[List.take_length]
  exact JR 4 ()
theorem ox{W:World}{b bs br:Nat}{l:Lib}{t c:Int}(hO:gb l.aM):Fn Tryz.prog W 193 [ptr b,.int .i64 t,.int .i64 c] [bF b bs br l] Value (fun u=>.agg (dz u (l.aK t c).1).toArray) (fun _=>True) (fun u=>[sl av 1 u (l.aK t c).1.wM.ar,bF b bs br (l.aK t c).2]):=by
 refine Fn.intro (N:=22) func193 rfl ntmps193 rfl fun F=>?_
 show aq _ _ _ _ _ _ [bF b bs br l,F]
 refine .o2 (C:=bF b bs br l) .auto rfl ?_
 rintro vv vw -
 refine J 2 ?_
 refine .ai rfl (af.alloc rfl zeroValue75 rfl) ?_
 rintro _ _ ⟨b6,rfl,rfl⟩
 refine J 10 ?_
 refine .c call22 rfl (uF (s:=l.aM) hO) fun u16 _=>?_
 refine .cM (fun w s=>Rd.isSl (Rd.sl .auto) w s) fun hu16=>?_
 refine J 1 ?_
 refine .p (.extract (v:=.agg (nU u16 (l.aM.run t c).1).toArray) rfl rfl) ?_
 refine .p (.extract (v:=.int .i64 (l.aM.run t c).2.1) rfl rfl) ?_
 refine .ai rfl (af.alloc rfl zeroValue57 rfl) ?_
 rintro _ _ ⟨b7,rfl,rfl⟩
 refine .ai rfl (af.gW (vs:=nU u16 (l.aM.run t c).1) (by exact sizeOf57) rfl rfl (Df hu16) (by rfl)) ?_
 rintro _ _ ⟨rfl,rfl⟩
 refine J 7 ?_
 refine .p (.vk (fun _ _ _=>dz u16 (l.aK t c).1) rfl rfl rfl (by kernel_rfl)) ?_
 refine .ai rfl (af.gW (vs:=dz u16 (l.aK t c).1) (by exact sizeOf75) rfl rfl (di hu16) (by rfl)) ?_
 rintro _ _ ⟨rfl,rfl⟩
 refine J 3 ?_
 refine .dG rfl rfl isAgg75 (by exact sizeOf75) Cells.a fun w s=>⟨u16,?_,trivial,aj .auto s⟩
 rfl
theorem AE{W:World}{u:Value}{e:kP}:Fn Tryz.prog W 194 [.agg (nU u e).toArray] [] Unit (fun _=>.bool e.ck) (fun _=>True) (fun _=>[]):=by
 refine Fn.intro (N:=11) func194 rfl ntmps194 rfl fun F=>?_
 show aq _ _ _ _ _ _ [F]
 refine J 2 ?_
 refine .ai rfl (af.box rfl rfl rfl) ?_
 rintro _ _ ⟨b1,rfl,rfl⟩
 refine .mem (H':=[arr b1 0 (nU u e),F]) (fun w s=>s) ?_
 refine J 9 ?_
 apply aR.gL 4 10 6 [6,7,8,9,10] rfl
 ·intro h6
  exact JS 5
 ·intro h6
  exact JS 5
 exact JR 4 ()
theorem qH{W:World}{b bs br i:Nat}{l:Lib}{v:aL}(hv:l.vs[i]?=some v){m:Int}:Fn Tryz.prog W 139 [ptr b,.int .i64 (i:Int),.int .i64 m] [bF b bs br l] Unit (fun _=>.tuple #[]) (fun _=>True) (fun _=>[bF b bs br (l.enter (i:Int) m)]):=by
 refine Fn.intro (N:=22) func139 rfl ntmps139 rfl fun F=>?_
 show aq _ _ _ _ _ _ [bF b bs br l,F]
 refine .o2 (C:=bF b bs br l) .auto rfl ?_
 rintro vv vw -
 refine .o1 (C:=cx vv l.vs) .auto rfl ?_
 rintro xs hxs
 have hxl:=aC hxs
 obtain⟨x,hx,rfl⟩:=dx hxs hv
 have hil:=(List.getElem?_eq_some_iff.1 hx).1
 refine JD 9 (fun h10=>?_) fun h10=>?_
 ·rw[m9 hv (by simpa using h10)]
  refine J 6 ?_
  rw[show(l8 bs br vv vw l.locked).set 4 (.bool true)=l8 bs br vv vw true from rfl]
  refine J 9 ?_
  refine .p (.ix i rfl rfl rfl (by omega)) ?_
  refine J 1 ?_
  refine .ai rfl (af.eG (x':=(x.1,{x.2 with mode:=m })) rfl rfl sizeOf3 rfl hx (by decide) rfl .auto) ?_
  rintro _ _ ⟨rfl,rfl⟩
  refine .to (A:=cx vv (l.vs.set i {x.2 with mode:=m })) (Bs:=[sl fe 3 vv (xs.set i (x.1,{x.2 with mode:=m })),aF (fun x:Value×aL=>sl cv 3 x.1 x.2.evs) xs]) .auto (km hxs hx rfl) ?_
  exact JR 1 ()
 ·refine J 1 ?_
  rw[pD (by simpa using h10)]
  refine .to (A:=cx vv l.vs) (Bs:=[sl fe 3 vv xs,aF (fun x:Value×aL=>sl cv 3 x.1 x.2.evs) xs]) .auto (fk hxs) ?_
  exact JR 0 ()
theorem jh{W:World}{b bs br i:Nat}{l:Lib}{v:aL}(hv:l.vs[i]?=some v){m t:Int}:Fn Tryz.prog W 189 [ptr b,.int .i64 (i:Int),.int .i64 m,.int .i64 t] [bF b bs br l] Unit (fun _=>.tuple #[]) (fun _=>True) (fun _=>[bF b bs br (l.leave (i:Int) m t)]):=by
 refine Fn.intro (N:=27) func189 rfl ntmps189 rfl fun F=>?_
 show aq _ _ _ _ _ _ [bF b bs br l,F]
 refine .o2 (C:=bF b bs br l) .auto rfl ?_
 rintro vv vw -
 refine .o1 (C:=cx vv l.vs) .auto rfl ?_
 rintro xs hxs
 have hxl:=aC hxs
 obtain⟨x,hx,rfl⟩:=dx hxs hv
 have hil:=(List.getElem?_eq_some_iff.1 hx).1
 rw[iD hv]
 refine J 6 ?_
 rw[show(l8 bs br vv vw l.locked).set 4 (.bool false)=l8 bs br vv vw false from rfl]
 refine J 2 ?_
 refine .draw [arr b 0 (l8 bs br vv vw false)] [1,1,1,1,1,1,1,1,1,0,1,0,1,1,2,1,1,3] rfl (by kernel_rfl) ?_
 refine J 12 ?_
 refine .p (.ix i rfl rfl rfl (by omega)) ?_
 refine J 1 ?_
 refine .d2 rfl Kept.auto (af.eG (x':=(x.1,{x.2 with mode:=m })) rfl rfl sizeOf3 rfl hx (by decide) rfl .auto) (by rintro _ _ ⟨rfl,rfl⟩;exact Kept.auto) ?_
 rintro _ _ ⟨rfl,rfl⟩
 have hx2:(xs.set i (x.1,{x.2 with mode:=m }))[i]?=some (x.1,{x.2 with mode:=m }):=List.getElem?_set_self hil
 refine .p (.ix i rfl rfl rfl (by rw[List.length_set];omega)) ?_
 refine J 1 ?_
 refine .d3 rfl (af.kD (c:=1) (x':=(x.1,{x.2 with mode:=m,ab:=t })) rfl rfl sizeOf3 rfl hx2 (by decide) rfl .auto) ?_
 rintro _ _ ⟨rfl,rfl⟩
 rw[List.set_set]
 refine .to (A:=cx vv (l.vs.set i {x.2 with mode:=m,ab:=t })) (Bs:=[sl fe 3 vv (xs.set i (x.1,{x.2 with mode:=m,ab:=t })),aF (fun x:Value×aL=>sl cv 3 x.1 x.2.evs) xs]) .auto (km hxs hx rfl) ?_
 exact JR 1 ()
end Go.SLYtpbjdoplfgeliaaGreat
namespace Go.SLYtpbjdoplfgeliaaGreat
open Go Go.RowKit Go.Proofs Go.Proofs.Tryz
attribute [local irreducible] aq aR bf bq bB Y
theorem AF{W:World}{b bs br i:Nat}{l:Lib}{v:aL}(hv:l.vs[i]?=some v){q:Ev}{m:Value}{rest:List Ev}{c:Int}(hz:HC l)(hw:(l.aM.run q.ab c).1.ar.length≤17):Fn Tryz.prog W 188 [ptr b,.int .i64 (i:Int),.agg (cv q).toArray,m,.int .i64 c] [bF b bs br l,sl cv 3 m rest] Value (fun u=>.agg (dz u (l.recover (i:Int) q rest c).1).toArray) (fun _=>True) (fun u=>[sl av 1 u (l.recover (i:Int) q rest c).1.wM.ar,bF b bs br (l.recover (i:Int) q rest c).2]):=by
 refine Fn.intro (N:=48) func188 rfl ntmps188 rfl fun F=>?_
 show aq _ _ _ _ _ _ [bF b bs br l,sl cv 3 m rest,F]
 refine .cM (fun w s=>Rd.isSl (Rd.sl (.there .here)) w s) fun hum=>?_
 refine .o2 (C:=bF b bs br l) .auto rfl ?_
 rintro vv vw -
 refine .o1 (C:=cx vv l.vs) .auto rfl ?_
 rintro xs hxs
 have hxl:=aC hxs
 obtain⟨x,hx,rfl⟩:=dx hxs hv
 have hil:=(List.getElem?_eq_some_iff.1 hx).1
 refine .fr .auto (cZ (f:=(fun x:Value×aL=>sl cv 3 x.1 x.2.evs)) hx) ?_
 refine J 2 ?_
 refine .ai rfl (af.box rfl rfl rfl) ?_
 rintro _ _ ⟨b7,rfl,rfl⟩
 refine .to (A:=arr b7 0 (cv q)) (Bs:=[arr b7 0 (cv q)]) .auto (fun g a=>by simpa only[seps,aJ] using a) ?_
 refine .ai rfl (af.alloc rfl zeroValue75 rfl) ?_
 rintro _ _ ⟨b10,rfl,rfl⟩
 refine J 10 ?_
 refine .p (.ix i rfl rfl rfl (by omega)) ?_
 refine J 1 ?_
 refine .ai rfl (af.kD (c:=2) (x':=(m,{x.2 with evs:=rest })) rfl rfl sizeOf165 (fZ hum) hx (by decide) rfl .auto) ?_
 rintro _ _ ⟨rfl,rfl⟩
 refine .to (A:=cx vv (l.vs.set i {x.2 with evs:=rest })) (Bs:=[sl fe 3 vv (xs.set i (m,{x.2 with evs:=rest })),sl cv 3 m ({x.2 with evs:=rest }).evs,aF (fun x:Value×aL=>sl cv 3 x.1 x.2.evs) (xs.eraseIdx i)]) .auto (mz hxs hx) ?_
 refine J 8 ?_
 rw[show(l8 bs br vv vw l.locked).set 4 (.bool false)=l8 bs br vv vw false from rfl]
 refine JD 10 (fun h25=>?_) fun h25=>?_
 ·refine J 2 ?_
  refine .p (.lP (dz (.slice none 0 0) gg.z) (by kernel_rfl)) ?_
  refine .ai rfl (af.gW (vs:=dz (.slice none 0 0) gg.z) (by exact sizeOf75) rfl rfl (by rfl) (by rfl)) ?_
  rintro _ _ ⟨rfl,rfl⟩
  refine J 4 ?_
  rw[k5 hv h25]
  refine .dG rfl rfl isAgg75 (by exact sizeOf75) Cells.a fun w s=>⟨(.slice none 0 0),?_,trivial,aj .auto s⟩
  rfl
 ·have h25:q.mode=7:=Decidable.of_not_not h25
  refine J 8 ?_
  refine .c call193 rfl (ox (l:=(l.qz i x.2 rest)) (t:=q.ab) (c:=c) hz.sp) fun u31 _=>?_
  refine .cM (fun w s=>Rd.isSl (Rd.sl .auto) w s) fun hu31=>?_
  refine .ai rfl (af.alloc rfl zeroValue75 rfl) ?_
  rintro _ _ ⟨b11,rfl,rfl⟩
  refine .ai rfl (af.gW (vs:=dz u31 ((l.qz i x.2 rest).aK q.ab c).1) (by exact sizeOf75) rfl rfl (di hu31) (by rfl)) ?_
  rintro _ _ ⟨rfl,rfl⟩
  refine J 4 ?_
  refine .o2 (C:=bF b bs br ((l.qz i x.2 rest).aK q.ab c).2) .auto rfl ?_
  rintro vv vw -
  refine J 5 ?_
  refine .c call190 rfl (pV (rows:=l.rows) (p:=(i:Int)) (A:=sl av 1 u31 (l.aM.run q.ab c).1.ar) (ts:=(l.aM.run q.ab c).1.ar) (Rd.sl .here) ⟨Nat.le_trans hw (by decide),(yt ⟨hz.rl,hz.rw⟩)⟩) fun _ _=>?_
  refine J 6 ?_
  refine .p (.la rfl (Cells.lG (ds:=nU u31 ((l.qz i x.2 rest).aK q.ab c).1.wM) Cells.a rfl)) ?_
  refine .c call194 rfl AE fun _ _=>?_
  refine JD 2 (fun h40=>?_) fun h40=>?_
  ·refine J 5 ?_
   refine .ai rfl (af.gF 3 rfl rfl (by kernel_rfl)) ?_
   rintro _ _ ⟨b45,rfl,rfl⟩
   refine .c call190 rfl (pV (rows:=(dW l.rows (i:Int) (l.aM.run q.ab c).1.ar)) (p:=(i:Int)) (A:=arr b45 0 [.int .i64 q.ab]) (ts:=[q.ab]) (Rd.lit .here rfl (fun _ _=>rfl) rfl) ⟨by show 1≤_;decide,(Ah ⟨hz.rl,hz.rw⟩ (Nat.le_trans hw (by decide)))⟩) fun _ _=>?_
   refine J 5 ?_
   refine .ai rfl (af.gW (vs:=dz u31 ((l.qz i x.2 rest).aK q.ab c).1) (by exact sizeOf75) rfl rfl (di hu31) (by rfl)) ?_
   rintro _ _ ⟨rfl,rfl⟩
   refine J 3 ?_
   rw[k6 hv h25 h40]
   refine .dG rfl rfl isAgg75 (by exact sizeOf75) Cells.a fun w s=>⟨u31,?_,trivial,aj .auto s⟩
   rfl
  ·refine J 5 ?_
   refine .ai rfl (af.gW (vs:=dz u31 ((l.qz i x.2 rest).aK q.ab c).1) (by exact sizeOf75) rfl rfl (di hu31) (by rfl)) ?_
   rintro _ _ ⟨rfl,rfl⟩
   refine J 3 ?_
   rw[iW hv h25 (by rw[show(l.aM.run q.ab c).1.ck=false from h40];simp)]
   refine .dG rfl rfl isAgg75 (by exact sizeOf75) Cells.a fun w s=>⟨u31,?_,trivial,aj .auto s⟩
   rfl
theorem Ck{W:World}{b bs br i:Nat}{l:Lib}{v:aL}(hv:l.vs[i]?=some v){c:Int}(hz:HC l)(hw:∀ t,(l.aM.run t c).1.ar.length≤17):Fn Tryz.prog W 137 [ptr b,.int .i64 (i:Int),.int .i64 c] [bF b bs br l] Value (fun u=>.agg (dz u (l.upcall (i:Int) c).1).toArray) (fun _=>True) (fun u=>[sl av 1 u (l.upcall (i:Int) c).1.wM.ar,bF b bs br (l.upcall (i:Int) c).2]):=by
 refine Fn.intro (N:=34) func137 rfl ntmps137 rfl fun F=>?_
 show aq _ _ _ _ _ _ [bF b bs br l,F]
 refine .o2 (C:=bF b bs br l) .auto rfl ?_
 rintro vv vw -
 refine .o1 (C:=cx vv l.vs) .auto rfl ?_
 rintro xs hxs
 have hxl:=aC hxs
 obtain⟨x,hx,rfl⟩:=dx hxs hv
 have hil:=(List.getElem?_eq_some_iff.1 hx).1
 refine .fr .auto (cZ (f:=(fun x:Value×aL=>sl cv 3 x.1 x.2.evs)) hx) ?_
 refine J 2 ?_
 refine .ai rfl (af.alloc rfl zeroValue75 rfl) ?_
 rintro _ _ ⟨b6,rfl,rfl⟩
 refine J 10 ?_
 refine .p (.ix i rfl rfl rfl (by omega)) ?_
 refine J 1 ?_
 refine .p (.ld rfl (Cell.rd (c:=2) Rd.s hx rfl)) ?_
 refine .c call187 rfl (yJ (A:=sl cv 3 x.1 x.2.evs) (Rd.sl .here) (Nat.le_trans (hz.ev _ (List.mem_of_getElem? hv)) (by decide))) fun u19 _=>?_
 refine .to (A:=aF (fun x:Value×aL=>sl cv 3 x.1 x.2.evs) xs) (Bs:=[sl cv 3 x.1 x.2.evs,aF (fun x:Value×aL=>sl cv 3 x.1 x.2.evs) (xs.eraseIdx i)]) .auto (eK (f:=(fun x:Value×aL=>sl cv 3 x.1 x.2.evs)) hx) ?_
 refine .to (A:=cx vv l.vs) (Bs:=[sl fe 3 vv xs,aF (fun x:Value×aL=>sl cv 3 x.1 x.2.evs) xs]) .auto (fk hxs) ?_
 refine J 1 ?_
 refine .p (.extract (v:=.agg (cv (wE x.2.evs)).toArray) rfl rfl) ?_
 refine .p (.extract (v:=u19) rfl rfl) ?_
 refine .p (.extract (v:=.bool (evWithin x.2.evs).isSome) rfl rfl) ?_
 refine .ai rfl (af.alloc rfl zeroValue232 rfl) ?_
 rintro _ _ ⟨b7,rfl,rfl⟩
 refine .ai rfl (af.gW (vs:=cv (wE x.2.evs)) (by exact sizeOf232) rfl rfl (by rfl) (by rfl)) ?_
 rintro _ _ ⟨rfl,rfl⟩
 refine JD 9 (fun h23=>?_) fun h23=>?_
 ·refine J 7 ?_
  refine .c call188 rfl (AF (q:=wE x.2.evs) (rest:=wR x.2.evs) hv hz (hw _)) fun u29 _=>?_
  refine .cM (fun w s=>Rd.isSl (Rd.sl .auto) w s) fun hu29=>?_
  refine .ai rfl (af.gW (vs:=dz u29 (l.recover (i:Int) (wE x.2.evs) (wR x.2.evs) c).1) (by exact sizeOf75) rfl rfl (di hu29) (by rfl)) ?_
  rintro _ _ ⟨rfl,rfl⟩
  refine J 4 ?_
  rw[k7 hv h23]
  refine .dG rfl rfl isAgg75 (by exact sizeOf75) Cells.a fun w s=>⟨u29,?_,trivial,aj .auto s⟩
  rfl
 ·refine J 6 ?_
  refine .c call139 rfl (qH hv) fun _ _=>?_
  refine J 4 ?_
  refine .p (.lP (dz (.slice none 0 0) gg.z) (by kernel_rfl)) ?_
  refine .ai rfl (af.gW (vs:=dz (.slice none 0 0) gg.z) (by exact sizeOf75) rfl rfl (by rfl) (by rfl)) ?_
  rintro _ _ ⟨rfl,rfl⟩
  refine J 3 ?_
  rw[na hv h23]
  refine .dG rfl rfl isAgg75 (by exact sizeOf75) Cells.a fun w s=>⟨(.slice none 0 0),?_,trivial,aj .auto s⟩
  rfl
theorem IA{W:World}{b bs br i:Nat}{l:Lib}{v:aL}(hv:l.vs[i]?=some v)(hz:HC l):Fn Tryz.prog W 140 [ptr b,.int .i64 (i:Int)] [bF b bs br l] Unit (fun _=>.tuple #[]) (fun _=>True) (fun _=>[bF b bs br (l.pick (i:Int))]):=by
 refine Fn.intro (N:=23) func140 rfl ntmps140 rfl fun F=>?_
 show aq _ _ _ _ _ _ [bF b bs br l,F]
 refine .o2 (C:=bF b bs br l) .auto rfl ?_
 rintro vv vw -
 refine J 8 ?_
 refine .c call191 rfl (Ff (rs:=l.rows) (p:=(i:Int)) ⟨hz.rl,fun r hr=>Nat.le_trans (hz.rw r hr) (by decide)⟩) fun _ _=>?_
 refine JD 12 (fun h15=>?_) fun h15=>?_
 ·refine J 5 ?_
  refine .c call189 rfl (jh (l:={l with rows:=lN l.rows (i:Int) }) hv) fun _ _=>?_
  refine J 4 ?_
  rw[ng h15]
  exact JR 0 ()
 ·have hpn:=pE (l:=l) (i:=i) h15
  rw[hpn.2]
  refine J 5 ?_
  refine .c call189 rfl (jh hv) fun _ _=>?_
  refine J 1 ?_
  rw[hpn.1]
  exact JR 0 ()
theorem Cl{W:World}{b bs br i:Nat}{l:Lib}{v:aL}(hv:l.vs[i]?=some v)(hz:HC l):Fn Tryz.prog W 138 [ptr b,.int .i64 (i:Int)] [bF b bs br l] Unit (fun _=>.tuple #[]) (fun _=>True) (fun _=>[bF b bs br (l.handle (i:Int))]):=by
 refine Fn.intro (N:=47) func138 rfl ntmps138 rfl fun F=>?_
 show aq _ _ _ _ _ _ [bF b bs br l,F]
 refine .o2 (C:=bF b bs br l) .auto rfl ?_
 rintro vv vw -
 refine .o1 (C:=cx vv l.vs) .auto rfl ?_
 rintro xs hxs
 have hxl:=aC hxs
 obtain⟨x,hx,rfl⟩:=dx hxs hv
 have hil:=(List.getElem?_eq_some_iff.1 hx).1
 have hev:=hz.ev _ (List.mem_of_getElem? hv)
 refine .fr .auto (cZ (f:=(fun x:Value×aL=>sl cv 3 x.1 x.2.evs)) hx) ?_
 refine J 7 ?_
 refine .p (.ix i rfl rfl rfl (by omega)) ?_
 refine J 9 ?_
 refine .p (.ld rfl (Cell.rd (c:=2) Rd.s hx rfl)) ?_
 refine JD 4 (fun h18=>?_) fun h18=>?_
 ·refine J 4 ?_
  refine .to (A:=aF (fun x:Value×aL=>sl cv 3 x.1 x.2.evs) xs) (Bs:=[sl cv 3 x.1 x.2.evs,aF (fun x:Value×aL=>sl cv 3 x.1 x.2.evs) (xs.eraseIdx i)]) .auto (eK (f:=(fun x:Value×aL=>sl cv 3 x.1 x.2.evs)) hx) ?_
  refine .to (A:=cx vv l.vs) (Bs:=[sl fe 3 vv xs,aF (fun x:Value×aL=>sl cv 3 x.1 x.2.evs) xs]) .auto (fk hxs) ?_
  refine .c call189 rfl (jh hv) fun _ _=>?_
  refine J 4 ?_
  rw[k8 hv (List.eq_nil_of_length_eq_zero (by omega))]
  exact JR 0 ()
 ·refine J 5 ?_
  obtain⟨e,r,her⟩:∃ e r,x.2.evs=e::r:=by
   cases h:x.2.evs with
   | nil=>rw[h] at h18;exact absurd rfl h18
   | cons e r=>exact⟨e,r,rfl⟩
  rw[her]
  have hcl:Rd W [sl cv 3 x.1 (e::r)] cv 3 (cut 3 1 (e::r).length x.1) r:=by
   have:=(Rd.sl (W:=W) (H:=[sl cv 3 x.1 (e::r)]) .here).cut (lo:=1) (hi:=(e::r).length) (by simp) (Nat.le_refl _)
   rwa [List.take_length] at this
  refine J 3 ?_
  refine .p (.ld rfl (Cell.rd (c:=2) Rd.s hx rfl)) ?_
  refine .p (.ix 0 rfl rfl rfl (by simp)) ?_
  refine .p (.la rfl (Cells.rd Rd.s (show(e::r)[0]?=some e from rfl))) ?_
  refine .c call151 rfl ur fun _ _=>?_
  refine JD 12 (fun h32=>?_) fun h32=>?_
  ·have het:MO e=e.ab:=by unfold MO;rw[if_pos h32]
   rw[het]
   refine J 4 ?_
   refine .ai rfl (af.gF 3 rfl rfl (by kernel_rfl)) ?_
   rintro _ _ ⟨b36,rfl,rfl⟩
   refine .c call190 rfl (pV (rows:=l.rows) (p:=(i:Int)) (A:=arr b36 0 [.int .i64 e.ab]) (ts:=[e.ab]) (Rd.lit .here rfl (fun _ _=>rfl) rfl) ⟨by show 1≤_;decide,(yt ⟨hz.rl,hz.rw⟩)⟩) fun _ _=>?_
   refine J 7 ?_
   refine .p (.ld rfl (Cell.rd (c:=2) Rd.s hx rfl)) ?_
   refine .p (.sliceFrom 1 underlying165 sizeOf232 rfl rfl Rd.s rfl (by simp)) ?_
   refine .c call153 rfl (yA (A:=sl cv 3 x.1 (e::r)) (xs:=r) hcl (by rw[her] at hev;simp only[List.length_cons] at hev;omega)) fun u44 _=>?_
   refine .cM (fun w s=>Rd.isSl (Rd.sl .auto) w s) fun hu44=>?_
   refine J 2 ?_
   refine .ai rfl (af.kD (c:=2) (x':=(u44,{x.2 with evs:=r })) rfl rfl sizeOf165 (fZ hu44) hx (by decide) rfl .auto) ?_
   rintro _ _ ⟨rfl,rfl⟩
   refine .to (A:=cx vv (l.vs.set i {x.2 with evs:=r })) (Bs:=[sl fe 3 vv (xs.set i (u44,{x.2 with evs:=r })),sl cv 3 u44 ({x.2 with evs:=r }).evs,aF (fun x:Value×aL=>sl cv 3 x.1 x.2.evs) (xs.eraseIdx i)]) .auto (mz hxs hx) ?_
   refine J 1 ?_
   rw[nf hv her h32]
   exact JR 0 ()
  ·refine J 7 ?_
   refine .p (.ld rfl (Cell.rd (c:=2) Rd.s hx rfl)) ?_
   refine .p (.sliceFrom 1 underlying165 sizeOf232 rfl rfl Rd.s rfl (by simp)) ?_
   refine .c call153 rfl (yA (A:=sl cv 3 x.1 (e::r)) (xs:=r) hcl (by rw[her] at hev;simp only[List.length_cons] at hev;omega)) fun u44 _=>?_
   refine .cM (fun w s=>Rd.isSl (Rd.sl .auto) w s) fun hu44=>?_
   refine J 2 ?_
   refine .ai rfl (af.kD (c:=2) (x':=(u44,{x.2 with evs:=r })) rfl rfl sizeOf165 (fZ hu44) hx (by decide) rfl .auto) ?_
   rintro _ _ ⟨rfl,rfl⟩
   refine .to (A:=cx vv (l.vs.set i {x.2 with evs:=r })) (Bs:=[sl fe 3 vv (xs.set i (u44,{x.2 with evs:=r })),sl cv 3 u44 ({x.2 with evs:=r }).evs,aF (fun x:Value×aL=>sl cv 3 x.1 x.2.evs) (xs.eraseIdx i)]) .auto (mz hxs hx) ?_
   refine J 1 ?_
   rw[k9 hv her (by rw[h32];simp)]
   exact JR 0 ()
end Go.SLYtpbjdoplfgeliaaGreat
namespace Go.SLYtpbjdoplfgeliaaGreat
open Go Go.RowKit Go.Proofs Go.Proofs.Tryz
attribute [local irreducible] aq aR bf bq bB Y
theorem Ko{W:World}{b bs br i:Nat}{l:Lib}{v:aL}(hv:l.vs[i]?=some v){c:Int}(hz:HC l)(hw:∀ t,(l.aM.run t c).1.ar.length≤17):Fn Tryz.prog W 141 [ptr b,.int .i64 (i:Int),.int .i64 c] [bF b bs br l] Value (fun u=>.agg (dz u (l.gR (i:Int) c).1).toArray) (fun _=>True) (fun u=>[sl av 1 u (l.gR (i:Int) c).1.wM.ar,bF b bs br (l.gR (i:Int) c).2]):=by
 refine Fn.intro (N:=77) func141 rfl ntmps141 rfl fun F=>?_
 show aq _ _ _ _ _ _ [bF b bs br l,F]
 refine .o2 (C:=bF b bs br l) .auto rfl ?_
 rintro vv vw -
 refine .o1 (C:=cx vv l.vs) .auto rfl ?_
 rintro xs hxs
 have hxl:=aC hxs
 obtain⟨x,hx,hxv⟩:=dx hxs hv
 have hil:=(List.getElem?_eq_some_iff.1 hx).1
 subst hxv
 refine J 2 ?_
 refine .ai rfl (af.alloc rfl zeroValue75 rfl) ?_
 rintro _ _ ⟨b6,rfl,rfl⟩
 refine J 9 ?_
 refine .p (.ix i rfl rfl rfl (by omega)) ?_
 refine J 1 ?_
 refine .p (.ld rfl (Cell.rd (c:=1) Rd.s hx rfl)) ?_
 refine J 10 ?_
 refine .c call192 rfl (Cg (s:=l.aM) (n:=x.2.ab) hz.sp) fun _ _=>?_
 refine JD 10 (fun h25=>?_) fun h25=>?_
 ·refine J 7 ?_
  refine .p (.ix i rfl rfl rfl (by omega)) ?_
  refine J 1 ?_
  refine .ai rfl (af.eG (x':=(x.1,{x.2 with mode:=6 })) rfl rfl sizeOf3 rfl hx (by decide) rfl .auto) ?_
  rintro _ _ ⟨rfl,rfl⟩
  refine .to (A:=cx vv (l.vs.set i {x.2 with mode:=6 })) (Bs:=[sl fe 3 vv (xs.set i (x.1,{x.2 with mode:=6 })),aF (fun x:Value×aL=>sl cv 3 x.1 x.2.evs) xs]) .auto (km hxs hx rfl) ?_
  refine J 4 ?_
  refine .p (.lP (dz (.slice none 0 0) gg.z) (by kernel_rfl)) ?_
  refine .ai rfl (af.gW (vs:=dz (.slice none 0 0) gg.z) (by exact sizeOf75) rfl rfl (by rfl) (by rfl)) ?_
  rintro _ _ ⟨rfl,rfl⟩
  refine J 4 ?_
  rw[lb hv h25]
  refine .dG rfl rfl isAgg75 (by exact sizeOf75) Cells.a fun w s=>⟨(.slice none 0 0),?_,trivial,aj .auto s⟩
  rfl
 ·refine J 7 ?_
  refine .to (A:=cx vv l.vs) (Bs:=[sl fe 3 vv xs,aF (fun x:Value×aL=>sl cv 3 x.1 x.2.evs) xs]) .auto (fk hxs) ?_
  refine .c call193 rfl (ox (l:=l) (t:=x.2.ab) (c:=c) hz.sp) fun u37 _=>?_
  refine .cM (fun w s=>Rd.isSl (Rd.sl .auto) w s) fun hu37=>?_
  obtain⟨v,hvd⟩:∃ v,v=x.2:=⟨_,rfl⟩
  rw[← hvd] at hv h25 ⊢
  refine .ai rfl (af.alloc rfl zeroValue75 rfl) ?_
  rintro _ _ ⟨b9,rfl,rfl⟩
  refine .ai rfl (af.gW (vs:=dz u37 (l.aK v.ab c).1) (by exact sizeOf75) rfl rfl (di hu37) (by rfl)) ?_
  rintro _ _ ⟨rfl,rfl⟩
  refine JD 12 (fun h38=>?_) fun h38=>?_
  ·refine .o2 (C:=bF b bs br (l.aK v.ab c).2) .auto rfl ?_
   rintro vv vw -
   refine .o1 (C:=cx vv l.vs) .auto rfl ?_
   rintro xs hxs
   have hxl:=aC hxs
   obtain⟨x,hx,hxv⟩:=dx hxs hv
   have hil:=(List.getElem?_eq_some_iff.1 hx).1
   subst hxv
   refine .fr .auto (cZ (f:=(fun x:Value×aL=>sl cv 3 x.1 x.2.evs)) hx) ?_
   refine .draw [arr b 0 (l8 bs br vv vw l.locked)] [0,0,0,0,0,1,1,2,2,1,3] rfl (by kernel_rfl) ?_
   refine J 6 ?_
   refine .p (.fH (fun v1 v2=>[v1,v2,(.int .i64 0)]) rfl rfl (by kernel_rfl)) ?_
   refine .d2 rfl Kept.auto (af.gF 232 rfl rfl (by kernel_rfl)) (by rintro _ _ ⟨b49,rfl,rfl⟩;exact Kept.auto) ?_
   rintro _ _ ⟨b49,rfl,rfl⟩
   refine .c2 call133 rfl (oq (A:=arr b49 0 [.int .i64 2,.int .i64 x.2.ab,.int .i64 0]) (xs:=[⟨2,x.2.ab,0⟩]) (Rd.lit .here rfl (fun _ _=>rfl) rfl) (by show 1≤_;decide)) fun u50 _=>?_
   refine .cM (fun w s=>Rd.isSl (Rd.sl .auto) w s) fun hu50=>?_
   refine .p (.ix i rfl rfl rfl (by omega)) ?_
   refine .d3 rfl (af.ma (x':=(u50,(aL.new [⟨2,x.2.ab,0⟩]))) rfl rfl sizeOf228 (rQ hu50) hx rfl rfl .auto) ?_
   rintro _ _ ⟨rfl,rfl⟩
   refine J 9 ?_
   refine .to (A:=cx vv (l.vs.set i (aL.new [⟨2,x.2.ab,0⟩]))) (Bs:=[sl fe 3 vv (xs.set i (u50,(aL.new [⟨2,x.2.ab,0⟩]))),sl cv 3 u50 ((aL.new [⟨2,x.2.ab,0⟩])).evs,aF (fun x:Value×aL=>sl cv 3 x.1 x.2.evs) (xs.eraseIdx i)]) .auto (mz hxs hx) ?_
   refine .c call131 rfl (iu (A:=sl av 1 u37 (l.aM.run x.2.ab c).1.ar) (Rd.sl .here) (Nat.le_trans (hw _) (by decide))) fun u74 _=>?_
   refine .ai rfl (af.eH rfl call136 rfl (mM (l:={l with aM:=(l.aM.run x.2.ab c).2.2,vs:=l.vs.set i (aL.new [⟨2,x.2.ab,0⟩]) }) (A:=sl cv 3 u74 (aI (l.aM.run x.2.ab c).1.ar)) (Rd.sl .here) ⟨by unfold aI;rw[List.length_map];exact Nat.le_trans (hw _) (by decide),Nat.le_trans hz.wt (by decide),by show(l.vs.set i _).length≤_;rw[List.length_set];exact Nat.le_trans hz.vl (by decide),fun z hzm=>by
     rcases List.mem_or_eq_of_mem_set hzm with h | rfl
     ·exact Nat.le_trans (hz.ev z h) (by decide)
     ·show 1≤_;decide⟩) .auto) ?_
   rintro _ _ ⟨⟨⟩, -,rfl,rfl⟩
   refine J 5 ?_
   refine .ai rfl (af.gW (vs:=dz u37 (l.aK x.2.ab c).1) (by exact sizeOf75) rfl rfl (di hu37) (by rfl)) ?_
   rintro _ _ ⟨rfl,rfl⟩
   refine J 3 ?_
   rw[nh hv h25 h38]
   refine .dG rfl rfl isAgg75 (by exact sizeOf75) Cells.a fun w s=>⟨u37,?_,trivial,aj .auto s⟩
   rfl
  ·refine JD 8 (fun h52=>?_) fun h52=>?_
   ·refine .o2 (C:=bF b bs br (l.aK v.ab c).2) .auto rfl ?_
    rintro vv vw -
    refine .o1 (C:=cx vv l.vs) .auto rfl ?_
    rintro xs hxs
    have hxl:=aC hxs
    obtain⟨x,hx,hxv⟩:=dx hxs hv
    have hil:=(List.getElem?_eq_some_iff.1 hx).1
    subst hxv
    refine .draw [arr b 0 (l8 bs br vv vw l.locked)] [1,1,1,1,1,1,1,1,1,0,1,1,2,1,1,3] rfl (by kernel_rfl) ?_
    refine J 10 ?_
    refine .p (.ix i rfl rfl rfl (by omega)) ?_
    refine J 1 ?_
    refine .d2 rfl Kept.auto (af.eG (x':=(x.1,{x.2 with mode:=3 })) rfl rfl sizeOf3 rfl hx (by decide) rfl .auto) (by rintro _ _ ⟨rfl,rfl⟩;exact Kept.auto) ?_
    rintro _ _ ⟨rfl,rfl⟩
    have hx2:(xs.set i (x.1,{x.2 with mode:=3 }))[i]?=some (x.1,{x.2 with mode:=3 }):=List.getElem?_set_self hil
    refine .p (.ix i rfl rfl rfl (by rw[List.length_set];omega)) ?_
    refine J 1 ?_
    refine .d3 rfl (af.kD (c:=1) (x':=(x.1,{x.2 with mode:=3,ab := -1 })) rfl rfl sizeOf3 rfl hx2 (by decide) rfl .auto) ?_
    rintro _ _ ⟨rfl,rfl⟩
    rw[List.set_set]
    refine .to (A:=cx vv (l.vs.set i {x.2 with mode:=3,ab := -1 })) (Bs:=[sl fe 3 vv (xs.set i (x.1,{x.2 with mode:=3,ab := -1 })),aF (fun x:Value×aL=>sl cv 3 x.1 x.2.evs) xs]) .auto (km hxs hx rfl) ?_
    refine J 9 ?_
    refine .c call131 rfl (iu (A:=sl av 1 u37 (l.aM.run x.2.ab c).1.ar) (Rd.sl .here) (Nat.le_trans (hw _) (by decide))) fun u74 _=>?_
    refine .ai rfl (af.eH rfl call136 rfl (mM (l:={l with aM:=(l.aM.run x.2.ab c).2.2,vs:=l.vs.set i ({x.2 with mode:=3,ab := -1 }:aL) }) (A:=sl cv 3 u74 (aI (l.aM.run x.2.ab c).1.ar)) (Rd.sl .here) ⟨by unfold aI;rw[List.length_map];exact Nat.le_trans (hw _) (by decide),Nat.le_trans hz.wt (by decide),by show(l.vs.set i _).length≤_;rw[List.length_set];exact Nat.le_trans hz.vl (by decide),fun z hzm=>by
      rcases List.mem_or_eq_of_mem_set hzm with h | rfl
      ·exact Nat.le_trans (hz.ev z h) (by decide)
      ·exact Nat.le_trans (show x.2.evs.length≤1000000 from hz.ev _ (List.mem_of_getElem? hv)) (by decide)⟩) .auto) ?_
    rintro _ _ ⟨⟨⟩, -,rfl,rfl⟩
    refine J 5 ?_
    refine .ai rfl (af.gW (vs:=dz u37 (l.aK x.2.ab c).1) (by exact sizeOf75) rfl rfl (di hu37) (by rfl)) ?_
    rintro _ _ ⟨rfl,rfl⟩
    refine J 3 ?_
    rw[pF hv h25 (by rw[show(l.aM.run x.2.ab c).1.aQ=false from h38];simp) h52]
    refine .dG rfl rfl isAgg75 (by exact sizeOf75) Cells.a fun w s=>⟨u37,?_,trivial,aj .auto s⟩
    rfl
   ·refine J 9 ?_
    refine .c call131 rfl (iu (A:=sl av 1 u37 (l.aM.run v.ab c).1.ar) (Rd.sl .here) (Nat.le_trans (hw _) (by decide))) fun u74 _=>?_
    refine .c call136 rfl (mM (l:=(l.aK v.ab c).2) (A:=sl cv 3 u74 (aI (l.aM.run v.ab c).1.ar)) (Rd.sl .here) ⟨by unfold aI;rw[List.length_map];exact Nat.le_trans (hw _) (by decide),Nat.le_trans hz.wt (by decide),Nat.le_trans hz.vl (by decide),fun z hzm=>Nat.le_trans (hz.ev z hzm) (by decide)⟩) fun _ _=>?_
    refine J 5 ?_
    refine .ai rfl (af.gW (vs:=dz u37 (l.aK v.ab c).1) (by exact sizeOf75) rfl rfl (di hu37) (by rfl)) ?_
    rintro _ _ ⟨rfl,rfl⟩
    refine J 3 ?_
    rw[ni hv h25 (by rw[show(l.aM.run v.ab c).1.aQ=false from h38];simp) (by rw[show(l.aM.run v.ab c).1.ended=false from h52];simp)]
    refine .dG rfl rfl isAgg75 (by exact sizeOf75) Cells.a fun w s=>⟨u37,?_,trivial,aj .auto s⟩
    rfl
theorem Cm{W:World}{b bs br i:Nat}{l:Lib}{v:aL}(hv:l.vs[i]?=some v){c:Int}(hz:HC l)(hw:∀ t,(l.aM.run t c).1.ar.length≤17):Fn Tryz.prog W 142 [ptr b,.int .i64 (i:Int),.int .i64 c] [bF b bs br l] Value (fun u=>.agg (dz u (l.inside (i:Int) c).1).toArray) (fun _=>True) (fun u=>[sl av 1 u (l.inside (i:Int) c).1.wM.ar,bF b bs br (l.inside (i:Int) c).2]):=by
 refine Fn.intro (N:=52) func142 rfl ntmps142 rfl fun F=>?_
 show aq _ _ _ _ _ _ [bF b bs br l,F]
 refine .o2 (C:=bF b bs br l) .auto rfl ?_
 rintro vv vw -
 refine .o1 (C:=cx vv l.vs) .auto rfl ?_
 rintro xs hxs
 have hxl:=aC hxs
 obtain⟨x,hx,rfl⟩:=dx hxs hv
 have hil:=(List.getElem?_eq_some_iff.1 hx).1
 refine J 2 ?_
 refine .ai rfl (af.alloc rfl zeroValue75 rfl) ?_
 rintro _ _ ⟨b6,rfl,rfl⟩
 refine J 9 ?_
 refine .p (.ix i rfl rfl rfl (by omega)) ?_
 refine J 1 ?_
 refine .p (.ld rfl (Cell.rd (c:=1) Rd.s hx rfl)) ?_
 refine J 5 ?_
 refine .to (A:=cx vv l.vs) (Bs:=[sl fe 3 vv xs,aF (fun x:Value×aL=>sl cv 3 x.1 x.2.evs) xs]) .auto (fk hxs) ?_
 refine J 3 ?_
 refine .c call193 rfl (ox (l:=l) (t:=x.2.ab) (c:=c) hz.sp) fun u20 _=>?_
 refine .cM (fun w s=>Rd.isSl (Rd.sl .auto) w s) fun hu20=>?_
 refine .ai rfl (af.alloc rfl zeroValue75 rfl) ?_
 rintro _ _ ⟨b8,rfl,rfl⟩
 refine .ai rfl (af.gW (vs:=dz u20 (l.aK x.2.ab c).1) (by exact sizeOf75) rfl rfl (di hu20) (by rfl)) ?_
 rintro _ _ ⟨rfl,rfl⟩
 refine J 4 ?_
 refine .o2 (C:=bF b bs br (l.aK x.2.ab c).2) .auto rfl ?_
 rintro vv2 vw2 -
 refine J 5 ?_
 refine .c call190 rfl (pV (rows:=l.rows) (p:=(i:Int)) (A:=sl av 1 u20 (l.aM.run x.2.ab c).1.ar) (ts:=(l.aM.run x.2.ab c).1.ar) (Rd.sl .here) ⟨Nat.le_trans (hw _) (by decide),(yt ⟨hz.rl,hz.rw⟩)⟩) fun _ _=>?_
 refine J 7 ?_
 refine .p (.la rfl (Cells.lG (ds:=nU u20 (l.aK x.2.ab c).1.wM) Cells.a rfl)) ?_
 refine .c call194 rfl AE fun _ _=>?_
 refine JD 4 (fun h31=>?_) fun h31=>?_
 ·refine J 3 ?_
  refine .c call189 rfl (jh (l:={l with aM:=(l.aM.run x.2.ab c).2.2,rows:=(dW l.rows (i:Int) (l.aM.run x.2.ab c).1.ar) }) hv) fun _ _=>?_
  refine J 6 ?_
  refine .ai rfl (af.gW (vs:=dz u20 (l.aK x.2.ab c).1) (by exact sizeOf75) rfl rfl (di hu20) (by rfl)) ?_
  rintro _ _ ⟨rfl,rfl⟩
  refine J 3 ?_
  rw[lf hv (by rw[show(l.aM.run x.2.ab c).1.ck=false from by have h:=h31;simp only[Bool.not_eq_true'] at h;exact h];simp)]
  refine .dG rfl rfl isAgg75 (by exact sizeOf75) Cells.a fun w s=>⟨u20,?_,trivial,aj .auto s⟩
  rfl
 ·have hg:(l.aM.run x.2.ab c).1.ck=true:=by have h:=h31;simp only[Bool.not_eq_false'] at h;exact h
  refine JD 8 (fun h39=>?_) fun h39=>?_
  ·refine J 5 ?_
   refine .ai rfl (af.gF 3 rfl rfl (by kernel_rfl)) ?_
   rintro _ _ ⟨b46,rfl,rfl⟩
   refine .c call190 rfl (pV (rows:=(dW l.rows (i:Int) (l.aM.run x.2.ab c).1.ar)) (p:=(i:Int)) (A:=arr b46 0 [.int .i64 x.2.ab]) (ts:=[x.2.ab]) (Rd.lit .here rfl (fun _ _=>rfl) rfl) ⟨by show 1≤_;decide,(Ah ⟨hz.rl,hz.rw⟩ (Nat.le_trans (hw _) (by decide)))⟩) fun _ _=>?_
   refine J 5 ?_
   refine .c call189 rfl (jh (l:={l with aM:=(l.aM.run x.2.ab c).2.2,rows:=(dW (dW l.rows (i:Int) (l.aM.run x.2.ab c).1.ar) (i:Int) [x.2.ab]) }) hv) fun _ _=>?_
   refine J 6 ?_
   refine .ai rfl (af.gW (vs:=dz u20 (l.aK x.2.ab c).1) (by exact sizeOf75) rfl rfl (di hu20) (by rfl)) ?_
   rintro _ _ ⟨rfl,rfl⟩
   refine J 3 ?_
   rw[iX hv hg h39]
   refine .dG rfl rfl isAgg75 (by exact sizeOf75) Cells.a fun w s=>⟨u20,?_,trivial,aj .auto s⟩
   rfl
  ·refine J 4 ?_
   refine .c call189 rfl (jh (l:={l with aM:=(l.aM.run x.2.ab c).2.2,rows:=(dW l.rows (i:Int) (l.aM.run x.2.ab c).1.ar) }) hv) fun _ _=>?_
   refine J 6 ?_
   refine .ai rfl (af.gW (vs:=dz u20 (l.aK x.2.ab c).1) (by exact sizeOf75) rfl rfl (di hu20) (by rfl)) ?_
   rintro _ _ ⟨rfl,rfl⟩
   refine J 3 ?_
   rw[nj hv hg (by rw[show(l.aM.run x.2.ab c).1.yielded=false from h39];simp)]
   refine .dG rfl rfl isAgg75 (by exact sizeOf75) Cells.a fun w s=>⟨u20,?_,trivial,aj .auto s⟩
   rfl
theorem IB{W:World}{b bs br:Nat}{l:Lib}{p c:Int}(hz:HC l)(hw:∀ t,(l.aM.run t c).1.ar.length≤17):Fn Tryz.prog W 93 [ptr b,.int .i64 p,.int .i64 c] [bF b bs br l] Value (fun u=>.tuple #[.agg (dz u (l.step p c).1).toArray,.int .i64 (l.step p c).2.1]) (fun _=>True) (fun u=>[sl av 1 u (l.step p c).1.wM.ar,bF b bs br (l.step p c).2.2]):=by
 refine Fn.intro (N:=76) func93 rfl ntmps93 rfl fun F=>?_
 show aq _ _ _ _ _ _ [bF b bs br l,F]
 refine J 2 ?_
 refine .ai rfl (af.alloc rfl zeroValue75 rfl) ?_
 rintro _ _ ⟨b6,rfl,rfl⟩
 refine J 8 ?_
 refine .c call96 rfl mL fun _ _=>?_
 refine JD 3 (fun h12=>?_) fun h12=>?_
 ·refine J 2 ?_
  refine .p (.lP (dz (.slice none 0 0) gg.z) (by kernel_rfl)) ?_
  refine .ai rfl (af.gW (vs:=dz (.slice none 0 0) gg.z) (by exact sizeOf75) rfl rfl (by rfl) (by rfl)) ?_
  rintro _ _ ⟨rfl,rfl⟩
  refine J 5 ?_
  rw[pG (by simpa using h12)]
  refine .fg rfl rfl isAgg75 (by exact sizeOf75) Cells.a rfl fun w s=>⟨(.slice none 0 0),?_,trivial,aj .auto s⟩
  rfl
 ·have h12:l.has p=true:=by simpa using h12
  refine J 4 ?_
  refine .ai rfl (af.alloc rfl zeroValue75 rfl) ?_
  rintro _ _ ⟨b8,rfl,rfl⟩
  refine J 5 ?_
  obtain⟨i,v,rfl,hv,hm0⟩:=ij h12
  refine .o2 (C:=bF b bs br l) .auto rfl ?_
  rintro vv vw -
  refine .o1 (C:=cx vv l.vs) .auto rfl ?_
  rintro xs hxs
  have hxl:=aC hxs
  obtain⟨x,hx,rfl⟩:=dx hxs hv
  have hil:=(List.getElem?_eq_some_iff.1 hx).1
  refine J 5 ?_
  refine .p (.ix i rfl rfl rfl (by omega)) ?_
  refine J 1 ?_
  refine .p (.lr rfl hx) ?_
  refine JD 9 (fun h23=>?_) fun h23=>?_
  ·refine J 1 ?_
   refine .to (A:=cx vv l.vs) (Bs:=[sl fe 3 vv xs,aF (fun x:Value×aL=>sl cv 3 x.1 x.2.evs) xs]) .auto (fk hxs) ?_
   refine J 3 ?_
   refine .c call137 rfl (Ck hv hz hw) fun u27 _=>?_
   refine .cM (fun w s=>Rd.isSl (Rd.sl .auto) w s) fun hu27=>?_
   refine .ai rfl (af.gW (vs:=dz u27 (l.upcall (i:Int) c).1) (by exact sizeOf75) rfl rfl (di hu27) (by rfl)) ?_
   rintro _ _ ⟨rfl,rfl⟩
   refine J 6 ?_
   refine .ai rfl (af.gW (vs:=dz u27 (l.upcall (i:Int) c).1) (by exact sizeOf75) rfl rfl (di hu27) (by rfl)) ?_
   rintro _ _ ⟨rfl,rfl⟩
   refine J 4 ?_
   rw[sd h12 hv h23]
   refine .fg rfl rfl isAgg75 (by exact sizeOf75) Cells.a rfl fun w s=>⟨u27,?_,trivial,aj .auto s⟩
   rfl
  ·refine JD 6 (fun h29=>?_) fun h29=>?_
   ·refine J 1 ?_
    refine .to (A:=cx vv l.vs) (Bs:=[sl fe 3 vv xs,aF (fun x:Value×aL=>sl cv 3 x.1 x.2.evs) xs]) .auto (fk hxs) ?_
    refine J 2 ?_
    refine .c call138 rfl (Cl hv hz) fun _ _=>?_
    refine J 6 ?_
    refine .ai rfl (af.gW (vs:=dz (.slice none 0 0) gg.z) (by exact sizeOf75) rfl rfl (by rfl) (by rfl)) ?_
    rintro _ _ ⟨rfl,rfl⟩
    refine J 4 ?_
    rw[se h12 hv (by omega)]
    refine .fg rfl rfl isAgg75 (by exact sizeOf75) Cells.a rfl fun w s=>⟨(.slice none 0 0),?_,trivial,aj .auto s⟩
    rfl
   ·refine JD 6 (fun h34=>?_) fun h34=>?_
    ·refine J 1 ?_
     refine .to (A:=cx vv l.vs) (Bs:=[sl fe 3 vv xs,aF (fun x:Value×aL=>sl cv 3 x.1 x.2.evs) xs]) .auto (fk hxs) ?_
     refine J 2 ?_
     refine .c call139 rfl (qH hv) fun _ _=>?_
     refine J 6 ?_
     refine .ai rfl (af.gW (vs:=dz (.slice none 0 0) gg.z) (by exact sizeOf75) rfl rfl (by rfl) (by rfl)) ?_
     rintro _ _ ⟨rfl,rfl⟩
     refine J 4 ?_
     rw[sf h12 hv (by omega)]
     refine .fg rfl rfl isAgg75 (by exact sizeOf75) Cells.a rfl fun w s=>⟨(.slice none 0 0),?_,trivial,aj .auto s⟩
     rfl
    ·refine JD 6 (fun h39=>?_) fun h39=>?_
     ·refine J 1 ?_
      refine .to (A:=cx vv l.vs) (Bs:=[sl fe 3 vv xs,aF (fun x:Value×aL=>sl cv 3 x.1 x.2.evs) xs]) .auto (fk hxs) ?_
      refine J 2 ?_
      refine .c call140 rfl (IA hv hz) fun _ _=>?_
      refine J 6 ?_
      refine .ai rfl (af.gW (vs:=dz (.slice none 0 0) gg.z) (by exact sizeOf75) rfl rfl (by rfl) (by rfl)) ?_
      rintro _ _ ⟨rfl,rfl⟩
      refine J 4 ?_
      rw[sh h12 hv (by omega)]
      refine .fg rfl rfl isAgg75 (by exact sizeOf75) Cells.a rfl fun w s=>⟨(.slice none 0 0),?_,trivial,aj .auto s⟩
      rfl
     ·refine JD 6 (fun h44=>?_) fun h44=>?_
      ·refine J 1 ?_
       refine .to (A:=cx vv l.vs) (Bs:=[sl fe 3 vv xs,aF (fun x:Value×aL=>sl cv 3 x.1 x.2.evs) xs]) .auto (fk hxs) ?_
       refine J 3 ?_
       refine .c call141 rfl (Ko hv hz hw) fun u48 _=>?_
       refine .cM (fun w s=>Rd.isSl (Rd.sl .auto) w s) fun hu48=>?_
       refine .ai rfl (af.gW (vs:=dz u48 (l.gR (i:Int) c).1) (by exact sizeOf75) rfl rfl (di hu48) (by rfl)) ?_
       rintro _ _ ⟨rfl,rfl⟩
       refine J 6 ?_
       refine .ai rfl (af.gW (vs:=dz u48 (l.gR (i:Int) c).1) (by exact sizeOf75) rfl rfl (di hu48) (by rfl)) ?_
       rintro _ _ ⟨rfl,rfl⟩
       refine J 4 ?_
       rw[sj h12 hv h44]
       refine .fg rfl rfl isAgg75 (by exact sizeOf75) Cells.a rfl fun w s=>⟨u48,?_,trivial,aj .auto s⟩
       rfl
      ·refine JD 6 (fun h50=>?_) fun h50=>?_
       ·refine J 1 ?_
        refine .to (A:=cx vv l.vs) (Bs:=[sl fe 3 vv xs,aF (fun x:Value×aL=>sl cv 3 x.1 x.2.evs) xs]) .auto (fk hxs) ?_
        refine J 2 ?_
        refine .c call139 rfl (qH hv) fun _ _=>?_
        refine J 6 ?_
        refine .ai rfl (af.gW (vs:=dz (.slice none 0 0) gg.z) (by exact sizeOf75) rfl rfl (by rfl) (by rfl)) ?_
        rintro _ _ ⟨rfl,rfl⟩
        refine J 4 ?_
        rw[sk h12 hv (by omega)]
        refine .fg rfl rfl isAgg75 (by exact sizeOf75) Cells.a rfl fun w s=>⟨(.slice none 0 0),?_,trivial,aj .auto s⟩
        rfl
       ·refine JD 6 (fun h55=>?_) fun h55=>?_
        ·refine J 1 ?_
         refine .to (A:=cx vv l.vs) (Bs:=[sl fe 3 vv xs,aF (fun x:Value×aL=>sl cv 3 x.1 x.2.evs) xs]) .auto (fk hxs) ?_
         refine J 3 ?_
         refine .c call142 rfl (Cm hv hz hw) fun u59 _=>?_
         refine .cM (fun w s=>Rd.isSl (Rd.sl .auto) w s) fun hu59=>?_
         refine .ai rfl (af.gW (vs:=dz u59 (l.inside (i:Int) c).1) (by exact sizeOf75) rfl rfl (di hu59) (by rfl)) ?_
         rintro _ _ ⟨rfl,rfl⟩
         refine J 6 ?_
         refine .ai rfl (af.gW (vs:=dz u59 (l.inside (i:Int) c).1) (by exact sizeOf75) rfl rfl (di hu59) (by rfl)) ?_
         rintro _ _ ⟨rfl,rfl⟩
         refine J 4 ?_
         rw[sm h12 hv h55]
         refine .fg rfl rfl isAgg75 (by exact sizeOf75) Cells.a rfl fun w s=>⟨u59,?_,trivial,aj .auto s⟩
         rfl
        ·refine JD 6 (fun h61=>?_) fun h61=>?_
         ·refine J 6 ?_
          refine .c call143 rfl (Cj (rs:=l.rows) ⟨hz.rl,fun r hr=>Nat.le_trans (hz.rw r hr) (by decide)⟩) fun _ _=>?_
          refine JD 3 (fun h67=>?_) fun h67=>?_
          ·refine J 6 ?_
           refine .p (.ix i rfl rfl rfl (by omega)) ?_
           refine J 1 ?_
           refine .ai rfl (af.eG (x':=(x.1,{x.2 with mode:=3 })) rfl rfl sizeOf3 rfl hx (by decide) rfl .auto) ?_
           rintro _ _ ⟨rfl,rfl⟩
           refine .to (A:=cx vv (l.vs.set i {x.2 with mode:=3 })) (Bs:=[sl fe 3 vv (xs.set i (x.1,{x.2 with mode:=3 })),aF (fun x:Value×aL=>sl cv 3 x.1 x.2.evs) xs]) .auto (km hxs hx rfl) ?_
           refine J 6 ?_
           refine .ai rfl (af.gW (vs:=dz (.slice none 0 0) gg.z) (by exact sizeOf75) rfl rfl (by rfl) (by rfl)) ?_
           rintro _ _ ⟨rfl,rfl⟩
           refine J 4 ?_
           rw[pI h12 hv (by omega) (by simpa using h67)]
           refine .fg rfl rfl isAgg75 (by exact sizeOf75) Cells.a rfl fun w s=>⟨(.slice none 0 0),?_,trivial,aj .auto s⟩
           rfl
          ·refine J 6 ?_
           refine .ai rfl (af.gW (vs:=dz (.slice none 0 0) gg.z) (by exact sizeOf75) rfl rfl (by rfl) (by rfl)) ?_
           rintro _ _ ⟨rfl,rfl⟩
           refine J 4 ?_
           refine .to (A:=cx vv l.vs) (Bs:=[sl fe 3 vv xs,aF (fun x:Value×aL=>sl cv 3 x.1 x.2.evs) xs]) .auto (fk hxs) ?_
           rw[pH h12 hv (by omega) (by simpa using h67)]
           refine .fg rfl rfl isAgg75 (by exact sizeOf75) Cells.a rfl fun w s=>⟨(.slice none 0 0),?_,trivial,aj .auto s⟩
           rfl
         ·refine J 6 ?_
          refine .ai rfl (af.gW (vs:=dz (.slice none 0 0) gg.z) (by exact sizeOf75) rfl rfl (by rfl) (by rfl)) ?_
          rintro _ _ ⟨rfl,rfl⟩
          refine J 4 ?_
          refine .to (A:=cx vv l.vs) (Bs:=[sl fe 3 vv xs,aF (fun x:Value×aL=>sl cv 3 x.1 x.2.evs) xs]) .auto (fk hxs) ?_
          rw[so h12 hv (by omega)]
          refine .fg rfl rfl isAgg75 (by exact sizeOf75) Cells.a rfl fun w s=>⟨(.slice none 0 0),?_,trivial,aj .auto s⟩
          rfl
theorem AG{W:World}{b bs br:Nat}{l:Lib}{p:Int}(hz:HC l):Fn Tryz.prog W 98 [ptr b,.int .i64 p] [bF b bs br l] Unit (fun _=>.bool (l.preempt p).1) (fun _=>True) (fun _=>[bF b bs br (l.preempt p).2]):=by
 refine Fn.intro (N:=23) func98 rfl ntmps98 rfl fun F=>?_
 show aq _ _ _ _ _ _ [bF b bs br l,F]
 refine J 10 ?_
 refine .c call96 rfl mL fun _ _=>?_
 refine JD 3 (fun h8=>?_) fun h8=>?_
 ·refine J 7 ?_
  rw[jy (by simpa using h8)]
  exact JR 0 ()
 ·refine J 3 ?_
  have h8:l.has p=true:=by simpa using h8
  obtain⟨i,v,rfl,hv,hm0⟩:=ij h8
  refine .o2 (C:=bF b bs br l) .auto rfl ?_
  rintro vv vw -
  refine .o1 (C:=cx vv l.vs) .auto rfl ?_
  rintro xs hxs
  have hxl:=aC hxs
  obtain⟨x,hx,rfl⟩:=dx hxs hv
  have hil:=(List.getElem?_eq_some_iff.1 hx).1
  refine .fr .auto (cZ (f:=(fun x:Value×aL=>sl cv 3 x.1 x.2.evs)) hx) ?_
  refine .draw [arr b 0 (l8 bs br vv vw l.locked)] [0,0,0,0,0,1,1,1,1,1,1,1,2,1,3] rfl (by kernel_rfl) ?_
  refine J 10 ?_
  refine .p (.ix i rfl rfl rfl (by omega)) ?_
  refine .p (.la rfl (Cells.rd Rd.s hx)) ?_
  refine .c2 call146 rfl (rv (A:=sl cv 3 x.1 x.2.evs) (u:=x.1) (x:=x.2) (m:=(.slice none 0 0)) (ys:=[]) (Rd.sl .here) Rd.nil ⟨Nat.le_trans (hz.ev _ (List.mem_of_getElem? hv)) (by decide),by show 0≤_;decide⟩) fun u21 _=>?_
  refine .cM (fun w s=>Rd.isSl (Rd.sl .auto) w s) fun hu21=>?_
  refine .p (.ix i rfl rfl rfl (by omega)) ?_
  refine .d3 rfl (af.ma (x':=(u21,x.2.told [])) rfl rfl sizeOf228 (rQ hu21) hx rfl rfl .auto) ?_
  rintro _ _ ⟨rfl,rfl⟩
  refine .to (A:=cx vv (l.vs.set i (x.2.told []))) (Bs:=[sl fe 3 vv (xs.set i (u21,(x.2.told []))),sl cv 3 u21 ((x.2.told [])).evs,aF (fun x:Value×aL=>sl cv 3 x.1 x.2.evs) (xs.eraseIdx i)]) .auto (mz hxs hx) ?_
  refine J 8 ?_
  rw[iE h8 hv]
  exact JR 0 ()
end Go.SLYtpbjdoplfgeliaaGreat
namespace Go.SLYtpbjdoplfgeliaaGreat
open Go Go.RowKit Go.Proofs Go.Proofs.Tryz
attribute [local irreducible] aq aR bf bq bB Y
theorem uJ{W:World}  : Fn Tryz.prog W 53 [.pointer none] [] Unit (fun _=>.pointer none) (fun _=>True) (fun _=>[]):=by
 refine Fn.intro (N:=9) func53 rfl ntmps53 rfl fun F=>?_
 show aq _ _ _ _ _ _ [F]
 refine J 12 ?_
 refine .gw rfl ?_
 exact JR 7 ()
end Go.SLYtpbjdoplfgeliaaGreat
namespace Go.SLYtpbjdoplfgeliaaGreat
open Go Go.RowKit
theorem Y.Nq{P:Program}{W:World}{N:Nat}{L:List (Nat×Option Value)}{H:List aa}{T:TypeId}{op:Op}{m n:Bool}(h:Y P W N op T L H (.bool m))(e:m=n):Y P W N op T L H (.bool n):=e ▸ h
theorem qJ{n:Int}{a:eN}(h:a.kind=3):uh n a=[⟨3,0,0,0⟩]:=if_pos h
theorem uK{n:Int}{a:eN}(h:¬a.kind=3)(hs:a.space=n):uh n a=[{a with space:=0 }]:=by unfold uh;rw[if_neg h,if_pos hs]
theorem uL{n:Int}{a:eN}(h:¬a.kind=3)(hs:¬a.space=n):uh n a=[]:=by unfold uh;rw[if_neg h,if_neg hs]
theorem fi.at{W:World}{H:List aa}{A:aa}{v:aX}(h:fi W [A] v)(ha:At H A):fi W H v:=⟨h.fs.at ha,fun x hx=>(h.ins x hx).at ha,h.bJ.at ha,h.bb.at ha⟩
theorem fi.eO{W:World}{H:List aa}{v:aX}(h:fi W H v):fi W [seps H] v:=⟨Rd.eO h.fs,fun x hx=>Rd.eO (h.ins x hx),Rd.eO h.bJ,Rd.eO h.bb⟩
theorem uM{ps:List fc}{n:Int}(h:aB ps n=none)(acts:List eN):lg ps n=1∧aloneR ps n acts=[]:=by unfold lg aloneR;rw[h];exact⟨rfl,rfl⟩
theorem xj{ps:List fc}{n:Int}{p:fc}(h:aB ps n=some p)(hc:¬cy p=0)(acts:List eN):lg ps n=cy p∧aloneR ps n acts=[]:=by
 refine⟨?_,?_⟩
 ·unfold lg;rw[h]
 ·unfold aloneR;rw[h];exact if_neg hc
theorem qK{ps:List fc}{n:Int}{p:fc}(h:aB ps n=some p)(hc:cy p=0)(acts:List eN):lg ps n=0∧aloneR ps n acts=gi (eP [Spc.new p] (cn acts n)) 0:=by
 refine⟨?_,?_⟩
 ·unfold lg;rw[h];exact hc
 ·unfold aloneR;rw[h];exact if_pos hc
theorem rA(p:fc):fN [p]=cy p:=by
 rw[ug (by simp)]
 by_cases h:cy p=0
 ·rw[h];unfold checkAll;rw[if_pos h];rfl
 ·unfold checkAll;rw[if_neg h]
theorem uN{l:List Spc}:∀ acts:List eN,(eP l acts).length=l.length
 | []=>rfl
 | a::acts=>(uN (l:=(oDo l a).2) acts).trans (yu _ _)
/-! the laws' own fact -/
def Ob:List eN:=[⟨1,1,0,3⟩,⟨3,5,0,0⟩,⟨1,0,0,0⟩]
def Oc:List eN:=[⟨1,0,0,3⟩,⟨3,0,0,0⟩]
theorem OV:cn Ob 1=Oc:=by decide +kernel
def NB:List eN:=[⟨1,1,0,0⟩]
def NC(x y z w:Nat):aa:=seps [NZ x y z,arr w 0 (rows cR NB)]
theorem IC{W:World}{x y z w:Nat}:Rd W [NC x y z w] ej 8 (rZ z 2) [jD x y,jD x y]:=Rd.eO (HM.at .here)
theorem Kq{W:World}{x y z w:Nat}:∀ p∈ [jD x y,jD x y],fi W [NC x y z w] p:=fun p hp=>((JV p hp).at .here).eO
theorem Fg{W:World}{x y z w:Nat}:Rd W [NC x y z w] cR 4 (rZ w 1) NB:=Rd.eO (Rd.lit (.there .here) rfl (fun _ _=>rfl) rfl)
theorem OW:lg [FC,FC] 1=0:=by decide +kernel
theorem OX:aloneR [FC,FC] 1 NB=OR:=by decide +kernel
end Go.SLYtpbjdoplfgeliaaGreat
namespace Go.SLYtpbjdoplfgeliaaGreat
open Go Go.RowKit
def Od(v:aL)(w:Bool):Bool:=(decide (v.mode=1) && !w) || decide (v.mode=3) || decide (v.mode=6)
end Go.SLYtpbjdoplfgeliaaGreat
namespace Go.SLYtpbjdoplfgeliaaGreat
open Go Go.RowKit Go.Proofs Go.Proofs.Tryz
attribute [local irreducible] aq aR bf bq bB Y
end Go.SLYtpbjdoplfgeliaaGreat
namespace Go.SLYtpbjdoplfgeliaaGreat
open Go Go.RowKit Go.Proofs Go.Proofs.Tryz
attribute [local irreducible] aq aR bf bq bB Y
theorem il{W:World}{b bs br:Nat}{l:Lib}:Fn Tryz.prog W 53 [ptr b] [bF b bs br l] Unit (fun _=>ptr bs) (fun _=>True) (fun _=>[bF b bs br l]):=by
 refine Fn.intro (N:=9) func53 rfl ntmps53 rfl fun F=>?_
 show aq _ _ _ _ _ _ [bF b bs br l,F]
 refine J 12 ?_
 refine .eQ rfl ?_
 refine J 4 ?_
 refine .o2 (C:=bF b bs br l) .auto rfl ?_
 rintro vv vw -
 exact JR 8 ()
theorem lF{W:World}{b:Nat}{bl:List Nat}{k:Krn}:Fn Tryz.prog W 35 [ptr b] [bR b bl k] Unit (fun _=>.int .i64 (k.owner.length:Int)) (fun _=>True) (fun _=>[bR b bl k]):=by
 refine Fn.intro (N:=10) func35 rfl ntmps35 rfl fun F=>?_
 show aq _ _ _ _ _ _ [bR b bl k,F]
 refine J 12 ?_
 refine .eQ rfl ?_
 refine J 4 ?_
 refine .o3 (C:=bR b bl k) .auto rfl ?_
 rintro vo vl xs ⟨hxb,hxs⟩
 have hxl:=aC hxs
 have hbl:=aC hxb
 have hxx:=And.intro hxb hxs
 exact JR 9 ()
theorem rB{W:World}{b:Nat}{bl:List Nat}{k:Krn}:Fn Tryz.prog W 57 [ptr b] [bR b bl k] Unit (fun _=>.int .i64 (k.libs.length:Int)) (fun _=>True) (fun _=>[bR b bl k]):=by
 refine Fn.intro (N:=10) func57 rfl ntmps57 rfl fun F=>?_
 show aq _ _ _ _ _ _ [bR b bl k,F]
 refine J 12 ?_
 refine .eQ rfl ?_
 refine J 4 ?_
 refine .o3 (C:=bR b bl k) .auto rfl ?_
 rintro vo vl xs ⟨hxb,hxs⟩
 have hxl:=aC hxs
 have hbl:=aC hxb
 have hxx:=And.intro hxb hxs
 refine J 9 ?_
 refine .aP rfl rfl fun w s=>⟨(),?_,trivial,aj .auto s⟩
 rw[← hxl]
theorem oy{W:World}{b:Nat}{bl:List Nat}{k:Krn}{p:Int}:Fn Tryz.prog W 89 [ptr b,.int .i64 p] [bR b bl k] Unit (fun _=>.bool (fj k p)) (fun _=>True) (fun _=>[bR b bl k]):=by
 refine Fn.intro (N:=13) func89 rfl ntmps89 rfl fun F=>?_
 show aq _ _ _ _ _ _ [bR b bl k,F]
 refine J 10 ?_
 apply aR.gZ 5 12 7 [7,8,9,10,11,12] rfl
 ·intro h7
  refine J 2 ?_
  refine .cg call35 rfl lF fun _ _=>?_
  exact JS 3
 ·intro h7
  exact JS 6
 exact JR 4 ()
theorem Cn{W:World}{b:Nat}{bl:List Nat}{k:Krn}{p:Int}:Fn Tryz.prog W 108 [ptr b,.int .i64 p] [bR b bl k] Unit (fun _=>.tuple #[.int .i64 (k.ownerOf p).1,.bool (k.ownerOf p).2]) (fun _=>True) (fun _=>[bR b bl k]):=by
 refine Fn.intro (N:=27) func108 rfl ntmps108 rfl fun F=>?_
 show aq _ _ _ _ _ _ [bR b bl k,F]
 refine J 11 ?_
 refine .c call89 rfl oy fun _ _=>?_
 refine J 2 ?_
 apply aR.iL 9 19 10 [10,11,12,13,14,15,16,17,18,19] rfl
 ·intro h10
  have h9:fj k p=true:=by simpa using h10
  obtain⟨i,o,hi,ho⟩:=jf h9
  have hil:=(List.getElem?_eq_some_iff.1 ho).1
  refine .o3 (C:=bR b bl k) .auto rfl ?_
  rintro vo vl xs ⟨hxb,hxs⟩
  have hxl:=aC hxs
  have hbl:=aC hxb
  have hxx:=And.intro hxb hxs
  refine J 5 ?_
  refine .g (.sM i underlying50 sizeOf3 rfl rfl Rd.s hi (by omega)) ?_
  refine .g (.fY (Y.load isAgg3 rfl (Cell.KE Rd.s ho rfl)) ((xJ ho).trans (congrArg _ hi.symm))) ?_
  exact JS 3
 ·intro h10
  exact JS 10
 refine JD 2 (fun h19=>?_) fun h19=>?_
 ·simp only[Bool.or_eq_true,decide_eq_true_eq,Bool.not_eq_true'] at h19
  refine J 8 ?_
  refine .ez rfl rfl rfl fun w s=>⟨(),?_,trivial,aj .auto s⟩
  rw[tc h19]
 ·simp only[Bool.or_eq_false_iff,decide_eq_false_iff_not,Bool.not_eq_false'] at h19
  refine J 4 ?_
  obtain⟨i,o,rfl,ho⟩:=jf (by simpa using h19.1)
  have hil:=(List.getElem?_eq_some_iff.1 ho).1
  have hoo:=xJ ho
  refine .o3 (C:=bR b bl k) .auto rfl ?_
  rintro vo vl xs ⟨hxb,hxs⟩
  have hxl:=aC hxs
  have hbl:=aC hxb
  have hxx:=And.intro hxb hxs
  refine J 5 ?_
  refine .p (.ix i rfl rfl rfl (by omega)) ?_
  refine J 6 ?_
  refine .ez rfl rfl rfl fun w s=>⟨(),?_,trivial,aj .auto s⟩
  rw[qe ho (by rw[hoo];exact h19.2)]
theorem Fh{W:World}{b:Nat}{bl:List Nat}{k:Krn}(hl:k.owner.length≤64):Fn Tryz.prog W 43 [ptr b] [bR b bl k] Value (fun u=>u) (fun _=>True) (fun u=>[sl av 1 u k.free,bR b bl k]):=by
 refine Fn.intro (N:=24) func43 rfl ntmps43 rfl fun F=>?_
 show aq _ _ _ _ _ _ [bR b bl k,F]
 refine J 14 ?_
 refine .c call35 rfl lF fun _ _=>?_
 refine .o3 (C:=bR b bl k) .auto rfl ?_
 rintro vo vl xs ⟨hxb,hxs⟩
 have hxl:=aC hxs
 have hbl:=aC hxb
 have hxx:=And.intro hxb hxs
 refine J 4 ?_
 refine .bm (X:=Nat×Value×List Int) [3,4,7,8,9,10,11,12,13,14,15,16,17,18,19,20,21,22] (fun z=>k.owner.length-z.1) (fun z=>z.1≤k.owner.length∧z.2.2.length≤z.1∧k.free=z.2.2++freeFrom (k.owner.drop z.1) z.1) (fun z=>[(7,some (.int .i64 (z.1:Int))),(3,some z.2.1)]) (fun z=>[sl av 1 z.2.1 z.2.2,arr b 0 [vo,vl],sl av 1 vo k.owner,sl bP 1 vl xs,aF (fun x:Nat×Lib=>cX x.1 x.2) xs,F]) (0,.slice none 0 0,[]) ?_ ?_ ?_ ?_
 ·exact⟨Nat.zero_le _,Nat.le_refl _,rfl⟩
 ·exact⟨rfl,rfl,trivial⟩
 ·exact fun w s=>aw.kept .auto w s
 rintro⟨n,u,ys⟩ ⟨hk,hyl,hn⟩
 simp only at hk hyl hn
 refine JD 6 (fun h8=>?_) fun h8=>?_
 ·refine J 12 ?_
  obtain⟨o,ho⟩:=ak (show n<k.owner.length by omega)
  refine JD 10 (fun h17=>?_) fun h17=>?_
  ·refine J 3 ?_
   refine .ai rfl (af.gF 3 rfl rfl (by kernel_rfl)) ?_
   rintro _ _ ⟨b20,rfl,rfl⟩
   refine .ai rfl (af.fJ (enc:=av) (k:=1) (n:Int) rfl underlying50 underlying50 typeInfo3 rfl rfl rfl (by decide) rfl rfl rfl .auto rfl .auto (by first | omega | (dsimp only;omega)) rfl) ?_
   rintro _ _ ⟨v21,rfl,rfl⟩
   refine J 8 ?_
   refine .aH (n+1,v21,ys++[(n:Int)]) .auto rfl ?_ ?_ ?_ ?_
   ·show k.owner.length-(n+1)<k.owner.length-n;omega
   ·exact⟨by show n+1≤_;omega,by simp;omega,by rw[hn,Gs ho h17];simp⟩
   ·exact⟨rfl,rfl,trivial⟩
   ·exact fun w s=>aw.kept .auto w s
  ·refine J 7 ?_
   refine .aH (n+1,u,ys) .auto rfl ?_ ?_ ?_ ?_
   ·show k.owner.length-(n+1)<k.owner.length-n;omega
   ·exact⟨by show n+1≤_;omega,by show ys.length≤n+1;omega,by rw[hn,Jl ho h17]⟩
   ·exact⟨rfl,rfl,trivial⟩
   ·exact fun w s=>aw.kept .auto w s
 ·refine J 12 ?_
  obtain rfl:n=k.owner.length:=by omega
  rw[Gt (Nat.le_refl _),List.append_nil] at hn
  subst hn
  refine .aP rfl rfl fun w s=>⟨_,?_,trivial,aj .auto s⟩
  rfl
theorem AH{W:World}{b:Nat}{bl:List Nat}{k:Krn}{m:Nat}(hk:qY m k):Fn Tryz.prog W 36 [ptr b] [bR b bl k] Value (fun u=>u) (fun _=>True) (fun u=>[sl av 1 u k.demand,bR b bl k]):=by
 refine Fn.intro (N:=25) func36 rfl ntmps36 rfl fun F=>?_
 show aq _ _ _ _ _ _ [bR b bl k,F]
 have hll:=hk.ll
 refine J 14 ?_
 refine .c call57 rfl rB fun _ _=>?_
 refine .o3 (C:=bR b bl k) .auto rfl ?_
 rintro vo vl xs ⟨hxb,hxs⟩
 have hxl:=aC hxs
 have hbl:=aC hxb
 have hxx:=And.intro hxb hxs
 refine J 4 ?_
 refine .bm (X:=Nat×Value) [3,4,7,8,9,10,11,12,13,14,15,16,17,18,19,20,21,22,23] (fun z=>k.libs.length-z.1) (fun z=>z.1≤k.libs.length) (fun z=>[(7,some (.int .i64 (z.1:Int))),(3,some z.2)]) (fun z=>[sl av 1 z.2 (k.demand.take z.1),arr b 0 [vo,vl],sl av 1 vo k.owner,sl bP 1 vl xs,aF (fun x:Nat×Lib=>cX x.1 x.2) xs,F]) (0,.slice none 0 0) ?_ ?_ ?_ ?_
 ·exact Nat.zero_le _
 ·exact⟨rfl,rfl,trivial⟩
 ·exact fun w s=>aw.kept .auto w s
 rintro⟨n,u⟩ hn
 simp only at hn
 refine JD 6 (fun h8=>?_) fun h8=>?_
 ·refine J 11 ?_
  obtain⟨x,hx⟩:=ak (show n<xs.length by omega)
  have hx2:=eT hxs hx
  have hlo:=hk.gY x.2 (List.mem_of_getElem? hx2)
  refine J 8 ?_
  refine .fr .auto (cZ (f:=fun x:Nat×Lib=>cX x.1 x.2) hx) ?_
  refine .o2 (C:=cX x.1 x.2) .auto rfl ?_
  rintro bs br -
  refine .c call53 rfl il fun _ _=>?_
  refine .o2 (C:=bF x.1 bs br x.2) .auto rfl ?_
  rintro vv vw -
  refine .o1 (C:=bV bs x.2.aM) .auto rfl ?_
  rintro ps -
  refine .c call58 rfl (oo hlo.th) fun u19 _=>?_
  refine J 1 ?_
  refine .ai rfl (af.gF 3 rfl rfl (by kernel_rfl)) ?_
  rintro _ _ ⟨b21,rfl,rfl⟩
  refine .to (A:=aF (fun x:Nat×Lib=>cX x.1 x.2) xs) .auto (eK (f:=fun x:Nat×Lib=>cX x.1 x.2) hx) ?_
  refine .ai rfl (af.fJ (enc:=av) (k:=1) (x.2.aM.ready.length:Int) rfl underlying50 underlying50 typeInfo3 rfl rfl rfl (by decide) rfl rfl rfl .auto rfl .auto (by rw[List.length_take];omega) rfl) ?_
  rintro _ _ ⟨v22,rfl,rfl⟩
  refine J 8 ?_
  refine .aH (n+1,v22) .auto rfl ?_ ?_ ?_ ?_
  ·show k.libs.length-(n+1)<k.libs.length-n;omega
  ·show n+1≤_;omega
  ·exact⟨rfl,rfl,trivial⟩
  ·show ∀ w,Sat _ w _→Sat _ w (seps [sl av 1 v22 (k.demand.take (n+1)),arr b 0 [vo,vl],sl av 1 vo k.owner,sl bP 1 vl xs,aF (fun x:Nat×Lib=>cX x.1 x.2) xs,F])
   rw[Gu hx2]
   exact fun w s=>aw.kept .auto w s
 ·refine J 12 ?_
  obtain rfl:n=k.libs.length:=by omega
  rw[List.take_of_length_le (show k.demand.length≤k.libs.length from by unfold Krn.demand;rw[List.length_map];exact Nat.le_refl _)]
  refine .aP rfl rfl fun w s=>⟨_,?_,trivial,aj .auto s⟩
  rfl
theorem gk{W:World}{b:Nat}{bl:List Nat}{k:Krn}{n:Int}:Fn Tryz.prog W 40 [ptr b,.int .i64 n] [bR b bl k] Unit (fun _=>dR (aB bl n)) (fun _=>True) (fun _=>[bR b bl k]):=by
 refine Fn.intro (N:=27) func40 rfl ntmps40 rfl fun F=>?_
 show aq _ _ _ _ _ _ [bR b bl k,F]
 refine .o3 (C:=bR b bl k) .auto rfl ?_
 rintro vo vl xs ⟨hxb,hxs⟩
 have hxl:=aC hxs
 have hbl:=aC hxb
 have hxx:=And.intro hxb hxs
 refine J 11 ?_
 apply aR.iL 3 10 7 [7,8,9,10] rfl
 ·intro h7
  exact JS 4
 ·intro h7
  exact JS 4
 refine J 1 ?_
 apply aR.ga 8 19 11 [11,12,13,14,15,16,17,18,19] rfl
 ·intro h11
  exact JS 9
 ·intro h11
  exact JS 9
 refine JD 2 (fun h19=>?_) fun h19=>?_
 ·simp only[Bool.or_eq_true,decide_eq_true_eq] at h19
  refine J 7 ?_
  refine .aP rfl rfl fun w s=>⟨(),?_,trivial,aj .auto s⟩
  rw[(Le (j7 hxb hxs) (by rw[← hxl];simpa using h19)).1];rfl
 ·simp only[Bool.or_eq_false_iff,decide_eq_false_iff_not] at h19
  refine J 4 ?_
  obtain⟨i,rfl⟩:∃ i:Nat,n=(i:Int):=⟨n.toNat,by omega⟩
  obtain⟨x,hx⟩:=ak (show i<xs.length by omega)
  have hil:=(List.getElem?_eq_some_iff.1 hx).1
  refine J 5 ?_
  refine .p (.ix i rfl rfl rfl (by omega)) ?_
  refine J 5 ?_
  refine .aP rfl rfl fun w s=>⟨(),?_,trivial,aj .auto s⟩
  rw[aY,eT hxb hx];rfl
theorem qL{W:World}{b:Nat}{bl:List Nat}{k:Krn}{p:Int}{m:Nat}(hk:qY m k):Fn Tryz.prog W 91 [ptr b,.int .i64 p] [bR b bl k] Unit (fun _=>.tuple #[dR (td bl k p),.int .i64 (dy k p)]) (fun _=>True) (fun _=>[bR b bl k]):=by
 refine Fn.intro (N:=27) func91 rfl ntmps91 rfl fun F=>?_
 show aq _ _ _ _ _ _ [bR b bl k,F]
 refine J 11 ?_
 refine .c call89 rfl oy fun _ _=>?_
 refine JD 3 (fun h11=>?_) fun h11=>?_
 ·refine J 8 ?_
  refine .ez rfl rfl rfl fun w s=>⟨(),?_,trivial,aj .auto s⟩
  rw[(vU (bl:=bl) (by simpa using h11)).1,(vU (bl:=bl) (by simpa using h11)).2];rfl
 ·refine J 6 ?_
  refine .c call108 rfl Cn fun _ _=>?_
  refine JD 14 (fun h19=>?_) fun h19=>?_
  ·refine J 8 ?_
   refine .ez rfl rfl rfl fun w s=>⟨(),?_,trivial,aj .auto s⟩
   rw[(vV (bl:=bl) (by simpa using h11) (by simpa using h19)).1,(vV (bl:=bl) (by simpa using h11) (by simpa using h19)).2];rfl
  ·refine J 4 ?_
   refine .o3 (C:=bR b bl k) .auto rfl ?_
   rintro vo vl xs ⟨hxb,hxs⟩
   have hxl:=aC hxs
   have hbl:=aC hxb
   have hxx:=And.intro hxb hxs
   obtain⟨i,o,rfl,ho,hon,hoe⟩:=Gv (by simpa using h11) (by simpa using h19)
   obtain⟨n,l,rfl,hl⟩:=hk.nat ho hon
   obtain⟨x,hx,rfl,hbx⟩:=eL hxb hxs hl
   have hil:=(List.getElem?_eq_some_iff.1 hx).1
   rw[(jq (bl:=bl) ho).1,(jq (bl:=bl) ho).2,hbx]
   refine J 5 ?_
   refine .p (.sM n underlying152 sizeOf85 rfl rfl Rd.s (congrArg (·.1) hoe) (by omega)) ?_
   exact JR 6 ()
theorem Fi{W:World}{b:Nat}{bl:List Nat}{k:Krn}{p:Int}{m:Nat}(hk:qY m k)(hm:m≤300000000):Fn Tryz.prog W 32 [ptr b,.int .i64 p] [bR b bl k] Unit (fun _=>.int .i64 (k.take p).1) (fun _=>True) (fun _=>[bR b bl (k.take p).2]):=by
 refine Fn.intro (N:=25) func32 rfl ntmps32 rfl fun F=>?_
 show aq _ _ _ _ _ _ [bR b bl k,F]
 refine J 9 ?_
 refine .c call91 rfl (qL hk) fun _ _=>?_
 refine JD 14 (fun h14=>?_) fun h14=>?_
 ·refine J 8 ?_
  rw[jr h14]
  exact JR 0 ()
 ·refine J 4 ?_
  refine .o3 (C:=bR b bl k) .auto rfl ?_
  rintro vo vl xs ⟨hxb,hxs⟩
  have hxl:=aC hxs
  have hbl:=aC hxb
  have hxx:=And.intro hxb hxs
  obtain⟨i,n,l,rfl,ho,hl,he⟩:=dA hk (Decidable.of_not_not h14)
  obtain⟨x,hx,rfl,hbx⟩:=eL hxb hxs hl
  have hil:=(List.getElem?_eq_some_iff.1 hx).1
  have hio:=(List.getElem?_eq_some_iff.1 ho).1
  have hlo:=hk.gY x.2 (List.mem_of_getElem? hl)
  rw[he]
  refine J 5 ?_
  refine .p (.ix i rfl rfl rfl (by omega)) ?_
  refine .ai rfl (af.eG (x':=(-1:Int)) rfl rfl sizeOf3 rfl ho (by decide) rfl .auto) ?_
  rintro _ _ ⟨rfl,rfl⟩
  refine J 4 ?_
  rw[(jq (bl:=bl) ho).2,hbx]
  refine .fr .auto (cZ (f:=fun x:Nat×Lib=>cX x.1 x.2) hx) ?_
  refine .o2 (C:=cX x.1 x.2) .auto rfl ?_
  rintro bs br -
  refine J 2 ?_
  refine .c call92 rfl (BZ (l:=x.2) (b:=x.1) (bs:=bs) (br:=br) (p:=(i:Int)) ⟨by have:=hlo.w;omega,Nat.le_trans hlo.vl (by decide),fun v hv=>Nat.le_trans (hlo.e v hv) (by omega)⟩) fun _ _=>?_
  refine .to (A:=aF (fun x:Nat×Lib=>cX x.1 x.2) (xs.set n (x.1,(x.2.cK (i:Int)).2))) .auto (kN (f:=fun x:Nat×Lib=>cX x.1 x.2) (x.1,(x.2.cK (i:Int)).2) hx) ?_
  have hss:=m0 hxb hxs hx (x.2.cK (i:Int)).2
  refine .to (A:=sl bP 1 vl (xs.set n (x.1,(x.2.cK (i:Int)).2))) (Bs:=[sl bP 1 vl xs]) .auto (qf (hxb.trans hss.1.symm)) ?_
  exact JR 8 ()
theorem Fj{W:World}{b:Nat}{bl:List Nat}{k:Krn}{p n:Int}{m:Nat}(hk:qY m k)(hm:m≤300000000):Fn Tryz.prog W 31 [ptr b,.int .i64 p,.int .i64 n] [bR b bl k] Unit (fun _=>.int .i64 (k.eS p n).1) (fun _=>True) (fun _=>[bR b bl (k.eS p n).2]):=by
 refine Fn.intro (N:=39) func31 rfl ntmps31 rfl fun F=>?_
 show aq _ _ _ _ _ _ [bR b bl k,F]
 refine J 9 ?_
 refine .c call40 rfl gk fun _ _=>?_
 refine J 9 ?_
 refine .c call89 rfl oy fun _ _=>?_
 refine J 2 ?_
 apply aR.iL 3 19 16 [16,17,18,19] rfl
 ·intro h16
  exact JS 4
 ·intro h16
  exact JS 4
 refine JD 3 (fun h11=>?_) fun h11=>?_
 ·simp only[Bool.or_eq_true,Bool.not_eq_true'] at h11
  refine .o3 (C:=bR b bl k) .auto rfl ?_
  rintro vo vl xs ⟨hxb,hxs⟩
  have hxl:=aC hxs
  have hbl:=aC hxb
  have hxx:=And.intro hxb hxs
  rw[Bl (j7 hxb hxs) h11]
  exact JR 8 ()
 ·simp only[Bool.or_eq_false_iff,Bool.not_eq_false'] at h11
  refine .o3 (C:=bR b bl k) .auto rfl ?_
  rintro vo vl xs ⟨hxb,hxs⟩
  have hxl:=aC hxs
  have hbl:=aC hxb
  have hxx:=And.intro hxb hxs
  obtain⟨i,j,o,x,rfl,rfl,ho,hx,hl,hbx⟩:=D5 hxb hxs h11
  have hio:=(List.getElem?_eq_some_iff.1 ho).1
  have hlo:=hk.gY x.2 (List.mem_of_getElem? hl)
  refine J 7 ?_
  refine .p (.ix i rfl rfl rfl (by omega)) ?_
  refine JD 5 (fun h20=>?_) fun h20=>?_
  ·rw[Bk ho ((aY _ _).trans hl) h20]
   exact JR 8 ()
  ·obtain rfl:=Decidable.of_not_not h20
   rw[mb ho hl]
   refine J 11 ?_
   refine .p (.ix i rfl rfl rfl (by omega)) ?_
   refine .ai rfl (af.eG (x':=(j:Int)) rfl rfl sizeOf3 rfl ho (by decide) rfl .auto) ?_
   rintro _ _ ⟨rfl,rfl⟩
   refine J 4 ?_
   rw[hbx]
   refine .fr .auto (cZ (f:=fun x:Nat×Lib=>cX x.1 x.2) hx) ?_
   refine .o2 (C:=cX x.1 x.2) .auto rfl ?_
   rintro bs br -
   refine J 2 ?_
   refine .c call90 rfl (EW (l:=x.2) (b:=x.1) (bs:=bs) (br:=br) (p:=(i:Int)) (by have:=hlo.w;omega)) fun _ _=>?_
   refine .to (A:=aF (fun x:Nat×Lib=>cX x.1 x.2) (xs.set j (x.1,(x.2.dq (i:Int)).2))) .auto (kN (f:=fun x:Nat×Lib=>cX x.1 x.2) (x.1,(x.2.dq (i:Int)).2) hx) ?_
   have hss:=m0 hxb hxs hx (x.2.dq (i:Int)).2
   refine .to (A:=sl bP 1 vl (xs.set j (x.1,(x.2.dq (i:Int)).2))) (Bs:=[sl bP 1 vl xs]) .auto (qf (hxb.trans hss.1.symm)) ?_
   exact JR 8 ()
end Go.SLYtpbjdoplfgeliaaGreat
namespace Go.SLYtpbjdoplfgeliaaGreat
open Go Go.RowKit Go.Proofs Go.Proofs.Tryz
attribute [local irreducible] aq aR bf bq bB Y
theorem ID{W:World}{A:aa}{v:Value}{ps:List aX}{procs:Int}(hr:Rd W [A] ej 8 v ps)(hp:∀ p∈ps,fi W [A] p)(hb:ps.length≤1000000000∧ ∀ p∈ps,p.fs.length≤1000000000∧p.bJ.length≤1000000000∧p.bb.length≤1000000000):Fn Tryz.prog W 29 [.int .i64 procs,v] [A] (Option Nat) (fun o=>.tuple #[dR o,.int .i64 (dL procs (ps.map aX.p))]) (fun o=>o.isSome=decide (dL procs (ps.map aX.p)=0)) (fun o=>[optH (fun b=>Gr b (Krn.new procs (ps.map aX.p))) o,A]):=by
 refine Fn.intro (N:=60) func29 rfl ntmps29 rfl fun F=>?_
 haveI hRI:∀ (H:List aa) [bx H A],aA W H v ej 8 ps:=fun H h=>⟨hr.at h.has⟩
 show aq _ _ _ _ _ _ [A,F]
 have hml:(ps.map aX.p).length=ps.length:=List.length_map ..
 refine J 12 ?_
 apply aR.ga 3 16 13 [13,14,15,16] rfl
 ·intro h13
  exact JS 4
 ·intro h13
  exact JS 4
 refine J 1 ?_
 apply aR.iL 4 21 17 [17,18,19,20,21] rfl
 ·intro h17
  exact JS 5
 ·intro h17
  exact JS 5
 refine J 1 ?_
 apply aR.iL 4 26 22 [22,23,24,25,26] rfl
 ·intro h22
  exact JS 5
 ·intro h22
  exact JS 5
 refine JD 2 (fun h26=>?_) fun h26=>?_
 ·simp only[Bool.or_eq_true,decide_eq_true_eq] at h26
  refine J 8 ?_
  refine .ez rfl rfl rfl fun w s=>⟨none,?_,by rw[zw (by rw[hml];exact h26)];rfl,aj .auto s⟩
  rw[zw (by rw[hml];exact h26)];rfl
 ·simp only[Bool.or_eq_false_iff,decide_eq_false_iff_not] at h26
  refine J 4 ?_
  have hbd:1≤procs∧procs≤64∧1≤(ps.map aX.p).length∧(ps.map aX.p).length≤8:=by rw[hml];omega
  obtain⟨N,rfl⟩:∃ N:Nat,procs=(N:Int):=⟨procs.toNat,by omega⟩
  have hke:=Jm hbd
  refine .ai rfl (af.gF 3 rfl rfl (by kernel_rfl)) ?_
  rintro _ _ ⟨b27,rfl,rfl⟩
  refine J 1 ?_
  refine .c call87 rfl (J3 (A:=arr b27 0 [.int .i64 (-1)]) (a := -1) (Rd.lit .here rfl (fun _ _=>rfl) rfl) (by omega)) fun u29 _=>?_
  refine .cM (fun w s=>Rd.shape (Rd.sl .auto) w s) fun e=>?_
  obtain⟨a29,c29,rfl⟩:=e
  rw[show(List.replicate N (-1:Int)).length=N from List.length_replicate ..]
  refine .p (.gJ (fun v1=>[v1,(.slice none 0 0)]) rfl (by kernel_rfl)) ?_
  refine .ai rfl (af.box rfl rfl rfl) ?_
  rintro _ _ ⟨b31,rfl,rfl⟩
  refine J 12 ?_
  refine .bm (X:=Nat×Value×List (Nat×Lib)) [4,5,8,9,10,34,35,36,37,38,39,40,41,42,43,44,45,46,47,48,49,50,51,52,53,54,55,56,57,58] (fun z=>ps.length-z.1) (fun z=>z.1≤ps.length∧z.2.2.length=z.1∧z.2.2.map (·.2)=((ps.map aX.p).take z.1).map (fun p=>Lib.new (Spc.new p) N)∧checkAll (ps.map aX.p)=checkAll ((ps.map aX.p).drop z.1)) (fun z=>[(34,some (.int .i64 (z.1:Int)))]) (fun z=>[arr b31 0 [.slice a29 N c29,z.2.1],sl av 1 (.slice a29 N c29) (List.replicate N (-1)),sl bP 1 z.2.1 z.2.2,aF (fun x:Nat×Lib=>cX x.1 x.2) z.2.2,A,F]) (0,.slice none 0 0,[]) ?_ ?_ ?_ ?_
  ·exact⟨Nat.zero_le _,rfl,rfl,rfl⟩
  ·exact⟨rfl,trivial⟩
  ·exact fun w s=>aw.kept .auto w s
  rintro⟨n,vl,xs⟩ ⟨hk,hxl,hxm0,hck⟩
  simp only at hk hxl hxm0 hck
  refine JD 6 (fun h35=>?_) fun h35=>?_
  ·refine J 6 ?_
   obtain⟨x,hx⟩:=ak (show n<ps.length by omega)
   have hxm:(ps.map aX.p)[n]?=some x.p:=by rw[List.getElem?_map,hx];rfl
   have hpx:=hp x (List.mem_of_getElem? hx)
   have hbx:=hb.2 x (List.mem_of_getElem? hx)
   refine .cM (fun w s=>xI hpx .auto w s) fun hone=>?_
   refine J 1 ?_
   refine .p (.la rfl (Cells.rd Rd.s hx)) ?_
   refine .ai rfl (af.alloc rfl zeroValue52 rfl) ?_
   rintro _ _ ⟨b8,rfl,rfl⟩
   refine .ai rfl (af.KF (by exact sizeOf52) rfl rfl hone rfl) ?_
   rintro _ _ ⟨rfl,rfl⟩
   refine J 5 ?_
   refine .c call20 rfl (uq hpx hbx) fun o ho=>?_
   refine JD 14 (fun h44=>?_) fun h44=>?_
   ·refine J 14 ?_
    refine .ez rfl rfl rfl fun w s=>⟨none,?_,by rw[hke,hck,tf hxm h44];exact(decide_eq_false h44).symm,aj .auto s⟩
    rw[hke,hck,tf hxm h44];rfl
   ·have h44:=Decidable.of_not_not h44
    obtain⟨bs,rfl⟩:=Option.isSome_iff_exists.1 (ho.trans (decide_eq_true h44))
    refine .fr (A:=optH (fun b=>bV b (Spc.new x.p)) (some bs)) (Bs:=[bV bs (Spc.new x.p)]) .auto gN ?_
    refine .o1 (C:=bV bs (Spc.new x.p)) .auto rfl ?_
    rintro pt -
    refine J 2 ?_
    refine .draw [arr b31 0 [.slice a29 N c29,vl]] [0,0,0,0,0,1,1,2,2,2,1,1,3] rfl (by kernel_rfl) ?_
    refine J 7 ?_
    refine .c2 call88 rfl (J5 (bs:=bs) (ps:=pt) (s:=Spc.new x.p) (p:=(N:Int)) (xM _)) fun x53 _=>?_
    refine .d2 rfl Kept.auto (af.gF 85 rfl rfl (by kernel_rfl)) (by rintro _ _ ⟨b54,rfl,rfl⟩;exact Kept.auto) ?_
    rintro _ _ ⟨b54,rfl,rfl⟩
    refine .d2 rfl Kept.auto (af.fJ (enc:=bP) (k:=1) ((x53,Lib.new (Spc.new x.p) N):Nat×Lib) rfl underlying152 underlying152 typeInfo85 rfl rfl rfl (by decide) rfl rfl rfl .auto rfl .auto (by first | omega | (dsimp only;omega)) rfl) (by rintro _ _ ⟨v55,rfl,rfl⟩;exact Kept.auto) ?_
    rintro _ _ ⟨v55,rfl,rfl⟩
    refine J 2 ?_
    refine .d3 rfl (af.l9 sizeOf152 rfl rfl rfl) ?_
    rintro _ _ ⟨rfl,rfl⟩
    refine J 7 ?_
    refine .aH (n+1,v55,xs++[(x53,Lib.new (Spc.new x.p) N)]) .auto rfl ?_ ?_ ?_ ?_
    ·show ps.length-(n+1)<ps.length-n;omega
    ·exact⟨by show n+1≤_;omega,by simp[hxl],by rw[aU hxm];simp[hxm0],by rw[hck,Bm hxm h44]⟩
    ·exact⟨rfl,trivial⟩
    ·show ∀ w,Sat _ w _→Sat _ w (seps [_,_,sl bP 1 v55 (xs++[(x53,Lib.new (Spc.new x.p) N)]),aF (fun x:Nat×Lib=>cX x.1 x.2) (xs++[(x53,Lib.new (Spc.new x.p) N)]),A,F])
     rw[jZ]
     exact fun w s=>aw.kept .auto w s
  ·refine J 13 ?_
   obtain rfl:n=ps.length:=by omega
   have hk0:dL N (ps.map aX.p)=0:=by rw[hke,hck,List.drop_of_length_le (by rw[hml];omega)];rfl
   have hxx:xs.map (·.1)=xs.map (·.1)∧xs.map (·.2)=(Krn.new N (ps.map aX.p)).libs:=⟨rfl,by rw[hxm0,List.take_of_length_le (by rw[hml];omega)];rfl⟩
   refine .ez rfl rfl rfl fun w s=>⟨some b31,?_,by rw[hk0];rfl,aj .auto s⟩
   rw[hk0];rfl
theorem AI{W:World}{b:Nat}{dv pv ov:Value}{d:Deal}{A:aa}(hd:Rd W [A] av 1 dv d.demand)(hpr:Rd W [A] av 1 pv d.prio)(hok:xK d){n:Nat}{p:Int}(hn:n<d.demand.length):Fn Tryz.prog W 195 [ptr b,.int .i64 (n:Int),.int .i64 p] [arr b 0 [.int .i64 d.left,dv,pv,ov],sl av 1 ov d.out,A] Unit (fun _=>.bool (d.lH n p)) (fun _=>True) (fun _=>[arr b 0 [.int .i64 d.left,dv,pv,ov],sl av 1 ov d.out,A]):=by
 refine Fn.intro (N:=33) func195 rfl ntmps195 rfl fun F=>?_
 haveI hRD:∀ (H:List aa) [bx H A],aA W H dv av 1 d.demand:=fun H h=>⟨hd.at h.has⟩
 haveI hRP:∀ (H:List aa) [bx H A],aA W H pv av 1 d.prio:=fun H h=>⟨hpr.at h.has⟩
 show aq _ _ _ _ _ _ [arr b 0 [.int .i64 d.left,dv,pv,ov],sl av 1 ov d.out,A,F]
 obtain⟨z,hz⟩:=ak hn
 obtain⟨x,hx⟩:=ak (show n<d.prio.length by rw[hok.pl];exact hn)
 obtain⟨y,hy⟩:=ak (show n<d.out.length by rw[hok.ol];exact hn)
 have hpl:=hok.pl
 have hol:=hok.ol
 have hdl:=hok.dl
 refine J 6 ?_
 refine .draw [] [1,1,1,1,1,1,1,1,1,1,1,1,1,1,1,1,1,1,1,1,1,1,1,1,1,1,1] rfl (by kernel_rfl) ?_
 refine J 5 ?_
 refine .p (.ix n rfl rfl rfl (by omega)) ?_
 refine .p (.lr rfl hx) ?_
 refine J 3 ?_
 apply bf.gZ 16 32 16 [16,17,18,19,20,21,22,23,24,25,26,27,28,29,30,31,32] rfl
 ·intro h16
  refine J 5 ?_
  refine .g (.ix n rfl rfl rfl (by omega)) ?_
  refine .g (.lr rfl hy) ?_
  refine J 5 ?_
  refine .g (.ix n rfl rfl rfl (by omega)) ?_
  refine .g (.lr rfl hz) ?_
  exact JS 3
 ·intro h16
  exact JS 17
 refine J 4 ?_
 refine .aP rfl rfl fun w s=>⟨(),?_,trivial,aj .auto s⟩
 unfold Deal.lH;rw[bA hx,bA hy,bA hz]
theorem AJ{W:World}{b:Nat}{dv pv ov:Value}{d:Deal}{p:Int}{f:Nat}{A:aa}(hd:Rd W [A] av 1 dv d.demand)(hpr:Rd W [A] av 1 pv d.prio)(hok:xK d)(hf:f<d.demand.length):Fn Tryz.prog W 145 [ptr b,.int .i64 p,.int .i64 (f:Int)] [arr b 0 [.int .i64 d.left,dv,pv,ov],sl av 1 ov d.out,A] Unit (fun _=>.bool (d.round p f).2) (fun _=>True) (fun _=>[arr b 0 [.int .i64 (d.round p f).1.left,dv,pv,ov],sl av 1 ov (d.round p f).1.out,A]):=by
 refine Fn.intro (N:=56) func145 rfl ntmps145 rfl fun F=>?_
 haveI hRD:∀ (H:List aa) [bx H A],aA W H dv av 1 d.demand:=fun H h=>⟨hd.at h.has⟩
 haveI hRP:∀ (H:List aa) [bx H A],aA W H pv av 1 d.prio:=fun H h=>⟨hpr.at h.has⟩
 show aq _ _ _ _ _ _ [arr b 0 [.int .i64 d.left,dv,pv,ov],sl av 1 ov d.out,A,F]
 have hln:d.demand.length≤8:=hok.dl
 refine J 22 ?_
 refine .bm (X:=Nat×Deal×Bool) [7,8,9,15,16,17,18,19,20,21,22,23,24,25,26,27,28,29,30,31,32,33,34,35,36,37,38,39,40,41,42,43,44,45,46,47,48,49,50,51,52,53,54] (fun z=>d.demand.length-z.1) (fun z=>z.1≤d.demand.length∧xK z.2.1∧z.2.1.demand=d.demand∧z.2.1.prio=d.prio∧d.round p f=Deal.go p f (d.demand.length-z.1) z.1 z.2.1 z.2.2) (fun z=>[(15,some (.int .i64 (z.1:Int))),(7,some (.bool z.2.2))]) (fun z=>[arr b 0 [.int .i64 z.2.1.left,dv,pv,ov],sl av 1 ov z.2.1.out,A,F]) (0,d,false) ?_ ?_ ?_ ?_
 ·exact⟨Nat.zero_le _,hok,rfl,rfl,rfl⟩
 ·exact⟨rfl,rfl,trivial⟩
 ·exact fun w s=>aw.kept .auto w s
 rintro⟨k,d1,any⟩ ⟨hk,hok1,hdd,hdp,hgo⟩
 simp only at hk hok1 hdd hdp hgo
 refine JD 6 (fun h16=>?_) fun h16=>?_
 ·refine J 14 ?_
  refine .p (.add rfl rfl (by omega)) ?_
  refine J 5 ?_
  have hd1:d1.demand.length=d.demand.length:=by rw[hdd]
  obtain⟨n,hn⟩:∃ n,n=(f+k) % d.demand.length:=⟨_,rfl⟩
  have hnn:((f:Int)+(k:Int)).tmod (d.demand.length:Int)=(n:Int):=by
   rw[← Int.natCast_add,hn, ← Int.ofNat_tmod]
  have hnl:n<d.demand.length:=by rw[hn];exact Nat.mod_lt _ (by omega)
  have hkl:k<d1.demand.length:=by omega
  have hn1:n=(f+k) % d1.demand.length:=by rw[hd1];exact hn
  have hll:=hok1.left
  refine .p (.fY (Y.rem rfl rfl (by omega)) hnn) ?_
  refine J 11 ?_
  apply aR.gZ 5 37 32 [32,33,34,35,36,37] rfl
  ·intro h32
   refine J 3 ?_
   refine .cg call195 rfl (AI (d:=d1) (hdd ▸ hd) (hdp ▸ hpr) hok1 (n:=n) (by omega)) fun _ _=>?_
   exact JS 2
  ·intro h32
   exact JS 6
  refine JD 2 (fun h37=>?_) fun h37=>?_
  ·simp only[Bool.and_eq_true,decide_eq_true_eq] at h37
   obtain⟨y,hy⟩:=ak (show n<d1.out.length by rw[hok1.ol];omega)
   have hol:=(List.getElem?_eq_some_iff.1 hy).1
   have hyb:y<1000000∧0≤y:=D6 hok1 h37.2 hy (by omega)
   have hy1:d1.out.set n (y+1)=d1.out.set n (d1.out.getD n 0+1):=by rw[bA hy]
   refine J 7 ?_
   refine .p (.ix n rfl rfl rfl (by omega)) ?_
   refine .p (.lr rfl hy) ?_
   refine .p (.add rfl rfl (by omega)) ?_
   refine .p (.ix n rfl rfl rfl (by omega)) ?_
   refine .ai rfl (af.eG (x':=y+1) rfl rfl sizeOf3 rfl hy (by decide) rfl .auto) ?_
   rintro _ _ ⟨rfl,rfl⟩
   refine J 8 ?_
   refine .p (.sub rfl rfl (by have:=h37.1;dsimp only;omega)) ?_
   refine J 14 ?_
   refine .aH (k+1,{d1 with out:=d1.out.set n (d1.out.getD n 0+1),left:=d1.left-1 },true) .auto rfl ?_ ?_ ?_ ?_
   ·show d.demand.length-(k+1)<d.demand.length-k;omega
   ·have hs:=oN h37
    have ok:=xL hok1 p n
    rw[hs] at ok
    exact⟨by show k+1≤_;omega,ok,hdd,hdp,by have:=CF (d:=d1) hgo hkl (by rw[hdd]) hn1 hs;rw[hd1,Bool.or_true] at this;exact this⟩
   ·exact⟨rfl,rfl,trivial⟩
   ·show ∀ w,Sat _ w _→Sat _ w (seps [_,sl av 1 ov (d1.out.set n (d1.out.getD n 0+1)),A,F])
    rw[← hy1]
    exact fun w s=>aw.kept .auto w s
  ·simp only[Bool.and_eq_false_iff,decide_eq_false_iff_not] at h37
   have h37:¬(0<d1.left∧d1.lH n p=true):=fun e=>h37.elim (fun h=>h e.1) (fun h=>by rw[e.2] at h;cases h)
   refine J 7 ?_
   refine .aH (k+1,d1,any) .auto rfl ?_ ?_ ?_ ?_
   ·show d.demand.length-(k+1)<d.demand.length-k;omega
   ·exact⟨by show k+1≤_;omega,hok1,hdd,hdp,by have:=CF (d:=d1) hgo hkl (by rw[hdd]) hn1 (oO h37);rw[hd1,Bool.or_false] at this;exact this⟩
   ·exact⟨rfl,rfl,trivial⟩
   ·exact fun w s=>aw.kept .auto w s
 ·refine J 12 ?_
  obtain rfl:k=d.demand.length:=by omega
  rw[Nat.sub_self] at hgo
  rw[hgo]
  exact JR 0 ()
theorem Co{W:World}{A:aa}{dv pv:Value}{procs turn:Int}{demand prio:List Int}(hd:Rd W [A] av 1 dv demand)(hpr:Rd W [A] av 1 pv prio)(hb:prio.length≤1000000000∧ ∀ z∈demand,z≤1000000):Fn Tryz.prog W 94 [.int .i64 procs,dv,pv,.int .i64 turn] [A] Value (fun u=>u) (fun _=>True) (fun u=>[sl av 1 u ((lI procs demand prio turn).getD []),A]):=by
 refine Fn.intro (N:=70) func94 rfl ntmps94 rfl fun F=>?_
 show aq _ _ _ _ _ _ [A,F]
 refine .cM (fun w s=>Rd.shape (hd.at .here) w s) fun e=>?_
 obtain⟨ad,cd,rfl⟩:=e
 refine .cM (fun w s=>Rd.shape (hpr.at .here) w s) fun e=>?_
 obtain⟨ap,cp,rfl⟩:=e
 haveI hRD:∀ (H:List aa) [bx H A],aA W H (.slice ad demand.length cd) av 1 demand:=fun H h=>⟨hd.at h.has⟩
 haveI hRP:∀ (H:List aa) [bx H A],aA W H (.slice ap prio.length cp) av 1 prio:=fun H h=>⟨hpr.at h.has⟩
 refine J 20 ?_
 apply aR.ga 3 23 20 [20,21,22,23] rfl
 ·intro h20
  exact JS 4
 ·intro h20
  exact JS 4
 refine J 1 ?_
 apply aR.iL 4 28 24 [24,25,26,27,28] rfl
 ·intro h24
  refine J 1 ?_
  refine .cg call144 rfl pP fun _ _=>?_
  exact JS 3
 ·intro h24
  exact JS 5
 refine JD 2 (fun h28=>?_) fun h28=>?_
 ·simp only[Bool.or_eq_true,decide_eq_true_eq,Bool.not_eq_true'] at h28
  rw[CG h28]
  exact JR 7 (Value.slice none 0 0)
 ·simp only[Bool.or_eq_false_iff,decide_eq_false_iff_not,Bool.not_eq_false'] at h28
  have h28:demand.length=prio.length∧demand.length≤8∧within procs 64=true:=⟨by omega,by omega,h28.2⟩
  have hwp:=h28.2.2
  unfold within at hwp
  simp only[Bool.and_eq_true,decide_eq_true_eq] at hwp
  refine J 11 ?_
  refine .bm (X:=Nat) [8,11,31,32,33,34,35,36,37,38] (fun k=>prio.length-k) (fun k=>k≤prio.length∧(prio.take k).all (fun p=>within p 7)=true) (fun k=>[(31,some (.int .i64 (k:Int)))]) (fun k=>[A,F]) 0 ?_ ?_ ?_ ?_
  ·exact⟨Nat.zero_le _,rfl⟩
  ·exact⟨rfl,trivial⟩
  ·exact fun w s=>aw.kept .auto w s
  rintro k ⟨hk,hal⟩
  refine JD 6 (fun h32=>?_) fun h32=>?_
  ·refine J 6 ?_
   obtain⟨x,hx⟩:=ak (show k<prio.length by omega)
   refine J 1 ?_
   refine .p (.lr rfl hx) ?_
   refine J 6 ?_
   refine .c call144 rfl pP fun _ _=>?_
   refine JD 3 (fun h37=>?_) fun h37=>?_
   ·rw[zt hx (by simpa using h37)]
    exact JR 11 (Value.slice none 0 0)
   ·refine J 7 ?_
    refine .aH (k+1) .auto rfl ?_ ?_ ?_ ?_
    ·first | omega | (dsimp only;omega)
    ·exact⟨by omega,by rw[j0 hx,hal];simpa using h37⟩
    ·exact⟨rfl,trivial⟩
    ·exact fun w s=>aw.kept .auto w s
  ·obtain rfl:k=prio.length:=by omega
   rw[List.take_length] at hal
   refine J 11 ?_
   refine .ai rfl (af.FX (enc:=av) (k:=1) 0 demand.length rfl underlying50 typeInfo3 rfl rfl rfl rfl (by decide) (by decide) rfl rfl rfl rfl (by omega)) ?_
   rintro _ _ ⟨b43,rfl,rfl⟩
   refine .p (.FT (fun v1 v2 v3 v4=>[v1,v2,v3,v4]) rfl rfl rfl rfl (by kernel_rfl)) ?_
   refine .ai rfl (af.box rfl rfl rfl) ?_
   rintro _ _ ⟨b45,rfl,rfl⟩
   refine JD 10 (fun h47=>?_) fun h47=>?_
   ·have h0:demand.length=0:=by omega
    rw[zu h28 hal h0]
    refine J 11 ?_
    rw[h0]
    refine .aP rfl rfl fun w s=>⟨.slice (some ⟨b43,0,none⟩) 0 0,?_,trivial,aj .auto s⟩
    rfl
   ·have h0:¬demand.length=0:=by omega
    have hn0:0<demand.length:=by omega
    rw[zv h28 hal h0]
    have hok0:=Gw h28 hb.2
    refine J 9 ?_
    refine .bm (X:=Nat×Deal) [13,52,53,54,55,56,57,58,59,60,61,62,63,64,65] (fun z=>z.1) (fun z=>z.1≤8∧xK z.2∧z.2.demand=demand∧z.2.prio=prio∧priosN (pick turn demand.length) z.1 z.2=priosN (pick turn demand.length) 8 (Lg procs demand prio)) (fun z=>[(13,some (.int .i64 ((z.1:Int)-1)))]) (fun z=>[arr b45 0 [.int .i64 z.2.left,.slice ad demand.length cd,.slice ap prio.length cp,(.slice (some ⟨b43,0,none⟩) demand.length demand.length)],sl av 1 (.slice (some ⟨b43,0,none⟩) demand.length demand.length) z.2.out,A,F]) (8,Lg procs demand prio) ?_ ?_ ?_ ?_
    ·exact⟨Nat.le_refl _,hok0,rfl,rfl,rfl⟩
    ·exact⟨rfl,trivial⟩
    ·exact fun w s=>aw.kept .auto w s
    rintro⟨r,d⟩ ⟨hr8,hok,hdd,hdp,hpi⟩
    simp only at hr8 hok hdd hdp hpi
    refine JD 7 (fun h53=>?_) fun h53=>?_
    ·obtain⟨q,rfl⟩:∃ q,r=q+1:=⟨r - 1,by omega⟩
     refine J 5 ?_
     refine .bm (X:=Deal) [13,56,57,58,59,60,61,62,63,64,65] (fun z=>z.left.toNat) (fun z=>xK z∧z.demand=demand∧z.prio=prio∧dr (q:Int) (pick turn demand.length) z=dr (q:Int) (pick turn demand.length) d) (fun z=>[(13,some (.int .i64 (q:Int)))]) (fun z=>[arr b45 0 [.int .i64 z.left,.slice ad demand.length cd,.slice ap prio.length cp,(.slice (some ⟨b43,0,none⟩) demand.length demand.length)],sl av 1 (.slice (some ⟨b43,0,none⟩) demand.length demand.length) z.out,A,F]) d ?_ ?_ ?_ ?_
     ·exact⟨hok,hdd,hdp,rfl⟩
     ·exact⟨show some (Value.int .i64 (((q+1:Nat):Int)-1))=some (.int .i64 (q:Int)) from by rw[show((q+1:Nat):Int)-1=(q:Int) by omega],trivial⟩
     ·exact fun w s=>aw.kept .auto w s
     rintro d1 ⟨hok1,hdd1,hdp1,hdr⟩
     have hrf:=round_facts d1 (q:Int) (pick turn demand.length)
     refine J 7 ?_
     have hn0:0<demand.length:=by omega
     refine .p (.rem rfl rfl (by omega)) ?_
     refine J 1 ?_
     refine .p (.add rfl rfl (by have h1:=Int.lt_tmod_of_pos turn (show(0:Int)<(demand.length:Int) by omega);have h2:=Int.tmod_lt_of_pos turn (show(0:Int)<(demand.length:Int) by omega);omega)) ?_
     refine J 1 ?_
     refine .p (.fY (Y.rem rfl rfl (by omega)) (oP hn0)) ?_
     refine .c call145 rfl (AJ (d:=d1) (p:=(q:Int)) (f:=pick turn demand.length) (by rw[hdd1];exact hd) (by rw[hdp1];exact hpr) hok1 (by rw[hdd1];exact kO hn0)) fun _ _=>?_
     refine JD 2 (fun h65=>?_) fun h65=>?_
     ·refine J 5 ?_
      refine .aH ((d1.round (q:Int) (pick turn demand.length)).1) .auto rfl ?_ ?_ ?_ ?_
      ·have h1:=hrf.2.2.1 h65;have h2:=hrf.2.1 hok1.left.1;omega
      ·exact⟨hrf.2.2.2.2.2 hok1,by rw[hrf.2.2.2.1,hdd1],by rw[hrf.2.2.2.2.1,hdp1],by rw[← Lf hok1.left.1 h65,hdr]⟩
      ·exact⟨rfl,trivial⟩
      ·exact fun w s=>aw.kept .auto w s
     ·refine J 11 ?_
      refine .aH (q,(d1.round (q:Int) (pick turn demand.length)).1) .auto rfl ?_ ?_ ?_ ?_
      ·show q<q+1;omega
      ·exact⟨by show q≤8;omega,hrf.2.2.2.2.2 hok1,by rw[hrf.2.2.2.1,hdd1],by rw[hrf.2.2.2.2.1,hdp1],by rw[← hpi, ← MP h65,hdr];rfl⟩
      ·exact⟨rfl,trivial⟩
      ·exact fun w s=>aw.kept .auto w s
    ·obtain rfl:r=0:=by omega
     refine J 15 ?_
     rw[← hpi]
     refine .aP rfl rfl fun w s=>⟨(.slice (some ⟨b43,0,none⟩) demand.length demand.length),?_,trivial,aj .auto s⟩
     rfl
end Go.SLYtpbjdoplfgeliaaGreat
namespace Go.SLYtpbjdoplfgeliaaGreat
open Go Go.RowKit Go.Proofs Go.Proofs.Tryz
attribute [local irreducible] aq aR bf bq bB Y
theorem Fk{W:World}{b:Nat}{bl:List Nat}{k:Krn}{p c:Int}{m:Nat}(hk:nt m k):Fn Tryz.prog W 33 [ptr b,.int .i64 p,.int .i64 c] [bR b bl k] Value (fun u=>.tuple #[.int .i64 (k.step p c).1.1,.agg (dz u (k.step p c).1.2.1).toArray,.int .i64 (k.step p c).1.2.2]) (fun _=>True) (fun u=>[sl av 1 u (k.step p c).1.2.1.wM.ar,bR b bl (k.step p c).2]):=by
 refine Fn.intro (N:=38) func33 rfl ntmps33 rfl fun F=>?_
 show aq _ _ _ _ _ _ [bR b bl k,F]
 refine J 3 ?_
 refine .ai rfl (af.alloc rfl zeroValue75 rfl) ?_
 rintro _ _ ⟨b7,rfl,rfl⟩
 refine J 7 ?_
 refine .c call91 rfl (qL hk.ok) fun _ _=>?_
 refine JD 14 (fun h19=>?_) fun h19=>?_
 ·refine J 2 ?_
  refine .p (.lP (dz (.slice none 0 0) gg.z) (by kernel_rfl)) ?_
  refine J 2 ?_
  refine .ai rfl (af.gW (vs:=dz (.slice none 0 0) gg.z) (by exact sizeOf75) rfl rfl (by rfl) (by rfl)) ?_
  rintro _ _ ⟨rfl,rfl⟩
  refine J 5 ?_
  rw[gC h19]
  refine .HN rfl rfl isAgg75 (by exact sizeOf75) Cells.a rfl rfl fun w s=>⟨(.slice none 0 0),?_,trivial,aj .auto s⟩
  rfl
 ·refine J 4 ?_
  refine .o3 (C:=bR b bl k) .auto rfl ?_
  rintro vo vl xs ⟨hxb,hxs⟩
  have hxl:=aC hxs
  have hbl:=aC hxb
  have hxx:=And.intro hxb hxs
  obtain⟨i,n,l,rfl,ho,hl, -⟩:=dA hk.ok (Decidable.of_not_not h19)
  obtain⟨x,hx,rfl,hbx⟩:=eL hxb hxs hl
  have hil:=(List.getElem?_eq_some_iff.1 hx).1
  have hio:=(List.getElem?_eq_some_iff.1 ho).1
  have hlo:=hk.gY x.2 (List.mem_of_getElem? hl)
  rw[iF ho hl]
  rw[(jq (bl:=bl) ho).2,hbx]
  refine .fr .auto (cZ (f:=fun x:Nat×Lib=>cX x.1 x.2) hx) ?_
  refine .o2 (C:=cX x.1 x.2) .auto rfl ?_
  rintro bs br -
  refine J 3 ?_
  refine .c call93 rfl (IB (l:=x.2) (b:=x.1) (bs:=bs) (br:=br) (p:=(i:Int)) (c:=c) hlo.1 (fun t=>hlo.2 t _)) fun u26 _=>?_
  refine .cM (fun w s=>Rd.isSl (Rd.sl .auto) w s) fun hu26=>?_
  refine .to (A:=aF (fun x:Nat×Lib=>cX x.1 x.2) (xs.set n (x.1,(x.2.step (i:Int) c).2.2))) .auto (kN (f:=fun x:Nat×Lib=>cX x.1 x.2) (x.1,(x.2.step (i:Int) c).2.2) hx) ?_
  have hss:=m0 hxb hxs hx (x.2.step (i:Int) c).2.2
  refine .to (A:=sl bP 1 vl (xs.set n (x.1,(x.2.step (i:Int) c).2.2))) (Bs:=[sl bP 1 vl xs]) .auto (qf (hxb.trans hss.1.symm)) ?_
  refine J 1 ?_
  refine .p (.extract (v:=.agg (dz u26 (x.2.step (i:Int) c).1).toArray) rfl rfl) ?_
  refine .p (.extract (v:=.int .i64 (x.2.step (i:Int) c).2.1) rfl rfl) ?_
  refine .ai rfl (af.alloc rfl zeroValue75 rfl) ?_
  rintro _ _ ⟨b11,rfl,rfl⟩
  refine .ai rfl (af.gW (vs:=dz u26 (x.2.step (i:Int) c).1) (by exact sizeOf75) rfl rfl (di hu26) (by rfl)) ?_
  rintro _ _ ⟨rfl,rfl⟩
  refine J 4 ?_
  refine .draw [arr b11 0 (dz u26 (x.2.step (i:Int) c).1)] [1,1,1,1,1,1,1,1,0,1,2,1] rfl (by kernel_rfl) ?_
  refine J 5 ?_
  refine .p (.ix i rfl rfl rfl (by omega)) ?_
  refine .p (.lr rfl ho) ?_
  refine J 3 ?_
  refine .d2 rfl Kept.auto (af.gW (vs:=dz u26 (x.2.step (i:Int) c).1) (by exact sizeOf75) rfl rfl (di hu26) (by rfl)) (by rintro _ _ ⟨rfl,rfl⟩;exact Kept.auto) ?_
  rintro _ _ ⟨rfl,rfl⟩
  refine J 4 ?_
  refine .HN rfl rfl isAgg75 (by exact sizeOf75) Cells.a rfl rfl fun w s=>⟨u26,?_,trivial,aj .auto s⟩
  rfl
end Go.SLYtpbjdoplfgeliaaGreat
namespace Go.SLYtpbjdoplfgeliaaGreat
open Go Go.RowKit Go.Proofs Go.Proofs.Tryz
attribute [local irreducible] aq aR bf bq bB Y
end Go.SLYtpbjdoplfgeliaaGreat
namespace Go.SLYtpbjdoplfgeliaaGreat
open Go Go.RowKit Go.Proofs Go.Proofs.Tryz
attribute [local irreducible] aq aR bf bq bB Y
end Go.SLYtpbjdoplfgeliaaGreat
namespace Go.SLYtpbjdoplfgeliaaGreat
open Go Go.RowKit Go.Proofs Go.Proofs.Tryz
attribute [local irreducible] aq aR bf bq bB Y
end Go.SLYtpbjdoplfgeliaaGreat
namespace Go.SLYtpbjdoplfgeliaaGreat
open Go Go.RowKit Go.Proofs Go.Proofs.Tryz
attribute [local irreducible] aq aR bf bq bB Y
end Go.SLYtpbjdoplfgeliaaGreat
namespace Go.SLYtpbjdoplfgeliaaGreat
open Go Go.RowKit Go.Proofs Go.Proofs.Tryz
attribute [local irreducible] aq aR bf bq bB Y
end Go.SLYtpbjdoplfgeliaaGreat
namespace Go.SLYtpbjdoplfgeliaaGreat
open Go Go.RowKit Go.Proofs Go.Proofs.Tryz
attribute [local irreducible] aq aR bf bq bB Y
theorem vI{W:World}{b:Nat}{bl:List Nat}{k:Krn}{A:aa}{v:Value}{prio:List Int}{turn:Int}{m:Nat}(hpr:Rd W [A] av 1 v prio)(hpl:prio.length≤1000000000)(hk:qY m k):Fn Tryz.prog W 37 [ptr b,v,.int .i64 turn] [bR b bl k,A] Value (fun u=>u) (fun _=>True) (fun u=>[sl av 1 u (k.targets prio turn),bR b bl k,A]):=by
 refine Fn.intro (N:=14) func37 rfl ntmps37 rfl fun F=>?_
 haveI hRI:∀ (H:List aa) [bx H A],aA W H v av 1 prio:=fun H h=>⟨hpr.at h.has⟩
 show aq _ _ _ _ _ _ [bR b bl k,A,F]
 refine J 8 ?_
 refine .c call35 rfl lF fun _ _=>?_
 refine J 1 ?_
 refine .c call36 rfl (AH hk) fun u10 _=>?_
 refine J 2 ?_
 refine .c call94 rfl (Co (A:=seps [sl av 1 u10 k.demand,A]) (demand:=k.demand) (prio:=prio) (Rd.eO (Rd.sl .here)) (Rd.eO (hpr.at (.there .here))) ⟨hpl,Ht hk⟩) fun u13 _=>?_
 refine J 4 ?_
 refine .dO .auto ?_
 refine .aP rfl rfl fun w s=>⟨_,?_,trivial,aj .auto s⟩
 rfl
theorem rC{W:World}{b:Nat}{bl:List Nat}{k:Krn}{A:aa}{v:Value}{prio:List Int}{turn:Int}{m:Nat}(hpr:Rd W [A] av 1 v prio)(hpl:prio.length≤1000000000)(hi:Inv m k)(hm:m≤200000000):Fn Tryz.prog W 38 [ptr b,v,.int .i64 turn] [bR b bl k,A] Unit (fun _=>.int .i64 ((k.share prio turn).2:Int)) (fun _=>True) (fun _=>[bR b bl (k.share prio turn).1,A]):=by
 refine Fn.intro (N:=73) func38 rfl ntmps38 rfl fun F=>?_
 haveI hRI:∀ (H:List aa) [bx H A],aA W H v av 1 prio:=fun H h=>⟨hpr.at h.has⟩
 show aq _ _ _ _ _ _ [bR b bl k,A,F]
 refine J 10 ?_
 refine .c call37 rfl (vI hpr hpl hi.ok) fun u17 _=>?_
 obtain⟨want,hwt⟩:∃ want,want=k.targets prio turn:=⟨_,rfl⟩
 have htf:=nD hi.ok prio turn
 have hsh:k.share prio turn=dI want 0 (takeFrom want 0 (k,0)):=by rw[hwt];rfl
 rw[← hwt] at htf ⊢
 rw[hsh]
 have hll:=hi.ok.ll
 refine J 17 ?_
 refine .bm (X:=Nat×Krn×Nat) [8,9,10,12,20,21,22,23,24,25,26,27,28,29,30,31,32,33,34,35,36,37,38,39,40,41,42,43,44,45,46,47] (fun z=>want.length-z.1) (fun z=>z.1≤want.length∧Inv (m+2 * z.2.2) z.2.1∧z.2.2≤64 * z.1∧z.2.1.libs.length=k.libs.length∧z.2.1.owner.length=k.owner.length∧takeFrom want 0 (k,0)=takeFrom (want.drop z.1) z.1 (z.2.1,z.2.2)) (fun z=>[(20,some (.int .i64 (z.1:Int))),(8,some (.int .i64 (z.2.2:Int)))]) (fun z=>[sl av 1 u17 want,bR b bl z.2.1,A,F]) (0,k,0) ?_ ?_ ?_ ?_
 ·exact⟨Nat.zero_le _,hi,Nat.zero_le _,rfl,rfl,rfl⟩
 ·exact⟨rfl,rfl,trivial⟩
 ·exact fun w s=>aw.kept .auto w s
 rintro⟨n,k1,mv⟩ ⟨hn,hi1,hmv,hl1,ho1,htk⟩
 simp only at hn hi1 hmv hl1 ho1 htk
 refine JD 6 (fun h21=>?_) fun h21=>?_
 ·refine J 6 ?_
  obtain⟨w,hw⟩:=ak (show n<want.length by omega)
  have hw64:=htf.2.1 w (List.mem_of_getElem? hw)
  obtain⟨l,hl⟩:=ak (show n<k1.libs.length by omega)
  have hlo:=hi1.ok.gY l (List.mem_of_getElem? hl)
  refine J 8 ?_
  refine .c call40 rfl gk fun _ _=>?_
  refine .o3 (C:=bR b bl k1) .auto rfl ?_
  rintro vo vl xs ⟨hxb,hxs⟩
  have hxl:=aC hxs
  have hbl:=aC hxb
  have hxx:=And.intro hxb hxs
  obtain⟨x,hx,hxe,hbx⟩:=eL hxb hxs hl
  rw[aY,hbx]
  subst hxe
  refine .fr .auto (cZ (f:=fun x:Nat×Lib=>cX x.1 x.2) hx) ?_
  refine .o2 (C:=cX x.1 x.2) .auto rfl ?_
  rintro bs br -
  refine .c call41 rfl (qC (l:=x.2) (Nat.le_trans hlo.vl (by decide))) fun u26 _=>?_
  refine .to (A:=aF (fun x:Nat×Lib=>cX x.1 x.2) xs) .auto (eK (f:=fun x:Nat×Lib=>cX x.1 x.2) hx) ?_
  refine .to (A:=bR b bl k1) .auto C9 ?_
  refine J 11 ?_
  refine .p (.lr rfl hw) ?_
  refine .p (.lK rfl rfl) ?_
  refine .p (.sliceFrom (min x.2.procs.length w.toNat) underlying50 sizeOf3 rfl rfl Rd.s (by omega) (by omega)) ?_
  obtain⟨ps,hps⟩:∃ ps,ps=x.2.procs.drop w.toNat:=⟨_,rfl⟩
  have hpl64:x.2.procs.length≤64:=Nat.le_trans (qd _ _) hlo.vl
  have hpsl:ps.length≤64:=by rw[hps,List.length_drop];omega
  have hcut:=(Rd.sl (W:=W) (H:=[sl av 1 u26 x.2.procs]) .here).cut (lo:=min x.2.procs.length w.toNat) (hi:=x.2.procs.length) (by omega) (Nat.le_refl _)
  rw[List.take_length,Hu, ← hps] at hcut
  haveI hIc:∀ (H:List aa) [bx H (sl av 1 u26 x.2.procs)],aA W H (cut 1 (min x.2.procs.length w.toNat) x.2.procs.length u26) av 1 ps:=fun H h=>⟨hcut.at h.has⟩
  refine J 5 ?_
  refine .bm (X:=Nat×Krn) [8,12,37,38,39,40,41,42,43,44,45,46] (fun z=>ps.length-z.1) (fun z=>z.1≤ps.length∧Inv (m+2 * (mv+z.1)) z.2∧z.2.libs.length=k.libs.length∧z.2.owner.length=k.owner.length∧eB (ps.drop z.1) z.2=eB ps k1) (fun z=>[(37,some (.int .i64 (z.1:Int))),(8,some (.int .i64 ((mv+z.1:Nat):Int)))]) (fun z=>[sl av 1 u26 x.2.procs,sl av 1 u17 want,bR b bl z.2,A,F]) (0,k1) ?_ ?_ ?_ ?_
  ·exact⟨Nat.zero_le _,hi1,hl1,ho1,rfl⟩
  ·exact⟨rfl,rfl,trivial⟩
  ·exact fun w s=>aw.kept .auto w s
  rintro⟨j,k2⟩ ⟨hj,hi2,hl2,ho2,hta⟩
  simp only at hj hi2 hl2 ho2 hta
  refine JD 6 (fun h38=>?_) fun h38=>?_
  ·refine J 6 ?_
   obtain⟨p,hp⟩:=ak (show j<ps.length by omega)
   refine J 9 ?_
   refine .c call32 rfl (Fi (k:=k2) hi2.ok (by omega)) fun _ _=>?_
   refine J 4 ?_
   refine .p (.fY (Y.add rfl rfl (by dsimp only;omega)) (show((mv+j:Nat):Int)+1=((mv+(j+1):Nat):Int) from by omega)) ?_
   refine J 8 ?_
   refine .aH (j+1,(k2.take p).2) .auto rfl ?_ ?_ ?_ ?_
   ·show ps.length-(j+1)<ps.length-j;omega
   ·exact⟨by show j+1≤_;omega,hi2.take p,(m6 hi2.ok p).1.trans hl2,(m6 hi2.ok p).2.trans ho2,by rw[← hta,drop_cons hp];rfl⟩
   ·exact⟨rfl,rfl,trivial⟩
   ·exact fun w s=>aw.kept .auto w s
  ·obtain rfl:j=ps.length:=by omega
   rw[List.drop_length] at hta
   refine J 10 ?_
   refine .aH (n+1,k2,mv+ps.length) .auto rfl ?_ ?_ ?_ ?_
   ·show want.length-(n+1)<want.length-n;omega
   ·exact⟨by show n+1≤_;omega,hi2,by show mv+ps.length≤64 * (n+1);omega,hl2,ho2,by rw[htk,Ex hw hl hps, ← hta];rfl⟩
   ·exact⟨rfl,rfl,trivial⟩
   ·exact fun w s=>aw.kept .auto w s
 ·obtain rfl:n=want.length:=by omega
  rw[List.drop_length,takeFrom] at htk
  have hrm:want≠[]→Room want k1:=fun hne=>by have:=Ew hi (htf.2.2.2 hne) htf.2.2.1;rw[htk] at this;exact this
  rw[htk]
  have hmv5:mv≤512:=by omega
  refine J 14 ?_
  refine .bm (X:=Nat×Krn×Nat) [8,13,50,51,52,53,54,55,56,57,58,59,60,61,62,63,64,65,66,67,68,69,70,71] (fun z=>want.length-z.1) (fun z=>z.1≤want.length∧Inv (m+2 * z.2.2) z.2.1∧z.2.2≤512+64 * z.1∧z.2.1.libs.length=k.libs.length∧(want≠[]→Room want z.2.1)∧dI want 0 (k1,mv)=dI (want.drop z.1) z.1 (z.2.1,z.2.2)) (fun z=>[(50,some (.int .i64 (z.1:Int))),(8,some (.int .i64 (z.2.2:Int)))]) (fun z=>[sl av 1 u17 want,bR b bl z.2.1,A,F]) (0,k1,mv) ?_ ?_ ?_ ?_
  ·exact⟨Nat.zero_le _,hi1,by show mv≤512+64 * 0;omega,hl1,hrm,rfl⟩
  ·exact⟨rfl,rfl,trivial⟩
  ·exact fun w s=>aw.kept .auto w s
  rintro⟨n,k3,mv3⟩ ⟨hn3,hi3,hmv3,hl3,hr3,hgv⟩
  simp only at hn3 hi3 hmv3 hl3 hr3 hgv
  refine JD 6 (fun h51=>?_) fun h51=>?_
  ·refine J 6 ?_
   obtain⟨w,hw⟩:=ak (show n<want.length by omega)
   have hw64:=htf.2.1 w (List.mem_of_getElem? hw)
   have hne:want≠[]:=by rintro rfl;simp at hw
   refine J 5 ?_
   refine .bm (X:=Nat×Krn) [8,13,53,54,55,56,57,58,59,60,61,62,63,64,65,66,67,68,69,70] (fun z=>w.toNat-z.2.owner.count (n:Int)) (fun z=>Inv (m+2 * (mv3+z.1)) z.2∧Room want z.2∧z.2.libs.length=k.libs.length∧z.1+(w.toNat-z.2.owner.count (n:Int))=w.toNat-k3.owner.count (n:Int)∧giveTo (w.toNat-z.2.owner.count (n:Int)) (n:Int) z.2=giveTo (w.toNat-k3.owner.count (n:Int)) (n:Int) k3) (fun z=>[(13,some (.int .i64 (n:Int))),(8,some (.int .i64 ((mv3+z.1:Nat):Int)))]) (fun z=>[sl av 1 u17 want,bR b bl z.2,A,F]) (0,k3) ?_ ?_ ?_ ?_
   ·exact⟨hi3,hr3 hne,hl3,by simp,rfl⟩
   ·exact⟨rfl,rfl,trivial⟩
   ·exact fun w s=>aw.kept .auto w s
   rintro⟨j,k2⟩ ⟨hi2,hr2,hlk2,hjc,hgt⟩
   simp only at hi2 hr2 hlk2 hjc hgt
   refine J 2 ?_
   refine .draw [sl av 1 u17 want] [1,1,2,2,1,0,0,0,0,1] rfl (by kernel_rfl) ?_
   have hnl2:n<k2.libs.length:=by omega
   obtain⟨l2,hl2⟩:=ak hnl2
   refine J 2 ?_
   refine .c2 call40 rfl gk fun _ _=>?_
   refine .o3 (C:=bR b bl k2) .auto rfl ?_
   rintro vo vl xs ⟨hxb,hxs⟩
   have hxl:=aC hxs
   have hbl:=aC hxb
   have hxx:=And.intro hxb hxs
   obtain⟨x,hx,hxe,hbx⟩:=eL hxb hxs hl2
   rw[aY,hbx]
   subst hxe
   refine .fr .auto (cZ (f:=fun x:Nat×Lib=>cX x.1 x.2) hx) ?_
   refine .o2 (C:=cX x.1 x.2) .auto rfl ?_
   rintro bs br -
   refine .c2 call41 rfl (qC (l:=x.2) (Nat.le_trans (hi2.ok.gY x.2 (List.mem_of_getElem? hl2)).vl (by decide))) fun u56 _=>?_
   refine .to (A:=aF (fun x:Nat×Lib=>cX x.1 x.2) xs) .auto (eK (f:=fun x:Nat×Lib=>cX x.1 x.2) hx) ?_
   refine .to (A:=bR b bl k2) .auto C9 ?_
   refine J 4 ?_
   refine .q (.lr rfl hw) ?_
   refine JD 3 (fun h62=>?_) fun h62=>?_
   ·have hpc:x.2.procs.length=k2.owner.count (n:Int):=by rw[hi2.ag.procs hl2];exact iV _ _ _
    have hlt:k2.owner.count (n:Int)<w.toNat:=by omega
    obtain⟨i,r,hf,hoi,hmin⟩:=Eu (hr2.free hi2.ok hw hlt)
    have hol:=hi2.ok.ol
    have hfl:k2.free.length≤64:=Nat.le_trans (by rw[show k2.free=posFrom (-1) k2.owner 0 from pw _ _,iV];exact List.count_le_length) hol
    have hrg:=hr2.eS hw hlt hoi hl2
    refine J 7 ?_
    refine .c call43 rfl (Fh (k:=k2) hol) fun u65 _=>?_
    refine .c call95 rfl (N9 (A:=sl av 1 u65 k2.free) (xs:=k2.free) (Rd.sl .here) (by omega) (by rw[hf];simp)) fun _ _=>?_
    rw[hmin]
    refine J 1 ?_
    refine .c call31 rfl (Fj (k:=k2) (p:=(i:Int)) (n:=(n:Int)) hi2.ok (by omega)) fun _ _=>?_
    refine J 4 ?_
    refine .p (.fY (Y.add rfl rfl (by dsimp only;omega)) (show((mv3+j:Nat):Int)+1=((mv3+(j+1):Nat):Int) from by omega)) ?_
    refine J 3 ?_
    refine .aH (j+1,(k2.eS (i:Int) (n:Int)).2) .auto rfl ?_ ?_ ?_ ?_
    ·show w.toNat-(k2.eS (i:Int) (n:Int)).2.owner.count (n:Int)<w.toNat-k2.owner.count (n:Int);rw[hrg.2];omega
    ·exact⟨hi2.eS hoi hl2,hrg.1,hrg.1.len.symm.trans (hr2.len.trans hlk2),by show j+1+(w.toNat-(k2.eS (i:Int) (n:Int)).2.owner.count (n:Int))=_;rw[hrg.2];omega,by show giveTo (w.toNat-(k2.eS (i:Int) (n:Int)).2.owner.count (n:Int)) (n:Int) (k2.eS (i:Int) (n:Int)).2=_;rw[hrg.2, ← hgt,show w.toNat-k2.owner.count (n:Int)=(w.toNat-(k2.owner.count (n:Int)+1))+1 from by omega,giveTo,hf];rfl⟩
    ·exact⟨rfl,rfl,trivial⟩
    ·exact fun w s=>aw.kept .auto w s
   ·have hpc:x.2.procs.length=k2.owner.count (n:Int):=by rw[hi2.ag.procs hl2];exact iV _ _ _
    have hge:w.toNat-k2.owner.count (n:Int)=0:=by omega
    rw[hge] at hjc hgt
    refine J 10 ?_
    refine .aH (n+1,k2,mv3+j) .auto rfl ?_ ?_ ?_ ?_
    ·show want.length-(n+1)<want.length-n;omega
    ·exact⟨by show n+1≤_;omega,hi2,by show mv3+j≤512+64 * (n+1);omega,hlk2,fun _=>hr2,by rw[hgv,Ey hw hi3 (by omega), ← hgt, ← hjc];rfl⟩
    ·exact⟨rfl,rfl,trivial⟩
    ·exact fun w s=>aw.kept .auto w s
  ·obtain rfl:n=want.length:=by omega
   rw[List.drop_length,dI] at hgv
   refine J 12 ?_
   rw[hgv]
   exact JR 0 ()
end Go.SLYtpbjdoplfgeliaaGreat
namespace Go.SLYtpbjdoplfgeliaaGreat
open Go Go.RowKit Go.Proofs Go.Proofs.Tryz
attribute [local irreducible] aq aR bf bq bB Y
end Go.SLYtpbjdoplfgeliaaGreat
namespace Go.SLYtpbjdoplfgeliaaGreat
open Go Go.RowKit Go.Proofs Go.Proofs.Tryz
attribute [local irreducible] aq aR bf bq bB Y
end Go.SLYtpbjdoplfgeliaaGreat
