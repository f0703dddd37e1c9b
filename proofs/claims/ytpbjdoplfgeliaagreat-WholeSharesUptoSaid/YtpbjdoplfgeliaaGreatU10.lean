/- Walks. Conditions: none. -/
import Derived.Test.YtpbjdoplfgeliaaGreatU07
import Derived.Test.YtpbjdoplfgeliaaGreatProg
import Derived.Test.YtpbjdoplfgeliaaGreatU09
import Derived.Test.YtpbjdoplfgeliaaGreatU03
import Derived.KernelRfl
import Derived.MapKept
import Derived.Laws.NewFold
import Derived.Shelf.Sort.Plain
import Derived.Shelf.Slices.In.SortNone
import Derived.Lib.SortBridge
import Derived.Test.YtpbjdoplfgeliaaGreatU04
set_option maxRecDepth 20000
set_option maxHeartbeats 4000000
namespace Go.SLYtpbjdoplfgeliaaGreat
open Go Go.RowKit Go.Proofs Go.Proofs.Tryz
attribute [local irreducible] ar aR bm bA bH Y
theorem Fy{W:World}{b:Nat}{g:Gates}{who m:Int}(hg:gO g):Fn Tryz.prog W 165 [ptr b,.int .i64 who,.int .i64 m] [cy b g] Unit (fun _=>.tuple #[.bool (g.lock who m).1,.int .i64 (g.lock who m).2.1]) (fun _=>True) (fun _=>[cy b (g.lock who m).2.2]):=by
 refine Fn.intro (N:=27) func165 rfl ntmps165 rfl fun F=>?_
 show ar _ _ _ _ _ _ [cy b g,F]
 refine .o3 (C:=cy b g) .auto rfl ?_
 rintro vm vc vs -
 refine J 10 ?_
 refine .c call203 rfl l9 fun _ _=>?_
 refine JD 12 (fun h12=>?_) fun h12=>?_
 ·refine J 9 ?_
  rw[wB (fP h12)]
  exact JR 0 ()
 ·refine J 2 ?_
  have hmhx:=fB h12
  rw[fe hmhx]
  obtain⟨x,hx,hgx⟩:=cQ hmhx
  refine J 2 ?_
  refine .c call204 rfl (oU hg) fun _ _=>?_
  refine .fr .auto (pD hx) ?_
  refine J 1 ?_
  apply aR.gY 4 23 19 [19,20,21,22,23] rfl
  ·intro h19
   refine J 2 ?_
   refine .cg call205 rfl uT fun _ _=>?_
   exact JS 2
  ·intro h19
   exact JS 5
  refine JD 3 (fun h15=>?_) fun h15=>?_
  ·refine J 9 ?_
   rw[rK hgx h15]
   refine .to (A:=ef vm g.dn) (Bs:=[eh (blk vm) (ek vm+m.toNat * 3) x,ss vm g.dn m.toNat]) .auto (pE hx) ?_
   exact JR 0 ()
  ·refine J 7 ?_
   refine .c call171 rfl (uU (Nat.le_trans (hg.mw x (List.mem_of_getElem? hx)) (by decide))) fun _ _=>?_
   refine J 5 ?_
   rw[wC hgx h15]
   refine .to (A:=ef vm (g.dn.set m.toNat (x.lock who).2)) (Bs:=[eh (blk vm) (ek vm+m.toNat * 3) (x.lock who).2,ss vm g.dn m.toNat]) .auto (tW (x.lock who).2) ?_
   exact JR 0 ()
theorem AX{W:World}{b:Nat}{g:Gates}{who m c:Int}(hg:gO g):Fn Tryz.prog W 166 [ptr b,.int .i64 who,.int .i64 m,.int .i64 c] [cy b g] Unit (fun _=>.tuple #[.int .i64 (g.unlock who m c).1,.bool (g.unlock who m c).2.1,.int .i64 (g.unlock who m c).2.2.1]) (fun _=>True) (fun _=>[cy b (g.unlock who m c).2.2.2]):=by
 refine Fn.intro (N:=33) func166 rfl ntmps166 rfl fun F=>?_
 show ar _ _ _ _ _ _ [cy b g,F]
 refine .o3 (C:=cy b g) .auto rfl ?_
 rintro vm vc vs -
 refine J 11 ?_
 refine .c call203 rfl l9 fun _ _=>?_
 refine JD 12 (fun h17=>?_) fun h17=>?_
 ·refine J 10 ?_
  rw[rL (fP h17)]
  refine .mG rfl rfl rfl rfl fun w s=>⟨(),?_,trivial,ak .auto s⟩
  rfl
 ·refine J 2 ?_
  have hmhx:=fB h17
  rw[fe hmhx]
  obtain⟨x,hx,hgx⟩:=cQ hmhx
  refine .fr .auto (pD hx) ?_
  refine J 2 ?_
  refine .c call205 rfl uT fun _ _=>?_
  refine JD 4 (fun h20=>?_) fun h20=>?_
  ·refine J 10 ?_
   rw[pF hgx (by simpa using h20)]
   refine .to (A:=ef vm g.dn) (Bs:=[eh (blk vm) (ek vm+m.toNat * 3) x,ss vm g.dn m.toNat]) .auto (pE hx) ?_
   refine .mG rfl rfl rfl rfl fun w s=>⟨(),?_,trivial,ak .auto s⟩
   rfl
  ·refine J 7 ?_
   refine .c call206 rfl (qp (hg.mw x (List.mem_of_getElem? hx))) fun _ _=>?_
   refine J 17 ?_
   rw[rM hgx (by simpa using h20)]
   refine .to (A:=ef vm (g.dn.set m.toNat (x.unlock c).2.2)) (Bs:=[eh (blk vm) (ek vm+m.toNat * 3) (x.unlock c).2.2,ss vm g.dn m.toNat]) .auto (tW (x.unlock c).2.2) ?_
   refine .mG rfl rfl rfl rfl fun w s=>⟨(),?_,trivial,ak .auto s⟩
   rfl
theorem Fz{W:World}{b:Nat}{g:Gates}{who c m ch:Int}(hg:gO g):Fn Tryz.prog W 168 [ptr b,.int .i64 who,.int .i64 c,.int .i64 m,.int .i64 ch] [cy b g] Unit (fun _=>.tuple #[.int .i64 (g.wait who c m ch).1,.bool (g.wait who c m ch).2.1,.int .i64 (g.wait who c m ch).2.2.1]) (fun _=>True) (fun _=>[cy b (g.wait who c m ch).2.2.2]):=by
 refine Fn.intro (N:=52) func168 rfl ntmps168 rfl fun F=>?_
 show ar _ _ _ _ _ _ [cy b g,F]
 refine .o3 (C:=cy b g) .auto rfl ?_
 rintro vm vc vs -
 refine J 11 ?_
 refine .c call203 rfl l9 fun _ _=>?_
 refine J 2 ?_
 refine .c call169 rfl xt fun _ _=>?_
 refine J 11 ?_
 apply aR.gY 3 29 26 [26,27,28,29] rfl
 ·intro h26
  exact JS 4
 ·intro h26
  exact JS 4
 refine JD 3 (fun h23=>?_) fun h23=>?_
 ·have hw:g.wait who c m ch=(0,false,1,g):=by
   rcases(Bool.or_eq_true _ _).mp h23 with h | h
   ·exact oA (fP h)
   ·exact oB (fP h)
  refine J 10 ?_
  rw[hw]
  refine .mG rfl rfl rfl rfl fun w s=>⟨(),?_,trivial,ak .auto s⟩
  rfl
 ·refine J 2 ?_
  rw[Bool.or_eq_false_iff] at h23
  have hmhx:=fB h23.1
  rw[fe hmhx]
  obtain⟨x,hx,hgx⟩:=cQ hmhx
  have hmhr:=fB h23.2
  rw[fe hmhr]
  obtain⟨r,hr,hgr⟩:=cQ hmhr
  refine J 2 ?_
  refine .c call204 rfl (oU hg) fun _ _=>?_
  refine JD 3 (fun h30=>?_) fun h30=>?_
  ·refine J 10 ?_
   rw[Ac hgx hgr h30]
   refine .mG rfl rfl rfl rfl fun w s=>⟨(),?_,trivial,ak .auto s⟩
   rfl
  ·refine J 2 ?_
   refine .fr .auto (pD hx) ?_
   refine J 2 ?_
   refine .c call205 rfl uT fun _ _=>?_
   refine JD 4 (fun h34=>?_) fun h34=>?_
   ·refine J 10 ?_
    rw[oC hgx hgr h30 (by simpa using h34)]
    refine .to (A:=ef vm g.dn) (Bs:=[eh (blk vm) (ek vm+m.toNat * 3) x,ss vm g.dn m.toNat]) .auto (pE hx) ?_
    refine .mG rfl rfl rfl rfl fun w s=>⟨(),?_,trivial,ak .auto s⟩
    rfl
   ·refine J 7 ?_
    refine .c call206 rfl (qp (hg.mw x (List.mem_of_getElem? hx))) fun _ _=>?_
    refine J 9 ?_
    refine .to (A:=ef vm (g.dn.set m.toNat (x.unlock ch).2.2)) (Bs:=[eh (blk vm) (ek vm+m.toNat * 3) (x.unlock ch).2.2,ss vm g.dn m.toNat]) .auto (tW (x.unlock ch).2.2) ?_
    refine .fr .auto (Dr hr) ?_
    refine J 3 ?_
    refine .p (.fY (fun v1 v2=>[v1,v2]) rfl rfl (by kernel_rfl)) ?_
    refine .c call207 rfl (y8 (x:=⟨who,m⟩) (Nat.le_trans (hg.cw r (List.mem_of_getElem? hr)) (by decide))) fun _ _=>?_
    refine J 12 ?_
    rw[qR hgx hgr h30 (by simpa using h34)]
    refine .to (A:=iH vc (g.hJ.set c.toNat (r++[⟨who,m⟩]))) (Bs:=[iV (blk vc) (ek vc+c.toNat * 1) (r++[⟨who,m⟩]),EM vc g.hJ c.toNat]) .auto (G4 (r++[⟨who,m⟩])) ?_
    refine .mG rfl rfl rfl rfl fun w s=>⟨(),?_,trivial,ak .auto s⟩
    rfl
theorem FA{W:World}{b:Nat}{g:Gates}{who s:Int}(hg:gO g)(hc:∀ x∈g.ez,0≤x.count∧x.count≤1048576):Fn Tryz.prog W 174 [ptr b,.int .i64 who,.int .i64 s] [cy b g] Unit (fun _=>.tuple #[.bool (g.down who s).1,.int .i64 (g.down who s).2.1]) (fun _=>True) (fun _=>[cy b (g.down who s).2.2]):=by
 refine Fn.intro (N:=38) func174 rfl ntmps174 rfl fun F=>?_
 show ar _ _ _ _ _ _ [cy b g,F]
 refine .o3 (C:=cy b g) .auto rfl ?_
 rintro vm vc vs -
 refine J 10 ?_
 refine .c call210 rfl AS fun _ _=>?_
 refine JD 12 (fun h12=>?_) fun h12=>?_
 ·refine J 9 ?_
  rw[wD (fP h12)]
  exact JR 0 ()
 ·refine J 2 ?_
  have hmhx:=fB h12
  rw[fe hmhx]
  obtain⟨x,hx,hgx⟩:=cQ hmhx
  refine J 2 ?_
  refine .c call204 rfl (oU hg) fun _ _=>?_
  refine JD 3 (fun h15=>?_) fun h15=>?_
  ·refine J 9 ?_
   rw[Ad hgx h15]
   exact JR 0 ()
  ·refine J 2 ?_
   refine .fr .auto (Dq hx) ?_
   have hcx:=hc x (List.mem_of_getElem? hx)
   refine .o1 (C:=hM (blk vs) (ek vs+s.toNat * 2) x) .auto rfl ?_
   rintro u -
   refine JD 8 (fun h19=>?_) fun h19=>?_
   ·refine J 9 ?_
    refine .aj rfl (af.N2 sizeOf3 rfl rfl rfl rfl) ?_
    rintro _ _ ⟨rfl,rfl⟩
    refine J 11 ?_
    rw[wF hgx h15 h19]
    refine .to (A:=fy vs (g.ez.set s.toNat {x with count:=x.count-1 })) (Bs:=[hM (blk vs) (ek vs+s.toNat * 2) {x with count:=x.count-1 },Aa vs g.ez s.toNat]) .auto (tX {x with count:=x.count-1 }) ?_
    exact JR 0 ()
   ·refine J 7 ?_
    refine .fr .auto (pC (b:=blk vs) (o:=ek vs+s.toNat * 2) (u:=u)) ?_
    refine J 2 ?_
    refine .p (.gX (fun v1=>[v1,(.int .i64 0)]) rfl (by kernel_rfl)) ?_
    refine .c call207 rfl (y8 (x:=⟨who,0⟩) (Nat.le_trans (hg.sw x (List.mem_of_getElem? hx)) (by decide))) fun _ _=>?_
    refine J 9 ?_
    rw[rQ hgx h15 h19]
    refine .to (A:=hM (blk vs) (ek vs+s.toNat * 2) {x with wait:=x.wait++[⟨who,0⟩] }) (Bs:=[iV (blk vs) (ek vs+s.toNat * 2) (x.wait++[⟨who,0⟩]),arr (blk vs) (ek vs+s.toNat * 2+1) [.int .i64 x.count]]) .auto (sG (m:={x with wait:=x.wait++[⟨who,0⟩] })) ?_
    refine .to (A:=fy vs (g.ez.set s.toNat {x with wait:=x.wait++[⟨who,0⟩] })) (Bs:=[hM (blk vs) (ek vs+s.toNat * 2) {x with wait:=x.wait++[⟨who,0⟩] },Aa vs g.ez s.toNat]) .auto (tX {x with wait:=x.wait++[⟨who,0⟩] }) ?_
    exact JR 0 ()
theorem KJ{W:World}{b:Nat}{g:Gates}{s c:Int}(hg:gO g)(hc:∀ x∈g.ez,0≤x.count∧x.count≤1048576):Fn Tryz.prog W 173 [ptr b,.int .i64 s,.int .i64 c] [cy b g] Unit (fun _=>.tuple #[.int .i64 (g.up s c).1,.bool (g.up s c).2.1,.int .i64 (g.up s c).2.2.1]) (fun _=>True) (fun _=>[cy b (g.up s c).2.2.2]):=by
 refine Fn.intro (N:=40) func173 rfl ntmps173 rfl fun F=>?_
 show ar _ _ _ _ _ _ [cy b g,F]
 refine .o3 (C:=cy b g) .auto rfl ?_
 rintro vm vc vs -
 refine J 11 ?_
 refine .c call210 rfl AS fun _ _=>?_
 refine JD 10 (fun h16=>?_) fun h16=>?_
 ·refine J 9 ?_
  rw[Ds (fP h16)]
  refine .mG rfl rfl rfl rfl fun w s=>⟨(),?_,trivial,ak .auto s⟩
  rfl
 ·refine J 5 ?_
  have hmhx:=fB h16
  rw[fe hmhx]
  obtain⟨x,hx,hgx⟩:=cQ hmhx
  refine .fr .auto (Dq hx) ?_
  have hcx:=hc x (List.mem_of_getElem? hx)
  refine .o1 (C:=hM (blk vs) (ek vs+s.toNat * 2) x) .auto rfl ?_
  rintro u -
  refine .fr .auto (pC (b:=blk vs) (o:=ek vs+s.toNat * 2) (u:=u)) ?_
  refine J 4 ?_
  refine .c call170 rfl (uS (hg.sw x (List.mem_of_getElem? hx))) fun _ _=>?_
  refine J 3 ?_
  refine .aj rfl (af.alloc rfl zeroValue284 rfl) ?_
  rintro _ _ ⟨b10,rfl,rfl⟩
  refine JD 9 (fun h25=>?_) fun h25=>?_
  ·refine J 11 ?_
   rw[wG hgx h25]
   refine .to (A:=hM (blk vs) (ek vs+s.toNat * 2) {x with wait:=(aM x.wait c).2.2 }) (Bs:=[iV (blk vs) (ek vs+s.toNat * 2) (aM x.wait c).2.2,arr (blk vs) (ek vs+s.toNat * 2+1) [.int .i64 x.count]]) .auto (sG (m:={x with wait:=(aM x.wait c).2.2 })) ?_
   refine .to (A:=fy vs (g.ez.set s.toNat {x with wait:=(aM x.wait c).2.2 })) (Bs:=[hM (blk vs) (ek vs+s.toNat * 2) {x with wait:=(aM x.wait c).2.2 },Aa vs g.ez s.toNat]) .auto (tX {x with wait:=(aM x.wait c).2.2 }) ?_
   refine .mG rfl rfl rfl rfl fun w s=>⟨(),?_,trivial,ak .auto s⟩
   rfl
  ·have htw:=EN h25
   refine J 8 ?_
   refine .p (.ld rfl (Cell.az (cs:=[.int .i64 x.count]) rfl)) ?_
   refine JD 3 (fun h32=>?_) fun h32=>?_
   ·refine J 9 ?_
    rw[wH hgx h25 h32]
    rw[htw]
    refine .to (A:=hM (blk vs) (ek vs+s.toNat * 2) x) (Bs:=[iV (blk vs) (ek vs+s.toNat * 2) x.wait,arr (blk vs) (ek vs+s.toNat * 2+1) [.int .i64 x.count]]) .auto sG ?_
    refine .to (A:=fy vs g.ez) (Bs:=[hM (blk vs) (ek vs+s.toNat * 2) x,Aa vs g.ez s.toNat]) .auto (G5 hx) ?_
    refine .mG rfl rfl rfl rfl fun w s=>⟨(),?_,trivial,ak .auto s⟩
    rfl
   ·refine J 7 ?_
    refine .p (.ld rfl (Cell.az (cs:=[.int .i64 x.count]) rfl)) ?_
    refine .p (.add rfl rfl (by omega)) ?_
    refine J 2 ?_
    refine .aj rfl (af.Oa sizeOf3 rfl rfl rfl rfl) ?_
    rintro _ _ ⟨rfl,rfl⟩
    refine J 10 ?_
    rw[Dt hgx h25 h32,htw]
    refine .to (A:=hM (blk vs) (ek vs+s.toNat * 2) {x with count:=x.count+1 }) (Bs:=[iV (blk vs) (ek vs+s.toNat * 2) x.wait,arr (blk vs) (ek vs+s.toNat * 2+1) [.int .i64 (x.count+1)]]) .auto (sG (m:={x with count:=x.count+1 })) ?_
    refine .to (A:=fy vs (g.ez.set s.toNat {x with count:=x.count+1 })) (Bs:=[hM (blk vs) (ek vs+s.toNat * 2) {x with count:=x.count+1 },Aa vs g.ez s.toNat]) .auto (tX {x with count:=x.count+1 }) ?_
    refine .mG rfl rfl rfl rfl fun w s=>⟨(),?_,trivial,ak .auto s⟩
    rfl
theorem se{W:World}{b:Nat}{g:Gates}{c ch:Int}{all:Bool}(hg:gO g)(hm:∀ r∈g.hJ, ∀ w∈r,0≤w.mutex∧w.mutex<(g.dn.length:Int)):Fn Tryz.prog W 122 [ptr b,.int .i64 c,.int .i64 ch,.bool all] [cy b g] Value (fun u=>.tuple #[u,.int .i64 (g.signal c ch all).2.1]) (fun _=>True) (fun u=>[sl aq 1 u (g.signal c ch all).1,cy b (g.signal c ch all).2.2]):=by
 refine Fn.intro (N:=58) func122 rfl ntmps122 rfl fun F=>?_
 show ar _ _ _ _ _ _ [cy b g,F]
 refine .o3 (C:=cy b g) .auto rfl ?_
 rintro vm vc vs -
 refine J 10 ?_
 refine .c call169 rfl xt fun _ _=>?_
 refine JD 10 (fun h19=>?_) fun h19=>?_
 ·refine J 8 ?_
  rw[rN (fP h19)]
  exact JR 0 (Value.slice none 0 0)
 ·refine J 4 ?_
  have hmhr:=fB h19
  rw[fe hmhr]
  obtain⟨r,hr,hgr⟩:=cQ hmhr
  refine .fr .auto (Dr hr) ?_
  have hrl:=hg.cw r (List.mem_of_getElem? hr)
  have hrm:=hm r (List.mem_of_getElem? hr)
  refine .o1 (C:=iV (blk vc) (ek vc+c.toNat * 1) r) .auto rfl ?_
  rintro u0 -
  refine J 5 ?_
  refine .p (.mi rfl rfl) ?_
  refine J 3 ?_
  refine .Bx (X:=Unit) [2,11,26,27,28,29,30,31] (fun _=>True) (fun _=>[(11,some (.int .i64 (((if all=true then r.length else min r.length 1):Nat):Int))),(2,some (.int .i64 (if all=true then 0 else ch)))]) (fun _=>[arr (blk vc) (ek vc+c.toNat * 1) [u0],sl dt 2 u0 r,EM vc g.hJ c.toNat,arr b 0 [vm,vc,vs],ef vm g.dn,fy vs g.ez,F]) ?_ ?_
  ·refine JD 5 (fun h26=>?_) fun h26=>?_
   ·refine J 9 ?_
    refine .kF () .auto ?_ ?_ ?_
    ·trivial
    ·subst h26;exact⟨rfl,rfl,trivial⟩
    ·exact fun w s=>aw.kept .auto w s
   ·refine J 1 ?_
    refine .kF () .auto ?_ ?_ ?_
    ·trivial
    ·rw[if_neg (by rw[h26];simp),if_neg (by rw[h26];simp)];exact⟨by show some _=some _;congr 2;omega,rfl,trivial⟩
    ·exact fun w s=>aw.kept .auto w s
  ·rintro⟨⟩ -
   obtain⟨n0,hn0⟩:∃ n0,n0=(if all=true then r.length else min r.length 1):=⟨_,rfl⟩
   obtain⟨c2,hc2⟩:∃ c2,c2=(if all=true then 0 else ch):=⟨_,rfl⟩
   have h0:n0≤r.length:=by subst hn0;split <;> omega
   rw[← hn0, ← hc2]
   refine J 13 ?_
   refine .aZ (X:=Nat×List eW×List eK×Value×List Int) [12,13,14,33,34,35,36,37,38,39,40,41,42,43,44,45,46,47,48,49,50,51,52,53,54,55,56] (fun z=>n0-z.1) (fun z=>pG r g.dn n0 c2 z.1 z.2.1 z.2.2.1 z.2.2.2.2) (fun z=>[(33,some (.int .i64 (z.1:Int))),(12,some z.2.2.2.1)]) (fun z=>[iV (blk vc) (ek vc+c.toNat * 1) z.2.1,ef vm z.2.2.1,sl aq 1 z.2.2.2.1 z.2.2.2.2,EM vc g.hJ c.toNat,arr b 0 [vm,vc,vs],fy vs g.ez,F]) (0,r,g.dn,.slice none 0 0,[]) ?_ ?_ ?_ ?_
   ·exact pG.zero hg.mw
   ·exact⟨rfl,rfl,trivial⟩
   ·exact fun w s=>aw.kept .auto w s
   rintro⟨k,r1,ms,u,out⟩ hS
   simp only at hS
   refine JD 6 (fun h34=>?_) fun h34=>?_
   ·simp only at h34
    refine J 8 ?_
    refine .c call170 rfl (uS (l:=r1) (by have:=hS.len;omega)) fun _ _=>?_
    refine J 3 ?_
    refine .aj rfl (af.alloc rfl zeroValue284 rfl) ?_
    rintro _ _ ⟨b13,rfl,rfl⟩
    refine J 5 ?_
    refine .draw [] [1,1,1,1,1,1,1,1,1,3] rfl (by kernel_rfl) ?_
    obtain⟨hw1,hw2,hw3⟩:=kP (l:=r1) (c:=c2) (by have:=hS.len;omega)
    have hwm:=hrm _ (hS.mem _ hw1)
    have hml:=hS.ml
    obtain⟨x,hx⟩:=ai (show(aM r1 c2).1.mutex.toNat<ms.length by omega)
    have hxl:=hS.mw x (List.mem_of_getElem? hx)
    refine .o1 (C:=ef vm ms) .auto rfl ?_
    rintro xs hxs
    have hxsl:=au hxs
    refine J 6 ?_
    refine .p (.tm (aM r1 c2).1.mutex.toNat underlying190 sizeOf288 rfl rfl Rd.s (by omega) (by omega)) ?_
    refine J 2 ?_
    refine .to (A:=ef vm ms) .auto (Bs:=[sl mA 3 vm xs,aO (fun x=>sl dt 2 x.1 x.2.wait) xs]) (fun h a=>⟨xs,hxs,a⟩) ?_
    refine .fr .auto (pD hx) ?_
    refine .c call171 rfl (uU (m:=x) (by omega)) fun _ _=>?_
    refine .to (A:=ef vm (ms.set (aM r1 c2).1.mutex.toNat (x.lock (aM r1 c2).1.who).2)) (Bs:=[eh (blk vm) (ek vm+(aM r1 c2).1.mutex.toNat * 3) (x.lock (aM r1 c2).1.who).2,ss vm ms (aM r1 c2).1.mutex.toNat]) .auto (tW (x.lock (aM r1 c2).1.who).2) ?_
    have hnx:=hS.next (by omega) h0
    have hsl:BW r1 c2 ms=x.lock (aM r1 c2).1.who:=by unfold BW;rw[aP hx]
    rw[hsl] at hnx
    refine JD 2 (fun h50=>?_) fun h50=>?_
    ·rw[if_pos h50] at hnx
     refine J 4 ?_
     refine .aj rfl (af.gj 3 rfl rfl (by kernel_rfl)) ?_
     rintro _ _ ⟨b54,rfl,rfl⟩
     refine .aj rfl (af.fV (enc:=aq) (k:=1) (aM r1 c2).1.who rfl underlying50 underlying50 typeInfo3 rfl rfl rfl (by decide) rfl rfl rfl .auto rfl .auto (by have:=hS.ol;have:=hS.hk;dsimp only;omega) rfl) ?_
     rintro _ _ ⟨v55,rfl,rfl⟩
     refine J 8 ?_
     refine .ax (k+1,(aM r1 c2).2.2,ms.set (aM r1 c2).1.mutex.toNat (x.lock (aM r1 c2).1.who).2,v55,out++[(aM r1 c2).1.who]) .auto rfl ?_ ?_ ?_ ?_
     ·show n0-(k+1)<n0-k;omega
     ·exact hnx
     ·exact⟨rfl,rfl,trivial⟩
     ·exact fun w s=>aw.kept .auto w s
    ·rw[if_neg (by rw[h50];simp)] at hnx
     refine J 7 ?_
     refine .ax (k+1,(aM r1 c2).2.2,ms.set (aM r1 c2).1.mutex.toNat (x.lock (aM r1 c2).1.who).2,u,out) .auto rfl ?_ ?_ ?_ ?_
     ·show n0-(k+1)<n0-k;omega
     ·exact hnx
     ·exact⟨rfl,rfl,trivial⟩
     ·exact fun w s=>aw.kept .auto w s
   ·simp only at h34
    refine J 13 ?_
    rw[rP (z:=(r1,ms,out)) hgr (by rw[← hn0, ← hc2];exact hS.done (by omega))]
    refine .to (A:=iH vc (g.hJ.set c.toNat r1)) (Bs:=[iV (blk vc) (ek vc+c.toNat * 1) r1,EM vc g.hJ c.toNat]) .auto (G4 r1) ?_
    exact JR 0 u
theorem FB{W:World}{b:Nat}{l:List eK}{n:Int}{vm vc vs:Value}:Fn Tryz.prog W 209 [ptr b,.int .i64 1,.int .i64 n] [arr b 0 [vm,vc,vs],ef vm l] Unit (fun _=>Lc vm l.length 3 n) (fun _=>True) (fun _=>[arr b 0 [vm,vc,vs],ef vm l]):=by
 refine Fn.intro (N:=35) func209 rfl ntmps209 rfl fun F=>?_
 show ar _ _ _ _ _ _ [arr b 0 [vm,vc,vs],ef vm l,F]
 refine J 18 ?_
 refine .da rfl (fun _=>?_) (fun hc=>absurd rfl hc)
 refine J 4 ?_
 refine .c call203 rfl l9 fun _ _=>?_
 refine JD 9 (fun h16=>?_) fun h16=>?_
 ·refine J 2 ?_
  have hm:=Ab h16
  rw[fe hm]
  exact JR 9 ()
 ·refine J 9 ?_
  refine .aS rfl rfl fun w s=>⟨(),?_,trivial,ak .auto s⟩
  rw[sI (BV h16)]
theorem vW{W:World}{b:Nat}{g:Gates}{n:Nat}{x:eK}(hx:g.dn[n]?=some x)(hl:x.wait.length≤1000000):Fn Tryz.prog W 172 [ptr b,.int .i64 1,.int .i64 (n:Int)] [cy b g] Value (fun u=>u) (fun _=>True) (fun u=>[sl aq 1 u (x.wait.map (·.who)),cy b g]):=by
 refine Fn.intro (N:=33) func172 rfl ntmps172 rfl fun F=>?_
 show ar _ _ _ _ _ _ [cy b g,F]
 refine .o3 (C:=cy b g) .auto rfl ?_
 rintro vm vc vs -
 have hn:=(List.getElem?_eq_some_iff.1 hx).1
 refine J 10 ?_
 refine .c call209 rfl FB fun _ _=>?_
 refine JD 10 (fun h16=>?_) fun h16=>?_
 ·exact absurd (show(0:Int)≤(n:Int)∧(n:Int)<(g.dn.length:Int) by omega) (fP h16)
 ·refine J 10 ?_
  rw[fe (by omega),Int.toNat_natCast]
  refine .fr .auto (pD hx) ?_
  refine .o1 (C:=eh (blk vm) (ek vm+n * 3) x) .auto rfl ?_
  rintro u0 -
  refine J 9 ?_
  refine .aZ (X:=Nat×Value) [8,10,22,23,24,25,26,27,28,29,30,31] (fun z=>x.wait.length-z.1) (fun z=>z.1≤x.wait.length) (fun z=>[(22,some (.int .i64 (z.1:Int))),(8,some z.2)]) (fun z=>[sl aq 1 z.2 ((x.wait.map (·.who)).take z.1),arr (blk vm) (ek vm+n * 3) [u0,.bool x.held,.int .i64 x.owner],sl dt 2 u0 x.wait,ss vm g.dn n,arr b 0 [vm,vc,vs],iH vc g.hJ,fy vs g.ez,F]) (0,.slice none 0 0) ?_ ?_ ?_ ?_
  ·exact Nat.zero_le _
  ·exact⟨rfl,rfl,trivial⟩
  ·exact fun w s=>aw.kept .auto w s
  rintro⟨k,u⟩ hk
  simp only at hk
  refine JD 6 (fun h23=>?_) fun h23=>?_
  ·refine J 6 ?_
   obtain⟨w,hw⟩:=ai (show k<x.wait.length by omega)
   refine J 2 ?_
   refine .aj rfl (af.alloc rfl zeroValue284 rfl) ?_
   rintro _ _ ⟨b10,rfl,rfl⟩
   refine J 7 ?_
   refine .aj rfl (af.gj 3 rfl rfl (by kernel_rfl)) ?_
   rintro _ _ ⟨b29,rfl,rfl⟩
   refine .aj rfl (af.fV (enc:=aq) (k:=1) w.who rfl underlying50 underlying50 typeInfo3 rfl rfl rfl (by decide) rfl rfl rfl .auto rfl .auto (by rw[List.length_take,List.length_map];omega) rfl) ?_
   rintro _ _ ⟨v30,rfl,rfl⟩
   refine J 8 ?_
   refine .ax (k+1,v30) .auto rfl ?_ ?_ ?_ ?_
   ·show x.wait.length-(k+1)<x.wait.length-k;omega
   ·show k+1≤_;omega
   ·exact⟨rfl,rfl,trivial⟩
   ·show ∀ w,Sat _ w _→Sat _ w (seps [sl aq 1 v30 ((x.wait.map (·.who)).take (k+1)),_,_,_,_,_,_,F])
    rw[aW (show(x.wait.map (·.who))[k]?=some w.who by rw[List.getElem?_map,hw];rfl)]
    exact fun w s=>aw.kept .auto w s
  ·refine J 12 ?_
   obtain rfl:k=x.wait.length:=by omega
   rw[List.take_of_length_le (by simp)]
   refine .to (A:=ef vm g.dn) (Bs:=[eh (blk vm) (ek vm+n * 3) x,ss vm g.dn n]) .auto (pE hx) ?_
   refine .aS rfl rfl fun w s=>⟨_,?_,trivial,ak .auto s⟩
   rfl
end Go.SLYtpbjdoplfgeliaaGreat
namespace Go.SLYtpbjdoplfgeliaaGreat
open Go Go.RowKit Go.Proofs Go.Proofs.Tryz
attribute [local irreducible] ar aR bm bA bH Y
theorem II{W:World}{A:aa}{x:Ptr}{c:Nat}{who:Int}:Fn Tryz.prog W 277 [.agg (my x).toArray,ptr c] [seps [arr c 0 [.int .i64 who],A]] Unit (fun _=>.bool (decide (x.who=who))) (fun _=>True) (fun _=>[seps [arr c 0 [.int .i64 who],A]]):=by
 refine Fn.intro (N:=8) func277 rfl ntmps277 rfl fun F=>?_
 show ar _ _ _ _ _ _ [seps [arr c 0 [.int .i64 who],A],F]
 refine .dL .auto ?_
 refine J 2 ?_
 refine .aj rfl (af.box rfl rfl rfl) ?_
 rintro _ _ ⟨b2,rfl,rfl⟩
 exact JR 13 ()
theorem uV{W:World}{b:Nat}{t:Tub}{who:Int}(hl:tY t):Fn Tryz.prog W 252 [ptr b,.int .i64 who] [iI b t] Unit (fun _=>.bool (t.waits who)) (fun _=>True) (fun _=>[iI b t]):=by
 refine Fn.intro (N:=19) func252 rfl ntmps252 rfl fun F=>?_
 show ar _ _ _ _ _ _ [iI b t,F]
 refine .o3 (C:=iI b t) .auto rfl ?_
 rintro vw vp vg -
 obtain⟨hl1,hl2,hl3⟩:=hl
 refine J 2 ?_
 refine .aj rfl (af.box rfl rfl rfl) ?_
 rintro _ _ ⟨b3,rfl,rfl⟩
 refine J 4 ?_
 refine .draw [] [1,1,1,1,1,3,1,1,1,1,1,1,3,1,1] rfl (by kernel_rfl) ?_
 refine J 5 ?_
 refine .c call59 rfl (nR (A:=sl aq 1 vg t.gM) (Rd.sl .here) (by omega)) fun _ _=>?_
 refine J 1 ?_
 apply bm.gY 7 18 11 [11,12,13,14,15,16,17,18] rfl
 ·intro h11
  refine J 4 ?_
  refine .g (.makeFunc rfl rfl) ?_
  refine .dg rfl rfl rfl (af.eD rfl call276 rfl (vS (A:=seps [arr b3 0 [.int .i64 who],sl my 2 vp t.hZ]) (p:=fun p=>decide (p.who=who)) (Rd.eX (Rd.sl (.there .here))) (by omega) call277 (fun x _=>II)) .auto) ?_
  rintro _ _ ⟨⟨⟩, -,rfl,rfl⟩
  refine .dL .auto ?_
  exact JS 2
 ·intro h11
  refine J 5 ?_
  refine .M4 rfl rfl rfl rfl ?_
  exact JS 2
 exact JR 4 ()
theorem MC{W:World}{b i:Nat}{cs:List Value}{v:Value}{xs:List Int}{x:Int}(hi:cs[i]?=some v)(hx:xs[0]?=some x)(hl:xs.length≤1000000):Fn Tryz.prog W 253 [.pointer (some ⟨b,i,none⟩)] [arr b 0 cs,sl aq 1 v xs] Value (fun _=>.int .i64 x) (fun _=>True) (fun u=>[arr b 0 (cs.set i u),sl aq 1 u (xs.eraseIdx 0)]):=by
 refine Fn.intro (N:=16) func253 rfl ntmps253 rfl fun F=>?_
 show ar _ _ _ _ _ _ [arr b 0 cs,sl aq 1 v xs,F]
 have hil:=(List.getElem?_eq_some_iff.1 hi).1
 have hxl:=(List.getElem?_eq_some_iff.1 hx).1
 refine J 9 ?_
 refine .p (.ld rfl (Cell.a hi)) ?_
 refine J 10 ?_
 refine .p (.ld rfl (Cell.a hi)) ?_
 refine .c call278 rfl (yY (i:=0) hxl (by omega)) fun u13 _=>?_
 refine J 1 ?_
 refine .aj rfl (af.mC sizeOf50 rfl rfl (Nat.blt_eq.mpr hil)) ?_
 rintro _ _ ⟨rfl,rfl⟩
 exact JR 9 u13
theorem MD{W:World}{b i:Nat}{cs:List Value}{v:Value}{xs:List Int}{x:Int}(hi:cs[i]?=some v)(hx:xs[0]?=some x)(hl:xs.length≤1000000):Fn Tryz.prog W 254 [.pointer (some ⟨b,i,none⟩)] [arr b 0 cs,sl eS 1 v xs] Value (fun _=>.int .u64 x) (fun _=>True) (fun u=>[arr b 0 (cs.set i u),sl eS 1 u (xs.eraseIdx 0)]):=by
 refine Fn.intro (N:=16) func254 rfl ntmps254 rfl fun F=>?_
 show ar _ _ _ _ _ _ [arr b 0 cs,sl eS 1 v xs,F]
 have hil:=(List.getElem?_eq_some_iff.1 hi).1
 have hxl:=(List.getElem?_eq_some_iff.1 hx).1
 refine J 9 ?_
 refine .p (.ld rfl (Cell.a hi)) ?_
 refine J 10 ?_
 refine .p (.ld rfl (Cell.a hi)) ?_
 refine .c call279 rfl (KC (i:=0) hxl (by omega)) fun u13 _=>?_
 refine J 1 ?_
 refine .aj rfl (af.mC sizeOf64 rfl rfl (Nat.blt_eq.mpr hil)) ?_
 rintro _ _ ⟨rfl,rfl⟩
 exact JR 9 u13
theorem ME{W:World}{b i:Nat}{cs:List Value}{v:Value}{xs:List Ptr}{x:Ptr}(hi:cs[i]?=some v)(hx:xs[0]?=some x)(hl:xs.length≤1000000):Fn Tryz.prog W 255 [.pointer (some ⟨b,i,none⟩)] [arr b 0 cs,sl my 2 v xs] Value (fun _=>.agg (my x).toArray) (fun _=>True) (fun u=>[arr b 0 (cs.set i u),sl my 2 u (xs.eraseIdx 0)]):=by
 refine Fn.intro (N:=16) func255 rfl ntmps255 rfl fun F=>?_
 show ar _ _ _ _ _ _ [arr b 0 cs,sl my 2 v xs,F]
 have hil:=(List.getElem?_eq_some_iff.1 hi).1
 have hxl:=(List.getElem?_eq_some_iff.1 hx).1
 refine J 2 ?_
 refine .aj rfl (af.alloc rfl zeroValue360 rfl) ?_
 rintro _ _ ⟨b2,rfl,rfl⟩
 refine J 6 ?_
 refine .p (.ld rfl (Cell.a hi)) ?_
 refine J 2 ?_
 refine .aj rfl (af.alloc rfl zeroValue360 rfl) ?_
 rintro _ _ ⟨b3,rfl,rfl⟩
 refine J 8 ?_
 refine .p (.ld rfl (Cell.a hi)) ?_
 refine .c call280 rfl (KB (i:=0) hxl (by omega)) fun u13 _=>?_
 refine J 1 ?_
 refine .aj rfl (af.mC sizeOf207 rfl rfl (Nat.blt_eq.mpr hil)) ?_
 rintro _ _ ⟨rfl,rfl⟩
 refine J 9 ?_
 refine .dJ rfl rfl isAgg360 (by exact sizeOf360) Cells.a fun w s=>⟨u13,?_,trivial,ak .auto s⟩
 rfl
theorem IJ{W:World}{b:Nat}{t:Tub}{who:Int}(hl:tY t){x:Int}:Fn Tryz.prog W 212 [ptr b,.int .i64 who,.int .u64 x] [iI b t] Unit (fun _=>.tuple #[.bool (t.put who x).1,.int .i64 (t.put who x).2.1,.bool (t.put who x).2.2.1]) (fun _=>True) (fun _=>[iI b (t.put who x).2.2.2]):=by
 refine Fn.intro (N:=61) func212 rfl ntmps212 rfl fun F=>?_
 show ar _ _ _ _ _ _ [iI b t,F]
 refine J 16 ?_
 refine .cg call252 rfl (uV hl) fun _ _=>?_
 refine JD 4 (fun h9=>?_) fun h9=>?_
 ·refine J 10 ?_
  rw[wI h9]
  refine .mG rfl rfl rfl rfl fun w s=>⟨(),?_,trivial,ak .auto s⟩
  rfl
 ·refine J 2 ?_
  refine .o3 (C:=iI b t) .auto rfl ?_
  rintro vw vp vg -
  obtain⟨hl1,hl2,hl3⟩:=hl
  refine JD 9 (fun h17=>?_) fun h17=>?_
  ·refine J 2 ?_
   obtain⟨w,r,hw⟩:=yw (l:=t.gM) (by omega)
   refine J 3 ?_
   refine .c call253 rfl (MC (i:=3) (v:=vg) (xs:=t.gM) (x:=w) rfl (by rw[hw];rfl) (by omega)) fun u27 _=>?_
   rw[show t.gM.eraseIdx 0=r from by rw[hw];rfl]
   refine J 8 ?_
   rw[sK h9 hw]
   refine .mG rfl rfl rfl rfl fun w s=>⟨(),?_,trivial,ak .auto s⟩
   rfl
  ·refine J 1 ?_
   refine .draw [] [1,1,1,1,1,1,1,1,1,1,1] rfl (by kernel_rfl) ?_
   have hg0:t.gM=[]:=BX (by omega)
   refine JD 13 (fun h28=>?_) fun h28=>?_
   ·refine J 8 ?_
    refine .aj rfl (af.gj 92 rfl rfl (by kernel_rfl)) ?_
    rintro _ _ ⟨b45,rfl,rfl⟩
    refine .aj rfl (af.fV (enc:=eS) (k:=1) x rfl underlying64 underlying64 typeInfo92 rfl rfl rfl (by decide) rfl rfl rfl .auto rfl .auto (by omega) rfl) ?_
    rintro _ _ ⟨v46,rfl,rfl⟩
    refine J 2 ?_
    refine .aj rfl (af.mC sizeOf64 rfl rfl rfl) ?_
    rintro _ _ ⟨rfl,rfl⟩
    refine J 12 ?_
    rw[pH h9 hg0 h28]
    refine .mG rfl rfl rfl rfl fun w s=>⟨(),?_,trivial,ak .auto s⟩
    rfl
   ·refine J 12 ?_
    refine .p (.fY (fun v1 v2=>[v1,v2]) rfl rfl (by kernel_rfl)) ?_
    refine .aj rfl (af.gj 360 rfl rfl (by kernel_rfl)) ?_
    rintro _ _ ⟨b57,rfl,rfl⟩
    refine .aj rfl (af.fV (enc:=my) (k:=2) (⟨who,x⟩:Ptr) rfl underlying207 underlying207 typeInfo360 rfl rfl rfl (by decide) rfl rfl rfl .auto rfl .auto (by omega) rfl) ?_
    rintro _ _ ⟨v58,rfl,rfl⟩
    refine J 2 ?_
    refine .aj rfl (af.mC sizeOf207 rfl rfl rfl) ?_
    rintro _ _ ⟨rfl,rfl⟩
    refine J 10 ?_
    rw[pI h9 hg0 h28]
    refine .mG rfl rfl rfl rfl fun w s=>⟨(),?_,trivial,ak .auto s⟩
    rfl
theorem IK{W:World}{b:Nat}{t:Tub}{who:Int}(hl:tY t):Fn Tryz.prog W 213 [ptr b,.int .i64 who] [iI b t] Unit (fun _=>.tuple #[.int .u64 (t.get who).1,.bool (t.get who).2.1,.int .i64 (t.get who).2.2.1,.bool (t.get who).2.2.2.1]) (fun _=>True) (fun _=>[iI b (t.get who).2.2.2.2]):=by
 refine Fn.intro (N:=64) func213 rfl ntmps213 rfl fun F=>?_
 show ar _ _ _ _ _ _ [iI b t,F]
 refine J 17 ?_
 refine .cg call252 rfl (uV hl) fun _ _=>?_
 refine JD 4 (fun h10=>?_) fun h10=>?_
 ·refine J 11 ?_
  rw[qS h10]
  refine .Jw rfl rfl rfl rfl rfl fun w s=>⟨(),?_,trivial,ak .auto s⟩
  rfl
 ·refine J 2 ?_
  refine .o3 (C:=iI b t) .auto rfl ?_
  rintro vw vp vg -
  obtain⟨hl1,hl2,hl3⟩:=hl
  refine JD 9 (fun h18=>?_) fun h18=>?_
  ·refine J 2 ?_
   have hw0:t.words=[]:=BX (by omega)
   refine J 6 ?_
   refine .aj rfl (af.gj 3 rfl rfl (by kernel_rfl)) ?_
   rintro _ _ ⟨b31,rfl,rfl⟩
   refine .aj rfl (af.fV (enc:=aq) (k:=1) who rfl underlying50 underlying50 typeInfo3 rfl rfl rfl (by decide) rfl rfl rfl .auto rfl .auto (by omega) rfl) ?_
   rintro _ _ ⟨v32,rfl,rfl⟩
   refine J 2 ?_
   refine .aj rfl (af.mC sizeOf50 rfl rfl rfl) ?_
   rintro _ _ ⟨rfl,rfl⟩
   refine J 13 ?_
   rw[get_none h10 hw0]
   refine .Jw rfl rfl rfl rfl rfl fun w s=>⟨(),?_,trivial,ak .auto s⟩
   rfl
  ·refine J 5 ?_
   obtain⟨x,r,hw⟩:=yw (l:=t.words) (by omega)
   refine J 3 ?_
   refine .c call254 rfl (MD (i:=1) (v:=vw) (xs:=t.words) (x:=x) rfl (by rw[hw];rfl) (by omega)) fun u38 _=>?_
   rw[show t.words.eraseIdx 0=r from by rw[hw];rfl]
   refine JD 14 (fun h44=>?_) fun h44=>?_
   ·refine J 11 ?_
    rw[pJ h10 hw (BX (by omega))]
    refine .Jw rfl rfl rfl rfl rfl fun w s=>⟨(),?_,trivial,ak .auto s⟩
    rfl
   ·refine J 4 ?_
    obtain⟨p,q,hp⟩:=yw (l:=t.hZ) (by omega)
    refine J 3 ?_
    refine .c call255 rfl (ME (i:=2) (v:=vp) (xs:=t.hZ) (x:=p) rfl (by rw[hp];rfl) (by omega)) fun u49 _=>?_
    rw[show t.hZ.eraseIdx 0=q from by rw[hp];rfl]
    refine .aj rfl (af.alloc rfl zeroValue360 rfl) ?_
    rintro _ _ ⟨b9,rfl,rfl⟩
    refine J 4 ?_
    refine .draw [arr b 0 [.int .i64 t.room,u38,u49,vg],arr b9 0 (my p)] [0,0,0,0,0,1,1,2,2,1,1,3] rfl (by kernel_rfl) ?_
    refine J 7 ?_
    refine .d2 rfl Kept.auto (af.gj 92 rfl rfl (by kernel_rfl)) (by rintro _ _ ⟨b57,rfl,rfl⟩;exact Kept.auto) ?_
    rintro _ _ ⟨b57,rfl,rfl⟩
    refine .d2 rfl Kept.auto (af.fV (enc:=eS) (k:=1) p.x rfl underlying64 underlying64 typeInfo92 rfl rfl rfl (by decide) rfl rfl rfl .auto rfl .auto (by have h5:r.length+1=t.words.length:=(by rw[hw];rfl);omega) rfl) (by rintro _ _ ⟨v58,rfl,rfl⟩;exact Kept.auto) ?_
    rintro _ _ ⟨v58,rfl,rfl⟩
    refine J 2 ?_
    refine .d3 rfl (af.mC sizeOf64 rfl rfl rfl) ?_
    rintro _ _ ⟨rfl,rfl⟩
    refine J 3 ?_
    refine .draw [] [1,1,1,1,1,1,1] rfl (by kernel_rfl) ?_
    refine J 10 ?_
    rw[pK h10 hw hp]
    refine .Jw rfl rfl rfl rfl rfl fun w s=>⟨(),?_,trivial,ak .auto s⟩
    rfl
theorem FC{W:World}{k:Int}{n:Nat}(hn:0<n)(hl:n≤1000000000):Fn Tryz.prog W 126 [.int .i64 k,.int .i64 (n:Int)] [] Unit (fun _=>.int .i64 ((pick k n:Nat):Int)) (fun _=>True) (fun _=>[]):=by
 refine Fn.intro (N:=12) func126 rfl ntmps126 rfl fun F=>?_
 show ar _ _ _ _ _ _ [F]
 refine J 9 ?_
 refine .p (.rem rfl rfl (by omega)) ?_
 refine J 1 ?_
 refine .p (.add rfl rfl (Dm hn hl)) ?_
 refine J 1 ?_
 refine .p (.fa (Y.rem rfl rfl (by omega)) (kM hn)) ?_
 exact JR 4 ()
theorem NP{W:World}{A:aa}{x r:wh}{c:Nat}:Fn Tryz.prog W 251 [.agg (gJ x).toArray,ptr c] [seps [arr c 0 (gJ r),A]] Unit (fun _=>.bool (decide (x.who=r.who))) (fun _=>True) (fun _=>[seps [arr c 0 (gJ r),A]]):=by
 refine Fn.intro (N:=9) func251 rfl ntmps251 rfl fun F=>?_
 show ar _ _ _ _ _ _ [seps [arr c 0 (gJ r),A],F]
 refine .dL .auto ?_
 refine J 2 ?_
 refine .aj rfl (af.box rfl rfl rfl) ?_
 rintro _ _ ⟨b2,rfl,rfl⟩
 refine .mem (H':=[arr b2 0 (gJ x),arr c 0 (gJ r),A,F]) (fun w s=>s) ?_
 exact JR 14 ()
theorem IL{W:World}{b:Nat}{d:lj}{r:wh}(hl:d.wait.length≤1000000):Fn Tryz.prog W 211 [ptr b,.agg (gJ r).toArray] [pq b d] Unit (fun _=>.int .i64 (d.ask r).1) (fun _=>True) (fun _=>[pq b (d.ask r).2]):=by
 refine Fn.intro (N:=40) func211 rfl ntmps211 rfl fun F=>?_
 show ar _ _ _ _ _ _ [pq b d,F]
 refine .o2 (C:=pq b d) .auto rfl ?_
 rintro vb vw -
 refine J 2 ?_
 refine .aj rfl (af.box rfl rfl rfl) ?_
 rintro _ _ ⟨b3,rfl,rfl⟩
 refine .mem (H':=[arr b3 0 (gJ r),arr b 0 [vb,vw],sl eS 1 vb d.blocks,sl gJ 4 vw d.wait,F]) (fun w s=>s) ?_
 refine J 6 ?_
 refine .draw [] [1,1,1,1,1,1,1,1,1,1,1,1,1,1,1,1,1,1] rfl (by kernel_rfl) ?_
 refine J 8 ?_
 apply bm.gA 9 22 13 [13,14,15,16,17,18,19,20,21,22] rfl
 ·intro h13
  exact JS 10
 ·intro h13
  exact JS 10
 refine JD 3 (fun h5=>?_) fun h5=>?_
 ·refine J 8 ?_
  rw[Du h5]
  exact JR 0 ()
 ·refine J 6 ?_
  refine .p (.makeFunc rfl rfl) ?_
  refine .c call250 rfl (vR (A:=seps [arr b3 0 (gJ r),sl gJ 4 vw d.wait]) (p:=fun x=>decide (x.who=r.who)) (Rd.eX (Rd.sl (.there .here))) (by omega) call251 (fun x _=>NP)) fun _ _=>?_
  refine .dL .auto ?_
  refine JD 3 (fun h23=>?_) fun h23=>?_
  ·refine J 8 ?_
   rw[G8 h5 h23]
   exact JR 0 ()
  ·refine J 4 ?_
   refine .draw [arr b 0 [vb,vw],arr b3 0 (gJ r)] [0,0,0,0,0,1,2,2,1,1,3] rfl (by kernel_rfl) ?_
   refine J 6 ?_
   refine .d2 rfl Kept.auto (af.gj 145 rfl rfl (by kernel_rfl)) (by rintro _ _ ⟨b36,rfl,rfl⟩;exact Kept.auto) ?_
   rintro _ _ ⟨b36,rfl,rfl⟩
   refine .mem (H':=[arr b36 0 (gJ r),arr b3 0 (gJ r),sl gJ 4 vw d.wait,arr b 0 [vb,vw],sl eS 1 vb d.blocks,F]) (fun w s=>s) ?_
   refine .d2 rfl Kept.auto (af.fV (enc:=gJ) (k:=4) r rfl underlying201 underlying201 typeInfo145 rfl rfl rfl (by decide) rfl rfl rfl .auto rfl .auto (by omega) rfl) (by rintro _ _ ⟨v37,rfl,rfl⟩;exact Kept.auto) ?_
   rintro _ _ ⟨v37,rfl,rfl⟩
   refine J 2 ?_
   refine .d3 rfl (af.mC sizeOf201 rfl rfl rfl) ?_
   rintro _ _ ⟨rfl,rfl⟩
   refine J 8 ?_
   rw[G9 h5 h23]
   exact JR 0 ()
theorem FD{W:World}{b:Nat}{d:lj}{k:Int}(hl:d.wait.length≤1000000)(hb:∀ r∈d.wait,0≤r.block∧r.block<(d.blocks.length:Int)):Fn Tryz.prog W 80 [ptr b,.int .i64 k] [pq b d] Unit (fun _=>.tuple #[.agg (gJ (d.done k).1).toArray,.int .u64 (d.done k).2.1,.bool (d.done k).2.2.1]) (fun _=>True) (fun _=>[pq b (d.done k).2.2.2]):=by
 refine Fn.intro (N:=66) func80 rfl ntmps80 rfl fun F=>?_
 show ar _ _ _ _ _ _ [pq b d,F]
 refine .o2 (C:=pq b d) .auto rfl ?_
 rintro vb vw -
 refine J 2 ?_
 refine .aj rfl (af.alloc rfl zeroValue145 rfl) ?_
 rintro _ _ ⟨b4,rfl,rfl⟩
 refine JD 19 (fun h18=>?_) fun h18=>?_
 ·refine J 2 ?_
  refine .p (.mq ([(.int .i64 0),(.int .i64 0),(.bool false),(.int .u64 0)]) (by kernel_rfl)) ?_
  refine J 7 ?_
  rw[qT (show d.wait.length=0 by omega)]
  refine .tf rfl rfl isAgg145 (by exact sizeOf145) Cells.a rfl rfl fun w s=>⟨(),?_,trivial,ak .auto s⟩
  rfl
 ·refine J 4 ?_
  have hpk:pick k d.wait.length<d.wait.length:=j7 (by omega)
  have hr0:=getD_some (d:=yx) hpk
  obtain⟨r,hr⟩:∃ r,d.wait.getD (pick k d.wait.length) yx=r:=⟨_,rfl⟩
  rw[hr] at hr0
  have hbr:=hb r (List.mem_of_getElem? hr0)
  refine J 6 ?_
  refine .c call126 rfl (FC (by omega) (by omega)) fun _ _=>?_
  refine J 10 ?_
  refine .p (.tm (pick k d.wait.length) underlying201 sizeOf145 rfl rfl Rd.s rfl hpk) ?_
  refine .p (.la rfl (Cells.rd Rd.s hr0)) ?_
  refine .aj rfl (af.alloc rfl zeroValue145 rfl) ?_
  rintro _ _ ⟨b8,rfl,rfl⟩
  refine J 13 ?_
  refine .c call127 rfl (KA hpk (by omega)) fun u42 _=>?_
  refine J 2 ?_
  refine .aj rfl (af.mC sizeOf201 rfl rfl rfl) ?_
  rintro _ _ ⟨rfl,rfl⟩
  refine JD 9 (fun h46=>?_) fun h46=>?_
  ·refine J 1 ?_
   refine .draw [] [1,1,1,1,1,1,1,1,1,3] rfl (by kernel_rfl) ?_
   refine J 8 ?_
   obtain⟨y,hy⟩:=ai (show r.block.toNat<d.blocks.length by omega)
   refine .p (.ix r.block.toNat rfl rfl (by omega) (by omega)) ?_
   refine .d3 rfl (af.er (x':=r.x) rfl rfl sizeOf92 rfl hy (by decide) rfl .auto) ?_
   rintro _ _ ⟨rfl,rfl⟩
   refine J 12 ?_
   rw[oD (show ¬d.wait.length=0 by omega) hr h46]
   refine .tf rfl rfl isAgg145 (by exact sizeOf145) Cells.a rfl rfl fun w s=>⟨(),?_,trivial,ak .auto s⟩
   rfl
  ·refine J 3 ?_
   refine .draw [arr b8 0 (gJ r),arr b 0 [vb,u42],sl eS 1 vb d.blocks] [1,0,0,0,0,0,0,0,0,2,1,1] rfl (by kernel_rfl) ?_
   refine J 7 ?_
   have hy:=getD_some (d:=(0:Int)) (show r.block.toNat<d.blocks.length by omega)
   refine .q (.ix r.block.toNat rfl rfl (by omega) (by omega)) ?_
   refine J 1 ?_
   refine .d2 rfl Kept.auto (af.iy (by exact sizeOf145) rfl rfl rfl (by rfl)) (by rintro _ _ ⟨rfl,rfl⟩;exact Kept.auto) ?_
   rintro _ _ ⟨rfl,rfl⟩
   refine J 5 ?_
   rw[qU (show ¬d.wait.length=0 by omega) hr h46]
   refine .tf rfl rfl isAgg145 (by exact sizeOf145) Cells.a rfl rfl fun w s=>⟨(),?_,trivial,ak .auto s⟩
   rfl
end Go.SLYtpbjdoplfgeliaaGreat
namespace Go.SLYtpbjdoplfgeliaaGreat
open Go Go.RowKit Go.MapKept
def uW(e:MapEntry):Int×Int:=(match e.key with | .int _ k=>k | _=>0,match e.val with | .int _ k=>k | _=>0)
theorem IM{es:List MapEntry}{c:Nat}{l:List (Int×Int)}(h:mh es c l):es.map uW=l∧ ∀ e∈es,e.key = .int .i64 (uW e).1∧e.val = .int .i64 (uW e).2:=by
 have h1:=h.1
 clear h
 induction es generalizing l with
 | nil =>
  cases l with
  | nil=>exact⟨rfl,fun e he=>by cases he⟩
  | cons p l=>cases h1
 | cons e es ih =>
  cases l with
  | nil=>cases h1
  | cons p l =>
   simp only[List.map_cons,List.cons.injEq,Prod.mk.injEq] at h1
   obtain⟨⟨hk,hv⟩,ht⟩:=h1
   obtain⟨i1,i2⟩:=ih ht
   have e1:uW e=p:=by unfold uW;rw[hk,hv]
   refine⟨by rw[List.map_cons,i1,e1],fun x hx=>?_⟩
   rcases List.mem_cons.1 hx with rfl | hx
   ·rw[e1];exact⟨hk,hv⟩
   ·exact i2 x hx
def findI(k:Int):List (Int×Int)→Nat→Option (Nat×Value)
 | [],_=>none
 | p::l,i=>if k=p.1 then some (i,.int .i64 p.2) else findI k l (i+1)
theorem qq{k:Int}:∀ {es:List MapEntry} {l:List (Int×Int)} {i:Nat},es.map (fun e=>(e.key,e.val))=l.map (fun p=>(Value.int .i64 p.1,Value.int .i64 p.2))→Instr.findNow (.int .i64) (.int .i64 k) es i=some (findI k l i)
 | [],[],_,_=>rfl
 | [],_::_,_,h=>by cases h
 | _::_,[],_,h=>by cases h
 | e::es,p::l,i,h=>by
  simp only[List.map_cons,List.cons.injEq,Prod.mk.injEq] at h
  obtain⟨⟨hk,hv⟩,ht⟩:=h
  unfold Instr.findNow findI
  rw[hk,hv]
  by_cases e:k=p.1
  ·subst e;simp[Instr.sameNow]
  ·simp only[Instr.sameNow,if_pos,if_neg e]
   rw[show(k == p.1)=false from by simpa using e]
   exact qq ht
theorem xw{k:Int}:∀ (l:List (Int×Int)) (i:Nat),(findI k l i).map (·.2)=(mJ l k).map (Value.int .i64)
 | [],_=>rfl
 | p::l,i=>by
  unfold findI mJ
  rw[List.find?_cons]
  by_cases e:k=p.1
  ·rw[if_pos e];simp[e]
  ·rw[if_neg e,show decide (p.1=k)=false from by simpa using fun h=>e h.symm]
   exact xw l (i+1)
theorem uX{k:Int}:∀ {l:List (Int×Int)} {i j:Nat} {v:Value},findI k l i=some (j,v)→ ∃ n v',j=i+n∧l[n]?=some (k,v')∧ ∀ v'',mapSet l k v''=l.set n (k,v'')
 | [],_,_,_,h=>by cases h
 | p::l,i,j,v,h=>by
  unfold findI at h
  by_cases e:k=p.1
  ·rw[if_pos e] at h;cases h
   exact⟨0,p.2,rfl,by rw[e];rfl,fun v''=>by rw[mapSet,if_pos e.symm];rfl⟩
  ·rw[if_neg e] at h
   obtain⟨n,v',h1,h2,h3⟩:=uX h
   exact⟨n+1,v',by omega,by simpa using h2,fun v''=>by rw[mapSet,if_neg (fun h=>e h.symm),h3];rfl⟩
theorem uY{k:Int}:∀ {l:List (Int×Int)} {i:Nat},findI k l i=none→(∀ p∈l,p.1≠k)∧ ∀ v,mapSet l k v=l++[(k,v)]
 | [],_,_=>⟨fun p hp=>(by cases hp),fun v=>rfl⟩
 | p::l,i,h=>by
  unfold findI at h
  by_cases e:k=p.1
  ·rw[if_pos e] at h;cases h
  ·rw[if_neg e] at h
   obtain⟨h1,h2⟩:=uY h
   refine⟨fun q hq=>?_,fun v=>by rw[mapSet,if_neg (fun h=>e h.symm),h2];rfl⟩
   rcases List.mem_cons.1 hq with rfl | hq
   ·exact fun h=>e h.symm
   ·exact h1 q hq
theorem mem_modify{α:Type}{l:List α}{n:Nat}{f:α→α}{x:α}(h:x∈l.modify n f):x∈l∨ ∃ y∈l,x=f y:=by
 induction l generalizing n with
 | nil=>simp at h
 | cons y l ih =>
  cases n with
  | zero =>
   rw[List.modify_zero_cons] at h
   rcases List.mem_cons.1 h with rfl | h
   ·exact .inr ⟨y,by simp,rfl⟩
   ·exact .inl (.tail _ h)
  | succ n =>
   rw[List.modify_succ_cons] at h
   rcases List.mem_cons.1 h with rfl | h
   ·exact .inl (by simp)
   ·rcases ih h with h | ⟨z,hz,rfl⟩
    ·exact .inl (.tail _ h)
    ·exact .inr ⟨z,.tail _ hz,rfl⟩
theorem CF{α β:Type}{l:List α}{n:Nat}{f:α→α}{g:α→β}(h:∀ x,g (f x)=g x):(l.modify n f).map g=l.map g:=by
 induction l generalizing n with
 | nil=>simp
 | cons y l ih =>
  cases n with
  | zero=>simp[h]
  | succ n=>simp[ih]
theorem uZ{α β:Type}{l:List α}{n:Nat}{f:α→α}{g:α→β}{b:β}(h:∀ x,g (f x)=b):(l.modify n f).map g=(l.map g).set n b:=by
 induction l generalizing n with
 | nil=>simp
 | cons y l ih =>
  cases n with
  | zero=>simp[h]
  | succ n=>simp[ih]
theorem KK{l:List (Int×Int)}{n:Nat}{k v v':Int}(h:l[n]?=some (k,v')):(l.set n (k,v)).map (·.1)=l.map (·.1):=by
 rw[List.map_set]
 exact gP (by rw[List.getElem?_map,h];rfl)
theorem MF{es:List MapEntry}{c n:Nat}{l:List (Int×Int)}{k v v':Int}(h:mh es c l)(hn:l[n]?=some (k,v')) :
  mh (es.modify n fun e=>{e with key:=.int .i64 k,val:=.int .i64 v }) c (l.set n (k,v)):=by
 obtain⟨h1,h2,h3,h4⟩:=h
 refine⟨?_,by rw[KK hn];exact h2,fun e he=>?_,?_⟩
 ·rw[uZ (f:=fun e:MapEntry=>{e with key:=.int .i64 k,val:=.int .i64 v }) (g:=fun e:MapEntry=>(e.key,e.val)) (b:=(Value.int .i64 k,Value.int .i64 v)) (fun _=>rfl),h1,List.map_set]
 ·rcases mem_modify he with he | ⟨y,hy,rfl⟩
  ·exact h3 e he
  ·exact h3 y hy
 ·rw[CF (f:=fun e:MapEntry=>{e with key:=.int .i64 k,val:=.int .i64 v }) (g:=fun e:MapEntry=>e.born) (fun _=>rfl)];exact h4
theorem KL{es:List MapEntry}{c:Nat}{l:List (Int×Int)}{k v:Int}(h:mh es c l)(hn:∀ p∈l,p.1≠k) :
  mh (es++[{key:=.int .i64 k,val:=.int .i64 v,born:=c }]) (c+1) (l++[(k,v)]):=by
 obtain⟨h1,h2,h3,h4⟩:=h
 refine⟨by simp[h1],?_,fun e he=>?_,?_⟩
 ·rw[List.map_append,List.nodup_append]
  refine⟨h2,by simp,fun a ha b hb=>?_⟩
  obtain⟨p,hp,rfl⟩:=List.mem_map.1 ha
  simp only[List.map_cons,List.map_nil,List.mem_cons,List.not_mem_nil,or_false] at hb
  subst hb;exact hn p hp
 ·rcases List.mem_append.1 he with he | he
  ·have:=h3 e he;omega
  ·simp only[List.mem_cons,List.not_mem_nil,or_false] at he;subst he;exact Nat.lt_succ_self _
 ·rw[List.map_append,List.nodup_append]
  refine⟨h4,by simp,fun a ha b hb=>?_⟩
  obtain⟨e,he,rfl⟩:=List.mem_map.1 ha
  simp only[List.map_cons,List.map_nil,List.mem_cons,List.not_mem_nil,or_false] at hb
  subst hb;have:=h3 e he;omega
theorem MG{l:List (Int×Int)}{n:Nat}{k v:Int}(hd:(l.map (·.1)).Nodup)(h:l[n]?=some (k,v)):gp l k=l.eraseIdx n:=by
 induction l generalizing n with
 | nil=>simp at h
 | cons p l ih =>
  simp only[List.map_cons,List.nodup_cons] at hd
  cases n with
  | zero =>
   simp at h;subst h
   unfold gp
   rw[List.filter_cons,if_neg (by simp),List.eraseIdx_cons_zero,List.filter_eq_self]
   intro q hq
   have:q.1≠k:=fun e=>hd.1 (List.mem_map.2 ⟨q,hq,e⟩)
   simpa using this
  | succ n =>
   have hn:l[n]?=some (k,v):=by simpa using h
   have hm:k∈l.map (·.1):=List.mem_map.2 ⟨_,List.mem_of_getElem? hn,rfl⟩
   unfold gp
   rw[List.filter_cons,if_pos (by have:p.1≠k:=(fun e=>hd.1 (by rw[e];exact hm));simpa using this),List.eraseIdx_cons_succ]
   congr 1
   exact ih hd.2 hn
theorem MH{l:List (Int×Int)}{k:Int}(h:∀ p∈l,p.1≠k):gp l k=l:=by
 unfold gp
 rw[List.filter_eq_self]
 exact fun q hq=>by simpa using h q hq
theorem kZ{α β:Type}(f:α→β):∀ (l:List α) (n:Nat),(l.eraseIdx n).map f=(l.map f).eraseIdx n
 | [],_=>rfl
 | x::l,0=>rfl
 | x::l,n+1=>by rw[List.eraseIdx_cons_succ,List.map_cons,List.map_cons,List.eraseIdx_cons_succ,kZ f l n]
theorem MI{es:List MapEntry}{c n:Nat}{l:List (Int×Int)}(h:mh es c l):mh (es.eraseIdx n) c (l.eraseIdx n):=by
 obtain⟨h1,h2,h3,h4⟩:=h
 refine⟨?_,?_,fun e he=>h3 e ((List.eraseIdx_sublist _ _).mem he),?_⟩
 ·rw[kZ,kZ,h1]
 ·rw[kZ];exact h2.sublist (List.eraseIdx_sublist _ _)
 ·rw[kZ];exact h4.sublist (List.eraseIdx_sublist _ _)
theorem IN{α:Type}(es:Array α)(x:α):(es.toList++[x]).toArray=es.push x:=by
 apply Array.ext'
 simp
theorem KM{α:Type}(es:Array α)(n:Nat)(f:α→α):(es.toList.modify n f).toArray=es.modify n f:=by
 apply Array.ext'
 simp
theorem FE{α:Type}(es:Array α)(n:Nat):(es.toList.eraseIdx n).toArray=es.eraseIdxIfInBounds n:=by
 apply Array.ext'
 simp
theorem iD{P:Program}{w:World}{r:Nat}{o:Obj}(hb:w.heap[r]?=some o)(hc:cellsB o=false:=by rfl):(getObj r).run P w = .ok o w:=by
 cases o with
 | cells=>exact absurd hc (by simp[cellsB])
 | _=>simp[getObj,Sem.run,hb]
theorem qt{P:Program}{w:World}{r:Nat}{o:Obj}(o':Obj)(hb:w.heap[r]?=some o)(hc:cellsB o=false:=by rfl):(setObj r o').run P w = .ok () {w with heap:=w.heap.setIfInBounds r o' }:=by
 cases o with
 | cells=>exact absurd hc (by simp[cellsB])
 | _=>simp[setObj,Sem.run,hb]
section
variable{P:Program}{W:World}{N:Nat}{L:List (Nat×Option Value)}{H R:List aa}{T:TypeId}{O:Array Oper}
theorem MJ{m:Nat}{l:List (Int×Int)}(t:At H (ou m l)){w:World}(s:Sat W w (seps H)):∃ es c,mh es c l∧w.heap[m]?=some (.map es.toArray c):=by
 obtain⟨R,s⟩:=t.sat s
 obtain⟨h,⟨h1,h2,⟨es,c,ho,a⟩,r,d,e'⟩,hin⟩:=s.own
 simp only[seps,aK] at a
 exact⟨es,c,ho,(kD (b:=m) (x:=.map es.toArray c) (R:=R) {s with own:=⟨h,⟨h1,h2,a,r,d,e'⟩,hin⟩ }).2.1⟩
theorem Y.NQ{t kt vt:TypeId}{x y:Operand}{m:Nat}{l:List (Int×Int)}{k:Int}(hu:P.underlying t=some (.map kt vt))(hk:P.underlying kt=some (.int .i64))(hz:∀ w,(zeroValue vt).run P w = .ok (.int .i64 0) w)(hx:ev L x=some (.map (some m)))(hy:ev L y=some (.int .i64 k))(ht:At H (ou m l)) :
  Y P W N (.lookup t x y false) T L H (.int .i64 ((mJ l k).getD 0)):=fun dst pos after guard a w ha hs=>by
 simp only[execOp,ha.eval hx,ha.eval hy]
 refine bS ?_
 obtain⟨es,c,ho,hb⟩:=MJ ht hs
 have hf:=run_findKey (P:=P) (w:=w) hk (qq (k:=k) (i:=0) ho.1)
 have hc:=run_checkKey (P:=P) (w:=w) hk (k:=.int .i64 k) rfl (es.toArray.isEmpty) 9999
 have hg:=xw (k:=k) l 0
 unfold Instr.lookup
 simp only[Sem.run_bind,run_underlying hu,Result.andThen_ok,iD hb,Sem.run_pure,hc,hf]
 cases e:findI k l 0 with
 | none =>
  rw[e] at hg
  have:mJ l k=none:=by simpa using hg.symm
  simp[hz,this]
 | some p =>
  rw[e] at hg
  cases hm:mJ l k with
  | none=>rw[hm] at hg;cases hg
  | some v =>
   rw[hm] at hg
   have:p.2 = .int .i64 v:=by simpa using hg
   simp[this]
theorem af.Lo{o:Oper}{m:Nat}{l l':List (Int×Int)}(hd:o.dst=none)(t:Take H (ou m l) R)
  (h:∀ a w es c,Env N L a→w.heap[m]?=some (.map es c)→mh es.toList c l→ ∃ es' c',mh es' c' l'∧((execOp a.eval o).run P w = .ok .skip {w with heap:=w.heap.setIfInBounds m (.map es'.toArray c') }∨ ∃ v,(execOp a.eval o).run P w = .ok (.value v) {w with heap:=w.heap.setIfInBounds m (.map es'.toArray c') })) :
  af P W N o L H (fun L1 H1=>L1=L∧H1=ou m l'::R):=fun a w ha hs Kp hK=>by
 rw[t.seps] at hs
 obtain⟨hp,⟨h1,h2,⟨es,c,ho,am⟩,r,d,e'⟩,hin⟩:=hs.own
 simp only[seps,aK] at am
 have hs2:Sat W w (sep (jv m (.map es.toArray c)) (seps R)):={hs with own:=⟨hp,⟨h1,h2,am,r,d,e'⟩,hin⟩ }
 obtain⟨es',c',ho',hr⟩:=h a w es.toArray c ha (kD hs2).2.1 (by simpa using ho)
 have hs3:=hs2.setObj (.map es'.toArray c') rfl
 have hs4:Sat W {w with heap:=w.heap.setIfInBounds m (.map es'.toArray c') } (seps (ou m l'::R)) :=
  hs3.mono (bB (fun g b=>⟨es',c',ho',by simpa only[seps,aK] using b⟩) fun _ b=>b)
 unfold Oper.wp
 rcases hr with hr | ⟨v,hr⟩
 ·rw[hr]
  simp only[Oper.upon]
  rw[hd]
  exact hK _ _ ⟨rfl,rfl⟩ _ _ ⟨ha.size,ha.get,ha.defers⟩ hs4
 ·rw[hr]
  simp only[Oper.upon]
  rw[hd]
  exact hK _ _ ⟨rfl,rfl⟩ _ _ ⟨ha.size,ha.get,ha.defers⟩ hs4
theorem af.mapSet{t kt vt:TypeId}{x y z:Operand}{pos:String}{after:Array Edge}{guard:Option (Nat×Bool)}{m:Nat}{l:List (Int×Int)}{k v:Int}(hu:P.underlying t=some (.map kt vt))(hk:P.underlying kt=some (.int .i64))(hx:ev L x=some (.map (some m)))(hy:ev L y=some (.int .i64 k))(hz:ev L z=some (.int .i64 v))(ht:Take H (ou m l) R) :
  af P W N ⟨none,.mapUpdate t x y z,T,pos,after,guard⟩ L H (fun L1 H1=>L1=L∧H1=ou m (mapSet l k v)::R) :=
 af.Lo rfl ht fun a w es c ha hb ho=>by
  have hf:=run_findKey (P:=P) (w:=w) hk (qq (k:=k) (i:=0) ho.1)
  have hc:=run_checkKey (P:=P) (w:=w) hk (k:=.int .i64 k) rfl false 9999
  cases e:findI k l 0 with
  | none =>
   obtain⟨h1,h2⟩:=uY e
   refine⟨es.toList++[{key:=.int .i64 k,val:=.int .i64 v,born:=c }],c+1,by rw[h2];exact KL ho h1,.inl ?_⟩
   rw[e] at hf
   simp only[execOp,ha.eval hx,ha.eval hy,ha.eval hz]
   show(Instr.mapUpdate t (.map (some m)) (.int .i64 k) (.int .i64 v) >>= fun _=>pure Next.skip).run P w=_
   simp only[Instr.mapUpdate,Sem.run_bind,run_underlying hu,Result.andThen_ok,iD hb,hc,hf,qt _ hb,Sem.run_pure,IN]
  | some p =>
   obtain⟨j,val⟩:=p
   obtain⟨n,v',hj,hn,h3⟩:=uX e
   obtain rfl:j=n:=by omega
   refine⟨es.toList.modify j fun e=>{e with key:=.int .i64 k,val:=.int .i64 v },c,by rw[h3];exact MF ho hn,.inl ?_⟩
   rw[e] at hf
   have hkey:((es[j]?).map (·.key)).getD (.int .i64 k) = .int .i64 k:=by
    have h1:=ho.1
    have:(es.toList.map fun e=>(e.key,e.val))[j]?=some (.int .i64 k,.int .i64 v'):=by rw[h1,List.getElem?_map,hn];rfl
    rw[List.getElem?_map] at this
    cases he:es.toList[j]? with
    | none=>rw[he] at this;cases this
    | some en =>
     rw[he] at this
     have h5:en.key = .int .i64 k:=by simpa using congrArg (fun o=>o.map Prod.fst) this
     rw[← Array.getElem?_toList,he]
     exact h5
   simp only[execOp,ha.eval hx,ha.eval hy,ha.eval hz]
   show(Instr.mapUpdate t (.map (some m)) (.int .i64 k) (.int .i64 v) >>= fun _=>pure Next.skip).run P w=_
   simp only[Instr.mapUpdate,Sem.run_bind,run_underlying hu,Result.andThen_ok,iD hb,hc,hf,hkey,run_keyThatStays (d:=.int .i64) (k:=.int .i64 k) rfl,qt _ hb,Sem.run_pure,KM]
theorem af.gp{t kt vt:TypeId}{ts:Array TypeId}{x y:Operand}{pos:String}{after:Array Edge}{guard:Option (Nat×Bool)}{m:Nat}{l:List (Int×Int)}{k:Int}(hu:P.underlying t=some (.map kt vt))(hk:P.underlying kt=some (.int .i64))(hx:ev L x=some (.map (some m)))(hy:ev L y=some (.int .i64 k))(ht:Take H (ou m l) R)(hts:ts[0]?=some t) :
  af P W N ⟨none,.call ⟨.builtin .delete, #[x,y],ts⟩,T,pos,after,guard⟩ L H (fun L1 H1=>L1=L∧H1=ou m (SLYtpbjdoplfgeliaaGreat.gp l k)::R) :=
 af.Lo rfl ht fun a w es c ha hb ho=>by
  have hf:=run_findKey (P:=P) (w:=w) hk (qq (k:=k) (i:=0) ho.1)
  have hc:=run_checkKey (P:=P) (w:=w) hk (k:=.int .i64 k) rfl es.isEmpty 9999
  have hrun:∀ o:Option (Nat×Value),Instr.findKey kt (.int .i64 k) es.toList=Instr.findKey kt (.int .i64 k) es.toList:=fun _=>rfl
  cases e:findI k l 0 with
  | none =>
   obtain⟨h1,h2⟩:=uY e
   refine⟨es.toList,c,by rw[MH h1];exact ho,.inr ⟨.tuple #[],?_⟩⟩
   rw[e] at hf
   simp[execOp,resolve,invoke,builtin,ha.eval hx,ha.eval hy,Builtin.delete_,hts,run_underlying hu,iD hb,hc,hf,qt _ hb]
  | some p =>
   obtain⟨j,val⟩:=p
   obtain⟨n,v',hj,hn,h3⟩:=uX e
   obtain rfl:j=n:=by omega
   refine⟨es.toList.eraseIdx j,c,by rw[MG ho.2.1 hn];exact MI ho,.inr ⟨.tuple #[],?_⟩⟩
   rw[e] at hf
   simp[execOp,resolve,invoke,builtin,ha.eval hx,ha.eval hy,Builtin.delete_,hts,run_underlying hu,iD hb,hc,hf,qt _ hb,FE]
end
end Go.SLYtpbjdoplfgeliaaGreat
namespace Go.SLYtpbjdoplfgeliaaGreat
open Go Go.RowKit Go.MapKept
def Lp(it m c:Nat)(seen:List MapEntry):aa:=jv it (.mapIter (some m) c (seen.map (·.born)).toArray c)
def nextA:Option MapEntry→Array Value
 | none => #[.bool false]
 | some e => #[.bool true,e.key,e.val]
def DY(o:Option MapEntry):Value:=.tuple (nextA o)
theorem MK(o:Option MapEntry):(nextA o)[0]?=some (.bool o.isSome):=by cases o <;> rfl
section
variable{P:Program}{W:World}{N:Nat}{L:List (Nat×Option Value)}{H R:List aa}{T:TypeId}{O:Array Oper}
theorem za{m:Nat}{x:Obj}(t:At H (jv m x)){w:World}(s:Sat W w (seps H)):w.heap[m]?=some x:=by
 obtain⟨R,s⟩:=t.sat s
 exact(kD s).2.1
theorem af.ML{t kt vt:TypeId}{x:Operand}{pos:String}{after:Array Edge}{guard:Option (Nat×Bool)}{d m c:Nat}{es:List MapEntry}(hN:Nat.blt d N=true)(hu:P.underlying t=some (.map kt vt))(hx:ev L x=some (.map (some m)))(ht:At H (jv m (.map es.toArray c))) :
  af P W N ⟨some d,.range t x,T,pos,after,guard⟩ L H (fun L1 H1=>∃ it,L1=(d,some (ptr it))::L∧H1=Lp it m c []::H):=fun a w ha hs Kp hK=>by
 have hb:=za ht hs
 have hrun:(execOp a.eval ⟨some d,.range t x,T,pos,after,guard⟩).run P w = .ok (.value (ptr w.heap.size)) (w.alloc (.mapIter (some m) c #[] c)):=by
  simp only[execOp,ha.eval hx]
  show(Instr.range t (.map (some m)) >>= fun x=>pure (Next.value x)).run P w=_
  simp[Instr.range,run_underlying hu,iD hb]
 unfold Oper.wp
 rw[hrun]
 simp only[Oper.upon]
 exact hK _ _ ⟨w.heap.size,rfl,rfl⟩ _ _ (ha.put (Nat.blt_eq.mp hN) _) (hs.zt _ rfl)
def nm(es:Array MapEntry)(seen:Array Nat):Array MapEntry:=es.filter fun e => !seen.contains e.born
theorem IP{es:Array MapEntry}{seen:Array Nat}{c:Nat}(h:∀ e∈es.toList,e.born<c):(nm es seen).filter (fun e=>decide (e.born<c))=nm es seen:=by
 rw[Array.filter_eq_self]
 intro e he
 have:e∈es:=(Array.mem_filter.1 he).1
 simpa using h e (by simpa using this)
theorem IQ{es:Array MapEntry}{seen:Array Nat}{c:Nat}(h:∀ e∈es.toList,e.born<c):(nm es seen).filter (fun e=>decide (e.born≥c)) = #[]:=by
 rw[Array.filter_eq_empty_iff]
 intro e he
 have:e∈es:=(Array.mem_filter.1 he).1
 have:=h e (by simpa using this)
 simp;omega
theorem choose_lt{n:Nat}(hn:0<n)(w:World):∃ i w',(choose (.mapNext n)).run P w = .ok i w'∧i<n∧(w'=w∨w'=w.drew):=by
 rw[run_choose_drew]
 by_cases h:n≤1
 ·exact⟨0,w,by simp[Question.forced,h],hn,.inl rfl⟩
 ·exact⟨(Question.mapNext n).cut (w.tape w.drawn (.mapNext n)),w.drew,by simp[Question.forced,h],Nat.mod_lt _ hn,.inr rfl⟩
def xx(l:Array MapEntry):Array (Option MapEntry):=(if l.isEmpty=true then #[none] else #[])++(l ++ #[]).map some
def stepN(it m c:Nat)(sn:Array Nat):Option (Option MapEntry)→Sem Value
 | some (some e)=>do
  setObj it (.mapIter (some m) c (sn.push e.born) c)
  pure (.tuple #[.bool true,e.key,e.val])
 | some none=>pure (.tuple #[.bool false])
 | none => stuck "Next: no such candidate"
theorem IS{it m c:Nat}{es:Array MapEntry}{sn:Array Nat}{w:World}(MV:w.heap[it]?=some (.mapIter (some m) c sn c))(hbm:w.heap[m]?=some (.map es c))(hc:∀ e∈es.toList,e.born<c) :
  (Instr.next (ptr it) false T).run P w=((choose (.mapNext (xx (nm es sn)).size)).run P w).andThen fun i w'=>(stepN it m c sn (xx (nm es sn))[i]?).run P w':=by
 have hguard:(!sn.isEmpty && !es.isEmpty && es.all fun e=>decide (e.born≥c))=false:=by
  obtain⟨l⟩:=es
  cases l with
  | nil=>simp
  | cons e es =>
   have:=hc e (by simp)
   simp;intro _ _;omega
 have hold:=IP (seen:=sn) hc
 have hnew:=IQ (seen:=sn) hc
 unfold nm at hold hnew
 unfold Instr.next
 simp only[Sem.run_bind,iD MV,Result.andThen_ok,iD hbm,hguard,Bool.false_eq_true,if_false]
 unfold nm
 rw[hold,hnew]
 show((choose (.mapNext (xx (nm es sn)).size)).run P w).andThen _=_
 rfl
theorem CG{s:Sem Value}{v:Value}{w w':World}(h:s.run P w = .ok v w'):(do pure (Next.value (← s)):Sem Next).run P w = .ok (.value v) w':=by
 simp[h]
theorem af.dZ{x:Operand}{pos:String}{after:Array Edge}{guard:Option (Nat×Bool)}{d it m c:Nat}{es seen:List MapEntry}(hN:Nat.blt d N=true)(hx:ev L x=some (ptr it))(ht:Take H (Lp it m c seen) R)(hm:At R (jv m (.map es.toArray c)))(hc:∀ e∈es,e.born<c) :
  af P W N ⟨some d,.next x false,T,pos,after,guard⟩ L H (fun L1 H1=>∃ o:Option MapEntry,((o=none→ ∀ e∈es,e.born∈seen.map (fun e=>e.born))∧ ∀ e,o=some e→e∈es∧¬e.born∈seen.map (fun e=>e.born))∧L1=(d,some (DY o))::L∧H1=Lp it m c (seen++o.toList)::R):=fun a w ha hs Kp hK=>by
 rw[ht.seps] at hs
 obtain⟨sn,hsn⟩:∃ sn,sn=(seen.map (fun e=>e.born)).toArray:=⟨_,rfl⟩
 have MV:w.heap[it]?=some (.mapIter (some m) c sn c):=by rw[hsn];exact(kD (b:=it) (x:=.mapIter (some m) c (seen.map (·.born)).toArray c) hs).2.1
 have hbm:w.heap[m]?=some (.map es.toArray c):=za hm hs.right
 have hdone:∀ o:Option MapEntry,((o=none→ ∀ e∈es,e.born∈seen.map (fun e=>e.born))∧ ∀ e,o=some e→e∈es∧¬e.born∈seen.map (fun e=>e.born))→ ∀ w',(Instr.next (ptr it) false T).run P w = .ok (DY o) w'→Sat W w' (sep (Lp it m c (seen++o.toList)) (seps R))→Oper.wp P ⟨some d,.next x false,T,pos,after,guard⟩ a w Kp QF:=fun o ho w' hr hs'=>by
  have h2:(execOp a.eval ⟨some d,.next x false,T,pos,after,guard⟩).run P w = .ok (.value (DY o)) w':=by
   simp only[execOp,ha.eval hx]
   exact CG hr
  unfold Oper.wp
  rw[h2]
  simp only[Oper.upon]
  exact hK _ _ ⟨o,ho,rfl,rfl⟩ _ _ (ha.put (Nat.blt_eq.mp hN) _) hs'
 have hstart:=IS (P:=P) (T:=T) MV hbm (by simpa using hc)
 have hin:∀ e,e∈nm es.toArray sn↔e∈es∧¬e.born∈seen.map (fun e=>e.born):=fun e=>by
  unfold nm
  rw[Array.mem_filter,hsn]
  simp
 generalize hl:nm es.toArray sn=l at hstart hin
 by_cases he:l = #[]
 ·subst he
  refine hdone none ⟨fun _ e hem=>Decidable.byContradiction fun hn=>?_,fun e h=>(by cases h)⟩ w ?_ (by simpa using hs)
  ·have:=(hin e).2 ⟨hem,hn⟩
   simp at this
  ·rw[hstart]
   simp[Question.forced,DY,nextA,xx,stepN]
 ·have hne:l.isEmpty=false:=by
   cases h:l.isEmpty
   ·rfl
   ·exact absurd (by simpa using h) he
  have hpos:0<l.size:=by
   rcases Nat.eq_zero_or_pos l.size with h | h
   ·exact absurd (Array.eq_empty_of_size_eq_zero h) he
   ·exact h
  have hcs:xx l=l.map some:=by unfold xx;rw[hne];simp
  rw[hcs,Array.size_map] at hstart
  obtain⟨i,w',hr,hi,hw⟩:=choose_lt (P:=P) hpos w
  have hei:(l.map some)[i]?=some (some l[i]):=by simp[hi]
  have hmem:=(hin l[i]).1 (Array.getElem_mem hi)
  have hs':Sat W w' (sep (Lp it m c seen) (seps R)):=by
   rcases hw with rfl | rfl
   ·exact hs
   ·exact hs.drew
  have hit':w'.heap[it]?=some (.mapIter (some m) c sn c):=by rw[hsn];exact(kD (b:=it) (x:=.mapIter (some m) c (seen.map (·.born)).toArray c) hs').2.1
  refine hdone (some l[i]) ⟨fun h=>(by cases h),fun e h=>(by cases h;exact hmem)⟩ {w' with heap:=w'.heap.setIfInBounds it (.mapIter (some m) c (sn.push l[i].born) c) } ?_ ?_
  ·rw[hstart,hr]
   simp only[Result.andThen_ok,hei,stepN,Sem.run_bind,qt _ hit',Sem.run_pure]
   rfl
  ·have:=hs'.setObj (.mapIter (some m) c (sn.push l[i].born) c) rfl
   refine this.eq ?_
   unfold Lp
   rw[hsn]
   congr 3
   simp
theorem Y.MM{x:Operand}{it m c:Nat}{es seen:List MapEntry}{e:MapEntry}(hx:ev L x=some (ptr it))(ht:At H (Lp it m c (seen++[e])))(hm:At H (jv m (.map es.toArray c)))(he:e∈es)(hd:(es.map (·.born)).Nodup) :
  Y P W N (.entry x) T L H (.tuple #[e.key,e.val]):=fun dst pos after guard a w ha hs=>by
 simp only[execOp,ha.eval hx]
 refine bS ?_
 have MV:=za ht hs
 have hbm:=za hm hs
 have hf:es.toArray.find? (·.born == e.born)=some e:=by
  rw[List.find?_toArray]
  clear hm hbm
  induction es with
  | nil=>cases he
  | cons y es ih =>
   simp only[List.map_cons,List.nodup_cons] at hd
   rw[List.find?_cons]
   rcases List.mem_cons.1 he with rfl | he'
   ·simp
   ·have:y.born≠e.born:=fun h=>hd.1 (by rw[h];exact List.mem_map_of_mem he')
    rw[show(y.born == e.born)=false from by simpa using this]
    exact ih he' hd.2
 unfold Instr.entry
 simp[iD MV,iD hbm,hf]
end
end Go.SLYtpbjdoplfgeliaaGreat
namespace Go.SLYtpbjdoplfgeliaaGreat
open Go Go.RowKit
theorem u7(x:Int):∀ l:List Int,(cZ x l).Perm (x::l)
 | []=>.refl _
 | y::l=>by
  rw[cZ]
  split
  ·exact .refl _
  ·exact((u7 x l).cons y).trans (.swap x y l)
theorem k0:∀ l:List Int,(gx l).Perm l
 | []=>.refl _
 | x::l=>(u7 x (gx l)).trans ((k0 l).cons x)
theorem vd(x:Int):∀ {l:List Int},l.Pairwise (·≤ ·)→(cZ x l).Pairwise (·≤ ·)
 | [],_=>by simp[cZ]
 | y::l,h=>by
  rw[cZ]
  have hy:=(List.pairwise_cons.1 h)
  split
  ·rename_i hx
   refine List.pairwise_cons.2 ⟨fun z hz=>?_,h⟩
   rcases List.mem_cons.1 hz with rfl | hz
   ·exact hx
   ·exact Int.le_trans hx (hy.1 z hz)
  ·rename_i hx
   refine List.pairwise_cons.2 ⟨fun z hz=>?_,vd x hy.2⟩
   rcases List.mem_cons.1 ((u7 x l).mem_iff.1 hz) with rfl | hz
   ·omega
   ·exact hy.1 z hz
theorem kq:∀ l:List Int,(gx l).Pairwise (·≤ ·)
 | []=>.nil
 | x::l=>vd x (kq l)
theorem xy{a b:List Int}(ha:a.Pairwise (·≤ ·))(hb:b.Pairwise (·≤ ·))(h:a.Perm b):a=b :=
 List.Perm.eq_of_pairwise (fun _ _ _ _ h1 h2=>Int.le_antisymm h1 h2) ha hb h
theorem CH(l:List Int):l.mergeSort (fun x y=>decide (x≤y))=gx l:=by
 refine xy ?_ (kq l) ((List.mergeSort_perm l _).trans (k0 l).symm)
 have:=List.pairwise_mergeSort (le:=fun x y:Int=>decide (x≤y)) (fun a b c h1 h2=>by simp only[decide_eq_true_eq] at *;omega) (fun a b=>by simp only[Bool.or_eq_true,decide_eq_true_eq];omega) l
 exact this.imp fun h=>by simpa using h
theorem zd{a b:List Int}(h:a.Perm b):gx a=gx b:=xy (kq a) (kq b) ((k0 a).trans (h.trans (k0 b).symm))
theorem k4(l:List Int):(gx l).length=l.length:=(k0 l).length_eq
def k5(n:Int)(l:List MapEntry):List Int:=(l.filter fun e=>decide ((uW e).2≤n)).map fun e=>(uW e).1
theorem KN{n:Int}{l:List MapEntry}{e:MapEntry}(h:(uW e).2≤n):k5 n (l++[e])=k5 n l++[(uW e).1]:=by
 unfold k5;rw[List.filter_append];simp[h]
theorem MN{n:Int}{l:List MapEntry}{e:MapEntry}(h:¬(uW e).2≤n):k5 n (l++[e])=k5 n l:=by
 unfold k5;rw[List.filter_append];simp[h]
theorem KO(n:Int)(l:List MapEntry):(k5 n l).length≤l.length:=by unfold k5;rw[List.length_map];exact List.length_filter_le _ _
structure iY(es seen:List MapEntry):Prop where
 nd:(seen.map fun e=>e.born).Nodup
 sub:∀ e∈seen,e∈es
theorem iY.zero(es:List MapEntry):iY es []:=⟨.nil,fun e h=>by cases h⟩
theorem iY.len{es seen:List MapEntry}(h:iY es seen):seen.length≤es.length:=by
 have:=List.Nodup.length_le_of_subset (l₂ := es.map fun e=>e.born) h.nd (fun b hb=>by
  obtain⟨e,he,rfl⟩:=List.mem_map.1 hb
  exact List.mem_map.2 ⟨e,h.sub e he,rfl⟩)
 simpa using this
theorem iY.next{es seen:List MapEntry}(h:iY es seen){e:MapEntry}(he:e∈es)(hn:¬e.born∈seen.map (fun e=>e.born)):iY es (seen++[e]):=by
 refine⟨?_,fun x hx=>?_⟩
 ·rw[List.map_append,List.nodup_append]
  refine⟨h.nd,by simp,fun a ha b hb=>?_⟩
  simp only[List.map_cons,List.map_nil,List.mem_cons,List.not_mem_nil,or_false] at hb
  subst hb
  exact fun e'=>hn (e' ▸ ha)
 ·rcases List.mem_append.1 hx with hx | hx
  ·exact h.sub x hx
  ·simp only[List.mem_cons,List.not_mem_nil,or_false] at hx;subst hx;exact he
theorem mb{α β:Type}{f:α→β}:∀ {l:List α},(l.map f).Nodup→l.Nodup
 | [],_=>.nil
 | x::l,h=>by
  simp only[List.map_cons,List.nodup_cons] at h
  exact List.nodup_cons.2 ⟨fun hx=>h.1 (List.mem_map_of_mem hx),mb h.2⟩
theorem iY.all{es seen:List MapEntry}(h:iY es seen)(hd:(es.map fun e=>e.born).Nodup)(ha:∀ e∈es,e.born∈seen.map (fun e=>e.born)):seen.Perm es:=by
 refine(List.perm_ext_iff_of_nodup (mb h.nd) (mb hd)).2 fun e=>⟨h.sub e,fun he=>?_⟩
 obtain⟨x,hx,hb⟩:=List.mem_map.1 (ha e he)
 have hxe:=h.sub x hx
 clear ha h
 have:x=e:=by
  induction es with
  | nil=>cases he
  | cons y es ih =>
   simp only[List.map_cons,List.nodup_cons] at hd
   rcases List.mem_cons.1 he with h1 | h1
   ·rcases List.mem_cons.1 hxe with h2 | h2
    ·rw[h1,h2]
    ·exact absurd (List.mem_map.2 ⟨x,h2,by rw[hb,h1]⟩) hd.1
   ·rcases List.mem_cons.1 hxe with h2 | h2
    ·exact absurd (List.mem_map.2 ⟨e,h1,by rw[← hb,h2]⟩) hd.1
    ·exact ih hd.2 h1 h2
 rwa [← this]
theorem DZ{w:mu}{es seen:List MapEntry}{c:Nat}(ho:mh es c w.ia)(h:iY es seen)(ha:∀ e∈es,e.born∈seen.map (fun e=>e.born)):gx (k5 (min (w.now+1) 1099511627776) seen)=w.due:=by
 have hp:=h.all ho.2.2.2 ha
 unfold mu.due
 refine zd ?_
 rw[← (IM ho).1,List.filter_map,List.map_map]
 exact(hp.filter _).map _
end Go.SLYtpbjdoplfgeliaaGreat
namespace Go.SLYtpbjdoplfgeliaaGreat
open Go Go.RowKit Go.Proofs
end Go.SLYtpbjdoplfgeliaaGreat
namespace Go.Proofs
open Go.Shelf
def Tryz.lays189_ren:Go.Shelf.Ren:=⟨fun | 189=>128 | 125=>180 | 257=>179 | 128=>224 | 129=>225 | 294=>215 | 295=>216 | 296=>217 | 297=>218 | 298=>219 | 299=>220 | 216=>221 | 300=>222 | 301=>223 | 328=>256 | 329=>257 | 330=>258 | 331=>259 | 332=>260 | 215=>261 | 343=>281 | n=>n,fun | 28=>50 | 3=>3 | 46=>222 | 0=>0 | 51=>294 | 53=>92 | 4=>4 | 183=>331 | 182=>330 | 131=>179 | 5=>5 | 9=>9 | 218=>365 | 222=>368 | 228=>385 | 229=>386 | n=>n,fun | n=>n⟩
theorem Tryz.lays189:Go.Proofs.Lays.n189 Tryz.prog Tryz.lays189_ren:={
 mixed:=by kernel_rfl
 f125:=Tryz.func180.trans (congrArg some (by kernel_rfl))
 f128:=Tryz.func224.trans (congrArg some (by kernel_rfl))
 f129:=Tryz.func225.trans (congrArg some (by kernel_rfl))
 f189:=Tryz.func128.trans (congrArg some (by kernel_rfl))
 f215:=Tryz.func261.trans (congrArg some (by kernel_rfl))
 f216:=Tryz.func221.trans (congrArg some (by kernel_rfl))
 f257:=Tryz.func179.trans (congrArg some (by kernel_rfl))
 f294:=Tryz.func215.trans (congrArg some (by kernel_rfl))
 f295:=Tryz.func216.trans (congrArg some (by kernel_rfl))
 f296:=Tryz.func217.trans (congrArg some (by kernel_rfl))
 f297:=Tryz.func218.trans (congrArg some (by kernel_rfl))
 f298:=Tryz.func219.trans (congrArg some (by kernel_rfl))
 f299:=Tryz.func220.trans (congrArg some (by kernel_rfl))
 f300:=Tryz.func222.trans (congrArg some (by kernel_rfl))
 f301:=Tryz.func223.trans (congrArg some (by kernel_rfl))
 f328:=Tryz.func256.trans (congrArg some (by kernel_rfl))
 f329:=Tryz.func257.trans (congrArg some (by kernel_rfl))
 f330:=Tryz.func258.trans (congrArg some (by kernel_rfl))
 f331:=Tryz.func259.trans (congrArg some (by kernel_rfl))
 f332:=Tryz.func260.trans (congrArg some (by kernel_rfl))
 f343:=Tryz.func281.trans (congrArg some (by kernel_rfl))
 t0:=Tryz.underlying0
 a0:=Tryz.isAgg0
 z0:=Tryz.sizeOf0
 v0:=Tryz.zeroValue0
 t3:=Tryz.underlying3
 a3:=Tryz.isAgg3
 z3:=Tryz.sizeOf3
 v3:=Tryz.zeroValue3
 t4:=Tryz.underlying4
 a4:=Tryz.isAgg4
 z4:=Tryz.sizeOf4
 v4:=Tryz.zeroValue4
 t5:=Tryz.underlying5
 a5:=Tryz.isAgg5
 z5:=Tryz.sizeOf5
 v5:=Tryz.zeroValue5
 t9:=Tryz.underlying9
 a9:=Tryz.isAgg9
 z9:=Tryz.sizeOf9
 v9:=Tryz.zeroValue9
 t28:=Tryz.underlying50
 a28:=Tryz.isAgg50
 z28:=Tryz.sizeOf50
 v28:=Tryz.zeroValue50
 t46:=Tryz.underlying222
 a46:=Tryz.isAgg222
 z46:=Tryz.sizeOf222
 v46:=Tryz.zeroValue222
 t51:=Tryz.underlying294
 a51:=Tryz.isAgg294
 z51:=Tryz.sizeOf294
 v51:=Tryz.zeroValue294
 t53:=Tryz.underlying92
 a53:=Tryz.isAgg92
 z53:=Tryz.sizeOf92
 v53:=Tryz.zeroValue92
 t131:=Tryz.underlying179
 a131:=Tryz.isAgg179
 z131:=Tryz.sizeOf179
 v131:=Tryz.zeroValue179
 t182:=Tryz.underlying330
 a182:=Tryz.isAgg330
 z182:=Tryz.sizeOf330
 v182:=Tryz.zeroValue330
 t183:=Tryz.underlying331
 a183:=Tryz.isAgg331
 z183:=Tryz.sizeOf331
 v183:=Tryz.zeroValue331
 t218:=Tryz.underlying365
 a218:=Tryz.isAgg365
 z218:=Tryz.sizeOf365
 v218:=Tryz.zeroValue365
 t222:=Tryz.underlying368
 a222:=Tryz.isAgg368
 z222:=Tryz.sizeOf368
 v222:=Tryz.zeroValue368
 t228:=Tryz.underlying385
 a228:=Tryz.isAgg385
 z228:=Tryz.sizeOf385
 v228:=Tryz.zeroValue385
 t229:=Tryz.underlying386
 a229:=Tryz.isAgg386
 z229:=Tryz.sizeOf386
 v229:=Tryz.zeroValue386 }
open Go.Sort Go.RowKit in
theorem Tryz.slices_Sort_int(blk off cap:Nat)(zs:List Int)(w:World)(hH:Holds (Value.int .i64) w blk off zs.toArray)(hblk:blk<w.heap.size)(hsz:zs.length<4611686018427387904) :
  Calls Tryz.prog 128 #[.slice (some ⟨blk,off,none⟩) zs.length cap] w fun e w' =>
   e = .returned (.tuple #[])∧ ∃ n os,w'=grow (putRow (Value.int .i64) (Sort.ahead w n) blk off (zs.mergeSort fun x y=>decide (x≤y)).toArray) os:=Any.slices_Sort_int Tryz.lays189 blk off cap zs w hH hblk hsz
open Go.RowKit Go.Sort in
theorem Tryz.slices_Sort_int_none(p:Option Addr)(cap:Nat)(w:World) :
  Calls Tryz.prog 128 #[.slice p 0 cap] w fun e w'=>e = .returned (.tuple #[])∧w'=w:=Any.slices_Sort_int_none Tryz.lays189 p cap w
end Go.Proofs
namespace Go.SLYtpbjdoplfgeliaaGreat
open Go Go.RowKit Go.Sort Go.Proofs
theorem nq:∀ l:List Int,rows aq l=l.map (Value.int .i64)
 | []=>rfl
 | x::l=>by rw[fh,nq l];rfl
theorem Sat.setCells{W:World}{R:aa}{b:Nat}:∀ (vs:List Value) {off:Nat} {w:World} {pre post:List Value} (cs:List Value),cs.length=vs.length→pre.length=off→Sat W w (sep (arr b 0 (pre++cs++post)) R)→Sat W (w.setCells b off vs) (sep (arr b 0 (pre++vs++post)) R)
 | [],off,w,pre,post,cs,hl,hp,s=>by
  obtain rfl:=List.eq_nil_of_length_eq_zero hl
  exact s
 | v::vs,off,w,pre,post,cs,hl,hp,s=>by
  obtain⟨c,cs,rfl⟩:∃ c r,cs=c::r:=by
   cases cs with
   | nil=>cases hl
   | cons c r=>exact⟨c,r,rfl⟩
  have h1:=Sat.setCell (off:=0) s (i:=off) v (by simp;omega)
  rw[Nat.zero_add] at h1
  have e:(pre++(c::cs)++post).set off v=(pre++[v])++cs++post:=by
   subst hp
   simp
  rw[e] at h1
  have:=Sat.setCells vs (off:=off+1) (pre:=pre++[v]) (post:=post) cs (by simpa using hl) (by simp[hp]) h1
  show Sat W ((w.setCell ⟨b,off,none⟩ v).setCells b (off+1) vs) _
  simpa using this
theorem NR{W:World}{v:Value}{xs:List Int}(hl:xs.length≤1000000000):Fn Tryz.prog W 128 [v] [sl aq 1 v xs] Unit (fun _=>.tuple #[]) (fun _=>True) (fun _=>[sl aq 1 v (gx xs)]):=fun F w hs=>by
 simp only[seps,aK] at hs ⊢
 rcases hs.rH with ⟨⟨a,rfl⟩,rfl,s⟩ | ⟨b,cap,sp,rfl,hle,hk,hsp,s⟩
 ·refine(Go.Proofs.Tryz.slices_Sort_int_none a 0 w).mono fun e w' ⟨he,hw⟩=>⟨(),he,trivial,?_⟩
  rw[hw];exact hs
 ·have hrow:∀ j,j<xs.length→(rows aq xs++sp)[j]?=some (.int .i64 (xs.getD j 0)):=fun j hj=>by
   rw[nq,List.getElem?_append_left (by simpa using hj),List.getElem?_map,getD_some (d:=0) hj];rfl
  have hH:Holds (Value.int .i64) w b 0 xs.toArray:=fun j hj=>by
   have hj':j<xs.length:=by simpa using hj
   obtain⟨h1,h2⟩:=fw s (hrow j hj')
   refine⟨?_,s4 s (i:=j) (List.getElem?_eq_some_iff.1 (hrow j hj')).1⟩
   rw[h2]
   congr 1
   congr 1
   rw[getElem!_pos xs.toArray j hj]
   simp[List.getD_eq_getElem?_getD,hj']
  by_cases hx0:xs=[]
  ·subst hx0
   refine(Go.Proofs.Tryz.slices_Sort_int_none (some ⟨b,0,none⟩) cap w).mono fun e w' ⟨he,hw⟩=>⟨(),he,trivial,?_⟩
   rw[hw];exact hs
  ·have hb:b<w.heap.size:=by
    have hpos:0<xs.length:=by
     rcases Nat.eq_zero_or_pos xs.length with h | h
     ·exact absurd (List.eq_nil_of_length_eq_zero h) hx0
     ·exact h
    exact xO (fw s (hrow 0 hpos)).2
   refine(Go.Proofs.Tryz.slices_Sort_int b 0 cap xs w hH hb (by omega)).mono fun e w' ⟨he,q,os,hw⟩=>⟨(),he,trivial,?_⟩
   rw[hw,CH,Lib.sorted_world (Value.int .i64) w b 0 q xs.toArray (gx xs) os hH (by rw[k4];simp)]
   have s1:Sat W (w.drewN q) (sep (arr b 0 ([]++rows aq xs++sp)) F):=s.below ⟨rfl,rfl,rfl,Nat.le_refl _,fun _ _=>rfl⟩
   have s2:=Sat.setCells ((gx xs).map (Value.int .i64)) (off:=0) (pre:=[]) (post:=sp) (rows aq xs) (by rw[nq];simp[k4]) rfl s1
   have s3:Sat W (grow ((w.drewN q).setCells b 0 ((gx xs).map (Value.int .i64))) os) (sep (arr b 0 ([]++(gx xs).map (Value.int .i64)++sp)) F):=s2.below ⟨rfl,rfl,rfl,by simp[grow],fun k hk=>by simp[grow,Array.getElem?_append_left hk]⟩
   rw[List.nil_append, ← nq] at s3
   have:=Sat.nZ (enc:=aq) (k:=1) (xs:=gx xs) (cap:=cap) (by rw[k4];exact hle) (fun _ _=>rfl) (by rw[k4];exact hsp) s3
   rwa [k4,nq] at this
end Go.SLYtpbjdoplfgeliaaGreat
namespace Go.SLYtpbjdoplfgeliaaGreat
open Go Go.RowKit Go.Proofs Go.Proofs.Tryz
attribute [local irreducible] ar aR bm bA bH Y
theorem AY{W:World}{b:Nat}{w:mu}{who n:Int}(hn:0≤w.now∧w.now≤1099511627776):Fn Tryz.prog W 214 [ptr b,.int .i64 who,.int .i64 n] [ow b w] Unit (fun _=>.int .i64 (w.sleep who n).1) (fun _=>True) (fun _=>[ow b (w.sleep who n).2]):=by
 refine Fn.intro (N:=38) func214 rfl ntmps214 rfl fun F=>?_
 show ar _ _ _ _ _ _ [ow b w,F]
 refine .o1 (C:=ow b w) .auto rfl ?_
 rintro m -
 refine J 16 ?_
 apply aR.gA 3 17 14 [14,15,16,17] rfl
 ·intro h14
  exact JS 4
 ·intro h14
  exact JS 4
 refine JD 3 (fun h7=>?_) fun h7=>?_
 ·refine J 8 ?_
  rw[show w.sleep who n=(1,w) from by unfold mu.sleep;rw[if_pos (by simpa using h7)]]
  exact JR 0 ()
 ·refine J 7 ?_
  refine .p (.NQ underlying204 underlying3 zeroValue3 rfl rfl .auto) ?_
  refine JD 4 (fun h18=>?_) fun h18=>?_
  ·refine J 8 ?_
   rw[show w.sleep who n=(4,w) from by unfold mu.sleep;rw[if_neg (by simpa using h7),if_pos h18]]
   exact JR 0 ()
  ·refine J 4 ?_
   refine .draw [] [1,1,1,1,1,1,1,1,1,1,1,1,3] rfl (by kernel_rfl) ?_
   simp only[Bool.or_eq_false_iff,decide_eq_false_iff_not] at h7
   refine J 10 ?_
   refine .p (.add rfl rfl (by omega)) ?_
   refine .p (.mi rfl rfl) ?_
   refine .d3 rfl (af.mapSet underlying204 underlying3 rfl rfl rfl .auto) ?_
   rintro _ _ ⟨rfl,rfl⟩
   refine J 8 ?_
   rw[show w.sleep who n=(0,{w with ia:=mapSet w.ia who (min (w.now+n) 1099511627776) }) from by unfold mu.sleep;rw[if_neg (by omega),if_neg h18]]
   exact JR 0 ()
theorem CI{W:World}{b:Nat}{w:mu}(hn:0≤w.now∧w.now≤1099511627776)(hl:w.ia.length≤1000000):Fn Tryz.prog W 82 [ptr b] [ow b w] Value (fun u=>u) (fun _=>True) (fun u=>[sl aq 1 u w.due,ow b w.tick.2]):=by
 refine Fn.intro (N:=54) func82 rfl ntmps82 rfl fun F=>?_
 show ar _ _ _ _ _ _ [ow b w,F]
 refine .o1 (C:=ow b w) .auto rfl ?_
 rintro m -
 refine J 12 ?_
 refine .ep rfl ?_
 refine J 9 ?_
 refine .p (.add rfl rfl (by omega)) ?_
 refine .p (.mi rfl rfl) ?_
 refine J 17 ?_
 refine .o2 (C:=ou m w.ia) .auto rfl ?_
 rintro es c ho
 have hel:es.length=w.ia.length:=by have:=congrArg List.length ho.1;simpa using this
 refine .aj rfl (af.ML rfl underlying204 rfl .auto) ?_
 rintro _ _ ⟨it,rfl,rfl⟩
 refine J 3 ?_
 refine .aZ (X:=List MapEntry×Value) [3,4,5,24,25,26,27,28,29,30,31,32,33,34,35,36,37,38] (fun z=>es.length+1-z.1.length) (fun z=>iY es z.1) (fun z=>[(3,some z.2)]) (fun z=>[Lp it m c z.1,sl aq 1 z.2 (k5 (min (w.now+1) 1099511627776) z.1),jv m (.map es.toArray c),arr b 0 [.int .i64 (min (w.now+1) 1099511627776),.map (some m)],F]) ([],.slice none 0 0) ?_ ?_ ?_ ?_
 ·exact iY.zero es
 ·exact⟨rfl,trivial⟩
 ·exact fun w s=>aw.kept .auto w s
 rintro⟨seen,u⟩ hS
 simp only at hS
 have hSl:=hS.len
 have hdl:=KO (min (w.now+1) 1099511627776) seen
 refine J 2 ?_
 refine .aj rfl (af.dZ rfl rfl .auto .auto ho.2.2.1) ?_
 rintro _ _ ⟨o,ho2,rfl,rfl⟩
 refine .p (.extract (vs:=nextA o) rfl (MK o)) ?_
 refine JD 3 (fun h25=>?_) fun h25=>?_
 ·refine J 5 ?_
  obtain⟨e,rfl⟩:∃ e,o=some e:=Option.isSome_iff_exists.1 h25
  obtain⟨he,hne⟩:=ho2.2 e rfl
  have hkv:=(IM ho).2 e he
  have hS2:=hS.next he hne
  have hS3:=hS2.len
  rw[List.length_append] at hS3
  simp only[List.length_cons,List.length_nil] at hS3
  refine .p (.MM rfl .auto .auto he ho.2.2.2) ?_
  rw[hkv.1,hkv.2]
  refine JD 16 (fun h34=>?_) fun h34=>?_
  ·refine J 3 ?_
   refine .aj rfl (af.gj 3 rfl rfl (by kernel_rfl)) ?_
   rintro _ _ ⟨b37,rfl,rfl⟩
   refine .aj rfl (af.fV (enc:=aq) (k:=1) (uW e).1 rfl underlying50 underlying50 typeInfo3 rfl rfl rfl (by decide) rfl rfl rfl .auto rfl .auto (by dsimp only;omega) rfl) ?_
   rintro _ _ ⟨v38,rfl,rfl⟩
   refine J 3 ?_
   refine .ax (seen++[e],v38) .auto rfl ?_ ?_ ?_ ?_
   ·show es.length+1-(seen++[e]).length<es.length+1-seen.length;rw[List.length_append];simp only[List.length_cons,List.length_nil];omega
   ·exact hS2
   ·exact⟨rfl,trivial⟩
   ·show ∀ w,Sat _ w _→Sat _ w (seps [_,sl aq 1 v38 (k5 _ (seen++[e])),_,_,F])
    rw[KN h34]
    exact fun w s=>aw.kept .auto w s
  ·refine J 2 ?_
   refine .ax (seen++[e],u) .auto rfl ?_ ?_ ?_ ?_
   ·show es.length+1-(seen++[e]).length<es.length+1-seen.length;rw[List.length_append];simp only[List.length_cons,List.length_nil];omega
   ·exact hS2
   ·exact⟨rfl,trivial⟩
   ·show ∀ w,Sat _ w _→Sat _ w (seps [_,sl aq 1 u (k5 _ (seen++[e])),_,_,F])
    rw[MN h34]
    exact fun w s=>aw.kept .auto w s
 ·have hall:=ho2.1 (by cases o with
   | none=>rfl
   | some e=>cases h25)
  refine J 8 ?_
  refine .to (A:=ou m w.ia) (Bs:=[jv m (.map es.toArray c)]) .auto (fun h a=>⟨es,c,ho,a⟩) ?_
  refine .c call128 rfl (NR (xs:=k5 (min (w.now+1) 1099511627776) seen) (by omega)) fun _ _=>?_
  rw[DZ ho hS hall]
  have hdw:w.due.length≤1000000:=by rw[← DZ ho hS hall,k4];omega
  refine J 11 ?_
  refine .aZ (X:=Nat) [7,43,44,45,46,47,48,49,50,51,52] (fun k=>w.due.length-k) (fun k=>k≤w.due.length) (fun k=>[(43,some (.int .i64 (k:Int)))]) (fun k=>[ou m ((w.due.take k).foldl gp w.ia),sl aq 1 u w.due,arr b 0 [.int .i64 (min (w.now+1) 1099511627776),.map (some m)],F]) 0 ?_ ?_ ?_ ?_
  ·exact Nat.zero_le _
  ·exact⟨rfl,trivial⟩
  ·exact fun w s=>aw.kept .auto w s
  rintro k hk
  refine JD 6 (fun h44=>?_) fun h44=>?_
  ·obtain⟨x,hx⟩:=ai (show k<w.due.length by omega)
   refine J 7 ?_
   refine .p (.lr rfl hx) ?_
   refine J 9 ?_
   refine .aj rfl (af.gp underlying204 underlying3 rfl rfl .auto rfl) ?_
   rintro _ _ ⟨rfl,rfl⟩
   refine J 7 ?_
   refine .ax (k+1) .auto rfl ?_ ?_ ?_ ?_
   ·omega
   ·omega
   ·exact⟨rfl,trivial⟩
   ·show ∀ w2,Sat _ w2 _→Sat _ w2 (seps [ou m ((w.due.take (k+1)).foldl gp w.ia),_,_,F])
    rw[aW hx,List.foldl_append]
    exact fun w s=>aw.kept .auto w s
  ·obtain rfl:k=w.due.length:=by omega
   rw[List.take_length]
   refine J 12 ?_
   show bA W 54 (bodyPost _ _ (fun e w2=>∃ u,e=_∧True∧Sat W w2 (sep (seps [sl aq 1 u w.due,ow b ⟨min (w.now+1) 1099511627776,w.due.foldl gp w.ia⟩]) F))) _ _ _
   exact JR 0 u
end Go.SLYtpbjdoplfgeliaaGreat
namespace Go.SLYtpbjdoplfgeliaaGreat
open Go Go.RowKit Go.Proofs Go.Proofs.Tryz
attribute [local irreducible] ar aR bm bA bH Y
theorem xz{W:World}{bd b p:Nat}{ps:List (Option Nat)}{d:Dng}{h:Int}(h0:0≤h)(hT:jB d.s.table)(hs:∀ n,bC d.s.table h=some n→bQ ps d.s n):Fn Tryz.prog W 163 [ptr bd,.int .u64 h] [bu bd b p ps d] Unit (fun _=>.tuple #[.int .i64 (((d.other h).1:Nat):Int),.int .i64 (d.other h).2]) (fun _=>True) (fun _=>[bu bd b p ps d]):=by
 refine Fn.intro (N:=60) func163 rfl ntmps163 rfl fun F=>?_
 show ar _ _ _ _ _ _ [bu bd b p ps d,F]
 refine .o2 (C:=bu bd b p ps d) .auto rfl ?_
 rintro vw ve -
 refine .jw (C:=cE b ps d.s) .auto rfl ?_
 rintro fv sv pv bt vm bg vt bk bw vr -
 refine J 16 ?_
 refine .c call198 rfl (xr hT h0) fun _ _=>?_
 refine J 1 ?_
 refine .p (.extract (v:=.int .i64 (((bC d.s.table h).getD 0:Nat):Int)) rfl rfl) ?_
 refine .p (.extract (v:=.bool (bC d.s.table h).isSome) rfl rfl) ?_
 refine J 8 ?_
 obtain⟨m,hm⟩:∃ m,m=(bC d.s.table h).getD 0:=⟨_,rfl⟩
 rw[← hm]
 refine J 3 ?_
 refine .part (t:=23) rfl (fun h23=>?_) (fun h23=>?_)
 ·refine J 24 ?_
  refine .gu rfl ?_
  refine J 9 ?_
  rw[ue (Option.isNone_iff_eq_none.mp (by simpa using h23))]
  exact JR 0 ()
 ·obtain⟨n,hf⟩:∃ n,bC d.s.table h=some n:=Option.isSome_iff_exists.mp (by simpa using h23)
  obtain rfl:m=n:=by rw[hm,hf];rfl
  obtain⟨hm16,q,u,hq,hu,hR⟩:=hs m hf
  refine .fr .auto (bP hq hu) ?_
  refine J 8 ?_
  refine .mE (t:=31) rfl (fun h31=>?_) (fun h31=>?_)
  ·refine J 16 ?_
   refine .gu rfl ?_
   refine J 9 ?_
   refine .to (A:=aB ps d.s.aF) (Bs:=[arr q 0 (bn u),aB (ps.set m none) (d.s.aF.set m none)]) .auto (bM hq hu) ?_
   rw[lK hf hu (.inl (Int.ofNat_inj.mp h31))]
   exact JR 0 ()
  ·refine J 7 ?_
   refine .g (.dK m underlying120 sizeOf119 rfl rfl rfl hm16) ?_
   refine .g (.ld rfl (Cell.a (by rw[Nat.mul_one,eL hm16,aP hq]))) ?_
   refine JD 7 (fun h20=>?_) fun h20=>?_
   ·refine J 9 ?_
    refine .to (A:=aB ps d.s.aF) (Bs:=[arr q 0 (bn u),aB (ps.set m none) (d.s.aF.set m none)]) .auto (bM hq hu) ?_
    rw[lK hf hu (.inr h20)]
    exact JR 0 ()
   ·have hno:¬(m=d.n∨u.bN=true):=fun hh=>hh.elim (fun e=>h31 (Int.ofNat_inj.mpr e)) (fun e=>by rw[h20] at e;cases e)
    refine J 9 ?_
    refine .p (.dK m underlying120 sizeOf119 rfl rfl rfl hm16) ?_
    refine .p (.ld rfl (Cell.a (by rw[Nat.mul_one,eL hm16,aP hq]))) ?_
    refine JD 7 (fun h45=>?_) fun h45=>?_
    ·refine J 9 ?_
     refine .to (A:=aB ps d.s.aF) (Bs:=[arr q 0 (bn u),aB (ps.set m none) (d.s.aF.set m none)]) .auto (bM hq hu) ?_
     rw[oG hf hu hno h45]
     exact JR 0 ()
    ·refine J 11 ?_
     refine .to (A:=aB ps d.s.aF) (Bs:=[arr q 0 (bn u),aB (ps.set m none) (d.s.aF.set m none)]) .auto (bM hq hu) ?_
     rw[uf hf hu hno (Decidable.byContradiction h45)]
     exact JR 0 ()
theorem CJ{W:World}{bd b p:Nat}{ps:List (Option Nat)}{d:Dng}{t:bI}(hp:ps[d.n]?=some (some p))(ht:d.s.aF[d.n]?=some (some t))(hk:iX ps d t):Fn Tryz.prog W 119 [ptr bd] [bu bd b p ps d] (List (Option Nat)) (fun _=>.tuple #[]) (fun _=>True) (fun qs=>[bu bd b p qs d.fW]):=by
 refine Fn.intro (N:=51) func119 rfl ntmps119 rfl fun F=>?_
 show ar _ _ _ _ _ _ [bu bd b p ps d,F]
 refine J 3 ?_
 refine .c call120 rfl (xu hp ht hk.I.a) fun _ _=>?_
 have hx0:0≤d.a:=by
  unfold Dng.a;rw[dj ht];exact(hk.R.r _).1
 obtain⟨x,hx⟩:∃ x,x=d.a:=⟨_,rfl⟩
 rw[← hx]
 rw[← hx] at hx0
 refine J 7 ?_
 refine .c call163 rfl (xz hx0 hk.T (hk.slot x)) fun _ _=>?_
 refine J 1 ?_
 refine .p (.extract (v:=.int .i64 (((d.other x).1:Nat):Int)) rfl rfl) ?_
 refine .p (.extract (v:=.int .i64 (d.other x).2) rfl rfl) ?_
 refine JD 13 (fun h24=>?_) fun h24=>?_
 ·refine J 7 ?_
  refine .c call117 rfl (cx hp ht (Nat.le_trans hk.aA (by decide)) pO hk.R.l) fun _ _=>?_
  refine J 1 ?_
  rw[show d.fW=d.pass x 0 (d.other x).2 from by unfold Dng.fW;rw[← hx];simp only;rw[if_pos h24]]
  exact JR 0 ps
 ·have hz:(d.other x).2=0:=Decidable.byContradiction h24
  obtain⟨m,q,u,hf,ho1,hmn,hm16,hq,hu,hRu,hdt,hjo⟩:=ug (hk.slot x) hz
  rw[ho1,hz]
  refine J 2 ?_
  refine .o2 (C:=bu bd b p ps (d)) .auto rfl ?_
  rintro vw ve -
  refine .jw (C:=cE b ps (d).s) .auto rfl ?_
  rintro fv sv pv bt vm bg vt bk bw vr -
  refine .fr .auto (bP hq hu) ?_
  refine J 7 ?_
  refine .p (.dK m underlying120 sizeOf119 rfl rfl rfl hm16) ?_
  refine .p (.ld rfl (Cell.a (by rw[Nat.mul_one,eL hm16,aP hq]))) ?_
  refine JD 7 (fun h27=>?_) fun h27=>?_
  ·refine J 1 ?_
   refine .to (A:=aB ps d.s.aF) (Bs:=[arr q 0 (bn u),aB (ps.set m none) (d.s.aF.set m none)]) .auto (bM hq hu) ?_
   refine J 5 ?_
   refine .c call113 rfl (nS (s:=d.s) hq hu hk.lt hk.lp hk.T hRu.h.1) fun _ _=>?_
   refine J 7 ?_
   refine .c call117 rfl (cx (d:=d.free m) (ps:=ps.set m none) (p:=p) (t:=t) (by show(ps.set m none)[d.n]?=_;rw[List.getElem?_set_ne hmn];exact hp) (by show(d.s.aF.set m none)[d.n]?=_;rw[List.getElem?_set_ne hmn];exact ht) (Nat.le_trans hk.aA (by decide)) (by decide) hk.R.l) fun _ _=>?_
   refine J 1 ?_
   rw[show d.fW=(d.free m).pass x 0 0 from by unfold Dng.fW;rw[← hx];simp only;rw[if_neg (by rw[hz];simp),ho1,dS hu,if_pos h27]]
   refine .xR rfl fun w s=>⟨ps.set m none,?_,trivial,ak .auto s⟩
   rfl
  ·refine J 8 ?_
   refine .p (.dK m underlying120 sizeOf119 rfl rfl rfl hm16) ?_
   refine .p (.ld rfl (Cell.a (by rw[Nat.mul_one,eL hm16,aP hq]))) ?_
   refine J 3 ?_
   rw[J2]
   refine J 7 ?_
   refine .to (A:=aB ps (d.s.aF.set m (some ({u with bN:=true })))) (Bs:=[arr q 0 (bn ({u with bN:=true })),aB (ps.set m none) (d.s.aF.set m none)]) .auto (cz (List.getElem?_eq_some_iff.1 hu).1 hq) ?_
   refine .c call117 rfl (cx (d:={d with s:=d.s.aX m {u with bN:=true } }) (ps:=ps) (p:=p) (t:=t) hp (fC ht hmn) (Nat.le_trans hk.aA (by decide)) (by decide) hk.R.l) fun _ _=>?_
   refine J 1 ?_
   rw[show d.fW=({d with s:=d.s.aX m {u with bN:=true } }:Dng).pass x 0 0 from by unfold Dng.fW;rw[← hx];simp only;rw[if_neg (by rw[hz];simp),ho1,dS hu,if_neg h27]]
   exact JR 0 ps
theorem IT{W:World}{bd b p:Nat}{ps:List (Option Nat)}{d:Dng}{t:bI}(hp:ps[d.n]?=some (some p))(ht:d.s.aF[d.n]?=some (some t))(hk:iX ps d t):Fn Tryz.prog W 118 [ptr bd] [bu bd b p ps d] (List (Option Nat)) (fun _=>.tuple #[]) (fun _=>True) (fun qs=>[bu bd b p qs d.join]):=by
 refine Fn.intro (N:=94) func118 rfl ntmps118 rfl fun F=>?_
 show ar _ _ _ _ _ _ [bu bd b p ps d,F]
 have hIa:=hk.I.a
 have hRl:=hk.R.l
 refine J 3 ?_
 refine .c call162 rfl (Ln hp ht hk.I.b) fun _ _=>?_
 have hx0:0≤d.b:=by
  unfold Dng.b;rw[dj ht];exact(hk.R.r _).1
 obtain⟨x,hx⟩:∃ x,x=d.b:=⟨_,rfl⟩
 rw[← hx]
 rw[← hx] at hx0
 refine J 7 ?_
 refine .c call163 rfl (xz hx0 hk.T (hk.slot x)) fun _ _=>?_
 refine J 1 ?_
 refine .p (.extract (v:=.int .i64 (((d.other x).1:Nat):Int)) rfl rfl) ?_
 refine .p (.extract (v:=.int .i64 (d.other x).2) rfl rfl) ?_
 refine JD 12 (fun h37=>?_) fun h37=>?_
 ·refine J 4 ?_
  refine .c call117 rfl (cx hp ht (Nat.le_trans hk.aA (by decide)) pO hk.R.l) fun _ _=>?_
  refine J 2 ?_
  rw[show d.join=d.pass x 0 (d.other x).2 from by unfold Dng.join;rw[← hx];simp only;rw[if_pos h37]]
  exact JR 0 ps
 ·have hz:(d.other x).2=0:=Decidable.byContradiction h37
  obtain⟨m,q,u,hf,ho1,hmn,hm16,hq,hu,hRu,hdt,hjo⟩:=ug (hk.slot x) hz
  rw[ho1,hz]
  refine J 2 ?_
  refine .o2 (C:=bu bd b p ps (d)) .auto rfl ?_
  rintro vw ve -
  refine .jw (C:=cE b ps (d).s) .auto rfl ?_
  rintro fv sv pv bt vm bg vt bk bw vr -
  refine .fr .auto (bP hq hu) ?_
  refine J 7 ?_
  refine .p (.dK m underlying120 sizeOf119 rfl rfl rfl hm16) ?_
  refine .p (.ld rfl (Cell.a (by rw[Nat.mul_one,eL hm16,aP hq]))) ?_
  refine JD 7 (fun h44=>?_) fun h44=>?_
  ·refine J 9 ?_
   refine .p (.dK m underlying120 sizeOf119 rfl rfl rfl hm16) ?_
   refine .p (.ld rfl (Cell.a (by rw[Nat.mul_one,eL hm16,aP hq]))) ?_
   refine J 7 ?_
   refine .to (A:=aB ps d.s.aF) (Bs:=[arr q 0 (bn u),aB (ps.set m none) (d.s.aF.set m none)]) .auto (bM hq hu) ?_
   refine .fr .auto (bP hp ht) ?_
   refine .draw [arr bd 0 (ei b p d vw ve)] [1,1,1,1,1,1,1,1,1,1,1,1,1,1,3] rfl (by kernel_rfl) ?_
   refine J 13 ?_
   refine .p (.dK d.i.a.toNat underlying131 sizeOf92 rfl rfl (by omega) (by omega)) ?_
   refine .d3 rfl (af.st sizeOf92 rfl rfl rfl (Nat.blt_eq.mpr (by show 2+d.i.a.toNat * 1<18;omega))) ?_
   rintro _ _ ⟨rfl,rfl⟩
   rw[jJ _ (by omega) (by omega) hRl]
   refine .to (A:=aB ps (d.s.aF.set d.n (some (t.put d.i.a u.value)))) (Bs:=[arr p 0 (bn (t.put d.i.a u.value)),aB (ps.set d.n none) (d.s.aF.set d.n none)]) .auto (cz (List.getElem?_eq_some_iff.1 ht).1 hp) ?_
   refine J 9 ?_
   refine .c call113 rfl (nS (s:=(d.aX (t.put d.i.a u.value)).s) hq (fC hu (Ne.symm hmn)) (by simp[Dng.aX,Spc.aX,hk.lt]) hk.lp hk.T hRu.h.1) fun _ _=>?_
   refine J 6 ?_
   refine .c call117 rfl (cx (d:=(d.aX (t.put d.i.a u.value)).free m) (ps:=ps.set m none) (p:=p) (t:=t.put d.i.a u.value) (by show(ps.set m none)[d.n]?=_;rw[List.getElem?_set_ne hmn];exact hp) (by show((d.aX (t.put d.i.a u.value)).s.aF.set m none)[d.n]?=_;rw[List.getElem?_set_ne hmn];exact dp ht) (Nat.le_trans hk.aA (by decide)) (by decide) (by rw[j8];exact hRl)) fun _ _=>?_
   refine J 2 ?_
   rw[show d.join=((d.aX (t.put d.i.a u.value)).free m).pass x u.value 0 from by unfold Dng.join;rw[← hx];simp only;rw[if_neg (by rw[hz];simp),ho1,dS hu,if_pos h44,dj ht]]
   refine .xR rfl fun w s=>⟨ps.set m none,?_,trivial,ak .auto s⟩
   rfl
  ·refine J 1 ?_
   refine .draw [arr bd 0 (ei b p d vw ve)] [1,1,1,1,1,1,1,1,1,1,1,1,1,1,1,3] rfl (by kernel_rfl) ?_
   refine J 7 ?_
   refine .p (.dK m underlying120 sizeOf119 rfl rfl rfl hm16) ?_
   refine .p (.ld rfl (Cell.a (by rw[Nat.mul_one,eL hm16,aP hq]))) ?_
   refine J 7 ?_
   rw[BY]
   refine .to (A:=aB ps (d.s.aF.set m (some ({u with ay:=d.n })))) (Bs:=[arr q 0 (bn ({u with ay:=d.n })),aB (ps.set m none) (d.s.aF.set m none)]) .auto (cz (List.getElem?_eq_some_iff.1 hu).1 hq) ?_
   refine J 10 ?_
   refine .c call164 rfl (gG (d:={d with s:=d.s.aX m {u with ay:=d.n } }) (ps:=ps) (p:=p) (t:=t) hp (fC ht hmn) (Nat.le_trans hk.aA (by decide))) fun _ _=>?_
   refine J 2 ?_
   rw[show d.join=({d with s:=d.s.aX m {u with ay:=d.n } }:Dng).block 4 d.i.a x 0 from by unfold Dng.join;rw[← hx];simp only;rw[if_neg (by rw[hz];simp),ho1,dS hu,if_neg h44]]
   exact JR 0 ps
theorem FF{W:World}{bd b p:Nat}{ps:List (Option Nat)}{d:Dng}{t:bI}(hp:ps[d.n]?=some (some p))(ht:d.s.aF[d.n]?=some (some t))(hk:iX ps d t):Fn Tryz.prog W 178 [ptr bd] [bu bd b p ps d] Unit (fun _=>.tuple #[]) (fun _=>True) (fun _=>[bu bd b p ps (d.sleep)]):=by
 refine Fn.intro (N:=34) func178 rfl ntmps178 rfl fun F=>?_
 show ar _ _ _ _ _ _ [bu bd b p ps d,F]
 refine J 3 ?_
 refine .c call120 rfl (xu hp ht hk.I.a) fun _ _=>?_
 have hx0:0≤d.a:=by
  unfold Dng.a;rw[dj ht];exact(hk.R.r _).1
 obtain⟨x,hx⟩:∃ x,x=d.a:=⟨_,rfl⟩
 rw[← hx]
 rw[← hx] at hx0
 refine JD 11 (fun h22=>?_) fun h22=>?_
 ·refine J 3 ?_
  refine .c call117 rfl (cx hp ht (Nat.le_trans hk.aA (by decide)) (by decide) hk.R.l) fun _ _=>?_
  refine J 2 ?_
  rw[show d.sleep=d.pass x 0 0 from by unfold Dng.sleep;rw[← hx];simp only;rw[if_pos h22]]
  exact JR 0 ()
 ·refine JD 7 (fun h28=>?_) fun h28=>?_
  ·refine J 3 ?_
   refine .c call117 rfl (cx hp ht (Nat.le_trans hk.aA (by decide)) (by decide) hk.R.l) fun _ _=>?_
   refine J 2 ?_
   rw[show d.sleep=d.pass x 0 1 from by unfold Dng.sleep;rw[← hx];simp only;rw[if_neg h22,if_pos h28]]
   exact JR 0 ()
  ·refine J 1 ?_
   refine .o2 (C:=bu bd b p ps (d)) .auto rfl ?_
   rintro vw ve -
   refine .jw (C:=cE b ps (d).s) .auto rfl ?_
   rintro fv sv pv bt vm bg vt bk bw vr -
   refine .draw [arr bd 0 (ei b p d vw ve),arr b 0 (ft fv sv pv d.s.fb bt ps vm bg vt bk bw vr)] [1,1,1,1,1,1,1,1,1,1,1,1,1,3] rfl (by kernel_rfl) ?_
   refine J 12 ?_
   refine .p (.jZ underlying92 underlying3 rfl (by omega)) ?_
   refine .c call214 rfl (AY hk.wn) fun _ _=>?_
   refine J 5 ?_
   refine .c call164 rfl (gG (d:=d.wu (d.s.aT.sleep d.n x).2) hp ht (Nat.le_trans hk.aA (by decide))) fun _ _=>?_
   refine J 2 ?_
   rw[show d.sleep=(d.wu (d.s.aT.sleep d.n x).2).block 8 (-1) x 0 from by unfold Dng.sleep;rw[← hx];simp only;rw[if_neg h22,if_neg h28]]
   exact JR 0 ()
theorem D0{W:World}{bd b p:Nat}{ps:List (Option Nat)}{d:Dng}{t:bI}(hp:ps[d.n]?=some (some p))(ht:d.s.aF[d.n]?=some (some t))(hk:iX ps d t){block y bZ:Int}(hb:0≤block):Fn Tryz.prog W 175 [ptr bd,.int .u64 block,.int .u64 y,.int .i64 bZ] [bu bd b p ps d] Unit (fun _=>.tuple #[]) (fun _=>True) (fun _=>[bu bd b p ps (d.ask block y bZ)]):=by
 refine Fn.intro (N:=45) func175 rfl ntmps175 rfl fun F=>?_
 show ar _ _ _ _ _ _ [bu bd b p ps d,F]
 refine JD 12 (fun h10=>?_) fun h10=>?_
 ·refine .o2 (C:=bu bd b p ps (d)) .auto rfl ?_
  rintro vw ve -
  refine .jw (C:=cE b ps (d).s) .auto rfl ?_
  rintro fv sv pv bt vm bg vt bk bw vr -
  refine .draw [arr bd 0 (ei b p d vw ve),arr b 0 (ft fv sv pv d.s.fb bt ps vm bg vt bk bw vr)] [1,1,1,1,1,1,1,1,1,1,1,1,1,1,1,1,1,1,1,1,1,3,1] rfl (by kernel_rfl) ?_
  refine J 12 ?_
  refine .p (.jZ underlying92 underlying3 rfl (by omega)) ?_
  refine J 7 ?_
  refine .p (.Gf (fun v1 v2 v3 v4=>[v1,v2,v3,v4]) rfl rfl rfl rfl (by kernel_rfl)) ?_
  refine .c call211 rfl (IL (r:=(⟨d.n,block,decide (d.i.op=34),y⟩:wh)) hk.dw) fun _ _=>?_
  refine JD 10 (fun h34=>?_) fun h34=>?_
  ·refine J 6 ?_
   refine .c call117 rfl (cx (d:=d.dc (d.s.ca.ask ⟨d.n,block,decide (d.i.op=34),y⟩).2) hp ht (Nat.le_trans hk.aA (by decide)) He hk.R.l) fun _ _=>?_
   refine J 4 ?_
   rw[show d.ask block y bZ=(d.dc (d.s.ca.ask ⟨d.n,block,decide (d.i.op=34),y⟩).2).pass block y (d.s.ca.ask ⟨d.n,block,decide (d.i.op=34),y⟩).1 from by unfold Dng.ask;rw[if_pos h10];simp only;rw[if_pos h34]]
   exact JR 0 ()
  ·refine J 7 ?_
   refine .c call164 rfl (gG (d:=d.dc (d.s.ca.ask ⟨d.n,block,decide (d.i.op=34),y⟩).2) hp ht (Nat.le_trans hk.aA (by decide))) fun _ _=>?_
   refine J 1 ?_
   rw[show d.ask block y bZ=(d.dc (d.s.ca.ask ⟨d.n,block,decide (d.i.op=34),y⟩).2).block 5 bZ block y from by unfold Dng.ask;rw[if_pos h10];simp only;rw[if_neg h34]]
   exact JR 0 ()
 ·refine J 9 ?_
  refine .gu rfl ?_
  refine J 6 ?_
  refine .c call117 rfl (cx hp ht (Nat.le_trans hk.aA (by decide)) (by decide) hk.R.l) fun _ _=>?_
  refine J 4 ?_
  rw[show d.ask block y bZ=d.pass block y 1 from by unfold Dng.ask;rw[if_neg h10]]
  exact JR 0 ()
end Go.SLYtpbjdoplfgeliaaGreat
namespace Go.SLYtpbjdoplfgeliaaGreat
open Go Go.RowKit Go.Proofs Go.Proofs.Tryz
attribute [local irreducible] ar aR bm bA bH Y
theorem MO{W:World}{bd b p:Nat}{d:Dng}{t:bI}{vw ve:Value}(ht:d.s.aF[d.n]?=some (some t))(hI:0≤d.i.a∧d.i.a<8):Fn Tryz.prog W 120 [ptr bd] [arr bd 0 (ei b p d vw ve),arr p 0 (bn t)] Unit (fun _=>.int .u64 d.a) (fun _=>True) (fun _=>[arr bd 0 (ei b p d vw ve),arr p 0 (bn t)]):=by
 refine Fn.intro (N:=17) func120 rfl ntmps120 rfl fun F=>?_
 show ar _ _ _ _ _ _ [arr bd 0 (ei b p d vw ve),arr p 0 (bn t),F]
 refine J 6 ?_
 refine .draw [] [1,1,1,1,1,1,1,1,1,1,1,1,1,1,1] rfl (by kernel_rfl) ?_
 refine J 12 ?_
 refine .p (.dK d.i.a.toNat underlying131 sizeOf92 rfl rfl (by omega) (by omega)) ?_
 refine .p (.ld rfl (Cell.a (nF (by omega)))) ?_
 refine J 4 ?_
 refine .aS rfl rfl fun w s=>⟨(),?_,trivial,ak .auto s⟩
 rw[show d.a=t.aE.getD d.i.a.toNat 0 from by unfold Dng.a;rw[dj ht];rfl]
theorem IU{W:World}{bd b p:Nat}{d:Dng}{t:bI}{vw ve:Value}(ht:d.s.aF[d.n]?=some (some t))(hI:0≤d.i.b∧d.i.b<8):Fn Tryz.prog W 162 [ptr bd] [arr bd 0 (ei b p d vw ve),arr p 0 (bn t)] Unit (fun _=>.int .u64 d.b) (fun _=>True) (fun _=>[arr bd 0 (ei b p d vw ve),arr p 0 (bn t)]):=by
 refine Fn.intro (N:=17) func162 rfl ntmps162 rfl fun F=>?_
 show ar _ _ _ _ _ _ [arr bd 0 (ei b p d vw ve),arr p 0 (bn t),F]
 refine J 6 ?_
 refine .draw [] [1,1,1,1,1,1,1,1,1,1,1,1,1,1,1] rfl (by kernel_rfl) ?_
 refine J 12 ?_
 refine .p (.dK d.i.b.toNat underlying131 sizeOf92 rfl rfl (by omega) (by omega)) ?_
 refine .p (.ld rfl (Cell.a (nF (by omega)))) ?_
 refine J 4 ?_
 refine .aS rfl rfl fun w s=>⟨(),?_,trivial,ak .auto s⟩
 rw[show d.b=t.aE.getD d.i.b.toNat 0 from by unfold Dng.b;rw[dj ht];rfl]
theorem D1{W:World}{bd b p:Nat}{ps:List (Option Nat)}{d:Dng}{t:bI}(hp:ps[d.n]?=some (some p))(ht:d.s.aF[d.n]?=some (some t))(hk:iX ps d t):Fn Tryz.prog W 124 [ptr bd] [bu bd b p ps d] Unit (fun _=>.tuple #[]) (fun _=>True) (fun _=>[bu bd b p ps (d.ez)]):=by
 refine Fn.intro (N:=86) func124 rfl ntmps124 rfl fun F=>?_
 show ar _ _ _ _ _ _ [bu bd b p ps d,F]
 refine .o2 (C:=bu bd b p ps (d)) .auto rfl ?_
 rintro vw ve -
 refine .jw (C:=cE b ps (d).s) .auto rfl ?_
 rintro fv sv pv bt vm bg vt bk bw vr -
 have hnn:=hk.nn
 have hn0:=hk.I.n
 refine J 7 ?_
 refine .p (.jZ underlying92 underlying3 rfl (by omega)) ?_
 refine JD 14 (fun h19=>?_) fun h19=>?_
 ·refine J 1 ?_
  refine .draw [arr bd 0 (ei b p d vw ve),arr b 0 (ft fv sv pv d.s.fb bt ps vm bg vt bk bw vr)] [1,1,1,1,1,1,1,1,1,1,1,1,3,1,1,1,1,1,1,1] rfl (by kernel_rfl) ?_
  refine J 12 ?_
  refine .c call173 rfl (KJ hk.gl hk.J8) fun _ _=>?_
  refine J 1 ?_
  refine .p (.extract (v:=.int .i64 (d.s.al.up d.i.n d.choice).1) rfl rfl) ?_
  refine .p (.extract (v:=.bool (d.s.al.up d.i.n d.choice).2.1) rfl rfl) ?_
  refine .p (.extract (v:=.int .i64 (d.s.al.up d.i.n d.choice).2.2.1) rfl rfl) ?_
  refine J 14 ?_
  refine .c call117 rfl (cx (d:=d.bF (d.s.al.up d.i.n d.choice).2.2.2) hp ht (Nat.le_trans hk.aA (by decide)) Hf hk.R.l) fun _ _=>?_
  refine J 7 ?_
  refine .c call167 rfl (rq (n:=(d.s.al.up d.i.n d.choice).1) (ok:=(d.s.al.up d.i.n d.choice).2.1) (d:=((d.bF (d.s.al.up d.i.n d.choice).2.2.2).pass d.i.n 0 (d.s.al.up d.i.n d.choice).2.2.1)) (fun h=>⟨(hk.jb _ (Hg h)).1,((hk.jb _ (Hg h)).2.of (s':=(d.bF (d.s.al.up d.i.n d.choice).2.2.2).s) rfl).pass (d:=d.bF (d.s.al.up d.i.n d.choice).2.2.2) ht hk.R Hf⟩) (Nat.le_trans hk.ends (by decide)) (Nat.le_trans hk.Bq (by decide))) fun _ _=>?_
  refine J 4 ?_
  rw[show d.ez=((d.bF (d.s.al.up d.i.n d.choice).2.2.2).pass d.i.n 0 (d.s.al.up d.i.n d.choice).2.2.1).given (d.s.al.up d.i.n d.choice).1 (d.s.al.up d.i.n d.choice).2.1 from by unfold Dng.ez;rw[if_pos h19]]
  exact JR 0 ()
 ·refine J 3 ?_
  refine .draw [arr bd 0 (ei b p d vw ve),arr b 0 (ft fv sv pv d.s.fb bt ps vm bg vt bk bw vr)] [1,1,1,1,1,1,1,1,1,1,1,1,3,1,1,1,1,1] rfl (by kernel_rfl) ?_
  refine J 12 ?_
  refine .c call174 rfl (FA hk.gl hk.J8) fun _ _=>?_
  refine J 1 ?_
  refine .p (.extract (v:=.bool (d.s.al.down d.n d.i.n).1) rfl rfl) ?_
  refine .p (.extract (v:=.int .i64 (d.s.al.down d.n d.i.n).2.1) rfl rfl) ?_
  refine J 10 ?_
  apply aR.gz 3 70 67 [67,68,69,70] rfl
  ·intro h67
   exact JS 4
  ·intro h67
   exact JS 4
  refine JD 2 (fun h70=>?_) fun h70=>?_
  ·simp only[Bool.and_eq_true,decide_eq_true_eq,Bool.not_eq_true'] at h70
   refine J 8 ?_
   refine .c call164 rfl (gG (d:=d.bF (d.s.al.down d.n d.i.n).2.2) hp ht (Nat.le_trans hk.aA (by decide))) fun _ _=>?_
   refine J 4 ?_
   rw[show d.ez=(d.bF (d.s.al.down d.n d.i.n).2.2).block 3 (-1) d.i.n 0 from by unfold Dng.ez;rw[if_neg h19];simp only;rw[if_pos h70]]
   exact JR 0 ()
  ·simp only[Bool.and_eq_false_iff,decide_eq_false_iff_not,Bool.not_eq_false'] at h70
   refine J 10 ?_
   refine .c call117 rfl (cx (d:=d.bF (d.s.al.down d.n d.i.n).2.2) hp ht (Nat.le_trans hk.aA (by decide)) Dz hk.R.l) fun _ _=>?_
   refine J 1 ?_
   rw[show d.ez=(d.bF (d.s.al.down d.n d.i.n).2.2).pass d.i.n 0 (d.s.al.down d.n d.i.n).2.1 from by unfold Dng.ez;rw[if_neg h19];simp only;rw[if_neg (by rintro⟨a,b⟩;rcases h70 with h | h;exact h a;rw[b] at h;cases h)]]
   exact JR 0 ()
theorem rr{W:World}{bd b p:Nat}{ps:List (Option Nat)}{d:Dng}{t:bI}(hp:ps[d.n]?=some (some p))(ht:d.s.aF[d.n]?=some (some t))(hk:iX ps d t):Fn Tryz.prog W 121 [ptr bd] [bu bd b p ps d] Unit (fun _=>.tuple #[]) (fun _=>True) (fun _=>[bu bd b p ps (d.mutex)]):=by
 refine Fn.intro (N:=155) func121 rfl ntmps121 rfl fun F=>?_
 show ar _ _ _ _ _ _ [bu bd b p ps d,F]
 refine .o2 (C:=bu bd b p ps (d)) .auto rfl ?_
 rintro vw ve -
 refine .jw (C:=cE b ps (d).s) .auto rfl ?_
 rintro fv sv pv bt vm bg vt bk bw vr -
 have hnn:=hk.nn
 have hn0:=hk.I.n
 have hIc:=hk.I.c
 have hwc:=Mb hIc
 refine J 7 ?_
 refine .p (.jZ underlying92 underlying3 rfl (by omega)) ?_
 refine JD 19 (fun h81=>?_) fun h81=>?_
 ·refine J 1 ?_
  refine .draw [arr bd 0 (ei b p d vw ve),arr b 0 (ft fv sv pv d.s.fb bt ps vm bg vt bk bw vr)] [1,1,1,1,1,1,1,1,1,1,1,1,3,1,1,1,1,1] rfl (by kernel_rfl) ?_
  refine J 12 ?_
  refine .c call165 rfl (Fy hk.gl) fun _ _=>?_
  refine J 1 ?_
  refine .p (.extract (v:=.bool (d.s.al.lock d.n d.i.n).1) rfl rfl) ?_
  refine .p (.extract (v:=.int .i64 (d.s.al.lock d.n d.i.n).2.1) rfl rfl) ?_
  refine J 10 ?_
  apply aR.gz 3 104 101 [101,102,103,104] rfl
  ·intro h101
   exact JS 4
  ·intro h101
   exact JS 4
  refine JD 2 (fun h104=>?_) fun h104=>?_
  ·simp only[Bool.and_eq_true,decide_eq_true_eq,Bool.not_eq_true'] at h104
   refine J 8 ?_
   refine .c call164 rfl (gG (d:=d.bF (d.s.al.lock d.n d.i.n).2.2) hp ht (Nat.le_trans hk.aA (by decide))) fun _ _=>?_
   refine J 5 ?_
   rw[show d.mutex=(d.bF (d.s.al.lock d.n d.i.n).2.2).block 1 (-1) d.i.n 0 from by unfold Dng.mutex;simp only;rw[if_pos h81,if_pos h104]]
   exact JR 0 ()
  ·simp only[Bool.and_eq_false_iff,decide_eq_false_iff_not,Bool.not_eq_false'] at h104
   refine J 10 ?_
   refine .c call117 rfl (cx (d:=d.bF (d.s.al.lock d.n d.i.n).2.2) hp ht (Nat.le_trans hk.aA (by decide)) Dx hk.R.l) fun _ _=>?_
   refine J 2 ?_
   rw[show d.mutex=(d.bF (d.s.al.lock d.n d.i.n).2.2).pass d.i.n 0 (d.s.al.lock d.n d.i.n).2.1 from by unfold Dng.mutex;simp only;rw[if_pos h81,if_neg (by rintro⟨a,b⟩;rcases h104 with h | h;exact h a;rw[b] at h;cases h)]]
   exact JR 0 ()
 ·refine JD 6 (fun h120=>?_) fun h120=>?_
  ·refine J 1 ?_
   refine .draw [arr bd 0 (ei b p d vw ve),arr b 0 (ft fv sv pv d.s.fb bt ps vm bg vt bk bw vr)] [1,1,1,1,1,1,1,1,1,1,1,1,1,1,1,1,3,1,1,1,1,1,1,1] rfl (by kernel_rfl) ?_
   refine J 16 ?_
   refine .c call166 rfl (AX hk.gl) fun _ _=>?_
   refine J 1 ?_
   refine .p (.extract (v:=.int .i64 (d.s.al.unlock d.n d.i.n d.choice).1) rfl rfl) ?_
   refine .p (.extract (v:=.bool (d.s.al.unlock d.n d.i.n d.choice).2.1) rfl rfl) ?_
   refine .p (.extract (v:=.int .i64 (d.s.al.unlock d.n d.i.n d.choice).2.2.1) rfl rfl) ?_
   refine J 14 ?_
   refine .c call117 rfl (cx (d:=d.bF (d.s.al.unlock d.n d.i.n d.choice).2.2.2) hp ht (Nat.le_trans hk.aA (by decide)) qW hk.R.l) fun _ _=>?_
   refine J 6 ?_
   refine .c call167 rfl (rq (n:=(d.s.al.unlock d.n d.i.n d.choice).1) (ok:=(d.s.al.unlock d.n d.i.n d.choice).2.1) (d:=((d.bF (d.s.al.unlock d.n d.i.n d.choice).2.2.2).pass d.i.n 0 (d.s.al.unlock d.n d.i.n d.choice).2.2.1)) (fun h=>⟨(hk.jb _ (uh h)).1,((hk.jb _ (uh h)).2.of (s':=(d.bF (d.s.al.unlock d.n d.i.n d.choice).2.2.2).s) rfl).pass (d:=d.bF (d.s.al.unlock d.n d.i.n d.choice).2.2.2) ht hk.R qW⟩) (Nat.le_trans hk.ends (by decide)) (Nat.le_trans hk.Bq (by decide))) fun _ _=>?_
   refine J 2 ?_
   rw[show d.mutex=((d.bF (d.s.al.unlock d.n d.i.n d.choice).2.2.2).pass d.i.n 0 (d.s.al.unlock d.n d.i.n d.choice).2.2.1).given (d.s.al.unlock d.n d.i.n d.choice).1 (d.s.al.unlock d.n d.i.n d.choice).2.1 from by unfold Dng.mutex;simp only;rw[if_neg h81,if_pos h120]]
   exact JR 0 ()
  ·refine J 1 ?_
   refine .draw [arr bd 0 (ei b p d vw ve),arr b 0 (ft fv sv pv d.s.fb bt ps vm bg vt bk bw vr)] [1,1,1,1,1,1,1,1,1,1,1,1,1,1,1,1,1,1,1,1,1,3,1,1,1,1,1,1,1] rfl (by kernel_rfl) ?_
   refine J 21 ?_
   refine .c call168 rfl (Fz hk.gl) fun _ _=>?_
   refine J 1 ?_
   refine .p (.extract (v:=.int .i64 (d.s.al.wait d.n d.i.n d.i.c d.choice).1) rfl rfl) ?_
   refine .p (.extract (v:=.bool (d.s.al.wait d.n d.i.n d.i.c d.choice).2.1) rfl rfl) ?_
   refine .p (.extract (v:=.int .i64 (d.s.al.wait d.n d.i.n d.i.c d.choice).2.2.1) rfl rfl) ?_
   refine JD 12 (fun h48=>?_) fun h48=>?_
   ·refine J 1 ?_
    refine .draw [] [1,1,1,1,1,1,1,1,1,1,1,1,1,3] rfl (by kernel_rfl) ?_
    refine J 11 ?_
    refine .p (.tq underlying3 underlying92 rfl (by omega)) ?_
    refine J 1 ?_
    refine .c call117 rfl (cx (d:=d.bF (d.s.al.wait d.n d.i.n d.i.c d.choice).2.2.2) hp ht (Nat.le_trans hk.aA (by decide)) Dy hk.R.l) fun _ _=>?_
    refine J 5 ?_
    rw[show d.mutex=(d.bF (d.s.al.wait d.n d.i.n d.i.c d.choice).2.2.2).pass d.i.n d.i.c (d.s.al.wait d.n d.i.n d.i.c d.choice).2.2.1 from by unfold Dng.mutex;simp only;rw[if_neg h81,if_neg h120,if_pos h48,hwc]]
    exact JR 0 ()
   ·refine J 3 ?_
    refine .draw [] [1,1,1,1,1,1,1,1,1,1,1,1,3] rfl (by kernel_rfl) ?_
    refine J 11 ?_
    refine .p (.tq underlying3 underlying92 rfl (by omega)) ?_
    refine .c call164 rfl (gG (d:=d.bF (d.s.al.wait d.n d.i.n d.i.c d.choice).2.2.2) hp ht (Nat.le_trans hk.aA (by decide))) fun _ _=>?_
    refine J 6 ?_
    refine .c call167 rfl (rq (n:=(d.s.al.wait d.n d.i.n d.i.c d.choice).1) (ok:=(d.s.al.wait d.n d.i.n d.i.c d.choice).2.1) (d:=((d.bF (d.s.al.wait d.n d.i.n d.i.c d.choice).2.2.2).block 2 (-1) d.i.n d.i.c)) (fun h=>⟨(hk.jb _ (Ah h)).1,((hk.jb _ (Ah h)).2.of (s':=(d.bF (d.s.al.wait d.n d.i.n d.i.c d.choice).2.2.2).s) rfl).block (d:=d.bF (d.s.al.wait d.n d.i.n d.i.c d.choice).2.2.2) ht hk.R (by decide)⟩) (Nat.le_trans hk.ends (by decide)) (Nat.le_trans hk.Bq (by decide))) fun _ _=>?_
    refine J 2 ?_
    rw[show d.mutex=((d.bF (d.s.al.wait d.n d.i.n d.i.c d.choice).2.2.2).block 2 (-1) d.i.n d.i.c).given (d.s.al.wait d.n d.i.n d.i.c d.choice).1 (d.s.al.wait d.n d.i.n d.i.c d.choice).2.1 from by unfold Dng.mutex;simp only;rw[if_neg h81,if_neg h120,if_neg h48,hwc]]
    exact JR 0 ()
end Go.SLYtpbjdoplfgeliaaGreat
namespace Go.SLYtpbjdoplfgeliaaGreat
open Go Go.RowKit Go.Proofs Go.Proofs.Tryz
attribute [local irreducible] ar aR bm bA bH Y
theorem KP{W:World}{bd b p:Nat}{ps:List (Option Nat)}{d:Dng}{t:bI}(hp:ps[d.n]?=some (some p))(ht:d.s.aF[d.n]?=some (some t))(hk:iX ps d t)(hop:d.i.op=35∨d.i.op=36):Fn Tryz.prog W 176 [ptr bd] [bu bd b p ps d] Unit (fun _=>.tuple #[]) (fun _=>True) (fun _=>[bu bd b p ps (d.put)]):=by
 refine Fn.intro (N:=57) func176 rfl ntmps176 rfl fun F=>?_
 show ar _ _ _ _ _ _ [bu bd b p ps d,F]
 refine .o2 (C:=bu bd b p ps (d)) .auto rfl ?_
 rintro vw ve -
 refine .jw (C:=cE b ps (d).s) .auto rfl ?_
 rintro fv sv pv bt vm bg vt bk bw vr -
 have hnn:=hk.nn
 have hn0:=hk.I.n
 refine .o1 (C:=pn vt d.s.cj) .auto rfl ?_
 rintro xs hxs
 obtain⟨xq,hx,hmem⟩:=DA hxs hn0.1 (hk.N4 hop)
 have hxl:xs.length=d.s.cj.length:=by rw[← hxs,List.length_map]
 have hti:=hk.N4 hop
 refine .fr .auto (bP hp ht) ?_
 refine J 1 ?_
 refine .draw [] [1,1,1,1,1,1,1,1,1,1,1,1,1,1,1] rfl (by kernel_rfl) ?_
 refine J 12 ?_
 refine .p (.ix d.i.n.toNat rfl rfl (by omega) (by omega)) ?_
 refine .p (.lr rfl hx) ?_
 refine J 6 ?_
 refine .c call120 rfl (MO ht hk.I.a) fun _ _=>?_
 refine J 5 ?_
 obtain⟨x,hx0⟩:∃ x,x=d.a:=⟨_,rfl⟩
 rw[← hx0]
 refine J 6 ?_
 refine .fr .auto (Ag (f:=fun x:Nat×Tub=>iI x.1 x.2) hx) ?_
 refine .c call212 rfl (IJ (hk.tl _ hmem)) fun _ _=>?_
 refine .to (A:=pn vt (d.s.cj.set d.i.n.toNat (d.bW.put d.n x).2.2.2)) (Bs:=[sl cP 1 vt xs,iI xq (d.bW.put d.n x).2.2.2,aO (fun x:Nat×Tub=>iI x.1 x.2) (xs.eraseIdx d.i.n.toNat)]) .auto (yA hx hxs (d.bW.put d.n x).2.2.2) ?_
 refine .to (A:=aB ps d.s.aF) (Bs:=[arr p 0 (bn t),aB (ps.set d.n none) (d.s.aF.set d.n none)]) .auto (bM hp ht) ?_
 refine J 1 ?_
 refine .p (.extract (v:=.bool (d.bW.put d.n x).1) rfl rfl) ?_
 refine .p (.extract (v:=.int .i64 (d.bW.put d.n x).2.1) rfl rfl) ?_
 refine .p (.extract (v:=.bool (d.bW.put d.n x).2.2.1) rfl rfl) ?_
 refine JD 12 (fun h35=>?_) fun h35=>?_
 ·refine J 9 ?_
  refine .c call164 rfl (gG (d:=(d.eM d.i.n.toNat (d.bW.put d.n x).2.2.2)) hp ht (Nat.le_trans hk.aA (by decide))) fun _ _=>?_
  refine J 4 ?_
  rw[show d.put=(d.eM d.i.n.toNat (d.bW.put d.n x).2.2.2).block 7 (-1) d.i.n x from by unfold Dng.put;rw[← hx0];simp only;rw[if_pos (by simpa using h35)]]
  exact JR 0 ()
 ·refine J 11 ?_
  refine .c call117 rfl (cx (d:=(d.eM d.i.n.toNat (d.bW.put d.n x).2.2.2)) hp ht (Nat.le_trans hk.aA (by decide)) (by decide) hk.R.l) fun _ _=>?_
  refine JD 7 (fun h52=>?_) fun h52=>?_
  ·have hlv:=(hk.Au _ hmem).1 _ (Hh h52)
   obtain⟨hw16,q,u,hq,hu,hRu⟩:=(hlv.2.of (s':=(d.eM d.i.n.toNat (d.bW.put d.n x).2.2.2).s) rfl).pass (x:=d.i.n) (y:=x) (e:=0) (d:=(d.eM d.i.n.toNat (d.bW.put d.n x).2.2.2)) ht hk.R (by decide)
   refine J 4 ?_
   refine .c call114 rfl (kY (d:=(d.eM d.i.n.toNat (d.bW.put d.n x).2.2.2).pass d.i.n x 0) hlv.1 hq hu hw16 hRu (Nat.le_trans hk.ends (by decide)) (Nat.le_trans hk.Bq (by decide))) fun _ _=>?_
   refine J 1 ?_
   rw[show d.put=((d.eM d.i.n.toNat (d.bW.put d.n x).2.2.2).pass d.i.n x 0).cq (d.bW.put d.n x).2.1.toNat x from by unfold Dng.put;rw[← hx0];simp only;rw[if_neg (by simpa using h35),if_pos h52]]
   exact JR 0 ()
  ·refine J 1 ?_
   rw[show d.put=(d.eM d.i.n.toNat (d.bW.put d.n x).2.2.2).pass d.i.n x 0 from by unfold Dng.put;rw[← hx0];simp only;rw[if_neg (by simpa using h35),if_neg (by rw[h52];simp)]]
   exact JR 0 ()
theorem KQ{W:World}{bd b p:Nat}{ps:List (Option Nat)}{d:Dng}{t:bI}(hp:ps[d.n]?=some (some p))(ht:d.s.aF[d.n]?=some (some t))(hk:iX ps d t)(hop:d.i.op=35∨d.i.op=36):Fn Tryz.prog W 177 [ptr bd] [bu bd b p ps d] Unit (fun _=>.tuple #[]) (fun _=>True) (fun _=>[bu bd b p ps (d.get)]):=by
 refine Fn.intro (N:=70) func177 rfl ntmps177 rfl fun F=>?_
 show ar _ _ _ _ _ _ [bu bd b p ps d,F]
 refine .o2 (C:=bu bd b p ps (d)) .auto rfl ?_
 rintro vw ve -
 refine .jw (C:=cE b ps (d).s) .auto rfl ?_
 rintro fv sv pv bt vm bg vt bk bw vr -
 have hnn:=hk.nn
 have hn0:=hk.I.n
 refine .o1 (C:=pn vt d.s.cj) .auto rfl ?_
 rintro xs hxs
 obtain⟨xq,hx,hmem⟩:=DA hxs hn0.1 (hk.N4 hop)
 have hxl:xs.length=d.s.cj.length:=by rw[← hxs,List.length_map]
 have hti:=hk.N4 hop
 have hIa:=hk.I.a
 have hRl:=hk.R.l
 refine J 1 ?_
 refine .fr .auto (Ag (f:=fun x:Nat×Tub=>iI x.1 x.2) hx) ?_
 refine .draw [arr bd 0 (ei b p d vw ve),arr b 0 (ft fv sv pv d.s.fb bt ps vm bg vt bk bw vr),sl cP 1 vt xs] [1,1,1,1,1,1,1,1,1,1,1,1,1,1,1,1,1,1,3,1,1,1,1,1,1,1,1,1] rfl (by kernel_rfl) ?_
 refine J 12 ?_
 refine .p (.ix d.i.n.toNat rfl rfl (by omega) (by omega)) ?_
 refine .p (.lr rfl hx) ?_
 refine J 4 ?_
 refine .c call213 rfl (IK (hk.tl _ hmem)) fun _ _=>?_
 refine J 1 ?_
 refine .p (.extract (v:=.int .u64 (d.bW.get d.n).1) rfl rfl) ?_
 refine .p (.extract (v:=.bool (d.bW.get d.n).2.1) rfl rfl) ?_
 refine .p (.extract (v:=.int .i64 (d.bW.get d.n).2.2.1) rfl rfl) ?_
 refine .p (.extract (v:=.bool (d.bW.get d.n).2.2.2.1) rfl rfl) ?_
 refine JD 13 (fun h31=>?_) fun h31=>?_
 ·refine J 1 ?_
  refine .to (A:=pn vt (d.s.cj.set d.i.n.toNat (d.bW.get d.n).2.2.2.2)) (Bs:=[sl cP 1 vt xs,iI xq (d.bW.get d.n).2.2.2.2,aO (fun x:Nat×Tub=>iI x.1 x.2) (xs.eraseIdx d.i.n.toNat)]) .auto (yA hx hxs (d.bW.get d.n).2.2.2.2) ?_
  refine .draw [] [1,1,1,1,1,1,1,1,1,1,1,3] rfl (by kernel_rfl) ?_
  refine J 11 ?_
  refine .c call164 rfl (gG (d:=(d.eM d.i.n.toNat (d.bW.get d.n).2.2.2.2)) hp ht (Nat.le_trans hk.aA (by decide))) fun _ _=>?_
  refine J 4 ?_
  rw[show d.get=(d.eM d.i.n.toNat (d.bW.get d.n).2.2.2.2).block 6 d.i.a d.i.n 0 from by unfold Dng.get;simp only;rw[if_pos (by simpa using h31)]]
  exact JR 0 ()
 ·refine J 3 ?_
  refine .to (A:=pn vt (d.s.cj.set d.i.n.toNat (d.bW.get d.n).2.2.2.2)) (Bs:=[sl cP 1 vt xs,iI xq (d.bW.get d.n).2.2.2.2,aO (fun x:Nat×Tub=>iI x.1 x.2) (xs.eraseIdx d.i.n.toNat)]) .auto (yA hx hxs (d.bW.get d.n).2.2.2.2) ?_
  refine .fr .auto (bP hp ht) ?_
  refine .draw [arr bd 0 (ei b p d vw ve)] [1,1,1,1,1,1,1,1,1,1,1,1,1,1,3] rfl (by kernel_rfl) ?_
  refine J 13 ?_
  refine .p (.dK d.i.a.toNat underlying131 sizeOf92 rfl rfl (by omega) (by omega)) ?_
  refine .d3 rfl (af.st sizeOf92 rfl rfl rfl (Nat.blt_eq.mpr (by show 2+d.i.a.toNat * 1<18;omega))) ?_
  rintro _ _ ⟨rfl,rfl⟩
  rw[jJ _ (by omega) (by omega) hRl]
  refine .to (A:=aB ps (d.s.aF.set d.n (some (t.put d.i.a (d.bW.get d.n).1)))) (Bs:=[arr p 0 (bn (t.put d.i.a (d.bW.get d.n).1)),aB (ps.set d.n none) (d.s.aF.set d.n none)]) .auto (cz (List.getElem?_eq_some_iff.1 ht).1 hp) ?_
  refine J 11 ?_
  refine .c call117 rfl (cx (d:=((d.eM d.i.n.toNat (d.bW.get d.n).2.2.2.2).aX (t.put d.i.a (d.bW.get d.n).1))) (t:=t.put d.i.a (d.bW.get d.n).1) hp (dp ht) (Nat.le_trans hk.aA (by decide)) (by decide) (by rw[j8];exact hRl)) fun _ _=>?_
  refine JD 7 (fun h66=>?_) fun h66=>?_
  ·obtain⟨z,hz,hzw⟩:=Hi h66
   have hlv:=(hk.Au _ hmem).2 z hz
   rw[hzw] at hlv
   have hRg:=hk.R.put (i:=d.i.a) (Hj (who:=d.n) (hk.tw _ hmem))
   obtain⟨hw16,q,u,hq,hu,hRu⟩:=((hlv.2.of (s':=(d.eM d.i.n.toNat (d.bW.get d.n).2.2.2.2).s) rfl).aX (n:=d.n) hRg).pass (x:=d.i.n) (y:=(d.bW.get d.n).1) (e:=0) (d:=((d.eM d.i.n.toNat (d.bW.get d.n).2.2.2.2).aX (t.put d.i.a (d.bW.get d.n).1))) (dp ht) hRg (by decide)
   refine J 3 ?_
   refine .c call114 rfl (kY (d:=((d.eM d.i.n.toNat (d.bW.get d.n).2.2.2.2).aX (t.put d.i.a (d.bW.get d.n).1)).pass d.i.n (d.bW.get d.n).1 0) hlv.1 hq hu hw16 hRu (Nat.le_trans hk.ends (by decide)) (Nat.le_trans hk.Bq (by decide))) fun _ _=>?_
   refine J 1 ?_
   rw[show d.get=(((d.eM d.i.n.toNat (d.bW.get d.n).2.2.2.2).aX (t.put d.i.a (d.bW.get d.n).1)).pass d.i.n (d.bW.get d.n).1 0).cq (d.bW.get d.n).2.2.1.toNat 0 from by unfold Dng.get;simp only;rw[if_neg (by simpa using h31),if_pos h66,show(d.eM d.i.n.toNat (d.bW.get d.n).2.2.2.2).t=t from dj ht]]
   exact JR 0 ()
  ·refine J 1 ?_
   rw[show d.get=((d.eM d.i.n.toNat (d.bW.get d.n).2.2.2.2).aX (t.put d.i.a (d.bW.get d.n).1)).pass d.i.n (d.bW.get d.n).1 0 from by unfold Dng.get;simp only;rw[if_neg (by simpa using h31),if_neg (by rw[h66];simp),show(d.eM d.i.n.toNat (d.bW.get d.n).2.2.2.2).t=t from dj ht]]
   exact JR 0 ()
end Go.SLYtpbjdoplfgeliaaGreat
