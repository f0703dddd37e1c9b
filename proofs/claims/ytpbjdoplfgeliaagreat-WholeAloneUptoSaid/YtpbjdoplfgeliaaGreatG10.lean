/- Walks of functions, and what they compute. Conditions: none, this text proves no statement. -/
import Derived.Test.YtpbjdoplfgeliaaGreatG07
import Derived.Test.YtpbjdoplfgeliaaGreatProg
import Derived.Test.YtpbjdoplfgeliaaGreatG09
import Derived.Test.YtpbjdoplfgeliaaGreatG04
import Derived.KernelRfl
import Derived.Test.YtpbjdoplfgeliaaGreatG08
import Derived.Test.YtpbjdoplfgeliaaGreatG05
set_option maxRecDepth 20000
set_option maxHeartbeats 4000000
namespace Go.SLYtpbjdoplfgeliaaGreat
open Go Go.RowKit Go.Proofs Go.Proofs.Tryz
attribute [local irreducible] aq aR bf bq bB Y
theorem xf{W:World}{bd b p:Nat}{ps:List (Option Nat)}{d:Dng}{h:Int}(h0:0≤h)(hT:jm d.s.table)(hs:∀ n,bz d.s.table h=some n→bN ps d.s n):Fn Tryz.prog W 163 [ptr bd,.int .u64 h] [bo bd b p ps d] Unit (fun _=>.tuple #[.int .i64 (((d.other h).1:Nat):Int),.int .i64 (d.other h).2]) (fun _=>True) (fun _=>[bo bd b p ps d]):=by
 refine Fn.intro (N:=60) func163 rfl ntmps163 rfl fun F=>?_
 show aq _ _ _ _ _ _ [bo bd b p ps d,F]
 refine .o2 (C:=bo bd b p ps d) .auto rfl ?_
 rintro vw ve -
 refine .ja (C:=cE b ps d.s) .auto rfl ?_
 rintro fv sv pv bt vm bg vt bk bw vr -
 refine J 16 ?_
 refine .c call198 rfl (wZ hT h0) fun _ _=>?_
 refine J 1 ?_
 refine .p (.extract (v:=.int .i64 (((bz d.s.table h).getD 0:Nat):Int)) rfl rfl) ?_
 refine .p (.extract (v:=.bool (bz d.s.table h).isSome) rfl rfl) ?_
 refine J 8 ?_
 obtain⟨m,hm⟩:∃ m,m=(bz d.s.table h).getD 0:=⟨_,rfl⟩
 rw[← hm]
 refine J 3 ?_
 refine .part (t:=23) rfl (fun h23=>?_) (fun h23=>?_)
 ·refine J 24 ?_
  refine .gw rfl ?_
  refine J 9 ?_
  rw[tC (Option.isNone_iff_eq_none.mp (by simpa using h23))]
  exact JR 0 ()
 ·obtain⟨n,hf⟩:∃ n,bz d.s.table h=some n:=Option.isSome_iff_exists.mp (by simpa using h23)
  obtain rfl:m=n:=by rw[hm,hf];rfl
  obtain⟨hm16,q,u,hq,hu,hR⟩:=hs m hf
  refine .fr .auto (bM hq hu) ?_
  refine J 8 ?_
  refine .sB (t:=31) rfl (fun h31=>?_) (fun h31=>?_)
  ·refine J 16 ?_
   refine .gw rfl ?_
   refine J 9 ?_
   refine .to (A:=ay ps d.s.aG) (Bs:=[arr q 0 (bc u),ay (ps.set m none) (d.s.aG.set m none)]) .auto (bI hq hu) ?_
   rw[kT hf hu (.inl (Int.ofNat_inj.mp h31))]
   exact JR 0 ()
  ·refine J 7 ?_
   refine .g (.dH m underlying120 sizeOf119 rfl rfl rfl hm16) ?_
   refine .g (.ld rfl (Cell.a (by rw[Nat.mul_one,eJ hm16,bA hq]))) ?_
   refine JD 7 (fun h20=>?_) fun h20=>?_
   ·refine J 9 ?_
    refine .to (A:=ay ps d.s.aG) (Bs:=[arr q 0 (bc u),ay (ps.set m none) (d.s.aG.set m none)]) .auto (bI hq hu) ?_
    rw[kT hf hu (.inr h20)]
    exact JR 0 ()
   ·have hno:¬(m=d.n∨u.bK=true):=fun hh=>hh.elim (fun e=>h31 (Int.ofNat_inj.mpr e)) (fun e=>by rw[h20] at e;cases e)
    refine J 9 ?_
    refine .p (.dH m underlying120 sizeOf119 rfl rfl rfl hm16) ?_
    refine .p (.ld rfl (Cell.a (by rw[Nat.mul_one,eJ hm16,bA hq]))) ?_
    refine JD 7 (fun h45=>?_) fun h45=>?_
    ·refine J 9 ?_
     refine .to (A:=ay ps d.s.aG) (Bs:=[arr q 0 (bc u),ay (ps.set m none) (d.s.aG.set m none)]) .auto (bI hq hu) ?_
     rw[nW hf hu hno h45]
     exact JR 0 ()
    ·refine J 11 ?_
     refine .to (A:=ay ps d.s.aG) (Bs:=[arr q 0 (bc u),ay (ps.set m none) (d.s.aG.set m none)]) .auto (bI hq hu) ?_
     rw[tD hf hu hno (Decidable.byContradiction h45)]
     exact JR 0 ()
theorem Ce{W:World}{bd b p:Nat}{ps:List (Option Nat)}{d:Dng}{t:bE}(hp:ps[d.n]?=some (some p))(ht:d.s.aG[d.n]?=some (some t))(hk:iN ps d t):Fn Tryz.prog W 119 [ptr bd] [bo bd b p ps d] (List (Option Nat)) (fun _=>.tuple #[]) (fun _=>True) (fun qs=>[bo bd b p qs d.fT]):=by
 refine Fn.intro (N:=51) func119 rfl ntmps119 rfl fun F=>?_
 show aq _ _ _ _ _ _ [bo bd b p ps d,F]
 refine J 3 ?_
 refine .c call120 rfl (w9 hp ht hk.I.a) fun _ _=>?_
 have hx0:0≤d.a:=by
  unfold Dng.a;rw[dj ht];exact(hk.R.r _).1
 obtain⟨x,hx⟩:∃ x,x=d.a:=⟨_,rfl⟩
 rw[← hx]
 rw[← hx] at hx0
 refine J 7 ?_
 refine .c call163 rfl (xf hx0 hk.T (hk.slot x)) fun _ _=>?_
 refine J 1 ?_
 refine .p (.extract (v:=.int .i64 (((d.other x).1:Nat):Int)) rfl rfl) ?_
 refine .p (.extract (v:=.int .i64 (d.other x).2) rfl rfl) ?_
 refine JD 13 (fun h24=>?_) fun h24=>?_
 ·refine J 7 ?_
  refine .c call117 rfl (ct hp ht (Nat.le_trans hk.au (by decide)) pf hk.R.l) fun _ _=>?_
  refine J 1 ?_
  rw[show d.fT=d.pass x 0 (d.other x).2 from by unfold Dng.fT;rw[← hx];simp only;rw[if_pos h24]]
  exact JR 0 ps
 ·have hz:(d.other x).2=0:=Decidable.byContradiction h24
  obtain⟨m,q,u,hf,ho1,hmn,hm16,hq,hu,hRu,hdt,hjo⟩:=tF (hk.slot x) hz
  rw[ho1,hz]
  refine J 2 ?_
  refine .o2 (C:=bo bd b p ps (d)) .auto rfl ?_
  rintro vw ve -
  refine .ja (C:=cE b ps (d).s) .auto rfl ?_
  rintro fv sv pv bt vm bg vt bk bw vr -
  refine .fr .auto (bM hq hu) ?_
  refine J 7 ?_
  refine .p (.dH m underlying120 sizeOf119 rfl rfl rfl hm16) ?_
  refine .p (.ld rfl (Cell.a (by rw[Nat.mul_one,eJ hm16,bA hq]))) ?_
  refine JD 7 (fun h27=>?_) fun h27=>?_
  ·refine J 1 ?_
   refine .to (A:=ay ps d.s.aG) (Bs:=[arr q 0 (bc u),ay (ps.set m none) (d.s.aG.set m none)]) .auto (bI hq hu) ?_
   refine J 5 ?_
   refine .c call113 rfl (nq (s:=d.s) hq hu hk.lt hk.lp hk.T hRu.h.1) fun _ _=>?_
   refine J 7 ?_
   refine .c call117 rfl (ct (d:=d.free m) (ps:=ps.set m none) (p:=p) (t:=t) (by show(ps.set m none)[d.n]?=_;rw[List.getElem?_set_ne hmn];exact hp) (by show(d.s.aG.set m none)[d.n]?=_;rw[List.getElem?_set_ne hmn];exact ht) (Nat.le_trans hk.au (by decide)) (by decide) hk.R.l) fun _ _=>?_
   refine J 1 ?_
   rw[show d.fT=(d.free m).pass x 0 0 from by unfold Dng.fT;rw[← hx];simp only;rw[if_neg (by rw[hz];simp),ho1,dQ hu,if_pos h27]]
   refine .DJ rfl fun w s=>⟨ps.set m none,?_,trivial,aj .auto s⟩
   rfl
  ·refine J 8 ?_
   refine .p (.dH m underlying120 sizeOf119 rfl rfl rfl hm16) ?_
   refine .p (.ld rfl (Cell.a (by rw[Nat.mul_one,eJ hm16,bA hq]))) ?_
   refine J 3 ?_
   rw[Jx]
   refine J 7 ?_
   refine .to (A:=ay ps (d.s.aG.set m (some ({u with bK:=true })))) (Bs:=[arr q 0 (bc ({u with bK:=true })),ay (ps.set m none) (d.s.aG.set m none)]) .auto (cA (List.getElem?_eq_some_iff.1 hu).1 hq) ?_
   refine .c call117 rfl (ct (d:={d with s:=d.s.aV m {u with bK:=true } }) (ps:=ps) (p:=p) (t:=t) hp (fA ht hmn) (Nat.le_trans hk.au (by decide)) (by decide) hk.R.l) fun _ _=>?_
   refine J 1 ?_
   rw[show d.fT=({d with s:=d.s.aV m {u with bK:=true } }:Dng).pass x 0 0 from by unfold Dng.fT;rw[← hx];simp only;rw[if_neg (by rw[hz];simp),ho1,dQ hu,if_neg h27]]
   exact JR 0 ps
theorem Iw{W:World}{bd b p:Nat}{ps:List (Option Nat)}{d:Dng}{t:bE}(hp:ps[d.n]?=some (some p))(ht:d.s.aG[d.n]?=some (some t))(hk:iN ps d t):Fn Tryz.prog W 118 [ptr bd] [bo bd b p ps d] (List (Option Nat)) (fun _=>.tuple #[]) (fun _=>True) (fun qs=>[bo bd b p qs d.join]):=by
 refine Fn.intro (N:=94) func118 rfl ntmps118 rfl fun F=>?_
 show aq _ _ _ _ _ _ [bo bd b p ps d,F]
 have hIa:=hk.I.a
 have hRl:=hk.R.l
 refine J 3 ?_
 refine .c call162 rfl (KP hp ht hk.I.b) fun _ _=>?_
 have hx0:0≤d.b:=by
  unfold Dng.b;rw[dj ht];exact(hk.R.r _).1
 obtain⟨x,hx⟩:∃ x,x=d.b:=⟨_,rfl⟩
 rw[← hx]
 rw[← hx] at hx0
 refine J 7 ?_
 refine .c call163 rfl (xf hx0 hk.T (hk.slot x)) fun _ _=>?_
 refine J 1 ?_
 refine .p (.extract (v:=.int .i64 (((d.other x).1:Nat):Int)) rfl rfl) ?_
 refine .p (.extract (v:=.int .i64 (d.other x).2) rfl rfl) ?_
 refine JD 12 (fun h37=>?_) fun h37=>?_
 ·refine J 4 ?_
  refine .c call117 rfl (ct hp ht (Nat.le_trans hk.au (by decide)) pf hk.R.l) fun _ _=>?_
  refine J 2 ?_
  rw[show d.join=d.pass x 0 (d.other x).2 from by unfold Dng.join;rw[← hx];simp only;rw[if_pos h37]]
  exact JR 0 ps
 ·have hz:(d.other x).2=0:=Decidable.byContradiction h37
  obtain⟨m,q,u,hf,ho1,hmn,hm16,hq,hu,hRu,hdt,hjo⟩:=tF (hk.slot x) hz
  rw[ho1,hz]
  refine J 2 ?_
  refine .o2 (C:=bo bd b p ps (d)) .auto rfl ?_
  rintro vw ve -
  refine .ja (C:=cE b ps (d).s) .auto rfl ?_
  rintro fv sv pv bt vm bg vt bk bw vr -
  refine .fr .auto (bM hq hu) ?_
  refine J 7 ?_
  refine .p (.dH m underlying120 sizeOf119 rfl rfl rfl hm16) ?_
  refine .p (.ld rfl (Cell.a (by rw[Nat.mul_one,eJ hm16,bA hq]))) ?_
  refine JD 7 (fun h44=>?_) fun h44=>?_
  ·refine J 9 ?_
   refine .p (.dH m underlying120 sizeOf119 rfl rfl rfl hm16) ?_
   refine .p (.ld rfl (Cell.a (by rw[Nat.mul_one,eJ hm16,bA hq]))) ?_
   refine J 7 ?_
   refine .to (A:=ay ps d.s.aG) (Bs:=[arr q 0 (bc u),ay (ps.set m none) (d.s.aG.set m none)]) .auto (bI hq hu) ?_
   refine .fr .auto (bM hp ht) ?_
   refine .draw [arr bd 0 (ed b p d vw ve)] [1,1,1,1,1,1,1,1,1,1,1,1,1,1,3] rfl (by kernel_rfl) ?_
   refine J 13 ?_
   refine .p (.dH d.i.a.toNat underlying131 sizeOf92 rfl rfl (by omega) (by omega)) ?_
   refine .d3 rfl (af.st sizeOf92 rfl rfl rfl (Nat.blt_eq.mpr (by show 2+d.i.a.toNat * 1<18;omega))) ?_
   rintro _ _ ⟨rfl,rfl⟩
   rw[jw _ (by omega) (by omega) hRl]
   refine .to (A:=ay ps (d.s.aG.set d.n (some (t.put d.i.a u.value)))) (Bs:=[arr p 0 (bc (t.put d.i.a u.value)),ay (ps.set d.n none) (d.s.aG.set d.n none)]) .auto (cA (List.getElem?_eq_some_iff.1 ht).1 hp) ?_
   refine J 9 ?_
   refine .c call113 rfl (nq (s:=(d.aV (t.put d.i.a u.value)).s) hq (fA hu (Ne.symm hmn)) (by simp[Dng.aV,Spc.aV,hk.lt]) hk.lp hk.T hRu.h.1) fun _ _=>?_
   refine J 6 ?_
   refine .c call117 rfl (ct (d:=(d.aV (t.put d.i.a u.value)).free m) (ps:=ps.set m none) (p:=p) (t:=t.put d.i.a u.value) (by show(ps.set m none)[d.n]?=_;rw[List.getElem?_set_ne hmn];exact hp) (by show((d.aV (t.put d.i.a u.value)).s.aG.set m none)[d.n]?=_;rw[List.getElem?_set_ne hmn];exact dp ht) (Nat.le_trans hk.au (by decide)) (by decide) (by rw[jL];exact hRl)) fun _ _=>?_
   refine J 2 ?_
   rw[show d.join=((d.aV (t.put d.i.a u.value)).free m).pass x u.value 0 from by unfold Dng.join;rw[← hx];simp only;rw[if_neg (by rw[hz];simp),ho1,dQ hu,if_pos h44,dj ht]]
   refine .DJ rfl fun w s=>⟨ps.set m none,?_,trivial,aj .auto s⟩
   rfl
  ·refine J 1 ?_
   refine .draw [arr bd 0 (ed b p d vw ve)] [1,1,1,1,1,1,1,1,1,1,1,1,1,1,1,3] rfl (by kernel_rfl) ?_
   refine J 7 ?_
   refine .p (.dH m underlying120 sizeOf119 rfl rfl rfl hm16) ?_
   refine .p (.ld rfl (Cell.a (by rw[Nat.mul_one,eJ hm16,bA hq]))) ?_
   refine J 7 ?_
   rw[Bu]
   refine .to (A:=ay ps (d.s.aG.set m (some ({u with ax:=d.n })))) (Bs:=[arr q 0 (bc ({u with ax:=d.n })),ay (ps.set m none) (d.s.aG.set m none)]) .auto (cA (List.getElem?_eq_some_iff.1 hu).1 hq) ?_
   refine J 10 ?_
   refine .c call164 rfl (gE (d:={d with s:=d.s.aV m {u with ax:=d.n } }) (ps:=ps) (p:=p) (t:=t) hp (fA ht hmn) (Nat.le_trans hk.au (by decide))) fun _ _=>?_
   refine J 2 ?_
   rw[show d.join=({d with s:=d.s.aV m {u with ax:=d.n } }:Dng).block 4 d.i.a x 0 from by unfold Dng.join;rw[← hx];simp only;rw[if_neg (by rw[hz];simp),ho1,dQ hu,if_neg h44]]
   exact JR 0 ps
theorem E9{W:World}{bd b p:Nat}{ps:List (Option Nat)}{d:Dng}{t:bE}(hp:ps[d.n]?=some (some p))(ht:d.s.aG[d.n]?=some (some t))(hk:iN ps d t):Fn Tryz.prog W 178 [ptr bd] [bo bd b p ps d] Unit (fun _=>.tuple #[]) (fun _=>True) (fun _=>[bo bd b p ps (d.sleep)]):=by
 refine Fn.intro (N:=34) func178 rfl ntmps178 rfl fun F=>?_
 show aq _ _ _ _ _ _ [bo bd b p ps d,F]
 refine J 3 ?_
 refine .c call120 rfl (w9 hp ht hk.I.a) fun _ _=>?_
 have hx0:0≤d.a:=by
  unfold Dng.a;rw[dj ht];exact(hk.R.r _).1
 obtain⟨x,hx⟩:∃ x,x=d.a:=⟨_,rfl⟩
 rw[← hx]
 rw[← hx] at hx0
 refine JD 11 (fun h22=>?_) fun h22=>?_
 ·refine J 3 ?_
  refine .c call117 rfl (ct hp ht (Nat.le_trans hk.au (by decide)) (by decide) hk.R.l) fun _ _=>?_
  refine J 2 ?_
  rw[show d.sleep=d.pass x 0 0 from by unfold Dng.sleep;rw[← hx];simp only;rw[if_pos h22]]
  exact JR 0 ()
 ·refine JD 7 (fun h28=>?_) fun h28=>?_
  ·refine J 3 ?_
   refine .c call117 rfl (ct hp ht (Nat.le_trans hk.au (by decide)) (by decide) hk.R.l) fun _ _=>?_
   refine J 2 ?_
   rw[show d.sleep=d.pass x 0 1 from by unfold Dng.sleep;rw[← hx];simp only;rw[if_neg h22,if_pos h28]]
   exact JR 0 ()
  ·refine J 1 ?_
   refine .o2 (C:=bo bd b p ps (d)) .auto rfl ?_
   rintro vw ve -
   refine .ja (C:=cE b ps (d).s) .auto rfl ?_
   rintro fv sv pv bt vm bg vt bk bw vr -
   refine .draw [arr bd 0 (ed b p d vw ve),arr b 0 (fo fv sv pv d.s.eW bt ps vm bg vt bk bw vr)] [1,1,1,1,1,1,1,1,1,1,1,1,1,3] rfl (by kernel_rfl) ?_
   refine J 12 ?_
   refine .p (.jj underlying92 underlying3 rfl (by omega)) ?_
   refine .c call214 rfl (Az hk.wn) fun _ _=>?_
   refine J 5 ?_
   refine .c call164 rfl (gE (d:=d.vW (d.s.aS.sleep d.n x).2) hp ht (Nat.le_trans hk.au (by decide))) fun _ _=>?_
   refine J 2 ?_
   rw[show d.sleep=(d.vW (d.s.aS.sleep d.n x).2).block 8 (-1) x 0 from by unfold Dng.sleep;rw[← hx];simp only;rw[if_neg h22,if_neg h28]]
   exact JR 0 ()
theorem Ds{W:World}{bd b p:Nat}{ps:List (Option Nat)}{d:Dng}{t:bE}(hp:ps[d.n]?=some (some p))(ht:d.s.aG[d.n]?=some (some t))(hk:iN ps d t){block y bZ:Int}(hb:0≤block):Fn Tryz.prog W 175 [ptr bd,.int .u64 block,.int .u64 y,.int .i64 bZ] [bo bd b p ps d] Unit (fun _=>.tuple #[]) (fun _=>True) (fun _=>[bo bd b p ps (d.ask block y bZ)]):=by
 refine Fn.intro (N:=45) func175 rfl ntmps175 rfl fun F=>?_
 show aq _ _ _ _ _ _ [bo bd b p ps d,F]
 refine JD 12 (fun h10=>?_) fun h10=>?_
 ·refine .o2 (C:=bo bd b p ps (d)) .auto rfl ?_
  rintro vw ve -
  refine .ja (C:=cE b ps (d).s) .auto rfl ?_
  rintro fv sv pv bt vm bg vt bk bw vr -
  refine .draw [arr bd 0 (ed b p d vw ve),arr b 0 (fo fv sv pv d.s.eW bt ps vm bg vt bk bw vr)] [1,1,1,1,1,1,1,1,1,1,1,1,1,1,1,1,1,1,1,1,1,3,1] rfl (by kernel_rfl) ?_
  refine J 12 ?_
  refine .p (.jj underlying92 underlying3 rfl (by omega)) ?_
  refine J 7 ?_
  refine .p (.FT (fun v1 v2 v3 v4=>[v1,v2,v3,v4]) rfl rfl rfl rfl (by kernel_rfl)) ?_
  refine .c call211 rfl (Iq (r:=(⟨d.n,block,decide (d.i.op=34),y⟩:vQ)) hk.dw) fun _ _=>?_
  refine JD 10 (fun h34=>?_) fun h34=>?_
  ·refine J 6 ?_
   refine .c call117 rfl (ct (d:=d.dh (d.s.ca.ask ⟨d.n,block,decide (d.i.op=34),y⟩).2) hp ht (Nat.le_trans hk.au (by decide)) GS hk.R.l) fun _ _=>?_
   refine J 4 ?_
   rw[show d.ask block y bZ=(d.dh (d.s.ca.ask ⟨d.n,block,decide (d.i.op=34),y⟩).2).pass block y (d.s.ca.ask ⟨d.n,block,decide (d.i.op=34),y⟩).1 from by unfold Dng.ask;rw[if_pos h10];simp only;rw[if_pos h34]]
   exact JR 0 ()
  ·refine J 7 ?_
   refine .c call164 rfl (gE (d:=d.dh (d.s.ca.ask ⟨d.n,block,decide (d.i.op=34),y⟩).2) hp ht (Nat.le_trans hk.au (by decide))) fun _ _=>?_
   refine J 1 ?_
   rw[show d.ask block y bZ=(d.dh (d.s.ca.ask ⟨d.n,block,decide (d.i.op=34),y⟩).2).block 5 bZ block y from by unfold Dng.ask;rw[if_pos h10];simp only;rw[if_neg h34]]
   exact JR 0 ()
 ·refine J 9 ?_
  refine .gw rfl ?_
  refine J 6 ?_
  refine .c call117 rfl (ct hp ht (Nat.le_trans hk.au (by decide)) (by decide) hk.R.l) fun _ _=>?_
  refine J 4 ?_
  rw[show d.ask block y bZ=d.pass block y 1 from by unfold Dng.ask;rw[if_neg h10]]
  exact JR 0 ()
end Go.SLYtpbjdoplfgeliaaGreat
namespace Go.SLYtpbjdoplfgeliaaGreat
open Go Go.RowKit Go.Proofs Go.Proofs.Tryz
attribute [local irreducible] aq aR bf bq bB Y
theorem Mm{W:World}{bd b p:Nat}{d:Dng}{t:bE}{vw ve:Value}(ht:d.s.aG[d.n]?=some (some t))(hI:0≤d.i.a∧d.i.a<8):Fn Tryz.prog W 120 [ptr bd] [arr bd 0 (ed b p d vw ve),arr p 0 (bc t)] Unit (fun _=>.int .u64 d.a) (fun _=>True) (fun _=>[arr bd 0 (ed b p d vw ve),arr p 0 (bc t)]):=by
 refine Fn.intro (N:=17) func120 rfl ntmps120 rfl fun F=>?_
 show aq _ _ _ _ _ _ [arr bd 0 (ed b p d vw ve),arr p 0 (bc t),F]
 refine J 6 ?_
 refine .draw [] [1,1,1,1,1,1,1,1,1,1,1,1,1,1,1] rfl (by kernel_rfl) ?_
 refine J 12 ?_
 refine .p (.dH d.i.a.toNat underlying131 sizeOf92 rfl rfl (by omega) (by omega)) ?_
 refine .p (.ld rfl (Cell.a (m4 (by omega)))) ?_
 refine J 4 ?_
 refine .aP rfl rfl fun w s=>⟨(),?_,trivial,aj .auto s⟩
 rw[show d.a=t.aE.getD d.i.a.toNat 0 from by unfold Dng.a;rw[dj ht];rfl]
theorem Ix{W:World}{bd b p:Nat}{d:Dng}{t:bE}{vw ve:Value}(ht:d.s.aG[d.n]?=some (some t))(hI:0≤d.i.b∧d.i.b<8):Fn Tryz.prog W 162 [ptr bd] [arr bd 0 (ed b p d vw ve),arr p 0 (bc t)] Unit (fun _=>.int .u64 d.b) (fun _=>True) (fun _=>[arr bd 0 (ed b p d vw ve),arr p 0 (bc t)]):=by
 refine Fn.intro (N:=17) func162 rfl ntmps162 rfl fun F=>?_
 show aq _ _ _ _ _ _ [arr bd 0 (ed b p d vw ve),arr p 0 (bc t),F]
 refine J 6 ?_
 refine .draw [] [1,1,1,1,1,1,1,1,1,1,1,1,1,1,1] rfl (by kernel_rfl) ?_
 refine J 12 ?_
 refine .p (.dH d.i.b.toNat underlying131 sizeOf92 rfl rfl (by omega) (by omega)) ?_
 refine .p (.ld rfl (Cell.a (m4 (by omega)))) ?_
 refine J 4 ?_
 refine .aP rfl rfl fun w s=>⟨(),?_,trivial,aj .auto s⟩
 rw[show d.b=t.aE.getD d.i.b.toNat 0 from by unfold Dng.b;rw[dj ht];rfl]
theorem Dt{W:World}{bd b p:Nat}{ps:List (Option Nat)}{d:Dng}{t:bE}(hp:ps[d.n]?=some (some p))(ht:d.s.aG[d.n]?=some (some t))(hk:iN ps d t):Fn Tryz.prog W 124 [ptr bd] [bo bd b p ps d] Unit (fun _=>.tuple #[]) (fun _=>True) (fun _=>[bo bd b p ps (d.et)]):=by
 refine Fn.intro (N:=86) func124 rfl ntmps124 rfl fun F=>?_
 show aq _ _ _ _ _ _ [bo bd b p ps d,F]
 refine .o2 (C:=bo bd b p ps (d)) .auto rfl ?_
 rintro vw ve -
 refine .ja (C:=cE b ps (d).s) .auto rfl ?_
 rintro fv sv pv bt vm bg vt bk bw vr -
 have hnn:=hk.nn
 have hn0:=hk.I.n
 refine J 7 ?_
 refine .p (.jj underlying92 underlying3 rfl (by omega)) ?_
 refine JD 14 (fun h19=>?_) fun h19=>?_
 ·refine J 1 ?_
  refine .draw [arr bd 0 (ed b p d vw ve),arr b 0 (fo fv sv pv d.s.eW bt ps vm bg vt bk bw vr)] [1,1,1,1,1,1,1,1,1,1,1,1,3,1,1,1,1,1,1,1] rfl (by kernel_rfl) ?_
  refine J 12 ?_
  refine .c call173 rfl (Kg hk.gl hk.JE) fun _ _=>?_
  refine J 1 ?_
  refine .p (.extract (v:=.int .i64 (d.s.al.up d.i.n d.choice).1) rfl rfl) ?_
  refine .p (.extract (v:=.bool (d.s.al.up d.i.n d.choice).2.1) rfl rfl) ?_
  refine .p (.extract (v:=.int .i64 (d.s.al.up d.i.n d.choice).2.2.1) rfl rfl) ?_
  refine J 14 ?_
  refine .c call117 rfl (ct (d:=d.bC (d.s.al.up d.i.n d.choice).2.2.2) hp ht (Nat.le_trans hk.au (by decide)) GU hk.R.l) fun _ _=>?_
  refine J 7 ?_
  refine .c call167 rfl (qD (n:=(d.s.al.up d.i.n d.choice).1) (ok:=(d.s.al.up d.i.n d.choice).2.1) (d:=((d.bC (d.s.al.up d.i.n d.choice).2.2.2).pass d.i.n 0 (d.s.al.up d.i.n d.choice).2.2.1)) (fun h=>⟨(hk.iR _ (GV h)).1,((hk.iR _ (GV h)).2.of (s':=(d.bC (d.s.al.up d.i.n d.choice).2.2.2).s) rfl).pass (d:=d.bC (d.s.al.up d.i.n d.choice).2.2.2) ht hk.R GU⟩) (Nat.le_trans hk.ends (by decide)) (Nat.le_trans hk.AY (by decide))) fun _ _=>?_
  refine J 4 ?_
  rw[show d.et=((d.bC (d.s.al.up d.i.n d.choice).2.2.2).pass d.i.n 0 (d.s.al.up d.i.n d.choice).2.2.1).given (d.s.al.up d.i.n d.choice).1 (d.s.al.up d.i.n d.choice).2.1 from by unfold Dng.et;rw[if_pos h19]]
  exact JR 0 ()
 ·refine J 3 ?_
  refine .draw [arr bd 0 (ed b p d vw ve),arr b 0 (fo fv sv pv d.s.eW bt ps vm bg vt bk bw vr)] [1,1,1,1,1,1,1,1,1,1,1,1,3,1,1,1,1,1] rfl (by kernel_rfl) ?_
  refine J 12 ?_
  refine .c call174 rfl (E4 hk.gl hk.JE) fun _ _=>?_
  refine J 1 ?_
  refine .p (.extract (v:=.bool (d.s.al.down d.n d.i.n).1) rfl rfl) ?_
  refine .p (.extract (v:=.int .i64 (d.s.al.down d.n d.i.n).2.1) rfl rfl) ?_
  refine J 10 ?_
  apply aR.gZ 3 70 67 [67,68,69,70] rfl
  ·intro h67
   exact JS 4
  ·intro h67
   exact JS 4
  refine JD 2 (fun h70=>?_) fun h70=>?_
  ·simp only[Bool.and_eq_true,decide_eq_true_eq,Bool.not_eq_true'] at h70
   refine J 8 ?_
   refine .c call164 rfl (gE (d:=d.bC (d.s.al.down d.n d.i.n).2.2) hp ht (Nat.le_trans hk.au (by decide))) fun _ _=>?_
   refine J 4 ?_
   rw[show d.et=(d.bC (d.s.al.down d.n d.i.n).2.2).block 3 (-1) d.i.n 0 from by unfold Dng.et;rw[if_neg h19];simp only;rw[if_pos h70]]
   exact JR 0 ()
  ·simp only[Bool.and_eq_false_iff,decide_eq_false_iff_not,Bool.not_eq_false'] at h70
   refine J 10 ?_
   refine .c call117 rfl (ct (d:=d.bC (d.s.al.down d.n d.i.n).2.2) hp ht (Nat.le_trans hk.au (by decide)) CV hk.R.l) fun _ _=>?_
   refine J 1 ?_
   rw[show d.et=(d.bC (d.s.al.down d.n d.i.n).2.2).pass d.i.n 0 (d.s.al.down d.n d.i.n).2.1 from by unfold Dng.et;rw[if_neg h19];simp only;rw[if_neg (by rintro⟨a,b⟩;rcases h70 with h | h;exact h a;rw[b] at h;cases h)]]
   exact JR 0 ()
theorem qE{W:World}{bd b p:Nat}{ps:List (Option Nat)}{d:Dng}{t:bE}(hp:ps[d.n]?=some (some p))(ht:d.s.aG[d.n]?=some (some t))(hk:iN ps d t):Fn Tryz.prog W 121 [ptr bd] [bo bd b p ps d] Unit (fun _=>.tuple #[]) (fun _=>True) (fun _=>[bo bd b p ps (d.mutex)]):=by
 refine Fn.intro (N:=155) func121 rfl ntmps121 rfl fun F=>?_
 show aq _ _ _ _ _ _ [bo bd b p ps d,F]
 refine .o2 (C:=bo bd b p ps (d)) .auto rfl ?_
 rintro vw ve -
 refine .ja (C:=cE b ps (d).s) .auto rfl ?_
 rintro fv sv pv bt vm bg vt bk bw vr -
 have hnn:=hk.nn
 have hn0:=hk.I.n
 have hIc:=hk.I.c
 have hwc:=LA hIc
 refine J 7 ?_
 refine .p (.jj underlying92 underlying3 rfl (by omega)) ?_
 refine JD 19 (fun h81=>?_) fun h81=>?_
 ·refine J 1 ?_
  refine .draw [arr bd 0 (ed b p d vw ve),arr b 0 (fo fv sv pv d.s.eW bt ps vm bg vt bk bw vr)] [1,1,1,1,1,1,1,1,1,1,1,1,3,1,1,1,1,1] rfl (by kernel_rfl) ?_
  refine J 12 ?_
  refine .c call165 rfl (E2 hk.gl) fun _ _=>?_
  refine J 1 ?_
  refine .p (.extract (v:=.bool (d.s.al.lock d.n d.i.n).1) rfl rfl) ?_
  refine .p (.extract (v:=.int .i64 (d.s.al.lock d.n d.i.n).2.1) rfl rfl) ?_
  refine J 10 ?_
  apply aR.gZ 3 104 101 [101,102,103,104] rfl
  ·intro h101
   exact JS 4
  ·intro h101
   exact JS 4
  refine JD 2 (fun h104=>?_) fun h104=>?_
  ·simp only[Bool.and_eq_true,decide_eq_true_eq,Bool.not_eq_true'] at h104
   refine J 8 ?_
   refine .c call164 rfl (gE (d:=d.bC (d.s.al.lock d.n d.i.n).2.2) hp ht (Nat.le_trans hk.au (by decide))) fun _ _=>?_
   refine J 5 ?_
   rw[show d.mutex=(d.bC (d.s.al.lock d.n d.i.n).2.2).block 1 (-1) d.i.n 0 from by unfold Dng.mutex;simp only;rw[if_pos h81,if_pos h104]]
   exact JR 0 ()
  ·simp only[Bool.and_eq_false_iff,decide_eq_false_iff_not,Bool.not_eq_false'] at h104
   refine J 10 ?_
   refine .c call117 rfl (ct (d:=d.bC (d.s.al.lock d.n d.i.n).2.2) hp ht (Nat.le_trans hk.au (by decide)) CT hk.R.l) fun _ _=>?_
   refine J 2 ?_
   rw[show d.mutex=(d.bC (d.s.al.lock d.n d.i.n).2.2).pass d.i.n 0 (d.s.al.lock d.n d.i.n).2.1 from by unfold Dng.mutex;simp only;rw[if_pos h81,if_neg (by rintro⟨a,b⟩;rcases h104 with h | h;exact h a;rw[b] at h;cases h)]]
   exact JR 0 ()
 ·refine JD 6 (fun h120=>?_) fun h120=>?_
  ·refine J 1 ?_
   refine .draw [arr bd 0 (ed b p d vw ve),arr b 0 (fo fv sv pv d.s.eW bt ps vm bg vt bk bw vr)] [1,1,1,1,1,1,1,1,1,1,1,1,1,1,1,1,3,1,1,1,1,1,1,1] rfl (by kernel_rfl) ?_
   refine J 16 ?_
   refine .c call166 rfl (Ay hk.gl) fun _ _=>?_
   refine J 1 ?_
   refine .p (.extract (v:=.int .i64 (d.s.al.unlock d.n d.i.n d.choice).1) rfl rfl) ?_
   refine .p (.extract (v:=.bool (d.s.al.unlock d.n d.i.n d.choice).2.1) rfl rfl) ?_
   refine .p (.extract (v:=.int .i64 (d.s.al.unlock d.n d.i.n d.choice).2.2.1) rfl rfl) ?_
   refine J 14 ?_
   refine .c call117 rfl (ct (d:=d.bC (d.s.al.unlock d.n d.i.n d.choice).2.2.2) hp ht (Nat.le_trans hk.au (by decide)) qp hk.R.l) fun _ _=>?_
   refine J 6 ?_
   refine .c call167 rfl (qD (n:=(d.s.al.unlock d.n d.i.n d.choice).1) (ok:=(d.s.al.unlock d.n d.i.n d.choice).2.1) (d:=((d.bC (d.s.al.unlock d.n d.i.n d.choice).2.2.2).pass d.i.n 0 (d.s.al.unlock d.n d.i.n d.choice).2.2.1)) (fun h=>⟨(hk.iR _ (tG h)).1,((hk.iR _ (tG h)).2.of (s':=(d.bC (d.s.al.unlock d.n d.i.n d.choice).2.2.2).s) rfl).pass (d:=d.bC (d.s.al.unlock d.n d.i.n d.choice).2.2.2) ht hk.R qp⟩) (Nat.le_trans hk.ends (by decide)) (Nat.le_trans hk.AY (by decide))) fun _ _=>?_
   refine J 2 ?_
   rw[show d.mutex=((d.bC (d.s.al.unlock d.n d.i.n d.choice).2.2.2).pass d.i.n 0 (d.s.al.unlock d.n d.i.n d.choice).2.2.1).given (d.s.al.unlock d.n d.i.n d.choice).1 (d.s.al.unlock d.n d.i.n d.choice).2.1 from by unfold Dng.mutex;simp only;rw[if_neg h81,if_pos h120]]
   exact JR 0 ()
  ·refine J 1 ?_
   refine .draw [arr bd 0 (ed b p d vw ve),arr b 0 (fo fv sv pv d.s.eW bt ps vm bg vt bk bw vr)] [1,1,1,1,1,1,1,1,1,1,1,1,1,1,1,1,1,1,1,1,1,3,1,1,1,1,1,1,1] rfl (by kernel_rfl) ?_
   refine J 21 ?_
   refine .c call168 rfl (E3 hk.gl) fun _ _=>?_
   refine J 1 ?_
   refine .p (.extract (v:=.int .i64 (d.s.al.wait d.n d.i.n d.i.c d.choice).1) rfl rfl) ?_
   refine .p (.extract (v:=.bool (d.s.al.wait d.n d.i.n d.i.c d.choice).2.1) rfl rfl) ?_
   refine .p (.extract (v:=.int .i64 (d.s.al.wait d.n d.i.n d.i.c d.choice).2.2.1) rfl rfl) ?_
   refine JD 12 (fun h48=>?_) fun h48=>?_
   ·refine J 1 ?_
    refine .draw [] [1,1,1,1,1,1,1,1,1,1,1,1,1,3] rfl (by kernel_rfl) ?_
    refine J 11 ?_
    refine .p (.sP underlying3 underlying92 rfl (by omega)) ?_
    refine J 1 ?_
    refine .c call117 rfl (ct (d:=d.bC (d.s.al.wait d.n d.i.n d.i.c d.choice).2.2.2) hp ht (Nat.le_trans hk.au (by decide)) CU hk.R.l) fun _ _=>?_
    refine J 5 ?_
    rw[show d.mutex=(d.bC (d.s.al.wait d.n d.i.n d.i.c d.choice).2.2.2).pass d.i.n d.i.c (d.s.al.wait d.n d.i.n d.i.c d.choice).2.2.1 from by unfold Dng.mutex;simp only;rw[if_neg h81,if_neg h120,if_pos h48,hwc]]
    exact JR 0 ()
   ·refine J 3 ?_
    refine .draw [] [1,1,1,1,1,1,1,1,1,1,1,1,3] rfl (by kernel_rfl) ?_
    refine J 11 ?_
    refine .p (.sP underlying3 underlying92 rfl (by omega)) ?_
    refine .c call164 rfl (gE (d:=d.bC (d.s.al.wait d.n d.i.n d.i.c d.choice).2.2.2) hp ht (Nat.le_trans hk.au (by decide))) fun _ _=>?_
    refine J 6 ?_
    refine .c call167 rfl (qD (n:=(d.s.al.wait d.n d.i.n d.i.c d.choice).1) (ok:=(d.s.al.wait d.n d.i.n d.i.c d.choice).2.1) (d:=((d.bC (d.s.al.wait d.n d.i.n d.i.c d.choice).2.2.2).block 2 (-1) d.i.n d.i.c)) (fun h=>⟨(hk.iR _ (zJ h)).1,((hk.iR _ (zJ h)).2.of (s':=(d.bC (d.s.al.wait d.n d.i.n d.i.c d.choice).2.2.2).s) rfl).block (d:=d.bC (d.s.al.wait d.n d.i.n d.i.c d.choice).2.2.2) ht hk.R (by decide)⟩) (Nat.le_trans hk.ends (by decide)) (Nat.le_trans hk.AY (by decide))) fun _ _=>?_
    refine J 2 ?_
    rw[show d.mutex=((d.bC (d.s.al.wait d.n d.i.n d.i.c d.choice).2.2.2).block 2 (-1) d.i.n d.i.c).given (d.s.al.wait d.n d.i.n d.i.c d.choice).1 (d.s.al.wait d.n d.i.n d.i.c d.choice).2.1 from by unfold Dng.mutex;simp only;rw[if_neg h81,if_neg h120,if_neg h48,hwc]]
    exact JR 0 ()
end Go.SLYtpbjdoplfgeliaaGreat
namespace Go.SLYtpbjdoplfgeliaaGreat
open Go Go.RowKit Go.Proofs Go.Proofs.Tryz
attribute [local irreducible] aq aR bf bq bB Y
theorem Km{W:World}{bd b p:Nat}{ps:List (Option Nat)}{d:Dng}{t:bE}(hp:ps[d.n]?=some (some p))(ht:d.s.aG[d.n]?=some (some t))(hk:iN ps d t)(hop:d.i.op=35∨d.i.op=36):Fn Tryz.prog W 176 [ptr bd] [bo bd b p ps d] Unit (fun _=>.tuple #[]) (fun _=>True) (fun _=>[bo bd b p ps (d.put)]):=by
 refine Fn.intro (N:=57) func176 rfl ntmps176 rfl fun F=>?_
 show aq _ _ _ _ _ _ [bo bd b p ps d,F]
 refine .o2 (C:=bo bd b p ps (d)) .auto rfl ?_
 rintro vw ve -
 refine .ja (C:=cE b ps (d).s) .auto rfl ?_
 rintro fv sv pv bt vm bg vt bk bw vr -
 have hnn:=hk.nn
 have hn0:=hk.I.n
 refine .o1 (C:=oJ vt d.s.cf) .auto rfl ?_
 rintro xs hxs
 obtain⟨xq,hx,hmem⟩:=CW hxs hn0.1 (hk.Ny hop)
 have hxl:xs.length=d.s.cf.length:=by rw[← hxs,List.length_map]
 have hti:=hk.Ny hop
 refine .fr .auto (bM hp ht) ?_
 refine J 1 ?_
 refine .draw [] [1,1,1,1,1,1,1,1,1,1,1,1,1,1,1] rfl (by kernel_rfl) ?_
 refine J 12 ?_
 refine .p (.ix d.i.n.toNat rfl rfl (by omega) (by omega)) ?_
 refine .p (.lr rfl hx) ?_
 refine J 6 ?_
 refine .c call120 rfl (Mm ht hk.I.a) fun _ _=>?_
 refine J 5 ?_
 obtain⟨x,hx0⟩:∃ x,x=d.a:=⟨_,rfl⟩
 rw[← hx0]
 refine J 6 ?_
 refine .fr .auto (tE (f:=fun x:Nat×Tub=>iz x.1 x.2) hx) ?_
 refine .c call212 rfl (Io (hk.tl _ hmem)) fun _ _=>?_
 refine .to (A:=oJ vt (d.s.cf.set d.i.n.toNat (d.bW.put d.n x).2.2.2)) (Bs:=[sl bP 1 vt xs,iz xq (d.bW.put d.n x).2.2.2,aF (fun x:Nat×Tub=>iz x.1 x.2) (xs.eraseIdx d.i.n.toNat)]) .auto (ya hx hxs (d.bW.put d.n x).2.2.2) ?_
 refine .to (A:=ay ps d.s.aG) (Bs:=[arr p 0 (bc t),ay (ps.set d.n none) (d.s.aG.set d.n none)]) .auto (bI hp ht) ?_
 refine J 1 ?_
 refine .p (.extract (v:=.bool (d.bW.put d.n x).1) rfl rfl) ?_
 refine .p (.extract (v:=.int .i64 (d.bW.put d.n x).2.1) rfl rfl) ?_
 refine .p (.extract (v:=.bool (d.bW.put d.n x).2.2.1) rfl rfl) ?_
 refine JD 12 (fun h35=>?_) fun h35=>?_
 ·refine J 9 ?_
  refine .c call164 rfl (gE (d:=(d.eM d.i.n.toNat (d.bW.put d.n x).2.2.2)) hp ht (Nat.le_trans hk.au (by decide))) fun _ _=>?_
  refine J 4 ?_
  rw[show d.put=(d.eM d.i.n.toNat (d.bW.put d.n x).2.2.2).block 7 (-1) d.i.n x from by unfold Dng.put;rw[← hx0];simp only;rw[if_pos (by simpa using h35)]]
  exact JR 0 ()
 ·refine J 11 ?_
  refine .c call117 rfl (ct (d:=(d.eM d.i.n.toNat (d.bW.put d.n x).2.2.2)) hp ht (Nat.le_trans hk.au (by decide)) (by decide) hk.R.l) fun _ _=>?_
  refine JD 7 (fun h52=>?_) fun h52=>?_
  ·have hlv:=(hk.zU _ hmem).1 _ (GW h52)
   obtain⟨hw16,q,u,hq,hu,hRu⟩:=(hlv.2.of (s':=(d.eM d.i.n.toNat (d.bW.put d.n x).2.2.2).s) rfl).pass (x:=d.i.n) (y:=x) (e:=0) (d:=(d.eM d.i.n.toNat (d.bW.put d.n x).2.2.2)) ht hk.R (by decide)
   refine J 4 ?_
   refine .c call114 rfl (kp (d:=(d.eM d.i.n.toNat (d.bW.put d.n x).2.2.2).pass d.i.n x 0) hlv.1 hq hu hw16 hRu (Nat.le_trans hk.ends (by decide)) (Nat.le_trans hk.AY (by decide))) fun _ _=>?_
   refine J 1 ?_
   rw[show d.put=((d.eM d.i.n.toNat (d.bW.put d.n x).2.2.2).pass d.i.n x 0).ck (d.bW.put d.n x).2.1.toNat x from by unfold Dng.put;rw[← hx0];simp only;rw[if_neg (by simpa using h35),if_pos h52]]
   exact JR 0 ()
  ·refine J 1 ?_
   rw[show d.put=(d.eM d.i.n.toNat (d.bW.put d.n x).2.2.2).pass d.i.n x 0 from by unfold Dng.put;rw[← hx0];simp only;rw[if_neg (by simpa using h35),if_neg (by rw[h52];simp)]]
   exact JR 0 ()
theorem Kn{W:World}{bd b p:Nat}{ps:List (Option Nat)}{d:Dng}{t:bE}(hp:ps[d.n]?=some (some p))(ht:d.s.aG[d.n]?=some (some t))(hk:iN ps d t)(hop:d.i.op=35∨d.i.op=36):Fn Tryz.prog W 177 [ptr bd] [bo bd b p ps d] Unit (fun _=>.tuple #[]) (fun _=>True) (fun _=>[bo bd b p ps (d.get)]):=by
 refine Fn.intro (N:=70) func177 rfl ntmps177 rfl fun F=>?_
 show aq _ _ _ _ _ _ [bo bd b p ps d,F]
 refine .o2 (C:=bo bd b p ps (d)) .auto rfl ?_
 rintro vw ve -
 refine .ja (C:=cE b ps (d).s) .auto rfl ?_
 rintro fv sv pv bt vm bg vt bk bw vr -
 have hnn:=hk.nn
 have hn0:=hk.I.n
 refine .o1 (C:=oJ vt d.s.cf) .auto rfl ?_
 rintro xs hxs
 obtain⟨xq,hx,hmem⟩:=CW hxs hn0.1 (hk.Ny hop)
 have hxl:xs.length=d.s.cf.length:=by rw[← hxs,List.length_map]
 have hti:=hk.Ny hop
 have hIa:=hk.I.a
 have hRl:=hk.R.l
 refine J 1 ?_
 refine .fr .auto (tE (f:=fun x:Nat×Tub=>iz x.1 x.2) hx) ?_
 refine .draw [arr bd 0 (ed b p d vw ve),arr b 0 (fo fv sv pv d.s.eW bt ps vm bg vt bk bw vr),sl bP 1 vt xs] [1,1,1,1,1,1,1,1,1,1,1,1,1,1,1,1,1,1,3,1,1,1,1,1,1,1,1,1] rfl (by kernel_rfl) ?_
 refine J 12 ?_
 refine .p (.ix d.i.n.toNat rfl rfl (by omega) (by omega)) ?_
 refine .p (.lr rfl hx) ?_
 refine J 4 ?_
 refine .c call213 rfl (Ip (hk.tl _ hmem)) fun _ _=>?_
 refine J 1 ?_
 refine .p (.extract (v:=.int .u64 (d.bW.get d.n).1) rfl rfl) ?_
 refine .p (.extract (v:=.bool (d.bW.get d.n).2.1) rfl rfl) ?_
 refine .p (.extract (v:=.int .i64 (d.bW.get d.n).2.2.1) rfl rfl) ?_
 refine .p (.extract (v:=.bool (d.bW.get d.n).2.2.2.1) rfl rfl) ?_
 refine JD 13 (fun h31=>?_) fun h31=>?_
 ·refine J 1 ?_
  refine .to (A:=oJ vt (d.s.cf.set d.i.n.toNat (d.bW.get d.n).2.2.2.2)) (Bs:=[sl bP 1 vt xs,iz xq (d.bW.get d.n).2.2.2.2,aF (fun x:Nat×Tub=>iz x.1 x.2) (xs.eraseIdx d.i.n.toNat)]) .auto (ya hx hxs (d.bW.get d.n).2.2.2.2) ?_
  refine .draw [] [1,1,1,1,1,1,1,1,1,1,1,3] rfl (by kernel_rfl) ?_
  refine J 11 ?_
  refine .c call164 rfl (gE (d:=(d.eM d.i.n.toNat (d.bW.get d.n).2.2.2.2)) hp ht (Nat.le_trans hk.au (by decide))) fun _ _=>?_
  refine J 4 ?_
  rw[show d.get=(d.eM d.i.n.toNat (d.bW.get d.n).2.2.2.2).block 6 d.i.a d.i.n 0 from by unfold Dng.get;simp only;rw[if_pos (by simpa using h31)]]
  exact JR 0 ()
 ·refine J 3 ?_
  refine .to (A:=oJ vt (d.s.cf.set d.i.n.toNat (d.bW.get d.n).2.2.2.2)) (Bs:=[sl bP 1 vt xs,iz xq (d.bW.get d.n).2.2.2.2,aF (fun x:Nat×Tub=>iz x.1 x.2) (xs.eraseIdx d.i.n.toNat)]) .auto (ya hx hxs (d.bW.get d.n).2.2.2.2) ?_
  refine .fr .auto (bM hp ht) ?_
  refine .draw [arr bd 0 (ed b p d vw ve)] [1,1,1,1,1,1,1,1,1,1,1,1,1,1,3] rfl (by kernel_rfl) ?_
  refine J 13 ?_
  refine .p (.dH d.i.a.toNat underlying131 sizeOf92 rfl rfl (by omega) (by omega)) ?_
  refine .d3 rfl (af.st sizeOf92 rfl rfl rfl (Nat.blt_eq.mpr (by show 2+d.i.a.toNat * 1<18;omega))) ?_
  rintro _ _ ⟨rfl,rfl⟩
  rw[jw _ (by omega) (by omega) hRl]
  refine .to (A:=ay ps (d.s.aG.set d.n (some (t.put d.i.a (d.bW.get d.n).1)))) (Bs:=[arr p 0 (bc (t.put d.i.a (d.bW.get d.n).1)),ay (ps.set d.n none) (d.s.aG.set d.n none)]) .auto (cA (List.getElem?_eq_some_iff.1 ht).1 hp) ?_
  refine J 11 ?_
  refine .c call117 rfl (ct (d:=((d.eM d.i.n.toNat (d.bW.get d.n).2.2.2.2).aV (t.put d.i.a (d.bW.get d.n).1))) (t:=t.put d.i.a (d.bW.get d.n).1) hp (dp ht) (Nat.le_trans hk.au (by decide)) (by decide) (by rw[jL];exact hRl)) fun _ _=>?_
  refine JD 7 (fun h66=>?_) fun h66=>?_
  ·obtain⟨z,hz,hzw⟩:=GX h66
   have hlv:=(hk.zU _ hmem).2 z hz
   rw[hzw] at hlv
   have hRg:=hk.R.put (i:=d.i.a) (GY (who:=d.n) (hk.tw _ hmem))
   obtain⟨hw16,q,u,hq,hu,hRu⟩:=((hlv.2.of (s':=(d.eM d.i.n.toNat (d.bW.get d.n).2.2.2.2).s) rfl).aV (n:=d.n) hRg).pass (x:=d.i.n) (y:=(d.bW.get d.n).1) (e:=0) (d:=((d.eM d.i.n.toNat (d.bW.get d.n).2.2.2.2).aV (t.put d.i.a (d.bW.get d.n).1))) (dp ht) hRg (by decide)
   refine J 3 ?_
   refine .c call114 rfl (kp (d:=((d.eM d.i.n.toNat (d.bW.get d.n).2.2.2.2).aV (t.put d.i.a (d.bW.get d.n).1)).pass d.i.n (d.bW.get d.n).1 0) hlv.1 hq hu hw16 hRu (Nat.le_trans hk.ends (by decide)) (Nat.le_trans hk.AY (by decide))) fun _ _=>?_
   refine J 1 ?_
   rw[show d.get=(((d.eM d.i.n.toNat (d.bW.get d.n).2.2.2.2).aV (t.put d.i.a (d.bW.get d.n).1)).pass d.i.n (d.bW.get d.n).1 0).ck (d.bW.get d.n).2.2.1.toNat 0 from by unfold Dng.get;simp only;rw[if_neg (by simpa using h31),if_pos h66,show(d.eM d.i.n.toNat (d.bW.get d.n).2.2.2.2).t=t from dj ht]]
   exact JR 0 ()
  ·refine J 1 ?_
   rw[show d.get=((d.eM d.i.n.toNat (d.bW.get d.n).2.2.2.2).aV (t.put d.i.a (d.bW.get d.n).1)).pass d.i.n (d.bW.get d.n).1 0 from by unfold Dng.get;simp only;rw[if_neg (by simpa using h31),if_neg (by rw[h66];simp),show(d.eM d.i.n.toNat (d.bW.get d.n).2.2.2.2).t=t from dj ht]]
   exact JR 0 ()
end Go.SLYtpbjdoplfgeliaaGreat
namespace Go.SLYtpbjdoplfgeliaaGreat
open Go Go.RowKit Go.Proofs Go.Proofs.Tryz
attribute [local irreducible] aq aR bf bq bB Y
theorem Fa{W:World}{bd b p:Nat}{ps:List (Option Nat)}{d:Dng}{t:bE}(hp:ps[d.n]?=some (some p))(ht:d.s.aG[d.n]?=some (some t))(hk:iN ps d t):Fn Tryz.prog W 116 [ptr bd] [bo bd b p ps d] (List (Option Nat)) (fun _=>.tuple #[]) (fun _=>True) (fun qs=>[bo bd b p qs d.spawn]):=by
 refine Fn.intro (N:=70) func116 rfl ntmps116 rfl fun F=>?_
 show aq _ _ _ _ _ _ [bo bd b p ps d,F]
 refine .o2 (C:=bo bd b p ps (d)) .auto rfl ?_
 rintro vw ve -
 refine .ja (C:=cE b ps (d).s) .auto rfl ?_
 rintro fv sv pv bt vm bg vt bk bw vr -
 have hnn:=hk.nn
 have hn0:=hk.I.n
 refine .fr .auto (bM hp ht) ?_
 have hIa:=hk.I.a
 have hRl:=hk.R.l
 have hlt:=hk.lt
 refine J 1 ?_
 refine .draw [arr bd 0 (ed b p d vw ve)] [0,0,0,0,0,0,0,0,0,0,1,2,3,1,1,1,1,1] rfl (by kernel_rfl) ?_
 refine J 9 ?_
 refine .q (.jj underlying92 underlying3 rfl (by omega)) ?_
 refine J 1 ?_
 refine .c2 call162 rfl (Ix ht hk.I.b) fun _ _=>?_
 refine .to (A:=ay ps d.s.aG) (Bs:=[arr p 0 (bc t),ay (ps.set d.n none) (d.s.aG.set d.n none)]) .auto (bI hp ht) ?_
 refine .d3 rfl (af.eH rfl call71 rfl (uo hk.T hk.lt hk.free) .auto) ?_
 rintro _ _ ⟨qs,⟨q,hqs⟩,rfl,rfl⟩
 refine J 1 ?_
 refine .p (.extract (v:=.int .i64 (d.s.begin d.i.n d.b).1) rfl rfl) ?_
 refine .p (.extract (v:=.int .i64 (d.s.begin d.i.n d.b).2.1) rfl rfl) ?_
 refine JD 16 (fun h22=>?_) fun h22=>?_
 ·obtain⟨n,hfr⟩:∃ n,slotFree? d.s.table 0=some n:=by
   cases hh:slotFree? d.s.table 0 with
   | none=>rw[j4 hh] at h22;cases h22
   | some n=>exact⟨n,rfl⟩
  have hb1:(d.s.begin d.i.n d.b).1=(n:Int):=by rw[eX hfr]
  have hn0e:=hk.free n hfr
  have hn16:n<16:=hlt ▸ (List.getElem?_eq_some_iff.1 hn0e).1
  obtain⟨t1,ht1,ht1e⟩:=wm (f:=d.i.n) (arg:=d.b) hfr (by omega)
  have hqn:qs[n]?=some (some q):=by
   rw[hqs];unfold mW;rw[hfr];exact List.getElem?_set_self (by rw[hk.lp];exact hn16)
  have hne:n≠d.n:=fun e=>by rw[e,ht] at hn0e;cases hn0e
  have hp2:qs[d.n]?=some (some p):=by
   rw[hqs];unfold mW;rw[hfr];exact(List.getElem?_set_ne hne).trans hp
  have ht2:(d.s.begin d.i.n d.b).2.2.aG[d.n]?=some (some t):=by
   rw[eX hfr];exact(List.getElem?_set_ne hne).trans ht
  rw[hb1]
  refine J 2 ?_
  refine .ja (C:=cE b qs (d.s.begin d.i.n d.b).2.2) .auto rfl ?_
  rintro fv sv pv bt vm bg vt bk bw vr -
  refine .fr .auto (bM hqn ht1) ?_
  refine J 7 ?_
  refine .p (.dH n underlying120 sizeOf119 rfl rfl rfl hn16) ?_
  refine .p (.ld rfl (Cell.a (by rw[Nat.mul_one,eJ hn16,bA hqn]))) ?_
  refine J 14 ?_
  refine .ai rfl (af.gF 3 rfl rfl (by kernel_rfl)) ?_
  rintro _ _ ⟨b42,rfl,rfl⟩
  refine .ai rfl (af.fJ (enc:=av) (k:=1) (n:Int) rfl underlying50 underlying50 typeInfo3 rfl rfl rfl (by decide) rfl rfl rfl .auto rfl .auto (by have:=hk.AY;omega) rfl) ?_
  rintro _ _ ⟨v43,rfl,rfl⟩
  refine J 3 ?_
  refine .ai rfl (af.l9 sizeOf50 rfl rfl rfl) ?_
  rintro _ _ ⟨rfl,rfl⟩
  refine J 3 ?_
  refine .to (A:=ay qs (d.s.begin d.i.n d.b).2.2.aG) (Bs:=[arr q 0 (bc t1),ay (qs.set n none) ((d.s.begin d.i.n d.b).2.2.aG.set n none)]) .auto (bI hqn ht1) ?_
  refine .fr .auto (bM hp2 ht2) ?_
  refine .draw [arr bd 0 (ed b p d v43 ve)] [1,1,1,1,1,1,1,1,1,1,1,1,1,1,3] rfl (by kernel_rfl) ?_
  refine J 13 ?_
  refine .p (.dH d.i.a.toNat underlying131 sizeOf92 rfl rfl (by omega) (by omega)) ?_
  refine .d3 rfl (af.st sizeOf92 rfl rfl rfl (Nat.blt_eq.mpr (by show 2+d.i.a.toNat * 1<18;omega))) ?_
  rintro _ _ ⟨rfl,rfl⟩
  rw[jw _ (by omega) (by omega) hRl]
  refine .to (A:=ay qs ((d.s.begin d.i.n d.b).2.2.aG.set d.n (some (t.put d.i.a t1.handle)))) (Bs:=[arr p 0 (bc (t.put d.i.a t1.handle)),ay (qs.set d.n none) ((d.s.begin d.i.n d.b).2.2.aG.set d.n none)]) .auto (cA (List.getElem?_eq_some_iff.1 ht2).1 hp2) ?_
  refine J 11 ?_
  refine .c call117 rfl (ct (d:=({d with s:=(d.s.begin d.i.n d.b).2.2,out:={d.out with ar:=d.out.ar++[(n:Int)] } }:Dng).aV (t.put d.i.a t1.handle)) (ps:=qs) (p:=p) (t:=t.put d.i.a t1.handle) hp2 (dp ht2) (by show(d.s.begin d.i.n d.b).2.2.au.length≤_;rw[eX hfr];exact(Nat.le_trans hk.au (by decide))) (by rw[h22];decide) (by rw[jL];exact hRl)) fun _ _=>?_
  refine J 1 ?_
  rw[show d.spawn=(({d with s:=(d.s.begin d.i.n d.b).2.2,out:={d.out with ar:=d.out.ar++[(n:Int)] } }:Dng).aV (t.put d.i.a t1.handle)).pass d.i.n t1.handle (d.s.begin d.i.n d.b).2.1 from by unfold Dng.spawn;simp only;rw[if_pos h22,if_pos h22,hb1,Int.toNat_natCast,dQ ht1,show({d with s:=(d.s.begin d.i.n d.b).2.2,out:={d.out with ar:=d.out.ar++[(n:Int)] } }:Dng).t=t from dQ ht2]]
  exact JR 0 qs
 ·have hfr:slotFree? d.s.table 0=none:=by
   cases hh:slotFree? d.s.table 0 with
   | none=>rfl
   | some n=>exact absurd (by rw[eX hh]) h22
  have hb:(d.s.begin d.i.n d.b)=(0,2,d.s):=j4 hfr
  obtain rfl:qs=ps:=by rw[hqs];unfold mW;rw[hfr]
  rw[hb]
  have hp2:=hp
  have ht2:=ht
  refine .to (A:=cE b qs d.s) (Bs:=[cE b qs d.s]) .auto (fun h a=>by simpa only[seps,aJ] using a) ?_
  refine .ja (C:=cE b qs d.s) .auto rfl ?_
  rintro fv sv pv bt vm bg vt bk bw vr -
  refine .fr .auto (bM hp2 ht2) ?_
  refine J 3 ?_
  refine .draw [arr bd 0 (ed b p d vw ve)] [1,1,1,1,1,1,1,1,1,1,1,1,1,1,3] rfl (by kernel_rfl) ?_
  refine J 13 ?_
  refine .p (.dH d.i.a.toNat underlying131 sizeOf92 rfl rfl (by omega) (by omega)) ?_
  refine .d3 rfl (af.st sizeOf92 rfl rfl rfl (Nat.blt_eq.mpr (by show 2+d.i.a.toNat * 1<18;omega))) ?_
  rintro _ _ ⟨rfl,rfl⟩
  rw[jw _ (by omega) (by omega) hRl]
  refine .to (A:=ay qs (d.s.aG.set d.n (some (t.put d.i.a 0)))) (Bs:=[arr p 0 (bc (t.put d.i.a 0)),ay (qs.set d.n none) (d.s.aG.set d.n none)]) .auto (cA (List.getElem?_eq_some_iff.1 ht2).1 hp2) ?_
  refine J 11 ?_
  refine .c call117 rfl (ct (d:=d.aV (t.put d.i.a 0)) (ps:=qs) (p:=p) (t:=t.put d.i.a 0) (e:=2) hp2 (dp ht2) (Nat.le_trans hk.au (by decide)) (by decide) (by rw[jL];exact hRl)) fun _ _=>?_
  refine J 1 ?_
  rw[show d.spawn=(d.aV (t.put d.i.a 0)).pass d.i.n 0 2 from by unfold Dng.spawn;rw[hb];simp only;rw[if_neg (by decide),if_neg (by decide),dj ht]]
  exact JR 0 qs
theorem Cf{W:World}{bd b p:Nat}{ps:List (Option Nat)}{d:Dng}{t:bE}(hp:ps[d.n]?=some (some p))(ht:d.s.aG[d.n]?=some (some t))(hk:iN ps d t):Fn Tryz.prog W 125 [ptr bd] [bo bd b p ps d] Unit (fun _=>.tuple #[]) (fun _=>True) (fun _=>[bo bd b p ps (d.kernel)]):=by
 refine Fn.intro (N:=42) func125 rfl ntmps125 rfl fun F=>?_
 show aq _ _ _ _ _ _ [bo bd b p ps d,F]
 refine .o2 (C:=bo bd b p ps (d)) .auto rfl ?_
 rintro vw ve -
 have ha0:0≤d.a:=by
  unfold Dng.a;rw[dj ht];exact(hk.R.r _).1
 have hb0:0≤d.b:=by
  unfold Dng.b;rw[dj ht];exact(hk.R.r _).1
 refine JD 16 (fun h11=>?_) fun h11=>?_
 ·refine .ja (C:=cE b ps (d).s) .auto rfl ?_
  rintro fv sv pv bt vm bg vt bk bw vr -
  refine .fr .auto (bM hp ht) ?_
  refine .draw [arr bd 0 (ed b p d vw ve)] [0,1,2,0,0,0,0,0,3] rfl (by kernel_rfl) ?_
  refine J 2 ?_
  refine .c2 call162 rfl (Ix ht hk.I.b) fun _ _=>?_
  refine J 5 ?_
  refine .to (A:=ay ps d.s.aG) (Bs:=[arr p 0 (bc t),ay (ps.set d.n none) (d.s.aG.set d.n none)]) .auto (bI hp ht) ?_
  refine .c call175 rfl (Ds hp ht hk hb0) fun _ _=>?_
  refine J 2 ?_
  rw[show d.kernel=d.ask d.b 0 d.i.a from by unfold Dng.kernel;repeat (first | rw[if_neg (by omega)] | rw[if_pos (by omega)])]
  exact JR 0 ()
 ·refine JD 6 (fun h22=>?_) fun h22=>?_
  ·refine J 3 ?_
   refine .c call120 rfl (w9 hp ht hk.I.a) fun _ _=>?_
   refine J 1 ?_
   refine .c call162 rfl (KP hp ht hk.I.b) fun _ _=>?_
   refine .c call175 rfl (Ds hp ht hk ha0) fun _ _=>?_
   refine J 2 ?_
   rw[show d.kernel=d.ask d.a d.b (-1) from by unfold Dng.kernel;repeat (first | rw[if_neg (by omega)] | rw[if_pos (by omega)])]
   exact JR 0 ()
  ·refine JD 6 (fun h30=>?_) fun h30=>?_
   ·refine J 2 ?_
    refine .c call176 rfl (Km hp ht hk (.inl h30)) fun _ _=>?_
    refine J 2 ?_
    rw[show d.kernel=d.put from by unfold Dng.kernel;repeat (first | rw[if_neg (by omega)] | rw[if_pos (by omega)])]
    exact JR 0 ()
   ·refine JD 6 (fun h34=>?_) fun h34=>?_
    ·refine J 2 ?_
     refine .c call177 rfl (Kn hp ht hk (.inr h34)) fun _ _=>?_
     refine J 2 ?_
     rw[show d.kernel=d.get from by unfold Dng.kernel;repeat (first | rw[if_neg (by omega)] | rw[if_pos (by omega)])]
     exact JR 0 ()
    ·refine JD 6 (fun h38=>?_) fun h38=>?_
     ·refine J 2 ?_
      refine .c call178 rfl (E9 hp ht hk) fun _ _=>?_
      refine J 2 ?_
      rw[show d.kernel=d.sleep from by unfold Dng.kernel;repeat (first | rw[if_neg (by omega)] | rw[if_pos (by omega)])]
      exact JR 0 ()
     ·refine J 3 ?_
      refine .c call120 rfl (w9 hp ht hk.I.a) fun _ _=>?_
      refine .c call117 rfl (ct hp ht (Nat.le_trans hk.au (by decide)) (by decide) hk.R.l) fun _ _=>?_
      refine J 2 ?_
      rw[show d.kernel=d.pass d.a 0 0 from by unfold Dng.kernel;repeat (first | rw[if_neg (by omega)] | rw[if_pos (by omega)])]
      exact JR 0 ()
end Go.SLYtpbjdoplfgeliaaGreat
namespace Go.SLYtpbjdoplfgeliaaGreat
open Go Go.RowKit Go.Proofs Go.Proofs.Tryz
attribute [local irreducible] aq aR bf bq bB Y
theorem xg{W:World}{bd b p:Nat}{ps:List (Option Nat)}{d:Dng}{l:List Int}{u:Value}(hl:∀ w∈l,0≤w∧bN ps d.s w.toNat)(hw:∀ w∈d.waits,0≤w∧bN ps d.s w.toNat)(hm:d.s.eW.bu≤(d.s.al.dn.length:Int))(hgm:d.s.al.dn.length≤1000000)(hmw:∀ x∈d.s.al.dn,x.wait.length≤1000000)(hb:d.ends.length+l.length≤1000000∧d.out.ar.length+l.length≤1000000):Fn Tryz.prog W 123 [ptr bd,u] [bo bd b p ps d,sl av 1 u l] Unit (fun _=>.tuple #[]) (fun _=>True) (fun _=>[bo bd b p ps (d.lL l),sl av 1 u l]):=by
 refine Fn.intro (N:=57) func123 rfl ntmps123 rfl fun F=>?_
 show aq _ _ _ _ _ _ [bo bd b p ps d,sl av 1 u l,F]
 refine .o2 (C:=bo bd b p ps d) .auto rfl ?_
 rintro vw ve -
 refine .ja (C:=cE b ps d.s) .auto rfl ?_
 rintro fv sv pv bt vm bg vt bk bw vr -
 have hww:eC d d.s.eW.bu.toNat=d.waits:=rfl
 refine J 15 ?_
 refine .bm (X:=Nat) [4,6,17,18,19,20,21,22,23,24,25,26,27,28,29,30,31,32,33,34,35,36,37,38,39,40,41,42,43,44,45,46] (fun k=>d.s.eW.bu.toNat-k) (fun k=>k≤d.s.eW.bu.toNat) (fun k=>[(17,some (.int .i64 (k:Int)))]) (fun k=>[bo bd b p ps ({d with s:=cO d.s (eC d k) }:Dng),sl av 1 u l,F]) 0 ?_ ?_ ?_ ?_
 ·exact Nat.zero_le _
 ·exact⟨rfl,trivial⟩
 ·exact fun w s=>aw.kept .auto w s
 rintro k hk
 refine JD 6 (fun h18=>?_) fun h18=>?_
 ·refine J 12 ?_
  obtain⟨x,hx⟩:=ak (show k<d.s.al.dn.length by omega)
  refine .o2 (C:=bo bd b p ps (({d with s:=cO d.s (eC d k) }:Dng))) .auto rfl ?_
  rintro vw ve -
  refine .ja (C:=cE b ps (({d with s:=cO d.s (eC d k) }:Dng)).s) .auto rfl ?_
  rintro fv sv pv bt vm bg vt bk bw vr -
  refine J 8 ?_
  have hxg:(cO d.s (eC d k)).al.dn[k]?=some x:=by rw[yb];exact hx
  have hxl:=hmw x (List.mem_of_getElem? hx)
  refine .c call172 rfl (vE hxg hxl) fun u28 _=>?_
  refine J 5 ?_
  refine .bm (X:=Nat) [6,30,31,32,33,34,35,36,37,38,39,40,41,42,43,44,45] (fun j=>(x.wait.map (·.who)).length-j) (fun j=>j≤(x.wait.map (·.who)).length) (fun j=>[(30,some (.int .i64 (j:Int)))]) (fun j=>[bo bd b p ps ({d with s:=cO d.s (eC d k++(x.wait.map (·.who)).take j) }:Dng),sl av 1 u28 (x.wait.map (·.who)),sl av 1 u l,F]) 0 ?_ ?_ ?_ ?_
  ·exact Nat.zero_le _
  ·exact⟨rfl,trivial⟩
  ·rw[List.take_zero,List.append_nil];exact fun w s=>aw.kept .auto w s
  rintro j hj
  refine JD 6 (fun h31=>?_) fun h31=>?_
  ·refine J 6 ?_
   have hxl2:(x.wait.map (·.who)).length≤1000000:=by rw[List.length_map];exact hxl
   obtain⟨w,hwj⟩:=ak (show j<(x.wait.map (·.who)).length by omega)
   have hwm:w∈d.waits:=List.mem_flatMap.2 ⟨x,List.mem_of_getElem? (i:=k) (by rw[List.getElem?_take_of_lt (by omega)];exact hx),List.mem_of_getElem? hwj⟩
   obtain⟨hw0,hwl⟩:=hw w hwm
   obtain⟨hw16,q,v,hq,hv,hRv⟩:=tH w.toNat (eC d k++(x.wait.map (·.who)).take j) hwl
   refine J 6 ?_
   refine .o2 (C:=bo bd b p ps (({d with s:=cO d.s (eC d k++(x.wait.map (·.who)).take j) }:Dng))) .auto rfl ?_
   rintro vw ve -
   refine .ja (C:=cE b ps (({d with s:=cO d.s (eC d k++(x.wait.map (·.who)).take j) }:Dng)).s) .auto rfl ?_
   rintro fv sv pv bt vm bg vt bk bw vr -
   refine .fr .auto (bM hq hv) ?_
   refine J 7 ?_
   refine .p (.dH w.toNat underlying120 sizeOf119 rfl rfl (by omega) hw16) ?_
   refine .p (.ld rfl (Cell.a (by rw[Nat.mul_one,eJ hw16,bA hq]))) ?_
   refine J 3 ?_
   rw[o0]
   refine J 7 ?_
   refine .to (A:=ay ps (({d with s:=cO d.s (eC d k++(x.wait.map (·.who)).take j) }:Dng).s.aG.set w.toNat (some ({v with cQ:=1 })))) (Bs:=[arr q 0 (bc ({v with cQ:=1 })),ay (ps.set w.toNat none) (({d with s:=cO d.s (eC d k++(x.wait.map (·.who)).take j) }:Dng).s.aG.set w.toNat none)]) .auto (cA (List.getElem?_eq_some_iff.1 hv).1 hq) ?_
   refine .aH (j+1) .auto rfl ?_ ?_ ?_ ?_
   ·omega
   ·show j+1≤_;omega
   ·exact⟨rfl,trivial⟩
   ·rw[aU hwj, ← List.append_assoc,Bv _ _ [w],show cO (cO d.s (eC d k++(x.wait.map (·.who)).take j)) [w]=(cO d.s (eC d k++(x.wait.map (·.who)).take j)).aV w.toNat {v with cQ:=1 } from by show Spc.aV _ _ _=_;rw[dQ hv]];exact fun w s=>aw.kept .auto w s
  ·refine J 10 ?_
   rw[List.take_of_length_le (by omega), ← ye hx]
   refine .aH (k+1) .auto rfl ?_ ?_ ?_ ?_
   ·omega
   ·show k+1≤_;omega
   ·exact⟨rfl,trivial⟩
   ·exact fun w s=>aw.kept .auto w s
 ·refine J 13 ?_
  rw[show k=d.s.eW.bu.toNat from by omega,hww]
  refine .bm (X:=Nat) [8,49,50,51,52,53,54,55,56] (fun k=>l.length-k) (fun k=>k≤l.length) (fun k=>[(49,some (.int .i64 (k:Int)))]) (fun k=>[bo bd b p ps (({d with s:=cO d.s d.waits }:Dng).dB (l.take k)),sl av 1 u l,F]) 0 ?_ ?_ ?_ ?_
  ·exact Nat.zero_le _
  ·exact⟨rfl,trivial⟩
  ·exact fun w s=>aw.kept .auto w s
  rintro k hk
  refine JD 6 (fun h50=>?_) fun h50=>?_
  ·refine J 6 ?_
   obtain⟨w,hwj⟩:=ak (show k<l.length by omega)
   have hwl:=hl w (List.mem_of_getElem? hwj)
   obtain⟨hw16,q,v,hq,hv,hRv⟩:=yd w.toNat (l.take k) ({d with s:=cO d.s d.waits }:Dng) (tH _ _ hwl.2) (fun z hz=>tH _ _ (hl z (List.mem_of_mem_take hz)).2)
   have hgl2:=rb ({d with s:=cO d.s d.waits }:Dng) (l.take k)
   rw[List.length_take] at hgl2
   refine J 8 ?_
   refine .c call114 rfl (kp (d:=({d with s:=cO d.s d.waits }:Dng).dB (l.take k)) hwl.1 hq hv hw16 hRv (by show(Dng.dB _ _).ends.length≤_;simp only at hgl2;omega) (by show(Dng.dB _ _).out.ar.length≤_;simp only at hgl2;omega)) fun _ _=>?_
   refine J 7 ?_
   refine .aH (k+1) .auto rfl ?_ ?_ ?_ ?_
   ·omega
   ·show k+1≤_;omega
   ·exact⟨rfl,trivial⟩
   ·rw[aU hwj,yc];exact fun w s=>aw.kept .auto w s
  ·refine J 4 ?_
   rw[show d.lL l=({d with s:=cO d.s d.waits }:Dng).dB (l.take k) from by rw[List.take_of_length_le (by omega)];rfl]
   exact JR 0 ()
theorem Iy{W:World}{bd b p:Nat}{ps:List (Option Nat)}{d:Dng}{t:bE}(hp:ps[d.n]?=some (some p))(ht:d.s.aG[d.n]?=some (some t))(hk:iN ps d t):Fn Tryz.prog W 78 [ptr bd] [bo bd b p ps d] (List (Option Nat)) (fun _=>.tuple #[]) (fun _=>True) (fun qs=>[bo bd b p qs d.call]):=by
 refine Fn.intro (N:=124) func78 rfl ntmps78 rfl fun F=>?_
 show aq _ _ _ _ _ _ [bo bd b p ps d,F]
 refine .o2 (C:=bo bd b p ps (d)) .auto rfl ?_
 rintro vw ve -
 have hnn:=hk.nn
 have hn0:=hk.I.n
 have hIa:=hk.I.a
 have hRl:=hk.R.l
 refine JD 16 (fun h11=>?_) fun h11=>?_
 ·refine J 2 ?_
  refine .c call116 rfl (Fa hp ht hk) fun qs _=>?_
  refine J 2 ?_
  rw[show d.call=d.spawn from by unfold Dng.call;repeat (first | rw[if_neg (by omega)] | rw[if_pos (by omega)])]
  exact JR 0 qs
 ·refine JD 6 (fun h15=>?_) fun h15=>?_
  ·refine J 1 ?_
   refine .ja (C:=cE b ps (d).s) .auto rfl ?_
   rintro fv sv pv bt vm bg vt bk bw vr -
   refine .fr .auto (bM hp ht) ?_
   refine .draw [arr bd 0 (ed b p d vw ve)] [1,1,1,1,1,1,1,1,1,1,1,1,1,1,1,1,1,1,1,1,3] rfl (by kernel_rfl) ?_
   refine J 19 ?_
   refine .p (.dH d.i.a.toNat underlying131 sizeOf92 rfl rfl (by omega) (by omega)) ?_
   refine .d3 rfl (af.st sizeOf92 rfl rfl rfl (Nat.blt_eq.mpr (by show 2+d.i.a.toNat * 1<18;omega))) ?_
   rintro _ _ ⟨rfl,rfl⟩
   rw[jw _ (by omega) (by omega) hRl]
   refine J 10 ?_
   refine .p (.ld rfl (Cell.a (cs:=bc (t.put d.i.a t.handle)) rfl)) ?_
   refine .to (A:=ay ps (d.s.aG.set d.n (some (t.put d.i.a t.handle)))) (Bs:=[arr p 0 (bc (t.put d.i.a t.handle)),ay (ps.set d.n none) (d.s.aG.set d.n none)]) .auto (cA (List.getElem?_eq_some_iff.1 ht).1 hp) ?_
   refine .c call117 rfl (ct (d:=d.aV (t.put d.i.a t.handle)) (t:=t.put d.i.a t.handle) hp (dp ht) (Nat.le_trans hk.au (by decide)) (by decide) (by rw[jL];exact hRl)) fun _ _=>?_
   refine J 2 ?_
   rw[show d.call=(d.aV (t.put d.i.a t.handle)).pass 0 t.handle 0 from by unfold Dng.call;rw[if_neg h11,if_pos h15,dj ht]]
   exact JR 0 ps
  ·refine JD 6 (fun h46=>?_) fun h46=>?_
   ·refine J 3 ?_
    refine .c call117 rfl (ct hp ht (Nat.le_trans hk.au (by decide)) (by decide) hk.R.l) fun _ _=>?_
    refine J 3 ?_
    refine .o2 (C:=bo bd b p ps (d.pass 0 0 0)) .auto rfl ?_
    rintro vw ve -
    refine J 5 ?_
    rw[Jz]
    refine J 2 ?_
    rw[show d.call = {d.pass 0 0 0 with out:={d.out with yielded:=true } } from by unfold Dng.call;repeat (first | rw[if_neg (by omega)] | rw[if_pos (by omega)])]
    exact JR 0 ps
   ·refine JD 6 (fun h54=>?_) fun h54=>?_
    ·refine J 2 ?_
     refine .c call118 rfl (Iw hp ht hk) fun qs _=>?_
     refine J 2 ?_
     rw[show d.call=d.join from by unfold Dng.call;repeat (first | rw[if_neg (by omega)] | rw[if_pos (by omega)])]
     exact JR 0 qs
    ·refine JD 6 (fun h58=>?_) fun h58=>?_
     ·refine J 2 ?_
      refine .c call119 rfl (Ce hp ht hk) fun qs _=>?_
      refine J 2 ?_
      rw[show d.call=d.fT from by unfold Dng.call;repeat (first | rw[if_neg (by omega)] | rw[if_pos (by omega)])]
      exact JR 0 qs
     ·refine JD 6 (fun h62=>?_) fun h62=>?_
      ·refine J 4 ?_
       refine .c call120 rfl (w9 hp ht hk.I.a) fun _ _=>?_
       refine .c call74 rfl (jz hp ht (Nat.le_trans hk.au (by decide))) fun _ _=>?_
       refine J 5 ?_
       refine .c call120 rfl (w9 (d:=d.tell d.a 0 0 true) hp ht hk.I.a) fun _ _=>?_
       rw[show(d.tell d.a 0 0 true).a=d.a from rfl]
       refine .c call75 rfl (sr (d:=d.tell d.a 0 0 true) hp ht hk.lt hk.lp hk.T hk.R (Nat.le_trans hk.ends (by decide)) (Nat.le_trans hk.AY (by decide)) hk.join) fun qs _=>?_
       refine J 2 ?_
       rw[show d.call=(d.tell d.a 0 0 true).fin d.a from by unfold Dng.call;repeat (first | rw[if_neg (by omega)] | rw[if_pos (by omega)])]
       exact JR 0 qs
      ·refine JD 7 (fun h72=>?_) fun h72=>?_
       ·refine J 2 ?_
        first | refine aq.dY rfl (fun _=>?_) (fun hc=>absurd h72 hc) | refine aq.cond rfl (fun _=>?_) (fun hc=>by rw[h72] at hc;cases hc)
        refine J 2 ?_
        refine .c call121 rfl (qE hp ht hk) fun _ _=>?_
        refine J 2 ?_
        rw[show d.call=d.mutex from by unfold Dng.call;repeat (first | rw[if_neg (by omega)] | rw[if_pos (by omega)])]
        exact JR 0 ps
       ·refine JD 6 (fun h72=>?_) fun h72=>?_
        ·refine J 2 ?_
         first | refine aq.dY rfl (fun _=>?_) (fun hc=>absurd h72 hc) | refine aq.cond rfl (fun _=>?_) (fun hc=>by rw[h72] at hc;cases hc)
         refine J 2 ?_
         refine .c call121 rfl (qE hp ht hk) fun _ _=>?_
         refine J 2 ?_
         rw[show d.call=d.mutex from by unfold Dng.call;repeat (first | rw[if_neg (by omega)] | rw[if_pos (by omega)])]
         exact JR 0 ps
        ·refine JD 5 (fun h72c=>?_) fun h72c=>?_
         ·refine J 2 ?_
          refine .c call121 rfl (qE hp ht hk) fun _ _=>?_
          refine J 2 ?_
          rw[show d.call=d.mutex from by unfold Dng.call;repeat (first | rw[if_neg (by omega)] | rw[if_pos (by omega)])]
          exact JR 0 ps
         ·refine JD 7 (fun h78=>?_) fun h78=>?_
          ·refine J 2 ?_
           first | refine aq.dY rfl (fun _=>?_) (fun hc=>absurd h78 hc) | refine aq.cond rfl (fun _=>?_) (fun hc=>by rw[h78] at hc;cases hc)
           refine J 1 ?_
           refine .ja (C:=cE b ps (d).s) .auto rfl ?_
           rintro fv sv pv bt vm bg vt bk bw vr -
           refine .draw [arr bd 0 (ed b p d vw ve),arr b 0 (fo fv sv pv d.s.eW bt ps vm bg vt bk bw vr)] [1,1,1,1,1,1,1,1,1,1,1,1,1,1,1,1,1,1,1,1,1,1,1,3,1,1,1,1,1] rfl (by kernel_rfl) ?_
           refine J 12 ?_
           refine .p (.jj underlying92 underlying3 rfl (by omega)) ?_
           refine J 10 ?_
           refine .c call122 rfl (ry hk.gl hk.JF) fun u105 _=>?_
           refine J 1 ?_
           refine .p (.extract (v:=u105) rfl rfl) ?_
           refine .p (.extract (v:=.int .i64 (d.s.al.signal d.i.n d.choice (decide (d.i.op=29))).2.1) rfl rfl) ?_
           refine J 13 ?_
           refine .c call117 rfl (ct (d:=(d.bC (d.s.al.signal d.i.n d.choice (decide (d.i.op=29))).2.2)) hp ht (Nat.le_trans hk.au (by decide)) ic hk.R.l) fun _ _=>?_
           have sigw:∀ w∈((d.bC (d.s.al.signal d.i.n d.choice (decide (d.i.op=29))).2.2).pass d.i.n 0 (d.s.al.signal d.i.n d.choice (decide (d.i.op=29))).2.1).waits,d.s.al.has w:=fun w h=>by
            obtain⟨x,hx,hw⟩:=List.mem_flatMap.1 h
            obtain⟨y,hy,rfl⟩:=List.mem_map.1 hw
            exact(kV hk.BG.1 hk.BG.2 x (List.mem_of_mem_take hx)).2 y hy
           refine J 5 ?_
           refine .c call123 rfl (xg (d:=((d.bC (d.s.al.signal d.i.n d.choice (decide (d.i.op=29))).2.2).pass d.i.n 0 (d.s.al.signal d.i.n d.choice (decide (d.i.op=29))).2.1)) (l:=(d.s.al.signal d.i.n d.choice (decide (d.i.op=29))).1) (fun w h=>⟨(hk.iR w (kU w h)).1,((hk.iR w (kU w h)).2.of (s':=(d.bC (d.s.al.signal d.i.n d.choice (decide (d.i.op=29))).2.2).s) rfl).pass (d:=(d.bC (d.s.al.signal d.i.n d.choice (decide (d.i.op=29))).2.2)) ht hk.R ic⟩) (fun w h=>⟨(hk.iR w (sigw w h)).1,((hk.iR w (sigw w h)).2.of (s':=(d.bC (d.s.al.signal d.i.n d.choice (decide (d.i.op=29))).2.2).s) rfl).pass (d:=(d.bC (d.s.al.signal d.i.n d.choice (decide (d.i.op=29))).2.2)) ht hk.R ic⟩) (by show d.s.eW.bu≤((d.s.al.signal d.i.n d.choice (decide (d.i.op=29))).2.2.dn.length:Int);rw[jN];exact hk.JG) (by show((d.s.al.signal d.i.n d.choice (decide (d.i.op=29))).2.2.dn.length)≤_;rw[jN];exact hk.gl.m) (fun x h=>(kV hk.BG.1 hk.BG.2 x h).1) (by have:=nX (c:=d.i.n) (ch:=d.choice) (all:=decide (d.i.op=29)) hk.BG.2;have:=hk.ends;have:=hk.AY;exact⟨by show d.ends.length+_≤_;omega,by show d.out.ar.length+_≤_;omega⟩)) fun _ _=>?_
           refine J 2 ?_
           rw[show d.call=((d.bC (d.s.al.signal d.i.n d.choice (decide (d.i.op=29))).2.2).pass d.i.n 0 (d.s.al.signal d.i.n d.choice (decide (d.i.op=29))).2.1).lL (d.s.al.signal d.i.n d.choice (decide (d.i.op=29))).1 from by unfold Dng.call;repeat (first | rw[if_neg (by omega)] | rw[if_pos (by omega)])]
           exact JR 0 ps
          ·refine JD 5 (fun h78=>?_) fun h78=>?_
           ·refine J 1 ?_
            refine .ja (C:=cE b ps (d).s) .auto rfl ?_
            rintro fv sv pv bt vm bg vt bk bw vr -
            refine .draw [arr bd 0 (ed b p d vw ve),arr b 0 (fo fv sv pv d.s.eW bt ps vm bg vt bk bw vr)] [1,1,1,1,1,1,1,1,1,1,1,1,1,1,1,1,1,1,1,1,1,1,1,3,1,1,1,1,1] rfl (by kernel_rfl) ?_
            refine J 12 ?_
            refine .p (.jj underlying92 underlying3 rfl (by omega)) ?_
            refine J 10 ?_
            refine .c call122 rfl (ry hk.gl hk.JF) fun u105 _=>?_
            refine J 1 ?_
            refine .p (.extract (v:=u105) rfl rfl) ?_
            refine .p (.extract (v:=.int .i64 (d.s.al.signal d.i.n d.choice (decide (d.i.op=29))).2.1) rfl rfl) ?_
            refine J 13 ?_
            refine .c call117 rfl (ct (d:=(d.bC (d.s.al.signal d.i.n d.choice (decide (d.i.op=29))).2.2)) hp ht (Nat.le_trans hk.au (by decide)) ic hk.R.l) fun _ _=>?_
            have sigw:∀ w∈((d.bC (d.s.al.signal d.i.n d.choice (decide (d.i.op=29))).2.2).pass d.i.n 0 (d.s.al.signal d.i.n d.choice (decide (d.i.op=29))).2.1).waits,d.s.al.has w:=fun w h=>by
             obtain⟨x,hx,hw⟩:=List.mem_flatMap.1 h
             obtain⟨y,hy,rfl⟩:=List.mem_map.1 hw
             exact(kV hk.BG.1 hk.BG.2 x (List.mem_of_mem_take hx)).2 y hy
            refine J 5 ?_
            refine .c call123 rfl (xg (d:=((d.bC (d.s.al.signal d.i.n d.choice (decide (d.i.op=29))).2.2).pass d.i.n 0 (d.s.al.signal d.i.n d.choice (decide (d.i.op=29))).2.1)) (l:=(d.s.al.signal d.i.n d.choice (decide (d.i.op=29))).1) (fun w h=>⟨(hk.iR w (kU w h)).1,((hk.iR w (kU w h)).2.of (s':=(d.bC (d.s.al.signal d.i.n d.choice (decide (d.i.op=29))).2.2).s) rfl).pass (d:=(d.bC (d.s.al.signal d.i.n d.choice (decide (d.i.op=29))).2.2)) ht hk.R ic⟩) (fun w h=>⟨(hk.iR w (sigw w h)).1,((hk.iR w (sigw w h)).2.of (s':=(d.bC (d.s.al.signal d.i.n d.choice (decide (d.i.op=29))).2.2).s) rfl).pass (d:=(d.bC (d.s.al.signal d.i.n d.choice (decide (d.i.op=29))).2.2)) ht hk.R ic⟩) (by show d.s.eW.bu≤((d.s.al.signal d.i.n d.choice (decide (d.i.op=29))).2.2.dn.length:Int);rw[jN];exact hk.JG) (by show((d.s.al.signal d.i.n d.choice (decide (d.i.op=29))).2.2.dn.length)≤_;rw[jN];exact hk.gl.m) (fun x h=>(kV hk.BG.1 hk.BG.2 x h).1) (by have:=nX (c:=d.i.n) (ch:=d.choice) (all:=decide (d.i.op=29)) hk.BG.2;have:=hk.ends;have:=hk.AY;exact⟨by show d.ends.length+_≤_;omega,by show d.out.ar.length+_≤_;omega⟩)) fun _ _=>?_
            refine J 2 ?_
            rw[show d.call=((d.bC (d.s.al.signal d.i.n d.choice (decide (d.i.op=29))).2.2).pass d.i.n 0 (d.s.al.signal d.i.n d.choice (decide (d.i.op=29))).2.1).lL (d.s.al.signal d.i.n d.choice (decide (d.i.op=29))).1 from by unfold Dng.call;repeat (first | rw[if_neg (by omega)] | rw[if_pos (by omega)])]
            exact JR 0 ps
           ·refine JD 7 (fun h119=>?_) fun h119=>?_
            ·refine J 2 ?_
             first | refine aq.dY rfl (fun _=>?_) (fun hc=>absurd h119 hc) | refine aq.cond rfl (fun _=>?_) (fun hc=>by rw[h119] at hc;cases hc)
             refine J 2 ?_
             refine .c call124 rfl (Dt hp ht hk) fun _ _=>?_
             refine J 2 ?_
             rw[show d.call=d.et from by unfold Dng.call;repeat (first | rw[if_neg (by omega)] | rw[if_pos (by omega)])]
             exact JR 0 ps
            ·refine JD 5 (fun h119=>?_) fun h119=>?_
             ·refine J 2 ?_
              refine .c call124 rfl (Dt hp ht hk) fun _ _=>?_
              refine J 2 ?_
              rw[show d.call=d.et from by unfold Dng.call;repeat (first | rw[if_neg (by omega)] | rw[if_pos (by omega)])]
              exact JR 0 ps
             ·refine J 2 ?_
              refine .c call125 rfl (Cf hp ht hk) fun _ _=>?_
              refine J 2 ?_
              rw[show d.call=d.kernel from by unfold Dng.call;repeat (first | rw[if_neg (by omega)] | rw[if_pos (by omega)])]
              exact JR 0 ps
end Go.SLYtpbjdoplfgeliaaGreat
namespace Go.SLYtpbjdoplfgeliaaGreat
open Go Go.RowKit Go.Proofs Go.Proofs.Tryz
attribute [local irreducible] aq aR bf bq bB Y
theorem uE{W:World}{fv c1 c2 c3 c4 c5 c6 c7:Value}{p:fc}{f:iP}(hl:p.funcs.length≤1000000)(hl2:∀ g∈p.funcs,g.length≤256):Fn Tryz.prog W 73 [.agg #[fv,c1,c2,c3,c4,c5,c6,c7],.agg (iM f).toArray] [zg fv p.funcs] Unit (fun _=>KI (dV p f)) (fun _=>True) (fun _=>[zg fv p.funcs]) :=
 Fn.NR fun fs hfs=>B8 (A:=seps [sl ek 1 fv fs,aF (fun x=>sl dM 5 x.1 x.2) fs]) (Rd.eO (Rd.sl .here)) (fun x hx=>Rd.eO (xQ (f:=fun x:Value×List Ins=>x.1) (g:=fun x=>x.2) hx (.there .here))) hfs (by rw[← List.length_map (f:=(·.2)),hfs];exact hl) (fun x hx=>Nat.le_trans (hl2 _ (by rw[← hfs];exact List.mem_map_of_mem hx)) (by decide))
theorem uF{W:World}{b:Nat}{s:Spc}{n choice:Int}(hO:gb s):Fn Tryz.prog W 22 [ptr b,.int .i64 n,.int .i64 choice] [bV b s] Value (fun u=>.tuple #[.agg (nU u (s.run n choice).1).toArray,.int .i64 (s.run n choice).2.1]) (fun _=>True) (fun u=>[sl av 1 u (s.run n choice).1.ar,bV b (s.run n choice).2.2]):=by
 refine Fn.intro (N:=76) func22 rfl ntmps22 rfl fun F=>?_
 show aq _ _ _ _ _ _ [bV b s,F]
 refine .o1 (C:=bV b s) .auto rfl ?_
 rintro ps -
 refine .ja (C:=cE b ps s) .auto rfl ?_
 rintro fv sv pv bt vm bg vt bk bw vr -
 refine .cM (fun w st=>st.fact .auto hY) fun hs=>?_
 refine J 2 ?_
 refine .ai rfl (af.alloc rfl zeroValue57 rfl) ?_
 rintro _ _ ⟨b6,rfl,rfl⟩
 refine J 7 ?_
 refine .c call72 rfl yE fun _ _=>?_
 refine JD 12 (fun h15=>?_) fun h15=>?_
 ·have hap:xZ ps n=none:=by
   cases hh:xZ ps n with
   | none=>rfl
   | some p=>rw[hh] at h15;cases h15
  refine J 2 ?_
  refine .p (.lP ([(.slice none 0 0),(.bool false),(.bool false),(.bool false)]) (by kernel_rfl)) ?_
  refine J 7 ?_
  rw[zK (GZ hs hap hO.lt)]
  refine .fg rfl rfl isAgg57 (by exact sizeOf57) Cells.a rfl fun w s=>⟨(.slice none 0 0),?_,trivial,aj .auto s⟩
  rfl
 ·obtain⟨p,hap⟩:∃ p,xZ ps n=some p:=by
   cases hh:xZ ps n with
   | none=>rw[hh] at h15;cases h15
   | some p=>exact⟨p,rfl⟩
  rw[hap]
  obtain⟨k,t,rfl,hk16,hp,ht,hat⟩:=Bw hs hap hO.lt
  have hR:=(hO.R k t ht).1
  have hpc:=(hO.R k t ht).2
  refine J 2 ?_
  refine .ja (C:=cE b ps s) .auto rfl ?_
  rintro fv sv pv bt vm bg vt bk bw vr -
  refine .fr .auto (bM hp ht) ?_
  refine JD 8 (fun h19=>?_) fun h19=>?_
  ·refine J 2 ?_
   refine .p (.lP ([(.slice none 0 0),(.bool false),(.bool false),(.bool false)]) (by kernel_rfl)) ?_
   refine J 7 ?_
   refine .to (A:=ay ps s.aG) (Bs:=[arr p 0 (bc t),ay (ps.set k none) (s.aG.set k none)]) .auto (bI hp ht) ?_
   rw[zL hat h19]
   refine .fg rfl rfl isAgg57 (by exact sizeOf57) Cells.a rfl fun w s=>⟨(.slice none 0 0),?_,trivial,aj .auto s⟩
   rfl
  ·have hw0:t.cQ=0:=Decidable.not_not.mp h19
   refine J 4 ?_
   refine .vN [arr b 0 (fo fv sv pv s.eW bt ps vm bg vt bk bw vr),arr p 0 (bc t)] [0,0,0,0,0,0,0,0,2,0,0,0,4,2,0] [0,1,2,3,4,5,6,7,8,9,10,11,12,13,14] rfl (by kernel_rfl) ?_
   refine bB.q rfl rfl rfl Kept.auto (Y.m rfl) ?_
   refine bB.q rfl rfl rfl Kept.auto (Y.n rfl) ?_
   refine bB.q rfl rfl rfl Kept.auto (Y.gq 52 underlying123 rfl sizeOf52 rfl) ?_
   refine bB.q rfl rfl rfl Kept.auto (Y.FR isAgg52 rfl (Cells.lG (ds:=zN fv sv pv s.eW) (Cells.a (cs:=fo fv sv pv s.eW bt ps vm bg vt bk bw vr)) rfl) (by exact sizeOf52)) ?_
   refine bB.q rfl rfl rfl Kept.auto (Y.m rfl) ?_
   refine bB.q rfl rfl rfl Kept.auto (Y.n rfl) ?_
   refine bB.q rfl rfl rfl Kept.auto (Y.gq 133 underlying135 rfl sizeOf133 rfl) ?_
   refine bB.q rfl rfl rfl Kept.auto (Y.FR isAgg133 rfl (Cells.lG (ds:=iM t.m3) (Cells.a (cs:=bc t)) rfl) (by exact sizeOf133)) ?_
   refine bB.eH rfl (.inl rfl) rfl (fun _=>Kept.auto) call73 rfl (uE (p:=s.eW) (f:=t.m3) hO.zV.1 hO.zV.2) .auto (fun _ _=>Kept.auto) ?_
   rintro⟨⟩ -
   refine bB.q rfl rfl rfl Kept.auto (Y.m rfl) ?_
   refine bB.q rfl rfl rfl Kept.auto (Y.extract (v:=.agg (dM ((dV s.eW t.m3).getD Ins.z)).toArray) rfl rfl) ?_
   refine bB.q rfl rfl rfl Kept.auto (Y.extract (v:=.bool (dV s.eW t.m3).isSome) rfl rfl) ?_
   refine bB.fresh rfl rfl rfl (by decide) Kept.auto (l4 zeroValue94 rfl) ?_
   rintro b9
   refine bB.Lz rfl rfl (by exact sizeOf94) rfl rfl rfl (by rfl) Kept.auto Kept.auto ?_
   refine bB.q rfl rfl rfl Kept.auto (Y.a rfl) ?_
   refine bB.nil ?_
   refine J 8 ?_
   refine .p (.MJ (fun _ _ _ _ _=>ed b p (s.dP k ((dV s.eW t.m3).getD Ins.z) choice) (.slice none 0 0) (.slice none 0 0)) rfl rfl rfl rfl rfl (by kernel_rfl)) ?_
   refine .ai rfl (af.box rfl rfl rfl) ?_
   rintro _ _ ⟨b44,rfl,rfl⟩
   refine JD 12 (fun h56=>?_) fun h56=>?_
   ·have hn:(dV s.eW t.m3)=none:=Option.isNone_iff_eq_none.mp (by simpa using h56)
    refine J 3 ?_
    refine .p (.gJ (fun v1=>[v1,(.int .i64 0),(.int .i64 0),(.int .i64 0),(.int .u64 0)]) rfl (by kernel_rfl)) ?_
    refine J 2 ?_
    refine .ai rfl (af.KF (vs:=dM ⟨23,0,0,0,0⟩) (by exact sizeOf94) rfl rfl rfl rfl) ?_
    rintro _ _ ⟨rfl,rfl⟩
    rw[show setFrom (ed b p (s.dP k ((dV s.eW t.m3).getD Ins.z) choice) (.slice none 0 0) (.slice none 0 0)) 3 (dM ⟨23,0,0,0,0⟩)=ed b p (s.dP k ⟨23,0,0,0,0⟩ choice) (.slice none 0 0) (.slice none 0 0) from rfl]
    refine J 5 ?_
    refine .to (A:=ay ps s.aG) (Bs:=[arr p 0 (bc t),ay (ps.set k none) (s.aG.set k none)]) .auto (bI hp ht) ?_
    refine .c call74 rfl (jz (d:=(s.dP k ⟨23,0,0,0,0⟩ choice)) hp ht (Nat.le_trans hO.au (by decide))) fun _ _=>?_
    refine J 4 ?_
    refine .c call75 rfl (sr (d:=(s.dP k ⟨23,0,0,0,0⟩ choice).tell 0 0 0 true) hp ht hO.lt (hs.1.trans hO.lt) hO.T hR (Nat.zero_le _) (Nat.zero_le _) (hO.KJ hs ht hw0)) fun qs _=>?_
    refine J 6 ?_
    refine .c call79 rfl (ou (d:=(((s.dP k ⟨23,0,0,0,0⟩ choice).tell 0 0 0 true).fin 0)) (Nat.le_trans (gA.trans ke).1 (by have:=hO.au;show s.au.length+_≤_;omega)) (Nat.le_trans (gA.trans ke).2 (by show 0+_≤_;decide))) fun u75 _=>?_
    refine .ai rfl (af.Jy (vs:=[.bool (((s.dP k ⟨23,0,0,0,0⟩ choice).tell 0 0 0 true).fin 0).finish.1.aQ,.bool (((s.dP k ⟨23,0,0,0,0⟩ choice).tell 0 0 0 true).fin 0).finish.1.ended,.bool (((s.dP k ⟨23,0,0,0,0⟩ choice).tell 0 0 0 true).fin 0).finish.1.yielded]) (by exact sizeOf57) rfl rfl rfl rfl) ?_
    rintro _ _ ⟨rfl,rfl⟩
    refine J 4 ?_
    rw[CZ hat h19 hn rfl]
    refine .fg rfl rfl isAgg57 (by exact sizeOf57) Cells.a rfl fun w s=>⟨u75,?_,trivial,aj .auto s⟩
    rfl
   ·obtain⟨i,hn⟩:∃ i,(dV s.eW t.m3)=some i:=Option.isSome_iff_exists.mp (by simpa using h56)
    rw[show((dV s.eW t.m3).getD Ins.z)=i from by rw[hn];rfl]
    obtain⟨hI,hIn,hIt⟩:=wv hO hn
    refine J 4 ?_
    refine .c call76 rfl lq fun _ _=>?_
    refine JD 4 (fun h67=>?_) fun h67=>?_
    ·refine J 2 ?_
     refine .to (A:=ay ps s.aG) (Bs:=[arr p 0 (bc t),ay (ps.set k none) (s.aG.set k none)]) .auto (bI hp ht) ?_
     refine .c call77 rfl (E1 (d:=(s.dP k i choice)) hp ht hI (hR.m3 hpc) h67 hO.mem (Nat.le_trans hO.au (by decide)) hO.lt (hs.1.trans hO.lt) hO.T hR (Nat.zero_le _) (Nat.zero_le _) (hO.KJ hs ht hw0)) fun qs _=>?_
     refine J 6 ?_
     refine .c call79 rfl (ou (d:=(s.dP k i choice).plain) (Nat.le_trans (nY).1 (by have:=hO.au;show s.au.length+_≤_;omega)) (Nat.le_trans (nY).2 (by show 0+_≤_;decide))) fun u75 _=>?_
     refine .ai rfl (af.Jy (vs:=[.bool (s.dP k i choice).plain.finish.1.aQ,.bool (s.dP k i choice).plain.finish.1.ended,.bool (s.dP k i choice).plain.finish.1.yielded]) (by exact sizeOf57) rfl rfl rfl rfl) ?_
     rintro _ _ ⟨rfl,rfl⟩
     refine J 4 ?_
     rw[wx hat h19 hn h67 rfl]
     refine .fg rfl rfl isAgg57 (by exact sizeOf57) Cells.a rfl fun w s=>⟨u75,?_,trivial,aj .auto s⟩
     rfl
    ·refine J 7 ?_
     refine .p (.add rfl rfl (by omega)) ?_
     refine J 4 ?_
     rw[LB]
     refine J 4 ?_
     refine .to (A:=ay ps (s.aG.set k (some ({t with pc:=t.pc+1 })))) (Bs:=[arr p 0 (bc ({t with pc:=t.pc+1 })),ay (ps.set k none) (s.aG.set k none)]) .auto (cA (List.getElem?_eq_some_iff.1 ht).1 hp) ?_
     refine .c call78 rfl (Iy (d:=((s.dP k i choice).aV {t with pc:=t.pc+1 })) hp (dp ht) (hO.call hs ht hw0 hI (hIn h67) hIt)) fun qs _=>?_
     refine J 6 ?_
     refine .c call79 rfl (ou (d:=((s.dP k i choice).aV {t with pc:=t.pc+1 }).call) (Nat.le_trans (qt hO.BG.2).1 (by have:=hO.au;show s.au.length+_≤_;omega)) (Nat.le_trans (qt hO.BG.2).2 (by show 0+_≤_;decide))) fun u75 _=>?_
     refine .ai rfl (af.Jy (vs:=[.bool ((s.dP k i choice).aV {t with pc:=t.pc+1 }).call.finish.1.aQ,.bool ((s.dP k i choice).aV {t with pc:=t.pc+1 }).call.finish.1.ended,.bool ((s.dP k i choice).aV {t with pc:=t.pc+1 }).call.finish.1.yielded]) (by exact sizeOf57) rfl rfl rfl rfl) ?_
     rintro _ _ ⟨rfl,rfl⟩
     refine J 4 ?_
     rw[zM hat h19 hn h67 rfl]
     refine .fg rfl rfl isAgg57 (by exact sizeOf57) Cells.a rfl fun w s=>⟨u75,?_,trivial,aj .auto s⟩
     rfl
end Go.SLYtpbjdoplfgeliaaGreat
namespace Go.SLYtpbjdoplfgeliaaGreat
open Go Go.RowKit Go.Proofs Go.Proofs.Tryz
attribute [local irreducible] aq aR bf bq bB Y
theorem nI{W:World}  : Fn Tryz.prog W 25 [.pointer none] [] Unit (fun _=>(.slice none 0 0)) (fun _=>True) (fun _=>[]):=by
 refine Fn.intro (N:=11) func25 rfl ntmps25 rfl fun F=>?_
 show aq _ _ _ _ _ _ [F]
 refine J 12 ?_
 refine .gw rfl ?_
 exact JR 7 ()
theorem yH{W:World}  : Fn Tryz.prog W 27 [.pointer none] [] Unit (fun _=>(.slice none 0 0)) (fun _=>True) (fun _=>[]):=by
 refine Fn.intro (N:=11) func27 rfl ntmps27 rfl fun F=>?_
 show aq _ _ _ _ _ _ [F]
 refine J 12 ?_
 refine .gw rfl ?_
 exact JR 7 ()
theorem xh{W:World}{b p:Nat}{ps:List (Option Nat)}{pr:fc}{n:Nat}{t:bE}{fv sv pv:Value}{bt:Nat}{vm:Value}{bg:Nat}{vt:Value}{bk bw:Nat}{vr:Value}(hp:ps[n]?=some (some p))(hn16:n<16)(hR:gV t){y:Int}:Fn Tryz.prog W 81 [ptr b,.int .i64 (n:Int),.int .u64 y] [arr b 0 (fo fv sv pv pr bt ps vm bg vt bk bw vr),arr p 0 (bc t)] Unit (fun _=>.agg (cW (t.jS y)).toArray) (fun _=>True) (fun _=>[arr b 0 (fo fv sv pv pr bt ps vm bg vt bk bw vr),arr p 0 (bc (t.fu y))]):=by
 refine Fn.intro (N:=50) func81 rfl ntmps81 rfl fun F=>?_
 show aq _ _ _ _ _ _ [arr b 0 (fo fv sv pv pr bt ps vm bg vt bk bw vr),arr p 0 (bc t),F]
 have hRl:=hR.l
 have hRi:=hR.i
 refine J 2 ?_
 refine .ai rfl (af.alloc rfl zeroValue102 rfl) ?_
 rintro _ _ ⟨b6,rfl,rfl⟩
 refine J 8 ?_
 refine .p (.dH n underlying120 sizeOf119 rfl rfl rfl hn16) ?_
 refine .p (.ld rfl (Cell.a (by rw[Nat.mul_one,eJ hn16,bA hp]))) ?_
 refine J 3 ?_
 refine .FL (X:=Unit) [2,14,15,16,17,18,19,20,21,22,23,24,25,26,27,28] (fun _=>True) (fun _=>[(2,some (.int .u64 (if t.bZ = -1 then 0 else y)))]) (fun _=>[arr p 0 (bc (if t.bZ = -1 then t else t.put t.bZ y)),arr b6 0 [.int .u64 0,.int .i64 0,.int .u64 0,.int .u64 0,.int .i64 0,.bool false],arr b 0 (fo fv sv pv pr bt ps vm bg vt bk bw vr),F]) ?_ ?_
 ·refine JD 9 (fun h18=>?_) fun h18=>?_
  ·refine .draw [arr p 0 (bc t)] [1,1,1,1,1,1,1,1,1,1,3] rfl (by kernel_rfl) ?_
   refine J 9 ?_
   refine .p (.dH t.bZ.toNat underlying131 sizeOf92 rfl rfl (by omega) (by omega)) ?_
   refine .d3 rfl (af.st sizeOf92 rfl rfl rfl (Nat.blt_eq.mpr (by show 2+t.bZ.toNat * 1<18;omega))) ?_
   rintro _ _ ⟨rfl,rfl⟩
   rw[jw y (by omega) (by omega) hRl]
   refine J 1 ?_
   refine .ns () .auto ?_ ?_ ?_
   ·trivial
   ·rw[if_neg (by omega)];exact⟨rfl,trivial⟩
   ·rw[if_neg (by omega)];exact fun w s=>aw.kept .auto w s
  ·refine J 3 ?_
   refine .ns () .auto ?_ ?_ ?_
   ·trivial
   ·rw[if_pos (by omega)];exact⟨rfl,trivial⟩
   ·rw[if_pos (by omega)];exact fun w s=>aw.kept .auto w s
 ·rintro⟨⟩ -
  obtain⟨y1,hy1⟩:∃ y1,y1=(if t.bZ = -1 then 0 else y):=⟨_,rfl⟩
  obtain⟨t1,h1⟩:∃ t1,t1=(if t.bZ = -1 then t else t.put t.bZ y):=⟨_,rfl⟩
  have h1l:t1.aE.length=8:=by
   rw[h1]
   split
   ·exact hRl
   ·rw[jL];exact hRl
  have h1h:t1.handle=t.handle∧t1.op=t.op:=by
   rw[h1]
   split <;> exact⟨rfl,rfl⟩
  rw[← hy1, ← h1]
  refine J 6 ?_
  refine .p (.dH 7 underlying131 sizeOf92 rfl rfl (by omega) (by omega)) ?_
  refine J 1 ?_
  rw[rW (n:=7) 0 (by decide) h1l]
  refine J 9 ?_
  rw[o0]
  refine J 3 ?_
  rw[tz]
  refine J 3 ?_
  refine .draw [arr p 0 (bc {t1.put 7 0 with cQ:=0,bZ := -1 })] [1,1,1,1,1,1,1,1,1,1,3] rfl (by kernel_rfl) ?_
  refine J 9 ?_
  refine .p (.FT (fun v1 v2 v3 v4=>[v1,v2,(.int .u64 0),v3,(.int .i64 0),v4]) rfl rfl rfl rfl (by kernel_rfl)) ?_
  refine .d3 rfl (af.gW (by exact sizeOf102) rfl rfl rfl (by rfl)) ?_
  rintro _ _ ⟨rfl,rfl⟩
  refine J 3 ?_
  rw[CR t1 h1]
  refine .dG rfl rfl isAgg102 (by exact sizeOf102) Cells.a fun w s=>⟨(),?_,trivial,aj .auto s⟩
  show Ending.returned (Value.agg #[.int .u64 t1.handle,.int .i64 t1.op,.int .u64 0,.int .u64 y1,.int .i64 0,.bool true])=_;rw[h1h.1,h1h.2,hy1];rfl
theorem qF{W:World}{b:Nat}{s:Spc}{k:Int}(hO:gb s):Fn Tryz.prog W 23 [ptr b,.int .i64 k] [bV b s] Value (fun u=>.tuple #[.agg (nU u (s.done k).1).toArray,.int .i64 (s.done k).2.1]) (fun _=>True) (fun u=>[sl av 1 u (s.done k).1.ar,bV b (s.done k).2.2]):=by
 refine Fn.intro (N:=43) func23 rfl ntmps23 rfl fun F=>?_
 show aq _ _ _ _ _ _ [bV b s,F]
 refine .o1 (C:=bV b s) .auto rfl ?_
 rintro ps -
 refine .ja (C:=cE b ps s) .auto rfl ?_
 rintro fv sv pv bt vm bg vt bk bw vr -
 refine .cM (fun w st=>st.fact .auto hY) fun hs=>?_
 refine J 2 ?_
 refine .ai rfl (af.alloc rfl zeroValue57 rfl) ?_
 rintro _ _ ⟨b4,rfl,rfl⟩
 refine J 10 ?_
 refine .eQ rfl ?_
 refine J 9 ?_
 refine .c call80 rfl (E7 hO.dw hO.db) fun _ _=>?_
 refine J 1 ?_
 refine .p (.extract (v:=.agg (gG (s.ca.done k).1).toArray) rfl rfl) ?_
 refine .p (.extract (v:=.int .u64 (s.ca.done k).2.1) rfl rfl) ?_
 refine .p (.extract (v:=.bool (s.ca.done k).2.2.1) rfl rfl) ?_
 refine .ai rfl (af.alloc rfl zeroValue145 rfl) ?_
 rintro _ _ ⟨b6,rfl,rfl⟩
 refine JD 12 (fun h23=>?_) fun h23=>?_
 ·refine J 2 ?_
  refine .p (.lP ([(.slice none 0 0),(.bool false),(.bool false),(.bool false)]) (by kernel_rfl)) ?_
  refine J 6 ?_
  rw[re (by simpa using h23)]
  rw[Ek (by simpa using h23)]
  refine .fg rfl rfl isAgg57 (by exact sizeOf57) Cells.a rfl fun w s=>⟨(.slice none 0 0),?_,trivial,aj .auto s⟩
  rfl
 ·have hd1:(s.ca.done k).2.2.1=true:=by simpa using h23
  obtain⟨hdm, -⟩:=G6 hd1
  obtain⟨hw0,t,ht⟩:=hO.M0 _ hdm
  obtain⟨hn16,q,t2,hq,ht2,hR⟩:=hO.live hs ht
  have e2:=Option.some.inj (ht.symm.trans ht2)
  obtain rfl:=Option.some.inj e2
  obtain⟨m,hm⟩:∃ m:Nat,(s.ca.done k).1.who.toNat=m:=⟨_,rfl⟩
  rw[hm] at ht hn16 hq
  have hmc:(s.ca.done k).1.who=(m:Int):=by omega
  refine J 3 ?_
  refine .fr .auto (bM hq ht) ?_
  refine .draw [arr b6 0 (gG (s.ca.done k).1),arr b 0 (fo fv sv pv s.eW bt ps vm bg vt bk bw vr)] [0,0,0,0,0,1,1,1,1,2,2,2,1,1,3] rfl (by kernel_rfl) ?_
  refine J 8 ?_
  rw[hmc]
  refine J 1 ?_
  refine .c2 call81 rfl (xh hq hn16 hR) fun _ _=>?_
  refine .d2 rfl Kept.auto (af.gF 102 rfl rfl (by kernel_rfl)) (by rintro _ _ ⟨b35,rfl,rfl⟩;exact Kept.auto) ?_
  rintro _ _ ⟨b35,rfl,rfl⟩
  refine .d2 rfl Kept.auto (af.fJ (enc:=cW) (k:=6) (t.jS (s.ca.done k).2.1) rfl underlying33 underlying33 typeInfo102 rfl rfl rfl (by decide) rfl rfl rfl .auto rfl .auto (by have:=hO.au;omega) rfl) (by rintro _ _ ⟨v36,rfl,rfl⟩;exact Kept.auto) ?_
  rintro _ _ ⟨v36,rfl,rfl⟩
  refine J 2 ?_
  refine .d3 rfl (af.l9 sizeOf33 rfl rfl rfl) ?_
  rintro _ _ ⟨rfl,rfl⟩
  rw[pd]
  refine J 6 ?_
  rw[hmc]
  refine .ai rfl (af.gF 3 rfl rfl (by kernel_rfl)) ?_
  rintro _ _ ⟨b41,rfl,rfl⟩
  refine .p (.gJ (fun v1=>[v1,.bool false,.bool false,.bool false]) rfl (by kernel_rfl)) ?_
  refine .ai rfl (af.gW (vs:=[.slice (some ⟨b41,0,none⟩) 1 1,.bool false,.bool false,.bool false]) (by exact sizeOf57) rfl rfl rfl (by rfl)) ?_
  rintro _ _ ⟨rfl,rfl⟩
  refine .to (A:=sl av 1 (.slice (some ⟨b41,0,none⟩) 1 1) [(m:Int)]) (Bs:=[arr b41 0 [.int .i64 (m:Int)]]) .auto LC ?_
  refine J 4 ?_
  refine .to (A:=ay ps (s.aG.set m (some (t.fu (s.ca.done k).2.1)))) (Bs:=[arr q 0 (bc (t.fu (s.ca.done k).2.1)),ay (ps.set m none) (s.aG.set m none)]) .auto (cA (List.getElem?_eq_some_iff.1 ht).1 hq) ?_
  rw[rf hd1 (by rw[hm];exact ht),hm,hmc,show(({s with ca:=(s.ca.done k).2.2.2 }:Spc).dJ m (s.ca.done k).2.1)=({s with ca:=(s.ca.done k).2.2.2 }:Spc).aV m (t.fu (s.ca.done k).2.1) from by unfold Spc.dJ;rw[dQ (s:=({s with ca:=(s.ca.done k).2.2.2 }:Spc)) ht]]
  refine .fg rfl rfl isAgg57 (by exact sizeOf57) Cells.a rfl fun w s=>⟨(.slice (some ⟨b41,0,none⟩) 1 1),?_,trivial,aj .auto s⟩
  rfl
theorem Fb{W:World}{b:Nat}{s:Spc}{n:Int}(hO:gb s):Fn Tryz.prog W 147 [ptr b,.int .i64 n] [bV b s] Unit (fun _=>.tuple #[.agg (JA ((s.at n).getD G5)).toArray,.bool (s.at n).isSome]) (fun _=>True) (fun _=>[bV b s]):=by
 refine Fn.intro (N:=41) func147 rfl ntmps147 rfl fun F=>?_
 show aq _ _ _ _ _ _ [bV b s,F]
 refine .o1 (C:=bV b s) .auto rfl ?_
 rintro ps -
 refine .ja (C:=cE b ps s) .auto rfl ?_
 rintro fv sv pv bt vm bg vt bk bw vr -
 refine .cM (fun w st=>st.fact .auto hY) fun hs=>?_
 refine J 2 ?_
 refine .ai rfl (af.alloc rfl zeroValue243 rfl) ?_
 rintro _ _ ⟨b4,rfl,rfl⟩
 refine J 7 ?_
 refine .c call72 rfl yE fun _ _=>?_
 refine JD 10 (fun h11=>?_) fun h11=>?_
 ·have hap:xZ ps n=none:=by
   cases hh:xZ ps n with
   | none=>rfl
   | some p=>rw[hh] at h11;cases h11
  refine J 2 ?_
  refine .p (.lP ([(.int .u64 0),(.int .i64 0),(.int .i64 0),(.int .i64 0),(.int .u64 0),(.int .u64 0),(.int .u64 0),(.int .u64 0),(.int .u64 0),(.int .u64 0),(.int .u64 0),(.int .u64 0),(.int .u64 0)]) (by kernel_rfl)) ?_
  refine J 6 ?_
  rw[GZ hs hap hO.lt]
  refine .fg rfl rfl isAgg243 (by exact sizeOf243) Cells.a rfl fun w s=>⟨(),?_,trivial,aj .auto s⟩
  rfl
 ·obtain⟨p,hap⟩:∃ p,xZ ps n=some p:=by
   cases hh:xZ ps n with
   | none=>rw[hh] at h11;cases h11
   | some p=>exact⟨p,rfl⟩
  rw[hap]
  obtain⟨k,t,rfl,hk16,hp,ht,hat⟩:=Bw hs hap hO.lt
  refine .ja (C:=cE b ps s) .auto rfl ?_
  rintro fv sv pv bt vm bg vt bk bw vr -
  refine .fr .auto (bM hp ht) ?_
  refine J 3 ?_
  refine .draw [arr p 0 (bc t)] [1,1,1,1,1,1,1,1,1,1,1,1,1,1,1,1,1,1,1,1,1,1,1,1,1,1,1,1,3,1] rfl (by kernel_rfl) ?_
  refine J 22 ?_
  refine .p (.la rfl (Cells.lG (ds:=[.int .u64 (t.aE.getD 0 0),.int .u64 (t.aE.getD 1 0),.int .u64 (t.aE.getD 2 0),.int .u64 (t.aE.getD 3 0),.int .u64 (t.aE.getD 4 0),.int .u64 (t.aE.getD 5 0),.int .u64 (t.aE.getD 6 0),.int .u64 (t.aE.getD 7 0)]) (Cells.a (cs:=bc t)) rfl)) ?_
  refine J 4 ?_
  refine .p (.K7 (fun _ _ _ _ _ _=>JA t) rfl rfl rfl rfl rfl rfl (by kernel_rfl)) ?_
  refine .d3 rfl (af.gW (by exact sizeOf243) rfl rfl rfl (by rfl)) ?_
  rintro _ _ ⟨rfl,rfl⟩
  refine J 4 ?_
  refine .to (A:=ay ps s.aG) (Bs:=[arr p 0 (bc t),ay (ps.set k none) (s.aG.set k none)]) .auto (bI hp ht) ?_
  rw[hat]
  refine .fg rfl rfl isAgg243 (by exact sizeOf243) Cells.a rfl fun w s=>⟨(),?_,trivial,aj .auto s⟩
  rfl
end Go.SLYtpbjdoplfgeliaaGreat
namespace Go.SLYtpbjdoplfgeliaaGreat
open Go Go.RowKit Go.Proofs Go.Proofs.Tryz
attribute [local irreducible] aq aR bf bq bB Y
theorem qG{W:World}{b:Nat}{s:Spc}(hO:gb s):Fn Tryz.prog W 24 [ptr b] [bV b s] Value (fun u=>.agg (nU u s.tick.1).toArray) (fun _=>True) (fun u=>[sl av 1 u s.aS.due,bV b s.tick.2]):=by
 refine Fn.intro (N:=35) func24 rfl ntmps24 rfl fun F=>?_
 show aq _ _ _ _ _ _ [bV b s,F]
 refine .o1 (C:=bV b s) .auto rfl ?_
 rintro ps -
 refine .ja (C:=cE b ps s) .auto rfl ?_
 rintro fv sv pv bt vm bg vt bk bw vr -
 refine .cM (fun w st=>st.fact .auto hY) fun hs=>?_
 have hdl:=Nat.le_trans (pj s.aS) hO.wl
 have hrl:=hO.au
 refine J 2 ?_
 refine .ai rfl (af.alloc rfl zeroValue57 rfl) ?_
 rintro _ _ ⟨b2,rfl,rfl⟩
 refine J 9 ?_
 refine .eQ rfl ?_
 refine J 8 ?_
 refine .c call82 rfl (Cd hO.wn hO.wl) fun u13 _=>?_
 refine J 12 ?_
 refine .bm (X:=Nat) [5,16,17,18,19,20,21,22,23,24,25,26,27,28,29,30,31,32] (fun k=>s.aS.due.length-k) (fun k=>k≤s.aS.due.length) (fun k=>[(16,some (.int .i64 (k:Int)))]) (fun k=>[cE b ps (cN ({s with aS:=s.aS.tick.2 }:Spc) (s.aS.due.take k)),sl av 1 u13 s.aS.due,arr b2 0 [.slice none 0 0,.bool false,.bool false,.bool false],F]) 0 ?_ ?_ ?_ ?_
 ·exact Nat.zero_le _
 ·exact⟨rfl,trivial⟩
 ·exact fun w s=>aw.kept .auto w s
 rintro k hk
 refine JD 6 (fun h17=>?_) fun h17=>?_
 ·refine J 7 ?_
  obtain⟨x,hx⟩:=ak (show k<s.aS.due.length by omega)
  have hdl2:∀ x∈s.aS.due,0≤x∧bN ps s x.toNat:=fun x hx=>by
   obtain⟨y,hy,e⟩:=JB hx
   obtain⟨h0,u,hu⟩:=hO.M1 y hy
   rw[e] at h0 hu
   exact⟨h0,hO.live hs hu⟩
  obtain⟨hx0,hxl⟩:=hdl2 x (List.mem_of_getElem? hx)
  obtain⟨hn16,q,t,hq,ht,hR⟩:=yi x.toNat (s.aS.due.take k) ({s with aS:=s.aS.tick.2 }:Spc) (hxl.of rfl) (fun z hz=>(hdl2 z (List.mem_of_mem_take hz)).2.of rfl)
  have hwr:=ph ({s with aS:=s.aS.tick.2 }:Spc) (s.aS.due.take k)
  rw[List.length_take] at hwr
  simp only at hwr
  have hxc:x=((x.toNat:Nat):Int):=by omega
  refine J 4 ?_
  refine .ja (C:=cE b ps (cN ({s with aS:=s.aS.tick.2 }:Spc) (s.aS.due.take k))) .auto rfl ?_
  rintro fv sv pv bt vm bg vt bk bw vr -
  refine .fr .auto (bM hq ht) ?_
  refine .draw [arr b 0 (fo fv sv pv (cN ({s with aS:=s.aS.tick.2 }:Spc) (s.aS.due.take k)).eW bt ps vm bg vt bk bw vr)] [0,0,0,0,0,1,1,2,2,2,1,1,3] rfl (by kernel_rfl) ?_
  rw[hxc]
  refine J 7 ?_
  refine .c2 call81 rfl (xh (n:=x.toNat) hq hn16 hR) fun _ _=>?_
  refine .d2 rfl Kept.auto (af.gF 102 rfl rfl (by kernel_rfl)) (by rintro _ _ ⟨b28,rfl,rfl⟩;exact Kept.auto) ?_
  rintro _ _ ⟨b28,rfl,rfl⟩
  refine .d2 rfl Kept.auto (af.fJ (enc:=cW) (k:=6) (t.jS 0) rfl underlying33 underlying33 typeInfo102 rfl rfl rfl (by decide) rfl rfl rfl .auto rfl .auto (by have e:(cN ({s with aS:=s.aS.tick.2 }:Spc) (s.aS.due.take k)).au.length=s.au.length+min k s.aS.due.length:=hwr;omega) rfl) (by rintro _ _ ⟨v29,rfl,rfl⟩;exact Kept.auto) ?_
  rintro _ _ ⟨v29,rfl,rfl⟩
  refine J 2 ?_
  refine .d3 rfl (af.l9 sizeOf33 rfl rfl rfl) ?_
  rintro _ _ ⟨rfl,rfl⟩
  rw[pd]
  refine .to (A:=ay ps ((cN ({s with aS:=s.aS.tick.2 }:Spc) (s.aS.due.take k)).aG.set x.toNat (some (t.fu 0)))) (Bs:=[arr q 0 (bc (t.fu 0)),ay (ps.set x.toNat none) ((cN ({s with aS:=s.aS.tick.2 }:Spc) (s.aS.due.take k)).aG.set x.toNat none)]) .auto (cA (List.getElem?_eq_some_iff.1 ht).1 hq) ?_
  refine J 7 ?_
  refine .aH (k+1) .auto rfl ?_ ?_ ?_ ?_
  ·omega
  ·show k+1≤_;omega
  ·exact⟨rfl,trivial⟩
  ·rw[aU hx,yh,show(cN ({s with aS:=s.aS.tick.2 }:Spc) (s.aS.due.take k)).dJ x.toNat 0=(cN ({s with aS:=s.aS.tick.2 }:Spc) (s.aS.due.take k)).aV x.toNat (t.fu 0) from by unfold Spc.dJ;rw[dQ ht],dQ ht];exact fun w s=>aw.kept .auto w s
 ·refine J 7 ?_
  refine .cM (fun w st=>(Rd.s (v:=u13) (enc:=av) (k:=1) (xs:=s.aS.due) w st).1) fun hr=>?_
  obtain⟨a13,c13,rfl, -, -⟩:=hr
  refine J 1 ?_
  refine .p (.gJ (fun v1=>[v1,(.bool false),(.bool false),(.bool false)]) rfl (by kernel_rfl)) ?_
  refine .ai rfl (af.gW (vs:=[.slice a13 s.aS.due.length c13,.bool false,.bool false,.bool false]) (by exact sizeOf57) rfl rfl rfl (by rfl)) ?_
  rintro _ _ ⟨rfl,rfl⟩
  refine J 3 ?_
  have hkk:k=s.aS.due.length:=by omega
  rw[hkk,List.take_length]
  refine .dG rfl rfl isAgg57 (by exact sizeOf57) Cells.a fun w s=>⟨_,?_,trivial,aj .auto s⟩
  rfl
theorem Cg{W:World}{b:Nat}{s:Spc}{n:Int}(hO:gb s):Fn Tryz.prog W 192 [ptr b,.int .i64 n] [bV b s] Unit (fun _=>.int .i64 (s.class n)) (fun _=>True) (fun _=>[bV b s]):=by
 refine Fn.intro (N:=37) func192 rfl ntmps192 rfl fun F=>?_
 show aq _ _ _ _ _ _ [bV b s,F]
 refine .o1 (C:=bV b s) .auto rfl ?_
 rintro ps -
 refine .ja (C:=cE b ps s) .auto rfl ?_
 rintro fv sv pv bt vm bg vt bk bw vr -
 refine .cM (fun w st=>st.fact .auto hY) fun hs=>?_
 refine J 9 ?_
 refine .c call72 rfl yE fun _ _=>?_
 refine J 9 ?_
 refine .part (t:=13) rfl (fun h13=>?_) (fun h13=>?_)
 ·refine J 8 ?_
  refine .gw rfl ?_
  refine J 7 ?_
  have hap:xZ ps n=none:=by
   cases hh:xZ ps n with
   | none=>rfl
   | some p=>rw[hh] at h13;cases h13
  rw[BB (GZ hs hap hO.lt)]
  exact JR 0 ()
 ·obtain⟨p,hap⟩:∃ p,xZ ps n=some p:=by
   cases hh:xZ ps n with
   | none=>rw[hh] at h13;cases h13
   | some p=>exact⟨p,rfl⟩
  rw[hap]
  obtain⟨k,t,rfl,hk16,hp,ht,hat⟩:=Bw hs hap hO.lt
  refine .ja (C:=cE b ps s) .auto rfl ?_
  rintro fv sv pv bt vm bg vt bk bw vr -
  refine .fr .auto (bM hp ht) ?_
  refine JD 8 (fun h19=>?_) fun h19=>?_
  ·refine J 7 ?_
   refine .to (A:=ay ps s.aG) (Bs:=[arr p 0 (bc t),ay (ps.set k none) (s.aG.set k none)]) .auto (bI hp ht) ?_
   rw[BC hat h19]
   exact JR 0 ()
  ·refine J 3 ?_
   refine .vN [arr b 0 (fo fv sv pv s.eW bt ps vm bg vt bk bw vr),arr p 0 (bc t)] [0,0,0,0,0,0,0,0,2,0,0,0,4,2,0] [0,1,2,3,4,5,6,7,8,9,10,11,12,13,14] rfl (by kernel_rfl) ?_
   refine bB.q rfl rfl rfl Kept.auto (Y.m rfl) ?_
   refine bB.q rfl rfl rfl Kept.auto (Y.n rfl) ?_
   refine bB.q rfl rfl rfl Kept.auto (Y.gq 52 underlying123 rfl sizeOf52 rfl) ?_
   refine bB.q rfl rfl rfl Kept.auto (Y.FR isAgg52 rfl (Cells.lG (ds:=zN fv sv pv s.eW) (Cells.a (cs:=fo fv sv pv s.eW bt ps vm bg vt bk bw vr)) rfl) (by exact sizeOf52)) ?_
   refine bB.q rfl rfl rfl Kept.auto (Y.m rfl) ?_
   refine bB.q rfl rfl rfl Kept.auto (Y.n rfl) ?_
   refine bB.q rfl rfl rfl Kept.auto (Y.gq 133 underlying135 rfl sizeOf133 rfl) ?_
   refine bB.q rfl rfl rfl Kept.auto (Y.FR isAgg133 rfl (Cells.lG (ds:=iM t.m3) (Cells.a (cs:=bc t)) rfl) (by exact sizeOf133)) ?_
   refine bB.eH rfl (.inl rfl) rfl (fun _=>Kept.auto) call73 rfl (uE (p:=s.eW) (f:=t.m3) hO.zV.1 hO.zV.2) .auto (fun _ _=>Kept.auto) ?_
   rintro⟨⟩ -
   refine bB.q rfl rfl rfl Kept.auto (Y.m rfl) ?_
   refine bB.q rfl rfl rfl Kept.auto (Y.extract (v:=.agg (dM ((dV s.eW t.m3).getD Ins.z)).toArray) rfl rfl) ?_
   refine bB.q rfl rfl rfl Kept.auto (Y.extract (v:=.bool (dV s.eW t.m3).isSome) rfl rfl) ?_
   refine bB.fresh rfl rfl rfl (by decide) Kept.auto (l4 zeroValue94 rfl) ?_
   rintro b6
   refine bB.Lz rfl rfl (by exact sizeOf94) rfl rfl rfl (by rfl) Kept.auto Kept.auto ?_
   refine bB.q rfl rfl rfl Kept.auto (Y.a rfl) ?_
   refine bB.nil ?_
   refine JD 8 (fun h33=>?_) fun h33=>?_
   ·refine J 7 ?_
    refine .to (A:=ay ps s.aG) (Bs:=[arr p 0 (bc t),ay (ps.set k none) (s.aG.set k none)]) .auto (bI hp ht) ?_
    rw[Ej hat h19 (Option.isNone_iff_eq_none.mp (by simpa using h33))]
    exact JR 0 ()
   ·obtain⟨i,hn⟩:∃ i,(dV s.eW t.m3)=some i:=Option.isSome_iff_exists.mp (by simpa using h33)
    rw[show((dV s.eW t.m3).getD Ins.z)=i from by rw[hn];rfl]
    refine J 6 ?_
    refine .c call76 rfl lq fun _ _=>?_
    refine J 4 ?_
    refine .to (A:=ay ps s.aG) (Bs:=[arr p 0 (bc t),ay (ps.set k none) (s.aG.set k none)]) .auto (bI hp ht) ?_
    rw[BD hat h19 hn]
    exact JR 0 ()
theorem lE{W:World}{b:Nat}{s:Spc}(hl:s.au.length≤1000000000):Fn Tryz.prog W 25 [ptr b] [bV b s] Value (fun u=>u) (fun _=>True) (fun u=>[sl cW 6 u s.au,bV b s]):=by
 refine Fn.intro (N:=11) func25 rfl ntmps25 rfl fun F=>?_
 show aq _ _ _ _ _ _ [bV b s,F]
 refine .o1 (C:=bV b s) .auto rfl ?_
 rintro ps -
 refine .ja (C:=cE b ps s) .auto rfl ?_
 rintro fv sv pv bt vm bg vt bk bw vr -
 refine J 12 ?_
 refine .eQ rfl ?_
 refine J 8 ?_
 refine .c call84 rfl (L6 (A:=sl cW 6 vr s.au) (Rd.sl .here) hl) fun u9 _=>?_
 refine .c call83 rfl Ng fun u10 _=>?_
 exact JR 4 u10
theorem rz{W:World}{b:Nat}{s:Spc}(hl:s.mem.length≤1000000000):Fn Tryz.prog W 27 [ptr b] [bV b s] Value (fun u=>u) (fun _=>True) (fun u=>[sl de 1 u s.mem,bV b s]):=by
 refine Fn.intro (N:=11) func27 rfl ntmps27 rfl fun F=>?_
 show aq _ _ _ _ _ _ [bV b s,F]
 refine .o1 (C:=bV b s) .auto rfl ?_
 rintro ps -
 refine .ja (C:=cE b ps s) .auto rfl ?_
 rintro fv sv pv bt vm bg vt bk bw vr -
 refine J 12 ?_
 refine .eQ rfl ?_
 refine J 8 ?_
 refine .c call86 rfl (L5 (A:=sl de 1 vm s.mem) (Rd.sl .here) hl) fun u9 _=>?_
 refine .c call85 rfl Nf fun u10 _=>?_
 exact JR 4 u10
end Go.SLYtpbjdoplfgeliaaGreat
namespace Go.SLYtpbjdoplfgeliaaGreat
open Go Go.RowKit Go.Proofs Go.Proofs.Tryz
attribute [local irreducible] aq aR bf bq bB Y
end Go.SLYtpbjdoplfgeliaaGreat
namespace Go.SLYtpbjdoplfgeliaaGreat
open Go Go.RowKit Go.Proofs Go.Proofs.Tryz
attribute [local irreducible] aq aR bf bq bB Y
theorem Np{a b:Rec}:sQ Tryz.prog 102 2 (.agg (cW a).toArray) (.agg (cW b).toArray) (decide (a=b)):=fun d w=>by
 have hs:Tryz.prog.stoodInHeld 102=false:=by kernel_rfl
 have one:∀ (r:Rec) (t:TypeId) (i:Nat) (v:Value),(∀ w,(isAgg t).run Tryz.prog w = .ok false w)→(cW r)[i]?=some v→Part Tryz.prog t (cW r).toArray i v:=fun r t i v ha hv=>Part.one ha (by rw[List.getElem?_toArray];exact hv)
 refine(mr underlying102 hs (d+1) _ _ w).trans ?_
 show(Op.eqFields (d+1) _ _ [_,_,_,_,_,_]).run Tryz.prog w=_
 have pa0:Part Tryz.prog 92 (cW a).toArray 0 (.int .u64 a.ab):=one a _ 0 _ isAgg92 rfl
 have pb0:Part Tryz.prog 92 (cW b).toArray 0 (.int .u64 b.ab):=one b _ 0 _ isAgg92 rfl
 refine Eq.trans (cS (a:=.int .u64 a.ab) (b:=.int .u64 b.ab) (r:=decide (a.ab=b.ab)) ?_ ?_ ?_ ?_) ?_
 ·decide +kernel
 ·exact pa0
 ·exact pb0
 ·exact(sQ.int underlying92 d w)
 by_cases h0:a.ab=b.ab
 rotate_left
 ·rw[decide_eq_false h0,decide_eq_false (fun e=>h0 (by rw[e])),if_neg (by simp)]
 rw[decide_eq_true h0,if_pos rfl]
 have pa1:Part Tryz.prog 3 (cW a).toArray 1 (.int .i64 a.op):=one a _ 1 _ isAgg3 rfl
 have pb1:Part Tryz.prog 3 (cW b).toArray 1 (.int .i64 b.op):=one b _ 1 _ isAgg3 rfl
 refine Eq.trans (cS (a:=.int .i64 a.op) (b:=.int .i64 b.op) (r:=decide (a.op=b.op)) ?_ ?_ ?_ ?_) ?_
 ·decide +kernel
 ·exact pa1
 ·exact pb1
 ·exact(sQ.int underlying3 d w)
 by_cases h1:a.op=b.op
 rotate_left
 ·rw[decide_eq_false h1,decide_eq_false (fun e=>h1 (by rw[e])),if_neg (by simp)]
 rw[decide_eq_true h1,if_pos rfl]
 have pa2:Part Tryz.prog 92 (cW a).toArray 2 (.int .u64 a.x):=one a _ 2 _ isAgg92 rfl
 have pb2:Part Tryz.prog 92 (cW b).toArray 2 (.int .u64 b.x):=one b _ 2 _ isAgg92 rfl
 refine Eq.trans (cS (a:=.int .u64 a.x) (b:=.int .u64 b.x) (r:=decide (a.x=b.x)) ?_ ?_ ?_ ?_) ?_
 ·decide +kernel
 ·exact pa2
 ·exact pb2
 ·exact(sQ.int underlying92 d w)
 by_cases h2:a.x=b.x
 rotate_left
 ·rw[decide_eq_false h2,decide_eq_false (fun e=>h2 (by rw[e])),if_neg (by simp)]
 rw[decide_eq_true h2,if_pos rfl]
 have pa3:Part Tryz.prog 92 (cW a).toArray 3 (.int .u64 a.y):=one a _ 3 _ isAgg92 rfl
 have pb3:Part Tryz.prog 92 (cW b).toArray 3 (.int .u64 b.y):=one b _ 3 _ isAgg92 rfl
 refine Eq.trans (cS (a:=.int .u64 a.y) (b:=.int .u64 b.y) (r:=decide (a.y=b.y)) ?_ ?_ ?_ ?_) ?_
 ·decide +kernel
 ·exact pa3
 ·exact pb3
 ·exact(sQ.int underlying92 d w)
 by_cases h3:a.y=b.y
 rotate_left
 ·rw[decide_eq_false h3,decide_eq_false (fun e=>h3 (by rw[e])),if_neg (by simp)]
 rw[decide_eq_true h3,if_pos rfl]
 have pa4:Part Tryz.prog 25 (cW a).toArray 4 (.int .i64 a.result):=one a _ 4 _ isAgg25 rfl
 have pb4:Part Tryz.prog 25 (cW b).toArray 4 (.int .i64 b.result):=one b _ 4 _ isAgg25 rfl
 refine Eq.trans (cS (a:=.int .i64 a.result) (b:=.int .i64 b.result) (r:=decide (a.result=b.result)) ?_ ?_ ?_ ?_) ?_
 ·decide +kernel
 ·exact pa4
 ·exact pb4
 ·exact(sQ.int underlying25 d w)
 by_cases h4:a.result=b.result
 rotate_left
 ·rw[decide_eq_false h4,decide_eq_false (fun e=>h4 (by rw[e])),if_neg (by simp)]
 rw[decide_eq_true h4,if_pos rfl]
 have pa5:Part Tryz.prog 4 (cW a).toArray 5 (.bool a.fin):=one a _ 5 _ isAgg4 rfl
 have pb5:Part Tryz.prog 4 (cW b).toArray 5 (.bool b.fin):=one b _ 5 _ isAgg4 rfl
 refine Eq.trans (cS (a:=.bool a.fin) (b:=.bool b.fin) (r:=decide (a.fin=b.fin)) ?_ ?_ ?_ ?_) ?_
 ·decide +kernel
 ·exact pa5
 ·exact pb5
 ·exact(sQ.bool underlying4 d w)
 by_cases h5:a.fin=b.fin
 rotate_left
 ·rw[decide_eq_false h5,decide_eq_false (fun e=>h5 (by rw[e])),if_neg (by simp)]
 rw[decide_eq_true h5,if_pos rfl]
 have e:a=b:=by
  obtain⟨a1,a2,a3,a4,a5,a6⟩:=a
  obtain⟨b1,b2,b3,b4,b5,b6⟩:=b
  simp only at h0 h1 h2 h3 h4 h5
  subst h0 h1 h2 h3 h4 h5
  rfl
 rw[decide_eq_true e]
 simp[Op.eqFields]
theorem Fc{W:World}{A:aa}{v u:Value}{xs ys:List Int}(hv:Rd W [A] de 1 v xs)(hu:Rd W [A] de 1 u ys)(hl:xs.length≤1000000000):Fn Tryz.prog W 26 [v,u] [A] Unit (fun _=>.bool (decide (xs=ys))) (fun _=>True) (fun _=>[A]):=by
 refine Fn.intro (N:=26) func26 rfl ntmps26 rfl fun F=>?_
 haveI hRI:∀ (H:List aa) [bx H A],aA W H v de 1 xs:=fun H h=>⟨hv.at h.has⟩
 haveI hRJ:∀ (H:List aa) [bx H A],aA W H u de 1 ys:=fun H h=>⟨hu.at h.has⟩
 show aq _ _ _ _ _ _ [A,F]
 refine JD 15 (fun h10=>?_) fun h10=>?_
 ·refine J 7 ?_
  refine .aP rfl rfl fun w s=>⟨(),?_,trivial,aj .auto s⟩
  rw[decide_eq_false (fun e=>h10 (by rw[e]))]
 ·refine J 9 ?_
  refine .bm (X:=Nat) [4,5,11,12,13,14,15,16,17,18,19,20,21,22,23,24,25] (fun k=>xs.length-k) (fun k=>k≤xs.length∧xs.take k=ys.take k) (fun k=>[(5,some (.int .i64 (k:Int)))]) (fun k=>[A,F]) 0 ?_ ?_ ?_ ?_
  ·exact⟨Nat.zero_le _,rfl⟩
  ·exact⟨rfl,trivial⟩
  ·exact fun w s=>aw.kept .auto w s
  rintro k ⟨hk,hn⟩
  refine JD 9 (fun h14=>?_) fun h14=>?_
  ·refine J 5 ?_
   refine .draw [] [1,1,1,1,1,1,1,1,1] rfl (by kernel_rfl) ?_
   obtain⟨x,hx⟩:=ak (show k<xs.length by omega)
   obtain⟨y,hy⟩:=ak (show k<ys.length by omega)
   refine J 3 ?_
   refine .p (.lr rfl hx) ?_
   refine J 3 ?_
   refine .p (.lr rfl hy) ?_
   refine JD 3 (fun h25=>?_) fun h25=>?_
   ·refine J 11 ?_
    refine .aP rfl rfl fun w s=>⟨(),?_,trivial,aj .auto s⟩
    rw[decide_eq_false (fun e=>h25 (by rw[e] at hx;exact Option.some.inj (hx.symm.trans hy)))]
   ·refine J 8 ?_
    refine .aH (k+1) .auto rfl ?_ ?_ ?_ ?_
    ·first | omega | (dsimp only;omega)
    ·exact⟨by omega,by rw[aU hx,aU hy,hn,Decidable.of_not_not h25]⟩
    ·exact⟨rfl,trivial⟩
    ·exact fun w s=>aw.kept .auto w s
  ·refine J 11 ?_
   obtain rfl:k=xs.length:=by omega
   rw[List.take_length,List.take_of_length_le (by omega)] at hn
   refine .aP rfl rfl fun w s=>⟨(),?_,trivial,aj .auto s⟩
   rw[decide_eq_true hn]
theorem uG{W:World}{A:aa}{v u:Value}{xs ys:List Rec}(hv:Rd W [A] cW 6 v xs)(hu:Rd W [A] cW 6 u ys)(hl:xs.length≤1000000000):Fn Tryz.prog W 14 [v,u] [A] Unit (fun _=>.bool (decide (xs=ys))) (fun _=>True) (fun _=>[A]):=by
 refine Fn.intro (N:=26) func14 rfl ntmps14 rfl fun F=>?_
 haveI hRI:∀ (H:List aa) [bx H A],aA W H v cW 6 xs:=fun H h=>⟨hv.at h.has⟩
 haveI hRJ:∀ (H:List aa) [bx H A],aA W H u cW 6 ys:=fun H h=>⟨hu.at h.has⟩
 show aq _ _ _ _ _ _ [A,F]
 refine JD 15 (fun h10=>?_) fun h10=>?_
 ·refine J 7 ?_
  refine .aP rfl rfl fun w s=>⟨(),?_,trivial,aj .auto s⟩
  rw[decide_eq_false (fun e=>h10 (by rw[e]))]
 ·refine J 9 ?_
  refine .bm (X:=Nat) [4,5,11,12,13,14,15,16,17,18,19,20,21,22,23,24,25] (fun k=>xs.length-k) (fun k=>k≤xs.length∧xs.take k=ys.take k) (fun k=>[(5,some (.int .i64 (k:Int)))]) (fun k=>[A,F]) 0 ?_ ?_ ?_ ?_
  ·exact⟨Nat.zero_le _,rfl⟩
  ·exact⟨rfl,trivial⟩
  ·exact fun w s=>aw.kept .auto w s
  rintro k ⟨hk,hn⟩
  refine JD 9 (fun h14=>?_) fun h14=>?_
  ·refine J 5 ?_
   refine .draw [] [1,1,1,1,1,1,1,1,1] rfl (by kernel_rfl) ?_
   obtain⟨x,hx⟩:=ak (show k<xs.length by omega)
   obtain⟨y,hy⟩:=ak (show k<ys.length by omega)
   refine J 3 ?_
   refine .p (.la rfl (Cells.rd Rd.s hx)) ?_
   refine J 3 ?_
   refine .p (.la rfl (Cells.rd Rd.s hy)) ?_
   refine .p (.K6 (by kernel_rfl) Np rfl rfl rfl) ?_
   refine JD 2 (fun h25=>?_) fun h25=>?_
   ·have h25:x≠y:=by simpa using h25
    refine J 11 ?_
    refine .aP rfl rfl fun w s=>⟨(),?_,trivial,aj .auto s⟩
    rw[decide_eq_false (fun e=>h25 (by rw[e] at hx;exact Option.some.inj (hx.symm.trans hy)))]
   ·have h25:¬x≠y:=by simpa using h25
    refine J 8 ?_
    refine .aH (k+1) .auto rfl ?_ ?_ ?_ ?_
    ·first | omega | (dsimp only;omega)
    ·exact⟨by omega,by rw[aU hx,aU hy,hn,Decidable.of_not_not h25]⟩
    ·exact⟨rfl,trivial⟩
    ·exact fun w s=>aw.kept .auto w s
  ·refine J 11 ?_
   obtain rfl:k=xs.length:=by omega
   rw[List.take_length,List.take_of_length_le (by omega)] at hn
   refine .aP rfl rfl fun w s=>⟨(),?_,trivial,aj .auto s⟩
   rw[decide_eq_true hn]
end Go.SLYtpbjdoplfgeliaaGreat
