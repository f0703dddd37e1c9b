/- Walks of functions, and what they compute. Conditions: none, this text proves no statement. -/
import Derived.Test.YthlllpngkljgfaaGreatH07
import Derived.Test.YthlllpngkljgfaaGreatProg
import Derived.Test.YthlllpngkljgfaaGreatH09
import Derived.Test.YthlllpngkljgfaaGreatH04
import Derived.KernelRfl
import Derived.Test.YthlllpngkljgfaaGreatH08
import Derived.Test.YthlllpngkljgfaaGreatH05
import Derived.Test.YthlllpngkljgfaaGreatH06
set_option maxRecDepth 20000
set_option maxHeartbeats 4000000
namespace Go.SLYthlllpngkljgfaaGreat
open Go Go.RowKit Go.Proofs Go.Proofs.Tryz
attribute [local irreducible] aq aS bc bx bC Y
theorem wV{W:World}{bd b p:Nat}{ps:List (Option Nat)}{d:Dng}{h:Int}(h0:0≤h)(hT:jo d.s.table)(hs:∀ n,bz d.s.table h=some n→bM ps d.s n):Fn Tryz.prog W 232 [ptr bd,.int .u64 h] [bq bd b p ps d] Unit (fun _=>.tuple #[.int .i64 (((d.other h).1:Nat):Int),.int .i64 (d.other h).2]) (fun _=>True) (fun _=>[bq bd b p ps d]):=by
 refine Fn.intro (N:=60) func232 rfl ntmps232 rfl fun F=>?_
 show aq _ _ _ _ _ _ [bq bd b p ps d,F]
 refine .o2 (C:=bq bd b p ps d) .auto rfl ?_
 rintro vw ve -
 refine .jA (C:=cB b ps d.s) .auto rfl ?_
 rintro fv sv pv bt vm bg vt bk bw vr -
 refine J 16 ?_
 refine .c call249 rfl (wN hT h0) fun _ _=>?_
 refine J 1 ?_
 refine .p (.extract (v:=.int .i64 (((bz d.s.table h).getD 0:Nat):Int)) rfl rfl) ?_
 refine .p (.extract (v:=.bool (bz d.s.table h).isSome) rfl rfl) ?_
 refine J 8 ?_
 obtain⟨m,hm⟩:∃ m,m=(bz d.s.table h).getD 0:=⟨_,rfl⟩
 rw[← hm]
 refine J 3 ?_
 refine .part (t:=23) rfl (fun h23=>?_) (fun h23=>?_)
 ·refine J 24 ?_
  refine .fu rfl ?_
  refine J 9 ?_
  rw[tB (Option.isNone_iff_eq_none.mp (by simpa using h23))]
  exact JR 0 ()
 ·obtain⟨n,hf⟩:∃ n,bz d.s.table h=some n:=Option.isSome_iff_exists.mp (by simpa using h23)
  obtain rfl:m=n:=by rw[hm,hf];rfl
  obtain⟨hm16,q,u,hq,hu,hR⟩:=hs m hf
  refine .fr .auto (bQ hq hu) ?_
  refine J 8 ?_
  refine .ns (t:=31) rfl (fun h31=>?_) (fun h31=>?_)
  ·refine J 16 ?_
   refine .fu rfl ?_
   refine J 9 ?_
   refine .to (A:=aA ps d.s.aF) (Bs:=[arr q 0 (bj u),aA (ps.set m none) (d.s.aF.set m none)]) .auto (bP hq hu) ?_
   rw[kS hf hu (.inl (Int.ofNat_inj.mp h31))]
   exact JR 0 ()
  ·refine J 7 ?_
   refine .g (.dF m underlying134 sizeOf133 rfl rfl rfl hm16) ?_
   refine .g (.ld rfl (Cell.a (by rw[Nat.mul_one,eJ hm16,bA hq]))) ?_
   refine JD 7 (fun h20=>?_) fun h20=>?_
   ·refine J 9 ?_
    refine .to (A:=aA ps d.s.aF) (Bs:=[arr q 0 (bj u),aA (ps.set m none) (d.s.aF.set m none)]) .auto (bP hq hu) ?_
    rw[kS hf hu (.inr h20)]
    exact JR 0 ()
   ·have hno:¬(m=d.n∨u.bK=true):=fun hh=>hh.elim (fun e=>h31 (Int.ofNat_inj.mpr e)) (fun e=>by rw[h20] at e;cases e)
    refine J 9 ?_
    refine .p (.dF m underlying134 sizeOf133 rfl rfl rfl hm16) ?_
    refine .p (.ld rfl (Cell.a (by rw[Nat.mul_one,eJ hm16,bA hq]))) ?_
    refine JD 7 (fun h45=>?_) fun h45=>?_
    ·refine J 9 ?_
     refine .to (A:=aA ps d.s.aF) (Bs:=[arr q 0 (bj u),aA (ps.set m none) (d.s.aF.set m none)]) .auto (bP hq hu) ?_
     rw[nU hf hu hno h45]
     exact JR 0 ()
    ·refine J 11 ?_
     refine .to (A:=aA ps d.s.aF) (Bs:=[arr q 0 (bj u),aA (ps.set m none) (d.s.aF.set m none)]) .auto (bP hq hu) ?_
     rw[tC hf hu hno (Decidable.byContradiction h45)]
     exact JR 0 ()
theorem Ce{W:World}{bd b p:Nat}{ps:List (Option Nat)}{d:Dng}{t:bE}(hp:ps[d.n]?=some (some p))(ht:d.s.aF[d.n]?=some (some t))(hk:iN ps d t):Fn Tryz.prog W 212 [ptr bd] [bq bd b p ps d] (List (Option Nat)) (fun _=>.tuple #[]) (fun _=>True) (fun qs=>[bq bd b p qs d.fW]):=by
 refine Fn.intro (N:=51) func212 rfl ntmps212 rfl fun F=>?_
 show aq _ _ _ _ _ _ [bq bd b p ps d,F]
 refine J 3 ?_
 refine .c call213 rfl (wP hp ht hk.I.a) fun _ _=>?_
 have hx0:0≤d.a:=by
  unfold Dng.a;rw[dc ht];exact(hk.R.r _).1
 obtain⟨x,hx⟩:∃ x,x=d.a:=⟨_,rfl⟩
 rw[← hx]
 rw[← hx] at hx0
 refine J 7 ?_
 refine .c call232 rfl (wV hx0 hk.T (hk.slot x)) fun _ _=>?_
 refine J 1 ?_
 refine .p (.extract (v:=.int .i64 (((d.other x).1:Nat):Int)) rfl rfl) ?_
 refine .p (.extract (v:=.int .i64 (d.other x).2) rfl rfl) ?_
 refine JD 13 (fun h24=>?_) fun h24=>?_
 ·refine J 7 ?_
  refine .c call210 rfl (cq hp ht (Nat.le_trans hk.av (by decide)) pd hk.R.l) fun _ _=>?_
  refine J 1 ?_
  rw[show d.fW=d.pass x 0 (d.other x).2 from by unfold Dng.fW;rw[← hx];simp only;rw[if_pos h24]]
  exact JR 0 ps
 ·have hz:(d.other x).2=0:=Decidable.byContradiction h24
  obtain⟨m,q,u,hf,ho1,hmn,hm16,hq,hu,hRu,hdt,hjo⟩:=tE (hk.slot x) hz
  rw[ho1,hz]
  refine J 2 ?_
  refine .o2 (C:=bq bd b p ps (d)) .auto rfl ?_
  rintro vw ve -
  refine .jA (C:=cB b ps (d).s) .auto rfl ?_
  rintro fv sv pv bt vm bg vt bk bw vr -
  refine .fr .auto (bQ hq hu) ?_
  refine J 7 ?_
  refine .p (.dF m underlying134 sizeOf133 rfl rfl rfl hm16) ?_
  refine .p (.ld rfl (Cell.a (by rw[Nat.mul_one,eJ hm16,bA hq]))) ?_
  refine JD 7 (fun h27=>?_) fun h27=>?_
  ·refine J 1 ?_
   refine .to (A:=aA ps d.s.aF) (Bs:=[arr q 0 (bj u),aA (ps.set m none) (d.s.aF.set m none)]) .auto (bP hq hu) ?_
   refine J 5 ?_
   refine .c call206 rfl (nh (s:=d.s) hq hu hk.lt hk.lp hk.T hRu.h.1) fun _ _=>?_
   refine J 7 ?_
   refine .c call210 rfl (cq (d:=d.free m) (ps:=ps.set m none) (p:=p) (t:=t) (by show(ps.set m none)[d.n]?=_;rw[List.getElem?_set_ne hmn];exact hp) (by show(d.s.aF.set m none)[d.n]?=_;rw[List.getElem?_set_ne hmn];exact ht) (Nat.le_trans hk.av (by decide)) (by decide) hk.R.l) fun _ _=>?_
   refine J 1 ?_
   rw[show d.fW=(d.free m).pass x 0 0 from by unfold Dng.fW;rw[← hx];simp only;rw[if_neg (by rw[hz];simp),ho1,dM hu,if_pos h27]]
   refine .DW rfl fun w s=>⟨ps.set m none,?_,trivial,ai .auto s⟩
   rfl
  ·refine J 8 ?_
   refine .p (.dF m underlying134 sizeOf133 rfl rfl rfl hm16) ?_
   refine .p (.ld rfl (Cell.a (by rw[Nat.mul_one,eJ hm16,bA hq]))) ?_
   refine J 3 ?_
   rw[JE]
   refine J 7 ?_
   refine .to (A:=aA ps (d.s.aF.set m (some ({u with bK:=true })))) (Bs:=[arr q 0 (bj ({u with bK:=true })),aA (ps.set m none) (d.s.aF.set m none)]) .auto (cx (List.getElem?_eq_some_iff.1 hu).1 hq) ?_
   refine .c call210 rfl (cq (d:={d with s:=d.s.aV m {u with bK:=true } }) (ps:=ps) (p:=p) (t:=t) hp (fC ht hmn) (Nat.le_trans hk.av (by decide)) (by decide) hk.R.l) fun _ _=>?_
   refine J 1 ?_
   rw[show d.fW=({d with s:=d.s.aV m {u with bK:=true } }:Dng).pass x 0 0 from by unfold Dng.fW;rw[← hx];simp only;rw[if_neg (by rw[hz];simp),ho1,dM hu,if_neg h27]]
   exact JR 0 ps
theorem IE{W:World}{bd b p:Nat}{ps:List (Option Nat)}{d:Dng}{t:bE}(hp:ps[d.n]?=some (some p))(ht:d.s.aF[d.n]?=some (some t))(hk:iN ps d t):Fn Tryz.prog W 211 [ptr bd] [bq bd b p ps d] (List (Option Nat)) (fun _=>.tuple #[]) (fun _=>True) (fun qs=>[bq bd b p qs d.join]):=by
 refine Fn.intro (N:=94) func211 rfl ntmps211 rfl fun F=>?_
 show aq _ _ _ _ _ _ [bq bd b p ps d,F]
 have hIa:=hk.I.a
 have hRl:=hk.R.l
 refine J 3 ?_
 refine .c call231 rfl (KT hp ht hk.I.b) fun _ _=>?_
 have hx0:0≤d.b:=by
  unfold Dng.b;rw[dc ht];exact(hk.R.r _).1
 obtain⟨x,hx⟩:∃ x,x=d.b:=⟨_,rfl⟩
 rw[← hx]
 rw[← hx] at hx0
 refine J 7 ?_
 refine .c call232 rfl (wV hx0 hk.T (hk.slot x)) fun _ _=>?_
 refine J 1 ?_
 refine .p (.extract (v:=.int .i64 (((d.other x).1:Nat):Int)) rfl rfl) ?_
 refine .p (.extract (v:=.int .i64 (d.other x).2) rfl rfl) ?_
 refine JD 12 (fun h37=>?_) fun h37=>?_
 ·refine J 4 ?_
  refine .c call210 rfl (cq hp ht (Nat.le_trans hk.av (by decide)) pd hk.R.l) fun _ _=>?_
  refine J 2 ?_
  rw[show d.join=d.pass x 0 (d.other x).2 from by unfold Dng.join;rw[← hx];simp only;rw[if_pos h37]]
  exact JR 0 ps
 ·have hz:(d.other x).2=0:=Decidable.byContradiction h37
  obtain⟨m,q,u,hf,ho1,hmn,hm16,hq,hu,hRu,hdt,hjo⟩:=tE (hk.slot x) hz
  rw[ho1,hz]
  refine J 2 ?_
  refine .o2 (C:=bq bd b p ps (d)) .auto rfl ?_
  rintro vw ve -
  refine .jA (C:=cB b ps (d).s) .auto rfl ?_
  rintro fv sv pv bt vm bg vt bk bw vr -
  refine .fr .auto (bQ hq hu) ?_
  refine J 7 ?_
  refine .p (.dF m underlying134 sizeOf133 rfl rfl rfl hm16) ?_
  refine .p (.ld rfl (Cell.a (by rw[Nat.mul_one,eJ hm16,bA hq]))) ?_
  refine JD 7 (fun h44=>?_) fun h44=>?_
  ·refine J 9 ?_
   refine .p (.dF m underlying134 sizeOf133 rfl rfl rfl hm16) ?_
   refine .p (.ld rfl (Cell.a (by rw[Nat.mul_one,eJ hm16,bA hq]))) ?_
   refine J 7 ?_
   refine .to (A:=aA ps d.s.aF) (Bs:=[arr q 0 (bj u),aA (ps.set m none) (d.s.aF.set m none)]) .auto (bP hq hu) ?_
   refine .fr .auto (bQ hp ht) ?_
   refine .draw [arr bd 0 (ee b p d vw ve)] [1,1,1,1,1,1,1,1,1,1,1,1,1,1,3] rfl (by kernel_rfl) ?_
   refine J 13 ?_
   refine .p (.dF d.i.a.toNat underlying163 sizeOf110 rfl rfl (by omega) (by omega)) ?_
   refine .d3 rfl (af.st sizeOf110 rfl rfl rfl (Nat.blt_eq.mpr (by show 2+d.i.a.toNat * 1<18;omega))) ?_
   rintro _ _ ⟨rfl,rfl⟩
   rw[ju _ (by omega) (by omega) hRl]
   refine .to (A:=aA ps (d.s.aF.set d.n (some (t.put d.i.a u.value)))) (Bs:=[arr p 0 (bj (t.put d.i.a u.value)),aA (ps.set d.n none) (d.s.aF.set d.n none)]) .auto (cx (List.getElem?_eq_some_iff.1 ht).1 hp) ?_
   refine J 9 ?_
   refine .c call206 rfl (nh (s:=(d.aV (t.put d.i.a u.value)).s) hq (fC hu (Ne.symm hmn)) (by simp[Dng.aV,Spc.aV,hk.lt]) hk.lp hk.T hRu.h.1) fun _ _=>?_
   refine J 6 ?_
   refine .c call210 rfl (cq (d:=(d.aV (t.put d.i.a u.value)).free m) (ps:=ps.set m none) (p:=p) (t:=t.put d.i.a u.value) (by show(ps.set m none)[d.n]?=_;rw[List.getElem?_set_ne hmn];exact hp) (by show((d.aV (t.put d.i.a u.value)).s.aF.set m none)[d.n]?=_;rw[List.getElem?_set_ne hmn];exact di ht) (Nat.le_trans hk.av (by decide)) (by decide) (by rw[jL];exact hRl)) fun _ _=>?_
   refine J 2 ?_
   rw[show d.join=((d.aV (t.put d.i.a u.value)).free m).pass x u.value 0 from by unfold Dng.join;rw[← hx];simp only;rw[if_neg (by rw[hz];simp),ho1,dM hu,if_pos h44,dc ht]]
   refine .DW rfl fun w s=>⟨ps.set m none,?_,trivial,ai .auto s⟩
   rfl
  ·refine J 1 ?_
   refine .draw [arr bd 0 (ee b p d vw ve)] [1,1,1,1,1,1,1,1,1,1,1,1,1,1,1,3] rfl (by kernel_rfl) ?_
   refine J 7 ?_
   refine .p (.dF m underlying134 sizeOf133 rfl rfl rfl hm16) ?_
   refine .p (.ld rfl (Cell.a (by rw[Nat.mul_one,eJ hm16,bA hq]))) ?_
   refine J 7 ?_
   rw[Br]
   refine .to (A:=aA ps (d.s.aF.set m (some ({u with ay:=d.n })))) (Bs:=[arr q 0 (bj ({u with ay:=d.n })),aA (ps.set m none) (d.s.aF.set m none)]) .auto (cx (List.getElem?_eq_some_iff.1 hu).1 hq) ?_
   refine J 10 ?_
   refine .c call233 rfl (gG (d:={d with s:=d.s.aV m {u with ay:=d.n } }) (ps:=ps) (p:=p) (t:=t) hp (fC ht hmn) (Nat.le_trans hk.av (by decide))) fun _ _=>?_
   refine J 2 ?_
   rw[show d.join=({d with s:=d.s.aV m {u with ay:=d.n } }:Dng).block 4 d.i.a x 0 from by unfold Dng.join;rw[← hx];simp only;rw[if_neg (by rw[hz];simp),ho1,dM hu,if_neg h44]]
   exact JR 0 ps
theorem Fp{W:World}{bd b p:Nat}{ps:List (Option Nat)}{d:Dng}{t:bE}(hp:ps[d.n]?=some (some p))(ht:d.s.aF[d.n]?=some (some t))(hk:iN ps d t):Fn Tryz.prog W 247 [ptr bd] [bq bd b p ps d] Unit (fun _=>.tuple #[]) (fun _=>True) (fun _=>[bq bd b p ps (d.sleep)]):=by
 refine Fn.intro (N:=34) func247 rfl ntmps247 rfl fun F=>?_
 show aq _ _ _ _ _ _ [bq bd b p ps d,F]
 refine J 3 ?_
 refine .c call213 rfl (wP hp ht hk.I.a) fun _ _=>?_
 have hx0:0≤d.a:=by
  unfold Dng.a;rw[dc ht];exact(hk.R.r _).1
 obtain⟨x,hx⟩:∃ x,x=d.a:=⟨_,rfl⟩
 rw[← hx]
 rw[← hx] at hx0
 refine JD 11 (fun h22=>?_) fun h22=>?_
 ·refine J 3 ?_
  refine .c call210 rfl (cq hp ht (Nat.le_trans hk.av (by decide)) (by decide) hk.R.l) fun _ _=>?_
  refine J 2 ?_
  rw[show d.sleep=d.pass x 0 0 from by unfold Dng.sleep;rw[← hx];simp only;rw[if_pos h22]]
  exact JR 0 ()
 ·refine JD 7 (fun h28=>?_) fun h28=>?_
  ·refine J 3 ?_
   refine .c call210 rfl (cq hp ht (Nat.le_trans hk.av (by decide)) (by decide) hk.R.l) fun _ _=>?_
   refine J 2 ?_
   rw[show d.sleep=d.pass x 0 1 from by unfold Dng.sleep;rw[← hx];simp only;rw[if_neg h22,if_pos h28]]
   exact JR 0 ()
  ·refine J 1 ?_
   refine .o2 (C:=bq bd b p ps (d)) .auto rfl ?_
   rintro vw ve -
   refine .jA (C:=cB b ps (d).s) .auto rfl ?_
   rintro fv sv pv bt vm bg vt bk bw vr -
   refine .draw [arr bd 0 (ee b p d vw ve),arr b 0 (fo fv sv pv d.s.eT bt ps vm bg vt bk bw vr)] [1,1,1,1,1,1,1,1,1,1,1,1,1,3] rfl (by kernel_rfl) ?_
   refine J 12 ?_
   refine .p (.gW underlying110 underlying3 rfl (by omega)) ?_
   refine .c call265 rfl (Aq hk.wn) fun _ _=>?_
   refine J 5 ?_
   refine .c call233 rfl (gG (d:=d.vH (d.s.aT.sleep d.n x).2) hp ht (Nat.le_trans hk.av (by decide))) fun _ _=>?_
   refine J 2 ?_
   rw[show d.sleep=(d.vH (d.s.aT.sleep d.n x).2).block 8 (-1) x 0 from by unfold Dng.sleep;rw[← hx];simp only;rw[if_neg h22,if_neg h28]]
   exact JR 0 ()
theorem DF{W:World}{bd b p:Nat}{ps:List (Option Nat)}{d:Dng}{t:bE}(hp:ps[d.n]?=some (some p))(ht:d.s.aF[d.n]?=some (some t))(hk:iN ps d t){block y bY:Int}(hb:0≤block):Fn Tryz.prog W 244 [ptr bd,.int .u64 block,.int .u64 y,.int .i64 bY] [bq bd b p ps d] Unit (fun _=>.tuple #[]) (fun _=>True) (fun _=>[bq bd b p ps (d.ask block y bY)]):=by
 refine Fn.intro (N:=45) func244 rfl ntmps244 rfl fun F=>?_
 show aq _ _ _ _ _ _ [bq bd b p ps d,F]
 refine JD 12 (fun h10=>?_) fun h10=>?_
 ·refine .o2 (C:=bq bd b p ps (d)) .auto rfl ?_
  rintro vw ve -
  refine .jA (C:=cB b ps (d).s) .auto rfl ?_
  rintro fv sv pv bt vm bg vt bk bw vr -
  refine .draw [arr bd 0 (ee b p d vw ve),arr b 0 (fo fv sv pv d.s.eT bt ps vm bg vt bk bw vr)] [1,1,1,1,1,1,1,1,1,1,1,1,1,1,1,1,1,1,1,1,1,3,1] rfl (by kernel_rfl) ?_
  refine J 12 ?_
  refine .p (.gW underlying110 underlying3 rfl (by omega)) ?_
  refine J 7 ?_
  refine .p (.F1 (fun v1 v2 v3 v4=>[v1,v2,v3,v4]) rfl rfl rfl rfl (by kernel_rfl)) ?_
  refine .c call262 rfl (Iy (r:=(⟨d.n,block,decide (d.i.op=34),y⟩:vC)) hk.dw) fun _ _=>?_
  refine JD 10 (fun h34=>?_) fun h34=>?_
  ·refine J 6 ?_
   refine .c call210 rfl (cq (d:=d.cZ (d.s.bZ.ask ⟨d.n,block,decide (d.i.op=34),y⟩).2) hp ht (Nat.le_trans hk.av (by decide)) G3 hk.R.l) fun _ _=>?_
   refine J 4 ?_
   rw[show d.ask block y bY=(d.cZ (d.s.bZ.ask ⟨d.n,block,decide (d.i.op=34),y⟩).2).pass block y (d.s.bZ.ask ⟨d.n,block,decide (d.i.op=34),y⟩).1 from by unfold Dng.ask;rw[if_pos h10];simp only;rw[if_pos h34]]
   exact JR 0 ()
  ·refine J 7 ?_
   refine .c call233 rfl (gG (d:=d.cZ (d.s.bZ.ask ⟨d.n,block,decide (d.i.op=34),y⟩).2) hp ht (Nat.le_trans hk.av (by decide))) fun _ _=>?_
   refine J 1 ?_
   rw[show d.ask block y bY=(d.cZ (d.s.bZ.ask ⟨d.n,block,decide (d.i.op=34),y⟩).2).block 5 bY block y from by unfold Dng.ask;rw[if_pos h10];simp only;rw[if_neg h34]]
   exact JR 0 ()
 ·refine J 9 ?_
  refine .fu rfl ?_
  refine J 6 ?_
  refine .c call210 rfl (cq hp ht (Nat.le_trans hk.av (by decide)) (by decide) hk.R.l) fun _ _=>?_
  refine J 4 ?_
  rw[show d.ask block y bY=d.pass block y 1 from by unfold Dng.ask;rw[if_neg h10]]
  exact JR 0 ()
end Go.SLYthlllpngkljgfaaGreat
namespace Go.SLYthlllpngkljgfaaGreat
open Go Go.RowKit Go.Proofs Go.Proofs.Tryz
attribute [local irreducible] aq aS bc bx bC Y
theorem Mi{W:World}{bd b p:Nat}{d:Dng}{t:bE}{vw ve:Value}(ht:d.s.aF[d.n]?=some (some t))(hI:0≤d.i.a∧d.i.a<8):Fn Tryz.prog W 213 [ptr bd] [arr bd 0 (ee b p d vw ve),arr p 0 (bj t)] Unit (fun _=>.int .u64 d.a) (fun _=>True) (fun _=>[arr bd 0 (ee b p d vw ve),arr p 0 (bj t)]):=by
 refine Fn.intro (N:=17) func213 rfl ntmps213 rfl fun F=>?_
 show aq _ _ _ _ _ _ [arr bd 0 (ee b p d vw ve),arr p 0 (bj t),F]
 refine J 6 ?_
 refine .draw [] [1,1,1,1,1,1,1,1,1,1,1,1,1,1,1] rfl (by kernel_rfl) ?_
 refine J 12 ?_
 refine .p (.dF d.i.a.toNat underlying163 sizeOf110 rfl rfl (by omega) (by omega)) ?_
 refine .p (.ld rfl (Cell.a (mY (by omega)))) ?_
 refine J 4 ?_
 refine .aG rfl rfl fun w s=>⟨(),?_,trivial,ai .auto s⟩
 rw[show d.a=t.aI.getD d.i.a.toNat 0 from by unfold Dng.a;rw[dc ht];rfl]
theorem IF{W:World}{bd b p:Nat}{d:Dng}{t:bE}{vw ve:Value}(ht:d.s.aF[d.n]?=some (some t))(hI:0≤d.i.b∧d.i.b<8):Fn Tryz.prog W 231 [ptr bd] [arr bd 0 (ee b p d vw ve),arr p 0 (bj t)] Unit (fun _=>.int .u64 d.b) (fun _=>True) (fun _=>[arr bd 0 (ee b p d vw ve),arr p 0 (bj t)]):=by
 refine Fn.intro (N:=17) func231 rfl ntmps231 rfl fun F=>?_
 show aq _ _ _ _ _ _ [arr bd 0 (ee b p d vw ve),arr p 0 (bj t),F]
 refine J 6 ?_
 refine .draw [] [1,1,1,1,1,1,1,1,1,1,1,1,1,1,1] rfl (by kernel_rfl) ?_
 refine J 12 ?_
 refine .p (.dF d.i.b.toNat underlying163 sizeOf110 rfl rfl (by omega) (by omega)) ?_
 refine .p (.ld rfl (Cell.a (mY (by omega)))) ?_
 refine J 4 ?_
 refine .aG rfl rfl fun w s=>⟨(),?_,trivial,ai .auto s⟩
 rw[show d.b=t.aI.getD d.i.b.toNat 0 from by unfold Dng.b;rw[dc ht];rfl]
theorem DG{W:World}{bd b p:Nat}{ps:List (Option Nat)}{d:Dng}{t:bE}(hp:ps[d.n]?=some (some p))(ht:d.s.aF[d.n]?=some (some t))(hk:iN ps d t):Fn Tryz.prog W 217 [ptr bd] [bq bd b p ps d] Unit (fun _=>.tuple #[]) (fun _=>True) (fun _=>[bq bd b p ps (d.er)]):=by
 refine Fn.intro (N:=86) func217 rfl ntmps217 rfl fun F=>?_
 show aq _ _ _ _ _ _ [bq bd b p ps d,F]
 refine .o2 (C:=bq bd b p ps (d)) .auto rfl ?_
 rintro vw ve -
 refine .jA (C:=cB b ps (d).s) .auto rfl ?_
 rintro fv sv pv bt vm bg vt bk bw vr -
 have hnn:=hk.nn
 have hn0:=hk.I.n
 refine J 7 ?_
 refine .p (.gW underlying110 underlying3 rfl (by omega)) ?_
 refine JD 14 (fun h19=>?_) fun h19=>?_
 ·refine J 1 ?_
  refine .draw [arr bd 0 (ee b p d vw ve),arr b 0 (fo fv sv pv d.s.eT bt ps vm bg vt bk bw vr)] [1,1,1,1,1,1,1,1,1,1,1,1,3,1,1,1,1,1,1,1] rfl (by kernel_rfl) ?_
  refine J 12 ?_
  refine .c call242 rfl (Kk hk.gl hk.JJ) fun _ _=>?_
  refine J 1 ?_
  refine .p (.extract (v:=.int .i64 (d.s.al.up d.i.n d.choice).1) rfl rfl) ?_
  refine .p (.extract (v:=.bool (d.s.al.up d.i.n d.choice).2.1) rfl rfl) ?_
  refine .p (.extract (v:=.int .i64 (d.s.al.up d.i.n d.choice).2.2.1) rfl rfl) ?_
  refine J 14 ?_
  refine .c call210 rfl (cq (d:=d.bB (d.s.al.up d.i.n d.choice).2.2.2) hp ht (Nat.le_trans hk.av (by decide)) G4 hk.R.l) fun _ _=>?_
  refine J 7 ?_
  refine .c call236 rfl (qL (n:=(d.s.al.up d.i.n d.choice).1) (ok:=(d.s.al.up d.i.n d.choice).2.1) (d:=((d.bB (d.s.al.up d.i.n d.choice).2.2.2).pass d.i.n 0 (d.s.al.up d.i.n d.choice).2.2.1)) (fun h=>⟨(hk.iR _ (G5 h)).1,((hk.iR _ (G5 h)).2.of (s':=(d.bB (d.s.al.up d.i.n d.choice).2.2.2).s) rfl).pass (d:=d.bB (d.s.al.up d.i.n d.choice).2.2.2) ht hk.R G4⟩) (Nat.le_trans hk.ends (by decide)) (Nat.le_trans hk.AW (by decide))) fun _ _=>?_
  refine J 4 ?_
  rw[show d.er=((d.bB (d.s.al.up d.i.n d.choice).2.2.2).pass d.i.n 0 (d.s.al.up d.i.n d.choice).2.2.1).given (d.s.al.up d.i.n d.choice).1 (d.s.al.up d.i.n d.choice).2.1 from by unfold Dng.er;rw[if_pos h19]]
  exact JR 0 ()
 ·refine J 3 ?_
  refine .draw [arr bd 0 (ee b p d vw ve),arr b 0 (fo fv sv pv d.s.eT bt ps vm bg vt bk bw vr)] [1,1,1,1,1,1,1,1,1,1,1,1,3,1,1,1,1,1] rfl (by kernel_rfl) ?_
  refine J 12 ?_
  refine .c call243 rfl (Fj hk.gl hk.JJ) fun _ _=>?_
  refine J 1 ?_
  refine .p (.extract (v:=.bool (d.s.al.down d.n d.i.n).1) rfl rfl) ?_
  refine .p (.extract (v:=.int .i64 (d.s.al.down d.n d.i.n).2.1) rfl rfl) ?_
  refine J 10 ?_
  apply aS.gz 3 70 67 [67,68,69,70] rfl
  ·intro h67
   exact JS 4
  ·intro h67
   exact JS 4
  refine JD 2 (fun h70=>?_) fun h70=>?_
  ·simp only[Bool.and_eq_true,decide_eq_true_eq,Bool.not_eq_true'] at h70
   refine J 8 ?_
   refine .c call233 rfl (gG (d:=d.bB (d.s.al.down d.n d.i.n).2.2) hp ht (Nat.le_trans hk.av (by decide))) fun _ _=>?_
   refine J 4 ?_
   rw[show d.er=(d.bB (d.s.al.down d.n d.i.n).2.2).block 3 (-1) d.i.n 0 from by unfold Dng.er;rw[if_neg h19];simp only;rw[if_pos h70]]
   exact JR 0 ()
  ·simp only[Bool.and_eq_false_iff,decide_eq_false_iff_not,Bool.not_eq_false'] at h70
   refine J 10 ?_
   refine .c call210 rfl (cq (d:=d.bB (d.s.al.down d.n d.i.n).2.2) hp ht (Nat.le_trans hk.av (by decide)) C7 hk.R.l) fun _ _=>?_
   refine J 1 ?_
   rw[show d.er=(d.bB (d.s.al.down d.n d.i.n).2.2).pass d.i.n 0 (d.s.al.down d.n d.i.n).2.1 from by unfold Dng.er;rw[if_neg h19];simp only;rw[if_neg (by rintro⟨a,b⟩;rcases h70 with h | h;exact h a;rw[b] at h;cases h)]]
   exact JR 0 ()
theorem qM{W:World}{bd b p:Nat}{ps:List (Option Nat)}{d:Dng}{t:bE}(hp:ps[d.n]?=some (some p))(ht:d.s.aF[d.n]?=some (some t))(hk:iN ps d t):Fn Tryz.prog W 214 [ptr bd] [bq bd b p ps d] Unit (fun _=>.tuple #[]) (fun _=>True) (fun _=>[bq bd b p ps (d.mutex)]):=by
 refine Fn.intro (N:=155) func214 rfl ntmps214 rfl fun F=>?_
 show aq _ _ _ _ _ _ [bq bd b p ps d,F]
 refine .o2 (C:=bq bd b p ps (d)) .auto rfl ?_
 rintro vw ve -
 refine .jA (C:=cB b ps (d).s) .auto rfl ?_
 rintro fv sv pv bt vm bg vt bk bw vr -
 have hnn:=hk.nn
 have hn0:=hk.I.n
 have hIc:=hk.I.c
 have hwc:=LB hIc
 refine J 7 ?_
 refine .p (.gW underlying110 underlying3 rfl (by omega)) ?_
 refine JD 19 (fun h81=>?_) fun h81=>?_
 ·refine J 1 ?_
  refine .draw [arr bd 0 (ee b p d vw ve),arr b 0 (fo fv sv pv d.s.eT bt ps vm bg vt bk bw vr)] [1,1,1,1,1,1,1,1,1,1,1,1,3,1,1,1,1,1] rfl (by kernel_rfl) ?_
  refine J 12 ?_
  refine .c call234 rfl (Fh hk.gl) fun _ _=>?_
  refine J 1 ?_
  refine .p (.extract (v:=.bool (d.s.al.lock d.n d.i.n).1) rfl rfl) ?_
  refine .p (.extract (v:=.int .i64 (d.s.al.lock d.n d.i.n).2.1) rfl rfl) ?_
  refine J 10 ?_
  apply aS.gz 3 104 101 [101,102,103,104] rfl
  ·intro h101
   exact JS 4
  ·intro h101
   exact JS 4
  refine JD 2 (fun h104=>?_) fun h104=>?_
  ·simp only[Bool.and_eq_true,decide_eq_true_eq,Bool.not_eq_true'] at h104
   refine J 8 ?_
   refine .c call233 rfl (gG (d:=d.bB (d.s.al.lock d.n d.i.n).2.2) hp ht (Nat.le_trans hk.av (by decide))) fun _ _=>?_
   refine J 5 ?_
   rw[show d.mutex=(d.bB (d.s.al.lock d.n d.i.n).2.2).block 1 (-1) d.i.n 0 from by unfold Dng.mutex;simp only;rw[if_pos h81,if_pos h104]]
   exact JR 0 ()
  ·simp only[Bool.and_eq_false_iff,decide_eq_false_iff_not,Bool.not_eq_false'] at h104
   refine J 10 ?_
   refine .c call210 rfl (cq (d:=d.bB (d.s.al.lock d.n d.i.n).2.2) hp ht (Nat.le_trans hk.av (by decide)) C5 hk.R.l) fun _ _=>?_
   refine J 2 ?_
   rw[show d.mutex=(d.bB (d.s.al.lock d.n d.i.n).2.2).pass d.i.n 0 (d.s.al.lock d.n d.i.n).2.1 from by unfold Dng.mutex;simp only;rw[if_pos h81,if_neg (by rintro⟨a,b⟩;rcases h104 with h | h;exact h a;rw[b] at h;cases h)]]
   exact JR 0 ()
 ·refine JD 6 (fun h120=>?_) fun h120=>?_
  ·refine J 1 ?_
   refine .draw [arr bd 0 (ee b p d vw ve),arr b 0 (fo fv sv pv d.s.eT bt ps vm bg vt bk bw vr)] [1,1,1,1,1,1,1,1,1,1,1,1,1,1,1,1,3,1,1,1,1,1,1,1] rfl (by kernel_rfl) ?_
   refine J 16 ?_
   refine .c call235 rfl (Ap hk.gl) fun _ _=>?_
   refine J 1 ?_
   refine .p (.extract (v:=.int .i64 (d.s.al.unlock d.n d.i.n d.choice).1) rfl rfl) ?_
   refine .p (.extract (v:=.bool (d.s.al.unlock d.n d.i.n d.choice).2.1) rfl rfl) ?_
   refine .p (.extract (v:=.int .i64 (d.s.al.unlock d.n d.i.n d.choice).2.2.1) rfl rfl) ?_
   refine J 14 ?_
   refine .c call210 rfl (cq (d:=d.bB (d.s.al.unlock d.n d.i.n d.choice).2.2.2) hp ht (Nat.le_trans hk.av (by decide)) qz hk.R.l) fun _ _=>?_
   refine J 6 ?_
   refine .c call236 rfl (qL (n:=(d.s.al.unlock d.n d.i.n d.choice).1) (ok:=(d.s.al.unlock d.n d.i.n d.choice).2.1) (d:=((d.bB (d.s.al.unlock d.n d.i.n d.choice).2.2.2).pass d.i.n 0 (d.s.al.unlock d.n d.i.n d.choice).2.2.1)) (fun h=>⟨(hk.iR _ (tF h)).1,((hk.iR _ (tF h)).2.of (s':=(d.bB (d.s.al.unlock d.n d.i.n d.choice).2.2.2).s) rfl).pass (d:=d.bB (d.s.al.unlock d.n d.i.n d.choice).2.2.2) ht hk.R qz⟩) (Nat.le_trans hk.ends (by decide)) (Nat.le_trans hk.AW (by decide))) fun _ _=>?_
   refine J 2 ?_
   rw[show d.mutex=((d.bB (d.s.al.unlock d.n d.i.n d.choice).2.2.2).pass d.i.n 0 (d.s.al.unlock d.n d.i.n d.choice).2.2.1).given (d.s.al.unlock d.n d.i.n d.choice).1 (d.s.al.unlock d.n d.i.n d.choice).2.1 from by unfold Dng.mutex;simp only;rw[if_neg h81,if_pos h120]]
   exact JR 0 ()
  ·refine J 1 ?_
   refine .draw [arr bd 0 (ee b p d vw ve),arr b 0 (fo fv sv pv d.s.eT bt ps vm bg vt bk bw vr)] [1,1,1,1,1,1,1,1,1,1,1,1,1,1,1,1,1,1,1,1,1,3,1,1,1,1,1,1,1] rfl (by kernel_rfl) ?_
   refine J 21 ?_
   refine .c call237 rfl (Fi hk.gl) fun _ _=>?_
   refine J 1 ?_
   refine .p (.extract (v:=.int .i64 (d.s.al.wait d.n d.i.n d.i.c d.choice).1) rfl rfl) ?_
   refine .p (.extract (v:=.bool (d.s.al.wait d.n d.i.n d.i.c d.choice).2.1) rfl rfl) ?_
   refine .p (.extract (v:=.int .i64 (d.s.al.wait d.n d.i.n d.i.c d.choice).2.2.1) rfl rfl) ?_
   refine JD 12 (fun h48=>?_) fun h48=>?_
   ·refine J 1 ?_
    refine .draw [] [1,1,1,1,1,1,1,1,1,1,1,1,1,3] rfl (by kernel_rfl) ?_
    refine J 11 ?_
    refine .p (.sP underlying3 underlying110 rfl (by omega)) ?_
    refine J 1 ?_
    refine .c call210 rfl (cq (d:=d.bB (d.s.al.wait d.n d.i.n d.i.c d.choice).2.2.2) hp ht (Nat.le_trans hk.av (by decide)) C6 hk.R.l) fun _ _=>?_
    refine J 5 ?_
    rw[show d.mutex=(d.bB (d.s.al.wait d.n d.i.n d.i.c d.choice).2.2.2).pass d.i.n d.i.c (d.s.al.wait d.n d.i.n d.i.c d.choice).2.2.1 from by unfold Dng.mutex;simp only;rw[if_neg h81,if_neg h120,if_pos h48,hwc]]
    exact JR 0 ()
   ·refine J 3 ?_
    refine .draw [] [1,1,1,1,1,1,1,1,1,1,1,1,3] rfl (by kernel_rfl) ?_
    refine J 11 ?_
    refine .p (.sP underlying3 underlying110 rfl (by omega)) ?_
    refine .c call233 rfl (gG (d:=d.bB (d.s.al.wait d.n d.i.n d.i.c d.choice).2.2.2) hp ht (Nat.le_trans hk.av (by decide))) fun _ _=>?_
    refine J 6 ?_
    refine .c call236 rfl (qL (n:=(d.s.al.wait d.n d.i.n d.i.c d.choice).1) (ok:=(d.s.al.wait d.n d.i.n d.i.c d.choice).2.1) (d:=((d.bB (d.s.al.wait d.n d.i.n d.i.c d.choice).2.2.2).block 2 (-1) d.i.n d.i.c)) (fun h=>⟨(hk.iR _ (zC h)).1,((hk.iR _ (zC h)).2.of (s':=(d.bB (d.s.al.wait d.n d.i.n d.i.c d.choice).2.2.2).s) rfl).block (d:=d.bB (d.s.al.wait d.n d.i.n d.i.c d.choice).2.2.2) ht hk.R (by decide)⟩) (Nat.le_trans hk.ends (by decide)) (Nat.le_trans hk.AW (by decide))) fun _ _=>?_
    refine J 2 ?_
    rw[show d.mutex=((d.bB (d.s.al.wait d.n d.i.n d.i.c d.choice).2.2.2).block 2 (-1) d.i.n d.i.c).given (d.s.al.wait d.n d.i.n d.i.c d.choice).1 (d.s.al.wait d.n d.i.n d.i.c d.choice).2.1 from by unfold Dng.mutex;simp only;rw[if_neg h81,if_neg h120,if_neg h48,hwc]]
    exact JR 0 ()
end Go.SLYthlllpngkljgfaaGreat
namespace Go.SLYthlllpngkljgfaaGreat
open Go Go.RowKit Go.Proofs Go.Proofs.Tryz
attribute [local irreducible] aq aS bc bx bC Y
theorem Kr{W:World}{bd b p:Nat}{ps:List (Option Nat)}{d:Dng}{t:bE}(hp:ps[d.n]?=some (some p))(ht:d.s.aF[d.n]?=some (some t))(hk:iN ps d t)(hop:d.i.op=35∨d.i.op=36):Fn Tryz.prog W 245 [ptr bd] [bq bd b p ps d] Unit (fun _=>.tuple #[]) (fun _=>True) (fun _=>[bq bd b p ps (d.put)]):=by
 refine Fn.intro (N:=57) func245 rfl ntmps245 rfl fun F=>?_
 show aq _ _ _ _ _ _ [bq bd b p ps d,F]
 refine .o2 (C:=bq bd b p ps (d)) .auto rfl ?_
 rintro vw ve -
 refine .jA (C:=cB b ps (d).s) .auto rfl ?_
 rintro fv sv pv bt vm bg vt bk bw vr -
 have hnn:=hk.nn
 have hn0:=hk.I.n
 refine .o1 (C:=oG vt d.s.cc) .auto rfl ?_
 rintro xs hxs
 obtain⟨xq,hx,hmem⟩:=C8 hxs hn0.1 (hk.Nj hop)
 have hxl:xs.length=d.s.cc.length:=by rw[← hxs,List.length_map]
 have hti:=hk.Nj hop
 refine .fr .auto (bQ hp ht) ?_
 refine J 1 ?_
 refine .draw [] [1,1,1,1,1,1,1,1,1,1,1,1,1,1,1] rfl (by kernel_rfl) ?_
 refine J 12 ?_
 refine .p (.ix d.i.n.toNat rfl rfl (by omega) (by omega)) ?_
 refine .p (.lr rfl hx) ?_
 refine J 6 ?_
 refine .c call213 rfl (Mi ht hk.I.a) fun _ _=>?_
 refine J 5 ?_
 obtain⟨x,hx0⟩:∃ x,x=d.a:=⟨_,rfl⟩
 rw[← hx0]
 refine J 6 ?_
 refine .fr .auto (tD (f:=fun x:Nat×Tub=>iv x.1 x.2) hx) ?_
 refine .c call263 rfl (Iw (hk.tl _ hmem)) fun _ _=>?_
 refine .to (A:=oG vt (d.s.cc.set d.i.n.toNat (d.bV.put d.n x).2.2.2)) (Bs:=[sl bH 1 vt xs,iv xq (d.bV.put d.n x).2.2.2,aD (fun x:Nat×Tub=>iv x.1 x.2) (xs.eraseIdx d.i.n.toNat)]) .auto (xP hx hxs (d.bV.put d.n x).2.2.2) ?_
 refine .to (A:=aA ps d.s.aF) (Bs:=[arr p 0 (bj t),aA (ps.set d.n none) (d.s.aF.set d.n none)]) .auto (bP hp ht) ?_
 refine J 1 ?_
 refine .p (.extract (v:=.bool (d.bV.put d.n x).1) rfl rfl) ?_
 refine .p (.extract (v:=.int .i64 (d.bV.put d.n x).2.1) rfl rfl) ?_
 refine .p (.extract (v:=.bool (d.bV.put d.n x).2.2.1) rfl rfl) ?_
 refine JD 12 (fun h35=>?_) fun h35=>?_
 ·refine J 9 ?_
  refine .c call233 rfl (gG (d:=(d.eK d.i.n.toNat (d.bV.put d.n x).2.2.2)) hp ht (Nat.le_trans hk.av (by decide))) fun _ _=>?_
  refine J 4 ?_
  rw[show d.put=(d.eK d.i.n.toNat (d.bV.put d.n x).2.2.2).block 7 (-1) d.i.n x from by unfold Dng.put;rw[← hx0];simp only;rw[if_pos (by simpa using h35)]]
  exact JR 0 ()
 ·refine J 11 ?_
  refine .c call210 rfl (cq (d:=(d.eK d.i.n.toNat (d.bV.put d.n x).2.2.2)) hp ht (Nat.le_trans hk.av (by decide)) (by decide) hk.R.l) fun _ _=>?_
  refine JD 7 (fun h52=>?_) fun h52=>?_
  ·have hlv:=(hk.zN _ hmem).1 _ (G6 h52)
   obtain⟨hw16,q,u,hq,hu,hRu⟩:=(hlv.2.of (s':=(d.eK d.i.n.toNat (d.bV.put d.n x).2.2.2).s) rfl).pass (x:=d.i.n) (y:=x) (e:=0) (d:=(d.eK d.i.n.toNat (d.bV.put d.n x).2.2.2)) ht hk.R (by decide)
   refine J 4 ?_
   refine .c call207 rfl (kr (d:=(d.eK d.i.n.toNat (d.bV.put d.n x).2.2.2).pass d.i.n x 0) hlv.1 hq hu hw16 hRu (Nat.le_trans hk.ends (by decide)) (Nat.le_trans hk.AW (by decide))) fun _ _=>?_
   refine J 1 ?_
   rw[show d.put=((d.eK d.i.n.toNat (d.bV.put d.n x).2.2.2).pass d.i.n x 0).cj (d.bV.put d.n x).2.1.toNat x from by unfold Dng.put;rw[← hx0];simp only;rw[if_neg (by simpa using h35),if_pos h52]]
   exact JR 0 ()
  ·refine J 1 ?_
   rw[show d.put=(d.eK d.i.n.toNat (d.bV.put d.n x).2.2.2).pass d.i.n x 0 from by unfold Dng.put;rw[← hx0];simp only;rw[if_neg (by simpa using h35),if_neg (by rw[h52];simp)]]
   exact JR 0 ()
theorem Ks{W:World}{bd b p:Nat}{ps:List (Option Nat)}{d:Dng}{t:bE}(hp:ps[d.n]?=some (some p))(ht:d.s.aF[d.n]?=some (some t))(hk:iN ps d t)(hop:d.i.op=35∨d.i.op=36):Fn Tryz.prog W 246 [ptr bd] [bq bd b p ps d] Unit (fun _=>.tuple #[]) (fun _=>True) (fun _=>[bq bd b p ps (d.get)]):=by
 refine Fn.intro (N:=70) func246 rfl ntmps246 rfl fun F=>?_
 show aq _ _ _ _ _ _ [bq bd b p ps d,F]
 refine .o2 (C:=bq bd b p ps (d)) .auto rfl ?_
 rintro vw ve -
 refine .jA (C:=cB b ps (d).s) .auto rfl ?_
 rintro fv sv pv bt vm bg vt bk bw vr -
 have hnn:=hk.nn
 have hn0:=hk.I.n
 refine .o1 (C:=oG vt d.s.cc) .auto rfl ?_
 rintro xs hxs
 obtain⟨xq,hx,hmem⟩:=C8 hxs hn0.1 (hk.Nj hop)
 have hxl:xs.length=d.s.cc.length:=by rw[← hxs,List.length_map]
 have hti:=hk.Nj hop
 have hIa:=hk.I.a
 have hRl:=hk.R.l
 refine J 1 ?_
 refine .fr .auto (tD (f:=fun x:Nat×Tub=>iv x.1 x.2) hx) ?_
 refine .draw [arr bd 0 (ee b p d vw ve),arr b 0 (fo fv sv pv d.s.eT bt ps vm bg vt bk bw vr),sl bH 1 vt xs] [1,1,1,1,1,1,1,1,1,1,1,1,1,1,1,1,1,1,3,1,1,1,1,1,1,1,1,1] rfl (by kernel_rfl) ?_
 refine J 12 ?_
 refine .p (.ix d.i.n.toNat rfl rfl (by omega) (by omega)) ?_
 refine .p (.lr rfl hx) ?_
 refine J 4 ?_
 refine .c call264 rfl (Ix (hk.tl _ hmem)) fun _ _=>?_
 refine J 1 ?_
 refine .p (.extract (v:=.int .u64 (d.bV.get d.n).1) rfl rfl) ?_
 refine .p (.extract (v:=.bool (d.bV.get d.n).2.1) rfl rfl) ?_
 refine .p (.extract (v:=.int .i64 (d.bV.get d.n).2.2.1) rfl rfl) ?_
 refine .p (.extract (v:=.bool (d.bV.get d.n).2.2.2.1) rfl rfl) ?_
 refine JD 13 (fun h31=>?_) fun h31=>?_
 ·refine J 1 ?_
  refine .to (A:=oG vt (d.s.cc.set d.i.n.toNat (d.bV.get d.n).2.2.2.2)) (Bs:=[sl bH 1 vt xs,iv xq (d.bV.get d.n).2.2.2.2,aD (fun x:Nat×Tub=>iv x.1 x.2) (xs.eraseIdx d.i.n.toNat)]) .auto (xP hx hxs (d.bV.get d.n).2.2.2.2) ?_
  refine .draw [] [1,1,1,1,1,1,1,1,1,1,1,3] rfl (by kernel_rfl) ?_
  refine J 11 ?_
  refine .c call233 rfl (gG (d:=(d.eK d.i.n.toNat (d.bV.get d.n).2.2.2.2)) hp ht (Nat.le_trans hk.av (by decide))) fun _ _=>?_
  refine J 4 ?_
  rw[show d.get=(d.eK d.i.n.toNat (d.bV.get d.n).2.2.2.2).block 6 d.i.a d.i.n 0 from by unfold Dng.get;simp only;rw[if_pos (by simpa using h31)]]
  exact JR 0 ()
 ·refine J 3 ?_
  refine .to (A:=oG vt (d.s.cc.set d.i.n.toNat (d.bV.get d.n).2.2.2.2)) (Bs:=[sl bH 1 vt xs,iv xq (d.bV.get d.n).2.2.2.2,aD (fun x:Nat×Tub=>iv x.1 x.2) (xs.eraseIdx d.i.n.toNat)]) .auto (xP hx hxs (d.bV.get d.n).2.2.2.2) ?_
  refine .fr .auto (bQ hp ht) ?_
  refine .draw [arr bd 0 (ee b p d vw ve)] [1,1,1,1,1,1,1,1,1,1,1,1,1,1,3] rfl (by kernel_rfl) ?_
  refine J 13 ?_
  refine .p (.dF d.i.a.toNat underlying163 sizeOf110 rfl rfl (by omega) (by omega)) ?_
  refine .d3 rfl (af.st sizeOf110 rfl rfl rfl (Nat.blt_eq.mpr (by show 2+d.i.a.toNat * 1<18;omega))) ?_
  rintro _ _ ⟨rfl,rfl⟩
  rw[ju _ (by omega) (by omega) hRl]
  refine .to (A:=aA ps (d.s.aF.set d.n (some (t.put d.i.a (d.bV.get d.n).1)))) (Bs:=[arr p 0 (bj (t.put d.i.a (d.bV.get d.n).1)),aA (ps.set d.n none) (d.s.aF.set d.n none)]) .auto (cx (List.getElem?_eq_some_iff.1 ht).1 hp) ?_
  refine J 11 ?_
  refine .c call210 rfl (cq (d:=((d.eK d.i.n.toNat (d.bV.get d.n).2.2.2.2).aV (t.put d.i.a (d.bV.get d.n).1))) (t:=t.put d.i.a (d.bV.get d.n).1) hp (di ht) (Nat.le_trans hk.av (by decide)) (by decide) (by rw[jL];exact hRl)) fun _ _=>?_
  refine JD 7 (fun h66=>?_) fun h66=>?_
  ·obtain⟨z,hz,hzw⟩:=G7 h66
   have hlv:=(hk.zN _ hmem).2 z hz
   rw[hzw] at hlv
   have hRg:=hk.R.put (i:=d.i.a) (G8 (who:=d.n) (hk.tw _ hmem))
   obtain⟨hw16,q,u,hq,hu,hRu⟩:=((hlv.2.of (s':=(d.eK d.i.n.toNat (d.bV.get d.n).2.2.2.2).s) rfl).aV (n:=d.n) hRg).pass (x:=d.i.n) (y:=(d.bV.get d.n).1) (e:=0) (d:=((d.eK d.i.n.toNat (d.bV.get d.n).2.2.2.2).aV (t.put d.i.a (d.bV.get d.n).1))) (di ht) hRg (by decide)
   refine J 3 ?_
   refine .c call207 rfl (kr (d:=((d.eK d.i.n.toNat (d.bV.get d.n).2.2.2.2).aV (t.put d.i.a (d.bV.get d.n).1)).pass d.i.n (d.bV.get d.n).1 0) hlv.1 hq hu hw16 hRu (Nat.le_trans hk.ends (by decide)) (Nat.le_trans hk.AW (by decide))) fun _ _=>?_
   refine J 1 ?_
   rw[show d.get=(((d.eK d.i.n.toNat (d.bV.get d.n).2.2.2.2).aV (t.put d.i.a (d.bV.get d.n).1)).pass d.i.n (d.bV.get d.n).1 0).cj (d.bV.get d.n).2.2.1.toNat 0 from by unfold Dng.get;simp only;rw[if_neg (by simpa using h31),if_pos h66,show(d.eK d.i.n.toNat (d.bV.get d.n).2.2.2.2).t=t from dc ht]]
   exact JR 0 ()
  ·refine J 1 ?_
   rw[show d.get=((d.eK d.i.n.toNat (d.bV.get d.n).2.2.2.2).aV (t.put d.i.a (d.bV.get d.n).1)).pass d.i.n (d.bV.get d.n).1 0 from by unfold Dng.get;simp only;rw[if_neg (by simpa using h31),if_neg (by rw[h66];simp),show(d.eK d.i.n.toNat (d.bV.get d.n).2.2.2.2).t=t from dc ht]]
   exact JR 0 ()
end Go.SLYthlllpngkljgfaaGreat
namespace Go.SLYthlllpngkljgfaaGreat
open Go Go.RowKit Go.Proofs Go.Proofs.Tryz
attribute [local irreducible] aq aS bc bx bC Y
theorem Fq{W:World}{bd b p:Nat}{ps:List (Option Nat)}{d:Dng}{t:bE}(hp:ps[d.n]?=some (some p))(ht:d.s.aF[d.n]?=some (some t))(hk:iN ps d t):Fn Tryz.prog W 209 [ptr bd] [bq bd b p ps d] (List (Option Nat)) (fun _=>.tuple #[]) (fun _=>True) (fun qs=>[bq bd b p qs d.spawn]):=by
 refine Fn.intro (N:=70) func209 rfl ntmps209 rfl fun F=>?_
 show aq _ _ _ _ _ _ [bq bd b p ps d,F]
 refine .o2 (C:=bq bd b p ps (d)) .auto rfl ?_
 rintro vw ve -
 refine .jA (C:=cB b ps (d).s) .auto rfl ?_
 rintro fv sv pv bt vm bg vt bk bw vr -
 have hnn:=hk.nn
 have hn0:=hk.I.n
 refine .fr .auto (bQ hp ht) ?_
 have hIa:=hk.I.a
 have hRl:=hk.R.l
 have hlt:=hk.lt
 refine J 1 ?_
 refine .draw [arr bd 0 (ee b p d vw ve)] [0,0,0,0,0,0,0,0,0,0,1,2,3,1,1,1,1,1] rfl (by kernel_rfl) ?_
 refine J 9 ?_
 refine .q (.gW underlying110 underlying3 rfl (by omega)) ?_
 refine J 1 ?_
 refine .c2 call231 rfl (IF ht hk.I.b) fun _ _=>?_
 refine .to (A:=aA ps d.s.aF) (Bs:=[arr p 0 (bj t),aA (ps.set d.n none) (d.s.aF.set d.n none)]) .auto (bP hp ht) ?_
 refine .d3 rfl (af.eH rfl call80 rfl (ui hk.T hk.lt hk.free) .auto) ?_
 rintro _ _ ⟨qs,⟨q,hqs⟩,rfl,rfl⟩
 refine J 1 ?_
 refine .p (.extract (v:=.int .i64 (d.s.begin d.i.n d.b).1) rfl rfl) ?_
 refine .p (.extract (v:=.int .i64 (d.s.begin d.i.n d.b).2.1) rfl rfl) ?_
 refine JD 16 (fun h22=>?_) fun h22=>?_
 ·obtain⟨n,hfr⟩:∃ n,slotFree? d.s.table 0=some n:=by
   cases hh:slotFree? d.s.table 0 with
   | none=>rw[j9 hh] at h22;cases h22
   | some n=>exact⟨n,rfl⟩
  have hb1:(d.s.begin d.i.n d.b).1=(n:Int):=by rw[eU hfr]
  have hn0e:=hk.free n hfr
  have hn16:n<16:=hlt ▸ (List.getElem?_eq_some_iff.1 hn0e).1
  obtain⟨t1,ht1,ht1e⟩:=vU (f:=d.i.n) (arg:=d.b) hfr (by omega)
  have hqn:qs[n]?=some (some q):=by
   rw[hqs];unfold mS;rw[hfr];exact List.getElem?_set_self (by rw[hk.lp];exact hn16)
  have hne:n≠d.n:=fun e=>by rw[e,ht] at hn0e;cases hn0e
  have hp2:qs[d.n]?=some (some p):=by
   rw[hqs];unfold mS;rw[hfr];exact(List.getElem?_set_ne hne).trans hp
  have ht2:(d.s.begin d.i.n d.b).2.2.aF[d.n]?=some (some t):=by
   rw[eU hfr];exact(List.getElem?_set_ne hne).trans ht
  rw[hb1]
  refine J 2 ?_
  refine .jA (C:=cB b qs (d.s.begin d.i.n d.b).2.2) .auto rfl ?_
  rintro fv sv pv bt vm bg vt bk bw vr -
  refine .fr .auto (bQ hqn ht1) ?_
  refine J 7 ?_
  refine .p (.dF n underlying134 sizeOf133 rfl rfl rfl hn16) ?_
  refine .p (.ld rfl (Cell.a (by rw[Nat.mul_one,eJ hn16,bA hqn]))) ?_
  refine J 14 ?_
  refine .aj rfl (af.gI 3 rfl rfl (by kernel_rfl)) ?_
  rintro _ _ ⟨b42,rfl,rfl⟩
  refine .aj rfl (af.gg (enc:=au) (k:=1) (n:Int) rfl underlying50 underlying50 typeInfo3 rfl rfl rfl (by decide) rfl rfl rfl .auto rfl .auto (by have:=hk.AW;omega) rfl) ?_
  rintro _ _ ⟨v43,rfl,rfl⟩
  refine J 3 ?_
  refine .aj rfl (af.lY sizeOf50 rfl rfl rfl) ?_
  rintro _ _ ⟨rfl,rfl⟩
  refine J 3 ?_
  refine .to (A:=aA qs (d.s.begin d.i.n d.b).2.2.aF) (Bs:=[arr q 0 (bj t1),aA (qs.set n none) ((d.s.begin d.i.n d.b).2.2.aF.set n none)]) .auto (bP hqn ht1) ?_
  refine .fr .auto (bQ hp2 ht2) ?_
  refine .draw [arr bd 0 (ee b p d v43 ve)] [1,1,1,1,1,1,1,1,1,1,1,1,1,1,3] rfl (by kernel_rfl) ?_
  refine J 13 ?_
  refine .p (.dF d.i.a.toNat underlying163 sizeOf110 rfl rfl (by omega) (by omega)) ?_
  refine .d3 rfl (af.st sizeOf110 rfl rfl rfl (Nat.blt_eq.mpr (by show 2+d.i.a.toNat * 1<18;omega))) ?_
  rintro _ _ ⟨rfl,rfl⟩
  rw[ju _ (by omega) (by omega) hRl]
  refine .to (A:=aA qs ((d.s.begin d.i.n d.b).2.2.aF.set d.n (some (t.put d.i.a t1.handle)))) (Bs:=[arr p 0 (bj (t.put d.i.a t1.handle)),aA (qs.set d.n none) ((d.s.begin d.i.n d.b).2.2.aF.set d.n none)]) .auto (cx (List.getElem?_eq_some_iff.1 ht2).1 hp2) ?_
  refine J 11 ?_
  refine .c call210 rfl (cq (d:=({d with s:=(d.s.begin d.i.n d.b).2.2,out:={d.out with ar:=d.out.ar++[(n:Int)] } }:Dng).aV (t.put d.i.a t1.handle)) (ps:=qs) (p:=p) (t:=t.put d.i.a t1.handle) hp2 (di ht2) (by show(d.s.begin d.i.n d.b).2.2.av.length≤_;rw[eU hfr];exact(Nat.le_trans hk.av (by decide))) (by rw[h22];decide) (by rw[jL];exact hRl)) fun _ _=>?_
  refine J 1 ?_
  rw[show d.spawn=(({d with s:=(d.s.begin d.i.n d.b).2.2,out:={d.out with ar:=d.out.ar++[(n:Int)] } }:Dng).aV (t.put d.i.a t1.handle)).pass d.i.n t1.handle (d.s.begin d.i.n d.b).2.1 from by unfold Dng.spawn;simp only;rw[if_pos h22,if_pos h22,hb1,Int.toNat_natCast,dM ht1,show({d with s:=(d.s.begin d.i.n d.b).2.2,out:={d.out with ar:=d.out.ar++[(n:Int)] } }:Dng).t=t from dM ht2]]
  exact JR 0 qs
 ·have hfr:slotFree? d.s.table 0=none:=by
   cases hh:slotFree? d.s.table 0 with
   | none=>rfl
   | some n=>exact absurd (by rw[eU hh]) h22
  have hb:(d.s.begin d.i.n d.b)=(0,2,d.s):=j9 hfr
  obtain rfl:qs=ps:=by rw[hqs];unfold mS;rw[hfr]
  rw[hb]
  have hp2:=hp
  have ht2:=ht
  refine .to (A:=cB b qs d.s) (Bs:=[cB b qs d.s]) .auto (fun h a=>by simpa only[seps,aJ] using a) ?_
  refine .jA (C:=cB b qs d.s) .auto rfl ?_
  rintro fv sv pv bt vm bg vt bk bw vr -
  refine .fr .auto (bQ hp2 ht2) ?_
  refine J 3 ?_
  refine .draw [arr bd 0 (ee b p d vw ve)] [1,1,1,1,1,1,1,1,1,1,1,1,1,1,3] rfl (by kernel_rfl) ?_
  refine J 13 ?_
  refine .p (.dF d.i.a.toNat underlying163 sizeOf110 rfl rfl (by omega) (by omega)) ?_
  refine .d3 rfl (af.st sizeOf110 rfl rfl rfl (Nat.blt_eq.mpr (by show 2+d.i.a.toNat * 1<18;omega))) ?_
  rintro _ _ ⟨rfl,rfl⟩
  rw[ju _ (by omega) (by omega) hRl]
  refine .to (A:=aA qs (d.s.aF.set d.n (some (t.put d.i.a 0)))) (Bs:=[arr p 0 (bj (t.put d.i.a 0)),aA (qs.set d.n none) (d.s.aF.set d.n none)]) .auto (cx (List.getElem?_eq_some_iff.1 ht2).1 hp2) ?_
  refine J 11 ?_
  refine .c call210 rfl (cq (d:=d.aV (t.put d.i.a 0)) (ps:=qs) (p:=p) (t:=t.put d.i.a 0) (e:=2) hp2 (di ht2) (Nat.le_trans hk.av (by decide)) (by decide) (by rw[jL];exact hRl)) fun _ _=>?_
  refine J 1 ?_
  rw[show d.spawn=(d.aV (t.put d.i.a 0)).pass d.i.n 0 2 from by unfold Dng.spawn;rw[hb];simp only;rw[if_neg (by decide),if_neg (by decide),dc ht]]
  exact JR 0 qs
theorem Cf{W:World}{bd b p:Nat}{ps:List (Option Nat)}{d:Dng}{t:bE}(hp:ps[d.n]?=some (some p))(ht:d.s.aF[d.n]?=some (some t))(hk:iN ps d t):Fn Tryz.prog W 218 [ptr bd] [bq bd b p ps d] Unit (fun _=>.tuple #[]) (fun _=>True) (fun _=>[bq bd b p ps (d.kernel)]):=by
 refine Fn.intro (N:=42) func218 rfl ntmps218 rfl fun F=>?_
 show aq _ _ _ _ _ _ [bq bd b p ps d,F]
 refine .o2 (C:=bq bd b p ps (d)) .auto rfl ?_
 rintro vw ve -
 have ha0:0≤d.a:=by
  unfold Dng.a;rw[dc ht];exact(hk.R.r _).1
 have hb0:0≤d.b:=by
  unfold Dng.b;rw[dc ht];exact(hk.R.r _).1
 refine JD 16 (fun h11=>?_) fun h11=>?_
 ·refine .jA (C:=cB b ps (d).s) .auto rfl ?_
  rintro fv sv pv bt vm bg vt bk bw vr -
  refine .fr .auto (bQ hp ht) ?_
  refine .draw [arr bd 0 (ee b p d vw ve)] [0,1,2,0,0,0,0,0,3] rfl (by kernel_rfl) ?_
  refine J 2 ?_
  refine .c2 call231 rfl (IF ht hk.I.b) fun _ _=>?_
  refine J 5 ?_
  refine .to (A:=aA ps d.s.aF) (Bs:=[arr p 0 (bj t),aA (ps.set d.n none) (d.s.aF.set d.n none)]) .auto (bP hp ht) ?_
  refine .c call244 rfl (DF hp ht hk hb0) fun _ _=>?_
  refine J 2 ?_
  rw[show d.kernel=d.ask d.b 0 d.i.a from by unfold Dng.kernel;repeat (first | rw[if_neg (by omega)] | rw[if_pos (by omega)])]
  exact JR 0 ()
 ·refine JD 6 (fun h22=>?_) fun h22=>?_
  ·refine J 3 ?_
   refine .c call213 rfl (wP hp ht hk.I.a) fun _ _=>?_
   refine J 1 ?_
   refine .c call231 rfl (KT hp ht hk.I.b) fun _ _=>?_
   refine .c call244 rfl (DF hp ht hk ha0) fun _ _=>?_
   refine J 2 ?_
   rw[show d.kernel=d.ask d.a d.b (-1) from by unfold Dng.kernel;repeat (first | rw[if_neg (by omega)] | rw[if_pos (by omega)])]
   exact JR 0 ()
  ·refine JD 6 (fun h30=>?_) fun h30=>?_
   ·refine J 2 ?_
    refine .c call245 rfl (Kr hp ht hk (.inl h30)) fun _ _=>?_
    refine J 2 ?_
    rw[show d.kernel=d.put from by unfold Dng.kernel;repeat (first | rw[if_neg (by omega)] | rw[if_pos (by omega)])]
    exact JR 0 ()
   ·refine JD 6 (fun h34=>?_) fun h34=>?_
    ·refine J 2 ?_
     refine .c call246 rfl (Ks hp ht hk (.inr h34)) fun _ _=>?_
     refine J 2 ?_
     rw[show d.kernel=d.get from by unfold Dng.kernel;repeat (first | rw[if_neg (by omega)] | rw[if_pos (by omega)])]
     exact JR 0 ()
    ·refine JD 6 (fun h38=>?_) fun h38=>?_
     ·refine J 2 ?_
      refine .c call247 rfl (Fp hp ht hk) fun _ _=>?_
      refine J 2 ?_
      rw[show d.kernel=d.sleep from by unfold Dng.kernel;repeat (first | rw[if_neg (by omega)] | rw[if_pos (by omega)])]
      exact JR 0 ()
     ·refine J 3 ?_
      refine .c call213 rfl (wP hp ht hk.I.a) fun _ _=>?_
      refine .c call210 rfl (cq hp ht (Nat.le_trans hk.av (by decide)) (by decide) hk.R.l) fun _ _=>?_
      refine J 2 ?_
      rw[show d.kernel=d.pass d.a 0 0 from by unfold Dng.kernel;repeat (first | rw[if_neg (by omega)] | rw[if_pos (by omega)])]
      exact JR 0 ()
end Go.SLYthlllpngkljgfaaGreat
namespace Go.SLYthlllpngkljgfaaGreat
open Go Go.RowKit Go.Proofs Go.Proofs.Tryz
attribute [local irreducible] aq aS bc bx bC Y
theorem wW{W:World}{bd b p:Nat}{ps:List (Option Nat)}{d:Dng}{l:List Int}{u:Value}(hl:∀ w∈l,0≤w∧bM ps d.s w.toNat)(hw:∀ w∈d.waits,0≤w∧bM ps d.s w.toNat)(hm:d.s.eT.bu≤(d.s.al.dh.length:Int))(hgm:d.s.al.dh.length≤1000000)(hmw:∀ x∈d.s.al.dh,x.wait.length≤1000000)(hb:d.ends.length+l.length≤1000000∧d.out.ar.length+l.length≤1000000):Fn Tryz.prog W 216 [ptr bd,u] [bq bd b p ps d,sl au 1 u l] Unit (fun _=>.tuple #[]) (fun _=>True) (fun _=>[bq bd b p ps (d.lF l),sl au 1 u l]):=by
 refine Fn.intro (N:=57) func216 rfl ntmps216 rfl fun F=>?_
 show aq _ _ _ _ _ _ [bq bd b p ps d,sl au 1 u l,F]
 refine .o2 (C:=bq bd b p ps d) .auto rfl ?_
 rintro vw ve -
 refine .jA (C:=cB b ps d.s) .auto rfl ?_
 rintro fv sv pv bt vm bg vt bk bw vr -
 have hww:eC d d.s.eT.bu.toNat=d.waits:=rfl
 refine J 15 ?_
 refine .bn (X:=Nat) [4,6,17,18,19,20,21,22,23,24,25,26,27,28,29,30,31,32,33,34,35,36,37,38,39,40,41,42,43,44,45,46] (fun k=>d.s.eT.bu.toNat-k) (fun k=>k≤d.s.eT.bu.toNat) (fun k=>[(17,some (.int .i64 (k:Int)))]) (fun k=>[bq bd b p ps ({d with s:=cM d.s (eC d k) }:Dng),sl au 1 u l,F]) 0 ?_ ?_ ?_ ?_
 ·exact Nat.zero_le _
 ·exact⟨rfl,trivial⟩
 ·exact fun w s=>ax.kept .auto w s
 rintro k hk
 refine JD 6 (fun h18=>?_) fun h18=>?_
 ·refine J 12 ?_
  obtain⟨x,hx⟩:=ak (show k<d.s.al.dh.length by omega)
  refine .o2 (C:=bq bd b p ps (({d with s:=cM d.s (eC d k) }:Dng))) .auto rfl ?_
  rintro vw ve -
  refine .jA (C:=cB b ps (({d with s:=cM d.s (eC d k) }:Dng)).s) .auto rfl ?_
  rintro fv sv pv bt vm bg vt bk bw vr -
  refine J 8 ?_
  have hxg:(cM d.s (eC d k)).al.dh[k]?=some x:=by rw[xQ];exact hx
  have hxl:=hmw x (List.mem_of_getElem? hx)
  refine .c call241 rfl (vf hxg hxl) fun u28 _=>?_
  refine J 5 ?_
  refine .bn (X:=Nat) [6,30,31,32,33,34,35,36,37,38,39,40,41,42,43,44,45] (fun j=>(x.wait.map (·.who)).length-j) (fun j=>j≤(x.wait.map (·.who)).length) (fun j=>[(30,some (.int .i64 (j:Int)))]) (fun j=>[bq bd b p ps ({d with s:=cM d.s (eC d k++(x.wait.map (·.who)).take j) }:Dng),sl au 1 u28 (x.wait.map (·.who)),sl au 1 u l,F]) 0 ?_ ?_ ?_ ?_
  ·exact Nat.zero_le _
  ·exact⟨rfl,trivial⟩
  ·rw[List.take_zero,List.append_nil];exact fun w s=>ax.kept .auto w s
  rintro j hj
  refine JD 6 (fun h31=>?_) fun h31=>?_
  ·refine J 6 ?_
   have hxl2:(x.wait.map (·.who)).length≤1000000:=by rw[List.length_map];exact hxl
   obtain⟨w,hwj⟩:=ak (show j<(x.wait.map (·.who)).length by omega)
   have hwm:w∈d.waits:=List.mem_flatMap.2 ⟨x,List.mem_of_getElem? (i:=k) (by rw[List.getElem?_take_of_lt (by omega)];exact hx),List.mem_of_getElem? hwj⟩
   obtain⟨hw0,hwl⟩:=hw w hwm
   obtain⟨hw16,q,v,hq,hv,hRv⟩:=tG w.toNat (eC d k++(x.wait.map (·.who)).take j) hwl
   refine J 6 ?_
   refine .o2 (C:=bq bd b p ps (({d with s:=cM d.s (eC d k++(x.wait.map (·.who)).take j) }:Dng))) .auto rfl ?_
   rintro vw ve -
   refine .jA (C:=cB b ps (({d with s:=cM d.s (eC d k++(x.wait.map (·.who)).take j) }:Dng)).s) .auto rfl ?_
   rintro fv sv pv bt vm bg vt bk bw vr -
   refine .fr .auto (bQ hq hv) ?_
   refine J 7 ?_
   refine .p (.dF w.toNat underlying134 sizeOf133 rfl rfl (by omega) hw16) ?_
   refine .p (.ld rfl (Cell.a (by rw[Nat.mul_one,eJ hw16,bA hq]))) ?_
   refine J 3 ?_
   rw[oY]
   refine J 7 ?_
   refine .to (A:=aA ps (({d with s:=cM d.s (eC d k++(x.wait.map (·.who)).take j) }:Dng).s.aF.set w.toNat (some ({v with cQ:=1 })))) (Bs:=[arr q 0 (bj ({v with cQ:=1 })),aA (ps.set w.toNat none) (({d with s:=cM d.s (eC d k++(x.wait.map (·.who)).take j) }:Dng).s.aF.set w.toNat none)]) .auto (cx (List.getElem?_eq_some_iff.1 hv).1 hq) ?_
   refine .aL (j+1) .auto rfl ?_ ?_ ?_ ?_
   ·omega
   ·show j+1≤_;omega
   ·exact⟨rfl,trivial⟩
   ·rw[aX hwj, ← List.append_assoc,Bu _ _ [w],show cM (cM d.s (eC d k++(x.wait.map (·.who)).take j)) [w]=(cM d.s (eC d k++(x.wait.map (·.who)).take j)).aV w.toNat {v with cQ:=1 } from by show Spc.aV _ _ _=_;rw[dM hv]];exact fun w s=>ax.kept .auto w s
  ·refine J 10 ?_
   rw[List.take_of_length_le (by omega), ← xU hx]
   refine .aL (k+1) .auto rfl ?_ ?_ ?_ ?_
   ·omega
   ·show k+1≤_;omega
   ·exact⟨rfl,trivial⟩
   ·exact fun w s=>ax.kept .auto w s
 ·refine J 13 ?_
  rw[show k=d.s.eT.bu.toNat from by omega,hww]
  refine .bn (X:=Nat) [8,49,50,51,52,53,54,55,56] (fun k=>l.length-k) (fun k=>k≤l.length) (fun k=>[(49,some (.int .i64 (k:Int)))]) (fun k=>[bq bd b p ps (({d with s:=cM d.s d.waits }:Dng).dz (l.take k)),sl au 1 u l,F]) 0 ?_ ?_ ?_ ?_
  ·exact Nat.zero_le _
  ·exact⟨rfl,trivial⟩
  ·exact fun w s=>ax.kept .auto w s
  rintro k hk
  refine JD 6 (fun h50=>?_) fun h50=>?_
  ·refine J 6 ?_
   obtain⟨w,hwj⟩:=ak (show k<l.length by omega)
   have hwl:=hl w (List.mem_of_getElem? hwj)
   obtain⟨hw16,q,v,hq,hv,hRv⟩:=xS w.toNat (l.take k) ({d with s:=cM d.s d.waits }:Dng) (tG _ _ hwl.2) (fun z hz=>tG _ _ (hl z (List.mem_of_mem_take hz)).2)
   have hgl2:=rh ({d with s:=cM d.s d.waits }:Dng) (l.take k)
   rw[List.length_take] at hgl2
   refine J 8 ?_
   refine .c call207 rfl (kr (d:=({d with s:=cM d.s d.waits }:Dng).dz (l.take k)) hwl.1 hq hv hw16 hRv (by show(Dng.dz _ _).ends.length≤_;simp only at hgl2;omega) (by show(Dng.dz _ _).out.ar.length≤_;simp only at hgl2;omega)) fun _ _=>?_
   refine J 7 ?_
   refine .aL (k+1) .auto rfl ?_ ?_ ?_ ?_
   ·omega
   ·show k+1≤_;omega
   ·exact⟨rfl,trivial⟩
   ·rw[aX hwj,xR];exact fun w s=>ax.kept .auto w s
  ·refine J 4 ?_
   rw[show d.lF l=({d with s:=cM d.s d.waits }:Dng).dz (l.take k) from by rw[List.take_of_length_le (by omega)];rfl]
   exact JR 0 ()
theorem IG{W:World}{bd b p:Nat}{ps:List (Option Nat)}{d:Dng}{t:bE}(hp:ps[d.n]?=some (some p))(ht:d.s.aF[d.n]?=some (some t))(hk:iN ps d t):Fn Tryz.prog W 187 [ptr bd] [bq bd b p ps d] (List (Option Nat)) (fun _=>.tuple #[]) (fun _=>True) (fun qs=>[bq bd b p qs d.call]):=by
 refine Fn.intro (N:=124) func187 rfl ntmps187 rfl fun F=>?_
 show aq _ _ _ _ _ _ [bq bd b p ps d,F]
 refine .o2 (C:=bq bd b p ps (d)) .auto rfl ?_
 rintro vw ve -
 have hnn:=hk.nn
 have hn0:=hk.I.n
 have hIa:=hk.I.a
 have hRl:=hk.R.l
 refine JD 16 (fun h11=>?_) fun h11=>?_
 ·refine J 2 ?_
  refine .c call209 rfl (Fq hp ht hk) fun qs _=>?_
  refine J 2 ?_
  rw[show d.call=d.spawn from by unfold Dng.call;repeat (first | rw[if_neg (by omega)] | rw[if_pos (by omega)])]
  exact JR 0 qs
 ·refine JD 6 (fun h15=>?_) fun h15=>?_
  ·refine J 1 ?_
   refine .jA (C:=cB b ps (d).s) .auto rfl ?_
   rintro fv sv pv bt vm bg vt bk bw vr -
   refine .fr .auto (bQ hp ht) ?_
   refine .draw [arr bd 0 (ee b p d vw ve)] [1,1,1,1,1,1,1,1,1,1,1,1,1,1,1,1,1,1,1,1,3] rfl (by kernel_rfl) ?_
   refine J 19 ?_
   refine .p (.dF d.i.a.toNat underlying163 sizeOf110 rfl rfl (by omega) (by omega)) ?_
   refine .d3 rfl (af.st sizeOf110 rfl rfl rfl (Nat.blt_eq.mpr (by show 2+d.i.a.toNat * 1<18;omega))) ?_
   rintro _ _ ⟨rfl,rfl⟩
   rw[ju _ (by omega) (by omega) hRl]
   refine J 10 ?_
   refine .p (.ld rfl (Cell.a (cs:=bj (t.put d.i.a t.handle)) rfl)) ?_
   refine .to (A:=aA ps (d.s.aF.set d.n (some (t.put d.i.a t.handle)))) (Bs:=[arr p 0 (bj (t.put d.i.a t.handle)),aA (ps.set d.n none) (d.s.aF.set d.n none)]) .auto (cx (List.getElem?_eq_some_iff.1 ht).1 hp) ?_
   refine .c call210 rfl (cq (d:=d.aV (t.put d.i.a t.handle)) (t:=t.put d.i.a t.handle) hp (di ht) (Nat.le_trans hk.av (by decide)) (by decide) (by rw[jL];exact hRl)) fun _ _=>?_
   refine J 2 ?_
   rw[show d.call=(d.aV (t.put d.i.a t.handle)).pass 0 t.handle 0 from by unfold Dng.call;rw[if_neg h11,if_pos h15,dc ht]]
   exact JR 0 ps
  ·refine JD 6 (fun h46=>?_) fun h46=>?_
   ·refine J 3 ?_
    refine .c call210 rfl (cq hp ht (Nat.le_trans hk.av (by decide)) (by decide) hk.R.l) fun _ _=>?_
    refine J 3 ?_
    refine .o2 (C:=bq bd b p ps (d.pass 0 0 0)) .auto rfl ?_
    rintro vw ve -
    refine J 5 ?_
    rw[JG]
    refine J 2 ?_
    rw[show d.call = {d.pass 0 0 0 with out:={d.out with yielded:=true } } from by unfold Dng.call;repeat (first | rw[if_neg (by omega)] | rw[if_pos (by omega)])]
    exact JR 0 ps
   ·refine JD 6 (fun h54=>?_) fun h54=>?_
    ·refine J 2 ?_
     refine .c call211 rfl (IE hp ht hk) fun qs _=>?_
     refine J 2 ?_
     rw[show d.call=d.join from by unfold Dng.call;repeat (first | rw[if_neg (by omega)] | rw[if_pos (by omega)])]
     exact JR 0 qs
    ·refine JD 6 (fun h58=>?_) fun h58=>?_
     ·refine J 2 ?_
      refine .c call212 rfl (Ce hp ht hk) fun qs _=>?_
      refine J 2 ?_
      rw[show d.call=d.fW from by unfold Dng.call;repeat (first | rw[if_neg (by omega)] | rw[if_pos (by omega)])]
      exact JR 0 qs
     ·refine JD 6 (fun h62=>?_) fun h62=>?_
      ·refine J 4 ?_
       refine .c call213 rfl (wP hp ht hk.I.a) fun _ _=>?_
       refine .c call184 rfl (jy hp ht (Nat.le_trans hk.av (by decide))) fun _ _=>?_
       refine J 5 ?_
       refine .c call213 rfl (wP (d:=d.tell d.a 0 0 true) hp ht hk.I.a) fun _ _=>?_
       rw[show(d.tell d.a 0 0 true).a=d.a from rfl]
       refine .c call185 rfl (sr (d:=d.tell d.a 0 0 true) hp ht hk.lt hk.lp hk.T hk.R (Nat.le_trans hk.ends (by decide)) (Nat.le_trans hk.AW (by decide)) hk.join) fun qs _=>?_
       refine J 2 ?_
       rw[show d.call=(d.tell d.a 0 0 true).fin d.a from by unfold Dng.call;repeat (first | rw[if_neg (by omega)] | rw[if_pos (by omega)])]
       exact JR 0 qs
      ·refine JD 7 (fun h72=>?_) fun h72=>?_
       ·refine J 2 ?_
        first | refine aq.dX rfl (fun _=>?_) (fun hc=>absurd h72 hc) | refine aq.cond rfl (fun _=>?_) (fun hc=>by rw[h72] at hc;cases hc)
        refine J 2 ?_
        refine .c call214 rfl (qM hp ht hk) fun _ _=>?_
        refine J 2 ?_
        rw[show d.call=d.mutex from by unfold Dng.call;repeat (first | rw[if_neg (by omega)] | rw[if_pos (by omega)])]
        exact JR 0 ps
       ·refine JD 6 (fun h72=>?_) fun h72=>?_
        ·refine J 2 ?_
         first | refine aq.dX rfl (fun _=>?_) (fun hc=>absurd h72 hc) | refine aq.cond rfl (fun _=>?_) (fun hc=>by rw[h72] at hc;cases hc)
         refine J 2 ?_
         refine .c call214 rfl (qM hp ht hk) fun _ _=>?_
         refine J 2 ?_
         rw[show d.call=d.mutex from by unfold Dng.call;repeat (first | rw[if_neg (by omega)] | rw[if_pos (by omega)])]
         exact JR 0 ps
        ·refine JD 5 (fun h72c=>?_) fun h72c=>?_
         ·refine J 2 ?_
          refine .c call214 rfl (qM hp ht hk) fun _ _=>?_
          refine J 2 ?_
          rw[show d.call=d.mutex from by unfold Dng.call;repeat (first | rw[if_neg (by omega)] | rw[if_pos (by omega)])]
          exact JR 0 ps
         ·refine JD 7 (fun h78=>?_) fun h78=>?_
          ·refine J 2 ?_
           first | refine aq.dX rfl (fun _=>?_) (fun hc=>absurd h78 hc) | refine aq.cond rfl (fun _=>?_) (fun hc=>by rw[h78] at hc;cases hc)
           refine J 1 ?_
           refine .jA (C:=cB b ps (d).s) .auto rfl ?_
           rintro fv sv pv bt vm bg vt bk bw vr -
           refine .draw [arr bd 0 (ee b p d vw ve),arr b 0 (fo fv sv pv d.s.eT bt ps vm bg vt bk bw vr)] [1,1,1,1,1,1,1,1,1,1,1,1,1,1,1,1,1,1,1,1,1,1,1,3,1,1,1,1,1] rfl (by kernel_rfl) ?_
           refine J 12 ?_
           refine .p (.gW underlying110 underlying3 rfl (by omega)) ?_
           refine J 10 ?_
           refine .c call215 rfl (rB hk.gl hk.JK) fun u105 _=>?_
           refine J 1 ?_
           refine .p (.extract (v:=u105) rfl rfl) ?_
           refine .p (.extract (v:=.int .i64 (d.s.al.signal d.i.n d.choice (decide (d.i.op=29))).2.1) rfl rfl) ?_
           refine J 13 ?_
           refine .c call210 rfl (cq (d:=(d.bB (d.s.al.signal d.i.n d.choice (decide (d.i.op=29))).2.2)) hp ht (Nat.le_trans hk.av (by decide)) ia hk.R.l) fun _ _=>?_
           have sigw:∀ w∈((d.bB (d.s.al.signal d.i.n d.choice (decide (d.i.op=29))).2.2).pass d.i.n 0 (d.s.al.signal d.i.n d.choice (decide (d.i.op=29))).2.1).waits,d.s.al.has w:=fun w h=>by
            obtain⟨x,hx,hw⟩:=List.mem_flatMap.1 h
            obtain⟨y,hy,rfl⟩:=List.mem_map.1 hw
            exact(kU hk.BE.1 hk.BE.2 x (List.mem_of_mem_take hx)).2 y hy
           refine J 5 ?_
           refine .c call216 rfl (wW (d:=((d.bB (d.s.al.signal d.i.n d.choice (decide (d.i.op=29))).2.2).pass d.i.n 0 (d.s.al.signal d.i.n d.choice (decide (d.i.op=29))).2.1)) (l:=(d.s.al.signal d.i.n d.choice (decide (d.i.op=29))).1) (fun w h=>⟨(hk.iR w (kT w h)).1,((hk.iR w (kT w h)).2.of (s':=(d.bB (d.s.al.signal d.i.n d.choice (decide (d.i.op=29))).2.2).s) rfl).pass (d:=(d.bB (d.s.al.signal d.i.n d.choice (decide (d.i.op=29))).2.2)) ht hk.R ia⟩) (fun w h=>⟨(hk.iR w (sigw w h)).1,((hk.iR w (sigw w h)).2.of (s':=(d.bB (d.s.al.signal d.i.n d.choice (decide (d.i.op=29))).2.2).s) rfl).pass (d:=(d.bB (d.s.al.signal d.i.n d.choice (decide (d.i.op=29))).2.2)) ht hk.R ia⟩) (by show d.s.eT.bu≤((d.s.al.signal d.i.n d.choice (decide (d.i.op=29))).2.2.dh.length:Int);rw[jN];exact hk.JL) (by show((d.s.al.signal d.i.n d.choice (decide (d.i.op=29))).2.2.dh.length)≤_;rw[jN];exact hk.gl.m) (fun x h=>(kU hk.BE.1 hk.BE.2 x h).1) (by have:=nV (c:=d.i.n) (ch:=d.choice) (all:=decide (d.i.op=29)) hk.BE.2;have:=hk.ends;have:=hk.AW;exact⟨by show d.ends.length+_≤_;omega,by show d.out.ar.length+_≤_;omega⟩)) fun _ _=>?_
           refine J 2 ?_
           rw[show d.call=((d.bB (d.s.al.signal d.i.n d.choice (decide (d.i.op=29))).2.2).pass d.i.n 0 (d.s.al.signal d.i.n d.choice (decide (d.i.op=29))).2.1).lF (d.s.al.signal d.i.n d.choice (decide (d.i.op=29))).1 from by unfold Dng.call;repeat (first | rw[if_neg (by omega)] | rw[if_pos (by omega)])]
           exact JR 0 ps
          ·refine JD 5 (fun h78=>?_) fun h78=>?_
           ·refine J 1 ?_
            refine .jA (C:=cB b ps (d).s) .auto rfl ?_
            rintro fv sv pv bt vm bg vt bk bw vr -
            refine .draw [arr bd 0 (ee b p d vw ve),arr b 0 (fo fv sv pv d.s.eT bt ps vm bg vt bk bw vr)] [1,1,1,1,1,1,1,1,1,1,1,1,1,1,1,1,1,1,1,1,1,1,1,3,1,1,1,1,1] rfl (by kernel_rfl) ?_
            refine J 12 ?_
            refine .p (.gW underlying110 underlying3 rfl (by omega)) ?_
            refine J 10 ?_
            refine .c call215 rfl (rB hk.gl hk.JK) fun u105 _=>?_
            refine J 1 ?_
            refine .p (.extract (v:=u105) rfl rfl) ?_
            refine .p (.extract (v:=.int .i64 (d.s.al.signal d.i.n d.choice (decide (d.i.op=29))).2.1) rfl rfl) ?_
            refine J 13 ?_
            refine .c call210 rfl (cq (d:=(d.bB (d.s.al.signal d.i.n d.choice (decide (d.i.op=29))).2.2)) hp ht (Nat.le_trans hk.av (by decide)) ia hk.R.l) fun _ _=>?_
            have sigw:∀ w∈((d.bB (d.s.al.signal d.i.n d.choice (decide (d.i.op=29))).2.2).pass d.i.n 0 (d.s.al.signal d.i.n d.choice (decide (d.i.op=29))).2.1).waits,d.s.al.has w:=fun w h=>by
             obtain⟨x,hx,hw⟩:=List.mem_flatMap.1 h
             obtain⟨y,hy,rfl⟩:=List.mem_map.1 hw
             exact(kU hk.BE.1 hk.BE.2 x (List.mem_of_mem_take hx)).2 y hy
            refine J 5 ?_
            refine .c call216 rfl (wW (d:=((d.bB (d.s.al.signal d.i.n d.choice (decide (d.i.op=29))).2.2).pass d.i.n 0 (d.s.al.signal d.i.n d.choice (decide (d.i.op=29))).2.1)) (l:=(d.s.al.signal d.i.n d.choice (decide (d.i.op=29))).1) (fun w h=>⟨(hk.iR w (kT w h)).1,((hk.iR w (kT w h)).2.of (s':=(d.bB (d.s.al.signal d.i.n d.choice (decide (d.i.op=29))).2.2).s) rfl).pass (d:=(d.bB (d.s.al.signal d.i.n d.choice (decide (d.i.op=29))).2.2)) ht hk.R ia⟩) (fun w h=>⟨(hk.iR w (sigw w h)).1,((hk.iR w (sigw w h)).2.of (s':=(d.bB (d.s.al.signal d.i.n d.choice (decide (d.i.op=29))).2.2).s) rfl).pass (d:=(d.bB (d.s.al.signal d.i.n d.choice (decide (d.i.op=29))).2.2)) ht hk.R ia⟩) (by show d.s.eT.bu≤((d.s.al.signal d.i.n d.choice (decide (d.i.op=29))).2.2.dh.length:Int);rw[jN];exact hk.JL) (by show((d.s.al.signal d.i.n d.choice (decide (d.i.op=29))).2.2.dh.length)≤_;rw[jN];exact hk.gl.m) (fun x h=>(kU hk.BE.1 hk.BE.2 x h).1) (by have:=nV (c:=d.i.n) (ch:=d.choice) (all:=decide (d.i.op=29)) hk.BE.2;have:=hk.ends;have:=hk.AW;exact⟨by show d.ends.length+_≤_;omega,by show d.out.ar.length+_≤_;omega⟩)) fun _ _=>?_
            refine J 2 ?_
            rw[show d.call=((d.bB (d.s.al.signal d.i.n d.choice (decide (d.i.op=29))).2.2).pass d.i.n 0 (d.s.al.signal d.i.n d.choice (decide (d.i.op=29))).2.1).lF (d.s.al.signal d.i.n d.choice (decide (d.i.op=29))).1 from by unfold Dng.call;repeat (first | rw[if_neg (by omega)] | rw[if_pos (by omega)])]
            exact JR 0 ps
           ·refine JD 7 (fun h119=>?_) fun h119=>?_
            ·refine J 2 ?_
             first | refine aq.dX rfl (fun _=>?_) (fun hc=>absurd h119 hc) | refine aq.cond rfl (fun _=>?_) (fun hc=>by rw[h119] at hc;cases hc)
             refine J 2 ?_
             refine .c call217 rfl (DG hp ht hk) fun _ _=>?_
             refine J 2 ?_
             rw[show d.call=d.er from by unfold Dng.call;repeat (first | rw[if_neg (by omega)] | rw[if_pos (by omega)])]
             exact JR 0 ps
            ·refine JD 5 (fun h119=>?_) fun h119=>?_
             ·refine J 2 ?_
              refine .c call217 rfl (DG hp ht hk) fun _ _=>?_
              refine J 2 ?_
              rw[show d.call=d.er from by unfold Dng.call;repeat (first | rw[if_neg (by omega)] | rw[if_pos (by omega)])]
              exact JR 0 ps
             ·refine J 2 ?_
              refine .c call218 rfl (Cf hp ht hk) fun _ _=>?_
              refine J 2 ?_
              rw[show d.call=d.kernel from by unfold Dng.call;repeat (first | rw[if_neg (by omega)] | rw[if_pos (by omega)])]
              exact JR 0 ps
end Go.SLYthlllpngkljgfaaGreat
namespace Go.SLYthlllpngkljgfaaGreat
open Go Go.RowKit Go.Proofs Go.Proofs.Tryz
attribute [local irreducible] aq aS bc bx bC Y
theorem uz{W:World}{fv c1 c2 c3 c4 c5 c6 c7:Value}{p:fM}{f:iP}(hl:p.funcs.length≤1000000)(hl2:∀ g∈p.funcs,g.length≤256):Fn Tryz.prog W 179 [.agg #[fv,c1,c2,c3,c4,c5,c6,c7],.agg (iM f).toArray] [y8 fv p.funcs] Unit (fun _=>KK (dT p f)) (fun _=>True) (fun _=>[y8 fv p.funcs]) :=
 Fn.NB fun fs hfs=>B8 (A:=seps [sl ej 1 fv fs,aD (fun x=>sl dH 5 x.1 x.2) fs]) (Rd.ez (Rd.sl .here)) (fun x hx=>Rd.ez (xH (f:=fun x:Value×List Ins=>x.1) (g:=fun x=>x.2) hx (.there .here))) hfs (by rw[← List.length_map (f:=(·.2)),hfs];exact hl) (fun x hx=>Nat.le_trans (hl2 _ (by rw[← hfs];exact List.mem_map_of_mem hx)) (by decide))
theorem Ar{W:World}{b:Nat}{s:Spc}{n choice:Int}(hO:fj s):Fn Tryz.prog W 163 [ptr b,.int .i64 n,.int .i64 choice] [ca b s] Value (fun u=>.tuple #[.agg (nS u (s.run n choice).1).toArray,.int .i64 (s.run n choice).2.1]) (fun _=>True) (fun u=>[sl au 1 u (s.run n choice).1.ar,ca b (s.run n choice).2.2]):=by
 refine Fn.intro (N:=76) func163 rfl ntmps163 rfl fun F=>?_
 show aq _ _ _ _ _ _ [ca b s,F]
 refine .o1 (C:=ca b s) .auto rfl ?_
 rintro ps -
 refine .jA (C:=cB b ps s) .auto rfl ?_
 rintro fv sv pv bt vm bg vt bk bw vr -
 refine .cK (fun w st=>st.fact .auto jb) fun hs=>?_
 refine J 2 ?_
 refine .aj rfl (af.alloc rfl zeroValue66 rfl) ?_
 rintro _ _ ⟨b6,rfl,rfl⟩
 refine J 7 ?_
 refine .c call178 rfl DB fun _ _=>?_
 refine JD 12 (fun h15=>?_) fun h15=>?_
 ·have hap:Bt ps n=none:=by
   cases hh:Bt ps n with
   | none=>rfl
   | some p=>rw[hh] at h15;cases h15
  refine J 2 ?_
  refine .p (.lR ([(.slice none 0 0),(.bool false),(.bool false),(.bool false)]) (by kernel_rfl)) ?_
  refine J 7 ?_
  rw[zD (KM hs hap hO.lt)]
  refine .fT rfl rfl isAgg66 (by exact sizeOf66) Cells.a rfl fun w s=>⟨(.slice none 0 0),?_,trivial,ai .auto s⟩
  rfl
 ·obtain⟨p,hap⟩:∃ p,Bt ps n=some p:=by
   cases hh:Bt ps n with
   | none=>rw[hh] at h15;cases h15
   | some p=>exact⟨p,rfl⟩
  rw[hap]
  obtain⟨k,t,rfl,hk16,hp,ht,hat⟩:=G9 hs hap hO.lt
  have hR:=(hO.R k t ht).1
  have hpc:=(hO.R k t ht).2
  refine J 2 ?_
  refine .jA (C:=cB b ps s) .auto rfl ?_
  rintro fv sv pv bt vm bg vt bk bw vr -
  refine .fr .auto (bQ hp ht) ?_
  refine JD 8 (fun h19=>?_) fun h19=>?_
  ·refine J 2 ?_
   refine .p (.lR ([(.slice none 0 0),(.bool false),(.bool false),(.bool false)]) (by kernel_rfl)) ?_
   refine J 7 ?_
   refine .to (A:=aA ps s.aF) (Bs:=[arr p 0 (bj t),aA (ps.set k none) (s.aF.set k none)]) .auto (bP hp ht) ?_
   rw[zE hat h19]
   refine .fT rfl rfl isAgg66 (by exact sizeOf66) Cells.a rfl fun w s=>⟨(.slice none 0 0),?_,trivial,ai .auto s⟩
   rfl
  ·have hw0:t.cQ=0:=Decidable.not_not.mp h19
   refine J 4 ?_
   refine .vz [arr b 0 (fo fv sv pv s.eT bt ps vm bg vt bk bw vr),arr p 0 (bj t)] [0,0,0,0,0,0,0,0,2,0,0,0,4,2,0] [0,1,2,3,4,5,6,7,8,9,10,11,12,13,14] rfl (by kernel_rfl) ?_
   refine bC.q rfl rfl rfl Kept.auto (Y.m rfl) ?_
   refine bC.q rfl rfl rfl Kept.auto (Y.n rfl) ?_
   refine bC.q rfl rfl rfl Kept.auto (Y.gq 56 underlying137 rfl sizeOf56 rfl) ?_
   refine bC.q rfl rfl rfl Kept.auto (Y.FZ isAgg56 rfl (Cells.lQ (ds:=zG fv sv pv s.eT) (Cells.a (cs:=fo fv sv pv s.eT bt ps vm bg vt bk bw vr)) rfl) (by exact sizeOf56)) ?_
   refine bC.q rfl rfl rfl Kept.auto (Y.m rfl) ?_
   refine bC.q rfl rfl rfl Kept.auto (Y.n rfl) ?_
   refine bC.q rfl rfl rfl Kept.auto (Y.gq 165 underlying167 rfl sizeOf165 rfl) ?_
   refine bC.q rfl rfl rfl Kept.auto (Y.FZ isAgg165 rfl (Cells.lQ (ds:=iM t.mX) (Cells.a (cs:=bj t)) rfl) (by exact sizeOf165)) ?_
   refine bC.eH rfl (.inl rfl) rfl (fun _=>Kept.auto) call179 rfl (uz (p:=s.eT) (f:=t.mX) hO.zO.1 hO.zO.2) .auto (fun _ _=>Kept.auto) ?_
   rintro⟨⟩ -
   refine bC.q rfl rfl rfl Kept.auto (Y.m rfl) ?_
   refine bC.q rfl rfl rfl Kept.auto (Y.extract (v:=.agg (dH ((dT s.eT t.mX).getD Ins.z)).toArray) rfl rfl) ?_
   refine bC.q rfl rfl rfl Kept.auto (Y.extract (v:=.bool (dT s.eT t.mX).isSome) rfl rfl) ?_
   refine bC.fresh rfl rfl rfl (by decide) Kept.auto (lT zeroValue112 rfl) ?_
   rintro b9
   refine bC.LA rfl rfl (by exact sizeOf112) rfl rfl rfl (by rfl) Kept.auto Kept.auto ?_
   refine bC.q rfl rfl rfl Kept.auto (Y.a rfl) ?_
   refine bC.nil ?_
   refine J 8 ?_
   refine .p (.Nr (fun _ _ _ _ _=>ee b p (s.dL k ((dT s.eT t.mX).getD Ins.z) choice) (.slice none 0 0) (.slice none 0 0)) rfl rfl rfl rfl rfl (by kernel_rfl)) ?_
   refine .aj rfl (af.box rfl rfl rfl) ?_
   rintro _ _ ⟨b44,rfl,rfl⟩
   refine JD 12 (fun h56=>?_) fun h56=>?_
   ·have hn:(dT s.eT t.mX)=none:=Option.isNone_iff_eq_none.mp (by simpa using h56)
    refine J 3 ?_
    refine .p (.hG (fun v1=>[v1,(.int .i64 0),(.int .i64 0),(.int .i64 0),(.int .u64 0)]) rfl (by kernel_rfl)) ?_
    refine J 2 ?_
    refine .aj rfl (af.KI (vs:=dH ⟨23,0,0,0,0⟩) (by exact sizeOf112) rfl rfl rfl rfl) ?_
    rintro _ _ ⟨rfl,rfl⟩
    rw[show setFrom (ee b p (s.dL k ((dT s.eT t.mX).getD Ins.z) choice) (.slice none 0 0) (.slice none 0 0)) 3 (dH ⟨23,0,0,0,0⟩)=ee b p (s.dL k ⟨23,0,0,0,0⟩ choice) (.slice none 0 0) (.slice none 0 0) from rfl]
    refine J 5 ?_
    refine .to (A:=aA ps s.aF) (Bs:=[arr p 0 (bj t),aA (ps.set k none) (s.aF.set k none)]) .auto (bP hp ht) ?_
    refine .c call184 rfl (jy (d:=(s.dL k ⟨23,0,0,0,0⟩ choice)) hp ht (Nat.le_trans hO.av (by decide))) fun _ _=>?_
    refine J 4 ?_
    refine .c call185 rfl (sr (d:=(s.dL k ⟨23,0,0,0,0⟩ choice).tell 0 0 0 true) hp ht hO.lt (hs.1.trans hO.lt) hO.T hR (Nat.zero_le _) (Nat.zero_le _) (hO.KL hs ht hw0)) fun qs _=>?_
    refine J 6 ?_
    refine .c call188 rfl (oo (d:=(((s.dL k ⟨23,0,0,0,0⟩ choice).tell 0 0 0 true).fin 0)) (Nat.le_trans (gC.trans km).1 (by have:=hO.av;show s.av.length+_≤_;omega)) (Nat.le_trans (gC.trans km).2 (by show 0+_≤_;decide))) fun u75 _=>?_
    refine .aj rfl (af.JF (vs:=[.bool (((s.dL k ⟨23,0,0,0,0⟩ choice).tell 0 0 0 true).fin 0).finish.1.aR,.bool (((s.dL k ⟨23,0,0,0,0⟩ choice).tell 0 0 0 true).fin 0).finish.1.ended,.bool (((s.dL k ⟨23,0,0,0,0⟩ choice).tell 0 0 0 true).fin 0).finish.1.yielded]) (by exact sizeOf66) rfl rfl rfl rfl) ?_
    rintro _ _ ⟨rfl,rfl⟩
    refine J 4 ?_
    rw[Db hat h19 hn rfl]
    refine .fT rfl rfl isAgg66 (by exact sizeOf66) Cells.a rfl fun w s=>⟨u75,?_,trivial,ai .auto s⟩
    rfl
   ·obtain⟨i,hn⟩:∃ i,(dT s.eT t.mX)=some i:=Option.isSome_iff_exists.mp (by simpa using h56)
    rw[show((dT s.eT t.mX).getD Ins.z)=i from by rw[hn];rfl]
    obtain⟨hI,hIn,hIt⟩:=vX hO hn
    refine J 4 ?_
    refine .c call168 rfl lg fun _ _=>?_
    refine JD 4 (fun h67=>?_) fun h67=>?_
    ·refine J 2 ?_
     refine .to (A:=aA ps s.aF) (Bs:=[arr p 0 (bj t),aA (ps.set k none) (s.aF.set k none)]) .auto (bP hp ht) ?_
     refine .c call186 rfl (Fg (d:=(s.dL k i choice)) hp ht hI (hR.mX hpc) h67 hO.mem (Nat.le_trans hO.av (by decide)) hO.lt (hs.1.trans hO.lt) hO.T hR (Nat.zero_le _) (Nat.zero_le _) (hO.KL hs ht hw0)) fun qs _=>?_
     refine J 6 ?_
     refine .c call188 rfl (oo (d:=(s.dL k i choice).plain) (Nat.le_trans (nW).1 (by have:=hO.av;show s.av.length+_≤_;omega)) (Nat.le_trans (nW).2 (by show 0+_≤_;decide))) fun u75 _=>?_
     refine .aj rfl (af.JF (vs:=[.bool (s.dL k i choice).plain.finish.1.aR,.bool (s.dL k i choice).plain.finish.1.ended,.bool (s.dL k i choice).plain.finish.1.yielded]) (by exact sizeOf66) rfl rfl rfl rfl) ?_
     rintro _ _ ⟨rfl,rfl⟩
     refine J 4 ?_
     rw[vY hat h19 hn h67 rfl]
     refine .fT rfl rfl isAgg66 (by exact sizeOf66) Cells.a rfl fun w s=>⟨u75,?_,trivial,ai .auto s⟩
     rfl
    ·refine J 7 ?_
     refine .p (.add rfl rfl (by omega)) ?_
     refine J 4 ?_
     rw[LC]
     refine J 4 ?_
     refine .to (A:=aA ps (s.aF.set k (some ({t with pc:=t.pc+1 })))) (Bs:=[arr p 0 (bj ({t with pc:=t.pc+1 })),aA (ps.set k none) (s.aF.set k none)]) .auto (cx (List.getElem?_eq_some_iff.1 ht).1 hp) ?_
     refine .c call187 rfl (IG (d:=((s.dL k i choice).aV {t with pc:=t.pc+1 })) hp (di ht) (hO.call hs ht hw0 hI (hIn h67) hIt)) fun qs _=>?_
     refine J 6 ?_
     refine .c call188 rfl (oo (d:=((s.dL k i choice).aV {t with pc:=t.pc+1 }).call) (Nat.le_trans (qB hO.BE.2).1 (by have:=hO.av;show s.av.length+_≤_;omega)) (Nat.le_trans (qB hO.BE.2).2 (by show 0+_≤_;decide))) fun u75 _=>?_
     refine .aj rfl (af.JF (vs:=[.bool ((s.dL k i choice).aV {t with pc:=t.pc+1 }).call.finish.1.aR,.bool ((s.dL k i choice).aV {t with pc:=t.pc+1 }).call.finish.1.ended,.bool ((s.dL k i choice).aV {t with pc:=t.pc+1 }).call.finish.1.yielded]) (by exact sizeOf66) rfl rfl rfl rfl) ?_
     rintro _ _ ⟨rfl,rfl⟩
     refine J 4 ?_
     rw[zF hat h19 hn h67 rfl]
     refine .fT rfl rfl isAgg66 (by exact sizeOf66) Cells.a rfl fun w s=>⟨u75,?_,trivial,ai .auto s⟩
     rfl
end Go.SLYthlllpngkljgfaaGreat
namespace Go.SLYthlllpngkljgfaaGreat
open Go Go.RowKit Go.Proofs Go.Proofs.Tryz
attribute [local irreducible] aq aS bc bx bC Y
theorem Au{W:World}  : Fn Tryz.prog W 44 [.pointer none] [] Unit (fun _=>(.slice none 0 0)) (fun _=>True) (fun _=>[]):=by
 refine Fn.intro (N:=31) func44 rfl ntmps44 rfl fun F=>?_
 show aq _ _ _ _ _ _ [F]
 refine J 12 ?_
 refine .fu rfl ?_
 exact JR 7 ()
theorem nG{W:World}  : Fn Tryz.prog W 69 [.pointer none] [] Unit (fun _=>(.slice none 0 0)) (fun _=>True) (fun _=>[]):=by
 refine Fn.intro (N:=11) func69 rfl ntmps69 rfl fun F=>?_
 show aq _ _ _ _ _ _ [F]
 refine J 12 ?_
 refine .fu rfl ?_
 exact JR 7 ()
theorem pW{W:World}  : Fn Tryz.prog W 70 [.pointer none] [] Unit (fun _=>(.slice none 0 0)) (fun _=>True) (fun _=>[]):=by
 refine Fn.intro (N:=11) func70 rfl ntmps70 rfl fun F=>?_
 show aq _ _ _ _ _ _ [F]
 refine J 12 ?_
 refine .fu rfl ?_
 exact JR 7 ()
theorem wX{W:World}{b p:Nat}{ps:List (Option Nat)}{pr:fM}{n:Nat}{t:bE}{fv sv pv:Value}{bt:Nat}{vm:Value}{bg:Nat}{vt:Value}{bk bw:Nat}{vr:Value}(hp:ps[n]?=some (some p))(hn16:n<16)(hR:gV t){y:Int}:Fn Tryz.prog W 99 [ptr b,.int .i64 (n:Int),.int .u64 y] [arr b 0 (fo fv sv pv pr bt ps vm bg vt bk bw vr),arr p 0 (bj t)] Unit (fun _=>.agg (cP (t.jV y)).toArray) (fun _=>True) (fun _=>[arr b 0 (fo fv sv pv pr bt ps vm bg vt bk bw vr),arr p 0 (bj (t.fy y))]):=by
 refine Fn.intro (N:=50) func99 rfl ntmps99 rfl fun F=>?_
 show aq _ _ _ _ _ _ [arr b 0 (fo fv sv pv pr bt ps vm bg vt bk bw vr),arr p 0 (bj t),F]
 have hRl:=hR.l
 have hRi:=hR.i
 refine J 2 ?_
 refine .aj rfl (af.alloc rfl zeroValue115 rfl) ?_
 rintro _ _ ⟨b6,rfl,rfl⟩
 refine J 8 ?_
 refine .p (.dF n underlying134 sizeOf133 rfl rfl rfl hn16) ?_
 refine .p (.ld rfl (Cell.a (by rw[Nat.mul_one,eJ hn16,bA hp]))) ?_
 refine J 3 ?_
 refine .FT (X:=Unit) [2,14,15,16,17,18,19,20,21,22,23,24,25,26,27,28] (fun _=>True) (fun _=>[(2,some (.int .u64 (if t.bY = -1 then 0 else y)))]) (fun _=>[arr p 0 (bj (if t.bY = -1 then t else t.put t.bY y)),arr b6 0 [.int .u64 0,.int .i64 0,.int .u64 0,.int .u64 0,.int .i64 0,.bool false],arr b 0 (fo fv sv pv pr bt ps vm bg vt bk bw vr),F]) ?_ ?_
 ·refine JD 9 (fun h18=>?_) fun h18=>?_
  ·refine .draw [arr p 0 (bj t)] [1,1,1,1,1,1,1,1,1,1,3] rfl (by kernel_rfl) ?_
   refine J 9 ?_
   refine .p (.dF t.bY.toNat underlying163 sizeOf110 rfl rfl (by omega) (by omega)) ?_
   refine .d3 rfl (af.st sizeOf110 rfl rfl rfl (Nat.blt_eq.mpr (by show 2+t.bY.toNat * 1<18;omega))) ?_
   rintro _ _ ⟨rfl,rfl⟩
   rw[ju y (by omega) (by omega) hRl]
   refine J 1 ?_
   refine .nj () .auto ?_ ?_ ?_
   ·trivial
   ·rw[if_neg (by omega)];exact⟨rfl,trivial⟩
   ·rw[if_neg (by omega)];exact fun w s=>ax.kept .auto w s
  ·refine J 3 ?_
   refine .nj () .auto ?_ ?_ ?_
   ·trivial
   ·rw[if_pos (by omega)];exact⟨rfl,trivial⟩
   ·rw[if_pos (by omega)];exact fun w s=>ax.kept .auto w s
 ·rintro⟨⟩ -
  obtain⟨y1,hy1⟩:∃ y1,y1=(if t.bY = -1 then 0 else y):=⟨_,rfl⟩
  obtain⟨t1,h1⟩:∃ t1,t1=(if t.bY = -1 then t else t.put t.bY y):=⟨_,rfl⟩
  have h1l:t1.aI.length=8:=by
   rw[h1]
   split
   ·exact hRl
   ·rw[jL];exact hRl
  have h1h:t1.handle=t.handle∧t1.op=t.op:=by
   rw[h1]
   split <;> exact⟨rfl,rfl⟩
  rw[← hy1, ← h1]
  refine J 6 ?_
  refine .p (.dF 7 underlying163 sizeOf110 rfl rfl (by omega) (by omega)) ?_
  refine J 1 ?_
  rw[rX (n:=7) 0 (by decide) h1l]
  refine J 9 ?_
  rw[oY]
  refine J 3 ?_
  rw[tv]
  refine J 3 ?_
  refine .draw [arr p 0 (bj {t1.put 7 0 with cQ:=0,bY := -1 })] [1,1,1,1,1,1,1,1,1,1,3] rfl (by kernel_rfl) ?_
  refine J 9 ?_
  refine .p (.F1 (fun v1 v2 v3 v4=>[v1,v2,(.int .u64 0),v3,(.int .i64 0),v4]) rfl rfl rfl rfl (by kernel_rfl)) ?_
  refine .d3 rfl (af.iJ (by exact sizeOf115) rfl rfl rfl (by rfl)) ?_
  rintro _ _ ⟨rfl,rfl⟩
  refine J 3 ?_
  rw[C3 t1 h1]
  refine .dN rfl rfl isAgg115 (by exact sizeOf115) Cells.a fun w s=>⟨(),?_,trivial,ai .auto s⟩
  show Ending.returned (Value.agg #[.int .u64 t1.handle,.int .i64 t1.op,.int .u64 0,.int .u64 y1,.int .i64 0,.bool true])=_;rw[h1h.1,h1h.2,hy1];rfl
theorem wY{W:World}{b:Nat}{s:Spc}{k:Int}(hO:fj s):Fn Tryz.prog W 36 [ptr b,.int .i64 k] [ca b s] Value (fun u=>.tuple #[.agg (nS u (s.done k).1).toArray,.int .i64 (s.done k).2.1]) (fun _=>True) (fun u=>[sl au 1 u (s.done k).1.ar,ca b (s.done k).2.2]):=by
 refine Fn.intro (N:=43) func36 rfl ntmps36 rfl fun F=>?_
 show aq _ _ _ _ _ _ [ca b s,F]
 refine .o1 (C:=ca b s) .auto rfl ?_
 rintro ps -
 refine .jA (C:=cB b ps s) .auto rfl ?_
 rintro fv sv pv bt vm bg vt bk bw vr -
 refine .cK (fun w st=>st.fact .auto jb) fun hs=>?_
 refine J 2 ?_
 refine .aj rfl (af.alloc rfl zeroValue66 rfl) ?_
 rintro _ _ ⟨b4,rfl,rfl⟩
 refine J 10 ?_
 refine .ew rfl ?_
 refine J 9 ?_
 refine .c call98 rfl (Fm hO.dw hO.db) fun _ _=>?_
 refine J 1 ?_
 refine .p (.extract (v:=.agg (gJ (s.bZ.done k).1).toArray) rfl rfl) ?_
 refine .p (.extract (v:=.int .u64 (s.bZ.done k).2.1) rfl rfl) ?_
 refine .p (.extract (v:=.bool (s.bZ.done k).2.2.1) rfl rfl) ?_
 refine .aj rfl (af.alloc rfl zeroValue156 rfl) ?_
 rintro _ _ ⟨b6,rfl,rfl⟩
 refine JD 12 (fun h23=>?_) fun h23=>?_
 ·refine J 2 ?_
  refine .p (.lR ([(.slice none 0 0),(.bool false),(.bool false),(.bool false)]) (by kernel_rfl)) ?_
  refine J 6 ?_
  rw[ri (by simpa using h23)]
  rw[Ez (by simpa using h23)]
  refine .fT rfl rfl isAgg66 (by exact sizeOf66) Cells.a rfl fun w s=>⟨(.slice none 0 0),?_,trivial,ai .auto s⟩
  rfl
 ·have hd1:(s.bZ.done k).2.2.1=true:=by simpa using h23
  obtain⟨hdm, -⟩:=Hd hd1
  obtain⟨hw0,t,ht⟩:=hO.MS _ hdm
  obtain⟨hn16,q,t2,hq,ht2,hR⟩:=hO.live hs ht
  have e2:=Option.some.inj (ht.symm.trans ht2)
  obtain rfl:=Option.some.inj e2
  obtain⟨m,hm⟩:∃ m:Nat,(s.bZ.done k).1.who.toNat=m:=⟨_,rfl⟩
  rw[hm] at ht hn16 hq
  have hmc:(s.bZ.done k).1.who=(m:Int):=by omega
  refine J 3 ?_
  refine .fr .auto (bQ hq ht) ?_
  refine .draw [arr b6 0 (gJ (s.bZ.done k).1),arr b 0 (fo fv sv pv s.eT bt ps vm bg vt bk bw vr)] [0,0,0,0,0,1,1,1,1,2,2,2,1,1,3] rfl (by kernel_rfl) ?_
  refine J 8 ?_
  rw[hmc]
  refine J 1 ?_
  refine .c2 call99 rfl (wX hq hn16 hR) fun _ _=>?_
  refine .d2 rfl Kept.auto (af.gI 115 rfl rfl (by kernel_rfl)) (by rintro _ _ ⟨b35,rfl,rfl⟩;exact Kept.auto) ?_
  rintro _ _ ⟨b35,rfl,rfl⟩
  refine .d2 rfl Kept.auto (af.gg (enc:=cP) (k:=6) (t.jV (s.bZ.done k).2.1) rfl underlying44 underlying44 typeInfo115 rfl rfl rfl (by decide) rfl rfl rfl .auto rfl .auto (by have:=hO.av;omega) rfl) (by rintro _ _ ⟨v36,rfl,rfl⟩;exact Kept.auto) ?_
  rintro _ _ ⟨v36,rfl,rfl⟩
  refine J 2 ?_
  refine .d3 rfl (af.lY sizeOf44 rfl rfl rfl) ?_
  rintro _ _ ⟨rfl,rfl⟩
  rw[oZ]
  refine J 6 ?_
  rw[hmc]
  refine .aj rfl (af.gI 3 rfl rfl (by kernel_rfl)) ?_
  rintro _ _ ⟨b41,rfl,rfl⟩
  refine .p (.hG (fun v1=>[v1,.bool false,.bool false,.bool false]) rfl (by kernel_rfl)) ?_
  refine .aj rfl (af.iJ (vs:=[.slice (some ⟨b41,0,none⟩) 1 1,.bool false,.bool false,.bool false]) (by exact sizeOf66) rfl rfl rfl (by rfl)) ?_
  rintro _ _ ⟨rfl,rfl⟩
  refine .to (A:=sl au 1 (.slice (some ⟨b41,0,none⟩) 1 1) [(m:Int)]) (Bs:=[arr b41 0 [.int .i64 (m:Int)]]) .auto LD ?_
  refine J 4 ?_
  refine .to (A:=aA ps (s.aF.set m (some (t.fy (s.bZ.done k).2.1)))) (Bs:=[arr q 0 (bj (t.fy (s.bZ.done k).2.1)),aA (ps.set m none) (s.aF.set m none)]) .auto (cx (List.getElem?_eq_some_iff.1 ht).1 hq) ?_
  rw[rj hd1 (by rw[hm];exact ht),hm,hmc,show(({s with bZ:=(s.bZ.done k).2.2.2 }:Spc).dI m (s.bZ.done k).2.1)=({s with bZ:=(s.bZ.done k).2.2.2 }:Spc).aV m (t.fy (s.bZ.done k).2.1) from by unfold Spc.dI;rw[dM (s:=({s with bZ:=(s.bZ.done k).2.2.2 }:Spc)) ht]]
  refine .fT rfl rfl isAgg66 (by exact sizeOf66) Cells.a rfl fun w s=>⟨(.slice (some ⟨b41,0,none⟩) 1 1),?_,trivial,ai .auto s⟩
  rfl
end Go.SLYthlllpngkljgfaaGreat
namespace Go.SLYthlllpngkljgfaaGreat
open Go Go.RowKit Go.Proofs Go.Proofs.Tryz
attribute [local irreducible] aq aS bc bx bC Y
theorem wZ{W:World}{b:Nat}{s:Spc}(hO:fj s):Fn Tryz.prog W 39 [ptr b] [ca b s] Value (fun u=>.agg (nS u s.tick.1).toArray) (fun _=>True) (fun u=>[sl au 1 u s.aT.due,ca b s.tick.2]):=by
 refine Fn.intro (N:=35) func39 rfl ntmps39 rfl fun F=>?_
 show aq _ _ _ _ _ _ [ca b s,F]
 refine .o1 (C:=ca b s) .auto rfl ?_
 rintro ps -
 refine .jA (C:=cB b ps s) .auto rfl ?_
 rintro fv sv pv bt vm bg vt bk bw vr -
 refine .cK (fun w st=>st.fact .auto jb) fun hs=>?_
 have hdl:=Nat.le_trans (pg s.aT) hO.wl
 have hrl:=hO.av
 refine J 2 ?_
 refine .aj rfl (af.alloc rfl zeroValue66 rfl) ?_
 rintro _ _ ⟨b2,rfl,rfl⟩
 refine J 9 ?_
 refine .ew rfl ?_
 refine J 8 ?_
 refine .c call100 rfl (Cd hO.wn hO.wl) fun u13 _=>?_
 refine J 12 ?_
 refine .bn (X:=Nat) [5,16,17,18,19,20,21,22,23,24,25,26,27,28,29,30,31,32] (fun k=>s.aT.due.length-k) (fun k=>k≤s.aT.due.length) (fun k=>[(16,some (.int .i64 (k:Int)))]) (fun k=>[cB b ps (cI ({s with aT:=s.aT.tick.2 }:Spc) (s.aT.due.take k)),sl au 1 u13 s.aT.due,arr b2 0 [.slice none 0 0,.bool false,.bool false,.bool false],F]) 0 ?_ ?_ ?_ ?_
 ·exact Nat.zero_le _
 ·exact⟨rfl,trivial⟩
 ·exact fun w s=>ax.kept .auto w s
 rintro k hk
 refine JD 6 (fun h17=>?_) fun h17=>?_
 ·refine J 7 ?_
  obtain⟨x,hx⟩:=ak (show k<s.aT.due.length by omega)
  have hdl2:∀ x∈s.aT.due,0≤x∧bM ps s x.toNat:=fun x hx=>by
   obtain⟨y,hy,e⟩:=JH hx
   obtain⟨h0,u,hu⟩:=hO.MT y hy
   rw[e] at h0 hu
   exact⟨h0,hO.live hs hu⟩
  obtain⟨hx0,hxl⟩:=hdl2 x (List.mem_of_getElem? hx)
  obtain⟨hn16,q,t,hq,ht,hR⟩:=xX x.toNat (s.aT.due.take k) ({s with aT:=s.aT.tick.2 }:Spc) (hxl.of rfl) (fun z hz=>(hdl2 z (List.mem_of_mem_take hz)).2.of rfl)
  have hwr:=pf ({s with aT:=s.aT.tick.2 }:Spc) (s.aT.due.take k)
  rw[List.length_take] at hwr
  simp only at hwr
  have hxc:x=((x.toNat:Nat):Int):=by omega
  refine J 4 ?_
  refine .jA (C:=cB b ps (cI ({s with aT:=s.aT.tick.2 }:Spc) (s.aT.due.take k))) .auto rfl ?_
  rintro fv sv pv bt vm bg vt bk bw vr -
  refine .fr .auto (bQ hq ht) ?_
  refine .draw [arr b 0 (fo fv sv pv (cI ({s with aT:=s.aT.tick.2 }:Spc) (s.aT.due.take k)).eT bt ps vm bg vt bk bw vr)] [0,0,0,0,0,1,1,2,2,2,1,1,3] rfl (by kernel_rfl) ?_
  rw[hxc]
  refine J 7 ?_
  refine .c2 call99 rfl (wX (n:=x.toNat) hq hn16 hR) fun _ _=>?_
  refine .d2 rfl Kept.auto (af.gI 115 rfl rfl (by kernel_rfl)) (by rintro _ _ ⟨b28,rfl,rfl⟩;exact Kept.auto) ?_
  rintro _ _ ⟨b28,rfl,rfl⟩
  refine .d2 rfl Kept.auto (af.gg (enc:=cP) (k:=6) (t.jV 0) rfl underlying44 underlying44 typeInfo115 rfl rfl rfl (by decide) rfl rfl rfl .auto rfl .auto (by have e:(cI ({s with aT:=s.aT.tick.2 }:Spc) (s.aT.due.take k)).av.length=s.av.length+min k s.aT.due.length:=hwr;omega) rfl) (by rintro _ _ ⟨v29,rfl,rfl⟩;exact Kept.auto) ?_
  rintro _ _ ⟨v29,rfl,rfl⟩
  refine J 2 ?_
  refine .d3 rfl (af.lY sizeOf44 rfl rfl rfl) ?_
  rintro _ _ ⟨rfl,rfl⟩
  rw[oZ]
  refine .to (A:=aA ps ((cI ({s with aT:=s.aT.tick.2 }:Spc) (s.aT.due.take k)).aF.set x.toNat (some (t.fy 0)))) (Bs:=[arr q 0 (bj (t.fy 0)),aA (ps.set x.toNat none) ((cI ({s with aT:=s.aT.tick.2 }:Spc) (s.aT.due.take k)).aF.set x.toNat none)]) .auto (cx (List.getElem?_eq_some_iff.1 ht).1 hq) ?_
  refine J 7 ?_
  refine .aL (k+1) .auto rfl ?_ ?_ ?_ ?_
  ·omega
  ·show k+1≤_;omega
  ·exact⟨rfl,trivial⟩
  ·rw[aX hx,xW,show(cI ({s with aT:=s.aT.tick.2 }:Spc) (s.aT.due.take k)).dI x.toNat 0=(cI ({s with aT:=s.aT.tick.2 }:Spc) (s.aT.due.take k)).aV x.toNat (t.fy 0) from by unfold Spc.dI;rw[dM ht],dM ht];exact fun w s=>ax.kept .auto w s
 ·refine J 7 ?_
  refine .cK (fun w st=>(Rd.s (v:=u13) (enc:=au) (k:=1) (xs:=s.aT.due) w st).1) fun hr=>?_
  obtain⟨a13,c13,rfl, -, -⟩:=hr
  refine J 1 ?_
  refine .p (.hG (fun v1=>[v1,(.bool false),(.bool false),(.bool false)]) rfl (by kernel_rfl)) ?_
  refine .aj rfl (af.iJ (vs:=[.slice a13 s.aT.due.length c13,.bool false,.bool false,.bool false]) (by exact sizeOf66) rfl rfl rfl (by rfl)) ?_
  rintro _ _ ⟨rfl,rfl⟩
  refine J 3 ?_
  have hkk:k=s.aT.due.length:=by omega
  rw[hkk,List.take_length]
  refine .dN rfl rfl isAgg66 (by exact sizeOf66) Cells.a fun w s=>⟨_,?_,trivial,ai .auto s⟩
  rfl
theorem Cg{W:World}{b:Nat}{s:Spc}{n:Int}(hO:fj s):Fn Tryz.prog W 143 [ptr b,.int .i64 n] [ca b s] Unit (fun _=>.int .i64 (s.class n)) (fun _=>True) (fun _=>[ca b s]):=by
 refine Fn.intro (N:=37) func143 rfl ntmps143 rfl fun F=>?_
 show aq _ _ _ _ _ _ [ca b s,F]
 refine .o1 (C:=ca b s) .auto rfl ?_
 rintro ps -
 refine .jA (C:=cB b ps s) .auto rfl ?_
 rintro fv sv pv bt vm bg vt bk bw vr -
 refine .cK (fun w st=>st.fact .auto jb) fun hs=>?_
 refine J 9 ?_
 refine .c call178 rfl DB fun _ _=>?_
 refine J 9 ?_
 refine .part (t:=13) rfl (fun h13=>?_) (fun h13=>?_)
 ·refine J 8 ?_
  refine .fu rfl ?_
  refine J 7 ?_
  have hap:Bt ps n=none:=by
   cases hh:Bt ps n with
   | none=>rfl
   | some p=>rw[hh] at h13;cases h13
  rw[Bz (KM hs hap hO.lt)]
  exact JR 0 ()
 ·obtain⟨p,hap⟩:∃ p,Bt ps n=some p:=by
   cases hh:Bt ps n with
   | none=>rw[hh] at h13;cases h13
   | some p=>exact⟨p,rfl⟩
  rw[hap]
  obtain⟨k,t,rfl,hk16,hp,ht,hat⟩:=G9 hs hap hO.lt
  refine .jA (C:=cB b ps s) .auto rfl ?_
  rintro fv sv pv bt vm bg vt bk bw vr -
  refine .fr .auto (bQ hp ht) ?_
  refine JD 8 (fun h19=>?_) fun h19=>?_
  ·refine J 7 ?_
   refine .to (A:=aA ps s.aF) (Bs:=[arr p 0 (bj t),aA (ps.set k none) (s.aF.set k none)]) .auto (bP hp ht) ?_
   rw[BA hat h19]
   exact JR 0 ()
  ·refine J 3 ?_
   refine .vz [arr b 0 (fo fv sv pv s.eT bt ps vm bg vt bk bw vr),arr p 0 (bj t)] [0,0,0,0,0,0,0,0,2,0,0,0,4,2,0] [0,1,2,3,4,5,6,7,8,9,10,11,12,13,14] rfl (by kernel_rfl) ?_
   refine bC.q rfl rfl rfl Kept.auto (Y.m rfl) ?_
   refine bC.q rfl rfl rfl Kept.auto (Y.n rfl) ?_
   refine bC.q rfl rfl rfl Kept.auto (Y.gq 56 underlying137 rfl sizeOf56 rfl) ?_
   refine bC.q rfl rfl rfl Kept.auto (Y.FZ isAgg56 rfl (Cells.lQ (ds:=zG fv sv pv s.eT) (Cells.a (cs:=fo fv sv pv s.eT bt ps vm bg vt bk bw vr)) rfl) (by exact sizeOf56)) ?_
   refine bC.q rfl rfl rfl Kept.auto (Y.m rfl) ?_
   refine bC.q rfl rfl rfl Kept.auto (Y.n rfl) ?_
   refine bC.q rfl rfl rfl Kept.auto (Y.gq 165 underlying167 rfl sizeOf165 rfl) ?_
   refine bC.q rfl rfl rfl Kept.auto (Y.FZ isAgg165 rfl (Cells.lQ (ds:=iM t.mX) (Cells.a (cs:=bj t)) rfl) (by exact sizeOf165)) ?_
   refine bC.eH rfl (.inl rfl) rfl (fun _=>Kept.auto) call179 rfl (uz (p:=s.eT) (f:=t.mX) hO.zO.1 hO.zO.2) .auto (fun _ _=>Kept.auto) ?_
   rintro⟨⟩ -
   refine bC.q rfl rfl rfl Kept.auto (Y.m rfl) ?_
   refine bC.q rfl rfl rfl Kept.auto (Y.extract (v:=.agg (dH ((dT s.eT t.mX).getD Ins.z)).toArray) rfl rfl) ?_
   refine bC.q rfl rfl rfl Kept.auto (Y.extract (v:=.bool (dT s.eT t.mX).isSome) rfl rfl) ?_
   refine bC.fresh rfl rfl rfl (by decide) Kept.auto (lT zeroValue112 rfl) ?_
   rintro b6
   refine bC.LA rfl rfl (by exact sizeOf112) rfl rfl rfl (by rfl) Kept.auto Kept.auto ?_
   refine bC.q rfl rfl rfl Kept.auto (Y.a rfl) ?_
   refine bC.nil ?_
   refine JD 8 (fun h33=>?_) fun h33=>?_
   ·refine J 7 ?_
    refine .to (A:=aA ps s.aF) (Bs:=[arr p 0 (bj t),aA (ps.set k none) (s.aF.set k none)]) .auto (bP hp ht) ?_
    rw[Ey hat h19 (Option.isNone_iff_eq_none.mp (by simpa using h33))]
    exact JR 0 ()
   ·obtain⟨i,hn⟩:∃ i,(dT s.eT t.mX)=some i:=Option.isSome_iff_exists.mp (by simpa using h33)
    rw[show((dT s.eT t.mX).getD Ins.z)=i from by rw[hn];rfl]
    refine J 6 ?_
    refine .c call168 rfl lg fun _ _=>?_
    refine J 4 ?_
    refine .to (A:=aA ps s.aF) (Bs:=[arr p 0 (bj t),aA (ps.set k none) (s.aF.set k none)]) .auto (bP hp ht) ?_
    rw[BB hat h19 hn]
    exact JR 0 ()
theorem pX{W:World}{b:Nat}{s:Spc}(hl:s.av.length≤1000000000):Fn Tryz.prog W 69 [ptr b] [ca b s] Value (fun u=>u) (fun _=>True) (fun u=>[sl cP 6 u s.av,ca b s]):=by
 refine Fn.intro (N:=11) func69 rfl ntmps69 rfl fun F=>?_
 show aq _ _ _ _ _ _ [ca b s,F]
 refine .o1 (C:=ca b s) .auto rfl ?_
 rintro ps -
 refine .jA (C:=cB b ps s) .auto rfl ?_
 rintro fv sv pv bt vm bg vt bk bw vr -
 refine J 12 ?_
 refine .ew rfl ?_
 refine J 8 ?_
 refine .c call129 rfl (L3 (A:=sl cP 6 vr s.av) (Rd.sl .here) hl) fun u9 _=>?_
 refine .c call128 rfl M8 fun u10 _=>?_
 exact JR 4 u10
theorem rC{W:World}{b:Nat}{s:Spc}(hl:s.mem.length≤1000000000):Fn Tryz.prog W 70 [ptr b] [ca b s] Value (fun u=>u) (fun _=>True) (fun u=>[sl cO 1 u s.mem,ca b s]):=by
 refine Fn.intro (N:=11) func70 rfl ntmps70 rfl fun F=>?_
 show aq _ _ _ _ _ _ [ca b s,F]
 refine .o1 (C:=ca b s) .auto rfl ?_
 rintro ps -
 refine .jA (C:=cB b ps s) .auto rfl ?_
 rintro fv sv pv bt vm bg vt bk bw vr -
 refine J 12 ?_
 refine .ew rfl ?_
 refine J 8 ?_
 refine .c call131 rfl (L2 (A:=sl cO 1 vm s.mem) (Rd.sl .here) hl) fun u9 _=>?_
 refine .c call130 rfl M7 fun u10 _=>?_
 exact JR 4 u10
end Go.SLYthlllpngkljgfaaGreat
namespace Go.SLYthlllpngkljgfaaGreat
open Go Go.RowKit Go.Proofs Go.Proofs.Tryz
attribute [local irreducible] aq aS bc bx bC Y
end Go.SLYthlllpngkljgfaaGreat
namespace Go.SLYthlllpngkljgfaaGreat
open Go Go.RowKit Go.Proofs Go.Proofs.Tryz
attribute [local irreducible] aq aS bc bx bC Y
theorem KW{a b:Rec}:yP Tryz.prog 115 2 (.agg (cP a).toArray) (.agg (cP b).toArray) (decide (a=b)):=fun d w=>by
 have hs:Tryz.prog.stoodInHeld 115=false:=by kernel_rfl
 have one:∀ (r:Rec) (t:TypeId) (i:Nat) (v:Value),(∀ w,(isAgg t).run Tryz.prog w = .ok false w)→(cP r)[i]?=some v→Part Tryz.prog t (cP r).toArray i v:=fun r t i v ha hv=>Part.one ha (by rw[List.getElem?_toArray];exact hv)
 refine(tM underlying115 hs (d+1) _ _ w).trans ?_
 show(Op.eqFields (d+1) _ _ [_,_,_,_,_,_]).run Tryz.prog w=_
 have pa0:Part Tryz.prog 110 (cP a).toArray 0 (.int .u64 a.ab):=one a _ 0 _ isAgg110 rfl
 have pb0:Part Tryz.prog 110 (cP b).toArray 0 (.int .u64 b.ab):=one b _ 0 _ isAgg110 rfl
 refine Eq.trans (fa (a:=.int .u64 a.ab) (b:=.int .u64 b.ab) (r:=decide (a.ab=b.ab)) ?_ ?_ ?_ ?_) ?_
 ·decide +kernel
 ·exact pa0
 ·exact pb0
 ·exact(yP.int underlying110 d w)
 by_cases h0:a.ab=b.ab
 rotate_left
 ·rw[decide_eq_false h0,decide_eq_false (fun e=>h0 (by rw[e])),if_neg (by simp)]
 rw[decide_eq_true h0,if_pos rfl]
 have pa1:Part Tryz.prog 3 (cP a).toArray 1 (.int .i64 a.op):=one a _ 1 _ isAgg3 rfl
 have pb1:Part Tryz.prog 3 (cP b).toArray 1 (.int .i64 b.op):=one b _ 1 _ isAgg3 rfl
 refine Eq.trans (fa (a:=.int .i64 a.op) (b:=.int .i64 b.op) (r:=decide (a.op=b.op)) ?_ ?_ ?_ ?_) ?_
 ·decide +kernel
 ·exact pa1
 ·exact pb1
 ·exact(yP.int underlying3 d w)
 by_cases h1:a.op=b.op
 rotate_left
 ·rw[decide_eq_false h1,decide_eq_false (fun e=>h1 (by rw[e])),if_neg (by simp)]
 rw[decide_eq_true h1,if_pos rfl]
 have pa2:Part Tryz.prog 110 (cP a).toArray 2 (.int .u64 a.x):=one a _ 2 _ isAgg110 rfl
 have pb2:Part Tryz.prog 110 (cP b).toArray 2 (.int .u64 b.x):=one b _ 2 _ isAgg110 rfl
 refine Eq.trans (fa (a:=.int .u64 a.x) (b:=.int .u64 b.x) (r:=decide (a.x=b.x)) ?_ ?_ ?_ ?_) ?_
 ·decide +kernel
 ·exact pa2
 ·exact pb2
 ·exact(yP.int underlying110 d w)
 by_cases h2:a.x=b.x
 rotate_left
 ·rw[decide_eq_false h2,decide_eq_false (fun e=>h2 (by rw[e])),if_neg (by simp)]
 rw[decide_eq_true h2,if_pos rfl]
 have pa3:Part Tryz.prog 110 (cP a).toArray 3 (.int .u64 a.y):=one a _ 3 _ isAgg110 rfl
 have pb3:Part Tryz.prog 110 (cP b).toArray 3 (.int .u64 b.y):=one b _ 3 _ isAgg110 rfl
 refine Eq.trans (fa (a:=.int .u64 a.y) (b:=.int .u64 b.y) (r:=decide (a.y=b.y)) ?_ ?_ ?_ ?_) ?_
 ·decide +kernel
 ·exact pa3
 ·exact pb3
 ·exact(yP.int underlying110 d w)
 by_cases h3:a.y=b.y
 rotate_left
 ·rw[decide_eq_false h3,decide_eq_false (fun e=>h3 (by rw[e])),if_neg (by simp)]
 rw[decide_eq_true h3,if_pos rfl]
 have pa4:Part Tryz.prog 25 (cP a).toArray 4 (.int .i64 a.result):=one a _ 4 _ isAgg25 rfl
 have pb4:Part Tryz.prog 25 (cP b).toArray 4 (.int .i64 b.result):=one b _ 4 _ isAgg25 rfl
 refine Eq.trans (fa (a:=.int .i64 a.result) (b:=.int .i64 b.result) (r:=decide (a.result=b.result)) ?_ ?_ ?_ ?_) ?_
 ·decide +kernel
 ·exact pa4
 ·exact pb4
 ·exact(yP.int underlying25 d w)
 by_cases h4:a.result=b.result
 rotate_left
 ·rw[decide_eq_false h4,decide_eq_false (fun e=>h4 (by rw[e])),if_neg (by simp)]
 rw[decide_eq_true h4,if_pos rfl]
 have pa5:Part Tryz.prog 4 (cP a).toArray 5 (.bool a.fin):=one a _ 5 _ isAgg4 rfl
 have pb5:Part Tryz.prog 4 (cP b).toArray 5 (.bool b.fin):=one b _ 5 _ isAgg4 rfl
 refine Eq.trans (fa (a:=.bool a.fin) (b:=.bool b.fin) (r:=decide (a.fin=b.fin)) ?_ ?_ ?_ ?_) ?_
 ·decide +kernel
 ·exact pa5
 ·exact pb5
 ·exact(yP.bool underlying4 d w)
 by_cases h5:a.fin=b.fin
 rotate_left
 ·rw[decide_eq_false h5,decide_eq_false (fun e=>h5 (by rw[e])),if_neg (by simp)]
 rw[decide_eq_true h5,if_pos rfl]
 have e:a=b:=by
  obtain⟨a1,a2,a3,a4,a5,a6⟩:=a
  obtain⟨b1,b2,b3,b4,b5,b6⟩:=b
  simp only at h0 h1 h2 h3 h4 h5
  subst h0 h1 h2 h3 h4 h5
  rfl
 rw[decide_eq_true e]
 simp[Op.eqFields]
theorem IH{W:World}{A:aa}{v u:Value}{xs ys:List Rec}(hv:Rd W [A] cP 6 v xs)(hu:Rd W [A] cP 6 u ys)(hl:xs.length≤1000000000):Fn Tryz.prog W 22 [v,u] [A] Unit (fun _=>.bool (decide (xs=ys))) (fun _=>True) (fun _=>[A]):=by
 refine Fn.intro (N:=26) func22 rfl ntmps22 rfl fun F=>?_
 haveI hRI:∀ (H:List aa) [bf H A],aw W H v cP 6 xs:=fun H h=>⟨hv.at h.has⟩
 haveI hRJ:∀ (H:List aa) [bf H A],aw W H u cP 6 ys:=fun H h=>⟨hu.at h.has⟩
 show aq _ _ _ _ _ _ [A,F]
 refine JD 15 (fun h10=>?_) fun h10=>?_
 ·refine J 7 ?_
  refine .aG rfl rfl fun w s=>⟨(),?_,trivial,ai .auto s⟩
  rw[decide_eq_false (fun e=>h10 (by rw[e]))]
 ·refine J 9 ?_
  refine .bn (X:=Nat) [4,5,11,12,13,14,15,16,17,18,19,20,21,22,23,24,25] (fun k=>xs.length-k) (fun k=>k≤xs.length∧xs.take k=ys.take k) (fun k=>[(5,some (.int .i64 (k:Int)))]) (fun k=>[A,F]) 0 ?_ ?_ ?_ ?_
  ·exact⟨Nat.zero_le _,rfl⟩
  ·exact⟨rfl,trivial⟩
  ·exact fun w s=>ax.kept .auto w s
  rintro k ⟨hk,hn⟩
  refine JD 9 (fun h14=>?_) fun h14=>?_
  ·refine J 5 ?_
   refine .draw [] [1,1,1,1,1,1,1,1,1] rfl (by kernel_rfl) ?_
   obtain⟨x,hx⟩:=ak (show k<xs.length by omega)
   obtain⟨y,hy⟩:=ak (show k<ys.length by omega)
   refine J 3 ?_
   refine .p (.la rfl (Cells.rd Rd.s hx)) ?_
   refine J 3 ?_
   refine .p (.la rfl (Cells.rd Rd.s hy)) ?_
   refine .p (.F0 (by kernel_rfl) KW rfl rfl rfl) ?_
   refine JD 2 (fun h25=>?_) fun h25=>?_
   ·have h25:x≠y:=by simpa using h25
    refine J 11 ?_
    refine .aG rfl rfl fun w s=>⟨(),?_,trivial,ai .auto s⟩
    rw[decide_eq_false (fun e=>h25 (by rw[e] at hx;exact Option.some.inj (hx.symm.trans hy)))]
   ·have h25:¬x≠y:=by simpa using h25
    refine J 8 ?_
    refine .aL (k+1) .auto rfl ?_ ?_ ?_ ?_
    ·first | omega | (dsimp only;omega)
    ·exact⟨by omega,by rw[aX hx,aX hy,hn,Decidable.of_not_not h25]⟩
    ·exact⟨rfl,trivial⟩
    ·exact fun w s=>ax.kept .auto w s
  ·refine J 11 ?_
   obtain rfl:k=xs.length:=by omega
   rw[List.take_length,List.take_of_length_le (by omega)] at hn
   refine .aG rfl rfl fun w s=>⟨(),?_,trivial,ai .auto s⟩
   rw[decide_eq_true hn]
end Go.SLYthlllpngkljgfaaGreat
namespace Go.SLYthlllpngkljgfaaGreat
open Go Go.RowKit Go.Proofs Go.Proofs.Tryz
attribute [local irreducible] aq aS bc bx bC Y
theorem Av{W:World}{b:Nat}{l:List Int}{n:Int}(hl:l.length≤1000000000):Fn Tryz.prog W 220 [ptr b,.int .i64 n] [fp b l] Unit (fun _=>.bool (!l.contains n)) (fun _=>True) (fun _=>[fp b l]):=by
 refine Fn.intro (N:=16) func220 rfl ntmps220 rfl fun F=>?_
 show aq _ _ _ _ _ _ [fp b l,F]
 refine .o1 (C:=fp b l) .auto rfl ?_
 rintro v -
 refine J 15 ?_
 refine .cg call106 rfl (wL (A:=sl au 1 v l) (Rd.sl .here) hl) fun _ _=>?_
 exact JR 6 ()
theorem yu{W:World}{n:Int}:Fn Tryz.prog W 220 [.pointer none,.int .i64 n] [] Unit (fun _=>.bool false) (fun _=>True) (fun _=>[]):=by
 refine Fn.intro (N:=16) func220 rfl ntmps220 rfl fun F=>?_
 show aq _ _ _ _ _ _ [F]
 exact JR 22 ()
theorem Ch{W:World}{b:Nat}{l:List Int}{n:Int}(hl:l.length≤1000000000)(hn:l.contains n=false):Fn Tryz.prog W 193 [ptr b,.int .i64 n] [fp b l] Unit (fun _=>.bool true) (fun _=>True) (fun _=>[fp b (l++[n])]):=by
 refine Fn.intro (N:=19) func193 rfl ntmps193 rfl fun F=>?_
 show aq _ _ _ _ _ _ [fp b l,F]
 refine J 10 ?_
 refine .c call220 rfl (Av hl) fun _ _=>?_
 rw[hn]
 refine JD 3 (fun h8=>?_) fun h8=>?_
 ·cases h8
 ·refine J 5 ?_
  refine .o1 (C:=fp b l) .auto rfl ?_
  rintro v -
  refine J 5 ?_
  refine .aj rfl (af.gI 3 rfl rfl (by kernel_rfl)) ?_
  rintro _ _ ⟨b15,rfl,rfl⟩
  refine .aj rfl (af.gg (enc:=au) (k:=1) n rfl underlying50 underlying50 typeInfo3 rfl rfl rfl (by decide) rfl rfl rfl .auto rfl .auto (by omega) rfl) ?_
  rintro _ _ ⟨v16,rfl,rfl⟩
  refine J 2 ?_
  refine .aj rfl (af.lY sizeOf50 rfl rfl rfl) ?_
  rintro _ _ ⟨rfl,rfl⟩
  exact JR 8 ()
theorem Aw{W:World}{n:Int}:Fn Tryz.prog W 193 [.pointer none,.int .i64 n] [] Unit (fun _=>.bool false) (fun _=>True) (fun _=>[]):=by
 refine Fn.intro (N:=19) func193 rfl ntmps193 rfl fun F=>?_
 show aq _ _ _ _ _ _ [F]
 refine J 10 ?_
 refine .c call220 rfl yu fun _ _=>?_
 refine J 3 ?_
 refine .fu rfl ?_
 exact JR 7 ()
theorem w8{W:World}{b:Nat}{l:List Int}{a x:Int}{i:Nat}(hl:l.length≤1000000000)(hx:l[i]?=some x)(ha:(0≤a∧a=(i:Int))∨(a<0∧a+(l.length:Int)=(i:Int))):Fn Tryz.prog W 194 [ptr b,.int .i64 a] [fp b l] Unit (fun _=>.tuple #[.int .i64 x,.bool true]) (fun _=>True) (fun _=>[fp b (l.eraseIdx i)]):=by
 refine Fn.intro (N:=45) func194 rfl ntmps194 rfl fun F=>?_
 show aq _ _ _ _ _ _ [fp b l,F]
 refine .o1 (C:=fp b l) .auto rfl ?_
 rintro v -
 have hi:=(List.getElem?_eq_some_iff.1 hx).1
 refine JD 21 (fun h16=>?_) fun h16=>?_
 ·exact absurd h16 (by omega)
 ·refine JD 9 (fun h18=>?_) fun h18=>?_
  ·refine J 7 ?_
   refine .p (.add rfl rfl (by omega)) ?_
   refine J 10 ?_
   refine .p (.ix i rfl rfl (by omega) hi) ?_
   refine .p (.lr rfl hx) ?_
   refine J 10 ?_
   refine .p (.fq (Y.m rfl) (show _=(i:Int) by omega)) ?_
   refine J 1 ?_
   refine .p (.fq (Y.add rfl rfl (by omega)) (show _=((i+1:Nat):Int) by omega)) ?_
   refine .c call221 rfl (yo hi hl) fun u41 _=>?_
   refine J 2 ?_
   refine .aj rfl (af.lY sizeOf50 rfl rfl rfl) ?_
   rintro _ _ ⟨rfl,rfl⟩
   exact JR 10 ()
  ·refine J 9 ?_
   refine .p (.ix i rfl rfl (by omega) hi) ?_
   refine .p (.lr rfl hx) ?_
   refine J 10 ?_
   refine .p (.fq (Y.m rfl) (show _=(i:Int) by omega)) ?_
   refine J 1 ?_
   refine .p (.fq (Y.add rfl rfl (by omega)) (show _=((i+1:Nat):Int) by omega)) ?_
   refine .c call221 rfl (yo hi hl) fun u41 _=>?_
   refine J 2 ?_
   refine .aj rfl (af.lY sizeOf50 rfl rfl rfl) ?_
   rintro _ _ ⟨rfl,rfl⟩
   exact JR 10 ()
theorem uA{W:World}{b:Nat}{a:Int}:Fn Tryz.prog W 194 [ptr b,.int .i64 a] [fp b []] Unit (fun _=>.tuple #[.int .i64 0,.bool false]) (fun _=>True) (fun _=>[fp b []]):=by
 refine Fn.intro (N:=45) func194 rfl ntmps194 rfl fun F=>?_
 show aq _ _ _ _ _ _ [fp b [],F]
 refine .o1 (C:=fp b []) .auto rfl ?_
 rintro v -
 refine JD 21 (fun h16=>?_) fun h16=>?_
 ·exact JR 8 ()
 ·exact absurd rfl h16
theorem Fs{W:World}{b:Nat}{t:Int}{l:List Int}(hl:(t::l).length≤1000000000):Fn Tryz.prog W 176 [ptr b] [fp b (t::l)] Unit (fun _=>.tuple #[.int .i64 t,.bool true]) (fun _=>True) (fun _=>[fp b l]):=by
 refine Fn.intro (N:=8) func176 rfl ntmps176 rfl fun F=>?_
 show aq _ _ _ _ _ _ [fp b (t::l),F]
 refine J 9 ?_
 refine .c call194 rfl (w8 (l:=t::l) (i:=0) hl rfl (.inl ⟨Int.le_refl _,rfl⟩)) fun _ _=>?_
 rw[show(t::l).eraseIdx 0=l from rfl]
 exact JR 7 ()
theorem Ci{W:World}{b:Nat}:Fn Tryz.prog W 176 [ptr b] [fp b []] Unit (fun _=>.tuple #[.int .i64 0,.bool false]) (fun _=>True) (fun _=>[fp b []]):=by
 refine Fn.intro (N:=8) func176 rfl ntmps176 rfl fun F=>?_
 show aq _ _ _ _ _ _ [fp b [],F]
 refine J 9 ?_
 refine .c call194 rfl uA fun _ _=>?_
 exact JR 7 ()
theorem vh{W:World}{b i:Nat}{t:Int}{l:List Int}(hl:l.length≤1000000000)(hi:i+1=l.length)(ht:l[i]?=some t):Fn Tryz.prog W 177 [ptr b] [fp b l] Unit (fun _=>.tuple #[.int .i64 t,.bool true]) (fun _=>True) (fun _=>[fp b l.dropLast]):=by
 refine Fn.intro (N:=8) func177 rfl ntmps177 rfl fun F=>?_
 show aq _ _ _ _ _ _ [fp b l,F]
 refine J 9 ?_
 refine .c call194 rfl (w8 (i:=i) hl ht (.inr ⟨by decide,by omega⟩)) fun _ _=>?_
 rw[BM hi]
 exact JR 7 ()
theorem uB{W:World}{b:Nat}:Fn Tryz.prog W 177 [ptr b] [fp b []] Unit (fun _=>.tuple #[.int .i64 0,.bool false]) (fun _=>True) (fun _=>[fp b []]):=by
 refine Fn.intro (N:=8) func177 rfl ntmps177 rfl fun F=>?_
 show aq _ _ _ _ _ _ [fp b [],F]
 refine J 9 ?_
 refine .c call194 rfl uA fun _ _=>?_
 exact JR 7 ()
theorem mH{W:World}{b:Nat}{v:Value}{xs:List (Nat×List Int)}{n:Int}(_hl:xs.length≤1000000000):Fn Tryz.prog W 103 [ptr b,.int .i64 n] [arr b 0 [v],sl bH 1 v xs] Unit (fun _=>dO ((aB xs n).map (·.1))) (fun _=>True) (fun _=>[arr b 0 [v],sl bH 1 v xs]):=by
 refine Fn.intro (N:=27) func103 rfl ntmps103 rfl fun F=>?_
 show aq _ _ _ _ _ _ [arr b 0 [v],sl bH 1 v xs,F]
 refine J 15 ?_
 refine .ns (t:=11) rfl (fun h11=>?_) (fun h11=>?_)
 ·refine J 10 ?_
  refine .fu rfl ?_
  refine J 7 ?_
  refine .aG rfl rfl fun w s=>⟨(),?_,trivial,ai .auto s⟩
  rw[eL (by omega)];rfl
 ·refine JD 10 (fun h19=>?_) fun h19=>?_
  ·refine J 7 ?_
   refine .aG rfl rfl fun w s=>⟨(),?_,trivial,ai .auto s⟩
   rw[eL (by omega)];rfl
  ·refine J 9 ?_
   obtain⟨x,hx,hg⟩:=cC (l:=xs) (i:=n) ⟨by omega,by omega⟩
   refine .p (.ix n.toNat rfl rfl (by omega) (by omega)) ?_
   refine .p (.lr rfl hx) ?_
   refine J 4 ?_
   refine .aG rfl rfl fun w s=>⟨(),?_,trivial,ai .auto s⟩
   rw[hg];rfl
theorem II{W:World}{b:Nat}{rs:List (List Int)}{p t:Int}(hl:rs.length≤64∧ ∀ r∈rs,r.length≤900000000):Fn Tryz.prog W 175 [ptr b,.int .i64 p,.int .i64 t] [ga b rs] Bool (fun u=>.bool u) (fun _=>True) (fun _=>[ga b (rAdd rs p t)]):=by
 refine Fn.intro (N:=21) func175 rfl ntmps175 rfl fun F=>?_
 show aq _ _ _ _ _ _ [ga b rs,F]
 have hlb:rs.length≤64∧ ∀ r∈rs,r.length≤1000000000:=⟨hl.1,fun r hr=>Nat.le_trans (hl.2 r hr) (by decide)⟩
 refine J 10 ?_
 refine .c call109 rfl (B0 hlb) fun _ _=>?_
 refine JD 12 (fun h15=>?_) fun h15=>?_
 ·refine J 7 ?_
  rw[BL h15]
  exact JR 0 false
 ·refine .o2 (C:=ga b rs) .auto rfl ?_
  rintro v xs hxs
  have hxl:=aE hxs
  have hgr:=wy hxs (p:=p)
  refine J 3 ?_
  rcases hg:aB xs p with _ | ⟨q,r⟩
  ·rw[hg] at hgr
   refine J 3 ?_
   refine .c call103 rfl (mH (xs:=xs) (n:=p) (by omega)) fun _ _=>?_
   rw[hg]
   refine J 1 ?_
   refine .c call193 rfl Aw fun _ _=>?_
   refine J 4 ?_
   rw[EP hgr]
   refine .to (A:=ga b rs) (Bs:=[arr b 0 [v],sl bH 1 v xs,aD (fun x:Nat×List Int=>fp x.1 x.2) xs]) .auto (pA hxs) ?_
   exact JR 0 false
  ·rw[hg] at hgr
   have hx:=(bF hg).2.2
   have hrx:=(bF hgr).2.2
   refine J 3 ?_
   refine .c call103 rfl (mH (xs:=xs) (n:=p) (by omega)) fun _ _=>?_
   rw[hg]
   refine .fr .auto (m4 hx) ?_
   refine J 1 ?_
   refine .c call193 rfl (Ch (l:=r) (hlb.2 r (List.mem_of_getElem? hrx)) (ES h15 hrx)) fun _ _=>?_
   refine J 4 ?_
   rw[ER h15 hgr]
   refine .to (A:=ga b (rs.set p.toNat (r++[t]))) (Bs:=[arr b 0 [v],sl bH 1 v xs,fp q (r++[t]),aD (fun x:Nat×List Int=>fp x.1 x.2) (xs.eraseIdx p.toNat)]) .auto (qG hxs hx (r++[t])) ?_
   exact JR 0 true
theorem Ft{W:World}{b:Nat}{rs:List (List Int)}{p:Int}(hl:rs.length≤64∧ ∀ r∈rs,r.length≤900000000):Fn Tryz.prog W 142 [ptr b,.int .i64 p] [ga b rs] Unit (fun _=>.tuple #[.int .i64 (tX rs p),.bool (rPick rs p).isSome]) (fun _=>True) (fun _=>[ga b (lH rs p)]):=by
 refine Fn.intro (N:=44) func142 rfl ntmps142 rfl fun F=>?_
 show aq _ _ _ _ _ _ [ga b rs,F]
 have hlb:rs.length≤64∧ ∀ r∈rs,r.length≤1000000000:=⟨hl.1,fun r hr=>Nat.le_trans (hl.2 r hr) (by decide)⟩
 refine .o2 (C:=ga b rs) .auto rfl ?_
 rintro v xs hxs
 have hxl:=aE hxs
 have hgr:=wy hxs (p:=p)
 refine J 1 ?_
 rcases hg:aB xs p with _ | ⟨q,_ | ⟨t,r⟩⟩
 ·rw[hg] at hgr
  refine J 9 ?_
  refine .c call103 rfl (mH (xs:=xs) (n:=p) (by omega)) fun _ _=>?_
  rw[hg]
  refine J 10 ?_
  refine .fu rfl ?_
  refine J 8 ?_
  rw[(m3 (tY hgr)).1,(m3 (tY hgr)).2,tY hgr]
  refine .to (A:=ga b rs) (Bs:=[arr b 0 [v],sl bH 1 v xs,aD (fun x:Nat×List Int=>fp x.1 x.2) xs]) .auto (pA hxs) ?_
  exact JR 0 ()
 ·rw[hg] at hgr
  have hx:=(bF hg).2.2
  refine J 9 ?_
  refine .c call103 rfl (mH (xs:=xs) (n:=p) (by omega)) fun _ _=>?_
  rw[hg]
  refine .fr .auto (m4 hx) ?_
  refine J 10 ?_
  refine .ew rfl ?_
  refine J 6 ?_
  refine .c call176 rfl Ci fun _ _=>?_
  refine .to (A:=aD (fun x:Nat×List Int=>fp x.1 x.2) xs) (Bs:=[fp q [],aD (fun x:Nat×List Int=>fp x.1 x.2) (xs.eraseIdx p.toNat)]) .auto (eW (f:=(fun x:Nat×List Int=>fp x.1 x.2)) hx) ?_
  refine J 12 ?_
  refine .ew rfl ?_
  refine J 19 ?_
  refine .bn (X:=Nat) [4,5,11,12,13,31,32,33,34,35,36,37,38,39,40,41,42,43] (fun z=>rs.length-z) (fun z=>z≤rs.length∧ ∀ j,j<z→rs[j]?=some []) (fun z=>[(31,some (.int .i64 (z:Int)))]) (fun z=>[arr b 0 [v],sl bH 1 v xs,aD (fun x:Nat×List Int=>fp x.1 x.2) xs,F]) 0 ?_ ?_ ?_ ?_
  ·exact⟨Nat.zero_le _,fun j h=>absurd h (Nat.not_lt_zero _)⟩
  ·exact⟨rfl,trivial⟩
  ·exact fun w s=>ax.kept .auto w s
  rintro k ⟨hk,hj⟩
  refine JD 6 (fun h32=>?_) fun h32=>?_
  ·obtain⟨⟨q2,r⟩,hxk⟩:=ak (show k<xs.length by omega)
   have hrk:rs[k]?=some r:=eQ hxs hxk
   refine J 5 ?_
   rcases hlast:r.getLast? with _ | t
   ·have hr0:r=[]:=List.getLast?_eq_none_iff.1 hlast
    subst hr0
    refine J 2 ?_
    refine .p (.lr rfl hxk) ?_
    refine J 7 ?_
    refine .fr .auto (m4 hxk) ?_
    refine .aj rfl (af.jU rfl rfl call177 rfl uB .auto) ?_
    rintro _ _ ⟨⟨⟩, -,rfl,rfl⟩
    refine .to (A:=aD (fun x:Nat×List Int=>fp x.1 x.2) xs) (Bs:=[fp q2 [],aD (fun x:Nat×List Int=>fp x.1 x.2) (xs.eraseIdx k)]) .auto (eW (f:=(fun x:Nat×List Int=>fp x.1 x.2)) hxk) ?_
    refine J 12 ?_
    refine .ew rfl ?_
    refine J 7 ?_
    refine .aL (k+1) .auto rfl ?_ ?_ ?_ ?_
    ·omega
    ·exact⟨by omega,fun j h=>by
      rcases Nat.lt_or_ge j k with h2 | h2
      ·exact hj j h2
      ·obtain rfl:j=k:=by omega
       exact hrk⟩
    ·exact⟨rfl,trivial⟩
    ·exact fun w s=>ax.kept .auto w s
   ·obtain⟨i,hi,hti⟩:=JV hlast
    have hpk:rPick rs p=some (t,rs.set k r.dropLast):=(tZ hgr).trans (z8 hj hrk hlast)
    refine J 2 ?_
    refine .p (.lr rfl hxk) ?_
    refine J 7 ?_
    refine .fr .auto (m4 hxk) ?_
    refine .aj rfl (af.jU rfl rfl call177 rfl (vh (hlb.2 r (List.mem_of_getElem? hrk)) hi hti) .auto) ?_
    rintro _ _ ⟨⟨⟩, -,rfl,rfl⟩
    refine J 12 ?_
    refine .fu rfl ?_
    refine J 13 ?_
    rw[(jh hpk).1,(jh hpk).2,hpk]
    refine .to (A:=ga b (rs.set k r.dropLast)) (Bs:=[arr b 0 [v],sl bH 1 v xs,fp q2 r.dropLast,aD (fun x:Nat×List Int=>fp x.1 x.2) (xs.eraseIdx k)]) .auto (qG hxs hxk r.dropLast) ?_
    exact JR 0 ()
  ·obtain rfl:k=rs.length:=by omega
   have hpk:rPick rs p=none:=(tZ hgr).trans (tW hj)
   refine J 12 ?_
   rw[(m3 hpk).1,(m3 hpk).2,hpk]
   refine .to (A:=ga b rs) (Bs:=[arr b 0 [v],sl bH 1 v xs,aD (fun x:Nat×List Int=>fp x.1 x.2) xs]) .auto (pA hxs) ?_
   exact JR 0 ()
 ·rw[hg] at hgr
  have hx:=(bF hg).2.2
  have hpk:rPick rs p=some (t,rs.set p.toNat r):=ET hgr
  refine J 9 ?_
  refine .c call103 rfl (mH (xs:=xs) (n:=p) (by omega)) fun _ _=>?_
  rw[hg]
  refine .fr .auto (m4 hx) ?_
  refine J 10 ?_
  refine .ew rfl ?_
  refine J 6 ?_
  refine .c call176 rfl (Fs (hlb.2 (t::r) (List.mem_of_getElem? (bF hgr).2.2))) fun _ _=>?_
  refine J 12 ?_
  refine .fu rfl ?_
  refine J 9 ?_
  rw[(jh hpk).1,(jh hpk).2,hpk]
  refine .to (A:=ga b (rs.set p.toNat r)) (Bs:=[arr b 0 [v],sl bH 1 v xs,fp q r,aD (fun x:Nat×List Int=>fp x.1 x.2) (xs.eraseIdx p.toNat)]) .auto (qG hxs hx r) ?_
  exact JR 0 ()
theorem Cj{W:World}{b:Nat}{rs:List (List Int)}(hl:rs.length≤64∧ ∀ r∈rs,r.length≤900000000):Fn Tryz.prog W 92 [ptr b] [ga b rs] Unit (fun _=>.bool (ib rs)) (fun _=>True) (fun _=>[ga b rs]):=by
 refine Fn.intro (N:=21) func92 rfl ntmps92 rfl fun F=>?_
 show aq _ _ _ _ _ _ [ga b rs,F]
 have hlb:rs.length≤64∧ ∀ r∈rs,r.length≤1000000000:=⟨hl.1,fun r hr=>Nat.le_trans (hl.2 r hr) (by decide)⟩
 refine .o2 (C:=ga b rs) .auto rfl ?_
 rintro v xs hxs
 have hxl:=aE hxs
 refine J 12 ?_
 refine .ew rfl ?_
 refine J 14 ?_
 refine .bn (X:=Nat) [2,4,12,13,14,15,16,17,18,19,20] (fun z=>rs.length-z) (fun z=>z≤rs.length∧ ∀ j,j<z→rs[j]?=some []) (fun z=>[(12,some (.int .i64 (z:Int)))]) (fun z=>[arr b 0 [v],sl bH 1 v xs,aD (fun x:Nat×List Int=>fp x.1 x.2) xs,F]) 0 ?_ ?_ ?_ ?_
 ·exact⟨Nat.zero_le _,fun j h=>absurd h (Nat.not_lt_zero _)⟩
 ·exact⟨rfl,trivial⟩
 ·exact fun w s=>ax.kept .auto w s
 rintro k ⟨hk,hj⟩
 refine JD 6 (fun h13=>?_) fun h13=>?_
 ·refine J 6 ?_
  obtain⟨⟨q,r⟩,hx⟩:=ak (show k<xs.length by omega)
  have hrk:rs[k]?=some r:=eQ hxs hx
  refine J 1 ?_
  refine .p (.lr rfl hx) ?_
  refine J 6 ?_
  refine .fr .auto (m4 hx) ?_
  refine .c call104 rfl (wM (l:=r) (hlb.2 r (List.mem_of_getElem? hrk))) fun u17 _=>?_
  refine .to (A:=aD (fun x:Nat×List Int=>fp x.1 x.2) xs) (Bs:=[fp q r,aD (fun x:Nat×List Int=>fp x.1 x.2) (xs.eraseIdx k)]) .auto (eW (f:=(fun x:Nat×List Int=>fp x.1 x.2)) hx) ?_
  refine JD 4 (fun h19=>?_) fun h19=>?_
  ·have he:ib rs=false:=HI hrk (fun e=>by rw[e] at h19;simp at h19)
   refine J 11 ?_
   rw[he]
   refine .to (A:=ga b rs) (Bs:=[arr b 0 [v],sl bH 1 v xs,aD (fun x:Nat×List Int=>fp x.1 x.2) xs]) .auto (pA hxs) ?_
   exact JR 0 ()
  ·refine J 7 ?_
   refine .aL (k+1) .auto rfl ?_ ?_ ?_ ?_
   ·omega
   ·exact⟨by omega,fun j h=>by
     rcases Nat.lt_or_ge j k with h2 | h2
     ·exact hj j h2
     ·obtain rfl:j=k:=by omega
      have hr0:r=[]:=List.eq_nil_of_length_eq_zero (by omega)
      rw[hrk,hr0]⟩
   ·exact⟨rfl,trivial⟩
   ·exact fun w s=>ax.kept .auto w s
 ·obtain rfl:k=rs.length:=by omega
  have he:ib rs=true:=EU hj
  refine J 11 ?_
  rw[he]
  refine .to (A:=ga b rs) (Bs:=[arr b 0 [v],sl bH 1 v xs,aD (fun x:Nat×List Int=>fp x.1 x.2) xs]) .auto (pA hxs) ?_
  exact JR 0 ()
theorem Ax{W:World}{A:aa}{v:Value}{xs:List Ev}{p:Ev→Bool}{g:Nat}(hr:Rd W [A] cr 3 v xs)(hl:xs.length≤1000000000)(hg:∀ args w,(callFunc g args).run Tryz.prog w = .ok (.enter g args) w)(hf:∀ x∈xs,Fn Tryz.prog W g [.agg (cr x).toArray] [A] Unit (fun _=>.bool (p x)) (fun _=>True) (fun _=>[A])):Fn Tryz.prog W 173 [v,.func (.func g) #[] #[]] [A] Unit (fun _=>.int .i64 (idxP p xs 0)) (fun _=>True) (fun _=>[A]):=by
 refine Fn.intro (N:=19) func173 rfl ntmps173 rfl fun F=>?_
 haveI hRI:∀ (H:List aa) [bf H A],aw W H v cr 3 xs:=fun H h=>⟨hr.at h.has⟩
 show aq _ _ _ _ _ _ [A,F]
 refine J 14 ?_
 refine .bn (X:=Nat) [4,5,8,9,10,11,12,13,14,15,16,17,18] (fun k=>xs.length-k) (fun k=>k≤xs.length∧idxP p xs 0=idxP p (xs.drop k) k) (fun k=>[(8,some (.int .i64 (k:Int)))]) (fun k=>[A,F]) 0 ?_ ?_ ?_ ?_
 ·exact⟨Nat.zero_le _,by simp⟩
 ·exact⟨rfl,trivial⟩
 ·exact fun w s=>ax.kept .auto w s
 rintro k ⟨hk,hn⟩
 refine JD 6 (fun h9=>?_) fun h9=>?_
 ·refine J 15 ?_
  obtain⟨x,hx⟩:=ak (show k<xs.length by omega)
  refine J 2 ?_
  refine .aj rfl (af.jU rfl rfl hg rfl (hf x (List.mem_of_getElem? hx)) .auto) ?_
  rintro _ _ ⟨⟨⟩, -,rfl,rfl⟩
  refine JD 2 (fun h16=>?_) fun h16=>?_
  ·refine J 12 ?_
   refine .aG rfl rfl fun w s=>⟨(),?_,trivial,ai .auto s⟩
   rw[hn,iy hx h16]
  ·refine J 7 ?_
   refine .aL (k+1) .auto rfl ?_ ?_ ?_ ?_
   ·first | omega | (dsimp only;omega)
   ·exact⟨by omega,hn.trans (gA hx h16)⟩
   ·exact⟨rfl,trivial⟩
   ·exact fun w s=>ax.kept .auto w s
 ·refine J 11 ?_
  refine .aG rfl rfl fun w s=>⟨(),?_,trivial,ai .auto s⟩
  rw[hn,iz (by omega)]
theorem vi{W:World}{A:aa}{e:Ev}:Fn Tryz.prog W 174 [.agg (cr e).toArray] [A] Unit (fun _=>.bool (iU e)) (fun _=>True) (fun _=>[A]):=by
 refine Fn.intro (N:=6) func174 rfl ntmps174 rfl fun F=>?_
 show aq _ _ _ _ _ _ [A,F]
 refine J 2 ?_
 refine .aj rfl (af.box rfl rfl rfl) ?_
 rintro _ _ ⟨b1,rfl,rfl⟩
 exact JR 12 ()
theorem yw{W:World}{A:aa}{v:Value}{xs:List Ev}(hr:Rd W [A] cr 3 v xs)(hl:xs.length≤900000000):Fn Tryz.prog W 137 [v] [A] Value (fun u=>.tuple #[.agg (cr (wE xs)).toArray,u,.bool (evWithin xs).isSome]) (fun _=>True) (fun u=>[sl cr 3 u (wR xs),A]):=by
 refine Fn.intro (N:=26) func137 rfl ntmps137 rfl fun F=>?_
 refine .cK (fun w s=>Rd.shape (hr.at .here) w s) fun e=>?_
 obtain⟨a1,c1,rfl⟩:=e
 haveI hRI:∀ (H:List aa) [bf H A],aw W H (.slice a1 xs.length c1) cr 3 xs:=fun H h=>⟨hr.at h.has⟩
 show aq _ _ _ _ _ _ [A,F]
 refine J 2 ?_
 refine .aj rfl (af.alloc rfl zeroValue87 rfl) ?_
 rintro _ _ ⟨b2,rfl,rfl⟩
 refine J 7 ?_
 refine .c call173 rfl (Ax (p:=iU) (g:=174) hr (by omega) call174 (fun e _=>vi)) fun _ _=>?_
 refine JD 10 (fun h9=>?_) fun h9=>?_
 ·have hw:=EV h9
  refine J 2 ?_
  refine .p (.lR ([(.int .i64 0),(.int .i64 0),(.int .i64 0)]) (by kernel_rfl)) ?_
  refine J 1 ?_
  refine .c call102 rfl (yn hr (by omega)) fun u12 _=>?_
  refine J 7 ?_
  rw[show wE xs=⟨0,0,0⟩ from by unfold wE;rw[hw],show wR xs=xs from by unfold wR;rw[hw],hw]
  refine .sK rfl rfl isAgg87 (by exact sizeOf87) Cells.a rfl rfl fun w s=>⟨u12,?_,trivial,ai .auto s⟩
  rfl
 ·have hil:=Dq (p:=iU) xs 0
  obtain⟨i,x,hid,hx,hw⟩:=BO h9 (by omega)
  rw[hid]
  have hib:=(List.getElem?_eq_some_iff.1 hx).1
  have hr1:=hr.cut (lo:=0) (hi:=i) (Nat.zero_le _) (by omega)
  have hr2:=hr.cut (lo:=i+1) (hi:=xs.length) (by omega) (Nat.le_refl _)
  refine J 3 ?_
  refine .draw [A] [0,0,0,0,1,1,1,1,1,1,1,2,2,3,1,1] rfl (by kernel_rfl) ?_
  refine J 2 ?_
  refine .q (.ix i rfl rfl rfl (by omega)) ?_
  refine .q (.la rfl (Cells.rd Rd.s hx)) ?_
  refine J 2 ?_
  refine .p (.sliceTo i underlying75 sizeOf87 rfl rfl Rd.s rfl (by omega)) ?_
  refine J 3 ?_
  refine .p (.sliceFrom (i+1) underlying75 sizeOf87 rfl rfl Rd.s rfl (by omega)) ?_
  refine .d2 rfl Kept.auto (af.gI 75 rfl rfl (by kernel_rfl)) (by rintro _ _ ⟨b24,rfl,rfl⟩;exact Kept.auto) ?_
  rintro _ _ ⟨b24,rfl,rfl⟩
  refine .d2 rfl Kept.auto (af.eH rfl call146 rfl (DA (A:=seps [arr b24 0 [(cut 3 0 i (.slice a1 xs.length c1)),(cut 3 (i+1) xs.length (.slice a1 xs.length c1))],A]) (qs:=[((cut 3 0 i (.slice a1 xs.length c1)),xs.take i),((cut 3 (i+1) xs.length (.slice a1 xs.length c1)),xs.drop (i+1))]) (Rd.ez (Rd.lit .here rfl (fun _ _=>rfl) rfl)) (by
    intro q hq
    simp only[List.mem_cons,List.not_mem_nil,or_false] at hq
    rcases hq with rfl | rfl
    ·exact Rd.ez (Rd.at (by rw[List.drop_zero] at hr1;exact hr1) (.there .here))
    ·exact Rd.ez (Rd.at (by rw[List.take_length] at hr2;exact hr2) (.there .here))) (by simp) (by simp;omega)) .auto) (by rintro _ _ ⟨u25, -,rfl,rfl⟩;exact BN .auto Kept.auto) ?_
  rintro _ _ ⟨u25, -,rfl,rfl⟩
  rw[show[((cut 3 0 i (.slice a1 xs.length c1)),xs.take i),((cut 3 (i+1) xs.length (.slice a1 xs.length c1)),xs.drop (i+1))].flatMap (fun q:Value×List Ev=>q.2)=xs.take i++xs.drop (i+1) from by simp]
  refine .dq .auto ?_
  refine .d3 rfl (af.iJ (by exact sizeOf87) rfl rfl rfl (by rfl)) ?_
  rintro _ _ ⟨rfl,rfl⟩
  refine J 5 ?_
  rw[show wE xs=x from by unfold wE;rw[hw],show wR xs=xs.take i++xs.drop (i+1) from by unfold wR;rw[hw],hw]
  refine .sK rfl rfl isAgg87 (by exact sizeOf87) Cells.a rfl rfl fun w s=>⟨u25,?_,trivial,ai .auto s⟩
  rfl
end Go.SLYthlllpngkljgfaaGreat
