/- Walks. Conditions: none. -/
import Derived.Test.YtpbjdoplfgeliaaGreatU07
import Derived.Test.YtpbjdoplfgeliaaGreatProg
import Derived.Test.YtpbjdoplfgeliaaGreatU10
import Derived.KernelRfl
import Derived.Test.YtpbjdoplfgeliaaGreatU04
import Derived.Test.YtpbjdoplfgeliaaGreatU09
import Derived.Test.YtpbjdoplfgeliaaGreatU05
import Derived.Test.YtpbjdoplfgeliaaGreatU08
import Derived.Test.YtpbjdoplfgeliaaGreatU06
set_option maxRecDepth 20000
set_option maxHeartbeats 4000000
namespace Go.SLYtpbjdoplfgeliaaGreat
open Go Go.RowKit Go.Proofs Go.Proofs.Tryz
attribute [local irreducible] ar aR bm bA bH Y
theorem FG{W:World}{bd b p:Nat}{ps:List (Option Nat)}{d:Dng}{t:bI}(hp:ps[d.n]?=some (some p))(ht:d.s.aF[d.n]?=some (some t))(hk:iX ps d t):Fn Tryz.prog W 116 [ptr bd] [bu bd b p ps d] (List (Option Nat)) (fun _=>.tuple #[]) (fun _=>True) (fun qs=>[bu bd b p qs d.spawn]):=by
 refine Fn.intro (N:=70) func116 rfl ntmps116 rfl fun F=>?_
 show ar _ _ _ _ _ _ [bu bd b p ps d,F]
 refine .o2 (C:=bu bd b p ps (d)) .auto rfl ?_
 rintro vw ve -
 refine .jw (C:=cE b ps (d).s) .auto rfl ?_
 rintro fv sv pv bt vm bg vt bk bw vr -
 have hnn:=hk.nn
 have hn0:=hk.I.n
 refine .fr .auto (bP hp ht) ?_
 have hIa:=hk.I.a
 have hRl:=hk.R.l
 have hlt:=hk.lt
 refine J 1 ?_
 refine .draw [arr bd 0 (ei b p d vw ve)] [0,0,0,0,0,0,0,0,0,0,1,2,3,1,1,1,1,1] rfl (by kernel_rfl) ?_
 refine J 9 ?_
 refine .q (.jZ underlying92 underlying3 rfl (by omega)) ?_
 refine J 1 ?_
 refine .c2 call162 rfl (IU ht hk.I.b) fun _ _=>?_
 refine .to (A:=aB ps d.s.aF) (Bs:=[arr p 0 (bn t),aB (ps.set d.n none) (d.s.aF.set d.n none)]) .auto (bM hp ht) ?_
 refine .d3 rfl (af.eD rfl call71 rfl (uQ hk.T hk.lt hk.free) .auto) ?_
 rintro _ _ ⟨qs,⟨q,hqs⟩,rfl,rfl⟩
 refine J 1 ?_
 refine .p (.extract (v:=.int .i64 (d.s.begin d.i.n d.b).1) rfl rfl) ?_
 refine .p (.extract (v:=.int .i64 (d.s.begin d.i.n d.b).2.1) rfl rfl) ?_
 refine JD 16 (fun h22=>?_) fun h22=>?_
 ·obtain⟨n,hfr⟩:∃ n,slotFree? d.s.table 0=some n:=by
   cases hh:slotFree? d.s.table 0 with
   | none=>rw[kH hh] at h22;cases h22
   | some n=>exact⟨n,rfl⟩
  have hb1:(d.s.begin d.i.n d.b).1=(n:Int):=by rw[fc hfr]
  have hn0e:=hk.free n hfr
  have hn16:n<16:=hlt ▸ (List.getElem?_eq_some_iff.1 hn0e).1
  obtain⟨t1,ht1,ht1e⟩:=wJ (f:=d.i.n) (arg:=d.b) hfr (by omega)
  have hqn:qs[n]?=some (some q):=by
   rw[hqs];unfold nA;rw[hfr];exact List.getElem?_set_self (by rw[hk.lp];exact hn16)
  have hne:n≠d.n:=fun e=>by rw[e,ht] at hn0e;cases hn0e
  have hp2:qs[d.n]?=some (some p):=by
   rw[hqs];unfold nA;rw[hfr];exact(List.getElem?_set_ne hne).trans hp
  have ht2:(d.s.begin d.i.n d.b).2.2.aF[d.n]?=some (some t):=by
   rw[fc hfr];exact(List.getElem?_set_ne hne).trans ht
  rw[hb1]
  refine J 2 ?_
  refine .jw (C:=cE b qs (d.s.begin d.i.n d.b).2.2) .auto rfl ?_
  rintro fv sv pv bt vm bg vt bk bw vr -
  refine .fr .auto (bP hqn ht1) ?_
  refine J 7 ?_
  refine .p (.dK n underlying120 sizeOf119 rfl rfl rfl hn16) ?_
  refine .p (.ld rfl (Cell.a (by rw[Nat.mul_one,eL hn16,aP hqn]))) ?_
  refine J 14 ?_
  refine .aj rfl (af.gj 3 rfl rfl (by kernel_rfl)) ?_
  rintro _ _ ⟨b42,rfl,rfl⟩
  refine .aj rfl (af.fV (enc:=aq) (k:=1) (n:Int) rfl underlying50 underlying50 typeInfo3 rfl rfl rfl (by decide) rfl rfl rfl .auto rfl .auto (by have:=hk.Bq;omega) rfl) ?_
  rintro _ _ ⟨v43,rfl,rfl⟩
  refine J 3 ?_
  refine .aj rfl (af.mC sizeOf50 rfl rfl rfl) ?_
  rintro _ _ ⟨rfl,rfl⟩
  refine J 3 ?_
  refine .to (A:=aB qs (d.s.begin d.i.n d.b).2.2.aF) (Bs:=[arr q 0 (bn t1),aB (qs.set n none) ((d.s.begin d.i.n d.b).2.2.aF.set n none)]) .auto (bM hqn ht1) ?_
  refine .fr .auto (bP hp2 ht2) ?_
  refine .draw [arr bd 0 (ei b p d v43 ve)] [1,1,1,1,1,1,1,1,1,1,1,1,1,1,3] rfl (by kernel_rfl) ?_
  refine J 13 ?_
  refine .p (.dK d.i.a.toNat underlying131 sizeOf92 rfl rfl (by omega) (by omega)) ?_
  refine .d3 rfl (af.st sizeOf92 rfl rfl rfl (Nat.blt_eq.mpr (by show 2+d.i.a.toNat * 1<18;omega))) ?_
  rintro _ _ ⟨rfl,rfl⟩
  rw[jJ _ (by omega) (by omega) hRl]
  refine .to (A:=aB qs ((d.s.begin d.i.n d.b).2.2.aF.set d.n (some (t.put d.i.a t1.handle)))) (Bs:=[arr p 0 (bn (t.put d.i.a t1.handle)),aB (qs.set d.n none) ((d.s.begin d.i.n d.b).2.2.aF.set d.n none)]) .auto (cz (List.getElem?_eq_some_iff.1 ht2).1 hp2) ?_
  refine J 11 ?_
  refine .c call117 rfl (cx (d:=({d with s:=(d.s.begin d.i.n d.b).2.2,out:={d.out with av:=d.out.av++[(n:Int)] } }:Dng).aX (t.put d.i.a t1.handle)) (ps:=qs) (p:=p) (t:=t.put d.i.a t1.handle) hp2 (dp ht2) (by show(d.s.begin d.i.n d.b).2.2.aA.length≤_;rw[fc hfr];exact(Nat.le_trans hk.aA (by decide))) (by rw[h22];decide) (by rw[j8];exact hRl)) fun _ _=>?_
  refine J 1 ?_
  rw[show d.spawn=(({d with s:=(d.s.begin d.i.n d.b).2.2,out:={d.out with av:=d.out.av++[(n:Int)] } }:Dng).aX (t.put d.i.a t1.handle)).pass d.i.n t1.handle (d.s.begin d.i.n d.b).2.1 from by unfold Dng.spawn;simp only;rw[if_pos h22,if_pos h22,hb1,Int.toNat_natCast,dS ht1,show({d with s:=(d.s.begin d.i.n d.b).2.2,out:={d.out with av:=d.out.av++[(n:Int)] } }:Dng).t=t from dS ht2]]
  exact JR 0 qs
 ·have hfr:slotFree? d.s.table 0=none:=by
   cases hh:slotFree? d.s.table 0 with
   | none=>rfl
   | some n=>exact absurd (by rw[fc hh]) h22
  have hb:(d.s.begin d.i.n d.b)=(0,2,d.s):=kH hfr
  obtain rfl:qs=ps:=by rw[hqs];unfold nA;rw[hfr]
  rw[hb]
  have hp2:=hp
  have ht2:=ht
  refine .to (A:=cE b qs d.s) (Bs:=[cE b qs d.s]) .auto (fun h a=>by simpa only[seps,aK] using a) ?_
  refine .jw (C:=cE b qs d.s) .auto rfl ?_
  rintro fv sv pv bt vm bg vt bk bw vr -
  refine .fr .auto (bP hp2 ht2) ?_
  refine J 3 ?_
  refine .draw [arr bd 0 (ei b p d vw ve)] [1,1,1,1,1,1,1,1,1,1,1,1,1,1,3] rfl (by kernel_rfl) ?_
  refine J 13 ?_
  refine .p (.dK d.i.a.toNat underlying131 sizeOf92 rfl rfl (by omega) (by omega)) ?_
  refine .d3 rfl (af.st sizeOf92 rfl rfl rfl (Nat.blt_eq.mpr (by show 2+d.i.a.toNat * 1<18;omega))) ?_
  rintro _ _ ⟨rfl,rfl⟩
  rw[jJ _ (by omega) (by omega) hRl]
  refine .to (A:=aB qs (d.s.aF.set d.n (some (t.put d.i.a 0)))) (Bs:=[arr p 0 (bn (t.put d.i.a 0)),aB (qs.set d.n none) (d.s.aF.set d.n none)]) .auto (cz (List.getElem?_eq_some_iff.1 ht2).1 hp2) ?_
  refine J 11 ?_
  refine .c call117 rfl (cx (d:=d.aX (t.put d.i.a 0)) (ps:=qs) (p:=p) (t:=t.put d.i.a 0) (e:=2) hp2 (dp ht2) (Nat.le_trans hk.aA (by decide)) (by decide) (by rw[j8];exact hRl)) fun _ _=>?_
  refine J 1 ?_
  rw[show d.spawn=(d.aX (t.put d.i.a 0)).pass d.i.n 0 2 from by unfold Dng.spawn;rw[hb];simp only;rw[if_neg (by decide),if_neg (by decide),dj ht]]
  exact JR 0 qs
theorem CK{W:World}{bd b p:Nat}{ps:List (Option Nat)}{d:Dng}{t:bI}(hp:ps[d.n]?=some (some p))(ht:d.s.aF[d.n]?=some (some t))(hk:iX ps d t):Fn Tryz.prog W 125 [ptr bd] [bu bd b p ps d] Unit (fun _=>.tuple #[]) (fun _=>True) (fun _=>[bu bd b p ps (d.kernel)]):=by
 refine Fn.intro (N:=42) func125 rfl ntmps125 rfl fun F=>?_
 show ar _ _ _ _ _ _ [bu bd b p ps d,F]
 refine .o2 (C:=bu bd b p ps (d)) .auto rfl ?_
 rintro vw ve -
 have ha0:0≤d.a:=by
  unfold Dng.a;rw[dj ht];exact(hk.R.r _).1
 have hb0:0≤d.b:=by
  unfold Dng.b;rw[dj ht];exact(hk.R.r _).1
 refine JD 16 (fun h11=>?_) fun h11=>?_
 ·refine .jw (C:=cE b ps (d).s) .auto rfl ?_
  rintro fv sv pv bt vm bg vt bk bw vr -
  refine .fr .auto (bP hp ht) ?_
  refine .draw [arr bd 0 (ei b p d vw ve)] [0,1,2,0,0,0,0,0,3] rfl (by kernel_rfl) ?_
  refine J 2 ?_
  refine .c2 call162 rfl (IU ht hk.I.b) fun _ _=>?_
  refine J 5 ?_
  refine .to (A:=aB ps d.s.aF) (Bs:=[arr p 0 (bn t),aB (ps.set d.n none) (d.s.aF.set d.n none)]) .auto (bM hp ht) ?_
  refine .c call175 rfl (D0 hp ht hk hb0) fun _ _=>?_
  refine J 2 ?_
  rw[show d.kernel=d.ask d.b 0 d.i.a from by unfold Dng.kernel;repeat (first | rw[if_neg (by omega)] | rw[if_pos (by omega)])]
  exact JR 0 ()
 ·refine JD 6 (fun h22=>?_) fun h22=>?_
  ·refine J 3 ?_
   refine .c call120 rfl (xu hp ht hk.I.a) fun _ _=>?_
   refine J 1 ?_
   refine .c call162 rfl (Ln hp ht hk.I.b) fun _ _=>?_
   refine .c call175 rfl (D0 hp ht hk ha0) fun _ _=>?_
   refine J 2 ?_
   rw[show d.kernel=d.ask d.a d.b (-1) from by unfold Dng.kernel;repeat (first | rw[if_neg (by omega)] | rw[if_pos (by omega)])]
   exact JR 0 ()
  ·refine JD 6 (fun h30=>?_) fun h30=>?_
   ·refine J 2 ?_
    refine .c call176 rfl (KP hp ht hk (.inl h30)) fun _ _=>?_
    refine J 2 ?_
    rw[show d.kernel=d.put from by unfold Dng.kernel;repeat (first | rw[if_neg (by omega)] | rw[if_pos (by omega)])]
    exact JR 0 ()
   ·refine JD 6 (fun h34=>?_) fun h34=>?_
    ·refine J 2 ?_
     refine .c call177 rfl (KQ hp ht hk (.inr h34)) fun _ _=>?_
     refine J 2 ?_
     rw[show d.kernel=d.get from by unfold Dng.kernel;repeat (first | rw[if_neg (by omega)] | rw[if_pos (by omega)])]
     exact JR 0 ()
    ·refine JD 6 (fun h38=>?_) fun h38=>?_
     ·refine J 2 ?_
      refine .c call178 rfl (FF hp ht hk) fun _ _=>?_
      refine J 2 ?_
      rw[show d.kernel=d.sleep from by unfold Dng.kernel;repeat (first | rw[if_neg (by omega)] | rw[if_pos (by omega)])]
      exact JR 0 ()
     ·refine J 3 ?_
      refine .c call120 rfl (xu hp ht hk.I.a) fun _ _=>?_
      refine .c call117 rfl (cx hp ht (Nat.le_trans hk.aA (by decide)) (by decide) hk.R.l) fun _ _=>?_
      refine J 2 ?_
      rw[show d.kernel=d.pass d.a 0 0 from by unfold Dng.kernel;repeat (first | rw[if_neg (by omega)] | rw[if_pos (by omega)])]
      exact JR 0 ()
end Go.SLYtpbjdoplfgeliaaGreat
namespace Go.SLYtpbjdoplfgeliaaGreat
open Go Go.RowKit Go.Proofs Go.Proofs.Tryz
attribute [local irreducible] ar aR bm bA bH Y
theorem xA{W:World}{bd b p:Nat}{ps:List (Option Nat)}{d:Dng}{l:List Int}{u:Value}(hl:∀ w∈l,0≤w∧bQ ps d.s w.toNat)(hw:∀ w∈d.waits,0≤w∧bQ ps d.s w.toNat)(hm:d.s.fb.bx≤(d.s.al.dn.length:Int))(hgm:d.s.al.dn.length≤1000000)(hmw:∀ x∈d.s.al.dn,x.wait.length≤1000000)(hb:d.ends.length+l.length≤1000000∧d.out.av.length+l.length≤1000000):Fn Tryz.prog W 123 [ptr bd,u] [bu bd b p ps d,sl aq 1 u l] Unit (fun _=>.tuple #[]) (fun _=>True) (fun _=>[bu bd b p ps (d.mj l),sl aq 1 u l]):=by
 refine Fn.intro (N:=57) func123 rfl ntmps123 rfl fun F=>?_
 show ar _ _ _ _ _ _ [bu bd b p ps d,sl aq 1 u l,F]
 refine .o2 (C:=bu bd b p ps d) .auto rfl ?_
 rintro vw ve -
 refine .jw (C:=cE b ps d.s) .auto rfl ?_
 rintro fv sv pv bt vm bg vt bk bw vr -
 have hww:eH d d.s.fb.bx.toNat=d.waits:=rfl
 refine J 15 ?_
 refine .aZ (X:=Nat) [4,6,17,18,19,20,21,22,23,24,25,26,27,28,29,30,31,32,33,34,35,36,37,38,39,40,41,42,43,44,45,46] (fun k=>d.s.fb.bx.toNat-k) (fun k=>k≤d.s.fb.bx.toNat) (fun k=>[(17,some (.int .i64 (k:Int)))]) (fun k=>[bu bd b p ps ({d with s:=cN d.s (eH d k) }:Dng),sl aq 1 u l,F]) 0 ?_ ?_ ?_ ?_
 ·exact Nat.zero_le _
 ·exact⟨rfl,trivial⟩
 ·exact fun w s=>aw.kept .auto w s
 rintro k hk
 refine JD 6 (fun h18=>?_) fun h18=>?_
 ·refine J 12 ?_
  obtain⟨x,hx⟩:=ai (show k<d.s.al.dn.length by omega)
  refine .o2 (C:=bu bd b p ps (({d with s:=cN d.s (eH d k) }:Dng))) .auto rfl ?_
  rintro vw ve -
  refine .jw (C:=cE b ps (({d with s:=cN d.s (eH d k) }:Dng)).s) .auto rfl ?_
  rintro fv sv pv bt vm bg vt bk bw vr -
  refine J 8 ?_
  have hxg:(cN d.s (eH d k)).al.dn[k]?=some x:=by rw[yB];exact hx
  have hxl:=hmw x (List.mem_of_getElem? hx)
  refine .c call172 rfl (vW hxg hxl) fun u28 _=>?_
  refine J 5 ?_
  refine .aZ (X:=Nat) [6,30,31,32,33,34,35,36,37,38,39,40,41,42,43,44,45] (fun j=>(x.wait.map (·.who)).length-j) (fun j=>j≤(x.wait.map (·.who)).length) (fun j=>[(30,some (.int .i64 (j:Int)))]) (fun j=>[bu bd b p ps ({d with s:=cN d.s (eH d k++(x.wait.map (·.who)).take j) }:Dng),sl aq 1 u28 (x.wait.map (·.who)),sl aq 1 u l,F]) 0 ?_ ?_ ?_ ?_
  ·exact Nat.zero_le _
  ·exact⟨rfl,trivial⟩
  ·rw[List.take_zero,List.append_nil];exact fun w s=>aw.kept .auto w s
  rintro j hj
  refine JD 6 (fun h31=>?_) fun h31=>?_
  ·refine J 6 ?_
   have hxl2:(x.wait.map (·.who)).length≤1000000:=by rw[List.length_map];exact hxl
   obtain⟨w,hwj⟩:=ai (show j<(x.wait.map (·.who)).length by omega)
   have hwm:w∈d.waits:=List.mem_flatMap.2 ⟨x,List.mem_of_getElem? (i:=k) (by rw[List.getElem?_take_of_lt (by omega)];exact hx),List.mem_of_getElem? hwj⟩
   obtain⟨hw0,hwl⟩:=hw w hwm
   obtain⟨hw16,q,v,hq,hv,hRv⟩:=ui w.toNat (eH d k++(x.wait.map (·.who)).take j) hwl
   refine J 6 ?_
   refine .o2 (C:=bu bd b p ps (({d with s:=cN d.s (eH d k++(x.wait.map (·.who)).take j) }:Dng))) .auto rfl ?_
   rintro vw ve -
   refine .jw (C:=cE b ps (({d with s:=cN d.s (eH d k++(x.wait.map (·.who)).take j) }:Dng)).s) .auto rfl ?_
   rintro fv sv pv bt vm bg vt bk bw vr -
   refine .fr .auto (bP hq hv) ?_
   refine J 7 ?_
   refine .p (.dK w.toNat underlying120 sizeOf119 rfl rfl (by omega) hw16) ?_
   refine .p (.ld rfl (Cell.a (by rw[Nat.mul_one,eL hw16,aP hq]))) ?_
   refine J 3 ?_
   rw[pL]
   refine J 7 ?_
   refine .to (A:=aB ps (({d with s:=cN d.s (eH d k++(x.wait.map (·.who)).take j) }:Dng).s.aF.set w.toNat (some ({v with cS:=1 })))) (Bs:=[arr q 0 (bn ({v with cS:=1 })),aB (ps.set w.toNat none) (({d with s:=cN d.s (eH d k++(x.wait.map (·.who)).take j) }:Dng).s.aF.set w.toNat none)]) .auto (cz (List.getElem?_eq_some_iff.1 hv).1 hq) ?_
   refine .ax (j+1) .auto rfl ?_ ?_ ?_ ?_
   ·omega
   ·show j+1≤_;omega
   ·exact⟨rfl,trivial⟩
   ·rw[aW hwj, ← List.append_assoc,BZ _ _ [w],show cN (cN d.s (eH d k++(x.wait.map (·.who)).take j)) [w]=(cN d.s (eH d k++(x.wait.map (·.who)).take j)).aX w.toNat {v with cS:=1 } from by show Spc.aX _ _ _=_;rw[dS hv]];exact fun w s=>aw.kept .auto w s
  ·refine J 10 ?_
   rw[List.take_of_length_le (by omega), ← yE hx]
   refine .ax (k+1) .auto rfl ?_ ?_ ?_ ?_
   ·omega
   ·show k+1≤_;omega
   ·exact⟨rfl,trivial⟩
   ·exact fun w s=>aw.kept .auto w s
 ·refine J 13 ?_
  rw[show k=d.s.fb.bx.toNat from by omega,hww]
  refine .aZ (X:=Nat) [8,49,50,51,52,53,54,55,56] (fun k=>l.length-k) (fun k=>k≤l.length) (fun k=>[(49,some (.int .i64 (k:Int)))]) (fun k=>[bu bd b p ps (({d with s:=cN d.s d.waits }:Dng).dA (l.take k)),sl aq 1 u l,F]) 0 ?_ ?_ ?_ ?_
  ·exact Nat.zero_le _
  ·exact⟨rfl,trivial⟩
  ·exact fun w s=>aw.kept .auto w s
  rintro k hk
  refine JD 6 (fun h50=>?_) fun h50=>?_
  ·refine J 6 ?_
   obtain⟨w,hwj⟩:=ai (show k<l.length by omega)
   have hwl:=hl w (List.mem_of_getElem? hwj)
   obtain⟨hw16,q,v,hq,hv,hRv⟩:=yD w.toNat (l.take k) ({d with s:=cN d.s d.waits }:Dng) (ui _ _ hwl.2) (fun z hz=>ui _ _ (hl z (List.mem_of_mem_take hz)).2)
   have hgl2:=rR ({d with s:=cN d.s d.waits }:Dng) (l.take k)
   rw[List.length_take] at hgl2
   refine J 8 ?_
   refine .c call114 rfl (kY (d:=({d with s:=cN d.s d.waits }:Dng).dA (l.take k)) hwl.1 hq hv hw16 hRv (by show(Dng.dA _ _).ends.length≤_;simp only at hgl2;omega) (by show(Dng.dA _ _).out.av.length≤_;simp only at hgl2;omega)) fun _ _=>?_
   refine J 7 ?_
   refine .ax (k+1) .auto rfl ?_ ?_ ?_ ?_
   ·omega
   ·show k+1≤_;omega
   ·exact⟨rfl,trivial⟩
   ·rw[aW hwj,yC];exact fun w s=>aw.kept .auto w s
  ·refine J 4 ?_
   rw[show d.mj l=({d with s:=cN d.s d.waits }:Dng).dA (l.take k) from by rw[List.take_of_length_le (by omega)];rfl]
   exact JR 0 ()
theorem IV{W:World}{bd b p:Nat}{ps:List (Option Nat)}{d:Dng}{t:bI}(hp:ps[d.n]?=some (some p))(ht:d.s.aF[d.n]?=some (some t))(hk:iX ps d t):Fn Tryz.prog W 78 [ptr bd] [bu bd b p ps d] (List (Option Nat)) (fun _=>.tuple #[]) (fun _=>True) (fun qs=>[bu bd b p qs d.call]):=by
 refine Fn.intro (N:=124) func78 rfl ntmps78 rfl fun F=>?_
 show ar _ _ _ _ _ _ [bu bd b p ps d,F]
 refine .o2 (C:=bu bd b p ps (d)) .auto rfl ?_
 rintro vw ve -
 have hnn:=hk.nn
 have hn0:=hk.I.n
 have hIa:=hk.I.a
 have hRl:=hk.R.l
 refine JD 16 (fun h11=>?_) fun h11=>?_
 ·refine J 2 ?_
  refine .c call116 rfl (FG hp ht hk) fun qs _=>?_
  refine J 2 ?_
  rw[show d.call=d.spawn from by unfold Dng.call;repeat (first | rw[if_neg (by omega)] | rw[if_pos (by omega)])]
  exact JR 0 qs
 ·refine JD 6 (fun h15=>?_) fun h15=>?_
  ·refine J 1 ?_
   refine .jw (C:=cE b ps (d).s) .auto rfl ?_
   rintro fv sv pv bt vm bg vt bk bw vr -
   refine .fr .auto (bP hp ht) ?_
   refine .draw [arr bd 0 (ei b p d vw ve)] [1,1,1,1,1,1,1,1,1,1,1,1,1,1,1,1,1,1,1,1,3] rfl (by kernel_rfl) ?_
   refine J 19 ?_
   refine .p (.dK d.i.a.toNat underlying131 sizeOf92 rfl rfl (by omega) (by omega)) ?_
   refine .d3 rfl (af.st sizeOf92 rfl rfl rfl (Nat.blt_eq.mpr (by show 2+d.i.a.toNat * 1<18;omega))) ?_
   rintro _ _ ⟨rfl,rfl⟩
   rw[jJ _ (by omega) (by omega) hRl]
   refine J 10 ?_
   refine .p (.ld rfl (Cell.a (cs:=bn (t.put d.i.a t.handle)) rfl)) ?_
   refine .to (A:=aB ps (d.s.aF.set d.n (some (t.put d.i.a t.handle)))) (Bs:=[arr p 0 (bn (t.put d.i.a t.handle)),aB (ps.set d.n none) (d.s.aF.set d.n none)]) .auto (cz (List.getElem?_eq_some_iff.1 ht).1 hp) ?_
   refine .c call117 rfl (cx (d:=d.aX (t.put d.i.a t.handle)) (t:=t.put d.i.a t.handle) hp (dp ht) (Nat.le_trans hk.aA (by decide)) (by decide) (by rw[j8];exact hRl)) fun _ _=>?_
   refine J 2 ?_
   rw[show d.call=(d.aX (t.put d.i.a t.handle)).pass 0 t.handle 0 from by unfold Dng.call;rw[if_neg h11,if_pos h15,dj ht]]
   exact JR 0 ps
  ·refine JD 6 (fun h46=>?_) fun h46=>?_
   ·refine J 3 ?_
    refine .c call117 rfl (cx hp ht (Nat.le_trans hk.aA (by decide)) (by decide) hk.R.l) fun _ _=>?_
    refine J 3 ?_
    refine .o2 (C:=bu bd b p ps (d.pass 0 0 0)) .auto rfl ?_
    rintro vw ve -
    refine J 5 ?_
    rw[J4]
    refine J 2 ?_
    rw[show d.call = {d.pass 0 0 0 with out:={d.out with yielded:=true } } from by unfold Dng.call;repeat (first | rw[if_neg (by omega)] | rw[if_pos (by omega)])]
    exact JR 0 ps
   ·refine JD 6 (fun h54=>?_) fun h54=>?_
    ·refine J 2 ?_
     refine .c call118 rfl (IT hp ht hk) fun qs _=>?_
     refine J 2 ?_
     rw[show d.call=d.join from by unfold Dng.call;repeat (first | rw[if_neg (by omega)] | rw[if_pos (by omega)])]
     exact JR 0 qs
    ·refine JD 6 (fun h58=>?_) fun h58=>?_
     ·refine J 2 ?_
      refine .c call119 rfl (CJ hp ht hk) fun qs _=>?_
      refine J 2 ?_
      rw[show d.call=d.fW from by unfold Dng.call;repeat (first | rw[if_neg (by omega)] | rw[if_pos (by omega)])]
      exact JR 0 qs
     ·refine JD 6 (fun h62=>?_) fun h62=>?_
      ·refine J 4 ?_
       refine .c call120 rfl (xu hp ht hk.I.a) fun _ _=>?_
       refine .c call74 rfl (jQ hp ht (Nat.le_trans hk.aA (by decide))) fun _ _=>?_
       refine J 5 ?_
       refine .c call120 rfl (xu (d:=d.tell d.a 0 0 true) hp ht hk.I.a) fun _ _=>?_
       rw[show(d.tell d.a 0 0 true).a=d.a from rfl]
       refine .c call75 rfl (sY (d:=d.tell d.a 0 0 true) hp ht hk.lt hk.lp hk.T hk.R (Nat.le_trans hk.ends (by decide)) (Nat.le_trans hk.Bq (by decide)) hk.join) fun qs _=>?_
       refine J 2 ?_
       rw[show d.call=(d.tell d.a 0 0 true).fin d.a from by unfold Dng.call;repeat (first | rw[if_neg (by omega)] | rw[if_pos (by omega)])]
       exact JR 0 qs
      ·refine JD 7 (fun h72=>?_) fun h72=>?_
       ·refine J 2 ?_
        first | refine ar.da rfl (fun _=>?_) (fun hc=>absurd h72 hc) | refine ar.cond rfl (fun _=>?_) (fun hc=>by rw[h72] at hc;cases hc)
        refine J 2 ?_
        refine .c call121 rfl (rr hp ht hk) fun _ _=>?_
        refine J 2 ?_
        rw[show d.call=d.mutex from by unfold Dng.call;repeat (first | rw[if_neg (by omega)] | rw[if_pos (by omega)])]
        exact JR 0 ps
       ·refine JD 6 (fun h72=>?_) fun h72=>?_
        ·refine J 2 ?_
         first | refine ar.da rfl (fun _=>?_) (fun hc=>absurd h72 hc) | refine ar.cond rfl (fun _=>?_) (fun hc=>by rw[h72] at hc;cases hc)
         refine J 2 ?_
         refine .c call121 rfl (rr hp ht hk) fun _ _=>?_
         refine J 2 ?_
         rw[show d.call=d.mutex from by unfold Dng.call;repeat (first | rw[if_neg (by omega)] | rw[if_pos (by omega)])]
         exact JR 0 ps
        ·refine JD 5 (fun h72c=>?_) fun h72c=>?_
         ·refine J 2 ?_
          refine .c call121 rfl (rr hp ht hk) fun _ _=>?_
          refine J 2 ?_
          rw[show d.call=d.mutex from by unfold Dng.call;repeat (first | rw[if_neg (by omega)] | rw[if_pos (by omega)])]
          exact JR 0 ps
         ·refine JD 7 (fun h78=>?_) fun h78=>?_
          ·refine J 2 ?_
           first | refine ar.da rfl (fun _=>?_) (fun hc=>absurd h78 hc) | refine ar.cond rfl (fun _=>?_) (fun hc=>by rw[h78] at hc;cases hc)
           refine J 1 ?_
           refine .jw (C:=cE b ps (d).s) .auto rfl ?_
           rintro fv sv pv bt vm bg vt bk bw vr -
           refine .draw [arr bd 0 (ei b p d vw ve),arr b 0 (ft fv sv pv d.s.fb bt ps vm bg vt bk bw vr)] [1,1,1,1,1,1,1,1,1,1,1,1,1,1,1,1,1,1,1,1,1,1,1,3,1,1,1,1,1] rfl (by kernel_rfl) ?_
           refine J 12 ?_
           refine .p (.jZ underlying92 underlying3 rfl (by omega)) ?_
           refine J 10 ?_
           refine .c call122 rfl (se hk.gl hk.J9) fun u105 _=>?_
           refine J 1 ?_
           refine .p (.extract (v:=u105) rfl rfl) ?_
           refine .p (.extract (v:=.int .i64 (d.s.al.signal d.i.n d.choice (decide (d.i.op=29))).2.1) rfl rfl) ?_
           refine J 13 ?_
           refine .c call117 rfl (cx (d:=(d.bF (d.s.al.signal d.i.n d.choice (decide (d.i.op=29))).2.2)) hp ht (Nat.le_trans hk.aA (by decide)) il hk.R.l) fun _ _=>?_
           have sigw:∀ w∈((d.bF (d.s.al.signal d.i.n d.choice (decide (d.i.op=29))).2.2).pass d.i.n 0 (d.s.al.signal d.i.n d.choice (decide (d.i.op=29))).2.1).waits,d.s.al.has w:=fun w h=>by
            obtain⟨x,hx,hw⟩:=List.mem_flatMap.1 h
            obtain⟨y,hy,rfl⟩:=List.mem_map.1 hw
            exact(lM hk.Ca.1 hk.Ca.2 x (List.mem_of_mem_take hx)).2 y hy
           refine J 5 ?_
           refine .c call123 rfl (xA (d:=((d.bF (d.s.al.signal d.i.n d.choice (decide (d.i.op=29))).2.2).pass d.i.n 0 (d.s.al.signal d.i.n d.choice (decide (d.i.op=29))).2.1)) (l:=(d.s.al.signal d.i.n d.choice (decide (d.i.op=29))).1) (fun w h=>⟨(hk.jb w (lL w h)).1,((hk.jb w (lL w h)).2.of (s':=(d.bF (d.s.al.signal d.i.n d.choice (decide (d.i.op=29))).2.2).s) rfl).pass (d:=(d.bF (d.s.al.signal d.i.n d.choice (decide (d.i.op=29))).2.2)) ht hk.R il⟩) (fun w h=>⟨(hk.jb w (sigw w h)).1,((hk.jb w (sigw w h)).2.of (s':=(d.bF (d.s.al.signal d.i.n d.choice (decide (d.i.op=29))).2.2).s) rfl).pass (d:=(d.bF (d.s.al.signal d.i.n d.choice (decide (d.i.op=29))).2.2)) ht hk.R il⟩) (by show d.s.fb.bx≤((d.s.al.signal d.i.n d.choice (decide (d.i.op=29))).2.2.dn.length:Int);rw[ka];exact hk.Ka) (by show((d.s.al.signal d.i.n d.choice (decide (d.i.op=29))).2.2.dn.length)≤_;rw[ka];exact hk.gl.m) (fun x h=>(lM hk.Ca.1 hk.Ca.2 x h).1) (by have:=oH (c:=d.i.n) (ch:=d.choice) (all:=decide (d.i.op=29)) hk.Ca.2;have:=hk.ends;have:=hk.Bq;exact⟨by show d.ends.length+_≤_;omega,by show d.out.av.length+_≤_;omega⟩)) fun _ _=>?_
           refine J 2 ?_
           rw[show d.call=((d.bF (d.s.al.signal d.i.n d.choice (decide (d.i.op=29))).2.2).pass d.i.n 0 (d.s.al.signal d.i.n d.choice (decide (d.i.op=29))).2.1).mj (d.s.al.signal d.i.n d.choice (decide (d.i.op=29))).1 from by unfold Dng.call;repeat (first | rw[if_neg (by omega)] | rw[if_pos (by omega)])]
           exact JR 0 ps
          ·refine JD 5 (fun h78=>?_) fun h78=>?_
           ·refine J 1 ?_
            refine .jw (C:=cE b ps (d).s) .auto rfl ?_
            rintro fv sv pv bt vm bg vt bk bw vr -
            refine .draw [arr bd 0 (ei b p d vw ve),arr b 0 (ft fv sv pv d.s.fb bt ps vm bg vt bk bw vr)] [1,1,1,1,1,1,1,1,1,1,1,1,1,1,1,1,1,1,1,1,1,1,1,3,1,1,1,1,1] rfl (by kernel_rfl) ?_
            refine J 12 ?_
            refine .p (.jZ underlying92 underlying3 rfl (by omega)) ?_
            refine J 10 ?_
            refine .c call122 rfl (se hk.gl hk.J9) fun u105 _=>?_
            refine J 1 ?_
            refine .p (.extract (v:=u105) rfl rfl) ?_
            refine .p (.extract (v:=.int .i64 (d.s.al.signal d.i.n d.choice (decide (d.i.op=29))).2.1) rfl rfl) ?_
            refine J 13 ?_
            refine .c call117 rfl (cx (d:=(d.bF (d.s.al.signal d.i.n d.choice (decide (d.i.op=29))).2.2)) hp ht (Nat.le_trans hk.aA (by decide)) il hk.R.l) fun _ _=>?_
            have sigw:∀ w∈((d.bF (d.s.al.signal d.i.n d.choice (decide (d.i.op=29))).2.2).pass d.i.n 0 (d.s.al.signal d.i.n d.choice (decide (d.i.op=29))).2.1).waits,d.s.al.has w:=fun w h=>by
             obtain⟨x,hx,hw⟩:=List.mem_flatMap.1 h
             obtain⟨y,hy,rfl⟩:=List.mem_map.1 hw
             exact(lM hk.Ca.1 hk.Ca.2 x (List.mem_of_mem_take hx)).2 y hy
            refine J 5 ?_
            refine .c call123 rfl (xA (d:=((d.bF (d.s.al.signal d.i.n d.choice (decide (d.i.op=29))).2.2).pass d.i.n 0 (d.s.al.signal d.i.n d.choice (decide (d.i.op=29))).2.1)) (l:=(d.s.al.signal d.i.n d.choice (decide (d.i.op=29))).1) (fun w h=>⟨(hk.jb w (lL w h)).1,((hk.jb w (lL w h)).2.of (s':=(d.bF (d.s.al.signal d.i.n d.choice (decide (d.i.op=29))).2.2).s) rfl).pass (d:=(d.bF (d.s.al.signal d.i.n d.choice (decide (d.i.op=29))).2.2)) ht hk.R il⟩) (fun w h=>⟨(hk.jb w (sigw w h)).1,((hk.jb w (sigw w h)).2.of (s':=(d.bF (d.s.al.signal d.i.n d.choice (decide (d.i.op=29))).2.2).s) rfl).pass (d:=(d.bF (d.s.al.signal d.i.n d.choice (decide (d.i.op=29))).2.2)) ht hk.R il⟩) (by show d.s.fb.bx≤((d.s.al.signal d.i.n d.choice (decide (d.i.op=29))).2.2.dn.length:Int);rw[ka];exact hk.Ka) (by show((d.s.al.signal d.i.n d.choice (decide (d.i.op=29))).2.2.dn.length)≤_;rw[ka];exact hk.gl.m) (fun x h=>(lM hk.Ca.1 hk.Ca.2 x h).1) (by have:=oH (c:=d.i.n) (ch:=d.choice) (all:=decide (d.i.op=29)) hk.Ca.2;have:=hk.ends;have:=hk.Bq;exact⟨by show d.ends.length+_≤_;omega,by show d.out.av.length+_≤_;omega⟩)) fun _ _=>?_
            refine J 2 ?_
            rw[show d.call=((d.bF (d.s.al.signal d.i.n d.choice (decide (d.i.op=29))).2.2).pass d.i.n 0 (d.s.al.signal d.i.n d.choice (decide (d.i.op=29))).2.1).mj (d.s.al.signal d.i.n d.choice (decide (d.i.op=29))).1 from by unfold Dng.call;repeat (first | rw[if_neg (by omega)] | rw[if_pos (by omega)])]
            exact JR 0 ps
           ·refine JD 7 (fun h119=>?_) fun h119=>?_
            ·refine J 2 ?_
             first | refine ar.da rfl (fun _=>?_) (fun hc=>absurd h119 hc) | refine ar.cond rfl (fun _=>?_) (fun hc=>by rw[h119] at hc;cases hc)
             refine J 2 ?_
             refine .c call124 rfl (D1 hp ht hk) fun _ _=>?_
             refine J 2 ?_
             rw[show d.call=d.ez from by unfold Dng.call;repeat (first | rw[if_neg (by omega)] | rw[if_pos (by omega)])]
             exact JR 0 ps
            ·refine JD 5 (fun h119=>?_) fun h119=>?_
             ·refine J 2 ?_
              refine .c call124 rfl (D1 hp ht hk) fun _ _=>?_
              refine J 2 ?_
              rw[show d.call=d.ez from by unfold Dng.call;repeat (first | rw[if_neg (by omega)] | rw[if_pos (by omega)])]
              exact JR 0 ps
             ·refine J 2 ?_
              refine .c call125 rfl (CK hp ht hk) fun _ _=>?_
              refine J 2 ?_
              rw[show d.call=d.kernel from by unfold Dng.call;repeat (first | rw[if_neg (by omega)] | rw[if_pos (by omega)])]
              exact JR 0 ps
end Go.SLYtpbjdoplfgeliaaGreat
namespace Go.SLYtpbjdoplfgeliaaGreat
open Go Go.RowKit Go.Proofs Go.Proofs.Tryz
attribute [local irreducible] ar aR bm bA bH Y
theorem vf{W:World}{fv c1 c2 c3 c4 c5 c6 c7:Value}{p:gn}{f:iZ}(hl:p.funcs.length≤1000000)(hl2:∀ g∈p.funcs,g.length≤256):Fn Tryz.prog W 73 [.agg #[fv,c1,c2,c3,c4,c5,c6,c7],.agg (iW f).toArray] [zI fv p.funcs] Unit (fun _=>Ld (dZ p f)) (fun _=>True) (fun _=>[zI fv p.funcs]) :=
 Fn.Ol fun fs hfs=>CD (A:=seps [sl eu 1 fv fs,aO (fun x=>sl dM 5 x.1 x.2) fs]) (Rd.eX (Rd.sl .here)) (fun x hx=>Rd.eX (yp (f:=fun x:Value×List Ins=>x.1) (g:=fun x=>x.2) hx (.there .here))) hfs (by rw[← List.length_map (f:=(·.2)),hfs];exact hl) (fun x hx=>Nat.le_trans (hl2 _ (by rw[← hfs];exact List.mem_map_of_mem hx)) (by decide))
theorem IW{W:World}{b:Nat}{s:Spc}{n choice:Int}(hO:hU s):Fn Tryz.prog W 22 [ptr b,.int .i64 n,.int .i64 choice] [fM b s] Value (fun u=>.tuple #[.agg (oE u (s.run n choice).1).toArray,.int .i64 (s.run n choice).2.1]) (fun _=>True) (fun u=>[sl aq 1 u (s.run n choice).1.av,fM b (s.run n choice).2.2]):=by
 refine Fn.intro (N:=76) func22 rfl ntmps22 rfl fun F=>?_
 show ar _ _ _ _ _ _ [fM b s,F]
 refine .o1 (C:=fM b s) .auto rfl ?_
 rintro ps -
 refine .jw (C:=cE b ps s) .auto rfl ?_
 rintro fv sv pv bt vm bg vt bk bw vr -
 refine .cM (fun w st=>st.fact .auto ib) fun hs=>?_
 refine J 2 ?_
 refine .aj rfl (af.alloc rfl zeroValue57 rfl) ?_
 rintro _ _ ⟨b6,rfl,rfl⟩
 refine J 7 ?_
 refine .c call72 rfl y9 fun _ _=>?_
 refine JD 12 (fun h15=>?_) fun h15=>?_
 ·have hap:yz ps n=none:=by
   cases hh:yz ps n with
   | none=>rfl
   | some p=>rw[hh] at h15;cases h15
  refine J 2 ?_
  refine .p (.mq ([(.slice none 0 0),(.bool false),(.bool false),(.bool false)]) (by kernel_rfl)) ?_
  refine J 7 ?_
  rw[Ai (Hk hs hap hO.lt)]
  refine .eQ rfl rfl isAgg57 (by exact sizeOf57) Cells.a rfl fun w s=>⟨(.slice none 0 0),?_,trivial,ak .auto s⟩
  rfl
 ·obtain⟨p,hap⟩:∃ p,yz ps n=some p:=by
   cases hh:yz ps n with
   | none=>rw[hh] at h15;cases h15
   | some p=>exact⟨p,rfl⟩
  rw[hap]
  obtain⟨k,t,rfl,hk16,hp,ht,hat⟩:=B0 hs hap hO.lt
  have hR:=(hO.R k t ht).1
  have hpc:=(hO.R k t ht).2
  refine J 2 ?_
  refine .jw (C:=cE b ps s) .auto rfl ?_
  rintro fv sv pv bt vm bg vt bk bw vr -
  refine .fr .auto (bP hp ht) ?_
  refine JD 8 (fun h19=>?_) fun h19=>?_
  ·refine J 2 ?_
   refine .p (.mq ([(.slice none 0 0),(.bool false),(.bool false),(.bool false)]) (by kernel_rfl)) ?_
   refine J 7 ?_
   refine .to (A:=aB ps s.aF) (Bs:=[arr p 0 (bn t),aB (ps.set k none) (s.aF.set k none)]) .auto (bM hp ht) ?_
   rw[Aj hat h19]
   refine .eQ rfl rfl isAgg57 (by exact sizeOf57) Cells.a rfl fun w s=>⟨(.slice none 0 0),?_,trivial,ak .auto s⟩
   rfl
  ·have hw0:t.cS=0:=Decidable.not_not.mp h19
   refine J 4 ?_
   refine .wc [arr b 0 (ft fv sv pv s.fb bt ps vm bg vt bk bw vr),arr p 0 (bn t)] [0,0,0,0,0,0,0,0,2,0,0,0,4,2,0] [0,1,2,3,4,5,6,7,8,9,10,11,12,13,14] rfl (by kernel_rfl) ?_
   refine bH.q rfl rfl rfl Kept.auto (Y.m rfl) ?_
   refine bH.q rfl rfl rfl Kept.auto (Y.n rfl) ?_
   refine bH.q rfl rfl rfl Kept.auto (Y.gm 52 underlying123 rfl sizeOf52 rfl) ?_
   refine bH.q rfl rfl rfl Kept.auto (Y.Ge isAgg52 rfl (Cells.mg (ds:=Al fv sv pv s.fb) (Cells.a (cs:=ft fv sv pv s.fb bt ps vm bg vt bk bw vr)) rfl) (by exact sizeOf52)) ?_
   refine bH.q rfl rfl rfl Kept.auto (Y.m rfl) ?_
   refine bH.q rfl rfl rfl Kept.auto (Y.n rfl) ?_
   refine bH.q rfl rfl rfl Kept.auto (Y.gm 133 underlying135 rfl sizeOf133 rfl) ?_
   refine bH.q rfl rfl rfl Kept.auto (Y.Ge isAgg133 rfl (Cells.mg (ds:=iW t.nE) (Cells.a (cs:=bn t)) rfl) (by exact sizeOf133)) ?_
   refine bH.eD rfl (.inl rfl) rfl (fun _=>Kept.auto) call73 rfl (vf (p:=s.fb) (f:=t.nE) hO.Av.1 hO.Av.2) .auto (fun _ _=>Kept.auto) ?_
   rintro⟨⟩ -
   refine bH.q rfl rfl rfl Kept.auto (Y.m rfl) ?_
   refine bH.q rfl rfl rfl Kept.auto (Y.extract (v:=.agg (dM ((dZ s.fb t.nE).getD Ins.z)).toArray) rfl rfl) ?_
   refine bH.q rfl rfl rfl Kept.auto (Y.extract (v:=.bool (dZ s.fb t.nE).isSome) rfl rfl) ?_
   refine bH.fresh rfl rfl rfl (by decide) Kept.auto (mI zeroValue94 rfl) ?_
   rintro b9
   refine bH.Ma rfl rfl (by exact sizeOf94) rfl rfl rfl (by rfl) Kept.auto Kept.auto ?_
   refine bH.q rfl rfl rfl Kept.auto (Y.a rfl) ?_
   refine bH.nil ?_
   refine J 8 ?_
   refine .p (.M6 (fun _ _ _ _ _=>ei b p (s.dR k ((dZ s.fb t.nE).getD Ins.z) choice) (.slice none 0 0) (.slice none 0 0)) rfl rfl rfl rfl rfl (by kernel_rfl)) ?_
   refine .aj rfl (af.box rfl rfl rfl) ?_
   rintro _ _ ⟨b44,rfl,rfl⟩
   refine JD 12 (fun h56=>?_) fun h56=>?_
   ·have hn:(dZ s.fb t.nE)=none:=Option.isNone_iff_eq_none.mp (by simpa using h56)
    refine J 3 ?_
    refine .p (.gX (fun v1=>[v1,(.int .i64 0),(.int .i64 0),(.int .i64 0),(.int .u64 0)]) rfl (by kernel_rfl)) ?_
    refine J 2 ?_
    refine .aj rfl (af.Jr (vs:=dM ⟨23,0,0,0,0⟩) (by exact sizeOf94) rfl rfl rfl rfl) ?_
    rintro _ _ ⟨rfl,rfl⟩
    rw[show setFrom (ei b p (s.dR k ((dZ s.fb t.nE).getD Ins.z) choice) (.slice none 0 0) (.slice none 0 0)) 3 (dM ⟨23,0,0,0,0⟩)=ei b p (s.dR k ⟨23,0,0,0,0⟩ choice) (.slice none 0 0) (.slice none 0 0) from rfl]
    refine J 5 ?_
    refine .to (A:=aB ps s.aF) (Bs:=[arr p 0 (bn t),aB (ps.set k none) (s.aF.set k none)]) .auto (bM hp ht) ?_
    refine .c call74 rfl (jQ (d:=(s.dR k ⟨23,0,0,0,0⟩ choice)) hp ht (Nat.le_trans hO.aA (by decide))) fun _ _=>?_
    refine J 4 ?_
    refine .c call75 rfl (sY (d:=(s.dR k ⟨23,0,0,0,0⟩ choice).tell 0 0 0 true) hp ht hO.lt (hs.1.trans hO.lt) hO.T hR (Nat.zero_le _) (Nat.zero_le _) (hO.Le hs ht hw0)) fun qs _=>?_
    refine J 6 ?_
    refine .c call79 rfl (oV (d:=(((s.dR k ⟨23,0,0,0,0⟩ choice).tell 0 0 0 true).fin 0)) (Nat.le_trans (gC.trans kQ).1 (by have:=hO.aA;show s.aA.length+_≤_;omega)) (Nat.le_trans (gC.trans kQ).2 (by show 0+_≤_;decide))) fun u75 _=>?_
    refine .aj rfl (af.J3 (vs:=[.bool (((s.dR k ⟨23,0,0,0,0⟩ choice).tell 0 0 0 true).fin 0).finish.1.aQ,.bool (((s.dR k ⟨23,0,0,0,0⟩ choice).tell 0 0 0 true).fin 0).finish.1.ended,.bool (((s.dR k ⟨23,0,0,0,0⟩ choice).tell 0 0 0 true).fin 0).finish.1.yielded]) (by exact sizeOf57) rfl rfl rfl rfl) ?_
    rintro _ _ ⟨rfl,rfl⟩
    refine J 4 ?_
    rw[DD hat h19 hn rfl]
    refine .eQ rfl rfl isAgg57 (by exact sizeOf57) Cells.a rfl fun w s=>⟨u75,?_,trivial,ak .auto s⟩
    rfl
   ·obtain⟨i,hn⟩:∃ i,(dZ s.fb t.nE)=some i:=Option.isSome_iff_exists.mp (by simpa using h56)
    rw[show((dZ s.fb t.nE).getD Ins.z)=i from by rw[hn];rfl]
    obtain⟨hI,hIn,hIt⟩:=wM hO hn
    refine J 4 ?_
    refine .c call76 rfl l5 fun _ _=>?_
    refine JD 4 (fun h67=>?_) fun h67=>?_
    ·refine J 2 ?_
     refine .to (A:=aB ps s.aF) (Bs:=[arr p 0 (bn t),aB (ps.set k none) (s.aF.set k none)]) .auto (bM hp ht) ?_
     refine .c call77 rfl (Fx (d:=(s.dR k i choice)) hp ht hI (hR.nE hpc) h67 hO.mem (Nat.le_trans hO.aA (by decide)) hO.lt (hs.1.trans hO.lt) hO.T hR (Nat.zero_le _) (Nat.zero_le _) (hO.Le hs ht hw0)) fun qs _=>?_
     refine J 6 ?_
     refine .c call79 rfl (oV (d:=(s.dR k i choice).plain) (Nat.le_trans (oI).1 (by have:=hO.aA;show s.aA.length+_≤_;omega)) (Nat.le_trans (oI).2 (by show 0+_≤_;decide))) fun u75 _=>?_
     refine .aj rfl (af.J3 (vs:=[.bool (s.dR k i choice).plain.finish.1.aQ,.bool (s.dR k i choice).plain.finish.1.ended,.bool (s.dR k i choice).plain.finish.1.yielded]) (by exact sizeOf57) rfl rfl rfl rfl) ?_
     rintro _ _ ⟨rfl,rfl⟩
     refine J 4 ?_
     rw[wN hat h19 hn h67 rfl]
     refine .eQ rfl rfl isAgg57 (by exact sizeOf57) Cells.a rfl fun w s=>⟨u75,?_,trivial,ak .auto s⟩
     rfl
    ·refine J 7 ?_
     refine .p (.add rfl rfl (by omega)) ?_
     refine J 4 ?_
     rw[Mc]
     refine J 4 ?_
     refine .to (A:=aB ps (s.aF.set k (some ({t with pc:=t.pc+1 })))) (Bs:=[arr p 0 (bn ({t with pc:=t.pc+1 })),aB (ps.set k none) (s.aF.set k none)]) .auto (cz (List.getElem?_eq_some_iff.1 ht).1 hp) ?_
     refine .c call78 rfl (IV (d:=((s.dR k i choice).aX {t with pc:=t.pc+1 })) hp (dp ht) (hO.call hs ht hw0 hI (hIn h67) hIt)) fun qs _=>?_
     refine J 6 ?_
     refine .c call79 rfl (oV (d:=((s.dR k i choice).aX {t with pc:=t.pc+1 }).call) (Nat.le_trans (qY hO.Ca.2).1 (by have:=hO.aA;show s.aA.length+_≤_;omega)) (Nat.le_trans (qY hO.Ca.2).2 (by show 0+_≤_;decide))) fun u75 _=>?_
     refine .aj rfl (af.J3 (vs:=[.bool ((s.dR k i choice).aX {t with pc:=t.pc+1 }).call.finish.1.aQ,.bool ((s.dR k i choice).aX {t with pc:=t.pc+1 }).call.finish.1.ended,.bool ((s.dR k i choice).aX {t with pc:=t.pc+1 }).call.finish.1.yielded]) (by exact sizeOf57) rfl rfl rfl rfl) ?_
     rintro _ _ ⟨rfl,rfl⟩
     refine J 4 ?_
     rw[Ak hat h19 hn h67 rfl]
     refine .eQ rfl rfl isAgg57 (by exact sizeOf57) Cells.a rfl fun w s=>⟨u75,?_,trivial,ak .auto s⟩
     rfl
end Go.SLYtpbjdoplfgeliaaGreat
namespace Go.SLYtpbjdoplfgeliaaGreat
open Go Go.RowKit Go.Proofs Go.Proofs.Tryz
attribute [local irreducible] ar aR bm bA bH Y
theorem vX{W:World}  : Fn Tryz.prog W 25 [.pointer none] [] Unit (fun _=>(.slice none 0 0)) (fun _=>True) (fun _=>[]):=by
 refine Fn.intro (N:=11) func25 rfl ntmps25 rfl fun F=>?_
 show ar _ _ _ _ _ _ [F]
 refine J 12 ?_
 refine .gu rfl ?_
 exact JR 7 ()
theorem xB{W:World}{b p:Nat}{ps:List (Option Nat)}{pr:gn}{n:Nat}{t:bI}{fv sv pv:Value}{bt:Nat}{vm:Value}{bg:Nat}{vt:Value}{bk bw:Nat}{vr:Value}(hp:ps[n]?=some (some p))(hn16:n<16)(hR:gZ t){y:Int}:Fn Tryz.prog W 81 [ptr b,.int .i64 (n:Int),.int .u64 y] [arr b 0 (ft fv sv pv pr bt ps vm bg vt bk bw vr),arr p 0 (bn t)] Unit (fun _=>.agg (iU (t.ku y)).toArray) (fun _=>True) (fun _=>[arr b 0 (ft fv sv pv pr bt ps vm bg vt bk bw vr),arr p 0 (bn (t.fz y))]):=by
 refine Fn.intro (N:=50) func81 rfl ntmps81 rfl fun F=>?_
 show ar _ _ _ _ _ _ [arr b 0 (ft fv sv pv pr bt ps vm bg vt bk bw vr),arr p 0 (bn t),F]
 have hRl:=hR.l
 have hRi:=hR.i
 refine J 2 ?_
 refine .aj rfl (af.alloc rfl zeroValue102 rfl) ?_
 rintro _ _ ⟨b6,rfl,rfl⟩
 refine J 8 ?_
 refine .p (.dK n underlying120 sizeOf119 rfl rfl rfl hn16) ?_
 refine .p (.ld rfl (Cell.a (by rw[Nat.mul_one,eL hn16,aP hp]))) ?_
 refine J 3 ?_
 refine .Bx (X:=Unit) [2,14,15,16,17,18,19,20,21,22,23,24,25,26,27,28] (fun _=>True) (fun _=>[(2,some (.int .u64 (if t.bZ = -1 then 0 else y)))]) (fun _=>[arr p 0 (bn (if t.bZ = -1 then t else t.put t.bZ y)),arr b6 0 [.int .u64 0,.int .i64 0,.int .u64 0,.int .u64 0,.int .i64 0,.bool false],arr b 0 (ft fv sv pv pr bt ps vm bg vt bk bw vr),F]) ?_ ?_
 ·refine JD 9 (fun h18=>?_) fun h18=>?_
  ·refine .draw [arr p 0 (bn t)] [1,1,1,1,1,1,1,1,1,1,3] rfl (by kernel_rfl) ?_
   refine J 9 ?_
   refine .p (.dK t.bZ.toNat underlying131 sizeOf92 rfl rfl (by omega) (by omega)) ?_
   refine .d3 rfl (af.st sizeOf92 rfl rfl rfl (Nat.blt_eq.mpr (by show 2+t.bZ.toNat * 1<18;omega))) ?_
   rintro _ _ ⟨rfl,rfl⟩
   rw[jJ y (by omega) (by omega) hRl]
   refine J 1 ?_
   refine .kF () .auto ?_ ?_ ?_
   ·trivial
   ·rw[if_neg (by omega)];exact⟨rfl,trivial⟩
   ·rw[if_neg (by omega)];exact fun w s=>aw.kept .auto w s
  ·refine J 3 ?_
   refine .kF () .auto ?_ ?_ ?_
   ·trivial
   ·rw[if_pos (by omega)];exact⟨rfl,trivial⟩
   ·rw[if_pos (by omega)];exact fun w s=>aw.kept .auto w s
 ·rintro⟨⟩ -
  obtain⟨y1,hy1⟩:∃ y1,y1=(if t.bZ = -1 then 0 else y):=⟨_,rfl⟩
  obtain⟨t1,h1⟩:∃ t1,t1=(if t.bZ = -1 then t else t.put t.bZ y):=⟨_,rfl⟩
  have h1l:t1.aE.length=8:=by
   rw[h1]
   split
   ·exact hRl
   ·rw[j8];exact hRl
  have h1h:t1.handle=t.handle∧t1.op=t.op:=by
   rw[h1]
   split <;> exact⟨rfl,rfl⟩
  rw[← hy1, ← h1]
  refine J 6 ?_
  refine .p (.dK 7 underlying131 sizeOf92 rfl rfl (by omega) (by omega)) ?_
  refine J 1 ?_
  rw[sL (n:=7) 0 (by decide) h1l]
  refine J 9 ?_
  rw[pL]
  refine J 3 ?_
  rw[tZ]
  refine J 3 ?_
  refine .draw [arr p 0 (bn {t1.put 7 0 with cS:=0,bZ := -1 })] [1,1,1,1,1,1,1,1,1,1,3] rfl (by kernel_rfl) ?_
  refine J 9 ?_
  refine .p (.Gf (fun v1 v2 v3 v4=>[v1,v2,(.int .u64 0),v3,(.int .i64 0),v4]) rfl rfl rfl rfl (by kernel_rfl)) ?_
  refine .d3 rfl (af.iy (by exact sizeOf102) rfl rfl rfl (by rfl)) ?_
  rintro _ _ ⟨rfl,rfl⟩
  refine J 3 ?_
  rw[Dv t1 h1]
  refine .dJ rfl rfl isAgg102 (by exact sizeOf102) Cells.a fun w s=>⟨(),?_,trivial,ak .auto s⟩
  show Ending.returned (Value.agg #[.int .u64 t1.handle,.int .i64 t1.op,.int .u64 0,.int .u64 y1,.int .i64 0,.bool true])=_;rw[h1h.1,h1h.2,hy1];rfl
theorem FH{W:World}{b:Nat}{s:Spc}{k:Int}(hO:hU s):Fn Tryz.prog W 23 [ptr b,.int .i64 k] [fM b s] Value (fun u=>.tuple #[.agg (oE u (s.done k).1).toArray,.int .i64 (s.done k).2.1]) (fun _=>True) (fun u=>[sl aq 1 u (s.done k).1.av,fM b (s.done k).2.2]):=by
 refine Fn.intro (N:=43) func23 rfl ntmps23 rfl fun F=>?_
 show ar _ _ _ _ _ _ [fM b s,F]
 refine .o1 (C:=fM b s) .auto rfl ?_
 rintro ps -
 refine .jw (C:=cE b ps s) .auto rfl ?_
 rintro fv sv pv bt vm bg vt bk bw vr -
 refine .cM (fun w st=>st.fact .auto ib) fun hs=>?_
 refine J 2 ?_
 refine .aj rfl (af.alloc rfl zeroValue57 rfl) ?_
 rintro _ _ ⟨b4,rfl,rfl⟩
 refine J 10 ?_
 refine .ep rfl ?_
 refine J 9 ?_
 refine .c call80 rfl (FD hO.dw hO.db) fun _ _=>?_
 refine J 1 ?_
 refine .p (.extract (v:=.agg (gJ (s.ca.done k).1).toArray) rfl rfl) ?_
 refine .p (.extract (v:=.int .u64 (s.ca.done k).2.1) rfl rfl) ?_
 refine .p (.extract (v:=.bool (s.ca.done k).2.2.1) rfl rfl) ?_
 refine .aj rfl (af.alloc rfl zeroValue145 rfl) ?_
 rintro _ _ ⟨b6,rfl,rfl⟩
 refine JD 12 (fun h23=>?_) fun h23=>?_
 ·refine J 2 ?_
  refine .p (.mq ([(.slice none 0 0),(.bool false),(.bool false),(.bool false)]) (by kernel_rfl)) ?_
  refine J 6 ?_
  rw[rS (by simpa using h23)]
  rw[ET (by simpa using h23)]
  refine .eQ rfl rfl isAgg57 (by exact sizeOf57) Cells.a rfl fun w s=>⟨(.slice none 0 0),?_,trivial,ak .auto s⟩
  rfl
 ·have hd1:(s.ca.done k).2.2.1=true:=by simpa using h23
  obtain⟨hdm, -⟩:=Hp hd1
  obtain⟨hw0,t,ht⟩:=hO.Np _ hdm
  obtain⟨hn16,q,t2,hq,ht2,hR⟩:=hO.live hs ht
  have e2:=Option.some.inj (ht.symm.trans ht2)
  obtain rfl:=Option.some.inj e2
  obtain⟨m,hm⟩:∃ m:Nat,(s.ca.done k).1.who.toNat=m:=⟨_,rfl⟩
  rw[hm] at ht hn16 hq
  have hmc:(s.ca.done k).1.who=(m:Int):=by omega
  refine J 3 ?_
  refine .fr .auto (bP hq ht) ?_
  refine .draw [arr b6 0 (gJ (s.ca.done k).1),arr b 0 (ft fv sv pv s.fb bt ps vm bg vt bk bw vr)] [0,0,0,0,0,1,1,1,1,2,2,2,1,1,3] rfl (by kernel_rfl) ?_
  refine J 8 ?_
  rw[hmc]
  refine J 1 ?_
  refine .c2 call81 rfl (xB hq hn16 hR) fun _ _=>?_
  refine .d2 rfl Kept.auto (af.gj 102 rfl rfl (by kernel_rfl)) (by rintro _ _ ⟨b35,rfl,rfl⟩;exact Kept.auto) ?_
  rintro _ _ ⟨b35,rfl,rfl⟩
  refine .d2 rfl Kept.auto (af.fV (enc:=iU) (k:=6) (t.ku (s.ca.done k).2.1) rfl underlying33 underlying33 typeInfo102 rfl rfl rfl (by decide) rfl rfl rfl .auto rfl .auto (by have:=hO.aA;omega) rfl) (by rintro _ _ ⟨v36,rfl,rfl⟩;exact Kept.auto) ?_
  rintro _ _ ⟨v36,rfl,rfl⟩
  refine J 2 ?_
  refine .d3 rfl (af.mC sizeOf33 rfl rfl rfl) ?_
  rintro _ _ ⟨rfl,rfl⟩
  rw[pM]
  refine J 6 ?_
  rw[hmc]
  refine .aj rfl (af.gj 3 rfl rfl (by kernel_rfl)) ?_
  rintro _ _ ⟨b41,rfl,rfl⟩
  refine .p (.gX (fun v1=>[v1,.bool false,.bool false,.bool false]) rfl (by kernel_rfl)) ?_
  refine .aj rfl (af.iy (vs:=[.slice (some ⟨b41,0,none⟩) 1 1,.bool false,.bool false,.bool false]) (by exact sizeOf57) rfl rfl rfl (by rfl)) ?_
  rintro _ _ ⟨rfl,rfl⟩
  refine .to (A:=sl aq 1 (.slice (some ⟨b41,0,none⟩) 1 1) [(m:Int)]) (Bs:=[arr b41 0 [.int .i64 (m:Int)]]) .auto Md ?_
  refine J 4 ?_
  refine .to (A:=aB ps (s.aF.set m (some (t.fz (s.ca.done k).2.1)))) (Bs:=[arr q 0 (bn (t.fz (s.ca.done k).2.1)),aB (ps.set m none) (s.aF.set m none)]) .auto (cz (List.getElem?_eq_some_iff.1 ht).1 hq) ?_
  rw[rT hd1 (by rw[hm];exact ht),hm,hmc,show(({s with ca:=(s.ca.done k).2.2.2 }:Spc).dN m (s.ca.done k).2.1)=({s with ca:=(s.ca.done k).2.2.2 }:Spc).aX m (t.fz (s.ca.done k).2.1) from by unfold Spc.dN;rw[dS (s:=({s with ca:=(s.ca.done k).2.2.2 }:Spc)) ht]]
  refine .eQ rfl rfl isAgg57 (by exact sizeOf57) Cells.a rfl fun w s=>⟨(.slice (some ⟨b41,0,none⟩) 1 1),?_,trivial,ak .auto s⟩
  rfl
theorem FI{W:World}{b:Nat}{s:Spc}{n:Int}(hO:hU s):Fn Tryz.prog W 147 [ptr b,.int .i64 n] [fM b s] Unit (fun _=>.tuple #[.agg (J5 ((s.at n).getD Ho)).toArray,.bool (s.at n).isSome]) (fun _=>True) (fun _=>[fM b s]):=by
 refine Fn.intro (N:=41) func147 rfl ntmps147 rfl fun F=>?_
 show ar _ _ _ _ _ _ [fM b s,F]
 refine .o1 (C:=fM b s) .auto rfl ?_
 rintro ps -
 refine .jw (C:=cE b ps s) .auto rfl ?_
 rintro fv sv pv bt vm bg vt bk bw vr -
 refine .cM (fun w st=>st.fact .auto ib) fun hs=>?_
 refine J 2 ?_
 refine .aj rfl (af.alloc rfl zeroValue243 rfl) ?_
 rintro _ _ ⟨b4,rfl,rfl⟩
 refine J 7 ?_
 refine .c call72 rfl y9 fun _ _=>?_
 refine JD 10 (fun h11=>?_) fun h11=>?_
 ·have hap:yz ps n=none:=by
   cases hh:yz ps n with
   | none=>rfl
   | some p=>rw[hh] at h11;cases h11
  refine J 2 ?_
  refine .p (.mq ([(.int .u64 0),(.int .i64 0),(.int .i64 0),(.int .i64 0),(.int .u64 0),(.int .u64 0),(.int .u64 0),(.int .u64 0),(.int .u64 0),(.int .u64 0),(.int .u64 0),(.int .u64 0),(.int .u64 0)]) (by kernel_rfl)) ?_
  refine J 6 ?_
  rw[Hk hs hap hO.lt]
  refine .eQ rfl rfl isAgg243 (by exact sizeOf243) Cells.a rfl fun w s=>⟨(),?_,trivial,ak .auto s⟩
  rfl
 ·obtain⟨p,hap⟩:∃ p,yz ps n=some p:=by
   cases hh:yz ps n with
   | none=>rw[hh] at h11;cases h11
   | some p=>exact⟨p,rfl⟩
  rw[hap]
  obtain⟨k,t,rfl,hk16,hp,ht,hat⟩:=B0 hs hap hO.lt
  refine .jw (C:=cE b ps s) .auto rfl ?_
  rintro fv sv pv bt vm bg vt bk bw vr -
  refine .fr .auto (bP hp ht) ?_
  refine J 3 ?_
  refine .draw [arr p 0 (bn t)] [1,1,1,1,1,1,1,1,1,1,1,1,1,1,1,1,1,1,1,1,1,1,1,1,1,1,1,1,3,1] rfl (by kernel_rfl) ?_
  refine J 22 ?_
  refine .p (.la rfl (Cells.mg (ds:=[.int .u64 (t.aE.getD 0 0),.int .u64 (t.aE.getD 1 0),.int .u64 (t.aE.getD 2 0),.int .u64 (t.aE.getD 3 0),.int .u64 (t.aE.getD 4 0),.int .u64 (t.aE.getD 5 0),.int .u64 (t.aE.getD 6 0),.int .u64 (t.aE.getD 7 0)]) (Cells.a (cs:=bn t)) rfl)) ?_
  refine J 4 ?_
  refine .p (.LH (fun _ _ _ _ _ _=>J5 t) rfl rfl rfl rfl rfl rfl (by kernel_rfl)) ?_
  refine .d3 rfl (af.iy (by exact sizeOf243) rfl rfl rfl (by rfl)) ?_
  rintro _ _ ⟨rfl,rfl⟩
  refine J 4 ?_
  refine .to (A:=aB ps s.aF) (Bs:=[arr p 0 (bn t),aB (ps.set k none) (s.aF.set k none)]) .auto (bM hp ht) ?_
  rw[hat]
  refine .eQ rfl rfl isAgg243 (by exact sizeOf243) Cells.a rfl fun w s=>⟨(),?_,trivial,ak .auto s⟩
  rfl
end Go.SLYtpbjdoplfgeliaaGreat
namespace Go.SLYtpbjdoplfgeliaaGreat
open Go Go.RowKit Go.Proofs Go.Proofs.Tryz
attribute [local irreducible] ar aR bm bA bH Y
theorem FJ{W:World}{b:Nat}{s:Spc}(hO:hU s):Fn Tryz.prog W 24 [ptr b] [fM b s] Value (fun u=>.agg (oE u s.tick.1).toArray) (fun _=>True) (fun u=>[sl aq 1 u s.aT.due,fM b s.tick.2]):=by
 refine Fn.intro (N:=35) func24 rfl ntmps24 rfl fun F=>?_
 show ar _ _ _ _ _ _ [fM b s,F]
 refine .o1 (C:=fM b s) .auto rfl ?_
 rintro ps -
 refine .jw (C:=cE b ps s) .auto rfl ?_
 rintro fv sv pv bt vm bg vt bk bw vr -
 refine .cM (fun w st=>st.fact .auto ib) fun hs=>?_
 have hdl:=Nat.le_trans (pR s.aT) hO.wl
 have hrl:=hO.aA
 refine J 2 ?_
 refine .aj rfl (af.alloc rfl zeroValue57 rfl) ?_
 rintro _ _ ⟨b2,rfl,rfl⟩
 refine J 9 ?_
 refine .ep rfl ?_
 refine J 8 ?_
 refine .c call82 rfl (CI hO.wn hO.wl) fun u13 _=>?_
 refine J 12 ?_
 refine .aZ (X:=Nat) [5,16,17,18,19,20,21,22,23,24,25,26,27,28,29,30,31,32] (fun k=>s.aT.due.length-k) (fun k=>k≤s.aT.due.length) (fun k=>[(16,some (.int .i64 (k:Int)))]) (fun k=>[cE b ps (cK ({s with aT:=s.aT.tick.2 }:Spc) (s.aT.due.take k)),sl aq 1 u13 s.aT.due,arr b2 0 [.slice none 0 0,.bool false,.bool false,.bool false],F]) 0 ?_ ?_ ?_ ?_
 ·exact Nat.zero_le _
 ·exact⟨rfl,trivial⟩
 ·exact fun w s=>aw.kept .auto w s
 rintro k hk
 refine JD 6 (fun h17=>?_) fun h17=>?_
 ·refine J 7 ?_
  obtain⟨x,hx⟩:=ai (show k<s.aT.due.length by omega)
  have hdl2:∀ x∈s.aT.due,0≤x∧bQ ps s x.toNat:=fun x hx=>by
   obtain⟨y,hy,e⟩:=J6 hx
   obtain⟨h0,u,hu⟩:=hO.Nq y hy
   rw[e] at h0 hu
   exact⟨h0,hO.live hs hu⟩
  obtain⟨hx0,hxl⟩:=hdl2 x (List.mem_of_getElem? hx)
  obtain⟨hn16,q,t,hq,ht,hR⟩:=yH x.toNat (s.aT.due.take k) ({s with aT:=s.aT.tick.2 }:Spc) (hxl.of rfl) (fun z hz=>(hdl2 z (List.mem_of_mem_take hz)).2.of rfl)
  have hwr:=pQ ({s with aT:=s.aT.tick.2 }:Spc) (s.aT.due.take k)
  rw[List.length_take] at hwr
  simp only at hwr
  have hxc:x=((x.toNat:Nat):Int):=by omega
  refine J 4 ?_
  refine .jw (C:=cE b ps (cK ({s with aT:=s.aT.tick.2 }:Spc) (s.aT.due.take k))) .auto rfl ?_
  rintro fv sv pv bt vm bg vt bk bw vr -
  refine .fr .auto (bP hq ht) ?_
  refine .draw [arr b 0 (ft fv sv pv (cK ({s with aT:=s.aT.tick.2 }:Spc) (s.aT.due.take k)).fb bt ps vm bg vt bk bw vr)] [0,0,0,0,0,1,1,2,2,2,1,1,3] rfl (by kernel_rfl) ?_
  rw[hxc]
  refine J 7 ?_
  refine .c2 call81 rfl (xB (n:=x.toNat) hq hn16 hR) fun _ _=>?_
  refine .d2 rfl Kept.auto (af.gj 102 rfl rfl (by kernel_rfl)) (by rintro _ _ ⟨b28,rfl,rfl⟩;exact Kept.auto) ?_
  rintro _ _ ⟨b28,rfl,rfl⟩
  refine .d2 rfl Kept.auto (af.fV (enc:=iU) (k:=6) (t.ku 0) rfl underlying33 underlying33 typeInfo102 rfl rfl rfl (by decide) rfl rfl rfl .auto rfl .auto (by have e:(cK ({s with aT:=s.aT.tick.2 }:Spc) (s.aT.due.take k)).aA.length=s.aA.length+min k s.aT.due.length:=hwr;omega) rfl) (by rintro _ _ ⟨v29,rfl,rfl⟩;exact Kept.auto) ?_
  rintro _ _ ⟨v29,rfl,rfl⟩
  refine J 2 ?_
  refine .d3 rfl (af.mC sizeOf33 rfl rfl rfl) ?_
  rintro _ _ ⟨rfl,rfl⟩
  rw[pM]
  refine .to (A:=aB ps ((cK ({s with aT:=s.aT.tick.2 }:Spc) (s.aT.due.take k)).aF.set x.toNat (some (t.fz 0)))) (Bs:=[arr q 0 (bn (t.fz 0)),aB (ps.set x.toNat none) ((cK ({s with aT:=s.aT.tick.2 }:Spc) (s.aT.due.take k)).aF.set x.toNat none)]) .auto (cz (List.getElem?_eq_some_iff.1 ht).1 hq) ?_
  refine J 7 ?_
  refine .ax (k+1) .auto rfl ?_ ?_ ?_ ?_
  ·omega
  ·show k+1≤_;omega
  ·exact⟨rfl,trivial⟩
  ·rw[aW hx,yG,show(cK ({s with aT:=s.aT.tick.2 }:Spc) (s.aT.due.take k)).dN x.toNat 0=(cK ({s with aT:=s.aT.tick.2 }:Spc) (s.aT.due.take k)).aX x.toNat (t.fz 0) from by unfold Spc.dN;rw[dS ht],dS ht];exact fun w s=>aw.kept .auto w s
 ·refine J 7 ?_
  refine .cM (fun w st=>(Rd.s (v:=u13) (enc:=aq) (k:=1) (xs:=s.aT.due) w st).1) fun hr=>?_
  obtain⟨a13,c13,rfl, -, -⟩:=hr
  refine J 1 ?_
  refine .p (.gX (fun v1=>[v1,(.bool false),(.bool false),(.bool false)]) rfl (by kernel_rfl)) ?_
  refine .aj rfl (af.iy (vs:=[.slice a13 s.aT.due.length c13,.bool false,.bool false,.bool false]) (by exact sizeOf57) rfl rfl rfl (by rfl)) ?_
  rintro _ _ ⟨rfl,rfl⟩
  refine J 3 ?_
  have hkk:k=s.aT.due.length:=by omega
  rw[hkk,List.take_length]
  refine .dJ rfl rfl isAgg57 (by exact sizeOf57) Cells.a fun w s=>⟨_,?_,trivial,ak .auto s⟩
  rfl
theorem CL{W:World}{b:Nat}{s:Spc}{n:Int}(hO:hU s):Fn Tryz.prog W 192 [ptr b,.int .i64 n] [fM b s] Unit (fun _=>.int .i64 (s.class n)) (fun _=>True) (fun _=>[fM b s]):=by
 refine Fn.intro (N:=37) func192 rfl ntmps192 rfl fun F=>?_
 show ar _ _ _ _ _ _ [fM b s,F]
 refine .o1 (C:=fM b s) .auto rfl ?_
 rintro ps -
 refine .jw (C:=cE b ps s) .auto rfl ?_
 rintro fv sv pv bt vm bg vt bk bw vr -
 refine .cM (fun w st=>st.fact .auto ib) fun hs=>?_
 refine J 9 ?_
 refine .c call72 rfl y9 fun _ _=>?_
 refine J 9 ?_
 refine .part (t:=13) rfl (fun h13=>?_) (fun h13=>?_)
 ·refine J 8 ?_
  refine .gu rfl ?_
  refine J 7 ?_
  have hap:yz ps n=none:=by
   cases hh:yz ps n with
   | none=>rfl
   | some p=>rw[hh] at h13;cases h13
  rw[B5 (Hk hs hap hO.lt)]
  exact JR 0 ()
 ·obtain⟨p,hap⟩:∃ p,yz ps n=some p:=by
   cases hh:yz ps n with
   | none=>rw[hh] at h13;cases h13
   | some p=>exact⟨p,rfl⟩
  rw[hap]
  obtain⟨k,t,rfl,hk16,hp,ht,hat⟩:=B0 hs hap hO.lt
  refine .jw (C:=cE b ps s) .auto rfl ?_
  rintro fv sv pv bt vm bg vt bk bw vr -
  refine .fr .auto (bP hp ht) ?_
  refine JD 8 (fun h19=>?_) fun h19=>?_
  ·refine J 7 ?_
   refine .to (A:=aB ps s.aF) (Bs:=[arr p 0 (bn t),aB (ps.set k none) (s.aF.set k none)]) .auto (bM hp ht) ?_
   rw[B6 hat h19]
   exact JR 0 ()
  ·refine J 3 ?_
   refine .wc [arr b 0 (ft fv sv pv s.fb bt ps vm bg vt bk bw vr),arr p 0 (bn t)] [0,0,0,0,0,0,0,0,2,0,0,0,4,2,0] [0,1,2,3,4,5,6,7,8,9,10,11,12,13,14] rfl (by kernel_rfl) ?_
   refine bH.q rfl rfl rfl Kept.auto (Y.m rfl) ?_
   refine bH.q rfl rfl rfl Kept.auto (Y.n rfl) ?_
   refine bH.q rfl rfl rfl Kept.auto (Y.gm 52 underlying123 rfl sizeOf52 rfl) ?_
   refine bH.q rfl rfl rfl Kept.auto (Y.Ge isAgg52 rfl (Cells.mg (ds:=Al fv sv pv s.fb) (Cells.a (cs:=ft fv sv pv s.fb bt ps vm bg vt bk bw vr)) rfl) (by exact sizeOf52)) ?_
   refine bH.q rfl rfl rfl Kept.auto (Y.m rfl) ?_
   refine bH.q rfl rfl rfl Kept.auto (Y.n rfl) ?_
   refine bH.q rfl rfl rfl Kept.auto (Y.gm 133 underlying135 rfl sizeOf133 rfl) ?_
   refine bH.q rfl rfl rfl Kept.auto (Y.Ge isAgg133 rfl (Cells.mg (ds:=iW t.nE) (Cells.a (cs:=bn t)) rfl) (by exact sizeOf133)) ?_
   refine bH.eD rfl (.inl rfl) rfl (fun _=>Kept.auto) call73 rfl (vf (p:=s.fb) (f:=t.nE) hO.Av.1 hO.Av.2) .auto (fun _ _=>Kept.auto) ?_
   rintro⟨⟩ -
   refine bH.q rfl rfl rfl Kept.auto (Y.m rfl) ?_
   refine bH.q rfl rfl rfl Kept.auto (Y.extract (v:=.agg (dM ((dZ s.fb t.nE).getD Ins.z)).toArray) rfl rfl) ?_
   refine bH.q rfl rfl rfl Kept.auto (Y.extract (v:=.bool (dZ s.fb t.nE).isSome) rfl rfl) ?_
   refine bH.fresh rfl rfl rfl (by decide) Kept.auto (mI zeroValue94 rfl) ?_
   rintro b6
   refine bH.Ma rfl rfl (by exact sizeOf94) rfl rfl rfl (by rfl) Kept.auto Kept.auto ?_
   refine bH.q rfl rfl rfl Kept.auto (Y.a rfl) ?_
   refine bH.nil ?_
   refine JD 8 (fun h33=>?_) fun h33=>?_
   ·refine J 7 ?_
    refine .to (A:=aB ps s.aF) (Bs:=[arr p 0 (bn t),aB (ps.set k none) (s.aF.set k none)]) .auto (bM hp ht) ?_
    rw[ES hat h19 (Option.isNone_iff_eq_none.mp (by simpa using h33))]
    exact JR 0 ()
   ·obtain⟨i,hn⟩:∃ i,(dZ s.fb t.nE)=some i:=Option.isSome_iff_exists.mp (by simpa using h33)
    rw[show((dZ s.fb t.nE).getD Ins.z)=i from by rw[hn];rfl]
    refine J 6 ?_
    refine .c call76 rfl l5 fun _ _=>?_
    refine J 4 ?_
    refine .to (A:=aB ps s.aF) (Bs:=[arr p 0 (bn t),aB (ps.set k none) (s.aF.set k none)]) .auto (bM hp ht) ?_
    rw[B7 hat h19 hn]
    exact JR 0 ()
theorem ze{W:World}{b:Nat}{s:Spc}(hl:s.aA.length≤1000000000):Fn Tryz.prog W 25 [ptr b] [fM b s] Value (fun u=>u) (fun _=>True) (fun u=>[sl iU 6 u s.aA,fM b s]):=by
 refine Fn.intro (N:=11) func25 rfl ntmps25 rfl fun F=>?_
 show ar _ _ _ _ _ _ [fM b s,F]
 refine .o1 (C:=fM b s) .auto rfl ?_
 rintro ps -
 refine .jw (C:=cE b ps s) .auto rfl ?_
 rintro fv sv pv bt vm bg vt bk bw vr -
 refine J 12 ?_
 refine .ep rfl ?_
 refine J 8 ?_
 refine .c call84 rfl (Mz (A:=sl iU 6 vr s.aA) (Rd.sl .here) hl) fun u9 _=>?_
 refine .c call83 rfl NL fun u10 _=>?_
 exact JR 4 u10
end Go.SLYtpbjdoplfgeliaaGreat
namespace Go.SLYtpbjdoplfgeliaaGreat
open Go Go.RowKit Go.Proofs Go.Proofs.Tryz
attribute [local irreducible] ar aR bm bA bH Y
theorem qu{W:World}{A:aa}{v u:Value}{xs ys:List Int}(hv:Rd W [A] aq 1 v xs)(hu:Rd W [A] aq 1 u ys)(hl:xs.length≤1000000000):Fn Tryz.prog W 42 [v,u] [A] Unit (fun _=>.bool (decide (xs=ys))) (fun _=>True) (fun _=>[A]):=by
 refine Fn.intro (N:=26) func42 rfl ntmps42 rfl fun F=>?_
 haveI hRI:∀ (H:List aa) [bE H A],aC W H v aq 1 xs:=fun H h=>⟨hv.at h.has⟩
 haveI hRJ:∀ (H:List aa) [bE H A],aC W H u aq 1 ys:=fun H h=>⟨hu.at h.has⟩
 show ar _ _ _ _ _ _ [A,F]
 refine JD 15 (fun h10=>?_) fun h10=>?_
 ·refine J 7 ?_
  refine .aS rfl rfl fun w s=>⟨(),?_,trivial,ak .auto s⟩
  rw[decide_eq_false (fun e=>h10 (by rw[e]))]
 ·refine J 9 ?_
  refine .aZ (X:=Nat) [4,5,11,12,13,14,15,16,17,18,19,20,21,22,23,24,25] (fun k=>xs.length-k) (fun k=>k≤xs.length∧xs.take k=ys.take k) (fun k=>[(5,some (.int .i64 (k:Int)))]) (fun k=>[A,F]) 0 ?_ ?_ ?_ ?_
  ·exact⟨Nat.zero_le _,rfl⟩
  ·exact⟨rfl,trivial⟩
  ·exact fun w s=>aw.kept .auto w s
  rintro k ⟨hk,hn⟩
  refine JD 9 (fun h14=>?_) fun h14=>?_
  ·refine J 5 ?_
   refine .draw [] [1,1,1,1,1,1,1,1,1] rfl (by kernel_rfl) ?_
   obtain⟨x,hx⟩:=ai (show k<xs.length by omega)
   obtain⟨y,hy⟩:=ai (show k<ys.length by omega)
   refine J 3 ?_
   refine .p (.lr rfl hx) ?_
   refine J 3 ?_
   refine .p (.lr rfl hy) ?_
   refine JD 3 (fun h25=>?_) fun h25=>?_
   ·refine J 11 ?_
    refine .aS rfl rfl fun w s=>⟨(),?_,trivial,ak .auto s⟩
    rw[decide_eq_false (fun e=>h25 (by rw[e] at hx;exact Option.some.inj (hx.symm.trans hy)))]
   ·refine J 8 ?_
    refine .ax (k+1) .auto rfl ?_ ?_ ?_ ?_
    ·first | omega | (dsimp only;omega)
    ·exact⟨by omega,by rw[aW hx,aW hy,hn,Decidable.of_not_not h25]⟩
    ·exact⟨rfl,trivial⟩
    ·exact fun w s=>aw.kept .auto w s
  ·refine J 11 ?_
   obtain rfl:k=xs.length:=by omega
   rw[List.take_length,List.take_of_length_le (by omega)] at hn
   refine .aS rfl rfl fun w s=>⟨(),?_,trivial,ak .auto s⟩
   rw[decide_eq_true hn]
end Go.SLYtpbjdoplfgeliaaGreat
namespace Go.SLYtpbjdoplfgeliaaGreat
open Go Go.RowKit Go.Proofs Go.Proofs.Tryz
attribute [local irreducible] ar aR bm bA bH Y
end Go.SLYtpbjdoplfgeliaaGreat
namespace Go.SLYtpbjdoplfgeliaaGreat
open Go Go.RowKit Go.Proofs Go.Proofs.Tryz
attribute [local irreducible] ar aR bm bA bH Y
theorem AZ{W:World}{b:Nat}{l:List Int}{n:Int}(hl:l.length≤1000000000):Fn Tryz.prog W 282 [ptr b,.int .i64 n] [fu b l] Unit (fun _=>.bool (!l.contains n)) (fun _=>True) (fun _=>[fu b l]):=by
 refine Fn.intro (N:=16) func282 rfl ntmps282 rfl fun F=>?_
 show ar _ _ _ _ _ _ [fu b l,F]
 refine .o1 (C:=fu b l) .auto rfl ?_
 rintro v -
 refine J 15 ?_
 refine .cg call59 rfl (nR (A:=sl aq 1 v l) (Rd.sl .here) hl) fun _ _=>?_
 exact JR 6 ()
theorem zf{W:World}{n:Int}:Fn Tryz.prog W 282 [.pointer none,.int .i64 n] [] Unit (fun _=>.bool false) (fun _=>True) (fun _=>[]):=by
 refine Fn.intro (N:=16) func282 rfl ntmps282 rfl fun F=>?_
 show ar _ _ _ _ _ _ [F]
 exact JR 22 ()
theorem CM{W:World}{b:Nat}{l:List Int}{n:Int}(hl:l.length≤1000000000)(hn:l.contains n=false):Fn Tryz.prog W 262 [ptr b,.int .i64 n] [fu b l] Unit (fun _=>.bool true) (fun _=>True) (fun _=>[fu b (l++[n])]):=by
 refine Fn.intro (N:=19) func262 rfl ntmps262 rfl fun F=>?_
 show ar _ _ _ _ _ _ [fu b l,F]
 refine J 10 ?_
 refine .c call282 rfl (AZ hl) fun _ _=>?_
 rw[hn]
 refine JD 3 (fun h8=>?_) fun h8=>?_
 ·cases h8
 ·refine J 5 ?_
  refine .o1 (C:=fu b l) .auto rfl ?_
  rintro v -
  refine J 5 ?_
  refine .aj rfl (af.gj 3 rfl rfl (by kernel_rfl)) ?_
  rintro _ _ ⟨b15,rfl,rfl⟩
  refine .aj rfl (af.fV (enc:=aq) (k:=1) n rfl underlying50 underlying50 typeInfo3 rfl rfl rfl (by decide) rfl rfl rfl .auto rfl .auto (by omega) rfl) ?_
  rintro _ _ ⟨v16,rfl,rfl⟩
  refine J 2 ?_
  refine .aj rfl (af.mC sizeOf50 rfl rfl rfl) ?_
  rintro _ _ ⟨rfl,rfl⟩
  exact JR 8 ()
theorem A0{W:World}{n:Int}:Fn Tryz.prog W 262 [.pointer none,.int .i64 n] [] Unit (fun _=>.bool false) (fun _=>True) (fun _=>[]):=by
 refine Fn.intro (N:=19) func262 rfl ntmps262 rfl fun F=>?_
 show ar _ _ _ _ _ _ [F]
 refine J 10 ?_
 refine .c call282 rfl zf fun _ _=>?_
 refine J 3 ?_
 refine .gu rfl ?_
 exact JR 7 ()
theorem xC{W:World}{b:Nat}{l:List Int}{a x:Int}{i:Nat}(hl:l.length≤1000000000)(hx:l[i]?=some x)(ha:(0≤a∧a=(i:Int))∨(a<0∧a+(l.length:Int)=(i:Int))):Fn Tryz.prog W 263 [ptr b,.int .i64 a] [fu b l] Unit (fun _=>.tuple #[.int .i64 x,.bool true]) (fun _=>True) (fun _=>[fu b (l.eraseIdx i)]):=by
 refine Fn.intro (N:=45) func263 rfl ntmps263 rfl fun F=>?_
 show ar _ _ _ _ _ _ [fu b l,F]
 refine .o1 (C:=fu b l) .auto rfl ?_
 rintro v -
 have hi:=(List.getElem?_eq_some_iff.1 hx).1
 refine JD 21 (fun h16=>?_) fun h16=>?_
 ·exact absurd h16 (by omega)
 ·refine JD 9 (fun h18=>?_) fun h18=>?_
  ·refine J 7 ?_
   refine .p (.add rfl rfl (by omega)) ?_
   refine J 10 ?_
   refine .p (.ix i rfl rfl (by omega) hi) ?_
   refine .p (.lr rfl hx) ?_
   refine J 10 ?_
   refine .p (.fa (Y.m rfl) (show _=(i:Int) by omega)) ?_
   refine J 1 ?_
   refine .p (.fa (Y.add rfl rfl (by omega)) (show _=((i+1:Nat):Int) by omega)) ?_
   refine .c call278 rfl (yY hi hl) fun u41 _=>?_
   refine J 2 ?_
   refine .aj rfl (af.mC sizeOf50 rfl rfl rfl) ?_
   rintro _ _ ⟨rfl,rfl⟩
   exact JR 10 ()
  ·refine J 9 ?_
   refine .p (.ix i rfl rfl (by omega) hi) ?_
   refine .p (.lr rfl hx) ?_
   refine J 10 ?_
   refine .p (.fa (Y.m rfl) (show _=(i:Int) by omega)) ?_
   refine J 1 ?_
   refine .p (.fa (Y.add rfl rfl (by omega)) (show _=((i+1:Nat):Int) by omega)) ?_
   refine .c call278 rfl (yY hi hl) fun u41 _=>?_
   refine J 2 ?_
   refine .aj rfl (af.mC sizeOf50 rfl rfl rfl) ?_
   rintro _ _ ⟨rfl,rfl⟩
   exact JR 10 ()
theorem vh{W:World}{b:Nat}{a:Int}:Fn Tryz.prog W 263 [ptr b,.int .i64 a] [fu b []] Unit (fun _=>.tuple #[.int .i64 0,.bool false]) (fun _=>True) (fun _=>[fu b []]):=by
 refine Fn.intro (N:=45) func263 rfl ntmps263 rfl fun F=>?_
 show ar _ _ _ _ _ _ [fu b [],F]
 refine .o1 (C:=fu b []) .auto rfl ?_
 rintro v -
 refine JD 21 (fun h16=>?_) fun h16=>?_
 ·exact JR 8 ()
 ·exact absurd rfl h16
theorem FK{W:World}{b:Nat}{t:Int}{l:List Int}(hl:(t::l).length≤1000000000):Fn Tryz.prog W 231 [ptr b] [fu b (t::l)] Unit (fun _=>.tuple #[.int .i64 t,.bool true]) (fun _=>True) (fun _=>[fu b l]):=by
 refine Fn.intro (N:=8) func231 rfl ntmps231 rfl fun F=>?_
 show ar _ _ _ _ _ _ [fu b (t::l),F]
 refine J 9 ?_
 refine .c call263 rfl (xC (l:=t::l) (i:=0) hl rfl (.inl ⟨Int.le_refl _,rfl⟩)) fun _ _=>?_
 rw[show(t::l).eraseIdx 0=l from rfl]
 exact JR 7 ()
theorem CN{W:World}{b:Nat}:Fn Tryz.prog W 231 [ptr b] [fu b []] Unit (fun _=>.tuple #[.int .i64 0,.bool false]) (fun _=>True) (fun _=>[fu b []]):=by
 refine Fn.intro (N:=8) func231 rfl ntmps231 rfl fun F=>?_
 show ar _ _ _ _ _ _ [fu b [],F]
 refine J 9 ?_
 refine .c call263 rfl vh fun _ _=>?_
 exact JR 7 ()
theorem vY{W:World}{b i:Nat}{t:Int}{l:List Int}(hl:l.length≤1000000000)(hi:i+1=l.length)(ht:l[i]?=some t):Fn Tryz.prog W 232 [ptr b] [fu b l] Unit (fun _=>.tuple #[.int .i64 t,.bool true]) (fun _=>True) (fun _=>[fu b l.dropLast]):=by
 refine Fn.intro (N:=8) func232 rfl ntmps232 rfl fun F=>?_
 show ar _ _ _ _ _ _ [fu b l,F]
 refine J 9 ?_
 refine .c call263 rfl (xC (i:=i) hl ht (.inr ⟨by decide,by omega⟩)) fun _ _=>?_
 rw[Cj hi]
 exact JR 7 ()
theorem vi{W:World}{b:Nat}:Fn Tryz.prog W 232 [ptr b] [fu b []] Unit (fun _=>.tuple #[.int .i64 0,.bool false]) (fun _=>True) (fun _=>[fu b []]):=by
 refine Fn.intro (N:=8) func232 rfl ntmps232 rfl fun F=>?_
 show ar _ _ _ _ _ _ [fu b [],F]
 refine J 9 ?_
 refine .c call263 rfl vh fun _ _=>?_
 exact JR 7 ()
theorem nr{W:World}{b:Nat}{v:Value}{xs:List (Nat×List Int)}{n:Int}(_hl:xs.length≤1000000000):Fn Tryz.prog W 230 [ptr b,.int .i64 n] [arr b 0 [v],sl cP 1 v xs] Unit (fun _=>ed ((aL xs n).map (·.1))) (fun _=>True) (fun _=>[arr b 0 [v],sl cP 1 v xs]):=by
 refine Fn.intro (N:=27) func230 rfl ntmps230 rfl fun F=>?_
 show ar _ _ _ _ _ _ [arr b 0 [v],sl cP 1 v xs,F]
 refine J 15 ?_
 refine .mE (t:=11) rfl (fun h11=>?_) (fun h11=>?_)
 ·refine J 10 ?_
  refine .gu rfl ?_
  refine J 7 ?_
  refine .aS rfl rfl fun w s=>⟨(),?_,trivial,ak .auto s⟩
  rw[fN (by omega)];rfl
 ·refine JD 10 (fun h19=>?_) fun h19=>?_
  ·refine J 7 ?_
   refine .aS rfl rfl fun w s=>⟨(),?_,trivial,ak .auto s⟩
   rw[fN (by omega)];rfl
  ·refine J 9 ?_
   obtain⟨x,hx,hg⟩:=cQ (l:=xs) (i:=n) ⟨by omega,by omega⟩
   refine .p (.ix n.toNat rfl rfl (by omega) (by omega)) ?_
   refine .p (.lr rfl hx) ?_
   refine J 4 ?_
   refine .aS rfl rfl fun w s=>⟨(),?_,trivial,ak .auto s⟩
   rw[hg];rfl
theorem IX{W:World}{b:Nat}{rs:List (List Int)}{p t:Int}(hl:rs.length≤64∧ ∀ r∈rs,r.length≤900000000):Fn Tryz.prog W 229 [ptr b,.int .i64 p,.int .i64 t] [ga b rs] Bool (fun u=>.bool u) (fun _=>True) (fun _=>[ga b (rAdd rs p t)]):=by
 refine Fn.intro (N:=21) func229 rfl ntmps229 rfl fun F=>?_
 show ar _ _ _ _ _ _ [ga b rs,F]
 have hlb:rs.length≤64∧ ∀ r∈rs,r.length≤1000000000:=⟨hl.1,fun r hr=>Nat.le_trans (hl.2 r hr) (by decide)⟩
 refine J 10 ?_
 refine .c call104 rfl (uR hlb) fun _ _=>?_
 refine JD 12 (fun h15=>?_) fun h15=>?_
 ·refine J 7 ?_
  rw[Ci h15]
  exact JR 0 false
 ·refine .o2 (C:=ga b rs) .auto rfl ?_
  rintro v xs hxs
  have hxl:=au hxs
  have hgr:=xf hxs (p:=p)
  refine J 3 ?_
  rcases hg:aL xs p with _ | ⟨q,r⟩
  ·rw[hg] at hgr
   refine J 3 ?_
   refine .c call230 rfl (nr (xs:=xs) (n:=p) (by omega)) fun _ _=>?_
   rw[hg]
   refine J 1 ?_
   refine .c call262 rfl A0 fun _ _=>?_
   refine J 4 ?_
   rw[E6 hgr]
   refine .to (A:=ga b rs) (Bs:=[arr b 0 [v],sl cP 1 v xs,aO (fun x:Nat×List Int=>fu x.1 x.2) xs]) .auto (p9 hxs) ?_
   exact JR 0 false
  ·rw[hg] at hgr
   have hx:=(ck hg).2.2
   have hrx:=(ck hgr).2.2
   refine J 3 ?_
   refine .c call230 rfl (nr (xs:=xs) (n:=p) (by omega)) fun _ _=>?_
   rw[hg]
   refine .fr .auto (nI hx) ?_
   refine J 1 ?_
   refine .c call262 rfl (CM (l:=r) (hlb.2 r (List.mem_of_getElem? hrx)) (E8 h15 hrx)) fun _ _=>?_
   refine J 4 ?_
   rw[E7 h15 hgr]
   refine .to (A:=ga b (rs.set p.toNat (r++[t]))) (Bs:=[arr b 0 [v],sl cP 1 v xs,fu q (r++[t]),aO (fun x:Nat×List Int=>fu x.1 x.2) (xs.eraseIdx p.toNat)]) .auto (rf hxs hx (r++[t])) ?_
   exact JR 0 true
theorem FL{W:World}{b:Nat}{rs:List (List Int)}{p:Int}(hl:rs.length≤64∧ ∀ r∈rs,r.length≤900000000):Fn Tryz.prog W 191 [ptr b,.int .i64 p] [ga b rs] Unit (fun _=>.tuple #[.int .i64 (uI rs p),.bool (rPick rs p).isSome]) (fun _=>True) (fun _=>[ga b (mn rs p)]):=by
 refine Fn.intro (N:=44) func191 rfl ntmps191 rfl fun F=>?_
 show ar _ _ _ _ _ _ [ga b rs,F]
 have hlb:rs.length≤64∧ ∀ r∈rs,r.length≤1000000000:=⟨hl.1,fun r hr=>Nat.le_trans (hl.2 r hr) (by decide)⟩
 refine .o2 (C:=ga b rs) .auto rfl ?_
 rintro v xs hxs
 have hxl:=au hxs
 have hgr:=xf hxs (p:=p)
 refine J 1 ?_
 rcases hg:aL xs p with _ | ⟨q,_ | ⟨t,r⟩⟩
 ·rw[hg] at hgr
  refine J 9 ?_
  refine .c call230 rfl (nr (xs:=xs) (n:=p) (by omega)) fun _ _=>?_
  rw[hg]
  refine J 10 ?_
  refine .gu rfl ?_
  refine J 8 ?_
  rw[(nH (uJ hgr)).1,(nH (uJ hgr)).2,uJ hgr]
  refine .to (A:=ga b rs) (Bs:=[arr b 0 [v],sl cP 1 v xs,aO (fun x:Nat×List Int=>fu x.1 x.2) xs]) .auto (p9 hxs) ?_
  exact JR 0 ()
 ·rw[hg] at hgr
  have hx:=(ck hg).2.2
  refine J 9 ?_
  refine .c call230 rfl (nr (xs:=xs) (n:=p) (by omega)) fun _ _=>?_
  rw[hg]
  refine .fr .auto (nI hx) ?_
  refine J 10 ?_
  refine .ep rfl ?_
  refine J 6 ?_
  refine .c call231 rfl CN fun _ _=>?_
  refine .to (A:=aO (fun x:Nat×List Int=>fu x.1 x.2) xs) (Bs:=[fu q [],aO (fun x:Nat×List Int=>fu x.1 x.2) (xs.eraseIdx p.toNat)]) .auto (cC (f:=(fun x:Nat×List Int=>fu x.1 x.2)) hx) ?_
  refine J 12 ?_
  refine .ep rfl ?_
  refine J 19 ?_
  refine .aZ (X:=Nat) [4,5,11,12,13,31,32,33,34,35,36,37,38,39,40,41,42,43] (fun z=>rs.length-z) (fun z=>z≤rs.length∧ ∀ j,j<z→rs[j]?=some []) (fun z=>[(31,some (.int .i64 (z:Int)))]) (fun z=>[arr b 0 [v],sl cP 1 v xs,aO (fun x:Nat×List Int=>fu x.1 x.2) xs,F]) 0 ?_ ?_ ?_ ?_
  ·exact⟨Nat.zero_le _,fun j h=>absurd h (Nat.not_lt_zero _)⟩
  ·exact⟨rfl,trivial⟩
  ·exact fun w s=>aw.kept .auto w s
  rintro k ⟨hk,hj⟩
  refine JD 6 (fun h32=>?_) fun h32=>?_
  ·obtain⟨⟨q2,r⟩,hxk⟩:=ai (show k<xs.length by omega)
   have hrk:rs[k]?=some r:=eU hxs hxk
   refine J 5 ?_
   rcases hlast:r.getLast? with _ | t
   ·have hr0:r=[]:=List.getLast?_eq_none_iff.1 hlast
    subst hr0
    refine J 2 ?_
    refine .p (.lr rfl hxk) ?_
    refine J 7 ?_
    refine .fr .auto (nI hxk) ?_
    refine .aj rfl (af.lh rfl rfl call232 rfl vi .auto) ?_
    rintro _ _ ⟨⟨⟩, -,rfl,rfl⟩
    refine .to (A:=aO (fun x:Nat×List Int=>fu x.1 x.2) xs) (Bs:=[fu q2 [],aO (fun x:Nat×List Int=>fu x.1 x.2) (xs.eraseIdx k)]) .auto (cC (f:=(fun x:Nat×List Int=>fu x.1 x.2)) hxk) ?_
    refine J 12 ?_
    refine .ep rfl ?_
    refine J 7 ?_
    refine .ax (k+1) .auto rfl ?_ ?_ ?_ ?_
    ·omega
    ·exact⟨by omega,fun j h=>by
      rcases Nat.lt_or_ge j k with h2 | h2
      ·exact hj j h2
      ·obtain rfl:j=k:=by omega
       exact hrk⟩
    ·exact⟨rfl,trivial⟩
    ·exact fun w s=>aw.kept .auto w s
   ·obtain⟨i,hi,hti⟩:=Km hlast
    have hpk:rPick rs p=some (t,rs.set k r.dropLast):=(uK hgr).trans (AL hj hrk hlast)
    refine J 2 ?_
    refine .p (.lr rfl hxk) ?_
    refine J 7 ?_
    refine .fr .auto (nI hxk) ?_
    refine .aj rfl (af.lh rfl rfl call232 rfl (vY (hlb.2 r (List.mem_of_getElem? hrk)) hi hti) .auto) ?_
    rintro _ _ ⟨⟨⟩, -,rfl,rfl⟩
    refine J 12 ?_
    refine .gu rfl ?_
    refine J 13 ?_
    rw[(js hpk).1,(js hpk).2,hpk]
    refine .to (A:=ga b (rs.set k r.dropLast)) (Bs:=[arr b 0 [v],sl cP 1 v xs,fu q2 r.dropLast,aO (fun x:Nat×List Int=>fu x.1 x.2) (xs.eraseIdx k)]) .auto (rf hxs hxk r.dropLast) ?_
    exact JR 0 ()
  ·obtain rfl:k=rs.length:=by omega
   have hpk:rPick rs p=none:=(uK hgr).trans (uH hj)
   refine J 12 ?_
   rw[(nH hpk).1,(nH hpk).2,hpk]
   refine .to (A:=ga b rs) (Bs:=[arr b 0 [v],sl cP 1 v xs,aO (fun x:Nat×List Int=>fu x.1 x.2) xs]) .auto (p9 hxs) ?_
   exact JR 0 ()
 ·rw[hg] at hgr
  have hx:=(ck hg).2.2
  have hpk:rPick rs p=some (t,rs.set p.toNat r):=E9 hgr
  refine J 9 ?_
  refine .c call230 rfl (nr (xs:=xs) (n:=p) (by omega)) fun _ _=>?_
  rw[hg]
  refine .fr .auto (nI hx) ?_
  refine J 10 ?_
  refine .ep rfl ?_
  refine J 6 ?_
  refine .c call231 rfl (FK (hlb.2 (t::r) (List.mem_of_getElem? (ck hgr).2.2))) fun _ _=>?_
  refine J 12 ?_
  refine .gu rfl ?_
  refine J 9 ?_
  rw[(js hpk).1,(js hpk).2,hpk]
  refine .to (A:=ga b (rs.set p.toNat r)) (Bs:=[arr b 0 [v],sl cP 1 v xs,fu q r,aO (fun x:Nat×List Int=>fu x.1 x.2) (xs.eraseIdx p.toNat)]) .auto (rf hxs hx r) ?_
  exact JR 0 ()
theorem CO{W:World}{b:Nat}{rs:List (List Int)}(hl:rs.length≤64∧ ∀ r∈rs,r.length≤900000000):Fn Tryz.prog W 143 [ptr b] [ga b rs] Unit (fun _=>.bool (im rs)) (fun _=>True) (fun _=>[ga b rs]):=by
 refine Fn.intro (N:=21) func143 rfl ntmps143 rfl fun F=>?_
 show ar _ _ _ _ _ _ [ga b rs,F]
 have hlb:rs.length≤64∧ ∀ r∈rs,r.length≤1000000000:=⟨hl.1,fun r hr=>Nat.le_trans (hl.2 r hr) (by decide)⟩
 refine .o2 (C:=ga b rs) .auto rfl ?_
 rintro v xs hxs
 have hxl:=au hxs
 refine J 12 ?_
 refine .ep rfl ?_
 refine J 14 ?_
 refine .aZ (X:=Nat) [2,4,12,13,14,15,16,17,18,19,20] (fun z=>rs.length-z) (fun z=>z≤rs.length∧ ∀ j,j<z→rs[j]?=some []) (fun z=>[(12,some (.int .i64 (z:Int)))]) (fun z=>[arr b 0 [v],sl cP 1 v xs,aO (fun x:Nat×List Int=>fu x.1 x.2) xs,F]) 0 ?_ ?_ ?_ ?_
 ·exact⟨Nat.zero_le _,fun j h=>absurd h (Nat.not_lt_zero _)⟩
 ·exact⟨rfl,trivial⟩
 ·exact fun w s=>aw.kept .auto w s
 rintro k ⟨hk,hj⟩
 refine JD 6 (fun h13=>?_) fun h13=>?_
 ·refine J 6 ?_
  obtain⟨⟨q,r⟩,hx⟩:=ai (show k<xs.length by omega)
  have hrk:rs[k]?=some r:=eU hxs hx
  refine J 1 ?_
  refine .p (.lr rfl hx) ?_
  refine J 6 ?_
  refine .fr .auto (nI hx) ?_
  refine .c call150 rfl (xp (l:=r) (hlb.2 r (List.mem_of_getElem? hrk))) fun u17 _=>?_
  refine .to (A:=aO (fun x:Nat×List Int=>fu x.1 x.2) xs) (Bs:=[fu q r,aO (fun x:Nat×List Int=>fu x.1 x.2) (xs.eraseIdx k)]) .auto (cC (f:=(fun x:Nat×List Int=>fu x.1 x.2)) hx) ?_
  refine JD 4 (fun h19=>?_) fun h19=>?_
  ·have he:im rs=false:=HX hrk (fun e=>by rw[e] at h19;simp at h19)
   refine J 11 ?_
   rw[he]
   refine .to (A:=ga b rs) (Bs:=[arr b 0 [v],sl cP 1 v xs,aO (fun x:Nat×List Int=>fu x.1 x.2) xs]) .auto (p9 hxs) ?_
   exact JR 0 ()
  ·refine J 7 ?_
   refine .ax (k+1) .auto rfl ?_ ?_ ?_ ?_
   ·omega
   ·exact⟨by omega,fun j h=>by
     rcases Nat.lt_or_ge j k with h2 | h2
     ·exact hj j h2
     ·obtain rfl:j=k:=by omega
      have hr0:r=[]:=List.eq_nil_of_length_eq_zero (by omega)
      rw[hrk,hr0]⟩
   ·exact⟨rfl,trivial⟩
   ·exact fun w s=>aw.kept .auto w s
 ·obtain rfl:k=rs.length:=by omega
  have he:im rs=true:=Fa hj
  refine J 11 ?_
  rw[he]
  refine .to (A:=ga b rs) (Bs:=[arr b 0 [v],sl cP 1 v xs,aO (fun x:Nat×List Int=>fu x.1 x.2) xs]) .auto (p9 hxs) ?_
  exact JR 0 ()
theorem A1{W:World}{A:aa}{v:Value}{xs:List Ev}{p:Ev→Bool}{g:Nat}(hr:Rd W [A] cf 3 v xs)(hl:xs.length≤1000000000)(hg:∀ args w,(callFunc g args).run Tryz.prog w = .ok (.enter g args) w)(hf:∀ x∈xs,Fn Tryz.prog W g [.agg (cf x).toArray] [A] Unit (fun _=>.bool (p x)) (fun _=>True) (fun _=>[A])):Fn Tryz.prog W 227 [v,.func (.func g) #[] #[]] [A] Unit (fun _=>.int .i64 (idxP p xs 0)) (fun _=>True) (fun _=>[A]):=by
 refine Fn.intro (N:=19) func227 rfl ntmps227 rfl fun F=>?_
 haveI hRI:∀ (H:List aa) [bE H A],aC W H v cf 3 xs:=fun H h=>⟨hr.at h.has⟩
 show ar _ _ _ _ _ _ [A,F]
 refine J 14 ?_
 refine .aZ (X:=Nat) [4,5,8,9,10,11,12,13,14,15,16,17,18] (fun k=>xs.length-k) (fun k=>k≤xs.length∧idxP p xs 0=idxP p (xs.drop k) k) (fun k=>[(8,some (.int .i64 (k:Int)))]) (fun k=>[A,F]) 0 ?_ ?_ ?_ ?_
 ·exact⟨Nat.zero_le _,by simp⟩
 ·exact⟨rfl,trivial⟩
 ·exact fun w s=>aw.kept .auto w s
 rintro k ⟨hk,hn⟩
 refine JD 6 (fun h9=>?_) fun h9=>?_
 ·refine J 15 ?_
  obtain⟨x,hx⟩:=ai (show k<xs.length by omega)
  refine J 2 ?_
  refine .aj rfl (af.lh rfl rfl hg rfl (hf x (List.mem_of_getElem? hx)) .auto) ?_
  rintro _ _ ⟨⟨⟩, -,rfl,rfl⟩
  refine JD 2 (fun h16=>?_) fun h16=>?_
  ·refine J 12 ?_
   refine .aS rfl rfl fun w s=>⟨(),?_,trivial,ak .auto s⟩
   rw[hn,jG hx h16]
  ·refine J 7 ?_
   refine .ax (k+1) .auto rfl ?_ ?_ ?_ ?_
   ·first | omega | (dsimp only;omega)
   ·exact⟨by omega,hn.trans (ik hx h16)⟩
   ·exact⟨rfl,trivial⟩
   ·exact fun w s=>aw.kept .auto w s
 ·refine J 11 ?_
  refine .aS rfl rfl fun w s=>⟨(),?_,trivial,ak .auto s⟩
  rw[hn,jH (by omega)]
theorem vZ{W:World}{A:aa}{e:Ev}:Fn Tryz.prog W 228 [.agg (cf e).toArray] [A] Unit (fun _=>.bool (jf e)) (fun _=>True) (fun _=>[A]):=by
 refine Fn.intro (N:=6) func228 rfl ntmps228 rfl fun F=>?_
 show ar _ _ _ _ _ _ [A,F]
 refine J 2 ?_
 refine .aj rfl (af.box rfl rfl rfl) ?_
 rintro _ _ ⟨b1,rfl,rfl⟩
 exact JR 12 ()
theorem zg{W:World}{A:aa}{v:Value}{xs:List Ev}(hr:Rd W [A] cf 3 v xs)(hl:xs.length≤900000000):Fn Tryz.prog W 187 [v] [A] Value (fun u=>.tuple #[.agg (cf (wE xs)).toArray,u,.bool (evWithin xs).isSome]) (fun _=>True) (fun u=>[sl cf 3 u (wR xs),A]):=by
 refine Fn.intro (N:=26) func187 rfl ntmps187 rfl fun F=>?_
 refine .cM (fun w s=>Rd.shape (hr.at .here) w s) fun e=>?_
 obtain⟨a1,c1,rfl⟩:=e
 haveI hRI:∀ (H:List aa) [bE H A],aC W H (.slice a1 xs.length c1) cf 3 xs:=fun H h=>⟨hr.at h.has⟩
 show ar _ _ _ _ _ _ [A,F]
 refine J 2 ?_
 refine .aj rfl (af.alloc rfl zeroValue232 rfl) ?_
 rintro _ _ ⟨b2,rfl,rfl⟩
 refine J 7 ?_
 refine .c call227 rfl (A1 (p:=jf) (g:=228) hr (by omega) call228 (fun e _=>vZ)) fun _ _=>?_
 refine JD 10 (fun h9=>?_) fun h9=>?_
 ·have hw:=Fb h9
  refine J 2 ?_
  refine .p (.mq ([(.int .i64 0),(.int .i64 0),(.int .i64 0)]) (by kernel_rfl)) ?_
  refine J 1 ?_
  refine .c call153 rfl (rp hr (by omega)) fun u12 _=>?_
  refine J 7 ?_
  rw[show wE xs=⟨0,0,0⟩ from by unfold wE;rw[hw],show wR xs=xs from by unfold wR;rw[hw],hw]
  refine .tf rfl rfl isAgg232 (by exact sizeOf232) Cells.a rfl rfl fun w s=>⟨u12,?_,trivial,ak .auto s⟩
  rfl
 ·have hil:=DP (p:=jf) xs 0
  obtain⟨i,x,hid,hx,hw⟩:=Cl h9 (by omega)
  rw[hid]
  have hib:=(List.getElem?_eq_some_iff.1 hx).1
  have hr1:=hr.cut (lo:=0) (hi:=i) (Nat.zero_le _) (by omega)
  have hr2:=hr.cut (lo:=i+1) (hi:=xs.length) (by omega) (Nat.le_refl _)
  refine J 3 ?_
  refine .draw [A] [0,0,0,0,1,1,1,1,1,1,1,2,2,3,1,1] rfl (by kernel_rfl) ?_
  refine J 2 ?_
  refine .q (.ix i rfl rfl rfl (by omega)) ?_
  refine .q (.la rfl (Cells.rd Rd.s hx)) ?_
  refine J 2 ?_
  refine .p (.sliceTo i underlying165 sizeOf232 rfl rfl Rd.s rfl (by omega)) ?_
  refine J 3 ?_
  refine .p (.sliceFrom (i+1) underlying165 sizeOf232 rfl rfl Rd.s rfl (by omega)) ?_
  refine .d2 rfl Kept.auto (af.gj 165 rfl rfl (by kernel_rfl)) (by rintro _ _ ⟨b24,rfl,rfl⟩;exact Kept.auto) ?_
  rintro _ _ ⟨b24,rfl,rfl⟩
  refine .d2 rfl Kept.auto (af.eD rfl call184 rfl (DW (A:=seps [arr b24 0 [(cut 3 0 i (.slice a1 xs.length c1)),(cut 3 (i+1) xs.length (.slice a1 xs.length c1))],A]) (qs:=[((cut 3 0 i (.slice a1 xs.length c1)),xs.take i),((cut 3 (i+1) xs.length (.slice a1 xs.length c1)),xs.drop (i+1))]) (Rd.eX (Rd.lit .here rfl (fun _ _=>rfl) rfl)) (by
    intro q hq
    simp only[List.mem_cons,List.not_mem_nil,or_false] at hq
    rcases hq with rfl | rfl
    ·exact Rd.eX (Rd.at (by rw[List.drop_zero] at hr1;exact hr1) (.there .here))
    ·exact Rd.eX (Rd.at (by rw[List.take_length] at hr2;exact hr2) (.there .here))) (by simp) (by simp;omega)) .auto) (by rintro _ _ ⟨u25, -,rfl,rfl⟩;exact Ck .auto Kept.auto) ?_
  rintro _ _ ⟨u25, -,rfl,rfl⟩
  rw[show[((cut 3 0 i (.slice a1 xs.length c1)),xs.take i),((cut 3 (i+1) xs.length (.slice a1 xs.length c1)),xs.drop (i+1))].flatMap (fun q:Value×List Ev=>q.2)=xs.take i++xs.drop (i+1) from by simp]
  refine .dL .auto ?_
  refine .d3 rfl (af.iy (by exact sizeOf232) rfl rfl rfl (by rfl)) ?_
  rintro _ _ ⟨rfl,rfl⟩
  refine J 5 ?_
  rw[show wE xs=x from by unfold wE;rw[hw],show wR xs=xs.take i++xs.drop (i+1) from by unfold wR;rw[hw],hw]
  refine .tf rfl rfl isAgg232 (by exact sizeOf232) Cells.a rfl rfl fun w s=>⟨u25,?_,trivial,ak .auto s⟩
  rfl
end Go.SLYtpbjdoplfgeliaaGreat
namespace Go.SLYtpbjdoplfgeliaaGreat
open Go Go.RowKit Go.Proofs Go.Proofs.Tryz
attribute [local irreducible] ar aR bm bA bH Y
theorem qv{W:World}{b bs br:Nat}{vv vw:Value}{lk:Bool}{rows:List (List Int)}{p:Int}{A:aa}{m:Value}{ts:List Int}(hm:Rd W [A] aq 1 m ts)(hl:ts.length≤100000∧rows.length≤64∧ ∀ r∈rows,r.length≤800000000):Fn Tryz.prog W 190 [ptr b,.int .i64 p,m] [arr b 0 (mM bs br vv vw lk),ga br rows,A] Unit (fun _=>.tuple #[]) (fun _=>True) (fun _=>[arr b 0 (mM bs br vv vw lk),ga br (eb rows p ts),A]):=by
 refine Fn.intro (N:=22) func190 rfl ntmps190 rfl fun F=>?_
 haveI hRI:∀ (H:List aa) [bE H A],aC W H m aq 1 ts:=fun H h=>⟨hm.at h.has⟩
 show ar _ _ _ _ _ _ [arr b 0 (mM bs br vv vw lk),ga br rows,A,F]
 refine J 8 ?_
 refine .aZ (X:=Nat) [7,10,11,12,13,14,15,16,17,18,19,20,21] (fun z=>ts.length-z) (fun z=>z≤ts.length) (fun z=>[(10,some (.int .i64 (z:Int)))]) (fun z=>[arr b 0 (mM bs br vv vw lk),ga br (eb rows p (ts.take z)),A,F]) 0 ?_ ?_ ?_ ?_
 ·exact Nat.zero_le _
 ·exact⟨rfl,trivial⟩
 ·rw[show eb rows p (ts.take 0)=rows from rfl];exact fun w s=>aw.kept .auto w s
 rintro k hk
 refine JD 6 (fun h11=>?_) fun h11=>?_
 ·refine J 6 ?_
  obtain⟨t,hx⟩:=ai (show k<ts.length by omega)
  have hrl:(eb rows p (ts.take k)).length=rows.length:=fQ
  have hrr:=lP (ts:=ts.take k) (p:=p) hl.2.2
  refine J 1 ?_
  refine .p (.lr rfl hx) ?_
  refine J 10 ?_
  refine .c call229 rfl (IX (rs:=eb rows p (ts.take k)) (p:=p) (t:=t) ⟨by omega,fun r hr=>by have:=hrr r hr;rw[List.length_take] at this;omega⟩) fun ub _=>?_
  refine J 7 ?_
  refine .ax (k+1) .auto rfl ?_ ?_ ?_ ?_
  ·omega
  ·show k+1≤_;omega
  ·exact⟨rfl,trivial⟩
  ·rw[Cm hx]
   exact fun w s=>aw.kept .auto w s
 ·obtain rfl:k=ts.length:=by omega
  rw[List.take_length]
  exact JR 4 ()
theorem oX{W:World}{b bs br:Nat}{l:Lib}{t c:Int}(hO:hU l.aI):Fn Tryz.prog W 193 [ptr b,.int .i64 t,.int .i64 c] [bj b bs br l] Value (fun u=>.agg (dy u (l.aJ t c).1).toArray) (fun _=>True) (fun u=>[sl aq 1 u (l.aJ t c).1.xb.av,bj b bs br (l.aJ t c).2]):=by
 refine Fn.intro (N:=22) func193 rfl ntmps193 rfl fun F=>?_
 show ar _ _ _ _ _ _ [bj b bs br l,F]
 refine .o2 (C:=bj b bs br l) .auto rfl ?_
 rintro vv vw -
 refine J 2 ?_
 refine .aj rfl (af.alloc rfl zeroValue75 rfl) ?_
 rintro _ _ ⟨b6,rfl,rfl⟩
 refine J 10 ?_
 refine .c call22 rfl (IW (s:=l.aI) hO) fun u16 _=>?_
 refine .cM (fun w s=>Rd.isSl (Rd.sl .auto) w s) fun hu16=>?_
 refine J 1 ?_
 refine .p (.extract (v:=.agg (oE u16 (l.aI.run t c).1).toArray) rfl rfl) ?_
 refine .p (.extract (v:=.int .i64 (l.aI.run t c).2.1) rfl rfl) ?_
 refine .aj rfl (af.alloc rfl zeroValue57 rfl) ?_
 rintro _ _ ⟨b7,rfl,rfl⟩
 refine .aj rfl (af.iy (vs:=oE u16 (l.aI.run t c).1) (by exact sizeOf57) rfl rfl (DQ hu16) (by rfl)) ?_
 rintro _ _ ⟨rfl,rfl⟩
 refine J 7 ?_
 refine .p (.vM (fun _ _ _=>dy u16 (l.aJ t c).1) rfl rfl rfl (by kernel_rfl)) ?_
 refine .aj rfl (af.iy (vs:=dy u16 (l.aJ t c).1) (by exact sizeOf75) rfl rfl (dh hu16) (by rfl)) ?_
 rintro _ _ ⟨rfl,rfl⟩
 refine J 3 ?_
 refine .dJ rfl rfl isAgg75 (by exact sizeOf75) Cells.a fun w s=>⟨u16,?_,trivial,ak .auto s⟩
 rfl
theorem A2{W:World}{u:Value}{e:lG}:Fn Tryz.prog W 194 [.agg (oE u e).toArray] [] Unit (fun _=>.bool e.cq) (fun _=>True) (fun _=>[]):=by
 refine Fn.intro (N:=11) func194 rfl ntmps194 rfl fun F=>?_
 show ar _ _ _ _ _ _ [F]
 refine J 2 ?_
 refine .aj rfl (af.box rfl rfl rfl) ?_
 rintro _ _ ⟨b1,rfl,rfl⟩
 refine .mem (H':=[arr b1 0 (oE u e),F]) (fun w s=>s) ?_
 refine J 9 ?_
 apply aR.gq 4 10 6 [6,7,8,9,10] rfl
 ·intro h6
  exact JS 5
 ·intro h6
  exact JS 5
 exact JR 4 ()
theorem ru{W:World}{b bs br i:Nat}{l:Lib}{v:aH}(hv:l.vs[i]?=some v){m:Int}:Fn Tryz.prog W 139 [ptr b,.int .i64 (i:Int),.int .i64 m] [bj b bs br l] Unit (fun _=>.tuple #[]) (fun _=>True) (fun _=>[bj b bs br (l.enter (i:Int) m)]):=by
 refine Fn.intro (N:=22) func139 rfl ntmps139 rfl fun F=>?_
 show ar _ _ _ _ _ _ [bj b bs br l,F]
 refine .o2 (C:=bj b bs br l) .auto rfl ?_
 rintro vv vw -
 refine .o1 (C:=cv vv l.vs) .auto rfl ?_
 rintro xs hxs
 have hxl:=au hxs
 obtain⟨x,hx,rfl⟩:=di hxs hv
 have hil:=(List.getElem?_eq_some_iff.1 hx).1
 refine JD 9 (fun h10=>?_) fun h10=>?_
 ·rw[nJ hv (by simpa using h10)]
  refine J 6 ?_
  rw[show(mM bs br vv vw l.locked).set 4 (.bool true)=mM bs br vv vw true from rfl]
  refine J 9 ?_
  refine .p (.ix i rfl rfl rfl (by omega)) ?_
  refine J 1 ?_
  refine .aj rfl (af.er (x':=(x.1,{x.2 with mode:=m })) rfl rfl sizeOf3 rfl hx (by decide) rfl .auto) ?_
  rintro _ _ ⟨rfl,rfl⟩
  refine .to (A:=cv vv (l.vs.set i {x.2 with mode:=m })) (Bs:=[sl eZ 3 vv (xs.set i (x.1,{x.2 with mode:=m })),aO (fun x:Value×aH=>sl cf 3 x.1 x.2.evs) xs]) .auto (kV hxs hx rfl) ?_
  exact JR 1 ()
 ·refine J 1 ?_
  rw[qa (by simpa using h10)]
  refine .to (A:=cv vv l.vs) (Bs:=[sl eZ 3 vv xs,aO (fun x:Value×aH=>sl cf 3 x.1 x.2.evs) xs]) .auto (fp hxs) ?_
  exact JR 0 ()
theorem ju{W:World}{b bs br i:Nat}{l:Lib}{v:aH}(hv:l.vs[i]?=some v){m t:Int}:Fn Tryz.prog W 189 [ptr b,.int .i64 (i:Int),.int .i64 m,.int .i64 t] [bj b bs br l] Unit (fun _=>.tuple #[]) (fun _=>True) (fun _=>[bj b bs br (l.leave (i:Int) m t)]):=by
 refine Fn.intro (N:=27) func189 rfl ntmps189 rfl fun F=>?_
 show ar _ _ _ _ _ _ [bj b bs br l,F]
 refine .o2 (C:=bj b bs br l) .auto rfl ?_
 rintro vv vw -
 refine .o1 (C:=cv vv l.vs) .auto rfl ?_
 rintro xs hxs
 have hxl:=au hxs
 obtain⟨x,hx,rfl⟩:=di hxs hv
 have hil:=(List.getElem?_eq_some_iff.1 hx).1
 rw[iN hv]
 refine J 6 ?_
 rw[show(mM bs br vv vw l.locked).set 4 (.bool false)=mM bs br vv vw false from rfl]
 refine J 2 ?_
 refine .draw [arr b 0 (mM bs br vv vw false)] [1,1,1,1,1,1,1,1,1,0,1,0,1,1,2,1,1,3] rfl (by kernel_rfl) ?_
 refine J 12 ?_
 refine .p (.ix i rfl rfl rfl (by omega)) ?_
 refine J 1 ?_
 refine .d2 rfl Kept.auto (af.er (x':=(x.1,{x.2 with mode:=m })) rfl rfl sizeOf3 rfl hx (by decide) rfl .auto) (by rintro _ _ ⟨rfl,rfl⟩;exact Kept.auto) ?_
 rintro _ _ ⟨rfl,rfl⟩
 have hx2:(xs.set i (x.1,{x.2 with mode:=m }))[i]?=some (x.1,{x.2 with mode:=m }):=List.getElem?_set_self hil
 refine .p (.ix i rfl rfl rfl (by rw[List.length_set];omega)) ?_
 refine J 1 ?_
 refine .d3 rfl (af.lf (c:=1) (x':=(x.1,{x.2 with mode:=m,ab:=t })) rfl rfl sizeOf3 rfl hx2 (by decide) rfl .auto) ?_
 rintro _ _ ⟨rfl,rfl⟩
 rw[List.set_set]
 refine .to (A:=cv vv (l.vs.set i {x.2 with mode:=m,ab:=t })) (Bs:=[sl eZ 3 vv (xs.set i (x.1,{x.2 with mode:=m,ab:=t })),aO (fun x:Value×aH=>sl cf 3 x.1 x.2.evs) xs]) .auto (kV hxs hx rfl) ?_
 exact JR 1 ()
end Go.SLYtpbjdoplfgeliaaGreat
namespace Go.SLYtpbjdoplfgeliaaGreat
open Go Go.RowKit Go.Proofs Go.Proofs.Tryz
attribute [local irreducible] ar aR bm bA bH Y
theorem A3{W:World}{b bs br i:Nat}{l:Lib}{v:aH}(hv:l.vs[i]?=some v){q:Ev}{m:Value}{rest:List Ev}{c:Int}(hz:HZ l)(hw:(l.aI.run q.ab c).1.av.length≤17):Fn Tryz.prog W 188 [ptr b,.int .i64 (i:Int),.agg (cf q).toArray,m,.int .i64 c] [bj b bs br l,sl cf 3 m rest] Value (fun u=>.agg (dy u (l.recover (i:Int) q rest c).1).toArray) (fun _=>True) (fun u=>[sl aq 1 u (l.recover (i:Int) q rest c).1.xb.av,bj b bs br (l.recover (i:Int) q rest c).2]):=by
 refine Fn.intro (N:=48) func188 rfl ntmps188 rfl fun F=>?_
 show ar _ _ _ _ _ _ [bj b bs br l,sl cf 3 m rest,F]
 refine .cM (fun w s=>Rd.isSl (Rd.sl (.there .here)) w s) fun hum=>?_
 refine .o2 (C:=bj b bs br l) .auto rfl ?_
 rintro vv vw -
 refine .o1 (C:=cv vv l.vs) .auto rfl ?_
 rintro xs hxs
 have hxl:=au hxs
 obtain⟨x,hx,rfl⟩:=di hxs hv
 have hil:=(List.getElem?_eq_some_iff.1 hx).1
 refine .fr .auto (cc (f:=(fun x:Value×aH=>sl cf 3 x.1 x.2.evs)) hx) ?_
 refine J 2 ?_
 refine .aj rfl (af.box rfl rfl rfl) ?_
 rintro _ _ ⟨b7,rfl,rfl⟩
 refine .to (A:=arr b7 0 (cf q)) (Bs:=[arr b7 0 (cf q)]) .auto (fun g a=>by simpa only[seps,aK] using a) ?_
 refine .aj rfl (af.alloc rfl zeroValue75 rfl) ?_
 rintro _ _ ⟨b10,rfl,rfl⟩
 refine J 10 ?_
 refine .p (.ix i rfl rfl rfl (by omega)) ?_
 refine J 1 ?_
 refine .aj rfl (af.lf (c:=2) (x':=(m,{x.2 with evs:=rest })) rfl rfl sizeOf165 (gb hum) hx (by decide) rfl .auto) ?_
 rintro _ _ ⟨rfl,rfl⟩
 refine .to (A:=cv vv (l.vs.set i {x.2 with evs:=rest })) (Bs:=[sl eZ 3 vv (xs.set i (m,{x.2 with evs:=rest })),sl cf 3 m ({x.2 with evs:=rest }).evs,aO (fun x:Value×aH=>sl cf 3 x.1 x.2.evs) (xs.eraseIdx i)]) .auto (m6 hxs hx) ?_
 refine J 8 ?_
 rw[show(mM bs br vv vw l.locked).set 4 (.bool false)=mM bs br vv vw false from rfl]
 refine JD 10 (fun h25=>?_) fun h25=>?_
 ·refine J 2 ?_
  refine .p (.mq (dy (.slice none 0 0) gg.z) (by kernel_rfl)) ?_
  refine .aj rfl (af.iy (vs:=dy (.slice none 0 0) gg.z) (by exact sizeOf75) rfl rfl (by rfl) (by rfl)) ?_
  rintro _ _ ⟨rfl,rfl⟩
  refine J 4 ?_
  rw[lT hv h25]
  refine .dJ rfl rfl isAgg75 (by exact sizeOf75) Cells.a fun w s=>⟨(.slice none 0 0),?_,trivial,ak .auto s⟩
  rfl
 ·have h25:q.mode=7:=Decidable.of_not_not h25
  refine J 8 ?_
  refine .c call193 rfl (oX (l:=(l.rh i x.2 rest)) (t:=q.ab) (c:=c) hz.sp) fun u31 _=>?_
  refine .cM (fun w s=>Rd.isSl (Rd.sl .auto) w s) fun hu31=>?_
  refine .aj rfl (af.alloc rfl zeroValue75 rfl) ?_
  rintro _ _ ⟨b11,rfl,rfl⟩
  refine .aj rfl (af.iy (vs:=dy u31 ((l.rh i x.2 rest).aJ q.ab c).1) (by exact sizeOf75) rfl rfl (dh hu31) (by rfl)) ?_
  rintro _ _ ⟨rfl,rfl⟩
  refine J 4 ?_
  refine .o2 (C:=bj b bs br ((l.rh i x.2 rest).aJ q.ab c).2) .auto rfl ?_
  rintro vv vw -
  refine J 5 ?_
  refine .c call190 rfl (qv (rows:=l.rows) (p:=(i:Int)) (A:=sl aq 1 u31 (l.aI.run q.ab c).1.av) (ts:=(l.aI.run q.ab c).1.av) (Rd.sl .here) ⟨Nat.le_trans hw (by decide),(yU ⟨hz.rl,hz.rw⟩)⟩) fun _ _=>?_
  refine J 6 ?_
  refine .p (.la rfl (Cells.mg (ds:=oE u31 ((l.rh i x.2 rest).aJ q.ab c).1.xb) Cells.a rfl)) ?_
  refine .c call194 rfl A2 fun _ _=>?_
  refine JD 2 (fun h40=>?_) fun h40=>?_
  ·refine J 5 ?_
   refine .aj rfl (af.gj 3 rfl rfl (by kernel_rfl)) ?_
   rintro _ _ ⟨b45,rfl,rfl⟩
   refine .c call190 rfl (qv (rows:=(eb l.rows (i:Int) (l.aI.run q.ab c).1.av)) (p:=(i:Int)) (A:=arr b45 0 [.int .i64 q.ab]) (ts:=[q.ab]) (Rd.lit .here rfl (fun _ _=>rfl) rfl) ⟨by show 1≤_;decide,(AM ⟨hz.rl,hz.rw⟩ (Nat.le_trans hw (by decide)))⟩) fun _ _=>?_
   refine J 5 ?_
   refine .aj rfl (af.iy (vs:=dy u31 ((l.rh i x.2 rest).aJ q.ab c).1) (by exact sizeOf75) rfl rfl (dh hu31) (by rfl)) ?_
   rintro _ _ ⟨rfl,rfl⟩
   refine J 3 ?_
   rw[lU hv h25 h40]
   refine .dJ rfl rfl isAgg75 (by exact sizeOf75) Cells.a fun w s=>⟨u31,?_,trivial,ak .auto s⟩
   rfl
  ·refine J 5 ?_
   refine .aj rfl (af.iy (vs:=dy u31 ((l.rh i x.2 rest).aJ q.ab c).1) (by exact sizeOf75) rfl rfl (dh hu31) (by rfl)) ?_
   rintro _ _ ⟨rfl,rfl⟩
   refine J 3 ?_
   rw[jg hv h25 (by rw[show(l.aI.run q.ab c).1.cq=false from h40];simp)]
   refine .dJ rfl rfl isAgg75 (by exact sizeOf75) Cells.a fun w s=>⟨u31,?_,trivial,ak .auto s⟩
   rfl
theorem CP{W:World}{b bs br i:Nat}{l:Lib}{v:aH}(hv:l.vs[i]?=some v){c:Int}(hz:HZ l)(hw:∀ t,(l.aI.run t c).1.av.length≤17):Fn Tryz.prog W 137 [ptr b,.int .i64 (i:Int),.int .i64 c] [bj b bs br l] Value (fun u=>.agg (dy u (l.upcall (i:Int) c).1).toArray) (fun _=>True) (fun u=>[sl aq 1 u (l.upcall (i:Int) c).1.xb.av,bj b bs br (l.upcall (i:Int) c).2]):=by
 refine Fn.intro (N:=34) func137 rfl ntmps137 rfl fun F=>?_
 show ar _ _ _ _ _ _ [bj b bs br l,F]
 refine .o2 (C:=bj b bs br l) .auto rfl ?_
 rintro vv vw -
 refine .o1 (C:=cv vv l.vs) .auto rfl ?_
 rintro xs hxs
 have hxl:=au hxs
 obtain⟨x,hx,rfl⟩:=di hxs hv
 have hil:=(List.getElem?_eq_some_iff.1 hx).1
 refine .fr .auto (cc (f:=(fun x:Value×aH=>sl cf 3 x.1 x.2.evs)) hx) ?_
 refine J 2 ?_
 refine .aj rfl (af.alloc rfl zeroValue75 rfl) ?_
 rintro _ _ ⟨b6,rfl,rfl⟩
 refine J 10 ?_
 refine .p (.ix i rfl rfl rfl (by omega)) ?_
 refine J 1 ?_
 refine .p (.ld rfl (Cell.rd (c:=2) Rd.s hx rfl)) ?_
 refine .c call187 rfl (zg (A:=sl cf 3 x.1 x.2.evs) (Rd.sl .here) (Nat.le_trans (hz.ev _ (List.mem_of_getElem? hv)) (by decide))) fun u19 _=>?_
 refine .to (A:=aO (fun x:Value×aH=>sl cf 3 x.1 x.2.evs) xs) (Bs:=[sl cf 3 x.1 x.2.evs,aO (fun x:Value×aH=>sl cf 3 x.1 x.2.evs) (xs.eraseIdx i)]) .auto (cC (f:=(fun x:Value×aH=>sl cf 3 x.1 x.2.evs)) hx) ?_
 refine .to (A:=cv vv l.vs) (Bs:=[sl eZ 3 vv xs,aO (fun x:Value×aH=>sl cf 3 x.1 x.2.evs) xs]) .auto (fp hxs) ?_
 refine J 1 ?_
 refine .p (.extract (v:=.agg (cf (wE x.2.evs)).toArray) rfl rfl) ?_
 refine .p (.extract (v:=u19) rfl rfl) ?_
 refine .p (.extract (v:=.bool (evWithin x.2.evs).isSome) rfl rfl) ?_
 refine .aj rfl (af.alloc rfl zeroValue232 rfl) ?_
 rintro _ _ ⟨b7,rfl,rfl⟩
 refine .aj rfl (af.iy (vs:=cf (wE x.2.evs)) (by exact sizeOf232) rfl rfl (by rfl) (by rfl)) ?_
 rintro _ _ ⟨rfl,rfl⟩
 refine JD 9 (fun h23=>?_) fun h23=>?_
 ·refine J 7 ?_
  refine .c call188 rfl (A3 (q:=wE x.2.evs) (rest:=wR x.2.evs) hv hz (hw _)) fun u29 _=>?_
  refine .cM (fun w s=>Rd.isSl (Rd.sl .auto) w s) fun hu29=>?_
  refine .aj rfl (af.iy (vs:=dy u29 (l.recover (i:Int) (wE x.2.evs) (wR x.2.evs) c).1) (by exact sizeOf75) rfl rfl (dh hu29) (by rfl)) ?_
  rintro _ _ ⟨rfl,rfl⟩
  refine J 4 ?_
  rw[lV hv h23]
  refine .dJ rfl rfl isAgg75 (by exact sizeOf75) Cells.a fun w s=>⟨u29,?_,trivial,ak .auto s⟩
  rfl
 ·refine J 6 ?_
  refine .c call139 rfl (ru hv) fun _ _=>?_
  refine J 4 ?_
  refine .p (.mq (dy (.slice none 0 0) gg.z) (by kernel_rfl)) ?_
  refine .aj rfl (af.iy (vs:=dy (.slice none 0 0) gg.z) (by exact sizeOf75) rfl rfl (by rfl) (by rfl)) ?_
  rintro _ _ ⟨rfl,rfl⟩
  refine J 3 ?_
  rw[nK hv h23]
  refine .dJ rfl rfl isAgg75 (by exact sizeOf75) Cells.a fun w s=>⟨(.slice none 0 0),?_,trivial,ak .auto s⟩
  rfl
theorem IY{W:World}{b bs br i:Nat}{l:Lib}{v:aH}(hv:l.vs[i]?=some v)(hz:HZ l):Fn Tryz.prog W 140 [ptr b,.int .i64 (i:Int)] [bj b bs br l] Unit (fun _=>.tuple #[]) (fun _=>True) (fun _=>[bj b bs br (l.pick (i:Int))]):=by
 refine Fn.intro (N:=23) func140 rfl ntmps140 rfl fun F=>?_
 show ar _ _ _ _ _ _ [bj b bs br l,F]
 refine .o2 (C:=bj b bs br l) .auto rfl ?_
 rintro vv vw -
 refine J 8 ?_
 refine .c call191 rfl (FL (rs:=l.rows) (p:=(i:Int)) ⟨hz.rl,fun r hr=>Nat.le_trans (hz.rw r hr) (by decide)⟩) fun _ _=>?_
 refine JD 12 (fun h15=>?_) fun h15=>?_
 ·refine J 5 ?_
  refine .c call189 rfl (ju (l:={l with rows:=mn l.rows (i:Int) }) hv) fun _ _=>?_
  refine J 4 ?_
  rw[nM h15]
  exact JR 0 ()
 ·have hpn:=qc (l:=l) (i:=i) h15
  rw[hpn.2]
  refine J 5 ?_
  refine .c call189 rfl (ju hv) fun _ _=>?_
  refine J 1 ?_
  rw[hpn.1]
  exact JR 0 ()
theorem CQ{W:World}{b bs br i:Nat}{l:Lib}{v:aH}(hv:l.vs[i]?=some v)(hz:HZ l):Fn Tryz.prog W 138 [ptr b,.int .i64 (i:Int)] [bj b bs br l] Unit (fun _=>.tuple #[]) (fun _=>True) (fun _=>[bj b bs br (l.handle (i:Int))]):=by
 refine Fn.intro (N:=47) func138 rfl ntmps138 rfl fun F=>?_
 show ar _ _ _ _ _ _ [bj b bs br l,F]
 refine .o2 (C:=bj b bs br l) .auto rfl ?_
 rintro vv vw -
 refine .o1 (C:=cv vv l.vs) .auto rfl ?_
 rintro xs hxs
 have hxl:=au hxs
 obtain⟨x,hx,rfl⟩:=di hxs hv
 have hil:=(List.getElem?_eq_some_iff.1 hx).1
 have hev:=hz.ev _ (List.mem_of_getElem? hv)
 refine .fr .auto (cc (f:=(fun x:Value×aH=>sl cf 3 x.1 x.2.evs)) hx) ?_
 refine J 7 ?_
 refine .p (.ix i rfl rfl rfl (by omega)) ?_
 refine J 9 ?_
 refine .p (.ld rfl (Cell.rd (c:=2) Rd.s hx rfl)) ?_
 refine JD 4 (fun h18=>?_) fun h18=>?_
 ·refine J 4 ?_
  refine .to (A:=aO (fun x:Value×aH=>sl cf 3 x.1 x.2.evs) xs) (Bs:=[sl cf 3 x.1 x.2.evs,aO (fun x:Value×aH=>sl cf 3 x.1 x.2.evs) (xs.eraseIdx i)]) .auto (cC (f:=(fun x:Value×aH=>sl cf 3 x.1 x.2.evs)) hx) ?_
  refine .to (A:=cv vv l.vs) (Bs:=[sl eZ 3 vv xs,aO (fun x:Value×aH=>sl cf 3 x.1 x.2.evs) xs]) .auto (fp hxs) ?_
  refine .c call189 rfl (ju hv) fun _ _=>?_
  refine J 4 ?_
  rw[lW hv (List.eq_nil_of_length_eq_zero (by omega))]
  exact JR 0 ()
 ·refine J 5 ?_
  obtain⟨e,r,her⟩:∃ e r,x.2.evs=e::r:=by
   cases h:x.2.evs with
   | nil=>rw[h] at h18;exact absurd rfl h18
   | cons e r=>exact⟨e,r,rfl⟩
  rw[her]
  have hcl:Rd W [sl cf 3 x.1 (e::r)] cf 3 (cut 3 1 (e::r).length x.1) r:=by
   have:=(Rd.sl (W:=W) (H:=[sl cf 3 x.1 (e::r)]) .here).cut (lo:=1) (hi:=(e::r).length) (by simp) (Nat.le_refl _)
   rwa [List.take_length] at this
  refine J 3 ?_
  refine .p (.ld rfl (Cell.rd (c:=2) Rd.s hx rfl)) ?_
  refine .p (.ix 0 rfl rfl rfl (by simp)) ?_
  refine .p (.la rfl (Cells.rd Rd.s (show(e::r)[0]?=some e from rfl))) ?_
  refine .c call151 rfl oS fun _ _=>?_
  refine JD 12 (fun h32=>?_) fun h32=>?_
  ·have het:Nb e=e.ab:=by unfold Nb;rw[if_pos h32]
   rw[het]
   refine J 4 ?_
   refine .aj rfl (af.gj 3 rfl rfl (by kernel_rfl)) ?_
   rintro _ _ ⟨b36,rfl,rfl⟩
   refine .c call190 rfl (qv (rows:=l.rows) (p:=(i:Int)) (A:=arr b36 0 [.int .i64 e.ab]) (ts:=[e.ab]) (Rd.lit .here rfl (fun _ _=>rfl) rfl) ⟨by show 1≤_;decide,(yU ⟨hz.rl,hz.rw⟩)⟩) fun _ _=>?_
   refine J 7 ?_
   refine .p (.ld rfl (Cell.rd (c:=2) Rd.s hx rfl)) ?_
   refine .p (.sliceFrom 1 underlying165 sizeOf232 rfl rfl Rd.s rfl (by simp)) ?_
   refine .c call153 rfl (rp (A:=sl cf 3 x.1 (e::r)) (xs:=r) hcl (by rw[her] at hev;simp only[List.length_cons] at hev;omega)) fun u44 _=>?_
   refine .cM (fun w s=>Rd.isSl (Rd.sl .auto) w s) fun hu44=>?_
   refine J 2 ?_
   refine .aj rfl (af.lf (c:=2) (x':=(u44,{x.2 with evs:=r })) rfl rfl sizeOf165 (gb hu44) hx (by decide) rfl .auto) ?_
   rintro _ _ ⟨rfl,rfl⟩
   refine .to (A:=cv vv (l.vs.set i {x.2 with evs:=r })) (Bs:=[sl eZ 3 vv (xs.set i (u44,{x.2 with evs:=r })),sl cf 3 u44 ({x.2 with evs:=r }).evs,aO (fun x:Value×aH=>sl cf 3 x.1 x.2.evs) (xs.eraseIdx i)]) .auto (m6 hxs hx) ?_
   refine J 1 ?_
   rw[nL hv her h32]
   exact JR 0 ()
  ·refine J 7 ?_
   refine .p (.ld rfl (Cell.rd (c:=2) Rd.s hx rfl)) ?_
   refine .p (.sliceFrom 1 underlying165 sizeOf232 rfl rfl Rd.s rfl (by simp)) ?_
   refine .c call153 rfl (rp (A:=sl cf 3 x.1 (e::r)) (xs:=r) hcl (by rw[her] at hev;simp only[List.length_cons] at hev;omega)) fun u44 _=>?_
   refine .cM (fun w s=>Rd.isSl (Rd.sl .auto) w s) fun hu44=>?_
   refine J 2 ?_
   refine .aj rfl (af.lf (c:=2) (x':=(u44,{x.2 with evs:=r })) rfl rfl sizeOf165 (gb hu44) hx (by decide) rfl .auto) ?_
   rintro _ _ ⟨rfl,rfl⟩
   refine .to (A:=cv vv (l.vs.set i {x.2 with evs:=r })) (Bs:=[sl eZ 3 vv (xs.set i (u44,{x.2 with evs:=r })),sl cf 3 u44 ({x.2 with evs:=r }).evs,aO (fun x:Value×aH=>sl cf 3 x.1 x.2.evs) (xs.eraseIdx i)]) .auto (m6 hxs hx) ?_
   refine J 1 ?_
   rw[lX hv her (by rw[h32];simp)]
   exact JR 0 ()
end Go.SLYtpbjdoplfgeliaaGreat
