/- Walks of functions, and what they compute. Conditions: none, this text proves no statement. -/
import Derived.Test.YtefdijgllbkmfaaGreatI06
import Derived.Test.YtefdijgllbkmfaaGreatProg
import Derived.Test.YtefdijgllbkmfaaGreatI10
import Derived.Test.YtefdijgllbkmfaaGreatI03
import Derived.KernelRfl
import Derived.Test.YtefdijgllbkmfaaGreatI05
import Derived.Shelf.Sort.Plain
import Derived.Shelf.Slices.In.SortNone
import Derived.Lib.SortBridge
import Derived.Test.YtefdijgllbkmfaaGreatI09
set_option maxRecDepth 20000
set_option maxHeartbeats 4000000
namespace Go.SLYtefdijgllbkmfaaGreat
open Go Go.RowKit Go.Proofs Go.Proofs.Tryz
attribute [local irreducible] ax aS bo bY bP Y
theorem Hu{W:World}{b:Nat}{ps:List (Option Nat)}{s:Spc}{n:Int}:Fn Tryz.prog W 70 [ptr b,.int .i64 n] [dE b ps s] Unit (fun _=>iw (DV ps n)) (fun _=>True) (fun _=>[dE b ps s]):=by
 refine Fn.intro (N:=21) func70 rfl ntmps70 rfl fun F=>?_
 show ax _ _ _ _ _ _ [dE b ps s,F]
 refine .jR (C:=dE b ps s) .auto rfl ?_
 rintro fv sv pv bt vm bg vt bk bw vr -
 refine J 15 ?_
 apply aS.fu 3 14 11 [11,12,13,14] rfl
 ·intro h11
  exact JS 4
 ·intro h11
  exact JS 4
 refine JD 2 (fun h14=>?_) fun h14=>?_
 ·simp only[Bool.or_eq_true,decide_eq_true_eq] at h14
  refine J 7 ?_
  refine .aI rfl rfl fun w s=>⟨(),?_,trivial,aq .auto s⟩
  rw[DV,if_neg (by omega)];rfl
 ·simp only[Bool.or_eq_false_iff,decide_eq_false_iff_not] at h14
  refine J 8 ?_
  refine .p (.aF n.toNat underlying123 sizeOf122 rfl rfl (by omega) (by omega)) ?_
  refine .p (.ld rfl (Cell.a (by rw[Nat.mul_one];exact eP (by omega)))) ?_
  refine J 4 ?_
  refine .aI rfl rfl fun w s=>⟨(),?_,trivial,aq .auto s⟩
  rw[DV,if_pos (by omega)]
theorem mK{W:World}{b p:Nat}{ps:List (Option Nat)}{s:Spc}{n:Nat}{t:bF}(hp:ps[n]?=some (some p))(ht:s.thr[n]?=some (some t))(hl:s.thr.length=16)(hpl:ps.length=16)(hT:iW s.table)(hh:0≤t.handle):Fn Tryz.prog W 113 [ptr b,.int .i64 (n:Int)] [dE b ps s] Unit (fun _=>.tuple #[]) (fun _=>True) (fun _=>[dE b (ps.set n none) (s.free n)]):=by
 refine Fn.intro (N:=23) func113 rfl ntmps113 rfl fun F=>?_
 show ax _ _ _ _ _ _ [dE b ps s,F]
 refine .jR (C:=dE b ps s) .auto rfl ?_
 rintro fv sv pv bt vm bg vt bk bw vr -
 have hn16:n<16:=hl ▸ (List.getElem?_eq_some_iff.1 ht).1
 refine .fr .auto (cq hp ht) ?_
 refine J 1 ?_
 refine .draw [arr b 0 (fU fv sv pv s.dG bt ps vm bg vt bk bw vr),arr p 0 (bH t)] [1,1,1,1,1,1,1,1,1,1,1,1,1,3] rfl (by kernel_rfl) ?_
 refine J 8 ?_
 refine .p (.aF n underlying123 sizeOf122 rfl rfl rfl hn16) ?_
 refine .p (.ld rfl (Cell.a (by rw[Nat.mul_one,eP hn16,fh hp]))) ?_
 refine J 3 ?_
 refine .c call159 rfl (CE hT hh) fun e _=>?_
 refine J 7 ?_
 refine .p (.aF n underlying123 sizeOf122 rfl rfl rfl hn16) ?_
 refine .aw rfl (af.st sizeOf122 rfl rfl rfl (Nat.blt_eq.mpr (by show 9+n * 1<31;omega))) ?_
 rintro _ _ ⟨rfl,rfl⟩
 rw[Nat.mul_one,show Value.pointer none=iw none from rfl,xk hn16 hpl]
 refine J 1 ?_
 rw[show s.free n = {s with table:=slotFreed s.table t.handle,thr:=s.thr.set n none } from by unfold Spc.free;rw[cV ht]]
 exact JR 0 ()
theorem jq{W:World}{bd b p:Nat}{ps:List (Option Nat)}{d:Dng}{t:bF}(hp:ps[d.n]?=some (some p))(ht:d.s.thr[d.n]?=some (some t)){x y e:Int}{fin:Bool}(hr:d.s.au.length≤1000000000):Fn Tryz.prog W 82 [ptr bd,.int .u64 x,.int .u64 y,.int .i64 e,.bool fin] [bu bd b p ps d] Unit (fun _=>.tuple #[]) (fun _=>True) (fun _=>[bu bd b p ps (d.tell x y e fin)]):=by
 refine Fn.intro (N:=42) func82 rfl ntmps82 rfl fun F=>?_
 show ax _ _ _ _ _ _ [bu bd b p ps d,F]
 refine .o2 (C:=bu bd b p ps d) .auto rfl ?_
 rintro vw ve -
 refine .jR (C:=dE b ps d.s) .auto rfl ?_
 rintro fv sv pv bt vm bg vt bk bw vr -
 refine .fr .auto (cq hp ht) ?_
 refine .draw [arr bd 0 (ez b p d vw ve),arr b 0 (fU fv sv pv d.s.dG bt ps vm bg vt bk bw vr),arr p 0 (bH t)] [0,0,0,0,0,0,0,0,0,0,0,1,1,1,1,1,1,1,1,1,1,1,1,1,1,1,1,1,2,2,1,1,3] rfl (by kernel_rfl) ?_
 refine J 27 ?_
 refine .p (.Io (fun v1 v2 v3 v4 v5 v6=>[v1,v2,v3,v4,v5,v6]) rfl rfl rfl rfl rfl rfl (by kernel_rfl)) ?_
 refine .d2 rfl Kept.auto (af.gN 101 rfl rfl (by kernel_rfl)) (by rintro _ _ ⟨b38,rfl,rfl⟩;exact Kept.auto) ?_
 rintro _ _ ⟨b38,rfl,rfl⟩
 refine .d2 rfl Kept.auto (af.fb (enc:=dp) (k:=6) (⟨t.handle,d.i.op,x,y,e,fin⟩:Rec) rfl underlying49 underlying49 typeInfo101 rfl rfl rfl (by decide) rfl rfl rfl .auto rfl .auto (by omega) rfl) (by rintro _ _ ⟨v39,rfl,rfl⟩;exact Kept.auto) ?_
 rintro _ _ ⟨v39,rfl,rfl⟩
 refine J 2 ?_
 refine .d3 rfl (af.pn sizeOf49 rfl rfl rfl) ?_
 rintro _ _ ⟨rfl,rfl⟩
 rw[oq]
 refine J 1 ?_
 refine .to (A:=aG ps d.s.thr) (Bs:=[arr p 0 (bH t),aG (ps.set d.n none) (d.s.thr.set d.n none)]) .auto (cI hp ht) ?_
 rw[show d.tell x y e fin = {d with s:=d.s.tell ⟨t.handle,d.i.op,x,y,e,fin⟩ } from by unfold Dng.tell;rw[bZ ht]]
 exact JR 0 ()
theorem cR{W:World}{bd b p:Nat}{ps:List (Option Nat)}{d:Dng}{t:bF}(hp:ps[d.n]?=some (some p))(ht:d.s.thr[d.n]?=some (some t)){x y e:Int}(hr:d.s.au.length≤1000000000)(he:0≤e∧e≤11)(hl:t.av.length=8):Fn Tryz.prog W 117 [ptr bd,.int .u64 x,.int .u64 y,.int .i64 e] [bu bd b p ps d] Unit (fun _=>.tuple #[]) (fun _=>True) (fun _=>[bu bd b p ps (d.pass x y e)]):=by
 refine Fn.intro (N:=23) func117 rfl ntmps117 rfl fun F=>?_
 show ax _ _ _ _ _ _ [bu bd b p ps d,F]
 refine J 6 ?_
 refine .c call82 rfl (jq hp ht hr) fun _ _=>?_
 refine J 3 ?_
 have ht2:(d.tell x y e true).s.thr[d.n]?=some (some t):=ht
 refine .o2 (C:=bu bd b p ps (d.tell x y e true)) .auto rfl ?_
 rintro vw ve -
 refine .jR (C:=dE b ps (d.tell x y e true).s) .auto rfl ?_
 rintro fv sv pv bt vm bg vt bk bw vr -
 refine .fr .auto (cq hp ht2) ?_
 refine J 3 ?_
 refine .p (.ld rfl (Cell.a (cs:=ez b p (d.tell x y e true) vw ve) rfl)) ?_
 refine J 1 ?_
 refine .p (.fY underlying28 underlying38 rfl (by omega)) ?_
 refine J 3 ?_
 refine .p (.aF 7 underlying39 sizeOf38 rfl rfl (by omega) (by omega)) ?_
 refine J 1 ?_
 rw[qW (n:=7) e (by decide) hl]
 refine J 1 ?_
 refine .to (A:=aG ps (d.s.thr.set d.n (some (t.put 7 e)))) (Bs:=[arr p 0 (bH (t.put 7 e)),aG (ps.set d.n none) ((d.tell x y e true).s.thr.set d.n none)]) .auto (cW (List.getElem?_eq_some_iff.1 ht).1 hp) ?_
 rw[show d.pass x y e=(d.tell x y e true).aj (t.put 7 e) from by unfold Dng.pass;rw[bZ ht]]
 exact JR 0 ()
theorem gz{W:World}{bd b p:Nat}{ps:List (Option Nat)}{d:Dng}{t:bF}(hp:ps[d.n]?=some (some p))(ht:d.s.thr[d.n]?=some (some t)){why into x y:Int}(hr:d.s.au.length≤1000000000):Fn Tryz.prog W 164 [ptr bd,.int .i64 why,.int .i64 into,.int .u64 x,.int .u64 y] [bu bd b p ps d] Unit (fun _=>.tuple #[]) (fun _=>True) (fun _=>[bu bd b p ps (d.block why into x y)]):=by
 refine Fn.intro (N:=43) func164 rfl ntmps164 rfl fun F=>?_
 show ax _ _ _ _ _ _ [bu bd b p ps d,F]
 refine J 5 ?_
 refine .c call82 rfl (jq hp ht hr) fun _ _=>?_
 refine J 3 ?_
 have ht2:(d.tell x y 0 false).s.thr[d.n]?=some (some t):=ht
 refine .o2 (C:=bu bd b p ps (d.tell x y 0 false)) .auto rfl ?_
 rintro vw ve -
 refine .jR (C:=dE b ps (d.tell x y 0 false).s) .auto rfl ?_
 rintro fv sv pv bt vm bg vt bk bw vr -
 refine .fr .auto (cq hp ht2) ?_
 refine .draw [arr bd 0 (ez b p (d.tell x y 0 false) vw ve)] [1,1,1,1,1,1,1,1,1,1,1,1,1,1,1,1,1,1,0,1,1,2,1,1,2,1,1,3] rfl (by kernel_rfl) ?_
 have ht2:(d.tell x y 0 false).s.thr[d.n]?=some (some t):=ht
 refine J 22 ?_
 rw[oh]
 refine J 3 ?_
 rw[ID]
 refine J 3 ?_
 rw[rY]
 refine J 9 ?_
 refine .to (A:=aG ps (d.s.thr.set d.n (some {t with why:=why,op:=d.i.op,into:=into }))) (Bs:=[arr p 0 (bH {t with why:=why,op:=d.i.op,into:=into }),aG (ps.set d.n none) ((d.tell x y 0 false).s.thr.set d.n none)]) .auto (cW (List.getElem?_eq_some_iff.1 ht).1 hp) ?_
 rw[show d.block why into x y = {(d.tell x y 0 false).aj {t with why:=why,op:=d.i.op,into:=into } with out:={d.out with bA:=true } } from by unfold Dng.block;rw[bZ ht]]
 exact JR 0 ()
theorem Ft{W:World}{b p:Nat}{ps:List (Option Nat)}{s:Spc}{n:Nat}{t:bF}(hp:ps[n]?=some (some p))(ht:s.thr[n]?=some (some t))(hn16:n<16)(hR:gL t){y:Int}:Fn Tryz.prog W 93 [ptr b,.int .i64 (n:Int),.int .u64 y] [dE b ps s] Unit (fun _=>.agg (dp (t.dH y)).toArray) (fun _=>True) (fun _=>[dE b ps (s.di n y)]):=by
 refine Fn.intro (N:=50) func93 rfl ntmps93 rfl fun F=>?_
 show ax _ _ _ _ _ _ [dE b ps s,F]
 refine .jR (C:=dE b ps s) .auto rfl ?_
 rintro fv sv pv bt vm bg vt bk bw vr -
 refine .fr .auto (cq hp ht) ?_
 have hRl:=hR.l
 have hRi:=hR.i
 refine J 2 ?_
 refine .aw rfl (af.alloc rfl zeroValue101 rfl) ?_
 rintro _ _ ⟨b6,rfl,rfl⟩
 refine J 8 ?_
 refine .p (.aF n underlying123 sizeOf122 rfl rfl rfl hn16) ?_
 refine .p (.ld rfl (Cell.a (by rw[Nat.mul_one,eP hn16,fh hp]))) ?_
 refine J 3 ?_
 refine .mX (X:=Unit) [2,14,15,16,17,18,19,20,21,22,23,24,25,26,27,28] (fun _=>True) (fun _=>[(2,some (.int .u64 (if t.into = -1 then 0 else y)))]) (fun _=>[arr p 0 (bH (if t.into = -1 then t else t.put t.into y)),aG (ps.set n none) (s.thr.set n none),arr b6 0 [.int .u64 0,.int .i64 0,.int .u64 0,.int .u64 0,.int .i64 0,.bool false],arr b 0 (fU fv sv pv s.dG bt ps vm bg vt bk bw vr),Al fv s.dG.funcs,lJ bt s.table,sl cM 1 vm s.mem,cZ bg s.ag,qp vt s.bx,pA bk s.aN,nN bw s.aA,sl dp 6 vr s.au,F]) ?_ ?_
 ·refine JD 9 (fun h18=>?_) fun h18=>?_
  ·refine .draw [arr p 0 (bH t)] [1,1,1,1,1,1,1,1,1,1,3] rfl (by kernel_rfl) ?_
   refine J 9 ?_
   refine .p (.aF t.into.toNat underlying39 sizeOf38 rfl rfl (by omega) (by omega)) ?_
   refine .d3 rfl (af.st sizeOf38 rfl rfl rfl (Nat.blt_eq.mpr (by show 2+t.into.toNat * 1<18;omega))) ?_
   rintro _ _ ⟨rfl,rfl⟩
   rw[jb y (by omega) (by omega) hRl]
   refine J 1 ?_
   refine .eK () .auto ?_ ?_ ?_
   ·trivial
   ·rw[if_neg (by omega)];exact⟨rfl,trivial⟩
   ·rw[if_neg (by omega)];exact fun w s=>aK.kept .auto w s
  ·refine J 3 ?_
   refine .eK () .auto ?_ ?_ ?_
   ·trivial
   ·rw[if_pos (by omega)];exact⟨rfl,trivial⟩
   ·rw[if_pos (by omega)];exact fun w s=>aK.kept .auto w s
 ·rintro⟨⟩ -
  obtain⟨y1,hy1⟩:∃ y1,y1=(if t.into = -1 then 0 else y):=⟨_,rfl⟩
  obtain⟨t1,h1⟩:∃ t1,t1=(if t.into = -1 then t else t.put t.into y):=⟨_,rfl⟩
  have h1l:t1.av.length=8:=by
   rw[h1]
   split
   ·exact hRl
   ·rw[jE];exact hRl
  have h1h:t1.handle=t.handle∧t1.op=t.op:=by
   rw[h1]
   split <;> exact⟨rfl,rfl⟩
  rw[← hy1, ← h1]
  refine J 6 ?_
  refine .p (.aF 7 underlying39 sizeOf38 rfl rfl (by omega) (by omega)) ?_
  refine J 1 ?_
  rw[qW (n:=7) 0 (by decide) h1l]
  refine J 9 ?_
  rw[oh]
  refine J 3 ?_
  rw[rY]
  refine J 3 ?_
  refine .draw [arr p 0 (bH {t1.put 7 0 with why:=0,into := -1 })] [1,1,1,1,1,1,1,1,1,1,3] rfl (by kernel_rfl) ?_
  refine J 9 ?_
  refine .p (.Bv (fun v1 v2 v3 v4=>[v1,v2,(.int .u64 0),v3,(.int .i64 0),v4]) rfl rfl rfl rfl (by kernel_rfl)) ?_
  refine .d3 rfl (af.tf (by exact sizeOf101) rfl rfl rfl (by rfl)) ?_
  rintro _ _ ⟨rfl,rfl⟩
  refine J 3 ?_
  refine .to (A:=aG ps (s.thr.set n (some ({t1.put 7 0 with why:=0,into := -1 })))) (Bs:=[arr p 0 (bH ({t1.put 7 0 with why:=0,into := -1 })),aG (ps.set n none) (s.thr.set n none)]) .auto (cW (List.getElem?_eq_some_iff.1 ht).1 hp) ?_
  rw[show s.di n y=s.aj n {t1.put 7 0 with why:=0,into := -1 } from by unfold Spc.di;rw[cV ht,AB t1 h1]]
  refine .fp rfl rfl isAgg101 (by exact sizeOf101) Cells.a fun w s=>⟨(),?_,trivial,aq .auto s⟩
  show Ending.returned (Value.agg #[.int .u64 t1.handle,.int .i64 t1.op,.int .u64 0,.int .u64 y1,.int .i64 0,.bool true])=_;rw[h1h.1,h1h.2,hy1];rfl
theorem Fu{W:World}{bd b p q:Nat}{ps:List (Option Nat)}{d:Dng}{t:bF}{n:Nat}(hp:ps[n]?=some (some q))(ht:d.s.thr[n]?=some (some t))(hn16:n<16)(hR:gL t)(he:d.ends.length≤1000000)(hw:d.out.aL.length≤1000000){y:Int}:Fn Tryz.prog W 114 [ptr bd,.int .i64 (n:Int),.int .u64 y] [bu bd b p ps d] Unit (fun _=>.tuple #[]) (fun _=>True) (fun _=>[bu bd b p ps (d.dW n y)]):=by
 refine Fn.intro (N:=34) func114 rfl ntmps114 rfl fun F=>?_
 show ax _ _ _ _ _ _ [bu bd b p ps d,F]
 refine .o2 (C:=bu bd b p ps d) .auto rfl ?_
 rintro vw ve -
 refine J 1 ?_
 refine .draw [arr bd 0 (ez b p d vw ve)] [0,0,0,0,0,1,1,1,1,1,1,2,2,2,1,1,3] rfl (by kernel_rfl) ?_
 refine J 11 ?_
 refine .c2 call93 rfl (Ft hp ht hn16 hR) fun _ _=>?_
 refine .d2 rfl Kept.auto (af.gN 101 rfl rfl (by kernel_rfl)) (by rintro _ _ ⟨b18,rfl,rfl⟩;exact Kept.auto) ?_
 rintro _ _ ⟨b18,rfl,rfl⟩
 refine .d2 rfl Kept.auto (af.fb (enc:=dp) (k:=6) (t.dH y) rfl underlying49 underlying49 typeInfo101 rfl rfl rfl (by decide) rfl rfl rfl .auto rfl .auto (by omega) rfl) (by rintro _ _ ⟨v19,rfl,rfl⟩;exact Kept.auto) ?_
 rintro _ _ ⟨v19,rfl,rfl⟩
 refine J 2 ?_
 refine .d3 rfl (af.pn sizeOf49 rfl rfl rfl) ?_
 rintro _ _ ⟨rfl,rfl⟩
 refine J 10 ?_
 refine .aw rfl (af.gN 3 rfl rfl (by kernel_rfl)) ?_
 rintro _ _ ⟨b29,rfl,rfl⟩
 refine .aw rfl (af.fb (enc:=aP) (k:=1) (n:Int) rfl underlying23 underlying23 typeInfo3 rfl rfl rfl (by decide) rfl rfl rfl .auto rfl .auto (by omega) rfl) ?_
 rintro _ _ ⟨v30,rfl,rfl⟩
 refine J 3 ?_
 refine .aw rfl (af.pn sizeOf23 rfl rfl rfl) ?_
 rintro _ _ ⟨rfl,rfl⟩
 refine J 1 ?_
 rw[show d.dW n y = {d with s:=d.s.di n y,ends:=d.ends++[t.dH y],out:={d.out with aL:=d.out.aL++[(n:Int)] } } from by unfold Dng.dW;rw[cV ht]]
 exact JR 0 ()
theorem uX{W:World}{bd b p:Nat}{ps:List (Option Nat)}{d:Dng}{t:bF}(hp:ps[d.n]?=some (some p))(ht:d.s.thr[d.n]?=some (some t))(hI:0≤d.i.a∧d.i.a<8):Fn Tryz.prog W 120 [ptr bd] [bu bd b p ps d] Unit (fun _=>.int .u64 d.a) (fun _=>True) (fun _=>[bu bd b p ps d]):=by
 refine Fn.intro (N:=17) func120 rfl ntmps120 rfl fun F=>?_
 show ax _ _ _ _ _ _ [bu bd b p ps d,F]
 refine .o2 (C:=bu bd b p ps d) .auto rfl ?_
 rintro vw ve -
 refine .jR (C:=dE b ps d.s) .auto rfl ?_
 rintro fv sv pv bt vm bg vt bk bw vr -
 refine .fr .auto (cq hp ht) ?_
 refine J 6 ?_
 refine .draw [] [1,1,1,1,1,1,1,1,1,1,1,1,1,1,1] rfl (by kernel_rfl) ?_
 refine J 12 ?_
 refine .p (.aF d.i.a.toNat underlying39 sizeOf38 rfl rfl (by omega) (by omega)) ?_
 refine .p (.ld rfl (Cell.a (my (by omega)))) ?_
 refine J 4 ?_
 refine .to (A:=aG ps d.s.thr) (Bs:=[arr p 0 (bH t),aG (ps.set d.n none) (d.s.thr.set d.n none)]) .auto (cI hp ht) ?_
 refine .aI rfl rfl fun w s=>⟨(),?_,trivial,aq .auto s⟩
 rw[show d.a=t.av.getD d.i.a.toNat 0 from by unfold Dng.a;rw[bZ ht];rfl]
theorem Ia{W:World}{bd b p:Nat}{ps:List (Option Nat)}{d:Dng}{t:bF}(hp:ps[d.n]?=some (some p))(ht:d.s.thr[d.n]?=some (some t))(hI:0≤d.i.b∧d.i.b<8):Fn Tryz.prog W 162 [ptr bd] [bu bd b p ps d] Unit (fun _=>.int .u64 d.b) (fun _=>True) (fun _=>[bu bd b p ps d]):=by
 refine Fn.intro (N:=17) func162 rfl ntmps162 rfl fun F=>?_
 show ax _ _ _ _ _ _ [bu bd b p ps d,F]
 refine .o2 (C:=bu bd b p ps d) .auto rfl ?_
 rintro vw ve -
 refine .jR (C:=dE b ps d.s) .auto rfl ?_
 rintro fv sv pv bt vm bg vt bk bw vr -
 refine .fr .auto (cq hp ht) ?_
 refine J 6 ?_
 refine .draw [] [1,1,1,1,1,1,1,1,1,1,1,1,1,1,1] rfl (by kernel_rfl) ?_
 refine J 12 ?_
 refine .p (.aF d.i.b.toNat underlying39 sizeOf38 rfl rfl (by omega) (by omega)) ?_
 refine .p (.ld rfl (Cell.a (my (by omega)))) ?_
 refine J 4 ?_
 refine .to (A:=aG ps d.s.thr) (Bs:=[arr p 0 (bH t),aG (ps.set d.n none) (d.s.thr.set d.n none)]) .auto (cI hp ht) ?_
 refine .aI rfl rfl fun w s=>⟨(),?_,trivial,aq .auto s⟩
 rw[show d.b=t.av.getD d.i.b.toNat 0 from by unfold Dng.b;rw[bZ ht];rfl]
theorem nA{W:World}{bd b p:Nat}{ps:List (Option Nat)}{d:Dng}(hr:d.s.au.length≤1000000000)(he:d.ends.length≤1000000):Fn Tryz.prog W 86 [ptr bd] [bu bd b p ps d] Value (fun u=>.agg (xy u d.finish.1).toArray) (fun _=>True) (fun u=>[sl aP 1 u d.finish.1.aL,dE b ps d.finish.2]):=by
 refine Fn.intro (N:=25) func86 rfl ntmps86 rfl fun F=>?_
 show ax _ _ _ _ _ _ [bu bd b p ps d,F]
 refine .o2 (C:=bu bd b p ps d) .auto rfl ?_
 rintro vw ve -
 refine .jR (C:=dE b ps d.s) .auto rfl ?_
 rintro fv sv pv bt vm bg vt bk bw vr -
 refine J 2 ?_
 refine .aw rfl (af.alloc rfl zeroValue93 rfl) ?_
 rintro _ _ ⟨b2,rfl,rfl⟩
 refine J 3 ?_
 refine .draw [arr bd 0 (ez b p d vw ve),arr b 0 (fU fv sv pv d.s.dG bt ps vm bg vt bk bw vr)] [0,0,0,0,1,1,1,1,1,1,1,1,1,1,1,2,1,1,3] rfl (by kernel_rfl) ?_
 refine J 15 ?_
 refine .d2 rfl Kept.auto (af.append rfl underlying49 underlying49 typeInfo101 rfl rfl rfl (by decide) rfl rfl .auto Rd.s (by omega) (rJ _)) (by rintro _ _ ⟨v18,rfl,rfl⟩;exact Kept.auto) ?_
 rintro _ _ ⟨v18,rfl,rfl⟩
 refine J 2 ?_
 refine .d3 rfl (af.pn sizeOf49 rfl rfl rfl) ?_
 rintro _ _ ⟨rfl,rfl⟩
 rw[oq]
 refine J 7 ?_
 refine .p (.la rfl (Cells.lG (ds:=xy vw d.out) Cells.a rfl)) ?_
 refine .aw rfl (af.DW (vs:=[.bool d.out.bA,.bool d.out.ended,.bool d.out.yielded]) (by exact sizeOf93) rfl rfl rfl rfl) ?_
 rintro _ _ ⟨rfl,rfl⟩
 refine J 3 ?_
 refine .fp rfl rfl isAgg93 (by exact sizeOf93) Cells.a fun w s=>⟨vw,?_,trivial,aq .auto s⟩
 rfl
end Go.SLYtefdijgllbkmfaaGreat
namespace Go.SLYtefdijgllbkmfaaGreat
open Go Go.RowKit Go.Proofs Go.Proofs.Tryz
attribute [local irreducible] ax aS bo bY bP Y
theorem fF{W:World}{a:Int}:Fn Tryz.prog W 286 [.int .u64 a] [] Unit (fun _=>.float .f64 a.toNat) (fun _=>True) (fun _=>[]):=by
 refine Fn.intro (N:=5) func286 rfl ntmps286 rfl fun F=>?_
 show ax _ _ _ _ _ _ [F]
 refine J 8 ?_
 refine .p (.ext (e:=Extern.MathFloatBits.float64frombits) func219 rfl rfl rfl (by kernel_rfl) rfl (fun w=>rfl)) ?_
 exact JR 4 ()
theorem zY{W:World}{n:Nat}:Fn Tryz.prog W 316 [.float .f64 n] [] Unit (fun _=>.bool (jM n n != some .eq)) (fun _=>True) (fun _=>[]):=by
 refine Fn.intro (N:=6) func316 rfl ntmps316 rfl fun F=>?_
 show ax _ _ _ _ _ _ [F]
 refine J 9 ?_
 refine .p (.Lb rfl rfl (fun w=>rfl)) ?_
 exact JR 4 ()
theorem ln{W:World}{n:Nat}:Fn Tryz.prog W 291 [.float .f64 n] [] Unit (fun _=>.bool (jM n n != some .eq)) (fun _=>True) (fun _=>[]):=by
 refine Fn.intro (N:=5) func291 rfl ntmps291 rfl fun F=>?_
 show ax _ _ _ _ _ _ [F]
 refine J 8 ?_
 refine .c call316 rfl zY fun _ _=>?_
 exact JR 4 ()
theorem kD{W:World}{n:Nat}:Fn Tryz.prog W 287 [.float .f64 n] [] Unit (fun _=>.int .u64 (fw (n:Int))) (fun _=>True) (fun _=>[]):=by
 refine Fn.intro (N:=7) func287 rfl ntmps287 rfl fun F=>?_
 show ax _ _ _ _ _ _ [F]
 refine J 9 ?_
 refine .c call291 rfl ln fun _ _=>?_
 refine JD 2 (fun h4=>?_) fun h4=>?_
 ·refine J 7 ?_
  refine .aI rfl rfl fun w s=>⟨(),?_,trivial,aq .auto s⟩
  rw[pF,if_pos h4];rfl
 ·refine J 5 ?_
  refine .p (.ext (e:=Extern.MathFloatBits.float64bits) func221 rfl rfl rfl (by kernel_rfl) rfl (fun w=>rfl)) ?_
  refine J 4 ?_
  refine .aI rfl rfl fun w s=>⟨(),?_,trivial,aq .auto s⟩
  rw[pF,if_neg (by rw[h4];simp)]
theorem Hv{W:World}{a b:Int}:Fn Tryz.prog W 247 [.int .u64 a,.int .u64 b] [] Unit (fun _=>.int .u64 (BK a b)) (fun _=>True) (fun _=>[]):=by
 refine Fn.intro (N:=11) func247 rfl ntmps247 rfl fun F=>?_
 show ax _ _ _ _ _ _ [F]
 refine J 8 ?_
 refine .c call286 rfl fF fun _ _=>?_
 refine J 1 ?_
 refine .c call286 rfl fF fun _ _=>?_
 refine .aw rfl (af.Gc (Ieee.double.add _ _) rfl rfl rfl (fun w=>rfl)) ?_
 rintro _ _ ⟨r9,hr9,rfl,rfl⟩
 refine .c call287 rfl kD fun _ _=>?_
 refine J 4 ?_
 refine .aI rfl rfl fun w s=>⟨(),?_,trivial,aq .auto s⟩
 rw[jD hr9];rfl
theorem Hw{W:World}{a b:Int}:Fn Tryz.prog W 248 [.int .u64 a,.int .u64 b] [] Unit (fun _=>.int .u64 (BL a b)) (fun _=>True) (fun _=>[]):=by
 refine Fn.intro (N:=11) func248 rfl ntmps248 rfl fun F=>?_
 show ax _ _ _ _ _ _ [F]
 refine J 8 ?_
 refine .c call286 rfl fF fun _ _=>?_
 refine J 1 ?_
 refine .c call286 rfl fF fun _ _=>?_
 refine .aw rfl (af.Gc (Ieee.double.sub _ _) rfl rfl rfl (fun w=>rfl)) ?_
 rintro _ _ ⟨r9,hr9,rfl,rfl⟩
 refine .c call287 rfl kD fun _ _=>?_
 refine J 4 ?_
 refine .aI rfl rfl fun w s=>⟨(),?_,trivial,aq .auto s⟩
 rw[jD hr9];rfl
theorem Hy{W:World}{a b:Int}:Fn Tryz.prog W 249 [.int .u64 a,.int .u64 b] [] Unit (fun _=>.int .u64 (BM a b)) (fun _=>True) (fun _=>[]):=by
 refine Fn.intro (N:=11) func249 rfl ntmps249 rfl fun F=>?_
 show ax _ _ _ _ _ _ [F]
 refine J 8 ?_
 refine .c call286 rfl fF fun _ _=>?_
 refine J 1 ?_
 refine .c call286 rfl fF fun _ _=>?_
 refine .aw rfl (af.Gc (Ieee.double.mul _ _) rfl rfl rfl (fun w=>rfl)) ?_
 rintro _ _ ⟨r9,hr9,rfl,rfl⟩
 refine .c call287 rfl kD fun _ _=>?_
 refine J 4 ?_
 refine .aI rfl rfl fun w s=>⟨(),?_,trivial,aq .auto s⟩
 rw[jD hr9];rfl
theorem Hz{W:World}{a b:Int}:Fn Tryz.prog W 250 [.int .u64 a,.int .u64 b] [] Unit (fun _=>.int .u64 (BN a b)) (fun _=>True) (fun _=>[]):=by
 refine Fn.intro (N:=11) func250 rfl ntmps250 rfl fun F=>?_
 show ax _ _ _ _ _ _ [F]
 refine J 8 ?_
 refine .c call286 rfl fF fun _ _=>?_
 refine J 1 ?_
 refine .c call286 rfl fF fun _ _=>?_
 refine .aw rfl (af.Gc (Ieee.double.div _ _) rfl rfl rfl (fun w=>rfl)) ?_
 rintro _ _ ⟨r9,hr9,rfl,rfl⟩
 refine .c call287 rfl kD fun _ _=>?_
 refine J 4 ?_
 refine .aI rfl rfl fun w s=>⟨(),?_,trivial,aq .auto s⟩
 rw[jD hr9];rfl
theorem Fv{W:World}{m n:Nat}:Fn Tryz.prog W 288 [.float .f64 m,.float .f64 n] [] Unit (fun _=>.float .f64 (eF true .lt m n)) (fun _=>True) (fun _=>[]):=by
 refine Fn.intro (N:=11) func288 rfl ntmps288 rfl fun F=>?_
 show ax _ _ _ _ _ _ [F]
 refine J 6 ?_
 refine .hJ rfl ?_
 refine J 4 ?_
 refine .p (.ext (e := Extern.MathDim.pick "math.archMin" true .lt) func312 rfl rfl rfl (by kernel_rfl) rfl (fun w => rfl)) ?_
 exact JR 5 ()
theorem Fw{W:World}{m n:Nat}:Fn Tryz.prog W 290 [.float .f64 m,.float .f64 n] [] Unit (fun _=>.float .f64 (eF false .gt m n)) (fun _=>True) (fun _=>[]):=by
 refine Fn.intro (N:=11) func290 rfl ntmps290 rfl fun F=>?_
 show ax _ _ _ _ _ _ [F]
 refine J 6 ?_
 refine .hJ rfl ?_
 refine J 4 ?_
 refine .p (.ext (e := Extern.MathDim.pick "math.archMax" false .gt) func314 rfl rfl rfl (by kernel_rfl) rfl (fun w => rfl)) ?_
 exact JR 5 ()
theorem Bn{W:World}{n:Nat}{a b:Int}(ha:0≤a)(hb:0≤b):Fn Tryz.prog W 289 [.float .f64 n,.int .u64 a,.int .u64 b] [] Unit (fun _=>.int .u64 (if (mO a || mO b)=true then mS else fw (n:Int))) (fun _=>True) (fun _=>[]):=by
 refine Fn.intro (N:=17) func289 rfl ntmps289 rfl fun F=>?_
 show ax _ _ _ _ _ _ [F]
 refine J 9 ?_
 refine .c call286 rfl fF fun _ _=>?_
 refine .c call291 rfl ln fun _ _=>?_
 refine J 1 ?_
 apply aS.gC 4 14 10 [10,11,12,13,14] rfl
 ·intro h10
  refine J 1 ?_
  refine .cg call286 rfl fF fun _ _=>?_
  refine .cg call291 rfl ln fun _ _=>?_
  exact JS 2
 ·intro h10
  exact JS 5
 refine JD 2 (fun h14=>?_) fun h14=>?_
 ·rw[gu ha,gu hb] at h14
  refine J 7 ?_
  refine .aI rfl rfl fun w s=>⟨(),?_,trivial,aq .auto s⟩
  rw[if_pos h14];rfl
 ·rw[gu ha,gu hb] at h14
  refine J 5 ?_
  refine .c call287 rfl kD fun _ _=>?_
  refine J 4 ?_
  refine .aI rfl rfl fun w s=>⟨(),?_,trivial,aq .auto s⟩
  rw[if_neg (by rw[h14];simp)]
theorem HA{W:World}{a b:Int}(ha:0≤a)(hb:0≤b):Fn Tryz.prog W 251 [.int .u64 a,.int .u64 b] [] Unit (fun _=>.int .u64 (nW a b)) (fun _=>True) (fun _=>[]):=by
 refine Fn.intro (N:=13) func251 rfl ntmps251 rfl fun F=>?_
 show ax _ _ _ _ _ _ [F]
 refine J 8 ?_
 refine .c call286 rfl fF fun _ _=>?_
 refine J 1 ?_
 refine .c call286 rfl fF fun _ _=>?_
 refine .c call288 rfl Fv fun _ _=>?_
 refine J 2 ?_
 refine .c call289 rfl (Bn ha hb) fun _ _=>?_
 exact JR 4 ()
theorem HB{W:World}{a b:Int}(ha:0≤a)(hb:0≤b):Fn Tryz.prog W 252 [.int .u64 a,.int .u64 b] [] Unit (fun _=>.int .u64 (nX a b)) (fun _=>True) (fun _=>[]):=by
 refine Fn.intro (N:=13) func252 rfl ntmps252 rfl fun F=>?_
 show ax _ _ _ _ _ _ [F]
 refine J 8 ?_
 refine .c call286 rfl fF fun _ _=>?_
 refine J 1 ?_
 refine .c call286 rfl fF fun _ _=>?_
 refine .c call290 rfl Fw fun _ _=>?_
 refine J 2 ?_
 refine .c call289 rfl (Bn ha hb) fun _ _=>?_
 exact JR 4 ()
theorem Fx{W:World}{a b:Int}:Fn Tryz.prog W 253 [.int .u64 a,.int .u64 b] [] Unit (fun _=>.bool (DC a b)) (fun _=>True) (fun _=>[]):=by
 refine Fn.intro (N:=10) func253 rfl ntmps253 rfl fun F=>?_
 show ax _ _ _ _ _ _ [F]
 refine J 8 ?_
 refine .c call286 rfl fF fun _ _=>?_
 refine J 1 ?_
 refine .c call286 rfl fF fun _ _=>?_
 refine .p (.J9 rfl rfl) ?_
 exact JR 4 ()
theorem CF{W:World}{a:Int}(ha:0≤a):Fn Tryz.prog W 254 [.int .u64 a] [] Unit (fun _=>.int .u64 (eY a)) (fun _=>True) (fun _=>[]):=by
 refine Fn.intro (N:=18) func254 rfl ntmps254 rfl fun F=>?_
 show ax _ _ _ _ _ _ [F]
 refine J 8 ?_
 refine .c call286 rfl fF fun _ _=>?_
 refine J 7 ?_
 refine .c call291 rfl ln fun _ _=>?_
 refine JD 3 (fun h9=>?_) fun h9=>?_
 ·refine J 7 ?_
  refine .aI rfl rfl fun w s=>⟨(),?_,trivial,aq .auto s⟩
  rw[eY,if_pos (by rw[← gu ha];exact h9)]
 ·refine J 3 ?_
  refine .p (.La rfl rfl) ?_
  refine JD 3 (fun h12=>?_) fun h12=>?_
  ·have g12:(Ieee.double.order a.toNat nY == some .gt || Ieee.double.order a.toNat nY == some .eq)=true:=h12
   refine J 7 ?_
   refine .aI rfl rfl fun w s=>⟨(),?_,trivial,aq .auto s⟩
   rw[eY,if_neg (by rw[← gu ha,h9];simp),if_pos g12]
  ·have g12:(Ieee.double.order a.toNat nY == some .gt || Ieee.double.order a.toNat nY == some .eq)=false:=h12
   refine J 3 ?_
   refine .p (.J9 rfl rfl) ?_
   refine JD 3 (fun h15=>?_) fun h15=>?_
   ·have g15:(Ieee.double.order a.toNat nZ == some .lt)=true:=h15
    refine J 7 ?_
    refine .aI rfl rfl fun w s=>⟨(),?_,trivial,aq .auto s⟩
    rw[eY,if_neg (by rw[← gu ha,h9];simp),if_neg (by rw[g12];simp),if_pos g15]
   ·have g15:(Ieee.double.order a.toNat nZ == some .lt)=false:=h15
    refine J 3 ?_
    obtain⟨k,hk,hk1,hk2⟩:=BQ h9 g12 g15
    refine .p (.Iv (fun w=>BR hk hk1 hk2) rfl) ?_
    refine .p (.conv underlying2 underlying38 rfl) ?_
    refine J 5 ?_
    refine .aI rfl rfl fun w s=>⟨(),?_,trivial,aq .auto s⟩
    rw[eY,if_neg (by rw[← gu ha,h9];simp),if_neg (by rw[g12];simp),if_neg (by rw[g15];simp),hk];exact jt (DL k)
theorem yB{W:World}{a:Int}:Fn Tryz.prog W 255 [.int .u64 a] [] Unit (fun _=>.int .u64 (fc a)) (fun _=>True) (fun _=>[]):=by
 refine Fn.intro (N:=7) func255 rfl ntmps255 rfl fun F=>?_
 show ax _ _ _ _ _ _ [F]
 refine J 8 ?_
 refine .p (.conv underlying38 underlying2 rfl) ?_
 refine .p (.toFloat (fun w=>rfl) rfl) ?_
 refine .c call287 rfl kD fun _ _=>?_
 exact JR 4 ()
end Go.SLYtefdijgllbkmfaaGreat
namespace Go.SLYtefdijgllbkmfaaGreat
open Go Go.RowKit Go.Proofs Go.Proofs.Tryz
theorem zZ{W:World}{A:aa}{fv c1 c2 c3 c4 c5 c6 c7:Value}{fs:List (Value×List Ins)}{f:iD}{p:eB}(hr:Rd W [A] cj 1 fv fs)(hi:∀ x∈fs,Rd W [A] dC 5 x.1 x.2)(hp:fs.map (·.2)=p.funcs)(_hl:fs.length≤1000000)(_hl2:∀ x∈fs,x.2.length≤1000000):Fn Tryz.prog W 71 [.agg #[fv,c1,c2,c3,c4,c5,c6,c7],.agg (iI f).toArray] [A] Unit (fun _=>DM (eG p f)) (fun _=>True) (fun _=>[A]):=by
 refine Fn.intro (N:=45) func71 rfl ntmps71 rfl fun F=>?_
 haveI hRI:∀ (H:List aa) [cf H A],aJ W H fv cj 1 fs:=fun H h=>⟨hr.at h.has⟩
 show ax _ _ _ _ _ _ [A,F]
 obtain⟨x,hxd⟩:∃ x:Value×List Ins,fs.getD f.fn.toNat (.slice none 0 0,[])=x:=⟨_,rfl⟩
 have hx:f.fn.toNat<fs.length→fs[f.fn.toNat]?=some x:=fun h=>hxd ▸ getD_some h
 refine J 2 ?_
 refine .aw rfl (af.box rfl rfl rfl) ?_
 rintro _ _ ⟨b2,rfl,rfl⟩
 refine .mem (H':=[arr b2 0 [fv,c1,c2,c3,c4,c5,c6,c7],A,F]) (fun w s=>s) ?_
 refine .aw rfl (af.box rfl rfl rfl) ?_
 rintro _ _ ⟨b3,rfl,rfl⟩
 refine .mem (H':=[arr b3 0 (iI f),arr b2 0 [fv,c1,c2,c3,c4,c5,c6,c7],A,F]) (fun w s=>s) ?_
 refine .aw rfl (af.alloc rfl zeroValue131 rfl) ?_
 rintro _ _ ⟨b4,rfl,rfl⟩
 refine J 5 ?_
 refine .draw [] [1,1,1,1,1,1,1,1,1,1,1,1,1,1,1,1,1,1,1,1,1,1,1,1,1,1,1,1] rfl (by kernel_rfl) ?_
 refine J 4 ?_
 apply bo.fu 7 16 9 [9,10,11,12,13,14,15,16] rfl
 ·intro h9
  exact JS 8
 ·intro h9
  exact JS 8
 refine J 1 ?_
 apply bo.gC 4 21 17 [17,18,19,20,21] rfl
 ·intro h17
  exact JS 5
 ·intro h17
  exact JS 5
 refine J 1 ?_
 apply bo.gC 11 33 22 [22,23,24,25,26,27,28,29,30,31,32,33] rfl
 ·intro h22
  simp only[Bool.or_eq_false_iff,decide_eq_false_iff_not] at h22
  have hlt:f.fn.toNat<fs.length:=by omega
  have hix:=hi x (List.mem_of_getElem? (hx hlt))
  haveI hI4:∀ (H:List aa) [cf H A],aJ W H x.1 dC 5 x.2:=fun H h=>⟨hix.at h.has⟩
  refine J 6 ?_
  refine .g (.ix f.fn.toNat rfl rfl (by omega) hlt) ?_
  refine .g (.ld rfl (Cell.yQ Rd.s (hx hlt) (by rfl))) ?_
  exact JS 4
 ·intro h22
  exact JS 12
 refine JD 2 (fun h33=>?_) fun h33=>?_
 ·refine J 2 ?_
  refine .p (.tu ([(.int .i64 0),(.int .i64 0),(.int .i64 0),(.int .i64 0),(.int .u64 0)]) (by kernel_rfl)) ?_
  refine J 6 ?_
  refine .jU rfl rfl isAgg131 (by exact sizeOf131) Cells.a rfl fun w s=>⟨(),?_,trivial,aq .auto s⟩
  rw[Ge (z:=(.slice none 0 0,[])) hp (by rw[hxd];exact h33) rfl];rfl
 ·refine J 3 ?_
  refine .draw [] [1,1,1,1,1,1,1,1,1,1,3,1] rfl (by kernel_rfl) ?_
  simp only[Bool.or_eq_false_iff,decide_eq_false_iff_not] at h33
  have hlt:f.fn.toNat<fs.length:=by omega
  have hix:=hi x (List.mem_of_getElem? (hx hlt))
  haveI hI4:∀ (H:List aa) [cf H A],aJ W H x.1 dC 5 x.2:=fun H h=>⟨hix.at h.has⟩
  obtain⟨i,hin⟩:=aB (show f.pc.toNat<x.2.length by omega)
  refine J 4 ?_
  refine .p (.ix f.fn.toNat rfl rfl (by omega) hlt) ?_
  refine .p (.ld rfl (Cell.yQ Rd.s (hx hlt) (by rfl))) ?_
  refine J 2 ?_
  refine .p (.ix f.pc.toNat rfl rfl (by omega) (by omega)) ?_
  refine .p (.la rfl (Cells.rd Rd.s hin)) ?_
  refine .d3 rfl (af.tf (by exact sizeOf131) rfl rfl rfl (by rfl)) ?_
  rintro _ _ ⟨rfl,rfl⟩
  refine J 4 ?_
  refine .jU rfl rfl isAgg131 (by exact sizeOf131) Cells.a rfl fun w s=>⟨(),?_,trivial,aq .auto s⟩
  rw[DN hp (by omega) (by omega) (hx hlt) hin];rfl
theorem uY{W:World}{b:Bool}:Fn Tryz.prog W 246 [.bool b] [] Unit (fun _=>.int .u64 (rP b)) (fun _=>True) (fun _=>[]):=by
 refine Fn.intro (N:=4) func246 rfl ntmps246 rfl fun F=>?_
 show ax _ _ _ _ _ _ [F]
 refine JD 11 (fun h=>?_) fun h=>?_
 ·refine J 7 ?_
  refine .aI rfl rfl fun w s=>⟨(),?_,trivial,aq .auto s⟩
  subst h;rfl
 ·refine J 8 ?_
  refine .aI rfl rfl fun w s=>⟨(),?_,trivial,aq .auto s⟩
  subst h;rfl
theorem yC{W:World}{n:Int}:Fn Tryz.prog W 205 [.int .i64 n] [] Unit (fun _=>.bool (lL n)) (fun _=>True) (fun _=>[]):=by
 refine Fn.intro (N:=13) func205 rfl ntmps205 rfl fun F=>?_
 show ax _ _ _ _ _ _ [F]
 refine J 10 ?_
 apply aS.fu 3 8 5 [5,6,7,8] rfl
 ·intro h5
  exact JS 4
 ·intro h5
  exact JS 4
 refine J 1 ?_
 apply aS.gC 3 12 9 [9,10,11,12] rfl
 ·intro h9
  exact JS 4
 ·intro h9
  exact JS 4
 exact JR 4 ()
theorem yD{W:World}{op a b:Int}(ha:0≤a)(hb:0≤b):Fn Tryz.prog W 206 [.int .i64 op,.int .u64 a,.int .u64 b] [] Bool (fun t=>.tuple #[.int .u64 (aE op a b),.bool t]) (fun _=>True) (fun _=>[]):=by
 refine Fn.intro (N:=77) func206 rfl ntmps206 rfl fun F=>?_
 show ax _ _ _ _ _ _ [F]
 refine JD 19 (fun h9=>?_) fun h9=>?_
 ·refine J 10 ?_
  refine .ef rfl rfl rfl fun w s=>⟨true,?_,trivial,aq .auto s⟩
  rw[show aE op a b=a from by unfold aE;rw[if_pos h9]]
 ·refine JD 6 (fun h12=>?_) fun h12=>?_
  ·refine J 4 ?_
   refine .p (.yN rfl rfl) ?_
   refine J 7 ?_
   refine .ef rfl rfl rfl fun w s=>⟨true,?_,trivial,aq .auto s⟩
   rw[show aE op a b=gO (a+b) from by unfold aE;rw[if_neg h9,if_pos h12]]
   rfl
  ·refine JD 6 (fun h17=>?_) fun h17=>?_
   ·refine J 4 ?_
    refine .p (.FX rfl rfl) ?_
    refine J 7 ?_
    refine .ef rfl rfl rfl fun w s=>⟨true,?_,trivial,aq .auto s⟩
    rw[show aE op a b=gO (a-b) from by unfold aE;rw[if_neg h9,if_neg h12,if_pos h17]]
    rfl
   ·refine JD 6 (fun h22=>?_) fun h22=>?_
    ·refine J 4 ?_
     refine .p (.C3 rfl rfl) ?_
     refine J 7 ?_
     refine .ef rfl rfl rfl fun w s=>⟨true,?_,trivial,aq .auto s⟩
     rw[show aE op a b=gO (a * b) from by unfold aE;rw[if_neg h9,if_neg h12,if_neg h17,if_pos h22]]
     rfl
    ·refine JD 6 (fun h27=>?_) fun h27=>?_
     ·refine J 5 ?_
      refine .c call246 rfl uY fun _ _=>?_
      refine J 7 ?_
      refine .ef rfl rfl rfl fun w s=>⟨true,?_,trivial,aq .auto s⟩
      rw[show aE op a b=rP (decide (a<b)) from by unfold aE;rw[if_neg h9,if_neg h12,if_neg h17,if_neg h22,if_pos h27]]
     ·refine JD 6 (fun h33=>?_) fun h33=>?_
      ·refine J 4 ?_
       refine .c call247 rfl Hv fun _ _=>?_
       refine J 7 ?_
       refine .ef rfl rfl rfl fun w s=>⟨true,?_,trivial,aq .auto s⟩
       rw[show aE op a b=BK a b from by unfold aE;rw[if_neg h9,if_neg h12,if_neg h17,if_neg h22,if_neg h27,if_pos h33]]
      ·refine JD 6 (fun h38=>?_) fun h38=>?_
       ·refine J 4 ?_
        refine .c call248 rfl Hw fun _ _=>?_
        refine J 7 ?_
        refine .ef rfl rfl rfl fun w s=>⟨true,?_,trivial,aq .auto s⟩
        rw[show aE op a b=BL a b from by unfold aE;rw[if_neg h9,if_neg h12,if_neg h17,if_neg h22,if_neg h27,if_neg h33,if_pos h38]]
       ·refine JD 6 (fun h43=>?_) fun h43=>?_
        ·refine J 4 ?_
         refine .c call249 rfl Hy fun _ _=>?_
         refine J 7 ?_
         refine .ef rfl rfl rfl fun w s=>⟨true,?_,trivial,aq .auto s⟩
         rw[show aE op a b=BM a b from by unfold aE;rw[if_neg h9,if_neg h12,if_neg h17,if_neg h22,if_neg h27,if_neg h33,if_neg h38,if_pos h43]]
        ·refine JD 6 (fun h48=>?_) fun h48=>?_
         ·refine J 4 ?_
          refine .c call250 rfl Hz fun _ _=>?_
          refine J 7 ?_
          refine .ef rfl rfl rfl fun w s=>⟨true,?_,trivial,aq .auto s⟩
          rw[show aE op a b=BN a b from by unfold aE;rw[if_neg h9,if_neg h12,if_neg h17,if_neg h22,if_neg h27,if_neg h33,if_neg h38,if_neg h43,if_pos h48]]
         ·refine JD 6 (fun h53=>?_) fun h53=>?_
          ·refine J 4 ?_
           refine .c call251 rfl (HA ha hb) fun _ _=>?_
           refine J 7 ?_
           refine .ef rfl rfl rfl fun w s=>⟨true,?_,trivial,aq .auto s⟩
           rw[show aE op a b=nW a b from by unfold aE;rw[if_neg h9,if_neg h12,if_neg h17,if_neg h22,if_neg h27,if_neg h33,if_neg h38,if_neg h43,if_neg h48,if_pos h53]]
          ·refine JD 6 (fun h58=>?_) fun h58=>?_
           ·refine J 4 ?_
            refine .c call252 rfl (HB ha hb) fun _ _=>?_
            refine J 7 ?_
            refine .ef rfl rfl rfl fun w s=>⟨true,?_,trivial,aq .auto s⟩
            rw[show aE op a b=nX a b from by unfold aE;rw[if_neg h9,if_neg h12,if_neg h17,if_neg h22,if_neg h27,if_neg h33,if_neg h38,if_neg h43,if_neg h48,if_neg h53,if_pos h58]]
           ·refine JD 6 (fun h63=>?_) fun h63=>?_
            ·refine J 4 ?_
             refine .c call253 rfl Fx fun _ _=>?_
             refine .c call246 rfl uY fun _ _=>?_
             refine J 7 ?_
             refine .ef rfl rfl rfl fun w s=>⟨true,?_,trivial,aq .auto s⟩
             rw[show aE op a b=rP (DC a b) from by unfold aE;rw[if_neg h9,if_neg h12,if_neg h17,if_neg h22,if_neg h27,if_neg h33,if_neg h38,if_neg h43,if_neg h48,if_neg h53,if_neg h58,if_pos h63]]
            ·refine JD 6 (fun h69=>?_) fun h69=>?_
             ·refine J 3 ?_
              refine .c call254 rfl (CF ha) fun _ _=>?_
              refine J 7 ?_
              refine .ef rfl rfl rfl fun w s=>⟨true,?_,trivial,aq .auto s⟩
              rw[show aE op a b=eY a from by unfold aE;rw[if_neg h9,if_neg h12,if_neg h17,if_neg h22,if_neg h27,if_neg h33,if_neg h38,if_neg h43,if_neg h48,if_neg h53,if_neg h58,if_neg h63,if_pos h69]]
             ·refine JD 6 (fun h73=>?_) fun h73=>?_
              ·refine J 3 ?_
               refine .c call255 rfl yB fun _ _=>?_
               refine J 7 ?_
               refine .ef rfl rfl rfl fun w s=>⟨true,?_,trivial,aq .auto s⟩
               rw[show aE op a b=fc a from by unfold aE;rw[if_neg h9,if_neg h12,if_neg h17,if_neg h22,if_neg h27,if_neg h33,if_neg h38,if_neg h43,if_neg h48,if_neg h53,if_neg h58,if_neg h63,if_neg h69,if_pos h73]]
              ·refine J 10 ?_
               refine .ef rfl rfl rfl fun w s=>⟨false,?_,trivial,aq .auto s⟩
               rw[show aE op a b=0 from by unfold aE;rw[if_neg h9,if_neg h12,if_neg h17,if_neg h22,if_neg h27,if_neg h33,if_neg h38,if_neg h43,if_neg h48,if_neg h53,if_neg h58,if_neg h63,if_neg h69,if_neg h73]]
theorem fO{W:World}{b:Nat}{n:Int}(hn:0≤n∧n<8):Fn Tryz.prog W 203 [ptr b,.int .i64 n] [] Unit (fun _=>.pointer (some ⟨b,2+n.toNat,none⟩)) (fun _=>True) (fun _=>[]):=by
 refine Fn.intro (N:=19) func203 rfl ntmps203 rfl fun F=>?_
 show ax _ _ _ _ _ _ [F]
 refine J 11 ?_
 apply aS.fu 3 10 7 [7,8,9,10] rfl
 ·intro h7
  exact JS 4
 ·intro h7
  exact JS 4
 refine JD 2 (fun h10=>?_) fun h10=>?_
 ·simp only[Bool.or_eq_true,decide_eq_true_eq] at h10
  exact absurd h10 (by omega)
 ·simp only[Bool.or_eq_false_iff,decide_eq_false_iff_not] at h10
  refine J 9 ?_
  refine .p (.aF n.toNat underlying39 sizeOf38 rfl rfl (by omega) (by omega)) ?_
  refine J 4 ?_
  refine .aI rfl rfl fun w s=>⟨(),?_,trivial,aq .auto s⟩
  rw[Nat.mul_one]
theorem nB{W:World}{b:Nat}{f:iD}{v:Value}{m:List Int}{at_:Int}(h0:0≤at_)(hl:m.length≤1000000):BO Tryz.prog W 204 [ptr b,.int .u64 at_] [arr b 0 (tQ f v),sl cM 1 v m] Unit (fun _=>if at_<m.length then .returned (.pointer (some ⟨blk v,cB v+at_.toNat * 1,none⟩)) else .panicked (tR 260 6)) (fun _=>True) (fun _=>[arr b 0 (tQ f v),sl cM 1 v m]):=by
 refine BO.intro (N:=21) func204 rfl ntmps204 rfl fun F=>?_
 show ax _ _ _ _ _ _ [arr b 0 (tQ f v),sl cM 1 v m,F]
 refine J 14 ?_
 refine .p (.fY underlying3 underlying38 rfl (by omega)) ?_
 refine JD 3 (fun h12=>?_) fun h12=>?_
 ·refine J 1 ?_
  refine .p (.iv (fun v1=>[v1]) rfl (by kernel_rfl)) ?_
  refine .p (.Ga underlying260 rfl rfl) ?_
  refine .panic rfl ?_
  refine fun a w ha s=>And.intro ha.defers (Exists.intro () (And.intro ?_ (And.intro trivial (aq .auto s))))
  rw[if_neg (by omega)];rfl
 ·refine J 9 ?_
  refine .p (.ix at_.toNat rfl rfl (by omega) (by omega)) ?_
  refine J 4 ?_
  refine .aI rfl rfl fun w s=>⟨(),?_,trivial,aq .auto s⟩
  rw[if_pos (by omega)]
end Go.SLYtefdijgllbkmfaaGreat
namespace Go.SLYtefdijgllbkmfaaGreat
open Go Go.RowKit Go.Proofs Go.Proofs.Tryz
theorem Fy{W:World}{b:Nat}{f:iD}{v:Value}{m:List Int}{i:Ins}(hI:ja i)(hF:Av f)(hl:m.length≤1000000):BO Tryz.prog W 161 [ptr b,.agg (dC i).toArray] [arr b 0 (tQ f v),sl cM 1 v m] Unit (fun _=>doEnd 260 (gX f m i)) (fun _=>True) (fun _=>Lc b v (gX f m i)):=by
 refine BO.intro (N:=127) func161 rfl ntmps161 rfl fun F=>?_
 show ax _ _ _ _ _ _ [arr b 0 (tQ f v),sl cM 1 v m,F]
 have hia:=hI.a
 have hib:=hI.b
 have hic:=hI.c
 have hin:=hI.n
 have hpc:=hF.pc
 refine J 2 ?_
 refine .aw rfl (af.box rfl rfl rfl) ?_
 rintro _ _ ⟨b3,rfl,rfl⟩
 refine .mem (H':=[arr b3 0 (dC i),arr b 0 (tQ f v),sl cM 1 v m,F]) (fun w s=>s) ?_
 refine J 9 ?_
 refine .p (.add rfl rfl (by omega)) ?_
 refine J 3 ?_
 refine .mX (X:=List Int×Int×List Int) [4,5,6,7,8,9,10,11,18,19,20,21,22,23,24,25,26,27,28,29,30,31,32,33,34,35,36,37,38,39,40,41,42,43,44,45,46,47,48,49,50,51,52,53,54,55,56,57,58,59,60,61,62,63,64,65,66,67,68,69,70,71,72,73,74,75,76,77,78,79,80,81,82,83,84,85,86,87,88,89,90,91,92,93,94,95,96,97,98,99,100,101,102,103,104,105,106,107,108,109,110,111,112,113,114,115,116,117,118,119,120,121] (fun z=>gX f m i=some (⟨f.fn,z.2.1,z.1⟩,z.2.2)) (fun z=>[(4,some (.int .i64 z.2.1))]) (fun z=>[arr b 0 (tQ ⟨f.fn,f.pc,z.1⟩ v),sl cM 1 v z.2.2,F]) ?_ ?_
 ·refine JD 9 (fun h48=>?_) fun h48=>?_
  ·refine J 3 ?_
   refine .p (.gp underlying38 underlying3 rfl (by have:=hI.j (.inl h48);omega)) ?_
   refine J 3 ?_
   refine .eK (f.av,i.n,m) .auto ?_ ?_ ?_
   ·unfold gX;rw[if_pos h48]
   ·exact⟨rfl,trivial⟩
   ·exact fun w s=>aK.kept .auto w s
  ·refine JD 8 (fun h55=>?_) fun h55=>?_
   ·refine J 5 ?_
    refine .c call203 rfl (fO hI.a) fun _ _=>?_
    refine J 1 ?_
    refine .p (.ld rfl (Cell.a (lO (by omega)))) ?_
    refine JD 3 (fun h65=>?_) fun h65=>?_
    ·refine J 3 ?_
     refine .p (.gp underlying38 underlying3 rfl (by have:=hI.j (.inr h55);omega)) ?_
     refine J 3 ?_
     refine .eK (f.av,i.n,m) .auto ?_ ?_ ?_
     ·unfold gX;rw[if_neg h48,if_pos h55,if_pos (show f.eW i.a=0 from h65)]
     ·exact⟨rfl,trivial⟩
     ·exact fun w s=>aK.kept .auto w s
    ·refine J 2 ?_
     refine .eK (f.av,f.pc+1,m) .auto ?_ ?_ ?_
     ·unfold gX;rw[if_neg h48,if_pos h55,if_neg (show ¬f.eW i.a=0 from h65)]
     ·exact⟨rfl,trivial⟩
     ·exact fun w s=>aK.kept .auto w s
   ·refine JD 8 (fun h69=>?_) fun h69=>?_
    ·refine .draw [arr b3 0 (dC i)] [1,1,1,2,0,0,1,3] rfl (by kernel_rfl) ?_
     refine J 3 ?_
     refine .c2 call203 rfl (fO hI.a) fun _ _=>?_
     refine J 3 ?_
     refine .d3 rfl (af.st sizeOf38 rfl rfl rfl (Nat.blt_eq.mpr (by show 2+i.a.toNat<11;omega))) ?_
     rintro _ _ ⟨rfl,rfl⟩
     rw[zg _ (show i.a.toNat<8 by omega) hF.l]
     refine J 2 ?_
     refine .eK (f.av.set i.a.toNat i.n,f.pc+1,m) .auto ?_ ?_ ?_
     ·unfold gX;rw[if_neg h48,if_neg h55,if_pos h69];rfl
     ·exact⟨rfl,trivial⟩
     ·exact fun w s=>aK.kept .auto w s
    ·refine JD 8 (fun h80=>?_) fun h80=>?_
     ·refine J 1 ?_
      refine .draw [arr b3 0 (dC i)] [1,1,1,2,0,0,0,3,1,1] rfl (by kernel_rfl) ?_
      refine J 3 ?_
      refine .c2 call203 rfl (fO hI.a) fun _ _=>?_
      refine J 3 ?_
      refine .c call203 rfl (fO hI.b) fun _ _=>?_
      refine J 9 ?_
      refine .p (.ld rfl (Cell.a (lO (by omega)))) ?_
      refine .J5 rfl call204 rfl (nB (f:=f) (m:=m) (at_:=f.av.getD i.b.toNat 0) (hF.r _).1 hl) .auto (fun _ h=>by split at h <;> cases h) ?_ ?_
      ·rintro⟨⟩ u e -
       have hlt:f.av.getD i.b.toNat 0<m.length:=Decidable.byContradiction fun hn=>by
        rw[if_neg hn] at e
        cases e
       rw[if_pos hlt] at e
       cases e
       have h0:=(hF.r i.b.toNat).1
       refine J 1 ?_
       refine .p (.ld rfl (Cell.yQ Rd.s (getD_some (d:=(0:Int)) (show(f.av.getD i.b.toNat 0).toNat<m.length by omega)) (by rfl))) ?_
       refine J 1 ?_
       refine .aw rfl (af.st sizeOf38 rfl rfl rfl (Nat.blt_eq.mpr (by show 2+i.a.toNat<11;omega))) ?_
       rintro _ _ ⟨rfl,rfl⟩
       rw[zg _ (show i.a.toNat<8 by omega) hF.l]
       refine J 2 ?_
       refine .eK (f.av.set i.a.toNat (m.getD (f.av.getD i.b.toNat 0).toNat 0),f.pc+1,m) .auto ?_ ?_ ?_
       ·unfold gX;rw[if_neg h48,if_neg h55,if_neg h69,if_pos h80,if_pos (show f.eW i.b<m.length from hlt)];rfl
       ·exact⟨rfl,trivial⟩
       ·exact fun w s=>aK.kept .auto w s
      ·rintro⟨⟩ c e -
       have hge:¬f.av.getD i.b.toNat 0<m.length:=fun h=>by
        rw[if_pos h] at e
        cases e
       rw[if_neg hge] at e
       cases e
       have hz:gX f m i=none:=by
        unfold gX;rw[if_neg h48,if_neg h55,if_neg h69,if_pos h80,if_neg (show ¬f.eW i.b<m.length from hge)]
       rw[hz]
       refine fun a w ha s=>And.intro ha.defers (Exists.intro () (And.intro ?_ (And.intro trivial (aq .auto s))))
       rfl
     ·refine JD 8 (fun h101=>?_) fun h101=>?_
      ·refine J 1 ?_
       refine .draw [arr b3 0 (dC i)] [1,1,1,2,0,0,0,3,1,1] rfl (by kernel_rfl) ?_
       refine J 3 ?_
       refine .c2 call203 rfl (fO hI.a) fun _ _=>?_
       refine J 3 ?_
       refine .c call203 rfl (fO hI.b) fun _ _=>?_
       refine J 4 ?_
       rcases Nat.lt_or_ge (f.av.getD i.a.toNat 0).toNat m.length with hlt | hge
       ·have h0:=(hF.r i.a.toNat).1
        refine .draw [arr b 0 (tQ f v)] [1,1,1,1,2,0,0,0,1,3] rfl (by kernel_rfl) ?_
        refine J 3 ?_
        refine .p (.ld rfl (Cell.a (lO (by omega)))) ?_
        refine .c2 call204 rfl (BO.ok (fun _=>.pointer (some ⟨blk v,cB v+(f.av.getD i.a.toNat 0).toNat * 1,none⟩)) (nB (f:=f) (m:=m) (at_:=f.av.getD i.a.toNat 0) (hF.r _).1 hl) (fun _=>if_pos (by omega))) fun _ _=>?_
        refine J 2 ?_
        refine .q (.ld rfl (Cell.a (lO (by omega)))) ?_
        refine J 1 ?_
        refine .d3 rfl (af.gE (x':=f.av.getD i.b.toNat 0) rfl rfl sizeOf38 rfl (getD_some (d:=(0:Int)) hlt) (by decide) rfl .auto) ?_
        rintro _ _ ⟨rfl,rfl⟩
        refine J 2 ?_
        refine .eK (f.av,f.pc+1,m.set (f.av.getD i.a.toNat 0).toNat (f.av.getD i.b.toNat 0)) .auto ?_ ?_ ?_
        ·unfold gX;rw[if_neg h48,if_neg h55,if_neg h69,if_neg h80,if_pos h101,if_pos (show f.eW i.a<m.length by show f.av.getD i.a.toNat 0<_;omega)];rfl
        ·exact⟨rfl,trivial⟩
        ·exact fun w s=>aK.kept .auto w s
       ·have h0:=(hF.r i.a.toNat).1
        refine .held [arr b 0 (tQ f v)] rfl ?_
        refine Ar.take 0 rfl (by kernel_rfl) (by kernel_rfl) (by kernel_rfl) (fun _ _ _ _ _ h=>h) rfl Kept.auto (Y.m rfl) ?_
        refine Ar.take 1 rfl (by kernel_rfl) (by kernel_rfl) (by kernel_rfl) (fun _ _ _ _ _ h=>h) rfl Kept.auto (Y.m rfl) ?_
        refine Ar.take 2 rfl (by kernel_rfl) (by kernel_rfl) (by kernel_rfl) (fun _ _ _ _ _ h=>h) rfl Kept.auto (Y.n rfl) ?_
        refine Ar.take 3 rfl (by kernel_rfl) (by kernel_rfl) (by kernel_rfl) (fun _ _ _ _ _ h=>h) rfl Kept.auto (Y.load isAgg38 rfl (Cell.a (lO (by omega)))) ?_
        refine Ar.take 5 rfl (by kernel_rfl) (by kernel_rfl) (by kernel_rfl) (fun _ _ _ _ _ h=>h) rfl Kept.auto (Y.m rfl) ?_
        refine Ar.take 6 rfl (by kernel_rfl) (by kernel_rfl) (by kernel_rfl) (fun _ _ _ _ _ h=>h) rfl Kept.auto (Y.n rfl) ?_
        refine Ar.take 7 rfl (by kernel_rfl) (by kernel_rfl) (by kernel_rfl) (fun _ _ _ _ _ h=>h) rfl Kept.auto (Y.load isAgg38 rfl (Cell.a (lO (by omega)))) ?_
        refine Ar.J8 4 rfl (by kernel_rfl) call204 rfl (nB (f:=f) (m:=m) (at_:=f.av.getD i.a.toNat 0) (hF.r _).1 hl) .auto ?_ ?_
        ·exact fun _=>⟨_,if_neg (by omega)⟩
        rintro⟨⟩ c e -
        rw[if_neg (by omega)] at e
        cases e
        have hz:gX f m i=none:=by
         unfold gX;rw[if_neg h48,if_neg h55,if_neg h69,if_neg h80,if_pos h101,if_neg (show ¬f.eW i.a<m.length by show ¬f.av.getD i.a.toNat 0<_;omega)]
        rw[hz]
        refine fun a w ha s=>And.intro ha.defers (Exists.intro () (And.intro ?_ (And.intro trivial (aq .auto s))))
        rfl
      ·refine J 1 ?_
       refine .draw [arr b3 0 (dC i),arr b 0 (tQ f v)] [1,1,1,2,0,0,0,3,1,1,1,1,1] rfl (by kernel_rfl) ?_
       refine J 3 ?_
       refine .c2 call203 rfl (fO hI.a) fun _ _=>?_
       refine J 3 ?_
       refine .c call203 rfl (fO hI.b) fun _ _=>?_
       refine J 1 ?_
       refine .p (.ld rfl (Cell.a (lO (by omega)))) ?_
       refine J 5 ?_
       refine .mX (X:=Unit) [11,28,29,30,31,32,33,34,35,36,37] (fun _=>True) (fun _=>[(11,some (.int .u64 (if lL i.op=true then 0 else f.eW i.c)))]) (fun _=>[arr b3 0 (dC i),arr b 0 (tQ f v),sl cM 1 v m,F]) ?_ ?_
       ·refine J 4 ?_
        refine .c call205 rfl yC fun _ _=>?_
        refine JD 3 (fun h31=>?_) fun h31=>?_
        ·refine J 4 ?_
         refine .c call203 rfl (fO hI.c) fun _ _=>?_
         refine J 1 ?_
         refine .p (.ld rfl (Cell.a (lO (by omega)))) ?_
         refine J 2 ?_
         refine .eK () .auto ?_ ?_ ?_
         ·trivial
         ·rw[if_neg (show ¬lL i.op=true by rw[Bool.not_eq_true'] at h31;rw[h31];simp)];exact⟨rfl,trivial⟩
         ·exact fun w s=>aK.kept .auto w s
        ·refine J 1 ?_
         refine .eK () .auto ?_ ?_ ?_
         ·trivial
         ·rw[if_pos (show lL i.op=true by simpa using h31)];exact⟨rfl,trivial⟩
         ·exact fun w s=>aK.kept .auto w s
       ·rintro⟨⟩ -
        obtain⟨y,hy⟩:∃ y,y=(if lL i.op=true then 0 else f.eW i.c):=⟨_,rfl⟩
        have hy0:0≤y:=by
         subst hy
         split
         ·exact Int.le_refl _
         ·exact(hF.r _).1
        rw[← hy]
        refine J 6 ?_
        refine .c call206 rfl (yD (hF.r _).1 hy0) fun t38 _=>?_
        refine J 1 ?_
        refine .p (.extract (v:=.int .u64 (aE i.op (f.av.getD i.b.toNat 0) y)) rfl rfl) ?_
        refine J 2 ?_
        refine .aw rfl (af.st sizeOf38 rfl rfl rfl (Nat.blt_eq.mpr (by show 2+i.a.toNat<11;omega))) ?_
        rintro _ _ ⟨rfl,rfl⟩
        rw[zg _ (show i.a.toNat<8 by omega) hF.l]
        refine J 2 ?_
        refine .eK (f.av.set i.a.toNat (aE i.op (f.av.getD i.b.toNat 0) y),f.pc+1,m) .auto ?_ ?_ ?_
        ·unfold gX;rw[if_neg h48,if_neg h55,if_neg h69,if_neg h80,if_neg h101];subst hy;rfl
        ·exact⟨rfl,trivial⟩
        ·exact fun w s=>aK.kept .auto w s
 ·rintro⟨rs,nx,m2⟩ hz
  simp only at hz
  refine J 8 ?_
  rw[hz]
  exact JR 0 ()
theorem CG{W:World}{p6 p7 p8:Nat}{Hs:List aa}{w:World}(hs:Sat W w (seps Hs)):CallsD Tryz.prog 160 #[ptr p6,ptr p7,ptr p8] .returning w (fun e u2 w2=>u2 = .returning∧e = .returned (.tuple #[])∧Sat W w2 (seps Hs)):=by
 refine lP (d:=6) (N:=15) (v:=.nilIface) (u2:=.returning) (args:=[ptr p6,ptr p7,ptr p8]) func160 rfl ntmps160 rfl rfl rfl (fun c cs hc=>.inr ⟨by simp[recoverD,hc],rfl,rfl⟩) hs ?_
 refine J 3 ?_
 refine .p (.Ka underlying20 rfl) ?_
 refine J 2 ?_
 refine .hJ rfl ?_
 refine J 4 ?_
 refine .Kc fun w s=>⟨rfl,rfl,?_⟩
 first | exact s | exact aK.kept .auto _ s
theorem CH{W:World}{p6 p7 p8:Nat}{F:aa}{w:World}(hs:Sat W w (seps [arr p6 0 (iI iD.z),arr p7 0 [.slice none 0 0],arr p8 0 [.int .i64 0],F])):CallsD Tryz.prog 160 #[ptr p6,ptr p7,ptr p8] (.panicking (tR 260 6)) w (fun e u2 w2=>u2 = .panicking [{v:=.iface 260 (.agg #[.int .i64 6]),recovered:=true }]∧e = .returned (.tuple #[])∧Sat W w2 (seps [arr p6 0 (iI iD.z),arr p7 0 [.slice none 0 0],arr p8 0 [.int .i64 6],F])):=by
 refine lP (d:=6) (N:=15) (v:=.iface 260 (.agg #[.int .i64 6])) (u2:=.panicking [{v:=.iface 260 (.agg #[.int .i64 6]),recovered:=true }]) (args:=[ptr p6,ptr p7,ptr p8]) func160 rfl ntmps160 rfl rfl rfl (fun c cs hc=>.inl (by simp[recoverD,hc,tR])) hs ?_
 refine J 3 ?_
 refine .p (.Kb underlying20 rfl) ?_
 refine J 2 ?_
 refine .nE rfl ?_
 refine J 2 ?_
 refine .p (.Gg (r:=.tuple #[.agg #[.int .i64 6],.bool true]) rfl (fun w=>by simp[Instr.typeAssert,run_underlying underlying260])) ?_
 refine .p (.extract (v:=.bool true) rfl rfl) ?_
 refine .p (.extract (v:=.agg #[.int .i64 6]) rfl rfl) ?_
 refine J 2 ?_
 refine .hJ rfl ?_
 refine J 2 ?_
 refine .aw rfl (af.alloc rfl zeroValue260 rfl) ?_
 rintro _ _ ⟨b4,rfl,rfl⟩
 refine J 3 ?_
 refine .draw [arr b4 0 [.int .i64 6]] [1,0,0,2,2,3] rfl (by kernel_rfl) ?_
 refine .p (.tu ([(.int .i64 0),(.int .i64 0),(.int .u64 0),(.int .u64 0),(.int .u64 0),(.int .u64 0),(.int .u64 0),(.int .u64 0),(.int .u64 0),(.int .u64 0)]) (by kernel_rfl)) ?_
 refine J 2 ?_
 refine .d2 rfl Kept.auto (af.tf (by exact sizeOf145) rfl rfl rfl (by rfl)) (by rintro _ _ ⟨rfl,rfl⟩;exact Kept.auto) ?_
 rintro _ _ ⟨rfl,rfl⟩
 refine J 4 ?_
 refine .Kc fun w s=>⟨rfl,rfl,?_⟩
 first | exact s | exact aK.kept .auto _ s
theorem z6{W:World}{p6 p7 p8:Nat}{R:List aa}{w:World}(hs:Sat W w (seps ([arr p6 0 (iI iD.z),arr p7 0 [.slice none 0 0],arr p8 0 [.int .i64 0]]++R))):CallsD Tryz.prog 160 #[ptr p6,ptr p7,ptr p8] (.panicking (tR 260 6)) w (fun e u2 w2=>u2 = .panicking [{v:=.iface 260 (.agg #[.int .i64 6]),recovered:=true }]∧e = .returned (.tuple #[])∧Sat W w2 (seps ([arr p6 0 (iI iD.z),arr p7 0 [.slice none 0 0],arr p8 0 [.int .i64 6]]++R))) :=
 (CH (F:=seps R) (hs.eq (by rw[ah];simp only[seps,aO,aM]))).mono fun _ _ _ ⟨a,b,c⟩=>⟨a,b,c.eq (by rw[ah];simp only[seps,aO,aM])⟩
theorem yE{W:World}{A:aa}{f:iD}{i:Ins}{v:Value}{m:List Int}(hr:Rd W [A] cM 1 v m)(hl:m.length≤1000000)(hI:ja i)(hF:Av f)(hc:cls i.op=1):Fn Tryz.prog W 115 [.agg (iI f).toArray,.agg (dC i).toArray,v] [A] Value (fun u=>.tuple #[.agg (iI (fV f m i).1).toArray,u,.int .i64 (fV f m i).2.2]) (fun _=>True) (fun u=>[sl cM 1 u (fV f m i).2.1,A]):=by
 refine Fn.IC (N:=39) func115 rfl ntmps115 rfl fun F=>?_
 haveI hRI:∀ (H:List aa) [cf H A],aJ W H v cM 1 m:=fun H h=>⟨hr.at h.has⟩
 show ax _ _ _ _ _ _ [A,F]
 refine J 2 ?_
 refine .aw rfl (af.box rfl rfl rfl) ?_
 rintro _ _ ⟨b3,rfl,rfl⟩
 refine .mem (H':=[arr b3 0 (iI f),A,F]) (fun w s=>s) ?_
 refine .aw rfl (af.box rfl rfl rfl) ?_
 rintro _ _ ⟨b4,rfl,rfl⟩
 refine .mem (H':=[arr b4 0 (dC i),arr b3 0 (iI f),A,F]) (fun w s=>s) ?_
 refine .aw rfl (af.alloc rfl zeroValue145 rfl) ?_
 rintro _ _ ⟨b6,rfl,rfl⟩
 refine .aw rfl (af.alloc rfl zeroValue55 rfl) ?_
 rintro _ _ ⟨b7,rfl,rfl⟩
 refine .aw rfl (af.alloc rfl zeroValue28 rfl) ?_
 rintro _ _ ⟨b8,rfl,rfl⟩
 refine J 7 ?_
 refine .c call72 rfl nv fun _ _=>?_
 refine JD 3 (fun h13=>?_) fun h13=>?_
 ·exact absurd hc h13
 ·refine J 4 ?_
  refine .p (.makeFunc rfl rfl) ?_
  refine .Is rfl ?_
  refine fI.nil ?_
  refine rT.ic ?_
  refine kP.seq ?_
  refine kP.draw [arr b3 0 (iI f),A] [0,1,1,2,1,3,1] rfl (by kernel_rfl) ?_
  refine fy.k rfl Kept.auto (Y.FP isAgg145 rfl Cells.a (by exact sizeOf145)) ?_
  refine fy.s rfl (Y.m rfl) ?_
  refine fy.s rfl (Y.Db underlying55 rfl Rd.s) ?_
  refine fy.d2 rfl Kept.auto (af.Ip (enc:=cM) (k:=1) 0 m.length rfl underlying55 typeInfo38 rfl rfl rfl rfl (by decide) (by decide) rfl rfl rfl rfl (by omega)) (by rintro _ _ ⟨b19,rfl,rfl⟩;exact Kept.auto) ?_
  rintro _ _ ⟨b19,rfl,rfl⟩
  refine fy.s rfl (Y.gB (fun _ v2=>tQ f v2) rfl rfl (by kernel_rfl)) ?_
  refine fy.d3 rfl (af.box rfl rfl rfl) ?_
  rintro _ _ ⟨b21,rfl,rfl⟩
  refine fy.s rfl (Y.a rfl) ?_
  refine fy.nil ?_
  refine rT.ic ?_
  refine kP.seq ?_
  refine kP.region ?_
  refine fI.y rfl (Y.m rfl) ?_
  refine fI.y rfl (Y.n rfl) ?_
  refine fI.y rfl (Y.cY 10 55 underlying263 rfl sizeOf55 rfl) ?_
  refine fI.y rfl (Y.load isAgg55 rfl (Cell.a (by rfl))) ?_
  refine fI.y rfl (Y.m rfl) ?_
  refine fI.aw rfl (af.Gh rfl underlying55 sizeOf38 rfl rfl Rd.s .auto (by simp) rfl (rI _)) ?_
  rintro _ _ ⟨rfl,rfl⟩
  refine fI.nil ?_
  refine rT.ic ?_
  refine kP.seq ?_
  refine kP.region ?_
  refine fI.y rfl (Y.m rfl) ?_
  refine fI.y rfl (Y.FP isAgg131 rfl Cells.a (by exact sizeOf131)) ?_
  refine fI.It (fun d h=>by cases h;rfl) call161 rfl (Fy (f:=f) (v:=.slice (some ⟨b19,0,none⟩) m.length m.length) (m:=m) (i:=i) hI hF hl) .auto (fun _ h=>by unfold doEnd at h;split at h <;> cases h) ?_ ?_
  ·rintro⟨⟩ u e -
   obtain⟨z,hz⟩:∃ z,gX f m i=some z:=by
    cases h:gX f m i with
    | none=>rw[h] at e;cases e
    | some z=>exact⟨z,rfl⟩
   rw[hz] at e
   cases e
   rw[show Lc b21 (.slice (some ⟨b19,0,none⟩) m.length m.length) (gX f m i)=[arr b21 0 (tQ z.1 (.slice (some ⟨b19,0,none⟩) m.length m.length)),sl cM 1 (.slice (some ⟨b19,0,none⟩) m.length m.length) z.2] from by rw[hz];rfl]
   refine fI.nil ?_
   refine rT.ic ?_
   refine kP.seq ?_
   refine kP.draw [arr b21 0 (tQ z.1 (.slice (some ⟨b19,0,none⟩) m.length m.length))] [1,1,1,1,0,0,0,0,2,3,3] rfl (by kernel_rfl) ?_
   refine fy.s rfl (Y.m rfl) ?_
   refine fy.s rfl (Y.n rfl) ?_
   refine fy.s rfl (Y.iT 145 underlying263 rfl sizeOf145 rfl) ?_
   refine fy.s rfl (Y.FP isAgg145 rfl (Cells.lG (ds:=iI z.1) Cells.a rfl) (by exact sizeOf145)) ?_
   refine fy.k rfl Kept.auto (Y.m rfl) ?_
   refine fy.k rfl Kept.auto (Y.n rfl) ?_
   refine fy.k rfl Kept.auto (Y.cY 10 55 underlying263 rfl sizeOf55 rfl) ?_
   refine fy.k rfl Kept.auto (Y.load isAgg55 rfl (Cell.a (by rfl))) ?_
   refine fy.d2 rfl Kept.auto (af.tf (by exact sizeOf145) rfl rfl rfl (by rfl)) (by rintro _ _ ⟨rfl,rfl⟩;exact Kept.auto) ?_
   rintro _ _ ⟨rfl,rfl⟩
   refine fy.d3 rfl (af.pn sizeOf55 rfl rfl rfl) ?_
   rintro _ _ ⟨rfl,rfl⟩
   refine fy.d3 rfl (af.st sizeOf28 rfl rfl rfl rfl) ?_
   rintro _ _ ⟨rfl,rfl⟩
   refine fy.nil ?_
   refine rT.ic ?_
   refine kP.ret ?_
   refine fun a w ha s=>?_
   show Leaves Tryz.prog Tryz.f115 a.tmps _ a.defers .returning w
   rw[ha.defers]
   refine leaves_cons (by intro h;cases h) (by simp[invoke,call160]) ((CG (p6:=b6) (p7:=b7) (p8:=b8) s).mono ?_)
   rintro e2 u2 w2 ⟨rfl,rfl,s2⟩
   exact⟨_,(tS ha s2 rfl rfl rfl rfl isAgg145 (by exact sizeOf145) isAgg55 isAgg28 Cells.a (Cell.a rfl) (Cell.a rfl)),.slice (some ⟨b19,0,none⟩) m.length m.length,by rw[fV,hz],trivial,by rw[fV,hz];exact aq .auto s2⟩
  ·rintro⟨⟩ c e -
   have hz:gX f m i=none:=by
    cases h:gX f m i with
    | none=>rfl
    | some z=>rw[h] at e;cases e
   rw[hz] at e
   cases e
   rw[show Lc b21 (.slice (some ⟨b19,0,none⟩) m.length m.length) (gX f m i)=[] from by rw[hz];rfl]
   refine fun a w ha s=>?_
   show Leaves Tryz.prog Tryz.f115 a.tmps _ a.defers (.panicking (tR 260 6)) w
   rw[ha.defers]
   have s1:=aK.sat (As:=[arr b6 0 (iI iD.z),arr b7 0 [.slice none 0 0],arr b8 0 [.int .i64 0]]) .auto s
   refine leaves_cons (by intro h;cases h) (by simp[invoke,call160]) ((z6 (p6:=b6) (p7:=b7) (p8:=b8) s1).mono ?_)
   rintro e2 u2 w2 ⟨rfl,rfl,s2⟩
   exact⟨_,(tS ha s2 rfl rfl rfl rfl isAgg145 (by exact sizeOf145) isAgg55 isAgg28 Cells.a (Cell.a rfl) (Cell.a rfl)),.slice none 0 0,by rw[fV,hz],trivial,by rw[fV,hz];exact aq .auto s2⟩
end Go.SLYtefdijgllbkmfaaGreat
namespace Go.SLYtefdijgllbkmfaaGreat
open Go Go.RowKit Go.Proofs Go.Proofs.Tryz
attribute [local irreducible] ax aS bo bY bP Y
theorem kE{W:World}{bd b p q:Nat}{ps:List (Option Nat)}{d:Dng}{t:bF}{n:Int}(h0:0≤n)(hp:ps[n.toNat]?=some (some q))(ht:d.s.thr[n.toNat]?=some (some t))(hn16:n.toNat<16)(hR:gL t)(he:d.ends.length≤1000000)(hw:d.out.aL.length≤1000000){y:Int}:Fn Tryz.prog W 114 [ptr bd,.int .i64 n,.int .u64 y] [bu bd b p ps d] Unit (fun _=>.tuple #[]) (fun _=>True) (fun _=>[bu bd b p ps (d.dW n.toNat y)]):=by
 have:=Fu (W:=W) (bd:=bd) (b:=b) (p:=p) hp ht hn16 hR he hw (y:=y)
 rwa [show((n.toNat:Nat):Int)=n from by omega] at this
theorem q9{W:World}{bd b p:Nat}{ps:List (Option Nat)}{d:Dng}{t:bF}(hp:ps[d.n]?=some (some p))(ht:d.s.thr[d.n]?=some (some t)){v:Int}(hl:d.s.thr.length=16)(hpl:ps.length=16)(hT:iW d.s.table)(hR:gL t)(he:d.ends.length≤1000000)(hw:d.out.aL.length≤1000000)(hj:¬t.ar = -1→0≤t.ar∧t.ar.toNat≠d.n∧bW ps d.s t.ar.toNat):Fn Tryz.prog W 83 [ptr bd,.int .u64 v] [bu bd b p ps d] (List (Option Nat)) (fun _=>.tuple #[]) (fun _=>True) (fun qs=>[bu bd b p qs (d.fin v)]):=by
 refine Fn.intro (N:=66) func83 rfl ntmps83 rfl fun F=>?_
 show ax _ _ _ _ _ _ [bu bd b p ps d,F]
 refine .o2 (C:=bu bd b p ps d) .auto rfl ?_
 rintro vw ve -
 refine .jR (C:=dE b ps d.s) .auto rfl ?_
 rintro fv sv pv bt vm bg vt bk bw vr -
 refine .fr .auto (cq hp ht) ?_
 refine J 7 ?_
 rw[BW]
 refine JD 15 (fun h21=>?_) fun h21=>?_
 ·refine .to (A:=aG ps d.s.thr) (Bs:=[arr p 0 (bH t),aG (ps.set d.n none) (d.s.thr.set d.n none)]) .auto (cI hp ht) ?_
  refine .draw [arr bd 0 (ez b p (d.ended) vw ve)] [1,1,1,1,1,1,1,1,3] rfl (by kernel_rfl) ?_
  refine J 8 ?_
  refine .c call113 rfl (mK hp ht hl hpl hT hR.h.1) fun _ _=>?_
  refine J 2 ?_
  rw[vK ht h21]
  refine .C7 rfl fun w s=>⟨ps.set d.n none,?_,trivial,aq .auto s⟩
  rfl
 ·refine JD 13 (fun h38=>?_) fun h38=>?_
  ·refine J 11 ?_
   obtain⟨hj0,hjn,hj16,q,tj,hq,htj,hRj⟩:=hj h38
   refine .to (A:=aG ps d.s.thr) (Bs:=[arr p 0 (bH t),aG (ps.set d.n none) (d.s.thr.set d.n none)]) .auto (cI hp ht) ?_
   refine .c call114 rfl (kE (d:=d.ended) hj0 hq htj hj16 hRj he hw) fun _ _=>?_
   refine .o2 (C:=bu bd b p ps (d.ended.dW t.ar.toNat v)) .auto rfl ?_
   rintro vw ve -
   have ht2:(d.ended.dW t.ar.toNat v).s.thr[d.n]?=some (some t):=DX ht hjn
   refine J 2 ?_
   refine .draw [arr bd 0 (ez b p (d.ended.dW t.ar.toNat v) vw ve)] [1,1,1,1,1,1,1,1,3] rfl (by kernel_rfl) ?_
   refine J 8 ?_
   refine .c call113 rfl (mK (s:=(d.ended.dW t.ar.toNat v).s) hp ht2 (by simp[Dng.dW,Spc.di,Spc.aj,Dng.ended,hl]) hpl hT hR.h.1) fun _ _=>?_
   refine J 2 ?_
   rw[r8 ht h21 h38]
   refine .C7 rfl fun w s=>⟨ps.set d.n none,?_,trivial,aq .auto s⟩
   rfl
  ·have h38:t.ar = -1:=Decidable.byContradiction h38
   refine .draw [arr bd 0 (ez b p (d.ended) vw ve)] [1,1,1,1,1,1,1,1,0,1,1,2,1,1,3] rfl (by kernel_rfl) ?_
   refine J 12 ?_
   rw[oh]
   refine J 3 ?_
   rw[BV]
   refine J 2 ?_
   rw[rZ ht h21 h38]
   refine .to (A:=aG ps (d.s.thr.set d.n (some ({t with why:=9,value:=v })))) (Bs:=[arr p 0 (bH ({t with why:=9,value:=v })),aG (ps.set d.n none) (d.s.thr.set d.n none)]) .auto (cW (List.getElem?_eq_some_iff.1 ht).1 hp) ?_
   exact JR 0 ps
theorem qc{W:World}{bd b p:Nat}{ps:List (Option Nat)}{d:Dng}{n:Int}{ok:Bool}(hg:ok=true→0≤n∧bW ps d.s n.toNat)(he:d.ends.length≤1000000)(hw:d.out.aL.length≤1000000):Fn Tryz.prog W 167 [ptr bd,.int .i64 n,.bool ok] [bu bd b p ps d] Unit (fun _=>.tuple #[]) (fun _=>True) (fun _=>[bu bd b p ps (d.given n ok)]):=by
 refine Fn.intro (N:=10) func167 rfl ntmps167 rfl fun F=>?_
 show ax _ _ _ _ _ _ [bu bd b p ps d,F]
 refine JD 5 (fun h6=>?_) fun h6=>?_
 ·refine J 1 ?_
  obtain⟨h0,hn16,q,t,hq,ht,hR⟩:=hg h6
  refine J 2 ?_
  refine .c call114 rfl (kE h0 hq ht hn16 hR he hw) fun _ _=>?_
  refine J 1 ?_
  rw[show d.given n ok=d.dW n.toNat 0 from by unfold Dng.given;rw[if_pos h6]]
  exact JR 0 ()
 ·refine J 1 ?_
  rw[show d.given n ok=d from by unfold Dng.given;rw[if_neg (by rw[h6];simp)]]
  exact JR 0 ()
theorem CI{W:World}{bd b p:Nat}{ps:List (Option Nat)}{d:Dng}{t:bF}(hp:ps[d.n]?=some (some p))(ht:d.s.thr[d.n]?=some (some t))(hI:ja d.i)(hF:Av t.gY)(hc:cls d.i.op=1)(hm:d.s.mem.length≤1000000)(hr:d.s.au.length≤1000000000)(hl:d.s.thr.length=16)(hpl:ps.length=16)(hT:iW d.s.table)(hR:gL t)(he:d.ends.length≤1000000)(hw:d.out.aL.length≤1000000)(hj:¬t.ar = -1→0≤t.ar∧t.ar.toNat≠d.n∧bW ps d.s t.ar.toNat):Fn Tryz.prog W 84 [ptr bd] [bu bd b p ps d] (List (Option Nat)) (fun _=>.tuple #[]) (fun _=>True) (fun qs=>[bu bd b p qs d.plain]):=by
 refine Fn.intro (N:=124) func84 rfl ntmps84 rfl fun F=>?_
 show ax _ _ _ _ _ _ [bu bd b p ps d,F]
 refine .o2 (C:=bu bd b p ps d) .auto rfl ?_
 rintro vw ve -
 refine .jR (C:=dE b ps d.s) .auto rfl ?_
 rintro fv sv pv bt vm bg vt bk bw vr -
 refine .fr .auto (cq hp ht) ?_
 have hIa:=hI.a
 have hIb:=hI.b
 have hb:d.b=t.av.getD d.i.b.toNat 0:=by unfold Dng.b;rw[bZ ht];rfl
 have ha:d.a=t.av.getD d.i.a.toNat 0:=by unfold Dng.a;rw[bZ ht];rfl
 have hbr:=hR.r d.i.b.toNat
 refine J 1 ?_
 refine .draw [] [1,1,1,1,1,1,1,1,1,1,1,1,1,1,1,1,1,1,1,1,1,1,1,1,1,1,1,1,1,1] rfl (by kernel_rfl) ?_
 refine J 12 ?_
 refine .p (.aF d.i.a.toNat underlying39 sizeOf38 rfl rfl (by omega) (by omega)) ?_
 refine .p (.ld rfl (Cell.a (my (by omega)))) ?_
 refine J 12 ?_
 refine .p (.aF d.i.b.toNat underlying39 sizeOf38 rfl rfl (by omega) (by omega)) ?_
 refine .p (.ld rfl (Cell.a (my (by omega)))) ?_
 refine J 5 ?_
 refine .w9 [arr bd 0 (ez b p d vw ve),arr b 0 (fU fv sv pv d.s.dG bt ps vm bg vt bk bw vr),arr p 0 (bH t),sl cM 1 vm d.s.mem] [0,0,0,0,0,0,0,0,0,0,0,0,0,0,0,0,0,0,2,0,0,0,0,4,2,0,0] [0,1,2,3,4,5,6,7,8,9,10,11,12,13,14,15,16,17,18,19,20,21,22,23,24,25,26] rfl (by kernel_rfl) ?_
 refine bP.q rfl rfl rfl Kept.auto (Y.m rfl) ?_
 refine bP.q rfl rfl rfl Kept.auto (Y.n rfl) ?_
 refine bP.q rfl rfl rfl Kept.auto (Y.cY 2 122 underlying161 rfl sizeOf122 rfl) ?_
 refine bP.q rfl rfl rfl Kept.auto (Y.load isAgg122 rfl (Cell.a (by rfl))) ?_
 refine bP.q rfl rfl rfl Kept.auto (Y.n rfl) ?_
 refine bP.q rfl rfl rfl Kept.auto (Y.iT 145 underlying147 rfl sizeOf145 rfl) ?_
 refine bP.q rfl rfl rfl Kept.auto (Y.FP isAgg145 rfl (Cells.lG (ds:=iI t.gY) (Cells.a (cs:=bH t)) rfl) (by exact sizeOf145)) ?_
 refine bP.q rfl rfl rfl Kept.auto (Y.m rfl) ?_
 refine bP.q rfl rfl rfl Kept.auto (Y.n rfl) ?_
 refine bP.q rfl rfl rfl Kept.auto (Y.cY 3 131 underlying161 rfl sizeOf131 rfl) ?_
 refine bP.q rfl rfl rfl Kept.auto (Y.FP isAgg131 rfl (Cells.lG (ds:=dC d.i) (Cells.a (cs:=ez b p d vw ve)) rfl) (by exact sizeOf131)) ?_
 refine bP.q rfl rfl rfl Kept.auto (Y.m rfl) ?_
 refine bP.q rfl rfl rfl Kept.auto (Y.n rfl) ?_
 refine bP.q rfl rfl rfl Kept.auto (Y.iT 27 underlying161 rfl sizeOf27 rfl) ?_
 refine bP.q rfl rfl rfl Kept.auto (Y.load isAgg27 rfl (Cell.a (by rfl))) ?_
 refine bP.q rfl rfl rfl Kept.auto (Y.n rfl) ?_
 refine bP.q rfl rfl rfl Kept.auto (Y.cY 25 55 underlying126 rfl sizeOf55 rfl) ?_
 refine bP.q rfl rfl rfl Kept.auto (Y.load isAgg55 rfl (Cell.a (by rfl))) ?_
 refine bP.fQ rfl (.inl rfl) rfl (fun _=>Kept.auto) call115 rfl (yE (A:=sl cM 1 vm d.s.mem) Rd.s hm hI hF hc) .auto (fun _ _=>Kept.auto) ?_
 rintro u5 -
 refine bP.q rfl rfl rfl Kept.auto (Y.m rfl) ?_
 refine bP.q rfl rfl rfl Kept.auto (Y.extract (v:=.agg (iI (fV t.gY d.s.mem d.i).1).toArray) rfl rfl) ?_
 refine bP.q rfl rfl rfl Kept.auto (Y.extract (v:=u5) rfl rfl) ?_
 refine bP.q rfl rfl rfl Kept.auto (Y.extract (v:=.int .i64 (fV t.gY d.s.mem d.i).2.2) rfl rfl) ?_
 refine bP.fresh rfl rfl rfl (by decide) Kept.auto (qo zeroValue145 rfl) ?_
 rintro b4
 refine bP.Kd rfl rfl (by exact sizeOf145) rfl rfl rfl (by rfl) Kept.auto Kept.auto ?_
 refine bP.q rfl rfl rfl Kept.auto (Y.a rfl) ?_
 refine bP.q rfl rfl rfl Kept.auto (Y.a rfl) ?_
 refine bP.nil ?_
 refine J 12 ?_
 apply aS.gr 3 68 65 [65,66,67,68] rfl
 ·intro h65
  exact JS 4
 ·intro h65
  exact JS 4
 refine JD 3 (fun h58=>?_) fun h58=>?_
 ·simp only[Bool.and_eq_true,decide_eq_true_eq] at h58
  obtain⟨h1,h0⟩:=h58
  obtain⟨z,hz⟩:=nh h0
  rw[kR hz]
  have hlt:t.av.getD d.i.b.toNat 0<d.s.mem.length:=DZ hz h1
  refine J 11 ?_
  refine .p (.hY (t.av.getD d.i.b.toNat 0).toNat underlying55 sizeOf38 rfl rfl Rd.s (by omega) (by omega)) ?_
  refine .p (.ld rfl (Cell.yQ Rd.s (getD_some (d:=(0:Int)) (show(t.av.getD d.i.b.toNat 0).toNat<d.s.mem.length by omega)) (by rfl))) ?_
  refine .to (A:=aG ps d.s.thr) (Bs:=[arr p 0 (bH t),aG (ps.set d.n none) (d.s.thr.set d.n none)]) .auto (cI hp ht) ?_
  refine J 1 ?_
  refine .c call82 rfl (jq hp ht hr) fun _ _=>?_
  refine J 10 ?_
  refine .nE rfl ?_
  refine J 2 ?_
  refine .o2 (C:=bu bd b p ps (d.tell (t.av.getD d.i.b.toNat 0) (d.s.mem.getD (t.av.getD d.i.b.toNat 0).toNat 0) 0 true)) .auto rfl ?_
  rintro vw ve -
  refine .jR (C:=dE b ps (d.tell (t.av.getD d.i.b.toNat 0) (d.s.mem.getD (t.av.getD d.i.b.toNat 0).toNat 0) 0 true).s) .auto rfl ?_
  rintro fv sv pv bt vm bg vt bk bw vr -
  refine .fr .auto (cq hp (show(d.tell (t.av.getD d.i.b.toNat 0) (d.s.mem.getD (t.av.getD d.i.b.toNat 0).toNat 0) 0 true).s.thr[(d.tell (t.av.getD d.i.b.toNat 0) (d.s.mem.getD (t.av.getD d.i.b.toNat 0).toNat 0) 0 true).n]?=some (some t) from ht)) ?_
  refine .draw [arr bd 0 (ez b p (d.tell (t.av.getD d.i.b.toNat 0) (d.s.mem.getD (t.av.getD d.i.b.toNat 0).toNat 0) 0 true) vw ve),arr b4 0 (iI z.1)] [1,1,1,1,1,1,1,1,1,0,1,1,2,1,1,3] rfl (by kernel_rfl) ?_
  refine J 12 ?_
  refine .d2 rfl Kept.auto (af.JT (vs:=iI z.1) (by exact sizeOf145) rfl rfl rfl rfl) (by rintro _ _ ⟨rfl,rfl⟩;exact Kept.auto) ?_
  rintro _ _ ⟨rfl,rfl⟩
  rw[sa]
  refine J 2 ?_
  refine .d3 rfl (af.pn sizeOf55 rfl rfl rfl) ?_
  rintro _ _ ⟨rfl,rfl⟩
  rw[vJ]
  refine J 1 ?_
  refine .to (A:=aG ps ((d.tell (t.av.getD d.i.b.toNat 0) (d.s.mem.getD (t.av.getD d.i.b.toNat 0).toNat 0) 0 true).s.thr.set (d.tell (t.av.getD d.i.b.toNat 0) (d.s.mem.getD (t.av.getD d.i.b.toNat 0).toNat 0) 0 true).n (some (t.lM z.1)))) (Bs:=[arr p 0 (bH (t.lM z.1)),aG (ps.set (d.tell (t.av.getD d.i.b.toNat 0) (d.s.mem.getD (t.av.getD d.i.b.toNat 0).toNat 0) 0 true).n none) ((d.tell (t.av.getD d.i.b.toNat 0) (d.s.mem.getD (t.av.getD d.i.b.toNat 0).toNat 0) 0 true).s.thr.set (d.tell (t.av.getD d.i.b.toNat 0) (d.s.mem.getD (t.av.getD d.i.b.toNat 0).toNat 0) 0 true).n none)]) .auto (cW (List.getElem?_eq_some_iff.1 ht).1 hp) ?_
  rw[jF ht hz,show d.told=d.tell (t.av.getD d.i.b.toNat 0) (d.s.mem.getD (t.av.getD d.i.b.toNat 0).toNat 0) 0 true from by unfold Dng.told;rw[if_pos h1,hb]]
  exact JR 0 ps
 ·simp only[Bool.and_eq_false_iff,decide_eq_false_iff_not] at h58
  refine JD 11 (fun h83=>?_) fun h83=>?_
  ·have hz:=pI (h58.resolve_left (fun h=>h h83))
   rw[sb hz]
   refine J 1 ?_
   refine .to (A:=aG ps d.s.thr) (Bs:=[arr p 0 (bH t),aG (ps.set d.n none) (d.s.thr.set d.n none)]) .auto (cI hp ht) ?_
   refine J 3 ?_
   refine .c call82 rfl (jq hp ht hr) fun _ _=>?_
   refine J 10 ?_
   refine .hJ rfl ?_
   refine J 3 ?_
   refine .c call83 rfl (q9 (d:=(d.tell (t.av.getD d.i.b.toNat 0) 0 6 true)) hp ht hl hpl hT hR he hw hj) fun qs _=>?_
   refine J 4 ?_
   rw[lS ht hz,if_pos h83,hb]
   exact JR 0 qs
  ·refine JD 11 (fun h94=>?_) fun h94=>?_
   ·refine J 1 ?_
    refine .to (A:=aG ps d.s.thr) (Bs:=[arr p 0 (bH t),aG (ps.set d.n none) (d.s.thr.set d.n none)]) .auto (cI hp ht) ?_
    refine J 4 ?_
    refine .c call82 rfl (jq hp ht hr) fun _ _=>?_
    refine JD 10 (fun h107=>?_) fun h107=>?_
    ·have hz:=pI h107
     rw[sb hz]
     refine J 3 ?_
     refine .c call83 rfl (q9 (d:=(d.tell (t.av.getD d.i.a.toNat 0) (t.av.getD d.i.b.toNat 0) 6 true)) hp ht hl hpl hT hR he hw hj) fun qs _=>?_
     refine J 4 ?_
     rw[lS ht hz,if_neg h83,ha,hb]
     exact JR 0 qs
    ·obtain⟨z,hz⟩:=nh (Decidable.not_not.mp h107)
     rw[kR hz]
     refine J 2 ?_
     refine .o2 (C:=bu bd b p ps (d.tell (t.av.getD d.i.a.toNat 0) (t.av.getD d.i.b.toNat 0) 0 true)) .auto rfl ?_
     rintro vw ve -
     refine .jR (C:=dE b ps (d.tell (t.av.getD d.i.a.toNat 0) (t.av.getD d.i.b.toNat 0) 0 true).s) .auto rfl ?_
     rintro fv sv pv bt vm bg vt bk bw vr -
     refine .fr .auto (cq hp (show(d.tell (t.av.getD d.i.a.toNat 0) (t.av.getD d.i.b.toNat 0) 0 true).s.thr[(d.tell (t.av.getD d.i.a.toNat 0) (t.av.getD d.i.b.toNat 0) 0 true).n]?=some (some t) from ht)) ?_
     refine .draw [arr bd 0 (ez b p (d.tell (t.av.getD d.i.a.toNat 0) (t.av.getD d.i.b.toNat 0) 0 true) vw ve),arr b4 0 (iI z.1)] [1,1,1,1,1,1,1,1,1,0,1,1,2,1,1,3] rfl (by kernel_rfl) ?_
     refine J 12 ?_
     refine .d2 rfl Kept.auto (af.JT (vs:=iI z.1) (by exact sizeOf145) rfl rfl rfl rfl) (by rintro _ _ ⟨rfl,rfl⟩;exact Kept.auto) ?_
     rintro _ _ ⟨rfl,rfl⟩
     rw[sa]
     refine J 2 ?_
     refine .d3 rfl (af.pn sizeOf55 rfl rfl rfl) ?_
     rintro _ _ ⟨rfl,rfl⟩
     rw[vJ]
     refine J 1 ?_
     refine .to (A:=aG ps ((d.tell (t.av.getD d.i.a.toNat 0) (t.av.getD d.i.b.toNat 0) 0 true).s.thr.set (d.tell (t.av.getD d.i.a.toNat 0) (t.av.getD d.i.b.toNat 0) 0 true).n (some (t.lM z.1)))) (Bs:=[arr p 0 (bH (t.lM z.1)),aG (ps.set (d.tell (t.av.getD d.i.a.toNat 0) (t.av.getD d.i.b.toNat 0) 0 true).n none) ((d.tell (t.av.getD d.i.a.toNat 0) (t.av.getD d.i.b.toNat 0) 0 true).s.thr.set (d.tell (t.av.getD d.i.a.toNat 0) (t.av.getD d.i.b.toNat 0) 0 true).n none)]) .auto (cW (List.getElem?_eq_some_iff.1 ht).1 hp) ?_
     rw[jF ht hz,show d.told=d.tell (t.av.getD d.i.a.toNat 0) (t.av.getD d.i.b.toNat 0) 0 true from by unfold Dng.told;rw[if_neg h83,if_pos h94,ha,hb]]
     exact JR 0 ps
   ·refine JD 10 (fun h107=>?_) fun h107=>?_
    ·exact absurd (DY (pI h107)) (by omega)
    ·obtain⟨z,hz⟩:=nh (Decidable.not_not.mp h107)
     rw[kR hz]
     refine J 2 ?_
     refine .draw [arr bd 0 (ez b p (d) vw ve),arr b4 0 (iI z.1)] [1,1,1,1,1,1,1,1,1,0,1,1,2,1,1,3] rfl (by kernel_rfl) ?_
     refine J 12 ?_
     refine .d2 rfl Kept.auto (af.JT (vs:=iI z.1) (by exact sizeOf145) rfl rfl rfl rfl) (by rintro _ _ ⟨rfl,rfl⟩;exact Kept.auto) ?_
     rintro _ _ ⟨rfl,rfl⟩
     rw[sa]
     refine J 2 ?_
     refine .d3 rfl (af.pn sizeOf55 rfl rfl rfl) ?_
     rintro _ _ ⟨rfl,rfl⟩
     rw[vJ]
     refine J 1 ?_
     refine .to (A:=aG ps ((d).s.thr.set (d).n (some (t.lM z.1)))) (Bs:=[arr p 0 (bH (t.lM z.1)),aG (ps.set (d).n none) ((d).s.thr.set (d).n none)]) .auto (cW (List.getElem?_eq_some_iff.1 ht).1 hp) ?_
     rw[jF ht hz,show d.told=d from by unfold Dng.told;rw[if_neg h83,if_neg h94]]
     exact JR 0 ps
end Go.SLYtefdijgllbkmfaaGreat
namespace Go.SLYtefdijgllbkmfaaGreat
open Go Go.RowKit Go.Proofs Go.Proofs.Tryz
attribute [local irreducible] ax aS bo bY bP Y
theorem CJ{W:World}{b:Nat}{g:Gates}{who m:Int}(hg:gF g):Fn Tryz.prog W 165 [ptr b,.int .i64 who,.int .i64 m] [cZ b g] Unit (fun _=>.tuple #[.bool (g.lock who m).1,.int .i64 (g.lock who m).2.1]) (fun _=>True) (fun _=>[cZ b (g.lock who m).2.2]):=by
 refine Fn.intro (N:=27) func165 rfl ntmps165 rfl fun F=>?_
 show ax _ _ _ _ _ _ [cZ b g,F]
 refine .o3 (C:=cZ b g) .auto rfl ?_
 rintro vm vc vs -
 refine J 10 ?_
 refine .c call207 rfl lk fun _ _=>?_
 refine JD 12 (fun h12=>?_) fun h12=>?_
 ·refine J 9 ?_
  rw[tT (fJ h12)]
  exact JR 0 ()
 ·refine J 2 ?_
  have hmhx:=fz h12
  rw[fe hmhx]
  obtain⟨x,hx,hgx⟩:=ck hmhx
  refine J 2 ?_
  refine .c call208 rfl (nz hg) fun _ _=>?_
  refine .fr .auto (ob hx) ?_
  refine J 1 ?_
  apply aS.gC 4 23 19 [19,20,21,22,23] rfl
  ·intro h19
   refine J 2 ?_
   refine .cg call209 rfl s8 fun _ _=>?_
   exact JS 2
  ·intro h19
   exact JS 5
  refine JD 3 (fun h15=>?_) fun h15=>?_
  ·refine J 9 ?_
   rw[qt hgx h15]
   refine .to (A:=eo vm g.aD) (Bs:=[ew (blk vm) (cB vm+m.toNat * 3) x,qM vm g.aD m.toNat]) .auto (oc hx) ?_
   exact JR 0 ()
  ·refine J 7 ?_
   refine .c call171 rfl (s9 (Nat.le_trans (hg.mw x (List.mem_of_getElem? hx)) (by decide))) fun _ _=>?_
   refine J 5 ?_
   rw[tU hgx h15]
   refine .to (A:=eo vm (g.aD.set m.toNat (x.lock who).2)) (Bs:=[ew (blk vm) (cB vm+m.toNat * 3) (x.lock who).2,qM vm g.aD m.toNat]) .auto (rU (x.lock who).2) ?_
   exact JR 0 ()
theorem yF{W:World}{b:Nat}{g:Gates}{who m c:Int}(hg:gF g):Fn Tryz.prog W 166 [ptr b,.int .i64 who,.int .i64 m,.int .i64 c] [cZ b g] Unit (fun _=>.tuple #[.int .i64 (g.unlock who m c).1,.bool (g.unlock who m c).2.1,.int .i64 (g.unlock who m c).2.2.1]) (fun _=>True) (fun _=>[cZ b (g.unlock who m c).2.2.2]):=by
 refine Fn.intro (N:=33) func166 rfl ntmps166 rfl fun F=>?_
 show ax _ _ _ _ _ _ [cZ b g,F]
 refine .o3 (C:=cZ b g) .auto rfl ?_
 rintro vm vc vs -
 refine J 11 ?_
 refine .c call207 rfl lk fun _ _=>?_
 refine JD 12 (fun h17=>?_) fun h17=>?_
 ·refine J 10 ?_
  rw[qu (fJ h17)]
  refine .lF rfl rfl rfl rfl fun w s=>⟨(),?_,trivial,aq .auto s⟩
  rfl
 ·refine J 2 ?_
  have hmhx:=fz h17
  rw[fe hmhx]
  obtain⟨x,hx,hgx⟩:=ck hmhx
  refine .fr .auto (ob hx) ?_
  refine J 2 ?_
  refine .c call209 rfl s8 fun _ _=>?_
  refine JD 4 (fun h20=>?_) fun h20=>?_
  ·refine J 10 ?_
   rw[od hgx (by simpa using h20)]
   refine .to (A:=eo vm g.aD) (Bs:=[ew (blk vm) (cB vm+m.toNat * 3) x,qM vm g.aD m.toNat]) .auto (oc hx) ?_
   refine .lF rfl rfl rfl rfl fun w s=>⟨(),?_,trivial,aq .auto s⟩
   rfl
  ·refine J 7 ?_
   refine .c call210 rfl (pj (hg.mw x (List.mem_of_getElem? hx))) fun _ _=>?_
   refine J 17 ?_
   rw[qv hgx (by simpa using h20)]
   refine .to (A:=eo vm (g.aD.set m.toNat (x.unlock c).2.2)) (Bs:=[ew (blk vm) (cB vm+m.toNat * 3) (x.unlock c).2.2,qM vm g.aD m.toNat]) .auto (rU (x.unlock c).2.2) ?_
   refine .lF rfl rfl rfl rfl fun w s=>⟨(),?_,trivial,aq .auto s⟩
   rfl
theorem CK{W:World}{b:Nat}{g:Gates}{who c m ch:Int}(hg:gF g):Fn Tryz.prog W 168 [ptr b,.int .i64 who,.int .i64 c,.int .i64 m,.int .i64 ch] [cZ b g] Unit (fun _=>.tuple #[.int .i64 (g.wait who c m ch).1,.bool (g.wait who c m ch).2.1,.int .i64 (g.wait who c m ch).2.2.1]) (fun _=>True) (fun _=>[cZ b (g.wait who c m ch).2.2.2]):=by
 refine Fn.intro (N:=52) func168 rfl ntmps168 rfl fun F=>?_
 show ax _ _ _ _ _ _ [cZ b g,F]
 refine .o3 (C:=cZ b g) .auto rfl ?_
 rintro vm vc vs -
 refine J 11 ?_
 refine .c call207 rfl lk fun _ _=>?_
 refine J 2 ?_
 refine .c call169 rfl uW fun _ _=>?_
 refine J 11 ?_
 apply aS.gC 3 29 26 [26,27,28,29] rfl
 ·intro h26
  exact JS 4
 ·intro h26
  exact JS 4
 refine JD 3 (fun h23=>?_) fun h23=>?_
 ·have hw:g.wait who c m ch=(0,false,1,g):=by
   rcases(Bool.or_eq_true _ _).mp h23 with h | h
   ·exact m9 (fJ h)
   ·exact nf (fJ h)
  refine J 10 ?_
  rw[hw]
  refine .lF rfl rfl rfl rfl fun w s=>⟨(),?_,trivial,aq .auto s⟩
  rfl
 ·refine J 2 ?_
  rw[Bool.or_eq_false_iff] at h23
  have hmhx:=fz h23.1
  rw[fe hmhx]
  obtain⟨x,hx,hgx⟩:=ck hmhx
  have hmhr:=fz h23.2
  rw[fe hmhr]
  obtain⟨r,hr,hgr⟩:=ck hmhr
  refine J 2 ?_
  refine .c call208 rfl (nz hg) fun _ _=>?_
  refine JD 3 (fun h30=>?_) fun h30=>?_
  ·refine J 10 ?_
   rw[xw hgx hgr h30]
   refine .lF rfl rfl rfl rfl fun w s=>⟨(),?_,trivial,aq .auto s⟩
   rfl
  ·refine J 2 ?_
   refine .fr .auto (ob hx) ?_
   refine J 2 ?_
   refine .c call209 rfl s8 fun _ _=>?_
   refine JD 4 (fun h34=>?_) fun h34=>?_
   ·refine J 10 ?_
    rw[ng hgx hgr h30 (by simpa using h34)]
    refine .to (A:=eo vm g.aD) (Bs:=[ew (blk vm) (cB vm+m.toNat * 3) x,qM vm g.aD m.toNat]) .auto (oc hx) ?_
    refine .lF rfl rfl rfl rfl fun w s=>⟨(),?_,trivial,aq .auto s⟩
    rfl
   ·refine J 7 ?_
    refine .c call210 rfl (pj (hg.mw x (List.mem_of_getElem? hx))) fun _ _=>?_
    refine J 9 ?_
    refine .to (A:=eo vm (g.aD.set m.toNat (x.unlock ch).2.2)) (Bs:=[ew (blk vm) (cB vm+m.toNat * 3) (x.unlock ch).2.2,qM vm g.aD m.toNat]) .auto (rU (x.unlock ch).2.2) ?_
    refine .fr .auto (Ax hr) ?_
    refine J 3 ?_
    refine .p (.gB (fun v1 v2=>[v1,v2]) rfl rfl (by kernel_rfl)) ?_
    refine .c call211 rfl (wN (x:=⟨who,m⟩) (Nat.le_trans (hg.cw r (List.mem_of_getElem? hr)) (by decide))) fun _ _=>?_
    refine J 12 ?_
    rw[pG hgx hgr h30 (by simpa using h34)]
    refine .to (A:=ia vc (g.bm.set c.toNat (r++[⟨who,m⟩]))) (Bs:=[iy (blk vc) (cB vc+c.toNat * 1) (r++[⟨who,m⟩]),BT vc g.bm c.toNat]) .auto (DO (r++[⟨who,m⟩])) ?_
    refine .lF rfl rfl rfl rfl fun w s=>⟨(),?_,trivial,aq .auto s⟩
    rfl
theorem CL{W:World}{b:Nat}{g:Gates}{who s:Int}(hg:gF g)(hc:∀ x∈g.bX,0≤x.count∧x.count≤1048576):Fn Tryz.prog W 174 [ptr b,.int .i64 who,.int .i64 s] [cZ b g] Unit (fun _=>.tuple #[.bool (g.down who s).1,.int .i64 (g.down who s).2.1]) (fun _=>True) (fun _=>[cZ b (g.down who s).2.2]):=by
 refine Fn.intro (N:=38) func174 rfl ntmps174 rfl fun F=>?_
 show ax _ _ _ _ _ _ [cZ b g,F]
 refine .o3 (C:=cZ b g) .auto rfl ?_
 rintro vm vc vs -
 refine J 10 ?_
 refine .c call214 rfl yA fun _ _=>?_
 refine JD 12 (fun h12=>?_) fun h12=>?_
 ·refine J 9 ?_
  rw[tV (fJ h12)]
  exact JR 0 ()
 ·refine J 2 ?_
  have hmhx:=fz h12
  rw[fe hmhx]
  obtain⟨x,hx,hgx⟩:=ck hmhx
  refine J 2 ?_
  refine .c call208 rfl (nz hg) fun _ _=>?_
  refine JD 3 (fun h15=>?_) fun h15=>?_
  ·refine J 9 ?_
   rw[xx hgx h15]
   exact JR 0 ()
  ·refine J 2 ?_
   refine .fr .auto (Aw hx) ?_
   have hcx:=hc x (List.mem_of_getElem? hx)
   refine .o1 (C:=gP (blk vs) (cB vs+s.toNat * 2) x) .auto rfl ?_
   rintro u -
   refine JD 8 (fun h19=>?_) fun h19=>?_
   ·refine J 9 ?_
    refine .aw rfl (af.HO sizeOf3 rfl rfl rfl rfl) ?_
    rintro _ _ ⟨rfl,rfl⟩
    refine J 11 ?_
    rw[tW hgx h15 h19]
    refine .to (A:=fq vs (g.bX.set s.toNat {x with count:=x.count-1 })) (Bs:=[gP (blk vs) (cB vs+s.toNat * 2) {x with count:=x.count-1 },xu vs g.bX s.toNat]) .auto (rV {x with count:=x.count-1 }) ?_
    exact JR 0 ()
   ·refine J 7 ?_
    refine .fr .auto (oa (b:=blk vs) (o:=cB vs+s.toNat * 2) (u:=u)) ?_
    refine J 2 ?_
    refine .p (.iv (fun v1=>[v1,(.int .i64 0)]) rfl (by kernel_rfl)) ?_
    refine .c call211 rfl (wN (x:=⟨who,0⟩) (Nat.le_trans (hg.sw x (List.mem_of_getElem? hx)) (by decide))) fun _ _=>?_
    refine J 9 ?_
    rw[qy hgx h15 h19]
    refine .to (A:=gP (blk vs) (cB vs+s.toNat * 2) {x with wait:=x.wait++[⟨who,0⟩] }) (Bs:=[iy (blk vs) (cB vs+s.toNat * 2) (x.wait++[⟨who,0⟩]),arr (blk vs) (cB vs+s.toNat * 2+1) [.int .i64 x.count]]) .auto (qT (m:={x with wait:=x.wait++[⟨who,0⟩] })) ?_
    refine .to (A:=fq vs (g.bX.set s.toNat {x with wait:=x.wait++[⟨who,0⟩] })) (Bs:=[gP (blk vs) (cB vs+s.toNat * 2) {x with wait:=x.wait++[⟨who,0⟩] },xu vs g.bX s.toNat]) .auto (rV {x with wait:=x.wait++[⟨who,0⟩] }) ?_
    exact JR 0 ()
theorem HC{W:World}{b:Nat}{g:Gates}{s c:Int}(hg:gF g)(hc:∀ x∈g.bX,0≤x.count∧x.count≤1048576):Fn Tryz.prog W 173 [ptr b,.int .i64 s,.int .i64 c] [cZ b g] Unit (fun _=>.tuple #[.int .i64 (g.up s c).1,.bool (g.up s c).2.1,.int .i64 (g.up s c).2.2.1]) (fun _=>True) (fun _=>[cZ b (g.up s c).2.2.2]):=by
 refine Fn.intro (N:=40) func173 rfl ntmps173 rfl fun F=>?_
 show ax _ _ _ _ _ _ [cZ b g,F]
 refine .o3 (C:=cZ b g) .auto rfl ?_
 rintro vm vc vs -
 refine J 11 ?_
 refine .c call214 rfl yA fun _ _=>?_
 refine JD 10 (fun h16=>?_) fun h16=>?_
 ·refine J 9 ?_
  rw[Ay (fJ h16)]
  refine .lF rfl rfl rfl rfl fun w s=>⟨(),?_,trivial,aq .auto s⟩
  rfl
 ·refine J 5 ?_
  have hmhx:=fz h16
  rw[fe hmhx]
  obtain⟨x,hx,hgx⟩:=ck hmhx
  refine .fr .auto (Aw hx) ?_
  have hcx:=hc x (List.mem_of_getElem? hx)
  refine .o1 (C:=gP (blk vs) (cB vs+s.toNat * 2) x) .auto rfl ?_
  rintro u -
  refine .fr .auto (oa (b:=blk vs) (o:=cB vs+s.toNat * 2) (u:=u)) ?_
  refine J 4 ?_
  refine .c call170 rfl (s7 (hg.sw x (List.mem_of_getElem? hx))) fun _ _=>?_
  refine J 3 ?_
  refine .aw rfl (af.alloc rfl zeroValue274 rfl) ?_
  rintro _ _ ⟨b10,rfl,rfl⟩
  refine JD 9 (fun h25=>?_) fun h25=>?_
  ·refine J 11 ?_
   rw[tX hgx h25]
   refine .to (A:=gP (blk vs) (cB vs+s.toNat * 2) {x with wait:=(aH x.wait c).2.2 }) (Bs:=[iy (blk vs) (cB vs+s.toNat * 2) (aH x.wait c).2.2,arr (blk vs) (cB vs+s.toNat * 2+1) [.int .i64 x.count]]) .auto (qT (m:={x with wait:=(aH x.wait c).2.2 })) ?_
   refine .to (A:=fq vs (g.bX.set s.toNat {x with wait:=(aH x.wait c).2.2 })) (Bs:=[gP (blk vs) (cB vs+s.toNat * 2) {x with wait:=(aH x.wait c).2.2 },xu vs g.bX s.toNat]) .auto (rV {x with wait:=(aH x.wait c).2.2 }) ?_
   refine .lF rfl rfl rfl rfl fun w s=>⟨(),?_,trivial,aq .auto s⟩
   rfl
  ·have htw:=BU h25
   refine J 8 ?_
   refine .p (.ld rfl (Cell.az (cs:=[.int .i64 x.count]) rfl)) ?_
   refine JD 3 (fun h32=>?_) fun h32=>?_
   ·refine J 9 ?_
    rw[tY hgx h25 h32]
    rw[htw]
    refine .to (A:=gP (blk vs) (cB vs+s.toNat * 2) x) (Bs:=[iy (blk vs) (cB vs+s.toNat * 2) x.wait,arr (blk vs) (cB vs+s.toNat * 2+1) [.int .i64 x.count]]) .auto qT ?_
    refine .to (A:=fq vs g.bX) (Bs:=[gP (blk vs) (cB vs+s.toNat * 2) x,xu vs g.bX s.toNat]) .auto (DP hx) ?_
    refine .lF rfl rfl rfl rfl fun w s=>⟨(),?_,trivial,aq .auto s⟩
    rfl
   ·refine J 7 ?_
    refine .p (.ld rfl (Cell.az (cs:=[.int .i64 x.count]) rfl)) ?_
    refine .p (.add rfl rfl (by omega)) ?_
    refine J 2 ?_
    refine .aw rfl (af.HP sizeOf3 rfl rfl rfl rfl) ?_
    rintro _ _ ⟨rfl,rfl⟩
    refine J 10 ?_
    rw[Az hgx h25 h32,htw]
    refine .to (A:=gP (blk vs) (cB vs+s.toNat * 2) {x with count:=x.count+1 }) (Bs:=[iy (blk vs) (cB vs+s.toNat * 2) x.wait,arr (blk vs) (cB vs+s.toNat * 2+1) [.int .i64 (x.count+1)]]) .auto (qT (m:={x with count:=x.count+1 })) ?_
    refine .to (A:=fq vs (g.bX.set s.toNat {x with count:=x.count+1 })) (Bs:=[gP (blk vs) (cB vs+s.toNat * 2) {x with count:=x.count+1 },xu vs g.bX s.toNat]) .auto (rV {x with count:=x.count+1 }) ?_
    refine .lF rfl rfl rfl rfl fun w s=>⟨(),?_,trivial,aq .auto s⟩
    rfl
theorem qK{W:World}{b:Nat}{g:Gates}{c ch:Int}{all:Bool}(hg:gF g)(hm:∀ r∈g.bm, ∀ w∈r,0≤w.mutex∧w.mutex<(g.aD.length:Int)):Fn Tryz.prog W 122 [ptr b,.int .i64 c,.int .i64 ch,.bool all] [cZ b g] Value (fun u=>.tuple #[u,.int .i64 (g.signal c ch all).2.1]) (fun _=>True) (fun u=>[sl aP 1 u (g.signal c ch all).1,cZ b (g.signal c ch all).2.2]):=by
 refine Fn.intro (N:=58) func122 rfl ntmps122 rfl fun F=>?_
 show ax _ _ _ _ _ _ [cZ b g,F]
 refine .o3 (C:=cZ b g) .auto rfl ?_
 rintro vm vc vs -
 refine J 10 ?_
 refine .c call169 rfl uW fun _ _=>?_
 refine JD 10 (fun h19=>?_) fun h19=>?_
 ·refine J 8 ?_
  rw[qw (fJ h19)]
  exact JR 0 (Value.slice none 0 0)
 ·refine J 4 ?_
  have hmhr:=fz h19
  rw[fe hmhr]
  obtain⟨r,hr,hgr⟩:=ck hmhr
  refine .fr .auto (Ax hr) ?_
  have hrl:=hg.cw r (List.mem_of_getElem? hr)
  have hrm:=hm r (List.mem_of_getElem? hr)
  refine .o1 (C:=iy (blk vc) (cB vc+c.toNat * 1) r) .auto rfl ?_
  rintro u0 -
  refine J 5 ?_
  refine .p (.qq rfl rfl) ?_
  refine J 3 ?_
  refine .mX (X:=Unit) [2,11,26,27,28,29,30,31] (fun _=>True) (fun _=>[(11,some (.int .i64 (((if all=true then r.length else min r.length 1):Nat):Int))),(2,some (.int .i64 (if all=true then 0 else ch)))]) (fun _=>[arr (blk vc) (cB vc+c.toNat * 1) [u0],sl cN 2 u0 r,BT vc g.bm c.toNat,arr b 0 [vm,vc,vs],eo vm g.aD,fq vs g.bX,F]) ?_ ?_
  ·refine JD 5 (fun h26=>?_) fun h26=>?_
   ·refine J 9 ?_
    refine .eK () .auto ?_ ?_ ?_
    ·trivial
    ·subst h26;exact⟨rfl,rfl,trivial⟩
    ·exact fun w s=>aK.kept .auto w s
   ·refine J 1 ?_
    refine .eK () .auto ?_ ?_ ?_
    ·trivial
    ·rw[if_neg (by rw[h26];simp),if_neg (by rw[h26];simp)];exact⟨by show some _=some _;congr 2;omega,rfl,trivial⟩
    ·exact fun w s=>aK.kept .auto w s
  ·rintro⟨⟩ -
   obtain⟨n0,hn0⟩:∃ n0,n0=(if all=true then r.length else min r.length 1):=⟨_,rfl⟩
   obtain⟨c2,hc2⟩:∃ c2,c2=(if all=true then 0 else ch):=⟨_,rfl⟩
   have h0:n0≤r.length:=by subst hn0;split <;> omega
   rw[← hn0, ← hc2]
   refine J 13 ?_
   refine .da (X:=Nat×List dc×List dt×Value×List Int) [12,13,14,33,34,35,36,37,38,39,40,41,42,43,44,45,46,47,48,49,50,51,52,53,54,55,56] (fun z=>n0-z.1) (fun z=>oe r g.aD n0 c2 z.1 z.2.1 z.2.2.1 z.2.2.2.2) (fun z=>[(33,some (.int .i64 (z.1:Int))),(12,some z.2.2.2.1)]) (fun z=>[iy (blk vc) (cB vc+c.toNat * 1) z.2.1,eo vm z.2.2.1,sl aP 1 z.2.2.2.1 z.2.2.2.2,BT vc g.bm c.toNat,arr b 0 [vm,vc,vs],fq vs g.bX,F]) (0,r,g.aD,.slice none 0 0,[]) ?_ ?_ ?_ ?_
   ·exact oe.zero hg.mw
   ·exact⟨rfl,rfl,trivial⟩
   ·exact fun w s=>aK.kept .auto w s
   rintro⟨k,r1,ms,u,out⟩ hS
   simp only at hS
   refine JD 6 (fun h34=>?_) fun h34=>?_
   ·simp only at h34
    refine J 8 ?_
    refine .c call170 rfl (s7 (l:=r1) (by have:=hS.len;omega)) fun _ _=>?_
    refine J 3 ?_
    refine .aw rfl (af.alloc rfl zeroValue274 rfl) ?_
    rintro _ _ ⟨b13,rfl,rfl⟩
    refine J 5 ?_
    refine .draw [] [1,1,1,1,1,1,1,1,1,3] rfl (by kernel_rfl) ?_
    obtain⟨hw1,hw2,hw3⟩:=j8 (l:=r1) (c:=c2) (by have:=hS.len;omega)
    have hwm:=hrm _ (hS.mem _ hw1)
    have hml:=hS.ml
    obtain⟨x,hx⟩:=aB (show(aH r1 c2).1.mutex.toNat<ms.length by omega)
    have hxl:=hS.mw x (List.mem_of_getElem? hx)
    refine .o1 (C:=eo vm ms) .auto rfl ?_
    rintro xs hxs
    have hxsl:=kO hxs
    refine J 6 ?_
    refine .p (.hY (aH r1 c2).1.mutex.toNat underlying191 sizeOf278 rfl rfl Rd.s (by omega) (by omega)) ?_
    refine J 2 ?_
    refine .to (A:=eo vm ms) .auto (Bs:=[sl ly 3 vm xs,bb (fun x=>sl cN 2 x.1 x.2.wait) xs]) (fun h a=>⟨xs,hxs,a⟩) ?_
    refine .fr .auto (ob hx) ?_
    refine .c call171 rfl (s9 (m:=x) (by omega)) fun _ _=>?_
    refine .to (A:=eo vm (ms.set (aH r1 c2).1.mutex.toNat (x.lock (aH r1 c2).1.who).2)) (Bs:=[ew (blk vm) (cB vm+(aH r1 c2).1.mutex.toNat * 3) (x.lock (aH r1 c2).1.who).2,qM vm ms (aH r1 c2).1.mutex.toNat]) .auto (rU (x.lock (aH r1 c2).1.who).2) ?_
    have hnx:=hS.next (by omega) h0
    have hsl:zi r1 c2 ms=x.lock (aH r1 c2).1.who:=by unfold zi;rw[fh hx]
    rw[hsl] at hnx
    refine JD 2 (fun h50=>?_) fun h50=>?_
    ·rw[if_pos h50] at hnx
     refine J 4 ?_
     refine .aw rfl (af.gN 3 rfl rfl (by kernel_rfl)) ?_
     rintro _ _ ⟨b54,rfl,rfl⟩
     refine .aw rfl (af.fb (enc:=aP) (k:=1) (aH r1 c2).1.who rfl underlying23 underlying23 typeInfo3 rfl rfl rfl (by decide) rfl rfl rfl .auto rfl .auto (by have:=hS.ol;have:=hS.hk;dsimp only;omega) rfl) ?_
     rintro _ _ ⟨v55,rfl,rfl⟩
     refine J 8 ?_
     refine .bq (k+1,(aH r1 c2).2.2,ms.set (aH r1 c2).1.mutex.toNat (x.lock (aH r1 c2).1.who).2,v55,out++[(aH r1 c2).1.who]) .auto rfl ?_ ?_ ?_ ?_
     ·show n0-(k+1)<n0-k;omega
     ·exact hnx
     ·exact⟨rfl,rfl,trivial⟩
     ·exact fun w s=>aK.kept .auto w s
    ·rw[if_neg (by rw[h50];simp)] at hnx
     refine J 7 ?_
     refine .bq (k+1,(aH r1 c2).2.2,ms.set (aH r1 c2).1.mutex.toNat (x.lock (aH r1 c2).1.who).2,u,out) .auto rfl ?_ ?_ ?_ ?_
     ·show n0-(k+1)<n0-k;omega
     ·exact hnx
     ·exact⟨rfl,rfl,trivial⟩
     ·exact fun w s=>aK.kept .auto w s
   ·simp only at h34
    refine J 13 ?_
    rw[qx (z:=(r1,ms,out)) hgr (by rw[← hn0, ← hc2];exact hS.done (by omega))]
    refine .to (A:=ia vc (g.bm.set c.toNat r1)) (Bs:=[iy (blk vc) (cB vc+c.toNat * 1) r1,BT vc g.bm c.toNat]) .auto (DO r1) ?_
    exact JR 0 u
theorem CM{W:World}{b:Nat}{l:List dt}{n:Int}{vm vc vs:Value}:Fn Tryz.prog W 213 [ptr b,.int .i64 1,.int .i64 n] [arr b 0 [vm,vc,vs],eo vm l] Unit (fun _=>HS vm l.length 3 n) (fun _=>True) (fun _=>[arr b 0 [vm,vc,vs],eo vm l]):=by
 refine Fn.intro (N:=35) func213 rfl ntmps213 rfl fun F=>?_
 show ax _ _ _ _ _ _ [arr b 0 [vm,vc,vs],eo vm l,F]
 refine J 18 ?_
 refine .dK rfl (fun _=>?_) (fun hc=>absurd rfl hc)
 refine J 4 ?_
 refine .c call207 rfl lk fun _ _=>?_
 refine JD 9 (fun h16=>?_) fun h16=>?_
 ·refine J 2 ?_
  have hm:=xv h16
  rw[fe hm]
  exact JR 9 ()
 ·refine J 9 ?_
  refine .aI rfl rfl fun w s=>⟨(),?_,trivial,aq .auto s⟩
  rw[qV (zh h16)]
theorem tJ{W:World}{b:Nat}{g:Gates}{n:Nat}{x:dt}(hx:g.aD[n]?=some x)(hl:x.wait.length≤1000000):Fn Tryz.prog W 172 [ptr b,.int .i64 1,.int .i64 (n:Int)] [cZ b g] Value (fun u=>u) (fun _=>True) (fun u=>[sl aP 1 u (x.wait.map (·.who)),cZ b g]):=by
 refine Fn.intro (N:=33) func172 rfl ntmps172 rfl fun F=>?_
 show ax _ _ _ _ _ _ [cZ b g,F]
 refine .o3 (C:=cZ b g) .auto rfl ?_
 rintro vm vc vs -
 have hn:=(List.getElem?_eq_some_iff.1 hx).1
 refine J 10 ?_
 refine .c call213 rfl CM fun _ _=>?_
 refine JD 10 (fun h16=>?_) fun h16=>?_
 ·exact absurd (show(0:Int)≤(n:Int)∧(n:Int)<(g.aD.length:Int) by omega) (fJ h16)
 ·refine J 10 ?_
  rw[fe (by omega),Int.toNat_natCast]
  refine .fr .auto (ob hx) ?_
  refine .o1 (C:=ew (blk vm) (cB vm+n * 3) x) .auto rfl ?_
  rintro u0 -
  refine J 9 ?_
  refine .da (X:=Nat×Value) [8,10,22,23,24,25,26,27,28,29,30,31] (fun z=>x.wait.length-z.1) (fun z=>z.1≤x.wait.length) (fun z=>[(22,some (.int .i64 (z.1:Int))),(8,some z.2)]) (fun z=>[sl aP 1 z.2 ((x.wait.map (·.who)).take z.1),arr (blk vm) (cB vm+n * 3) [u0,.bool x.held,.int .i64 x.owner],sl cN 2 u0 x.wait,qM vm g.aD n,arr b 0 [vm,vc,vs],ia vc g.bm,fq vs g.bX,F]) (0,.slice none 0 0) ?_ ?_ ?_ ?_
  ·exact Nat.zero_le _
  ·exact⟨rfl,rfl,trivial⟩
  ·exact fun w s=>aK.kept .auto w s
  rintro⟨k,u⟩ hk
  simp only at hk
  refine JD 6 (fun h23=>?_) fun h23=>?_
  ·refine J 6 ?_
   obtain⟨w,hw⟩:=aB (show k<x.wait.length by omega)
   refine J 2 ?_
   refine .aw rfl (af.alloc rfl zeroValue274 rfl) ?_
   rintro _ _ ⟨b10,rfl,rfl⟩
   refine J 7 ?_
   refine .aw rfl (af.gN 3 rfl rfl (by kernel_rfl)) ?_
   rintro _ _ ⟨b29,rfl,rfl⟩
   refine .aw rfl (af.fb (enc:=aP) (k:=1) w.who rfl underlying23 underlying23 typeInfo3 rfl rfl rfl (by decide) rfl rfl rfl .auto rfl .auto (by rw[List.length_take,List.length_map];omega) rfl) ?_
   rintro _ _ ⟨v30,rfl,rfl⟩
   refine J 8 ?_
   refine .bq (k+1,v30) .auto rfl ?_ ?_ ?_ ?_
   ·show x.wait.length-(k+1)<x.wait.length-k;omega
   ·show k+1≤_;omega
   ·exact⟨rfl,rfl,trivial⟩
   ·show ∀ w,Sat _ w _→Sat _ w (seps [sl aP 1 v30 ((x.wait.map (·.who)).take (k+1)),_,_,_,_,_,_,F])
    rw[cx (show(x.wait.map (·.who))[k]?=some w.who by rw[List.getElem?_map,hw];rfl)]
    exact fun w s=>aK.kept .auto w s
  ·refine J 12 ?_
   obtain rfl:k=x.wait.length:=by omega
   rw[List.take_of_length_le (by simp)]
   refine .to (A:=eo vm g.aD) (Bs:=[ew (blk vm) (cB vm+n * 3) x,qM vm g.aD n]) .auto (oc hx) ?_
   refine .aI rfl rfl fun w s=>⟨_,?_,trivial,aq .auto s⟩
   rfl
end Go.SLYtefdijgllbkmfaaGreat
namespace Go.SLYtefdijgllbkmfaaGreat
open Go Go.RowKit Go.Proofs Go.Proofs.Tryz
attribute [local irreducible] ax aS bo bY bP Y
theorem Fz{W:World}{A:aa}{x:Ptr}{c:Nat}{who:Int}:Fn Tryz.prog W 300 [.agg (eO x).toArray,ptr c] [seps [arr c 0 [.int .i64 who],A]] Unit (fun _=>.bool (decide (x.who=who))) (fun _=>True) (fun _=>[seps [arr c 0 [.int .i64 who],A]]):=by
 refine Fn.intro (N:=8) func300 rfl ntmps300 rfl fun F=>?_
 show ax _ _ _ _ _ _ [seps [arr c 0 [.int .i64 who],A],F]
 refine .fR .auto ?_
 refine J 2 ?_
 refine .aw rfl (af.box rfl rfl rfl) ?_
 rintro _ _ ⟨b2,rfl,rfl⟩
 exact JR 13 ()
theorem tc{W:World}{b:Nat}{t:Tub}{who:Int}(hl:rW t):Fn Tryz.prog W 265 [ptr b,.int .i64 who] [ib b t] Unit (fun _=>.bool (t.waits who)) (fun _=>True) (fun _=>[ib b t]):=by
 refine Fn.intro (N:=19) func265 rfl ntmps265 rfl fun F=>?_
 show ax _ _ _ _ _ _ [ib b t,F]
 refine .o3 (C:=ib b t) .auto rfl ?_
 rintro vw vp vg -
 obtain⟨hl1,hl2,hl3⟩:=hl
 refine J 2 ?_
 refine .aw rfl (af.box rfl rfl rfl) ?_
 rintro _ _ ⟨b3,rfl,rfl⟩
 refine J 4 ?_
 refine .draw [] [1,1,1,1,1,3,1,1,1,1,1,1,3,1,1] rfl (by kernel_rfl) ?_
 refine J 5 ?_
 refine .c call298 rfl (CA (A:=sl aP 1 vg t.bz) (Rd.sl .here) (by omega)) fun _ _=>?_
 refine J 1 ?_
 apply bo.gC 7 18 11 [11,12,13,14,15,16,17,18] rfl
 ·intro h11
  refine J 4 ?_
  refine .g (.makeFunc rfl rfl) ?_
  refine .dg rfl rfl rfl (af.fQ rfl call299 rfl (tF (A:=seps [arr b3 0 [.int .i64 who],sl eO 2 vp t.bN]) (p:=fun p=>decide (p.who=who)) (Rd.kL (Rd.sl (.there .here))) (by omega) call300 (fun x _=>Fz)) .auto) ?_
  rintro _ _ ⟨⟨⟩, -,rfl,rfl⟩
  refine .fR .auto ?_
  exact JS 2
 ·intro h11
  refine J 5 ?_
  refine .Ah rfl rfl rfl rfl ?_
  exact JS 2
 exact JR 4 ()
theorem JH{W:World}{b i:Nat}{cs:List Value}{v:Value}{xs:List Int}{x:Int}(hi:cs[i]?=some v)(hx:xs[0]?=some x)(hl:xs.length≤1000000):Fn Tryz.prog W 266 [.pointer (some ⟨b,i,none⟩)] [arr b 0 cs,sl aP 1 v xs] Value (fun _=>.int .i64 x) (fun _=>True) (fun u=>[arr b 0 (cs.set i u),sl aP 1 u (xs.eraseIdx 0)]):=by
 refine Fn.intro (N:=16) func266 rfl ntmps266 rfl fun F=>?_
 show ax _ _ _ _ _ _ [arr b 0 cs,sl aP 1 v xs,F]
 have hil:=(List.getElem?_eq_some_iff.1 hi).1
 have hxl:=(List.getElem?_eq_some_iff.1 hx).1
 refine J 9 ?_
 refine .p (.ld rfl (Cell.a hi)) ?_
 refine J 10 ?_
 refine .p (.ld rfl (Cell.a hi)) ?_
 refine .c call301 rfl (Hr (i:=0) hxl (by omega)) fun u13 _=>?_
 refine J 1 ?_
 refine .aw rfl (af.pn sizeOf23 rfl rfl (Nat.blt_eq.mpr hil)) ?_
 rintro _ _ ⟨rfl,rfl⟩
 exact JR 9 u13
theorem JI{W:World}{b i:Nat}{cs:List Value}{v:Value}{xs:List Int}{x:Int}(hi:cs[i]?=some v)(hx:xs[0]?=some x)(hl:xs.length≤1000000):Fn Tryz.prog W 267 [.pointer (some ⟨b,i,none⟩)] [arr b 0 cs,sl cM 1 v xs] Value (fun _=>.int .u64 x) (fun _=>True) (fun u=>[arr b 0 (cs.set i u),sl cM 1 u (xs.eraseIdx 0)]):=by
 refine Fn.intro (N:=16) func267 rfl ntmps267 rfl fun F=>?_
 show ax _ _ _ _ _ _ [arr b 0 cs,sl cM 1 v xs,F]
 have hil:=(List.getElem?_eq_some_iff.1 hi).1
 have hxl:=(List.getElem?_eq_some_iff.1 hx).1
 refine J 9 ?_
 refine .p (.ld rfl (Cell.a hi)) ?_
 refine J 10 ?_
 refine .p (.ld rfl (Cell.a hi)) ?_
 refine .c call302 rfl (Ht (i:=0) hxl (by omega)) fun u13 _=>?_
 refine J 1 ?_
 refine .aw rfl (af.pn sizeOf55 rfl rfl (Nat.blt_eq.mpr hil)) ?_
 rintro _ _ ⟨rfl,rfl⟩
 exact JR 9 u13
theorem JJ{W:World}{b i:Nat}{cs:List Value}{v:Value}{xs:List Ptr}{x:Ptr}(hi:cs[i]?=some v)(hx:xs[0]?=some x)(hl:xs.length≤1000000):Fn Tryz.prog W 268 [.pointer (some ⟨b,i,none⟩)] [arr b 0 cs,sl eO 2 v xs] Value (fun _=>.agg (eO x).toArray) (fun _=>True) (fun u=>[arr b 0 (cs.set i u),sl eO 2 u (xs.eraseIdx 0)]):=by
 refine Fn.intro (N:=16) func268 rfl ntmps268 rfl fun F=>?_
 show ax _ _ _ _ _ _ [arr b 0 cs,sl eO 2 v xs,F]
 have hil:=(List.getElem?_eq_some_iff.1 hi).1
 have hxl:=(List.getElem?_eq_some_iff.1 hx).1
 refine J 2 ?_
 refine .aw rfl (af.alloc rfl zeroValue363 rfl) ?_
 rintro _ _ ⟨b2,rfl,rfl⟩
 refine J 6 ?_
 refine .p (.ld rfl (Cell.a hi)) ?_
 refine J 2 ?_
 refine .aw rfl (af.alloc rfl zeroValue363 rfl) ?_
 rintro _ _ ⟨b3,rfl,rfl⟩
 refine J 8 ?_
 refine .p (.ld rfl (Cell.a hi)) ?_
 refine .c call303 rfl (Hq (i:=0) hxl (by omega)) fun u13 _=>?_
 refine J 1 ?_
 refine .aw rfl (af.pn sizeOf207 rfl rfl (Nat.blt_eq.mpr hil)) ?_
 rintro _ _ ⟨rfl,rfl⟩
 refine J 9 ?_
 refine .fp rfl rfl isAgg363 (by exact sizeOf363) Cells.a fun w s=>⟨u13,?_,trivial,aq .auto s⟩
 rfl
theorem FA{W:World}{b:Nat}{t:Tub}{who:Int}(hl:rW t){x:Int}:Fn Tryz.prog W 216 [ptr b,.int .i64 who,.int .u64 x] [ib b t] Unit (fun _=>.tuple #[.bool (t.put who x).1,.int .i64 (t.put who x).2.1,.bool (t.put who x).2.2.1]) (fun _=>True) (fun _=>[ib b (t.put who x).2.2.2]):=by
 refine Fn.intro (N:=61) func216 rfl ntmps216 rfl fun F=>?_
 show ax _ _ _ _ _ _ [ib b t,F]
 refine J 16 ?_
 refine .cg call265 rfl (tc hl) fun _ _=>?_
 refine JD 4 (fun h9=>?_) fun h9=>?_
 ·refine J 10 ?_
  rw[tZ h9]
  refine .lF rfl rfl rfl rfl fun w s=>⟨(),?_,trivial,aq .auto s⟩
  rfl
 ·refine J 2 ?_
  refine .o3 (C:=ib b t) .auto rfl ?_
  rintro vw vp vg -
  obtain⟨hl1,hl2,hl3⟩:=hl
  refine JD 9 (fun h17=>?_) fun h17=>?_
  ·refine J 2 ?_
   obtain⟨w,r,hw⟩:=vI (l:=t.bz) (by omega)
   refine J 3 ?_
   refine .c call266 rfl (JH (i:=3) (v:=vg) (xs:=t.bz) (x:=w) rfl (by rw[hw];rfl) (by omega)) fun u27 _=>?_
   rw[show t.bz.eraseIdx 0=r from by rw[hw];rfl]
   refine J 8 ?_
   rw[og h9 hw]
   refine .lF rfl rfl rfl rfl fun w s=>⟨(),?_,trivial,aq .auto s⟩
   rfl
  ·refine J 1 ?_
   refine .draw [] [1,1,1,1,1,1,1,1,1,1,1] rfl (by kernel_rfl) ?_
   have hg0:t.bz=[]:=zj (by omega)
   refine JD 13 (fun h28=>?_) fun h28=>?_
   ·refine J 8 ?_
    refine .aw rfl (af.gN 38 rfl rfl (by kernel_rfl)) ?_
    rintro _ _ ⟨b45,rfl,rfl⟩
    refine .aw rfl (af.fb (enc:=cM) (k:=1) x rfl underlying55 underlying55 typeInfo38 rfl rfl rfl (by decide) rfl rfl rfl .auto rfl .auto (by omega) rfl) ?_
    rintro _ _ ⟨v46,rfl,rfl⟩
    refine J 2 ?_
    refine .aw rfl (af.pn sizeOf55 rfl rfl rfl) ?_
    rintro _ _ ⟨rfl,rfl⟩
    refine J 12 ?_
    rw[lQ h9 hg0 h28]
    refine .lF rfl rfl rfl rfl fun w s=>⟨(),?_,trivial,aq .auto s⟩
    rfl
   ·refine J 12 ?_
    refine .p (.gB (fun v1 v2=>[v1,v2]) rfl rfl (by kernel_rfl)) ?_
    refine .aw rfl (af.gN 363 rfl rfl (by kernel_rfl)) ?_
    rintro _ _ ⟨b57,rfl,rfl⟩
    refine .aw rfl (af.fb (enc:=eO) (k:=2) (⟨who,x⟩:Ptr) rfl underlying207 underlying207 typeInfo363 rfl rfl rfl (by decide) rfl rfl rfl .auto rfl .auto (by omega) rfl) ?_
    rintro _ _ ⟨v58,rfl,rfl⟩
    refine J 2 ?_
    refine .aw rfl (af.pn sizeOf207 rfl rfl rfl) ?_
    rintro _ _ ⟨rfl,rfl⟩
    refine J 10 ?_
    rw[lR h9 hg0 h28]
    refine .lF rfl rfl rfl rfl fun w s=>⟨(),?_,trivial,aq .auto s⟩
    rfl
theorem FB{W:World}{b:Nat}{t:Tub}{who:Int}(hl:rW t):Fn Tryz.prog W 217 [ptr b,.int .i64 who] [ib b t] Unit (fun _=>.tuple #[.int .u64 (t.get who).1,.bool (t.get who).2.1,.int .i64 (t.get who).2.2.1,.bool (t.get who).2.2.2.1]) (fun _=>True) (fun _=>[ib b (t.get who).2.2.2.2]):=by
 refine Fn.intro (N:=64) func217 rfl ntmps217 rfl fun F=>?_
 show ax _ _ _ _ _ _ [ib b t,F]
 refine J 17 ?_
 refine .cg call265 rfl (tc hl) fun _ _=>?_
 refine JD 4 (fun h10=>?_) fun h10=>?_
 ·refine J 11 ?_
  rw[pH h10]
  refine .FY rfl rfl rfl rfl rfl fun w s=>⟨(),?_,trivial,aq .auto s⟩
  rfl
 ·refine J 2 ?_
  refine .o3 (C:=ib b t) .auto rfl ?_
  rintro vw vp vg -
  obtain⟨hl1,hl2,hl3⟩:=hl
  refine JD 9 (fun h18=>?_) fun h18=>?_
  ·refine J 2 ?_
   have hw0:t.words=[]:=zj (by omega)
   refine J 6 ?_
   refine .aw rfl (af.gN 3 rfl rfl (by kernel_rfl)) ?_
   rintro _ _ ⟨b31,rfl,rfl⟩
   refine .aw rfl (af.fb (enc:=aP) (k:=1) who rfl underlying23 underlying23 typeInfo3 rfl rfl rfl (by decide) rfl rfl rfl .auto rfl .auto (by omega) rfl) ?_
   rintro _ _ ⟨v32,rfl,rfl⟩
   refine J 2 ?_
   refine .aw rfl (af.pn sizeOf23 rfl rfl rfl) ?_
   rintro _ _ ⟨rfl,rfl⟩
   refine J 13 ?_
   rw[get_none h10 hw0]
   refine .FY rfl rfl rfl rfl rfl fun w s=>⟨(),?_,trivial,aq .auto s⟩
   rfl
  ·refine J 5 ?_
   obtain⟨x,r,hw⟩:=vI (l:=t.words) (by omega)
   refine J 3 ?_
   refine .c call267 rfl (JI (i:=1) (v:=vw) (xs:=t.words) (x:=x) rfl (by rw[hw];rfl) (by omega)) fun u38 _=>?_
   rw[show t.words.eraseIdx 0=r from by rw[hw];rfl]
   refine JD 14 (fun h44=>?_) fun h44=>?_
   ·refine J 11 ?_
    rw[mq h10 hw (zj (by omega))]
    refine .FY rfl rfl rfl rfl rfl fun w s=>⟨(),?_,trivial,aq .auto s⟩
    rfl
   ·refine J 4 ?_
    obtain⟨p,q,hp⟩:=vI (l:=t.bN) (by omega)
    refine J 3 ?_
    refine .c call268 rfl (JJ (i:=2) (v:=vp) (xs:=t.bN) (x:=p) rfl (by rw[hp];rfl) (by omega)) fun u49 _=>?_
    rw[show t.bN.eraseIdx 0=q from by rw[hp];rfl]
    refine .aw rfl (af.alloc rfl zeroValue363 rfl) ?_
    rintro _ _ ⟨b9,rfl,rfl⟩
    refine J 4 ?_
    refine .draw [arr b 0 [.int .i64 t.room,u38,u49,vg],arr b9 0 (eO p)] [0,0,0,0,0,1,1,2,2,1,1,3] rfl (by kernel_rfl) ?_
    refine J 7 ?_
    refine .d2 rfl Kept.auto (af.gN 38 rfl rfl (by kernel_rfl)) (by rintro _ _ ⟨b57,rfl,rfl⟩;exact Kept.auto) ?_
    rintro _ _ ⟨b57,rfl,rfl⟩
    refine .d2 rfl Kept.auto (af.fb (enc:=cM) (k:=1) p.x rfl underlying55 underlying55 typeInfo38 rfl rfl rfl (by decide) rfl rfl rfl .auto rfl .auto (by have h5:r.length+1=t.words.length:=(by rw[hw];rfl);omega) rfl) (by rintro _ _ ⟨v58,rfl,rfl⟩;exact Kept.auto) ?_
    rintro _ _ ⟨v58,rfl,rfl⟩
    refine J 2 ?_
    refine .d3 rfl (af.pn sizeOf55 rfl rfl rfl) ?_
    rintro _ _ ⟨rfl,rfl⟩
    refine J 3 ?_
    refine .draw [] [1,1,1,1,1,1,1] rfl (by kernel_rfl) ?_
    refine J 10 ?_
    rw[mr h10 hw hp]
    refine .FY rfl rfl rfl rfl rfl fun w s=>⟨(),?_,trivial,aq .auto s⟩
    rfl
theorem CN{W:World}{k:Int}{n:Nat}(hn:0<n)(hl:n≤1000000000):Fn Tryz.prog W 136 [.int .i64 k,.int .i64 (n:Int)] [] Unit (fun _=>.int .i64 ((pick k n:Nat):Int)) (fun _=>True) (fun _=>[]):=by
 refine Fn.intro (N:=12) func136 rfl ntmps136 rfl fun F=>?_
 show ax _ _ _ _ _ _ [F]
 refine J 9 ?_
 refine .p (.rem rfl rfl (by omega)) ?_
 refine J 1 ?_
 refine .p (.add rfl rfl (Aq hn hl)) ?_
 refine J 1 ?_
 refine .p (.dJ (Y.rem rfl rfl (by omega)) (rN hn)) ?_
 exact JR 4 ()
theorem KN{W:World}{A:aa}{x r:pz}{c:Nat}:Fn Tryz.prog W 264 [.agg (dY x).toArray,ptr c] [seps [arr c 0 (dY r),A]] Unit (fun _=>.bool (decide (x.who=r.who))) (fun _=>True) (fun _=>[seps [arr c 0 (dY r),A]]):=by
 refine Fn.intro (N:=9) func264 rfl ntmps264 rfl fun F=>?_
 show ax _ _ _ _ _ _ [seps [arr c 0 (dY r),A],F]
 refine .fR .auto ?_
 refine J 2 ?_
 refine .aw rfl (af.box rfl rfl rfl) ?_
 rintro _ _ ⟨b2,rfl,rfl⟩
 refine .mem (H':=[arr b2 0 (dY x),arr c 0 (dY r),A,F]) (fun w s=>s) ?_
 exact JR 14 ()
theorem FC{W:World}{b:Nat}{d:jB}{r:pz}(hl:d.wait.length≤1000000):Fn Tryz.prog W 215 [ptr b,.agg (dY r).toArray] [pA b d] Unit (fun _=>.int .i64 (d.ask r).1) (fun _=>True) (fun _=>[pA b (d.ask r).2]):=by
 refine Fn.intro (N:=40) func215 rfl ntmps215 rfl fun F=>?_
 show ax _ _ _ _ _ _ [pA b d,F]
 refine .o2 (C:=pA b d) .auto rfl ?_
 rintro vb vw -
 refine J 2 ?_
 refine .aw rfl (af.box rfl rfl rfl) ?_
 rintro _ _ ⟨b3,rfl,rfl⟩
 refine .mem (H':=[arr b3 0 (dY r),arr b 0 [vb,vw],sl cM 1 vb d.blocks,sl dY 4 vw d.wait,F]) (fun w s=>s) ?_
 refine J 6 ?_
 refine .draw [] [1,1,1,1,1,1,1,1,1,1,1,1,1,1,1,1,1,1] rfl (by kernel_rfl) ?_
 refine J 8 ?_
 apply bo.fu 9 22 13 [13,14,15,16,17,18,19,20,21,22] rfl
 ·intro h13
  exact JS 10
 ·intro h13
  exact JS 10
 refine JD 3 (fun h5=>?_) fun h5=>?_
 ·refine J 8 ?_
  rw[AA h5]
  exact JR 0 ()
 ·refine J 6 ?_
  refine .p (.makeFunc rfl rfl) ?_
  refine .c call263 rfl (tE (A:=seps [arr b3 0 (dY r),sl dY 4 vw d.wait]) (p:=fun x=>decide (x.who=r.who)) (Rd.kL (Rd.sl (.there .here))) (by omega) call264 (fun x _=>KN)) fun _ _=>?_
  refine .fR .auto ?_
  refine JD 3 (fun h23=>?_) fun h23=>?_
  ·refine J 8 ?_
   rw[DS h5 h23]
   exact JR 0 ()
  ·refine J 4 ?_
   refine .draw [arr b 0 [vb,vw],arr b3 0 (dY r)] [0,0,0,0,0,1,2,2,1,1,3] rfl (by kernel_rfl) ?_
   refine J 6 ?_
   refine .d2 rfl Kept.auto (af.gN 170 rfl rfl (by kernel_rfl)) (by rintro _ _ ⟨b36,rfl,rfl⟩;exact Kept.auto) ?_
   rintro _ _ ⟨b36,rfl,rfl⟩
   refine .mem (H':=[arr b36 0 (dY r),arr b3 0 (dY r),sl dY 4 vw d.wait,arr b 0 [vb,vw],sl cM 1 vb d.blocks,F]) (fun w s=>s) ?_
   refine .d2 rfl Kept.auto (af.fb (enc:=dY) (k:=4) r rfl underlying201 underlying201 typeInfo170 rfl rfl rfl (by decide) rfl rfl rfl .auto rfl .auto (by omega) rfl) (by rintro _ _ ⟨v37,rfl,rfl⟩;exact Kept.auto) ?_
   rintro _ _ ⟨v37,rfl,rfl⟩
   refine J 2 ?_
   refine .d3 rfl (af.pn sizeOf201 rfl rfl rfl) ?_
   rintro _ _ ⟨rfl,rfl⟩
   refine J 8 ?_
   rw[DT h5 h23]
   exact JR 0 ()
theorem CO{W:World}{b:Nat}{d:jB}{k:Int}(hl:d.wait.length≤1000000)(hb:∀ r∈d.wait,0≤r.block∧r.block<(d.blocks.length:Int)):Fn Tryz.prog W 92 [ptr b,.int .i64 k] [pA b d] Unit (fun _=>.tuple #[.agg (dY (d.done k).1).toArray,.int .u64 (d.done k).2.1,.bool (d.done k).2.2.1]) (fun _=>True) (fun _=>[pA b (d.done k).2.2.2]):=by
 refine Fn.intro (N:=66) func92 rfl ntmps92 rfl fun F=>?_
 show ax _ _ _ _ _ _ [pA b d,F]
 refine .o2 (C:=pA b d) .auto rfl ?_
 rintro vb vw -
 refine J 2 ?_
 refine .aw rfl (af.alloc rfl zeroValue170 rfl) ?_
 rintro _ _ ⟨b4,rfl,rfl⟩
 refine JD 19 (fun h18=>?_) fun h18=>?_
 ·refine J 2 ?_
  refine .p (.tu ([(.int .i64 0),(.int .i64 0),(.bool false),(.int .u64 0)]) (by kernel_rfl)) ?_
  refine J 7 ?_
  rw[mu (show d.wait.length=0 by omega)]
  refine .yP rfl rfl isAgg170 (by exact sizeOf170) Cells.a rfl rfl fun w s=>⟨(),?_,trivial,aq .auto s⟩
  rfl
 ·refine J 4 ?_
  have hpk:pick k d.wait.length<d.wait.length:=eX (by omega)
  have hr0:=getD_some (d:=rX) hpk
  obtain⟨r,hr⟩:∃ r,d.wait.getD (pick k d.wait.length) rX=r:=⟨_,rfl⟩
  rw[hr] at hr0
  have hbr:=hb r (List.mem_of_getElem? hr0)
  refine J 6 ?_
  refine .c call136 rfl (CN (by omega) (by omega)) fun _ _=>?_
  refine J 10 ?_
  refine .p (.hY (pick k d.wait.length) underlying201 sizeOf170 rfl rfl Rd.s rfl hpk) ?_
  refine .p (.la rfl (Cells.rd Rd.s hr0)) ?_
  refine .aw rfl (af.alloc rfl zeroValue170 rfl) ?_
  rintro _ _ ⟨b8,rfl,rfl⟩
  refine J 13 ?_
  refine .c call137 rfl (Hp hpk (by omega)) fun u42 _=>?_
  refine J 2 ?_
  refine .aw rfl (af.pn sizeOf201 rfl rfl rfl) ?_
  rintro _ _ ⟨rfl,rfl⟩
  refine JD 9 (fun h46=>?_) fun h46=>?_
  ·refine J 1 ?_
   refine .draw [] [1,1,1,1,1,1,1,1,1,3] rfl (by kernel_rfl) ?_
   refine J 8 ?_
   obtain⟨y,hy⟩:=aB (show r.block.toNat<d.blocks.length by omega)
   refine .p (.ix r.block.toNat rfl rfl (by omega) (by omega)) ?_
   refine .d3 rfl (af.gE (x':=r.x) rfl rfl sizeOf38 rfl hy (by decide) rfl .auto) ?_
   rintro _ _ ⟨rfl,rfl⟩
   refine J 12 ?_
   rw[kQ (show ¬d.wait.length=0 by omega) hr h46]
   refine .yP rfl rfl isAgg170 (by exact sizeOf170) Cells.a rfl rfl fun w s=>⟨(),?_,trivial,aq .auto s⟩
   rfl
  ·refine J 3 ?_
   refine .draw [arr b8 0 (dY r),arr b 0 [vb,u42],sl cM 1 vb d.blocks] [1,0,0,0,0,0,0,0,0,2,1,1] rfl (by kernel_rfl) ?_
   refine J 7 ?_
   have hy:=getD_some (d:=(0:Int)) (show r.block.toNat<d.blocks.length by omega)
   refine .q (.ix r.block.toNat rfl rfl (by omega) (by omega)) ?_
   refine J 1 ?_
   refine .d2 rfl Kept.auto (af.tf (by exact sizeOf170) rfl rfl rfl (by rfl)) (by rintro _ _ ⟨rfl,rfl⟩;exact Kept.auto) ?_
   rintro _ _ ⟨rfl,rfl⟩
   refine J 5 ?_
   rw[mv (show ¬d.wait.length=0 by omega) hr h46]
   refine .yP rfl rfl isAgg170 (by exact sizeOf170) Cells.a rfl rfl fun w s=>⟨(),?_,trivial,aq .auto s⟩
   rfl
end Go.SLYtefdijgllbkmfaaGreat
namespace Go.SLYtefdijgllbkmfaaGreat
open Go Go.RowKit Go.Proofs
end Go.SLYtefdijgllbkmfaaGreat
namespace Go.Proofs
open Go.Shelf
def Tryz.lays189_ren : Go.Shelf.Ren := ⟨fun | 189 => 138 | 125 => 191 | 257 => 190 | 128 => 233 | 129 => 234 | 294 => 224 | 295 => 225 | 296 => 226 | 297 => 227 | 298 => 228 | 299 => 229 | 216 => 230 | 300 => 231 | 301 => 232 | 328 => 269 | 329 => 270 | 330 => 271 | 331 => 272 | 332 => 273 | 215 => 274 | 343 => 304 | n => n, fun | 28 => 23 | 3 => 3 | 46 => 299 | 0 => 0 | 51 => 343 | 53 => 38 | 4 => 4 | 183 => 337 | 182 => 336 | 131 => 313 | 5 => 5 | 9 => 9 | 218 => 368 | 222 => 371 | 228 => 408 | 229 => 409 | n => n, fun | n => n⟩
theorem Tryz.lays189 : Go.Proofs.Lays.n189 Tryz.prog Tryz.lays189_ren := {
  mixed := by kernel_rfl
  f125 := Tryz.func191.trans (congrArg some (by kernel_rfl))
  f128 := Tryz.func233.trans (congrArg some (by kernel_rfl))
  f129 := Tryz.func234.trans (congrArg some (by kernel_rfl))
  f189 := Tryz.func138.trans (congrArg some (by kernel_rfl))
  f215 := Tryz.func274.trans (congrArg some (by kernel_rfl))
  f216 := Tryz.func230.trans (congrArg some (by kernel_rfl))
  f257 := Tryz.func190.trans (congrArg some (by kernel_rfl))
  f294 := Tryz.func224.trans (congrArg some (by kernel_rfl))
  f295 := Tryz.func225.trans (congrArg some (by kernel_rfl))
  f296 := Tryz.func226.trans (congrArg some (by kernel_rfl))
  f297 := Tryz.func227.trans (congrArg some (by kernel_rfl))
  f298 := Tryz.func228.trans (congrArg some (by kernel_rfl))
  f299 := Tryz.func229.trans (congrArg some (by kernel_rfl))
  f300 := Tryz.func231.trans (congrArg some (by kernel_rfl))
  f301 := Tryz.func232.trans (congrArg some (by kernel_rfl))
  f328 := Tryz.func269.trans (congrArg some (by kernel_rfl))
  f329 := Tryz.func270.trans (congrArg some (by kernel_rfl))
  f330 := Tryz.func271.trans (congrArg some (by kernel_rfl))
  f331 := Tryz.func272.trans (congrArg some (by kernel_rfl))
  f332 := Tryz.func273.trans (congrArg some (by kernel_rfl))
  f343 := Tryz.func304.trans (congrArg some (by kernel_rfl))
  t0 := Tryz.underlying0
  a0 := Tryz.isAgg0
  z0 := Tryz.sizeOf0
  v0 := Tryz.zeroValue0
  t3 := Tryz.underlying3
  a3 := Tryz.isAgg3
  z3 := Tryz.sizeOf3
  v3 := Tryz.zeroValue3
  t4 := Tryz.underlying4
  a4 := Tryz.isAgg4
  z4 := Tryz.sizeOf4
  v4 := Tryz.zeroValue4
  t5 := Tryz.underlying5
  a5 := Tryz.isAgg5
  z5 := Tryz.sizeOf5
  v5 := Tryz.zeroValue5
  t9 := Tryz.underlying9
  a9 := Tryz.isAgg9
  z9 := Tryz.sizeOf9
  v9 := Tryz.zeroValue9
  t28 := Tryz.underlying23
  a28 := Tryz.isAgg23
  z28 := Tryz.sizeOf23
  v28 := Tryz.zeroValue23
  t46 := Tryz.underlying299
  a46 := Tryz.isAgg299
  z46 := Tryz.sizeOf299
  v46 := Tryz.zeroValue299
  t51 := Tryz.underlying343
  a51 := Tryz.isAgg343
  z51 := Tryz.sizeOf343
  v51 := Tryz.zeroValue343
  t53 := Tryz.underlying38
  a53 := Tryz.isAgg38
  z53 := Tryz.sizeOf38
  v53 := Tryz.zeroValue38
  t131 := Tryz.underlying313
  a131 := Tryz.isAgg313
  z131 := Tryz.sizeOf313
  v131 := Tryz.zeroValue313
  t182 := Tryz.underlying336
  a182 := Tryz.isAgg336
  z182 := Tryz.sizeOf336
  v182 := Tryz.zeroValue336
  t183 := Tryz.underlying337
  a183 := Tryz.isAgg337
  z183 := Tryz.sizeOf337
  v183 := Tryz.zeroValue337
  t218 := Tryz.underlying368
  a218 := Tryz.isAgg368
  z218 := Tryz.sizeOf368
  v218 := Tryz.zeroValue368
  t222 := Tryz.underlying371
  a222 := Tryz.isAgg371
  z222 := Tryz.sizeOf371
  v222 := Tryz.zeroValue371
  t228 := Tryz.underlying408
  a228 := Tryz.isAgg408
  z228 := Tryz.sizeOf408
  v228 := Tryz.zeroValue408
  t229 := Tryz.underlying409
  a229 := Tryz.isAgg409
  z229 := Tryz.sizeOf409
  v229 := Tryz.zeroValue409 }
open Go.Sort Go.RowKit in
theorem Tryz.slices_Sort_int (blk off cap : Nat) (zs : List Int) (w : World) (hH : Holds (Value.int .i64) w blk off zs.toArray) (hblk : blk < w.heap.size) (hsz : zs.length < 4611686018427387904) :
    Calls Tryz.prog 138 #[.slice (some ⟨blk, off, none⟩) zs.length cap] w fun e w' =>
      e = .returned (.tuple #[]) ∧ ∃ n os, w' = grow (putRow (Value.int .i64) (Sort.ahead w n) blk off (zs.mergeSort fun x y => decide (x ≤ y)).toArray) os := Any.slices_Sort_int Tryz.lays189 blk off cap zs w hH hblk hsz
open Go.RowKit Go.Sort in
/-- .. and plain. (LAID: no walk: one application.) -/
theorem Tryz.slices_Sort_int_none (p : Option Addr) (cap : Nat) (w : World) :
    Calls Tryz.prog 138 #[.slice p 0 cap] w fun e w' => e = .returned (.tuple #[]) ∧ w' = w := Any.slices_Sort_int_none Tryz.lays189 p cap w

end Go.Proofs
namespace Go.SLYtefdijgllbkmfaaGreat
open Go Go.RowKit Go.Sort Go.Proofs
theorem mi:∀ l:List Int,rows aP l=l.map (Value.int .i64)
 | []=>rfl
 | x::l=>by rw[fH,mi l];rfl
theorem Sat.setCells{W:World}{R:aa}{b:Nat}:∀ (vs:List Value) {off:Nat} {w:World} {pre post:List Value} (cs:List Value),cs.length=vs.length→pre.length=off→Sat W w (sep (arr b 0 (pre++cs++post)) R)→Sat W (w.setCells b off vs) (sep (arr b 0 (pre++vs++post)) R)
 | [],off,w,pre,post,cs,hl,hp,s=>by
  obtain rfl:=List.eq_nil_of_length_eq_zero hl
  exact s
 | v::vs,off,w,pre,post,cs,hl,hp,s=>by
  obtain⟨c,cs,rfl⟩:∃ c r,cs=c::r:=by
   cases cs with
   | nil=>cases hl
   | cons c r=>exact⟨c,r,rfl⟩
  have h1:=Sat.setCell (off:=0) s (i:=off) v (by simp;omega)
  rw[Nat.zero_add] at h1
  have e:(pre++(c::cs)++post).set off v=(pre++[v])++cs++post:=by
   subst hp
   simp
  rw[e] at h1
  have:=Sat.setCells vs (off:=off+1) (pre:=pre++[v]) (post:=post) cs (by simpa using hl) (by simp[hp]) h1
  show Sat W ((w.setCell ⟨b,off,none⟩ v).setCells b (off+1) vs) _
  simpa using this
theorem KO{W:World}{v:Value}{xs:List Int}(hl:xs.length≤1000000000):Fn Tryz.prog W 138 [v] [sl aP 1 v xs] Unit (fun _=>.tuple #[]) (fun _=>True) (fun _=>[sl aP 1 v (gq xs)]):=fun F w hs=>by
 simp only[seps,aO] at hs ⊢
 rcases hs.qn with ⟨⟨a,rfl⟩,rfl,s⟩ | ⟨b,cap,sp,rfl,hle,hk,hsp,s⟩
 ·refine(Go.Proofs.Tryz.slices_Sort_int_none a 0 w).mono fun e w' ⟨he,hw⟩=>⟨(),he,trivial,?_⟩
  rw[hw];exact hs
 ·have hrow:∀ j,j<xs.length→(rows aP xs++sp)[j]?=some (.int .i64 (xs.getD j 0)):=fun j hj=>by
   rw[mi,List.getElem?_append_left (by simpa using hj),List.getElem?_map,getD_some (d:=0) hj];rfl
  have hH:Holds (Value.int .i64) w b 0 xs.toArray:=fun j hj=>by
   have hj':j<xs.length:=by simpa using hj
   obtain⟨h1,h2⟩:=fm s (hrow j hj')
   refine⟨?_,re s (i:=j) (List.getElem?_eq_some_iff.1 (hrow j hj')).1⟩
   rw[h2]
   congr 1
   congr 1
   rw[getElem!_pos xs.toArray j hj]
   simp[List.getD_eq_getElem?_getD,hj']
  by_cases hx0:xs=[]
  ·subst hx0
   refine(Go.Proofs.Tryz.slices_Sort_int_none (some ⟨b,0,none⟩) cap w).mono fun e w' ⟨he,hw⟩=>⟨(),he,trivial,?_⟩
   rw[hw];exact hs
  ·have hb:b<w.heap.size:=by
    have hpos:0<xs.length:=by
     rcases Nat.eq_zero_or_pos xs.length with h | h
     ·exact absurd (List.eq_nil_of_length_eq_zero h) hx0
     ·exact h
    exact u6 (fm s (hrow 0 hpos)).2
   refine(Go.Proofs.Tryz.slices_Sort_int b 0 cap xs w hH hb (by omega)).mono fun e w' ⟨he,q,os,hw⟩=>⟨(),he,trivial,?_⟩
   rw[hw,zO,Lib.sorted_world (Value.int .i64) w b 0 q xs.toArray (gq xs) os hH (by rw[kB];simp)]
   have s1:Sat W (w.drewN q) (sep (arr b 0 ([]++rows aP xs++sp)) F):=s.below ⟨rfl,rfl,rfl,Nat.le_refl _,fun _ _=>rfl⟩
   have s2:=Sat.setCells ((gq xs).map (Value.int .i64)) (off:=0) (pre:=[]) (post:=sp) (rows aP xs) (by rw[mi];simp[kB]) rfl s1
   have s3:Sat W (grow ((w.drewN q).setCells b 0 ((gq xs).map (Value.int .i64))) os) (sep (arr b 0 ([]++(gq xs).map (Value.int .i64)++sp)) F):=s2.below ⟨rfl,rfl,rfl,by simp[grow],fun k hk=>by simp[grow,Array.getElem?_append_left hk]⟩
   rw[List.nil_append, ← mi] at s3
   have:=Sat.qm (enc:=aP) (k:=1) (xs:=gq xs) (cap:=cap) (by rw[kB];exact hle) (fun _ _=>rfl) (by rw[kB];exact hsp) s3
   rwa [kB,mi] at this
end Go.SLYtefdijgllbkmfaaGreat
namespace Go.SLYtefdijgllbkmfaaGreat
open Go Go.RowKit Go.Proofs Go.Proofs.Tryz
attribute [local irreducible] ax aS bo bY bP Y
theorem yG{W:World}{b:Nat}{w:jW}{who n:Int}(hn:0≤w.now∧w.now≤1099511627776):Fn Tryz.prog W 218 [ptr b,.int .i64 who,.int .i64 n] [nN b w] Unit (fun _=>.int .i64 (w.sleep who n).1) (fun _=>True) (fun _=>[nN b (w.sleep who n).2]):=by
 refine Fn.intro (N:=38) func218 rfl ntmps218 rfl fun F=>?_
 show ax _ _ _ _ _ _ [nN b w,F]
 refine .o1 (C:=nN b w) .auto rfl ?_
 rintro m -
 refine J 16 ?_
 apply aS.fu 3 17 14 [14,15,16,17] rfl
 ·intro h14
  exact JS 4
 ·intro h14
  exact JS 4
 refine JD 3 (fun h7=>?_) fun h7=>?_
 ·refine J 8 ?_
  rw[show w.sleep who n=(1,w) from by unfold jW.sleep;rw[if_pos (by simpa using h7)]]
  exact JR 0 ()
 ·refine J 7 ?_
  refine .p (.KJ underlying204 underlying3 zeroValue3 rfl rfl .auto) ?_
  refine JD 4 (fun h18=>?_) fun h18=>?_
  ·refine J 8 ?_
   rw[show w.sleep who n=(4,w) from by unfold jW.sleep;rw[if_neg (by simpa using h7),if_pos h18]]
   exact JR 0 ()
  ·refine J 4 ?_
   refine .draw [] [1,1,1,1,1,1,1,1,1,1,1,1,3] rfl (by kernel_rfl) ?_
   simp only[Bool.or_eq_false_iff,decide_eq_false_iff_not] at h7
   refine J 10 ?_
   refine .p (.add rfl rfl (by omega)) ?_
   refine .p (.qq rfl rfl) ?_
   refine .d3 rfl (af.mapSet underlying204 underlying3 rfl rfl rfl .auto) ?_
   rintro _ _ ⟨rfl,rfl⟩
   refine J 8 ?_
   rw[show w.sleep who n=(0,{w with dV:=mapSet w.dV who (min (w.now+n) 1099511627776) }) from by unfold jW.sleep;rw[if_neg (by omega),if_neg h18]]
   exact JR 0 ()
theorem z7{W:World}{b:Nat}{w:jW}(hn:0≤w.now∧w.now≤1099511627776)(hl:w.dV.length≤1000000):Fn Tryz.prog W 96 [ptr b] [nN b w] Value (fun u=>u) (fun _=>True) (fun u=>[sl aP 1 u w.due,nN b w.tick.2]):=by
 refine Fn.intro (N:=54) func96 rfl ntmps96 rfl fun F=>?_
 show ax _ _ _ _ _ _ [nN b w,F]
 refine .o1 (C:=nN b w) .auto rfl ?_
 rintro m -
 refine J 12 ?_
 refine .nE rfl ?_
 refine J 9 ?_
 refine .p (.add rfl rfl (by omega)) ?_
 refine .p (.qq rfl rfl) ?_
 refine J 17 ?_
 refine .o2 (C:=mZ m w.dV) .auto rfl ?_
 rintro es c ho
 have hel:es.length=w.dV.length:=by have:=congrArg List.length ho.1;simpa using this
 refine .aw rfl (af.Jz rfl underlying204 rfl .auto) ?_
 rintro _ _ ⟨it,rfl,rfl⟩
 refine J 3 ?_
 refine .da (X:=List MapEntry×Value) [3,4,5,24,25,26,27,28,29,30,31,32,33,34,35,36,37,38] (fun z=>es.length+1-z.1.length) (fun z=>iC es z.1) (fun z=>[(3,some z.2)]) (fun z=>[H9 it m c z.1,sl aP 1 z.2 (kC (min (w.now+1) 1099511627776) z.1),iS m (.map es.toArray c),arr b 0 [.int .i64 (min (w.now+1) 1099511627776),.map (some m)],F]) ([],.slice none 0 0) ?_ ?_ ?_ ?_
 ·exact iC.zero es
 ·exact⟨rfl,trivial⟩
 ·exact fun w s=>aK.kept .auto w s
 rintro⟨seen,u⟩ hS
 simp only at hS
 have hSl:=hS.len
 have hdl:=G9 (min (w.now+1) 1099511627776) seen
 refine J 2 ?_
 refine .aw rfl (af.eG rfl rfl .auto .auto ho.2.2.1) ?_
 rintro _ _ ⟨o,ho2,rfl,rfl⟩
 refine .p (.extract (vs:=nextA o) rfl (Jy o)) ?_
 refine JD 3 (fun h25=>?_) fun h25=>?_
 ·refine J 5 ?_
  obtain⟨e,rfl⟩:∃ e,o=some e:=Option.isSome_iff_exists.1 h25
  obtain⟨he,hne⟩:=ho2.2 e rfl
  have hkv:=(E7 ho).2 e he
  have hS2:=hS.next he hne
  have hS3:=hS2.len
  rw[List.length_append] at hS3
  simp only[List.length_cons,List.length_nil] at hS3
  refine .p (.JA rfl .auto .auto he ho.2.2.2) ?_
  rw[hkv.1,hkv.2]
  refine JD 16 (fun h34=>?_) fun h34=>?_
  ·refine J 3 ?_
   refine .aw rfl (af.gN 3 rfl rfl (by kernel_rfl)) ?_
   rintro _ _ ⟨b37,rfl,rfl⟩
   refine .aw rfl (af.fb (enc:=aP) (k:=1) (sR e).1 rfl underlying23 underlying23 typeInfo3 rfl rfl rfl (by decide) rfl rfl rfl .auto rfl .auto (by dsimp only;omega) rfl) ?_
   rintro _ _ ⟨v38,rfl,rfl⟩
   refine J 3 ?_
   refine .bq (seen++[e],v38) .auto rfl ?_ ?_ ?_ ?_
   ·show es.length+1-(seen++[e]).length<es.length+1-seen.length;rw[List.length_append];simp only[List.length_cons,List.length_nil];omega
   ·exact hS2
   ·exact⟨rfl,trivial⟩
   ·show ∀ w,Sat _ w _→Sat _ w (seps [_,sl aP 1 v38 (kC _ (seen++[e])),_,_,F])
    rw[G8 h34]
    exact fun w s=>aK.kept .auto w s
  ·refine J 2 ?_
   refine .bq (seen++[e],u) .auto rfl ?_ ?_ ?_ ?_
   ·show es.length+1-(seen++[e]).length<es.length+1-seen.length;rw[List.length_append];simp only[List.length_cons,List.length_nil];omega
   ·exact hS2
   ·exact⟨rfl,trivial⟩
   ·show ∀ w,Sat _ w _→Sat _ w (seps [_,sl aP 1 u (kC _ (seen++[e])),_,_,F])
    rw[JB h34]
    exact fun w s=>aK.kept .auto w s
 ·have hall:=ho2.1 (by cases o with
   | none=>rfl
   | some e=>cases h25)
  refine J 8 ?_
  refine .to (A:=mZ m w.dV) (Bs:=[iS m (.map es.toArray c)]) .auto (fun h a=>⟨es,c,ho,a⟩) ?_
  refine .c call138 rfl (KO (xs:=kC (min (w.now+1) 1099511627776) seen) (by omega)) fun _ _=>?_
  rw[Bk ho hS hall]
  have hdw:w.due.length≤1000000:=by rw[← Bk ho hS hall,kB];omega
  refine J 11 ?_
  refine .da (X:=Nat) [7,43,44,45,46,47,48,49,50,51,52] (fun k=>w.due.length-k) (fun k=>k≤w.due.length) (fun k=>[(43,some (.int .i64 (k:Int)))]) (fun k=>[mZ m ((w.due.take k).foldl dQ w.dV),sl aP 1 u w.due,arr b 0 [.int .i64 (min (w.now+1) 1099511627776),.map (some m)],F]) 0 ?_ ?_ ?_ ?_
  ·exact Nat.zero_le _
  ·exact⟨rfl,trivial⟩
  ·exact fun w s=>aK.kept .auto w s
  rintro k hk
  refine JD 6 (fun h44=>?_) fun h44=>?_
  ·obtain⟨x,hx⟩:=aB (show k<w.due.length by omega)
   refine J 7 ?_
   refine .p (.lr rfl hx) ?_
   refine J 9 ?_
   refine .aw rfl (af.dQ underlying204 underlying3 rfl rfl .auto rfl) ?_
   rintro _ _ ⟨rfl,rfl⟩
   refine J 7 ?_
   refine .bq (k+1) .auto rfl ?_ ?_ ?_ ?_
   ·omega
   ·omega
   ·exact⟨rfl,trivial⟩
   ·show ∀ w2,Sat _ w2 _→Sat _ w2 (seps [mZ m ((w.due.take (k+1)).foldl dQ w.dV),_,_,F])
    rw[cx hx,List.foldl_append]
    exact fun w s=>aK.kept .auto w s
  ·obtain rfl:k=w.due.length:=by omega
   rw[List.take_length]
   refine J 12 ?_
   show bY W 54 (bodyPost _ _ (fun e w2=>∃ u,e=_∧True∧Sat W w2 (sep (seps [sl aP 1 u w.due,nN b ⟨min (w.now+1) 1099511627776,w.due.foldl dQ w.dV⟩]) F))) _ _ _
   exact JR 0 u
end Go.SLYtefdijgllbkmfaaGreat
