/- Walks of functions, and what they compute. Conditions: none, this text proves no statement. -/
import Derived.Test.YtefdijgllbkmfaaGreatG06
import Derived.Test.YtefdijgllbkmfaaGreatProg
import Derived.Test.YtefdijgllbkmfaaGreatG12
import Derived.Test.YtefdijgllbkmfaaGreatG05
import Derived.KernelRfl
import Derived.Test.YtefdijgllbkmfaaGreatG09
import Derived.Test.YtefdijgllbkmfaaGreatG10
set_option maxRecDepth 20000
set_option maxHeartbeats 4000000
namespace Go.SLYtefdijgllbkmfaaGreat
open Go Go.RowKit Go.Proofs Go.Proofs.Tryz
attribute [local irreducible] ax aP bA cp bF Y
theorem oW{W:World}{A:aa}{v u:Value}{xs ys:List Int}(hv:Rd W [A] aH 1 v xs)(hu:Rd W [A] aH 1 u ys)(hl:xs.length≤1000000000):Fn Tryz.prog W 18 [v,u] [A] Unit (fun _=>.bool (decide (xs=ys))) (fun _=>True) (fun _=>[A]):=by
 refine Fn.intro (N:=26) func18 rfl ntmps18 rfl fun F=>?_
 haveI hRI:∀ (H:List aa) [bW H A],aJ W H v aH 1 xs:=fun H h=>⟨hv.at h.has⟩
 haveI hRJ:∀ (H:List aa) [bW H A],aJ W H u aH 1 ys:=fun H h=>⟨hu.at h.has⟩
 show ax _ _ _ _ _ _ [A,F]
 refine JD 15 (fun h10=>?_) fun h10=>?_
 ·refine J 7 ?_
  refine .aF rfl rfl fun w s=>⟨(),?_,trivial,ar .auto s⟩
  rw[decide_eq_false (fun e=>h10 (by rw[e]))]
 ·refine J 9 ?_
  refine .df (X:=Nat) [4,5,11,12,13,14,15,16,17,18,19,20,21,22,23,24,25] (fun k=>xs.length-k) (fun k=>k≤xs.length∧xs.take k=ys.take k) (fun k=>[(5,some (.int .i64 (k:Int)))]) (fun k=>[A,F]) 0 ?_ ?_ ?_ ?_
  ·exact⟨Nat.zero_le _,rfl⟩
  ·exact⟨rfl,trivial⟩
  ·exact fun w s=>aM.kept .auto w s
  rintro k ⟨hk,hn⟩
  refine JD 9 (fun h14=>?_) fun h14=>?_
  ·refine J 5 ?_
   refine .draw [] [1,1,1,1,1,1,1,1,1] rfl (by kernel_rfl) ?_
   obtain⟨x,hx⟩:=aB (show k<xs.length by omega)
   obtain⟨y,hy⟩:=aB (show k<ys.length by omega)
   refine J 3 ?_
   refine .p (.lr rfl hx) ?_
   refine J 3 ?_
   refine .p (.lr rfl hy) ?_
   refine JD 3 (fun h25=>?_) fun h25=>?_
   ·refine J 11 ?_
    refine .aF rfl rfl fun w s=>⟨(),?_,trivial,ar .auto s⟩
    rw[decide_eq_false (fun e=>h25 (by rw[e] at hx;exact Option.some.inj (hx.symm.trans hy)))]
   ·refine J 8 ?_
    refine .bB (k+1) .auto rfl ?_ ?_ ?_ ?_
    ·first | omega | (dsimp only;omega)
    ·exact⟨by omega,by rw[dc hx,dc hy,hn,Decidable.of_not_not h25]⟩
    ·exact⟨rfl,trivial⟩
    ·exact fun w s=>aM.kept .auto w s
  ·refine J 11 ?_
   obtain rfl:k=xs.length:=by omega
   rw[List.take_length,List.take_of_length_le (by omega)] at hn
   refine .aF rfl rfl fun w s=>⟨(),?_,trivial,ar .auto s⟩
   rw[decide_eq_true hn]
theorem CG{W:World}{x y:Nat}:Fn Tryz.prog W 67 [Eg x 3,Eg y 2] [] (Nat×Nat×Nat) (fun z=>.agg (ff (Eh x y z.1 z.2.1 z.2.2)).toArray) (fun _=>True) (fun z=>[arr z.1 0 [Eg x 3,Eg y 2],arr z.2.1 0 [.int .i64 0],arr z.2.2 0 [.int .i64 1]]):=by
 refine Fn.intro (N:=11) func67 rfl ntmps67 rfl fun F=>?_
 show ax _ _ _ _ _ _ [F]
 refine J 2 ?_
 refine .aw rfl (af.alloc rfl zeroValue25 rfl) ?_
 rintro _ _ ⟨b4,rfl,rfl⟩
 refine J 6 ?_
 refine .aw rfl (af.gD 128 rfl rfl (by kernel_rfl)) ?_
 rintro _ _ ⟨b7,rfl,rfl⟩
 refine .aw rfl (af.gD 3 rfl rfl (by kernel_rfl)) ?_
 rintro _ _ ⟨b8,rfl,rfl⟩
 refine .aw rfl (af.gD 3 rfl rfl (by kernel_rfl)) ?_
 rintro _ _ ⟨b9,rfl,rfl⟩
 refine .p (.Jl (fun _ _ _ _ _ _ _=>ff (Eh x y b7 b8 b9)) rfl rfl rfl rfl rfl rfl rfl (by kernel_rfl)) ?_
 refine J 4 ?_
 refine .fh rfl rfl isAgg25 (by exact sizeOf25) Cells.a fun w s=>⟨(b7,b8,b9),?_,trivial,ar .auto s⟩
 rfl
theorem qz{W:World}  : Fn Tryz.prog W 11 [] [] Unit (fun _=>.bool true) (fun _=>True) (fun _=>[]):=by
 refine Fn.intro (N:=104) func11 rfl ntmps11 rfl fun F=>?_
 show ax _ _ _ _ _ _ [F]
 refine J 7 ?_
 refine .p (.Ba (fun v1 v2 v3=>[v1,v2,(.int .i64 0),(.int .i64 0),v3]) rfl rfl rfl (by kernel_rfl)) ?_
 refine .p (.Ba (fun v1 v2 v3=>[v1,v2,v3,(.int .i64 0),(.int .u64 0)]) rfl rfl rfl (by kernel_rfl)) ?_
 refine .p (.gI (fun v1 v2=>[v1,v2,(.int .i64 0),(.int .i64 0),(.int .u64 0)]) rfl rfl (by kernel_rfl)) ?_
 refine .aw rfl (af.gD 131 rfl rfl (by kernel_rfl)) ?_
 rintro _ _ ⟨b16,rfl,rfl⟩
 refine .p (.Ba (fun v1 v2 v3=>[v1,v2,(.int .i64 0),(.int .i64 0),v3]) rfl rfl rfl (by kernel_rfl)) ?_
 refine .p (.gI (fun v1 v2=>[v1,v2,(.int .i64 0),(.int .i64 0),(.int .u64 0)]) rfl rfl (by kernel_rfl)) ?_
 refine .aw rfl (af.gD 131 rfl rfl (by kernel_rfl)) ?_
 rintro _ _ ⟨b19,rfl,rfl⟩
 refine .aw rfl (af.ed rfl call67 rfl (CG (x:=b16) (y:=b19)) .auto) ?_
 rintro _ _ ⟨⟨z1,z2,z3⟩, -,rfl,rfl⟩
 refine .c call9 rfl (xQ (A:=La b16 b19 z1 z2 z3) (v:=Eh b16 b19 z1 z2 z3) F5 ⟨by show 2≤_;decide,by show 1≤_;decide,by show 1≤_;decide⟩) fun o ho=>?_
 rw[show(Eh b16 b19 z1 z2 z3).p=Jg from rfl,Hp] at ho ⊢
 obtain⟨kb,rfl⟩:=Option.isSome_iff_exists.1 ho
 refine .fr (A:=optH (fun b=>eW b (Spc.new Jg)) (some kb)) (Bs:=[eW kb BO]) .auto wO ?_
 refine JD 18 (fun h29=>?_) fun h29=>?_
 ·cases h29
 ·refine J 5 ?_
  refine .c call40 rfl (ma (s:=BO) (Hq.sK (by decide))) fun u32 _=>?_
  rw[KH,show(BO.run 0 0).2.2=BP from rfl]
  refine J 3 ?_
  refine .aw rfl (af.alloc rfl zeroValue93 rfl) ?_
  rintro _ _ ⟨b3,rfl,rfl⟩
  refine .aw rfl (af.sP (vs:=[.bool false,.bool false,.bool false]) (by exact sizeOf93) rfl rfl rfl rfl) ?_
  rintro _ _ ⟨rfl,rfl⟩
  refine J 6 ?_
  refine .c call40 rfl (ma (s:=BP) (Hr.sK (by decide))) fun u37 _=>?_
  rw[KI,show(BP.run 0 0).2.2=Ei from rfl]
  refine J 3 ?_
  refine .aw rfl (af.alloc rfl zeroValue93 rfl) ?_
  rintro _ _ ⟨b5,rfl,rfl⟩
  refine .aw rfl (af.sP (vs:=[.bool true,.bool false,.bool false]) (by exact sizeOf93) rfl rfl rfl rfl) ?_
  rintro _ _ ⟨rfl,rfl⟩
  refine J 6 ?_
  refine .c call40 rfl (ma (s:=Ei) (Ht.sK (by decide))) fun u41 _=>?_
  rw[show(Ei.run 1 0).2.2=BQ from rfl]
  refine J 5 ?_
  refine .c call40 rfl (ma (s:=BQ) (Hu.sK (by decide))) fun u44 _=>?_
  rw[KJ,show(BQ.run 1 0).2.2=BR from rfl]
  refine J 3 ?_
  refine .aw rfl (af.alloc rfl zeroValue93 rfl) ?_
  rintro _ _ ⟨b7,rfl,rfl⟩
  refine .aw rfl (af.sP (vs:=[.bool false,.bool true,.bool false]) (by exact sizeOf93) rfl rfl rfl rfl) ?_
  rintro _ _ ⟨rfl,rfl⟩
  refine J 6 ?_
  refine .c call14 rfl (uy (s:=BR) (JM.sK (by decide))) fun _ _=>?_
  rw[t10]
  refine J 3 ?_
  refine .aw rfl (af.alloc rfl zeroValue41 rfl) ?_
  rintro _ _ ⟨b9,rfl,rfl⟩
  refine J 7 ?_
  refine .c call22 rfl (oV (s:=BR) (by rw[Lb];decide)) fun u53 _=>?_
  rw[Lb]
  refine J 7 ?_
  refine .aw rfl (af.gD 3 rfl rfl (by kernel_rfl)) ?_
  rintro _ _ ⟨b56,rfl,rfl⟩
  refine .c call18 rfl (oW (A:=seps [sl aH 1 u32 [1],arr b56 0 [.int .i64 1]]) (xs:=[1]) (ys:=[1]) (Rd.iF (Rd.sl .here)) (Rd.iF (Rd.lit (.there .here) rfl (fun _ _=>rfl) rfl)) (by decide)) fun _ _=>?_
  refine J 11 ?_
  refine .dg rfl rfl rfl (af.gD 3 rfl rfl (by kernel_rfl)) ?_
  rintro _ _ ⟨b69,rfl,rfl⟩
  refine .cg call18 rfl (oW (A:=seps [sl aH 1 u44 [0],arr b69 0 [.int .i64 0]]) (xs:=[0]) (ys:=[0]) (Rd.iF (Rd.sl .here)) (Rd.iF (Rd.lit (.there .here) rfl (fun _ _=>rfl) rfl)) (by decide)) fun _ _=>?_
  refine J 6 ?_
  refine .g (.aE _ underlying39 sizeOf38 rfl rfl rfl (by first | omega | decide)) ?_
  refine J 17 ?_
  refine .g (.ld rfl (Cell.rd Rd.s (show KK[3]?=some ⟨65537,21,0,9,0,true⟩ from rfl) (by rfl))) ?_
  refine J 6 ?_
  refine .g (.ld rfl (Cell.rd Rd.s (show KK[3]?=some ⟨65537,21,0,9,0,true⟩ from rfl) (by rfl))) ?_
  exact JR 5 ()
theorem gY{W:World}{A:aa}{u v:Value}{e f:fF}(hu:Rd W [A] aH 1 u e.aC)(hv:Rd W [A] aH 1 v f.aC)(hl:e.aC.length≤1000000000):Fn Tryz.prog W 69 [.agg (iK u e).toArray,.agg (iK v f).toArray] [A] Unit (fun _=>.bool (decide (e=f))) (fun _=>True) (fun _=>[A]):=by
 refine Fn.intro (N:=31) func69 rfl ntmps69 rfl fun F=>?_
 show ax _ _ _ _ _ _ [A,F]
 refine J 2 ?_
 refine .aw rfl (af.box rfl rfl rfl) ?_
 rintro _ _ ⟨b2,rfl,rfl⟩
 refine .mem (H':=[arr b2 0 (iK u e),A,F]) (fun w s=>s) ?_
 refine .aw rfl (af.box rfl rfl rfl) ?_
 rintro _ _ ⟨b3,rfl,rfl⟩
 refine .mem (H':=[arr b3 0 (iK v f),arr b2 0 (iK u e),A,F]) (fun w s=>s) ?_
 refine J 9 ?_
 refine .c call18 rfl (oW hu hv hl) fun _ _=>?_
 refine J 1 ?_
 apply aP.fq 6 16 10 [10,11,12,13,14,15,16] rfl
 ·intro h10
  refine J 4 ?_
  refine .g (.yr underlying4 rfl rfl) ?_
  exact JS 2
 ·intro h10
  exact JS 7
 refine J 1 ?_
 apply aP.fY 6 23 17 [17,18,19,20,21,22,23] rfl
 ·intro h17
  refine J 4 ?_
  refine .g (.yr underlying4 rfl rfl) ?_
  exact JS 2
 ·intro h17
  exact JS 7
 refine J 1 ?_
 apply aP.fY 6 30 24 [24,25,26,27,28,29,30] rfl
 ·intro h24
  refine J 4 ?_
  refine .g (.yr underlying4 rfl rfl) ?_
  exact JS 2
 ·intro h24
  exact JS 7
 refine J 4 ?_
 refine .aF rfl rfl fun w s=>⟨(),?_,trivial,ar .auto s⟩
 refine Dq ?_
 obtain⟨a1,a2,a3,a4⟩:=e
 obtain⟨c1,c2,c3,c4⟩:=f
 simp only[fF.mk.injEq]
 by_cases h:a1=c1
 ·subst h;cases a2 <;> cases a3 <;> cases a4 <;> cases c2 <;> cases c3 <;> cases c4 <;> simp
 ·simp[h]
end Go.SLYtefdijgllbkmfaaGreat
namespace Go.SLYtefdijgllbkmfaaGreat
open Go Go.RowKit Go.Proofs Go.Proofs.Tryz
attribute [local irreducible] ax aP bA cp bF Y
theorem Kh{a b:Rec}:oZ Tryz.prog 101 2 (.agg (dr a).toArray) (.agg (dr b).toArray) (decide (a=b)):=fun d w=>by
 have hs:Tryz.prog.stoodInHeld 101=false:=by kernel_rfl
 have one:∀ (r:Rec) (t:TypeId) (i:Nat) (v:Value),(∀ w,(isAgg t).run Tryz.prog w = .ok false w)→(dr r)[i]?=some v→Part Tryz.prog t (dr r).toArray i v:=fun r t i v ha hv=>Part.one ha (by rw[List.getElem?_toArray];exact hv)
 refine(lV underlying101 hs (d+1) _ _ w).trans ?_
 show(Op.eqFields (d+1) _ _ [_,_,_,_,_,_]).run Tryz.prog w=_
 have pa0:Part Tryz.prog 38 (dr a).toArray 0 (.int .u64 a.ef):=one a _ 0 _ isAgg38 rfl
 have pb0:Part Tryz.prog 38 (dr b).toArray 0 (.int .u64 b.ef):=one b _ 0 _ isAgg38 rfl
 refine Eq.trans (cN (a:=.int .u64 a.ef) (b:=.int .u64 b.ef) (r:=decide (a.ef=b.ef)) ?_ ?_ ?_ ?_) ?_
 ·decide +kernel
 ·exact pa0
 ·exact pb0
 ·exact(oZ.int underlying38 d w)
 by_cases h0:a.ef=b.ef
 rotate_left
 ·rw[decide_eq_false h0,decide_eq_false (fun e=>h0 (by rw[e])),if_neg (by simp)]
 rw[decide_eq_true h0,if_pos rfl]
 have pa1:Part Tryz.prog 3 (dr a).toArray 1 (.int .i64 a.op):=one a _ 1 _ isAgg3 rfl
 have pb1:Part Tryz.prog 3 (dr b).toArray 1 (.int .i64 b.op):=one b _ 1 _ isAgg3 rfl
 refine Eq.trans (cN (a:=.int .i64 a.op) (b:=.int .i64 b.op) (r:=decide (a.op=b.op)) ?_ ?_ ?_ ?_) ?_
 ·decide +kernel
 ·exact pa1
 ·exact pb1
 ·exact(oZ.int underlying3 d w)
 by_cases h1:a.op=b.op
 rotate_left
 ·rw[decide_eq_false h1,decide_eq_false (fun e=>h1 (by rw[e])),if_neg (by simp)]
 rw[decide_eq_true h1,if_pos rfl]
 have pa2:Part Tryz.prog 38 (dr a).toArray 2 (.int .u64 a.x):=one a _ 2 _ isAgg38 rfl
 have pb2:Part Tryz.prog 38 (dr b).toArray 2 (.int .u64 b.x):=one b _ 2 _ isAgg38 rfl
 refine Eq.trans (cN (a:=.int .u64 a.x) (b:=.int .u64 b.x) (r:=decide (a.x=b.x)) ?_ ?_ ?_ ?_) ?_
 ·decide +kernel
 ·exact pa2
 ·exact pb2
 ·exact(oZ.int underlying38 d w)
 by_cases h2:a.x=b.x
 rotate_left
 ·rw[decide_eq_false h2,decide_eq_false (fun e=>h2 (by rw[e])),if_neg (by simp)]
 rw[decide_eq_true h2,if_pos rfl]
 have pa3:Part Tryz.prog 38 (dr a).toArray 3 (.int .u64 a.y):=one a _ 3 _ isAgg38 rfl
 have pb3:Part Tryz.prog 38 (dr b).toArray 3 (.int .u64 b.y):=one b _ 3 _ isAgg38 rfl
 refine Eq.trans (cN (a:=.int .u64 a.y) (b:=.int .u64 b.y) (r:=decide (a.y=b.y)) ?_ ?_ ?_ ?_) ?_
 ·decide +kernel
 ·exact pa3
 ·exact pb3
 ·exact(oZ.int underlying38 d w)
 by_cases h3:a.y=b.y
 rotate_left
 ·rw[decide_eq_false h3,decide_eq_false (fun e=>h3 (by rw[e])),if_neg (by simp)]
 rw[decide_eq_true h3,if_pos rfl]
 have pa4:Part Tryz.prog 28 (dr a).toArray 4 (.int .i64 a.result):=one a _ 4 _ isAgg28 rfl
 have pb4:Part Tryz.prog 28 (dr b).toArray 4 (.int .i64 b.result):=one b _ 4 _ isAgg28 rfl
 refine Eq.trans (cN (a:=.int .i64 a.result) (b:=.int .i64 b.result) (r:=decide (a.result=b.result)) ?_ ?_ ?_ ?_) ?_
 ·decide +kernel
 ·exact pa4
 ·exact pb4
 ·exact(oZ.int underlying28 d w)
 by_cases h4:a.result=b.result
 rotate_left
 ·rw[decide_eq_false h4,decide_eq_false (fun e=>h4 (by rw[e])),if_neg (by simp)]
 rw[decide_eq_true h4,if_pos rfl]
 have pa5:Part Tryz.prog 4 (dr a).toArray 5 (.bool a.fin):=one a _ 5 _ isAgg4 rfl
 have pb5:Part Tryz.prog 4 (dr b).toArray 5 (.bool b.fin):=one b _ 5 _ isAgg4 rfl
 refine Eq.trans (cN (a:=.bool a.fin) (b:=.bool b.fin) (r:=decide (a.fin=b.fin)) ?_ ?_ ?_ ?_) ?_
 ·decide +kernel
 ·exact pa5
 ·exact pb5
 ·exact(oZ.bool underlying4 d w)
 by_cases h5:a.fin=b.fin
 rotate_left
 ·rw[decide_eq_false h5,decide_eq_false (fun e=>h5 (by rw[e])),if_neg (by simp)]
 rw[decide_eq_true h5,if_pos rfl]
 have e:a=b:=by
  obtain⟨a1,a2,a3,a4,a5,a6⟩:=a
  obtain⟨b1,b2,b3,b4,b5,b6⟩:=b
  simp only at h0 h1 h2 h3 h4 h5
  subst h0 h1 h2 h3 h4 h5
  rfl
 rw[decide_eq_true e]
 simp[Op.eqFields]
theorem CH{W:World}{A:aa}{v u:Value}{xs ys:List Int}(hv:Rd W [A] bM 1 v xs)(hu:Rd W [A] bM 1 u ys)(hl:xs.length≤1000000000):Fn Tryz.prog W 23 [v,u] [A] Unit (fun _=>.bool (decide (xs=ys))) (fun _=>True) (fun _=>[A]):=by
 refine Fn.intro (N:=26) func23 rfl ntmps23 rfl fun F=>?_
 haveI hRI:∀ (H:List aa) [bW H A],aJ W H v bM 1 xs:=fun H h=>⟨hv.at h.has⟩
 haveI hRJ:∀ (H:List aa) [bW H A],aJ W H u bM 1 ys:=fun H h=>⟨hu.at h.has⟩
 show ax _ _ _ _ _ _ [A,F]
 refine JD 15 (fun h10=>?_) fun h10=>?_
 ·refine J 7 ?_
  refine .aF rfl rfl fun w s=>⟨(),?_,trivial,ar .auto s⟩
  rw[decide_eq_false (fun e=>h10 (by rw[e]))]
 ·refine J 9 ?_
  refine .df (X:=Nat) [4,5,11,12,13,14,15,16,17,18,19,20,21,22,23,24,25] (fun k=>xs.length-k) (fun k=>k≤xs.length∧xs.take k=ys.take k) (fun k=>[(5,some (.int .i64 (k:Int)))]) (fun k=>[A,F]) 0 ?_ ?_ ?_ ?_
  ·exact⟨Nat.zero_le _,rfl⟩
  ·exact⟨rfl,trivial⟩
  ·exact fun w s=>aM.kept .auto w s
  rintro k ⟨hk,hn⟩
  refine JD 9 (fun h14=>?_) fun h14=>?_
  ·refine J 5 ?_
   refine .draw [] [1,1,1,1,1,1,1,1,1] rfl (by kernel_rfl) ?_
   obtain⟨x,hx⟩:=aB (show k<xs.length by omega)
   obtain⟨y,hy⟩:=aB (show k<ys.length by omega)
   refine J 3 ?_
   refine .p (.lr rfl hx) ?_
   refine J 3 ?_
   refine .p (.lr rfl hy) ?_
   refine JD 3 (fun h25=>?_) fun h25=>?_
   ·refine J 11 ?_
    refine .aF rfl rfl fun w s=>⟨(),?_,trivial,ar .auto s⟩
    rw[decide_eq_false (fun e=>h25 (by rw[e] at hx;exact Option.some.inj (hx.symm.trans hy)))]
   ·refine J 8 ?_
    refine .bB (k+1) .auto rfl ?_ ?_ ?_ ?_
    ·first | omega | (dsimp only;omega)
    ·exact⟨by omega,by rw[dc hx,dc hy,hn,Decidable.of_not_not h25]⟩
    ·exact⟨rfl,trivial⟩
    ·exact fun w s=>aM.kept .auto w s
  ·refine J 11 ?_
   obtain rfl:k=xs.length:=by omega
   rw[List.take_length,List.take_of_length_le (by omega)] at hn
   refine .aF rfl rfl fun w s=>⟨(),?_,trivial,ar .auto s⟩
   rw[decide_eq_true hn]
theorem Fw{W:World}{A:aa}{v u:Value}{xs ys:List Rec}(hv:Rd W [A] dr 6 v xs)(hu:Rd W [A] dr 6 u ys)(hl:xs.length≤1000000000):Fn Tryz.prog W 21 [v,u] [A] Unit (fun _=>.bool (decide (xs=ys))) (fun _=>True) (fun _=>[A]):=by
 refine Fn.intro (N:=26) func21 rfl ntmps21 rfl fun F=>?_
 haveI hRI:∀ (H:List aa) [bW H A],aJ W H v dr 6 xs:=fun H h=>⟨hv.at h.has⟩
 haveI hRJ:∀ (H:List aa) [bW H A],aJ W H u dr 6 ys:=fun H h=>⟨hu.at h.has⟩
 show ax _ _ _ _ _ _ [A,F]
 refine JD 15 (fun h10=>?_) fun h10=>?_
 ·refine J 7 ?_
  refine .aF rfl rfl fun w s=>⟨(),?_,trivial,ar .auto s⟩
  rw[decide_eq_false (fun e=>h10 (by rw[e]))]
 ·refine J 9 ?_
  refine .df (X:=Nat) [4,5,11,12,13,14,15,16,17,18,19,20,21,22,23,24,25] (fun k=>xs.length-k) (fun k=>k≤xs.length∧xs.take k=ys.take k) (fun k=>[(5,some (.int .i64 (k:Int)))]) (fun k=>[A,F]) 0 ?_ ?_ ?_ ?_
  ·exact⟨Nat.zero_le _,rfl⟩
  ·exact⟨rfl,trivial⟩
  ·exact fun w s=>aM.kept .auto w s
  rintro k ⟨hk,hn⟩
  refine JD 9 (fun h14=>?_) fun h14=>?_
  ·refine J 5 ?_
   refine .draw [] [1,1,1,1,1,1,1,1,1] rfl (by kernel_rfl) ?_
   obtain⟨x,hx⟩:=aB (show k<xs.length by omega)
   obtain⟨y,hy⟩:=aB (show k<ys.length by omega)
   refine J 3 ?_
   refine .p (.la rfl (Cells.rd Rd.s hx)) ?_
   refine J 3 ?_
   refine .p (.la rfl (Cells.rd Rd.s hy)) ?_
   refine .p (.C7 (by kernel_rfl) Kh rfl rfl rfl) ?_
   refine JD 2 (fun h25=>?_) fun h25=>?_
   ·have h25:x≠y:=by simpa using h25
    refine J 11 ?_
    refine .aF rfl rfl fun w s=>⟨(),?_,trivial,ar .auto s⟩
    rw[decide_eq_false (fun e=>h25 (by rw[e] at hx;exact Option.some.inj (hx.symm.trans hy)))]
   ·have h25:¬x≠y:=by simpa using h25
    refine J 8 ?_
    refine .bB (k+1) .auto rfl ?_ ?_ ?_ ?_
    ·first | omega | (dsimp only;omega)
    ·exact⟨by omega,by rw[dc hx,dc hy,hn,Decidable.of_not_not h25]⟩
    ·exact⟨rfl,trivial⟩
    ·exact fun w s=>aM.kept .auto w s
  ·refine J 11 ?_
   obtain rfl:k=xs.length:=by omega
   rw[List.take_length,List.take_of_length_le (by omega)] at hn
   refine .aF rfl rfl fun w s=>⟨(),?_,trivial,ar .auto s⟩
   rw[decide_eq_true hn]
end Go.SLYtefdijgllbkmfaaGreat
namespace Go.SLYtefdijgllbkmfaaGreat
open Go Go.RowKit Go.Proofs Go.Proofs.Tryz
attribute [local irreducible] ax aP bA cp bF Y
theorem He{W:World}{op:Int}:Fn Tryz.prog W 109 [.int .i64 op] [] Unit (fun _=>.string (im op)) (fun _=>True) (fun _=>[]):=by
 refine Fn.intro (N:=17) func109 rfl ntmps109 rfl fun F=>?_
 show ax _ _ _ _ _ _ [F]
 refine J 7 ?_
 refine .aw rfl (af.gD 9 rfl rfl (by kernel_rfl)) ?_
 rintro _ _ ⟨b4,rfl,rfl⟩
 refine J 9 ?_
 apply aP.gv 5 12 7 [7,8,9,10,11,12] rfl
 ·intro h7
  exact JS 6
 ·intro h7
  exact JS 6
 refine JD 2 (fun h12=>?_) fun h12=>?_
 ·simp only[Bool.or_eq_true,decide_eq_true_eq] at h12
  refine J 7 ?_
  refine .aF rfl rfl fun w s=>⟨(),?_,trivial,ar .auto s⟩
  rw[rX (by omega)]
 ·simp only[Bool.or_eq_false_iff,decide_eq_false_iff_not] at h12
  refine J 6 ?_
  obtain⟨n,rfl⟩:∃ n:Nat,op=(n:Int):=⟨op.toNat,by omega⟩
  obtain⟨x,hx⟩:=aB (show n<vP.length by show n<39;omega)
  refine .p (.iu n underlying257 sizeOf9 rfl rfl (Rd.lit (enc:=JV) (k:=1) (xs:=vP) (b:=b4) .auto rfl (fun _ _=>rfl) rfl) rfl (by show n<39;omega)) ?_
  refine .p (.ld rfl (Cell.yn (Rd.lit (enc:=JV) (k:=1) (xs:=vP) (b:=b4) .auto rfl (fun _ _=>rfl) rfl) hx rfl)) ?_
  refine J 4 ?_
  refine .aF rfl rfl fun w s=>⟨(),?_,trivial,ar .auto s⟩
  rw[EF hx]
theorem we{W:World}{s:ByteArray}{c:Int}(hs:s.size≤1000000):Fn Tryz.prog W 111 [.string s,.int .u8 c] [] Unit (fun _=>.bool (AM s c)) (fun _=>True) (fun _=>[]):=by
 refine Fn.intro (N:=17) func111 rfl ntmps111 rfl fun F=>?_
 show ax _ _ _ _ _ _ [F]
 refine J 12 ?_
 refine .df (X:=Nat) [4,5,6,7,8,9,10,11,12,13,14,15,16] (fun k=>s.size-k) (fun k=>k≤s.size∧((s.data.toList.take k).any fun b=>decide ((b.toNat:Int)=c))=false) (fun k=>[(5,some (.int .i64 (k:Int)))]) (fun k=>[F]) 0 ?_ ?_ ?_ ?_
 ·exact⟨Nat.zero_le _,rfl⟩
 ·exact⟨rfl,trivial⟩
 ·exact fun w s=>aM.kept .auto w s
 rintro k ⟨hk,hn⟩
 refine J 5 ?_
 refine .p (.EB underlying9 rfl) ?_
 refine JD 3 (fun h9=>?_) fun h9=>?_
 ·refine J 8 ?_
  obtain⟨x,hx,hxl⟩:=xu (show k<s.size by omega)
  refine .p (.Hw k underlying9 rfl rfl rfl hx) ?_
  refine JD 4 (fun h16=>?_) fun h16=>?_
  ·refine J 11 ?_
   refine .aF rfl rfl fun w s=>⟨(),?_,trivial,ar .auto s⟩
   rw[Gs hxl h16]
  ·refine J 8 ?_
   refine .bB (k+1) .auto rfl ?_ ?_ ?_ ?_
   ·first | omega | (dsimp only;omega)
   ·exact⟨by omega,rY hxl hn h16⟩
   ·exact⟨rfl,trivial⟩
   ·exact fun w s=>aM.kept .auto w s
 ·refine J 11 ?_
  have hkk:k=s.size:=by omega
  refine .aF rfl rfl fun w s=>⟨(),?_,trivial,ar .auto s⟩
  rw[ED hkk hn]
theorem mC{W:World}{n m:Int}{b:Bool}:Fn Tryz.prog W 110 [.int .i64 n,.bool b,.int .i64 m] [] Unit (fun _=>.bool (gH n b m)) (fun _=>True) (fun _=>[]):=by
 refine Fn.intro (N:=18) func110 rfl ntmps110 rfl fun F=>?_
 show ax _ _ _ _ _ _ [F]
 refine JD 12 (fun h8=>?_) fun h8=>?_
 ·refine J 9 ?_
  refine .aF rfl rfl fun w s=>⟨(),?_,trivial,ar .auto s⟩
  have hb:b=false:=by simpa using h8
  rw[hb];unfold gH;rw[if_pos rfl]
 ·refine J 7 ?_
  apply aP.fq 4 17 13 [13,14,15,16,17] rfl
  ·intro h13
   exact JS 5
  ·intro h13
   exact JS 5
  refine J 4 ?_
  refine .aF rfl rfl fun w s=>⟨(),?_,trivial,ar .auto s⟩
  have hb:b=true:=by simpa using h8
  rw[hb];unfold gH;rw[if_neg (by decide)]
theorem CI{W:World}{A:aa}{v:ee}(hp:gu W [A] v){i:Ins}(hc0:ei v.p=true):Fn Tryz.prog W 66 [.agg (ff v).toArray,.agg (dq i).toArray] [A] Unit (fun _=>.bool (ep v.p i)) (fun _=>True) (fun _=>[A]):=by
 refine Fn.intro (N:=88) func66 rfl ntmps66 rfl fun F=>?_
 haveI hI1:∀ (H:List aa) [bW H A],aJ W H v.fv cj 1 v.fs:=fun H h=>⟨hp.fs.at h.has⟩
 haveI hI2:∀ (H:List aa) [bW H A],aJ W H v.sv aH 1 v.aW:=fun H h=>⟨hp.aW.at h.has⟩
 haveI hI3:∀ (H:List aa) [bW H A],aJ W H v.pv aH 1 v.aL:=fun H h=>⟨hp.aL.at h.has⟩
 show ax _ _ _ _ _ _ [A,F]
 have hcp:=B7 hc0
 have hfl:v.p.funcs.length=v.fs.length:=List.length_map ..
 refine J 2 ?_
 refine .aw rfl (af.box rfl rfl rfl) ?_
 rintro _ _ ⟨b2,rfl,rfl⟩
 refine .aw rfl (af.box rfl rfl rfl) ?_
 rintro _ _ ⟨b3,rfl,rfl⟩
 refine J 7 ?_
 refine .c call109 rfl He fun _ _=>?_
 refine J 5 ?_
 refine .draw [arr b3 0 (dq i)] [1,1,1,0,0,1,2,3,1,1,1,0,0,1,2,3,1,1] rfl (by kernel_rfl) ?_
 refine J 1 ?_
 refine .p (.KS (Y.eqStr rfl rfl) (EC (im i.op))) ?_
 refine J 1 ?_
 refine .mJ (t:=12) rfl (fun h0=>?_) (fun h0=>?_)
 ·refine J 3 ?_
  refine .yt rfl rfl rfl rfl Kept.auto ?_
  refine .zQ rfl rfl rfl rfl ?_
  refine J 6 ?_
  refine .yt rfl rfl rfl rfl Kept.auto ?_
  refine .zQ rfl rfl rfl rfl ?_
  refine J 4 ?_
  refine .iD rfl ?_
  refine J 7 ?_
  refine .aF rfl rfl fun w s=>⟨(),?_,trivial,ar .auto s⟩
  rw[← fA v.p i hcp.1.1 hcp.2.1.1];unfold nh;rw[if_pos h0]
 ·refine J 3 ?_
  refine .Jf rfl rfl rfl Kept.auto (af.ed rfl call111 rfl (we (s:=im i.op) (c:=65) (Nat.le_trans (ko _) (by decide))) .auto) (by rintro _ _ ⟨⟨⟩, -,rfl,rfl⟩;exact Kept.auto) ?_
  rintro _ _ ⟨⟨⟩, -,rfl,rfl⟩
  refine .dg rfl rfl rfl (af.ed rfl call110 rfl mC .auto) ?_
  rintro _ _ ⟨⟨⟩, -,rfl,rfl⟩
  refine J 3 ?_
  refine .part (t:=20) rfl (fun hA=>?_) (fun hA=>?_)
  ·refine J 3 ?_
   refine .yt rfl rfl rfl rfl Kept.auto ?_
   refine .zQ rfl rfl rfl rfl ?_
   refine J 4 ?_
   refine .iD rfl ?_
   refine J 7 ?_
   refine .aF rfl rfl fun w s=>⟨(),?_,trivial,ar .auto s⟩
   rw[← fA v.p i hcp.1.1 hcp.2.1.1,kV h0 (show _=false by simpa using hA) rfl rfl rfl];rfl
  ·refine J 3 ?_
   refine .Jf rfl rfl rfl Kept.auto (af.ed rfl call111 rfl (we (s:=im i.op) (c:=66) (Nat.le_trans (ko _) (by decide))) .auto) (by rintro _ _ ⟨⟨⟩, -,rfl,rfl⟩;exact Kept.auto) ?_
   rintro _ _ ⟨⟨⟩, -,rfl,rfl⟩
   refine .dg rfl rfl rfl (af.ed rfl call110 rfl mC .auto) ?_
   rintro _ _ ⟨⟨⟩, -,rfl,rfl⟩
   refine JD 4 (fun hB=>?_) fun hB=>?_
   ·refine J 7 ?_
    refine .aF rfl rfl fun w s=>⟨(),?_,trivial,ar .auto s⟩
    rw[← fA v.p i hcp.1.1 hcp.2.1.1,kV h0 rfl (show _=false by simpa using hB) rfl rfl,Bool.and_false];rfl
   ·rw[Bool.not_eq_false'] at hA hB
    refine J 2 ?_
    refine .nv (X:=Unit) [4,28,29,30,31,32,33,34,35,36,37,38,39,40,41] (fun _=>jN v.p i=true) (fun _=>[]) (fun _=>[arr b2 0 (ff v),arr b3 0 (dq i),A,F]) ?_ ?_
    ·refine J 3 ?_
     refine .c call111 rfl (we (s:=im i.op) (c:=77) (Nat.le_trans (ko _) (by decide))) fun _ _=>?_
     refine JD 2 (fun h29=>?_) fun h29=>?_
     ·refine J 6 ?_
      refine .c call110 rfl mC fun _ _=>?_
      refine JD 3 (fun h35=>?_) fun h35=>?_
      ·refine J 7 ?_
       refine .aF rfl rfl fun w s=>⟨(),?_,trivial,ar .auto s⟩
       rw[← fA v.p i hcp.1.1 hcp.2.1.1,kV h0 rfl rfl (show jN v.p i=false by unfold jN;rw[if_pos h29];exact(show gH i.c true v.aA=false by simpa using h35)) rfl,Bool.and_false,Bool.false_and]
      ·refine J 1 ?_
       refine .eT () .auto ?_ ?_ ?_
       ·unfold jN;rw[if_pos h29];exact(show gH i.c true v.aA=true by simpa using h35)
       ·trivial
       ·exact fun w s=>aM.kept .auto w s
     ·refine J 1 ?_
      refine .draw [arr b3 0 (dq i)] [0,0,1,2,3,1] rfl (by kernel_rfl) ?_
      refine J 3 ?_
      refine .c2 call111 rfl (we (s:=im i.op) (c:=67) (Nat.le_trans (ko _) (by decide))) fun _ _=>?_
      refine .c call110 rfl mC fun _ _=>?_
      refine JD 3 (fun h41=>?_) fun h41=>?_
      ·refine J 7 ?_
       refine .aF rfl rfl fun w s=>⟨(),?_,trivial,ar .auto s⟩
       rw[← fA v.p i hcp.1.1 hcp.2.1.1,kV h0 rfl rfl (show jN v.p i=false by unfold jN;rw[if_neg (by rw[h29];decide)];simpa using h41) rfl,Bool.and_false,Bool.false_and]
      ·refine J 1 ?_
       refine .eT () .auto ?_ ?_ ?_
       ·unfold jN;rw[if_neg (by rw[h29];decide)];simpa using h41
       ·trivial
       ·exact fun w s=>aM.kept .auto w s
    ·rintro⟨⟩ hthird
     refine J 5 ?_
     refine .nv (X:=Int) [4,6,42,43,44,45,46,47,48,49,50,51,52,53,54,55,56,57,58,59,60,61,62,63,64,65,66,67,68,69,70,71,72,73,74,75,76,77,78] (fun m=>mL v.p i (oI (im i.op))=(decide (0<m) && decide (i.n<m))∧m≤1000) (fun m=>[(6,some (.int .i64 m))]) (fun _=>[arr b2 0 (ff v),arr b3 0 (dq i),A,F]) ?_ ?_
     ·refine J 4 ?_
      obtain⟨h1s,cc,hcc,hlc⟩:=EE h0
      have hsz:=ko i.op
      refine .p (.EB underlying9 rfl) ?_
      refine J 1 ?_
      refine .p (.Hw ((im i.op).size-1) underlying9 rfl rfl (by omega) hcc) ?_
      refine JD 9 (fun h47=>?_) fun h47=>?_
      ·refine J 8 ?_
       refine .aF rfl rfl fun w s=>⟨(),?_,trivial,ar .auto s⟩
       rw[← fA v.p i hcp.1.1 hcp.2.1.1,kV h0 hA hB hthird (Gt (hlc.trans h47))];rfl
      ·refine JD 6 (fun h49=>?_) fun h49=>?_
       ·refine J 11 ?_
        refine .aF rfl rfl fun w s=>⟨(),?_,trivial,ar .auto s⟩
        rw[← fA v.p i hcp.1.1 hcp.2.1.1,kV h0 hA hB hthird (Gu (fun e=>h47 (hlc.symm.trans e)) (hlc.trans h49))];rfl
       ·have h1:¬oI (im i.op)=120:=fun e=>h47 (hlc.symm.trans e)
        have h2:¬oI (im i.op)=110:=fun e=>h49 (hlc.symm.trans e)
        refine JD 6 (fun h54=>?_) fun h54=>?_
        ·refine J 4 ?_
         refine .eT 257 .auto ?_ ?_ ?_
         ·exact⟨kU h1 h2 (by unfold lZ;rw[if_pos (hlc.trans h54)]),by decide⟩
         ·exact⟨rfl,trivial⟩
         ·exact fun w s=>aM.kept .auto w s
        ·refine JD 6 (fun h56=>?_) fun h56=>?_
         ·refine J 7 ?_
          refine .eT (v.fs.length:Int) .auto ?_ ?_ ?_
          ·exact⟨kU h1 h2 (by unfold lZ;rw[if_neg (fun e=>h54 (hlc.symm.trans e)),if_pos (hlc.trans h56),hfl]),by omega⟩
          ·exact⟨rfl,trivial⟩
          ·exact fun w s=>aM.kept .auto w s
         ·refine JD 6 (fun h61=>?_) fun h61=>?_
          ·refine J 6 ?_
           refine .eT v.p.aA .auto ?_ ?_ ?_
           ·exact⟨kU h1 h2 (by unfold lZ;rw[if_neg (fun e=>h54 (hlc.symm.trans e)),if_neg (fun e=>h56 (hlc.symm.trans e)),if_pos (hlc.trans h61)]),by omega⟩
           ·exact⟨rfl,trivial⟩
           ·exact fun w s=>aM.kept .auto w s
          ·refine JD 6 (fun h65=>?_) fun h65=>?_
           ·refine J 6 ?_
            refine .eT v.p.conds .auto ?_ ?_ ?_
            ·exact⟨kU h1 h2 (by unfold lZ;rw[if_neg (fun e=>h54 (hlc.symm.trans e)),if_neg (fun e=>h56 (hlc.symm.trans e)),if_neg (fun e=>h61 (hlc.symm.trans e)),if_pos (hlc.trans h65)]),by omega⟩
            ·exact⟨rfl,trivial⟩
            ·exact fun w s=>aM.kept .auto w s
           ·refine JD 6 (fun h69=>?_) fun h69=>?_
            ·refine J 7 ?_
             refine .eT (v.p.aW.length:Int) .auto ?_ ?_ ?_
             ·exact⟨kU h1 h2 (by unfold lZ;rw[if_neg (fun e=>h54 (hlc.symm.trans e)),if_neg (fun e=>h56 (hlc.symm.trans e)),if_neg (fun e=>h61 (hlc.symm.trans e)),if_neg (fun e=>h65 (hlc.symm.trans e)),if_pos (hlc.trans h69)]),by omega⟩
             ·exact⟨rfl,trivial⟩
             ·exact fun w s=>aM.kept .auto w s
            ·refine JD 6 (fun h74=>?_) fun h74=>?_
             ·refine J 7 ?_
              refine .eT (v.p.aL.length:Int) .auto ?_ ?_ ?_
              ·exact⟨kU h1 h2 (by unfold lZ;rw[if_neg (fun e=>h54 (hlc.symm.trans e)),if_neg (fun e=>h56 (hlc.symm.trans e)),if_neg (fun e=>h61 (hlc.symm.trans e)),if_neg (fun e=>h65 (hlc.symm.trans e)),if_neg (fun e=>h69 (hlc.symm.trans e)),if_pos (hlc.trans h74)]),by omega⟩
              ·exact⟨rfl,trivial⟩
              ·exact fun w s=>aM.kept .auto w s
             ·refine J 2 ?_
              refine .eT 0 .auto ?_ ?_ ?_
              ·exact⟨kU h1 h2 (by unfold lZ;rw[if_neg (fun e=>h54 (hlc.symm.trans e)),if_neg (fun e=>h56 (hlc.symm.trans e)),if_neg (fun e=>h61 (hlc.symm.trans e)),if_neg (fun e=>h65 (hlc.symm.trans e)),if_neg (fun e=>h69 (hlc.symm.trans e)),if_neg (fun e=>h74 (hlc.symm.trans e))]),by decide⟩
              ·exact⟨rfl,trivial⟩
              ·exact fun w s=>aM.kept .auto w s
     ·rintro m ⟨hm1,hm2⟩
      refine J 5 ?_
      apply aP.fq 6 87 81 [81,82,83,84,85,86,87] rfl
      ·intro h81
       refine J 3 ?_
       refine .g (.fW underlying3 underlying38 rfl (by omega)) ?_
       exact JS 3
      ·intro h81
       exact JS 7
      refine J 4 ?_
      refine .aF rfl rfl fun w s=>⟨(),?_,trivial,ar .auto s⟩
      refine Dq ?_
      rw[← fA v.p i hcp.1.1 hcp.2.1.1,kV h0 hA hB hthird hm1];simp
theorem CJ{W:World}{A:aa}{v:ee}(hp:gu W [A] v)(hl:v.fs.length≤1000000000∧v.aW.length≤1000000000∧v.aL.length≤1000000000):Fn Tryz.prog W 10 [.agg (ff v).toArray] [A] Unit (fun _=>.int .i64 (ew v.p)) (fun _=>True) (fun _=>[A]):=by
 refine Fn.intro (N:=164) func10 rfl ntmps10 rfl fun F=>?_
 haveI hI1:∀ (H:List aa) [bW H A],aJ W H v.fv cj 1 v.fs:=fun H h=>⟨hp.fs.at h.has⟩
 haveI hI2:∀ (H:List aa) [bW H A],aJ W H v.sv aH 1 v.aW:=fun H h=>⟨hp.aW.at h.has⟩
 haveI hI3:∀ (H:List aa) [bW H A],aJ W H v.pv aH 1 v.aL:=fun H h=>⟨hp.aL.at h.has⟩
 show ax _ _ _ _ _ _ [A,F]
 refine J 2 ?_
 refine .aw rfl (af.box rfl rfl rfl) ?_
 rintro _ _ ⟨b1,rfl,rfl⟩
 refine J 11 ?_
 apply aP.gv 5 17 12 [12,13,14,15,16,17] rfl
 ·intro h12
  exact JS 6
 ·intro h12
  exact JS 6
 refine J 1 ?_
 apply aP.fZ 4 22 18 [18,19,20,21,22] rfl
 ·intro h18
  exact JS 5
 ·intro h18
  exact JS 5
 refine J 1 ?_
 apply aP.fZ 4 27 23 [23,24,25,26,27] rfl
 ·intro h23
  exact JS 5
 ·intro h23
  exact JS 5
 refine J 1 ?_
 apply aP.fZ 4 32 28 [28,29,30,31,32] rfl
 ·intro h28
  exact JS 5
 ·intro h28
  exact JS 5
 refine J 1 ?_
 apply aP.fZ 4 37 33 [33,34,35,36,37] rfl
 ·intro h33
  exact JS 5
 ·intro h33
  exact JS 5
 refine J 1 ?_
 apply aP.fZ 4 42 38 [38,39,40,41,42] rfl
 ·intro h38
  exact JS 5
 ·intro h38
  exact JS 5
 refine J 1 ?_
 apply aP.fZ 4 47 43 [43,44,45,46,47] rfl
 ·intro h43
  exact JS 5
 ·intro h43
  exact JS 5
 refine J 1 ?_
 apply aP.fZ 5 53 48 [48,49,50,51,52,53] rfl
 ·intro h48
  exact JS 6
 ·intro h48
  exact JS 6
 refine J 1 ?_
 apply aP.fZ 5 59 54 [54,55,56,57,58,59] rfl
 ·intro h54
  exact JS 6
 ·intro h54
  exact JS 6
 refine J 1 ?_
 apply aP.fZ 4 64 60 [60,61,62,63,64] rfl
 ·intro h60
  exact JS 5
 ·intro h60
  exact JS 5
 refine J 1 ?_
 apply aP.fZ 4 69 65 [65,66,67,68,69] rfl
 ·intro h65
  exact JS 5
 ·intro h65
  exact JS 5
 refine J 1 ?_
 apply aP.fZ 4 74 70 [70,71,72,73,74] rfl
 ·intro h70
  exact JS 5
 ·intro h70
  exact JS 5
 refine J 1 ?_
 apply aP.fZ 4 79 75 [75,76,77,78,79] rfl
 ·intro h75
  exact JS 5
 ·intro h75
  exact JS 5
 refine JD 2 (fun h79=>?_) fun h79=>?_
 ·simp only[Bool.or_eq_true,decide_eq_true_eq] at h79
  refine J 7 ?_
  refine .aF rfl rfl fun w s=>⟨(),?_,trivial,ar .auto s⟩
  rw[mr (fun e=>by have:=(ji.1 e).1;omega)]
 ·simp only[Bool.or_eq_false_iff,decide_eq_false_iff_not] at h79
  have hc1:(0<v.fs.length∧v.fs.length≤8)∧(0≤v.words∧v.words≤64)∧(0≤v.aA∧v.aA≤4)∧(0≤v.conds∧v.conds≤4)∧(0≤v.blocks∧v.blocks≤64)∧(0≤v.prio∧v.prio≤7)∧v.aW.length≤4∧v.aL.length≤4:=by omega
  refine J 9 ?_
  refine .df (X:=Nat) [2,3,80,81,82,83,84,85,86,87,88,89,90,91,92,93,94,95,96,97,98,99,100] (fun k=>v.aW.length-k) (fun k=>k≤v.aW.length∧((v.aW.take k).all fun n=>within n 1048576)=true) (fun k=>[(3,some (.int .i64 (k:Int)))]) (fun k=>[arr b1 0 (ff v),A,F]) 0 ?_ ?_ ?_ ?_
  ·exact⟨Nat.zero_le _,rfl⟩
  ·exact⟨rfl,trivial⟩
  ·exact fun w s=>aM.kept .auto w s
  rintro k ⟨hk,hs1⟩
  refine JD 10 (fun h84=>?_) fun h84=>?_
  ·refine J 9 ?_
   obtain⟨x,hx⟩:=aB (show k<v.aW.length by omega)
   refine .p (.ix k rfl rfl rfl (by omega)) ?_
   refine .p (.lr rfl hx) ?_
   refine J 2 ?_
   apply aP.gv 7 100 93 [93,94,95,96,97,98,99,100] rfl
   ·intro h93
    refine J 3 ?_
    refine .g (.ix k rfl rfl rfl (by omega)) ?_
    refine .g (.lr rfl hx) ?_
    exact JS 3
   ·intro h93
    exact JS 8
   refine JD 2 (fun h100=>?_) fun h100=>?_
   ·simp only[Bool.or_eq_true,decide_eq_true_eq] at h100
    refine J 11 ?_
    refine .aF rfl rfl fun w s=>⟨(),?_,trivial,ar .auto s⟩
    rw[mr (fun e=>by have:=List.all_eq_true.1 (ji.1 e).2.2.1 x (List.mem_of_getElem? hx);rw[zj (by omega)] at this;cases this)]
   ·simp only[Bool.or_eq_false_iff,decide_eq_false_iff_not] at h100
    refine J 8 ?_
    refine .bB (k+1) .auto rfl ?_ ?_ ?_ ?_
    ·first | omega | (dsimp only;omega)
    ·exact⟨by omega,by rw[ga hx,hs1,tK (by omega) (by omega)];rfl⟩
    ·exact⟨rfl,trivial⟩
    ·exact fun w s=>aM.kept .auto w s
  ·obtain rfl:k=v.aW.length:=by omega
   rw[List.take_length] at hs1
   refine J 12 ?_
   refine .df (X:=Nat) [2,4,101,102,103,104,105,106,107,108,109,110,111,112,113,114,115,116,117,118,119,120,121] (fun k=>v.aL.length-k) (fun k=>k≤v.aL.length∧((v.aL.take k).all fun n=>decide (0<n) && within n 8)=true) (fun k=>[(4,some (.int .i64 (k:Int)))]) (fun k=>[arr b1 0 (ff v),A,F]) 0 ?_ ?_ ?_ ?_
   ·exact⟨Nat.zero_le _,rfl⟩
   ·exact⟨rfl,trivial⟩
   ·exact fun w s=>aM.kept .auto w s
   rintro k ⟨hk,hs2⟩
   refine JD 10 (fun h105=>?_) fun h105=>?_
   ·refine J 9 ?_
    obtain⟨x,hx⟩:=aB (show k<v.aL.length by omega)
    refine .p (.ix k rfl rfl rfl (by omega)) ?_
    refine .p (.lr rfl hx) ?_
    refine J 2 ?_
    apply aP.gv 7 121 114 [114,115,116,117,118,119,120,121] rfl
    ·intro h114
     refine J 3 ?_
     refine .g (.ix k rfl rfl rfl (by omega)) ?_
     refine .g (.lr rfl hx) ?_
     exact JS 3
    ·intro h114
     exact JS 8
    refine JD 2 (fun h121=>?_) fun h121=>?_
    ·simp only[Bool.or_eq_true,decide_eq_true_eq] at h121
     refine J 11 ?_
     refine .aF rfl rfl fun w s=>⟨(),?_,trivial,ar .auto s⟩
     rw[mr (fun e=>by have:=List.all_eq_true.1 (ji.1 e).2.2.2 x (List.mem_of_getElem? hx);unfold within at this;simp only[Bool.and_eq_true,decide_eq_true_eq] at this;omega)]
    ·simp only[Bool.or_eq_false_iff,decide_eq_false_iff_not] at h121
     refine J 8 ?_
     refine .bB (k+1) .auto rfl ?_ ?_ ?_ ?_
     ·first | omega | (dsimp only;omega)
     ·exact⟨by omega,by rw[ga hx,hs2,tK (by omega) (by omega),decide_eq_true (show 0<x by omega)];rfl⟩
     ·exact⟨rfl,trivial⟩
     ·exact fun w s=>aM.kept .auto w s
   ·obtain rfl:k=v.aL.length:=by omega
    rw[List.take_length] at hs2
    refine J 12 ?_
    refine .df (X:=Nat) [2,5,122,123,124,125,126,127,128,129,130,131,132,133,134,135] (fun k=>v.fs.length-k) (fun k=>k≤v.fs.length∧((v.fs.take k).all fun f=>decide (f.2.length≤256))=true) (fun k=>[(5,some (.int .i64 (k:Int)))]) (fun k=>[arr b1 0 (ff v),A,F]) 0 ?_ ?_ ?_ ?_
    ·exact⟨Nat.zero_le _,rfl⟩
    ·exact⟨rfl,trivial⟩
    ·exact fun w s=>aM.kept .auto w s
    rintro k ⟨hk,hs3⟩
    refine JD 10 (fun h126=>?_) fun h126=>?_
    ·refine J 9 ?_
     obtain⟨x,hx⟩:=aB (show k<v.fs.length by omega)
     have hi:=hp.ins x (List.mem_of_getElem? hx)
     haveI hI4:∀ (H:List aa) [bW H A],aJ W H x.1 dq 5 x.2:=fun H h=>⟨hi.at h.has⟩
     refine JD 6 (fun h135=>?_) fun h135=>?_
     ·refine J 11 ?_
      refine .aF rfl rfl fun w s=>⟨(),?_,trivial,ar .auto s⟩
      rw[mr (fun e=>by have:=List.all_eq_true.1 (ji.1 e).2.1 x (List.mem_of_getElem? hx);simp only[decide_eq_true_eq] at this;omega)]
     ·refine J 8 ?_
      refine .bB (k+1) .auto rfl ?_ ?_ ?_ ?_
      ·first | omega | (dsimp only;omega)
      ·exact⟨by omega,by rw[ga hx,hs3,decide_eq_true (show x.2.length≤256 by omega)];rfl⟩
      ·exact⟨rfl,trivial⟩
      ·exact fun w s=>aM.kept .auto w s
    ·obtain rfl:k=v.fs.length:=by omega
     rw[List.take_length] at hs3
     have hcap:ei v.p=true:=ji.2 ⟨hc1,hs3,hs1,hs2⟩
     refine J 12 ?_
     refine .df (X:=Nat) [2,6,7,136,137,138,139,140,141,142,143,144,145,146,147,148,149,150,151,152,153,154,155,156,157,158,159,160,161,162,163] (fun k=>v.fs.length-k) (fun k=>k≤v.fs.length∧(v.fs.take k).all (fun f:Value×List Ins=>f.2.all (ep v.p))=true) (fun k=>[(6,some (.int .i64 (k:Int)))]) (fun k=>[arr b1 0 (ff v),A,F]) 0 ?_ ?_ ?_ ?_
     ·exact⟨Nat.zero_le _,rfl⟩
     ·exact⟨rfl,trivial⟩
     ·exact fun w s=>aM.kept .auto w s
     rintro k ⟨hk,hs⟩
     refine JD 10 (fun h140=>?_) fun h140=>?_
     ·obtain⟨x,hx⟩:=aB (show k<v.fs.length by omega)
      have hi:=hp.ins x (List.mem_of_getElem? hx)
      haveI hI4:∀ (H:List aa) [bW H A],aJ W H x.1 dq 5 x.2:=fun H h=>⟨hi.at h.has⟩
      have hx256:x.2.length≤256:=uQ hcap (List.mem_of_getElem? hx)
      refine J 10 ?_
      refine .df (X:=Nat) [2,7,143,144,145,146,147,148,149,150,151,152,153,154,155,156,157,158,159,160,161,162,163] (fun j=>x.2.length-j) (fun j=>j≤x.2.length∧(x.2.take j).all (ep v.p)=true) (fun j=>[(7,some (.int .i64 (j:Int)))]) (fun j=>[arr b1 0 (ff v),A,F]) 0 ?_ ?_ ?_ ?_
      ·exact⟨Nat.zero_le _,rfl⟩
      ·exact⟨rfl,trivial⟩
      ·exact fun w s=>aM.kept .auto w s
      rintro j ⟨hj0,hsj⟩
      refine JD 13 (fun hin=>?_) fun hin=>?_
      ·refine J 5 ?_
       refine .draw [arr b1 0 (ff v)] [1,1,1,1,1,1,1,1,1,3,1] rfl (by kernel_rfl) ?_
       refine J 7 ?_
       obtain⟨i,hj⟩:=aB (show j<x.2.length by omega)
       refine J 2 ?_
       refine .c call66 rfl (CI hp hcap) fun _ _=>?_
       refine JD 3 (fun hsd=>?_) fun hsd=>?_
       ·refine J 15 ?_
        refine .aF rfl rfl fun w s=>⟨(),?_,trivial,ar .auto s⟩
        exact jr (s6 hcap hx hj (by simpa using hsd)).symm
       ·refine J 8 ?_
        refine .bB (j+1) .auto rfl ?_ ?_ ?_ ?_
        ·first | omega | (dsimp only;omega)
        ·exact⟨by omega,by rw[ga hj,hsj,show ep v.p i=true by simpa using hsd];rfl⟩
        ·exact⟨rfl,trivial⟩
        ·exact fun w s=>aM.kept .auto w s
      ·refine J 11 ?_
       obtain rfl:j=x.2.length:=by omega
       rw[List.take_length] at hsj
       refine .bB (k+1) .auto rfl ?_ ?_ ?_ ?_
       ·first | omega | (dsimp only;omega)
       ·exact⟨by omega,by rw[ga hx,hs,hsj];rfl⟩
       ·exact⟨rfl,trivial⟩
       ·exact fun w s=>aM.kept .auto w s
     ·refine J 11 ?_
      obtain rfl:k=v.fs.length:=by omega
      rw[List.take_length] at hs
      refine .aF rfl rfl fun w s=>⟨(),?_,trivial,ar .auto s⟩
      exact jr (wK hcap hs).symm
end Go.SLYtefdijgllbkmfaaGreat
namespace Go.SLYtefdijgllbkmfaaGreat
open Go Go.RowKit
variable{p0:fE}
theorem ya{k:Nat}{s:Spc}{r:RSp}(h:eQ p0 s r)(hO:Ok k s [] []){n:Int}(c:n<0∨15<n∨(r.thr n.toNat).used=false):s.at n=none:=by
 have e:=h.seen hO (n:=n)
 have e2:r.seen n=false:=by
  unfold RSp.seen
  rcases c with c | c | c
  ·rw[decide_eq_false (show ¬ 0≤n by omega)];rfl
  ·rw[decide_eq_false (show ¬n<16 by omega)];simp
  ·rw[show(r.t n.toNat).used=false from c];simp
 rw[e2] at e
 exact Option.isNone_iff_eq_none.1 (by cases hs:s.at n with | none=>rfl | some t=>rw[hs] at e;cases e)
theorem CK{k:Nat}{s:Spc}{r:RSp}(h:eQ p0 s r)(hO:Ok k s [] []){n:Int}(c1:¬n<0)(c2:¬ 15<n)(c3:(r.thr n.toNat).used=true):∃ (m:Nat) (t:bc),n=(m:Int)∧m<16∧s.thr[m]?=some (some t)∧s.at n=some t∧(r.thr m).why=t.why:=by
 have e:=h.seen hO (n:=n)
 have e2:r.seen n=true:=by
  unfold RSp.seen
  rw[decide_eq_true (show 0≤n by omega),decide_eq_true (show n<16 by omega),show(r.t n.toNat).used=true from c3];rfl
 rw[e2] at e
 obtain⟨t,ht⟩:=Option.isSome_iff_exists.1 e.symm
 obtain⟨h0,hat⟩:=eL ht
 exact⟨n.toNat,t,by omega,hO.lt ▸ (List.getElem?_eq_some_iff.1 hat).1,hat,ht,(h.th _ t hat).w⟩
theorem wg{s:Spc}{x:yf}(h:x.what=0):qA s x=(s.run x.slot x.choice).2.2:=by unfold qA;rw[if_pos h]
theorem yb{s:Spc}{x:yf}(h:¬x.what=0)(h2:x.what=1):qA s x=(s.done x.choice).2.2:=by unfold qA;rw[if_neg h,if_pos h2]
theorem Fx{s:Spc}{x:yf}(h:¬x.what=0)(h2:¬x.what=1):qA s x=s.tick.2:=by unfold qA;rw[if_neg h,if_neg h2]
theorem kR.qA{k:Nat}{s:Spc}(h:kR k s)(hk:k≤1990)(x:yf):kR (k+1) (qA s x):=by
 unfold SLYtefdijgllbkmfaaGreat.qA
 split
 ·exact h.run hk _ _
 split
 ·exact h.done _
 ·exact h.tick
theorem eQ.K4{k:Nat}{s:Spc}{r:RSp}(h:eQ p0 s r)(hO:kR k s)(hk:k≤1990){m:Nat}{t:bc}(ht:s.thr[m]?=some (some t))(hw:t.why=0){c:Int} :
  (s.run m c).1=(r.run p0 m c).1∧(s.run m c).2.1=0∧eQ p0 (s.run m c).2.2 (r.run p0 m c).2∧E4 p0 r m∧(r.run p0 m c).2.av.length≤900000000:=by
 have e:=h.run hO.1 hO.2.2 (by omega) (hO.rec hk) ht hw (c:=c)
 have e2:=h.K1 hO.1 (by omega) (hO.rec hk) ht
 rw[h.pg] at e e2
 have h3:=(hO.1.run hO.2.2 (n:=(m:Int)) (c:=c) (by omega) (hO.rec hk)).2.2.2.1
 have h4:=hO.rec hk
 exact⟨e.1,e.2.1,e.2.2,e2,by rw[e.2.2.rc];omega⟩
theorem CL{k:Nat}{s:Spc}(h:kR k s)(hk:k≤1990){n c:Int}:(s.run n c).1.aC.length≤1000000:=by
 have h1:=(h.cE hk n c).l
 have h2:=gf (s.run n c).2.2.thr 0
 have h3:=(h.run hk n c).lt
 unfold Spc.ready at h1
 split at h1 <;> omega
theorem zL{k:Nat}{s:Spc}(h:kR k s):s.tick.1.aC.length≤1000000:=by
 have h1:=(h.It 0).l
 have h2:=gf s.tick.2.thr 0
 have h3:=h.tick.lt
 unfold Spc.ready at h1
 split at h1 <;> omega
theorem eQ.Je{k:Nat}{v:ee}{s:Spc}{r:RSp}(h:eQ v.p s r)(hO:kR k s){n:Nat} :
  v.fs.length≤1000000000∧(r.runs n=true→(0≤(r.thr n).fn∧(r.thr n).fn<(v.fs.length:Int))∧0≤(r.thr n).pc∧(r.thr n).pc≤900000)∧ ∀ f∈v.fs,f.2.length≤1000000:=by
 obtain⟨-, -, -, -, -,k6,k7⟩:=hO.1.Ka
 rw[h.pg] at k6 k7
 have e:v.p.funcs.length=v.fs.length:=List.length_map ..
 rw[e] at k6
 refine⟨by omega,fun hr=>?_,fun f hf=>Nat.le_trans (k7 f.2 (List.mem_map_of_mem hf)) (by decide)⟩
 obtain⟨t,ht,hw⟩:=(h.runs hO.1).1 hr
 obtain⟨-,hat⟩:=eL ht
 rw[Int.toNat_natCast] at hat
 have hT:=h.th n t hat
 have hfl:=hT.fl
 rw[h.pg,e] at hfl
 have hp:=(hO.1.th n t hat).pc
 have h1:=hT.p
 have h2:=hT.f
 exact⟨by omega,by omega,by omega⟩
end Go.SLYtefdijgllbkmfaaGreat
namespace Go.SLYtefdijgllbkmfaaGreat
open Go Go.RowKit Go.Proofs Go.Proofs.Tryz
attribute [local irreducible] ax aP bA cp bF Y
set_option maxHeartbeats 1000000 in
theorem zM{W:World}{A:aa}{bs b k:Nat}{v:RV}{s:Spc}{r:RSp}{what slot choice:Int}(hp:gu W [A] v.p)(hS:eQ v.p.p s r)(hO:kR k s)(hk:k≤1990):Fn Tryz.prog W 13 [ptr bs,ptr b,.agg (BS (⟨what,slot,choice⟩:yf)).toArray] [eW bs s,bP b v r,A] RSp (fun _=>.bool true) (fun r'=>eQ v.p.p (qA s (⟨what,slot,choice⟩:yf)) r') (fun r'=>[eW bs (qA s (⟨what,slot,choice⟩:yf)),bP b v r',A]):=by
 refine Fn.intro (N:=119) func13 rfl ntmps13 rfl fun F=>?_
 show ax _ _ _ _ _ _ [eW bs s,bP b v r,A,F]
 refine J 2 ?_
 refine .aw rfl (af.box rfl rfl rfl) ?_
 rintro _ _ ⟨b5,rfl,rfl⟩
 refine .mem (H':=[arr b5 0 (BS (⟨what,slot,choice⟩:yf)),eW bs s,bP b v r,A,F]) (fun w s=>s) ?_
 refine JD 17 (fun h15=>?_) fun h15=>?_
 ·refine J 7 ?_
  refine .c call40 rfl (ma (s:=s) (n:=slot) (choice:=choice) (hO.sK hk)) fun u22 _=>?_
  refine .fr (A:=bP b v r) .auto bu ?_
  refine J 3 ?_
  refine .aw rfl (af.alloc rfl zeroValue93 rfl) ?_
  rintro _ _ ⟨b7,rfl,rfl⟩
  refine .aw rfl (af.sP (vs:=[.bool (s.run slot choice).1.aU,.bool (s.run slot choice).1.ended,.bool (s.run slot choice).1.yielded]) (by exact sizeOf93) rfl rfl rfl rfl) ?_
  rintro _ _ ⟨rfl,rfl⟩
  refine J 6 ?_
  refine .draw [] [1,1,1,1,1,1,1,1,1,1,1,1,1,1,1,1,1,1,1,1] rfl (by kernel_rfl) ?_
  refine J 4 ?_
  apply bA.gv 4 33 29 [29,30,31,32,33] rfl
  ·intro h29
   exact JS 5
  ·intro h29
   exact JS 5
  refine J 1 ?_
  apply bA.fZ 10 44 34 [34,35,36,37,38,39,40,41,42,43,44] rfl
  ·intro h34
   simp only[Bool.or_eq_false_iff,decide_eq_false_iff_not] at h34
   have h34b:¬slot<0∧¬slot>15:=h34
   refine J 5 ?_
   refine .g (.aE slot.toNat underlying54 sizeOf53 rfl rfl (show slot=((slot.toNat:Nat):Int) by omega) (by omega)) ?_
   refine J 1 ?_
   refine .g (.ld rfl (Cell.tz (by first | omega | exact hn))) ?_
   exact JS 3
  ·intro h34
   exact JS 11
  refine JD 3 (fun h25=>?_) fun h25=>?_
  ·simp only[Bool.or_eq_true,decide_eq_true_eq,Bool.not_eq_true'] at h25
   have hat:s.at slot=none:=ya hS hO.1 (by rcases h25 with (h | h) | h;exact .inl h;exact .inr (.inl h);exact .inr (.inr h))
   have e1:(s.run slot choice).1=fF.z:=by rw[lO hat]
   have e2:(s.run slot choice).2.1=1:=by rw[lO hat]
   have e3:(s.run slot choice).2.2=s:=by rw[lO hat]
   have e4:qA s (⟨what,slot,choice⟩:yf)=s:=(wg h15).trans e3
   rw[e1,e2,e3]
   refine J 5 ?_
   refine .g (.la rfl (Cells.a (cs:=iK u22 fF.z))) ?_
   refine .g (.o0 (iK (.slice none 0 0) fF.z) (by kernel_rfl)) ?_
   refine .cg call69 rfl (gY (A:=seps [sl aH 1 u22 fF.z.aC]) (e:=fF.z) (f:=fF.z) (Rd.iF (Rd.sl .here)) Rd.nil (by decide)) fun _ _=>?_
   refine J 9 ?_
   rw[e4]
   refine .aF rfl rfl fun w s=>⟨r,?_,hS,ar .auto s⟩
   rw[decide_eq_true rfl]
  ·simp only[Bool.or_eq_false_iff,decide_eq_false_iff_not,Bool.not_eq_false'] at h25
   obtain⟨⟨c1,c2⟩,c3⟩:=h25
   obtain⟨m,t,rfl,hm16,hth,hat,hwy⟩:=CK hS hO.1 c1 c2 c3
   refine J 1 ?_
   refine .draw [] [1,1,1,1,1,1,1,1,1,1] rfl (by kernel_rfl) ?_
   refine J 5 ?_
   refine .p (.aE m underlying54 sizeOf53 rfl rfl rfl hm16) ?_
   refine J 1 ?_
   refine .p (.ld rfl (Cell.t (by first | omega | exact hn) rfl)) ?_
   refine JD 4 (fun h52=>?_) fun h52=>?_
   ·have hw:t.why≠0:=by rw[← hwy];exact h52
    have e1:(s.run m choice).1=fF.z:=by rw[lP hat hw]
    have e2:(s.run m choice).2.1=4:=by rw[lP hat hw]
    have e3:(s.run m choice).2.2=s:=by rw[lP hat hw]
    have e4:qA s ⟨what,m,choice⟩=s:=(wg h15).trans e3
    rw[e1,e2,e3]
    refine J 5 ?_
    refine .g (.la rfl (Cells.a (cs:=iK u22 fF.z))) ?_
    refine .g (.o0 (iK (.slice none 0 0) fF.z) (by kernel_rfl)) ?_
    refine .cg call69 rfl (gY (A:=seps [sl aH 1 u22 fF.z.aC]) (e:=fF.z) (f:=fF.z) (Rd.iF (Rd.sl .here)) Rd.nil (by decide)) fun _ _=>?_
    refine J 9 ?_
    rw[e4]
    refine .aF rfl rfl fun w s=>⟨r,?_,hS,ar .auto s⟩
    rw[decide_eq_true rfl]
   ·have hw:t.why=0:=by rw[← hwy];exact Decidable.not_not.mp h52
    obtain⟨f1,f2,f3,f4,f5⟩:=hS.K4 hO hk hth hw (c:=choice)
    have e4:qA s ⟨what,m,choice⟩=(s.run m choice).2.2:=wg h15
    have hle:(s.run m choice).1.aC.length≤1000000:=CL hO hk
    rw[f2]
    refine J 4 ?_
    refine .draw [arr b7 0 (iK u22 (s.run m choice).1)] [1,1,1,0,1,1,1,1,1,2,3,1,1] rfl (by kernel_rfl) ?_
    refine J 3 ?_
    refine .h (.la rfl (Cells.a (cs:=iK u22 (s.run (m:Int) choice).1))) ?_
    refine J 5 ?_
    refine .Jf rfl rfl rfl Kept.auto (af.ed rfl call41 rfl (GU hp f4 f5) .auto) (by rintro _ _ ⟨u78, -,rfl,rfl⟩;exact Kept.auto) ?_
    rintro _ _ ⟨u78, -,rfl,rfl⟩
    refine .dg rfl rfl rfl (af.ed rfl call69 rfl (gY (A:=seps [sl aH 1 u22 (s.run m choice).1.aC,sl aH 1 u78 (r.run v.p.p m choice).1.aC]) (e:=(s.run m choice).1) (f:=(r.run v.p.p m choice).1) (Rd.iF (Rd.sl .here)) (Rd.iF (Rd.sl (.there .here))) (by omega)) .auto) ?_
    rintro _ _ ⟨⟨⟩, -,rfl,rfl⟩
    refine J 7 ?_
    rw[e4]
    refine .aF rfl rfl fun w s=>⟨(r.run v.p.p m choice).2,?_,f3,ar .auto s⟩
    rw[decide_eq_true f1]
 ·refine JD 6 (fun h81=>?_) fun h81=>?_
  ·refine J 5 ?_
   refine .c call42 rfl (CE (s:=s) (k:=choice) (hO.sK hk)) fun u87 _=>?_
   refine J 3 ?_
   refine .aw rfl (af.alloc rfl zeroValue93 rfl) ?_
   rintro _ _ ⟨b9,rfl,rfl⟩
   refine .aw rfl (af.sP (vs:=[.bool (s.done choice).1.aU,.bool (s.done choice).1.ended,.bool (s.done choice).1.yielded]) (by exact sizeOf93) rfl rfl rfl rfl) ?_
   rintro _ _ ⟨rfl,rfl⟩
   refine J 8 ?_
   refine .c call43 rfl (ER (s:=r) (k:=choice) hS.T (hS.Kb hO.1).1 (hS.Kb hO.1).2 (by rw[hS.rc];have:=hO.rec hk;omega)) fun _ _=>?_
   refine JD 10 (fun h95=>?_) fun h95=>?_
   ·obtain⟨d1,d2,d3,d4⟩:(s.done choice).2.1=3∧(s.done choice).1=fF.z∧(s.done choice).2.2=s∧r.done choice=(0,r):=by
     rcases hS.done hO.1 (c:=choice) with h | ⟨w,⟨w0,w16⟩,_,_,e,_⟩
     ·exact h
     ·rw[e] at h95;omega
    have d5:(r.done choice).2=r:=by rw[d4]
    have e4:qA s (⟨what,slot,choice⟩:yf)=s:=(yb h15 h81).trans d3
    rw[d1,d2,d3,d5]
    refine J 5 ?_
    refine .g (.la rfl (Cells.a (cs:=iK u87 fF.z))) ?_
    refine .g (.o0 (iK (.slice none 0 0) fF.z) (by kernel_rfl)) ?_
    refine .cg call69 rfl (gY (A:=seps [sl aH 1 u87 fF.z.aC]) (e:=fF.z) (f:=fF.z) (Rd.iF (Rd.sl .here)) Rd.nil (by decide)) fun _ _=>?_
    refine J 8 ?_
    rw[e4]
    refine .aF rfl rfl fun w s=>⟨r,?_,hS,ar .auto s⟩
    rw[decide_eq_true rfl]
   ·obtain⟨w,⟨w0,w16⟩,d1,d2,d3,d4⟩:∃ w:Int,(0≤w∧w<16)∧(s.done choice).2.1=0∧(s.done choice).1=⟨[w],false,false,false⟩∧(r.done choice).1=w+1∧eQ v.p.p (s.done choice).2.2 (r.done choice).2:=by
     rcases hS.done hO.1 (c:=choice) with ⟨_,_,_,e⟩ | h
     ·exact absurd (by rw[e]) h95
     ·exact h
    have e4:qA s (⟨what,slot,choice⟩:yf)=(s.done choice).2.2:=yb h15 h81
    rw[d1,d2,d3]
    refine J 7 ?_
    refine .g (.la rfl (Cells.a (cs:=iK u87 (⟨[w],false,false,false⟩:fF)))) ?_
    refine J 1 ?_
    refine .g (.dC (Y.sub rfl rfl (by omega)) (show w+1-1=w by omega)) ?_
    refine .dg rfl rfl rfl (af.gD 3 rfl rfl (by kernel_rfl)) ?_
    rintro _ _ ⟨b109,rfl,rfl⟩
    refine .g (.iV (fun v1=>iK v1 (⟨[w],false,false,false⟩:fF)) rfl (by kernel_rfl)) ?_
    refine .cg call69 rfl (gY (A:=seps [sl aH 1 u87 [w],arr b109 0 [.int .i64 w]]) (e:=⟨[w],false,false,false⟩) (f:=⟨[w],false,false,false⟩) (Rd.iF (Rd.sl .here)) (Rd.iF (Rd.lit (.there .here) rfl (fun _ _=>rfl) rfl)) (by show 1≤1000000000;decide)) fun _ _=>?_
    refine J 7 ?_
    rw[e4]
    refine .aF rfl rfl fun w s=>⟨(r.done choice).2,?_,d4,ar .auto s⟩
    rw[decide_eq_true rfl]
  ·refine J 6 ?_
   refine .c call44 rfl (CF (s:=s) (hO.sK hk)) fun u114 _=>?_
   refine J 1 ?_
   refine .c call45 rfl (ES (s:=r) hS.T hS.K2 (by rw[hS.rc];exact hO.rec hk) (hS.K3 hO.1)) fun u116 _=>?_
   refine .eS (fun w s=>Rd.shape (Rd.sl .here) w s) fun hsh=>?_
   obtain⟨o,cc,rfl⟩:=hsh
   obtain⟨t1,t2⟩:=hS.tick hO.1
   have e4:qA s (⟨what,slot,choice⟩:yf)=s.tick.2:=Fx h15 h81
   have hle:s.tick.1.aC.length≤1000000:=zL hO
   refine .p (.iV (fun v1=>iK v1 (⟨r.tick.1,false,false,false⟩:fF)) rfl (by kernel_rfl)) ?_
   refine .c call69 rfl (gY (A:=seps [sl aH 1 u114 s.tick.1.aC,sl aH 1 (.slice o r.tick.1.length cc) r.tick.1]) (e:=s.tick.1) (f:=⟨r.tick.1,false,false,false⟩) (Rd.iF (Rd.sl .here)) (Rd.iF (Rd.sl (.there .here))) (by omega)) fun _ _=>?_
   refine J 4 ?_
   rw[e4]
   refine .aF rfl rfl fun w s=>⟨r.tick.2,?_,t2,ar .auto s⟩
   rw[decide_eq_true t1]
theorem yc{W:World}{A:aa}{b k:Nat}{v:RV}{s:Spc}{r:RSp}{n:Int}(hp:gu W [A] v.p)(hS:eQ v.p.p s r)(hO:kR k s)(hk:k≤1990):Fn Tryz.prog W 17 [ptr b,.int .i64 n] [bP b v r,A] Unit (fun _=>.int .i64 (s.class n)) (fun _=>True) (fun _=>[bP b v r,A]):=by
 refine Fn.intro (N:=14) func17 rfl ntmps17 rfl fun F=>?_
 show ax _ _ _ _ _ _ [bP b v r,A,F]
 refine J 11 ?_
 apply aP.gv 3 10 7 [7,8,9,10] rfl
 ·intro h7
  exact JS 4
 ·intro h7
  exact JS 4
 refine JD 2 (fun h10=>?_) fun h10=>?_
 ·simp only[Bool.or_eq_true,decide_eq_true_eq] at h10
  have hc:s.class n=0:=rN (ya hS hO.1 (by rcases h10 with h | h;exact .inl h;exact .inr (.inl h)))
  refine J 7 ?_
  refine .aF rfl rfl fun w s=>⟨(),?_,trivial,ar .auto s⟩
  rw[hc]
 ·simp only[Bool.or_eq_false_iff,decide_eq_false_iff_not] at h10
  obtain⟨m,rfl⟩:∃ m:Nat,n=(m:Int):=⟨n.toNat,by omega⟩
  have hm:m<16:=by omega
  obtain⟨g1,g2,g3⟩:=hS.Je hO (n:=m)
  have hcl:r.class v.p.p m=s.class (m:Int):=by rw[← hS.pg];exact hS.class hO.1 (by omega) (hO.rec hk) hm
  refine J 6 ?_
  refine .c call73 rfl (Ce (n:=m) hp hm g1 g2 g3) fun _ _=>?_
  refine J 4 ?_
  refine .aF rfl rfl fun w s=>⟨(),?_,trivial,ar .auto s⟩
  rw[hcl]
theorem Ki{t:bc}:oZ Tryz.prog 41 3 (.agg (m6 t).toArray) (.agg (m6 t).toArray) true:=fun d w=>by
 have hs:Tryz.prog.stoodInHeld 41=false:=by kernel_rfl
 refine(lV underlying41 hs (d+2) _ _ w).trans ?_
 show(Op.eqFields (d+2) _ _ [_,_,_,_,_,_]).run Tryz.prog w=_
 have p0:Part Tryz.prog 38 (m6 t).toArray 0 (.int .u64 t.handle):=Part.one isAgg38 (by rw[List.getElem?_toArray];rfl)
 refine Eq.trans (cN (a:=.int .u64 t.handle) (b:=.int .u64 t.handle) (r:=decide (t.handle=t.handle)) ?_ ?_ ?_ ?_) ?_
 ·decide +kernel
 ·exact p0
 ·exact p0
 ·exact(oZ.int underlying38 (d+1) w)
 rw[decide_eq_true rfl,if_pos rfl]
 have p1:Part Tryz.prog 3 (m6 t).toArray 1 (.int .i64 t.why):=Part.one isAgg3 (by rw[List.getElem?_toArray];rfl)
 refine Eq.trans (cN (a:=.int .i64 t.why) (b:=.int .i64 t.why) (r:=decide (t.why=t.why)) ?_ ?_ ?_ ?_) ?_
 ·decide +kernel
 ·exact p1
 ·exact p1
 ·exact(oZ.int underlying3 (d+1) w)
 rw[decide_eq_true rfl,if_pos rfl]
 have p2:Part Tryz.prog 3 (m6 t).toArray 2 (.int .i64 t.fn):=Part.one isAgg3 (by rw[List.getElem?_toArray];rfl)
 refine Eq.trans (cN (a:=.int .i64 t.fn) (b:=.int .i64 t.fn) (r:=decide (t.fn=t.fn)) ?_ ?_ ?_ ?_) ?_
 ·decide +kernel
 ·exact p2
 ·exact p2
 ·exact(oZ.int underlying3 (d+1) w)
 rw[decide_eq_true rfl,if_pos rfl]
 have p3:Part Tryz.prog 3 (m6 t).toArray 3 (.int .i64 t.pc):=Part.one isAgg3 (by rw[List.getElem?_toArray];rfl)
 refine Eq.trans (cN (a:=.int .i64 t.pc) (b:=.int .i64 t.pc) (r:=decide (t.pc=t.pc)) ?_ ?_ ?_ ?_) ?_
 ·decide +kernel
 ·exact p3
 ·exact p3
 ·exact(oZ.int underlying3 (d+1) w)
 rw[decide_eq_true rfl,if_pos rfl]
 have pr:Part Tryz.prog 39 (m6 t).toArray 4 (.agg ([t.aq.getD 0 0,t.aq.getD 1 0,t.aq.getD 2 0,t.aq.getD 3 0,t.aq.getD 4 0,t.aq.getD 5 0,t.aq.getD 6 0,t.aq.getD 7 0].map (Value.int .u64)).toArray):=Part.agg isAgg39 sizeOf39
 refine Eq.trans (cN (a:=.agg ([t.aq.getD 0 0,t.aq.getD 1 0,t.aq.getD 2 0,t.aq.getD 3 0,t.aq.getD 4 0,t.aq.getD 5 0,t.aq.getD 6 0,t.aq.getD 7 0].map (Value.int .u64)).toArray) (b:=.agg ([t.aq.getD 0 0,t.aq.getD 1 0,t.aq.getD 2 0,t.aq.getD 3 0,t.aq.getD 4 0,t.aq.getD 5 0,t.aq.getD 6 0,t.aq.getD 7 0].map (Value.int .u64)).toArray) (r:=decide ([t.aq.getD 0 0,t.aq.getD 1 0,t.aq.getD 2 0,t.aq.getD 3 0,t.aq.getD 4 0,t.aq.getD 5 0,t.aq.getD 6 0,t.aq.getD 7 0]=[t.aq.getD 0 0,t.aq.getD 1 0,t.aq.getD 2 0,t.aq.getD 3 0,t.aq.getD 4 0,t.aq.getD 5 0,t.aq.getD 6 0,t.aq.getD 7 0])) ?_ ?_ ?_ ?_) ?_
 ·decide +kernel
 ·exact pr
 ·exact pr
 ·exact(oZ.Kt underlying39 underlying38 isAgg38 sizeOf38 rfl rfl d w)
 rw[decide_eq_true rfl,if_pos rfl]
 have p12:Part Tryz.prog 38 (m6 t).toArray 12 (.int .u64 t.value):=Part.one isAgg38 (by rw[List.getElem?_toArray];rfl)
 refine Eq.trans (cN (a:=.int .u64 t.value) (b:=.int .u64 t.value) (r:=decide (t.value=t.value)) ?_ ?_ ?_ ?_) ?_
 ·decide +kernel
 ·exact p12
 ·exact p12
 ·exact(oZ.int underlying38 (d+1) w)
 rw[decide_eq_true rfl,if_pos rfl]
 simp[Op.eqFields]
theorem CM{W:World}{b:Nat}{s:RSp}{n:Int}:Fn Tryz.prog W 39 [ptr b,.int .i64 n] [arr b 24 (dj s.thr)] Unit (fun _=>.bool (s.runs n)) (fun _=>True) (fun _=>[arr b 24 (dj s.thr)]):=by
 refine Fn.intro (N:=30) func39 rfl ntmps39 rfl fun F=>?_
 show ax _ _ _ _ _ _ [arr b 24 (dj s.thr),F]
 refine J 10 ?_
 apply aP.fq 3 10 7 [7,8,9,10] rfl
 ·intro h7
  exact JS 4
 ·intro h7
  exact JS 4
 refine J 1 ?_
 apply aP.fY 8 19 11 [11,12,13,14,15,16,17,18,19] rfl
 ·intro h11
  simp only[Bool.and_eq_true,decide_eq_true_eq] at h11
  refine J 4 ?_
  refine .g (.aE n.toNat underlying54 sizeOf53 rfl rfl (by omega) (by omega)) ?_
  refine J 1 ?_
  refine .g (.ld rfl (Cell.tz (by first | omega | exact hn))) ?_
  exact JS 2
 ·intro h11
  exact JS 9
 refine J 1 ?_
 apply aP.fY 9 29 20 [20,21,22,23,24,25,26,27,28,29] rfl
 ·intro h20
  simp only[Bool.and_eq_true,decide_eq_true_eq] at h20
  refine J 4 ?_
  refine .g (.aE n.toNat underlying54 sizeOf53 rfl rfl (by omega) (by omega)) ?_
  refine J 1 ?_
  refine .g (.ld rfl (Cell.t (by first | omega | exact hn) rfl)) ?_
  exact JS 3
 ·intro h20
  exact JS 10
 exact JR 4 ()
theorem zN{W:World}{b:Nat}{s:RSp}:Fn Tryz.prog W 20 [ptr b] [arr b 24 (dj s.thr)] Value (fun u=>u) (fun _=>True) (fun u=>[sl aH 1 u (rReady s 16),arr b 24 (dj s.thr)]):=by
 refine Fn.intro (N:=18) func20 rfl ntmps20 rfl fun F=>?_
 show ax _ _ _ _ _ _ [arr b 24 (dj s.thr),F]
 refine J 7 ?_
 refine .aw rfl (af.gD 3 rfl rfl (by kernel_rfl)) ?_
 rintro _ _ ⟨b5,rfl,rfl⟩
 refine .to (A:=sl aH 1 (.slice (some ⟨b5,0,none⟩) 0 0) ([]:List Int)) (Bs:=[]) .nil (fun h e=>.inl ⟨⟨_,rfl⟩,rfl,e⟩) ?_
 refine J 10 ?_
 refine .df (X:=Nat×Value) [3,4,6,7,8,9,10,11,12,13,14,15,16] (fun z=>16-z.1) (fun z=>z.1≤16∧(rReady s z.1).length≤z.1) (fun z=>[(4,some (.int .i64 (z.1:Int))),(3,some z.2)]) (fun z=>[sl aH 1 z.2 (rReady s z.1),arr b 24 (dj s.thr),F]) (0,.slice (some ⟨b5,0,none⟩) 0 0) ?_ ?_ ?_ ?_
 ·exact⟨Nat.zero_le _,Nat.le_refl _⟩
 ·exact⟨rfl,rfl,trivial⟩
 ·exact fun w s=>aM.kept .auto w s
 rintro⟨k,u⟩ ⟨hk,hl⟩
 simp only at hk hl
 refine JD 7 (fun h7=>?_) fun h7=>?_
 ·refine J 8 ?_
  refine .c call39 rfl (CM (s:=s) (n:=(k:Int))) fun _ _=>?_
  refine JD 2 (fun h12=>?_) fun h12=>?_
  ·refine J 3 ?_
   refine .aw rfl (af.gD 3 rfl rfl (by kernel_rfl)) ?_
   rintro _ _ ⟨b15,rfl,rfl⟩
   refine .aw rfl (af.fj (enc:=aH) (k:=1) (k:Int) rfl underlying23 underlying23 typeInfo3 rfl rfl rfl (by decide) rfl rfl rfl .auto rfl .auto (by dsimp only;omega) rfl) ?_
   rintro _ _ ⟨v16,rfl,rfl⟩
   refine J 9 ?_
   refine .bB (k+1,v16) .auto rfl ?_ ?_ ?_ ?_
   ·show 16-(k+1)<16-k;omega
   ·refine⟨by show k+1≤_;omega,?_⟩
    show(rReady s (k+1)).length≤k+1
    rw[rReady,if_pos h12,List.length_append,List.length_singleton];omega
   ·exact⟨rfl,rfl,trivial⟩
   ·show ∀ w,Sat _ w _→Sat _ w (seps [sl aH 1 v16 (rReady s (k+1)),_,F])
    rw[show rReady s (k+1)=rReady s k++[(k:Int)] from by rw[rReady,if_pos h12]]
    exact fun w s=>aM.kept .auto w s
  ·refine J 8 ?_
   refine .bB (k+1,u) .auto rfl ?_ ?_ ?_ ?_
   ·show 16-(k+1)<16-k;omega
   ·refine⟨by show k+1≤_;omega,?_⟩
    show(rReady s (k+1)).length≤k+1
    rw[rReady,if_neg (by rw[h12];simp),List.append_nil];omega
   ·exact⟨rfl,rfl,trivial⟩
   ·show ∀ w,Sat _ w _→Sat _ w (seps [sl aH 1 u (rReady s (k+1)),_,F])
    rw[show rReady s (k+1)=rReady s k from by rw[rReady,if_neg (by rw[h12];simp),List.append_nil]]
    exact fun w s=>aM.kept .auto w s
 ·refine J 12 ?_
  obtain rfl:k=16:=by omega
  refine .aF rfl rfl fun w s=>⟨_,?_,trivial,ar .auto s⟩
  rfl
set_option maxHeartbeats 1000000 in
theorem yd{W:World}{A:aa}{v:ee}{u:Value}{acts:List yf}(hp:gu W [A] v)(hl:v.fs.length≤1000000000∧v.aW.length≤1000000000∧v.aL.length≤1000000000)(hw:∀ f∈v.p.funcs, ∀ i∈f,fJ i.n)(hr:Rd W [A] BS 3 u acts)(_hal:acts.length≤1000000000):Fn Tryz.prog W 3 [.agg (ff v).toArray,u] [A] Unit (fun _=>.bool true) (fun _=>True) (fun _=>[A]):=by
 refine Fn.intro (N:=119) func3 rfl ntmps3 rfl fun F=>?_
 haveI hRI:∀ (H:List aa) [bW H A],aJ W H u BS 3 acts:=fun H h=>⟨hr.at h.has⟩
 show ax _ _ _ _ _ _ [A,F]
 refine J 2 ?_
 refine .aw rfl (af.box rfl rfl rfl) ?_
 rintro _ _ ⟨b2,rfl,rfl⟩
 refine .mem (H':=[arr b2 0 (ff v),A,F]) (fun w s=>s) ?_
 refine J 6 ?_
 refine .c call9 rfl (xQ hp hl) fun o ho=>?_
 refine J 10 ?_
 refine .c call10 rfl (CJ hp hl) fun _ _=>?_
 refine JD 10 (fun h23=>?_) fun h23=>?_
 ·obtain rfl:o=none:=by cases o with | none=>rfl | some k=>exact absurd (of_decide_eq_true ho.symm) h23
  refine J 2 ?_
  refine .c call11 rfl qz fun _ _=>?_
  refine J 1 ?_
  apply aP.fY 4 29 25 [25,26,27,28,29] rfl
  ·intro h25
   exact JS 5
  ·intro h25
   exact JS 5
  refine J 1 ?_
  apply aP.fq 3 33 30 [30,31,32,33] rfl
  ·intro h30
   exact JS 4
  ·intro h30
   exact JS 4
  refine J 5 ?_
  refine .aF rfl rfl fun w s=>⟨(),?_,trivial,ar .auto s⟩
  simp
 ·have hc:ew v.p=0:=Decidable.not_not.mp h23
  obtain⟨ka,rfl⟩:=Option.isSome_iff_exists.1 (ho.trans (decide_eq_true hc))
  rw[hc]
  refine .fr (A:=optH (fun b=>eW b (Spc.new v.p)) (some ka)) (Bs:=[eW ka (Spc.new v.p)]) .auto wO ?_
  have hok:kR 1 (Spc.new v.p):=kR.new ⟨hc,hw⟩
  have hsi:eQ v.p (Spc.new v.p) (RSp.new v.p):=eQ.new ⟨hc,hw⟩
  refine J 13 ?_
  refine .lf rfl ?_
  refine J 5 ?_
  refine .c call12 rfl (GV hp (mV hc)) fun x _=>?_
  refine J 10 ?_
  refine .df (X:=Nat×Spc×RSp) [4,9,42,43,44,45,46,47,48,49,50,51,52,53,54,55,56,57,58,59] (fun z=>acts.length-z.1) (fun z=>z.1≤acts.length∧z.1≤150∧kR (z.1+1) z.2.1∧eQ v.p z.2.1 z.2.2) (fun z=>[(9,some (.int .i64 (z.1:Int)))]) (fun z=>[eW ka z.2.1,bP x.1 (⟨v,x.2⟩:RV) z.2.2,A,F]) (0,Spc.new v.p,RSp.new v.p) ?_ ?_ ?_ ?_
  ·exact⟨Nat.zero_le _,Nat.zero_le _,hok,hsi⟩
  ·exact⟨rfl,trivial⟩
  ·exact fun w s=>aM.kept .auto w s
  rintro⟨k,s,r⟩ ⟨hk,hk2,hO,hS⟩
  simp only at hk hk2 hO hS
  refine J 8 ?_
  apply aP.fq 3 49 46 [46,47,48,49] rfl
  ·intro h46
   exact JS 4
  ·intro h46
   exact JS 4
  refine JD 2 (fun h49=>?_) fun h49=>?_
  ·simp only[Bool.and_eq_true,decide_eq_true_eq] at h49
   refine J 10 ?_
   obtain⟨x,hx⟩:=aB (show k<acts.length by omega)
   obtain⟨what,slot,choice⟩:=x
   refine .p (.ix k rfl rfl rfl (by omega)) ?_
   refine .p (.la rfl (Cells.rd Rd.s hx)) ?_
   refine .c call13 rfl (zM (v:=(⟨v,x.2⟩:RV)) (s:=s) (r:=r) (what:=what) (slot:=slot) (choice:=choice) hp hS hO (by omega)) fun r2 hS2=>?_
   refine J 3 ?_
   refine .lf rfl ?_
   refine J 8 ?_
   refine .bB (k+1,qA s ⟨what,slot,choice⟩,r2) .auto rfl ?_ ?_ ?_ ?_
   ·show acts.length-(k+1)<acts.length-k;omega
   ·exact⟨by show k+1≤_;omega,by show k+1≤150;omega,hO.qA (by omega) _,hS2⟩
   ·exact⟨rfl,trivial⟩
   ·exact fun w s=>aM.kept .auto w s
  ·simp only[Bool.and_eq_false_iff,decide_eq_false_iff_not] at h49
   refine J 12 ?_
   refine .df (X:=Nat) [4,10,11,12,13,14,60,61,62,63,64,65,66,67,68,69,70,71,72,73,74,75,76,77,78,79,80,81,82,83,84,85,86,87,88,89,90,91,92] (fun j=>18-j) (fun j=>j≤18) (fun j=>[(10,some (.int .i64 ((j:Int)-1)))]) (fun j=>[eW ka s,bP x.1 (⟨v,x.2⟩:RV) r,A,F]) 0 ?_ ?_ ?_ ?_
   ·exact Nat.zero_le _
   ·exact⟨rfl,trivial⟩
   ·exact fun w s=>aM.kept .auto w s
   rintro j hj
   refine JD 7 (fun h61=>?_) fun h61=>?_
   ·refine J 8 ?_
    refine .c call14 rfl (uy (s:=s) (n:=((j:Int)-1)) (hO.sK (by omega))) fun _ _=>?_
    refine J 3 ?_
    refine .aw rfl (af.alloc rfl zeroValue41 rfl) ?_
    rintro _ _ ⟨b11,rfl,rfl⟩
    refine J 8 ?_
    refine .c call15 rfl (E8 (s:=r) (n:=((j:Int)-1))) fun _ _=>?_
    rw[hS.look hO.1,hS.seen hO.1]
    refine J 3 ?_
    refine .aw rfl (af.alloc rfl zeroValue41 rfl) ?_
    rintro _ _ ⟨b13,rfl,rfl⟩
    refine J 8 ?_
    refine .p (.FG underlying4 rfl rfl) ?_
    refine J 1 ?_
    apply aP.fZ 4 83 79 [79,80,81,82,83] rfl
    ·intro h79
     refine .g (.la rfl (Cells.a (cs:=m6 ((s.at ((j:Int)-1)).getD F2)))) ?_
     refine .g (.la rfl (Cells.a (cs:=m6 ((s.at ((j:Int)-1)).getD F2)))) ?_
     refine .g (.C7 (by kernel_rfl) Ki rfl rfl rfl) ?_
     exact JS 2
    ·intro h79
     exact JS 5
    refine J 1 ?_
    apply aP.fZ 8 92 84 [84,85,86,87,88,89,90,91,92] rfl
    ·intro h84
     refine J 2 ?_
     refine .cg call16 rfl (zK (s:=s) (n:=((j:Int)-1)) (hO.sK (by omega))) fun _ _=>?_
     refine J 2 ?_
     refine .cg call17 rfl (yc (v:=(⟨v,x.2⟩:RV)) (s:=s) (r:=r) (n:=((j:Int)-1)) hp hS hO (by omega)) fun _ _=>?_
     exact JS 3
    ·intro h84
     exact JS 9
    refine JD 2 (fun h92=>?_) fun h92=>?_
    ·simp at h92
    ·refine J 5 ?_
     refine .p (.dC (Y.add rfl rfl (by omega)) (show((j:Int)-1)+1=((j+1:Nat):Int)-1 by omega)) ?_
     refine J 2 ?_
     refine .bB (j+1) .auto rfl ?_ ?_ ?_ ?_
     ·show 18-(j+1)<18-j;omega
     ·show j+1≤18;omega
     ·exact⟨rfl,trivial⟩
     ·exact fun w s=>aM.kept .auto w s
   ·refine .fr (A:=bP x.1 (⟨v,x.2⟩:RV) r) .auto bu ?_
    refine .o1 (C:=iM dr 6 x.1 337 r.av) .auto rfl ?_
    rintro vr -
    refine .o1 (C:=iM bM 1 x.1 312 r.mem) .auto rfl ?_
    rintro vm -
    rw[hS.rc,hS.me]
    refine J 6 ?_
    refine .draw [arr x.1 337 [vr],arr x.1 312 [vm]] [3,1,1,2,0,3,3,1,1,1,2,0,0,0,0,3,1,1,1,2,0,0,0,0,3,1,1] rfl (by kernel_rfl) ?_
    refine .c call11 rfl qz fun _ _=>?_
    refine J 2 ?_
    refine .o1 (C:=eW ka s) .auto rfl ?_
    rintro ps -
    refine .Jf rfl rfl rfl Kept.auto (af.ed rfl call19 rfl (zx (b:=ka) (s:=s) hO.lt) .auto) (by rintro _ _ ⟨u96, -,rfl,rfl⟩;exact Kept.auto) ?_
    rintro _ _ ⟨u96, -,rfl,rfl⟩
    refine J 1 ?_
    refine .dg rfl rfl rfl (af.ed rfl call20 rfl (zN (s:=r)) .auto) ?_
    rintro _ _ ⟨u98, -,rfl,rfl⟩
    rw[hS.ready hO.1]
    refine .dg rfl rfl rfl (af.ed rfl call18 rfl (oW (A:=seps [sl aH 1 u96 s.ready,sl aH 1 u98 s.ready]) (Rd.iF (Rd.sl .here)) (Rd.iF (Rd.sl (.there .here))) (BT hO.lt)) .auto) ?_
    rintro _ _ ⟨⟨⟩, -,rfl,rfl⟩
    rw[decide_eq_true (rfl:s.ready=s.ready)]
    refine J 3 ?_
    refine .Jf rfl rfl rfl Kept.auto (af.ed rfl call22 rfl (oV (s:=s) (Nat.le_trans (hO.rec (by omega)) (by decide))) .auto) (by rintro _ _ ⟨u103, -,rfl,rfl⟩;exact Kept.auto) ?_
    rintro _ _ ⟨u103, -,rfl,rfl⟩
    refine J 4 ?_
    refine .dg rfl rfl rfl (af.ed rfl call21 rfl (Fw (A:=seps [sl dr 6 u103 s.av,sl dr 6 vr s.av]) (Rd.iF (Rd.sl .here)) (Rd.iF (Rd.sl (.there .here))) (Nat.le_trans (hO.rec (by omega)) (by decide))) .auto) ?_
    rintro _ _ ⟨⟨⟩, -,rfl,rfl⟩
    rw[decide_eq_true (rfl:s.av=s.av)]
    refine J 3 ?_
    refine .Jf rfl rfl rfl Kept.auto (af.ed rfl call24 rfl (xZ (s:=s) (Nat.le_trans (hO.sK (by omega)).mem (by decide))) .auto) (by rintro _ _ ⟨u112, -,rfl,rfl⟩;exact Kept.auto) ?_
    rintro _ _ ⟨u112, -,rfl,rfl⟩
    refine J 4 ?_
    refine .dg rfl rfl rfl (af.ed rfl call23 rfl (CH (A:=seps [sl bM 1 u112 s.mem,sl bM 1 vm s.mem]) (Rd.iF (Rd.sl .here)) (Rd.iF (Rd.sl (.there .here))) (Nat.le_trans (hO.sK (by omega)).mem (by decide))) .auto) ?_
    rintro _ _ ⟨⟨⟩, -,rfl,rfl⟩
    rw[decide_eq_true (rfl:s.mem=s.mem)]
    exact JR 5 ()
end Go.SLYtefdijgllbkmfaaGreat
