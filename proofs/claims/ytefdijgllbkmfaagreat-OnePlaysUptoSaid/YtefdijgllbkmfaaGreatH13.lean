/- Walks of functions, and what they compute. Conditions: none, this text proves no statement. -/
import Derived.Test.YtefdijgllbkmfaaGreatH06
import Derived.Test.YtefdijgllbkmfaaGreatProg
import Derived.Test.YtefdijgllbkmfaaGreatH12
import Derived.Test.YtefdijgllbkmfaaGreatH05
import Derived.KernelRfl
import Derived.Test.YtefdijgllbkmfaaGreatH09
import Derived.Test.YtefdijgllbkmfaaGreatH10
set_option maxRecDepth 20000
set_option maxHeartbeats 4000000
namespace Go.SLYtefdijgllbkmfaaGreat
open Go Go.RowKit Go.Proofs Go.Proofs.Tryz
attribute [local irreducible] ax aQ bu cj bQ Y
theorem Lh{a b:Rec}:pC Tryz.prog 101 2 (.agg (dr a).toArray) (.agg (dr b).toArray) (decide (a=b)):=fun d w=>by
 have hs:Tryz.prog.stoodInHeld 101=false:=by kernel_rfl
 have one:∀ (r:Rec) (t:TypeId) (i:Nat) (v:Value),(∀ w,(isAgg t).run Tryz.prog w = .ok false w)→(dr r)[i]?=some v→Part Tryz.prog t (dr r).toArray i v:=fun r t i v ha hv=>Part.one ha (by rw[List.getElem?_toArray];exact hv)
 refine(l5 underlying101 hs (d+1) _ _ w).trans ?_
 show(Op.eqFields (d+1) _ _ [_,_,_,_,_,_]).run Tryz.prog w=_
 have pa0:Part Tryz.prog 38 (dr a).toArray 0 (.int .u64 a.dv):=one a _ 0 _ isAgg38 rfl
 have pb0:Part Tryz.prog 38 (dr b).toArray 0 (.int .u64 b.dv):=one b _ 0 _ isAgg38 rfl
 refine Eq.trans (cS (a:=.int .u64 a.dv) (b:=.int .u64 b.dv) (r:=decide (a.dv=b.dv)) ?_ ?_ ?_ ?_) ?_
 ·decide +kernel
 ·exact pa0
 ·exact pb0
 ·exact(pC.int underlying38 d w)
 by_cases h0:a.dv=b.dv
 rotate_left
 ·rw[decide_eq_false h0,decide_eq_false (fun e=>h0 (by rw[e])),if_neg (by simp)]
 rw[decide_eq_true h0,if_pos rfl]
 have pa1:Part Tryz.prog 3 (dr a).toArray 1 (.int .i64 a.op):=one a _ 1 _ isAgg3 rfl
 have pb1:Part Tryz.prog 3 (dr b).toArray 1 (.int .i64 b.op):=one b _ 1 _ isAgg3 rfl
 refine Eq.trans (cS (a:=.int .i64 a.op) (b:=.int .i64 b.op) (r:=decide (a.op=b.op)) ?_ ?_ ?_ ?_) ?_
 ·decide +kernel
 ·exact pa1
 ·exact pb1
 ·exact(pC.int underlying3 d w)
 by_cases h1:a.op=b.op
 rotate_left
 ·rw[decide_eq_false h1,decide_eq_false (fun e=>h1 (by rw[e])),if_neg (by simp)]
 rw[decide_eq_true h1,if_pos rfl]
 have pa2:Part Tryz.prog 38 (dr a).toArray 2 (.int .u64 a.x):=one a _ 2 _ isAgg38 rfl
 have pb2:Part Tryz.prog 38 (dr b).toArray 2 (.int .u64 b.x):=one b _ 2 _ isAgg38 rfl
 refine Eq.trans (cS (a:=.int .u64 a.x) (b:=.int .u64 b.x) (r:=decide (a.x=b.x)) ?_ ?_ ?_ ?_) ?_
 ·decide +kernel
 ·exact pa2
 ·exact pb2
 ·exact(pC.int underlying38 d w)
 by_cases h2:a.x=b.x
 rotate_left
 ·rw[decide_eq_false h2,decide_eq_false (fun e=>h2 (by rw[e])),if_neg (by simp)]
 rw[decide_eq_true h2,if_pos rfl]
 have pa3:Part Tryz.prog 38 (dr a).toArray 3 (.int .u64 a.y):=one a _ 3 _ isAgg38 rfl
 have pb3:Part Tryz.prog 38 (dr b).toArray 3 (.int .u64 b.y):=one b _ 3 _ isAgg38 rfl
 refine Eq.trans (cS (a:=.int .u64 a.y) (b:=.int .u64 b.y) (r:=decide (a.y=b.y)) ?_ ?_ ?_ ?_) ?_
 ·decide +kernel
 ·exact pa3
 ·exact pb3
 ·exact(pC.int underlying38 d w)
 by_cases h3:a.y=b.y
 rotate_left
 ·rw[decide_eq_false h3,decide_eq_false (fun e=>h3 (by rw[e])),if_neg (by simp)]
 rw[decide_eq_true h3,if_pos rfl]
 have pa4:Part Tryz.prog 28 (dr a).toArray 4 (.int .i64 a.result):=one a _ 4 _ isAgg28 rfl
 have pb4:Part Tryz.prog 28 (dr b).toArray 4 (.int .i64 b.result):=one b _ 4 _ isAgg28 rfl
 refine Eq.trans (cS (a:=.int .i64 a.result) (b:=.int .i64 b.result) (r:=decide (a.result=b.result)) ?_ ?_ ?_ ?_) ?_
 ·decide +kernel
 ·exact pa4
 ·exact pb4
 ·exact(pC.int underlying28 d w)
 by_cases h4:a.result=b.result
 rotate_left
 ·rw[decide_eq_false h4,decide_eq_false (fun e=>h4 (by rw[e])),if_neg (by simp)]
 rw[decide_eq_true h4,if_pos rfl]
 have pa5:Part Tryz.prog 4 (dr a).toArray 5 (.bool a.fin):=one a _ 5 _ isAgg4 rfl
 have pb5:Part Tryz.prog 4 (dr b).toArray 5 (.bool b.fin):=one b _ 5 _ isAgg4 rfl
 refine Eq.trans (cS (a:=.bool a.fin) (b:=.bool b.fin) (r:=decide (a.fin=b.fin)) ?_ ?_ ?_ ?_) ?_
 ·decide +kernel
 ·exact pa5
 ·exact pb5
 ·exact(pC.bool underlying4 d w)
 by_cases h5:a.fin=b.fin
 rotate_left
 ·rw[decide_eq_false h5,decide_eq_false (fun e=>h5 (by rw[e])),if_neg (by simp)]
 rw[decide_eq_true h5,if_pos rfl]
 have e:a=b:=by
  obtain⟨a1,a2,a3,a4,a5,a6⟩:=a
  obtain⟨b1,b2,b3,b4,b5,b6⟩:=b
  simp only at h0 h1 h2 h3 h4 h5
  subst h0 h1 h2 h3 h4 h5
  rfl
 rw[decide_eq_true e]
 simp[Op.eqFields]
theorem Di{W:World}{A:aa}{v u:Value}{xs ys:List Int}(hv:Rd W [A] bF 1 v xs)(hu:Rd W [A] bF 1 u ys)(hl:xs.length≤1000000000):Fn Tryz.prog W 23 [v,u] [A] Unit (fun _=>.bool (decide (xs=ys))) (fun _=>True) (fun _=>[A]):=by
 refine Fn.intro (N:=26) func23 rfl ntmps23 rfl fun F=>?_
 haveI hRI:∀ (H:List aa) [bX H A],aI W H v bF 1 xs:=fun H h=>⟨hv.at h.has⟩
 haveI hRJ:∀ (H:List aa) [bX H A],aI W H u bF 1 ys:=fun H h=>⟨hu.at h.has⟩
 show ax _ _ _ _ _ _ [A,F]
 refine JD 15 (fun h10=>?_) fun h10=>?_
 ·refine J 7 ?_
  refine .aC rfl rfl fun w s=>⟨(),?_,trivial,ar .auto s⟩
  rw[decide_eq_false (fun e=>h10 (by rw[e]))]
 ·refine J 9 ?_
  refine .cM (X:=Nat) [4,5,11,12,13,14,15,16,17,18,19,20,21,22,23,24,25] (fun k=>xs.length-k) (fun k=>k≤xs.length∧xs.take k=ys.take k) (fun k=>[(5,some (.int .i64 (k:Int)))]) (fun k=>[A,F]) 0 ?_ ?_ ?_ ?_
  ·exact⟨Nat.zero_le _,rfl⟩
  ·exact⟨rfl,trivial⟩
  ·exact fun w s=>aK.kept .auto w s
  rintro k ⟨hk,hn⟩
  refine JD 9 (fun h14=>?_) fun h14=>?_
  ·refine J 5 ?_
   refine .draw [] [1,1,1,1,1,1,1,1,1] rfl (by kernel_rfl) ?_
   obtain⟨x,hx⟩:=ay (show k<xs.length by omega)
   obtain⟨y,hy⟩:=ay (show k<ys.length by omega)
   refine J 3 ?_
   refine .p (.lr rfl hx) ?_
   refine J 3 ?_
   refine .p (.lr rfl hy) ?_
   refine JD 3 (fun h25=>?_) fun h25=>?_
   ·refine J 11 ?_
    refine .aC rfl rfl fun w s=>⟨(),?_,trivial,ar .auto s⟩
    rw[decide_eq_false (fun e=>h25 (by rw[e] at hx;exact Option.some.inj (hx.symm.trans hy)))]
   ·refine J 8 ?_
    refine .bf (k+1) .auto rfl ?_ ?_ ?_ ?_
    ·first | omega | (dsimp only;omega)
    ·exact⟨by omega,by rw[cy hx,cy hy,hn,Decidable.of_not_not h25]⟩
    ·exact⟨rfl,trivial⟩
    ·exact fun w s=>aK.kept .auto w s
  ·refine J 11 ?_
   obtain rfl:k=xs.length:=by omega
   rw[List.take_length,List.take_of_length_le (by omega)] at hn
   refine .aC rfl rfl fun w s=>⟨(),?_,trivial,ar .auto s⟩
   rw[decide_eq_true hn]
theorem Gc{W:World}{A:aa}{v u:Value}{xs ys:List Rec}(hv:Rd W [A] dr 6 v xs)(hu:Rd W [A] dr 6 u ys)(hl:xs.length≤1000000000):Fn Tryz.prog W 21 [v,u] [A] Unit (fun _=>.bool (decide (xs=ys))) (fun _=>True) (fun _=>[A]):=by
 refine Fn.intro (N:=26) func21 rfl ntmps21 rfl fun F=>?_
 haveI hRI:∀ (H:List aa) [bX H A],aI W H v dr 6 xs:=fun H h=>⟨hv.at h.has⟩
 haveI hRJ:∀ (H:List aa) [bX H A],aI W H u dr 6 ys:=fun H h=>⟨hu.at h.has⟩
 show ax _ _ _ _ _ _ [A,F]
 refine JD 15 (fun h10=>?_) fun h10=>?_
 ·refine J 7 ?_
  refine .aC rfl rfl fun w s=>⟨(),?_,trivial,ar .auto s⟩
  rw[decide_eq_false (fun e=>h10 (by rw[e]))]
 ·refine J 9 ?_
  refine .cM (X:=Nat) [4,5,11,12,13,14,15,16,17,18,19,20,21,22,23,24,25] (fun k=>xs.length-k) (fun k=>k≤xs.length∧xs.take k=ys.take k) (fun k=>[(5,some (.int .i64 (k:Int)))]) (fun k=>[A,F]) 0 ?_ ?_ ?_ ?_
  ·exact⟨Nat.zero_le _,rfl⟩
  ·exact⟨rfl,trivial⟩
  ·exact fun w s=>aK.kept .auto w s
  rintro k ⟨hk,hn⟩
  refine JD 9 (fun h14=>?_) fun h14=>?_
  ·refine J 5 ?_
   refine .draw [] [1,1,1,1,1,1,1,1,1] rfl (by kernel_rfl) ?_
   obtain⟨x,hx⟩:=ay (show k<xs.length by omega)
   obtain⟨y,hy⟩:=ay (show k<ys.length by omega)
   refine J 3 ?_
   refine .p (.la rfl (Cells.rd Rd.s hx)) ?_
   refine J 3 ?_
   refine .p (.la rfl (Cells.rd Rd.s hy)) ?_
   refine .p (.DH (by kernel_rfl) Lh rfl rfl rfl) ?_
   refine JD 2 (fun h25=>?_) fun h25=>?_
   ·have h25:x≠y:=by simpa using h25
    refine J 11 ?_
    refine .aC rfl rfl fun w s=>⟨(),?_,trivial,ar .auto s⟩
    rw[decide_eq_false (fun e=>h25 (by rw[e] at hx;exact Option.some.inj (hx.symm.trans hy)))]
   ·have h25:¬x≠y:=by simpa using h25
    refine J 8 ?_
    refine .bf (k+1) .auto rfl ?_ ?_ ?_ ?_
    ·first | omega | (dsimp only;omega)
    ·exact⟨by omega,by rw[cy hx,cy hy,hn,Decidable.of_not_not h25]⟩
    ·exact⟨rfl,trivial⟩
    ·exact fun w s=>aK.kept .auto w s
  ·refine J 11 ?_
   obtain rfl:k=xs.length:=by omega
   rw[List.take_length,List.take_of_length_le (by omega)] at hn
   refine .aC rfl rfl fun w s=>⟨(),?_,trivial,ar .auto s⟩
   rw[decide_eq_true hn]
end Go.SLYtefdijgllbkmfaaGreat
namespace Go.SLYtefdijgllbkmfaaGreat
open Go Go.RowKit Go.Proofs Go.Proofs.Tryz
attribute [local irreducible] ax aQ bu cj bQ Y
theorem H9{W:World}{op:Int}:Fn Tryz.prog W 109 [.int .i64 op] [] Unit (fun _=>.string (iw op)) (fun _=>True) (fun _=>[]):=by
 refine Fn.intro (N:=17) func109 rfl ntmps109 rfl fun F=>?_
 show ax _ _ _ _ _ _ [F]
 refine J 7 ?_
 refine .aw rfl (af.gQ 9 rfl rfl (by kernel_rfl)) ?_
 rintro _ _ ⟨b4,rfl,rfl⟩
 refine J 9 ?_
 apply aQ.ga 5 12 7 [7,8,9,10,11,12] rfl
 ·intro h7
  exact JS 6
 ·intro h7
  exact JS 6
 refine JD 2 (fun h12=>?_) fun h12=>?_
 ·simp only[Bool.or_eq_true,decide_eq_true_eq] at h12
  refine J 7 ?_
  refine .aC rfl rfl fun w s=>⟨(),?_,trivial,ar .auto s⟩
  rw[sL (by omega)]
 ·simp only[Bool.or_eq_false_iff,decide_eq_false_iff_not] at h12
  refine J 6 ?_
  obtain⟨n,rfl⟩:∃ n:Nat,op=(n:Int):=⟨op.toNat,by omega⟩
  obtain⟨x,hx⟩:=ay (show n<wJ.length by show n<39;omega)
  refine .p (.ig n underlying257 sizeOf9 rfl rfl (Rd.lit (enc:=KW) (k:=1) (xs:=wJ) (b:=b4) .auto rfl (fun _ _=>rfl) rfl) rfl (by show n<39;omega)) ?_
  refine .p (.ld rfl (Cell.za (Rd.lit (enc:=KW) (k:=1) (xs:=wJ) (b:=b4) .auto rfl (fun _ _=>rfl) rfl) hx rfl)) ?_
  refine J 4 ?_
  refine .aC rfl rfl fun w s=>⟨(),?_,trivial,ar .auto s⟩
  rw[Fk hx]
theorem wX{W:World}{s:ByteArray}{c:Int}(hs:s.size≤1000000):Fn Tryz.prog W 111 [.string s,.int .u8 c] [] Unit (fun _=>.bool (Br s c)) (fun _=>True) (fun _=>[]):=by
 refine Fn.intro (N:=17) func111 rfl ntmps111 rfl fun F=>?_
 show ax _ _ _ _ _ _ [F]
 refine J 12 ?_
 refine .cM (X:=Nat) [4,5,6,7,8,9,10,11,12,13,14,15,16] (fun k=>s.size-k) (fun k=>k≤s.size∧((s.data.toList.take k).any fun b=>decide ((b.toNat:Int)=c))=false) (fun k=>[(5,some (.int .i64 (k:Int)))]) (fun k=>[F]) 0 ?_ ?_ ?_ ?_
 ·exact⟨Nat.zero_le _,rfl⟩
 ·exact⟨rfl,trivial⟩
 ·exact fun w s=>aK.kept .auto w s
 rintro k ⟨hk,hn⟩
 refine J 5 ?_
 refine .p (.Fg underlying9 rfl) ?_
 refine JD 3 (fun h9=>?_) fun h9=>?_
 ·refine J 8 ?_
  obtain⟨x,hx,hxl⟩:=ym (show k<s.size by omega)
  refine .p (.Iz k underlying9 rfl rfl rfl hx) ?_
  refine JD 4 (fun h16=>?_) fun h16=>?_
  ·refine J 11 ?_
   refine .aC rfl rfl fun w s=>⟨(),?_,trivial,ar .auto s⟩
   rw[Hn hxl h16]
  ·refine J 8 ?_
   refine .bf (k+1) .auto rfl ?_ ?_ ?_ ?_
   ·first | omega | (dsimp only;omega)
   ·exact⟨by omega,sM hxl hn h16⟩
   ·exact⟨rfl,trivial⟩
   ·exact fun w s=>aK.kept .auto w s
 ·refine J 11 ?_
  have hkk:k=s.size:=by omega
  refine .aC rfl rfl fun w s=>⟨(),?_,trivial,ar .auto s⟩
  rw[Fi hkk hn]
theorem mO{W:World}{n m:Int}{b:Bool}:Fn Tryz.prog W 110 [.int .i64 n,.bool b,.int .i64 m] [] Unit (fun _=>.bool (gP n b m)) (fun _=>True) (fun _=>[]):=by
 refine Fn.intro (N:=18) func110 rfl ntmps110 rfl fun F=>?_
 show ax _ _ _ _ _ _ [F]
 refine JD 12 (fun h8=>?_) fun h8=>?_
 ·refine J 9 ?_
  refine .aC rfl rfl fun w s=>⟨(),?_,trivial,ar .auto s⟩
  have hb:b=false:=by simpa using h8
  rw[hb];unfold gP;rw[if_pos rfl]
 ·refine J 7 ?_
  apply aQ.fZ 4 17 13 [13,14,15,16,17] rfl
  ·intro h13
   exact JS 5
  ·intro h13
   exact JS 5
  refine J 4 ?_
  refine .aC rfl rfl fun w s=>⟨(),?_,trivial,ar .auto s⟩
  have hb:b=true:=by simpa using h8
  rw[hb];unfold gP;rw[if_neg (by decide)]
theorem Dj{W:World}{A:aa}{v:bN}(hp:fp W [A] v){i:Ins}(hc0:eg v.p=true):Fn Tryz.prog W 66 [.agg (eH v).toArray,.agg (dI i).toArray] [A] Unit (fun _=>.bool (ez v.p i)) (fun _=>True) (fun _=>[A]):=by
 refine Fn.intro (N:=88) func66 rfl ntmps66 rfl fun F=>?_
 haveI hI1:∀ (H:List aa) [bX H A],aI W H v.fv cn 1 v.fs:=fun H h=>⟨hp.fs.at h.has⟩
 haveI hI2:∀ (H:List aa) [bX H A],aI W H v.sv aL 1 v.aU:=fun H h=>⟨hp.aU.at h.has⟩
 haveI hI3:∀ (H:List aa) [bX H A],aI W H v.pv aL 1 v.aG:=fun H h=>⟨hp.aG.at h.has⟩
 show ax _ _ _ _ _ _ [A,F]
 have hcp:=CJ hc0
 have hfl:v.p.funcs.length=v.fs.length:=List.length_map ..
 refine J 2 ?_
 refine .aw rfl (af.box rfl rfl rfl) ?_
 rintro _ _ ⟨b2,rfl,rfl⟩
 refine .aw rfl (af.box rfl rfl rfl) ?_
 rintro _ _ ⟨b3,rfl,rfl⟩
 refine J 7 ?_
 refine .c call109 rfl H9 fun _ _=>?_
 refine J 5 ?_
 refine .draw [arr b3 0 (dI i)] [1,1,1,0,0,1,2,3,1,1,1,0,0,1,2,3,1,1] rfl (by kernel_rfl) ?_
 refine J 1 ?_
 refine .p (.LZ (Y.eqStr rfl rfl) (Fh (iw i.op))) ?_
 refine J 1 ?_
 refine .lJ (t:=12) rfl (fun h0=>?_) (fun h0=>?_)
 ·refine J 3 ?_
  refine .zf rfl rfl rfl rfl Kept.auto ?_
  refine .AD rfl rfl rfl rfl ?_
  refine J 6 ?_
  refine .zf rfl rfl rfl rfl Kept.auto ?_
  refine .AD rfl rfl rfl rfl ?_
  refine J 4 ?_
  refine .gK rfl ?_
  refine J 7 ?_
  refine .aC rfl rfl fun w s=>⟨(),?_,trivial,ar .auto s⟩
  rw[← fH v.p i hcp.1.1 hcp.2.1.1];unfold nv;rw[if_pos h0]
 ·refine J 3 ?_
  refine .Lj rfl rfl rfl Kept.auto (af.eO rfl call111 rfl (wX (s:=iw i.op) (c:=65) (Nat.le_trans (kB _) (by decide))) .auto) (by rintro _ _ ⟨⟨⟩, -,rfl,rfl⟩;exact Kept.auto) ?_
  rintro _ _ ⟨⟨⟩, -,rfl,rfl⟩
  refine .dg rfl rfl rfl (af.eO rfl call110 rfl mO .auto) ?_
  rintro _ _ ⟨⟨⟩, -,rfl,rfl⟩
  refine J 3 ?_
  refine .part (t:=20) rfl (fun hA=>?_) (fun hA=>?_)
  ·refine J 3 ?_
   refine .zf rfl rfl rfl rfl Kept.auto ?_
   refine .AD rfl rfl rfl rfl ?_
   refine J 4 ?_
   refine .gK rfl ?_
   refine J 7 ?_
   refine .aC rfl rfl fun w s=>⟨(),?_,trivial,ar .auto s⟩
   rw[← fH v.p i hcp.1.1 hcp.2.1.1,lf h0 (show _=false by simpa using hA) rfl rfl rfl];rfl
  ·refine J 3 ?_
   refine .Lj rfl rfl rfl Kept.auto (af.eO rfl call111 rfl (wX (s:=iw i.op) (c:=66) (Nat.le_trans (kB _) (by decide))) .auto) (by rintro _ _ ⟨⟨⟩, -,rfl,rfl⟩;exact Kept.auto) ?_
   rintro _ _ ⟨⟨⟩, -,rfl,rfl⟩
   refine .dg rfl rfl rfl (af.eO rfl call110 rfl mO .auto) ?_
   rintro _ _ ⟨⟨⟩, -,rfl,rfl⟩
   refine JD 4 (fun hB=>?_) fun hB=>?_
   ·refine J 7 ?_
    refine .aC rfl rfl fun w s=>⟨(),?_,trivial,ar .auto s⟩
    rw[← fH v.p i hcp.1.1 hcp.2.1.1,lf h0 rfl (show _=false by simpa using hB) rfl rfl,Bool.and_false];rfl
   ·rw[Bool.not_eq_false'] at hA hB
    refine J 2 ?_
    refine .nJ (X:=Unit) [4,28,29,30,31,32,33,34,35,36,37,38,39,40,41] (fun _=>jU v.p i=true) (fun _=>[]) (fun _=>[arr b2 0 (eH v),arr b3 0 (dI i),A,F]) ?_ ?_
    ·refine J 3 ?_
     refine .c call111 rfl (wX (s:=iw i.op) (c:=77) (Nat.le_trans (kB _) (by decide))) fun _ _=>?_
     refine JD 2 (fun h29=>?_) fun h29=>?_
     ·refine J 6 ?_
      refine .c call110 rfl mO fun _ _=>?_
      refine JD 3 (fun h35=>?_) fun h35=>?_
      ·refine J 7 ?_
       refine .aC rfl rfl fun w s=>⟨(),?_,trivial,ar .auto s⟩
       rw[← fH v.p i hcp.1.1 hcp.2.1.1,lf h0 rfl rfl (show jU v.p i=false by unfold jU;rw[if_pos h29];exact(show gP i.c true v.aB=false by simpa using h35)) rfl,Bool.and_false,Bool.false_and]
      ·refine J 1 ?_
       refine .eY () .auto ?_ ?_ ?_
       ·unfold jU;rw[if_pos h29];exact(show gP i.c true v.aB=true by simpa using h35)
       ·trivial
       ·exact fun w s=>aK.kept .auto w s
     ·refine J 1 ?_
      refine .draw [arr b3 0 (dI i)] [0,0,1,2,3,1] rfl (by kernel_rfl) ?_
      refine J 3 ?_
      refine .c2 call111 rfl (wX (s:=iw i.op) (c:=67) (Nat.le_trans (kB _) (by decide))) fun _ _=>?_
      refine .c call110 rfl mO fun _ _=>?_
      refine JD 3 (fun h41=>?_) fun h41=>?_
      ·refine J 7 ?_
       refine .aC rfl rfl fun w s=>⟨(),?_,trivial,ar .auto s⟩
       rw[← fH v.p i hcp.1.1 hcp.2.1.1,lf h0 rfl rfl (show jU v.p i=false by unfold jU;rw[if_neg (by rw[h29];decide)];simpa using h41) rfl,Bool.and_false,Bool.false_and]
      ·refine J 1 ?_
       refine .eY () .auto ?_ ?_ ?_
       ·unfold jU;rw[if_neg (by rw[h29];decide)];simpa using h41
       ·trivial
       ·exact fun w s=>aK.kept .auto w s
    ·rintro⟨⟩ hthird
     refine J 5 ?_
     refine .nJ (X:=Int) [4,6,42,43,44,45,46,47,48,49,50,51,52,53,54,55,56,57,58,59,60,61,62,63,64,65,66,67,68,69,70,71,72,73,74,75,76,77,78] (fun m=>mZ v.p i (oX (iw i.op))=(decide (0<m) && decide (i.n<m))∧m≤1000) (fun m=>[(6,some (.int .i64 m))]) (fun _=>[arr b2 0 (eH v),arr b3 0 (dI i),A,F]) ?_ ?_
     ·refine J 4 ?_
      obtain⟨h1s,cc,hcc,hlc⟩:=Fj h0
      have hsz:=kB i.op
      refine .p (.Fg underlying9 rfl) ?_
      refine J 1 ?_
      refine .p (.Iz ((iw i.op).size-1) underlying9 rfl rfl (by omega) hcc) ?_
      refine JD 9 (fun h47=>?_) fun h47=>?_
      ·refine J 8 ?_
       refine .aC rfl rfl fun w s=>⟨(),?_,trivial,ar .auto s⟩
       rw[← fH v.p i hcp.1.1 hcp.2.1.1,lf h0 hA hB hthird (Ho (hlc.trans h47))];rfl
      ·refine JD 6 (fun h49=>?_) fun h49=>?_
       ·refine J 11 ?_
        refine .aC rfl rfl fun w s=>⟨(),?_,trivial,ar .auto s⟩
        rw[← fH v.p i hcp.1.1 hcp.2.1.1,lf h0 hA hB hthird (Hp (fun e=>h47 (hlc.symm.trans e)) (hlc.trans h49))];rfl
       ·have h1:¬oX (iw i.op)=120:=fun e=>h47 (hlc.symm.trans e)
        have h2:¬oX (iw i.op)=110:=fun e=>h49 (hlc.symm.trans e)
        refine JD 6 (fun h54=>?_) fun h54=>?_
        ·refine J 4 ?_
         refine .eY 257 .auto ?_ ?_ ?_
         ·exact⟨lb h1 h2 (by unfold mf;rw[if_pos (hlc.trans h54)]),by decide⟩
         ·exact⟨rfl,trivial⟩
         ·exact fun w s=>aK.kept .auto w s
        ·refine JD 6 (fun h56=>?_) fun h56=>?_
         ·refine J 7 ?_
          refine .eY (v.fs.length:Int) .auto ?_ ?_ ?_
          ·exact⟨lb h1 h2 (by unfold mf;rw[if_neg (fun e=>h54 (hlc.symm.trans e)),if_pos (hlc.trans h56),hfl]),by omega⟩
          ·exact⟨rfl,trivial⟩
          ·exact fun w s=>aK.kept .auto w s
         ·refine JD 6 (fun h61=>?_) fun h61=>?_
          ·refine J 6 ?_
           refine .eY v.p.aB .auto ?_ ?_ ?_
           ·exact⟨lb h1 h2 (by unfold mf;rw[if_neg (fun e=>h54 (hlc.symm.trans e)),if_neg (fun e=>h56 (hlc.symm.trans e)),if_pos (hlc.trans h61)]),by omega⟩
           ·exact⟨rfl,trivial⟩
           ·exact fun w s=>aK.kept .auto w s
          ·refine JD 6 (fun h65=>?_) fun h65=>?_
           ·refine J 6 ?_
            refine .eY v.p.conds .auto ?_ ?_ ?_
            ·exact⟨lb h1 h2 (by unfold mf;rw[if_neg (fun e=>h54 (hlc.symm.trans e)),if_neg (fun e=>h56 (hlc.symm.trans e)),if_neg (fun e=>h61 (hlc.symm.trans e)),if_pos (hlc.trans h65)]),by omega⟩
            ·exact⟨rfl,trivial⟩
            ·exact fun w s=>aK.kept .auto w s
           ·refine JD 6 (fun h69=>?_) fun h69=>?_
            ·refine J 7 ?_
             refine .eY (v.p.aU.length:Int) .auto ?_ ?_ ?_
             ·exact⟨lb h1 h2 (by unfold mf;rw[if_neg (fun e=>h54 (hlc.symm.trans e)),if_neg (fun e=>h56 (hlc.symm.trans e)),if_neg (fun e=>h61 (hlc.symm.trans e)),if_neg (fun e=>h65 (hlc.symm.trans e)),if_pos (hlc.trans h69)]),by omega⟩
             ·exact⟨rfl,trivial⟩
             ·exact fun w s=>aK.kept .auto w s
            ·refine JD 6 (fun h74=>?_) fun h74=>?_
             ·refine J 7 ?_
              refine .eY (v.p.aG.length:Int) .auto ?_ ?_ ?_
              ·exact⟨lb h1 h2 (by unfold mf;rw[if_neg (fun e=>h54 (hlc.symm.trans e)),if_neg (fun e=>h56 (hlc.symm.trans e)),if_neg (fun e=>h61 (hlc.symm.trans e)),if_neg (fun e=>h65 (hlc.symm.trans e)),if_neg (fun e=>h69 (hlc.symm.trans e)),if_pos (hlc.trans h74)]),by omega⟩
              ·exact⟨rfl,trivial⟩
              ·exact fun w s=>aK.kept .auto w s
             ·refine J 2 ?_
              refine .eY 0 .auto ?_ ?_ ?_
              ·exact⟨lb h1 h2 (by unfold mf;rw[if_neg (fun e=>h54 (hlc.symm.trans e)),if_neg (fun e=>h56 (hlc.symm.trans e)),if_neg (fun e=>h61 (hlc.symm.trans e)),if_neg (fun e=>h65 (hlc.symm.trans e)),if_neg (fun e=>h69 (hlc.symm.trans e)),if_neg (fun e=>h74 (hlc.symm.trans e))]),by decide⟩
              ·exact⟨rfl,trivial⟩
              ·exact fun w s=>aK.kept .auto w s
     ·rintro m ⟨hm1,hm2⟩
      refine J 5 ?_
      apply aQ.fZ 6 87 81 [81,82,83,84,85,86,87] rfl
      ·intro h81
       refine J 3 ?_
       refine .g (.gh underlying3 underlying38 rfl (by omega)) ?_
       exact JS 3
      ·intro h81
       exact JS 7
      refine J 4 ?_
      refine .aC rfl rfl fun w s=>⟨(),?_,trivial,ar .auto s⟩
      refine Gz ?_
      rw[← fH v.p i hcp.1.1 hcp.2.1.1,lf h0 hA hB hthird hm1];simp
theorem Dk{W:World}{A:aa}{v:bN}(hp:fp W [A] v)(hl:v.fs.length≤1000000000∧v.aU.length≤1000000000∧v.aG.length≤1000000000):Fn Tryz.prog W 10 [.agg (eH v).toArray] [A] Unit (fun _=>.int .i64 (dD v.p)) (fun _=>True) (fun _=>[A]):=by
 refine Fn.intro (N:=164) func10 rfl ntmps10 rfl fun F=>?_
 haveI hI1:∀ (H:List aa) [bX H A],aI W H v.fv cn 1 v.fs:=fun H h=>⟨hp.fs.at h.has⟩
 haveI hI2:∀ (H:List aa) [bX H A],aI W H v.sv aL 1 v.aU:=fun H h=>⟨hp.aU.at h.has⟩
 haveI hI3:∀ (H:List aa) [bX H A],aI W H v.pv aL 1 v.aG:=fun H h=>⟨hp.aG.at h.has⟩
 show ax _ _ _ _ _ _ [A,F]
 refine J 2 ?_
 refine .aw rfl (af.box rfl rfl rfl) ?_
 rintro _ _ ⟨b1,rfl,rfl⟩
 refine J 11 ?_
 apply aQ.ga 5 17 12 [12,13,14,15,16,17] rfl
 ·intro h12
  exact JS 6
 ·intro h12
  exact JS 6
 refine J 1 ?_
 apply aQ.gj 4 22 18 [18,19,20,21,22] rfl
 ·intro h18
  exact JS 5
 ·intro h18
  exact JS 5
 refine J 1 ?_
 apply aQ.gj 4 27 23 [23,24,25,26,27] rfl
 ·intro h23
  exact JS 5
 ·intro h23
  exact JS 5
 refine J 1 ?_
 apply aQ.gj 4 32 28 [28,29,30,31,32] rfl
 ·intro h28
  exact JS 5
 ·intro h28
  exact JS 5
 refine J 1 ?_
 apply aQ.gj 4 37 33 [33,34,35,36,37] rfl
 ·intro h33
  exact JS 5
 ·intro h33
  exact JS 5
 refine J 1 ?_
 apply aQ.gj 4 42 38 [38,39,40,41,42] rfl
 ·intro h38
  exact JS 5
 ·intro h38
  exact JS 5
 refine J 1 ?_
 apply aQ.gj 4 47 43 [43,44,45,46,47] rfl
 ·intro h43
  exact JS 5
 ·intro h43
  exact JS 5
 refine J 1 ?_
 apply aQ.gj 5 53 48 [48,49,50,51,52,53] rfl
 ·intro h48
  exact JS 6
 ·intro h48
  exact JS 6
 refine J 1 ?_
 apply aQ.gj 5 59 54 [54,55,56,57,58,59] rfl
 ·intro h54
  exact JS 6
 ·intro h54
  exact JS 6
 refine J 1 ?_
 apply aQ.gj 4 64 60 [60,61,62,63,64] rfl
 ·intro h60
  exact JS 5
 ·intro h60
  exact JS 5
 refine J 1 ?_
 apply aQ.gj 4 69 65 [65,66,67,68,69] rfl
 ·intro h65
  exact JS 5
 ·intro h65
  exact JS 5
 refine J 1 ?_
 apply aQ.gj 4 74 70 [70,71,72,73,74] rfl
 ·intro h70
  exact JS 5
 ·intro h70
  exact JS 5
 refine J 1 ?_
 apply aQ.gj 4 79 75 [75,76,77,78,79] rfl
 ·intro h75
  exact JS 5
 ·intro h75
  exact JS 5
 refine JD 2 (fun h79=>?_) fun h79=>?_
 ·simp only[Bool.or_eq_true,decide_eq_true_eq] at h79
  refine J 7 ?_
  refine .aC rfl rfl fun w s=>⟨(),?_,trivial,ar .auto s⟩
  rw[mH (fun e=>by have:=(jj.1 e).1;omega)]
 ·simp only[Bool.or_eq_false_iff,decide_eq_false_iff_not] at h79
  have hc1:(0<v.fs.length∧v.fs.length≤8)∧(0≤v.words∧v.words≤64)∧(0≤v.aB∧v.aB≤4)∧(0≤v.conds∧v.conds≤4)∧(0≤v.blocks∧v.blocks≤64)∧(0≤v.prio∧v.prio≤7)∧v.aU.length≤4∧v.aG.length≤4:=by omega
  refine J 9 ?_
  refine .cM (X:=Nat) [2,3,80,81,82,83,84,85,86,87,88,89,90,91,92,93,94,95,96,97,98,99,100] (fun k=>v.aU.length-k) (fun k=>k≤v.aU.length∧((v.aU.take k).all fun n=>within n 1048576)=true) (fun k=>[(3,some (.int .i64 (k:Int)))]) (fun k=>[arr b1 0 (eH v),A,F]) 0 ?_ ?_ ?_ ?_
  ·exact⟨Nat.zero_le _,rfl⟩
  ·exact⟨rfl,trivial⟩
  ·exact fun w s=>aK.kept .auto w s
  rintro k ⟨hk,hs1⟩
  refine JD 10 (fun h84=>?_) fun h84=>?_
  ·refine J 9 ?_
   obtain⟨x,hx⟩:=ay (show k<v.aU.length by omega)
   refine .p (.ix k rfl rfl rfl (by omega)) ?_
   refine .p (.lr rfl hx) ?_
   refine J 2 ?_
   apply aQ.ga 7 100 93 [93,94,95,96,97,98,99,100] rfl
   ·intro h93
    refine J 3 ?_
    refine .g (.ix k rfl rfl rfl (by omega)) ?_
    refine .g (.lr rfl hx) ?_
    exact JS 3
   ·intro h93
    exact JS 8
   refine JD 2 (fun h100=>?_) fun h100=>?_
   ·simp only[Bool.or_eq_true,decide_eq_true_eq] at h100
    refine J 11 ?_
    refine .aC rfl rfl fun w s=>⟨(),?_,trivial,ar .auto s⟩
    rw[mH (fun e=>by have:=List.all_eq_true.1 (jj.1 e).2.2.1 x (List.mem_of_getElem? hx);rw[zV (by omega)] at this;cases this)]
   ·simp only[Bool.or_eq_false_iff,decide_eq_false_iff_not] at h100
    refine J 8 ?_
    refine .bf (k+1) .auto rfl ?_ ?_ ?_ ?_
    ·first | omega | (dsimp only;omega)
    ·exact⟨by omega,by rw[gk hx,hs1,uy (by omega) (by omega)];rfl⟩
    ·exact⟨rfl,trivial⟩
    ·exact fun w s=>aK.kept .auto w s
  ·obtain rfl:k=v.aU.length:=by omega
   rw[List.take_length] at hs1
   refine J 12 ?_
   refine .cM (X:=Nat) [2,4,101,102,103,104,105,106,107,108,109,110,111,112,113,114,115,116,117,118,119,120,121] (fun k=>v.aG.length-k) (fun k=>k≤v.aG.length∧((v.aG.take k).all fun n=>decide (0<n) && within n 8)=true) (fun k=>[(4,some (.int .i64 (k:Int)))]) (fun k=>[arr b1 0 (eH v),A,F]) 0 ?_ ?_ ?_ ?_
   ·exact⟨Nat.zero_le _,rfl⟩
   ·exact⟨rfl,trivial⟩
   ·exact fun w s=>aK.kept .auto w s
   rintro k ⟨hk,hs2⟩
   refine JD 10 (fun h105=>?_) fun h105=>?_
   ·refine J 9 ?_
    obtain⟨x,hx⟩:=ay (show k<v.aG.length by omega)
    refine .p (.ix k rfl rfl rfl (by omega)) ?_
    refine .p (.lr rfl hx) ?_
    refine J 2 ?_
    apply aQ.ga 7 121 114 [114,115,116,117,118,119,120,121] rfl
    ·intro h114
     refine J 3 ?_
     refine .g (.ix k rfl rfl rfl (by omega)) ?_
     refine .g (.lr rfl hx) ?_
     exact JS 3
    ·intro h114
     exact JS 8
    refine JD 2 (fun h121=>?_) fun h121=>?_
    ·simp only[Bool.or_eq_true,decide_eq_true_eq] at h121
     refine J 11 ?_
     refine .aC rfl rfl fun w s=>⟨(),?_,trivial,ar .auto s⟩
     rw[mH (fun e=>by have:=List.all_eq_true.1 (jj.1 e).2.2.2 x (List.mem_of_getElem? hx);unfold within at this;simp only[Bool.and_eq_true,decide_eq_true_eq] at this;omega)]
    ·simp only[Bool.or_eq_false_iff,decide_eq_false_iff_not] at h121
     refine J 8 ?_
     refine .bf (k+1) .auto rfl ?_ ?_ ?_ ?_
     ·first | omega | (dsimp only;omega)
     ·exact⟨by omega,by rw[gk hx,hs2,uy (by omega) (by omega),decide_eq_true (show 0<x by omega)];rfl⟩
     ·exact⟨rfl,trivial⟩
     ·exact fun w s=>aK.kept .auto w s
   ·obtain rfl:k=v.aG.length:=by omega
    rw[List.take_length] at hs2
    refine J 12 ?_
    refine .cM (X:=Nat) [2,5,122,123,124,125,126,127,128,129,130,131,132,133,134,135] (fun k=>v.fs.length-k) (fun k=>k≤v.fs.length∧((v.fs.take k).all fun f=>decide (f.2.length≤256))=true) (fun k=>[(5,some (.int .i64 (k:Int)))]) (fun k=>[arr b1 0 (eH v),A,F]) 0 ?_ ?_ ?_ ?_
    ·exact⟨Nat.zero_le _,rfl⟩
    ·exact⟨rfl,trivial⟩
    ·exact fun w s=>aK.kept .auto w s
    rintro k ⟨hk,hs3⟩
    refine JD 10 (fun h126=>?_) fun h126=>?_
    ·refine J 9 ?_
     obtain⟨x,hx⟩:=ay (show k<v.fs.length by omega)
     have hi:=hp.ins x (List.mem_of_getElem? hx)
     haveI hI4:∀ (H:List aa) [bX H A],aI W H x.1 dI 5 x.2:=fun H h=>⟨hi.at h.has⟩
     refine JD 6 (fun h135=>?_) fun h135=>?_
     ·refine J 11 ?_
      refine .aC rfl rfl fun w s=>⟨(),?_,trivial,ar .auto s⟩
      rw[mH (fun e=>by have:=List.all_eq_true.1 (jj.1 e).2.1 x (List.mem_of_getElem? hx);simp only[decide_eq_true_eq] at this;omega)]
     ·refine J 8 ?_
      refine .bf (k+1) .auto rfl ?_ ?_ ?_ ?_
      ·first | omega | (dsimp only;omega)
      ·exact⟨by omega,by rw[gk hx,hs3,decide_eq_true (show x.2.length≤256 by omega)];rfl⟩
      ·exact⟨rfl,trivial⟩
      ·exact fun w s=>aK.kept .auto w s
    ·obtain rfl:k=v.fs.length:=by omega
     rw[List.take_length] at hs3
     have hcap:eg v.p=true:=jj.2 ⟨hc1,hs3,hs1,hs2⟩
     refine J 12 ?_
     refine .cM (X:=Nat) [2,6,7,136,137,138,139,140,141,142,143,144,145,146,147,148,149,150,151,152,153,154,155,156,157,158,159,160,161,162,163] (fun k=>v.fs.length-k) (fun k=>k≤v.fs.length∧(v.fs.take k).all (fun f:Value×List Ins=>f.2.all (ez v.p))=true) (fun k=>[(6,some (.int .i64 (k:Int)))]) (fun k=>[arr b1 0 (eH v),A,F]) 0 ?_ ?_ ?_ ?_
     ·exact⟨Nat.zero_le _,rfl⟩
     ·exact⟨rfl,trivial⟩
     ·exact fun w s=>aK.kept .auto w s
     rintro k ⟨hk,hs⟩
     refine JD 10 (fun h140=>?_) fun h140=>?_
     ·obtain⟨x,hx⟩:=ay (show k<v.fs.length by omega)
      have hi:=hp.ins x (List.mem_of_getElem? hx)
      haveI hI4:∀ (H:List aa) [bX H A],aI W H x.1 dI 5 x.2:=fun H h=>⟨hi.at h.has⟩
      have hx256:x.2.length≤256:=vG hcap (List.mem_of_getElem? hx)
      refine J 10 ?_
      refine .cM (X:=Nat) [2,7,143,144,145,146,147,148,149,150,151,152,153,154,155,156,157,158,159,160,161,162,163] (fun j=>x.2.length-j) (fun j=>j≤x.2.length∧(x.2.take j).all (ez v.p)=true) (fun j=>[(7,some (.int .i64 (j:Int)))]) (fun j=>[arr b1 0 (eH v),A,F]) 0 ?_ ?_ ?_ ?_
      ·exact⟨Nat.zero_le _,rfl⟩
      ·exact⟨rfl,trivial⟩
      ·exact fun w s=>aK.kept .auto w s
      rintro j ⟨hj0,hsj⟩
      refine JD 13 (fun hin=>?_) fun hin=>?_
      ·refine J 5 ?_
       refine .draw [arr b1 0 (eH v)] [1,1,1,1,1,1,1,1,1,3,1] rfl (by kernel_rfl) ?_
       refine J 7 ?_
       obtain⟨i,hj⟩:=ay (show j<x.2.length by omega)
       refine J 2 ?_
       refine .c call66 rfl (Dj hp hcap) fun _ _=>?_
       refine JD 3 (fun hsd=>?_) fun hsd=>?_
       ·refine J 15 ?_
        refine .aC rfl rfl fun w s=>⟨(),?_,trivial,ar .auto s⟩
        exact ju (tS hcap hx hj (by simpa using hsd)).symm
       ·refine J 8 ?_
        refine .bf (j+1) .auto rfl ?_ ?_ ?_ ?_
        ·first | omega | (dsimp only;omega)
        ·exact⟨by omega,by rw[gk hj,hsj,show ez v.p i=true by simpa using hsd];rfl⟩
        ·exact⟨rfl,trivial⟩
        ·exact fun w s=>aK.kept .auto w s
      ·refine J 11 ?_
       obtain rfl:j=x.2.length:=by omega
       rw[List.take_length] at hsj
       refine .bf (k+1) .auto rfl ?_ ?_ ?_ ?_
       ·first | omega | (dsimp only;omega)
       ·exact⟨by omega,by rw[gk hx,hs,hsj];rfl⟩
       ·exact⟨rfl,trivial⟩
       ·exact fun w s=>aK.kept .auto w s
     ·refine J 11 ?_
      obtain rfl:k=v.fs.length:=by omega
      rw[List.take_length] at hs
      refine .aC rfl rfl fun w s=>⟨(),?_,trivial,ar .auto s⟩
      exact ju (xw hcap hs).symm
end Go.SLYtefdijgllbkmfaaGreat
namespace Go.SLYtefdijgllbkmfaaGreat
open Go Go.RowKit
variable{p0:eZ}
theorem Gd{k:Nat}{s:Spc}{r:RSp}(h:fh p0 s r)(hO:Ok k s [] []){n:Int}(c:n<0∨15<n∨(r.thr n.toNat).used=false):s.at n=none:=by
 have e:=h.seen hO (n:=n)
 have e2:r.seen n=false:=by
  unfold RSp.seen
  rcases c with c | c | c
  ·rw[decide_eq_false (show ¬ 0≤n by omega)];rfl
  ·rw[decide_eq_false (show ¬n<16 by omega)];simp
  ·rw[show(r.t n.toNat).used=false from c];simp
 rw[e2] at e
 exact Option.isNone_iff_eq_none.1 (by cases hs:s.at n with | none=>rfl | some t=>rw[hs] at e;cases e)
theorem Dl{k:Nat}{s:Spc}{r:RSp}(h:fh p0 s r)(hO:Ok k s [] []){n:Int}(c1:¬n<0)(c2:¬ 15<n)(c3:(r.thr n.toNat).used=true):∃ (m:Nat) (t:bo),n=(m:Int)∧m<16∧s.thr[m]?=some (some t)∧s.at n=some t∧(r.thr m).why=t.why:=by
 have e:=h.seen hO (n:=n)
 have e2:r.seen n=true:=by
  unfold RSp.seen
  rw[decide_eq_true (show 0≤n by omega),decide_eq_true (show n<16 by omega),show(r.t n.toNat).used=true from c3];rfl
 rw[e2] at e
 obtain⟨t,ht⟩:=Option.isSome_iff_exists.1 e.symm
 obtain⟨h0,hat⟩:=fa ht
 exact⟨n.toNat,t,by omega,hO.lt ▸ (List.getElem?_eq_some_iff.1 hat).1,hat,ht,(h.th _ t hat).w⟩
theorem fh.Me{k:Nat}{s:Spc}{r:RSp}(h:fh p0 s r)(hO:q6 k s)(hk:k≤1990){m:Nat}{t:bo}(ht:s.thr[m]?=some (some t))(hw:t.why=0){c:Int} :
  (s.run m c).1=(r.run p0 m c).1∧(s.run m c).2.1=0∧fh p0 (s.run m c).2.2 (r.run p0 m c).2∧FK p0 r m∧(r.run p0 m c).2.au.length≤900000000:=by
 have e:=h.run hO.1 hO.2.2 (by omega) (hO.rec hk) ht hw (c:=c)
 have e2:=h.Mb hO.1 (by omega) (hO.rec hk) ht
 rw[h.pg] at e e2
 have h3:=(hO.1.run hO.2.2 (n:=(m:Int)) (c:=c) (by omega) (hO.rec hk)).2.2.2.1
 have h4:=hO.rec hk
 exact⟨e.1,e.2.1,e.2.2,e2,by rw[e.2.2.rc];omega⟩
end Go.SLYtefdijgllbkmfaaGreat
namespace Go.SLYtefdijgllbkmfaaGreat
open Go Go.RowKit Go.Proofs Go.Proofs.Tryz
attribute [local irreducible] ax aQ bu cj bQ Y
theorem Li{t:bo}:pC Tryz.prog 41 3 (.agg (mS t).toArray) (.agg (mS t).toArray) true:=fun d w=>by
 have hs:Tryz.prog.stoodInHeld 41=false:=by kernel_rfl
 refine(l5 underlying41 hs (d+2) _ _ w).trans ?_
 show(Op.eqFields (d+2) _ _ [_,_,_,_,_,_]).run Tryz.prog w=_
 have p0:Part Tryz.prog 38 (mS t).toArray 0 (.int .u64 t.handle):=Part.one isAgg38 (by rw[List.getElem?_toArray];rfl)
 refine Eq.trans (cS (a:=.int .u64 t.handle) (b:=.int .u64 t.handle) (r:=decide (t.handle=t.handle)) ?_ ?_ ?_ ?_) ?_
 ·decide +kernel
 ·exact p0
 ·exact p0
 ·exact(pC.int underlying38 (d+1) w)
 rw[decide_eq_true rfl,if_pos rfl]
 have p1:Part Tryz.prog 3 (mS t).toArray 1 (.int .i64 t.why):=Part.one isAgg3 (by rw[List.getElem?_toArray];rfl)
 refine Eq.trans (cS (a:=.int .i64 t.why) (b:=.int .i64 t.why) (r:=decide (t.why=t.why)) ?_ ?_ ?_ ?_) ?_
 ·decide +kernel
 ·exact p1
 ·exact p1
 ·exact(pC.int underlying3 (d+1) w)
 rw[decide_eq_true rfl,if_pos rfl]
 have p2:Part Tryz.prog 3 (mS t).toArray 2 (.int .i64 t.fn):=Part.one isAgg3 (by rw[List.getElem?_toArray];rfl)
 refine Eq.trans (cS (a:=.int .i64 t.fn) (b:=.int .i64 t.fn) (r:=decide (t.fn=t.fn)) ?_ ?_ ?_ ?_) ?_
 ·decide +kernel
 ·exact p2
 ·exact p2
 ·exact(pC.int underlying3 (d+1) w)
 rw[decide_eq_true rfl,if_pos rfl]
 have p3:Part Tryz.prog 3 (mS t).toArray 3 (.int .i64 t.pc):=Part.one isAgg3 (by rw[List.getElem?_toArray];rfl)
 refine Eq.trans (cS (a:=.int .i64 t.pc) (b:=.int .i64 t.pc) (r:=decide (t.pc=t.pc)) ?_ ?_ ?_ ?_) ?_
 ·decide +kernel
 ·exact p3
 ·exact p3
 ·exact(pC.int underlying3 (d+1) w)
 rw[decide_eq_true rfl,if_pos rfl]
 have pr:Part Tryz.prog 39 (mS t).toArray 4 (.agg ([t.aq.getD 0 0,t.aq.getD 1 0,t.aq.getD 2 0,t.aq.getD 3 0,t.aq.getD 4 0,t.aq.getD 5 0,t.aq.getD 6 0,t.aq.getD 7 0].map (Value.int .u64)).toArray):=Part.agg isAgg39 sizeOf39
 refine Eq.trans (cS (a:=.agg ([t.aq.getD 0 0,t.aq.getD 1 0,t.aq.getD 2 0,t.aq.getD 3 0,t.aq.getD 4 0,t.aq.getD 5 0,t.aq.getD 6 0,t.aq.getD 7 0].map (Value.int .u64)).toArray) (b:=.agg ([t.aq.getD 0 0,t.aq.getD 1 0,t.aq.getD 2 0,t.aq.getD 3 0,t.aq.getD 4 0,t.aq.getD 5 0,t.aq.getD 6 0,t.aq.getD 7 0].map (Value.int .u64)).toArray) (r:=decide ([t.aq.getD 0 0,t.aq.getD 1 0,t.aq.getD 2 0,t.aq.getD 3 0,t.aq.getD 4 0,t.aq.getD 5 0,t.aq.getD 6 0,t.aq.getD 7 0]=[t.aq.getD 0 0,t.aq.getD 1 0,t.aq.getD 2 0,t.aq.getD 3 0,t.aq.getD 4 0,t.aq.getD 5 0,t.aq.getD 6 0,t.aq.getD 7 0])) ?_ ?_ ?_ ?_) ?_
 ·decide +kernel
 ·exact pr
 ·exact pr
 ·exact(pC.Lv underlying39 underlying38 isAgg38 sizeOf38 rfl rfl d w)
 rw[decide_eq_true rfl,if_pos rfl]
 have p12:Part Tryz.prog 38 (mS t).toArray 12 (.int .u64 t.value):=Part.one isAgg38 (by rw[List.getElem?_toArray];rfl)
 refine Eq.trans (cS (a:=.int .u64 t.value) (b:=.int .u64 t.value) (r:=decide (t.value=t.value)) ?_ ?_ ?_ ?_) ?_
 ·decide +kernel
 ·exact p12
 ·exact p12
 ·exact(pC.int underlying38 (d+1) w)
 rw[decide_eq_true rfl,if_pos rfl]
 simp[Op.eqFields]
theorem Dm{W:World}{b:Nat}{s:RSp}{n:Int}:Fn Tryz.prog W 39 [ptr b,.int .i64 n] [arr b 24 (du s.thr)] Unit (fun _=>.bool (s.runs n)) (fun _=>True) (fun _=>[arr b 24 (du s.thr)]):=by
 refine Fn.intro (N:=30) func39 rfl ntmps39 rfl fun F=>?_
 show ax _ _ _ _ _ _ [arr b 24 (du s.thr),F]
 refine J 10 ?_
 apply aQ.fZ 3 10 7 [7,8,9,10] rfl
 ·intro h7
  exact JS 4
 ·intro h7
  exact JS 4
 refine J 1 ?_
 apply aQ.gI 8 19 11 [11,12,13,14,15,16,17,18,19] rfl
 ·intro h11
  simp only[Bool.and_eq_true,decide_eq_true_eq] at h11
  refine J 4 ?_
  refine .g (.aD n.toNat underlying54 sizeOf53 rfl rfl (by omega) (by omega)) ?_
  refine J 1 ?_
  refine .g (.ld rfl (Cell.tz (by first | omega | exact hn))) ?_
  exact JS 2
 ·intro h11
  exact JS 9
 refine J 1 ?_
 apply aQ.gI 9 29 20 [20,21,22,23,24,25,26,27,28,29] rfl
 ·intro h20
  simp only[Bool.and_eq_true,decide_eq_true_eq] at h20
  refine J 4 ?_
  refine .g (.aD n.toNat underlying54 sizeOf53 rfl rfl (by omega) (by omega)) ?_
  refine J 1 ?_
  refine .g (.ld rfl (Cell.t (by first | omega | exact hn) rfl)) ?_
  exact JS 3
 ·intro h20
  exact JS 10
 exact JR 4 ()
theorem Aw{W:World}{b:Nat}{s:RSp}:Fn Tryz.prog W 20 [ptr b] [arr b 24 (du s.thr)] Value (fun u=>u) (fun _=>True) (fun u=>[sl aL 1 u (rReady s 16),arr b 24 (du s.thr)]):=by
 refine Fn.intro (N:=18) func20 rfl ntmps20 rfl fun F=>?_
 show ax _ _ _ _ _ _ [arr b 24 (du s.thr),F]
 refine J 7 ?_
 refine .aw rfl (af.gQ 3 rfl rfl (by kernel_rfl)) ?_
 rintro _ _ ⟨b5,rfl,rfl⟩
 refine .to (A:=sl aL 1 (.slice (some ⟨b5,0,none⟩) 0 0) ([]:List Int)) (Bs:=[]) .nil (fun h e=>.inl ⟨⟨_,rfl⟩,rfl,e⟩) ?_
 refine J 10 ?_
 refine .cM (X:=Nat×Value) [3,4,6,7,8,9,10,11,12,13,14,15,16] (fun z=>16-z.1) (fun z=>z.1≤16∧(rReady s z.1).length≤z.1) (fun z=>[(4,some (.int .i64 (z.1:Int))),(3,some z.2)]) (fun z=>[sl aL 1 z.2 (rReady s z.1),arr b 24 (du s.thr),F]) (0,.slice (some ⟨b5,0,none⟩) 0 0) ?_ ?_ ?_ ?_
 ·exact⟨Nat.zero_le _,Nat.le_refl _⟩
 ·exact⟨rfl,rfl,trivial⟩
 ·exact fun w s=>aK.kept .auto w s
 rintro⟨k,u⟩ ⟨hk,hl⟩
 simp only at hk hl
 refine JD 7 (fun h7=>?_) fun h7=>?_
 ·refine J 8 ?_
  refine .c call39 rfl (Dm (s:=s) (n:=(k:Int))) fun _ _=>?_
  refine JD 2 (fun h12=>?_) fun h12=>?_
  ·refine J 3 ?_
   refine .aw rfl (af.gQ 3 rfl rfl (by kernel_rfl)) ?_
   rintro _ _ ⟨b15,rfl,rfl⟩
   refine .aw rfl (af.fi (enc:=aL) (k:=1) (k:Int) rfl underlying23 underlying23 typeInfo3 rfl rfl rfl (by decide) rfl rfl rfl .auto rfl .auto (by dsimp only;omega) rfl) ?_
   rintro _ _ ⟨v16,rfl,rfl⟩
   refine J 9 ?_
   refine .bf (k+1,v16) .auto rfl ?_ ?_ ?_ ?_
   ·show 16-(k+1)<16-k;omega
   ·refine⟨by show k+1≤_;omega,?_⟩
    show(rReady s (k+1)).length≤k+1
    rw[rReady,if_pos h12,List.length_append,List.length_singleton];omega
   ·exact⟨rfl,rfl,trivial⟩
   ·show ∀ w,Sat _ w _→Sat _ w (seps [sl aL 1 v16 (rReady s (k+1)),_,F])
    rw[show rReady s (k+1)=rReady s k++[(k:Int)] from by rw[rReady,if_pos h12]]
    exact fun w s=>aK.kept .auto w s
  ·refine J 8 ?_
   refine .bf (k+1,u) .auto rfl ?_ ?_ ?_ ?_
   ·show 16-(k+1)<16-k;omega
   ·refine⟨by show k+1≤_;omega,?_⟩
    show(rReady s (k+1)).length≤k+1
    rw[rReady,if_neg (by rw[h12];simp),List.append_nil];omega
   ·exact⟨rfl,rfl,trivial⟩
   ·show ∀ w,Sat _ w _→Sat _ w (seps [sl aL 1 u (rReady s (k+1)),_,F])
    rw[show rReady s (k+1)=rReady s k from by rw[rReady,if_neg (by rw[h12];simp),List.append_nil]]
    exact fun w s=>aK.kept .auto w s
 ·refine J 12 ?_
  obtain rfl:k=16:=by omega
  refine .aC rfl rfl fun w s=>⟨_,?_,trivial,ar .auto s⟩
  rfl
end Go.SLYtefdijgllbkmfaaGreat
namespace Go.SLYtefdijgllbkmfaaGreat
open Go Go.RowKit Go.Proofs Go.Proofs.Tryz
attribute [local irreducible] ax aQ bu cj bQ Y
theorem fm{W:World}{b:Nat}{v:Value}{xs:List (Nat×Spc)}{n:Int}(_hl:xs.length≤1000000000):Fn Tryz.prog W 36 [ptr b,.int .i64 n] [arr b 0 [v],sl df 1 v xs] Unit (fun _=>eJ ((cE xs n).map (·.1))) (fun _=>True) (fun _=>[arr b 0 [v],sl df 1 v xs]):=by
 refine Fn.intro (N:=27) func36 rfl ntmps36 rfl fun F=>?_
 show ax _ _ _ _ _ _ [arr b 0 [v],sl df 1 v xs,F]
 refine J 15 ?_
 refine .lJ (t:=11) rfl (fun h11=>?_) (fun h11=>?_)
 ·refine J 10 ?_
  refine .gK rfl ?_
  refine J 7 ?_
  refine .aC rfl rfl fun w s=>⟨(),?_,trivial,ar .auto s⟩
  rw[ei (by omega)];rfl
 ·refine JD 10 (fun h19=>?_) fun h19=>?_
  ·refine J 7 ?_
   refine .aC rfl rfl fun w s=>⟨(),?_,trivial,ar .auto s⟩
   rw[ei (by omega)];rfl
  ·refine J 9 ?_
   obtain⟨x,hx,hg⟩:=cp (l:=xs) (i:=n) ⟨by omega,by omega⟩
   refine .p (.ix n.toNat rfl rfl (by omega) (by omega)) ?_
   refine .p (.lr rfl hx) ?_
   refine J 4 ?_
   refine .aC rfl rfl fun w s=>⟨(),?_,trivial,ar .auto s⟩
   rw[hg];rfl
theorem wY{W:World}{b:Nat}{l:List Spc}{n:Int}(hl:l.length≤1000000000)(hg:cE l n=none):Fn Tryz.prog W 34 [ptr b,.int .i64 n] [da b l] Value (fun u=>u) (fun _=>True) (fun u=>[sl aL 1 u (oReady l n),da b l]):=by
 refine Fn.intro (N:=9) func34 rfl ntmps34 rfl fun F=>?_
 show ax _ _ _ _ _ _ [da b l,F]
 refine .o2 (C:=da b l) .auto rfl ?_
 rintro v xs hxs
 have hlx:xs.length=l.length:=by rw[← hxs,List.length_map]
 have hgx:=zR hxs hg
 refine J 9 ?_
 refine .c call36 rfl (fm (xs:=xs) (n:=n) (v:=v) (by omega)) fun _ _=>?_
 rw[hgx]
 refine .c call19 rfl yQ fun _ _=>?_
 refine J 4 ?_
 rw[show oReady l n=[] from by unfold oReady;rw[hg]]
 refine .to (A:=da b l) (Bs:=[arr b 0 [v],sl df 1 v xs,aT (fun x:Nat×Spc=>cH x.1 x.2)  xs]) .auto (pY hxs) ?_
 refine .aC rfl rfl fun w s=>⟨(.slice none 0 0),?_,trivial,ar .auto s⟩
 rfl
theorem tN{W:World}{b:Nat}{l:List Spc}{n:Int}(hl:l.length≤1000000000){s:Spc}(hg:cE l n=some s)(hO:∀ s∈l,fE s):Fn Tryz.prog W 34 [ptr b,.int .i64 n] [da b l] Value (fun u=>u) (fun _=>True) (fun u=>[sl aL 1 u (oReady l n),da b l]):=by
 refine Fn.intro (N:=9) func34 rfl ntmps34 rfl fun F=>?_
 show ax _ _ _ _ _ _ [da b l,F]
 refine .o2 (C:=da b l) .auto rfl ?_
 rintro v xs hxs
 have hlx:xs.length=l.length:=by rw[← hxs,List.length_map]
 obtain⟨q,hgx,hx⟩:=wH hxs hg
 have hos:=hO s (List.mem_of_getElem? (fN hg).2.2)
 refine J 9 ?_
 refine .c call36 rfl (fm (xs:=xs) (n:=n) (v:=v) (by omega)) fun _ _=>?_
 rw[hgx]
 refine .fr .auto (mG hx) ?_
 refine .o1 (C:=cH q s) .auto rfl ?_
 rintro ps -
 refine .c call19 rfl (Ag (s:=s) hos.lt) fun u8 _=>?_
 refine J 4 ?_
 rw[show oReady l n=s.ready from by unfold oReady;rw[hg]]
 refine .to (A:=da b l) (Bs:=[arr b 0 [v],sl df 1 v xs,cH q s,aT (fun x:Nat×Spc=>cH x.1 x.2)  (xs.eraseIdx n.toNat)]) .auto (mc hxs hx) ?_
 exact JR 0 u8
theorem vj{W:World}{b:Nat}{l:List Spc}{n:Int}(hl:l.length≤1000000000)(hO:∀ s∈l,fE s):Fn Tryz.prog W 34 [ptr b,.int .i64 n] [da b l] Value (fun u=>u) (fun _=>True) (fun u=>[sl aL 1 u (oReady l n),da b l]):=by
 cases hg:cE l n with
 | none=>exact wY hl hg
 | some s=>exact tN hl hg hO
theorem tn{W:World}{b:Nat}{l:List Spc}{n:Int}(hl:l.length≤1000000000)(hg:cE l n=none):Fn Tryz.prog W 32 [ptr b,.int .i64 n] [da b l] Value (fun u=>u) (fun _=>True) (fun u=>[sl dr 6 u (kA l n),da b l]):=by
 refine Fn.intro (N:=9) func32 rfl ntmps32 rfl fun F=>?_
 show ax _ _ _ _ _ _ [da b l,F]
 refine .o2 (C:=da b l) .auto rfl ?_
 rintro v xs hxs
 have hlx:xs.length=l.length:=by rw[← hxs,List.length_map]
 have hgx:=zR hxs hg
 refine J 9 ?_
 refine .c call36 rfl (fm (xs:=xs) (n:=n) (v:=v) (by omega)) fun _ _=>?_
 rw[hgx]
 refine .c call22 rfl tM fun _ _=>?_
 refine J 4 ?_
 rw[show kA l n=[] from by unfold kA;rw[hg]]
 refine .to (A:=da b l) (Bs:=[arr b 0 [v],sl df 1 v xs,aT (fun x:Nat×Spc=>cH x.1 x.2)  xs]) .auto (pY hxs) ?_
 refine .aC rfl rfl fun w s=>⟨(.slice none 0 0),?_,trivial,ar .auto s⟩
 rfl
theorem qU{W:World}{b:Nat}{l:List Spc}{n:Int}(hl:l.length≤1000000000){s:Spc}(hg:cE l n=some s)(hO:∀ s∈l,fE s):Fn Tryz.prog W 32 [ptr b,.int .i64 n] [da b l] Value (fun u=>u) (fun _=>True) (fun u=>[sl dr 6 u (kA l n),da b l]):=by
 refine Fn.intro (N:=9) func32 rfl ntmps32 rfl fun F=>?_
 show ax _ _ _ _ _ _ [da b l,F]
 refine .o2 (C:=da b l) .auto rfl ?_
 rintro v xs hxs
 have hlx:xs.length=l.length:=by rw[← hxs,List.length_map]
 obtain⟨q,hgx,hx⟩:=wH hxs hg
 have hos:=hO s (List.mem_of_getElem? (fN hg).2.2)
 refine J 9 ?_
 refine .c call36 rfl (fm (xs:=xs) (n:=n) (v:=v) (by omega)) fun _ _=>?_
 rw[hgx]
 refine .fr .auto (mG hx) ?_
 refine .c call22 rfl (wW (s:=s) (Nat.le_trans hos.au (by decide))) fun u8 _=>?_
 refine J 4 ?_
 rw[show kA l n=s.au from by unfold kA;rw[hg]]
 refine .to (A:=da b l) (Bs:=[arr b 0 [v],sl df 1 v xs,cH q s,aT (fun x:Nat×Spc=>cH x.1 x.2)  (xs.eraseIdx n.toNat)]) .auto (mc hxs hx) ?_
 exact JR 0 u8
theorem jL{W:World}{b:Nat}{l:List Spc}{n:Int}(hl:l.length≤1000000000)(hO:∀ s∈l,fE s):Fn Tryz.prog W 32 [ptr b,.int .i64 n] [da b l] Value (fun u=>u) (fun _=>True) (fun u=>[sl dr 6 u (kA l n),da b l]):=by
 cases hg:cE l n with
 | none=>exact tn hl hg
 | some s=>exact qU hl hg hO
theorem tO{W:World}{b:Nat}{l:List Spc}{n:Int}(hl:l.length≤1000000000)(hg:cE l n=none):Fn Tryz.prog W 33 [ptr b,.int .i64 n] [da b l] Value (fun u=>u) (fun _=>True) (fun u=>[sl bF 1 u (wG l n),da b l]):=by
 refine Fn.intro (N:=9) func33 rfl ntmps33 rfl fun F=>?_
 show ax _ _ _ _ _ _ [da b l,F]
 refine .o2 (C:=da b l) .auto rfl ?_
 rintro v xs hxs
 have hlx:xs.length=l.length:=by rw[← hxs,List.length_map]
 have hgx:=zR hxs hg
 refine J 9 ?_
 refine .c call36 rfl (fm (xs:=xs) (n:=n) (v:=v) (by omega)) fun _ _=>?_
 rw[hgx]
 refine .c call24 rfl wV fun _ _=>?_
 refine J 4 ?_
 rw[show wG l n=[] from by unfold wG;rw[hg]]
 refine .to (A:=da b l) (Bs:=[arr b 0 [v],sl df 1 v xs,aT (fun x:Nat×Spc=>cH x.1 x.2)  xs]) .auto (pY hxs) ?_
 refine .aC rfl rfl fun w s=>⟨(.slice none 0 0),?_,trivial,ar .auto s⟩
 rfl
theorem tq{W:World}{b:Nat}{l:List Spc}{n:Int}(hl:l.length≤1000000000){s:Spc}(hg:cE l n=some s)(hO:∀ s∈l,fE s):Fn Tryz.prog W 33 [ptr b,.int .i64 n] [da b l] Value (fun u=>u) (fun _=>True) (fun u=>[sl bF 1 u (wG l n),da b l]):=by
 refine Fn.intro (N:=9) func33 rfl ntmps33 rfl fun F=>?_
 show ax _ _ _ _ _ _ [da b l,F]
 refine .o2 (C:=da b l) .auto rfl ?_
 rintro v xs hxs
 have hlx:xs.length=l.length:=by rw[← hxs,List.length_map]
 obtain⟨q,hgx,hx⟩:=wH hxs hg
 have hos:=hO s (List.mem_of_getElem? (fN hg).2.2)
 refine J 9 ?_
 refine .c call36 rfl (fm (xs:=xs) (n:=n) (v:=v) (by omega)) fun _ _=>?_
 rw[hgx]
 refine .fr .auto (mG hx) ?_
 refine .c call24 rfl (yR (s:=s) (Nat.le_trans hos.mem (by decide))) fun u8 _=>?_
 refine J 4 ?_
 rw[show wG l n=s.mem from by unfold wG;rw[hg]]
 refine .to (A:=da b l) (Bs:=[arr b 0 [v],sl df 1 v xs,cH q s,aT (fun x:Nat×Spc=>cH x.1 x.2)  (xs.eraseIdx n.toNat)]) .auto (mc hxs hx) ?_
 exact JR 0 u8
theorem Ax{W:World}{b:Nat}{l:List Spc}{n:Int}(hl:l.length≤1000000000)(hO:∀ s∈l,fE s):Fn Tryz.prog W 33 [ptr b,.int .i64 n] [da b l] Value (fun u=>u) (fun _=>True) (fun u=>[sl bF 1 u (wG l n),da b l]):=by
 cases hg:cE l n with
 | none=>exact tO hl hg
 | some s=>exact tq hl hg hO
theorem wZ{W:World}{b:Nat}{l:List Spc}{a:zK}(hl:l.length≤1000000000)(hO:∀ s∈l,fE s):Fn Tryz.prog W 31 [ptr b,.agg (tE a).toArray] [da b l] Unit (fun _=>.int .i64 (oDo l a).1) (fun _=>True) (fun _=>[da b (oDo l a).2]):=by
 refine Fn.intro (N:=60) func31 rfl ntmps31 rfl fun F=>?_
 show ax _ _ _ _ _ _ [da b l,F]
 refine .o2 (C:=da b l) .auto rfl ?_
 rintro v xs hxs
 have hlx:xs.length=l.length:=by rw[← hxs,List.length_map]
 refine J 2 ?_
 refine .aw rfl (af.box rfl rfl rfl) ?_
 rintro _ _ ⟨b3,rfl,rfl⟩
 refine .mem (H':=[arr b3 0 (tE a),arr b 0 [v],sl df 1 v xs,aT (fun x:Nat×Spc=>cH x.1 x.2)  xs,F]) (fun w s=>s) ?_
 refine J 8 ?_
 refine .c call36 rfl (fm (xs:=xs) (n:=a.space) (v:=v) (by omega)) fun _ _=>?_
 refine J 17 ?_
 refine .jY rfl ?_
 refine JD 8 (fun h19=>?_) fun h19=>?_
 ·refine J 12 ?_
  refine .cM (X:=Nat) [8,25,26,27,28,29,30,31] (fun k=>xs.length-k) (fun k=>k≤xs.length) (fun k=>[(25,some (.int .i64 (k:Int)))]) (fun k=>[arr b3 0 (tE a),arr b 0 [v],sl df 1 v xs,aT (fun x:Nat×Spc=>cH x.1 x.2)  (ye k xs),F]) 0 ?_ ?_ ?_ ?_
  ·exact Nat.zero_le _
  ·exact⟨rfl,trivial⟩
  ·simp only[E9];exact fun w s=>aK.kept .auto w s
  rintro k hk
  refine JD 6 (fun h26=>?_) fun h26=>?_
  ·refine J 6 ?_
   obtain⟨⟨q,s⟩,hx⟩:=ay (show k<xs.length by omega)
   have hos:=hO s (by rw[← hxs];exact List.mem_map.2 ⟨_,List.mem_of_getElem? hx,rfl⟩)
   refine J 1 ?_
   refine .p (.lr rfl hx) ?_
   refine J 5 ?_
   refine .fr .auto (Hk hx) ?_
   refine .c call44 rfl (Dh (s:=s) hos) fun u30 _=>?_
   refine J 7 ?_
   refine .to (A:=aT (fun x:Nat×Spc=>cH x.1 x.2)  (ye (k+1) xs)) (Bs:=[cH q s.tick.2,aT (fun x:Nat×Spc=>cH x.1 x.2)  ((ye k xs).eraseIdx k)]) .auto (JC hx) ?_
   refine .bf (k+1) .auto rfl ?_ ?_ ?_ ?_
   ·omega
   ·show k+1≤_;omega
   ·exact⟨rfl,trivial⟩
   ·exact fun w s=>aK.kept .auto w s
  ·refine J 13 ?_
   obtain rfl:k=xs.length:=by omega
   refine .to (A:=da b (oDo l a).2) (Bs:=[arr b 0 [v],sl df 1 v xs,aT (fun x:Nat×Spc=>cH x.1 x.2)  (ye xs.length xs)]) .auto (Fb hxs h19) ?_
   refine .aC rfl rfl fun w s=>⟨(),?_,trivial,ar .auto s⟩
   rw[yf h19]
 ·refine JD 7 (fun h34=>?_) fun h34=>?_
  ·have hgl:cE l a.space=none:=by
    cases hh:cE xs a.space with
    | none=>rw[← hxs,oV,hh];rfl
    | some x=>rw[hh] at h34;cases h34
   refine J 8 ?_
   rw[sJ h19 hgl]
   refine .to (A:=da b l) (Bs:=[arr b 0 [v],sl df 1 v xs,aT (fun x:Nat×Spc=>cH x.1 x.2)  xs]) .auto (pY hxs) ?_
   exact JR 0 ()
  ·obtain⟨⟨q,s⟩,hgx⟩:∃ x,cE xs a.space=some x:=by
    cases hh:cE xs a.space with
    | none=>rw[hh] at h34;cases h34
    | some x=>exact⟨x,rfl⟩
   have hx:=(fN hgx).2.2
   have hgl:cE l a.space=some s:=by rw[← hxs,oV,hgx];rfl
   rw[hgx]
   refine .fr .auto (mG hx) ?_
   have hos:=hO s (List.mem_of_getElem? (fN hgl).2.2)
   refine JD 8 (fun h38=>?_) fun h38=>?_
   ·refine J 6 ?_
    refine .c call40 rfl (Gb (s:=s) hos) fun u45 _=>?_
    refine J 14 ?_
    rw[rh h38 hgl]
    refine .to (A:=da b (l.set a.space.toNat (s.run a.dv a.choice).2.2)) (Bs:=[arr b 0 [v],sl df 1 v xs,cH q (s.run a.dv a.choice).2.2,aT (fun x:Nat×Spc=>cH x.1 x.2)  (xs.eraseIdx a.space.toNat)]) .auto (Bp hxs hx _) ?_
    exact JR 0 ()
   ·refine JD 8 (fun h51=>?_) fun h51=>?_
    ·refine J 4 ?_
     refine .c call42 rfl (Df (s:=s) hos) fun u56 _=>?_
     refine J 14 ?_
     rw[sK h51 hgl]
     refine .to (A:=da b (l.set a.space.toNat (s.done a.choice).2.2)) (Bs:=[arr b 0 [v],sl df 1 v xs,cH q (s.done a.choice).2.2,aT (fun x:Nat×Spc=>cH x.1 x.2)  (xs.eraseIdx a.space.toNat)]) .auto (Bp hxs hx _) ?_
     exact JR 0 ()
    ·refine J 12 ?_
     rw[yh h19 h38 h51 hgl]
     refine .to (A:=da b l) (Bs:=[arr b 0 [v],sl df 1 v xs,cH q s,aT (fun x:Nat×Spc=>cH x.1 x.2)  (xs.eraseIdx a.space.toNat)]) .auto (mc hxs hx) ?_
     exact JR 0 ()
theorem BO{W:World}{A:aa}{v:Value}{ps:List bN}(hr:Rd W [A] eH 8 v ps)(hp:∀ p∈ps,fp W [A] p)(hb:ps.length≤1000000000∧ ∀ p∈ps,p.fs.length≤1000000000∧p.aU.length≤1000000000∧p.aG.length≤1000000000):Fn Tryz.prog W 29 [v] [A] (Option Nat) (fun o=>.tuple #[eJ o,.int .i64 (gv (ps.map bN.p))]) (fun o=>o.isSome=decide (gv (ps.map bN.p)=0)) (fun o=>[optH (fun b=>da b ((ps.map bN.p).map Spc.new)) o,A]):=by
 refine Fn.intro (N:=45) func29 rfl ntmps29 rfl fun F=>?_
 haveI hRI:∀ (H:List aa) [bX H A],aI W H v eH 8 ps:=fun H h=>⟨hr.at h.has⟩
 show ax _ _ _ _ _ _ [A,F]
 have hml:(ps.map bN.p).length=ps.length:=List.length_map ..
 refine J 13 ?_
 apply aQ.ga 4 16 12 [12,13,14,15,16] rfl
 ·intro h12
  exact JS 5
 ·intro h12
  exact JS 5
 refine JD 2 (fun h16=>?_) fun h16=>?_
 ·simp only[Bool.or_eq_true,decide_eq_true_eq] at h16
  refine J 8 ?_
  refine .eo rfl rfl rfl fun w s=>⟨none,?_,by rw[ma (by rw[hml];omega)];rfl,ar .auto s⟩
  rw[ma (by rw[hml];omega)];rfl
 ·simp only[Bool.or_eq_false_iff,decide_eq_false_iff_not] at h16
  refine J 4 ?_
  refine .p (.qO ([(.slice none 0 0)]) (by kernel_rfl)) ?_
  refine .aw rfl (af.box rfl rfl rfl) ?_
  rintro _ _ ⟨b18,rfl,rfl⟩
  refine J 6 ?_
  have hke:=sI (ps:=ps.map bN.p) (by rw[hml];omega)
  refine J 6 ?_
  refine .cM (X:=Nat×Value×List (Nat×Spc)) [2,3,6,7,8,21,22,23,24,25,26,27,28,29,30,31,32,33,34,35,36,37,38,39,40,41,42,43] (fun z=>ps.length-z.1) (fun z=>z.1≤ps.length∧z.2.2.length=z.1∧z.2.2.map (·.2)=((ps.map bN.p).take z.1).map Spc.new∧checkAll (ps.map bN.p)=checkAll ((ps.map bN.p).drop z.1)) (fun z=>[(21,some (.int .i64 (z.1:Int)))]) (fun z=>[arr b18 0 [z.2.1],sl df 1 z.2.1 z.2.2,aT (fun x:Nat×Spc=>cH x.1 x.2)  z.2.2,A,F]) (0,.slice none 0 0,[]) ?_ ?_ ?_ ?_
  ·exact⟨Nat.zero_le _,rfl,rfl,rfl⟩
  ·exact⟨rfl,trivial⟩
  ·exact fun w s=>aK.kept .auto w s
  rintro⟨n,vl,xs⟩ ⟨hk,hxl,hxm0,hck⟩
  simp only at hk hxl hxm0 hck
  refine JD 6 (fun h22=>?_) fun h22=>?_
  ·refine J 6 ?_
   obtain⟨x,hx⟩:=ay (show n<ps.length by omega)
   have hxm:(ps.map bN.p)[n]?=some x.p:=by rw[List.getElem?_map,hx];rfl
   have hpx:=hp x (List.mem_of_getElem? hx)
   have hbx:=hb.2 x (List.mem_of_getElem? hx)
   refine .fb (fun w s=>GD hpx .auto w s) fun hone=>?_
   refine J 1 ?_
   refine .p (.la rfl (Cells.rd Rd.s hx)) ?_
   refine .aw rfl (af.alloc rfl zeroValue25 rfl) ?_
   rintro _ _ ⟨b6,rfl,rfl⟩
   refine .aw rfl (af.Kj (by exact sizeOf25) rfl rfl hone rfl) ?_
   rintro _ _ ⟨rfl,rfl⟩
   refine J 5 ?_
   refine .c call9 rfl (FU hpx hbx) fun o ho=>?_
   refine JD 14 (fun h31=>?_) fun h31=>?_
   ·refine J 14 ?_
    refine .eo rfl rfl rfl fun w s=>⟨none,?_,by rw[hke,hck,jT hxm h31];exact(decide_eq_false h31).symm,ar .auto s⟩
    rw[hke,hck,jT hxm h31];rfl
   ·have h31:=Decidable.of_not_not h31
    obtain⟨bs,rfl⟩:=Option.isSome_iff_exists.1 (ho.trans (decide_eq_true h31))
    refine .fr (A:=optH (fun b=>cH b (Spc.new x.p)) (some bs)) (Bs:=[cH bs (Spc.new x.p)]) .auto rT ?_
    refine J 9 ?_
    refine .aw rfl (af.gQ 27 rfl rfl (by kernel_rfl)) ?_
    rintro _ _ ⟨b39,rfl,rfl⟩
    refine .aw rfl (af.fi (enc:=df) (k:=1) ((bs,Spc.new x.p):Nat×Spc) rfl underlying153 underlying153 typeInfo27 rfl rfl rfl (by decide) rfl rfl rfl .auto rfl .auto (by first | omega | (dsimp only;omega)) rfl) ?_
    rintro _ _ ⟨v40,rfl,rfl⟩
    refine J 2 ?_
    refine .aw rfl (af.pz sizeOf153 rfl rfl rfl) ?_
    rintro _ _ ⟨rfl,rfl⟩
    refine J 7 ?_
    refine .bf (n+1,v40,xs++[(bs,Spc.new x.p)]) .auto rfl ?_ ?_ ?_ ?_
    ·show ps.length-(n+1)<ps.length-n;omega
    ·exact⟨by show n+1≤_;omega,by simp[hxl],by rw[cy hxm];simp[hxm0],by rw[hck,mX hxm h31]⟩
    ·exact⟨rfl,trivial⟩
    ·show ∀ w,Sat _ w _→Sat _ w (seps [_,sl df 1 v40 (xs++[(bs,Spc.new x.p)]),aT (fun x:Nat×Spc=>cH x.1 x.2)  (xs++[(bs,Spc.new x.p)]),A,F])
     rw[j7]
     exact fun w s=>aK.kept .auto w s
  ·obtain rfl:n=ps.length:=by omega
   have hk0:gv (ps.map bN.p)=0:=by rw[hke,hck,List.drop_of_length_le (by rw[hml];omega)];rfl
   have hxx:xs.map (·.2)=((ps.map bN.p).map Spc.new):=by rw[hxm0,List.take_of_length_le (by rw[hml];omega)]
   refine J 13 ?_
   refine .to (A:=da b18 ((ps.map bN.p).map Spc.new)) (Bs:=[arr b18 0 [vl],sl df 1 vl xs,aT (fun x:Nat×Spc=>cH x.1 x.2)  xs]) .auto (pY hxx) ?_
   refine .eo rfl rfl rfl fun w s=>⟨some b18,?_,by rw[hk0];rfl,ar .auto s⟩
   rw[hk0];rfl
end Go.SLYtefdijgllbkmfaaGreat
namespace Go.SLYtefdijgllbkmfaaGreat
open Go Go.RowKit
/-! rows of pointers -/
section
variable{α:Type}{f:Nat×α→aa}{b:Nat}{v:Value}{xs:List (Nat×α)}{l:List α}
def yU(f:Nat×α→aa)(b:Nat)(l:List α):aa:=rM (fun _ (xs:List (Nat×α))=>xs.map (·.2)=l) fun v xs=>[arr b 0 [v],sl df 1 v xs,aT f xs]
theorem Mf(h:xs.map (·.2)=l):∀ g,seps [arr b 0 [v],sl df 1 v xs,aT f xs] g→yU f b l g:=fun _ a=>⟨v,xs,h,a⟩
theorem IJ(h:xs.map (·.2)=l){i q:Nat}{s0:α}(hx:xs[i]?=some (q,s0))(s:α):∀ g,seps [arr b 0 [v],sl df 1 v xs,f (q,s),aT f (xs.eraseIdx i)] g→yU f b (l.set i s) g:=fun g a=>by
 have hi:=(List.getElem?_eq_some_iff.1 hx).1
 refine⟨v,xs.set i (q,s),by show(xs.set i (q,s)).map (·.2)=_;rw[List.map_set,h],?_⟩
 simp only[seps,aP] at a ⊢
 refine aS (fun _ b=>b) (aS (rf ?_) (fun g b=>?_)) g a
 ·rw[List.map_set]
  have:(xs.map (·.1))[i]?=some q:=by rw[List.getElem?_map,hx];rfl
  exact(eF this).symm
 ·rw[iW _ _ hi];exact b
theorem Ke(h:xs.map (·.2)=l){i q:Nat}{s:α}(hx:xs[i]?=some (q,s)):∀ g,seps [arr b 0 [v],sl df 1 v xs,f (q,s),aT f (xs.eraseIdx i)] g→yU f b l g:=fun g a=>by
 have:=IJ h hx s g a
 have e:l[i]?=some s:=by rw[← h,List.getElem?_map,hx];rfl
 rwa [eF e] at this
def tv(t:α→α)(k:Nat)(xs:List (Nat×α)):List (Nat×α):=(xs.take k).map (fun x=>(x.1,t x.2))++xs.drop k
variable{t:α→α}
theorem Ge:tv t 0 xs=xs:=by unfold tv;simp
theorem Gf{k:Nat}{x:Nat×α}(h:xs[k]?=some x):(tv t k xs)[k]?=some x∧(tv t k xs).set k (x.1,t x.2)=tv t (k+1) xs:=by
 have hk:=(List.getElem?_eq_some_iff.1 h).1
 have hl:((xs.take k).map (fun x:Nat×α=>(x.1,t x.2))).length=k:=by rw[List.length_map,List.length_take];omega
 unfold tv
 rw[drop_cons h]
 refine⟨?_,?_⟩
 ·rw[List.getElem?_append_right (by omega),hl,Nat.sub_self];rfl
 ·rw[List.set_append_right _ _ (by omega),hl,Nat.sub_self,cy h,List.map_append,List.append_assoc];rfl
theorem Ia:tv t xs.length xs=xs.map (fun x=>(x.1,t x.2)):=by unfold tv;simp
theorem Ib{k:Nat}{x:Nat×α}(hx:xs[k]?=some x):∀ g,aT f (tv t k xs) g→seps [f x,aT f ((tv t k xs).eraseIdx k)] g:=lY (Gf hx).1
theorem Kf{k:Nat}{x:Nat×α}(hx:xs[k]?=some x):∀ g,seps [f (x.1,t x.2),aT f ((tv t k xs).eraseIdx k)] g→aT f (tv t (k+1) xs) g:=by
 obtain⟨h1,h2⟩:=Gf (t:=t) hx
 rw[← h2]
 exact Bo (List.getElem?_eq_some_iff.1 h1).1 (x.1,t x.2)
theorem Ic(h:xs.map (·.2)=l):∀ g,seps [arr b 0 [v],sl df 1 v xs,aT f (tv t xs.length xs)] g→yU f b (l.map t) g:=fun g a=>by
 rw[Ia] at a
 refine⟨v,xs.map (fun x=>(x.1,t x.2)),by subst h;rw[List.map_map,List.map_map];rfl,?_⟩
 simp only[seps,aP] at a ⊢
 exact aS (fun _ b=>b) (aS (rf (by rw[List.map_map];rfl)) (fun _ b=>b)) g a
end
/-! the reference's model -/
def fW(x:Nat×RV×RSp):aa:=bV x.1 x.2.1 x.2.2
def jW(b:Nat)(q:List (RV×RSp)):aa:=yU fW b q
def Ay(y:RV×RSp):RV×RSp:=(y.1,y.2.tick.2)
theorem Gg{xs:List (Nat×RV×RSp)}{i p:Nat}{v:RV}{r:RSp}(hx:xs[i]?=some (p,v,r)):∀ g,aT fW xs g→seps [bV p v r,aT fW (xs.eraseIdx i)] g:=lY (f:=fW) hx
theorem Ie{xs:List (Nat×RV×RSp)}{i p:Nat}{v:RV}{r:RSp}(hx:xs[i]?=some (p,v,r)):∀ g,aT fW (tv Ay i xs) g→seps [bV p v r,aT fW ((tv Ay i xs).eraseIdx i)] g:=Ib (f:=fW) hx
theorem Kg{xs:List (Nat×RV×RSp)}{i p:Nat}{v:RV}{r:RSp}(hx:xs[i]?=some (p,v,r)):∀ g,seps [bV p v r.tick.2,aT fW ((tv Ay i xs).eraseIdx i)] g→aT fW (tv Ay (i+1) xs) g:=Kf (f:=fW) (t:=Ay) hx
theorem Gh{b:Nat}{u:Value}{xs:List (Nat×RV×RSp)}{q:List (RV×RSp)}(h:xs.map (·.2)=q){i p:Nat}{v:RV}{r:RSp}(hx:xs[i]?=some (p,v,r))(r2:RSp):∀ g,seps [arr b 0 [u],sl df 1 u xs,bV p v r2,aT fW (xs.eraseIdx i)] g→jW b (q.set i (v,r2)) g:=IJ (f:=fW) h hx (v,r2)
theorem rl{b:Nat}{u:Value}{xs:List (Nat×RV×RSp)}{q:List (RV×RSp)}(h:xs.map (·.2)=q){i p:Nat}{v:RV}{r:RSp}(hx:xs[i]?=some (p,v,r)):∀ g,seps [arr b 0 [u],sl df 1 u xs,bV p v r,aT fW (xs.eraseIdx i)] g→jW b q g:=Ke (f:=fW) h hx
theorem IK{b:Nat}{u:Value}{xs:List (Nat×RV×RSp)}{q:List (RV×RSp)}(h:xs.map (·.2)=q):∀ g,seps [arr b 0 [u],sl df 1 u xs,aT fW xs] g→jW b q g:=Mf h
theorem Gi{b:Nat}{u:Value}{xs:List (Nat×RV×RSp)}{q:List (RV×RSp)}(h:xs.map (·.2)=q):∀ g,seps [arr b 0 [u],sl df 1 u xs,aT fW (tv Ay xs.length xs)] g→jW b (q.map Ay) g:=Ic (f:=fW) h
structure qj(l:List Spc)(q:List (RV×RSp)):Prop where
 n:q.length=l.length
 s:∀ (i:Nat) (s:Spc) (x:RV×RSp),l[i]?=some s→q[i]?=some x→fh x.1.p.p s x.2
theorem qj.back{l:List Spc}{q:List (RV×RSp)}(h:qj l q){i:Nat}{x:RV×RSp}(hx:q[i]?=some x):∃ s,l[i]?=some s∧fh x.1.p.p s x.2:=by
 have hi:=(List.getElem?_eq_some_iff.1 hx).1
 obtain⟨s,hs⟩:=ay (show i<l.length by rw[← h.n];exact hi)
 exact⟨s,hs,h.s i s _ hs hx⟩
theorem qj.put{l:List Spc}{q:List (RV×RSp)}(h:qj l q){i:Nat}{v:RV}{r0:RSp}(hq:q[i]?=some (v,r0)){s:Spc}{r:RSp}(hs:fh v.p.p s r):qj (l.set i s) (q.set i (v,r)):=by
 have hi:=(List.getElem?_eq_some_iff.1 hq).1
 have hl:=h.n
 refine⟨by rw[List.length_set,List.length_set];exact h.n,fun j t x e1 e2=>?_⟩
 by_cases e:i=j
 ·subst e
  rw[List.getElem?_set_self (by omega)] at e1
  rw[List.getElem?_set_self hi] at e2
  cases e1;cases e2;exact hs
 ·rw[List.getElem?_set_ne e] at e1 e2
  exact h.s j t x e1 e2
theorem qj.tick{l:List Spc}{q:List (RV×RSp)}(h:qj l q){k:Nat}(hO:iq k l):qj (l.map fun s=>s.tick.2) (q.map Ay):=by
 refine⟨by rw[List.length_map,List.length_map];exact h.n,fun j t x e1 e2=>?_⟩
 rw[List.getElem?_map] at e1 e2
 cases h1:l[j]? with
 | none=>rw[h1] at e1;cases e1
 | some s =>
  cases h2:q[j]? with
  | none=>rw[h2] at e2;cases e2
  | some y =>
   rw[h1] at e1;rw[h2] at e2
   cases e1;cases e2
   exact((h.s j s y h1 h2).tick (hO s (List.mem_of_getElem? h1)).1).2
theorem Ig{l:List Spc}{a:zK}(h3:¬a.kind=3)(h:(a.space<0∨(l.length:Int)≤a.space)∨(¬a.kind=1∧¬a.kind=2)):oDo l a=(1,l):=by
 rcases h with h | h
 ·exact sJ h3 (ei (by omega))
 ·cases hg:cE l a.space with
  | none=>exact sJ h3 hg
  | some s=>exact yh h3 h.1 h.2 hg
theorem qN{q:List (RV×RSp)}{i:Nat}{v:RV}{r0 r:RSp}(hq:q[i]?=some (v,r0)):(q.set i (v,r)).map (·.1)=q.map (·.1):=by
 rw[List.map_set]
 exact eF (by rw[List.getElem?_map,hq];rfl)
theorem Ih{q:List (RV×RSp)}:(q.map Ay).map (·.1)=q.map (·.1):=by rw[List.map_map];rfl
theorem Ii{q q':List (RV×RSp)}(h:q'.map (·.1)=q.map (·.1)){P:RV→Prop}(hp:∀ x∈q,P x.1):∀ x∈q',P x.1:=fun x hx=>by
 have:x.1∈q.map (·.1):=by rw[← h];exact List.mem_map_of_mem hx
 obtain⟨y,hy,e⟩:=List.mem_map.1 this
 rw[← e];exact hp y hy
structure Kh(ps:List bN)(q:List (RV×RSp)):Prop where
 p:q.map (·.1.p)=ps
 r:q.map (·.2)=(ps.map bN.p).map RSp.new
theorem Kh.Mw{ps:List bN}{q:List (RV×RSp)}(h:Kh ps q)(hc:∀ p∈ps.map bN.p,dD p=0)(hw:∀ p∈ps.map bN.p, ∀ f∈p.funcs, ∀ i∈f,fq i.n):qj ((ps.map bN.p).map Spc.new) q:=by
 have hl:q.length=ps.length:=by rw[← h.p,List.length_map]
 refine⟨by rw[List.length_map,List.length_map];exact hl,fun i s x e1 e2=>?_⟩
 have hp:ps[i]?=some x.1.p:=by rw[← h.p,List.getElem?_map,e2];rfl
 have hr:((ps.map bN.p).map RSp.new)[i]?=some x.2:=by rw[← h.r,List.getElem?_map,e2];rfl
 rw[List.getElem?_map,List.getElem?_map,hp] at e1 hr
 cases e1
 have hr:RSp.new x.1.p.p=x.2:=Option.some.inj hr
 have hm:x.1.p.p∈ps.map bN.p:=List.mem_map_of_mem (List.mem_of_getElem? hp)
 rw[← hr]
 exact fh.new ⟨hc _ hm,hw _ hm⟩
theorem Gj{ps:List bN}{n:Nat}{x:bN}{xs:List (Nat×RV×RSp)}(h1:xs.map (·.2.1.p)=ps.take n)(h2:xs.map (·.2.2)=((ps.take n).map bN.p).map RSp.new)(hx:ps[n]?=some x)(b:Nat)(u:Value) :
  (xs++[(b,(⟨x,u⟩:RV),RSp.new x.p)]).map (·.2.1.p)=ps.take (n+1)∧(xs++[(b,(⟨x,u⟩:RV),RSp.new x.p)]).map (·.2.2)=((ps.take (n+1)).map bN.p).map RSp.new:=by
 rw[cy hx,List.map_append,List.map_append,h1,h2,List.map_append,List.map_append]
 exact⟨rfl,rfl⟩
end Go.SLYtefdijgllbkmfaaGreat
namespace Go.SLYtefdijgllbkmfaaGreat
open Go Go.RowKit Go.Proofs Go.Proofs.Tryz
attribute [local irreducible] ax aQ bu cj bQ Y
set_option maxHeartbeats 1000000 in
theorem Ki{W:World}{A:aa}{b k:Nat}{l:List Spc}{q:List (RV×RSp)}{a:zK}(hS:qj l q)(hO:iq k l)(hk:k≤1990)(hll:l.length≤8)(hp:∀ x∈q,fp W [A] x.1.p):Fn Tryz.prog W 28 [ptr b,.agg (tE a).toArray] [jW b q,A] (List (RV×RSp)) (fun _=>.int .i64 (oDo l a).1) (fun q'=>qj (oDo l a).2 q'∧q'.map (·.1)=q.map (·.1)) (fun q'=>[jW b q',A]):=by
 refine Fn.intro (N:=100) func28 rfl ntmps28 rfl fun F=>?_
 show ax _ _ _ _ _ _ [jW b q,A,F]
 refine .o2 (C:=jW b q) .auto rfl ?_
 rintro u xs hxs
 have hlx:xs.length=q.length:=by rw[← hxs,List.length_map]
 have hql:=hS.n
 refine J 2 ?_
 refine .aw rfl (af.box rfl rfl rfl) ?_
 rintro _ _ ⟨b3,rfl,rfl⟩
 refine .mem (H':=[arr b3 0 (tE a),arr b 0 [u],sl df 1 u xs,aT fW  xs,A,F]) (fun w s=>s) ?_
 refine JD 11 (fun h9=>?_) fun h9=>?_
 ·refine J 7 ?_
  refine .cM (X:=Nat) [5,10,11,12,13,14,15,16,17,18,19,20,21,22,23,24,25,26] (fun k=>xs.length-k) (fun k=>k≤xs.length) (fun k=>[(5,some (.int .i64 (k:Int)))]) (fun k=>[arr b3 0 (tE a),arr b 0 [u],sl df 1 u xs,aT fW  (tv Ay k xs),A,F]) 0 ?_ ?_ ?_ ?_
  ·exact Nat.zero_le _
  ·exact⟨rfl,trivial⟩
  ·simp only[Ge];exact fun w s=>aK.kept .auto w s
  rintro k2 hk2
  refine JD 12 (fun h16=>?_) fun h16=>?_
  ·refine J 10 ?_
   obtain⟨⟨p,v,r⟩,hx⟩:=ay (show k2<xs.length by omega)
   obtain⟨s,hsl,hSr⟩:=hS.back (i:=k2) (x:=(v,r)) (by rw[← hxs,List.getElem?_map,hx];rfl)
   have hOs:=hO s (List.mem_of_getElem? hsl)
   refine .p (.ix k2 rfl rfl rfl (by omega)) ?_
   refine .p (.lr rfl hx) ?_
   refine .fr .auto (Ie hx) ?_
   refine .c call45 rfl (Fy (s:=r) hSr.T hSr.Mc (by rw[hSr.rc];exact hOs.rec hk) (hSr.Md hOs.1)) fun u26 _=>?_
   refine J 8 ?_
   refine .to (A:=aT fW  (tv Ay (k2+1) xs)) (Bs:=[bV p v r.tick.2,aT fW  ((tv Ay k2 xs).eraseIdx k2)]) .auto (Kg hx) ?_
   refine .bf (k2+1) .auto rfl ?_ ?_ ?_ ?_
   ·omega
   ·show k2+1≤_;omega
   ·exact⟨rfl,trivial⟩
   ·exact fun w s=>aK.kept .auto w s
  ·refine J 12 ?_
   obtain rfl:k2=xs.length:=by omega
   refine .to (A:=jW b (q.map Ay)) (Bs:=[arr b 0 [u],sl df 1 u xs,aT fW  (tv Ay xs.length xs)]) .auto (Gi hxs) ?_
   refine .aC rfl rfl fun w s=>⟨q.map Ay,?_,⟨by rw[show(oDo l a).2=l.map fun s=>s.tick.2 from by unfold oDo;rw[if_pos h9]];exact hS.tick hO,Ih⟩,ar .auto s⟩
   rw[yf h9]
 ·refine J 4 ?_
  refine .draw [] [1,1,1,1,1,1,1,1,1,1,1,1,1,1,1,1,1,1,1,1,1,1,1] rfl (by kernel_rfl) ?_
  refine J 4 ?_
  apply bu.ga 9 39 30 [30,31,32,33,34,35,36,37,38,39] rfl
  ·intro h30
   refine J 10 ?_
   refine .tt .auto rfl (by first | exact fun _ h=>h | exact aK.kept .auto)
  ·intro h30
   refine J 10 ?_
   refine .tt .auto rfl (by first | exact fun _ h=>h | exact aK.kept .auto)
  refine J 1 ?_
  apply bu.gj 9 49 40 [40,41,42,43,44,45,46,47,48,49] rfl
  ·intro h40
   refine J 4 ?_
   apply bu.fZ 4 48 44 [44,45,46,47,48] rfl
   ·intro h44
    refine J 5 ?_
    refine .tt .auto rfl (by first | exact fun _ h=>h | exact aK.kept .auto)
   ·intro h44
    refine J 5 ?_
    refine .tt .auto rfl (by first | exact fun _ h=>h | exact aK.kept .auto)
   refine J 2 ?_
   refine .tt .auto rfl (by first | exact fun _ h=>h | exact aK.kept .auto)
  ·intro h40
   refine J 10 ?_
   refine .tt .auto rfl (by first | exact fun _ h=>h | exact aK.kept .auto)
  refine JD 2 (fun h49=>?_) fun h49=>?_
  ·simp only[Bool.and_eq_true,Bool.or_eq_true,decide_eq_true_eq] at h49
   have he:oDo l a=(1,l):=Ig h9 (by omega)
   refine J 7 ?_
   refine .to (A:=jW b q) (Bs:=[arr b 0 [u],sl df 1 u xs,aT fW  xs]) .auto (IK hxs) ?_
   refine .aC rfl rfl fun w s=>⟨q,?_,⟨by rw[he];exact hS,rfl⟩,ar .auto s⟩
   rw[he]
  ·simp only[Bool.and_eq_false_iff,Bool.or_eq_false_iff,decide_eq_false_iff_not] at h49
   obtain⟨i,hi⟩:∃ i:Nat,a.space=(i:Int):=⟨a.space.toNat,by omega⟩
   obtain⟨⟨p,v,r⟩,hx⟩:=ay (show i<xs.length by omega)
   have hqx:q[i]?=some (v,r):=by rw[← hxs,List.getElem?_map,hx];rfl
   obtain⟨s,hsl,hSr⟩:=hS.back hqx
   have hSr:fh v.p.p s r:=hSr
   have hg:cE l a.space=some s:=by rw[hi,lP];exact hsl
   have hOs:=hO s (List.mem_of_getElem? hsl)
   refine .fr .auto (Gg hx) ?_
   refine J 3 ?_
   refine .draw [] [1,1,1,1,1,1,1,1,1] rfl (by kernel_rfl) ?_
   refine J 6 ?_
   refine .p (.ig i underlying76 sizeOf33 rfl rfl Rd.s hi (by omega)) ?_
   refine .p (.lr rfl hx) ?_
   refine JD 11 (fun h60=>?_) fun h60=>?_
   ·refine J 6 ?_
    refine .c call43 rfl (Fx (s:=r) (k:=a.choice) hSr.T (hSr.Lb hOs.1).1 (hSr.Lb hOs.1).2 (by rw[hSr.rc];have:=hOs.rec hk;omega)) fun _ _=>?_
    refine JD 3 (fun h65=>?_) fun h65=>?_
    ·obtain⟨d1,d2,d3,d4⟩:(s.done a.choice).2.1=3∧(s.done a.choice).1=iZ.z∧(s.done a.choice).2.2=s∧r.done a.choice=(0,r):=by
      rcases hSr.done hOs.1 (c:=a.choice) with h | ⟨w,⟨w0,w16⟩,_,_,e,_⟩
      ·exact h
      ·rw[e] at h65;omega
     have he:oDo l a=(3,l):=by rw[sK h60 hg,d1,d3,hi,Int.toNat_natCast,eF hsl]
     rw[d4]
     refine J 8 ?_
     refine .to (A:=jW b q) (Bs:=[arr b 0 [u],sl df 1 u xs,bV p v r,aT fW  (xs.eraseIdx i)]) .auto (rl hxs hx) ?_
     refine .aC rfl rfl fun w s=>⟨q,?_,⟨by rw[he];exact hS,rfl⟩,ar .auto s⟩
     rw[he]
    ·obtain⟨w, -,d1,d2,d3,d4⟩:∃ w:Int,(0≤w∧w<16)∧(s.done a.choice).2.1=0∧(s.done a.choice).1=⟨[w],false,false,false⟩∧(r.done a.choice).1=w+1∧fh v.p.p (s.done a.choice).2.2 (r.done a.choice).2:=by
      rcases hSr.done hOs.1 (c:=a.choice) with ⟨_,_,_,e⟩ | h
      ·exact absurd (by rw[e]) h65
      ·exact h
     have he:oDo l a=(0,l.set i (s.done a.choice).2.2):=by rw[sK h60 hg,d1,hi,Int.toNat_natCast]
     refine J 9 ?_
     refine .to (A:=jW b (q.set i (v,(r.done a.choice).2))) (Bs:=[arr b 0 [u],sl df 1 u xs,bV p v (r.done a.choice).2,aT fW  (xs.eraseIdx i)]) .auto (Gh hxs hx _) ?_
     refine .aC rfl rfl fun w s=>⟨q.set i (v,(r.done a.choice).2),?_,⟨by rw[he];exact hS.put hqx d4,qN hqx⟩,ar .auto s⟩
     rw[he]
   ·have h1:a.kind=1:=by omega
    refine .fr (A:=bV p v r) .auto bx ?_
    refine J 4 ?_
    refine .draw [] [1,1,1,1,1,1,1,1,1,1,1,1,1,1,1,1,1,1,1] rfl (by kernel_rfl) ?_
    refine J 4 ?_
    apply bu.ga 4 73 69 [69,70,71,72,73] rfl
    ·intro h69
     refine J 5 ?_
     refine .tt .auto rfl (by first | exact fun _ h=>h | exact aK.kept .auto)
    ·intro h69
     refine J 5 ?_
     refine .tt .auto rfl (by first | exact fun _ h=>h | exact aK.kept .auto)
    refine J 1 ?_
    apply bu.gj 10 84 74 [74,75,76,77,78,79,80,81,82,83,84] rfl
    ·intro h74
     simp only[Bool.or_eq_false_iff,decide_eq_false_iff_not] at h74
     refine J 5 ?_
     refine .g (.aD a.dv.toNat underlying54 sizeOf53 rfl rfl (by omega) (by omega)) ?_
     refine J 1 ?_
     refine .g (.ld rfl (Cell.tz (by first | omega | exact hn))) ?_
     refine J 3 ?_
     refine .tt .auto rfl (by first | exact fun _ h=>h | exact aK.kept .auto)
    ·intro h74
     refine J 11 ?_
     refine .tt .auto rfl (by first | exact fun _ h=>h | exact aK.kept .auto)
    refine JD 2 (fun h84=>?_) fun h84=>?_
    ·simp only[Bool.or_eq_true,decide_eq_true_eq,Bool.not_eq_true'] at h84
     have hat:s.at a.dv=none:=Gd hSr hOs.1 (by rcases h84 with (h | h) | h;exact .inl h;exact .inr (.inl h);exact .inr (.inr h))
     have he:oDo l a=(1,l):=by rw[rh h1 hg,ss hat,hi,Int.toNat_natCast];exact congrArg (Prod.mk 1) (eF hsl)
     refine J 7 ?_
     refine .to (A:=jW b q) (Bs:=[arr b 0 [u],sl df 1 u xs,bV p v r,aT fW  (xs.eraseIdx i)]) .auto (rl hxs hx) ?_
     refine .aC rfl rfl fun w s=>⟨q,?_,⟨by rw[he];exact hS,rfl⟩,ar .auto s⟩
     rw[he]
    ·simp only[Bool.or_eq_false_iff,decide_eq_false_iff_not,Bool.not_eq_false'] at h84
     obtain⟨⟨c1,c2⟩,c3⟩:=h84
     obtain⟨m,t,hm,hm16,hth,hat,hwy⟩:=Dl hSr hOs.1 c1 c2 c3
     have hn:m<16:=hm16
     refine J 4 ?_
     refine .draw [] [1,1,1,1,1,1,1,1,1] rfl (by kernel_rfl) ?_
     refine J 5 ?_
     refine .p (.aD m underlying54 sizeOf53 rfl rfl hm (by omega)) ?_
     refine J 1 ?_
     refine .p (.ld rfl (Cell.t (by first | omega | exact hn) rfl)) ?_
     refine JD 3 (fun h93=>?_) fun h93=>?_
     ·have hw:t.why≠0:=by rw[← hwy];exact h93
      have he:oDo l a=(4,l):=by rw[rh h1 hg,su hat hw,hi,Int.toNat_natCast];exact congrArg (Prod.mk 4) (eF hsl)
      refine J 7 ?_
      refine .to (A:=jW b q) (Bs:=[arr b 0 [u],sl df 1 u xs,bV p v r,aT fW  (xs.eraseIdx i)]) .auto (rl hxs hx) ?_
      refine .aC rfl rfl fun w s=>⟨q,?_,⟨by rw[he];exact hS,rfl⟩,ar .auto s⟩
      rw[he]
     ·have hw:t.why=0:=by rw[← hwy];exact Decidable.not_not.mp h93
      obtain⟨f1,f2,f3,f4,f5⟩:=hSr.Me hOs hk hth hw (c:=a.choice)
      have he:oDo l a=(0,l.set i (s.run m a.choice).2.2):=by rw[rh h1 hg,hm,f2,hi,Int.toNat_natCast]
      have hpv:fp W [A] v.p:=hp (v,r) (List.mem_of_getElem? hqx)
      have hrun:=HP (b:=p) (n:=m) (choice:=a.choice) hpv f4 f5
      rw[← hm] at hrun
      refine J 9 ?_
      refine .c call41 rfl hrun fun u99 _=>?_
      refine J 8 ?_
      refine .to (A:=jW b (q.set i (v,(r.run v.p.p m a.choice).2))) (Bs:=[arr b 0 [u],sl df 1 u xs,bV p v (r.run v.p.p m a.choice).2,aT fW  (xs.eraseIdx i)]) .auto (Gh hxs hx _) ?_
      refine .aC rfl rfl fun w s=>⟨q.set i (v,(r.run v.p.p m a.choice).2),?_,⟨by rw[he];exact hS.put hqx f3,qN hqx⟩,ar .auto s⟩
      rw[he]
theorem Az{W:World}{A:aa}{v:Value}{ps:List bN}(hr:Rd W [A] eH 8 v ps)(hp:∀ p∈ps,fp W [A] p)(hc:∀ p∈ps,eg p.p=true)(hl:ps.length≤8):Fn Tryz.prog W 27 [v] [A] (Nat×List (RV×RSp)) (fun z=>ptr z.1) (fun z=>Kh ps z.2) (fun z=>[jW z.1 z.2,A]):=by
 refine Fn.intro (N:=28) func27 rfl ntmps27 rfl fun F=>?_
 haveI hRI:∀ (H:List aa) [bX H A],aI W H v eH 8 ps:=fun H h=>⟨hr.at h.has⟩
 show ax _ _ _ _ _ _ [A,F]
 refine J 7 ?_
 refine .p (.qO ([(.slice none 0 0)]) (by kernel_rfl)) ?_
 refine .aw rfl (af.box rfl rfl rfl) ?_
 rintro _ _ ⟨b6,rfl,rfl⟩
 refine J 10 ?_
 refine .cM (X:=Nat×Value×List (Nat×RV×RSp)) [4,7,8,9,10,11,12,13,14,15,16,17,18,19,20,21,22,23,24,25,26] (fun z=>ps.length-z.1) (fun z=>z.1≤ps.length∧z.2.2.length=z.1∧z.2.2.map (·.2.1.p)=ps.take z.1∧z.2.2.map (·.2.2)=((ps.take z.1).map bN.p).map RSp.new) (fun z=>[(4,some (.int .i64 (z.1:Int)))]) (fun z=>[arr b6 0 [z.2.1],sl df 1 z.2.1 z.2.2,aT fW  z.2.2,A,F]) (0,.slice none 0 0,[]) ?_ ?_ ?_ ?_
 ·exact⟨Nat.zero_le _,rfl,rfl,rfl⟩
 ·exact⟨rfl,trivial⟩
 ·exact fun w s=>aK.kept .auto w s
 rintro⟨n,vl,xs⟩ ⟨hk,hxl,h1,h2⟩
 simp only at hk hxl h1 h2
 refine JD 9 (fun h10=>?_) fun h10=>?_
 ·refine J 4 ?_
  refine .draw [arr b6 0 [vl],A] [0,0,0,0,0,1,1,1,1,2,2,2,1,1,3] rfl (by kernel_rfl) ?_
  refine J 7 ?_
  obtain⟨x,hx⟩:=ay (show n<ps.length by omega)
  have hxm:=List.mem_of_getElem? hx
  refine .p (.ix n rfl rfl rfl (by omega)) ?_
  refine .p (.la rfl (Cells.rd Rd.s hx)) ?_
  refine .c2 call12 rfl (HQ (hp x hxm) (hc x hxm)) fun x2 _=>?_
  refine .d2 rfl Kept.auto (af.gQ 33 rfl rfl (by kernel_rfl)) (by rintro _ _ ⟨b23,rfl,rfl⟩;exact Kept.auto) ?_
  rintro _ _ ⟨b23,rfl,rfl⟩
  refine .d2 rfl Kept.auto (af.fi (enc:=df) (k:=1) ((x2.1,(⟨x,x2.2⟩:RV),RSp.new x.p):Nat×RV×RSp) rfl underlying76 underlying76 typeInfo33 rfl rfl rfl (by decide) rfl rfl rfl .auto rfl .auto (by dsimp only;omega) rfl) (by rintro _ _ ⟨v24,rfl,rfl⟩;exact Kept.auto) ?_
  rintro _ _ ⟨v24,rfl,rfl⟩
  refine J 2 ?_
  refine .d3 rfl (af.pz sizeOf76 rfl rfl rfl) ?_
  rintro _ _ ⟨rfl,rfl⟩
  refine J 8 ?_
  refine .bf (n+1,v24,xs++[((x2.1,(⟨x,x2.2⟩:RV),RSp.new x.p):Nat×RV×RSp)]) .auto rfl ?_ ?_ ?_ ?_
  ·show ps.length-(n+1)<ps.length-n;omega
  ·exact⟨by show n+1≤_;omega,by simp[hxl],Gj h1 h2 hx x2.1 x2.2⟩
  ·exact⟨rfl,trivial⟩
  ·show ∀ w,Sat _ w _→Sat _ w (seps [_,sl df 1 v24 (xs++[((x2.1,(⟨x,x2.2⟩:RV),RSp.new x.p):Nat×RV×RSp)]),aT fW  (xs++[((x2.1,(⟨x,x2.2⟩:RV),RSp.new x.p):Nat×RV×RSp)]),A,F])
   rw[j7,show fW ((x2.1,(⟨x,x2.2⟩:RV),RSp.new x.p):Nat×RV×RSp)=bV x2.1 ⟨x,x2.2⟩ (RSp.new x.p) from rfl]
   exact fun w s=>aK.kept .auto w s
 ·obtain rfl:n=ps.length:=by omega
  rw[List.take_length] at h1 h2
  refine .to (A:=jW b6 (xs.map (·.2))) (Bs:=[arr b6 0 [vl],sl df 1 vl xs,aT fW  xs]) .auto (IK rfl) ?_
  refine J 12 ?_
  refine .aC rfl rfl fun w s=>⟨(b6,xs.map (·.2)),?_,⟨by rw[List.map_map];exact h1,by rw[List.map_map];exact h2⟩,ar .auto s⟩
  rfl
theorem Gk{W:World}{b:Nat}{l:List Spc}{n k:Int}(hl:l.length≤1000000000){s:Spc}(hg:cE l n=some s)(hO:fE s):Fn Tryz.prog W 35 [ptr b,.int .i64 n,.int .i64 k] [da b l] Unit (fun _=>.tuple #[.agg (mS ((s.at k).getD EG)).toArray,.bool (s.at k).isSome]) (fun _=>True) (fun _=>[da b l]):=by
 refine Fn.intro (N:=15) func35 rfl ntmps35 rfl fun F=>?_
 show ax _ _ _ _ _ _ [da b l,F]
 refine .o2 (C:=da b l) .auto rfl ?_
 rintro v xs hxs
 have hlx:xs.length=l.length:=by rw[← hxs,List.length_map]
 obtain⟨q,hgx,hx⟩:=wH hxs hg
 refine J 2 ?_
 refine .aw rfl (af.alloc rfl zeroValue41 rfl) ?_
 rintro _ _ ⟨b6,rfl,rfl⟩
 refine J 7 ?_
 refine .c call36 rfl (fm (xs:=xs) (n:=n) (v:=v) (by omega)) fun _ _=>?_
 rw[hgx]
 refine .fr .auto (mG hx) ?_
 refine J 1 ?_
 refine .c call14 rfl (Dg (s:=s) (n:=k) hO) fun _ _=>?_
 refine J 7 ?_
 refine .to (A:=da b l) (Bs:=[arr b 0 [v],sl df 1 v xs,cH q s,aT (fun x:Nat×Spc=>cH x.1 x.2)  (xs.eraseIdx n.toNat)]) .auto (mc hxs hx) ?_
 refine .gT rfl rfl isAgg41 (by exact sizeOf41) Cells.a rfl fun w s=>⟨(),?_,trivial,ar .auto s⟩
 rfl
end Go.SLYtefdijgllbkmfaaGreat
namespace Go.SLYtefdijgllbkmfaaGreat
open Go Go.RowKit Go.Proofs Go.Proofs.Tryz
attribute [local irreducible] ax aQ bu cj bQ Y
end Go.SLYtefdijgllbkmfaaGreat
namespace Go.SLYtefdijgllbkmfaaGreat
open Go Go.RowKit Go.Proofs Go.Proofs.Tryz
attribute [local irreducible] ax aQ bu cj bQ Y
theorem mr{W:World}  : Fn Tryz.prog W 30 [] [] Unit (fun _=>.bool true) (fun _=>True) (fun _=>[]):=by
 refine Fn.intro (N:=61) func30 rfl ntmps30 rfl fun F=>?_
 show ax _ _ _ _ _ _ [F]
 refine J 7 ?_
 refine .p (.gH (fun v1 v2=>[v1,v2,(.int .i64 0),(.int .i64 0),(.int .u64 0)]) rfl rfl (by kernel_rfl)) ?_
 refine .aw rfl (af.gQ 131 rfl rfl (by kernel_rfl)) ?_
 rintro _ _ ⟨b8,rfl,rfl⟩
 refine .aw rfl (af.gQ 128 rfl rfl (by kernel_rfl)) ?_
 rintro _ _ ⟨b9,rfl,rfl⟩
 refine .p (.jt (fun _=>eH (lG b8 b9)) rfl (by kernel_rfl)) ?_
 refine .aw rfl (af.alloc rfl zeroValue25 rfl) ?_
 rintro _ _ ⟨b1,rfl,rfl⟩
 refine J 7 ?_
 refine .aw rfl (af.gQ 25 rfl rfl (by kernel_rfl)) ?_
 rintro _ _ ⟨b14,rfl,rfl⟩
 refine .c call29 rfl (BO (A:=LS b8 b9 b14) (v:=Kk b14 2) (ps:=[lG b8 b9,lG b8 b9]) Fe Hm JE) fun o ho=>?_
 rw[show[lG b8 b9,lG b8 b9].map bN.p=[Dp,Dp] from rfl,Iv] at ho ⊢
 obtain⟨kb,rfl⟩:=Option.isSome_iff_exists.1 ho
 refine .fr (A:=optH (fun b=>da b ([Dp,Dp].map Spc.new)) (some kb)) (Bs:=[da kb yi]) .auto rT ?_
 refine JD 18 (fun h23=>?_) fun h23=>?_
 ·cases h23
 ·refine J 5 ?_
  refine .p (.gH (fun v1 v2=>[v1,v2,(.int .i64 0),(.int .i64 0)]) rfl rfl (by kernel_rfl)) ?_
  refine .c call31 rfl (wZ (l:=yi) (a:=⟨1,1,0,0⟩) (by rw[uv.1];decide) (Iw.qP (by decide))) fun _ _=>?_
  rw[LU,show(oDo yi ⟨1,1,0,0⟩).2=yj from rfl]
  refine J 6 ?_
  refine .p (.gH (fun v1 v2=>[v1,v2,(.int .i64 0),(.int .i64 0)]) rfl rfl (by kernel_rfl)) ?_
  refine .c call31 rfl (wZ (l:=yj) (a:=⟨1,2,0,0⟩) (by rw[uv.2.1];decide) (Ix.qP (by decide))) fun _ _=>?_
  rw[LV,show(oDo yj ⟨1,2,0,0⟩).2=yk from rfl]
  refine J 6 ?_
  refine .p (.gH (fun v1 v2=>[v1,v2,(.int .i64 0),(.int .i64 0)]) rfl rfl (by kernel_rfl)) ?_
  refine .c call31 rfl (wZ (l:=yk) (a:=⟨3,9,0,0⟩) (by rw[uv.2.2.1];decide) (Iy.qP (by decide))) fun _ _=>?_
  rw[LW,show(oDo yk ⟨3,9,0,0⟩).2=wI from rfl]
  refine J 17 ?_
  refine .cg call32 rfl (jL (l:=wI) (n:=0) (by rw[uv.2.2.2];decide) (Ff.qP (by decide))) fun u45 _=>?_
  rw[LX]
  refine J 5 ?_
  refine .cg call32 rfl (jL (l:=wI) (n:=1) (by rw[uv.2.2.2];decide) (Ff.qP (by decide))) fun u51 _=>?_
  rw[LY]
  refine J 5 ?_
  refine .cg call34 rfl (vj (l:=wI) (n:=1) (by rw[uv.2.2.2];decide) (Ff.qP (by decide))) fun u57 _=>?_
  rw[Mt]
  refine .dg rfl rfl rfl (af.gQ 3 rfl rfl (by kernel_rfl)) ?_
  rintro _ _ ⟨b58,rfl,rfl⟩
  refine .cg call18 rfl (yS (A:=seps [sl aL 1 u57 [0],arr b58 0 [.int .i64 0]]) (xs:=[0]) (ys:=[0]) (Rd.lE (Rd.sl .here)) (Rd.lE (Rd.lit (.there .here) rfl (fun _ _=>rfl) rfl)) (by decide)) fun _ _=>?_
  exact JR 5 ()
end Go.SLYtefdijgllbkmfaaGreat
namespace Go.SLYtefdijgllbkmfaaGreat
open Go Go.RowKit
section
variable{W:World}{H:List aa}{α:Type}
end
end Go.SLYtefdijgllbkmfaaGreat
namespace Go.SLYtefdijgllbkmfaaGreat
open Go Go.RowKit Go.Proofs Go.Proofs.Tryz
attribute [local irreducible] ax aQ bu cj bQ Y
set_option maxHeartbeats 2000000 in
theorem yV{W:World}{A:aa}{v:Value}{ps:List bN}(hr:Rd W [A] eH 8 v ps)(hp:∀ p∈ps,fp W [A] p)(hb:ps.length≤1000000000∧ ∀ p∈ps,p.fs.length≤1000000000∧p.aU.length≤1000000000∧p.aG.length≤1000000000)(hw:∀ p∈ps.map bN.p, ∀ f∈p.funcs, ∀ i∈f,fq i.n){u:Value}{acts:List zK}(ha:Rd W [A] tE 4 u acts)(_hal:acts.length≤1000000000):Fn Tryz.prog W 5 [v,u] [A] Unit (fun _=>.bool true) (fun _=>True) (fun _=>[A]):=by
 refine Fn.intro (N:=196) func5 rfl ntmps5 rfl fun F=>?_
 haveI hRI:∀ (H:List aa) [bX H A],aI W H v eH 8 ps:=fun H h=>⟨hr.at h.has⟩
 haveI hRJ:∀ (H:List aa) [bX H A],aI W H u tE 4 acts:=fun H h=>⟨ha.at h.has⟩
 show ax _ _ _ _ _ _ [A,F]
 have hml:(ps.map bN.p).length=ps.length:=List.length_map ..
 refine J 8 ?_
 refine .c call29 rfl (BO hr hp hb) fun o ho=>?_
 refine J 14 ?_
 apply aQ.ga 4 29 25 [25,26,27,28,29] rfl
 ·intro h25
  exact JS 5
 ·intro h25
  exact JS 5
 refine JD 2 (fun h29=>?_) fun h29=>?_
 ·simp only[Bool.or_eq_true,decide_eq_true_eq] at h29
  have he:gv (ps.map bN.p)=1:=ma (by rw[hml];omega)
  have h0:o.isSome=false:=ho.trans (decide_eq_false (by rw[he];decide))
  obtain rfl:o=none:=by cases o with
   | none=>rfl
   | some z=>cases h0
  rw[he]
  refine J 2 ?_
  refine .c call30 rfl mr fun _ _=>?_
  refine J 1 ?_
  apply aQ.gI 3 34 31 [31,32,33,34] rfl
  ·intro h31
   exact JS 4
  ·intro h31
   exact JS 4
  refine J 1 ?_
  apply aQ.gI 3 38 35 [35,36,37,38] rfl
  ·intro h35
   exact JS 4
  ·intro h35
   exact JS 4
  refine J 5 ?_
  refine .aC rfl rfl fun w s=>⟨(),?_,trivial,ar .auto s⟩
  simp
 ·simp only[Bool.or_eq_false_iff,decide_eq_false_iff_not] at h29
  have hke:=sI (ps:=(ps.map bN.p)) (by rw[hml];omega)
  refine J 9 ?_
  refine .cM (X:=Nat) [4,7,8,39,40,41,42,43,44,45,46,47,48,49,50,51,52,53,54,55,56,57,58,59,60,61] (fun i=>ps.length-i) (fun i=>i≤ps.length∧checkAll (ps.map bN.p)=checkAll ((ps.map bN.p).drop i)) (fun i=>[(7,some (.int .i64 (i:Int)))]) (fun _=>[optH (fun b=>da b ((ps.map bN.p).map Spc.new)) o,A,F]) 0 ?_ ?_ ?_ ?_
  ·exact⟨Nat.zero_le _,rfl⟩
  ·exact⟨rfl,trivial⟩
  ·exact fun w s=>aK.kept .auto w s
  rintro i ⟨hi,hck⟩
  refine JD 9 (fun h42=>?_) fun h42=>?_
  ·refine J 8 ?_
   obtain⟨x,hxp⟩:=ay (show i<ps.length by omega)
   have hxm:=List.mem_of_getElem? hxp
   have hxg:(ps.map bN.p)[i]?=some x.p:=by rw[List.getElem?_map,hxp];rfl
   refine .p (.ix i rfl rfl rfl (by omega)) ?_
   refine .p (.la rfl (Cells.rd Rd.s hxp)) ?_
   refine .c call10 rfl (Dk (hp x hxm) (hb.2 x hxm)) fun _ _=>?_
   refine JD 9 (fun h51=>?_) fun h51=>?_
   ·have he:gv (ps.map bN.p)=dD x.p:=by rw[hke,hck];exact jT hxg h51
    have h0:o.isSome=false:=ho.trans (decide_eq_false (by rw[he];exact h51))
    obtain rfl:o=none:=by cases o with
     | none=>rfl
     | some z=>cases h0
    rw[he]
    refine J 2 ?_
    refine .c call30 rfl mr fun _ _=>?_
    refine J 1 ?_
    apply aQ.gI 4 57 53 [53,54,55,56,57] rfl
    ·intro h53
     exact JS 5
    ·intro h53
     exact JS 5
    refine J 1 ?_
    apply aQ.fZ 3 61 58 [58,59,60,61] rfl
    ·intro h58
     exact JS 4
    ·intro h58
     exact JS 4
    refine J 9 ?_
    refine .aC rfl rfl fun w s=>⟨(),?_,trivial,ar .auto s⟩
    simp
   ·refine J 8 ?_
    refine .bf (i+1) .auto rfl ?_ ?_ ?_ ?_
    ·omega
    ·exact⟨by show i+1≤_;omega,by rw[hck];exact mX hxg (Decidable.not_not.mp h51)⟩
    ·exact⟨rfl,trivial⟩
    ·exact fun w s=>aK.kept .auto w s
  ·obtain rfl:i=ps.length:=by omega
   have hc:gv (ps.map bN.p)=0:=by rw[hke,hck,List.drop_of_length_le (by rw[hml];omega)];rfl
   obtain⟨ka,rfl⟩:=Option.isSome_iff_exists.1 (ho.trans (decide_eq_true hc))
   rw[hc]
   refine .fr (A:=optH (fun b=>da b ((ps.map bN.p).map Spc.new)) (some ka)) (Bs:=[da ka ((ps.map bN.p).map Spc.new)]) .auto rT ?_
   have hok:iq 1 ((ps.map bN.p).map Spc.new):=iq.new hc hw
   have hz:=oW hc
   rw[hml] at hz
   have hcp:∀ p∈ps,eg p.p=true:=fun p hpm=>ng (hz.2.2 _ (List.mem_map_of_mem hpm))
   have hnl:((ps.map bN.p).map Spc.new).length=ps.length:=by rw[List.length_map,hml]
   refine J 16 ?_
   refine .jY rfl ?_
   refine J 5 ?_
   refine .aw rfl (af.eO rfl call27 rfl (Az hr hp hcp hz.2.1) .auto) ?_
   rintro _ _ ⟨⟨mb,q0⟩,hq0,rfl,rfl⟩
   have hpq:∀ x∈q0,fp W [A] x.1.p:=fun x hx=>hp _ (by rw[← hq0.p];exact List.mem_map_of_mem (f:=fun y:RV×RSp=>y.1.p) hx)
   have hsim:qj ((ps.map bN.p).map Spc.new) q0:=hq0.Mw hz.2.2 hw
   refine J 10 ?_
   refine .cM (X:=Nat×List Spc×List (RV×RSp)) [4,10,70,71,72,73,74,75,76,77,78,79,80,81,82,83,84,85,86,87,88,89,90,91,92] (fun z=>acts.length-z.1) (fun z=>z.1≤acts.length∧z.1≤150∧iq (z.1+1) z.2.1∧z.2.1.length=ps.length∧qj z.2.1 z.2.2∧z.2.2.map (·.1)=q0.map (·.1)) (fun z=>[(10,some (.int .i64 (z.1:Int)))]) (fun z=>[da ka z.2.1,jW mb z.2.2,A,F]) (0,((ps.map bN.p).map Spc.new),q0) ?_ ?_ ?_ ?_
   ·exact⟨Nat.zero_le _,Nat.zero_le _,hok,hnl,hsim,rfl⟩
   ·exact⟨rfl,trivial⟩
   ·exact fun w s=>aK.kept .auto w s
   rintro⟨k,l,q⟩ ⟨hk,hk2,hO,hl,hS,hqm⟩
   simp only at hk hk2 hO hl hS hqm
   refine J 8 ?_
   apply aQ.fZ 3 77 74 [74,75,76,77] rfl
   ·intro h74
    exact JS 4
   ·intro h74
    exact JS 4
   refine JD 2 (fun h77=>?_) fun h77=>?_
   ·simp only[Bool.and_eq_true,decide_eq_true_eq] at h77
    refine J 5 ?_
    refine .draw [A] [1,1,1,1,1,2,0,0,0,0,0,3,1] rfl (by kernel_rfl) ?_
    refine J 3 ?_
    obtain⟨x,hx⟩:=ay (show k<acts.length by omega)
    refine .p (.ix k rfl rfl rfl (by omega)) ?_
    refine .p (.la rfl (Cells.rd Rd.s hx)) ?_
    refine .c2 call31 rfl (wZ (l:=l) (a:=x) (by omega) (hO.qP (by omega))) fun _ _=>?_
    refine J 3 ?_
    refine .q (.ix k rfl rfl rfl (by omega)) ?_
    refine .q (.la rfl (Cells.rd Rd.s hx)) ?_
    refine .d3 rfl (af.eO rfl call28 rfl (Ki (l:=l) (q:=q) (a:=x) hS hO (by omega) (by omega) (Ii hqm (P:=fun v=>fp W [A] v.p) hpq)) .auto) ?_
    rintro _ _ ⟨q2,⟨hS2,hqm2⟩,rfl,rfl⟩
    refine JD 3 (fun h92=>?_) fun h92=>?_
    ·exact absurd rfl h92
    ·refine J 8 ?_
     refine .bf (k+1,(oDo l x).2,q2) .auto rfl ?_ ?_ ?_ ?_
     ·show acts.length-(k+1)<acts.length-k;omega
     ·exact⟨by show k+1≤_;omega,by show k+1≤150;omega,hO.act (by omega) x,by show(oDo l x).2.length=_;rw[q7];exact hl,hS2,hqm2.trans hqm⟩
     ·exact⟨rfl,trivial⟩
     ·exact fun w s=>aK.kept .auto w s
   ·simp only[Bool.and_eq_false_iff,decide_eq_false_iff_not] at h77
    have hql:=hS.n
    refine J 12 ?_
    refine .cM (X:=Nat) [4,11,12,13,14,15,16,93,94,95,96,97,98,99,100,101,102,103,104,105,106,107,108,109,110,111,112,113,114,115,116,117,118,119,120,121,122,123,124,125,126,127,128,129,130,131,132,133,134,135,136,137,138,139,140,141,142,143,144,145,146,147,148,149,150,151,152,153,154,155,156,157,158,159,160,161,162,163,164,165,166,167,168,169,170,171,172,173,174,175,176] (fun n=>ps.length-n) (fun n=>n≤ps.length) (fun n=>[(11,some (.int .i64 (n:Int)))]) (fun _=>[da ka l,jW mb q,A,F]) 0 ?_ ?_ ?_ ?_
    ·exact Nat.zero_le _
    ·exact⟨rfl,trivial⟩
    ·exact fun w s=>aK.kept .auto w s
    rintro n hn
    refine JD 9 (fun h96=>?_) fun h96=>?_
    ·refine .o2 (C:=jW mb q) .auto rfl ?_
     rintro um xq hxq0
     have hlq:xq.length=q.length:=by rw[← hxq0,List.length_map]
     obtain⟨⟨pp,rv,r⟩,hxq⟩:=ay (show n<xq.length by omega)
     have hqx:q[n]?=some (rv,r):=by rw[← hxq0,List.getElem?_map,hxq];rfl
     obtain⟨s,hsl,hSr⟩:=hS.back hqx
     have hSr:fh rv.p.p s r:=hSr
     have hOs:=hO s (List.mem_of_getElem? hsl)
     have hgs:cE l (n:Int)=some s:=by rw[lP];exact hsl
     refine .fr .auto (Gg hxq) ?_
     refine .fr (A:=bV pp rv r) .auto bx ?_
     refine .o1 (C:=iL dr 6 pp 337 r.au) .auto rfl ?_
     rintro vr -
     refine .o1 (C:=iL bF 1 pp 312 r.mem) .auto rfl ?_
     rintro vm -
     refine J 6 ?_
     refine .draw [arr mb 0 [um],sl df 1 um xq,arr pp 337 [vr],arr pp 312 [vm]] [1,1,2,0,0,0,0,0,0,0,0,0,0,3,1,1,1,1,2,0,0,0,0,0,0,0,0,0,0,3,1,1,1,1,1,2,0,0,0,0,0,0,0,3,3,1,1] rfl (by kernel_rfl) ?_
     refine J 2 ?_
     refine .c2 call32 rfl (jL (l:=l) (n:=(n:Int)) (by omega) (hO.qP (by omega))) fun u101 _=>?_
     rw[Fc hsl]
     refine J 5 ?_
     refine .q (.ix n rfl rfl rfl (by omega)) ?_
     refine .q (.lr rfl hxq) ?_
     refine J 3 ?_
     refine .c call21 rfl (Gc (A:=seps [sl dr 6 u101 s.au,sl dr 6 vr r.au]) (Rd.lE (Rd.sl .here)) (Rd.lE (Rd.sl (.there .here))) (Nat.le_trans (hOs.rec (by omega)) (by decide))) fun _ _=>?_
     rw[decide_eq_true (hSr.rc.symm:s.au=r.au)]
     refine J 4 ?_
     refine .Lj rfl rfl rfl Kept.auto (af.eO rfl call33 rfl (Ax (l:=l) (n:=(n:Int)) (by omega) (hO.qP (by omega))) .auto) (by rintro _ _ ⟨u117, -,rfl,rfl⟩;exact Kept.auto) ?_
     rintro _ _ ⟨u117, -,rfl,rfl⟩
     rw[Hl hsl]
     refine J 5 ?_
     refine .h (.ix n rfl rfl rfl (by omega)) ?_
     refine .h (.lr rfl hxq) ?_
     refine J 3 ?_
     refine .dg rfl rfl rfl (af.eO rfl call23 rfl (Di (A:=seps [sl bF 1 u117 s.mem,sl bF 1 vm r.mem]) (Rd.lE (Rd.sl .here)) (Rd.lE (Rd.sl (.there .here))) (Nat.le_trans (hOs.qP (by omega)).mem (by decide))) .auto) ?_
     rintro _ _ ⟨⟨⟩, -,rfl,rfl⟩
     rw[decide_eq_true (hSr.me.symm:s.mem=r.mem)]
     refine J 5 ?_
     refine .Lj rfl rfl rfl Kept.auto (af.eO rfl call34 rfl (vj (l:=l) (n:=(n:Int)) (by omega) (hO.qP (by omega))) .auto) (by rintro _ _ ⟨u134, -,rfl,rfl⟩;exact Kept.auto) ?_
     rintro _ _ ⟨u134, -,rfl,rfl⟩
     rw[CI hsl]
     refine J 5 ?_
     refine .h (.ix n rfl rfl rfl (by omega)) ?_
     refine .h (.lr rfl hxq) ?_
     refine .dg rfl rfl rfl (af.eO rfl call20 rfl (Aw (s:=r)) .auto) ?_
     rintro _ _ ⟨u142, -,rfl,rfl⟩
     rw[hSr.ready hOs.1]
     refine .dg rfl rfl rfl (af.eO rfl call18 rfl (yS (A:=seps [sl aL 1 u134 s.ready,sl aL 1 u142 s.ready]) (Rd.lE (Rd.sl .here)) (Rd.lE (Rd.sl (.there .here))) (Ct hOs.lt)) .auto) ?_
     rintro _ _ ⟨⟨⟩, -,rfl,rfl⟩
     rw[decide_eq_true (rfl:s.ready=s.ready)]
     refine J 4 ?_
     refine .jY rfl ?_
     refine J 8 ?_
     refine .fr (A:=seps [sl dr 6 u101 s.au,sl dr 6 vr r.au]) .auto (fun _ h=>h) ?_
     refine .fr (A:=seps [sl bF 1 u117 s.mem,sl bF 1 vm r.mem]) .auto (fun _ h=>h) ?_
     refine .fr (A:=seps [sl aL 1 u134 s.ready,sl aL 1 u142 s.ready]) .auto (fun _ h=>h) ?_
     refine .cM (X:=Nat) [4,12,13,14,15,16,146,147,148,149,150,151,152,153,154,155,156,157,158,159,160,161,162,163,164,165,166,167,168,169,170,171,172,173,174,175,176] (fun j=>18-j) (fun j=>j≤18) (fun j=>[(12,some (.int .i64 ((j:Int)-1)))]) (fun j=>[da ka l,arr mb 0 [um],sl df 1 um xq,bV pp rv r,aT fW  (xq.eraseIdx n),A,F]) 0 ?_ ?_ ?_ ?_
     ·exact Nat.zero_le _
     ·exact⟨rfl,trivial⟩
     ·exact fun w s=>aK.kept .auto w s
     rintro j hj
     refine JD 7 (fun h147=>?_) fun h147=>?_
     ·refine J 9 ?_
      refine .c call35 rfl (Gk (l:=l) (n:=(n:Int)) (k:=((j:Int)-1)) (by omega) hgs (hOs.qP (by omega))) fun _ _=>?_
      refine J 3 ?_
      refine .aw rfl (af.alloc rfl zeroValue41 rfl) ?_
      rintro _ _ ⟨b13,rfl,rfl⟩
      refine J 11 ?_
      refine .p (.ix n rfl rfl rfl (by omega)) ?_
      refine .p (.lr rfl hxq) ?_
      refine J 1 ?_
      refine .c call15 rfl (FO (s:=r) (n:=((j:Int)-1))) fun _ _=>?_
      rw[hSr.look hOs.1,hSr.seen hOs.1]
      refine J 3 ?_
      refine .aw rfl (af.alloc rfl zeroValue41 rfl) ?_
      rintro _ _ ⟨b15,rfl,rfl⟩
      refine J 8 ?_
      refine .p (.Gv underlying4 rfl rfl) ?_
      refine J 1 ?_
      apply aQ.gj 4 176 172 [172,173,174,175,176] rfl
      ·intro h172
       refine .g (.la rfl (Cells.a (cs:=mS ((s.at ((j:Int)-1)).getD EG)))) ?_
       refine .g (.la rfl (Cells.a (cs:=mS ((s.at ((j:Int)-1)).getD EG)))) ?_
       refine .g (.DH (by kernel_rfl) Li rfl rfl rfl) ?_
       exact JS 2
      ·intro h172
       exact JS 5
      refine JD 2 (fun h176=>?_) fun h176=>?_
      ·simp at h176
      ·refine J 5 ?_
       refine .p (.dJ (Y.add rfl rfl (by omega)) (show((j:Int)-1)+1=((j+1:Nat):Int)-1 by omega)) ?_
       refine J 2 ?_
       refine .bf (j+1) .auto rfl ?_ ?_ ?_ ?_
       ·show 18-(j+1)<18-j;omega
       ·show j+1≤18;omega
       ·exact⟨rfl,trivial⟩
       ·exact fun w s=>aK.kept .auto w s
     ·refine J 11 ?_
      refine .to (A:=jW mb q) (Bs:=[arr mb 0 [um],sl df 1 um xq,bV pp rv r,aT fW  (xq.eraseIdx n)]) .auto (rl hxq0 hxq) ?_
      refine .bf (n+1) .auto rfl ?_ ?_ ?_ ?_
      ·omega
      ·show n+1≤_;omega
      ·exact⟨rfl,trivial⟩
      ·exact fun w s=>aK.kept .auto w s
    ·refine J 7 ?_
     refine .c call30 rfl mr fun _ _=>?_
     refine J 4 ?_
     refine .o2 (C:=da ka l) .auto rfl ?_
     rintro v9 xs9 hxs9
     have hl9:xs9.length=l.length:=by rw[← hxs9,List.length_map]
     refine .cg call36 rfl (fm (xs:=xs9) (n:=(ps.length:Int)) (v:=v9) (by omega)) fun _ _=>?_
     rw[ei (l:=xs9) (i:=(ps.length:Int)) (by omega)]
     refine J 4 ?_
     refine .cg call36 rfl (fm (xs:=xs9) (n := -1) (v:=v9) (by omega)) fun _ _=>?_
     rw[ei (l:=xs9) (i := -1) (by omega)]
     refine .to (A:=da ka l) (Bs:=[arr ka 0 [v9],sl df 1 v9 xs9,aT (fun x:Nat×Spc=>cH x.1 x.2) xs9]) .auto (pY hxs9) ?_
     refine J 4 ?_
     refine .cg call32 rfl (jL (l:=l) (n := -1) (by omega) (hO.qP (by omega))) fun u192 _=>?_
     rw[show kA l (-1)=[] from by unfold kA;rw[ei (by omega)]]
     exact JR 7 ()
end Go.SLYtefdijgllbkmfaaGreat
