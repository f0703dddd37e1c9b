/- Walks of functions, and what they compute. Conditions: none, this text proves no statement. -/
import Derived.Test.YthncobnjdhjnoaaGreatG05
import Derived.Test.YthncobnjdhjnoaaGreatProg
import Derived.Test.YthncobnjdhjnoaaGreatG06
import Derived.Test.YthncobnjdhjnoaaGreatG03
import Derived.KernelRfl
import Derived.Test.YthncobnjdhjnoaaGreatG07
import Derived.Test.YthncobnjdhjnoaaGreatG04
import Derived.MapKept
import Derived.Laws.NewFold
set_option maxRecDepth 20000
set_option maxHeartbeats 4000000
namespace Go.SLYthncobnjdhjnoaaGreat
open Go Go.RowKit Go.Proofs Go.Proofs.Tryz
attribute [local irreducible] aq aJ ba bq bu Y
theorem fb{W:World}{a:Int}:Fn Tryz.prog W 233 [.int .u64 a] [] Unit (fun _=>.float .f64 a.toNat) (fun _=>True) (fun _=>[]):=by
 refine Fn.intro (N:=5) func233 rfl ntmps233 rfl fun F=>?_
 show aq _ _ _ _ _ _ [F]
 refine J 8 ?_
 refine .p (.ext (e:=Extern.MathFloatBits.float64frombits) func249 rfl rfl rfl (by kernel_rfl) rfl (fun w=>rfl)) ?_
 exact JR 4 ()
theorem zJ{W:World}{n:Nat}:Fn Tryz.prog W 255 [.float .f64 n] [] Unit (fun _=>.bool (jB n n != some .eq)) (fun _=>True) (fun _=>[]):=by
 refine Fn.intro (N:=6) func255 rfl ntmps255 rfl fun F=>?_
 show aq _ _ _ _ _ _ [F]
 refine J 9 ?_
 refine .p (.JV rfl rfl (fun w=>rfl)) ?_
 exact JR 4 ()
theorem kx{W:World}{n:Nat}:Fn Tryz.prog W 238 [.float .f64 n] [] Unit (fun _=>.bool (jB n n != some .eq)) (fun _=>True) (fun _=>[]):=by
 refine Fn.intro (N:=5) func238 rfl ntmps238 rfl fun F=>?_
 show aq _ _ _ _ _ _ [F]
 refine J 8 ?_
 refine .c call255 rfl zJ fun _ _=>?_
 exact JR 4 ()
theorem jI{W:World}{n:Nat}:Fn Tryz.prog W 234 [.float .f64 n] [] Unit (fun _=>.int .u64 (iw (n:Int))) (fun _=>True) (fun _=>[]):=by
 refine Fn.intro (N:=7) func234 rfl ntmps234 rfl fun F=>?_
 show aq _ _ _ _ _ _ [F]
 refine J 9 ?_
 refine .c call238 rfl kx fun _ _=>?_
 refine JD 2 (fun h4=>?_) fun h4=>?_
 ·refine J 7 ?_
  refine .aP rfl rfl fun w s=>⟨(),?_,trivial,aj .auto s⟩
  rw[oM,if_pos h4];rfl
 ·refine J 5 ?_
  refine .p (.ext (e:=Extern.MathFloatBits.float64bits) func250 rfl rfl rfl (by kernel_rfl) rfl (fun w=>rfl)) ?_
  refine J 4 ?_
  refine .aP rfl rfl fun w s=>⟨(),?_,trivial,aj .auto s⟩
  rw[oM,if_neg (by rw[h4];simp)]
theorem GB{W:World}{a b:Int}:Fn Tryz.prog W 211 [.int .u64 a,.int .u64 b] [] Unit (fun _=>.int .u64 (HH a b)) (fun _=>True) (fun _=>[]):=by
 refine Fn.intro (N:=11) func211 rfl ntmps211 rfl fun F=>?_
 show aq _ _ _ _ _ _ [F]
 refine J 8 ?_
 refine .c call233 rfl fb fun _ _=>?_
 refine J 1 ?_
 refine .c call233 rfl fb fun _ _=>?_
 refine .ai rfl (ab.F6 (Ieee.double.add _ _) rfl rfl rfl (fun w=>rfl)) ?_
 rintro _ _ ⟨r9,hr9,rfl,rfl⟩
 refine .c call234 rfl jI fun _ _=>?_
 refine J 4 ?_
 refine .aP rfl rfl fun w s=>⟨(),?_,trivial,aj .auto s⟩
 rw[qn hr9];rfl
theorem GC{W:World}{a b:Int}:Fn Tryz.prog W 212 [.int .u64 a,.int .u64 b] [] Unit (fun _=>.int .u64 (HI a b)) (fun _=>True) (fun _=>[]):=by
 refine Fn.intro (N:=11) func212 rfl ntmps212 rfl fun F=>?_
 show aq _ _ _ _ _ _ [F]
 refine J 8 ?_
 refine .c call233 rfl fb fun _ _=>?_
 refine J 1 ?_
 refine .c call233 rfl fb fun _ _=>?_
 refine .ai rfl (ab.F6 (Ieee.double.sub _ _) rfl rfl rfl (fun w=>rfl)) ?_
 rintro _ _ ⟨r9,hr9,rfl,rfl⟩
 refine .c call234 rfl jI fun _ _=>?_
 refine J 4 ?_
 refine .aP rfl rfl fun w s=>⟨(),?_,trivial,aj .auto s⟩
 rw[qn hr9];rfl
theorem GD{W:World}{a b:Int}:Fn Tryz.prog W 213 [.int .u64 a,.int .u64 b] [] Unit (fun _=>.int .u64 (HJ a b)) (fun _=>True) (fun _=>[]):=by
 refine Fn.intro (N:=11) func213 rfl ntmps213 rfl fun F=>?_
 show aq _ _ _ _ _ _ [F]
 refine J 8 ?_
 refine .c call233 rfl fb fun _ _=>?_
 refine J 1 ?_
 refine .c call233 rfl fb fun _ _=>?_
 refine .ai rfl (ab.F6 (Ieee.double.mul _ _) rfl rfl rfl (fun w=>rfl)) ?_
 rintro _ _ ⟨r9,hr9,rfl,rfl⟩
 refine .c call234 rfl jI fun _ _=>?_
 refine J 4 ?_
 refine .aP rfl rfl fun w s=>⟨(),?_,trivial,aj .auto s⟩
 rw[qn hr9];rfl
theorem GF{W:World}{a b:Int}:Fn Tryz.prog W 214 [.int .u64 a,.int .u64 b] [] Unit (fun _=>.int .u64 (HK a b)) (fun _=>True) (fun _=>[]):=by
 refine Fn.intro (N:=11) func214 rfl ntmps214 rfl fun F=>?_
 show aq _ _ _ _ _ _ [F]
 refine J 8 ?_
 refine .c call233 rfl fb fun _ _=>?_
 refine J 1 ?_
 refine .c call233 rfl fb fun _ _=>?_
 refine .ai rfl (ab.F6 (Ieee.double.div _ _) rfl rfl rfl (fun w=>rfl)) ?_
 rintro _ _ ⟨r9,hr9,rfl,rfl⟩
 refine .c call234 rfl jI fun _ _=>?_
 refine J 4 ?_
 refine .aP rfl rfl fun w s=>⟨(),?_,trivial,aj .auto s⟩
 rw[qn hr9];rfl
theorem E0{W:World}{m n:Nat}:Fn Tryz.prog W 235 [.float .f64 m,.float .f64 n] [] Unit (fun _=>.float .f64 (jz true .lt m n)) (fun _=>True) (fun _=>[]):=by
 refine Fn.intro (N:=11) func235 rfl ntmps235 rfl fun F=>?_
 show aq _ _ _ _ _ _ [F]
 refine J 6 ?_
 refine .eM rfl ?_
 refine J 4 ?_
 refine .p (.ext (e := Extern.MathDim.pick "math.archMin" true .lt) func251 rfl rfl rfl (by kernel_rfl) rfl (fun w => rfl)) ?_
 exact JR 5 ()
theorem E1{W:World}{m n:Nat}:Fn Tryz.prog W 237 [.float .f64 m,.float .f64 n] [] Unit (fun _=>.float .f64 (jz false .gt m n)) (fun _=>True) (fun _=>[]):=by
 refine Fn.intro (N:=11) func237 rfl ntmps237 rfl fun F=>?_
 show aq _ _ _ _ _ _ [F]
 refine J 6 ?_
 refine .eM rfl ?_
 refine J 4 ?_
 refine .p (.ext (e := Extern.MathDim.pick "math.archMax" false .gt) func253 rfl rfl rfl (by kernel_rfl) rfl (fun w => rfl)) ?_
 exact JR 5 ()
theorem Bc{W:World}{n:Nat}{a b:Int}(ha:0≤a)(hb:0≤b):Fn Tryz.prog W 236 [.float .f64 n,.int .u64 a,.int .u64 b] [] Unit (fun _=>.int .u64 (if (q8 a || q8 b)=true then mg else iw (n:Int))) (fun _=>True) (fun _=>[]):=by
 refine Fn.intro (N:=17) func236 rfl ntmps236 rfl fun F=>?_
 show aq _ _ _ _ _ _ [F]
 refine J 9 ?_
 refine .c call233 rfl fb fun _ _=>?_
 refine .c call238 rfl kx fun _ _=>?_
 refine J 1 ?_
 apply aJ.gM 4 14 10 [10,11,12,13,14] rfl
 ·intro h10
  refine J 1 ?_
  refine .cg call233 rfl fb fun _ _=>?_
  refine .cg call238 rfl kx fun _ _=>?_
  exact JS 2
 ·intro h10
  exact JS 5
 refine JD 2 (fun h14=>?_) fun h14=>?_
 ·rw[fM ha,fM hb] at h14
  refine J 7 ?_
  refine .aP rfl rfl fun w s=>⟨(),?_,trivial,aj .auto s⟩
  rw[if_pos h14];rfl
 ·rw[fM ha,fM hb] at h14
  refine J 5 ?_
  refine .c call234 rfl jI fun _ _=>?_
  refine J 4 ?_
  refine .aP rfl rfl fun w s=>⟨(),?_,trivial,aj .auto s⟩
  rw[if_neg (by rw[h14];simp)]
theorem GG{W:World}{a b:Int}(ha:0≤a)(hb:0≤b):Fn Tryz.prog W 215 [.int .u64 a,.int .u64 b] [] Unit (fun _=>.int .u64 (wY a b)) (fun _=>True) (fun _=>[]):=by
 refine Fn.intro (N:=13) func215 rfl ntmps215 rfl fun F=>?_
 show aq _ _ _ _ _ _ [F]
 refine J 8 ?_
 refine .c call233 rfl fb fun _ _=>?_
 refine J 1 ?_
 refine .c call233 rfl fb fun _ _=>?_
 refine .c call235 rfl E0 fun _ _=>?_
 refine J 2 ?_
 refine .c call236 rfl (Bc ha hb) fun _ _=>?_
 exact JR 4 ()
theorem GH{W:World}{a b:Int}(ha:0≤a)(hb:0≤b):Fn Tryz.prog W 216 [.int .u64 a,.int .u64 b] [] Unit (fun _=>.int .u64 (wZ a b)) (fun _=>True) (fun _=>[]):=by
 refine Fn.intro (N:=13) func216 rfl ntmps216 rfl fun F=>?_
 show aq _ _ _ _ _ _ [F]
 refine J 8 ?_
 refine .c call233 rfl fb fun _ _=>?_
 refine J 1 ?_
 refine .c call233 rfl fb fun _ _=>?_
 refine .c call237 rfl E1 fun _ _=>?_
 refine J 2 ?_
 refine .c call236 rfl (Bc ha hb) fun _ _=>?_
 exact JR 4 ()
theorem E2{W:World}{a b:Int}:Fn Tryz.prog W 217 [.int .u64 a,.int .u64 b] [] Unit (fun _=>.bool (JP a b)) (fun _=>True) (fun _=>[]):=by
 refine Fn.intro (N:=10) func217 rfl ntmps217 rfl fun F=>?_
 show aq _ _ _ _ _ _ [F]
 refine J 8 ?_
 refine .c call233 rfl fb fun _ _=>?_
 refine J 1 ?_
 refine .c call233 rfl fb fun _ _=>?_
 refine .p (.I2 rfl rfl) ?_
 exact JR 4 ()
theorem Co{W:World}{a:Int}(ha:0≤a):Fn Tryz.prog W 218 [.int .u64 a] [] Unit (fun _=>.int .u64 (j8 a)) (fun _=>True) (fun _=>[]):=by
 refine Fn.intro (N:=18) func218 rfl ntmps218 rfl fun F=>?_
 show aq _ _ _ _ _ _ [F]
 refine J 8 ?_
 refine .c call233 rfl fb fun _ _=>?_
 refine J 7 ?_
 refine .c call238 rfl kx fun _ _=>?_
 refine JD 3 (fun h9=>?_) fun h9=>?_
 ·refine J 7 ?_
  refine .aP rfl rfl fun w s=>⟨(),?_,trivial,aj .auto s⟩
  rw[j8,if_pos (by rw[← fM ha];exact h9)]
 ·refine J 3 ?_
  refine .p (.JU rfl rfl) ?_
  refine JD 3 (fun h12=>?_) fun h12=>?_
  ·have g12:(Ieee.double.order a.toNat uO == some .gt || Ieee.double.order a.toNat uO == some .eq)=true:=h12
   refine J 7 ?_
   refine .aP rfl rfl fun w s=>⟨(),?_,trivial,aj .auto s⟩
   rw[j8,if_neg (by rw[← fM ha,h9];simp),if_pos g12]
  ·have g12:(Ieee.double.order a.toNat uO == some .gt || Ieee.double.order a.toNat uO == some .eq)=false:=h12
   refine J 3 ?_
   refine .p (.I2 rfl rfl) ?_
   refine JD 3 (fun h15=>?_) fun h15=>?_
   ·have g15:(Ieee.double.order a.toNat w8 == some .lt)=true:=h15
    refine J 7 ?_
    refine .aP rfl rfl fun w s=>⟨(),?_,trivial,aj .auto s⟩
    rw[j8,if_neg (by rw[← fM ha,h9];simp),if_neg (by rw[g12];simp),if_pos g15]
   ·have g15:(Ieee.double.order a.toNat w8 == some .lt)=false:=h15
    refine J 3 ?_
    obtain⟨k,hk,hk1,hk2⟩:=BS h9 g12 g15
    refine .p (.HN (fun w=>BT hk hk1 hk2) rfl) ?_
    refine .p (.conv underlying2 underlying86 rfl) ?_
    refine J 5 ?_
    refine .aP rfl rfl fun w s=>⟨(),?_,trivial,aj .auto s⟩
    rw[j8,if_neg (by rw[← fM ha,h9];simp),if_neg (by rw[g12];simp),if_neg (by rw[g15];simp),hk];exact wK (DV k)
theorem xQ{W:World}{a:Int}:Fn Tryz.prog W 219 [.int .u64 a] [] Unit (fun _=>.int .u64 (k7 a)) (fun _=>True) (fun _=>[]):=by
 refine Fn.intro (N:=7) func219 rfl ntmps219 rfl fun F=>?_
 show aq _ _ _ _ _ _ [F]
 refine J 8 ?_
 refine .p (.conv underlying86 underlying2 rfl) ?_
 refine .p (.toFloat (fun w=>rfl) rfl) ?_
 refine .c call234 rfl jI fun _ _=>?_
 exact JR 4 ()
end Go.SLYthncobnjdhjnoaaGreat
namespace Go.SLYthncobnjdhjnoaaGreat
open Go Go.RowKit Go.Proofs Go.Proofs.Tryz
theorem zK{W:World}{A:aa}{fv c1 c2 c3 c4 c5 c6 c7:Value}{fs:List (Value×List Ins)}{f:gZ}{p:gD}(hr:Rd W [A] dP 1 fv fs)(hi:∀ x∈fs,Rd W [A] dO 5 x.1 x.2)(hp:fs.map (·.2)=p.funcs)(_hl:fs.length≤1000000)(_hl2:∀ x∈fs,x.2.length≤1000000):Fn Tryz.prog W 122 [.agg #[fv,c1,c2,c3,c4,c5,c6,c7],.agg (gU f).toArray] [A] Unit (fun _=>G5 (dB p f)) (fun _=>True) (fun _=>[A]):=by
 refine Fn.intro (N:=45) func122 rfl ntmps122 rfl fun F=>?_
 haveI hRI:∀ (H:List aa) [bE H A],aG W H fv dP 1 fs:=fun H h=>⟨hr.at h.has⟩
 show aq _ _ _ _ _ _ [A,F]
 obtain⟨x,hxd⟩:∃ x:Value×List Ins,fs.getD f.fn.toNat (.slice none 0 0,[])=x:=⟨_,rfl⟩
 have hx:f.fn.toNat<fs.length→fs[f.fn.toNat]?=some x:=fun h=>hxd ▸ getD_some h
 refine J 2 ?_
 refine .ai rfl (ab.box rfl rfl rfl) ?_
 rintro _ _ ⟨b2,rfl,rfl⟩
 refine .mem (H':=[arr b2 0 [fv,c1,c2,c3,c4,c5,c6,c7],A,F]) (fun w s=>s) ?_
 refine .ai rfl (ab.box rfl rfl rfl) ?_
 rintro _ _ ⟨b3,rfl,rfl⟩
 refine .mem (H':=[arr b3 0 (gU f),arr b2 0 [fv,c1,c2,c3,c4,c5,c6,c7],A,F]) (fun w s=>s) ?_
 refine .ai rfl (ab.alloc rfl zeroValue88 rfl) ?_
 rintro _ _ ⟨b4,rfl,rfl⟩
 refine J 5 ?_
 refine .draw [] [1,1,1,1,1,1,1,1,1,1,1,1,1,1,1,1,1,1,1,1,1,1,1,1,1,1,1,1] rfl (by kernel_rfl) ?_
 refine J 4 ?_
 apply ba.fY 7 16 9 [9,10,11,12,13,14,15,16] rfl
 ·intro h9
  exact JS 8
 ·intro h9
  exact JS 8
 refine J 1 ?_
 apply ba.gM 4 21 17 [17,18,19,20,21] rfl
 ·intro h17
  exact JS 5
 ·intro h17
  exact JS 5
 refine J 1 ?_
 apply ba.gM 11 33 22 [22,23,24,25,26,27,28,29,30,31,32,33] rfl
 ·intro h22
  simp only[Bool.or_eq_false_iff,decide_eq_false_iff_not] at h22
  have hlt:f.fn.toNat<fs.length:=by omega
  have hix:=hi x (List.mem_of_getElem? (hx hlt))
  haveI hI4:∀ (H:List aa) [bE H A],aG W H x.1 dO 5 x.2:=fun H h=>⟨hix.at h.has⟩
  refine J 6 ?_
  refine .g (.ix f.fn.toNat rfl rfl (by omega) hlt) ?_
  refine .g (.ld rfl (Cell.G0 Rd.s (hx hlt) (by rfl))) ?_
  exact JS 4
 ·intro h22
  exact JS 12
 refine JD 2 (fun h33=>?_) fun h33=>?_
 ·refine J 2 ?_
  refine .p (.l9 ([(.int .i64 0),(.int .i64 0),(.int .i64 0),(.int .i64 0),(.int .u64 0)]) (by kernel_rfl)) ?_
  refine J 6 ?_
  refine .fk rfl rfl isAgg88 (by exact sizeOf88) Cells.a rfl fun w s=>⟨(),?_,trivial,aj .auto s⟩
  rw[F8 (z:=(.slice none 0 0,[])) hp (by rw[hxd];exact h33) rfl];rfl
 ·refine J 3 ?_
  refine .draw [] [1,1,1,1,1,1,1,1,1,1,3,1] rfl (by kernel_rfl) ?_
  simp only[Bool.or_eq_false_iff,decide_eq_false_iff_not] at h33
  have hlt:f.fn.toNat<fs.length:=by omega
  have hix:=hi x (List.mem_of_getElem? (hx hlt))
  haveI hI4:∀ (H:List aa) [bE H A],aG W H x.1 dO 5 x.2:=fun H h=>⟨hix.at h.has⟩
  obtain⟨i,hin⟩:=al (show f.pc.toNat<x.2.length by omega)
  refine J 4 ?_
  refine .p (.ix f.fn.toNat rfl rfl (by omega) hlt) ?_
  refine .p (.ld rfl (Cell.G0 Rd.s (hx hlt) (by rfl))) ?_
  refine J 2 ?_
  refine .p (.ix f.pc.toNat rfl rfl (by omega) (by omega)) ?_
  refine .p (.la rfl (Cells.rd Rd.s hin)) ?_
  refine .d3 rfl (ab.gC (by exact sizeOf88) rfl rfl rfl (by rfl)) ?_
  rintro _ _ ⟨rfl,rfl⟩
  refine J 4 ?_
  refine .fk rfl rfl isAgg88 (by exact sizeOf88) Cells.a rfl fun w s=>⟨(),?_,trivial,aj .auto s⟩
  rw[DW hp (by omega) (by omega) (hx hlt) hin];rfl
theorem tX{W:World}{b:Bool}:Fn Tryz.prog W 210 [.bool b] [] Unit (fun _=>.int .u64 (yY b)) (fun _=>True) (fun _=>[]):=by
 refine Fn.intro (N:=4) func210 rfl ntmps210 rfl fun F=>?_
 show aq _ _ _ _ _ _ [F]
 refine JD 11 (fun h=>?_) fun h=>?_
 ·refine J 7 ?_
  refine .aP rfl rfl fun w s=>⟨(),?_,trivial,aj .auto s⟩
  subst h;rfl
 ·refine J 8 ?_
  refine .aP rfl rfl fun w s=>⟨(),?_,trivial,aj .auto s⟩
  subst h;rfl
theorem xR{W:World}{n:Int}:Fn Tryz.prog W 196 [.int .i64 n] [] Unit (fun _=>.bool (oJ n)) (fun _=>True) (fun _=>[]):=by
 refine Fn.intro (N:=13) func196 rfl ntmps196 rfl fun F=>?_
 show aq _ _ _ _ _ _ [F]
 refine J 10 ?_
 apply aJ.fY 3 8 5 [5,6,7,8] rfl
 ·intro h5
  exact JS 4
 ·intro h5
  exact JS 4
 refine J 1 ?_
 apply aJ.gM 3 12 9 [9,10,11,12] rfl
 ·intro h9
  exact JS 4
 ·intro h9
  exact JS 4
 exact JR 4 ()
theorem xS{W:World}{op a b:Int}(ha:0≤a)(hb:0≤b):Fn Tryz.prog W 197 [.int .i64 op,.int .u64 a,.int .u64 b] [] Bool (fun t=>.tuple #[.int .u64 (bZ op a b),.bool t]) (fun _=>True) (fun _=>[]):=by
 refine Fn.intro (N:=77) func197 rfl ntmps197 rfl fun F=>?_
 show aq _ _ _ _ _ _ [F]
 refine JD 19 (fun h9=>?_) fun h9=>?_
 ·refine J 10 ?_
  refine .eO rfl rfl rfl fun w s=>⟨true,?_,trivial,aj .auto s⟩
  rw[show bZ op a b=a from by unfold bZ;rw[if_pos h9]]
 ·refine JD 6 (fun h12=>?_) fun h12=>?_
  ·refine J 4 ?_
   refine .p (.Hr rfl rfl) ?_
   refine J 7 ?_
   refine .eO rfl rfl rfl fun w s=>⟨true,?_,trivial,aj .auto s⟩
   rw[show bZ op a b=yM (a+b) from by unfold bZ;rw[if_neg h9,if_pos h12]]
   rfl
  ·refine JD 6 (fun h17=>?_) fun h17=>?_
   ·refine J 4 ?_
    refine .p (.IK rfl rfl) ?_
    refine J 7 ?_
    refine .eO rfl rfl rfl fun w s=>⟨true,?_,trivial,aj .auto s⟩
    rw[show bZ op a b=yM (a-b) from by unfold bZ;rw[if_neg h9,if_neg h12,if_pos h17]]
    rfl
   ·refine JD 6 (fun h22=>?_) fun h22=>?_
    ·refine J 4 ?_
     refine .p (.Ht rfl rfl) ?_
     refine J 7 ?_
     refine .eO rfl rfl rfl fun w s=>⟨true,?_,trivial,aj .auto s⟩
     rw[show bZ op a b=yM (a * b) from by unfold bZ;rw[if_neg h9,if_neg h12,if_neg h17,if_pos h22]]
     rfl
    ·refine JD 6 (fun h27=>?_) fun h27=>?_
     ·refine J 5 ?_
      refine .c call210 rfl tX fun _ _=>?_
      refine J 7 ?_
      refine .eO rfl rfl rfl fun w s=>⟨true,?_,trivial,aj .auto s⟩
      rw[show bZ op a b=yY (decide (a<b)) from by unfold bZ;rw[if_neg h9,if_neg h12,if_neg h17,if_neg h22,if_pos h27]]
     ·refine JD 6 (fun h33=>?_) fun h33=>?_
      ·refine J 4 ?_
       refine .c call211 rfl GB fun _ _=>?_
       refine J 7 ?_
       refine .eO rfl rfl rfl fun w s=>⟨true,?_,trivial,aj .auto s⟩
       rw[show bZ op a b=HH a b from by unfold bZ;rw[if_neg h9,if_neg h12,if_neg h17,if_neg h22,if_neg h27,if_pos h33]]
      ·refine JD 6 (fun h38=>?_) fun h38=>?_
       ·refine J 4 ?_
        refine .c call212 rfl GC fun _ _=>?_
        refine J 7 ?_
        refine .eO rfl rfl rfl fun w s=>⟨true,?_,trivial,aj .auto s⟩
        rw[show bZ op a b=HI a b from by unfold bZ;rw[if_neg h9,if_neg h12,if_neg h17,if_neg h22,if_neg h27,if_neg h33,if_pos h38]]
       ·refine JD 6 (fun h43=>?_) fun h43=>?_
        ·refine J 4 ?_
         refine .c call213 rfl GD fun _ _=>?_
         refine J 7 ?_
         refine .eO rfl rfl rfl fun w s=>⟨true,?_,trivial,aj .auto s⟩
         rw[show bZ op a b=HJ a b from by unfold bZ;rw[if_neg h9,if_neg h12,if_neg h17,if_neg h22,if_neg h27,if_neg h33,if_neg h38,if_pos h43]]
        ·refine JD 6 (fun h48=>?_) fun h48=>?_
         ·refine J 4 ?_
          refine .c call214 rfl GF fun _ _=>?_
          refine J 7 ?_
          refine .eO rfl rfl rfl fun w s=>⟨true,?_,trivial,aj .auto s⟩
          rw[show bZ op a b=HK a b from by unfold bZ;rw[if_neg h9,if_neg h12,if_neg h17,if_neg h22,if_neg h27,if_neg h33,if_neg h38,if_neg h43,if_pos h48]]
         ·refine JD 6 (fun h53=>?_) fun h53=>?_
          ·refine J 4 ?_
           refine .c call215 rfl (GG ha hb) fun _ _=>?_
           refine J 7 ?_
           refine .eO rfl rfl rfl fun w s=>⟨true,?_,trivial,aj .auto s⟩
           rw[show bZ op a b=wY a b from by unfold bZ;rw[if_neg h9,if_neg h12,if_neg h17,if_neg h22,if_neg h27,if_neg h33,if_neg h38,if_neg h43,if_neg h48,if_pos h53]]
          ·refine JD 6 (fun h58=>?_) fun h58=>?_
           ·refine J 4 ?_
            refine .c call216 rfl (GH ha hb) fun _ _=>?_
            refine J 7 ?_
            refine .eO rfl rfl rfl fun w s=>⟨true,?_,trivial,aj .auto s⟩
            rw[show bZ op a b=wZ a b from by unfold bZ;rw[if_neg h9,if_neg h12,if_neg h17,if_neg h22,if_neg h27,if_neg h33,if_neg h38,if_neg h43,if_neg h48,if_neg h53,if_pos h58]]
           ·refine JD 6 (fun h63=>?_) fun h63=>?_
            ·refine J 4 ?_
             refine .c call217 rfl E2 fun _ _=>?_
             refine .c call210 rfl tX fun _ _=>?_
             refine J 7 ?_
             refine .eO rfl rfl rfl fun w s=>⟨true,?_,trivial,aj .auto s⟩
             rw[show bZ op a b=yY (JP a b) from by unfold bZ;rw[if_neg h9,if_neg h12,if_neg h17,if_neg h22,if_neg h27,if_neg h33,if_neg h38,if_neg h43,if_neg h48,if_neg h53,if_neg h58,if_pos h63]]
            ·refine JD 6 (fun h69=>?_) fun h69=>?_
             ·refine J 3 ?_
              refine .c call218 rfl (Co ha) fun _ _=>?_
              refine J 7 ?_
              refine .eO rfl rfl rfl fun w s=>⟨true,?_,trivial,aj .auto s⟩
              rw[show bZ op a b=j8 a from by unfold bZ;rw[if_neg h9,if_neg h12,if_neg h17,if_neg h22,if_neg h27,if_neg h33,if_neg h38,if_neg h43,if_neg h48,if_neg h53,if_neg h58,if_neg h63,if_pos h69]]
             ·refine JD 6 (fun h73=>?_) fun h73=>?_
              ·refine J 3 ?_
               refine .c call219 rfl xQ fun _ _=>?_
               refine J 7 ?_
               refine .eO rfl rfl rfl fun w s=>⟨true,?_,trivial,aj .auto s⟩
               rw[show bZ op a b=k7 a from by unfold bZ;rw[if_neg h9,if_neg h12,if_neg h17,if_neg h22,if_neg h27,if_neg h33,if_neg h38,if_neg h43,if_neg h48,if_neg h53,if_neg h58,if_neg h63,if_neg h69,if_pos h73]]
              ·refine J 10 ?_
               refine .eO rfl rfl rfl fun w s=>⟨false,?_,trivial,aj .auto s⟩
               rw[show bZ op a b=0 from by unfold bZ;rw[if_neg h9,if_neg h12,if_neg h17,if_neg h22,if_neg h27,if_neg h33,if_neg h38,if_neg h43,if_neg h48,if_neg h53,if_neg h58,if_neg h63,if_neg h69,if_neg h73]]
theorem fj{W:World}{b:Nat}{n:Int}(hn:0≤n∧n<8):Fn Tryz.prog W 194 [ptr b,.int .i64 n] [] Unit (fun _=>.pointer (some ⟨b,2+n.toNat,none⟩)) (fun _=>True) (fun _=>[]):=by
 refine Fn.intro (N:=19) func194 rfl ntmps194 rfl fun F=>?_
 show aq _ _ _ _ _ _ [F]
 refine J 11 ?_
 apply aJ.fY 3 10 7 [7,8,9,10] rfl
 ·intro h7
  exact JS 4
 ·intro h7
  exact JS 4
 refine JD 2 (fun h10=>?_) fun h10=>?_
 ·simp only[Bool.or_eq_true,decide_eq_true_eq] at h10
  exact absurd h10 (by omega)
 ·simp only[Bool.or_eq_false_iff,decide_eq_false_iff_not] at h10
  refine J 9 ?_
  refine .p (.dh n.toNat underlying139 sizeOf86 rfl rfl (by omega) (by omega)) ?_
  refine J 4 ?_
  refine .aP rfl rfl fun w s=>⟨(),?_,trivial,aj .auto s⟩
  rw[Nat.mul_one]
theorem mV{W:World}{b:Nat}{f:gZ}{v:Value}{m:List Int}{at_:Int}(h0:0≤at_)(hl:m.length≤1000000):BQ Tryz.prog W 195 [ptr b,.int .u64 at_] [arr b 0 (tg f v),sl ey 1 v m] Unit (fun _=>if at_<m.length then .returned (.pointer (some ⟨blk v,dJ v+at_.toNat * 1,none⟩)) else .panicked (tm 258 6)) (fun _=>True) (fun _=>[arr b 0 (tg f v),sl ey 1 v m]):=by
 refine BQ.intro (N:=21) func195 rfl ntmps195 rfl fun F=>?_
 show aq _ _ _ _ _ _ [arr b 0 (tg f v),sl ey 1 v m,F]
 refine J 14 ?_
 refine .p (.qJ underlying3 underlying86 rfl (by omega)) ?_
 refine JD 3 (fun h12=>?_) fun h12=>?_
 ·refine J 1 ?_
  refine .p (.iK (fun v1=>[v1]) rfl (by kernel_rfl)) ?_
  refine .p (.F1 underlying258 rfl rfl) ?_
  refine .panic rfl ?_
  refine fun a w ha s=>And.intro ha.defers (Exists.intro () (And.intro ?_ (And.intro trivial (aj .auto s))))
  rw[if_neg (by omega)];rfl
 ·refine J 9 ?_
  refine .p (.ix at_.toNat rfl rfl (by omega) (by omega)) ?_
  refine J 4 ?_
  refine .aP rfl rfl fun w s=>⟨(),?_,trivial,aj .auto s⟩
  rw[if_pos (by omega)]
end Go.SLYthncobnjdhjnoaaGreat
namespace Go.SLYthncobnjdhjnoaaGreat
open Go Go.RowKit Go.Proofs Go.Proofs.Tryz
theorem E3{W:World}{b:Nat}{f:gZ}{v:Value}{m:List Int}{i:Ins}(hI:mi i)(hF:AI f)(hl:m.length≤1000000):BQ Tryz.prog W 173 [ptr b,.agg (dO i).toArray] [arr b 0 (tg f v),sl ey 1 v m] Unit (fun _=>doEnd 258 (kO f m i)) (fun _=>True) (fun _=>JW b v (kO f m i)):=by
 refine BQ.intro (N:=127) func173 rfl ntmps173 rfl fun F=>?_
 show aq _ _ _ _ _ _ [arr b 0 (tg f v),sl ey 1 v m,F]
 have hia:=hI.a
 have hib:=hI.b
 have hic:=hI.c
 have hin:=hI.n
 have hpc:=hF.pc
 refine J 2 ?_
 refine .ai rfl (ab.box rfl rfl rfl) ?_
 rintro _ _ ⟨b3,rfl,rfl⟩
 refine .mem (H':=[arr b3 0 (dO i),arr b 0 (tg f v),sl ey 1 v m,F]) (fun w s=>s) ?_
 refine J 9 ?_
 refine .p (.add rfl rfl (by omega)) ?_
 refine J 3 ?_
 refine .yD (X:=List Int×Int×List Int) [4,5,6,7,8,9,10,11,18,19,20,21,22,23,24,25,26,27,28,29,30,31,32,33,34,35,36,37,38,39,40,41,42,43,44,45,46,47,48,49,50,51,52,53,54,55,56,57,58,59,60,61,62,63,64,65,66,67,68,69,70,71,72,73,74,75,76,77,78,79,80,81,82,83,84,85,86,87,88,89,90,91,92,93,94,95,96,97,98,99,100,101,102,103,104,105,106,107,108,109,110,111,112,113,114,115,116,117,118,119,120,121] (fun z=>kO f m i=some (⟨f.fn,z.2.1,z.1⟩,z.2.2)) (fun z=>[(4,some (.int .i64 z.2.1))]) (fun z=>[arr b 0 (tg ⟨f.fn,f.pc,z.1⟩ v),sl ey 1 v z.2.2,F]) ?_ ?_
 ·refine JD 9 (fun h48=>?_) fun h48=>?_
  ·refine J 3 ?_
   refine .p (.gm underlying86 underlying3 rfl (by have:=hI.j (.inl h48);omega)) ?_
   refine J 3 ?_
   refine .hP (f.aD,i.n,m) .auto ?_ ?_ ?_
   ·unfold kO;rw[if_pos h48]
   ·exact⟨rfl,trivial⟩
   ·exact fun w s=>au.kept .auto w s
  ·refine JD 8 (fun h55=>?_) fun h55=>?_
   ·refine J 5 ?_
    refine .c call194 rfl (fj hI.a) fun _ _=>?_
    refine J 1 ?_
    refine .p (.ld rfl (Cell.a (k8 (by omega)))) ?_
    refine JD 3 (fun h65=>?_) fun h65=>?_
    ·refine J 3 ?_
     refine .p (.gm underlying86 underlying3 rfl (by have:=hI.j (.inr h55);omega)) ?_
     refine J 3 ?_
     refine .hP (f.aD,i.n,m) .auto ?_ ?_ ?_
     ·unfold kO;rw[if_neg h48,if_pos h55,if_pos (show f.q9 i.a=0 from h65)]
     ·exact⟨rfl,trivial⟩
     ·exact fun w s=>au.kept .auto w s
    ·refine J 2 ?_
     refine .hP (f.aD,f.pc+1,m) .auto ?_ ?_ ?_
     ·unfold kO;rw[if_neg h48,if_pos h55,if_neg (show ¬f.q9 i.a=0 from h65)]
     ·exact⟨rfl,trivial⟩
     ·exact fun w s=>au.kept .auto w s
   ·refine JD 8 (fun h69=>?_) fun h69=>?_
    ·refine .draw [arr b3 0 (dO i)] [1,1,1,2,0,0,1,3] rfl (by kernel_rfl) ?_
     refine J 3 ?_
     refine .c2 call194 rfl (fj hI.a) fun _ _=>?_
     refine J 3 ?_
     refine .d3 rfl (ab.st sizeOf86 rfl rfl rfl (Nat.blt_eq.mpr (by show 2+i.a.toNat<11;omega))) ?_
     rintro _ _ ⟨rfl,rfl⟩
     rw[y8 _ (show i.a.toNat<8 by omega) hF.l]
     refine J 2 ?_
     refine .hP (f.aD.set i.a.toNat i.n,f.pc+1,m) .auto ?_ ?_ ?_
     ·unfold kO;rw[if_neg h48,if_neg h55,if_pos h69];rfl
     ·exact⟨rfl,trivial⟩
     ·exact fun w s=>au.kept .auto w s
    ·refine JD 8 (fun h80=>?_) fun h80=>?_
     ·refine J 1 ?_
      refine .draw [arr b3 0 (dO i)] [1,1,1,2,0,0,0,3,1,1] rfl (by kernel_rfl) ?_
      refine J 3 ?_
      refine .c2 call194 rfl (fj hI.a) fun _ _=>?_
      refine J 3 ?_
      refine .c call194 rfl (fj hI.b) fun _ _=>?_
      refine J 9 ?_
      refine .p (.ld rfl (Cell.a (k8 (by omega)))) ?_
      refine .IY rfl call195 rfl (mV (f:=f) (m:=m) (at_:=f.aD.getD i.b.toNat 0) (hF.r _).1 hl) .auto (fun _ h=>by split at h <;> cases h) ?_ ?_
      ·rintro⟨⟩ u e -
       have hlt:f.aD.getD i.b.toNat 0<m.length:=Decidable.byContradiction fun hn=>by
        rw[if_neg hn] at e
        cases e
       rw[if_pos hlt] at e
       cases e
       have h0:=(hF.r i.b.toNat).1
       refine J 1 ?_
       refine .p (.ld rfl (Cell.G0 Rd.s (getD_some (d:=(0:Int)) (show(f.aD.getD i.b.toNat 0).toNat<m.length by omega)) (by rfl))) ?_
       refine J 1 ?_
       refine .ai rfl (ab.st sizeOf86 rfl rfl rfl (Nat.blt_eq.mpr (by show 2+i.a.toNat<11;omega))) ?_
       rintro _ _ ⟨rfl,rfl⟩
       rw[y8 _ (show i.a.toNat<8 by omega) hF.l]
       refine J 2 ?_
       refine .hP (f.aD.set i.a.toNat (m.getD (f.aD.getD i.b.toNat 0).toNat 0),f.pc+1,m) .auto ?_ ?_ ?_
       ·unfold kO;rw[if_neg h48,if_neg h55,if_neg h69,if_pos h80,if_pos (show f.q9 i.b<m.length from hlt)];rfl
       ·exact⟨rfl,trivial⟩
       ·exact fun w s=>au.kept .auto w s
      ·rintro⟨⟩ c e -
       have hge:¬f.aD.getD i.b.toNat 0<m.length:=fun h=>by
        rw[if_pos h] at e
        cases e
       rw[if_neg hge] at e
       cases e
       have hz:kO f m i=none:=by
        unfold kO;rw[if_neg h48,if_neg h55,if_neg h69,if_pos h80,if_neg (show ¬f.q9 i.b<m.length from hge)]
       rw[hz]
       refine fun a w ha s=>And.intro ha.defers (Exists.intro () (And.intro ?_ (And.intro trivial (aj .auto s))))
       rfl
     ·refine JD 8 (fun h101=>?_) fun h101=>?_
      ·refine J 1 ?_
       refine .draw [arr b3 0 (dO i)] [1,1,1,2,0,0,0,3,1,1] rfl (by kernel_rfl) ?_
       refine J 3 ?_
       refine .c2 call194 rfl (fj hI.a) fun _ _=>?_
       refine J 3 ?_
       refine .c call194 rfl (fj hI.b) fun _ _=>?_
       refine J 4 ?_
       rcases Nat.lt_or_ge (f.aD.getD i.a.toNat 0).toNat m.length with hlt | hge
       ·have h0:=(hF.r i.a.toNat).1
        refine .draw [arr b 0 (tg f v)] [1,1,1,1,2,0,0,0,1,3] rfl (by kernel_rfl) ?_
        refine J 3 ?_
        refine .p (.ld rfl (Cell.a (k8 (by omega)))) ?_
        refine .c2 call195 rfl (BQ.ok (fun _=>.pointer (some ⟨blk v,dJ v+(f.aD.getD i.a.toNat 0).toNat * 1,none⟩)) (mV (f:=f) (m:=m) (at_:=f.aD.getD i.a.toNat 0) (hF.r _).1 hl) (fun _=>if_pos (by omega))) fun _ _=>?_
        refine J 2 ?_
        refine .q (.ld rfl (Cell.a (k8 (by omega)))) ?_
        refine J 1 ?_
        refine .d3 rfl (ab.ew (x':=f.aD.getD i.b.toNat 0) rfl rfl sizeOf86 rfl (getD_some (d:=(0:Int)) hlt) (by decide) rfl .auto) ?_
        rintro _ _ ⟨rfl,rfl⟩
        refine J 2 ?_
        refine .hP (f.aD,f.pc+1,m.set (f.aD.getD i.a.toNat 0).toNat (f.aD.getD i.b.toNat 0)) .auto ?_ ?_ ?_
        ·unfold kO;rw[if_neg h48,if_neg h55,if_neg h69,if_neg h80,if_pos h101,if_pos (show f.q9 i.a<m.length by show f.aD.getD i.a.toNat 0<_;omega)];rfl
        ·exact⟨rfl,trivial⟩
        ·exact fun w s=>au.kept .auto w s
       ·have h0:=(hF.r i.a.toNat).1
        refine .held [arr b 0 (tg f v)] rfl ?_
        refine AH.take 0 rfl (by kernel_rfl) (by kernel_rfl) (by kernel_rfl) (fun _ _ _ _ _ h=>h) rfl Kept.auto (Y.m rfl) ?_
        refine AH.take 1 rfl (by kernel_rfl) (by kernel_rfl) (by kernel_rfl) (fun _ _ _ _ _ h=>h) rfl Kept.auto (Y.m rfl) ?_
        refine AH.take 2 rfl (by kernel_rfl) (by kernel_rfl) (by kernel_rfl) (fun _ _ _ _ _ h=>h) rfl Kept.auto (Y.n rfl) ?_
        refine AH.take 3 rfl (by kernel_rfl) (by kernel_rfl) (by kernel_rfl) (fun _ _ _ _ _ h=>h) rfl Kept.auto (Y.load isAgg86 rfl (Cell.a (k8 (by omega)))) ?_
        refine AH.take 5 rfl (by kernel_rfl) (by kernel_rfl) (by kernel_rfl) (fun _ _ _ _ _ h=>h) rfl Kept.auto (Y.m rfl) ?_
        refine AH.take 6 rfl (by kernel_rfl) (by kernel_rfl) (by kernel_rfl) (fun _ _ _ _ _ h=>h) rfl Kept.auto (Y.n rfl) ?_
        refine AH.take 7 rfl (by kernel_rfl) (by kernel_rfl) (by kernel_rfl) (fun _ _ _ _ _ h=>h) rfl Kept.auto (Y.load isAgg86 rfl (Cell.a (k8 (by omega)))) ?_
        refine AH.I1 4 rfl (by kernel_rfl) call195 rfl (mV (f:=f) (m:=m) (at_:=f.aD.getD i.a.toNat 0) (hF.r _).1 hl) .auto ?_ ?_
        ·exact fun _=>⟨_,if_neg (by omega)⟩
        rintro⟨⟩ c e -
        rw[if_neg (by omega)] at e
        cases e
        have hz:kO f m i=none:=by
         unfold kO;rw[if_neg h48,if_neg h55,if_neg h69,if_neg h80,if_pos h101,if_neg (show ¬f.q9 i.a<m.length by show ¬f.aD.getD i.a.toNat 0<_;omega)]
        rw[hz]
        refine fun a w ha s=>And.intro ha.defers (Exists.intro () (And.intro ?_ (And.intro trivial (aj .auto s))))
        rfl
      ·refine J 1 ?_
       refine .draw [arr b3 0 (dO i),arr b 0 (tg f v)] [1,1,1,2,0,0,0,3,1,1,1,1,1] rfl (by kernel_rfl) ?_
       refine J 3 ?_
       refine .c2 call194 rfl (fj hI.a) fun _ _=>?_
       refine J 3 ?_
       refine .c call194 rfl (fj hI.b) fun _ _=>?_
       refine J 1 ?_
       refine .p (.ld rfl (Cell.a (k8 (by omega)))) ?_
       refine J 5 ?_
       refine .yD (X:=Unit) [11,28,29,30,31,32,33,34,35,36,37] (fun _=>True) (fun _=>[(11,some (.int .u64 (if oJ i.op=true then 0 else f.q9 i.c)))]) (fun _=>[arr b3 0 (dO i),arr b 0 (tg f v),sl ey 1 v m,F]) ?_ ?_
       ·refine J 4 ?_
        refine .c call196 rfl xR fun _ _=>?_
        refine JD 3 (fun h31=>?_) fun h31=>?_
        ·refine J 4 ?_
         refine .c call194 rfl (fj hI.c) fun _ _=>?_
         refine J 1 ?_
         refine .p (.ld rfl (Cell.a (k8 (by omega)))) ?_
         refine J 2 ?_
         refine .hP () .auto ?_ ?_ ?_
         ·trivial
         ·rw[if_neg (show ¬oJ i.op=true by rw[Bool.not_eq_true'] at h31;rw[h31];simp)];exact⟨rfl,trivial⟩
         ·exact fun w s=>au.kept .auto w s
        ·refine J 1 ?_
         refine .hP () .auto ?_ ?_ ?_
         ·trivial
         ·rw[if_pos (show oJ i.op=true by simpa using h31)];exact⟨rfl,trivial⟩
         ·exact fun w s=>au.kept .auto w s
       ·rintro⟨⟩ -
        obtain⟨y,hy⟩:∃ y,y=(if oJ i.op=true then 0 else f.q9 i.c):=⟨_,rfl⟩
        have hy0:0≤y:=by
         subst hy
         split
         ·exact Int.le_refl _
         ·exact(hF.r _).1
        rw[← hy]
        refine J 6 ?_
        refine .c call197 rfl (xS (hF.r _).1 hy0) fun t38 _=>?_
        refine J 1 ?_
        refine .p (.extract (v:=.int .u64 (bZ i.op (f.aD.getD i.b.toNat 0) y)) rfl rfl) ?_
        refine J 2 ?_
        refine .ai rfl (ab.st sizeOf86 rfl rfl rfl (Nat.blt_eq.mpr (by show 2+i.a.toNat<11;omega))) ?_
        rintro _ _ ⟨rfl,rfl⟩
        rw[y8 _ (show i.a.toNat<8 by omega) hF.l]
        refine J 2 ?_
        refine .hP (f.aD.set i.a.toNat (bZ i.op (f.aD.getD i.b.toNat 0) y),f.pc+1,m) .auto ?_ ?_ ?_
        ·unfold kO;rw[if_neg h48,if_neg h55,if_neg h69,if_neg h80,if_neg h101];subst hy;rfl
        ·exact⟨rfl,trivial⟩
        ·exact fun w s=>au.kept .auto w s
 ·rintro⟨rs,nx,m2⟩ hz
  simp only at hz
  refine J 8 ?_
  rw[hz]
  exact JR 0 ()
theorem Cp{W:World}{p6 p7 p8:Nat}{Hs:List aa}{w:World}(hs:Sat W w (seps Hs)):CallsD Tryz.prog 172 #[ptr p6,ptr p7,ptr p8] .returning w (fun e u2 w2=>u2 = .returning∧e = .returned (.tuple #[])∧Sat W w2 (seps Hs)):=by
 refine k9 (d:=6) (N:=15) (v:=.nilIface) (u2:=.returning) (args:=[ptr p6,ptr p7,ptr p8]) func172 rfl ntmps172 rfl rfl rfl (fun c cs hc=>.inr ⟨by simp[recoverD,hc],rfl,rfl⟩) hs ?_
 refine J 3 ?_
 refine .p (.I4 underlying20 rfl) ?_
 refine J 2 ?_
 refine .eM rfl ?_
 refine J 4 ?_
 refine .I6 fun w s=>⟨rfl,rfl,?_⟩
 first | exact s | exact au.kept .auto _ s
theorem Cq{W:World}{p6 p7 p8:Nat}{F:aa}{w:World}(hs:Sat W w (seps [arr p6 0 (gU gZ.z),arr p7 0 [.slice none 0 0],arr p8 0 [.int .i64 0],F])):CallsD Tryz.prog 172 #[ptr p6,ptr p7,ptr p8] (.panicking (tm 258 6)) w (fun e u2 w2=>u2 = .panicking [{v:=.iface 258 (.agg #[.int .i64 6]),recovered:=true }]∧e = .returned (.tuple #[])∧Sat W w2 (seps [arr p6 0 (gU gZ.z),arr p7 0 [.slice none 0 0],arr p8 0 [.int .i64 6],F])):=by
 refine k9 (d:=6) (N:=15) (v:=.iface 258 (.agg #[.int .i64 6])) (u2:=.panicking [{v:=.iface 258 (.agg #[.int .i64 6]),recovered:=true }]) (args:=[ptr p6,ptr p7,ptr p8]) func172 rfl ntmps172 rfl rfl rfl (fun c cs hc=>.inl (by simp[recoverD,hc,tm])) hs ?_
 refine J 3 ?_
 refine .p (.I5 underlying20 rfl) ?_
 refine J 2 ?_
 refine .eN rfl ?_
 refine J 2 ?_
 refine .p (.Ga (r:=.tuple #[.agg #[.int .i64 6],.bool true]) rfl (fun w=>by simp[Instr.typeAssert,run_underlying underlying258])) ?_
 refine .p (.extract (v:=.bool true) rfl rfl) ?_
 refine .p (.extract (v:=.agg #[.int .i64 6]) rfl rfl) ?_
 refine J 2 ?_
 refine .eM rfl ?_
 refine J 2 ?_
 refine .ai rfl (ab.alloc rfl zeroValue258 rfl) ?_
 rintro _ _ ⟨b4,rfl,rfl⟩
 refine J 3 ?_
 refine .draw [arr b4 0 [.int .i64 6]] [1,0,0,2,2,3] rfl (by kernel_rfl) ?_
 refine .p (.l9 ([(.int .i64 0),(.int .i64 0),(.int .u64 0),(.int .u64 0),(.int .u64 0),(.int .u64 0),(.int .u64 0),(.int .u64 0),(.int .u64 0),(.int .u64 0)]) (by kernel_rfl)) ?_
 refine J 2 ?_
 refine .d2 rfl Kept.auto (ab.gC (by exact sizeOf141) rfl rfl rfl (by rfl)) (by rintro _ _ ⟨rfl,rfl⟩;exact Kept.auto) ?_
 rintro _ _ ⟨rfl,rfl⟩
 refine J 4 ?_
 refine .I6 fun w s=>⟨rfl,rfl,?_⟩
 first | exact s | exact au.kept .auto _ s
theorem zL{W:World}{p6 p7 p8:Nat}{R:List aa}{w:World}(hs:Sat W w (seps ([arr p6 0 (gU gZ.z),arr p7 0 [.slice none 0 0],arr p8 0 [.int .i64 0]]++R))):CallsD Tryz.prog 172 #[ptr p6,ptr p7,ptr p8] (.panicking (tm 258 6)) w (fun e u2 w2=>u2 = .panicking [{v:=.iface 258 (.agg #[.int .i64 6]),recovered:=true }]∧e = .returned (.tuple #[])∧Sat W w2 (seps ([arr p6 0 (gU gZ.z),arr p7 0 [.slice none 0 0],arr p8 0 [.int .i64 6]]++R))) :=
 (Cq (F:=seps R) (hs.eq (by rw[ah];simp only[seps,aH,aN]))).mono fun _ _ _ ⟨a,b,c⟩=>⟨a,b,c.eq (by rw[ah];simp only[seps,aH,aN])⟩
theorem xU{W:World}{A:aa}{f:gZ}{i:Ins}{v:Value}{m:List Int}(hr:Rd W [A] ey 1 v m)(hl:m.length≤1000000)(hI:mi i)(hF:AI f)(hc:cls i.op=1):Fn Tryz.prog W 153 [.agg (gU f).toArray,.agg (dO i).toArray,v] [A] Value (fun u=>.tuple #[.agg (gU (ft f m i).1).toArray,u,.int .i64 (ft f m i).2.2]) (fun _=>True) (fun u=>[sl ey 1 u (ft f m i).2.1,A]):=by
 refine Fn.HU (N:=39) func153 rfl ntmps153 rfl fun F=>?_
 haveI hRI:∀ (H:List aa) [bE H A],aG W H v ey 1 m:=fun H h=>⟨hr.at h.has⟩
 show aq _ _ _ _ _ _ [A,F]
 refine J 2 ?_
 refine .ai rfl (ab.box rfl rfl rfl) ?_
 rintro _ _ ⟨b3,rfl,rfl⟩
 refine .mem (H':=[arr b3 0 (gU f),A,F]) (fun w s=>s) ?_
 refine .ai rfl (ab.box rfl rfl rfl) ?_
 rintro _ _ ⟨b4,rfl,rfl⟩
 refine .mem (H':=[arr b4 0 (dO i),arr b3 0 (gU f),A,F]) (fun w s=>s) ?_
 refine .ai rfl (ab.alloc rfl zeroValue141 rfl) ?_
 rintro _ _ ⟨b6,rfl,rfl⟩
 refine .ai rfl (ab.alloc rfl zeroValue108 rfl) ?_
 rintro _ _ ⟨b7,rfl,rfl⟩
 refine .ai rfl (ab.alloc rfl zeroValue25 rfl) ?_
 rintro _ _ ⟨b8,rfl,rfl⟩
 refine J 7 ?_
 refine .c call110 rfl ko fun _ _=>?_
 refine JD 3 (fun h13=>?_) fun h13=>?_
 ·exact absurd hc h13
 ·refine J 4 ?_
  refine .p (.makeFunc rfl rfl) ?_
  refine .HL rfl ?_
  refine fh.nil ?_
  refine re.gO ?_
  refine j9.seq ?_
  refine j9.draw [arr b3 0 (gU f),A] [0,1,1,2,1,3,1] rfl (by kernel_rfl) ?_
  refine eU.k rfl Kept.auto (Y.Db isAgg141 rfl Cells.a (by exact sizeOf141)) ?_
  refine eU.s rfl (Y.m rfl) ?_
  refine eU.s rfl (Y.C7 underlying108 rfl Rd.s) ?_
  refine eU.d2 rfl Kept.auto (ab.Bu (enc:=ey) (k:=1) 0 m.length rfl underlying108 typeInfo86 rfl rfl rfl rfl (by decide) (by decide) rfl rfl rfl rfl (by omega)) (by rintro _ _ ⟨b19,rfl,rfl⟩;exact Kept.auto) ?_
  rintro _ _ ⟨b19,rfl,rfl⟩
  refine eU.s rfl (Y.fW (fun _ v2=>tg f v2) rfl rfl (by kernel_rfl)) ?_
  refine eU.d3 rfl (ab.box rfl rfl rfl) ?_
  rintro _ _ ⟨b21,rfl,rfl⟩
  refine eU.s rfl (Y.a rfl) ?_
  refine eU.nil ?_
  refine re.gO ?_
  refine j9.seq ?_
  refine j9.region ?_
  refine fh.y rfl (Y.m rfl) ?_
  refine fh.y rfl (Y.n rfl) ?_
  refine fh.y rfl (Y.dV 10 108 underlying261 rfl sizeOf108 rfl) ?_
  refine fh.y rfl (Y.load isAgg108 rfl (Cell.a (by rfl))) ?_
  refine fh.y rfl (Y.m rfl) ?_
  refine fh.ai rfl (ab.Gb rfl underlying108 sizeOf86 rfl rfl Rd.s .auto (by simp) rfl (wD _)) ?_
  rintro _ _ ⟨rfl,rfl⟩
  refine fh.nil ?_
  refine re.gO ?_
  refine j9.seq ?_
  refine j9.region ?_
  refine fh.y rfl (Y.m rfl) ?_
  refine fh.y rfl (Y.Db isAgg88 rfl Cells.a (by exact sizeOf88)) ?_
  refine fh.HM (fun d h=>by cases h;rfl) call173 rfl (E3 (f:=f) (v:=.slice (some ⟨b19,0,none⟩) m.length m.length) (m:=m) (i:=i) hI hF hl) .auto (fun _ h=>by unfold doEnd at h;split at h <;> cases h) ?_ ?_
  ·rintro⟨⟩ u e -
   obtain⟨z,hz⟩:∃ z,kO f m i=some z:=by
    cases h:kO f m i with
    | none=>rw[h] at e;cases e
    | some z=>exact⟨z,rfl⟩
   rw[hz] at e
   cases e
   rw[show JW b21 (.slice (some ⟨b19,0,none⟩) m.length m.length) (kO f m i)=[arr b21 0 (tg z.1 (.slice (some ⟨b19,0,none⟩) m.length m.length)),sl ey 1 (.slice (some ⟨b19,0,none⟩) m.length m.length) z.2] from by rw[hz];rfl]
   refine fh.nil ?_
   refine re.gO ?_
   refine j9.seq ?_
   refine j9.draw [arr b21 0 (tg z.1 (.slice (some ⟨b19,0,none⟩) m.length m.length))] [1,1,1,1,0,0,0,0,2,3,3] rfl (by kernel_rfl) ?_
   refine eU.s rfl (Y.m rfl) ?_
   refine eU.s rfl (Y.n rfl) ?_
   refine eU.s rfl (Y.fF 141 underlying261 rfl sizeOf141 rfl) ?_
   refine eU.s rfl (Y.Db isAgg141 rfl (Cells.kT (ds:=gU z.1) Cells.a rfl) (by exact sizeOf141)) ?_
   refine eU.k rfl Kept.auto (Y.m rfl) ?_
   refine eU.k rfl Kept.auto (Y.n rfl) ?_
   refine eU.k rfl Kept.auto (Y.dV 10 108 underlying261 rfl sizeOf108 rfl) ?_
   refine eU.k rfl Kept.auto (Y.load isAgg108 rfl (Cell.a (by rfl))) ?_
   refine eU.d2 rfl Kept.auto (ab.gC (by exact sizeOf141) rfl rfl rfl (by rfl)) (by rintro _ _ ⟨rfl,rfl⟩;exact Kept.auto) ?_
   rintro _ _ ⟨rfl,rfl⟩
   refine eU.d3 rfl (ab.ng sizeOf108 rfl rfl rfl) ?_
   rintro _ _ ⟨rfl,rfl⟩
   refine eU.d3 rfl (ab.st sizeOf25 rfl rfl rfl rfl) ?_
   rintro _ _ ⟨rfl,rfl⟩
   refine eU.nil ?_
   refine re.gO ?_
   refine j9.ret ?_
   refine fun a w ha s=>?_
   show Leaves Tryz.prog Tryz.f153 a.tmps _ a.defers .returning w
   rw[ha.defers]
   refine leaves_cons (by intro h;cases h) (by simp[invoke,call172]) ((Cp (p6:=b6) (p7:=b7) (p8:=b8) s).mono ?_)
   rintro e2 u2 w2 ⟨rfl,rfl,s2⟩
   exact⟨_,(tn ha s2 rfl rfl rfl rfl isAgg141 (by exact sizeOf141) isAgg108 isAgg25 Cells.a (Cell.a rfl) (Cell.a rfl)),.slice (some ⟨b19,0,none⟩) m.length m.length,by rw[ft,hz],trivial,by rw[ft,hz];exact aj .auto s2⟩
  ·rintro⟨⟩ c e -
   have hz:kO f m i=none:=by
    cases h:kO f m i with
    | none=>rfl
    | some z=>rw[h] at e;cases e
   rw[hz] at e
   cases e
   rw[show JW b21 (.slice (some ⟨b19,0,none⟩) m.length m.length) (kO f m i)=[] from by rw[hz];rfl]
   refine fun a w ha s=>?_
   show Leaves Tryz.prog Tryz.f153 a.tmps _ a.defers (.panicking (tm 258 6)) w
   rw[ha.defers]
   have s1:=au.sat (As:=[arr b6 0 (gU gZ.z),arr b7 0 [.slice none 0 0],arr b8 0 [.int .i64 0]]) .auto s
   refine leaves_cons (by intro h;cases h) (by simp[invoke,call172]) ((zL (p6:=b6) (p7:=b7) (p8:=b8) s1).mono ?_)
   rintro e2 u2 w2 ⟨rfl,rfl,s2⟩
   exact⟨_,(tn ha s2 rfl rfl rfl rfl isAgg141 (by exact sizeOf141) isAgg108 isAgg25 Cells.a (Cell.a rfl) (Cell.a rfl)),.slice none 0 0,by rw[ft,hz],trivial,by rw[ft,hz];exact aj .auto s2⟩
end Go.SLYthncobnjdhjnoaaGreat
namespace Go.SLYthncobnjdhjnoaaGreat
open Go Go.RowKit Go.Proofs Go.Proofs.Tryz
attribute [local irreducible] aq aJ ba bq bu Y
theorem jJ{W:World}{bd b p q:Nat}{ps:List (Option Nat)}{d:Dng}{t:bA}{n:Int}(h0:0≤n)(hp:ps[n.toNat]?=some (some q))(ht:d.s.aA[n.toNat]?=some (some t))(hn16:n.toNat<16)(hR:gk t)(he:d.ends.length≤1000000)(hw:d.out.aw.length≤1000000){y:Int}:Fn Tryz.prog W 152 [ptr bd,.int .i64 n,.int .u64 y] [bc bd b p ps d] Unit (fun _=>.tuple #[]) (fun _=>True) (fun _=>[bc bd b p ps (d.cB n.toNat y)]):=by
 have:=EZ (W:=W) (bd:=bd) (b:=b) (p:=p) hp ht hn16 hR he hw (y:=y)
 rwa [show((n.toNat:Nat):Int)=n from by omega] at this
theorem qv{W:World}{bd b p:Nat}{ps:List (Option Nat)}{d:Dng}{t:bA}(hp:ps[d.n]?=some (some p))(ht:d.s.aA[d.n]?=some (some t)){v:Int}(hl:d.s.aA.length=16)(hpl:ps.length=16)(hT:iq d.s.table)(hR:gk t)(he:d.ends.length≤1000000)(hw:d.out.aw.length≤1000000)(hj:¬t.av = -1→0≤t.av∧t.av.toNat≠d.n∧bC ps d.s t.av.toNat):Fn Tryz.prog W 134 [ptr bd,.int .u64 v] [bc bd b p ps d] (List (Option Nat)) (fun _=>.tuple #[]) (fun _=>True) (fun qs=>[bc bd b p qs (d.fin v)]):=by
 refine Fn.intro (N:=66) func134 rfl ntmps134 rfl fun F=>?_
 show aq _ _ _ _ _ _ [bc bd b p ps d,F]
 refine .o2 (C:=bc bd b p ps d) .auto rfl ?_
 rintro vw ve -
 refine .iQ (C:=cn b ps d.s) .auto rfl ?_
 rintro fv sv pv bt vm bg vt bk bw vr -
 refine .fr .auto (bN hp ht) ?_
 refine J 7 ?_
 rw[B1]
 refine JD 15 (fun h21=>?_) fun h21=>?_
 ·refine .to (A:=ax ps d.s.aA) (Bs:=[arr p 0 (bb t),ax (ps.set d.n none) (d.s.aA.set d.n none)]) .auto (bH hp ht) ?_
  refine .draw [arr bd 0 (dH b p (d.ended) vw ve)] [1,1,1,1,1,1,1,1,3] rfl (by kernel_rfl) ?_
  refine J 8 ?_
  refine .c call151 rfl (lZ hp ht hl hpl hT hR.h.1) fun _ _=>?_
  refine J 2 ?_
  rw[AP ht h21]
  refine .Bn rfl fun w s=>⟨ps.set d.n none,?_,trivial,aj .auto s⟩
  rfl
 ·refine JD 13 (fun h38=>?_) fun h38=>?_
  ·refine J 11 ?_
   obtain⟨hj0,hjn,hj16,q,tj,hq,htj,hRj⟩:=hj h38
   refine .to (A:=ax ps d.s.aA) (Bs:=[arr p 0 (bb t),ax (ps.set d.n none) (d.s.aA.set d.n none)]) .auto (bH hp ht) ?_
   refine .c call152 rfl (jJ (d:=d.ended) hj0 hq htj hj16 hRj he hw) fun _ _=>?_
   refine .o2 (C:=bc bd b p ps (d.ended.cB t.av.toNat v)) .auto rfl ?_
   rintro vw ve -
   have ht2:(d.ended.cB t.av.toNat v).s.aA[d.n]?=some (some t):=D4 ht hjn
   refine J 2 ?_
   refine .draw [arr bd 0 (dH b p (d.ended.cB t.av.toNat v) vw ve)] [1,1,1,1,1,1,1,1,3] rfl (by kernel_rfl) ?_
   refine J 8 ?_
   refine .c call151 rfl (lZ (s:=(d.ended.cB t.av.toNat v).s) hp ht2 (by simp[Dng.cB,Spc.dx,Spc.aT,Dng.ended,hl]) hpl hT hR.h.1) fun _ _=>?_
   refine J 2 ?_
   rw[xi ht h21 h38]
   refine .Bn rfl fun w s=>⟨ps.set d.n none,?_,trivial,aj .auto s⟩
   rfl
  ·have h38:t.av = -1:=Decidable.byContradiction h38
   refine .draw [arr bd 0 (dH b p (d.ended) vw ve)] [1,1,1,1,1,1,1,1,0,1,1,2,1,1,3] rfl (by kernel_rfl) ?_
   refine J 12 ?_
   rw[nO]
   refine J 3 ?_
   rw[B0]
   refine J 2 ?_
   rw[xh ht h21 h38]
   refine .to (A:=ax ps (d.s.aA.set d.n (some ({t with cE:=9,value:=v })))) (Bs:=[arr p 0 (bb ({t with cE:=9,value:=v })),ax (ps.set d.n none) (d.s.aA.set d.n none)]) .auto (cq (List.getElem?_eq_some_iff.1 ht).1 hp) ?_
   exact JR 0 ps
theorem oY{W:World}{bd b p:Nat}{ps:List (Option Nat)}{d:Dng}{n:Int}{ok:Bool}(hg:ok=true→0≤n∧bC ps d.s n.toNat)(he:d.ends.length≤1000000)(hw:d.out.aw.length≤1000000):Fn Tryz.prog W 179 [ptr bd,.int .i64 n,.bool ok] [bc bd b p ps d] Unit (fun _=>.tuple #[]) (fun _=>True) (fun _=>[bc bd b p ps (d.given n ok)]):=by
 refine Fn.intro (N:=10) func179 rfl ntmps179 rfl fun F=>?_
 show aq _ _ _ _ _ _ [bc bd b p ps d,F]
 refine JD 5 (fun h6=>?_) fun h6=>?_
 ·refine J 1 ?_
  obtain⟨h0,hn16,q,t,hq,ht,hR⟩:=hg h6
  refine J 2 ?_
  refine .c call152 rfl (jJ h0 hq ht hn16 hR he hw) fun _ _=>?_
  refine J 1 ?_
  rw[show d.given n ok=d.cB n.toNat 0 from by unfold Dng.given;rw[if_pos h6]]
  exact JR 0 ()
 ·refine J 1 ?_
  rw[show d.given n ok=d from by unfold Dng.given;rw[if_neg (by rw[h6];simp)]]
  exact JR 0 ()
theorem Cr{W:World}{bd b p:Nat}{ps:List (Option Nat)}{d:Dng}{t:bA}(hp:ps[d.n]?=some (some p))(ht:d.s.aA[d.n]?=some (some t))(hI:mi d.i)(hF:AI t.lU)(hc:cls d.i.op=1)(hm:d.s.mem.length≤1000000)(hr:d.s.aB.length≤100000000)(hl:d.s.aA.length=16)(hpl:ps.length=16)(hT:iq d.s.table)(hR:gk t)(he:d.ends.length≤1000000)(hw:d.out.aw.length≤1000000)(hj:¬t.av = -1→0≤t.av∧t.av.toNat≠d.n∧bC ps d.s t.av.toNat):Fn Tryz.prog W 135 [ptr bd] [bc bd b p ps d] (List (Option Nat)) (fun _=>.tuple #[]) (fun _=>True) (fun qs=>[bc bd b p qs d.plain]):=by
 refine Fn.intro (N:=124) func135 rfl ntmps135 rfl fun F=>?_
 show aq _ _ _ _ _ _ [bc bd b p ps d,F]
 refine .o2 (C:=bc bd b p ps d) .auto rfl ?_
 rintro vw ve -
 refine .iQ (C:=cn b ps d.s) .auto rfl ?_
 rintro fv sv pv bt vm bg vt bk bw vr -
 refine .fr .auto (bN hp ht) ?_
 have hIa:=hI.a
 have hIb:=hI.b
 have hb:d.b=t.aD.getD d.i.b.toNat 0:=by unfold Dng.b;rw[cP ht];rfl
 have ha:d.a=t.aD.getD d.i.a.toNat 0:=by unfold Dng.a;rw[cP ht];rfl
 have hbr:=hR.r d.i.b.toNat
 refine J 1 ?_
 refine .draw [] [1,1,1,1,1,1,1,1,1,1,1,1,1,1,1,1,1,1,1,1,1,1,1,1,1,1,1,1,1,1] rfl (by kernel_rfl) ?_
 refine J 12 ?_
 refine .p (.dh d.i.a.toNat underlying139 sizeOf86 rfl rfl (by omega) (by omega)) ?_
 refine .p (.ld rfl (Cell.a (lV (by omega)))) ?_
 refine J 12 ?_
 refine .p (.dh d.i.b.toNat underlying139 sizeOf86 rfl rfl (by omega) (by omega)) ?_
 refine .p (.ld rfl (Cell.a (lV (by omega)))) ?_
 refine J 5 ?_
 refine .qM [arr bd 0 (dH b p d vw ve),arr b 0 (eR fv sv pv d.s.eE bt ps vm bg vt bk bw vr),arr p 0 (bb t),sl ey 1 vm d.s.mem] [0,0,0,0,0,0,0,0,0,0,0,0,0,0,0,0,0,0,2,0,0,0,0,4,2,0,0] [0,1,2,3,4,5,6,7,8,9,10,11,12,13,14,15,16,17,18,19,20,21,22,23,24,25,26] rfl (by kernel_rfl) ?_
 refine bu.q rfl rfl rfl Kept.auto (Y.m rfl) ?_
 refine bu.q rfl rfl rfl Kept.auto (Y.n rfl) ?_
 refine bu.q rfl rfl rfl Kept.auto (Y.dV 2 106 underlying230 rfl sizeOf106 rfl) ?_
 refine bu.q rfl rfl rfl Kept.auto (Y.load isAgg106 rfl (Cell.a (by rfl))) ?_
 refine bu.q rfl rfl rfl Kept.auto (Y.n rfl) ?_
 refine bu.q rfl rfl rfl Kept.auto (Y.fF 141 underlying143 rfl sizeOf141 rfl) ?_
 refine bu.q rfl rfl rfl Kept.auto (Y.Db isAgg141 rfl (Cells.kT (ds:=gU t.lU) (Cells.a (cs:=bb t)) rfl) (by exact sizeOf141)) ?_
 refine bu.q rfl rfl rfl Kept.auto (Y.m rfl) ?_
 refine bu.q rfl rfl rfl Kept.auto (Y.n rfl) ?_
 refine bu.q rfl rfl rfl Kept.auto (Y.dV 3 88 underlying230 rfl sizeOf88 rfl) ?_
 refine bu.q rfl rfl rfl Kept.auto (Y.Db isAgg88 rfl (Cells.kT (ds:=dO d.i) (Cells.a (cs:=dH b p d vw ve)) rfl) (by exact sizeOf88)) ?_
 refine bu.q rfl rfl rfl Kept.auto (Y.m rfl) ?_
 refine bu.q rfl rfl rfl Kept.auto (Y.n rfl) ?_
 refine bu.q rfl rfl rfl Kept.auto (Y.fF 54 underlying230 rfl sizeOf54 rfl) ?_
 refine bu.q rfl rfl rfl Kept.auto (Y.load isAgg54 rfl (Cell.a (by rfl))) ?_
 refine bu.q rfl rfl rfl Kept.auto (Y.n rfl) ?_
 refine bu.q rfl rfl rfl Kept.auto (Y.dV 25 108 underlying114 rfl sizeOf108 rfl) ?_
 refine bu.q rfl rfl rfl Kept.auto (Y.load isAgg108 rfl (Cell.a (by rfl))) ?_
 refine bu.dX rfl (.inl rfl) rfl (fun _=>Kept.auto) call153 rfl (xU (A:=sl ey 1 vm d.s.mem) Rd.s hm hI hF hc) .auto (fun _ _=>Kept.auto) ?_
 rintro u5 -
 refine bu.q rfl rfl rfl Kept.auto (Y.m rfl) ?_
 refine bu.q rfl rfl rfl Kept.auto (Y.extract (v:=.agg (gU (ft t.lU d.s.mem d.i).1).toArray) rfl rfl) ?_
 refine bu.q rfl rfl rfl Kept.auto (Y.extract (v:=u5) rfl rfl) ?_
 refine bu.q rfl rfl rfl Kept.auto (Y.extract (v:=.int .i64 (ft t.lU d.s.mem d.i).2.2) rfl rfl) ?_
 refine bu.fresh rfl rfl rfl (by decide) Kept.auto (kV zeroValue141 rfl) ?_
 rintro b4
 refine bu.HW rfl rfl (by exact sizeOf141) rfl rfl rfl (by rfl) Kept.auto Kept.auto ?_
 refine bu.q rfl rfl rfl Kept.auto (Y.a rfl) ?_
 refine bu.q rfl rfl rfl Kept.auto (Y.a rfl) ?_
 refine bu.nil ?_
 refine J 12 ?_
 apply aJ.eT 3 68 65 [65,66,67,68] rfl
 ·intro h65
  exact JS 4
 ·intro h65
  exact JS 4
 refine JD 3 (fun h58=>?_) fun h58=>?_
 ·simp only[Bool.and_eq_true,decide_eq_true_eq] at h58
  obtain⟨h1,h0⟩:=h58
  obtain⟨z,hz⟩:=mG h0
  rw[kc hz]
  have hlt:t.aD.getD d.i.b.toNat 0<d.s.mem.length:=D6 hz h1
  refine J 11 ?_
  refine .p (.sJ (t.aD.getD d.i.b.toNat 0).toNat underlying108 sizeOf86 rfl rfl Rd.s (by omega) (by omega)) ?_
  refine .p (.ld rfl (Cell.G0 Rd.s (getD_some (d:=(0:Int)) (show(t.aD.getD d.i.b.toNat 0).toNat<d.s.mem.length by omega)) (by rfl))) ?_
  refine .to (A:=ax ps d.s.aA) (Bs:=[arr p 0 (bb t),ax (ps.set d.n none) (d.s.aA.set d.n none)]) .auto (bH hp ht) ?_
  refine J 1 ?_
  refine .c call133 rfl (iD hp ht hr) fun _ _=>?_
  refine J 10 ?_
  refine .eN rfl ?_
  refine J 2 ?_
  refine .o2 (C:=bc bd b p ps (d.tell (t.aD.getD d.i.b.toNat 0) (d.s.mem.getD (t.aD.getD d.i.b.toNat 0).toNat 0) 0 true)) .auto rfl ?_
  rintro vw ve -
  refine .iQ (C:=cn b ps (d.tell (t.aD.getD d.i.b.toNat 0) (d.s.mem.getD (t.aD.getD d.i.b.toNat 0).toNat 0) 0 true).s) .auto rfl ?_
  rintro fv sv pv bt vm bg vt bk bw vr -
  refine .fr .auto (bN hp (show(d.tell (t.aD.getD d.i.b.toNat 0) (d.s.mem.getD (t.aD.getD d.i.b.toNat 0).toNat 0) 0 true).s.aA[(d.tell (t.aD.getD d.i.b.toNat 0) (d.s.mem.getD (t.aD.getD d.i.b.toNat 0).toNat 0) 0 true).n]?=some (some t) from ht)) ?_
  refine .draw [arr bd 0 (dH b p (d.tell (t.aD.getD d.i.b.toNat 0) (d.s.mem.getD (t.aD.getD d.i.b.toNat 0).toNat 0) 0 true) vw ve),arr b4 0 (gU z.1)] [1,1,1,1,1,1,1,1,1,0,1,1,2,1,1,3] rfl (by kernel_rfl) ?_
  refine J 12 ?_
  refine .d2 rfl Kept.auto (ab.G3 (vs:=gU z.1) (by exact sizeOf141) rfl rfl rfl rfl) (by rintro _ _ ⟨rfl,rfl⟩;exact Kept.auto) ?_
  rintro _ _ ⟨rfl,rfl⟩
  rw[rm]
  refine J 2 ?_
  refine .d3 rfl (ab.ng sizeOf108 rfl rfl rfl) ?_
  rintro _ _ ⟨rfl,rfl⟩
  rw[uX]
  refine J 1 ?_
  refine .to (A:=ax ps ((d.tell (t.aD.getD d.i.b.toNat 0) (d.s.mem.getD (t.aD.getD d.i.b.toNat 0).toNat 0) 0 true).s.aA.set (d.tell (t.aD.getD d.i.b.toNat 0) (d.s.mem.getD (t.aD.getD d.i.b.toNat 0).toNat 0) 0 true).n (some (t.mB z.1)))) (Bs:=[arr p 0 (bb (t.mB z.1)),ax (ps.set (d.tell (t.aD.getD d.i.b.toNat 0) (d.s.mem.getD (t.aD.getD d.i.b.toNat 0).toNat 0) 0 true).n none) ((d.tell (t.aD.getD d.i.b.toNat 0) (d.s.mem.getD (t.aD.getD d.i.b.toNat 0).toNat 0) 0 true).s.aA.set (d.tell (t.aD.getD d.i.b.toNat 0) (d.s.mem.getD (t.aD.getD d.i.b.toNat 0).toNat 0) 0 true).n none)]) .auto (cq (List.getElem?_eq_some_iff.1 ht).1 hp) ?_
  rw[iS ht hz,show d.told=d.tell (t.aD.getD d.i.b.toNat 0) (d.s.mem.getD (t.aD.getD d.i.b.toNat 0).toNat 0) 0 true from by unfold Dng.told;rw[if_pos h1,hb]]
  exact JR 0 ps
 ·simp only[Bool.and_eq_false_iff,decide_eq_false_iff_not] at h58
  refine JD 11 (fun h83=>?_) fun h83=>?_
  ·have hz:=oP (h58.resolve_left (fun h=>h h83))
   rw[rn hz]
   refine J 1 ?_
   refine .to (A:=ax ps d.s.aA) (Bs:=[arr p 0 (bb t),ax (ps.set d.n none) (d.s.aA.set d.n none)]) .auto (bH hp ht) ?_
   refine J 3 ?_
   refine .c call133 rfl (iD hp ht hr) fun _ _=>?_
   refine J 10 ?_
   refine .eM rfl ?_
   refine J 3 ?_
   refine .c call134 rfl (qv (d:=(d.tell (t.aD.getD d.i.b.toNat 0) 0 6 true)) hp ht hl hpl hT hR he hw hj) fun qs _=>?_
   refine J 4 ?_
   rw[lb ht hz,if_pos h83,hb]
   exact JR 0 qs
  ·refine JD 11 (fun h94=>?_) fun h94=>?_
   ·refine J 1 ?_
    refine .to (A:=ax ps d.s.aA) (Bs:=[arr p 0 (bb t),ax (ps.set d.n none) (d.s.aA.set d.n none)]) .auto (bH hp ht) ?_
    refine J 4 ?_
    refine .c call133 rfl (iD hp ht hr) fun _ _=>?_
    refine JD 10 (fun h107=>?_) fun h107=>?_
    ·have hz:=oP h107
     rw[rn hz]
     refine J 3 ?_
     refine .c call134 rfl (qv (d:=(d.tell (t.aD.getD d.i.a.toNat 0) (t.aD.getD d.i.b.toNat 0) 6 true)) hp ht hl hpl hT hR he hw hj) fun qs _=>?_
     refine J 4 ?_
     rw[lb ht hz,if_neg h83,ha,hb]
     exact JR 0 qs
    ·obtain⟨z,hz⟩:=mG (Decidable.not_not.mp h107)
     rw[kc hz]
     refine J 2 ?_
     refine .o2 (C:=bc bd b p ps (d.tell (t.aD.getD d.i.a.toNat 0) (t.aD.getD d.i.b.toNat 0) 0 true)) .auto rfl ?_
     rintro vw ve -
     refine .iQ (C:=cn b ps (d.tell (t.aD.getD d.i.a.toNat 0) (t.aD.getD d.i.b.toNat 0) 0 true).s) .auto rfl ?_
     rintro fv sv pv bt vm bg vt bk bw vr -
     refine .fr .auto (bN hp (show(d.tell (t.aD.getD d.i.a.toNat 0) (t.aD.getD d.i.b.toNat 0) 0 true).s.aA[(d.tell (t.aD.getD d.i.a.toNat 0) (t.aD.getD d.i.b.toNat 0) 0 true).n]?=some (some t) from ht)) ?_
     refine .draw [arr bd 0 (dH b p (d.tell (t.aD.getD d.i.a.toNat 0) (t.aD.getD d.i.b.toNat 0) 0 true) vw ve),arr b4 0 (gU z.1)] [1,1,1,1,1,1,1,1,1,0,1,1,2,1,1,3] rfl (by kernel_rfl) ?_
     refine J 12 ?_
     refine .d2 rfl Kept.auto (ab.G3 (vs:=gU z.1) (by exact sizeOf141) rfl rfl rfl rfl) (by rintro _ _ ⟨rfl,rfl⟩;exact Kept.auto) ?_
     rintro _ _ ⟨rfl,rfl⟩
     rw[rm]
     refine J 2 ?_
     refine .d3 rfl (ab.ng sizeOf108 rfl rfl rfl) ?_
     rintro _ _ ⟨rfl,rfl⟩
     rw[uX]
     refine J 1 ?_
     refine .to (A:=ax ps ((d.tell (t.aD.getD d.i.a.toNat 0) (t.aD.getD d.i.b.toNat 0) 0 true).s.aA.set (d.tell (t.aD.getD d.i.a.toNat 0) (t.aD.getD d.i.b.toNat 0) 0 true).n (some (t.mB z.1)))) (Bs:=[arr p 0 (bb (t.mB z.1)),ax (ps.set (d.tell (t.aD.getD d.i.a.toNat 0) (t.aD.getD d.i.b.toNat 0) 0 true).n none) ((d.tell (t.aD.getD d.i.a.toNat 0) (t.aD.getD d.i.b.toNat 0) 0 true).s.aA.set (d.tell (t.aD.getD d.i.a.toNat 0) (t.aD.getD d.i.b.toNat 0) 0 true).n none)]) .auto (cq (List.getElem?_eq_some_iff.1 ht).1 hp) ?_
     rw[iS ht hz,show d.told=d.tell (t.aD.getD d.i.a.toNat 0) (t.aD.getD d.i.b.toNat 0) 0 true from by unfold Dng.told;rw[if_neg h83,if_pos h94,ha,hb]]
     exact JR 0 ps
   ·refine JD 10 (fun h107=>?_) fun h107=>?_
    ·exact absurd (D5 (oP h107)) (by omega)
    ·obtain⟨z,hz⟩:=mG (Decidable.not_not.mp h107)
     rw[kc hz]
     refine J 2 ?_
     refine .draw [arr bd 0 (dH b p (d) vw ve),arr b4 0 (gU z.1)] [1,1,1,1,1,1,1,1,1,0,1,1,2,1,1,3] rfl (by kernel_rfl) ?_
     refine J 12 ?_
     refine .d2 rfl Kept.auto (ab.G3 (vs:=gU z.1) (by exact sizeOf141) rfl rfl rfl rfl) (by rintro _ _ ⟨rfl,rfl⟩;exact Kept.auto) ?_
     rintro _ _ ⟨rfl,rfl⟩
     rw[rm]
     refine J 2 ?_
     refine .d3 rfl (ab.ng sizeOf108 rfl rfl rfl) ?_
     rintro _ _ ⟨rfl,rfl⟩
     rw[uX]
     refine J 1 ?_
     refine .to (A:=ax ps ((d).s.aA.set (d).n (some (t.mB z.1)))) (Bs:=[arr p 0 (bb (t.mB z.1)),ax (ps.set (d).n none) ((d).s.aA.set (d).n none)]) .auto (cq (List.getElem?_eq_some_iff.1 ht).1 hp) ?_
     rw[iS ht hz,show d.told=d from by unfold Dng.told;rw[if_neg h83,if_neg h94]]
     exact JR 0 ps
end Go.SLYthncobnjdhjnoaaGreat
namespace Go.SLYthncobnjdhjnoaaGreat
open Go Go.RowKit Go.Proofs Go.Proofs.Tryz
attribute [local irreducible] aq aJ ba bq bu Y
theorem Cs{W:World}{b:Nat}{g:Gates}{who m:Int}(hg:gd g):Fn Tryz.prog W 177 [ptr b,.int .i64 who,.int .i64 m] [cf b g] Unit (fun _=>.tuple #[.bool (g.lock who m).1,.int .i64 (g.lock who m).2.1]) (fun _=>True) (fun _=>[cf b (g.lock who m).2.2]):=by
 refine Fn.intro (N:=27) func177 rfl ntmps177 rfl fun F=>?_
 show aq _ _ _ _ _ _ [cf b g,F]
 refine .o3 (C:=cf b g) .auto rfl ?_
 rintro vm vc vs -
 refine J 10 ?_
 refine .c call198 rfl kv fun _ _=>?_
 refine JD 12 (fun h12=>?_) fun h12=>?_
 ·refine J 9 ?_
  rw[tp (fi h12)]
  exact JR 0 ()
 ·refine J 2 ?_
  have hmhx:=eV h12
  rw[eB hmhx]
  obtain⟨x,hx,hgx⟩:=cx hmhx
  refine J 2 ?_
  refine .c call199 rfl (mT hg) fun _ _=>?_
  refine .fr .auto (nG hx) ?_
  refine J 1 ?_
  apply aJ.gM 4 23 19 [19,20,21,22,23] rfl
  ·intro h19
   refine J 2 ?_
   refine .cg call200 rfl rU fun _ _=>?_
   exact JS 2
  ·intro h19
   exact JS 5
  refine JD 3 (fun h15=>?_) fun h15=>?_
  ·refine J 9 ?_
   rw[pI hgx h15]
   refine .to (A:=dE vm g.cR) (Bs:=[dG (blk vm) (dJ vm+m.toNat * 3) x,qc vm g.cR m.toNat]) .auto (nH hx) ?_
   exact JR 0 ()
  ·refine J 7 ?_
   refine .c call183 rfl (rV (Nat.le_trans (hg.mw x (List.mem_of_getElem? hx)) (by decide))) fun _ _=>?_
   refine J 5 ?_
   rw[tq hgx h15]
   refine .to (A:=dE vm (g.cR.set m.toNat (x.lock who).2)) (Bs:=[dG (blk vm) (dJ vm+m.toNat * 3) (x.lock who).2,qc vm g.cR m.toNat]) .auto (rf (x.lock who).2) ?_
   exact JR 0 ()
theorem xV{W:World}{b:Nat}{g:Gates}{who m c:Int}(hg:gd g):Fn Tryz.prog W 178 [ptr b,.int .i64 who,.int .i64 m,.int .i64 c] [cf b g] Unit (fun _=>.tuple #[.int .i64 (g.unlock who m c).1,.bool (g.unlock who m c).2.1,.int .i64 (g.unlock who m c).2.2.1]) (fun _=>True) (fun _=>[cf b (g.unlock who m c).2.2.2]):=by
 refine Fn.intro (N:=33) func178 rfl ntmps178 rfl fun F=>?_
 show aq _ _ _ _ _ _ [cf b g,F]
 refine .o3 (C:=cf b g) .auto rfl ?_
 rintro vm vc vs -
 refine J 11 ?_
 refine .c call198 rfl kv fun _ _=>?_
 refine JD 12 (fun h17=>?_) fun h17=>?_
 ·refine J 10 ?_
  rw[pJ (fi h17)]
  refine .kS rfl rfl rfl rfl fun w s=>⟨(),?_,trivial,aj .auto s⟩
  rfl
 ·refine J 2 ?_
  have hmhx:=eV h17
  rw[eB hmhx]
  obtain⟨x,hx,hgx⟩:=cx hmhx
  refine .fr .auto (nG hx) ?_
  refine J 2 ?_
  refine .c call200 rfl rU fun _ _=>?_
  refine JD 4 (fun h20=>?_) fun h20=>?_
  ·refine J 10 ?_
   rw[nI hgx (by simpa using h20)]
   refine .to (A:=dE vm g.cR) (Bs:=[dG (blk vm) (dJ vm+m.toNat * 3) x,qc vm g.cR m.toNat]) .auto (nH hx) ?_
   refine .kS rfl rfl rfl rfl fun w s=>⟨(),?_,trivial,aj .auto s⟩
   rfl
  ·refine J 7 ?_
   refine .c call201 rfl (oc (hg.mw x (List.mem_of_getElem? hx))) fun _ _=>?_
   refine J 17 ?_
   rw[pK hgx (by simpa using h20)]
   refine .to (A:=dE vm (g.cR.set m.toNat (x.unlock c).2.2)) (Bs:=[dG (blk vm) (dJ vm+m.toNat * 3) (x.unlock c).2.2,qc vm g.cR m.toNat]) .auto (rf (x.unlock c).2.2) ?_
   refine .kS rfl rfl rfl rfl fun w s=>⟨(),?_,trivial,aj .auto s⟩
   rfl
theorem Ct{W:World}{b:Nat}{g:Gates}{who c m ch:Int}(hg:gd g):Fn Tryz.prog W 180 [ptr b,.int .i64 who,.int .i64 c,.int .i64 m,.int .i64 ch] [cf b g] Unit (fun _=>.tuple #[.int .i64 (g.wait who c m ch).1,.bool (g.wait who c m ch).2.1,.int .i64 (g.wait who c m ch).2.2.1]) (fun _=>True) (fun _=>[cf b (g.wait who c m ch).2.2.2]):=by
 refine Fn.intro (N:=52) func180 rfl ntmps180 rfl fun F=>?_
 show aq _ _ _ _ _ _ [cf b g,F]
 refine .o3 (C:=cf b g) .auto rfl ?_
 rintro vm vc vs -
 refine J 11 ?_
 refine .c call198 rfl kv fun _ _=>?_
 refine J 2 ?_
 refine .c call181 rfl tV fun _ _=>?_
 refine J 11 ?_
 apply aJ.gM 3 29 26 [26,27,28,29] rfl
 ·intro h26
  exact JS 4
 ·intro h26
  exact JS 4
 refine JD 3 (fun h23=>?_) fun h23=>?_
 ·have hw:g.wait who c m ch=(0,false,1,g):=by
   rcases(Bool.or_eq_true _ _).mp h23 with h | h
   ·exact mD (fi h)
   ·exact mE (fi h)
  refine J 10 ?_
  rw[hw]
  refine .kS rfl rfl rfl rfl fun w s=>⟨(),?_,trivial,aj .auto s⟩
  rfl
 ·refine J 2 ?_
  rw[Bool.or_eq_false_iff] at h23
  have hmhx:=eV h23.1
  rw[eB hmhx]
  obtain⟨x,hx,hgx⟩:=cx hmhx
  have hmhr:=eV h23.2
  rw[eB hmhr]
  obtain⟨r,hr,hgr⟩:=cx hmhr
  refine J 2 ?_
  refine .c call199 rfl (mT hg) fun _ _=>?_
  refine JD 3 (fun h30=>?_) fun h30=>?_
  ·refine J 10 ?_
   rw[xf hgx hgr h30]
   refine .kS rfl rfl rfl rfl fun w s=>⟨(),?_,trivial,aj .auto s⟩
   rfl
  ·refine J 2 ?_
   refine .fr .auto (nG hx) ?_
   refine J 2 ?_
   refine .c call200 rfl rU fun _ _=>?_
   refine JD 4 (fun h34=>?_) fun h34=>?_
   ·refine J 10 ?_
    rw[mF hgx hgr h30 (by simpa using h34)]
    refine .to (A:=dE vm g.cR) (Bs:=[dG (blk vm) (dJ vm+m.toNat * 3) x,qc vm g.cR m.toNat]) .auto (nH hx) ?_
    refine .kS rfl rfl rfl rfl fun w s=>⟨(),?_,trivial,aj .auto s⟩
    rfl
   ·refine J 7 ?_
    refine .c call201 rfl (oc (hg.mw x (List.mem_of_getElem? hx))) fun _ _=>?_
    refine J 9 ?_
    refine .to (A:=dE vm (g.cR.set m.toNat (x.unlock ch).2.2)) (Bs:=[dG (blk vm) (dJ vm+m.toNat * 3) (x.unlock ch).2.2,qc vm g.cR m.toNat]) .auto (rf (x.unlock ch).2.2) ?_
    refine .fr .auto (AK hr) ?_
    refine J 3 ?_
    refine .p (.fW (fun v1 v2=>[v1,v2]) rfl rfl (by kernel_rfl)) ?_
    refine .c call202 rfl (vD (x:=⟨who,m⟩) (Nat.le_trans (hg.cw r (List.mem_of_getElem? hr)) (by decide))) fun _ _=>?_
    refine J 12 ?_
    rw[oN hgx hgr h30 (by simpa using h34)]
    refine .to (A:=gK vc (g.gp.set c.toNat (r++[⟨who,m⟩]))) (Bs:=[gT (blk vc) (dJ vc+c.toNat * 1) (r++[⟨who,m⟩]),BV vc g.gp c.toNat]) .auto (DX (r++[⟨who,m⟩])) ?_
    refine .kS rfl rfl rfl rfl fun w s=>⟨(),?_,trivial,aj .auto s⟩
    rfl
theorem Cu{W:World}{b:Nat}{g:Gates}{who s:Int}(hg:gd g)(hc:∀ x∈g.dU,0≤x.count∧x.count≤1048576):Fn Tryz.prog W 186 [ptr b,.int .i64 who,.int .i64 s] [cf b g] Unit (fun _=>.tuple #[.bool (g.down who s).1,.int .i64 (g.down who s).2.1]) (fun _=>True) (fun _=>[cf b (g.down who s).2.2]):=by
 refine Fn.intro (N:=38) func186 rfl ntmps186 rfl fun F=>?_
 show aq _ _ _ _ _ _ [cf b g,F]
 refine .o3 (C:=cf b g) .auto rfl ?_
 rintro vm vc vs -
 refine J 10 ?_
 refine .c call205 rfl xP fun _ _=>?_
 refine JD 12 (fun h12=>?_) fun h12=>?_
 ·refine J 9 ?_
  rw[tt (fi h12)]
  exact JR 0 ()
 ·refine J 2 ?_
  have hmhx:=eV h12
  rw[eB hmhx]
  obtain⟨x,hx,hgx⟩:=cx hmhx
  refine J 2 ?_
  refine .c call199 rfl (mT hg) fun _ _=>?_
  refine JD 3 (fun h15=>?_) fun h15=>?_
  ·refine J 9 ?_
   rw[xg hgx h15]
   exact JR 0 ()
  ·refine J 2 ?_
   refine .fr .auto (AJ hx) ?_
   have hcx:=hc x (List.mem_of_getElem? hx)
   refine .o1 (C:=gq (blk vs) (dJ vs+s.toNat * 2) x) .auto rfl ?_
   rintro u -
   refine JD 8 (fun h19=>?_) fun h19=>?_
   ·refine J 9 ?_
    refine .ai rfl (ab.JC sizeOf3 rfl rfl rfl rfl) ?_
    rintro _ _ ⟨rfl,rfl⟩
    refine J 11 ?_
    rw[tu hgx h15 h19]
    refine .to (A:=eQ vs (g.dU.set s.toNat {x with count:=x.count-1 })) (Bs:=[gq (blk vs) (dJ vs+s.toNat * 2) {x with count:=x.count-1 },xd vs g.dU s.toNat]) .auto (rh {x with count:=x.count-1 }) ?_
    exact JR 0 ()
   ·refine J 7 ?_
    refine .fr .auto (nF (b:=blk vs) (o:=dJ vs+s.toNat * 2) (u:=u)) ?_
    refine J 2 ?_
    refine .p (.iK (fun v1=>[v1,(.int .i64 0)]) rfl (by kernel_rfl)) ?_
    refine .c call202 rfl (vD (x:=⟨who,0⟩) (Nat.le_trans (hg.sw x (List.mem_of_getElem? hx)) (by decide))) fun _ _=>?_
    refine J 9 ?_
    rw[pN hgx h15 h19]
    refine .to (A:=gq (blk vs) (dJ vs+s.toNat * 2) {x with wait:=x.wait++[⟨who,0⟩] }) (Bs:=[gT (blk vs) (dJ vs+s.toNat * 2) (x.wait++[⟨who,0⟩]),arr (blk vs) (dJ vs+s.toNat * 2+1) [.int .i64 x.count]]) .auto (qk (m:={x with wait:=x.wait++[⟨who,0⟩] })) ?_
    refine .to (A:=eQ vs (g.dU.set s.toNat {x with wait:=x.wait++[⟨who,0⟩] })) (Bs:=[gq (blk vs) (dJ vs+s.toNat * 2) {x with wait:=x.wait++[⟨who,0⟩] },xd vs g.dU s.toNat]) .auto (rh {x with wait:=x.wait++[⟨who,0⟩] }) ?_
    exact JR 0 ()
theorem GI{W:World}{b:Nat}{g:Gates}{s c:Int}(hg:gd g)(hc:∀ x∈g.dU,0≤x.count∧x.count≤1048576):Fn Tryz.prog W 185 [ptr b,.int .i64 s,.int .i64 c] [cf b g] Unit (fun _=>.tuple #[.int .i64 (g.up s c).1,.bool (g.up s c).2.1,.int .i64 (g.up s c).2.2.1]) (fun _=>True) (fun _=>[cf b (g.up s c).2.2.2]):=by
 refine Fn.intro (N:=40) func185 rfl ntmps185 rfl fun F=>?_
 show aq _ _ _ _ _ _ [cf b g,F]
 refine .o3 (C:=cf b g) .auto rfl ?_
 rintro vm vc vs -
 refine J 11 ?_
 refine .c call205 rfl xP fun _ _=>?_
 refine JD 10 (fun h16=>?_) fun h16=>?_
 ·refine J 9 ?_
  rw[AL (fi h16)]
  refine .kS rfl rfl rfl rfl fun w s=>⟨(),?_,trivial,aj .auto s⟩
  rfl
 ·refine J 5 ?_
  have hmhx:=eV h16
  rw[eB hmhx]
  obtain⟨x,hx,hgx⟩:=cx hmhx
  refine .fr .auto (AJ hx) ?_
  have hcx:=hc x (List.mem_of_getElem? hx)
  refine .o1 (C:=gq (blk vs) (dJ vs+s.toNat * 2) x) .auto rfl ?_
  rintro u -
  refine .fr .auto (nF (b:=blk vs) (o:=dJ vs+s.toNat * 2) (u:=u)) ?_
  refine J 4 ?_
  refine .c call182 rfl (rT (hg.sw x (List.mem_of_getElem? hx))) fun _ _=>?_
  refine J 3 ?_
  refine .ai rfl (ab.alloc rfl zeroValue274 rfl) ?_
  rintro _ _ ⟨b10,rfl,rfl⟩
  refine JD 9 (fun h25=>?_) fun h25=>?_
  ·refine J 11 ?_
   rw[tv hgx h25]
   refine .to (A:=gq (blk vs) (dJ vs+s.toNat * 2) {x with wait:=(aI x.wait c).2.2 }) (Bs:=[gT (blk vs) (dJ vs+s.toNat * 2) (aI x.wait c).2.2,arr (blk vs) (dJ vs+s.toNat * 2+1) [.int .i64 x.count]]) .auto (qk (m:={x with wait:=(aI x.wait c).2.2 })) ?_
   refine .to (A:=eQ vs (g.dU.set s.toNat {x with wait:=(aI x.wait c).2.2 })) (Bs:=[gq (blk vs) (dJ vs+s.toNat * 2) {x with wait:=(aI x.wait c).2.2 },xd vs g.dU s.toNat]) .auto (rh {x with wait:=(aI x.wait c).2.2 }) ?_
   refine .kS rfl rfl rfl rfl fun w s=>⟨(),?_,trivial,aj .auto s⟩
   rfl
  ·have htw:=BW h25
   refine J 8 ?_
   refine .p (.ld rfl (Cell.az (cs:=[.int .i64 x.count]) rfl)) ?_
   refine JD 3 (fun h32=>?_) fun h32=>?_
   ·refine J 9 ?_
    rw[tz hgx h25 h32]
    rw[htw]
    refine .to (A:=gq (blk vs) (dJ vs+s.toNat * 2) x) (Bs:=[gT (blk vs) (dJ vs+s.toNat * 2) x.wait,arr (blk vs) (dJ vs+s.toNat * 2+1) [.int .i64 x.count]]) .auto qk ?_
    refine .to (A:=eQ vs g.dU) (Bs:=[gq (blk vs) (dJ vs+s.toNat * 2) x,xd vs g.dU s.toNat]) .auto (DY hx) ?_
    refine .kS rfl rfl rfl rfl fun w s=>⟨(),?_,trivial,aj .auto s⟩
    rfl
   ·refine J 7 ?_
    refine .p (.ld rfl (Cell.az (cs:=[.int .i64 x.count]) rfl)) ?_
    refine .p (.add rfl rfl (by omega)) ?_
    refine J 2 ?_
    refine .ai rfl (ab.JK sizeOf3 rfl rfl rfl rfl) ?_
    rintro _ _ ⟨rfl,rfl⟩
    refine J 10 ?_
    rw[AM hgx h25 h32,htw]
    refine .to (A:=gq (blk vs) (dJ vs+s.toNat * 2) {x with count:=x.count+1 }) (Bs:=[gT (blk vs) (dJ vs+s.toNat * 2) x.wait,arr (blk vs) (dJ vs+s.toNat * 2+1) [.int .i64 (x.count+1)]]) .auto (qk (m:={x with count:=x.count+1 })) ?_
    refine .to (A:=eQ vs (g.dU.set s.toNat {x with count:=x.count+1 })) (Bs:=[gq (blk vs) (dJ vs+s.toNat * 2) {x with count:=x.count+1 },xd vs g.dU s.toNat]) .auto (rh {x with count:=x.count+1 }) ?_
    refine .kS rfl rfl rfl rfl fun w s=>⟨(),?_,trivial,aj .auto s⟩
    rfl
theorem pV{W:World}{b:Nat}{g:Gates}{c ch:Int}{all:Bool}(hg:gd g)(hm:∀ r∈g.gp, ∀ w∈r,0≤w.mutex∧w.mutex<(g.cR.length:Int)):Fn Tryz.prog W 160 [ptr b,.int .i64 c,.int .i64 ch,.bool all] [cf b g] Value (fun u=>.tuple #[u,.int .i64 (g.signal c ch all).2.1]) (fun _=>True) (fun u=>[sl ar 1 u (g.signal c ch all).1,cf b (g.signal c ch all).2.2]):=by
 refine Fn.intro (N:=58) func160 rfl ntmps160 rfl fun F=>?_
 show aq _ _ _ _ _ _ [cf b g,F]
 refine .o3 (C:=cf b g) .auto rfl ?_
 rintro vm vc vs -
 refine J 10 ?_
 refine .c call181 rfl tV fun _ _=>?_
 refine JD 10 (fun h19=>?_) fun h19=>?_
 ·refine J 8 ?_
  rw[pL (fi h19)]
  exact JR 0 (Value.slice none 0 0)
 ·refine J 4 ?_
  have hmhr:=eV h19
  rw[eB hmhr]
  obtain⟨r,hr,hgr⟩:=cx hmhr
  refine .fr .auto (AK hr) ?_
  have hrl:=hg.cw r (List.mem_of_getElem? hr)
  have hrm:=hm r (List.mem_of_getElem? hr)
  refine .o1 (C:=gT (blk vc) (dJ vc+c.toNat * 1) r) .auto rfl ?_
  rintro u0 -
  refine J 5 ?_
  refine .p (.jq rfl rfl) ?_
  refine J 3 ?_
  refine .yD (X:=Unit) [2,11,26,27,28,29,30,31] (fun _=>True) (fun _=>[(11,some (.int .i64 (((if all=true then r.length else min r.length 1):Nat):Int))),(2,some (.int .i64 (if all=true then 0 else ch)))]) (fun _=>[arr (blk vc) (dJ vc+c.toNat * 1) [u0],sl cW 2 u0 r,BV vc g.gp c.toNat,arr b 0 [vm,vc,vs],dE vm g.cR,eQ vs g.dU,F]) ?_ ?_
  ·refine JD 5 (fun h26=>?_) fun h26=>?_
   ·refine J 9 ?_
    refine .hP () .auto ?_ ?_ ?_
    ·trivial
    ·subst h26;exact⟨rfl,rfl,trivial⟩
    ·exact fun w s=>au.kept .auto w s
   ·refine J 1 ?_
    refine .hP () .auto ?_ ?_ ?_
    ·trivial
    ·rw[if_neg (by rw[h26];simp),if_neg (by rw[h26];simp)];exact⟨by show some _=some _;congr 2;omega,rfl,trivial⟩
    ·exact fun w s=>au.kept .auto w s
  ·rintro⟨⟩ -
   obtain⟨n0,hn0⟩:∃ n0,n0=(if all=true then r.length else min r.length 1):=⟨_,rfl⟩
   obtain⟨c2,hc2⟩:∃ c2,c2=(if all=true then 0 else ch):=⟨_,rfl⟩
   have h0:n0≤r.length:=by subst hn0;split <;> omega
   rw[← hn0, ← hc2]
   refine J 13 ?_
   refine .bf (X:=Nat×List eu×List ei×Value×List Int) [12,13,14,33,34,35,36,37,38,39,40,41,42,43,44,45,46,47,48,49,50,51,52,53,54,55,56] (fun z=>n0-z.1) (fun z=>nJ r g.cR n0 c2 z.1 z.2.1 z.2.2.1 z.2.2.2.2) (fun z=>[(33,some (.int .i64 (z.1:Int))),(12,some z.2.2.2.1)]) (fun z=>[gT (blk vc) (dJ vc+c.toNat * 1) z.2.1,dE vm z.2.2.1,sl ar 1 z.2.2.2.1 z.2.2.2.2,BV vc g.gp c.toNat,arr b 0 [vm,vc,vs],eQ vs g.dU,F]) (0,r,g.cR,.slice none 0 0,[]) ?_ ?_ ?_ ?_
   ·exact nJ.zero hg.mw
   ·exact⟨rfl,rfl,trivial⟩
   ·exact fun w s=>au.kept .auto w s
   rintro⟨k,r1,ms,u,out⟩ hS
   simp only at hS
   refine JD 6 (fun h34=>?_) fun h34=>?_
   ·simp only at h34
    refine J 8 ?_
    refine .c call182 rfl (rT (l:=r1) (by have:=hS.len;omega)) fun _ _=>?_
    refine J 3 ?_
    refine .ai rfl (ab.alloc rfl zeroValue274 rfl) ?_
    rintro _ _ ⟨b13,rfl,rfl⟩
    refine J 5 ?_
    refine .draw [] [1,1,1,1,1,1,1,1,1,3] rfl (by kernel_rfl) ?_
    obtain⟨hw1,hw2,hw3⟩:=jD (l:=r1) (c:=c2) (by have:=hS.len;omega)
    have hwm:=hrm _ (hS.mem _ hw1)
    have hml:=hS.ml
    obtain⟨x,hx⟩:=al (show(aI r1 c2).1.mutex.toNat<ms.length by omega)
    have hxl:=hS.mw x (List.mem_of_getElem? hx)
    refine .o1 (C:=dE vm ms) .auto rfl ?_
    rintro xs hxs
    have hxsl:=aE hxs
    refine J 6 ?_
    refine .p (.sJ (aI r1 c2).1.mutex.toNat underlying154 sizeOf278 rfl rfl Rd.s (by omega) (by omega)) ?_
    refine J 2 ?_
    refine .to (A:=dE vm ms) .auto (Bs:=[sl kN 3 vm xs,aO (fun x=>sl cW 2 x.1 x.2.wait) xs]) (fun h a=>⟨xs,hxs,a⟩) ?_
    refine .fr .auto (nG hx) ?_
    refine .c call183 rfl (rV (m:=x) (by omega)) fun _ _=>?_
    refine .to (A:=dE vm (ms.set (aI r1 c2).1.mutex.toNat (x.lock (aI r1 c2).1.who).2)) (Bs:=[dG (blk vm) (dJ vm+(aI r1 c2).1.mutex.toNat * 3) (x.lock (aI r1 c2).1.who).2,qc vm ms (aI r1 c2).1.mutex.toNat]) .auto (rf (x.lock (aI r1 c2).1.who).2) ?_
    have hnx:=hS.next (by omega) h0
    have hsl:za r1 c2 ms=x.lock (aI r1 c2).1.who:=by unfold za;rw[bx hx]
    rw[hsl] at hnx
    refine JD 2 (fun h50=>?_) fun h50=>?_
    ·rw[if_pos h50] at hnx
     refine J 4 ?_
     refine .ai rfl (ab.fG 3 rfl rfl (by kernel_rfl)) ?_
     rintro _ _ ⟨b54,rfl,rfl⟩
     refine .ai rfl (ab.gv (enc:=ar) (k:=1) (aI r1 c2).1.who rfl underlying33 underlying33 typeInfo3 rfl rfl rfl (by decide) rfl rfl rfl .auto rfl .auto (by have:=hS.ol;have:=hS.hk;dsimp only;omega) rfl) ?_
     rintro _ _ ⟨v55,rfl,rfl⟩
     refine J 8 ?_
     refine .aF (k+1,(aI r1 c2).2.2,ms.set (aI r1 c2).1.mutex.toNat (x.lock (aI r1 c2).1.who).2,v55,out++[(aI r1 c2).1.who]) .auto rfl ?_ ?_ ?_ ?_
     ·show n0-(k+1)<n0-k;omega
     ·exact hnx
     ·exact⟨rfl,rfl,trivial⟩
     ·exact fun w s=>au.kept .auto w s
    ·rw[if_neg (by rw[h50];simp)] at hnx
     refine J 7 ?_
     refine .aF (k+1,(aI r1 c2).2.2,ms.set (aI r1 c2).1.mutex.toNat (x.lock (aI r1 c2).1.who).2,u,out) .auto rfl ?_ ?_ ?_ ?_
     ·show n0-(k+1)<n0-k;omega
     ·exact hnx
     ·exact⟨rfl,rfl,trivial⟩
     ·exact fun w s=>au.kept .auto w s
   ·simp only at h34
    refine J 13 ?_
    rw[pM (z:=(r1,ms,out)) hgr (by rw[← hn0, ← hc2];exact hS.done (by omega))]
    refine .to (A:=gK vc (g.gp.set c.toNat r1)) (Bs:=[gT (blk vc) (dJ vc+c.toNat * 1) r1,BV vc g.gp c.toNat]) .auto (DX r1) ?_
    exact JR 0 u
theorem Cv{W:World}{b:Nat}{l:List ei}{n:Int}{vm vc vs:Value}:Fn Tryz.prog W 204 [ptr b,.int .i64 1,.int .i64 n] [arr b 0 [vm,vc,vs],dE vm l] Unit (fun _=>G4 vm l.length 3 n) (fun _=>True) (fun _=>[arr b 0 [vm,vc,vs],dE vm l]):=by
 refine Fn.intro (N:=35) func204 rfl ntmps204 rfl fun F=>?_
 show aq _ _ _ _ _ _ [arr b 0 [vm,vc,vs],dE vm l,F]
 refine J 18 ?_
 refine .dK rfl (fun _=>?_) (fun hc=>absurd rfl hc)
 refine J 4 ?_
 refine .c call198 rfl kv fun _ _=>?_
 refine JD 9 (fun h16=>?_) fun h16=>?_
 ·refine J 2 ?_
  have hm:=xe h16
  rw[eB hm]
  exact JR 9 ()
 ·refine J 9 ?_
  refine .aP rfl rfl fun w s=>⟨(),?_,trivial,aj .auto s⟩
  rw[qm (y9 h16)]
theorem sV{W:World}{b:Nat}{g:Gates}{n:Nat}{x:ei}(hx:g.cR[n]?=some x)(hl:x.wait.length≤1000000):Fn Tryz.prog W 184 [ptr b,.int .i64 1,.int .i64 (n:Int)] [cf b g] Value (fun u=>u) (fun _=>True) (fun u=>[sl ar 1 u (x.wait.map (·.who)),cf b g]):=by
 refine Fn.intro (N:=33) func184 rfl ntmps184 rfl fun F=>?_
 show aq _ _ _ _ _ _ [cf b g,F]
 refine .o3 (C:=cf b g) .auto rfl ?_
 rintro vm vc vs -
 have hn:=(List.getElem?_eq_some_iff.1 hx).1
 refine J 10 ?_
 refine .c call204 rfl Cv fun _ _=>?_
 refine JD 10 (fun h16=>?_) fun h16=>?_
 ·exact absurd (show(0:Int)≤(n:Int)∧(n:Int)<(g.cR.length:Int) by omega) (fi h16)
 ·refine J 10 ?_
  rw[eB (by omega),Int.toNat_natCast]
  refine .fr .auto (nG hx) ?_
  refine .o1 (C:=dG (blk vm) (dJ vm+n * 3) x) .auto rfl ?_
  rintro u0 -
  refine J 9 ?_
  refine .bf (X:=Nat×Value) [8,10,22,23,24,25,26,27,28,29,30,31] (fun z=>x.wait.length-z.1) (fun z=>z.1≤x.wait.length) (fun z=>[(22,some (.int .i64 (z.1:Int))),(8,some z.2)]) (fun z=>[sl ar 1 z.2 ((x.wait.map (·.who)).take z.1),arr (blk vm) (dJ vm+n * 3) [u0,.bool x.held,.int .i64 x.owner],sl cW 2 u0 x.wait,qc vm g.cR n,arr b 0 [vm,vc,vs],gK vc g.gp,eQ vs g.dU,F]) (0,.slice none 0 0) ?_ ?_ ?_ ?_
  ·exact Nat.zero_le _
  ·exact⟨rfl,rfl,trivial⟩
  ·exact fun w s=>au.kept .auto w s
  rintro⟨k,u⟩ hk
  simp only at hk
  refine JD 6 (fun h23=>?_) fun h23=>?_
  ·refine J 6 ?_
   obtain⟨w,hw⟩:=al (show k<x.wait.length by omega)
   refine J 2 ?_
   refine .ai rfl (ab.alloc rfl zeroValue274 rfl) ?_
   rintro _ _ ⟨b10,rfl,rfl⟩
   refine J 7 ?_
   refine .ai rfl (ab.fG 3 rfl rfl (by kernel_rfl)) ?_
   rintro _ _ ⟨b29,rfl,rfl⟩
   refine .ai rfl (ab.gv (enc:=ar) (k:=1) w.who rfl underlying33 underlying33 typeInfo3 rfl rfl rfl (by decide) rfl rfl rfl .auto rfl .auto (by rw[List.length_take,List.length_map];omega) rfl) ?_
   rintro _ _ ⟨v30,rfl,rfl⟩
   refine J 8 ?_
   refine .aF (k+1,v30) .auto rfl ?_ ?_ ?_ ?_
   ·show x.wait.length-(k+1)<x.wait.length-k;omega
   ·show k+1≤_;omega
   ·exact⟨rfl,rfl,trivial⟩
   ·show ∀ w,Sat _ w _→Sat _ w (seps [sl ar 1 v30 ((x.wait.map (·.who)).take (k+1)),_,_,_,_,_,_,F])
    rw[bj (show(x.wait.map (·.who))[k]?=some w.who by rw[List.getElem?_map,hw];rfl)]
    exact fun w s=>au.kept .auto w s
  ·refine J 12 ?_
   obtain rfl:k=x.wait.length:=by omega
   rw[List.take_of_length_le (by simp)]
   refine .to (A:=dE vm g.cR) (Bs:=[dG (blk vm) (dJ vm+n * 3) x,qc vm g.cR n]) .auto (nH hx) ?_
   refine .aP rfl rfl fun w s=>⟨_,?_,trivial,aj .auto s⟩
   rfl
end Go.SLYthncobnjdhjnoaaGreat
namespace Go.SLYthncobnjdhjnoaaGreat
open Go Go.RowKit Go.Proofs Go.Proofs.Tryz
attribute [local irreducible] aq aJ ba bq bu Y
theorem E4{W:World}{A:aa}{x:Ptr}{c:Nat}{who:Int}:Fn Tryz.prog W 246 [.agg (kL x).toArray,ptr c] [seps [arr c 0 [.int .i64 who],A]] Unit (fun _=>.bool (decide (x.who=who))) (fun _=>True) (fun _=>[seps [arr c 0 [.int .i64 who],A]]):=by
 refine Fn.intro (N:=8) func246 rfl ntmps246 rfl fun F=>?_
 show aq _ _ _ _ _ _ [seps [arr c 0 [.int .i64 who],A],F]
 refine .dL .auto ?_
 refine J 2 ?_
 refine .ai rfl (ab.box rfl rfl rfl) ?_
 rintro _ _ ⟨b2,rfl,rfl⟩
 exact JR 13 ()
theorem rW{W:World}{b:Nat}{t:Tub}{who:Int}(hl:ri t):Fn Tryz.prog W 229 [ptr b,.int .i64 who] [gL b t] Unit (fun _=>.bool (t.waits who)) (fun _=>True) (fun _=>[gL b t]):=by
 refine Fn.intro (N:=19) func229 rfl ntmps229 rfl fun F=>?_
 show aq _ _ _ _ _ _ [gL b t,F]
 refine .o3 (C:=gL b t) .auto rfl ?_
 rintro vw vp vg -
 obtain⟨hl1,hl2,hl3⟩:=hl
 refine J 2 ?_
 refine .ai rfl (ab.box rfl rfl rfl) ?_
 rintro _ _ ⟨b3,rfl,rfl⟩
 refine J 4 ?_
 refine .draw [] [1,1,1,1,1,3,1,1,1,1,1,1,3,1,1] rfl (by kernel_rfl) ?_
 refine J 5 ?_
 refine .c call170 rfl (tK (A:=sl ar 1 vg t.fZ) (Rd.sl .here) (by omega)) fun _ _=>?_
 refine J 1 ?_
 apply ba.gM 7 18 11 [11,12,13,14,15,16,17,18] rfl
 ·intro h11
  refine J 4 ?_
  refine .g (.makeFunc rfl rfl) ?_
  refine .dg rfl rfl rfl (ab.dX rfl call245 rfl (sR (A:=seps [arr b3 0 [.int .i64 who],sl kL 2 vp t.gw]) (p:=fun p=>decide (p.who=who)) (Rd.et (Rd.sl (.there .here))) (by omega) call246 (fun x _=>E4)) .auto) ?_
  rintro _ _ ⟨⟨⟩, -,rfl,rfl⟩
  refine .dL .auto ?_
  exact JS 2
 ·intro h11
  refine J 5 ?_
  refine .IN rfl rfl rfl rfl ?_
  exact JS 2
 exact JR 4 ()
theorem Is{W:World}{b i:Nat}{cs:List Value}{v:Value}{xs:List Int}{x:Int}(hi:cs[i]?=some v)(hx:xs[0]?=some x)(hl:xs.length≤1000000):Fn Tryz.prog W 230 [.pointer (some ⟨b,i,none⟩)] [arr b 0 cs,sl ar 1 v xs] Value (fun _=>.int .i64 x) (fun _=>True) (fun u=>[arr b 0 (cs.set i u),sl ar 1 u (xs.eraseIdx 0)]):=by
 refine Fn.intro (N:=16) func230 rfl ntmps230 rfl fun F=>?_
 show aq _ _ _ _ _ _ [arr b 0 cs,sl ar 1 v xs,F]
 have hil:=(List.getElem?_eq_some_iff.1 hi).1
 have hxl:=(List.getElem?_eq_some_iff.1 hx).1
 refine J 9 ?_
 refine .p (.ld rfl (Cell.a hi)) ?_
 refine J 10 ?_
 refine .p (.ld rfl (Cell.a hi)) ?_
 refine .c call150 rfl (vB (i:=0) hxl (by omega)) fun u13 _=>?_
 refine J 1 ?_
 refine .ai rfl (ab.ng sizeOf33 rfl rfl (Nat.blt_eq.mpr hil)) ?_
 rintro _ _ ⟨rfl,rfl⟩
 exact JR 9 u13
theorem It{W:World}{b i:Nat}{cs:List Value}{v:Value}{xs:List Int}{x:Int}(hi:cs[i]?=some v)(hx:xs[0]?=some x)(hl:xs.length≤1000000):Fn Tryz.prog W 231 [.pointer (some ⟨b,i,none⟩)] [arr b 0 cs,sl ey 1 v xs] Value (fun _=>.int .u64 x) (fun _=>True) (fun u=>[arr b 0 (cs.set i u),sl ey 1 u (xs.eraseIdx 0)]):=by
 refine Fn.intro (N:=16) func231 rfl ntmps231 rfl fun F=>?_
 show aq _ _ _ _ _ _ [arr b 0 cs,sl ey 1 v xs,F]
 have hil:=(List.getElem?_eq_some_iff.1 hi).1
 have hxl:=(List.getElem?_eq_some_iff.1 hx).1
 refine J 9 ?_
 refine .p (.ld rfl (Cell.a hi)) ?_
 refine J 10 ?_
 refine .p (.ld rfl (Cell.a hi)) ?_
 refine .c call247 rfl (GA (i:=0) hxl (by omega)) fun u13 _=>?_
 refine J 1 ?_
 refine .ai rfl (ab.ng sizeOf108 rfl rfl (Nat.blt_eq.mpr hil)) ?_
 rintro _ _ ⟨rfl,rfl⟩
 exact JR 9 u13
theorem Iu{W:World}{b i:Nat}{cs:List Value}{v:Value}{xs:List Ptr}{x:Ptr}(hi:cs[i]?=some v)(hx:xs[0]?=some x)(hl:xs.length≤1000000):Fn Tryz.prog W 232 [.pointer (some ⟨b,i,none⟩)] [arr b 0 cs,sl kL 2 v xs] Value (fun _=>.agg (kL x).toArray) (fun _=>True) (fun u=>[arr b 0 (cs.set i u),sl kL 2 u (xs.eraseIdx 0)]):=by
 refine Fn.intro (N:=16) func232 rfl ntmps232 rfl fun F=>?_
 show aq _ _ _ _ _ _ [arr b 0 cs,sl kL 2 v xs,F]
 have hil:=(List.getElem?_eq_some_iff.1 hi).1
 have hxl:=(List.getElem?_eq_some_iff.1 hx).1
 refine J 2 ?_
 refine .ai rfl (ab.alloc rfl zeroValue319 rfl) ?_
 rintro _ _ ⟨b2,rfl,rfl⟩
 refine J 6 ?_
 refine .p (.ld rfl (Cell.a hi)) ?_
 refine J 2 ?_
 refine .ai rfl (ab.alloc rfl zeroValue319 rfl) ?_
 rintro _ _ ⟨b3,rfl,rfl⟩
 refine J 8 ?_
 refine .p (.ld rfl (Cell.a hi)) ?_
 refine .c call248 rfl (Gz (i:=0) hxl (by omega)) fun u13 _=>?_
 refine J 1 ?_
 refine .ai rfl (ab.ng sizeOf171 rfl rfl (Nat.blt_eq.mpr hil)) ?_
 rintro _ _ ⟨rfl,rfl⟩
 refine J 9 ?_
 refine .dt rfl rfl isAgg319 (by exact sizeOf319) Cells.a fun w s=>⟨u13,?_,trivial,aj .auto s⟩
 rfl
theorem E5{W:World}{b:Nat}{t:Tub}{who:Int}(hl:ri t){x:Int}:Fn Tryz.prog W 207 [ptr b,.int .i64 who,.int .u64 x] [gL b t] Unit (fun _=>.tuple #[.bool (t.put who x).1,.int .i64 (t.put who x).2.1,.bool (t.put who x).2.2.1]) (fun _=>True) (fun _=>[gL b (t.put who x).2.2.2]):=by
 refine Fn.intro (N:=61) func207 rfl ntmps207 rfl fun F=>?_
 show aq _ _ _ _ _ _ [gL b t,F]
 refine J 16 ?_
 refine .cg call229 rfl (rW hl) fun _ _=>?_
 refine JD 4 (fun h9=>?_) fun h9=>?_
 ·refine J 10 ?_
  rw[tA h9]
  refine .kS rfl rfl rfl rfl fun w s=>⟨(),?_,trivial,aj .auto s⟩
  rfl
 ·refine J 2 ?_
  refine .o3 (C:=gL b t) .auto rfl ?_
  rintro vw vp vg -
  obtain⟨hl1,hl2,hl3⟩:=hl
  refine JD 9 (fun h17=>?_) fun h17=>?_
  ·refine J 2 ?_
   obtain⟨w,r,hw⟩:=uW (l:=t.fZ) (by omega)
   refine J 3 ?_
   refine .c call230 rfl (Is (i:=3) (v:=vg) (xs:=t.fZ) (x:=w) rfl (by rw[hw];rfl) (by omega)) fun u27 _=>?_
   rw[show t.fZ.eraseIdx 0=r from by rw[hw];rfl]
   refine J 8 ?_
   rw[qo h9 hw]
   refine .kS rfl rfl rfl rfl fun w s=>⟨(),?_,trivial,aj .auto s⟩
   rfl
  ·refine J 1 ?_
   refine .draw [] [1,1,1,1,1,1,1,1,1,1,1] rfl (by kernel_rfl) ?_
   have hg0:t.fZ=[]:=zb (by omega)
   refine JD 13 (fun h28=>?_) fun h28=>?_
   ·refine J 8 ?_
    refine .ai rfl (ab.fG 86 rfl rfl (by kernel_rfl)) ?_
    rintro _ _ ⟨b45,rfl,rfl⟩
    refine .ai rfl (ab.gv (enc:=ey) (k:=1) x rfl underlying108 underlying108 typeInfo86 rfl rfl rfl (by decide) rfl rfl rfl .auto rfl .auto (by omega) rfl) ?_
    rintro _ _ ⟨v46,rfl,rfl⟩
    refine J 2 ?_
    refine .ai rfl (ab.ng sizeOf108 rfl rfl rfl) ?_
    rintro _ _ ⟨rfl,rfl⟩
    refine J 12 ?_
    rw[nK h9 hg0 h28]
    refine .kS rfl rfl rfl rfl fun w s=>⟨(),?_,trivial,aj .auto s⟩
    rfl
   ·refine J 12 ?_
    refine .p (.fW (fun v1 v2=>[v1,v2]) rfl rfl (by kernel_rfl)) ?_
    refine .ai rfl (ab.fG 319 rfl rfl (by kernel_rfl)) ?_
    rintro _ _ ⟨b57,rfl,rfl⟩
    refine .ai rfl (ab.gv (enc:=kL) (k:=2) (⟨who,x⟩:Ptr) rfl underlying171 underlying171 typeInfo319 rfl rfl rfl (by decide) rfl rfl rfl .auto rfl .auto (by omega) rfl) ?_
    rintro _ _ ⟨v58,rfl,rfl⟩
    refine J 2 ?_
    refine .ai rfl (ab.ng sizeOf171 rfl rfl rfl) ?_
    rintro _ _ ⟨rfl,rfl⟩
    refine J 10 ?_
    rw[nL h9 hg0 h28]
    refine .kS rfl rfl rfl rfl fun w s=>⟨(),?_,trivial,aj .auto s⟩
    rfl
theorem E6{W:World}{b:Nat}{t:Tub}{who:Int}(hl:ri t):Fn Tryz.prog W 208 [ptr b,.int .i64 who] [gL b t] Unit (fun _=>.tuple #[.int .u64 (t.get who).1,.bool (t.get who).2.1,.int .i64 (t.get who).2.2.1,.bool (t.get who).2.2.2.1]) (fun _=>True) (fun _=>[gL b (t.get who).2.2.2.2]):=by
 refine Fn.intro (N:=64) func208 rfl ntmps208 rfl fun F=>?_
 show aq _ _ _ _ _ _ [gL b t,F]
 refine J 17 ?_
 refine .cg call229 rfl (rW hl) fun _ _=>?_
 refine JD 4 (fun h10=>?_) fun h10=>?_
 ·refine J 11 ?_
  rw[oO h10]
  refine .FF rfl rfl rfl rfl rfl fun w s=>⟨(),?_,trivial,aj .auto s⟩
  rfl
 ·refine J 2 ?_
  refine .o3 (C:=gL b t) .auto rfl ?_
  rintro vw vp vg -
  obtain⟨hl1,hl2,hl3⟩:=hl
  refine JD 9 (fun h18=>?_) fun h18=>?_
  ·refine J 2 ?_
   have hw0:t.words=[]:=zb (by omega)
   refine J 6 ?_
   refine .ai rfl (ab.fG 3 rfl rfl (by kernel_rfl)) ?_
   rintro _ _ ⟨b31,rfl,rfl⟩
   refine .ai rfl (ab.gv (enc:=ar) (k:=1) who rfl underlying33 underlying33 typeInfo3 rfl rfl rfl (by decide) rfl rfl rfl .auto rfl .auto (by omega) rfl) ?_
   rintro _ _ ⟨v32,rfl,rfl⟩
   refine J 2 ?_
   refine .ai rfl (ab.ng sizeOf33 rfl rfl rfl) ?_
   rintro _ _ ⟨rfl,rfl⟩
   refine J 13 ?_
   rw[get_none h10 hw0]
   refine .FF rfl rfl rfl rfl rfl fun w s=>⟨(),?_,trivial,aj .auto s⟩
   rfl
  ·refine J 5 ?_
   obtain⟨x,r,hw⟩:=uW (l:=t.words) (by omega)
   refine J 3 ?_
   refine .c call231 rfl (It (i:=1) (v:=vw) (xs:=t.words) (x:=x) rfl (by rw[hw];rfl) (by omega)) fun u38 _=>?_
   rw[show t.words.eraseIdx 0=r from by rw[hw];rfl]
   refine JD 14 (fun h44=>?_) fun h44=>?_
   ·refine J 11 ?_
    rw[nM h10 hw (zb (by omega))]
    refine .FF rfl rfl rfl rfl rfl fun w s=>⟨(),?_,trivial,aj .auto s⟩
    rfl
   ·refine J 4 ?_
    obtain⟨p,q,hp⟩:=uW (l:=t.gw) (by omega)
    refine J 3 ?_
    refine .c call232 rfl (Iu (i:=2) (v:=vp) (xs:=t.gw) (x:=p) rfl (by rw[hp];rfl) (by omega)) fun u49 _=>?_
    rw[show t.gw.eraseIdx 0=q from by rw[hp];rfl]
    refine .ai rfl (ab.alloc rfl zeroValue319 rfl) ?_
    rintro _ _ ⟨b9,rfl,rfl⟩
    refine J 4 ?_
    refine .draw [arr b 0 [.int .i64 t.room,u38,u49,vg],arr b9 0 (kL p)] [0,0,0,0,0,1,1,2,2,1,1,3] rfl (by kernel_rfl) ?_
    refine J 7 ?_
    refine .d2 rfl Kept.auto (ab.fG 86 rfl rfl (by kernel_rfl)) (by rintro _ _ ⟨b57,rfl,rfl⟩;exact Kept.auto) ?_
    rintro _ _ ⟨b57,rfl,rfl⟩
    refine .d2 rfl Kept.auto (ab.gv (enc:=ey) (k:=1) p.x rfl underlying108 underlying108 typeInfo86 rfl rfl rfl (by decide) rfl rfl rfl .auto rfl .auto (by have h5:r.length+1=t.words.length:=(by rw[hw];rfl);omega) rfl) (by rintro _ _ ⟨v58,rfl,rfl⟩;exact Kept.auto) ?_
    rintro _ _ ⟨v58,rfl,rfl⟩
    refine J 2 ?_
    refine .d3 rfl (ab.ng sizeOf108 rfl rfl rfl) ?_
    rintro _ _ ⟨rfl,rfl⟩
    refine J 3 ?_
    refine .draw [] [1,1,1,1,1,1,1] rfl (by kernel_rfl) ?_
    refine J 10 ?_
    rw[nN h10 hw hp]
    refine .FF rfl rfl rfl rfl rfl fun w s=>⟨(),?_,trivial,aj .auto s⟩
    rfl
theorem Jr{W:World}{A:aa}{x r:vZ}{c:Nat}:Fn Tryz.prog W 228 [.agg (iL x).toArray,ptr c] [seps [arr c 0 (iL r),A]] Unit (fun _=>.bool (decide (x.who=r.who))) (fun _=>True) (fun _=>[seps [arr c 0 (iL r),A]]):=by
 refine Fn.intro (N:=9) func228 rfl ntmps228 rfl fun F=>?_
 show aq _ _ _ _ _ _ [seps [arr c 0 (iL r),A],F]
 refine .dL .auto ?_
 refine J 2 ?_
 refine .ai rfl (ab.box rfl rfl rfl) ?_
 rintro _ _ ⟨b2,rfl,rfl⟩
 refine .mem (H':=[arr b2 0 (iL x),arr c 0 (iL r),A,F]) (fun w s=>s) ?_
 exact JR 14 ()
theorem E7{W:World}{b:Nat}{d:kW}{r:vZ}(hl:d.wait.length≤1000000):Fn Tryz.prog W 206 [ptr b,.agg (iL r).toArray] [sL b d] Unit (fun _=>.int .i64 (d.ask r).1) (fun _=>True) (fun _=>[sL b (d.ask r).2]):=by
 refine Fn.intro (N:=40) func206 rfl ntmps206 rfl fun F=>?_
 show aq _ _ _ _ _ _ [sL b d,F]
 refine .o2 (C:=sL b d) .auto rfl ?_
 rintro vb vw -
 refine J 2 ?_
 refine .ai rfl (ab.box rfl rfl rfl) ?_
 rintro _ _ ⟨b3,rfl,rfl⟩
 refine .mem (H':=[arr b3 0 (iL r),arr b 0 [vb,vw],sl ey 1 vb d.blocks,sl iL 4 vw d.wait,F]) (fun w s=>s) ?_
 refine J 6 ?_
 refine .draw [] [1,1,1,1,1,1,1,1,1,1,1,1,1,1,1,1,1,1] rfl (by kernel_rfl) ?_
 refine J 8 ?_
 apply ba.fY 9 22 13 [13,14,15,16,17,18,19,20,21,22] rfl
 ·intro h13
  exact JS 10
 ·intro h13
  exact JS 10
 refine JD 3 (fun h5=>?_) fun h5=>?_
 ·refine J 8 ?_
  rw[AN h5]
  exact JR 0 ()
 ·refine J 6 ?_
  refine .p (.makeFunc rfl rfl) ?_
  refine .c call227 rfl (sQ (A:=seps [arr b3 0 (iL r),sl iL 4 vw d.wait]) (p:=fun x=>decide (x.who=r.who)) (Rd.et (Rd.sl (.there .here))) (by omega) call228 (fun x _=>Jr)) fun _ _=>?_
  refine .dL .auto ?_
  refine JD 3 (fun h23=>?_) fun h23=>?_
  ·refine J 8 ?_
   rw[D1 h5 h23]
   exact JR 0 ()
  ·refine J 4 ?_
   refine .draw [arr b 0 [vb,vw],arr b3 0 (iL r)] [0,0,0,0,0,1,2,2,1,1,3] rfl (by kernel_rfl) ?_
   refine J 6 ?_
   refine .d2 rfl Kept.auto (ab.fG 145 rfl rfl (by kernel_rfl)) (by rintro _ _ ⟨b36,rfl,rfl⟩;exact Kept.auto) ?_
   rintro _ _ ⟨b36,rfl,rfl⟩
   refine .mem (H':=[arr b36 0 (iL r),arr b3 0 (iL r),sl iL 4 vw d.wait,arr b 0 [vb,vw],sl ey 1 vb d.blocks,F]) (fun w s=>s) ?_
   refine .d2 rfl Kept.auto (ab.gv (enc:=iL) (k:=4) r rfl underlying165 underlying165 typeInfo145 rfl rfl rfl (by decide) rfl rfl rfl .auto rfl .auto (by omega) rfl) (by rintro _ _ ⟨v37,rfl,rfl⟩;exact Kept.auto) ?_
   rintro _ _ ⟨v37,rfl,rfl⟩
   refine J 2 ?_
   refine .d3 rfl (ab.ng sizeOf165 rfl rfl rfl) ?_
   rintro _ _ ⟨rfl,rfl⟩
   refine J 8 ?_
   rw[D2 h5 h23]
   exact JR 0 ()
end Go.SLYthncobnjdhjnoaaGreat
namespace Go.SLYthncobnjdhjnoaaGreat
open Go Go.RowKit Go.MapKept
def rX(e:MapEntry):Int×Int:=(match e.key with | .int _ k=>k | _=>0,match e.val with | .int _ k=>k | _=>0)
theorem E8{es:List MapEntry}{c:Nat}{l:List (Int×Int)}(h:kF es c l):es.map rX=l∧ ∀ e∈es,e.key = .int .i64 (rX e).1∧e.val = .int .i64 (rX e).2:=by
 have h1:=h.1
 clear h
 induction es generalizing l with
 | nil =>
  cases l with
  | nil=>exact⟨rfl,fun e he=>by cases he⟩
  | cons p l=>cases h1
 | cons e es ih =>
  cases l with
  | nil=>cases h1
  | cons p l =>
   simp only[List.map_cons,List.cons.injEq,Prod.mk.injEq] at h1
   obtain⟨⟨hk,hv⟩,ht⟩:=h1
   obtain⟨i1,i2⟩:=ih ht
   have e1:rX e=p:=by unfold rX;rw[hk,hv]
   refine⟨by rw[List.map_cons,i1,e1],fun x hx=>?_⟩
   rcases List.mem_cons.1 hx with rfl | hx
   ·rw[e1];exact⟨hk,hv⟩
   ·exact i2 x hx
def findI(k:Int):List (Int×Int)→Nat→Option (Nat×Value)
 | [],_=>none
 | p::l,i=>if k=p.1 then some (i,.int .i64 p.2) else findI k l (i+1)
theorem od{k:Int}:∀ {es:List MapEntry} {l:List (Int×Int)} {i:Nat},es.map (fun e=>(e.key,e.val))=l.map (fun p=>(Value.int .i64 p.1,Value.int .i64 p.2))→Instr.findNow (.int .i64) (.int .i64 k) es i=some (findI k l i)
 | [],[],_,_=>rfl
 | [],_::_,_,h=>by cases h
 | _::_,[],_,h=>by cases h
 | e::es,p::l,i,h=>by
  simp only[List.map_cons,List.cons.injEq,Prod.mk.injEq] at h
  obtain⟨⟨hk,hv⟩,ht⟩:=h
  unfold Instr.findNow findI
  rw[hk,hv]
  by_cases e:k=p.1
  ·subst e;simp[Instr.sameNow]
  ·simp only[Instr.sameNow,if_pos,if_neg e]
   rw[show(k == p.1)=false from by simpa using e]
   exact od ht
theorem tY{k:Int}:∀ (l:List (Int×Int)) (i:Nat),(findI k l i).map (·.2)=(kX l k).map (Value.int .i64)
 | [],_=>rfl
 | p::l,i=>by
  unfold findI kX
  rw[List.find?_cons]
  by_cases e:k=p.1
  ·rw[if_pos e];simp[e]
  ·rw[if_neg e,show decide (p.1=k)=false from by simpa using fun h=>e h.symm]
   exact tY l (i+1)
theorem rY{k:Int}:∀ {l:List (Int×Int)} {i j:Nat} {v:Value},findI k l i=some (j,v)→ ∃ n v',j=i+n∧l[n]?=some (k,v')∧ ∀ v'',mapSet l k v''=l.set n (k,v'')
 | [],_,_,_,h=>by cases h
 | p::l,i,j,v,h=>by
  unfold findI at h
  by_cases e:k=p.1
  ·rw[if_pos e] at h;cases h
   exact⟨0,p.2,rfl,by rw[e];rfl,fun v''=>by rw[mapSet,if_pos e.symm];rfl⟩
  ·rw[if_neg e] at h
   obtain⟨n,v',h1,h2,h3⟩:=rY h
   exact⟨n+1,v',by omega,by simpa using h2,fun v''=>by rw[mapSet,if_neg (fun h=>e h.symm),h3];rfl⟩
theorem rZ{k:Int}:∀ {l:List (Int×Int)} {i:Nat},findI k l i=none→(∀ p∈l,p.1≠k)∧ ∀ v,mapSet l k v=l++[(k,v)]
 | [],_,_=>⟨fun p hp=>(by cases hp),fun v=>rfl⟩
 | p::l,i,h=>by
  unfold findI at h
  by_cases e:k=p.1
  ·rw[if_pos e] at h;cases h
  ·rw[if_neg e] at h
   obtain⟨h1,h2⟩:=rZ h
   refine⟨fun q hq=>?_,fun v=>by rw[mapSet,if_neg (fun h=>e h.symm),h2];rfl⟩
   rcases List.mem_cons.1 hq with rfl | hq
   ·exact fun h=>e h.symm
   ·exact h1 q hq
theorem mem_modify{α:Type}{l:List α}{n:Nat}{f:α→α}{x:α}(h:x∈l.modify n f):x∈l∨ ∃ y∈l,x=f y:=by
 induction l generalizing n with
 | nil=>simp at h
 | cons y l ih =>
  cases n with
  | zero =>
   rw[List.modify_zero_cons] at h
   rcases List.mem_cons.1 h with rfl | h
   ·exact .inr ⟨y,by simp,rfl⟩
   ·exact .inl (.tail _ h)
  | succ n =>
   rw[List.modify_succ_cons] at h
   rcases List.mem_cons.1 h with rfl | h
   ·exact .inl (by simp)
   ·rcases ih h with h | ⟨z,hz,rfl⟩
    ·exact .inl (.tail _ h)
    ·exact .inr ⟨z,.tail _ hz,rfl⟩
theorem zM{α β:Type}{l:List α}{n:Nat}{f:α→α}{g:α→β}(h:∀ x,g (f x)=g x):(l.modify n f).map g=l.map g:=by
 induction l generalizing n with
 | nil=>simp
 | cons y l ih =>
  cases n with
  | zero=>simp[h]
  | succ n=>simp[ih]
theorem r8{α β:Type}{l:List α}{n:Nat}{f:α→α}{g:α→β}{b:β}(h:∀ x,g (f x)=b):(l.modify n f).map g=(l.map g).set n b:=by
 induction l generalizing n with
 | nil=>simp
 | cons y l ih =>
  cases n with
  | zero=>simp[h]
  | succ n=>simp[ih]
theorem GJ{l:List (Int×Int)}{n:Nat}{k v v':Int}(h:l[n]?=some (k,v')):(l.set n (k,v)).map (·.1)=l.map (·.1):=by
 rw[List.map_set]
 exact jC (by rw[List.getElem?_map,h];rfl)
theorem Iv{es:List MapEntry}{c n:Nat}{l:List (Int×Int)}{k v v':Int}(h:kF es c l)(hn:l[n]?=some (k,v')) :
  kF (es.modify n fun e=>{e with key:=.int .i64 k,val:=.int .i64 v }) c (l.set n (k,v)):=by
 obtain⟨h1,h2,h3,h4⟩:=h
 refine⟨?_,by rw[GJ hn];exact h2,fun e he=>?_,?_⟩
 ·rw[r8 (f:=fun e:MapEntry=>{e with key:=.int .i64 k,val:=.int .i64 v }) (g:=fun e:MapEntry=>(e.key,e.val)) (b:=(Value.int .i64 k,Value.int .i64 v)) (fun _=>rfl),h1,List.map_set]
 ·rcases mem_modify he with he | ⟨y,hy,rfl⟩
  ·exact h3 e he
  ·exact h3 y hy
 ·rw[zM (f:=fun e:MapEntry=>{e with key:=.int .i64 k,val:=.int .i64 v }) (g:=fun e:MapEntry=>e.born) (fun _=>rfl)];exact h4
theorem GK{es:List MapEntry}{c:Nat}{l:List (Int×Int)}{k v:Int}(h:kF es c l)(hn:∀ p∈l,p.1≠k) :
  kF (es++[{key:=.int .i64 k,val:=.int .i64 v,born:=c }]) (c+1) (l++[(k,v)]):=by
 obtain⟨h1,h2,h3,h4⟩:=h
 refine⟨by simp[h1],?_,fun e he=>?_,?_⟩
 ·rw[List.map_append,List.nodup_append]
  refine⟨h2,by simp,fun a ha b hb=>?_⟩
  obtain⟨p,hp,rfl⟩:=List.mem_map.1 ha
  simp only[List.map_cons,List.map_nil,List.mem_cons,List.not_mem_nil,or_false] at hb
  subst hb;exact hn p hp
 ·rcases List.mem_append.1 he with he | he
  ·have:=h3 e he;omega
  ·simp only[List.mem_cons,List.not_mem_nil,or_false] at he;subst he;exact Nat.lt_succ_self _
 ·rw[List.map_append,List.nodup_append]
  refine⟨h4,by simp,fun a ha b hb=>?_⟩
  obtain⟨e,he,rfl⟩:=List.mem_map.1 ha
  simp only[List.map_cons,List.map_nil,List.mem_cons,List.not_mem_nil,or_false] at hb
  subst hb;have:=h3 e he;omega
theorem Iw{l:List (Int×Int)}{n:Nat}{k v:Int}(hd:(l.map (·.1)).Nodup)(h:l[n]?=some (k,v)):fH l k=l.eraseIdx n:=by
 induction l generalizing n with
 | nil=>simp at h
 | cons p l ih =>
  simp only[List.map_cons,List.nodup_cons] at hd
  cases n with
  | zero =>
   simp at h;subst h
   unfold fH
   rw[List.filter_cons,if_neg (by simp),List.eraseIdx_cons_zero,List.filter_eq_self]
   intro q hq
   have:q.1≠k:=fun e=>hd.1 (List.mem_map.2 ⟨q,hq,e⟩)
   simpa using this
  | succ n =>
   have hn:l[n]?=some (k,v):=by simpa using h
   have hm:k∈l.map (·.1):=List.mem_map.2 ⟨_,List.mem_of_getElem? hn,rfl⟩
   unfold fH
   rw[List.filter_cons,if_pos (by have:p.1≠k:=(fun e=>hd.1 (by rw[e];exact hm));simpa using this),List.eraseIdx_cons_succ]
   congr 1
   exact ih hd.2 hn
theorem Ix{l:List (Int×Int)}{k:Int}(h:∀ p∈l,p.1≠k):fH l k=l:=by
 unfold fH
 rw[List.filter_eq_self]
 exact fun q hq=>by simpa using h q hq
theorem jK{α β:Type}(f:α→β):∀ (l:List α) (n:Nat),(l.eraseIdx n).map f=(l.map f).eraseIdx n
 | [],_=>rfl
 | x::l,0=>rfl
 | x::l,n+1=>by rw[List.eraseIdx_cons_succ,List.map_cons,List.map_cons,List.eraseIdx_cons_succ,jK f l n]
theorem Iy{es:List MapEntry}{c n:Nat}{l:List (Int×Int)}(h:kF es c l):kF (es.eraseIdx n) c (l.eraseIdx n):=by
 obtain⟨h1,h2,h3,h4⟩:=h
 refine⟨?_,?_,fun e he=>h3 e ((List.eraseIdx_sublist _ _).mem he),?_⟩
 ·rw[jK,jK,h1]
 ·rw[jK];exact h2.sublist (List.eraseIdx_sublist _ _)
 ·rw[jK];exact h4.sublist (List.eraseIdx_sublist _ _)
theorem E9{α:Type}(es:Array α)(x:α):(es.toList++[x]).toArray=es.push x:=by
 apply Array.ext'
 simp
theorem GL{α:Type}(es:Array α)(n:Nat)(f:α→α):(es.toList.modify n f).toArray=es.modify n f:=by
 apply Array.ext'
 simp
theorem Cw{α:Type}(es:Array α)(n:Nat):(es.toList.eraseIdx n).toArray=es.eraseIdxIfInBounds n:=by
 apply Array.ext'
 simp
theorem gG{P:Program}{w:World}{r:Nat}{o:Obj}(hb:w.heap[r]?=some o)(hc:cellsB o=false:=by rfl):(getObj r).run P w = .ok o w:=by
 cases o with
 | cells=>exact absurd hc (by simp[cellsB])
 | _=>simp[getObj,Sem.run,hb]
theorem oe{P:Program}{w:World}{r:Nat}{o:Obj}(o':Obj)(hb:w.heap[r]?=some o)(hc:cellsB o=false:=by rfl):(setObj r o').run P w = .ok () {w with heap:=w.heap.setIfInBounds r o' }:=by
 cases o with
 | cells=>exact absurd hc (by simp[cellsB])
 | _=>simp[setObj,Sem.run,hb]
section
variable{P:Program}{W:World}{N:Nat}{L:List (Nat×Option Value)}{H R:List aa}{T:TypeId}{O:Array Oper}
theorem Iz{m:Nat}{l:List (Int×Int)}(t:At H (mu m l)){w:World}(s:Sat W w (seps H)):∃ es c,kF es c l∧w.heap[m]?=some (.map es.toArray c):=by
 obtain⟨R,s⟩:=t.sat s
 obtain⟨h,⟨h1,h2,⟨es,c,ho,a⟩,r,d,e'⟩,hin⟩:=s.own
 simp only[seps,aH] at a
 exact⟨es,c,ho,(jk (b:=m) (x:=.map es.toArray c) (R:=R) {s with own:=⟨h,⟨h1,h2,a,r,d,e'⟩,hin⟩ }).2.1⟩
theorem Y.Js{t kt vt:TypeId}{x y:Operand}{m:Nat}{l:List (Int×Int)}{k:Int}(hu:P.underlying t=some (.map kt vt))(hk:P.underlying kt=some (.int .i64))(hz:∀ w,(zeroValue vt).run P w = .ok (.int .i64 0) w)(hx:ev L x=some (.map (some m)))(hy:ev L y=some (.int .i64 k))(ht:At H (mu m l)) :
  Y P W N (.lookup t x y false) T L H (.int .i64 ((kX l k).getD 0)):=fun dst pos after guard a w ha hs=>by
 simp only[execOp,ha.eval hx,ha.eval hy]
 refine bF ?_
 obtain⟨es,c,ho,hb⟩:=Iz ht hs
 have hf:=run_findKey (P:=P) (w:=w) hk (od (k:=k) (i:=0) ho.1)
 have hc:=run_checkKey (P:=P) (w:=w) hk (k:=.int .i64 k) rfl (es.toArray.isEmpty) 9999
 have hg:=tY (k:=k) l 0
 unfold Instr.lookup
 simp only[Sem.run_bind,run_underlying hu,Result.andThen_ok,gG hb,Sem.run_pure,hc,hf]
 cases e:findI k l 0 with
 | none =>
  rw[e] at hg
  have:kX l k=none:=by simpa using hg.symm
  simp[hz,this]
 | some p =>
  rw[e] at hg
  cases hm:kX l k with
  | none=>rw[hm] at hg;cases hg
  | some v =>
   rw[hm] at hg
   have:p.2 = .int .i64 v:=by simpa using hg
   simp[this]
theorem ab.Hk{o:Oper}{m:Nat}{l l':List (Int×Int)}(hd:o.dst=none)(t:Take H (mu m l) R)
  (h:∀ a w es c,Env N L a→w.heap[m]?=some (.map es c)→kF es.toList c l→ ∃ es' c',kF es' c' l'∧((execOp a.eval o).run P w = .ok .skip {w with heap:=w.heap.setIfInBounds m (.map es'.toArray c') }∨ ∃ v,(execOp a.eval o).run P w = .ok (.value v) {w with heap:=w.heap.setIfInBounds m (.map es'.toArray c') })) :
  ab P W N o L H (fun L1 H1=>L1=L∧H1=mu m l'::R):=fun a w ha hs Kp hK=>by
 rw[t.seps] at hs
 obtain⟨hp,⟨h1,h2,⟨es,c,ho,am⟩,r,d,e'⟩,hin⟩:=hs.own
 simp only[seps,aH] at am
 have hs2:Sat W w (sep (ig m (.map es.toArray c)) (seps R)):={hs with own:=⟨hp,⟨h1,h2,am,r,d,e'⟩,hin⟩ }
 obtain⟨es',c',ho',hr⟩:=h a w es.toArray c ha (jk hs2).2.1 (by simpa using ho)
 have hs3:=hs2.setObj (.map es'.toArray c') rfl
 have hs4:Sat W {w with heap:=w.heap.setIfInBounds m (.map es'.toArray c') } (seps (mu m l'::R)) :=
  hs3.mono (bn (fun g b=>⟨es',c',ho',by simpa only[seps,aH] using b⟩) fun _ b=>b)
 unfold Oper.wp
 rcases hr with hr | ⟨v,hr⟩
 ·rw[hr]
  simp only[Oper.upon]
  rw[hd]
  exact hK _ _ ⟨rfl,rfl⟩ _ _ ⟨ha.size,ha.get,ha.defers⟩ hs4
 ·rw[hr]
  simp only[Oper.upon]
  rw[hd]
  exact hK _ _ ⟨rfl,rfl⟩ _ _ ⟨ha.size,ha.get,ha.defers⟩ hs4
theorem ab.mapSet{t kt vt:TypeId}{x y z:Operand}{pos:String}{after:Array Edge}{guard:Option (Nat×Bool)}{m:Nat}{l:List (Int×Int)}{k v:Int}(hu:P.underlying t=some (.map kt vt))(hk:P.underlying kt=some (.int .i64))(hx:ev L x=some (.map (some m)))(hy:ev L y=some (.int .i64 k))(hz:ev L z=some (.int .i64 v))(ht:Take H (mu m l) R) :
  ab P W N ⟨none,.mapUpdate t x y z,T,pos,after,guard⟩ L H (fun L1 H1=>L1=L∧H1=mu m (mapSet l k v)::R) :=
 ab.Hk rfl ht fun a w es c ha hb ho=>by
  have hf:=run_findKey (P:=P) (w:=w) hk (od (k:=k) (i:=0) ho.1)
  have hc:=run_checkKey (P:=P) (w:=w) hk (k:=.int .i64 k) rfl false 9999
  cases e:findI k l 0 with
  | none =>
   obtain⟨h1,h2⟩:=rZ e
   refine⟨es.toList++[{key:=.int .i64 k,val:=.int .i64 v,born:=c }],c+1,by rw[h2];exact GK ho h1,.inl ?_⟩
   rw[e] at hf
   simp only[execOp,ha.eval hx,ha.eval hy,ha.eval hz]
   show(Instr.mapUpdate t (.map (some m)) (.int .i64 k) (.int .i64 v) >>= fun _=>pure Next.skip).run P w=_
   simp only[Instr.mapUpdate,Sem.run_bind,run_underlying hu,Result.andThen_ok,gG hb,hc,hf,oe _ hb,Sem.run_pure,E9]
  | some p =>
   obtain⟨j,val⟩:=p
   obtain⟨n,v',hj,hn,h3⟩:=rY e
   obtain rfl:j=n:=by omega
   refine⟨es.toList.modify j fun e=>{e with key:=.int .i64 k,val:=.int .i64 v },c,by rw[h3];exact Iv ho hn,.inl ?_⟩
   rw[e] at hf
   have hkey:((es[j]?).map (·.key)).getD (.int .i64 k) = .int .i64 k:=by
    have h1:=ho.1
    have:(es.toList.map fun e=>(e.key,e.val))[j]?=some (.int .i64 k,.int .i64 v'):=by rw[h1,List.getElem?_map,hn];rfl
    rw[List.getElem?_map] at this
    cases he:es.toList[j]? with
    | none=>rw[he] at this;cases this
    | some en =>
     rw[he] at this
     have h5:en.key = .int .i64 k:=by simpa using congrArg (fun o=>o.map Prod.fst) this
     rw[← Array.getElem?_toList,he]
     exact h5
   simp only[execOp,ha.eval hx,ha.eval hy,ha.eval hz]
   show(Instr.mapUpdate t (.map (some m)) (.int .i64 k) (.int .i64 v) >>= fun _=>pure Next.skip).run P w=_
   simp only[Instr.mapUpdate,Sem.run_bind,run_underlying hu,Result.andThen_ok,gG hb,hc,hf,hkey,run_keyThatStays (d:=.int .i64) (k:=.int .i64 k) rfl,oe _ hb,Sem.run_pure,GL]
theorem ab.fH{t kt vt:TypeId}{ts:Array TypeId}{x y:Operand}{pos:String}{after:Array Edge}{guard:Option (Nat×Bool)}{m:Nat}{l:List (Int×Int)}{k:Int}(hu:P.underlying t=some (.map kt vt))(hk:P.underlying kt=some (.int .i64))(hx:ev L x=some (.map (some m)))(hy:ev L y=some (.int .i64 k))(ht:Take H (mu m l) R)(hts:ts[0]?=some t) :
  ab P W N ⟨none,.call ⟨.builtin .delete, #[x,y],ts⟩,T,pos,after,guard⟩ L H (fun L1 H1=>L1=L∧H1=mu m (SLYthncobnjdhjnoaaGreat.fH l k)::R) :=
 ab.Hk rfl ht fun a w es c ha hb ho=>by
  have hf:=run_findKey (P:=P) (w:=w) hk (od (k:=k) (i:=0) ho.1)
  have hc:=run_checkKey (P:=P) (w:=w) hk (k:=.int .i64 k) rfl es.isEmpty 9999
  have hrun:∀ o:Option (Nat×Value),Instr.findKey kt (.int .i64 k) es.toList=Instr.findKey kt (.int .i64 k) es.toList:=fun _=>rfl
  cases e:findI k l 0 with
  | none =>
   obtain⟨h1,h2⟩:=rZ e
   refine⟨es.toList,c,by rw[Ix h1];exact ho,.inr ⟨.tuple #[],?_⟩⟩
   rw[e] at hf
   simp[execOp,resolve,invoke,builtin,ha.eval hx,ha.eval hy,Builtin.delete_,hts,run_underlying hu,gG hb,hc,hf,oe _ hb]
  | some p =>
   obtain⟨j,val⟩:=p
   obtain⟨n,v',hj,hn,h3⟩:=rY e
   obtain rfl:j=n:=by omega
   refine⟨es.toList.eraseIdx j,c,by rw[Iw ho.2.1 hn];exact Iy ho,.inr ⟨.tuple #[],?_⟩⟩
   rw[e] at hf
   simp[execOp,resolve,invoke,builtin,ha.eval hx,ha.eval hy,Builtin.delete_,hts,run_underlying hu,gG hb,hc,hf,oe _ hb,Cw]
end
end Go.SLYthncobnjdhjnoaaGreat
namespace Go.SLYthncobnjdhjnoaaGreat
open Go Go.RowKit Go.MapKept
def Hl(it m c:Nat)(seen:List MapEntry):aa:=ig it (.mapIter (some m) c (seen.map (·.born)).toArray c)
def nextA:Option MapEntry→Array Value
 | none => #[.bool false]
 | some e => #[.bool true,e.key,e.val]
def Bd(o:Option MapEntry):Value:=.tuple (nextA o)
theorem IA(o:Option MapEntry):(nextA o)[0]?=some (.bool o.isSome):=by cases o <;> rfl
section
variable{P:Program}{W:World}{N:Nat}{L:List (Nat×Option Value)}{H R:List aa}{T:TypeId}{O:Array Oper}
theorem vE{m:Nat}{x:Obj}(t:At H (ig m x)){w:World}(s:Sat W w (seps H)):w.heap[m]?=some x:=by
 obtain⟨R,s⟩:=t.sat s
 exact(jk s).2.1
theorem ab.IB{t kt vt:TypeId}{x:Operand}{pos:String}{after:Array Edge}{guard:Option (Nat×Bool)}{d m c:Nat}{es:List MapEntry}(hN:Nat.blt d N=true)(hu:P.underlying t=some (.map kt vt))(hx:ev L x=some (.map (some m)))(ht:At H (ig m (.map es.toArray c))) :
  ab P W N ⟨some d,.range t x,T,pos,after,guard⟩ L H (fun L1 H1=>∃ it,L1=(d,some (ptr it))::L∧H1=Hl it m c []::H):=fun a w ha hs Kp hK=>by
 have hb:=vE ht hs
 have hrun:(execOp a.eval ⟨some d,.range t x,T,pos,after,guard⟩).run P w = .ok (.value (ptr w.heap.size)) (w.alloc (.mapIter (some m) c #[] c)):=by
  simp only[execOp,ha.eval hx]
  show(Instr.range t (.map (some m)) >>= fun x=>pure (Next.value x)).run P w=_
  simp[Instr.range,run_underlying hu,gG hb]
 unfold Oper.wp
 rw[hrun]
 simp only[Oper.upon]
 exact hK _ _ ⟨w.heap.size,rfl,rfl⟩ _ _ (ha.put (Nat.blt_eq.mp hN) _) (hs.wb _ rfl)
def lC(es:Array MapEntry)(seen:Array Nat):Array MapEntry:=es.filter fun e => !seen.contains e.born
theorem Fa{es:Array MapEntry}{seen:Array Nat}{c:Nat}(h:∀ e∈es.toList,e.born<c):(lC es seen).filter (fun e=>decide (e.born<c))=lC es seen:=by
 rw[Array.filter_eq_self]
 intro e he
 have:e∈es:=(Array.mem_filter.1 he).1
 simpa using h e (by simpa using this)
theorem Fb{es:Array MapEntry}{seen:Array Nat}{c:Nat}(h:∀ e∈es.toList,e.born<c):(lC es seen).filter (fun e=>decide (e.born≥c)) = #[]:=by
 rw[Array.filter_eq_empty_iff]
 intro e he
 have:e∈es:=(Array.mem_filter.1 he).1
 have:=h e (by simpa using this)
 simp;omega
theorem choose_lt{n:Nat}(hn:0<n)(w:World):∃ i w',(choose (.mapNext n)).run P w = .ok i w'∧i<n∧(w'=w∨w'=w.drew):=by
 rw[run_choose_drew]
 by_cases h:n≤1
 ·exact⟨0,w,by simp[Question.forced,h],hn,.inl rfl⟩
 ·exact⟨(Question.mapNext n).cut (w.tape w.drawn (.mapNext n)),w.drew,by simp[Question.forced,h],Nat.mod_lt _ hn,.inr rfl⟩
def tZ(l:Array MapEntry):Array (Option MapEntry):=(if l.isEmpty=true then #[none] else #[])++(l ++ #[]).map some
def stepN(it m c:Nat)(sn:Array Nat):Option (Option MapEntry)→Sem Value
 | some (some e)=>do
  setObj it (.mapIter (some m) c (sn.push e.born) c)
  pure (.tuple #[.bool true,e.key,e.val])
 | some none=>pure (.tuple #[.bool false])
 | none => stuck "Next: no such candidate"
theorem Fc{it m c:Nat}{es:Array MapEntry}{sn:Array Nat}{w:World}(hit:w.heap[it]?=some (.mapIter (some m) c sn c))(hbm:w.heap[m]?=some (.map es c))(hc:∀ e∈es.toList,e.born<c) :
  (Instr.next (ptr it) false T).run P w=((choose (.mapNext (tZ (lC es sn)).size)).run P w).andThen fun i w'=>(stepN it m c sn (tZ (lC es sn))[i]?).run P w':=by
 have hguard:(!sn.isEmpty && !es.isEmpty && es.all fun e=>decide (e.born≥c))=false:=by
  obtain⟨l⟩:=es
  cases l with
  | nil=>simp
  | cons e es =>
   have:=hc e (by simp)
   simp;intro _ _;omega
 have hold:=Fa (seen:=sn) hc
 have hnew:=Fb (seen:=sn) hc
 unfold lC at hold hnew
 unfold Instr.next
 simp only[Sem.run_bind,gG hit,Result.andThen_ok,gG hbm,hguard,Bool.false_eq_true,if_false]
 unfold lC
 rw[hold,hnew]
 show((choose (.mapNext (tZ (lC es sn)).size)).run P w).andThen _=_
 rfl
theorem zN{s:Sem Value}{v:Value}{w w':World}(h:s.run P w = .ok v w'):(do pure (Next.value (← s)):Sem Next).run P w = .ok (.value v) w':=by
 simp[h]
theorem ab.dB{x:Operand}{pos:String}{after:Array Edge}{guard:Option (Nat×Bool)}{d it m c:Nat}{es seen:List MapEntry}(hN:Nat.blt d N=true)(hx:ev L x=some (ptr it))(ht:Take H (Hl it m c seen) R)(hm:At R (ig m (.map es.toArray c)))(hc:∀ e∈es,e.born<c) :
  ab P W N ⟨some d,.next x false,T,pos,after,guard⟩ L H (fun L1 H1=>∃ o:Option MapEntry,((o=none→ ∀ e∈es,e.born∈seen.map (fun e=>e.born))∧ ∀ e,o=some e→e∈es∧¬e.born∈seen.map (fun e=>e.born))∧L1=(d,some (Bd o))::L∧H1=Hl it m c (seen++o.toList)::R):=fun a w ha hs Kp hK=>by
 rw[ht.seps] at hs
 obtain⟨sn,hsn⟩:∃ sn,sn=(seen.map (fun e=>e.born)).toArray:=⟨_,rfl⟩
 have hit:w.heap[it]?=some (.mapIter (some m) c sn c):=by rw[hsn];exact(jk (b:=it) (x:=.mapIter (some m) c (seen.map (·.born)).toArray c) hs).2.1
 have hbm:w.heap[m]?=some (.map es.toArray c):=vE hm hs.right
 have hdone:∀ o:Option MapEntry,((o=none→ ∀ e∈es,e.born∈seen.map (fun e=>e.born))∧ ∀ e,o=some e→e∈es∧¬e.born∈seen.map (fun e=>e.born))→ ∀ w',(Instr.next (ptr it) false T).run P w = .ok (Bd o) w'→Sat W w' (sep (Hl it m c (seen++o.toList)) (seps R))→Oper.wp P ⟨some d,.next x false,T,pos,after,guard⟩ a w Kp QF:=fun o ho w' hr hs'=>by
  have h2:(execOp a.eval ⟨some d,.next x false,T,pos,after,guard⟩).run P w = .ok (.value (Bd o)) w':=by
   simp only[execOp,ha.eval hx]
   exact zN hr
  unfold Oper.wp
  rw[h2]
  simp only[Oper.upon]
  exact hK _ _ ⟨o,ho,rfl,rfl⟩ _ _ (ha.put (Nat.blt_eq.mp hN) _) hs'
 have hstart:=Fc (P:=P) (T:=T) hit hbm (by simpa using hc)
 have hin:∀ e,e∈lC es.toArray sn↔e∈es∧¬e.born∈seen.map (fun e=>e.born):=fun e=>by
  unfold lC
  rw[Array.mem_filter,hsn]
  simp
 generalize hl:lC es.toArray sn=l at hstart hin
 by_cases he:l = #[]
 ·subst he
  refine hdone none ⟨fun _ e hem=>Decidable.byContradiction fun hn=>?_,fun e h=>(by cases h)⟩ w ?_ (by simpa using hs)
  ·have:=(hin e).2 ⟨hem,hn⟩
   simp at this
  ·rw[hstart]
   simp[Question.forced,Bd,nextA,tZ,stepN]
 ·have hne:l.isEmpty=false:=by
   cases h:l.isEmpty
   ·rfl
   ·exact absurd (by simpa using h) he
  have hpos:0<l.size:=by
   rcases Nat.eq_zero_or_pos l.size with h | h
   ·exact absurd (Array.eq_empty_of_size_eq_zero h) he
   ·exact h
  have hcs:tZ l=l.map some:=by unfold tZ;rw[hne];simp
  rw[hcs,Array.size_map] at hstart
  obtain⟨i,w',hr,hi,hw⟩:=choose_lt (P:=P) hpos w
  have hei:(l.map some)[i]?=some (some l[i]):=by simp[hi]
  have hmem:=(hin l[i]).1 (Array.getElem_mem hi)
  have hs':Sat W w' (sep (Hl it m c seen) (seps R)):=by
   rcases hw with rfl | rfl
   ·exact hs
   ·exact hs.drew
  have hit':w'.heap[it]?=some (.mapIter (some m) c sn c):=by rw[hsn];exact(jk (b:=it) (x:=.mapIter (some m) c (seen.map (·.born)).toArray c) hs').2.1
  refine hdone (some l[i]) ⟨fun h=>(by cases h),fun e h=>(by cases h;exact hmem)⟩ {w' with heap:=w'.heap.setIfInBounds it (.mapIter (some m) c (sn.push l[i].born) c) } ?_ ?_
  ·rw[hstart,hr]
   simp only[Result.andThen_ok,hei,stepN,Sem.run_bind,oe _ hit',Sem.run_pure]
   rfl
  ·have:=hs'.setObj (.mapIter (some m) c (sn.push l[i].born) c) rfl
   refine this.eq ?_
   unfold Hl
   rw[hsn]
   congr 3
   simp
theorem Y.IC{x:Operand}{it m c:Nat}{es seen:List MapEntry}{e:MapEntry}(hx:ev L x=some (ptr it))(ht:At H (Hl it m c (seen++[e])))(hm:At H (ig m (.map es.toArray c)))(he:e∈es)(hd:(es.map (·.born)).Nodup) :
  Y P W N (.entry x) T L H (.tuple #[e.key,e.val]):=fun dst pos after guard a w ha hs=>by
 simp only[execOp,ha.eval hx]
 refine bF ?_
 have hit:=vE ht hs
 have hbm:=vE hm hs
 have hf:es.toArray.find? (·.born == e.born)=some e:=by
  rw[List.find?_toArray]
  clear hm hbm
  induction es with
  | nil=>cases he
  | cons y es ih =>
   simp only[List.map_cons,List.nodup_cons] at hd
   rw[List.find?_cons]
   rcases List.mem_cons.1 he with rfl | he'
   ·simp
   ·have:y.born≠e.born:=fun h=>hd.1 (by rw[h];exact List.mem_map_of_mem he')
    rw[show(y.born == e.born)=false from by simpa using this]
    exact ih he' hd.2
 unfold Instr.entry
 simp[gG hit,gG hbm,hf]
end
end Go.SLYthncobnjdhjnoaaGreat
namespace Go.SLYthncobnjdhjnoaaGreat
open Go Go.RowKit
theorem sa(x:Int):∀ l:List Int,(cM x l).Perm (x::l)
 | []=>.refl _
 | y::l=>by
  rw[cM]
  split
  ·exact .refl _
  ·exact((sa x l).cons y).trans (.swap x y l)
theorem jL:∀ l:List Int,(fK l).Perm l
 | []=>.refl _
 | x::l=>(sa x (fK l)).trans ((jL l).cons x)
theorem sb(x:Int):∀ {l:List Int},l.Pairwise (·≤ ·)→(cM x l).Pairwise (·≤ ·)
 | [],_=>by simp[cM]
 | y::l,h=>by
  rw[cM]
  have hy:=(List.pairwise_cons.1 h)
  split
  ·rename_i hx
   refine List.pairwise_cons.2 ⟨fun z hz=>?_,h⟩
   rcases List.mem_cons.1 hz with rfl | hz
   ·exact hx
   ·exact Int.le_trans hx (hy.1 z hz)
  ·rename_i hx
   refine List.pairwise_cons.2 ⟨fun z hz=>?_,sb x hy.2⟩
   rcases List.mem_cons.1 ((sa x l).mem_iff.1 hz) with rfl | hz
   ·omega
   ·exact hy.1 z hz
theorem iW:∀ l:List Int,(fK l).Pairwise (·≤ ·)
 | []=>.nil
 | x::l=>sb x (iW l)
theorem uc{a b:List Int}(ha:a.Pairwise (·≤ ·))(hb:b.Pairwise (·≤ ·))(h:a.Perm b):a=b :=
 List.Perm.eq_of_pairwise (fun _ _ _ _ h1 h2=>Int.le_antisymm h1 h2) ha hb h
theorem zO(l:List Int):l.mergeSort (fun x y=>decide (x≤y))=fK l:=by
 refine uc ?_ (iW l) ((List.mergeSort_perm l _).trans (jL l).symm)
 have:=List.pairwise_mergeSort (le:=fun x y:Int=>decide (x≤y)) (fun a b c h1 h2=>by simp only[decide_eq_true_eq] at *;omega) (fun a b=>by simp only[Bool.or_eq_true,decide_eq_true_eq];omega) l
 exact this.imp fun h=>by simpa using h
theorem vG{a b:List Int}(h:a.Perm b):fK a=fK b:=uc (iW a) (iW b) ((jL a).trans (h.trans (jL b).symm))
theorem jM(l:List Int):(fK l).length=l.length:=(jL l).length_eq
def jN(n:Int)(l:List MapEntry):List Int:=(l.filter fun e=>decide ((rX e).2≤n)).map fun e=>(rX e).1
theorem GM{n:Int}{l:List MapEntry}{e:MapEntry}(h:(rX e).2≤n):jN n (l++[e])=jN n l++[(rX e).1]:=by
 unfold jN;rw[List.filter_append];simp[h]
theorem ID{n:Int}{l:List MapEntry}{e:MapEntry}(h:¬(rX e).2≤n):jN n (l++[e])=jN n l:=by
 unfold jN;rw[List.filter_append];simp[h]
theorem GN(n:Int)(l:List MapEntry):(jN n l).length≤l.length:=by unfold jN;rw[List.length_map];exact List.length_filter_le _ _
structure gW(es seen:List MapEntry):Prop where
 nd:(seen.map fun e=>e.born).Nodup
 sub:∀ e∈seen,e∈es
theorem gW.zero(es:List MapEntry):gW es []:=⟨.nil,fun e h=>by cases h⟩
theorem gW.len{es seen:List MapEntry}(h:gW es seen):seen.length≤es.length:=by
 have:=List.Nodup.length_le_of_subset (l₂ := es.map fun e=>e.born) h.nd (fun b hb=>by
  obtain⟨e,he,rfl⟩:=List.mem_map.1 hb
  exact List.mem_map.2 ⟨e,h.sub e he,rfl⟩)
 simpa using this
theorem gW.next{es seen:List MapEntry}(h:gW es seen){e:MapEntry}(he:e∈es)(hn:¬e.born∈seen.map (fun e=>e.born)):gW es (seen++[e]):=by
 refine⟨?_,fun x hx=>?_⟩
 ·rw[List.map_append,List.nodup_append]
  refine⟨h.nd,by simp,fun a ha b hb=>?_⟩
  simp only[List.map_cons,List.map_nil,List.mem_cons,List.not_mem_nil,or_false] at hb
  subst hb
  exact fun e'=>hn (e' ▸ ha)
 ·rcases List.mem_append.1 hx with hx | hx
  ·exact h.sub x hx
  ·simp only[List.mem_cons,List.not_mem_nil,or_false] at hx;subst hx;exact he
theorem ky{α β:Type}{f:α→β}:∀ {l:List α},(l.map f).Nodup→l.Nodup
 | [],_=>.nil
 | x::l,h=>by
  simp only[List.map_cons,List.nodup_cons] at h
  exact List.nodup_cons.2 ⟨fun hx=>h.1 (List.mem_map_of_mem hx),ky h.2⟩
theorem gW.all{es seen:List MapEntry}(h:gW es seen)(hd:(es.map fun e=>e.born).Nodup)(ha:∀ e∈es,e.born∈seen.map (fun e=>e.born)):seen.Perm es:=by
 refine(List.perm_ext_iff_of_nodup (ky h.nd) (ky hd)).2 fun e=>⟨h.sub e,fun he=>?_⟩
 obtain⟨x,hx,hb⟩:=List.mem_map.1 (ha e he)
 have hxe:=h.sub x hx
 clear ha h
 have:x=e:=by
  induction es with
  | nil=>cases he
  | cons y es ih =>
   simp only[List.map_cons,List.nodup_cons] at hd
   rcases List.mem_cons.1 he with h1 | h1
   ·rcases List.mem_cons.1 hxe with h2 | h2
    ·rw[h1,h2]
    ·exact absurd (List.mem_map.2 ⟨x,h2,by rw[hb,h1]⟩) hd.1
   ·rcases List.mem_cons.1 hxe with h2 | h2
    ·exact absurd (List.mem_map.2 ⟨e,h1,by rw[← hb,h2]⟩) hd.1
    ·exact ih hd.2 h1 h2
 rwa [← this]
theorem Be{w:kK}{es seen:List MapEntry}{c:Nat}(ho:kF es c w.gx)(h:gW es seen)(ha:∀ e∈es,e.born∈seen.map (fun e=>e.born)):fK (jN (min (w.now+1) 1099511627776) seen)=w.due:=by
 have hp:=h.all ho.2.2.2 ha
 unfold kK.due
 refine vG ?_
 rw[← (E8 ho).1,List.filter_map,List.map_map]
 exact(hp.filter _).map _
end Go.SLYthncobnjdhjnoaaGreat
