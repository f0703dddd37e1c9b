/- Walks of functions, and what they compute. Conditions: none, this text proves no statement. -/
import Derived.Test.YthlllpngkljgfaaGreatG07
import Derived.Test.YthlllpngkljgfaaGreatProg
import Derived.Test.YthlllpngkljgfaaGreatG09
import Derived.KernelRfl
import Derived.Test.YthlllpngkljgfaaGreatG04
import Derived.Test.YthlllpngkljgfaaGreatG05
set_option maxRecDepth 20000
set_option maxHeartbeats 4000000
namespace Go.SLYthlllpngkljgfaaGreat
open Go Go.RowKit Go.Proofs Go.Proofs.Tryz
attribute [local irreducible] ar aM bm bA bE Y
theorem AH{W:World}{b:Nat}{w:mm}{who n:Int}(hn:0≤w.now∧w.now≤1099511627776):Fn Tryz.prog W 265 [ptr b,.int .i64 who,.int .i64 n] [ou b w] Unit (fun _=>.int .i64 (w.sleep who n).1) (fun _=>True) (fun _=>[ou b (w.sleep who n).2]):=by
 refine Fn.intro (N:=38) func265 rfl ntmps265 rfl fun F=>?_
 show ar _ _ _ _ _ _ [ou b w,F]
 refine .o1 (C:=ou b w) .auto rfl ?_
 rintro m -
 refine J 16 ?_
 apply aM.eO 3 17 14 [14,15,16,17] rfl
 ·intro h14
  exact JS 4
 ·intro h14
  exact JS 4
 refine JD 3 (fun h7=>?_) fun h7=>?_
 ·refine J 8 ?_
  rw[show w.sleep who n=(1,w) from by unfold mm.sleep;rw[if_pos (by simpa using h7)]]
  exact JR 0 ()
 ·refine J 7 ?_
  refine .p (.Na underlying210 underlying3 zeroValue3 rfl rfl .auto) ?_
  refine JD 4 (fun h18=>?_) fun h18=>?_
  ·refine J 8 ?_
   rw[show w.sleep who n=(4,w) from by unfold mm.sleep;rw[if_neg (by simpa using h7),if_pos h18]]
   exact JR 0 ()
  ·refine J 4 ?_
   refine .draw [] [1,1,1,1,1,1,1,1,1,1,1,1,3] rfl (by kernel_rfl) ?_
   simp only[Bool.or_eq_false_iff,decide_eq_false_iff_not] at h7
   refine J 10 ?_
   refine .p (.add rfl rfl (by omega)) ?_
   refine .p (.kC rfl rfl) ?_
   refine .d3 rfl (ae.mapSet underlying210 underlying3 rfl rfl rfl .auto) ?_
   rintro _ _ ⟨rfl,rfl⟩
   refine J 8 ?_
   rw[show w.sleep who n=(0,{w with ic:=mapSet w.ic who (min (w.now+n) 1099511627776) }) from by unfold mm.sleep;rw[if_neg (by omega),if_neg h18]]
   exact JR 0 ()
theorem Cq{W:World}{b:Nat}{w:mm}(hn:0≤w.now∧w.now≤1099511627776)(hl:w.ic.length≤1000000):Fn Tryz.prog W 100 [ptr b] [ou b w] Value (fun u=>u) (fun _=>True) (fun u=>[sl au 1 u w.due,ou b w.tick.2]):=by
 refine Fn.intro (N:=54) func100 rfl ntmps100 rfl fun F=>?_
 show ar _ _ _ _ _ _ [ou b w,F]
 refine .o1 (C:=ou b w) .auto rfl ?_
 rintro m -
 refine J 12 ?_
 refine .eK rfl ?_
 refine J 9 ?_
 refine .p (.add rfl rfl (by omega)) ?_
 refine .p (.kC rfl rfl) ?_
 refine J 17 ?_
 refine .o2 (C:=ot m w.ic) .auto rfl ?_
 rintro es c ho
 have hel:es.length=w.ic.length:=by have:=congrArg List.length ho.1;simpa using this
 refine .ai rfl (ae.L8 rfl underlying210 rfl .auto) ?_
 rintro _ _ ⟨it,rfl,rfl⟩
 refine J 3 ?_
 refine .aX (X:=List MapEntry×Value) [3,4,5,24,25,26,27,28,29,30,31,32,33,34,35,36,37,38] (fun z=>es.length+1-z.1.length) (fun z=>iU es z.1) (fun z=>[(3,some z.2)]) (fun z=>[KO it m c z.1,sl au 1 z.2 (k0 (min (w.now+1) 1099511627776) z.1),jx m (.map es.toArray c),arr b 0 [.int .i64 (min (w.now+1) 1099511627776),.map (some m)],F]) ([],.slice none 0 0) ?_ ?_ ?_ ?_
 ·exact iU.zero es
 ·exact⟨rfl,trivial⟩
 ·exact fun w s=>aq.kept .auto w s
 rintro⟨seen,u⟩ hS
 simp only at hS
 have hSl:=hS.len
 have hdl:=Kd (min (w.now+1) 1099511627776) seen
 refine J 2 ?_
 refine .ai rfl (ae.dV rfl rfl .auto .auto ho.2.2.1) ?_
 rintro _ _ ⟨o,ho2,rfl,rfl⟩
 refine .p (.extract (vs:=nextA o) rfl (L7 o)) ?_
 refine JD 3 (fun h25=>?_) fun h25=>?_
 ·refine J 5 ?_
  obtain⟨e,rfl⟩:∃ e,o=some e:=Option.isSome_iff_exists.1 h25
  obtain⟨he,hne⟩:=ho2.2 e rfl
  have hkv:=(Ip ho).2 e he
  have hS2:=hS.next he hne
  have hS3:=hS2.len
  rw[List.length_append] at hS3
  simp only[List.length_cons,List.length_nil] at hS3
  refine .p (.L9 rfl .auto .auto he ho.2.2.2) ?_
  rw[hkv.1,hkv.2]
  refine JD 16 (fun h34=>?_) fun h34=>?_
  ·refine J 3 ?_
   refine .ai rfl (ae.gC 3 rfl rfl (by kernel_rfl)) ?_
   rintro _ _ ⟨b37,rfl,rfl⟩
   refine .ai rfl (ae.gh (enc:=au) (k:=1) (uM e).1 rfl underlying50 underlying50 typeInfo3 rfl rfl rfl (by decide) rfl rfl rfl .auto rfl .auto (by dsimp only;omega) rfl) ?_
   rintro _ _ ⟨v38,rfl,rfl⟩
   refine J 3 ?_
   refine .aw (seen++[e],v38) .auto rfl ?_ ?_ ?_ ?_
   ·show es.length+1-(seen++[e]).length<es.length+1-seen.length;rw[List.length_append];simp only[List.length_cons,List.length_nil];omega
   ·exact hS2
   ·exact⟨rfl,trivial⟩
   ·show ∀ w,Sat _ w _→Sat _ w (seps [_,sl au 1 v38 (k0 _ (seen++[e])),_,_,F])
    rw[Kc h34]
    exact fun w s=>aq.kept .auto w s
  ·refine J 2 ?_
   refine .aw (seen++[e],u) .auto rfl ?_ ?_ ?_ ?_
   ·show es.length+1-(seen++[e]).length<es.length+1-seen.length;rw[List.length_append];simp only[List.length_cons,List.length_nil];omega
   ·exact hS2
   ·exact⟨rfl,trivial⟩
   ·show ∀ w,Sat _ w _→Sat _ w (seps [_,sl au 1 u (k0 _ (seen++[e])),_,_,F])
    rw[Ma h34]
    exact fun w s=>aq.kept .auto w s
 ·have hall:=ho2.1 (by cases o with
   | none=>rfl
   | some e=>cases h25)
  refine J 8 ?_
  refine .to (A:=ot m w.ic) (Bs:=[jx m (.map es.toArray c)]) .auto (fun h a=>⟨es,c,ho,a⟩) ?_
  refine .c call152 rfl (Nb (xs:=k0 (min (w.now+1) 1099511627776) seen) (by omega)) fun _ _=>?_
  rw[DE ho hS hall]
  have hdw:w.due.length≤1000000:=by rw[← DE ho hS hall,kZ];omega
  refine J 11 ?_
  refine .aX (X:=Nat) [7,43,44,45,46,47,48,49,50,51,52] (fun k=>w.due.length-k) (fun k=>k≤w.due.length) (fun k=>[(43,some (.int .i64 (k:Int)))]) (fun k=>[ot m ((w.due.take k).foldl gy w.ic),sl au 1 u w.due,arr b 0 [.int .i64 (min (w.now+1) 1099511627776),.map (some m)],F]) 0 ?_ ?_ ?_ ?_
  ·exact Nat.zero_le _
  ·exact⟨rfl,trivial⟩
  ·exact fun w s=>aq.kept .auto w s
  rintro k hk
  refine JD 6 (fun h44=>?_) fun h44=>?_
  ·obtain⟨x,hx⟩:=ak (show k<w.due.length by omega)
   refine J 7 ?_
   refine .p (.lr rfl hx) ?_
   refine J 9 ?_
   refine .ai rfl (ae.gy underlying210 underlying3 rfl rfl .auto rfl) ?_
   rintro _ _ ⟨rfl,rfl⟩
   refine J 7 ?_
   refine .aw (k+1) .auto rfl ?_ ?_ ?_ ?_
   ·omega
   ·omega
   ·exact⟨rfl,trivial⟩
   ·show ∀ w2,Sat _ w2 _→Sat _ w2 (seps [ot m ((w.due.take (k+1)).foldl gy w.ic),_,_,F])
    rw[aQ hx,List.foldl_append]
    exact fun w s=>aq.kept .auto w s
  ·obtain rfl:k=w.due.length:=by omega
   rw[List.take_length]
   refine J 12 ?_
   show bA W 54 (bodyPost _ _ (fun e w2=>∃ u,e=_∧True∧Sat W w2 (sep (seps [sl au 1 u w.due,ou b ⟨min (w.now+1) 1099511627776,w.due.foldl gy w.ic⟩]) F))) _ _ _
   exact JR 0 u
end Go.SLYthlllpngkljgfaaGreat
namespace Go.SLYthlllpngkljgfaaGreat
open Go Go.RowKit Go.Proofs Go.Proofs.Tryz
attribute [local irreducible] ar aM bm bA bE Y
theorem xg{W:World}{bd b p:Nat}{ps:List (Option Nat)}{d:Dng}{h:Int}(h0:0≤h)(hT:jC d.s.table)(hs:∀ n,bC d.s.table h=some n→bK ps d.s n):Fn Tryz.prog W 232 [ptr bd,.int .u64 h] [bx bd b p ps d] Unit (fun _=>.tuple #[.int .i64 (((d.other h).1:Nat):Int),.int .i64 (d.other h).2]) (fun _=>True) (fun _=>[bx bd b p ps d]):=by
 refine Fn.intro (N:=60) func232 rfl ntmps232 rfl fun F=>?_
 show ar _ _ _ _ _ _ [bx bd b p ps d,F]
 refine .o2 (C:=bx bd b p ps d) .auto rfl ?_
 rintro vw ve -
 refine .jT (C:=cH b ps d.s) .auto rfl ?_
 rintro fv sv pv bt vm bg vt bk bw vr -
 refine J 16 ?_
 refine .c call249 rfl (w8 hT h0) fun _ _=>?_
 refine J 1 ?_
 refine .p (.extract (v:=.int .i64 (((bC d.s.table h).getD 0:Nat):Int)) rfl rfl) ?_
 refine .p (.extract (v:=.bool (bC d.s.table h).isSome) rfl rfl) ?_
 refine J 8 ?_
 obtain⟨m,hm⟩:∃ m,m=(bC d.s.table h).getD 0:=⟨_,rfl⟩
 rw[← hm]
 refine J 3 ?_
 refine .part (t:=23) rfl (fun h23=>?_) (fun h23=>?_)
 ·refine J 24 ?_
  refine .gd rfl ?_
  refine J 9 ?_
  rw[tP (Option.isNone_iff_eq_none.mp (by simpa using h23))]
  exact JR 0 ()
 ·obtain⟨n,hf⟩:∃ n,bC d.s.table h=some n:=Option.isSome_iff_exists.mp (by simpa using h23)
  obtain rfl:m=n:=by rw[hm,hf];rfl
  obtain⟨hm16,q,u,hq,hu,hR⟩:=hs m hf
  refine .fr .auto (bQ hq hu) ?_
  refine J 8 ?_
  refine .vN (t:=31) rfl (fun h31=>?_) (fun h31=>?_)
  ·refine J 16 ?_
   refine .gd rfl ?_
   refine J 9 ?_
   refine .to (A:=aD ps d.s.aF) (Bs:=[arr q 0 (bn u),aD (ps.set m none) (d.s.aF.set m none)]) .auto (bN hq hu) ?_
   rw[lF hf hu (.inl (Int.ofNat_inj.mp h31))]
   exact JR 0 ()
  ·refine J 7 ?_
   refine .g (.dJ m underlying134 sizeOf133 rfl rfl rfl hm16) ?_
   refine .g (.ld rfl (Cell.a (by rw[Nat.mul_one,eP hm16,aY hq]))) ?_
   refine JD 7 (fun h20=>?_) fun h20=>?_
   ·refine J 9 ?_
    refine .to (A:=aD ps d.s.aF) (Bs:=[arr q 0 (bn u),aD (ps.set m none) (d.s.aF.set m none)]) .auto (bN hq hu) ?_
    rw[lF hf hu (.inr h20)]
    exact JR 0 ()
   ·have hno:¬(m=d.n∨u.bJ=true):=fun hh=>hh.elim (fun e=>h31 (Int.ofNat_inj.mpr e)) (fun e=>by rw[h20] at e;cases e)
    refine J 9 ?_
    refine .p (.dJ m underlying134 sizeOf133 rfl rfl rfl hm16) ?_
    refine .p (.ld rfl (Cell.a (by rw[Nat.mul_one,eP hm16,aY hq]))) ?_
    refine JD 7 (fun h45=>?_) fun h45=>?_
    ·refine J 9 ?_
     refine .to (A:=aD ps d.s.aF) (Bs:=[arr q 0 (bn u),aD (ps.set m none) (d.s.aF.set m none)]) .auto (bN hq hu) ?_
     rw[oE hf hu hno h45]
     exact JR 0 ()
    ·refine J 11 ?_
     refine .to (A:=aD ps d.s.aF) (Bs:=[arr q 0 (bn u),aD (ps.set m none) (d.s.aF.set m none)]) .auto (bN hq hu) ?_
     rw[tQ hf hu hno (Decidable.byContradiction h45)]
     exact JR 0 ()
theorem Cr{W:World}{bd b p:Nat}{ps:List (Option Nat)}{d:Dng}{t:bI}(hp:ps[d.n]?=some (some p))(ht:d.s.aF[d.n]?=some (some t))(hk:iT ps d t):Fn Tryz.prog W 212 [ptr bd] [bx bd b p ps d] (List (Option Nat)) (fun _=>.tuple #[]) (fun _=>True) (fun qs=>[bx bd b p qs d.gi]):=by
 refine Fn.intro (N:=51) func212 rfl ntmps212 rfl fun F=>?_
 show ar _ _ _ _ _ _ [bx bd b p ps d,F]
 refine J 3 ?_
 refine .c call213 rfl (xa hp ht hk.I.a) fun _ _=>?_
 have hx0:0≤d.a:=by
  unfold Dng.a;rw[dq ht];exact(hk.R.r _).1
 obtain⟨x,hx⟩:∃ x,x=d.a:=⟨_,rfl⟩
 rw[← hx]
 rw[← hx] at hx0
 refine J 7 ?_
 refine .c call232 rfl (xg hx0 hk.T (hk.slot x)) fun _ _=>?_
 refine J 1 ?_
 refine .p (.extract (v:=.int .i64 (((d.other x).1:Nat):Int)) rfl rfl) ?_
 refine .p (.extract (v:=.int .i64 (d.other x).2) rfl rfl) ?_
 refine JD 13 (fun h24=>?_) fun h24=>?_
 ·refine J 7 ?_
  refine .c call210 rfl (cx hp ht (Nat.le_trans hk.aC (by decide)) pP hk.R.l) fun _ _=>?_
  refine J 1 ?_
  rw[show d.gi=d.pass x 0 (d.other x).2 from by unfold Dng.gi;rw[← hx];simp only;rw[if_pos h24]]
  exact JR 0 ps
 ·have hz:(d.other x).2=0:=Decidable.byContradiction h24
  obtain⟨m,q,u,hf,ho1,hmn,hm16,hq,hu,hRu,hdt,hjo⟩:=tR (hk.slot x) hz
  rw[ho1,hz]
  refine J 2 ?_
  refine .o2 (C:=bx bd b p ps (d)) .auto rfl ?_
  rintro vw ve -
  refine .jT (C:=cH b ps (d).s) .auto rfl ?_
  rintro fv sv pv bt vm bg vt bk bw vr -
  refine .fr .auto (bQ hq hu) ?_
  refine J 7 ?_
  refine .p (.dJ m underlying134 sizeOf133 rfl rfl rfl hm16) ?_
  refine .p (.ld rfl (Cell.a (by rw[Nat.mul_one,eP hm16,aY hq]))) ?_
  refine JD 7 (fun h27=>?_) fun h27=>?_
  ·refine J 1 ?_
   refine .to (A:=aD ps d.s.aF) (Bs:=[arr q 0 (bn u),aD (ps.set m none) (d.s.aF.set m none)]) .auto (bN hq hu) ?_
   refine J 5 ?_
   refine .c call206 rfl (nS (s:=d.s) hq hu hk.lt hk.lp hk.T hRu.h.1) fun _ _=>?_
   refine J 7 ?_
   refine .c call210 rfl (cx (d:=d.free m) (ps:=ps.set m none) (p:=p) (t:=t) (by show(ps.set m none)[d.n]?=_;rw[List.getElem?_set_ne hmn];exact hp) (by show(d.s.aF.set m none)[d.n]?=_;rw[List.getElem?_set_ne hmn];exact ht) (Nat.le_trans hk.aC (by decide)) (by decide) hk.R.l) fun _ _=>?_
   refine J 1 ?_
   rw[show d.gi=(d.free m).pass x 0 0 from by unfold Dng.gi;rw[← hx];simp only;rw[if_neg (by rw[hz];simp),ho1,dO hu,if_pos h27]]
   refine .xA rfl fun w s=>⟨ps.set m none,?_,trivial,aj .auto s⟩
   rfl
  ·refine J 8 ?_
   refine .p (.dJ m underlying134 sizeOf133 rfl rfl rfl hm16) ?_
   refine .p (.ld rfl (Cell.a (by rw[Nat.mul_one,eP hm16,aY hq]))) ?_
   refine J 3 ?_
   rw[Jr]
   refine J 7 ?_
   refine .to (A:=aD ps (d.s.aF.set m (some ({u with bJ:=true })))) (Bs:=[arr q 0 (bn ({u with bJ:=true })),aD (ps.set m none) (d.s.aF.set m none)]) .auto (cA (List.getElem?_eq_some_iff.1 hu).1 hq) ?_
   refine .c call210 rfl (cx (d:={d with s:=d.s.aZ m {u with bJ:=true } }) (ps:=ps) (p:=p) (t:=t) hp (fM ht hmn) (Nat.le_trans hk.aC (by decide)) (by decide) hk.R.l) fun _ _=>?_
   refine J 1 ?_
   rw[show d.gi=({d with s:=d.s.aZ m {u with bJ:=true } }:Dng).pass x 0 0 from by unfold Dng.gi;rw[← hx];simp only;rw[if_neg (by rw[hz];simp),ho1,dO hu,if_neg h27]]
   exact JR 0 ps
theorem Iu{W:World}{bd b p:Nat}{ps:List (Option Nat)}{d:Dng}{t:bI}(hp:ps[d.n]?=some (some p))(ht:d.s.aF[d.n]?=some (some t))(hk:iT ps d t):Fn Tryz.prog W 211 [ptr bd] [bx bd b p ps d] (List (Option Nat)) (fun _=>.tuple #[]) (fun _=>True) (fun qs=>[bx bd b p qs d.join]):=by
 refine Fn.intro (N:=94) func211 rfl ntmps211 rfl fun F=>?_
 show ar _ _ _ _ _ _ [bx bd b p ps d,F]
 have hIa:=hk.I.a
 have hRl:=hk.R.l
 refine J 3 ?_
 refine .c call231 rfl (KM hp ht hk.I.b) fun _ _=>?_
 have hx0:0≤d.b:=by
  unfold Dng.b;rw[dq ht];exact(hk.R.r _).1
 obtain⟨x,hx⟩:∃ x,x=d.b:=⟨_,rfl⟩
 rw[← hx]
 rw[← hx] at hx0
 refine J 7 ?_
 refine .c call232 rfl (xg hx0 hk.T (hk.slot x)) fun _ _=>?_
 refine J 1 ?_
 refine .p (.extract (v:=.int .i64 (((d.other x).1:Nat):Int)) rfl rfl) ?_
 refine .p (.extract (v:=.int .i64 (d.other x).2) rfl rfl) ?_
 refine JD 12 (fun h37=>?_) fun h37=>?_
 ·refine J 4 ?_
  refine .c call210 rfl (cx hp ht (Nat.le_trans hk.aC (by decide)) pP hk.R.l) fun _ _=>?_
  refine J 2 ?_
  rw[show d.join=d.pass x 0 (d.other x).2 from by unfold Dng.join;rw[← hx];simp only;rw[if_pos h37]]
  exact JR 0 ps
 ·have hz:(d.other x).2=0:=Decidable.byContradiction h37
  obtain⟨m,q,u,hf,ho1,hmn,hm16,hq,hu,hRu,hdt,hjo⟩:=tR (hk.slot x) hz
  rw[ho1,hz]
  refine J 2 ?_
  refine .o2 (C:=bx bd b p ps (d)) .auto rfl ?_
  rintro vw ve -
  refine .jT (C:=cH b ps (d).s) .auto rfl ?_
  rintro fv sv pv bt vm bg vt bk bw vr -
  refine .fr .auto (bQ hq hu) ?_
  refine J 7 ?_
  refine .p (.dJ m underlying134 sizeOf133 rfl rfl rfl hm16) ?_
  refine .p (.ld rfl (Cell.a (by rw[Nat.mul_one,eP hm16,aY hq]))) ?_
  refine JD 7 (fun h44=>?_) fun h44=>?_
  ·refine J 9 ?_
   refine .p (.dJ m underlying134 sizeOf133 rfl rfl rfl hm16) ?_
   refine .p (.ld rfl (Cell.a (by rw[Nat.mul_one,eP hm16,aY hq]))) ?_
   refine J 7 ?_
   refine .to (A:=aD ps d.s.aF) (Bs:=[arr q 0 (bn u),aD (ps.set m none) (d.s.aF.set m none)]) .auto (bN hq hu) ?_
   refine .fr .auto (bQ hp ht) ?_
   refine .draw [arr bd 0 (eh b p d vw ve)] [1,1,1,1,1,1,1,1,1,1,1,1,1,1,3] rfl (by kernel_rfl) ?_
   refine J 13 ?_
   refine .p (.dJ d.i.a.toNat underlying163 sizeOf110 rfl rfl (by omega) (by omega)) ?_
   refine .d3 rfl (ae.st sizeOf110 rfl rfl rfl (Nat.blt_eq.mpr (by show 2+d.i.a.toNat * 1<18;omega))) ?_
   rintro _ _ ⟨rfl,rfl⟩
   rw[jK _ (by omega) (by omega) hRl]
   refine .to (A:=aD ps (d.s.aF.set d.n (some (t.put d.i.a u.value)))) (Bs:=[arr p 0 (bn (t.put d.i.a u.value)),aD (ps.set d.n none) (d.s.aF.set d.n none)]) .auto (cA (List.getElem?_eq_some_iff.1 ht).1 hp) ?_
   refine J 9 ?_
   refine .c call206 rfl (nS (s:=(d.aZ (t.put d.i.a u.value)).s) hq (fM hu (Ne.symm hmn)) (by simp[Dng.aZ,Spc.aZ,hk.lt]) hk.lp hk.T hRu.h.1) fun _ _=>?_
   refine J 6 ?_
   refine .c call210 rfl (cx (d:=(d.aZ (t.put d.i.a u.value)).free m) (ps:=ps.set m none) (p:=p) (t:=t.put d.i.a u.value) (by show(ps.set m none)[d.n]?=_;rw[List.getElem?_set_ne hmn];exact hp) (by show((d.aZ (t.put d.i.a u.value)).s.aF.set m none)[d.n]?=_;rw[List.getElem?_set_ne hmn];exact dx ht) (Nat.le_trans hk.aC (by decide)) (by decide) (by rw[j6];exact hRl)) fun _ _=>?_
   refine J 2 ?_
   rw[show d.join=((d.aZ (t.put d.i.a u.value)).free m).pass x u.value 0 from by unfold Dng.join;rw[← hx];simp only;rw[if_neg (by rw[hz];simp),ho1,dO hu,if_pos h44,dq ht]]
   refine .xA rfl fun w s=>⟨ps.set m none,?_,trivial,aj .auto s⟩
   rfl
  ·refine J 1 ?_
   refine .draw [arr bd 0 (eh b p d vw ve)] [1,1,1,1,1,1,1,1,1,1,1,1,1,1,1,3] rfl (by kernel_rfl) ?_
   refine J 7 ?_
   refine .p (.dJ m underlying134 sizeOf133 rfl rfl rfl hm16) ?_
   refine .p (.ld rfl (Cell.a (by rw[Nat.mul_one,eP hm16,aY hq]))) ?_
   refine J 7 ?_
   rw[BG]
   refine .to (A:=aD ps (d.s.aF.set m (some ({u with aA:=d.n })))) (Bs:=[arr q 0 (bn ({u with aA:=d.n })),aD (ps.set m none) (d.s.aF.set m none)]) .auto (cA (List.getElem?_eq_some_iff.1 hu).1 hq) ?_
   refine J 10 ?_
   refine .c call233 rfl (gJ (d:={d with s:=d.s.aZ m {u with aA:=d.n } }) (ps:=ps) (p:=p) (t:=t) hp (fM ht hmn) (Nat.le_trans hk.aC (by decide))) fun _ _=>?_
   refine J 2 ?_
   rw[show d.join=({d with s:=d.s.aZ m {u with aA:=d.n } }:Dng).block 4 d.i.a x 0 from by unfold Dng.join;rw[← hx];simp only;rw[if_neg (by rw[hz];simp),ho1,dO hu,if_neg h44]]
   exact JR 0 ps
theorem Fh{W:World}{bd b p:Nat}{ps:List (Option Nat)}{d:Dng}{t:bI}(hp:ps[d.n]?=some (some p))(ht:d.s.aF[d.n]?=some (some t))(hk:iT ps d t):Fn Tryz.prog W 247 [ptr bd] [bx bd b p ps d] Unit (fun _=>.tuple #[]) (fun _=>True) (fun _=>[bx bd b p ps (d.sleep)]):=by
 refine Fn.intro (N:=34) func247 rfl ntmps247 rfl fun F=>?_
 show ar _ _ _ _ _ _ [bx bd b p ps d,F]
 refine J 3 ?_
 refine .c call213 rfl (xa hp ht hk.I.a) fun _ _=>?_
 have hx0:0≤d.a:=by
  unfold Dng.a;rw[dq ht];exact(hk.R.r _).1
 obtain⟨x,hx⟩:∃ x,x=d.a:=⟨_,rfl⟩
 rw[← hx]
 rw[← hx] at hx0
 refine JD 11 (fun h22=>?_) fun h22=>?_
 ·refine J 3 ?_
  refine .c call210 rfl (cx hp ht (Nat.le_trans hk.aC (by decide)) (by decide) hk.R.l) fun _ _=>?_
  refine J 2 ?_
  rw[show d.sleep=d.pass x 0 0 from by unfold Dng.sleep;rw[← hx];simp only;rw[if_pos h22]]
  exact JR 0 ()
 ·refine JD 7 (fun h28=>?_) fun h28=>?_
  ·refine J 3 ?_
   refine .c call210 rfl (cx hp ht (Nat.le_trans hk.aC (by decide)) (by decide) hk.R.l) fun _ _=>?_
   refine J 2 ?_
   rw[show d.sleep=d.pass x 0 1 from by unfold Dng.sleep;rw[← hx];simp only;rw[if_neg h22,if_pos h28]]
   exact JR 0 ()
  ·refine J 1 ?_
   refine .o2 (C:=bx bd b p ps (d)) .auto rfl ?_
   rintro vw ve -
   refine .jT (C:=cH b ps (d).s) .auto rfl ?_
   rintro fv sv pv bt vm bg vt bk bw vr -
   refine .draw [arr bd 0 (eh b p d vw ve),arr b 0 (fy fv sv pv d.s.fa bt ps vm bg vt bk bw vr)] [1,1,1,1,1,1,1,1,1,1,1,1,1,3] rfl (by kernel_rfl) ?_
   refine J 12 ?_
   refine .p (.iD underlying110 underlying3 rfl (by omega)) ?_
   refine .c call265 rfl (AH hk.wn) fun _ _=>?_
   refine J 5 ?_
   refine .c call233 rfl (gJ (d:=d.vV (d.s.aT.sleep d.n x).2) hp ht (Nat.le_trans hk.aC (by decide))) fun _ _=>?_
   refine J 2 ?_
   rw[show d.sleep=(d.vV (d.s.aT.sleep d.n x).2).block 8 (-1) x 0 from by unfold Dng.sleep;rw[← hx];simp only;rw[if_neg h22,if_neg h28]]
   exact JR 0 ()
theorem DF{W:World}{bd b p:Nat}{ps:List (Option Nat)}{d:Dng}{t:bI}(hp:ps[d.n]?=some (some p))(ht:d.s.aF[d.n]?=some (some t))(hk:iT ps d t){block y bY:Int}(hb:0≤block):Fn Tryz.prog W 244 [ptr bd,.int .u64 block,.int .u64 y,.int .i64 bY] [bx bd b p ps d] Unit (fun _=>.tuple #[]) (fun _=>True) (fun _=>[bx bd b p ps (d.ask block y bY)]):=by
 refine Fn.intro (N:=45) func244 rfl ntmps244 rfl fun F=>?_
 show ar _ _ _ _ _ _ [bx bd b p ps d,F]
 refine JD 12 (fun h10=>?_) fun h10=>?_
 ·refine .o2 (C:=bx bd b p ps (d)) .auto rfl ?_
  rintro vw ve -
  refine .jT (C:=cH b ps (d).s) .auto rfl ?_
  rintro fv sv pv bt vm bg vt bk bw vr -
  refine .draw [arr bd 0 (eh b p d vw ve),arr b 0 (fy fv sv pv d.s.fa bt ps vm bg vt bk bw vr)] [1,1,1,1,1,1,1,1,1,1,1,1,1,1,1,1,1,1,1,1,1,3,1] rfl (by kernel_rfl) ?_
  refine J 12 ?_
  refine .p (.iD underlying110 underlying3 rfl (by omega)) ?_
  refine J 7 ?_
  refine .p (.FW (fun v1 v2 v3 v4=>[v1,v2,v3,v4]) rfl rfl rfl rfl (by kernel_rfl)) ?_
  refine .c call262 rfl (Io (r:=(⟨d.n,block,decide (d.i.op=34),y⟩:vR)) hk.dw) fun _ _=>?_
  refine JD 10 (fun h34=>?_) fun h34=>?_
  ·refine J 6 ?_
   refine .c call210 rfl (cx (d:=d.di (d.s.bZ.ask ⟨d.n,block,decide (d.i.op=34),y⟩).2) hp ht (Nat.le_trans hk.aC (by decide)) GX hk.R.l) fun _ _=>?_
   refine J 4 ?_
   rw[show d.ask block y bY=(d.di (d.s.bZ.ask ⟨d.n,block,decide (d.i.op=34),y⟩).2).pass block y (d.s.bZ.ask ⟨d.n,block,decide (d.i.op=34),y⟩).1 from by unfold Dng.ask;rw[if_pos h10];simp only;rw[if_pos h34]]
   exact JR 0 ()
  ·refine J 7 ?_
   refine .c call233 rfl (gJ (d:=d.di (d.s.bZ.ask ⟨d.n,block,decide (d.i.op=34),y⟩).2) hp ht (Nat.le_trans hk.aC (by decide))) fun _ _=>?_
   refine J 1 ?_
   rw[show d.ask block y bY=(d.di (d.s.bZ.ask ⟨d.n,block,decide (d.i.op=34),y⟩).2).block 5 bY block y from by unfold Dng.ask;rw[if_pos h10];simp only;rw[if_neg h34]]
   exact JR 0 ()
 ·refine J 9 ?_
  refine .gd rfl ?_
  refine J 6 ?_
  refine .c call210 rfl (cx hp ht (Nat.le_trans hk.aC (by decide)) (by decide) hk.R.l) fun _ _=>?_
  refine J 4 ?_
  rw[show d.ask block y bY=d.pass block y 1 from by unfold Dng.ask;rw[if_neg h10]]
  exact JR 0 ()
end Go.SLYthlllpngkljgfaaGreat
namespace Go.SLYthlllpngkljgfaaGreat
open Go Go.RowKit Go.Proofs Go.Proofs.Tryz
attribute [local irreducible] ar aM bm bA bE Y
theorem Mb{W:World}{bd b p:Nat}{d:Dng}{t:bI}{vw ve:Value}(ht:d.s.aF[d.n]?=some (some t))(hI:0≤d.i.a∧d.i.a<8):Fn Tryz.prog W 213 [ptr bd] [arr bd 0 (eh b p d vw ve),arr p 0 (bn t)] Unit (fun _=>.int .u64 d.a) (fun _=>True) (fun _=>[arr bd 0 (eh b p d vw ve),arr p 0 (bn t)]):=by
 refine Fn.intro (N:=17) func213 rfl ntmps213 rfl fun F=>?_
 show ar _ _ _ _ _ _ [arr bd 0 (eh b p d vw ve),arr p 0 (bn t),F]
 refine J 6 ?_
 refine .draw [] [1,1,1,1,1,1,1,1,1,1,1,1,1,1,1] rfl (by kernel_rfl) ?_
 refine J 12 ?_
 refine .p (.dJ d.i.a.toNat underlying163 sizeOf110 rfl rfl (by omega) (by omega)) ?_
 refine .p (.ld rfl (Cell.a (nC (by omega)))) ?_
 refine J 4 ?_
 refine .aJ rfl rfl fun w s=>⟨(),?_,trivial,aj .auto s⟩
 rw[show d.a=t.aI.getD d.i.a.toNat 0 from by unfold Dng.a;rw[dq ht];rfl]
theorem Iv{W:World}{bd b p:Nat}{d:Dng}{t:bI}{vw ve:Value}(ht:d.s.aF[d.n]?=some (some t))(hI:0≤d.i.b∧d.i.b<8):Fn Tryz.prog W 231 [ptr bd] [arr bd 0 (eh b p d vw ve),arr p 0 (bn t)] Unit (fun _=>.int .u64 d.b) (fun _=>True) (fun _=>[arr bd 0 (eh b p d vw ve),arr p 0 (bn t)]):=by
 refine Fn.intro (N:=17) func231 rfl ntmps231 rfl fun F=>?_
 show ar _ _ _ _ _ _ [arr bd 0 (eh b p d vw ve),arr p 0 (bn t),F]
 refine J 6 ?_
 refine .draw [] [1,1,1,1,1,1,1,1,1,1,1,1,1,1,1] rfl (by kernel_rfl) ?_
 refine J 12 ?_
 refine .p (.dJ d.i.b.toNat underlying163 sizeOf110 rfl rfl (by omega) (by omega)) ?_
 refine .p (.ld rfl (Cell.a (nC (by omega)))) ?_
 refine J 4 ?_
 refine .aJ rfl rfl fun w s=>⟨(),?_,trivial,aj .auto s⟩
 rw[show d.b=t.aI.getD d.i.b.toNat 0 from by unfold Dng.b;rw[dq ht];rfl]
theorem DG{W:World}{bd b p:Nat}{ps:List (Option Nat)}{d:Dng}{t:bI}(hp:ps[d.n]?=some (some p))(ht:d.s.aF[d.n]?=some (some t))(hk:iT ps d t):Fn Tryz.prog W 217 [ptr bd] [bx bd b p ps d] Unit (fun _=>.tuple #[]) (fun _=>True) (fun _=>[bx bd b p ps (d.ew)]):=by
 refine Fn.intro (N:=86) func217 rfl ntmps217 rfl fun F=>?_
 show ar _ _ _ _ _ _ [bx bd b p ps d,F]
 refine .o2 (C:=bx bd b p ps (d)) .auto rfl ?_
 rintro vw ve -
 refine .jT (C:=cH b ps (d).s) .auto rfl ?_
 rintro fv sv pv bt vm bg vt bk bw vr -
 have hnn:=hk.nn
 have hn0:=hk.I.n
 refine J 7 ?_
 refine .p (.iD underlying110 underlying3 rfl (by omega)) ?_
 refine JD 14 (fun h19=>?_) fun h19=>?_
 ·refine J 1 ?_
  refine .draw [arr bd 0 (eh b p d vw ve),arr b 0 (fy fv sv pv d.s.fa bt ps vm bg vt bk bw vr)] [1,1,1,1,1,1,1,1,1,1,1,1,3,1,1,1,1,1,1,1] rfl (by kernel_rfl) ?_
  refine J 12 ?_
  refine .c call242 rfl (J8 hk.gl hk.Jw) fun _ _=>?_
  refine J 1 ?_
  refine .p (.extract (v:=.int .i64 (d.s.al.up d.i.n d.choice).1) rfl rfl) ?_
  refine .p (.extract (v:=.bool (d.s.al.up d.i.n d.choice).2.1) rfl rfl) ?_
  refine .p (.extract (v:=.int .i64 (d.s.al.up d.i.n d.choice).2.2.1) rfl rfl) ?_
  refine J 14 ?_
  refine .c call210 rfl (cx (d:=d.bH (d.s.al.up d.i.n d.choice).2.2.2) hp ht (Nat.le_trans hk.aC (by decide)) GY hk.R.l) fun _ _=>?_
  refine J 7 ?_
  refine .c call236 rfl (rb (n:=(d.s.al.up d.i.n d.choice).1) (ok:=(d.s.al.up d.i.n d.choice).2.1) (d:=((d.bH (d.s.al.up d.i.n d.choice).2.2.2).pass d.i.n 0 (d.s.al.up d.i.n d.choice).2.2.1)) (fun h=>⟨(hk.iX _ (GZ h)).1,((hk.iX _ (GZ h)).2.of (s':=(d.bH (d.s.al.up d.i.n d.choice).2.2.2).s) rfl).pass (d:=d.bH (d.s.al.up d.i.n d.choice).2.2.2) ht hk.R GY⟩) (Nat.le_trans hk.ends (by decide)) (Nat.le_trans hk.wy (by decide))) fun _ _=>?_
  refine J 4 ?_
  rw[show d.ew=((d.bH (d.s.al.up d.i.n d.choice).2.2.2).pass d.i.n 0 (d.s.al.up d.i.n d.choice).2.2.1).given (d.s.al.up d.i.n d.choice).1 (d.s.al.up d.i.n d.choice).2.1 from by unfold Dng.ew;rw[if_pos h19]]
  exact JR 0 ()
 ·refine J 3 ?_
  refine .draw [arr bd 0 (eh b p d vw ve),arr b 0 (fy fv sv pv d.s.fa bt ps vm bg vt bk bw vr)] [1,1,1,1,1,1,1,1,1,1,1,1,3,1,1,1,1,1] rfl (by kernel_rfl) ?_
  refine J 12 ?_
  refine .c call243 rfl (Fb hk.gl hk.Jw) fun _ _=>?_
  refine J 1 ?_
  refine .p (.extract (v:=.bool (d.s.al.down d.n d.i.n).1) rfl rfl) ?_
  refine .p (.extract (v:=.int .i64 (d.s.al.down d.n d.i.n).2.1) rfl rfl) ?_
  refine J 10 ?_
  apply aM.eb 3 70 67 [67,68,69,70] rfl
  ·intro h67
   exact JS 4
  ·intro h67
   exact JS 4
  refine JD 2 (fun h70=>?_) fun h70=>?_
  ·simp only[Bool.and_eq_true,decide_eq_true_eq,Bool.not_eq_true'] at h70
   refine J 8 ?_
   refine .c call233 rfl (gJ (d:=d.bH (d.s.al.down d.n d.i.n).2.2) hp ht (Nat.le_trans hk.aC (by decide))) fun _ _=>?_
   refine J 4 ?_
   rw[show d.ew=(d.bH (d.s.al.down d.n d.i.n).2.2).block 3 (-1) d.i.n 0 from by unfold Dng.ew;rw[if_neg h19];simp only;rw[if_pos h70]]
   exact JR 0 ()
  ·simp only[Bool.and_eq_false_iff,decide_eq_false_iff_not,Bool.not_eq_false'] at h70
   refine J 10 ?_
   refine .c call210 rfl (cx (d:=d.bH (d.s.al.down d.n d.i.n).2.2) hp ht (Nat.le_trans hk.aC (by decide)) Dd hk.R.l) fun _ _=>?_
   refine J 1 ?_
   rw[show d.ew=(d.bH (d.s.al.down d.n d.i.n).2.2).pass d.i.n 0 (d.s.al.down d.n d.i.n).2.1 from by unfold Dng.ew;rw[if_neg h19];simp only;rw[if_neg (by rintro⟨a,b⟩;rcases h70 with h | h;exact h a;rw[b] at h;cases h)]]
   exact JR 0 ()
theorem re{W:World}{bd b p:Nat}{ps:List (Option Nat)}{d:Dng}{t:bI}(hp:ps[d.n]?=some (some p))(ht:d.s.aF[d.n]?=some (some t))(hk:iT ps d t):Fn Tryz.prog W 214 [ptr bd] [bx bd b p ps d] Unit (fun _=>.tuple #[]) (fun _=>True) (fun _=>[bx bd b p ps (d.mutex)]):=by
 refine Fn.intro (N:=155) func214 rfl ntmps214 rfl fun F=>?_
 show ar _ _ _ _ _ _ [bx bd b p ps d,F]
 refine .o2 (C:=bx bd b p ps (d)) .auto rfl ?_
 rintro vw ve -
 refine .jT (C:=cH b ps (d).s) .auto rfl ?_
 rintro fv sv pv bt vm bg vt bk bw vr -
 have hnn:=hk.nn
 have hn0:=hk.I.n
 have hIc:=hk.I.c
 have hwc:=Lq hIc
 refine J 7 ?_
 refine .p (.iD underlying110 underlying3 rfl (by omega)) ?_
 refine JD 19 (fun h81=>?_) fun h81=>?_
 ·refine J 1 ?_
  refine .draw [arr bd 0 (eh b p d vw ve),arr b 0 (fy fv sv pv d.s.fa bt ps vm bg vt bk bw vr)] [1,1,1,1,1,1,1,1,1,1,1,1,3,1,1,1,1,1] rfl (by kernel_rfl) ?_
  refine J 12 ?_
  refine .c call234 rfl (E9 hk.gl) fun _ _=>?_
  refine J 1 ?_
  refine .p (.extract (v:=.bool (d.s.al.lock d.n d.i.n).1) rfl rfl) ?_
  refine .p (.extract (v:=.int .i64 (d.s.al.lock d.n d.i.n).2.1) rfl rfl) ?_
  refine J 10 ?_
  apply aM.eb 3 104 101 [101,102,103,104] rfl
  ·intro h101
   exact JS 4
  ·intro h101
   exact JS 4
  refine JD 2 (fun h104=>?_) fun h104=>?_
  ·simp only[Bool.and_eq_true,decide_eq_true_eq,Bool.not_eq_true'] at h104
   refine J 8 ?_
   refine .c call233 rfl (gJ (d:=d.bH (d.s.al.lock d.n d.i.n).2.2) hp ht (Nat.le_trans hk.aC (by decide))) fun _ _=>?_
   refine J 5 ?_
   rw[show d.mutex=(d.bH (d.s.al.lock d.n d.i.n).2.2).block 1 (-1) d.i.n 0 from by unfold Dng.mutex;simp only;rw[if_pos h81,if_pos h104]]
   exact JR 0 ()
  ·simp only[Bool.and_eq_false_iff,decide_eq_false_iff_not,Bool.not_eq_false'] at h104
   refine J 10 ?_
   refine .c call210 rfl (cx (d:=d.bH (d.s.al.lock d.n d.i.n).2.2) hp ht (Nat.le_trans hk.aC (by decide)) Db hk.R.l) fun _ _=>?_
   refine J 2 ?_
   rw[show d.mutex=(d.bH (d.s.al.lock d.n d.i.n).2.2).pass d.i.n 0 (d.s.al.lock d.n d.i.n).2.1 from by unfold Dng.mutex;simp only;rw[if_pos h81,if_neg (by rintro⟨a,b⟩;rcases h104 with h | h;exact h a;rw[b] at h;cases h)]]
   exact JR 0 ()
 ·refine JD 6 (fun h120=>?_) fun h120=>?_
  ·refine J 1 ?_
   refine .draw [arr bd 0 (eh b p d vw ve),arr b 0 (fy fv sv pv d.s.fa bt ps vm bg vt bk bw vr)] [1,1,1,1,1,1,1,1,1,1,1,1,1,1,1,1,3,1,1,1,1,1,1,1] rfl (by kernel_rfl) ?_
   refine J 16 ?_
   refine .c call235 rfl (AG hk.gl) fun _ _=>?_
   refine J 1 ?_
   refine .p (.extract (v:=.int .i64 (d.s.al.unlock d.n d.i.n d.choice).1) rfl rfl) ?_
   refine .p (.extract (v:=.bool (d.s.al.unlock d.n d.i.n d.choice).2.1) rfl rfl) ?_
   refine .p (.extract (v:=.int .i64 (d.s.al.unlock d.n d.i.n d.choice).2.2.1) rfl rfl) ?_
   refine J 14 ?_
   refine .c call210 rfl (cx (d:=d.bH (d.s.al.unlock d.n d.i.n d.choice).2.2.2) hp ht (Nat.le_trans hk.aC (by decide)) qW hk.R.l) fun _ _=>?_
   refine J 6 ?_
   refine .c call236 rfl (rb (n:=(d.s.al.unlock d.n d.i.n d.choice).1) (ok:=(d.s.al.unlock d.n d.i.n d.choice).2.1) (d:=((d.bH (d.s.al.unlock d.n d.i.n d.choice).2.2.2).pass d.i.n 0 (d.s.al.unlock d.n d.i.n d.choice).2.2.1)) (fun h=>⟨(hk.iX _ (tS h)).1,((hk.iX _ (tS h)).2.of (s':=(d.bH (d.s.al.unlock d.n d.i.n d.choice).2.2.2).s) rfl).pass (d:=d.bH (d.s.al.unlock d.n d.i.n d.choice).2.2.2) ht hk.R qW⟩) (Nat.le_trans hk.ends (by decide)) (Nat.le_trans hk.wy (by decide))) fun _ _=>?_
   refine J 2 ?_
   rw[show d.mutex=((d.bH (d.s.al.unlock d.n d.i.n d.choice).2.2.2).pass d.i.n 0 (d.s.al.unlock d.n d.i.n d.choice).2.2.1).given (d.s.al.unlock d.n d.i.n d.choice).1 (d.s.al.unlock d.n d.i.n d.choice).2.1 from by unfold Dng.mutex;simp only;rw[if_neg h81,if_pos h120]]
   exact JR 0 ()
  ·refine J 1 ?_
   refine .draw [arr bd 0 (eh b p d vw ve),arr b 0 (fy fv sv pv d.s.fa bt ps vm bg vt bk bw vr)] [1,1,1,1,1,1,1,1,1,1,1,1,1,1,1,1,1,1,1,1,1,3,1,1,1,1,1,1,1] rfl (by kernel_rfl) ?_
   refine J 21 ?_
   refine .c call237 rfl (Fa hk.gl) fun _ _=>?_
   refine J 1 ?_
   refine .p (.extract (v:=.int .i64 (d.s.al.wait d.n d.i.n d.i.c d.choice).1) rfl rfl) ?_
   refine .p (.extract (v:=.bool (d.s.al.wait d.n d.i.n d.i.c d.choice).2.1) rfl rfl) ?_
   refine .p (.extract (v:=.int .i64 (d.s.al.wait d.n d.i.n d.i.c d.choice).2.2.1) rfl rfl) ?_
   refine JD 12 (fun h48=>?_) fun h48=>?_
   ·refine J 1 ?_
    refine .draw [] [1,1,1,1,1,1,1,1,1,1,1,1,1,3] rfl (by kernel_rfl) ?_
    refine J 11 ?_
    refine .p (.s6 underlying3 underlying110 rfl (by omega)) ?_
    refine J 1 ?_
    refine .c call210 rfl (cx (d:=d.bH (d.s.al.wait d.n d.i.n d.i.c d.choice).2.2.2) hp ht (Nat.le_trans hk.aC (by decide)) Dc hk.R.l) fun _ _=>?_
    refine J 5 ?_
    rw[show d.mutex=(d.bH (d.s.al.wait d.n d.i.n d.i.c d.choice).2.2.2).pass d.i.n d.i.c (d.s.al.wait d.n d.i.n d.i.c d.choice).2.2.1 from by unfold Dng.mutex;simp only;rw[if_neg h81,if_neg h120,if_pos h48,hwc]]
    exact JR 0 ()
   ·refine J 3 ?_
    refine .draw [] [1,1,1,1,1,1,1,1,1,1,1,1,3] rfl (by kernel_rfl) ?_
    refine J 11 ?_
    refine .p (.s6 underlying3 underlying110 rfl (by omega)) ?_
    refine .c call233 rfl (gJ (d:=d.bH (d.s.al.wait d.n d.i.n d.i.c d.choice).2.2.2) hp ht (Nat.le_trans hk.aC (by decide))) fun _ _=>?_
    refine J 6 ?_
    refine .c call236 rfl (rb (n:=(d.s.al.wait d.n d.i.n d.i.c d.choice).1) (ok:=(d.s.al.wait d.n d.i.n d.i.c d.choice).2.1) (d:=((d.bH (d.s.al.wait d.n d.i.n d.i.c d.choice).2.2.2).block 2 (-1) d.i.n d.i.c)) (fun h=>⟨(hk.iX _ (zT h)).1,((hk.iX _ (zT h)).2.of (s':=(d.bH (d.s.al.wait d.n d.i.n d.i.c d.choice).2.2.2).s) rfl).block (d:=d.bH (d.s.al.wait d.n d.i.n d.i.c d.choice).2.2.2) ht hk.R (by decide)⟩) (Nat.le_trans hk.ends (by decide)) (Nat.le_trans hk.wy (by decide))) fun _ _=>?_
    refine J 2 ?_
    rw[show d.mutex=((d.bH (d.s.al.wait d.n d.i.n d.i.c d.choice).2.2.2).block 2 (-1) d.i.n d.i.c).given (d.s.al.wait d.n d.i.n d.i.c d.choice).1 (d.s.al.wait d.n d.i.n d.i.c d.choice).2.1 from by unfold Dng.mutex;simp only;rw[if_neg h81,if_neg h120,if_neg h48,hwc]]
    exact JR 0 ()
end Go.SLYthlllpngkljgfaaGreat
namespace Go.SLYthlllpngkljgfaaGreat
open Go Go.RowKit Go.Proofs Go.Proofs.Tryz
attribute [local irreducible] ar aM bm bA bE Y
theorem Ke{W:World}{bd b p:Nat}{ps:List (Option Nat)}{d:Dng}{t:bI}(hp:ps[d.n]?=some (some p))(ht:d.s.aF[d.n]?=some (some t))(hk:iT ps d t)(hop:d.i.op=35∨d.i.op=36):Fn Tryz.prog W 245 [ptr bd] [bx bd b p ps d] Unit (fun _=>.tuple #[]) (fun _=>True) (fun _=>[bx bd b p ps (d.put)]):=by
 refine Fn.intro (N:=57) func245 rfl ntmps245 rfl fun F=>?_
 show ar _ _ _ _ _ _ [bx bd b p ps d,F]
 refine .o2 (C:=bx bd b p ps (d)) .auto rfl ?_
 rintro vw ve -
 refine .jT (C:=cH b ps (d).s) .auto rfl ?_
 rintro fv sv pv bt vm bg vt bk bw vr -
 have hnn:=hk.nn
 have hn0:=hk.I.n
 refine .o1 (C:=ph vt d.s.cb) .auto rfl ?_
 rintro xs hxs
 obtain⟨xq,hx,hmem⟩:=De hxs hn0.1 (hk.Nl hop)
 have hxl:xs.length=d.s.cb.length:=by rw[← hxs,List.length_map]
 have hti:=hk.Nl hop
 refine .fr .auto (bQ hp ht) ?_
 refine J 1 ?_
 refine .draw [] [1,1,1,1,1,1,1,1,1,1,1,1,1,1,1] rfl (by kernel_rfl) ?_
 refine J 12 ?_
 refine .p (.ix d.i.n.toNat rfl rfl (by omega) (by omega)) ?_
 refine .p (.lr rfl hx) ?_
 refine J 6 ?_
 refine .c call213 rfl (Mb ht hk.I.a) fun _ _=>?_
 refine J 5 ?_
 obtain⟨x,hx0⟩:∃ x,x=d.a:=⟨_,rfl⟩
 rw[← hx0]
 refine J 6 ?_
 refine .fr .auto (zS (f:=fun x:Nat×Tub=>iF x.1 x.2) hx) ?_
 refine .c call263 rfl (Il (hk.tl _ hmem)) fun _ _=>?_
 refine .to (A:=ph vt (d.s.cb.set d.i.n.toNat (d.bV.put d.n x).2.2.2)) (Bs:=[sl cQ 1 vt xs,iF xq (d.bV.put d.n x).2.2.2,aO (fun x:Nat×Tub=>iF x.1 x.2) (xs.eraseIdx d.i.n.toNat)]) .auto (yb hx hxs (d.bV.put d.n x).2.2.2) ?_
 refine .to (A:=aD ps d.s.aF) (Bs:=[arr p 0 (bn t),aD (ps.set d.n none) (d.s.aF.set d.n none)]) .auto (bN hp ht) ?_
 refine J 1 ?_
 refine .p (.extract (v:=.bool (d.bV.put d.n x).1) rfl rfl) ?_
 refine .p (.extract (v:=.int .i64 (d.bV.put d.n x).2.1) rfl rfl) ?_
 refine .p (.extract (v:=.bool (d.bV.put d.n x).2.2.1) rfl rfl) ?_
 refine JD 12 (fun h35=>?_) fun h35=>?_
 ·refine J 9 ?_
  refine .c call233 rfl (gJ (d:=(d.eQ d.i.n.toNat (d.bV.put d.n x).2.2.2)) hp ht (Nat.le_trans hk.aC (by decide))) fun _ _=>?_
  refine J 4 ?_
  rw[show d.put=(d.eQ d.i.n.toNat (d.bV.put d.n x).2.2.2).block 7 (-1) d.i.n x from by unfold Dng.put;rw[← hx0];simp only;rw[if_pos (by simpa using h35)]]
  exact JR 0 ()
 ·refine J 11 ?_
  refine .c call210 rfl (cx (d:=(d.eQ d.i.n.toNat (d.bV.put d.n x).2.2.2)) hp ht (Nat.le_trans hk.aC (by decide)) (by decide) hk.R.l) fun _ _=>?_
  refine JD 7 (fun h52=>?_) fun h52=>?_
  ·have hlv:=(hk.Ab _ hmem).1 _ (G0 h52)
   obtain⟨hw16,q,u,hq,hu,hRu⟩:=(hlv.2.of (s':=(d.eQ d.i.n.toNat (d.bV.put d.n x).2.2.2).s) rfl).pass (x:=d.i.n) (y:=x) (e:=0) (d:=(d.eQ d.i.n.toNat (d.bV.put d.n x).2.2.2)) ht hk.R (by decide)
   refine J 4 ?_
   refine .c call207 rfl (kW (d:=(d.eQ d.i.n.toNat (d.bV.put d.n x).2.2.2).pass d.i.n x 0) hlv.1 hq hu hw16 hRu (Nat.le_trans hk.ends (by decide)) (Nat.le_trans hk.wy (by decide))) fun _ _=>?_
   refine J 1 ?_
   rw[show d.put=((d.eQ d.i.n.toNat (d.bV.put d.n x).2.2.2).pass d.i.n x 0).cj (d.bV.put d.n x).2.1.toNat x from by unfold Dng.put;rw[← hx0];simp only;rw[if_neg (by simpa using h35),if_pos h52]]
   exact JR 0 ()
  ·refine J 1 ?_
   rw[show d.put=(d.eQ d.i.n.toNat (d.bV.put d.n x).2.2.2).pass d.i.n x 0 from by unfold Dng.put;rw[← hx0];simp only;rw[if_neg (by simpa using h35),if_neg (by rw[h52];simp)]]
   exact JR 0 ()
theorem Kf{W:World}{bd b p:Nat}{ps:List (Option Nat)}{d:Dng}{t:bI}(hp:ps[d.n]?=some (some p))(ht:d.s.aF[d.n]?=some (some t))(hk:iT ps d t)(hop:d.i.op=35∨d.i.op=36):Fn Tryz.prog W 246 [ptr bd] [bx bd b p ps d] Unit (fun _=>.tuple #[]) (fun _=>True) (fun _=>[bx bd b p ps (d.get)]):=by
 refine Fn.intro (N:=70) func246 rfl ntmps246 rfl fun F=>?_
 show ar _ _ _ _ _ _ [bx bd b p ps d,F]
 refine .o2 (C:=bx bd b p ps (d)) .auto rfl ?_
 rintro vw ve -
 refine .jT (C:=cH b ps (d).s) .auto rfl ?_
 rintro fv sv pv bt vm bg vt bk bw vr -
 have hnn:=hk.nn
 have hn0:=hk.I.n
 refine .o1 (C:=ph vt d.s.cb) .auto rfl ?_
 rintro xs hxs
 obtain⟨xq,hx,hmem⟩:=De hxs hn0.1 (hk.Nl hop)
 have hxl:xs.length=d.s.cb.length:=by rw[← hxs,List.length_map]
 have hti:=hk.Nl hop
 have hIa:=hk.I.a
 have hRl:=hk.R.l
 refine J 1 ?_
 refine .fr .auto (zS (f:=fun x:Nat×Tub=>iF x.1 x.2) hx) ?_
 refine .draw [arr bd 0 (eh b p d vw ve),arr b 0 (fy fv sv pv d.s.fa bt ps vm bg vt bk bw vr),sl cQ 1 vt xs] [1,1,1,1,1,1,1,1,1,1,1,1,1,1,1,1,1,1,3,1,1,1,1,1,1,1,1,1] rfl (by kernel_rfl) ?_
 refine J 12 ?_
 refine .p (.ix d.i.n.toNat rfl rfl (by omega) (by omega)) ?_
 refine .p (.lr rfl hx) ?_
 refine J 4 ?_
 refine .c call264 rfl (Im (hk.tl _ hmem)) fun _ _=>?_
 refine J 1 ?_
 refine .p (.extract (v:=.int .u64 (d.bV.get d.n).1) rfl rfl) ?_
 refine .p (.extract (v:=.bool (d.bV.get d.n).2.1) rfl rfl) ?_
 refine .p (.extract (v:=.int .i64 (d.bV.get d.n).2.2.1) rfl rfl) ?_
 refine .p (.extract (v:=.bool (d.bV.get d.n).2.2.2.1) rfl rfl) ?_
 refine JD 13 (fun h31=>?_) fun h31=>?_
 ·refine J 1 ?_
  refine .to (A:=ph vt (d.s.cb.set d.i.n.toNat (d.bV.get d.n).2.2.2.2)) (Bs:=[sl cQ 1 vt xs,iF xq (d.bV.get d.n).2.2.2.2,aO (fun x:Nat×Tub=>iF x.1 x.2) (xs.eraseIdx d.i.n.toNat)]) .auto (yb hx hxs (d.bV.get d.n).2.2.2.2) ?_
  refine .draw [] [1,1,1,1,1,1,1,1,1,1,1,3] rfl (by kernel_rfl) ?_
  refine J 11 ?_
  refine .c call233 rfl (gJ (d:=(d.eQ d.i.n.toNat (d.bV.get d.n).2.2.2.2)) hp ht (Nat.le_trans hk.aC (by decide))) fun _ _=>?_
  refine J 4 ?_
  rw[show d.get=(d.eQ d.i.n.toNat (d.bV.get d.n).2.2.2.2).block 6 d.i.a d.i.n 0 from by unfold Dng.get;simp only;rw[if_pos (by simpa using h31)]]
  exact JR 0 ()
 ·refine J 3 ?_
  refine .to (A:=ph vt (d.s.cb.set d.i.n.toNat (d.bV.get d.n).2.2.2.2)) (Bs:=[sl cQ 1 vt xs,iF xq (d.bV.get d.n).2.2.2.2,aO (fun x:Nat×Tub=>iF x.1 x.2) (xs.eraseIdx d.i.n.toNat)]) .auto (yb hx hxs (d.bV.get d.n).2.2.2.2) ?_
  refine .fr .auto (bQ hp ht) ?_
  refine .draw [arr bd 0 (eh b p d vw ve)] [1,1,1,1,1,1,1,1,1,1,1,1,1,1,3] rfl (by kernel_rfl) ?_
  refine J 13 ?_
  refine .p (.dJ d.i.a.toNat underlying163 sizeOf110 rfl rfl (by omega) (by omega)) ?_
  refine .d3 rfl (ae.st sizeOf110 rfl rfl rfl (Nat.blt_eq.mpr (by show 2+d.i.a.toNat * 1<18;omega))) ?_
  rintro _ _ ⟨rfl,rfl⟩
  rw[jK _ (by omega) (by omega) hRl]
  refine .to (A:=aD ps (d.s.aF.set d.n (some (t.put d.i.a (d.bV.get d.n).1)))) (Bs:=[arr p 0 (bn (t.put d.i.a (d.bV.get d.n).1)),aD (ps.set d.n none) (d.s.aF.set d.n none)]) .auto (cA (List.getElem?_eq_some_iff.1 ht).1 hp) ?_
  refine J 11 ?_
  refine .c call210 rfl (cx (d:=((d.eQ d.i.n.toNat (d.bV.get d.n).2.2.2.2).aZ (t.put d.i.a (d.bV.get d.n).1))) (t:=t.put d.i.a (d.bV.get d.n).1) hp (dx ht) (Nat.le_trans hk.aC (by decide)) (by decide) (by rw[j6];exact hRl)) fun _ _=>?_
  refine JD 7 (fun h66=>?_) fun h66=>?_
  ·obtain⟨z,hz,hzw⟩:=G3 h66
   have hlv:=(hk.Ab _ hmem).2 z hz
   rw[hzw] at hlv
   have hRg:=hk.R.put (i:=d.i.a) (G4 (who:=d.n) (hk.tw _ hmem))
   obtain⟨hw16,q,u,hq,hu,hRu⟩:=((hlv.2.of (s':=(d.eQ d.i.n.toNat (d.bV.get d.n).2.2.2.2).s) rfl).aZ (n:=d.n) hRg).pass (x:=d.i.n) (y:=(d.bV.get d.n).1) (e:=0) (d:=((d.eQ d.i.n.toNat (d.bV.get d.n).2.2.2.2).aZ (t.put d.i.a (d.bV.get d.n).1))) (dx ht) hRg (by decide)
   refine J 3 ?_
   refine .c call207 rfl (kW (d:=((d.eQ d.i.n.toNat (d.bV.get d.n).2.2.2.2).aZ (t.put d.i.a (d.bV.get d.n).1)).pass d.i.n (d.bV.get d.n).1 0) hlv.1 hq hu hw16 hRu (Nat.le_trans hk.ends (by decide)) (Nat.le_trans hk.wy (by decide))) fun _ _=>?_
   refine J 1 ?_
   rw[show d.get=(((d.eQ d.i.n.toNat (d.bV.get d.n).2.2.2.2).aZ (t.put d.i.a (d.bV.get d.n).1)).pass d.i.n (d.bV.get d.n).1 0).cj (d.bV.get d.n).2.2.1.toNat 0 from by unfold Dng.get;simp only;rw[if_neg (by simpa using h31),if_pos h66,show(d.eQ d.i.n.toNat (d.bV.get d.n).2.2.2.2).t=t from dq ht]]
   exact JR 0 ()
  ·refine J 1 ?_
   rw[show d.get=((d.eQ d.i.n.toNat (d.bV.get d.n).2.2.2.2).aZ (t.put d.i.a (d.bV.get d.n).1)).pass d.i.n (d.bV.get d.n).1 0 from by unfold Dng.get;simp only;rw[if_neg (by simpa using h31),if_neg (by rw[h66];simp),show(d.eQ d.i.n.toNat (d.bV.get d.n).2.2.2.2).t=t from dq ht]]
   exact JR 0 ()
end Go.SLYthlllpngkljgfaaGreat
namespace Go.SLYthlllpngkljgfaaGreat
open Go Go.RowKit Go.Proofs Go.Proofs.Tryz
attribute [local irreducible] ar aM bm bA bE Y
theorem Fi{W:World}{bd b p:Nat}{ps:List (Option Nat)}{d:Dng}{t:bI}(hp:ps[d.n]?=some (some p))(ht:d.s.aF[d.n]?=some (some t))(hk:iT ps d t):Fn Tryz.prog W 209 [ptr bd] [bx bd b p ps d] (List (Option Nat)) (fun _=>.tuple #[]) (fun _=>True) (fun qs=>[bx bd b p qs d.spawn]):=by
 refine Fn.intro (N:=70) func209 rfl ntmps209 rfl fun F=>?_
 show ar _ _ _ _ _ _ [bx bd b p ps d,F]
 refine .o2 (C:=bx bd b p ps (d)) .auto rfl ?_
 rintro vw ve -
 refine .jT (C:=cH b ps (d).s) .auto rfl ?_
 rintro fv sv pv bt vm bg vt bk bw vr -
 have hnn:=hk.nn
 have hn0:=hk.I.n
 refine .fr .auto (bQ hp ht) ?_
 have hIa:=hk.I.a
 have hRl:=hk.R.l
 have hlt:=hk.lt
 refine J 1 ?_
 refine .draw [arr bd 0 (eh b p d vw ve)] [0,0,0,0,0,0,0,0,0,0,1,2,3,1,1,1,1,1] rfl (by kernel_rfl) ?_
 refine J 9 ?_
 refine .q (.iD underlying110 underlying3 rfl (by omega)) ?_
 refine J 1 ?_
 refine .c2 call231 rfl (Iv ht hk.I.b) fun _ _=>?_
 refine .to (A:=aD ps d.s.aF) (Bs:=[arr p 0 (bn t),aD (ps.set d.n none) (d.s.aF.set d.n none)]) .auto (bN hp ht) ?_
 refine .d3 rfl (ae.cY rfl call80 rfl (uE hk.T hk.lt hk.free) .auto) ?_
 rintro _ _ ⟨qs,⟨q,hqs⟩,rfl,rfl⟩
 refine J 1 ?_
 refine .p (.extract (v:=.int .i64 (d.s.begin d.i.n d.b).1) rfl rfl) ?_
 refine .p (.extract (v:=.int .i64 (d.s.begin d.i.n d.b).2.1) rfl rfl) ?_
 refine JD 16 (fun h22=>?_) fun h22=>?_
 ·obtain⟨n,hfr⟩:∃ n,slotFree? d.s.table 0=some n:=by
   cases hh:slotFree? d.s.table 0 with
   | none=>rw[kD hh] at h22;cases h22
   | some n=>exact⟨n,rfl⟩
  have hb1:(d.s.begin d.i.n d.b).1=(n:Int):=by rw[fb hfr]
  have hn0e:=hk.free n hfr
  have hn16:n<16:=hlt ▸ (List.getElem?_eq_some_iff.1 hn0e).1
  obtain⟨t1,ht1,ht1e⟩:=wj (f:=d.i.n) (arg:=d.b) hfr (by omega)
  have hqn:qs[n]?=some (some q):=by
   rw[hqs];unfold nw;rw[hfr];exact List.getElem?_set_self (by rw[hk.lp];exact hn16)
  have hne:n≠d.n:=fun e=>by rw[e,ht] at hn0e;cases hn0e
  have hp2:qs[d.n]?=some (some p):=by
   rw[hqs];unfold nw;rw[hfr];exact(List.getElem?_set_ne hne).trans hp
  have ht2:(d.s.begin d.i.n d.b).2.2.aF[d.n]?=some (some t):=by
   rw[fb hfr];exact(List.getElem?_set_ne hne).trans ht
  rw[hb1]
  refine J 2 ?_
  refine .jT (C:=cH b qs (d.s.begin d.i.n d.b).2.2) .auto rfl ?_
  rintro fv sv pv bt vm bg vt bk bw vr -
  refine .fr .auto (bQ hqn ht1) ?_
  refine J 7 ?_
  refine .p (.dJ n underlying134 sizeOf133 rfl rfl rfl hn16) ?_
  refine .p (.ld rfl (Cell.a (by rw[Nat.mul_one,eP hn16,aY hqn]))) ?_
  refine J 14 ?_
  refine .ai rfl (ae.gC 3 rfl rfl (by kernel_rfl)) ?_
  rintro _ _ ⟨b42,rfl,rfl⟩
  refine .ai rfl (ae.gh (enc:=au) (k:=1) (n:Int) rfl underlying50 underlying50 typeInfo3 rfl rfl rfl (by decide) rfl rfl rfl .auto rfl .auto (by have:=hk.wy;omega) rfl) ?_
  rintro _ _ ⟨v43,rfl,rfl⟩
  refine J 3 ?_
  refine .ai rfl (ae.mr sizeOf50 rfl rfl rfl) ?_
  rintro _ _ ⟨rfl,rfl⟩
  refine J 3 ?_
  refine .to (A:=aD qs (d.s.begin d.i.n d.b).2.2.aF) (Bs:=[arr q 0 (bn t1),aD (qs.set n none) ((d.s.begin d.i.n d.b).2.2.aF.set n none)]) .auto (bN hqn ht1) ?_
  refine .fr .auto (bQ hp2 ht2) ?_
  refine .draw [arr bd 0 (eh b p d v43 ve)] [1,1,1,1,1,1,1,1,1,1,1,1,1,1,3] rfl (by kernel_rfl) ?_
  refine J 13 ?_
  refine .p (.dJ d.i.a.toNat underlying163 sizeOf110 rfl rfl (by omega) (by omega)) ?_
  refine .d3 rfl (ae.st sizeOf110 rfl rfl rfl (Nat.blt_eq.mpr (by show 2+d.i.a.toNat * 1<18;omega))) ?_
  rintro _ _ ⟨rfl,rfl⟩
  rw[jK _ (by omega) (by omega) hRl]
  refine .to (A:=aD qs ((d.s.begin d.i.n d.b).2.2.aF.set d.n (some (t.put d.i.a t1.handle)))) (Bs:=[arr p 0 (bn (t.put d.i.a t1.handle)),aD (qs.set d.n none) ((d.s.begin d.i.n d.b).2.2.aF.set d.n none)]) .auto (cA (List.getElem?_eq_some_iff.1 ht2).1 hp2) ?_
  refine J 11 ?_
  refine .c call210 rfl (cx (d:=({d with s:=(d.s.begin d.i.n d.b).2.2,out:={d.out with av:=d.out.av++[(n:Int)] } }:Dng).aZ (t.put d.i.a t1.handle)) (ps:=qs) (p:=p) (t:=t.put d.i.a t1.handle) hp2 (dx ht2) (by show(d.s.begin d.i.n d.b).2.2.aC.length≤_;rw[fb hfr];exact(Nat.le_trans hk.aC (by decide))) (by rw[h22];decide) (by rw[j6];exact hRl)) fun _ _=>?_
  refine J 1 ?_
  rw[show d.spawn=(({d with s:=(d.s.begin d.i.n d.b).2.2,out:={d.out with av:=d.out.av++[(n:Int)] } }:Dng).aZ (t.put d.i.a t1.handle)).pass d.i.n t1.handle (d.s.begin d.i.n d.b).2.1 from by unfold Dng.spawn;simp only;rw[if_pos h22,if_pos h22,hb1,Int.toNat_natCast,dO ht1,show({d with s:=(d.s.begin d.i.n d.b).2.2,out:={d.out with av:=d.out.av++[(n:Int)] } }:Dng).t=t from dO ht2]]
  exact JR 0 qs
 ·have hfr:slotFree? d.s.table 0=none:=by
   cases hh:slotFree? d.s.table 0 with
   | none=>rfl
   | some n=>exact absurd (by rw[fb hh]) h22
  have hb:(d.s.begin d.i.n d.b)=(0,2,d.s):=kD hfr
  obtain rfl:qs=ps:=by rw[hqs];unfold nw;rw[hfr]
  rw[hb]
  have hp2:=hp
  have ht2:=ht
  refine .to (A:=cH b qs d.s) (Bs:=[cH b qs d.s]) .auto (fun h a=>by simpa only[seps,aN] using a) ?_
  refine .jT (C:=cH b qs d.s) .auto rfl ?_
  rintro fv sv pv bt vm bg vt bk bw vr -
  refine .fr .auto (bQ hp2 ht2) ?_
  refine J 3 ?_
  refine .draw [arr bd 0 (eh b p d vw ve)] [1,1,1,1,1,1,1,1,1,1,1,1,1,1,3] rfl (by kernel_rfl) ?_
  refine J 13 ?_
  refine .p (.dJ d.i.a.toNat underlying163 sizeOf110 rfl rfl (by omega) (by omega)) ?_
  refine .d3 rfl (ae.st sizeOf110 rfl rfl rfl (Nat.blt_eq.mpr (by show 2+d.i.a.toNat * 1<18;omega))) ?_
  rintro _ _ ⟨rfl,rfl⟩
  rw[jK _ (by omega) (by omega) hRl]
  refine .to (A:=aD qs (d.s.aF.set d.n (some (t.put d.i.a 0)))) (Bs:=[arr p 0 (bn (t.put d.i.a 0)),aD (qs.set d.n none) (d.s.aF.set d.n none)]) .auto (cA (List.getElem?_eq_some_iff.1 ht2).1 hp2) ?_
  refine J 11 ?_
  refine .c call210 rfl (cx (d:=d.aZ (t.put d.i.a 0)) (ps:=qs) (p:=p) (t:=t.put d.i.a 0) (e:=2) hp2 (dx ht2) (Nat.le_trans hk.aC (by decide)) (by decide) (by rw[j6];exact hRl)) fun _ _=>?_
  refine J 1 ?_
  rw[show d.spawn=(d.aZ (t.put d.i.a 0)).pass d.i.n 0 2 from by unfold Dng.spawn;rw[hb];simp only;rw[if_neg (by decide),if_neg (by decide),dq ht]]
  exact JR 0 qs
theorem Cs{W:World}{bd b p:Nat}{ps:List (Option Nat)}{d:Dng}{t:bI}(hp:ps[d.n]?=some (some p))(ht:d.s.aF[d.n]?=some (some t))(hk:iT ps d t):Fn Tryz.prog W 218 [ptr bd] [bx bd b p ps d] Unit (fun _=>.tuple #[]) (fun _=>True) (fun _=>[bx bd b p ps (d.kernel)]):=by
 refine Fn.intro (N:=42) func218 rfl ntmps218 rfl fun F=>?_
 show ar _ _ _ _ _ _ [bx bd b p ps d,F]
 refine .o2 (C:=bx bd b p ps (d)) .auto rfl ?_
 rintro vw ve -
 have ha0:0≤d.a:=by
  unfold Dng.a;rw[dq ht];exact(hk.R.r _).1
 have hb0:0≤d.b:=by
  unfold Dng.b;rw[dq ht];exact(hk.R.r _).1
 refine JD 16 (fun h11=>?_) fun h11=>?_
 ·refine .jT (C:=cH b ps (d).s) .auto rfl ?_
  rintro fv sv pv bt vm bg vt bk bw vr -
  refine .fr .auto (bQ hp ht) ?_
  refine .draw [arr bd 0 (eh b p d vw ve)] [0,1,2,0,0,0,0,0,3] rfl (by kernel_rfl) ?_
  refine J 2 ?_
  refine .c2 call231 rfl (Iv ht hk.I.b) fun _ _=>?_
  refine J 5 ?_
  refine .to (A:=aD ps d.s.aF) (Bs:=[arr p 0 (bn t),aD (ps.set d.n none) (d.s.aF.set d.n none)]) .auto (bN hp ht) ?_
  refine .c call244 rfl (DF hp ht hk hb0) fun _ _=>?_
  refine J 2 ?_
  rw[show d.kernel=d.ask d.b 0 d.i.a from by unfold Dng.kernel;repeat (first | rw[if_neg (by omega)] | rw[if_pos (by omega)])]
  exact JR 0 ()
 ·refine JD 6 (fun h22=>?_) fun h22=>?_
  ·refine J 3 ?_
   refine .c call213 rfl (xa hp ht hk.I.a) fun _ _=>?_
   refine J 1 ?_
   refine .c call231 rfl (KM hp ht hk.I.b) fun _ _=>?_
   refine .c call244 rfl (DF hp ht hk ha0) fun _ _=>?_
   refine J 2 ?_
   rw[show d.kernel=d.ask d.a d.b (-1) from by unfold Dng.kernel;repeat (first | rw[if_neg (by omega)] | rw[if_pos (by omega)])]
   exact JR 0 ()
  ·refine JD 6 (fun h30=>?_) fun h30=>?_
   ·refine J 2 ?_
    refine .c call245 rfl (Ke hp ht hk (.inl h30)) fun _ _=>?_
    refine J 2 ?_
    rw[show d.kernel=d.put from by unfold Dng.kernel;repeat (first | rw[if_neg (by omega)] | rw[if_pos (by omega)])]
    exact JR 0 ()
   ·refine JD 6 (fun h34=>?_) fun h34=>?_
    ·refine J 2 ?_
     refine .c call246 rfl (Kf hp ht hk (.inr h34)) fun _ _=>?_
     refine J 2 ?_
     rw[show d.kernel=d.get from by unfold Dng.kernel;repeat (first | rw[if_neg (by omega)] | rw[if_pos (by omega)])]
     exact JR 0 ()
    ·refine JD 6 (fun h38=>?_) fun h38=>?_
     ·refine J 2 ?_
      refine .c call247 rfl (Fh hp ht hk) fun _ _=>?_
      refine J 2 ?_
      rw[show d.kernel=d.sleep from by unfold Dng.kernel;repeat (first | rw[if_neg (by omega)] | rw[if_pos (by omega)])]
      exact JR 0 ()
     ·refine J 3 ?_
      refine .c call213 rfl (xa hp ht hk.I.a) fun _ _=>?_
      refine .c call210 rfl (cx hp ht (Nat.le_trans hk.aC (by decide)) (by decide) hk.R.l) fun _ _=>?_
      refine J 2 ?_
      rw[show d.kernel=d.pass d.a 0 0 from by unfold Dng.kernel;repeat (first | rw[if_neg (by omega)] | rw[if_pos (by omega)])]
      exact JR 0 ()
end Go.SLYthlllpngkljgfaaGreat
namespace Go.SLYthlllpngkljgfaaGreat
open Go Go.RowKit Go.Proofs Go.Proofs.Tryz
attribute [local irreducible] ar aM bm bA bE Y
theorem xh{W:World}{bd b p:Nat}{ps:List (Option Nat)}{d:Dng}{l:List Int}{u:Value}(hl:∀ w∈l,0≤w∧bK ps d.s w.toNat)(hw:∀ w∈d.waits,0≤w∧bK ps d.s w.toNat)(hm:d.s.fa.bz≤(d.s.al.du.length:Int))(hgm:d.s.al.du.length≤1000000)(hmw:∀ x∈d.s.al.du,x.wait.length≤1000000)(hb:d.ends.length+l.length≤1000000∧d.out.av.length+l.length≤1000000):Fn Tryz.prog W 216 [ptr bd,u] [bx bd b p ps d,sl au 1 u l] Unit (fun _=>.tuple #[]) (fun _=>True) (fun _=>[bx bd b p ps (d.mb l),sl au 1 u l]):=by
 refine Fn.intro (N:=57) func216 rfl ntmps216 rfl fun F=>?_
 show ar _ _ _ _ _ _ [bx bd b p ps d,sl au 1 u l,F]
 refine .o2 (C:=bx bd b p ps d) .auto rfl ?_
 rintro vw ve -
 refine .jT (C:=cH b ps d.s) .auto rfl ?_
 rintro fv sv pv bt vm bg vt bk bw vr -
 have hww:eI d d.s.fa.bz.toNat=d.waits:=rfl
 refine J 15 ?_
 refine .aX (X:=Nat) [4,6,17,18,19,20,21,22,23,24,25,26,27,28,29,30,31,32,33,34,35,36,37,38,39,40,41,42,43,44,45,46] (fun k=>d.s.fa.bz.toNat-k) (fun k=>k≤d.s.fa.bz.toNat) (fun k=>[(17,some (.int .i64 (k:Int)))]) (fun k=>[bx bd b p ps ({d with s:=cO d.s (eI d k) }:Dng),sl au 1 u l,F]) 0 ?_ ?_ ?_ ?_
 ·exact Nat.zero_le _
 ·exact⟨rfl,trivial⟩
 ·exact fun w s=>aq.kept .auto w s
 rintro k hk
 refine JD 6 (fun h18=>?_) fun h18=>?_
 ·refine J 12 ?_
  obtain⟨x,hx⟩:=ak (show k<d.s.al.du.length by omega)
  refine .o2 (C:=bx bd b p ps (({d with s:=cO d.s (eI d k) }:Dng))) .auto rfl ?_
  rintro vw ve -
  refine .jT (C:=cH b ps (({d with s:=cO d.s (eI d k) }:Dng)).s) .auto rfl ?_
  rintro fv sv pv bt vm bg vt bk bw vr -
  refine J 8 ?_
  have hxg:(cO d.s (eI d k)).al.du[k]?=some x:=by rw[yc];exact hx
  have hxl:=hmw x (List.mem_of_getElem? hx)
  refine .c call241 rfl (vG hxg hxl) fun u28 _=>?_
  refine J 5 ?_
  refine .aX (X:=Nat) [6,30,31,32,33,34,35,36,37,38,39,40,41,42,43,44,45] (fun j=>(x.wait.map (·.who)).length-j) (fun j=>j≤(x.wait.map (·.who)).length) (fun j=>[(30,some (.int .i64 (j:Int)))]) (fun j=>[bx bd b p ps ({d with s:=cO d.s (eI d k++(x.wait.map (·.who)).take j) }:Dng),sl au 1 u28 (x.wait.map (·.who)),sl au 1 u l,F]) 0 ?_ ?_ ?_ ?_
  ·exact Nat.zero_le _
  ·exact⟨rfl,trivial⟩
  ·rw[List.take_zero,List.append_nil];exact fun w s=>aq.kept .auto w s
  rintro j hj
  refine JD 6 (fun h31=>?_) fun h31=>?_
  ·refine J 6 ?_
   have hxl2:(x.wait.map (·.who)).length≤1000000:=by rw[List.length_map];exact hxl
   obtain⟨w,hwj⟩:=ak (show j<(x.wait.map (·.who)).length by omega)
   have hwm:w∈d.waits:=List.mem_flatMap.2 ⟨x,List.mem_of_getElem? (i:=k) (by rw[List.getElem?_take_of_lt (by omega)];exact hx),List.mem_of_getElem? hwj⟩
   obtain⟨hw0,hwl⟩:=hw w hwm
   obtain⟨hw16,q,v,hq,hv,hRv⟩:=tT w.toNat (eI d k++(x.wait.map (·.who)).take j) hwl
   refine J 6 ?_
   refine .o2 (C:=bx bd b p ps (({d with s:=cO d.s (eI d k++(x.wait.map (·.who)).take j) }:Dng))) .auto rfl ?_
   rintro vw ve -
   refine .jT (C:=cH b ps (({d with s:=cO d.s (eI d k++(x.wait.map (·.who)).take j) }:Dng)).s) .auto rfl ?_
   rintro fv sv pv bt vm bg vt bk bw vr -
   refine .fr .auto (bQ hq hv) ?_
   refine J 7 ?_
   refine .p (.dJ w.toNat underlying134 sizeOf133 rfl rfl (by omega) hw16) ?_
   refine .p (.ld rfl (Cell.a (by rw[Nat.mul_one,eP hw16,aY hq]))) ?_
   refine J 3 ?_
   rw[pM]
   refine J 7 ?_
   refine .to (A:=aD ps (({d with s:=cO d.s (eI d k++(x.wait.map (·.who)).take j) }:Dng).s.aF.set w.toNat (some ({v with cZ:=1 })))) (Bs:=[arr q 0 (bn ({v with cZ:=1 })),aD (ps.set w.toNat none) (({d with s:=cO d.s (eI d k++(x.wait.map (·.who)).take j) }:Dng).s.aF.set w.toNat none)]) .auto (cA (List.getElem?_eq_some_iff.1 hv).1 hq) ?_
   refine .aw (j+1) .auto rfl ?_ ?_ ?_ ?_
   ·omega
   ·show j+1≤_;omega
   ·exact⟨rfl,trivial⟩
   ·rw[aQ hwj, ← List.append_assoc,BI _ _ [w],show cO (cO d.s (eI d k++(x.wait.map (·.who)).take j)) [w]=(cO d.s (eI d k++(x.wait.map (·.who)).take j)).aZ w.toNat {v with cZ:=1 } from by show Spc.aZ _ _ _=_;rw[dO hv]];exact fun w s=>aq.kept .auto w s
  ·refine J 10 ?_
   rw[List.take_of_length_le (by omega), ← yf hx]
   refine .aw (k+1) .auto rfl ?_ ?_ ?_ ?_
   ·omega
   ·show k+1≤_;omega
   ·exact⟨rfl,trivial⟩
   ·exact fun w s=>aq.kept .auto w s
 ·refine J 13 ?_
  rw[show k=d.s.fa.bz.toNat from by omega,hww]
  refine .aX (X:=Nat) [8,49,50,51,52,53,54,55,56] (fun k=>l.length-k) (fun k=>k≤l.length) (fun k=>[(49,some (.int .i64 (k:Int)))]) (fun k=>[bx bd b p ps (({d with s:=cO d.s d.waits }:Dng).dF (l.take k)),sl au 1 u l,F]) 0 ?_ ?_ ?_ ?_
  ·exact Nat.zero_le _
  ·exact⟨rfl,trivial⟩
  ·exact fun w s=>aq.kept .auto w s
  rintro k hk
  refine JD 6 (fun h50=>?_) fun h50=>?_
  ·refine J 6 ?_
   obtain⟨w,hwj⟩:=ak (show k<l.length by omega)
   have hwl:=hl w (List.mem_of_getElem? hwj)
   obtain⟨hw16,q,v,hq,hv,hRv⟩:=ye w.toNat (l.take k) ({d with s:=cO d.s d.waits }:Dng) (tT _ _ hwl.2) (fun z hz=>tT _ _ (hl z (List.mem_of_mem_take hz)).2)
   have hgl2:=rL ({d with s:=cO d.s d.waits }:Dng) (l.take k)
   rw[List.length_take] at hgl2
   refine J 8 ?_
   refine .c call207 rfl (kW (d:=({d with s:=cO d.s d.waits }:Dng).dF (l.take k)) hwl.1 hq hv hw16 hRv (by show(Dng.dF _ _).ends.length≤_;simp only at hgl2;omega) (by show(Dng.dF _ _).out.av.length≤_;simp only at hgl2;omega)) fun _ _=>?_
   refine J 7 ?_
   refine .aw (k+1) .auto rfl ?_ ?_ ?_ ?_
   ·omega
   ·show k+1≤_;omega
   ·exact⟨rfl,trivial⟩
   ·rw[aQ hwj,yd];exact fun w s=>aq.kept .auto w s
  ·refine J 4 ?_
   rw[show d.mb l=({d with s:=cO d.s d.waits }:Dng).dF (l.take k) from by rw[List.take_of_length_le (by omega)];rfl]
   exact JR 0 ()
theorem Iw{W:World}{bd b p:Nat}{ps:List (Option Nat)}{d:Dng}{t:bI}(hp:ps[d.n]?=some (some p))(ht:d.s.aF[d.n]?=some (some t))(hk:iT ps d t):Fn Tryz.prog W 187 [ptr bd] [bx bd b p ps d] (List (Option Nat)) (fun _=>.tuple #[]) (fun _=>True) (fun qs=>[bx bd b p qs d.call]):=by
 refine Fn.intro (N:=124) func187 rfl ntmps187 rfl fun F=>?_
 show ar _ _ _ _ _ _ [bx bd b p ps d,F]
 refine .o2 (C:=bx bd b p ps (d)) .auto rfl ?_
 rintro vw ve -
 have hnn:=hk.nn
 have hn0:=hk.I.n
 have hIa:=hk.I.a
 have hRl:=hk.R.l
 refine JD 16 (fun h11=>?_) fun h11=>?_
 ·refine J 2 ?_
  refine .c call209 rfl (Fi hp ht hk) fun qs _=>?_
  refine J 2 ?_
  rw[show d.call=d.spawn from by unfold Dng.call;repeat (first | rw[if_neg (by omega)] | rw[if_pos (by omega)])]
  exact JR 0 qs
 ·refine JD 6 (fun h15=>?_) fun h15=>?_
  ·refine J 1 ?_
   refine .jT (C:=cH b ps (d).s) .auto rfl ?_
   rintro fv sv pv bt vm bg vt bk bw vr -
   refine .fr .auto (bQ hp ht) ?_
   refine .draw [arr bd 0 (eh b p d vw ve)] [1,1,1,1,1,1,1,1,1,1,1,1,1,1,1,1,1,1,1,1,3] rfl (by kernel_rfl) ?_
   refine J 19 ?_
   refine .p (.dJ d.i.a.toNat underlying163 sizeOf110 rfl rfl (by omega) (by omega)) ?_
   refine .d3 rfl (ae.st sizeOf110 rfl rfl rfl (Nat.blt_eq.mpr (by show 2+d.i.a.toNat * 1<18;omega))) ?_
   rintro _ _ ⟨rfl,rfl⟩
   rw[jK _ (by omega) (by omega) hRl]
   refine J 10 ?_
   refine .p (.ld rfl (Cell.a (cs:=bn (t.put d.i.a t.handle)) rfl)) ?_
   refine .to (A:=aD ps (d.s.aF.set d.n (some (t.put d.i.a t.handle)))) (Bs:=[arr p 0 (bn (t.put d.i.a t.handle)),aD (ps.set d.n none) (d.s.aF.set d.n none)]) .auto (cA (List.getElem?_eq_some_iff.1 ht).1 hp) ?_
   refine .c call210 rfl (cx (d:=d.aZ (t.put d.i.a t.handle)) (t:=t.put d.i.a t.handle) hp (dx ht) (Nat.le_trans hk.aC (by decide)) (by decide) (by rw[j6];exact hRl)) fun _ _=>?_
   refine J 2 ?_
   rw[show d.call=(d.aZ (t.put d.i.a t.handle)).pass 0 t.handle 0 from by unfold Dng.call;rw[if_neg h11,if_pos h15,dq ht]]
   exact JR 0 ps
  ·refine JD 6 (fun h46=>?_) fun h46=>?_
   ·refine J 3 ?_
    refine .c call210 rfl (cx hp ht (Nat.le_trans hk.aC (by decide)) (by decide) hk.R.l) fun _ _=>?_
    refine J 3 ?_
    refine .o2 (C:=bx bd b p ps (d.pass 0 0 0)) .auto rfl ?_
    rintro vw ve -
    refine J 5 ?_
    rw[Jt]
    refine J 2 ?_
    rw[show d.call = {d.pass 0 0 0 with out:={d.out with yielded:=true } } from by unfold Dng.call;repeat (first | rw[if_neg (by omega)] | rw[if_pos (by omega)])]
    exact JR 0 ps
   ·refine JD 6 (fun h54=>?_) fun h54=>?_
    ·refine J 2 ?_
     refine .c call211 rfl (Iu hp ht hk) fun qs _=>?_
     refine J 2 ?_
     rw[show d.call=d.join from by unfold Dng.call;repeat (first | rw[if_neg (by omega)] | rw[if_pos (by omega)])]
     exact JR 0 qs
    ·refine JD 6 (fun h58=>?_) fun h58=>?_
     ·refine J 2 ?_
      refine .c call212 rfl (Cr hp ht hk) fun qs _=>?_
      refine J 2 ?_
      rw[show d.call=d.gi from by unfold Dng.call;repeat (first | rw[if_neg (by omega)] | rw[if_pos (by omega)])]
      exact JR 0 qs
     ·refine JD 6 (fun h62=>?_) fun h62=>?_
      ·refine J 4 ?_
       refine .c call213 rfl (xa hp ht hk.I.a) fun _ _=>?_
       refine .c call184 rfl (jS hp ht (Nat.le_trans hk.aC (by decide))) fun _ _=>?_
       refine J 5 ?_
       refine .c call213 rfl (xa (d:=d.tell d.a 0 0 true) hp ht hk.I.a) fun _ _=>?_
       rw[show(d.tell d.a 0 0 true).a=d.a from rfl]
       refine .c call185 rfl (sL (d:=d.tell d.a 0 0 true) hp ht hk.lt hk.lp hk.T hk.R (Nat.le_trans hk.ends (by decide)) (Nat.le_trans hk.wy (by decide)) hk.join) fun qs _=>?_
       refine J 2 ?_
       rw[show d.call=(d.tell d.a 0 0 true).fin d.a from by unfold Dng.call;repeat (first | rw[if_neg (by omega)] | rw[if_pos (by omega)])]
       exact JR 0 qs
      ·refine JD 7 (fun h72=>?_) fun h72=>?_
       ·refine J 2 ?_
        first | refine ar.dD rfl (fun _=>?_) (fun hc=>absurd h72 hc) | refine ar.cond rfl (fun _=>?_) (fun hc=>by rw[h72] at hc;cases hc)
        refine J 2 ?_
        refine .c call214 rfl (re hp ht hk) fun _ _=>?_
        refine J 2 ?_
        rw[show d.call=d.mutex from by unfold Dng.call;repeat (first | rw[if_neg (by omega)] | rw[if_pos (by omega)])]
        exact JR 0 ps
       ·refine JD 6 (fun h72=>?_) fun h72=>?_
        ·refine J 2 ?_
         first | refine ar.dD rfl (fun _=>?_) (fun hc=>absurd h72 hc) | refine ar.cond rfl (fun _=>?_) (fun hc=>by rw[h72] at hc;cases hc)
         refine J 2 ?_
         refine .c call214 rfl (re hp ht hk) fun _ _=>?_
         refine J 2 ?_
         rw[show d.call=d.mutex from by unfold Dng.call;repeat (first | rw[if_neg (by omega)] | rw[if_pos (by omega)])]
         exact JR 0 ps
        ·refine JD 5 (fun h72c=>?_) fun h72c=>?_
         ·refine J 2 ?_
          refine .c call214 rfl (re hp ht hk) fun _ _=>?_
          refine J 2 ?_
          rw[show d.call=d.mutex from by unfold Dng.call;repeat (first | rw[if_neg (by omega)] | rw[if_pos (by omega)])]
          exact JR 0 ps
         ·refine JD 7 (fun h78=>?_) fun h78=>?_
          ·refine J 2 ?_
           first | refine ar.dD rfl (fun _=>?_) (fun hc=>absurd h78 hc) | refine ar.cond rfl (fun _=>?_) (fun hc=>by rw[h78] at hc;cases hc)
           refine J 1 ?_
           refine .jT (C:=cH b ps (d).s) .auto rfl ?_
           rintro fv sv pv bt vm bg vt bk bw vr -
           refine .draw [arr bd 0 (eh b p d vw ve),arr b 0 (fy fv sv pv d.s.fa bt ps vm bg vt bk bw vr)] [1,1,1,1,1,1,1,1,1,1,1,1,1,1,1,1,1,1,1,1,1,1,1,3,1,1,1,1,1] rfl (by kernel_rfl) ?_
           refine J 12 ?_
           refine .p (.iD underlying110 underlying3 rfl (by omega)) ?_
           refine J 10 ?_
           refine .c call215 rfl (sa hk.gl hk.Jx) fun u105 _=>?_
           refine J 1 ?_
           refine .p (.extract (v:=u105) rfl rfl) ?_
           refine .p (.extract (v:=.int .i64 (d.s.al.signal d.i.n d.choice (decide (d.i.op=29))).2.1) rfl rfl) ?_
           refine J 13 ?_
           refine .c call210 rfl (cx (d:=(d.bH (d.s.al.signal d.i.n d.choice (decide (d.i.op=29))).2.2)) hp ht (Nat.le_trans hk.aC (by decide)) il hk.R.l) fun _ _=>?_
           have sigw:∀ w∈((d.bH (d.s.al.signal d.i.n d.choice (decide (d.i.op=29))).2.2).pass d.i.n 0 (d.s.al.signal d.i.n d.choice (decide (d.i.op=29))).2.1).waits,d.s.al.has w:=fun w h=>by
            obtain⟨x,hx,hw⟩:=List.mem_flatMap.1 h
            obtain⟨y,hy,rfl⟩:=List.mem_map.1 hw
            exact(lH hk.BS.1 hk.BS.2 x (List.mem_of_mem_take hx)).2 y hy
           refine J 5 ?_
           refine .c call216 rfl (xh (d:=((d.bH (d.s.al.signal d.i.n d.choice (decide (d.i.op=29))).2.2).pass d.i.n 0 (d.s.al.signal d.i.n d.choice (decide (d.i.op=29))).2.1)) (l:=(d.s.al.signal d.i.n d.choice (decide (d.i.op=29))).1) (fun w h=>⟨(hk.iX w (lG w h)).1,((hk.iX w (lG w h)).2.of (s':=(d.bH (d.s.al.signal d.i.n d.choice (decide (d.i.op=29))).2.2).s) rfl).pass (d:=(d.bH (d.s.al.signal d.i.n d.choice (decide (d.i.op=29))).2.2)) ht hk.R il⟩) (fun w h=>⟨(hk.iX w (sigw w h)).1,((hk.iX w (sigw w h)).2.of (s':=(d.bH (d.s.al.signal d.i.n d.choice (decide (d.i.op=29))).2.2).s) rfl).pass (d:=(d.bH (d.s.al.signal d.i.n d.choice (decide (d.i.op=29))).2.2)) ht hk.R il⟩) (by show d.s.fa.bz≤((d.s.al.signal d.i.n d.choice (decide (d.i.op=29))).2.2.du.length:Int);rw[j8];exact hk.Jy) (by show((d.s.al.signal d.i.n d.choice (decide (d.i.op=29))).2.2.du.length)≤_;rw[j8];exact hk.gl.m) (fun x h=>(lH hk.BS.1 hk.BS.2 x h).1) (by have:=oF (c:=d.i.n) (ch:=d.choice) (all:=decide (d.i.op=29)) hk.BS.2;have:=hk.ends;have:=hk.wy;exact⟨by show d.ends.length+_≤_;omega,by show d.out.av.length+_≤_;omega⟩)) fun _ _=>?_
           refine J 2 ?_
           rw[show d.call=((d.bH (d.s.al.signal d.i.n d.choice (decide (d.i.op=29))).2.2).pass d.i.n 0 (d.s.al.signal d.i.n d.choice (decide (d.i.op=29))).2.1).mb (d.s.al.signal d.i.n d.choice (decide (d.i.op=29))).1 from by unfold Dng.call;repeat (first | rw[if_neg (by omega)] | rw[if_pos (by omega)])]
           exact JR 0 ps
          ·refine JD 5 (fun h78=>?_) fun h78=>?_
           ·refine J 1 ?_
            refine .jT (C:=cH b ps (d).s) .auto rfl ?_
            rintro fv sv pv bt vm bg vt bk bw vr -
            refine .draw [arr bd 0 (eh b p d vw ve),arr b 0 (fy fv sv pv d.s.fa bt ps vm bg vt bk bw vr)] [1,1,1,1,1,1,1,1,1,1,1,1,1,1,1,1,1,1,1,1,1,1,1,3,1,1,1,1,1] rfl (by kernel_rfl) ?_
            refine J 12 ?_
            refine .p (.iD underlying110 underlying3 rfl (by omega)) ?_
            refine J 10 ?_
            refine .c call215 rfl (sa hk.gl hk.Jx) fun u105 _=>?_
            refine J 1 ?_
            refine .p (.extract (v:=u105) rfl rfl) ?_
            refine .p (.extract (v:=.int .i64 (d.s.al.signal d.i.n d.choice (decide (d.i.op=29))).2.1) rfl rfl) ?_
            refine J 13 ?_
            refine .c call210 rfl (cx (d:=(d.bH (d.s.al.signal d.i.n d.choice (decide (d.i.op=29))).2.2)) hp ht (Nat.le_trans hk.aC (by decide)) il hk.R.l) fun _ _=>?_
            have sigw:∀ w∈((d.bH (d.s.al.signal d.i.n d.choice (decide (d.i.op=29))).2.2).pass d.i.n 0 (d.s.al.signal d.i.n d.choice (decide (d.i.op=29))).2.1).waits,d.s.al.has w:=fun w h=>by
             obtain⟨x,hx,hw⟩:=List.mem_flatMap.1 h
             obtain⟨y,hy,rfl⟩:=List.mem_map.1 hw
             exact(lH hk.BS.1 hk.BS.2 x (List.mem_of_mem_take hx)).2 y hy
            refine J 5 ?_
            refine .c call216 rfl (xh (d:=((d.bH (d.s.al.signal d.i.n d.choice (decide (d.i.op=29))).2.2).pass d.i.n 0 (d.s.al.signal d.i.n d.choice (decide (d.i.op=29))).2.1)) (l:=(d.s.al.signal d.i.n d.choice (decide (d.i.op=29))).1) (fun w h=>⟨(hk.iX w (lG w h)).1,((hk.iX w (lG w h)).2.of (s':=(d.bH (d.s.al.signal d.i.n d.choice (decide (d.i.op=29))).2.2).s) rfl).pass (d:=(d.bH (d.s.al.signal d.i.n d.choice (decide (d.i.op=29))).2.2)) ht hk.R il⟩) (fun w h=>⟨(hk.iX w (sigw w h)).1,((hk.iX w (sigw w h)).2.of (s':=(d.bH (d.s.al.signal d.i.n d.choice (decide (d.i.op=29))).2.2).s) rfl).pass (d:=(d.bH (d.s.al.signal d.i.n d.choice (decide (d.i.op=29))).2.2)) ht hk.R il⟩) (by show d.s.fa.bz≤((d.s.al.signal d.i.n d.choice (decide (d.i.op=29))).2.2.du.length:Int);rw[j8];exact hk.Jy) (by show((d.s.al.signal d.i.n d.choice (decide (d.i.op=29))).2.2.du.length)≤_;rw[j8];exact hk.gl.m) (fun x h=>(lH hk.BS.1 hk.BS.2 x h).1) (by have:=oF (c:=d.i.n) (ch:=d.choice) (all:=decide (d.i.op=29)) hk.BS.2;have:=hk.ends;have:=hk.wy;exact⟨by show d.ends.length+_≤_;omega,by show d.out.av.length+_≤_;omega⟩)) fun _ _=>?_
            refine J 2 ?_
            rw[show d.call=((d.bH (d.s.al.signal d.i.n d.choice (decide (d.i.op=29))).2.2).pass d.i.n 0 (d.s.al.signal d.i.n d.choice (decide (d.i.op=29))).2.1).mb (d.s.al.signal d.i.n d.choice (decide (d.i.op=29))).1 from by unfold Dng.call;repeat (first | rw[if_neg (by omega)] | rw[if_pos (by omega)])]
            exact JR 0 ps
           ·refine JD 7 (fun h119=>?_) fun h119=>?_
            ·refine J 2 ?_
             first | refine ar.dD rfl (fun _=>?_) (fun hc=>absurd h119 hc) | refine ar.cond rfl (fun _=>?_) (fun hc=>by rw[h119] at hc;cases hc)
             refine J 2 ?_
             refine .c call217 rfl (DG hp ht hk) fun _ _=>?_
             refine J 2 ?_
             rw[show d.call=d.ew from by unfold Dng.call;repeat (first | rw[if_neg (by omega)] | rw[if_pos (by omega)])]
             exact JR 0 ps
            ·refine JD 5 (fun h119=>?_) fun h119=>?_
             ·refine J 2 ?_
              refine .c call217 rfl (DG hp ht hk) fun _ _=>?_
              refine J 2 ?_
              rw[show d.call=d.ew from by unfold Dng.call;repeat (first | rw[if_neg (by omega)] | rw[if_pos (by omega)])]
              exact JR 0 ps
             ·refine J 2 ?_
              refine .c call218 rfl (Cs hp ht hk) fun _ _=>?_
              refine J 2 ?_
              rw[show d.call=d.kernel from by unfold Dng.call;repeat (first | rw[if_neg (by omega)] | rw[if_pos (by omega)])]
              exact JR 0 ps
end Go.SLYthlllpngkljgfaaGreat
namespace Go.SLYthlllpngkljgfaaGreat
open Go Go.RowKit Go.Proofs Go.Proofs.Tryz
attribute [local irreducible] ar aM bm bA bE Y
theorem uS{W:World}{fv c1 c2 c3 c4 c5 c6 c7:Value}{p:gY}{f:iW}(hl:p.funcs.length≤1000000)(hl2:∀ g∈p.funcs,g.length≤256):Fn Tryz.prog W 179 [.agg #[fv,c1,c2,c3,c4,c5,c6,c7],.agg (iS f).toArray] [zq fv p.funcs] Unit (fun _=>KC (dV p f)) (fun _=>True) (fun _=>[zq fv p.funcs]) :=
 Fn.NC fun fs hfs=>Cl (A:=seps [sl ep 1 fv fs,aO (fun x=>sl eg 5 x.1 x.2) fs]) (Rd.eU (Rd.sl .here)) (fun x hx=>Rd.eU (xS (f:=fun x:Value×List Ins=>x.1) (g:=fun x=>x.2) hx (.there .here))) hfs (by rw[← List.length_map (f:=(·.2)),hfs];exact hl) (fun x hx=>Nat.le_trans (hl2 _ (by rw[← hfs];exact List.mem_map_of_mem hx)) (by decide))
theorem Ix{W:World}{b:Nat}{s:Spc}{n choice:Int}(hO:iH s):Fn Tryz.prog W 163 [ptr b,.int .i64 n,.int .i64 choice] [eT b s] Value (fun u=>.tuple #[.agg (mS u (s.run n choice).1).toArray,.int .i64 (s.run n choice).2.1]) (fun _=>True) (fun u=>[sl au 1 u (s.run n choice).1.av,eT b (s.run n choice).2.2]):=by
 refine Fn.intro (N:=76) func163 rfl ntmps163 rfl fun F=>?_
 show ar _ _ _ _ _ _ [eT b s,F]
 refine .o1 (C:=eT b s) .auto rfl ?_
 rintro ps -
 refine .jT (C:=cH b ps s) .auto rfl ?_
 rintro fv sv pv bt vm bg vt bk bw vr -
 refine .cr (fun w st=>st.fact .auto jj) fun hs=>?_
 refine J 2 ?_
 refine .ai rfl (ae.alloc rfl zeroValue66 rfl) ?_
 rintro _ _ ⟨b6,rfl,rfl⟩
 refine J 7 ?_
 refine .c call178 rfl DB fun _ _=>?_
 refine JD 12 (fun h15=>?_) fun h15=>?_
 ·have hap:BH ps n=none:=by
   cases hh:BH ps n with
   | none=>rfl
   | some p=>rw[hh] at h15;cases h15
  refine J 2 ?_
  refine .p (.mi ([(.slice none 0 0),(.bool false),(.bool false),(.bool false)]) (by kernel_rfl)) ?_
  refine J 7 ?_
  rw[zU (KE hs hap hO.lt)]
  refine .fp rfl rfl isAgg66 (by exact sizeOf66) Cells.a rfl fun w s=>⟨(.slice none 0 0),?_,trivial,aj .auto s⟩
  rfl
 ·obtain⟨p,hap⟩:∃ p,BH ps n=some p:=by
   cases hh:BH ps n with
   | none=>rw[hh] at h15;cases h15
   | some p=>exact⟨p,rfl⟩
  rw[hap]
  obtain⟨k,t,rfl,hk16,hp,ht,hat⟩:=G5 hs hap hO.lt
  have hR:=(hO.R k t ht).1
  have hpc:=(hO.R k t ht).2
  refine J 2 ?_
  refine .jT (C:=cH b ps s) .auto rfl ?_
  rintro fv sv pv bt vm bg vt bk bw vr -
  refine .fr .auto (bQ hp ht) ?_
  refine JD 8 (fun h19=>?_) fun h19=>?_
  ·refine J 2 ?_
   refine .p (.mi ([(.slice none 0 0),(.bool false),(.bool false),(.bool false)]) (by kernel_rfl)) ?_
   refine J 7 ?_
   refine .to (A:=aD ps s.aF) (Bs:=[arr p 0 (bn t),aD (ps.set k none) (s.aF.set k none)]) .auto (bN hp ht) ?_
   rw[zV hat h19]
   refine .fp rfl rfl isAgg66 (by exact sizeOf66) Cells.a rfl fun w s=>⟨(.slice none 0 0),?_,trivial,aj .auto s⟩
   rfl
  ·have hw0:t.cZ=0:=Decidable.not_not.mp h19
   refine J 4 ?_
   refine .s9 [arr b 0 (fy fv sv pv s.fa bt ps vm bg vt bk bw vr),arr p 0 (bn t)] [0,0,0,0,0,0,0,0,2,0,0,0,4,2,0] [0,1,2,3,4,5,6,7,8,9,10,11,12,13,14] rfl (by kernel_rfl) ?_
   refine bE.q rfl rfl rfl Kept.auto (Y.m rfl) ?_
   refine bE.q rfl rfl rfl Kept.auto (Y.n rfl) ?_
   refine bE.q rfl rfl rfl Kept.auto (Y.gx 56 underlying137 rfl sizeOf56 rfl) ?_
   refine bE.q rfl rfl rfl Kept.auto (Y.FT isAgg56 rfl (Cells.mD (ds:=zX fv sv pv s.fa) (Cells.a (cs:=fy fv sv pv s.fa bt ps vm bg vt bk bw vr)) rfl) (by exact sizeOf56)) ?_
   refine bE.q rfl rfl rfl Kept.auto (Y.m rfl) ?_
   refine bE.q rfl rfl rfl Kept.auto (Y.n rfl) ?_
   refine bE.q rfl rfl rfl Kept.auto (Y.gx 165 underlying167 rfl sizeOf165 rfl) ?_
   refine bE.q rfl rfl rfl Kept.auto (Y.FT isAgg165 rfl (Cells.mD (ds:=iS t.nB) (Cells.a (cs:=bn t)) rfl) (by exact sizeOf165)) ?_
   refine bE.cY rfl (.inl rfl) rfl (fun _=>Kept.auto) call179 rfl (uS (p:=s.fa) (f:=t.nB) hO.Ac.1 hO.Ac.2) .auto (fun _ _=>Kept.auto) ?_
   rintro⟨⟩ -
   refine bE.q rfl rfl rfl Kept.auto (Y.m rfl) ?_
   refine bE.q rfl rfl rfl Kept.auto (Y.extract (v:=.agg (eg ((dV s.fa t.nB).getD Ins.z)).toArray) rfl rfl) ?_
   refine bE.q rfl rfl rfl Kept.auto (Y.extract (v:=.bool (dV s.fa t.nB).isSome) rfl rfl) ?_
   refine bE.fresh rfl rfl rfl (by decide) Kept.auto (mF zeroValue112 rfl) ?_
   rintro b9
   refine bE.Lp rfl rfl (by exact sizeOf112) rfl rfl rfl (by rfl) Kept.auto Kept.auto ?_
   refine bE.q rfl rfl rfl Kept.auto (Y.a rfl) ?_
   refine bE.nil ?_
   refine J 8 ?_
   refine .p (.Ns (fun _ _ _ _ _=>eh b p (s.dN k ((dV s.fa t.nB).getD Ins.z) choice) (.slice none 0 0) (.slice none 0 0)) rfl rfl rfl rfl rfl (by kernel_rfl)) ?_
   refine .ai rfl (ae.box rfl rfl rfl) ?_
   rintro _ _ ⟨b44,rfl,rfl⟩
   refine JD 12 (fun h56=>?_) fun h56=>?_
   ·have hn:(dV s.fa t.nB)=none:=Option.isNone_iff_eq_none.mp (by simpa using h56)
    refine J 3 ?_
    refine .p (.hZ (fun v1=>[v1,(.int .i64 0),(.int .i64 0),(.int .i64 0),(.int .u64 0)]) rfl (by kernel_rfl)) ?_
    refine J 2 ?_
    refine .ai rfl (ae.IX (vs:=eg ⟨23,0,0,0,0⟩) (by exact sizeOf112) rfl rfl rfl rfl) ?_
    rintro _ _ ⟨rfl,rfl⟩
    rw[show setFrom (eh b p (s.dN k ((dV s.fa t.nB).getD Ins.z) choice) (.slice none 0 0) (.slice none 0 0)) 3 (eg ⟨23,0,0,0,0⟩)=eh b p (s.dN k ⟨23,0,0,0,0⟩ choice) (.slice none 0 0) (.slice none 0 0) from rfl]
    refine J 5 ?_
    refine .to (A:=aD ps s.aF) (Bs:=[arr p 0 (bn t),aD (ps.set k none) (s.aF.set k none)]) .auto (bN hp ht) ?_
    refine .c call184 rfl (jS (d:=(s.dN k ⟨23,0,0,0,0⟩ choice)) hp ht (Nat.le_trans hO.aC (by decide))) fun _ _=>?_
    refine J 4 ?_
    refine .c call185 rfl (sL (d:=(s.dN k ⟨23,0,0,0,0⟩ choice).tell 0 0 0 true) hp ht hO.lt (hs.1.trans hO.lt) hO.T hR (Nat.zero_le _) (Nat.zero_le _) (hO.KD hs ht hw0)) fun qs _=>?_
    refine J 6 ?_
    refine .c call188 rfl (oR (d:=(((s.dN k ⟨23,0,0,0,0⟩ choice).tell 0 0 0 true).fin 0)) (Nat.le_trans (gG.trans kK).1 (by have:=hO.aC;show s.aC.length+_≤_;omega)) (Nat.le_trans (gG.trans kK).2 (by show 0+_≤_;decide))) fun u75 _=>?_
    refine .ai rfl (ae.Js (vs:=[.bool (((s.dN k ⟨23,0,0,0,0⟩ choice).tell 0 0 0 true).fin 0).finish.1.aR,.bool (((s.dN k ⟨23,0,0,0,0⟩ choice).tell 0 0 0 true).fin 0).finish.1.ended,.bool (((s.dN k ⟨23,0,0,0,0⟩ choice).tell 0 0 0 true).fin 0).finish.1.yielded]) (by exact sizeOf66) rfl rfl rfl rfl) ?_
    rintro _ _ ⟨rfl,rfl⟩
    refine J 4 ?_
    rw[Dh hat h19 hn rfl]
    refine .fp rfl rfl isAgg66 (by exact sizeOf66) Cells.a rfl fun w s=>⟨u75,?_,trivial,aj .auto s⟩
    rfl
   ·obtain⟨i,hn⟩:∃ i,(dV s.fa t.nB)=some i:=Option.isSome_iff_exists.mp (by simpa using h56)
    rw[show((dV s.fa t.nB).getD Ins.z)=i from by rw[hn];rfl]
    obtain⟨hI,hIn,hIt⟩:=wu hO hn
    refine J 4 ?_
    refine .c call168 rfl lW fun _ _=>?_
    refine JD 4 (fun h67=>?_) fun h67=>?_
    ·refine J 2 ?_
     refine .to (A:=aD ps s.aF) (Bs:=[arr p 0 (bn t),aD (ps.set k none) (s.aF.set k none)]) .auto (bN hp ht) ?_
     refine .c call186 rfl (E8 (d:=(s.dN k i choice)) hp ht hI (hR.nB hpc) h67 hO.mem (Nat.le_trans hO.aC (by decide)) hO.lt (hs.1.trans hO.lt) hO.T hR (Nat.zero_le _) (Nat.zero_le _) (hO.KD hs ht hw0)) fun qs _=>?_
     refine J 6 ?_
     refine .c call188 rfl (oR (d:=(s.dN k i choice).plain) (Nat.le_trans (oG).1 (by have:=hO.aC;show s.aC.length+_≤_;omega)) (Nat.le_trans (oG).2 (by show 0+_≤_;decide))) fun u75 _=>?_
     refine .ai rfl (ae.Js (vs:=[.bool (s.dN k i choice).plain.finish.1.aR,.bool (s.dN k i choice).plain.finish.1.ended,.bool (s.dN k i choice).plain.finish.1.yielded]) (by exact sizeOf66) rfl rfl rfl rfl) ?_
     rintro _ _ ⟨rfl,rfl⟩
     refine J 4 ?_
     rw[wv hat h19 hn h67 rfl]
     refine .fp rfl rfl isAgg66 (by exact sizeOf66) Cells.a rfl fun w s=>⟨u75,?_,trivial,aj .auto s⟩
     rfl
    ·refine J 7 ?_
     refine .p (.add rfl rfl (by omega)) ?_
     refine J 4 ?_
     rw[Lr]
     refine J 4 ?_
     refine .to (A:=aD ps (s.aF.set k (some ({t with pc:=t.pc+1 })))) (Bs:=[arr p 0 (bn ({t with pc:=t.pc+1 })),aD (ps.set k none) (s.aF.set k none)]) .auto (cA (List.getElem?_eq_some_iff.1 ht).1 hp) ?_
     refine .c call187 rfl (Iw (d:=((s.dN k i choice).aZ {t with pc:=t.pc+1 })) hp (dx ht) (hO.call hs ht hw0 hI (hIn h67) hIt)) fun qs _=>?_
     refine J 6 ?_
     refine .c call188 rfl (oR (d:=((s.dN k i choice).aZ {t with pc:=t.pc+1 }).call) (Nat.le_trans (qY hO.BS.2).1 (by have:=hO.aC;show s.aC.length+_≤_;omega)) (Nat.le_trans (qY hO.BS.2).2 (by show 0+_≤_;decide))) fun u75 _=>?_
     refine .ai rfl (ae.Js (vs:=[.bool ((s.dN k i choice).aZ {t with pc:=t.pc+1 }).call.finish.1.aR,.bool ((s.dN k i choice).aZ {t with pc:=t.pc+1 }).call.finish.1.ended,.bool ((s.dN k i choice).aZ {t with pc:=t.pc+1 }).call.finish.1.yielded]) (by exact sizeOf66) rfl rfl rfl rfl) ?_
     rintro _ _ ⟨rfl,rfl⟩
     refine J 4 ?_
     rw[zW hat h19 hn h67 rfl]
     refine .fp rfl rfl isAgg66 (by exact sizeOf66) Cells.a rfl fun w s=>⟨u75,?_,trivial,aj .auto s⟩
     rfl
end Go.SLYthlllpngkljgfaaGreat
namespace Go.SLYthlllpngkljgfaaGreat
open Go Go.RowKit Go.Proofs Go.Proofs.Tryz
attribute [local irreducible] ar aM bm bA bE Y
theorem oh{W:World}  : Fn Tryz.prog W 69 [.pointer none] [] Unit (fun _=>(.slice none 0 0)) (fun _=>True) (fun _=>[]):=by
 refine Fn.intro (N:=11) func69 rfl ntmps69 rfl fun F=>?_
 show ar _ _ _ _ _ _ [F]
 refine J 12 ?_
 refine .gd rfl ?_
 exact JR 7 ()
theorem qy{W:World}  : Fn Tryz.prog W 70 [.pointer none] [] Unit (fun _=>(.slice none 0 0)) (fun _=>True) (fun _=>[]):=by
 refine Fn.intro (N:=11) func70 rfl ntmps70 rfl fun F=>?_
 show ar _ _ _ _ _ _ [F]
 refine J 12 ?_
 refine .gd rfl ?_
 exact JR 7 ()
theorem xi{W:World}{b p:Nat}{ps:List (Option Nat)}{pr:gY}{n:Nat}{t:bI}{fv sv pv:Value}{bt:Nat}{vm:Value}{bg:Nat}{vt:Value}{bk bw:Nat}{vr:Value}(hp:ps[n]?=some (some p))(hn16:n<16)(hR:hG t){y:Int}:Fn Tryz.prog W 99 [ptr b,.int .i64 (n:Int),.int .u64 y] [arr b 0 (fy fv sv pv pr bt ps vm bg vt bk bw vr),arr p 0 (bn t)] Unit (fun _=>.agg (dT (t.ko y)).toArray) (fun _=>True) (fun _=>[arr b 0 (fy fv sv pv pr bt ps vm bg vt bk bw vr),arr p 0 (bn (t.fJ y))]):=by
 refine Fn.intro (N:=50) func99 rfl ntmps99 rfl fun F=>?_
 show ar _ _ _ _ _ _ [arr b 0 (fy fv sv pv pr bt ps vm bg vt bk bw vr),arr p 0 (bn t),F]
 have hRl:=hR.l
 have hRi:=hR.i
 refine J 2 ?_
 refine .ai rfl (ae.alloc rfl zeroValue115 rfl) ?_
 rintro _ _ ⟨b6,rfl,rfl⟩
 refine J 8 ?_
 refine .p (.dJ n underlying134 sizeOf133 rfl rfl rfl hn16) ?_
 refine .p (.ld rfl (Cell.a (by rw[Nat.mul_one,eP hn16,aY hp]))) ?_
 refine J 3 ?_
 refine .zg (X:=Unit) [2,14,15,16,17,18,19,20,21,22,23,24,25,26,27,28] (fun _=>True) (fun _=>[(2,some (.int .u64 (if t.bY = -1 then 0 else y)))]) (fun _=>[arr p 0 (bn (if t.bY = -1 then t else t.put t.bY y)),arr b6 0 [.int .u64 0,.int .i64 0,.int .u64 0,.int .u64 0,.int .i64 0,.bool false],arr b 0 (fy fv sv pv pr bt ps vm bg vt bk bw vr),F]) ?_ ?_
 ·refine JD 9 (fun h18=>?_) fun h18=>?_
  ·refine .draw [arr p 0 (bn t)] [1,1,1,1,1,1,1,1,1,1,3] rfl (by kernel_rfl) ?_
   refine J 9 ?_
   refine .p (.dJ t.bY.toNat underlying163 sizeOf110 rfl rfl (by omega) (by omega)) ?_
   refine .d3 rfl (ae.st sizeOf110 rfl rfl rfl (Nat.blt_eq.mpr (by show 2+t.bY.toNat * 1<18;omega))) ?_
   rintro _ _ ⟨rfl,rfl⟩
   rw[jK y (by omega) (by omega) hRl]
   refine J 1 ?_
   refine .jW () .auto ?_ ?_ ?_
   ·trivial
   ·rw[if_neg (by omega)];exact⟨rfl,trivial⟩
   ·rw[if_neg (by omega)];exact fun w s=>aq.kept .auto w s
  ·refine J 3 ?_
   refine .jW () .auto ?_ ?_ ?_
   ·trivial
   ·rw[if_pos (by omega)];exact⟨rfl,trivial⟩
   ·rw[if_pos (by omega)];exact fun w s=>aq.kept .auto w s
 ·rintro⟨⟩ -
  obtain⟨y1,hy1⟩:∃ y1,y1=(if t.bY = -1 then 0 else y):=⟨_,rfl⟩
  obtain⟨t1,h1⟩:∃ t1,t1=(if t.bY = -1 then t else t.put t.bY y):=⟨_,rfl⟩
  have h1l:t1.aI.length=8:=by
   rw[h1]
   split
   ·exact hRl
   ·rw[j6];exact hRl
  have h1h:t1.handle=t.handle∧t1.op=t.op:=by
   rw[h1]
   split <;> exact⟨rfl,rfl⟩
  rw[← hy1, ← h1]
  refine J 6 ?_
  refine .p (.dJ 7 underlying163 sizeOf110 rfl rfl (by omega) (by omega)) ?_
  refine J 1 ?_
  rw[sG (n:=7) 0 (by decide) h1l]
  refine J 9 ?_
  rw[pM]
  refine J 3 ?_
  rw[tM]
  refine J 3 ?_
  refine .draw [arr p 0 (bn {t1.put 7 0 with cZ:=0,bY := -1 })] [1,1,1,1,1,1,1,1,1,1,3] rfl (by kernel_rfl) ?_
  refine J 9 ?_
  refine .p (.FW (fun v1 v2 v3 v4=>[v1,v2,(.int .u64 0),v3,(.int .i64 0),v4]) rfl rfl rfl rfl (by kernel_rfl)) ?_
  refine .d3 rfl (ae.hD (by exact sizeOf115) rfl rfl rfl (by rfl)) ?_
  rintro _ _ ⟨rfl,rfl⟩
  refine J 3 ?_
  rw[C9 t1 h1]
  refine .dP rfl rfl isAgg115 (by exact sizeOf115) Cells.a fun w s=>⟨(),?_,trivial,aj .auto s⟩
  show Ending.returned (Value.agg #[.int .u64 t1.handle,.int .i64 t1.op,.int .u64 0,.int .u64 y1,.int .i64 0,.bool true])=_;rw[h1h.1,h1h.2,hy1];rfl
theorem xj{W:World}{b:Nat}{s:Spc}{k:Int}(hO:iH s):Fn Tryz.prog W 36 [ptr b,.int .i64 k] [eT b s] Value (fun u=>.tuple #[.agg (mS u (s.done k).1).toArray,.int .i64 (s.done k).2.1]) (fun _=>True) (fun u=>[sl au 1 u (s.done k).1.av,eT b (s.done k).2.2]):=by
 refine Fn.intro (N:=43) func36 rfl ntmps36 rfl fun F=>?_
 show ar _ _ _ _ _ _ [eT b s,F]
 refine .o1 (C:=eT b s) .auto rfl ?_
 rintro ps -
 refine .jT (C:=cH b ps s) .auto rfl ?_
 rintro fv sv pv bt vm bg vt bk bw vr -
 refine .cr (fun w st=>st.fact .auto jj) fun hs=>?_
 refine J 2 ?_
 refine .ai rfl (ae.alloc rfl zeroValue66 rfl) ?_
 rintro _ _ ⟨b4,rfl,rfl⟩
 refine J 10 ?_
 refine .eK rfl ?_
 refine J 9 ?_
 refine .c call98 rfl (Ff hO.dw hO.db) fun _ _=>?_
 refine J 1 ?_
 refine .p (.extract (v:=.agg (gK (s.bZ.done k).1).toArray) rfl rfl) ?_
 refine .p (.extract (v:=.int .u64 (s.bZ.done k).2.1) rfl rfl) ?_
 refine .p (.extract (v:=.bool (s.bZ.done k).2.2.1) rfl rfl) ?_
 refine .ai rfl (ae.alloc rfl zeroValue156 rfl) ?_
 rintro _ _ ⟨b6,rfl,rfl⟩
 refine JD 12 (fun h23=>?_) fun h23=>?_
 ·refine J 2 ?_
  refine .p (.mi ([(.slice none 0 0),(.bool false),(.bool false),(.bool false)]) (by kernel_rfl)) ?_
  refine J 6 ?_
  rw[rM (by simpa using h23)]
  rw[Es (by simpa using h23)]
  refine .fp rfl rfl isAgg66 (by exact sizeOf66) Cells.a rfl fun w s=>⟨(.slice none 0 0),?_,trivial,aj .auto s⟩
  rfl
 ·have hd1:(s.bZ.done k).2.2.1=true:=by simpa using h23
  obtain⟨hdm, -⟩:=G9 hd1
  obtain⟨hw0,t,ht⟩:=hO.MO _ hdm
  obtain⟨hn16,q,t2,hq,ht2,hR⟩:=hO.live hs ht
  have e2:=Option.some.inj (ht.symm.trans ht2)
  obtain rfl:=Option.some.inj e2
  obtain⟨m,hm⟩:∃ m:Nat,(s.bZ.done k).1.who.toNat=m:=⟨_,rfl⟩
  rw[hm] at ht hn16 hq
  have hmc:(s.bZ.done k).1.who=(m:Int):=by omega
  refine J 3 ?_
  refine .fr .auto (bQ hq ht) ?_
  refine .draw [arr b6 0 (gK (s.bZ.done k).1),arr b 0 (fy fv sv pv s.fa bt ps vm bg vt bk bw vr)] [0,0,0,0,0,1,1,1,1,2,2,2,1,1,3] rfl (by kernel_rfl) ?_
  refine J 8 ?_
  rw[hmc]
  refine J 1 ?_
  refine .c2 call99 rfl (xi hq hn16 hR) fun _ _=>?_
  refine .d2 rfl Kept.auto (ae.gC 115 rfl rfl (by kernel_rfl)) (by rintro _ _ ⟨b35,rfl,rfl⟩;exact Kept.auto) ?_
  rintro _ _ ⟨b35,rfl,rfl⟩
  refine .d2 rfl Kept.auto (ae.gh (enc:=dT) (k:=6) (t.ko (s.bZ.done k).2.1) rfl underlying44 underlying44 typeInfo115 rfl rfl rfl (by decide) rfl rfl rfl .auto rfl .auto (by have:=hO.aC;omega) rfl) (by rintro _ _ ⟨v36,rfl,rfl⟩;exact Kept.auto) ?_
  rintro _ _ ⟨v36,rfl,rfl⟩
  refine J 2 ?_
  refine .d3 rfl (ae.mr sizeOf44 rfl rfl rfl) ?_
  rintro _ _ ⟨rfl,rfl⟩
  rw[pN]
  refine J 6 ?_
  rw[hmc]
  refine .ai rfl (ae.gC 3 rfl rfl (by kernel_rfl)) ?_
  rintro _ _ ⟨b41,rfl,rfl⟩
  refine .p (.hZ (fun v1=>[v1,.bool false,.bool false,.bool false]) rfl (by kernel_rfl)) ?_
  refine .ai rfl (ae.hD (vs:=[.slice (some ⟨b41,0,none⟩) 1 1,.bool false,.bool false,.bool false]) (by exact sizeOf66) rfl rfl rfl (by rfl)) ?_
  rintro _ _ ⟨rfl,rfl⟩
  refine .to (A:=sl au 1 (.slice (some ⟨b41,0,none⟩) 1 1) [(m:Int)]) (Bs:=[arr b41 0 [.int .i64 (m:Int)]]) .auto Lt ?_
  refine J 4 ?_
  refine .to (A:=aD ps (s.aF.set m (some (t.fJ (s.bZ.done k).2.1)))) (Bs:=[arr q 0 (bn (t.fJ (s.bZ.done k).2.1)),aD (ps.set m none) (s.aF.set m none)]) .auto (cA (List.getElem?_eq_some_iff.1 ht).1 hq) ?_
  rw[rN hd1 (by rw[hm];exact ht),hm,hmc,show(({s with bZ:=(s.bZ.done k).2.2.2 }:Spc).dL m (s.bZ.done k).2.1)=({s with bZ:=(s.bZ.done k).2.2.2 }:Spc).aZ m (t.fJ (s.bZ.done k).2.1) from by unfold Spc.dL;rw[dO (s:=({s with bZ:=(s.bZ.done k).2.2.2 }:Spc)) ht]]
  refine .fp rfl rfl isAgg66 (by exact sizeOf66) Cells.a rfl fun w s=>⟨(.slice (some ⟨b41,0,none⟩) 1 1),?_,trivial,aj .auto s⟩
  rfl
end Go.SLYthlllpngkljgfaaGreat
namespace Go.SLYthlllpngkljgfaaGreat
open Go Go.RowKit Go.Proofs Go.Proofs.Tryz
attribute [local irreducible] ar aM bm bA bE Y
theorem xk{W:World}{b:Nat}{s:Spc}(hO:iH s):Fn Tryz.prog W 39 [ptr b] [eT b s] Value (fun u=>.agg (mS u s.tick.1).toArray) (fun _=>True) (fun u=>[sl au 1 u s.aT.due,eT b s.tick.2]):=by
 refine Fn.intro (N:=35) func39 rfl ntmps39 rfl fun F=>?_
 show ar _ _ _ _ _ _ [eT b s,F]
 refine .o1 (C:=eT b s) .auto rfl ?_
 rintro ps -
 refine .jT (C:=cH b ps s) .auto rfl ?_
 rintro fv sv pv bt vm bg vt bk bw vr -
 refine .cr (fun w st=>st.fact .auto jj) fun hs=>?_
 have hdl:=Nat.le_trans (pS s.aT) hO.wl
 have hrl:=hO.aC
 refine J 2 ?_
 refine .ai rfl (ae.alloc rfl zeroValue66 rfl) ?_
 rintro _ _ ⟨b2,rfl,rfl⟩
 refine J 9 ?_
 refine .eK rfl ?_
 refine J 8 ?_
 refine .c call100 rfl (Cq hO.wn hO.wl) fun u13 _=>?_
 refine J 12 ?_
 refine .aX (X:=Nat) [5,16,17,18,19,20,21,22,23,24,25,26,27,28,29,30,31,32] (fun k=>s.aT.due.length-k) (fun k=>k≤s.aT.due.length) (fun k=>[(16,some (.int .i64 (k:Int)))]) (fun k=>[cH b ps (cM ({s with aT:=s.aT.tick.2 }:Spc) (s.aT.due.take k)),sl au 1 u13 s.aT.due,arr b2 0 [.slice none 0 0,.bool false,.bool false,.bool false],F]) 0 ?_ ?_ ?_ ?_
 ·exact Nat.zero_le _
 ·exact⟨rfl,trivial⟩
 ·exact fun w s=>aq.kept .auto w s
 rintro k hk
 refine JD 6 (fun h17=>?_) fun h17=>?_
 ·refine J 7 ?_
  obtain⟨x,hx⟩:=ak (show k<s.aT.due.length by omega)
  have hdl2:∀ x∈s.aT.due,0≤x∧bK ps s x.toNat:=fun x hx=>by
   obtain⟨y,hy,e⟩:=Ju hx
   obtain⟨h0,u,hu⟩:=hO.MP y hy
   rw[e] at h0 hu
   exact⟨h0,hO.live hs hu⟩
  obtain⟨hx0,hxl⟩:=hdl2 x (List.mem_of_getElem? hx)
  obtain⟨hn16,q,t,hq,ht,hR⟩:=yj x.toNat (s.aT.due.take k) ({s with aT:=s.aT.tick.2 }:Spc) (hxl.of rfl) (fun z hz=>(hdl2 z (List.mem_of_mem_take hz)).2.of rfl)
  have hwr:=pR ({s with aT:=s.aT.tick.2 }:Spc) (s.aT.due.take k)
  rw[List.length_take] at hwr
  simp only at hwr
  have hxc:x=((x.toNat:Nat):Int):=by omega
  refine J 4 ?_
  refine .jT (C:=cH b ps (cM ({s with aT:=s.aT.tick.2 }:Spc) (s.aT.due.take k))) .auto rfl ?_
  rintro fv sv pv bt vm bg vt bk bw vr -
  refine .fr .auto (bQ hq ht) ?_
  refine .draw [arr b 0 (fy fv sv pv (cM ({s with aT:=s.aT.tick.2 }:Spc) (s.aT.due.take k)).fa bt ps vm bg vt bk bw vr)] [0,0,0,0,0,1,1,2,2,2,1,1,3] rfl (by kernel_rfl) ?_
  rw[hxc]
  refine J 7 ?_
  refine .c2 call99 rfl (xi (n:=x.toNat) hq hn16 hR) fun _ _=>?_
  refine .d2 rfl Kept.auto (ae.gC 115 rfl rfl (by kernel_rfl)) (by rintro _ _ ⟨b28,rfl,rfl⟩;exact Kept.auto) ?_
  rintro _ _ ⟨b28,rfl,rfl⟩
  refine .d2 rfl Kept.auto (ae.gh (enc:=dT) (k:=6) (t.ko 0) rfl underlying44 underlying44 typeInfo115 rfl rfl rfl (by decide) rfl rfl rfl .auto rfl .auto (by have e:(cM ({s with aT:=s.aT.tick.2 }:Spc) (s.aT.due.take k)).aC.length=s.aC.length+min k s.aT.due.length:=hwr;omega) rfl) (by rintro _ _ ⟨v29,rfl,rfl⟩;exact Kept.auto) ?_
  rintro _ _ ⟨v29,rfl,rfl⟩
  refine J 2 ?_
  refine .d3 rfl (ae.mr sizeOf44 rfl rfl rfl) ?_
  rintro _ _ ⟨rfl,rfl⟩
  rw[pN]
  refine .to (A:=aD ps ((cM ({s with aT:=s.aT.tick.2 }:Spc) (s.aT.due.take k)).aF.set x.toNat (some (t.fJ 0)))) (Bs:=[arr q 0 (bn (t.fJ 0)),aD (ps.set x.toNat none) ((cM ({s with aT:=s.aT.tick.2 }:Spc) (s.aT.due.take k)).aF.set x.toNat none)]) .auto (cA (List.getElem?_eq_some_iff.1 ht).1 hq) ?_
  refine J 7 ?_
  refine .aw (k+1) .auto rfl ?_ ?_ ?_ ?_
  ·omega
  ·show k+1≤_;omega
  ·exact⟨rfl,trivial⟩
  ·rw[aQ hx,yi,show(cM ({s with aT:=s.aT.tick.2 }:Spc) (s.aT.due.take k)).dL x.toNat 0=(cM ({s with aT:=s.aT.tick.2 }:Spc) (s.aT.due.take k)).aZ x.toNat (t.fJ 0) from by unfold Spc.dL;rw[dO ht],dO ht];exact fun w s=>aq.kept .auto w s
 ·refine J 7 ?_
  refine .cr (fun w st=>(Rd.s (v:=u13) (enc:=au) (k:=1) (xs:=s.aT.due) w st).1) fun hr=>?_
  obtain⟨a13,c13,rfl, -, -⟩:=hr
  refine J 1 ?_
  refine .p (.hZ (fun v1=>[v1,(.bool false),(.bool false),(.bool false)]) rfl (by kernel_rfl)) ?_
  refine .ai rfl (ae.hD (vs:=[.slice a13 s.aT.due.length c13,.bool false,.bool false,.bool false]) (by exact sizeOf66) rfl rfl rfl (by rfl)) ?_
  rintro _ _ ⟨rfl,rfl⟩
  refine J 3 ?_
  have hkk:k=s.aT.due.length:=by omega
  rw[hkk,List.take_length]
  refine .dP rfl rfl isAgg66 (by exact sizeOf66) Cells.a fun w s=>⟨_,?_,trivial,aj .auto s⟩
  rfl
theorem Ct{W:World}{b:Nat}{s:Spc}{n:Int}(hO:iH s):Fn Tryz.prog W 143 [ptr b,.int .i64 n] [eT b s] Unit (fun _=>.int .i64 (s.class n)) (fun _=>True) (fun _=>[eT b s]):=by
 refine Fn.intro (N:=37) func143 rfl ntmps143 rfl fun F=>?_
 show ar _ _ _ _ _ _ [eT b s,F]
 refine .o1 (C:=eT b s) .auto rfl ?_
 rintro ps -
 refine .jT (C:=cH b ps s) .auto rfl ?_
 rintro fv sv pv bt vm bg vt bk bw vr -
 refine .cr (fun w st=>st.fact .auto jj) fun hs=>?_
 refine J 9 ?_
 refine .c call178 rfl DB fun _ _=>?_
 refine J 9 ?_
 refine .part (t:=13) rfl (fun h13=>?_) (fun h13=>?_)
 ·refine J 8 ?_
  refine .gd rfl ?_
  refine J 7 ?_
  have hap:BH ps n=none:=by
   cases hh:BH ps n with
   | none=>rfl
   | some p=>rw[hh] at h13;cases h13
  rw[BN (KE hs hap hO.lt)]
  exact JR 0 ()
 ·obtain⟨p,hap⟩:∃ p,BH ps n=some p:=by
   cases hh:BH ps n with
   | none=>rw[hh] at h13;cases h13
   | some p=>exact⟨p,rfl⟩
  rw[hap]
  obtain⟨k,t,rfl,hk16,hp,ht,hat⟩:=G5 hs hap hO.lt
  refine .jT (C:=cH b ps s) .auto rfl ?_
  rintro fv sv pv bt vm bg vt bk bw vr -
  refine .fr .auto (bQ hp ht) ?_
  refine JD 8 (fun h19=>?_) fun h19=>?_
  ·refine J 7 ?_
   refine .to (A:=aD ps s.aF) (Bs:=[arr p 0 (bn t),aD (ps.set k none) (s.aF.set k none)]) .auto (bN hp ht) ?_
   rw[BO hat h19]
   exact JR 0 ()
  ·refine J 3 ?_
   refine .s9 [arr b 0 (fy fv sv pv s.fa bt ps vm bg vt bk bw vr),arr p 0 (bn t)] [0,0,0,0,0,0,0,0,2,0,0,0,4,2,0] [0,1,2,3,4,5,6,7,8,9,10,11,12,13,14] rfl (by kernel_rfl) ?_
   refine bE.q rfl rfl rfl Kept.auto (Y.m rfl) ?_
   refine bE.q rfl rfl rfl Kept.auto (Y.n rfl) ?_
   refine bE.q rfl rfl rfl Kept.auto (Y.gx 56 underlying137 rfl sizeOf56 rfl) ?_
   refine bE.q rfl rfl rfl Kept.auto (Y.FT isAgg56 rfl (Cells.mD (ds:=zX fv sv pv s.fa) (Cells.a (cs:=fy fv sv pv s.fa bt ps vm bg vt bk bw vr)) rfl) (by exact sizeOf56)) ?_
   refine bE.q rfl rfl rfl Kept.auto (Y.m rfl) ?_
   refine bE.q rfl rfl rfl Kept.auto (Y.n rfl) ?_
   refine bE.q rfl rfl rfl Kept.auto (Y.gx 165 underlying167 rfl sizeOf165 rfl) ?_
   refine bE.q rfl rfl rfl Kept.auto (Y.FT isAgg165 rfl (Cells.mD (ds:=iS t.nB) (Cells.a (cs:=bn t)) rfl) (by exact sizeOf165)) ?_
   refine bE.cY rfl (.inl rfl) rfl (fun _=>Kept.auto) call179 rfl (uS (p:=s.fa) (f:=t.nB) hO.Ac.1 hO.Ac.2) .auto (fun _ _=>Kept.auto) ?_
   rintro⟨⟩ -
   refine bE.q rfl rfl rfl Kept.auto (Y.m rfl) ?_
   refine bE.q rfl rfl rfl Kept.auto (Y.extract (v:=.agg (eg ((dV s.fa t.nB).getD Ins.z)).toArray) rfl rfl) ?_
   refine bE.q rfl rfl rfl Kept.auto (Y.extract (v:=.bool (dV s.fa t.nB).isSome) rfl rfl) ?_
   refine bE.fresh rfl rfl rfl (by decide) Kept.auto (mF zeroValue112 rfl) ?_
   rintro b6
   refine bE.Lp rfl rfl (by exact sizeOf112) rfl rfl rfl (by rfl) Kept.auto Kept.auto ?_
   refine bE.q rfl rfl rfl Kept.auto (Y.a rfl) ?_
   refine bE.nil ?_
   refine JD 8 (fun h33=>?_) fun h33=>?_
   ·refine J 7 ?_
    refine .to (A:=aD ps s.aF) (Bs:=[arr p 0 (bn t),aD (ps.set k none) (s.aF.set k none)]) .auto (bN hp ht) ?_
    rw[Er hat h19 (Option.isNone_iff_eq_none.mp (by simpa using h33))]
    exact JR 0 ()
   ·obtain⟨i,hn⟩:∃ i,(dV s.fa t.nB)=some i:=Option.isSome_iff_exists.mp (by simpa using h33)
    rw[show((dV s.fa t.nB).getD Ins.z)=i from by rw[hn];rfl]
    refine J 6 ?_
    refine .c call168 rfl lW fun _ _=>?_
    refine J 4 ?_
    refine .to (A:=aD ps s.aF) (Bs:=[arr p 0 (bn t),aD (ps.set k none) (s.aF.set k none)]) .auto (bN hp ht) ?_
    rw[BP hat h19 hn]
    exact JR 0 ()
theorem yL{W:World}{b:Nat}{s:Spc}(hl:s.aC.length≤1000000000):Fn Tryz.prog W 69 [ptr b] [eT b s] Value (fun u=>u) (fun _=>True) (fun u=>[sl dT 6 u s.aC,eT b s]):=by
 refine Fn.intro (N:=11) func69 rfl ntmps69 rfl fun F=>?_
 show ar _ _ _ _ _ _ [eT b s,F]
 refine .o1 (C:=eT b s) .auto rfl ?_
 rintro ps -
 refine .jT (C:=cH b ps s) .auto rfl ?_
 rintro fv sv pv bt vm bg vt bk bw vr -
 refine J 12 ?_
 refine .eK rfl ?_
 refine J 8 ?_
 refine .c call129 rfl (LS (A:=sl dT 6 vr s.aC) (Rd.sl .here) hl) fun u9 _=>?_
 refine .c call128 rfl M4 fun u10 _=>?_
 exact JR 4 u10
theorem AI{W:World}{b:Nat}{s:Spc}(hl:s.mem.length≤1000000000):Fn Tryz.prog W 70 [ptr b] [eT b s] Value (fun u=>u) (fun _=>True) (fun u=>[sl dh 1 u s.mem,eT b s]):=by
 refine Fn.intro (N:=11) func70 rfl ntmps70 rfl fun F=>?_
 show ar _ _ _ _ _ _ [eT b s,F]
 refine .o1 (C:=eT b s) .auto rfl ?_
 rintro ps -
 refine .jT (C:=cH b ps s) .auto rfl ?_
 rintro fv sv pv bt vm bg vt bk bw vr -
 refine J 12 ?_
 refine .eK rfl ?_
 refine J 8 ?_
 refine .c call131 rfl (LR (A:=sl dh 1 vm s.mem) (Rd.sl .here) hl) fun u9 _=>?_
 refine .c call130 rfl M3 fun u10 _=>?_
 exact JR 4 u10
end Go.SLYthlllpngkljgfaaGreat
namespace Go.SLYthlllpngkljgfaaGreat
open Go Go.RowKit Go.Proofs Go.Proofs.Tryz
attribute [local irreducible] ar aM bm bA bE Y
theorem AJ{W:World}{A:aa}{v u:Value}{xs ys:List Int}(hv:Rd W [A] au 1 v xs)(hu:Rd W [A] au 1 u ys)(hl:xs.length≤1000000000):Fn Tryz.prog W 26 [v,u] [A] Unit (fun _=>.bool (decide (xs=ys))) (fun _=>True) (fun _=>[A]):=by
 refine Fn.intro (N:=26) func26 rfl ntmps26 rfl fun F=>?_
 haveI hRI:∀ (H:List aa) [bj H A],ax W H v au 1 xs:=fun H h=>⟨hv.at h.has⟩
 haveI hRJ:∀ (H:List aa) [bj H A],ax W H u au 1 ys:=fun H h=>⟨hu.at h.has⟩
 show ar _ _ _ _ _ _ [A,F]
 refine JD 15 (fun h10=>?_) fun h10=>?_
 ·refine J 7 ?_
  refine .aJ rfl rfl fun w s=>⟨(),?_,trivial,aj .auto s⟩
  rw[decide_eq_false (fun e=>h10 (by rw[e]))]
 ·refine J 9 ?_
  refine .aX (X:=Nat) [4,5,11,12,13,14,15,16,17,18,19,20,21,22,23,24,25] (fun k=>xs.length-k) (fun k=>k≤xs.length∧xs.take k=ys.take k) (fun k=>[(5,some (.int .i64 (k:Int)))]) (fun k=>[A,F]) 0 ?_ ?_ ?_ ?_
  ·exact⟨Nat.zero_le _,rfl⟩
  ·exact⟨rfl,trivial⟩
  ·exact fun w s=>aq.kept .auto w s
  rintro k ⟨hk,hn⟩
  refine JD 9 (fun h14=>?_) fun h14=>?_
  ·refine J 5 ?_
   refine .draw [] [1,1,1,1,1,1,1,1,1] rfl (by kernel_rfl) ?_
   obtain⟨x,hx⟩:=ak (show k<xs.length by omega)
   obtain⟨y,hy⟩:=ak (show k<ys.length by omega)
   refine J 3 ?_
   refine .p (.lr rfl hx) ?_
   refine J 3 ?_
   refine .p (.lr rfl hy) ?_
   refine JD 3 (fun h25=>?_) fun h25=>?_
   ·refine J 11 ?_
    refine .aJ rfl rfl fun w s=>⟨(),?_,trivial,aj .auto s⟩
    rw[decide_eq_false (fun e=>h25 (by rw[e] at hx;exact Option.some.inj (hx.symm.trans hy)))]
   ·refine J 8 ?_
    refine .aw (k+1) .auto rfl ?_ ?_ ?_ ?_
    ·first | omega | (dsimp only;omega)
    ·exact⟨by omega,by rw[aQ hx,aQ hy,hn,Decidable.of_not_not h25]⟩
    ·exact⟨rfl,trivial⟩
    ·exact fun w s=>aq.kept .auto w s
  ·refine J 11 ?_
   obtain rfl:k=xs.length:=by omega
   rw[List.take_length,List.take_of_length_le (by omega)] at hn
   refine .aJ rfl rfl fun w s=>⟨(),?_,trivial,aj .auto s⟩
   rw[decide_eq_true hn]
end Go.SLYthlllpngkljgfaaGreat
namespace Go.SLYthlllpngkljgfaaGreat
open Go Go.RowKit Go.Proofs Go.Proofs.Tryz
attribute [local irreducible] ar aM bm bA bE Y
theorem Nc{a b:Rec}:rC Tryz.prog 115 2 (.agg (dT a).toArray) (.agg (dT b).toArray) (decide (a=b)):=fun d w=>by
 have hs:Tryz.prog.stoodInHeld 115=false:=by kernel_rfl
 have one:∀ (r:Rec) (t:TypeId) (i:Nat) (v:Value),(∀ w,(isAgg t).run Tryz.prog w = .ok false w)→(dT r)[i]?=some v→Part Tryz.prog t (dT r).toArray i v:=fun r t i v ha hv=>Part.one ha (by rw[List.getElem?_toArray];exact hv)
 refine(mY underlying115 hs (d+1) _ _ w).trans ?_
 show(Op.eqFields (d+1) _ _ [_,_,_,_,_,_]).run Tryz.prog w=_
 have pa0:Part Tryz.prog 110 (dT a).toArray 0 (.int .u64 a.ab):=one a _ 0 _ isAgg110 rfl
 have pb0:Part Tryz.prog 110 (dT b).toArray 0 (.int .u64 b.ab):=one b _ 0 _ isAgg110 rfl
 refine Eq.trans (c0 (a:=.int .u64 a.ab) (b:=.int .u64 b.ab) (r:=decide (a.ab=b.ab)) ?_ ?_ ?_ ?_) ?_
 ·decide +kernel
 ·exact pa0
 ·exact pb0
 ·exact(rC.int underlying110 d w)
 by_cases h0:a.ab=b.ab
 rotate_left
 ·rw[decide_eq_false h0,decide_eq_false (fun e=>h0 (by rw[e])),if_neg (by simp)]
 rw[decide_eq_true h0,if_pos rfl]
 have pa1:Part Tryz.prog 3 (dT a).toArray 1 (.int .i64 a.op):=one a _ 1 _ isAgg3 rfl
 have pb1:Part Tryz.prog 3 (dT b).toArray 1 (.int .i64 b.op):=one b _ 1 _ isAgg3 rfl
 refine Eq.trans (c0 (a:=.int .i64 a.op) (b:=.int .i64 b.op) (r:=decide (a.op=b.op)) ?_ ?_ ?_ ?_) ?_
 ·decide +kernel
 ·exact pa1
 ·exact pb1
 ·exact(rC.int underlying3 d w)
 by_cases h1:a.op=b.op
 rotate_left
 ·rw[decide_eq_false h1,decide_eq_false (fun e=>h1 (by rw[e])),if_neg (by simp)]
 rw[decide_eq_true h1,if_pos rfl]
 have pa2:Part Tryz.prog 110 (dT a).toArray 2 (.int .u64 a.x):=one a _ 2 _ isAgg110 rfl
 have pb2:Part Tryz.prog 110 (dT b).toArray 2 (.int .u64 b.x):=one b _ 2 _ isAgg110 rfl
 refine Eq.trans (c0 (a:=.int .u64 a.x) (b:=.int .u64 b.x) (r:=decide (a.x=b.x)) ?_ ?_ ?_ ?_) ?_
 ·decide +kernel
 ·exact pa2
 ·exact pb2
 ·exact(rC.int underlying110 d w)
 by_cases h2:a.x=b.x
 rotate_left
 ·rw[decide_eq_false h2,decide_eq_false (fun e=>h2 (by rw[e])),if_neg (by simp)]
 rw[decide_eq_true h2,if_pos rfl]
 have pa3:Part Tryz.prog 110 (dT a).toArray 3 (.int .u64 a.y):=one a _ 3 _ isAgg110 rfl
 have pb3:Part Tryz.prog 110 (dT b).toArray 3 (.int .u64 b.y):=one b _ 3 _ isAgg110 rfl
 refine Eq.trans (c0 (a:=.int .u64 a.y) (b:=.int .u64 b.y) (r:=decide (a.y=b.y)) ?_ ?_ ?_ ?_) ?_
 ·decide +kernel
 ·exact pa3
 ·exact pb3
 ·exact(rC.int underlying110 d w)
 by_cases h3:a.y=b.y
 rotate_left
 ·rw[decide_eq_false h3,decide_eq_false (fun e=>h3 (by rw[e])),if_neg (by simp)]
 rw[decide_eq_true h3,if_pos rfl]
 have pa4:Part Tryz.prog 25 (dT a).toArray 4 (.int .i64 a.result):=one a _ 4 _ isAgg25 rfl
 have pb4:Part Tryz.prog 25 (dT b).toArray 4 (.int .i64 b.result):=one b _ 4 _ isAgg25 rfl
 refine Eq.trans (c0 (a:=.int .i64 a.result) (b:=.int .i64 b.result) (r:=decide (a.result=b.result)) ?_ ?_ ?_ ?_) ?_
 ·decide +kernel
 ·exact pa4
 ·exact pb4
 ·exact(rC.int underlying25 d w)
 by_cases h4:a.result=b.result
 rotate_left
 ·rw[decide_eq_false h4,decide_eq_false (fun e=>h4 (by rw[e])),if_neg (by simp)]
 rw[decide_eq_true h4,if_pos rfl]
 have pa5:Part Tryz.prog 4 (dT a).toArray 5 (.bool a.fin):=one a _ 5 _ isAgg4 rfl
 have pb5:Part Tryz.prog 4 (dT b).toArray 5 (.bool b.fin):=one b _ 5 _ isAgg4 rfl
 refine Eq.trans (c0 (a:=.bool a.fin) (b:=.bool b.fin) (r:=decide (a.fin=b.fin)) ?_ ?_ ?_ ?_) ?_
 ·decide +kernel
 ·exact pa5
 ·exact pb5
 ·exact(rC.bool underlying4 d w)
 by_cases h5:a.fin=b.fin
 rotate_left
 ·rw[decide_eq_false h5,decide_eq_false (fun e=>h5 (by rw[e])),if_neg (by simp)]
 rw[decide_eq_true h5,if_pos rfl]
 have e:a=b:=by
  obtain⟨a1,a2,a3,a4,a5,a6⟩:=a
  obtain⟨b1,b2,b3,b4,b5,b6⟩:=b
  simp only at h0 h1 h2 h3 h4 h5
  subst h0 h1 h2 h3 h4 h5
  rfl
 rw[decide_eq_true e]
 simp[Op.eqFields]
theorem Fj{W:World}{A:aa}{v u:Value}{xs ys:List Int}(hv:Rd W [A] dh 1 v xs)(hu:Rd W [A] dh 1 u ys)(hl:xs.length≤1000000000):Fn Tryz.prog W 24 [v,u] [A] Unit (fun _=>.bool (decide (xs=ys))) (fun _=>True) (fun _=>[A]):=by
 refine Fn.intro (N:=26) func24 rfl ntmps24 rfl fun F=>?_
 haveI hRI:∀ (H:List aa) [bj H A],ax W H v dh 1 xs:=fun H h=>⟨hv.at h.has⟩
 haveI hRJ:∀ (H:List aa) [bj H A],ax W H u dh 1 ys:=fun H h=>⟨hu.at h.has⟩
 show ar _ _ _ _ _ _ [A,F]
 refine JD 15 (fun h10=>?_) fun h10=>?_
 ·refine J 7 ?_
  refine .aJ rfl rfl fun w s=>⟨(),?_,trivial,aj .auto s⟩
  rw[decide_eq_false (fun e=>h10 (by rw[e]))]
 ·refine J 9 ?_
  refine .aX (X:=Nat) [4,5,11,12,13,14,15,16,17,18,19,20,21,22,23,24,25] (fun k=>xs.length-k) (fun k=>k≤xs.length∧xs.take k=ys.take k) (fun k=>[(5,some (.int .i64 (k:Int)))]) (fun k=>[A,F]) 0 ?_ ?_ ?_ ?_
  ·exact⟨Nat.zero_le _,rfl⟩
  ·exact⟨rfl,trivial⟩
  ·exact fun w s=>aq.kept .auto w s
  rintro k ⟨hk,hn⟩
  refine JD 9 (fun h14=>?_) fun h14=>?_
  ·refine J 5 ?_
   refine .draw [] [1,1,1,1,1,1,1,1,1] rfl (by kernel_rfl) ?_
   obtain⟨x,hx⟩:=ak (show k<xs.length by omega)
   obtain⟨y,hy⟩:=ak (show k<ys.length by omega)
   refine J 3 ?_
   refine .p (.lr rfl hx) ?_
   refine J 3 ?_
   refine .p (.lr rfl hy) ?_
   refine JD 3 (fun h25=>?_) fun h25=>?_
   ·refine J 11 ?_
    refine .aJ rfl rfl fun w s=>⟨(),?_,trivial,aj .auto s⟩
    rw[decide_eq_false (fun e=>h25 (by rw[e] at hx;exact Option.some.inj (hx.symm.trans hy)))]
   ·refine J 8 ?_
    refine .aw (k+1) .auto rfl ?_ ?_ ?_ ?_
    ·first | omega | (dsimp only;omega)
    ·exact⟨by omega,by rw[aQ hx,aQ hy,hn,Decidable.of_not_not h25]⟩
    ·exact⟨rfl,trivial⟩
    ·exact fun w s=>aq.kept .auto w s
  ·refine J 11 ?_
   obtain rfl:k=xs.length:=by omega
   rw[List.take_length,List.take_of_length_le (by omega)] at hn
   refine .aJ rfl rfl fun w s=>⟨(),?_,trivial,aj .auto s⟩
   rw[decide_eq_true hn]
theorem Iy{W:World}{A:aa}{v u:Value}{xs ys:List Rec}(hv:Rd W [A] dT 6 v xs)(hu:Rd W [A] dT 6 u ys)(hl:xs.length≤1000000000):Fn Tryz.prog W 22 [v,u] [A] Unit (fun _=>.bool (decide (xs=ys))) (fun _=>True) (fun _=>[A]):=by
 refine Fn.intro (N:=26) func22 rfl ntmps22 rfl fun F=>?_
 haveI hRI:∀ (H:List aa) [bj H A],ax W H v dT 6 xs:=fun H h=>⟨hv.at h.has⟩
 haveI hRJ:∀ (H:List aa) [bj H A],ax W H u dT 6 ys:=fun H h=>⟨hu.at h.has⟩
 show ar _ _ _ _ _ _ [A,F]
 refine JD 15 (fun h10=>?_) fun h10=>?_
 ·refine J 7 ?_
  refine .aJ rfl rfl fun w s=>⟨(),?_,trivial,aj .auto s⟩
  rw[decide_eq_false (fun e=>h10 (by rw[e]))]
 ·refine J 9 ?_
  refine .aX (X:=Nat) [4,5,11,12,13,14,15,16,17,18,19,20,21,22,23,24,25] (fun k=>xs.length-k) (fun k=>k≤xs.length∧xs.take k=ys.take k) (fun k=>[(5,some (.int .i64 (k:Int)))]) (fun k=>[A,F]) 0 ?_ ?_ ?_ ?_
  ·exact⟨Nat.zero_le _,rfl⟩
  ·exact⟨rfl,trivial⟩
  ·exact fun w s=>aq.kept .auto w s
  rintro k ⟨hk,hn⟩
  refine JD 9 (fun h14=>?_) fun h14=>?_
  ·refine J 5 ?_
   refine .draw [] [1,1,1,1,1,1,1,1,1] rfl (by kernel_rfl) ?_
   obtain⟨x,hx⟩:=ak (show k<xs.length by omega)
   obtain⟨y,hy⟩:=ak (show k<ys.length by omega)
   refine J 3 ?_
   refine .p (.la rfl (Cells.rd Rd.s hx)) ?_
   refine J 3 ?_
   refine .p (.la rfl (Cells.rd Rd.s hy)) ?_
   refine .p (.FV (by kernel_rfl) Nc rfl rfl rfl) ?_
   refine JD 2 (fun h25=>?_) fun h25=>?_
   ·have h25:x≠y:=by simpa using h25
    refine J 11 ?_
    refine .aJ rfl rfl fun w s=>⟨(),?_,trivial,aj .auto s⟩
    rw[decide_eq_false (fun e=>h25 (by rw[e] at hx;exact Option.some.inj (hx.symm.trans hy)))]
   ·have h25:¬x≠y:=by simpa using h25
    refine J 8 ?_
    refine .aw (k+1) .auto rfl ?_ ?_ ?_ ?_
    ·first | omega | (dsimp only;omega)
    ·exact⟨by omega,by rw[aQ hx,aQ hy,hn,Decidable.of_not_not h25]⟩
    ·exact⟨rfl,trivial⟩
    ·exact fun w s=>aq.kept .auto w s
  ·refine J 11 ?_
   obtain rfl:k=xs.length:=by omega
   rw[List.take_length,List.take_of_length_le (by omega)] at hn
   refine .aJ rfl rfl fun w s=>⟨(),?_,trivial,aj .auto s⟩
   rw[decide_eq_true hn]
theorem Cu{W:World}{A:aa}{v:Value}{xs:List Int}{n:Int}(hv:Rd W [A] au 1 v xs)(hl:xs.length≤1000000000):Fn Tryz.prog W 45 [v,.int .i64 n] [A] Unit (fun _=>.bool (decide (n∈xs))) (fun _=>True) (fun _=>[A]):=by
 refine Fn.intro (N:=18) func45 rfl ntmps45 rfl fun F=>?_
 haveI hRI:∀ (H:List aa) [bj H A],ax W H v au 1 xs:=fun H h=>⟨hv.at h.has⟩
 show ar _ _ _ _ _ _ [A,F]
 refine J 12 ?_
 refine .aX (X:=Nat) [4,5,6,7,8,9,10,11,12,13,14,15,16,17] (fun k=>xs.length-k) (fun k=>k≤xs.length∧n ∉ xs.take k) (fun k=>[(5,some (.int .i64 (k:Int)))]) (fun k=>[A,F]) 0 ?_ ?_ ?_ ?_
 ·exact⟨Nat.zero_le _,by simp⟩
 ·exact⟨rfl,trivial⟩
 ·exact fun w s=>aq.kept .auto w s
 rintro k ⟨hk,hn⟩
 refine JD 9 (fun h9=>?_) fun h9=>?_
 ·refine J 6 ?_
  obtain⟨x,hx⟩:=ak (show k<xs.length by omega)
  refine J 3 ?_
  refine .p (.lr rfl hx) ?_
  refine JD 4 (fun h17=>?_) fun h17=>?_
  ·refine J 11 ?_
   refine .aJ rfl rfl fun w s=>⟨(),?_,trivial,aj .auto s⟩
   rw[decide_eq_true (by rw[← h17];exact List.mem_of_getElem? hx)]
  ·refine J 8 ?_
   refine .aw (k+1) .auto rfl ?_ ?_ ?_ ?_
   ·first | omega | (dsimp only;omega)
   ·exact⟨by omega,by rw[aQ hx];simp only[List.mem_append,List.mem_singleton,not_or];exact⟨hn,fun e=>h17 e.symm⟩⟩
   ·exact⟨rfl,trivial⟩
   ·exact fun w s=>aq.kept .auto w s
 ·refine J 11 ?_
  obtain rfl:k=xs.length:=by omega
  rw[List.take_length] at hn
  refine .aJ rfl rfl fun w s=>⟨(),?_,trivial,aj .auto s⟩
  rw[decide_eq_false hn]
end Go.SLYthlllpngkljgfaaGreat
