/- Walks of functions, and what they compute. Conditions: none, this text proves no statement. -/
import Derived.Test.YthlllpngkljgfaaGreatG12
import Derived.Test.YthlllpngkljgfaaGreatG07
import Derived.Test.YthlllpngkljgfaaGreatProg
import Derived.KernelRfl
set_option maxRecDepth 20000
set_option maxHeartbeats 4000000
namespace Go.SLYthlllpngkljgfaaGreat
open Go Go.RowKit
theorem uY{bl:List Nat}{ls:List Lib}{n:Int}(hb:bl.length=ls.length)(h:aU ls n=none):aU bl n=none:=by
 unfold aU at *
 split at h
 ·rename_i h0;rw[if_pos h0]
 ·rename_i h0
  rw[if_neg h0]
  rw[List.getElem?_eq_none_iff] at h ⊢
  omega
/-! law 19's own fact -/
def Mq:List Ins:=[⟨1,1,0,0,5⟩,⟨38,1,0,0,0⟩]
def Mh:gY:=⟨[Mq],0,0,0,[],[],0,0⟩
def uZ(x y:Nat):aS:=⟨yY y 1,[(.slice (some ⟨x,0,none⟩) 2 2,Mq)],0,0,0,.slice none 0 0,[],.slice none 0 0,[],0,0⟩
def N3(x y z:Nat):aa:=seps [arr z 0 (ez (uZ x y)),arr y 0 [.slice (some ⟨x,0,none⟩) 2 2],arr x 0 (rows eg Mq)]
theorem II{W:World}{x y z:Nat}:Rd W [N3 x y z] ez 8 (yY z 1) [uZ x y]:=Rd.eU (Rd.lit .here rfl (fun _ _=>rfl) rfl)
theorem Kk{W:World}{x y z:Nat}:∀ p∈ [uZ x y],eE W [N3 x y z] p:=fun p hp=>by
 have e:p=uZ x y:=by simpa using hp
 subst e
 refine⟨Rd.eU (Rd.lit (.there .here) rfl (fun _ _=>rfl) rfl),fun q hq=>?_,Rd.nil,Rd.nil⟩
 rw[show(uZ x y).fs=[(.slice (some ⟨x,0,none⟩) 2 2,Mq)] from rfl,List.mem_singleton] at hq
 subst hq
 exact Rd.eU (Rd.lit (.there (.there .here)) rfl (fun _ _=>rfl) rfl)
theorem Mi{x y:Nat}:[uZ x y].length≤1000000000∧ ∀ p∈ [uZ x y],p.fs.length≤1000000000∧p.bF.length≤1000000000∧p.bb.length≤1000000000:=⟨by show 1≤_;decide,fun p hp=>by
 have e:p=uZ x y:=by simpa using hp
 subst e
 exact⟨by show 1≤_;decide,by show 0≤_;decide,by show 0≤_;decide⟩⟩
theorem Ou:ee 2 [Mh]=0:=by decide +kernel
def u3:Nat→Sy
 | 0=>Sy.new 2 [Mh]
 | n+1=>((u3 n).do ⟨1,0,4⟩).2
theorem N4:∀ p∈ [Mh], ∀ f∈p.funcs, ∀ i∈f,fj i.n:=fun p hp f hf i hi=>by
 have e:p=Mh:=by simpa using hp
 subst e
 have:f=Mq:=by simpa [Mh] using hf
 subst this
 have:i=⟨1,1,0,0,5⟩∨i=⟨38,1,0,0,0⟩:=by simpa [Mq] using hi
 rcases this with rfl | rfl <;> unfold fj <;> decide
theorem i19:∀ n,n≤400→wV n (u3 n)
 | 0,_=>wV.new Ou N4
 | n+1,h=>(i19 n (by omega)).do (by omega) _
theorem N5:(u3 30).log.length=3:=by decide +kernel
theorem N6:(u3 30).log[0]?=some ⟨1,0,0,4⟩:=by decide +kernel
theorem Ov:((u3 30).aC 0).length=2:=by decide +kernel
theorem N7:(((u3 30).aC 0)[0]?).map (·.x)=some 5:=by decide +kernel
theorem d19:((u3 30).do ⟨1,1,0⟩).1=11:=by decide +kernel
theorem N8:(u3 30).do ⟨0,0,0⟩=(1,u3 30):=Ki (by decide) (by decide) (by decide) (by decide) (by decide) (by decide)
theorem N9:∃ r:Rec,((u3 30).aC 0)[0]?=some r∧r.x=5:=by
 have h:=N7
 cases e:((u3 30).aC 0)[0]? with
 | none=>rw[e] at h;cases h
 | some r=>rw[e] at h;exact⟨r,rfl,Option.some.inj h⟩
theorem yQ{α:Type}(l:List α):(l.take 250).length≤250:=List.length_take_le ..
end Go.SLYthlllpngkljgfaaGreat
namespace Go.SLYthlllpngkljgfaaGreat
open Go Go.RowKit Go.Proofs Go.Proofs.Tryz
attribute [local irreducible] ar aM bm bA bE Y
theorem rm{W:World}  : Fn Tryz.prog W 20 [.pointer none] [] Unit (fun _=>.pointer none) (fun _=>True) (fun _=>[]):=by
 refine Fn.intro (N:=9) func20 rfl ntmps20 rfl fun F=>?_
 show ar _ _ _ _ _ _ [F]
 refine J 12 ?_
 refine .gd rfl ?_
 exact JR 7 ()
theorem Fz{W:World}  : Fn Tryz.prog W 28 [.pointer none] [] Unit (fun _=>.int .i64 0) (fun _=>True) (fun _=>[]):=by
 refine Fn.intro (N:=9) func28 rfl ntmps28 rfl fun F=>?_
 show ar _ _ _ _ _ _ [F]
 refine J 12 ?_
 refine .gd rfl ?_
 exact JR 7 ()
theorem IJ{W:World}  : Fn Tryz.prog W 17 [.pointer none] [] Unit (fun _=>(.slice none 0 0)) (fun _=>True) (fun _=>[]):=by
 refine Fn.intro (N:=11) func17 rfl ntmps17 rfl fun F=>?_
 show ar _ _ _ _ _ _ [F]
 refine J 12 ?_
 refine .gd rfl ?_
 exact JR 7 ()
theorem Kl{W:World}{x:qC}:Fn Tryz.prog W 18 [.pointer none,.agg (ga x).toArray] [] Unit (fun _=>.int .i64 1) (fun _=>True) (fun _=>[]):=by
 refine Fn.intro (N:=94) func18 rfl ntmps18 rfl fun F=>?_
 show ar _ _ _ _ _ _ [F]
 refine J 2 ?_
 refine .ai rfl (ae.box rfl rfl rfl) ?_
 rintro _ _ ⟨b3,rfl,rfl⟩
 refine .mem (H':=[arr b3 0 (ga x),F]) (fun w s=>s) ?_
 refine J 10 ?_
 refine .gd rfl ?_
 exact JR 7 ()
theorem u7{W:World}{b kb:Nat}{bl:List Nat}{s:Sy}{n:Int}{m:Nat}(_hk:nU m s.k)(hg:aU s.k.libs n=none):Fn Tryz.prog W 23 [ptr b,.int .i64 n] [fD b kb bl s] Value (fun u=>u) (fun _=>True) (fun u=>[sl dT 6 u (s.aC n),fD b kb bl s]):=by
 refine Fn.intro (N:=11) func23 rfl ntmps23 rfl fun F=>?_
 show ar _ _ _ _ _ _ [fD b kb bl s,F]
 refine J 8 ?_
 refine .c call20 rfl cE fun _ _=>?_
 refine .o2 (C:=fD b kb bl s) .auto rfl ?_
 rintro v vl -
 refine .o3 (C:=bu kb bl s.k) .auto rfl ?_
 rintro vo vl xs ⟨hxb,hxs⟩
 have hxx:=And.intro hxb hxs
 have hgb:=uY (kG hxb hxs) hg
 refine J 1 ?_
 refine .c call48 rfl (ff (b:=kb) (bl:=bl) (k:=s.k) (n:=n)) fun _ _=>?_
 rw[hgb]
 refine .c call49 rfl l4 fun _ _=>?_
 refine .c call69 rfl oh fun _ _=>?_
 refine J 4 ?_
 rw[(sM hg).1]
 refine .aJ rfl rfl fun w s=>⟨(.slice none 0 0),?_,trivial,aj .auto s⟩
 rfl
theorem ss{W:World}{b kb:Nat}{bl:List Nat}{s:Sy}{n:Int}{m:Nat}(hk:nU m s.k){j:Nat}{l:Lib}(hn:n=(j:Int))(hg:s.k.libs[j]?=some l):Fn Tryz.prog W 23 [ptr b,.int .i64 n] [fD b kb bl s] Value (fun u=>u) (fun _=>True) (fun u=>[sl dT 6 u (s.aC n),fD b kb bl s]):=by
 refine Fn.intro (N:=11) func23 rfl ntmps23 rfl fun F=>?_
 subst hn
 show ar _ _ _ _ _ _ [fD b kb bl s,F]
 refine J 8 ?_
 refine .c call20 rfl cE fun _ _=>?_
 refine .o2 (C:=fD b kb bl s) .auto rfl ?_
 rintro v vl -
 refine .o3 (C:=bu kb bl s.k) .auto rfl ?_
 rintro vo vl xs ⟨hxb,hxs⟩
 have hxx:=And.intro hxb hxs
 obtain⟨x,hx,hxe,hbx⟩:=dU hxb hxs hg
 subst hxe
 have hlo:=hk.gE x.2 (List.mem_of_getElem? hg)
 refine J 1 ?_
 refine .c call48 rfl (ff (b:=kb) (bl:=bl) (k:=s.k) (n:=(j:Int))) fun _ _=>?_
 rw[bf,hbx]
 refine .o3 (C:=bu kb bl s.k) .auto rfl ?_
 rintro vo2 vl2 xs2 ⟨hxb2,hxs2⟩
 obtain⟨x2,hx2,hxe2,hbx2⟩:=dU hxb2 hxs2 hg
 have hxq:x2=x:=Prod.ext (Option.some.inj (hbx2.symm.trans hbx)) hxe2
 subst hxq
 have hxx2:=And.intro hxb2 hxs2
 refine .fr .auto (cc (f:=fun x:Nat×Lib=>cn x.1 x.2) hx2) ?_
 refine .o2 (C:=cn x2.1 x2.2) .auto rfl ?_
 rintro bs br -
 refine .c call49 rfl (ir (b:=x2.1) (bs:=bs) (br:=br) (l:=x2.2)) fun _ _=>?_
 refine .o2 (C:=aW x2.1 bs br x2.2) .auto rfl ?_
 rintro vv vw -
 refine .c call69 rfl (yL (b:=bs) (s:=x2.2.aK) (Nat.le_trans hlo.1.sp.aC (by decide))) fun u10 _=>?_
 refine .to (A:=aO (fun x:Nat×Lib=>cn x.1 x.2) xs2) .auto (cK (f:=fun x:Nat×Lib=>cn x.1 x.2) hx2) ?_
 refine J 4 ?_
 rw[(DH hg).1]
 exact JR 0 u10
theorem nj{W:World}{b kb:Nat}{bl:List Nat}{s:Sy}{n:Int}{m:Nat}(hk:nU m s.k):Fn Tryz.prog W 23 [ptr b,.int .i64 n] [fD b kb bl s] Value (fun u=>u) (fun _=>True) (fun u=>[sl dT 6 u (s.aC n),fD b kb bl s]):=by
 cases hg:aU s.k.libs n with
 | none=>exact u7 hk hg
 | some l =>
  obtain⟨h0, -,h1⟩:=cB hg
  exact ss hk (j:=n.toNat) (by omega) h1
theorem yR{W:World}{n:Int}:Fn Tryz.prog W 23 [.pointer none,.int .i64 n] [] Unit (fun _=>(.slice none 0 0)) (fun _=>True) (fun _=>[]):=by
 refine Fn.intro (N:=11) func23 rfl ntmps23 rfl fun F=>?_
 show ar _ _ _ _ _ _ [F]
 refine J 8 ?_
 refine .c call20 rfl rm fun _ _=>?_
 refine J 1 ?_
 refine .c call48 rfl wZ fun _ _=>?_
 refine .c call49 rfl l4 fun _ _=>?_
 refine .c call69 rfl oh fun _ _=>?_
 exact JR 4 ()
theorem vK{W:World}{b kb:Nat}{bl:List Nat}{s:Sy}{n:Int}{m:Nat}(_hk:nU m s.k)(hg:aU s.k.libs n=none):Fn Tryz.prog W 25 [ptr b,.int .i64 n] [fD b kb bl s] Value (fun u=>u) (fun _=>True) (fun u=>[sl dh 1 u (s.mem n),fD b kb bl s]):=by
 refine Fn.intro (N:=11) func25 rfl ntmps25 rfl fun F=>?_
 show ar _ _ _ _ _ _ [fD b kb bl s,F]
 refine J 8 ?_
 refine .c call20 rfl cE fun _ _=>?_
 refine .o2 (C:=fD b kb bl s) .auto rfl ?_
 rintro v vl -
 refine .o3 (C:=bu kb bl s.k) .auto rfl ?_
 rintro vo vl xs ⟨hxb,hxs⟩
 have hxx:=And.intro hxb hxs
 have hgb:=uY (kG hxb hxs) hg
 refine J 1 ?_
 refine .c call48 rfl (ff (b:=kb) (bl:=bl) (k:=s.k) (n:=n)) fun _ _=>?_
 rw[hgb]
 refine .c call49 rfl l4 fun _ _=>?_
 refine .c call70 rfl qy fun _ _=>?_
 refine J 4 ?_
 rw[(sM hg).2]
 refine .aJ rfl rfl fun w s=>⟨(.slice none 0 0),?_,trivial,aj .auto s⟩
 rfl
theorem vd{W:World}{b kb:Nat}{bl:List Nat}{s:Sy}{n:Int}{m:Nat}(hk:nU m s.k){j:Nat}{l:Lib}(hn:n=(j:Int))(hg:s.k.libs[j]?=some l):Fn Tryz.prog W 25 [ptr b,.int .i64 n] [fD b kb bl s] Value (fun u=>u) (fun _=>True) (fun u=>[sl dh 1 u (s.mem n),fD b kb bl s]):=by
 refine Fn.intro (N:=11) func25 rfl ntmps25 rfl fun F=>?_
 subst hn
 show ar _ _ _ _ _ _ [fD b kb bl s,F]
 refine J 8 ?_
 refine .c call20 rfl cE fun _ _=>?_
 refine .o2 (C:=fD b kb bl s) .auto rfl ?_
 rintro v vl -
 refine .o3 (C:=bu kb bl s.k) .auto rfl ?_
 rintro vo vl xs ⟨hxb,hxs⟩
 have hxx:=And.intro hxb hxs
 obtain⟨x,hx,hxe,hbx⟩:=dU hxb hxs hg
 subst hxe
 have hlo:=hk.gE x.2 (List.mem_of_getElem? hg)
 refine J 1 ?_
 refine .c call48 rfl (ff (b:=kb) (bl:=bl) (k:=s.k) (n:=(j:Int))) fun _ _=>?_
 rw[bf,hbx]
 refine .o3 (C:=bu kb bl s.k) .auto rfl ?_
 rintro vo2 vl2 xs2 ⟨hxb2,hxs2⟩
 obtain⟨x2,hx2,hxe2,hbx2⟩:=dU hxb2 hxs2 hg
 have hxq:x2=x:=Prod.ext (Option.some.inj (hbx2.symm.trans hbx)) hxe2
 subst hxq
 have hxx2:=And.intro hxb2 hxs2
 refine .fr .auto (cc (f:=fun x:Nat×Lib=>cn x.1 x.2) hx2) ?_
 refine .o2 (C:=cn x2.1 x2.2) .auto rfl ?_
 rintro bs br -
 refine .c call49 rfl (ir (b:=x2.1) (bs:=bs) (br:=br) (l:=x2.2)) fun _ _=>?_
 refine .o2 (C:=aW x2.1 bs br x2.2) .auto rfl ?_
 rintro vv vw -
 refine .c call70 rfl (AI (b:=bs) (s:=x2.2.aK) (Nat.le_trans hlo.1.sp.mem (by decide))) fun u10 _=>?_
 refine .to (A:=aO (fun x:Nat×Lib=>cn x.1 x.2) xs2) .auto (cK (f:=fun x:Nat×Lib=>cn x.1 x.2) hx2) ?_
 refine J 4 ?_
 rw[(DH hg).2]
 exact JR 0 u10
theorem vf{W:World}{b kb:Nat}{bl:List Nat}{s:Sy}{n:Int}{m:Nat}(hk:nU m s.k):Fn Tryz.prog W 25 [ptr b,.int .i64 n] [fD b kb bl s] Value (fun u=>u) (fun _=>True) (fun u=>[sl dh 1 u (s.mem n),fD b kb bl s]):=by
 cases hg:aU s.k.libs n with
 | none=>exact vK hk hg
 | some l =>
  obtain⟨h0, -,h1⟩:=cB hg
  exact vd hk (j:=n.toNat) (by omega) h1
theorem AT{W:World}{n:Int}:Fn Tryz.prog W 25 [.pointer none,.int .i64 n] [] Unit (fun _=>(.slice none 0 0)) (fun _=>True) (fun _=>[]):=by
 refine Fn.intro (N:=11) func25 rfl ntmps25 rfl fun F=>?_
 show ar _ _ _ _ _ _ [F]
 refine J 8 ?_
 refine .c call20 rfl rm fun _ _=>?_
 refine J 1 ?_
 refine .c call48 rfl wZ fun _ _=>?_
 refine .c call49 rfl l4 fun _ _=>?_
 refine .c call70 rfl qy fun _ _=>?_
 exact JR 4 ()
theorem Ni{a b:q8}:rC Tryz.prog 42 2 (.agg (fC a).toArray) (.agg (fC b).toArray) (decide (a=b)):=fun d w=>by
 have hs:Tryz.prog.stoodInHeld 42=false:=by kernel_rfl
 have one:∀ (r:q8) (t:TypeId) (i:Nat) (v:Value),(∀ w,(isAgg t).run Tryz.prog w = .ok false w)→(fC r)[i]?=some v→Part Tryz.prog t (fC r).toArray i v:=fun r t i v ha hv=>Part.one ha (by rw[List.getElem?_toArray];exact hv)
 refine(mY underlying42 hs (d+1) _ _ w).trans ?_
 show(Op.eqFields (d+1) _ _ [_,_,_,_]).run Tryz.prog w=_
 have pa0:Part Tryz.prog 3 (fC a).toArray 0 (.int .i64 a.kind):=one a _ 0 _ isAgg3 rfl
 have pb0:Part Tryz.prog 3 (fC b).toArray 0 (.int .i64 b.kind):=one b _ 0 _ isAgg3 rfl
 refine Eq.trans (c0 (a:=.int .i64 a.kind) (b:=.int .i64 b.kind) (r:=decide (a.kind=b.kind)) ?_ ?_ ?_ ?_) ?_
 ·decide +kernel
 ·exact pa0
 ·exact pb0
 ·exact(rC.int underlying3 d w)
 by_cases h0:a.kind=b.kind
 rotate_left
 ·rw[decide_eq_false h0,decide_eq_false (fun e=>h0 (by rw[e])),if_neg (by simp)]
 rw[decide_eq_true h0,if_pos rfl]
 have pa1:Part Tryz.prog 3 (fC a).toArray 1 (.int .i64 a.space):=one a _ 1 _ isAgg3 rfl
 have pb1:Part Tryz.prog 3 (fC b).toArray 1 (.int .i64 b.space):=one b _ 1 _ isAgg3 rfl
 refine Eq.trans (c0 (a:=.int .i64 a.space) (b:=.int .i64 b.space) (r:=decide (a.space=b.space)) ?_ ?_ ?_ ?_) ?_
 ·decide +kernel
 ·exact pa1
 ·exact pb1
 ·exact(rC.int underlying3 d w)
 by_cases h1:a.space=b.space
 rotate_left
 ·rw[decide_eq_false h1,decide_eq_false (fun e=>h1 (by rw[e])),if_neg (by simp)]
 rw[decide_eq_true h1,if_pos rfl]
 have pa2:Part Tryz.prog 3 (fC a).toArray 2 (.int .i64 a.ab):=one a _ 2 _ isAgg3 rfl
 have pb2:Part Tryz.prog 3 (fC b).toArray 2 (.int .i64 b.ab):=one b _ 2 _ isAgg3 rfl
 refine Eq.trans (c0 (a:=.int .i64 a.ab) (b:=.int .i64 b.ab) (r:=decide (a.ab=b.ab)) ?_ ?_ ?_ ?_) ?_
 ·decide +kernel
 ·exact pa2
 ·exact pb2
 ·exact(rC.int underlying3 d w)
 by_cases h2:a.ab=b.ab
 rotate_left
 ·rw[decide_eq_false h2,decide_eq_false (fun e=>h2 (by rw[e])),if_neg (by simp)]
 rw[decide_eq_true h2,if_pos rfl]
 have pa3:Part Tryz.prog 3 (fC a).toArray 3 (.int .i64 a.choice):=one a _ 3 _ isAgg3 rfl
 have pb3:Part Tryz.prog 3 (fC b).toArray 3 (.int .i64 b.choice):=one b _ 3 _ isAgg3 rfl
 refine Eq.trans (c0 (a:=.int .i64 a.choice) (b:=.int .i64 b.choice) (r:=decide (a.choice=b.choice)) ?_ ?_ ?_ ?_) ?_
 ·decide +kernel
 ·exact pa3
 ·exact pb3
 ·exact(rC.int underlying3 d w)
 by_cases h3:a.choice=b.choice
 rotate_left
 ·rw[decide_eq_false h3,decide_eq_false (fun e=>h3 (by rw[e])),if_neg (by simp)]
 rw[decide_eq_true h3,if_pos rfl]
 have e:a=b:=by
  obtain⟨a0,a1,a2,a3⟩:=a
  obtain⟨b0,b1,b2,b3⟩:=b
  simp only at h0 h1 h2 h3
  subst h0 h1 h2 h3
  rfl
 rw[decide_eq_true e]
 simp[Op.eqFields]
theorem AU{W:World}{A:aa}{v u:Value}{xs ys:List q8}(hv:Rd W [A] fC 4 v xs)(hu:Rd W [A] fC 4 u ys)(hl:xs.length≤1000000000):Fn Tryz.prog W 19 [v,u] [A] Unit (fun _=>.bool (decide (xs=ys))) (fun _=>True) (fun _=>[A]):=by
 refine Fn.intro (N:=26) func19 rfl ntmps19 rfl fun F=>?_
 haveI hRI:∀ (H:List aa) [bj H A],ax W H v fC 4 xs:=fun H h=>⟨hv.at h.has⟩
 haveI hRJ:∀ (H:List aa) [bj H A],ax W H u fC 4 ys:=fun H h=>⟨hu.at h.has⟩
 show ar _ _ _ _ _ _ [A,F]
 refine JD 15 (fun h10=>?_) fun h10=>?_
 ·refine J 7 ?_
  refine .aJ rfl rfl fun w s=>⟨(),?_,trivial,aj .auto s⟩
  rw[decide_eq_false (fun e=>h10 (by rw[e]))]
 ·refine J 9 ?_
  refine .aX (X:=Nat) [4,5,11,12,13,14,15,16,17,18,19,20,21,22,23,24,25] (fun k=>xs.length-k) (fun k=>k≤xs.length∧xs.take k=ys.take k) (fun k=>[(5,some (.int .i64 (k:Int)))]) (fun k=>[A,F]) 0 ?_ ?_ ?_ ?_
  ·exact⟨Nat.zero_le _,rfl⟩
  ·exact⟨rfl,trivial⟩
  ·exact fun w s=>aq.kept .auto w s
  rintro k ⟨hk,hn⟩
  refine JD 9 (fun h14=>?_) fun h14=>?_
  ·refine J 5 ?_
   refine .draw [] [1,1,1,1,1,1,1,1,1] rfl (by kernel_rfl) ?_
   obtain⟨x,hx⟩:=ak (show k<xs.length by omega)
   obtain⟨y,hy⟩:=ak (show k<ys.length by omega)
   refine J 3 ?_
   refine .p (.la rfl (Cells.rd Rd.s hx)) ?_
   refine J 3 ?_
   refine .p (.la rfl (Cells.rd Rd.s hy)) ?_
   refine .p (.FV (by kernel_rfl) Ni rfl rfl rfl) ?_
   refine JD 2 (fun h25=>?_) fun h25=>?_
   ·have h25:x≠y:=by simpa using h25
    refine J 11 ?_
    refine .aJ rfl rfl fun w s=>⟨(),?_,trivial,aj .auto s⟩
    rw[decide_eq_false (fun e=>h25 (by rw[e] at hx;exact Option.some.inj (hx.symm.trans hy)))]
   ·have h25:¬x≠y:=by simpa using h25
    refine J 8 ?_
    refine .aw (k+1) .auto rfl ?_ ?_ ?_ ?_
    ·first | omega | (dsimp only;omega)
    ·exact⟨by omega,by rw[aQ hx,aQ hy,hn,Decidable.of_not_not h25]⟩
    ·exact⟨rfl,trivial⟩
    ·exact fun w s=>aq.kept .auto w s
  ·refine J 11 ?_
   obtain rfl:k=xs.length:=by omega
   rw[List.take_length,List.take_of_length_le (by omega)] at hn
   refine .aJ rfl rfl fun w s=>⟨(),?_,trivial,aj .auto s⟩
   rw[decide_eq_true hn]
theorem nk{W:World}{A:aa}{v:Value}{xs:List qC}(hr:Rd W [A] ga 3 v xs)(hl:xs.length≤1000000000):Fn Tryz.prog W 16 [v] [A] Value (fun u=>u) (fun u=>Rd W [A] ga 3 u (xs.take 250)) (fun _=>[A]):=by
 refine Fn.intro (N:=9) func16 rfl ntmps16 rfl fun F=>?_
 haveI hRI:∀ (H:List aa) [bj H A],ax W H v ga 3 xs:=fun H h=>⟨hr.at h.has⟩
 show ar _ _ _ _ _ _ [A,F]
 refine JD 13 (fun h5=>?_) fun h5=>?_
 ·refine J 3 ?_
  refine .p (.sliceTo 250 underlying23 sizeOf34 rfl rfl Rd.s rfl (by omega)) ?_
  refine J 5 ?_
  refine .aJ rfl rfl fun w s=>⟨_,?_,Rd.DJ (n:=250) (by omega) hr,aj .auto s⟩
  rfl
 ·refine J 9 ?_
  refine .aJ rfl rfl fun w s=>⟨_,?_,by rw[List.take_of_length_le (by omega)];exact hr,aj .auto s⟩
  rfl
theorem Km:rC Tryz.prog 42 2 (.agg #[.int .i64 1,.int .i64 0,.int .i64 0,.int .i64 4]) (.agg #[.int .i64 1,.int .i64 0,.int .i64 0,.int .i64 4]) true:=fun d w=>by kernel_rfl
theorem fS{W:World}  : Fn Tryz.prog W 15 [] [] Unit (fun _=>.bool true) (fun _=>True) (fun _=>[]):=by
 refine Fn.intro (N:=69) func15 rfl ntmps15 rfl fun F=>?_
 show ar _ _ _ _ _ _ [F]
 refine J 7 ?_
 refine .p (.sk (fun v1 v2 v3=>[v1,v2,(.int .i64 0),(.int .i64 0),v3]) rfl rfl rfl (by kernel_rfl)) ?_
 refine .p (.fF (fun v1 v2=>[v1,v2,(.int .i64 0),(.int .i64 0),(.int .u64 0)]) rfl rfl (by kernel_rfl)) ?_
 refine .ai rfl (ae.gC 112 rfl rfl (by kernel_rfl)) ?_
 rintro _ _ ⟨b9,rfl,rfl⟩
 refine .ai rfl (ae.gC 113 rfl rfl (by kernel_rfl)) ?_
 rintro _ _ ⟨b10,rfl,rfl⟩
 refine .p (.hZ (fun _=>ez (uZ b9 b10)) rfl (by kernel_rfl)) ?_
 refine .ai rfl (ae.alloc rfl zeroValue56 rfl) ?_
 rintro _ _ ⟨b1,rfl,rfl⟩
 refine J 6 ?_
 refine .ai rfl (ae.gC 56 rfl rfl (by kernel_rfl)) ?_
 rintro _ _ ⟨b14,rfl,rfl⟩
 refine .c call14 rfl (iO (A:=N3 b9 b10 b14) (v:=yY b14 1) (ps:=[uZ b9 b10]) (procs:=2) II Kk Mi) fun o ho=>?_
 rw[show[uZ b9 b10].map aS.p=[Mh] from rfl,Ou] at ho ⊢
 obtain⟨sb,rfl⟩:=Option.isSome_iff_exists.1 ho
 refine .fr (A:=optH (fun b=>sr b (Sy.new 2 [Mh])) (some sb)) (Bs:=[sr sb (u3 0)]) .auto fc ?_
 refine .o2 (C:=sr sb (u3 0)) .auto rfl ?_
 rintro kb bl -
 refine JD 18 (fun h23=>?_) fun h23=>?_
 ·cases h23
 ·refine J 9 ?_
  refine .aX (X:=Nat) [4,24,25,26,27,28,29,30] (fun k=>30-k) (fun k=>k≤30) (fun k=>[(4,some (.int .i64 (k:Int)))]) (fun k=>[fD sb kb bl (u3 k),F]) 0 ?_ ?_ ?_ ?_
  ·exact Nat.zero_le _
  ·exact⟨rfl,trivial⟩
  ·exact fun w s=>aq.kept .auto w s
  rintro k hk
  refine JD 7 (fun h25=>?_) fun h25=>?_
  ·have hI:=i19 k (by omega)
   refine J 6 ?_
   refine .p (.sk (fun v1 v2 v3=>[v1,v2,v3]) rfl rfl rfl (by kernel_rfl)) ?_
   refine .c call18 rfl (l7 (b:=sb) (kb:=kb) (bl:=bl) (s:=u3 k) (x:=⟨1,0,4⟩) (hI.rn (by omega)) hI.k.inv (by omega) (by have:=hI.log;omega) (Nat.le_trans hI.prio (by decide))) fun _ _=>?_
   rw[show((u3 k).do ⟨1,0,4⟩).2=u3 (k+1) from rfl]
   refine J 8 ?_
   refine .aw (k+1) .auto rfl ?_ ?_ ?_ ?_
   ·omega
   ·show k+1≤_;omega
   ·exact⟨rfl,trivial⟩
   ·exact fun w s=>aq.kept .auto w s
  ·obtain rfl:k=30:=by omega
   have hI:=i19 30 (by decide)
   obtain⟨r,hr,hrx⟩:=N9
   have hl3:((u3 30).log.length:Int)=3:=by rw[N5];rfl
   have hr2:(((u3 30).aC 0).length:Int)=2:=by rw[Ov];rfl
   refine J 8 ?_
   refine .c call17 rfl (jg (s:=u3 30) (by rw[N5];decide)) fun u32 _=>?_
   refine J 6 ?_
   refine .c call23 rfl (nj (s:=u3 30) (n:=0) (hI.rn (by decide))) fun u34 _=>?_
   refine J 6 ?_
   refine .p (.fm (Y.CO underlying30 rfl Rd.s) hl3) ?_
   refine J 3 ?_
   refine .g (.ix 0 rfl rfl rfl (by rw[N5];decide)) ?_
   refine .g (.la rfl (Cells.rd Rd.s N6)) ?_
   refine .g (.fF (fun v1 v2=>[v1,(.int .i64 0),(.int .i64 0),v2]) rfl rfl (by kernel_rfl)) ?_
   refine .g (.FU (by kernel_rfl) Km rfl rfl rfl) ?_
   refine J 3 ?_
   refine .g (.fm (Y.CO underlying44 rfl Rd.s) hr2) ?_
   refine J 4 ?_
   refine .g (.ix 0 rfl rfl rfl (by rw[Ov];decide)) ?_
   refine J 1 ?_
   refine .g (.fm (Y.load isAgg110 rfl (Cell.rd (enc:=dT) (k:=6) (c:=2) Rd.s hr rfl)) hrx) ?_
   refine J 4 ?_
   refine .g (.mi (ga ⟨0,0,0⟩) (by kernel_rfl)) ?_
   refine .cg call18 rfl (l7 (b:=sb) (kb:=kb) (bl:=bl) (s:=u3 30) (x:=⟨0,0,0⟩) (hI.rn (by omega)) hI.k.inv (by omega) (by have:=hI.log;omega) (Nat.le_trans hI.prio (by decide))) fun _ _=>?_
   rw[N8]
   refine J 4 ?_
   refine .g (.fF (fun v1 v2=>[v1,v2,(.int .i64 0)]) rfl rfl (by kernel_rfl)) ?_
   refine .cg call18 rfl (l7 (b:=sb) (kb:=kb) (bl:=bl) (s:=u3 30) (x:=⟨1,1,0⟩) (hI.rn (by omega)) hI.k.inv (by omega) (by have:=hI.log;omega) (Nat.le_trans hI.prio (by decide))) fun _ _=>?_
   rw[d19]
   exact JR 6 ()
theorem CD{W:World}{x:qC}{n:Int}:Fn Tryz.prog W 6 [.agg (ga x).toArray,.int .i64 n] [] Unit (fun _=>.bool true) (fun _=>True) (fun _=>[]):=by
 refine Fn.intro (N:=37) func6 rfl ntmps6 rfl fun F=>?_
 show ar _ _ _ _ _ _ [F]
 refine J 2 ?_
 refine .ai rfl (ae.box rfl rfl rfl) ?_
 rintro _ _ ⟨b2,rfl,rfl⟩
 refine .mem (H':=[arr b2 0 (ga x),F]) (fun w s=>s) ?_
 refine J 10 ?_
 refine .c call15 rfl fS fun _ _=>?_
 refine J 3 ?_
 refine .cg call18 rfl Kl fun _ _=>?_
 refine J 4 ?_
 refine .cg call17 rfl IJ fun _ _=>?_
 refine J 3 ?_
 refine .cg call23 rfl yR fun _ _=>?_
 refine J 1 ?_
 refine .g (.add rfl rfl (by omega)) ?_
 refine J 2 ?_
 refine .cg call25 rfl AT fun _ _=>?_
 refine J 1 ?_
 refine .g (.add rfl rfl (by omega)) ?_
 refine J 1 ?_
 refine .cg call28 rfl Fz fun _ _=>?_
 refine .g (.add rfl rfl (by omega)) ?_
 refine J 4 ?_
 refine .cg call20 rfl rm fun _ _=>?_
 exact JR 6 ()
end Go.SLYthlllpngkljgfaaGreat
namespace Go.SLYthlllpngkljgfaaGreat
open Go Go.RowKit Go.Proofs Go.Proofs.Tryz
attribute [local irreducible] ar aM bm bA bE Y
theorem CE{W:World}{A:aa}{v:Value}{ps:List aS}(hr:Rd W [A] ez 8 v ps)(hp:∀ p∈ps,eE W [A] p)(hb:ps.length≤1000000000∧ ∀ p∈ps,p.fs.length≤1000000000∧p.bF.length≤1000000000∧p.bb.length≤1000000000)(hw:∀ p∈ps.map aS.p, ∀ f∈p.funcs, ∀ i∈f,fj i.n){np:Int}{u:Value}{xs:List qC}(hst:Rd W [A] ga 3 u xs)(hsl:xs.length≤1000000000)(hnp:0≤np∧np≤255):Fn Tryz.prog W 3 [.int .u8 np,v,u] [A] Unit (fun _=>.bool true) (fun _=>True) (fun _=>[A]):=by
 refine Fn.intro (N:=113) func3 rfl ntmps3 rfl fun F=>?_
 haveI hRI:∀ (H:List aa) [bj H A],ax W H v ez 8 ps:=fun H h=>⟨hr.at h.has⟩
 haveI hRJ:∀ (H:List aa) [bj H A],ax W H u ga 3 xs:=fun H h=>⟨hst.at h.has⟩
 show ar _ _ _ _ _ _ [A,F]
 obtain⟨mk,mkd⟩:∃ mk,mk=np.toNat % (9):=⟨_,rfl⟩
 have mkl:mk<9:=by rw[mkd];exact Nat.mod_lt _ (by decide)
 have mkt:np.tmod (9)=(mk:Int):=by
  obtain⟨m,rfl⟩:∃ m:Nat,np=(m:Int):=⟨np.toNat,by omega⟩
  rw[mkd,Int.toNat_natCast];exact(Int.ofNat_tmod m (9)).symm
 refine J 8 ?_
 refine .p (.fm (Y.rem rfl rfl (by omega)) mkt) ?_
 refine .p (.iD underlying5 underlying3 rfl (by omega)) ?_
 refine .p (.add rfl rfl (by omega)) ?_
 refine J 1 ?_
 refine .c call14 rfl (iO (procs:=(mk:Int)+1) hr hp hb) fun o ho=>?_
 refine JD 14 (fun h25=>?_) fun h25=>?_
 ·refine J 2 ?_
  refine .c call15 rfl fS fun _ _=>?_
  exact JR 5 ()
 ·have hc:ee ((mk:Int)+1) (ps.map aS.p)=0:=Decidable.not_not.mp h25
  obtain⟨sb,rfl⟩:=Option.isSome_iff_exists.1 (ho.trans (decide_eq_true hc))
  refine .fr (A:=optH (fun b=>sr b (Sy.new ((mk:Int)+1) (ps.map aS.p))) (some sb)) (Bs:=[sr sb (Sy.new ((mk:Int)+1) (ps.map aS.p))]) .auto fc ?_
  refine .o2 (C:=sr sb (Sy.new ((mk:Int)+1) (ps.map aS.p))) .auto rfl ?_
  rintro kb bl -
  have hI0:=wV.new hc hw
  have h250:=yQ xs
  refine J 5 ?_
  refine .c call16 rfl (nk hst hsl) fun u28 hsm=>?_
  haveI hRK:∀ (H:List aa) [bj H A],ax W H u28 ga 3 (xs.take 250):=fun H h=>⟨hsm.at h.has⟩
  refine J 10 ?_
  refine .aX (X:=Nat×Sy) [6,9,10,11,12,13,14,29,30,31,32,33,34,35,36,37,38,39,40,41,42,43,44,45,46,47,48,49,50,51,52,53,54,55,56,57,58,59,60,61,62,63,64,65,66,67,68,69,70,71,72,73,74,75,76,77,78,79,80,81,82,83,84,85,86,87,88,89,90,91,92,93,94,95,96,97,98,99,100,101,102,103,104,105,106,107,108,109,110,111] (fun z=>(xs.take 250).length-z.1) (fun z=>z.1≤(xs.take 250).length∧wV z.1 z.2) (fun z=>[(9,some (.int .i64 (z.1:Int)))]) (fun z=>[fD sb kb bl z.2,A,F]) (0,(Sy.new ((mk:Int)+1) (ps.map aS.p))) ?_ ?_ ?_ ?_
  ·exact⟨Nat.zero_le _,hI0⟩
  ·exact⟨rfl,trivial⟩
  ·exact fun w s=>aq.kept .auto w s
  rintro⟨i,s⟩ ⟨hi,hI⟩
  simp only at hi hI
  refine JD 9 (fun h32=>?_) fun h32=>?_
  ·have hlog:=hI.log
   refine J 7 ?_
   refine .c call17 rfl (jg (b:=sb) (kb:=kb) (bl:=bl) (s:=s) (by omega)) fun u36 _=>?_
   refine J 6 ?_
   obtain⟨x,hx⟩:=ak (show i<(xs.take 250).length by omega)
   refine J 2 ?_
   refine .p (.ix i rfl rfl rfl (by omega)) ?_
   refine .p (.la rfl (Cells.rd Rd.s hx)) ?_
   refine .c call18 rfl (l7 (b:=sb) (kb:=kb) (bl:=bl) (s:=s) (x:=x) (hI.rn (by omega)) hI.k.inv (by omega) (by have:=hI.log;omega) (Nat.le_trans hI.prio (by decide))) fun _ _=>?_
   obtain⟨r,hrr⟩:=DI hI.k.ok x
   have hlen:(s.do x).2.log.length=s.log.length+r.length:=by rw[hrr.log,List.length_append]
   have htk:(s.do x).2.log.take s.log.length=s.log:=by rw[hrr.log,List.take_left]
   have hr1:=hrr.one
   have hpl:s.log.length≤(s.do x).2.log.length:=by omega
   refine J 6 ?_
   refine .c call17 rfl (jg (b:=sb) (kb:=kb) (bl:=bl) (s:=(s.do x).2) (by omega)) fun u44 _=>?_
   refine J 19 ?_
   apply aM.eO 3 55 52 [52,53,54,55] rfl
   ·intro h52
    refine J 4 ?_
    refine .eu .auto rfl (by first | exact fun _ h=>h | exact aq.kept .auto)
   ·intro h52
    refine J 4 ?_
    refine .eu .auto rfl (by first | exact fun _ h=>h | exact aq.kept .auto)
   refine J 1 ?_
   apply aM.fA 8 64 56 [56,57,58,59,60,61,62,63,64] rfl
   ·intro h56
    refine J 3 ?_
    refine .g (.sliceTo s.log.length underlying30 sizeOf42 rfl rfl Rd.s rfl hpl) ?_
    refine J 1 ?_
    refine .cg call19 rfl (AU (A:=seps [sl fC 4 u44 (s.do x).2.log,sl fC 4 u36 s.log]) (xs:=(s.do x).2.log.take s.log.length) (Rd.eU (Rd.DJ hpl (Rd.sl .here))) (Rd.eU (Rd.sl (.there .here))) (by rw[List.length_take];omega)) fun _ _=>?_
    refine .dY .auto ?_
    refine J 3 ?_
    refine .eu .auto rfl (by first | exact fun _ h=>h | exact aq.kept .auto)
   ·intro h56
    refine J 9 ?_
    refine .eu .auto rfl (by first | exact fun _ h=>h | exact aq.kept .auto)
   refine J 1 ?_
   apply aM.fA 7 72 65 [65,66,67,68,69,70,71,72] rfl
   ·intro h65
    refine J 3 ?_
    apply aM.eb 3 71 68 [68,69,70,71] rfl
    ·intro h68
     refine J 4 ?_
     refine .eu .auto rfl (by first | exact fun _ h=>h | exact aq.kept .auto)
    ·intro h68
     refine J 4 ?_
     refine .eu .auto rfl (by first | exact fun _ h=>h | exact aq.kept .auto)
    refine J 2 ?_
    refine .eu .auto rfl (by first | exact fun _ h=>h | exact aq.kept .auto)
   ·intro h65
    refine J 8 ?_
    refine .eu .auto rfl (by first | exact fun _ h=>h | exact aq.kept .auto)
   refine JD 2 (fun h72=>?_) fun h72=>?_
   ·simp only[Bool.or_eq_true,Bool.and_eq_true,decide_eq_true_eq] at h72
    rcases h72 with ((h | h) | h) | ⟨h,h2⟩
    ·omega
    ·omega
    ·exact absurd htk h
    ·have:=hrr.err h;omega
   ·refine J 6 ?_
    refine .p (.ix i rfl rfl rfl (by omega)) ?_
    refine J 1 ?_
    refine .p (.lr rfl hx) ?_
    refine J 8 ?_
    apply aM.eO 3 83 80 [80,81,82,83] rfl
    ·intro h80
     refine J 4 ?_
     refine .eu .auto rfl (by first | exact fun _ h=>h | exact aq.kept .auto)
    ·intro h80
     refine J 4 ?_
     refine .eu .auto rfl (by first | exact fun _ h=>h | exact aq.kept .auto)
    refine J 1 ?_
    apply aM.fA 3 87 84 [84,85,86,87] rfl
    ·intro h84
     refine J 4 ?_
     refine .eu .auto rfl (by first | exact fun _ h=>h | exact aq.kept .auto)
    ·intro h84
     refine J 4 ?_
     refine .eu .auto rfl (by first | exact fun _ h=>h | exact aq.kept .auto)
    refine J 1 ?_
    apply aM.fI 3 91 88 [88,89,90,91] rfl
    ·intro h88
     refine J 4 ?_
     refine .eu .auto rfl (by first | exact fun _ h=>h | exact aq.kept .auto)
    ·intro h88
     refine J 4 ?_
     refine .eu .auto rfl (by first | exact fun _ h=>h | exact aq.kept .auto)
    refine J 1 ?_
    apply aM.fA 7 99 92 [92,93,94,95,96,97,98,99] rfl
    ·intro h92
     refine J 3 ?_
     apply aM.eb 3 98 95 [95,96,97,98] rfl
     ·intro h95
      refine J 4 ?_
      refine .eu .auto rfl (by first | exact fun _ h=>h | exact aq.kept .auto)
     ·intro h95
      refine J 4 ?_
      refine .eu .auto rfl (by first | exact fun _ h=>h | exact aq.kept .auto)
     refine J 2 ?_
     refine .eu .auto rfl (by first | exact fun _ h=>h | exact aq.kept .auto)
    ·intro h92
     refine J 8 ?_
     refine .eu .auto rfl (by first | exact fun _ h=>h | exact aq.kept .auto)
    refine J 1 ?_
    apply aM.fA 11 111 100 [100,101,102,103,104,105,106,107,108,109,110,111] rfl
    ·intro h100
     refine J 3 ?_
     apply aM.eb 3 106 103 [103,104,105,106] rfl
     ·intro h103
      refine J 4 ?_
      refine .eu .auto rfl (by first | exact fun _ h=>h | exact aq.kept .auto)
     ·intro h103
      refine J 4 ?_
      refine .eu .auto rfl (by first | exact fun _ h=>h | exact aq.kept .auto)
     refine J 1 ?_
     apply aM.fI 3 110 107 [107,108,109,110] rfl
     ·intro h107
      refine J 4 ?_
      refine .eu .auto rfl (by first | exact fun _ h=>h | exact aq.kept .auto)
     ·intro h107
      refine J 4 ?_
      refine .eu .auto rfl (by first | exact fun _ h=>h | exact aq.kept .auto)
     refine J 2 ?_
     refine .eu .auto rfl (by first | exact fun _ h=>h | exact aq.kept .auto)
    ·intro h100
     refine J 12 ?_
     refine .eu .auto rfl (by first | exact fun _ h=>h | exact aq.kept .auto)
    refine JD 2 (fun h111=>?_) fun h111=>?_
    ·simp only[Bool.or_eq_true,Bool.and_eq_true,decide_eq_true_eq] at h111
     rcases h111 with (⟨(h | h) | h,h2⟩ | ⟨h,h2⟩) | ⟨⟨h,h3⟩,h2⟩
     ·have:=hrr.no (.inl h);omega
     ·have:=hrr.no (.inr (.inl h));omega
     ·have:=hrr.no (.inr (.inr h));omega
     ·have:=hrr.tick h;omega
     ·have:=hrr.done h h3;omega
    ·refine J 8 ?_
     refine .aw (i+1,(s.do x).2) .auto rfl ?_ ?_ ?_ ?_
     ·show(xs.take 250).length-(i+1)<(xs.take 250).length-i;omega
     ·exact⟨by show i+1≤_;omega,hI.do (by omega) x⟩
     ·exact⟨rfl,trivial⟩
     ·exact fun w s=>aq.kept .auto w s
  ·refine J 7 ?_
   refine .c call15 rfl fS fun _ _=>?_
   exact JR 4 ()
theorem CF{W:World}{A:aa}{v:Value}{ps:List aS}(hr:Rd W [A] ez 8 v ps)(hp:∀ p∈ps,eE W [A] p)(hb:ps.length≤1000000000∧ ∀ p∈ps,p.fs.length≤1000000000∧p.bF.length≤1000000000∧p.bb.length≤1000000000)(hw:∀ p∈ps.map aS.p, ∀ f∈p.funcs, ∀ i∈f,fj i.n){np:Int}{u:Value}{xs:List qC}(hst:Rd W [A] ga 3 u xs)(hsl:xs.length≤1000000000)(hnp:0≤np∧np≤255):Fn Tryz.prog W 4 [.int .u8 np,v,u] [A] Unit (fun _=>.bool true) (fun _=>True) (fun _=>[A]):=by
 refine Fn.intro (N:=94) func4 rfl ntmps4 rfl fun F=>?_
 haveI hRI:∀ (H:List aa) [bj H A],ax W H v ez 8 ps:=fun H h=>⟨hr.at h.has⟩
 haveI hRJ:∀ (H:List aa) [bj H A],ax W H u ga 3 xs:=fun H h=>⟨hst.at h.has⟩
 show ar _ _ _ _ _ _ [A,F]
 obtain⟨mk,mkd⟩:∃ mk,mk=np.toNat % (9):=⟨_,rfl⟩
 have mkl:mk<9:=by rw[mkd];exact Nat.mod_lt _ (by decide)
 have mkt:np.tmod (9)=(mk:Int):=by
  obtain⟨m,rfl⟩:∃ m:Nat,np=(m:Int):=⟨np.toNat,by omega⟩
  rw[mkd,Int.toNat_natCast];exact(Int.ofNat_tmod m (9)).symm
 refine J 8 ?_
 refine .p (.fm (Y.rem rfl rfl (by omega)) mkt) ?_
 refine .p (.iD underlying5 underlying3 rfl (by omega)) ?_
 refine .p (.add rfl rfl (by omega)) ?_
 refine J 1 ?_
 refine .c call14 rfl (iO (procs:=(mk:Int)+1) hr hp hb) fun o ho=>?_
 refine JD 14 (fun h25=>?_) fun h25=>?_
 ·refine J 2 ?_
  refine .c call15 rfl fS fun _ _=>?_
  exact JR 5 ()
 ·have hc:ee ((mk:Int)+1) (ps.map aS.p)=0:=Decidable.not_not.mp h25
  obtain⟨sb,rfl⟩:=Option.isSome_iff_exists.1 (ho.trans (decide_eq_true hc))
  refine .fr (A:=optH (fun b=>sr b (Sy.new ((mk:Int)+1) (ps.map aS.p))) (some sb)) (Bs:=[sr sb (Sy.new ((mk:Int)+1) (ps.map aS.p))]) .auto fc ?_
  refine .o2 (C:=sr sb (Sy.new ((mk:Int)+1) (ps.map aS.p))) .auto rfl ?_
  rintro kb bl -
  have hI0:=wV.new hc hw
  have h250:=yQ xs
  refine J 5 ?_
  refine .c call16 rfl (nk hst hsl) fun u28 hsm=>?_
  haveI hRK:∀ (H:List aa) [bj H A],ax W H u28 ga 3 (xs.take 250):=fun H h=>⟨hsm.at h.has⟩
  refine J 10 ?_
  refine .aX (X:=Nat×Sy) [6,9,10,11,12,13,14,29,30,31,32,33,34,35,36,37,38,39,40,41,42,43,44,45,46,47,48,49,50,51,52,53,54,55,56,57,58,59,60,61,62,63,64,65,66,67,68,69,70,71,72,73,74,75,76,77,78,79,80,81,82,83,84,85,86,87,88,89,90,91,92] (fun z=>(xs.take 250).length-z.1) (fun z=>z.1≤(xs.take 250).length∧wV z.1 z.2) (fun z=>[(9,some (.int .i64 (z.1:Int)))]) (fun z=>[fD sb kb bl z.2,A,F]) (0,(Sy.new ((mk:Int)+1) (ps.map aS.p))) ?_ ?_ ?_ ?_
  ·exact⟨Nat.zero_le _,hI0⟩
  ·exact⟨rfl,trivial⟩
  ·exact fun w s=>aq.kept .auto w s
  rintro⟨i,s⟩ ⟨hi,hI⟩
  simp only at hi hI
  refine JD 9 (fun h32=>?_) fun h32=>?_
  ·have hlog:=hI.log
   obtain⟨x,hx⟩:=ak (show i<(xs.take 250).length by omega)
   refine J 5 ?_
   refine .draw [A] [1,2,0,0,0,0,0,3,1,1,1,1,1] rfl (by kernel_rfl) ?_
   refine J 1 ?_
   refine .c2 call20 rfl (cE (b:=sb) (kb:=kb) (bl:=bl) (s:=s)) fun _ _=>?_
   refine .o2 (C:=fD sb kb bl s) .auto rfl ?_
   rintro pv lv -
   refine J 2 ?_
   refine .q (.ix i rfl rfl rfl (by omega)) ?_
   refine J 1 ?_
   refine .q (.ld rfl (Cell.rd (c:=1) Rd.s hx rfl)) ?_
   refine .c call21 rfl (l6 (b:=kb) (bl:=bl) (k:=s.k) (p:=x.a)) fun _ _=>?_
   refine J 1 ?_
   refine .p (.extract (v:=.int .i64 (s.k.ownerOf x.a).1) rfl rfl) ?_
   refine .p (.extract (v:=.bool (s.k.ownerOf x.a).2) rfl rfl) ?_
   refine J 7 ?_
   refine .c call17 rfl (jg (b:=sb) (kb:=kb) (bl:=bl) (s:=s) (by omega)) fun u47 _=>?_
   refine J 9 ?_
   refine .p (.ix i rfl rfl rfl (by omega)) ?_
   refine .p (.la rfl (Cells.rd Rd.s hx)) ?_
   refine .c call18 rfl (l7 (b:=sb) (kb:=kb) (bl:=bl) (s:=s) (x:=x) (hI.rn (by omega)) hI.k.inv (by omega) (by have:=hI.log;omega) (Nat.le_trans hI.prio (by decide))) fun _ _=>?_
   refine J 8 ?_
   refine .p (.ix i rfl rfl rfl (by omega)) ?_
   refine J 1 ?_
   refine .p (.lr rfl hx) ?_
   refine JD 3 (fun h60=>?_) fun h60=>?_
   ·refine J 9 ?_
    refine .aw (i+1,(s.do x).2) .auto rfl ?_ ?_ ?_ ?_
    ·show(xs.take 250).length-(i+1)<(xs.take 250).length-i;omega
    ·exact⟨by show i+1≤_;omega,hI.do (by omega) x⟩
    ·exact⟨rfl,trivial⟩
    ·exact fun w s=>aq.kept .auto w s
   ·have hk1:x.kind=1:=Decidable.not_not.mp h60
    have hos:=uX hI.k x.a x.b
    have hdo:=do_1 (s:=s) hk1
    refine J 8 ?_
    refine .p (.CP underlying4 rfl rfl) ?_
    refine JD 2 (fun h64=>?_) fun h64=>?_
    ·rw[hos.1,hdo] at h64;exact absurd rfl (bne_iff_ne.1 h64)
    ·have hI2:=(hI.do (by omega) x).log
     obtain⟨y,hyd⟩:∃ y,y=(s.do x).2.log.getD s.log.length ⟨0,0,0,0⟩:=⟨_,rfl⟩
     refine J 5 ?_
     refine .c call17 rfl (jg (b:=sb) (kb:=kb) (bl:=bl) (s:=(s.do x).2) (by omega)) fun u66 _=>?_
     refine J 4 ?_
     refine .draw [] [1,1,1,1,1,1,1,1,1,1,1,1,1,1,1,1,1,1,1,1,1,1,1,1,1,1] rfl (by kernel_rfl) ?_
     refine J 5 ?_
     apply bm.eb 21 92 71 [71,72,73,74,75,76,77,78,79,80,81,82,83,84,85,86,87,88,89,90,91,92] rfl
     ·intro h71
      have hgt:s.log.length<(s.do x).2.log.length:=by omega
      have hy:(s.do x).2.log[s.log.length]?=some y:=by obtain⟨z,hz⟩:=ak hgt;rw[hz,hyd,List.getD_eq_getElem?_getD,hz];rfl
      refine J 2 ?_
      refine .g (.ix s.log.length rfl rfl rfl hgt) ?_
      refine J 1 ?_
      refine .g (.ld rfl (Cell.rd (c:=1) Rd.s hy rfl)) ?_
      refine J 3 ?_
      apply bm.eO 12 91 79 [79,80,81,82,83,84,85,86,87,88,89,90,91] rfl
      ·intro h79
       refine J 2 ?_
       refine .g (.ix s.log.length rfl rfl rfl hgt) ?_
       refine J 1 ?_
       refine .g (.ld rfl (Cell.rd (c:=3) Rd.s hy rfl)) ?_
       refine J 2 ?_
       refine .g (.ix i rfl rfl rfl (by omega)) ?_
       refine J 1 ?_
       refine .g (.ld rfl (Cell.rd (c:=2) Rd.s hx rfl)) ?_
       refine J 3 ?_
       refine .eu .auto rfl (by first | exact fun _ h=>h | exact aq.kept .auto)
      ·intro h79
       refine J 13 ?_
       refine .eu .auto rfl (by first | exact fun _ h=>h | exact aq.kept .auto)
      refine J 2 ?_
      refine .eu .auto rfl (by first | exact fun _ h=>h | exact aq.kept .auto)
     ·intro h71
      refine J 22 ?_
      refine .eu .auto rfl (by first | exact fun _ h=>h | exact aq.kept .auto)
     refine JD 2 (fun h92=>?_) fun h92=>?_
     ·simp only[Bool.and_eq_true,Bool.or_eq_true,decide_eq_true_eq] at h92
      obtain⟨hg,hcc⟩:=h92
      have hs:=IH hI.k hk1 (show s.log.length<(s.do x).2.log.length by omega)
      rw[← hyd] at hs
      rcases hcc with h | h
      ·exact absurd (by rw[hs]) h
      ·exact absurd (by rw[hs]) h
     ·refine J 8 ?_
      refine .aw (i+1,(s.do x).2) .auto rfl ?_ ?_ ?_ ?_
      ·show(xs.take 250).length-(i+1)<(xs.take 250).length-i;omega
      ·exact⟨by show i+1≤_;omega,hI.do (by omega) x⟩
      ·exact⟨rfl,trivial⟩
      ·exact fun w s=>aq.kept .auto w s
  ·refine J 7 ?_
   refine .c call15 rfl fS fun _ _=>?_
   exact JR 4 ()
end Go.SLYthlllpngkljgfaaGreat
namespace Go.SLYthlllpngkljgfaaGreat
open Go Go.RowKit Go.Proofs Go.Proofs.Tryz
attribute [local irreducible] ar aM bm bA bE Y
theorem AV{W:World}{A:aa}{v:Value}{ps:List aS}(hr:Rd W [A] ez 8 v ps)(hp:∀ p∈ps,eE W [A] p)(hb:ps.length≤1000000000∧ ∀ p∈ps,p.fs.length≤1000000000∧p.bF.length≤1000000000∧p.bb.length≤1000000000)(hw:∀ p∈ps.map aS.p, ∀ f∈p.funcs, ∀ i∈f,fj i.n){np:Int}{u:Value}{xs:List qC}(hst:Rd W [A] ga 3 u xs)(hsl:xs.length≤1000000000)(hnp:0≤np∧np≤255):Fn Tryz.prog W 5 [.int .u8 np,v,u] [A] Unit (fun _=>.bool true) (fun _=>True) (fun _=>[A]):=by
 refine Fn.intro (N:=105) func5 rfl ntmps5 rfl fun F=>?_
 haveI hRI:∀ (H:List aa) [bj H A],ax W H v ez 8 ps:=fun H h=>⟨hr.at h.has⟩
 haveI hRJ:∀ (H:List aa) [bj H A],ax W H u ga 3 xs:=fun H h=>⟨hst.at h.has⟩
 show ar _ _ _ _ _ _ [A,F]
 obtain⟨mk,mkd⟩:∃ mk,mk=np.toNat % (9):=⟨_,rfl⟩
 have mkl:mk<9:=by rw[mkd];exact Nat.mod_lt _ (by decide)
 have mkt:np.tmod (9)=(mk:Int):=by
  obtain⟨m,rfl⟩:∃ m:Nat,np=(m:Int):=⟨np.toNat,by omega⟩
  rw[mkd,Int.toNat_natCast];exact(Int.ofNat_tmod m (9)).symm
 refine J 8 ?_
 refine .p (.fm (Y.rem rfl rfl (by omega)) mkt) ?_
 refine .p (.iD underlying5 underlying3 rfl (by omega)) ?_
 refine .p (.add rfl rfl (by omega)) ?_
 refine J 7 ?_
 refine .c call14 rfl (iO (procs:=(mk:Int)+1) hr hp hb) fun o ho=>?_
 refine J 11 ?_
 refine .c call14 rfl (iO (procs:=(mk:Int)+1) hr hp hb) fun o2 ho2=>?_
 refine J 14 ?_
 apply aM.eO 3 36 33 [33,34,35,36] rfl
 ·intro h33
  exact JS 4
 ·intro h33
  exact JS 4
 refine JD 2 (fun h36=>?_) fun h36=>?_
 ·simp only[Bool.or_eq_true,decide_eq_true_eq] at h36
  refine J 2 ?_
  refine .c call15 rfl fS fun _ _=>?_
  refine J 10 ?_
  refine .aJ rfl rfl fun w s=>⟨(),?_,trivial,aj .auto s⟩
  exact congrArg (fun b=>Ending.returned (.bool b)) (decide_eq_true rfl)
 ·simp only[Bool.or_eq_false_iff,decide_eq_false_iff_not] at h36
  have hc:(ee ((mk:Int)+1) (ps.map aS.p))=0:=by omega
  obtain⟨sb,rfl⟩:=Option.isSome_iff_exists.1 (ho.trans (decide_eq_true hc))
  refine .fr (A:=optH (fun b=>sr b (Sy.new ((mk:Int)+1) (ps.map aS.p))) (some sb)) (Bs:=[sr sb (Sy.new ((mk:Int)+1) (ps.map aS.p))]) .auto fc ?_
  refine .o2 (C:=sr sb (Sy.new ((mk:Int)+1) (ps.map aS.p))) .auto rfl ?_
  rintro kb bl -
  obtain⟨sb2,rfl⟩:=Option.isSome_iff_exists.1 (ho2.trans (decide_eq_true hc))
  refine .fr (A:=optH (fun b=>sr b (Sy.new ((mk:Int)+1) (ps.map aS.p))) (some sb2)) (Bs:=[sr sb2 (Sy.new ((mk:Int)+1) (ps.map aS.p))]) .auto fc ?_
  refine .o2 (C:=sr sb2 (Sy.new ((mk:Int)+1) (ps.map aS.p))) .auto rfl ?_
  rintro kb2 bl2 -
  have hI0:=wV.new hc hw
  have h250:=yQ xs
  have hni:=iw hc
  have hkl0:(Sy.new ((mk:Int)+1) (ps.map aS.p)).k.libs.length=ps.length:=((im (iw hc).1 _ _).2.ll.trans hni.2.1).trans (List.length_map ..)
  refine J 5 ?_
  refine .c call16 rfl (nk hst hsl) fun u44 hsm=>?_
  haveI hRK:∀ (H:List aa) [bj H A],ax W H u44 ga 3 (xs.take 250):=fun H h=>⟨hsm.at h.has⟩
  refine J 10 ?_
  refine .aX (X:=Nat×Sy) [12,45,46,47,48,49,50,51,52,53,54,55,56,57,58,59,60,61,62,63] (fun z=>(xs.take 250).length-z.1) (fun z=>z.1≤(xs.take 250).length∧wV z.1 z.2∧z.2.k.libs.length=ps.length) (fun z=>[(12,some (.int .i64 (z.1:Int)))]) (fun z=>[fD sb kb bl z.2,fD sb2 kb2 bl2 z.2,A,F]) (0,(Sy.new ((mk:Int)+1) (ps.map aS.p))) ?_ ?_ ?_ ?_
  ·exact⟨Nat.zero_le _,hI0,hkl0⟩
  ·exact⟨rfl,trivial⟩
  ·exact fun w s=>aq.kept .auto w s
  rintro⟨i,s⟩ ⟨hi,hI,hkl⟩
  simp only at hi hI hkl
  refine JD 9 (fun h48=>?_) fun h48=>?_
  ·refine J 9 ?_
   obtain⟨x,hx⟩:=ak (show i<(xs.take 250).length by omega)
   refine .p (.ix i rfl rfl rfl (by omega)) ?_
   refine .p (.la rfl (Cells.rd Rd.s hx)) ?_
   refine .c call18 rfl (l7 (b:=sb) (kb:=kb) (bl:=bl) (s:=s) (x:=x) (hI.rn (by omega)) hI.k.inv (by omega) (by have:=hI.log;omega) (Nat.le_trans hI.prio (by decide))) fun _ _=>?_
   refine JD 3 (fun h57=>?_) fun h57=>?_
   ·refine J 4 ?_
    refine .p (.ix i rfl rfl rfl (by omega)) ?_
    refine .p (.la rfl (Cells.rd Rd.s hx)) ?_
    refine .c call18 rfl (l7 (b:=sb2) (kb:=kb2) (bl:=bl2) (s:=s) (x:=x) (hI.rn (by omega)) hI.k.inv (by omega) (by have:=hI.log;omega) (Nat.le_trans hI.prio (by decide))) fun _ _=>?_
    refine J 8 ?_
    refine .aw (i+1,(s.do x).2) .auto rfl ?_ ?_ ?_ ?_
    ·show(xs.take 250).length-(i+1)<(xs.take 250).length-i;omega
    ·exact⟨by show i+1≤_;omega,hI.do (by omega) x,(sN hI.k.inv x).trans hkl⟩
    ·exact⟨rfl,trivial⟩
    ·exact fun w s=>aq.kept .auto w s
   ·refine J 8 ?_
    rw[Mg hI.k.ok h57]
    refine .aw (i+1,s) .auto rfl ?_ ?_ ?_ ?_
    ·show(xs.take 250).length-(i+1)<(xs.take 250).length-i;omega
    ·exact⟨by show i+1≤_;omega,hI.more,hkl⟩
    ·exact⟨rfl,trivial⟩
    ·exact fun w s=>aq.kept .auto w s
  ·refine J 12 ?_
   refine .aX (X:=Nat) [6,13,64,65,66,67,68,69,70,71,72,73,74,75,76,77,78,79,80,81,82,83,84,85,86,87] (fun n=>ps.length-n) (fun n=>n≤ps.length) (fun n=>[(13,some (.int .i64 (n:Int)))]) (fun n=>[fD sb kb bl s,fD sb2 kb2 bl2 s,A,F]) 0 ?_ ?_ ?_ ?_
   ·exact Nat.zero_le _
   ·exact⟨rfl,trivial⟩
   ·exact fun w s=>aq.kept .auto w s
   rintro n hn
   refine JD 9 (fun h67=>?_) fun h67=>?_
   ·have hrl:=Kj (hI.rn (by omega)) (n:Int)
    refine J 8 ?_
    refine .c call23 rfl (nj (b:=sb) (kb:=kb) (bl:=bl) (s:=s) (n:=(n:Int)) (hI.rn (by omega))) fun u72 _=>?_
    refine J 2 ?_
    refine .c call23 rfl (nj (b:=sb2) (kb:=kb2) (bl:=bl2) (s:=s) (n:=(n:Int)) (hI.rn (by omega))) fun u75 _=>?_
    refine .c call22 rfl (Iy (A:=seps [sl dT 6 u72 (s.aC (n:Int)),sl dT 6 u75 (s.aC (n:Int))]) (Rd.eU (Rd.sl .here)) (Rd.eU (Rd.sl (.there .here))) hrl.1) fun _ _=>?_
    rw[decide_eq_true (rfl:s.aC (n:Int)=s.aC (n:Int))]
    refine J 4 ?_
    refine .cg call25 rfl (vf (b:=sb) (kb:=kb) (bl:=bl) (s:=s) (n:=(n:Int)) (hI.rn (by omega))) fun u81 _=>?_
    refine J 2 ?_
    refine .cg call25 rfl (vf (b:=sb2) (kb:=kb2) (bl:=bl2) (s:=s) (n:=(n:Int)) (hI.rn (by omega))) fun u84 _=>?_
    refine .cg call24 rfl (Fj (A:=seps [sl dh 1 u81 (s.mem (n:Int)),sl dh 1 u84 (s.mem (n:Int))]) (Rd.eU (Rd.sl .here)) (Rd.eU (Rd.sl (.there .here))) hrl.2) fun _ _=>?_
    rw[decide_eq_true (rfl:s.mem (n:Int)=s.mem (n:Int))]
    refine JD 4 (fun h87=>?_) fun h87=>?_
    ·cases h87
    ·refine J 8 ?_
     refine .aw (n+1) .auto rfl ?_ ?_ ?_ ?_
     ·omega
     ·show n+1≤_;omega
     ·exact⟨rfl,trivial⟩
     ·exact fun w s=>aq.kept .auto w s
   ·have hlog:=hI.log
    have hol:=hI.k.ok.ol
    refine J 7 ?_
    refine .c call15 rfl fS fun _ _=>?_
    refine J 2 ?_
    refine .cg call17 rfl (jg (b:=sb) (kb:=kb) (bl:=bl) (s:=s) (by omega)) fun u91 _=>?_
    refine J 1 ?_
    refine .cg call17 rfl (jg (b:=sb2) (kb:=kb2) (bl:=bl2) (s:=s) (by omega)) fun u93 _=>?_
    refine .cg call19 rfl (AU (A:=seps [sl fC 4 u91 s.log,sl fC 4 u93 s.log]) (Rd.eU (Rd.sl .here)) (Rd.eU (Rd.sl (.there .here))) (by omega)) fun _ _=>?_
    rw[decide_eq_true (rfl:s.log=s.log)]
    refine J 3 ?_
    refine .cg call20 rfl (cE (b:=sb) (kb:=kb) (bl:=bl) (s:=s)) fun _ _=>?_
    refine .o2 (C:=fD sb kb bl s) .auto rfl ?_
    rintro pv lv -
    refine .cg call27 rfl (rh (b:=kb) (bl:=bl) (k:=s.k) hol) fun u99 _=>?_
    refine J 1 ?_
    refine .cg call20 rfl (cE (b:=sb2) (kb:=kb2) (bl:=bl2) (s:=s)) fun _ _=>?_
    refine .o2 (C:=fD sb2 kb2 bl2 s) .auto rfl ?_
    rintro pv2 lv2 -
    refine .cg call27 rfl (rh (b:=kb2) (bl:=bl2) (k:=s.k) hol) fun u102 _=>?_
    refine .cg call26 rfl (AJ (A:=seps [sl au 1 u99 s.k.free,sl au 1 u102 s.k.free]) (Rd.eU (Rd.sl .here)) (Rd.eU (Rd.sl (.there .here))) (JG hol)) fun _ _=>?_
    rw[decide_eq_true (rfl:s.k.free=s.k.free)]
    exact JR 5 ()
end Go.SLYthlllpngkljgfaaGreat
