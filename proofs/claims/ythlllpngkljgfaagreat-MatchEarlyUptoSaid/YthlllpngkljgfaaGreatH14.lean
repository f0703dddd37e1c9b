/- Walks of functions, and what they compute. Conditions: none, this text proves no statement. -/
import Derived.Test.YthlllpngkljgfaaGreatH07
import Derived.Test.YthlllpngkljgfaaGreatProg
import Derived.Test.YthlllpngkljgfaaGreatH10
import Derived.Test.YthlllpngkljgfaaGreatH06
import Derived.KernelRfl
set_option maxRecDepth 20000
set_option maxHeartbeats 4000000
namespace Go.SLYthlllpngkljgfaaGreat
open Go Go.RowKit Go.Proofs Go.Proofs.Tryz
attribute [local irreducible] aq aS bc bx bC Y
theorem ig{W:World}{b:Nat}{v:Value}{xs:List (Nat×Spc)}{n:Int}(_hl:xs.length≤1000000000):Fn Tryz.prog W 119 [ptr b,.int .i64 n] [arr b 0 [v],sl bH 1 v xs] Unit (fun _=>dO ((aB xs n).map (·.1))) (fun _=>True) (fun _=>[arr b 0 [v],sl bH 1 v xs]):=by
 refine Fn.intro (N:=27) func119 rfl ntmps119 rfl fun F=>?_
 show aq _ _ _ _ _ _ [arr b 0 [v],sl bH 1 v xs,F]
 refine J 15 ?_
 refine .ns (t:=11) rfl (fun h11=>?_) (fun h11=>?_)
 ·refine J 10 ?_
  refine .fu rfl ?_
  refine J 7 ?_
  refine .aG rfl rfl fun w s=>⟨(),?_,trivial,ai .auto s⟩
  rw[eL (by omega)];rfl
 ·refine JD 10 (fun h19=>?_) fun h19=>?_
  ·refine J 7 ?_
   refine .aG rfl rfl fun w s=>⟨(),?_,trivial,ai .auto s⟩
   rw[eL (by omega)];rfl
  ·refine J 9 ?_
   obtain⟨x,hx,hg⟩:=cC (l:=xs) (i:=n) ⟨by omega,by omega⟩
   refine .p (.ix n.toNat rfl rfl (by omega) (by omega)) ?_
   refine .p (.lr rfl hx) ?_
   refine J 4 ?_
   refine .aG rfl rfl fun w s=>⟨(),?_,trivial,ai .auto s⟩
   rw[hg];rfl
theorem yE{W:World}{b:Nat}{l:List Spc}{n:Int}(hl:l.length≤1000000000)(hg:aB l n=none):Fn Tryz.prog W 162 [ptr b,.int .i64 n] [cH b l] Value (fun u=>u) (fun _=>True) (fun u=>[sl au 1 u (oReady l n),cH b l]):=by
 refine Fn.intro (N:=9) func162 rfl ntmps162 rfl fun F=>?_
 show aq _ _ _ _ _ _ [cH b l,F]
 refine .o2 (C:=cH b l) .auto rfl ?_
 rintro v xs hxs
 have hlx:xs.length=l.length:=by rw[← hxs,List.length_map]
 have hgx:=BS hxs hg
 refine J 9 ?_
 refine .c call119 rfl (ig (xs:=xs) (n:=n) (v:=v) (by omega)) fun _ _=>?_
 rw[hgx]
 refine .c call44 rfl Au fun _ _=>?_
 refine J 4 ?_
 rw[show oReady l n=[] from by unfold oReady;rw[hg]]
 refine .to (A:=cH b l) (Bs:=[arr b 0 [v],sl bH 1 v xs,aD (fun x:Nat×Spc=>ca x.1 x.2)  xs]) .auto (uc hxs) ?_
 refine .aG rfl rfl fun w s=>⟨(.slice none 0 0),?_,trivial,ai .auto s⟩
 rfl
theorem vu{W:World}{b:Nat}{l:List Spc}{n:Int}(hl:l.length≤1000000000){s:Spc}(hg:aB l n=some s)(hO:∀ s∈l,fj s):Fn Tryz.prog W 162 [ptr b,.int .i64 n] [cH b l] Value (fun u=>u) (fun _=>True) (fun u=>[sl au 1 u (oReady l n),cH b l]):=by
 refine Fn.intro (N:=9) func162 rfl ntmps162 rfl fun F=>?_
 show aq _ _ _ _ _ _ [cH b l,F]
 refine .o2 (C:=cH b l) .auto rfl ?_
 rintro v xs hxs
 have hlx:xs.length=l.length:=by rw[← hxs,List.length_map]
 obtain⟨q,hgx,hx⟩:=BR hxs hg
 have hos:=hO s (List.mem_of_getElem? (bF hg).2.2)
 refine J 9 ?_
 refine .c call119 rfl (ig (xs:=xs) (n:=n) (v:=v) (by omega)) fun _ _=>?_
 rw[hgx]
 refine .fr .auto (pH hx) ?_
 refine .o1 (C:=ca q s) .auto rfl ?_
 rintro ps -
 refine .c call44 rfl (lh (s:=s) hos.lt) fun u8 _=>?_
 refine J 4 ?_
 rw[show oReady l n=s.ready from by unfold oReady;rw[hg]]
 refine .to (A:=cH b l) (Bs:=[arr b 0 [v],sl bH 1 v xs,ca q s,aD (fun x:Nat×Spc=>ca x.1 x.2)  (xs.eraseIdx n.toNat)]) .auto (pI hxs hx) ?_
 exact JR 0 u8
theorem FI{W:World}{b:Nat}{l:List Spc}{n:Int}(hl:l.length≤1000000000)(hO:∀ s∈l,fj s):Fn Tryz.prog W 162 [ptr b,.int .i64 n] [cH b l] Value (fun u=>u) (fun _=>True) (fun u=>[sl au 1 u (oReady l n),cH b l]):=by
 cases hg:aB l n with
 | none=>exact yE hl hg
 | some s=>exact vu hl hg hO
theorem uP{W:World}{b:Nat}{l:List Spc}{n:Int}(hl:l.length≤1000000000)(hg:aB l n=none):Fn Tryz.prog W 59 [ptr b,.int .i64 n] [cH b l] Value (fun u=>u) (fun _=>True) (fun u=>[sl cP 6 u (eO l n),cH b l]):=by
 refine Fn.intro (N:=9) func59 rfl ntmps59 rfl fun F=>?_
 show aq _ _ _ _ _ _ [cH b l,F]
 refine .o2 (C:=cH b l) .auto rfl ?_
 rintro v xs hxs
 have hlx:xs.length=l.length:=by rw[← hxs,List.length_map]
 have hgx:=BS hxs hg
 refine J 9 ?_
 refine .c call119 rfl (ig (xs:=xs) (n:=n) (v:=v) (by omega)) fun _ _=>?_
 rw[hgx]
 refine .c call69 rfl nG fun _ _=>?_
 refine J 4 ?_
 rw[show eO l n=[] from by unfold eO;rw[hg]]
 refine .to (A:=cH b l) (Bs:=[arr b 0 [v],sl bH 1 v xs,aD (fun x:Nat×Spc=>ca x.1 x.2)  xs]) .auto (uc hxs) ?_
 refine .aG rfl rfl fun w s=>⟨(.slice none 0 0),?_,trivial,ai .auto s⟩
 rfl
theorem rK{W:World}{b:Nat}{l:List Spc}{n:Int}(hl:l.length≤1000000000){s:Spc}(hg:aB l n=some s)(hO:∀ s∈l,fj s):Fn Tryz.prog W 59 [ptr b,.int .i64 n] [cH b l] Value (fun u=>u) (fun _=>True) (fun u=>[sl cP 6 u (eO l n),cH b l]):=by
 refine Fn.intro (N:=9) func59 rfl ntmps59 rfl fun F=>?_
 show aq _ _ _ _ _ _ [cH b l,F]
 refine .o2 (C:=cH b l) .auto rfl ?_
 rintro v xs hxs
 have hlx:xs.length=l.length:=by rw[← hxs,List.length_map]
 obtain⟨q,hgx,hx⟩:=BR hxs hg
 have hos:=hO s (List.mem_of_getElem? (bF hg).2.2)
 refine J 9 ?_
 refine .c call119 rfl (ig (xs:=xs) (n:=n) (v:=v) (by omega)) fun _ _=>?_
 rw[hgx]
 refine .fr .auto (pH hx) ?_
 refine .c call69 rfl (pX (s:=s) (Nat.le_trans hos.av (by decide))) fun u8 _=>?_
 refine J 4 ?_
 rw[show eO l n=s.av from by unfold eO;rw[hg]]
 refine .to (A:=cH b l) (Bs:=[arr b 0 [v],sl bH 1 v xs,ca q s,aD (fun x:Nat×Spc=>ca x.1 x.2)  (xs.eraseIdx n.toNat)]) .auto (pI hxs hx) ?_
 exact JR 0 u8
theorem mN{W:World}{b:Nat}{l:List Spc}{n:Int}(hl:l.length≤1000000000)(hO:∀ s∈l,fj s):Fn Tryz.prog W 59 [ptr b,.int .i64 n] [cH b l] Value (fun u=>u) (fun _=>True) (fun u=>[sl cP 6 u (eO l n),cH b l]):=by
 cases hg:aB l n with
 | none=>exact uP hl hg
 | some s=>exact rK hl hg hO
theorem vx{W:World}{b:Nat}{l:List Spc}{n:Int}(hl:l.length≤1000000000)(hg:aB l n=none):Fn Tryz.prog W 160 [ptr b,.int .i64 n] [cH b l] Value (fun u=>u) (fun _=>True) (fun u=>[sl cO 1 u (yi l n),cH b l]):=by
 refine Fn.intro (N:=9) func160 rfl ntmps160 rfl fun F=>?_
 show aq _ _ _ _ _ _ [cH b l,F]
 refine .o2 (C:=cH b l) .auto rfl ?_
 rintro v xs hxs
 have hlx:xs.length=l.length:=by rw[← hxs,List.length_map]
 have hgx:=BS hxs hg
 refine J 9 ?_
 refine .c call119 rfl (ig (xs:=xs) (n:=n) (v:=v) (by omega)) fun _ _=>?_
 rw[hgx]
 refine .c call70 rfl pW fun _ _=>?_
 refine J 4 ?_
 rw[show yi l n=[] from by unfold yi;rw[hg]]
 refine .to (A:=cH b l) (Bs:=[arr b 0 [v],sl bH 1 v xs,aD (fun x:Nat×Spc=>ca x.1 x.2)  xs]) .auto (uc hxs) ?_
 refine .aG rfl rfl fun w s=>⟨(.slice none 0 0),?_,trivial,ai .auto s⟩
 rfl
theorem uQ{W:World}{b:Nat}{l:List Spc}{n:Int}(hl:l.length≤1000000000){s:Spc}(hg:aB l n=some s)(hO:∀ s∈l,fj s):Fn Tryz.prog W 160 [ptr b,.int .i64 n] [cH b l] Value (fun u=>u) (fun _=>True) (fun u=>[sl cO 1 u (yi l n),cH b l]):=by
 refine Fn.intro (N:=9) func160 rfl ntmps160 rfl fun F=>?_
 show aq _ _ _ _ _ _ [cH b l,F]
 refine .o2 (C:=cH b l) .auto rfl ?_
 rintro v xs hxs
 have hlx:xs.length=l.length:=by rw[← hxs,List.length_map]
 obtain⟨q,hgx,hx⟩:=BR hxs hg
 have hos:=hO s (List.mem_of_getElem? (bF hg).2.2)
 refine J 9 ?_
 refine .c call119 rfl (ig (xs:=xs) (n:=n) (v:=v) (by omega)) fun _ _=>?_
 rw[hgx]
 refine .fr .auto (pH hx) ?_
 refine .c call70 rfl (rC (s:=s) (Nat.le_trans hos.mem (by decide))) fun u8 _=>?_
 refine J 4 ?_
 rw[show yi l n=s.mem from by unfold yi;rw[hg]]
 refine .to (A:=cH b l) (Bs:=[arr b 0 [v],sl bH 1 v xs,ca q s,aD (fun x:Nat×Spc=>ca x.1 x.2)  (xs.eraseIdx n.toNat)]) .auto (pI hxs hx) ?_
 exact JR 0 u8
theorem Cz{W:World}{b:Nat}{l:List Spc}{n:Int}(hl:l.length≤1000000000)(hO:∀ s∈l,fj s):Fn Tryz.prog W 160 [ptr b,.int .i64 n] [cH b l] Value (fun u=>u) (fun _=>True) (fun u=>[sl cO 1 u (yi l n),cH b l]):=by
 cases hg:aB l n with
 | none=>exact vx hl hg
 | some s=>exact uQ hl hg hO
theorem Ms{W:World}{b:Nat}{l:List Spc}{a:gw}(hl:l.length≤1000000000)(hO:∀ s∈l,fj s):Fn Tryz.prog W 118 [ptr b,.agg (fG a).toArray] [cH b l] Unit (fun _=>.int .i64 (oDo l a).1) (fun _=>True) (fun _=>[cH b (oDo l a).2]):=by
 refine Fn.intro (N:=60) func118 rfl ntmps118 rfl fun F=>?_
 show aq _ _ _ _ _ _ [cH b l,F]
 refine .o2 (C:=cH b l) .auto rfl ?_
 rintro v xs hxs
 have hlx:xs.length=l.length:=by rw[← hxs,List.length_map]
 refine J 2 ?_
 refine .aj rfl (af.box rfl rfl rfl) ?_
 rintro _ _ ⟨b3,rfl,rfl⟩
 refine .mem (H':=[arr b3 0 (fG a),arr b 0 [v],sl bH 1 v xs,aD (fun x:Nat×Spc=>ca x.1 x.2)  xs,F]) (fun w s=>s) ?_
 refine J 8 ?_
 refine .c call119 rfl (ig (xs:=xs) (n:=a.space) (v:=v) (by omega)) fun _ _=>?_
 refine J 17 ?_
 refine .ew rfl ?_
 refine JD 8 (fun h19=>?_) fun h19=>?_
 ·refine J 12 ?_
  refine .bn (X:=Nat) [8,25,26,27,28,29,30,31] (fun k=>xs.length-k) (fun k=>k≤xs.length) (fun k=>[(25,some (.int .i64 (k:Int)))]) (fun k=>[arr b3 0 (fG a),arr b 0 [v],sl bH 1 v xs,aD (fun x:Nat×Spc=>ca x.1 x.2)  (Ac k xs),F]) 0 ?_ ?_ ?_ ?_
  ·exact Nat.zero_le _
  ·exact⟨rfl,trivial⟩
  ·simp only[HM];exact fun w s=>ax.kept .auto w s
  rintro k hk
  refine JD 6 (fun h26=>?_) fun h26=>?_
  ·refine J 6 ?_
   obtain⟨⟨q,s⟩,hx⟩:=ak (show k<xs.length by omega)
   have hos:=hO s (by rw[← hxs];exact List.mem_map.2 ⟨_,List.mem_of_getElem? hx,rfl⟩)
   refine J 1 ?_
   refine .p (.lr rfl hx) ?_
   refine J 5 ?_
   refine .fr .auto (JZ hx) ?_
   refine .c call39 rfl (wZ (s:=s) hos) fun u30 _=>?_
   refine J 7 ?_
   refine .to (A:=aD (fun x:Nat×Spc=>ca x.1 x.2)  (Ac (k+1) xs)) (Bs:=[ca q s.tick.2,aD (fun x:Nat×Spc=>ca x.1 x.2)  ((Ac k xs).eraseIdx k)]) .auto (LX hx) ?_
   refine .aL (k+1) .auto rfl ?_ ?_ ?_ ?_
   ·omega
   ·show k+1≤_;omega
   ·exact⟨rfl,trivial⟩
   ·exact fun w s=>ax.kept .auto w s
  ·refine J 13 ?_
   obtain rfl:k=xs.length:=by omega
   refine .to (A:=cH b (oDo l a).2) (Bs:=[arr b 0 [v],sl bH 1 v xs,aD (fun x:Nat×Spc=>ca x.1 x.2)  (Ac xs.length xs)]) .auto (HP hxs h19) ?_
   refine .aG rfl rfl fun w s=>⟨(),?_,trivial,ai .auto s⟩
   rw[HQ h19]
 ·refine JD 7 (fun h34=>?_) fun h34=>?_
  ·have hgl:aB l a.space=none:=by
    cases hh:aB xs a.space with
    | none=>rw[← hxs,mm,hh];rfl
    | some x=>rw[hh] at h34;cases h34
   refine J 8 ?_
   rw[HR h19 hgl]
   refine .to (A:=cH b l) (Bs:=[arr b 0 [v],sl bH 1 v xs,aD (fun x:Nat×Spc=>ca x.1 x.2)  xs]) .auto (uc hxs) ?_
   exact JR 0 ()
  ·obtain⟨⟨q,s⟩,hgx⟩:∃ x,aB xs a.space=some x:=by
    cases hh:aB xs a.space with
    | none=>rw[hh] at h34;cases h34
    | some x=>exact⟨x,rfl⟩
   have hx:=(bF hgx).2.2
   have hgl:aB l a.space=some s:=by rw[← hxs,mm,hgx];rfl
   rw[hgx]
   refine .fr .auto (pH hx) ?_
   have hos:=hO s (List.mem_of_getElem? (bF hgl).2.2)
   refine JD 8 (fun h38=>?_) fun h38=>?_
   ·refine J 6 ?_
    refine .c call163 rfl (Ar (s:=s) hos) fun u45 _=>?_
    refine J 14 ?_
    rw[Dv h38 hgl]
    refine .to (A:=cH b (l.set a.space.toNat (s.run a.ab a.choice).2.2)) (Bs:=[arr b 0 [v],sl bH 1 v xs,ca q (s.run a.ab a.choice).2.2,aD (fun x:Nat×Spc=>ca x.1 x.2)  (xs.eraseIdx a.space.toNat)]) .auto (Du hxs hx _) ?_
    exact JR 0 ()
   ·refine JD 8 (fun h51=>?_) fun h51=>?_
    ·refine J 4 ?_
     refine .c call36 rfl (wY (s:=s) hos) fun u56 _=>?_
     refine J 14 ?_
     rw[Ad h51 hgl]
     refine .to (A:=cH b (l.set a.space.toNat (s.done a.choice).2.2)) (Bs:=[arr b 0 [v],sl bH 1 v xs,ca q (s.done a.choice).2.2,aD (fun x:Nat×Spc=>ca x.1 x.2)  (xs.eraseIdx a.space.toNat)]) .auto (Du hxs hx _) ?_
     exact JR 0 ()
    ·refine J 12 ?_
     rw[HS h19 h38 h51 hgl]
     refine .to (A:=cH b l) (Bs:=[arr b 0 [v],sl bH 1 v xs,ca q s,aD (fun x:Nat×Spc=>ca x.1 x.2)  (xs.eraseIdx a.space.toNat)]) .auto (pI hxs hx) ?_
     exact JR 0 ()
theorem KE{W:World}{A:aa}{v:Value}{ps:List aN}(hr:Rd W [A] ed 8 v ps)(hp:∀ p∈ps,eM W [A] p)(hb:ps.length≤1000000000∧ ∀ p∈ps,p.fs.length≤1000000000∧p.bI.length≤1000000000∧p.aZ.length≤1000000000):Fn Tryz.prog W 117 [v] [A] (Option Nat) (fun o=>.tuple #[dO o,.int .i64 (dV (ps.map aN.p))]) (fun o=>o.isSome=decide (dV (ps.map aN.p)=0)) (fun o=>[optH (fun b=>cH b ((ps.map aN.p).map Spc.new)) o,A]):=by
 refine Fn.intro (N:=45) func117 rfl ntmps117 rfl fun F=>?_
 haveI hRI:∀ (H:List aa) [bf H A],aw W H v ed 8 ps:=fun H h=>⟨hr.at h.has⟩
 show aq _ _ _ _ _ _ [A,F]
 have hml:(ps.map aN.p).length=ps.length:=List.length_map ..
 refine J 13 ?_
 apply aS.gf 4 16 12 [12,13,14,15,16] rfl
 ·intro h12
  exact JS 5
 ·intro h12
  exact JS 5
 refine JD 2 (fun h16=>?_) fun h16=>?_
 ·simp only[Bool.or_eq_true,decide_eq_true_eq] at h16
  refine J 8 ?_
  refine .ey rfl rfl rfl fun w s=>⟨none,?_,by rw[rr (by rw[hml];omega)];rfl,ai .auto s⟩
  rw[rr (by rw[hml];omega)];rfl
 ·simp only[Bool.or_eq_false_iff,decide_eq_false_iff_not] at h16
  refine J 4 ?_
  refine .p (.lR ([(.slice none 0 0)]) (by kernel_rfl)) ?_
  refine .aj rfl (af.box rfl rfl rfl) ?_
  rintro _ _ ⟨b18,rfl,rfl⟩
  refine J 6 ?_
  have hke:=BQ (ps:=ps.map aN.p) (by rw[hml];omega)
  refine J 6 ?_
  refine .bn (X:=Nat×Value×List (Nat×Spc)) [2,3,6,7,8,21,22,23,24,25,26,27,28,29,30,31,32,33,34,35,36,37,38,39,40,41,42,43] (fun z=>ps.length-z.1) (fun z=>z.1≤ps.length∧z.2.2.length=z.1∧z.2.2.map (·.2)=((ps.map aN.p).take z.1).map Spc.new∧checkAll (ps.map aN.p)=checkAll ((ps.map aN.p).drop z.1)) (fun z=>[(21,some (.int .i64 (z.1:Int)))]) (fun z=>[arr b18 0 [z.2.1],sl bH 1 z.2.1 z.2.2,aD (fun x:Nat×Spc=>ca x.1 x.2)  z.2.2,A,F]) (0,.slice none 0 0,[]) ?_ ?_ ?_ ?_
  ·exact⟨Nat.zero_le _,rfl,rfl,rfl⟩
  ·exact⟨rfl,trivial⟩
  ·exact fun w s=>ax.kept .auto w s
  rintro⟨n,vl,xs⟩ ⟨hk,hxl,hxm0,hck⟩
  simp only at hk hxl hxm0 hck
  refine JD 6 (fun h22=>?_) fun h22=>?_
  ·refine J 6 ?_
   obtain⟨x,hx⟩:=ak (show n<ps.length by omega)
   have hxm:(ps.map aN.p)[n]?=some x.p:=by rw[List.getElem?_map,hx];rfl
   have hpx:=hp x (List.mem_of_getElem? hx)
   have hbx:=hb.2 x (List.mem_of_getElem? hx)
   refine .cK (fun w s=>xz hpx .auto w s) fun hone=>?_
   refine J 1 ?_
   refine .p (.la rfl (Cells.rd Rd.s hx)) ?_
   refine .aj rfl (af.alloc rfl zeroValue56 rfl) ?_
   rintro _ _ ⟨b6,rfl,rfl⟩
   refine .aj rfl (af.KI (by exact sizeOf56) rfl rfl hone rfl) ?_
   rintro _ _ ⟨rfl,rfl⟩
   refine J 5 ?_
   refine .c call29 rfl (Ai hpx hbx) fun o ho=>?_
   refine JD 14 (fun h31=>?_) fun h31=>?_
   ·refine J 14 ?_
    refine .ey rfl rfl rfl fun w s=>⟨none,?_,by rw[hke,hck,nF hxm h31];exact(decide_eq_false h31).symm,ai .auto s⟩
    rw[hke,hck,nF hxm h31];rfl
   ·have h31:=Decidable.of_not_not h31
    obtain⟨bs,rfl⟩:=Option.isSome_iff_exists.1 (ho.trans (decide_eq_true h31))
    refine .fr (A:=optH (fun b=>ca b (Spc.new x.p)) (some bs)) (Bs:=[ca bs (Spc.new x.p)]) .auto eV ?_
    refine J 9 ?_
    refine .aj rfl (af.gI 58 rfl rfl (by kernel_rfl)) ?_
    rintro _ _ ⟨b39,rfl,rfl⟩
    refine .aj rfl (af.gg (enc:=bH) (k:=1) ((bs,Spc.new x.p):Nat×Spc) rfl underlying241 underlying241 typeInfo58 rfl rfl rfl (by decide) rfl rfl rfl .auto rfl .auto (by first | omega | (dsimp only;omega)) rfl) ?_
    rintro _ _ ⟨v40,rfl,rfl⟩
    refine J 2 ?_
    refine .aj rfl (af.lY sizeOf241 rfl rfl rfl) ?_
    rintro _ _ ⟨rfl,rfl⟩
    refine J 7 ?_
    refine .aL (n+1,v40,xs++[(bs,Spc.new x.p)]) .auto rfl ?_ ?_ ?_ ?_
    ·show ps.length-(n+1)<ps.length-n;omega
    ·exact⟨by show n+1≤_;omega,by simp[hxl],by rw[aX hxm];simp[hxm0],by rw[hck,uW hxm h31]⟩
    ·exact⟨rfl,trivial⟩
    ·show ∀ w,Sat _ w _→Sat _ w (seps [_,sl bH 1 v40 (xs++[(bs,Spc.new x.p)]),aD (fun x:Nat×Spc=>ca x.1 x.2)  (xs++[(bs,Spc.new x.p)]),A,F])
     rw[j7]
     exact fun w s=>ax.kept .auto w s
  ·obtain rfl:n=ps.length:=by omega
   have hk0:dV (ps.map aN.p)=0:=by rw[hke,hck,List.drop_of_length_le (by rw[hml];omega)];rfl
   have hxx:xs.map (·.2)=((ps.map aN.p).map Spc.new):=by rw[hxm0,List.take_of_length_le (by rw[hml];omega)]
   refine J 13 ?_
   refine .to (A:=cH b18 ((ps.map aN.p).map Spc.new)) (Bs:=[arr b18 0 [vl],sl bH 1 vl xs,aD (fun x:Nat×Spc=>ca x.1 x.2)  xs]) .auto (uc hxx) ?_
   refine .ey rfl rfl rfl fun w s=>⟨some b18,?_,by rw[hk0];rfl,ai .auto s⟩
   rw[hk0];rfl
end Go.SLYthlllpngkljgfaaGreat
