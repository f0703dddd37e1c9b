/- Walks of functions, and what they compute. Conditions: none, this text proves no statement. -/
import Derived.Test.YtefdijgllbkmfaaGreatI06
import Derived.Test.YtefdijgllbkmfaaGreatProg
import Derived.Test.YtefdijgllbkmfaaGreatI12
import Derived.KernelRfl
import Derived.Test.YtefdijgllbkmfaaGreatI05
set_option maxRecDepth 20000
set_option maxHeartbeats 4000000
namespace Go.SLYtefdijgllbkmfaaGreat
open Go Go.RowKit Go.Proofs Go.Proofs.Tryz
attribute [local irreducible] ax aS bo bY bP Y
theorem qe{W:World}{b:Nat}{v:Value}{xs:List (Nat×Spc)}{n:Int}(_hl:xs.length≤1000000000):Fn Tryz.prog W 36 [ptr b,.int .i64 n] [arr b 0 [v],sl dD 1 v xs] Unit (fun _=>iw ((cH xs n).map (·.1))) (fun _=>True) (fun _=>[arr b 0 [v],sl dD 1 v xs]):=by
 refine Fn.intro (N:=27) func36 rfl ntmps36 rfl fun F=>?_
 show ax _ _ _ _ _ _ [arr b 0 [v],sl dD 1 v xs,F]
 refine J 15 ?_
 refine .lE (t:=11) rfl (fun h11=>?_) (fun h11=>?_)
 ·refine J 10 ?_
  refine .hJ rfl ?_
  refine J 7 ?_
  refine .aI rfl rfl fun w s=>⟨(),?_,trivial,aq .auto s⟩
  rw[eC (by omega)];rfl
 ·refine JD 10 (fun h19=>?_) fun h19=>?_
  ·refine J 7 ?_
   refine .aI rfl rfl fun w s=>⟨(),?_,trivial,aq .auto s⟩
   rw[eC (by omega)];rfl
  ·refine J 9 ?_
   obtain⟨x,hx,hg⟩:=ck (l:=xs) (i:=n) ⟨by omega,by omega⟩
   refine .p (.ix n.toNat rfl rfl (by omega) (by omega)) ?_
   refine .p (.lr rfl hx) ?_
   refine J 4 ?_
   refine .aI rfl rfl fun w s=>⟨(),?_,trivial,aq .auto s⟩
   rw[hg];rfl
theorem td{W:World}{b:Nat}{l:List Spc}{n:Int}(hl:l.length≤1000000000)(hg:cH l n=none):Fn Tryz.prog W 32 [ptr b,.int .i64 n] [gd b l] Value (fun u=>u) (fun _=>True) (fun u=>[sl dp 6 u (kr l n),gd b l]):=by
 refine Fn.intro (N:=9) func32 rfl ntmps32 rfl fun F=>?_
 show ax _ _ _ _ _ _ [gd b l,F]
 refine .o2 (C:=gd b l) .auto rfl ?_
 rintro v xs hxs
 have hlx:xs.length=l.length:=by rw[← hxs,List.length_map]
 have hgx:=I9 hxs hg
 refine J 9 ?_
 refine .c call36 rfl (qe (xs:=xs) (n:=n) (v:=v) (by omega)) fun _ _=>?_
 rw[hgx]
 refine .c call22 rfl tK fun _ _=>?_
 refine J 4 ?_
 rw[show kr l n=[] from by unfold kr;rw[hg]]
 refine .to (A:=gd b l) (Bs:=[arr b 0 [v],sl dD 1 v xs,bb (fun x:Nat×Spc=>dx x.1 x.2)  xs]) .auto (zC hxs) ?_
 refine .aI rfl rfl fun w s=>⟨(.slice none 0 0),?_,trivial,aq .auto s⟩
 rfl
theorem qQ{W:World}{b:Nat}{l:List Spc}{n:Int}(hl:l.length≤1000000000){s:Spc}(hg:cH l n=some s)(hO:∀ s∈l,ig s):Fn Tryz.prog W 32 [ptr b,.int .i64 n] [gd b l] Value (fun u=>u) (fun _=>True) (fun u=>[sl dp 6 u (kr l n),gd b l]):=by
 refine Fn.intro (N:=9) func32 rfl ntmps32 rfl fun F=>?_
 show ax _ _ _ _ _ _ [gd b l,F]
 refine .o2 (C:=gd b l) .auto rfl ?_
 rintro v xs hxs
 have hlx:xs.length=l.length:=by rw[← hxs,List.length_map]
 obtain⟨q,hgx,hx⟩:=I8 hxs hg
 have hos:=hO s (List.mem_of_getElem? (gG hg).2.2)
 refine J 9 ?_
 refine .c call36 rfl (qe (xs:=xs) (n:=n) (v:=v) (by omega)) fun _ _=>?_
 rw[hgx]
 refine .fr .auto (wA hx) ?_
 refine .c call22 rfl (wO (s:=s) (Nat.le_trans hos.au (by decide))) fun u8 _=>?_
 refine J 4 ?_
 rw[show kr l n=s.au from by unfold kr;rw[hg]]
 refine .to (A:=gd b l) (Bs:=[arr b 0 [v],sl dD 1 v xs,dx q s,bb (fun x:Nat×Spc=>dx x.1 x.2)  (xs.eraseIdx n.toNat)]) .auto (xW hxs hx) ?_
 exact JR 0 u8
theorem yH{W:World}{b:Nat}{l:List Spc}{n:Int}(hl:l.length≤1000000000)(hO:∀ s∈l,ig s):Fn Tryz.prog W 32 [ptr b,.int .i64 n] [gd b l] Value (fun u=>u) (fun _=>True) (fun u=>[sl dp 6 u (kr l n),gd b l]):=by
 cases hg:cH l n with
 | none=>exact td hl hg
 | some s=>exact qQ hl hg hO
theorem JL{W:World}{b:Nat}{l:List Spc}{a:iF}(hl:l.length≤1000000000)(hO:∀ s∈l,ig s):Fn Tryz.prog W 31 [ptr b,.agg (ek a).toArray] [gd b l] Unit (fun _=>.int .i64 (oDo l a).1) (fun _=>True) (fun _=>[gd b (oDo l a).2]):=by
 refine Fn.intro (N:=60) func31 rfl ntmps31 rfl fun F=>?_
 show ax _ _ _ _ _ _ [gd b l,F]
 refine .o2 (C:=gd b l) .auto rfl ?_
 rintro v xs hxs
 have hlx:xs.length=l.length:=by rw[← hxs,List.length_map]
 refine J 2 ?_
 refine .aw rfl (af.box rfl rfl rfl) ?_
 rintro _ _ ⟨b3,rfl,rfl⟩
 refine .mem (H':=[arr b3 0 (ek a),arr b 0 [v],sl dD 1 v xs,bb (fun x:Nat×Spc=>dx x.1 x.2)  xs,F]) (fun w s=>s) ?_
 refine J 8 ?_
 refine .c call36 rfl (qe (xs:=xs) (n:=a.space) (v:=v) (by omega)) fun _ _=>?_
 refine J 17 ?_
 refine .nE rfl ?_
 refine JD 8 (fun h19=>?_) fun h19=>?_
 ·refine J 12 ?_
  refine .da (X:=Nat) [8,25,26,27,28,29,30,31] (fun k=>xs.length-k) (fun k=>k≤xs.length) (fun k=>[(25,some (.int .i64 (k:Int)))]) (fun k=>[arr b3 0 (ek a),arr b 0 [v],sl dD 1 v xs,bb (fun x:Nat×Spc=>dx x.1 x.2)  (xV k xs),F]) 0 ?_ ?_ ?_ ?_
  ·exact Nat.zero_le _
  ·exact⟨rfl,trivial⟩
  ·simp only[EE];exact fun w s=>aK.kept .auto w s
  rintro k hk
  refine JD 6 (fun h26=>?_) fun h26=>?_
  ·refine J 6 ?_
   obtain⟨⟨q,s⟩,hx⟩:=aB (show k<xs.length by omega)
   have hos:=hO s (by rw[← hxs];exact List.mem_map.2 ⟨_,List.mem_of_getElem? hx,rfl⟩)
   refine J 1 ?_
   refine .p (.lr rfl hx) ?_
   refine J 5 ?_
   refine .fr .auto (GP hx) ?_
   refine .c call44 rfl (CS (s:=s) hos) fun u30 _=>?_
   refine J 7 ?_
   refine .to (A:=bb (fun x:Nat×Spc=>dx x.1 x.2)  (xV (k+1) xs)) (Bs:=[dx q s.tick.2,bb (fun x:Nat×Spc=>dx x.1 x.2)  ((xV k xs).eraseIdx k)]) .auto (Ja hx) ?_
   refine .bq (k+1) .auto rfl ?_ ?_ ?_ ?_
   ·omega
   ·show k+1≤_;omega
   ·exact⟨rfl,trivial⟩
   ·exact fun w s=>aK.kept .auto w s
  ·refine J 13 ?_
   obtain rfl:k=xs.length:=by omega
   refine .to (A:=gd b (oDo l a).2) (Bs:=[arr b 0 [v],sl dD 1 v xs,bb (fun x:Nat×Spc=>dx x.1 x.2)  (xV xs.length xs)]) .auto (EH hxs h19) ?_
   refine .aI rfl rfl fun w s=>⟨(),?_,trivial,aq .auto s⟩
   rw[xX h19]
 ·refine JD 7 (fun h34=>?_) fun h34=>?_
  ·have hgl:cH l a.space=none:=by
    cases hh:cH xs a.space with
    | none=>rw[← hxs,oS,hh];rfl
    | some x=>rw[hh] at h34;cases h34
   refine J 8 ?_
   rw[sD h19 hgl]
   refine .to (A:=gd b l) (Bs:=[arr b 0 [v],sl dD 1 v xs,bb (fun x:Nat×Spc=>dx x.1 x.2)  xs]) .auto (zC hxs) ?_
   exact JR 0 ()
  ·obtain⟨⟨q,s⟩,hgx⟩:∃ x,cH xs a.space=some x:=by
    cases hh:cH xs a.space with
    | none=>rw[hh] at h34;cases h34
    | some x=>exact⟨x,rfl⟩
   have hx:=(gG hgx).2.2
   have hgl:cH l a.space=some s:=by rw[← hxs,oS,hgx];rfl
   rw[hgx]
   refine .fr .auto (wA hx) ?_
   have hos:=hO s (List.mem_of_getElem? (gG hgl).2.2)
   refine JD 8 (fun h38=>?_) fun h38=>?_
   ·refine J 6 ?_
    refine .c call40 rfl (FG (s:=s) hos) fun u45 _=>?_
    refine J 14 ?_
    rw[q6 h38 hgl]
    refine .to (A:=gd b (l.set a.space.toNat (s.run a.cy a.choice).2.2)) (Bs:=[arr b 0 [v],sl dD 1 v xs,dx q (s.run a.cy a.choice).2.2,bb (fun x:Nat×Spc=>dx x.1 x.2)  (xs.eraseIdx a.space.toNat)]) .auto (A5 hxs hx _) ?_
    exact JR 0 ()
   ·refine JD 8 (fun h51=>?_) fun h51=>?_
    ·refine J 4 ?_
     refine .c call42 rfl (CR (s:=s) hos) fun u56 _=>?_
     refine J 14 ?_
     rw[sE h51 hgl]
     refine .to (A:=gd b (l.set a.space.toNat (s.done a.choice).2.2)) (Bs:=[arr b 0 [v],sl dD 1 v xs,dx q (s.done a.choice).2.2,bb (fun x:Nat×Spc=>dx x.1 x.2)  (xs.eraseIdx a.space.toNat)]) .auto (A5 hxs hx _) ?_
     exact JR 0 ()
    ·refine J 12 ?_
     rw[xY h19 h38 h51 hgl]
     refine .to (A:=gd b l) (Bs:=[arr b 0 [v],sl dD 1 v xs,dx q s,bb (fun x:Nat×Spc=>dx x.1 x.2)  (xs.eraseIdx a.space.toNat)]) .auto (xW hxs hx) ?_
     exact JR 0 ()
theorem HG{W:World}{A:aa}{v:Value}{ps:List bI}(hr:Rd W [A] eg 8 v ps)(hp:∀ p∈ps,eD W [A] p)(hb:ps.length≤1000000000∧ ∀ p∈ps,p.fs.length≤1000000000∧p.aT.length≤1000000000∧p.aC.length≤1000000000):Fn Tryz.prog W 29 [v] [A] (Option Nat) (fun o=>.tuple #[iw o,.int .i64 (iK (ps.map bI.p))]) (fun o=>o.isSome=decide (iK (ps.map bI.p)=0)) (fun o=>[optH (fun b=>gd b ((ps.map bI.p).map Spc.new)) o,A]):=by
 refine Fn.intro (N:=45) func29 rfl ntmps29 rfl fun F=>?_
 haveI hRI:∀ (H:List aa) [cf H A],aJ W H v eg 8 ps:=fun H h=>⟨hr.at h.has⟩
 show ax _ _ _ _ _ _ [A,F]
 have hml:(ps.map bI.p).length=ps.length:=List.length_map ..
 refine J 13 ?_
 apply aS.fu 4 16 12 [12,13,14,15,16] rfl
 ·intro h12
  exact JS 5
 ·intro h12
  exact JS 5
 refine JD 2 (fun h16=>?_) fun h16=>?_
 ·simp only[Bool.or_eq_true,decide_eq_true_eq] at h16
  refine J 8 ?_
  refine .ef rfl rfl rfl fun w s=>⟨none,?_,by rw[qC (by rw[hml];omega)];rfl,aq .auto s⟩
  rw[qC (by rw[hml];omega)];rfl
 ·simp only[Bool.or_eq_false_iff,decide_eq_false_iff_not] at h16
  refine J 4 ?_
  refine .p (.tu ([(.slice none 0 0)]) (by kernel_rfl)) ?_
  refine .aw rfl (af.box rfl rfl rfl) ?_
  rintro _ _ ⟨b18,rfl,rfl⟩
  refine J 6 ?_
  have hke:=sC (ps:=ps.map bI.p) (by rw[hml];omega)
  refine J 6 ?_
  refine .da (X:=Nat×Value×List (Nat×Spc)) [2,3,6,7,8,21,22,23,24,25,26,27,28,29,30,31,32,33,34,35,36,37,38,39,40,41,42,43] (fun z=>ps.length-z.1) (fun z=>z.1≤ps.length∧z.2.2.length=z.1∧z.2.2.map (·.2)=((ps.map bI.p).take z.1).map Spc.new∧checkAll (ps.map bI.p)=checkAll ((ps.map bI.p).drop z.1)) (fun z=>[(21,some (.int .i64 (z.1:Int)))]) (fun z=>[arr b18 0 [z.2.1],sl dD 1 z.2.1 z.2.2,bb (fun x:Nat×Spc=>dx x.1 x.2)  z.2.2,A,F]) (0,.slice none 0 0,[]) ?_ ?_ ?_ ?_
  ·exact⟨Nat.zero_le _,rfl,rfl,rfl⟩
  ·exact⟨rfl,trivial⟩
  ·exact fun w s=>aK.kept .auto w s
  rintro⟨n,vl,xs⟩ ⟨hk,hxl,hxm0,hck⟩
  simp only at hk hxl hxm0 hck
  refine JD 6 (fun h22=>?_) fun h22=>?_
  ·refine J 6 ?_
   obtain⟨x,hx⟩:=aB (show n<ps.length by omega)
   have hxm:(ps.map bI.p)[n]?=some x.p:=by rw[List.getElem?_map,hx];rfl
   have hpx:=hp x (List.mem_of_getElem? hx)
   have hbx:=hb.2 x (List.mem_of_getElem? hx)
   refine .fo (fun w s=>F9 hpx .auto w s) fun hone=>?_
   refine J 1 ?_
   refine .p (.la rfl (Cells.rd Rd.s hx)) ?_
   refine .aw rfl (af.alloc rfl zeroValue25 rfl) ?_
   rintro _ _ ⟨b6,rfl,rfl⟩
   refine .aw rfl (af.JT (by exact sizeOf25) rfl rfl hone rfl) ?_
   rintro _ _ ⟨rfl,rfl⟩
   refine J 5 ?_
   refine .c call9 rfl (Fo hpx hbx) fun o ho=>?_
   refine JD 14 (fun h31=>?_) fun h31=>?_
   ·refine J 14 ?_
    refine .ef rfl rfl rfl fun w s=>⟨none,?_,by rw[hke,hck,mT hxm h31];exact(decide_eq_false h31).symm,aq .auto s⟩
    rw[hke,hck,mT hxm h31];rfl
   ·have h31:=Decidable.of_not_not h31
    obtain⟨bs,rfl⟩:=Option.isSome_iff_exists.1 (ho.trans (decide_eq_true h31))
    refine .fr (A:=optH (fun b=>dx b (Spc.new x.p)) (some bs)) (Bs:=[dx bs (Spc.new x.p)]) .auto xo ?_
    refine J 9 ?_
    refine .aw rfl (af.gN 27 rfl rfl (by kernel_rfl)) ?_
    rintro _ _ ⟨b39,rfl,rfl⟩
    refine .aw rfl (af.fb (enc:=dD) (k:=1) ((bs,Spc.new x.p):Nat×Spc) rfl underlying153 underlying153 typeInfo27 rfl rfl rfl (by decide) rfl rfl rfl .auto rfl .auto (by first | omega | (dsimp only;omega)) rfl) ?_
    rintro _ _ ⟨v40,rfl,rfl⟩
    refine J 2 ?_
    refine .aw rfl (af.pn sizeOf153 rfl rfl rfl) ?_
    rintro _ _ ⟨rfl,rfl⟩
    refine J 7 ?_
    refine .bq (n+1,v40,xs++[(bs,Spc.new x.p)]) .auto rfl ?_ ?_ ?_ ?_
    ·show ps.length-(n+1)<ps.length-n;omega
    ·exact⟨by show n+1≤_;omega,by simp[hxl],by rw[cx hxm];simp[hxm0],by rw[hck,tC hxm h31]⟩
    ·exact⟨rfl,trivial⟩
    ·show ∀ w,Sat _ w _→Sat _ w (seps [_,sl dD 1 v40 (xs++[(bs,Spc.new x.p)]),bb (fun x:Nat×Spc=>dx x.1 x.2)  (xs++[(bs,Spc.new x.p)]),A,F])
     rw[jX]
     exact fun w s=>aK.kept .auto w s
  ·obtain rfl:n=ps.length:=by omega
   have hk0:iK (ps.map bI.p)=0:=by rw[hke,hck,List.drop_of_length_le (by rw[hml];omega)];rfl
   have hxx:xs.map (·.2)=((ps.map bI.p).map Spc.new):=by rw[hxm0,List.take_of_length_le (by rw[hml];omega)]
   refine J 13 ?_
   refine .to (A:=gd b18 ((ps.map bI.p).map Spc.new)) (Bs:=[arr b18 0 [vl],sl dD 1 vl xs,bb (fun x:Nat×Spc=>dx x.1 x.2)  xs]) .auto (zC hxx) ?_
   refine .ef rfl rfl rfl fun w s=>⟨some b18,?_,by rw[hk0];rfl,aq .auto s⟩
   rw[hk0];rfl
end Go.SLYtefdijgllbkmfaaGreat
namespace Go.SLYtefdijgllbkmfaaGreat
open Go Go.RowKit
/-! rows of pointers -/
section
variable{α:Type}{f:Nat×α→aa}{b:Nat}{v:Value}{xs:List (Nat×α)}{l:List α}
def yI(f:Nat×α→aa)(b:Nat)(l:List α):aa:=rG (fun _ (xs:List (Nat×α))=>xs.map (·.2)=l) fun v xs=>[arr b 0 [v],sl dD 1 v xs,bb f xs]
theorem LF(h:xs.map (·.2)=l):∀ g,seps [arr b 0 [v],sl dD 1 v xs,bb f xs] g→yI f b l g:=fun _ a=>⟨v,xs,h,a⟩
theorem Ib(h:xs.map (·.2)=l){i q:Nat}{s0:α}(hx:xs[i]?=some (q,s0))(s:α):∀ g,seps [arr b 0 [v],sl dD 1 v xs,f (q,s),bb f (xs.eraseIdx i)] g→yI f b (l.set i s) g:=fun g a=>by
 have hi:=(List.getElem?_eq_some_iff.1 hx).1
 refine⟨v,xs.set i (q,s),by show(xs.set i (q,s)).map (·.2)=_;rw[List.map_set,h],?_⟩
 simp only[seps,aO] at a ⊢
 refine aR (fun _ b=>b) (aR (q5 ?_) (fun g b=>?_)) g a
 ·rw[List.map_set]
  have:(xs.map (·.1))[i]?=some q:=by rw[List.getElem?_map,hx];rfl
  exact(eH this).symm
 ·rw[iV _ _ hi];exact b
theorem JM(h:xs.map (·.2)=l){i q:Nat}{s:α}(hx:xs[i]?=some (q,s)):∀ g,seps [arr b 0 [v],sl dD 1 v xs,f (q,s),bb f (xs.eraseIdx i)] g→yI f b l g:=fun g a=>by
 have:=Ib h hx s g a
 have e:l[i]?=some s:=by rw[← h,List.getElem?_map,hx];rfl
 rwa [eH e] at this
def tq(t:α→α)(k:Nat)(xs:List (Nat×α)):List (Nat×α):=(xs.take k).map (fun x=>(x.1,t x.2))++xs.drop k
variable{t:α→α}
theorem FJ:tq t 0 xs=xs:=by unfold tq;simp
theorem FK{k:Nat}{x:Nat×α}(h:xs[k]?=some x):(tq t k xs)[k]?=some x∧(tq t k xs).set k (x.1,t x.2)=tq t (k+1) xs:=by
 have hk:=(List.getElem?_eq_some_iff.1 h).1
 have hl:((xs.take k).map (fun x:Nat×α=>(x.1,t x.2))).length=k:=by rw[List.length_map,List.length_take];omega
 unfold tq
 rw[drop_cons h]
 refine⟨?_,?_⟩
 ·rw[List.getElem?_append_right (by omega),hl,Nat.sub_self];rfl
 ·rw[List.set_append_right _ _ (by omega),hl,Nat.sub_self,cx h,List.map_append,List.append_assoc];rfl
theorem HH:tq t xs.length xs=xs.map (fun x=>(x.1,t x.2)):=by unfold tq;simp
theorem HI{k:Nat}{x:Nat×α}(hx:xs[k]?=some x):∀ g,bb f (tq t k xs) g→seps [f x,bb f ((tq t k xs).eraseIdx k)] g:=lT (FK hx).1
theorem JN{k:Nat}{x:Nat×α}(hx:xs[k]?=some x):∀ g,seps [f (x.1,t x.2),bb f ((tq t k xs).eraseIdx k)] g→bb f (tq t (k+1) xs) g:=by
 obtain⟨h1,h2⟩:=FK (t:=t) hx
 rw[← h2]
 exact A4 (List.getElem?_eq_some_iff.1 h1).1 (x.1,t x.2)
theorem HJ(h:xs.map (·.2)=l):∀ g,seps [arr b 0 [v],sl dD 1 v xs,bb f (tq t xs.length xs)] g→yI f b (l.map t) g:=fun g a=>by
 rw[HH] at a
 refine⟨v,xs.map (fun x=>(x.1,t x.2)),by subst h;rw[List.map_map,List.map_map];rfl,?_⟩
 simp only[seps,aO] at a ⊢
 exact aR (fun _ b=>b) (aR (q5 (by rw[List.map_map];rfl)) (fun _ b=>b)) g a
end
/-! the reference's model -/
def gj(x:Nat×RV×RSp):aa:=cp x.1 x.2.1 x.2.2
def lq(b:Nat)(q:List (RV×RSp)):aa:=yI gj b q
def Ad(y:RV×RSp):RV×RSp:=(y.1,y.2.tick.2)
theorem FL{xs:List (Nat×RV×RSp)}{i p:Nat}{v:RV}{r:RSp}(hx:xs[i]?=some (p,v,r)):∀ g,bb gj xs g→seps [cp p v r,bb gj (xs.eraseIdx i)] g:=lT (f:=gj) hx
theorem HK{xs:List (Nat×RV×RSp)}{i p:Nat}{v:RV}{r:RSp}(hx:xs[i]?=some (p,v,r)):∀ g,bb gj (tq Ad i xs) g→seps [cp p v r,bb gj ((tq Ad i xs).eraseIdx i)] g:=HI (f:=gj) hx
theorem JO{xs:List (Nat×RV×RSp)}{i p:Nat}{v:RV}{r:RSp}(hx:xs[i]?=some (p,v,r)):∀ g,seps [cp p v r.tick.2,bb gj ((tq Ad i xs).eraseIdx i)] g→bb gj (tq Ad (i+1) xs) g:=JN (f:=gj) (t:=Ad) hx
theorem FM{b:Nat}{u:Value}{xs:List (Nat×RV×RSp)}{q:List (RV×RSp)}(h:xs.map (·.2)=q){i p:Nat}{v:RV}{r:RSp}(hx:xs[i]?=some (p,v,r))(r2:RSp):∀ g,seps [arr b 0 [u],sl dD 1 u xs,cp p v r2,bb gj (xs.eraseIdx i)] g→lq b (q.set i (v,r2)) g:=Ib (f:=gj) h hx (v,r2)
theorem wQ{b:Nat}{u:Value}{xs:List (Nat×RV×RSp)}{q:List (RV×RSp)}(h:xs.map (·.2)=q){i p:Nat}{v:RV}{r:RSp}(hx:xs[i]?=some (p,v,r)):∀ g,seps [arr b 0 [u],sl dD 1 u xs,cp p v r,bb gj (xs.eraseIdx i)] g→lq b q g:=JM (f:=gj) h hx
theorem Ic{b:Nat}{u:Value}{xs:List (Nat×RV×RSp)}{q:List (RV×RSp)}(h:xs.map (·.2)=q):∀ g,seps [arr b 0 [u],sl dD 1 u xs,bb gj xs] g→lq b q g:=LF h
theorem FN{b:Nat}{u:Value}{xs:List (Nat×RV×RSp)}{q:List (RV×RSp)}(h:xs.map (·.2)=q):∀ g,seps [arr b 0 [u],sl dD 1 u xs,bb gj (tq Ad xs.length xs)] g→lq b (q.map Ad) g:=HJ (f:=gj) h
structure qf(l:List Spc)(q:List (RV×RSp)):Prop where
 n:q.length=l.length
 s:∀ (i:Nat) (s:Spc) (x:RV×RSp),l[i]?=some s→q[i]?=some x→fk x.1.p.p s x.2
theorem qf.back{l:List Spc}{q:List (RV×RSp)}(h:qf l q){i:Nat}{x:RV×RSp}(hx:q[i]?=some x):∃ s,l[i]?=some s∧fk x.1.p.p s x.2:=by
 have hi:=(List.getElem?_eq_some_iff.1 hx).1
 obtain⟨s,hs⟩:=aB (show i<l.length by rw[← h.n];exact hi)
 exact⟨s,hs,h.s i s _ hs hx⟩
theorem qf.put{l:List Spc}{q:List (RV×RSp)}(h:qf l q){i:Nat}{v:RV}{r0:RSp}(hq:q[i]?=some (v,r0)){s:Spc}{r:RSp}(hs:fk v.p.p s r):qf (l.set i s) (q.set i (v,r)):=by
 have hi:=(List.getElem?_eq_some_iff.1 hq).1
 have hl:=h.n
 refine⟨by rw[List.length_set,List.length_set];exact h.n,fun j t x e1 e2=>?_⟩
 by_cases e:i=j
 ·subst e
  rw[List.getElem?_set_self (by omega)] at e1
  rw[List.getElem?_set_self hi] at e2
  cases e1;cases e2;exact hs
 ·rw[List.getElem?_set_ne e] at e1 e2
  exact h.s j t x e1 e2
theorem qf.tick{l:List Spc}{q:List (RV×RSp)}(h:qf l q){k:Nat}(hO:gJ k l):qf (l.map fun s=>s.tick.2) (q.map Ad):=by
 refine⟨by rw[List.length_map,List.length_map];exact h.n,fun j t x e1 e2=>?_⟩
 rw[List.getElem?_map] at e1 e2
 cases h1:l[j]? with
 | none=>rw[h1] at e1;cases e1
 | some s =>
  cases h2:q[j]? with
  | none=>rw[h2] at e2;cases e2
  | some y =>
   rw[h1] at e1;rw[h2] at e2
   cases e1;cases e2
   exact((h.s j s y h1 h2).tick (hO s (List.mem_of_getElem? h1)).1).2
theorem HL{l:List Spc}{a:iF}(h3:¬a.kind=3)(h:(a.space<0∨(l.length:Int)≤a.space)∨(¬a.kind=1∧¬a.kind=2)):oDo l a=(1,l):=by
 rcases h with h | h
 ·exact sD h3 (eC (by omega))
 ·cases hg:cH l a.space with
  | none=>exact sD h3 hg
  | some s=>exact xY h3 h.1 h.2 hg
theorem qL{q:List (RV×RSp)}{i:Nat}{v:RV}{r0 r:RSp}(hq:q[i]?=some (v,r0)):(q.set i (v,r)).map (·.1)=q.map (·.1):=by
 rw[List.map_set]
 exact eH (by rw[List.getElem?_map,hq];rfl)
theorem HM{q:List (RV×RSp)}:(q.map Ad).map (·.1)=q.map (·.1):=by rw[List.map_map];rfl
theorem HN{q q':List (RV×RSp)}(h:q'.map (·.1)=q.map (·.1)){P:RV→Prop}(hp:∀ x∈q,P x.1):∀ x∈q',P x.1:=fun x hx=>by
 have:x.1∈q.map (·.1):=by rw[← h];exact List.mem_map_of_mem hx
 obtain⟨y,hy,e⟩:=List.mem_map.1 this
 rw[← e];exact hp y hy
structure JP(ps:List bI)(q:List (RV×RSp)):Prop where
 p:q.map (·.1.p)=ps
 r:q.map (·.2)=(ps.map bI.p).map RSp.new
theorem JP.L2{ps:List bI}{q:List (RV×RSp)}(h:JP ps q)(hc:∀ p∈ps.map bI.p,cK p=0)(hw:∀ p∈ps.map bI.p, ∀ f∈p.funcs, ∀ i∈f,ff i.n):qf ((ps.map bI.p).map Spc.new) q:=by
 have hl:q.length=ps.length:=by rw[← h.p,List.length_map]
 refine⟨by rw[List.length_map,List.length_map];exact hl,fun i s x e1 e2=>?_⟩
 have hp:ps[i]?=some x.1.p:=by rw[← h.p,List.getElem?_map,e2];rfl
 have hr:((ps.map bI.p).map RSp.new)[i]?=some x.2:=by rw[← h.r,List.getElem?_map,e2];rfl
 rw[List.getElem?_map,List.getElem?_map,hp] at e1 hr
 cases e1
 have hr:RSp.new x.1.p.p=x.2:=Option.some.inj hr
 have hm:x.1.p.p∈ps.map bI.p:=List.mem_map_of_mem (List.mem_of_getElem? hp)
 rw[← hr]
 exact fk.new ⟨hc _ hm,hw _ hm⟩
theorem FO{ps:List bI}{n:Nat}{x:bI}{xs:List (Nat×RV×RSp)}(h1:xs.map (·.2.1.p)=ps.take n)(h2:xs.map (·.2.2)=((ps.take n).map bI.p).map RSp.new)(hx:ps[n]?=some x)(b:Nat)(u:Value) :
  (xs++[(b,(⟨x,u⟩:RV),RSp.new x.p)]).map (·.2.1.p)=ps.take (n+1)∧(xs++[(b,(⟨x,u⟩:RV),RSp.new x.p)]).map (·.2.2)=((ps.take (n+1)).map bI.p).map RSp.new:=by
 rw[cx hx,List.map_append,List.map_append,h1,h2,List.map_append,List.map_append]
 exact⟨rfl,rfl⟩
theorem CW{acts:List iF}{k i:Nat}{x:iF}{l:List Spc}{p:eB}(hx:acts[k]?=some x)(hle:l=ku [Spc.new p] (dX (acts.take k) (i:Int)))(h:x.kind=3∨x.space=(i:Int)) :
  (oDo l {x with space:=0 }).2=ku [Spc.new p] (dX (acts.take (k+1)) (i:Int)):=by
 rw[ji hx]
 have key:∀ a:iF,ku [Spc.new p] (dX (acts.take k) (i:Int)++[a])=(oDo l a).2:=fun a=>by
  rw[hle];unfold ku;rw[List.foldl_append];rfl
 by_cases h3:x.kind=3
 ·rw[uk h3,key]
  unfold oDo;rw[if_pos h3,if_pos rfl]
 ·have hs:x.space=(i:Int):=by
   rcases h with h | h
   ·exact absurd h h3
   ·exact h
  rw[xZ h3 hs,key]
theorem CX{acts:List iF}{k i:Nat}{x:iF}{l:List Spc}{p:eB}(hx:acts[k]?=some x)(hle:l=ku [Spc.new p] (dX (acts.take k) (i:Int)))(h:¬x.kind=3∧¬x.space=(i:Int)) :
  l=ku [Spc.new p] (dX (acts.take (k+1)) (i:Int)):=by
 rw[ji hx,ya h.1 h.2,List.append_nil];exact hle
end Go.SLYtefdijgllbkmfaaGreat
namespace Go.SLYtefdijgllbkmfaaGreat
open Go Go.RowKit Go.Proofs Go.Proofs.Tryz
attribute [local irreducible] ax aS bo bY bP Y
set_option maxHeartbeats 1000000 in
theorem JQ{W:World}{A:aa}{b k:Nat}{l:List Spc}{q:List (RV×RSp)}{a:iF}(hS:qf l q)(hO:gJ k l)(hk:k≤1990)(hll:l.length≤8)(hp:∀ x∈q,eD W [A] x.1.p):Fn Tryz.prog W 28 [ptr b,.agg (ek a).toArray] [lq b q,A] (List (RV×RSp)) (fun _=>.int .i64 (oDo l a).1) (fun q'=>qf (oDo l a).2 q'∧q'.map (·.1)=q.map (·.1)) (fun q'=>[lq b q',A]):=by
 refine Fn.intro (N:=100) func28 rfl ntmps28 rfl fun F=>?_
 show ax _ _ _ _ _ _ [lq b q,A,F]
 refine .o2 (C:=lq b q) .auto rfl ?_
 rintro u xs hxs
 have hlx:xs.length=q.length:=by rw[← hxs,List.length_map]
 have hql:=hS.n
 refine J 2 ?_
 refine .aw rfl (af.box rfl rfl rfl) ?_
 rintro _ _ ⟨b3,rfl,rfl⟩
 refine .mem (H':=[arr b3 0 (ek a),arr b 0 [u],sl dD 1 u xs,bb gj  xs,A,F]) (fun w s=>s) ?_
 refine JD 11 (fun h9=>?_) fun h9=>?_
 ·refine J 7 ?_
  refine .da (X:=Nat) [5,10,11,12,13,14,15,16,17,18,19,20,21,22,23,24,25,26] (fun k=>xs.length-k) (fun k=>k≤xs.length) (fun k=>[(5,some (.int .i64 (k:Int)))]) (fun k=>[arr b3 0 (ek a),arr b 0 [u],sl dD 1 u xs,bb gj  (tq Ad k xs),A,F]) 0 ?_ ?_ ?_ ?_
  ·exact Nat.zero_le _
  ·exact⟨rfl,trivial⟩
  ·simp only[FJ];exact fun w s=>aK.kept .auto w s
  rintro k2 hk2
  refine JD 12 (fun h16=>?_) fun h16=>?_
  ·refine J 10 ?_
   obtain⟨⟨p,v,r⟩,hx⟩:=aB (show k2<xs.length by omega)
   obtain⟨s,hsl,hSr⟩:=hS.back (i:=k2) (x:=(v,r)) (by rw[← hxs,List.getElem?_map,hx];rfl)
   have hOs:=hO s (List.mem_of_getElem? hsl)
   refine .p (.ix k2 rfl rfl rfl (by omega)) ?_
   refine .p (.lr rfl hx) ?_
   refine .fr .auto (HK hx) ?_
   refine .c call45 rfl (E2 (s:=r) hSr.T hSr.LB (by rw[hSr.rc];exact hOs.rec hk) (hSr.LC hOs.1)) fun u26 _=>?_
   refine J 8 ?_
   refine .to (A:=bb gj  (tq Ad (k2+1) xs)) (Bs:=[cp p v r.tick.2,bb gj  ((tq Ad k2 xs).eraseIdx k2)]) .auto (JO hx) ?_
   refine .bq (k2+1) .auto rfl ?_ ?_ ?_ ?_
   ·omega
   ·show k2+1≤_;omega
   ·exact⟨rfl,trivial⟩
   ·exact fun w s=>aK.kept .auto w s
  ·refine J 12 ?_
   obtain rfl:k2=xs.length:=by omega
   refine .to (A:=lq b (q.map Ad)) (Bs:=[arr b 0 [u],sl dD 1 u xs,bb gj  (tq Ad xs.length xs)]) .auto (FN hxs) ?_
   refine .aI rfl rfl fun w s=>⟨q.map Ad,?_,⟨by rw[show(oDo l a).2=l.map fun s=>s.tick.2 from by unfold oDo;rw[if_pos h9]];exact hS.tick hO,HM⟩,aq .auto s⟩
   rw[xX h9]
 ·refine J 4 ?_
  refine .draw [] [1,1,1,1,1,1,1,1,1,1,1,1,1,1,1,1,1,1,1,1,1,1,1] rfl (by kernel_rfl) ?_
  refine J 4 ?_
  apply bo.fu 9 39 30 [30,31,32,33,34,35,36,37,38,39] rfl
  ·intro h30
   refine J 10 ?_
   refine .tg .auto rfl (by first | exact fun _ h=>h | exact aK.kept .auto)
  ·intro h30
   refine J 10 ?_
   refine .tg .auto rfl (by first | exact fun _ h=>h | exact aK.kept .auto)
  refine J 1 ?_
  apply bo.gC 9 49 40 [40,41,42,43,44,45,46,47,48,49] rfl
  ·intro h40
   refine J 4 ?_
   apply bo.gr 4 48 44 [44,45,46,47,48] rfl
   ·intro h44
    refine J 5 ?_
    refine .tg .auto rfl (by first | exact fun _ h=>h | exact aK.kept .auto)
   ·intro h44
    refine J 5 ?_
    refine .tg .auto rfl (by first | exact fun _ h=>h | exact aK.kept .auto)
   refine J 2 ?_
   refine .tg .auto rfl (by first | exact fun _ h=>h | exact aK.kept .auto)
  ·intro h40
   refine J 10 ?_
   refine .tg .auto rfl (by first | exact fun _ h=>h | exact aK.kept .auto)
  refine JD 2 (fun h49=>?_) fun h49=>?_
  ·simp only[Bool.and_eq_true,Bool.or_eq_true,decide_eq_true_eq] at h49
   have he:oDo l a=(1,l):=HL h9 (by omega)
   refine J 7 ?_
   refine .to (A:=lq b q) (Bs:=[arr b 0 [u],sl dD 1 u xs,bb gj  xs]) .auto (Ic hxs) ?_
   refine .aI rfl rfl fun w s=>⟨q,?_,⟨by rw[he];exact hS,rfl⟩,aq .auto s⟩
   rw[he]
  ·simp only[Bool.and_eq_false_iff,Bool.or_eq_false_iff,decide_eq_false_iff_not] at h49
   obtain⟨i,hi⟩:∃ i:Nat,a.space=(i:Int):=⟨a.space.toNat,by omega⟩
   obtain⟨⟨p,v,r⟩,hx⟩:=aB (show i<xs.length by omega)
   have hqx:q[i]?=some (v,r):=by rw[← hxs,List.getElem?_map,hx];rfl
   obtain⟨s,hsl,hSr⟩:=hS.back hqx
   have hSr:fk v.p.p s r:=hSr
   have hg:cH l a.space=some s:=by rw[hi,nV];exact hsl
   have hOs:=hO s (List.mem_of_getElem? hsl)
   refine .fr .auto (FL hx) ?_
   refine J 3 ?_
   refine .draw [] [1,1,1,1,1,1,1,1,1] rfl (by kernel_rfl) ?_
   refine J 6 ?_
   refine .p (.hY i underlying76 sizeOf33 rfl rfl Rd.s hi (by omega)) ?_
   refine .p (.lr rfl hx) ?_
   refine JD 11 (fun h60=>?_) fun h60=>?_
   ·refine J 6 ?_
    refine .c call43 rfl (E1 (s:=r) (k:=a.choice) hSr.T (hSr.KK hOs.1).1 (hSr.KK hOs.1).2 (by rw[hSr.rc];have:=hOs.rec hk;omega)) fun _ _=>?_
    refine JD 3 (fun h65=>?_) fun h65=>?_
    ·obtain⟨d1,d2,d3,d4⟩:(s.done a.choice).2.1=3∧(s.done a.choice).1=iY.z∧(s.done a.choice).2.2=s∧r.done a.choice=(0,r):=by
      rcases hSr.done hOs.1 (c:=a.choice) with h | ⟨w,⟨w0,w16⟩,_,_,e,_⟩
      ·exact h
      ·rw[e] at h65;omega
     have he:oDo l a=(3,l):=by rw[sE h60 hg,d1,d3,hi,Int.toNat_natCast,eH hsl]
     rw[d4]
     refine J 8 ?_
     refine .to (A:=lq b q) (Bs:=[arr b 0 [u],sl dD 1 u xs,cp p v r,bb gj  (xs.eraseIdx i)]) .auto (wQ hxs hx) ?_
     refine .aI rfl rfl fun w s=>⟨q,?_,⟨by rw[he];exact hS,rfl⟩,aq .auto s⟩
     rw[he]
    ·obtain⟨w, -,d1,d2,d3,d4⟩:∃ w:Int,(0≤w∧w<16)∧(s.done a.choice).2.1=0∧(s.done a.choice).1=⟨[w],false,false,false⟩∧(r.done a.choice).1=w+1∧fk v.p.p (s.done a.choice).2.2 (r.done a.choice).2:=by
      rcases hSr.done hOs.1 (c:=a.choice) with ⟨_,_,_,e⟩ | h
      ·exact absurd (by rw[e]) h65
      ·exact h
     have he:oDo l a=(0,l.set i (s.done a.choice).2.2):=by rw[sE h60 hg,d1,hi,Int.toNat_natCast]
     refine J 9 ?_
     refine .to (A:=lq b (q.set i (v,(r.done a.choice).2))) (Bs:=[arr b 0 [u],sl dD 1 u xs,cp p v (r.done a.choice).2,bb gj  (xs.eraseIdx i)]) .auto (FM hxs hx _) ?_
     refine .aI rfl rfl fun w s=>⟨q.set i (v,(r.done a.choice).2),?_,⟨by rw[he];exact hS.put hqx d4,qL hqx⟩,aq .auto s⟩
     rw[he]
   ·have h1:a.kind=1:=by omega
    refine .fr (A:=cp p v r) .auto bB ?_
    refine J 4 ?_
    refine .draw [] [1,1,1,1,1,1,1,1,1,1,1,1,1,1,1,1,1,1,1] rfl (by kernel_rfl) ?_
    refine J 4 ?_
    apply bo.fu 4 73 69 [69,70,71,72,73] rfl
    ·intro h69
     refine J 5 ?_
     refine .tg .auto rfl (by first | exact fun _ h=>h | exact aK.kept .auto)
    ·intro h69
     refine J 5 ?_
     refine .tg .auto rfl (by first | exact fun _ h=>h | exact aK.kept .auto)
    refine J 1 ?_
    apply bo.gC 10 84 74 [74,75,76,77,78,79,80,81,82,83,84] rfl
    ·intro h74
     simp only[Bool.or_eq_false_iff,decide_eq_false_iff_not] at h74
     refine J 5 ?_
     refine .g (.aF a.cy.toNat underlying54 sizeOf53 rfl rfl (by omega) (by omega)) ?_
     refine J 1 ?_
     refine .g (.ld rfl (Cell.tz (by first | omega | exact hn))) ?_
     refine J 3 ?_
     refine .tg .auto rfl (by first | exact fun _ h=>h | exact aK.kept .auto)
    ·intro h74
     refine J 11 ?_
     refine .tg .auto rfl (by first | exact fun _ h=>h | exact aK.kept .auto)
    refine JD 2 (fun h84=>?_) fun h84=>?_
    ·simp only[Bool.or_eq_true,decide_eq_true_eq,Bool.not_eq_true'] at h84
     have hat:s.at a.cy=none:=FI hSr hOs.1 (by rcases h84 with (h | h) | h;exact .inl h;exact .inr (.inl h);exact .inr (.inr h))
     have he:oDo l a=(1,l):=by rw[q6 h1 hg,si hat,hi,Int.toNat_natCast];exact congrArg (Prod.mk 1) (eH hsl)
     refine J 7 ?_
     refine .to (A:=lq b q) (Bs:=[arr b 0 [u],sl dD 1 u xs,cp p v r,bb gj  (xs.eraseIdx i)]) .auto (wQ hxs hx) ?_
     refine .aI rfl rfl fun w s=>⟨q,?_,⟨by rw[he];exact hS,rfl⟩,aq .auto s⟩
     rw[he]
    ·simp only[Bool.or_eq_false_iff,decide_eq_false_iff_not,Bool.not_eq_false'] at h84
     obtain⟨⟨c1,c2⟩,c3⟩:=h84
     obtain⟨m,t,hm,hm16,hth,hat,hwy⟩:=CV hSr hOs.1 c1 c2 c3
     have hn:m<16:=hm16
     refine J 4 ?_
     refine .draw [] [1,1,1,1,1,1,1,1,1] rfl (by kernel_rfl) ?_
     refine J 5 ?_
     refine .p (.aF m underlying54 sizeOf53 rfl rfl hm (by omega)) ?_
     refine J 1 ?_
     refine .p (.ld rfl (Cell.t (by first | omega | exact hn) rfl)) ?_
     refine JD 3 (fun h93=>?_) fun h93=>?_
     ·have hw:t.why≠0:=by rw[← hwy];exact h93
      have he:oDo l a=(4,l):=by rw[q6 h1 hg,sj hat hw,hi,Int.toNat_natCast];exact congrArg (Prod.mk 4) (eH hsl)
      refine J 7 ?_
      refine .to (A:=lq b q) (Bs:=[arr b 0 [u],sl dD 1 u xs,cp p v r,bb gj  (xs.eraseIdx i)]) .auto (wQ hxs hx) ?_
      refine .aI rfl rfl fun w s=>⟨q,?_,⟨by rw[he];exact hS,rfl⟩,aq .auto s⟩
      rw[he]
     ·have hw:t.why=0:=by rw[← hwy];exact Decidable.not_not.mp h93
      obtain⟨f1,f2,f3,f4,f5⟩:=hSr.LD hOs hk hth hw (c:=a.choice)
      have he:oDo l a=(0,l.set i (s.run m a.choice).2.2):=by rw[q6 h1 hg,hm,f2,hi,Int.toNat_natCast]
      have hpv:eD W [A] v.p:=hp (v,r) (List.mem_of_getElem? hqx)
      have hrun:=Hk (b:=p) (n:=m) (choice:=a.choice) hpv f4 f5
      rw[← hm] at hrun
      refine J 9 ?_
      refine .c call41 rfl hrun fun u99 _=>?_
      refine J 8 ?_
      refine .to (A:=lq b (q.set i (v,(r.run v.p.p m a.choice).2))) (Bs:=[arr b 0 [u],sl dD 1 u xs,cp p v (r.run v.p.p m a.choice).2,bb gj  (xs.eraseIdx i)]) .auto (FM hxs hx _) ?_
      refine .aI rfl rfl fun w s=>⟨q.set i (v,(r.run v.p.p m a.choice).2),?_,⟨by rw[he];exact hS.put hqx f3,qL hqx⟩,aq .auto s⟩
      rw[he]
theorem Ae{W:World}{A:aa}{v:Value}{ps:List bI}(hr:Rd W [A] eg 8 v ps)(hp:∀ p∈ps,eD W [A] p)(hc:∀ p∈ps,ei p.p=true)(hl:ps.length≤8):Fn Tryz.prog W 27 [v] [A] (Nat×List (RV×RSp)) (fun z=>ptr z.1) (fun z=>JP ps z.2) (fun z=>[lq z.1 z.2,A]):=by
 refine Fn.intro (N:=28) func27 rfl ntmps27 rfl fun F=>?_
 haveI hRI:∀ (H:List aa) [cf H A],aJ W H v eg 8 ps:=fun H h=>⟨hr.at h.has⟩
 show ax _ _ _ _ _ _ [A,F]
 refine J 7 ?_
 refine .p (.tu ([(.slice none 0 0)]) (by kernel_rfl)) ?_
 refine .aw rfl (af.box rfl rfl rfl) ?_
 rintro _ _ ⟨b6,rfl,rfl⟩
 refine J 10 ?_
 refine .da (X:=Nat×Value×List (Nat×RV×RSp)) [4,7,8,9,10,11,12,13,14,15,16,17,18,19,20,21,22,23,24,25,26] (fun z=>ps.length-z.1) (fun z=>z.1≤ps.length∧z.2.2.length=z.1∧z.2.2.map (·.2.1.p)=ps.take z.1∧z.2.2.map (·.2.2)=((ps.take z.1).map bI.p).map RSp.new) (fun z=>[(4,some (.int .i64 (z.1:Int)))]) (fun z=>[arr b6 0 [z.2.1],sl dD 1 z.2.1 z.2.2,bb gj  z.2.2,A,F]) (0,.slice none 0 0,[]) ?_ ?_ ?_ ?_
 ·exact⟨Nat.zero_le _,rfl,rfl,rfl⟩
 ·exact⟨rfl,trivial⟩
 ·exact fun w s=>aK.kept .auto w s
 rintro⟨n,vl,xs⟩ ⟨hk,hxl,h1,h2⟩
 simp only at hk hxl h1 h2
 refine JD 9 (fun h10=>?_) fun h10=>?_
 ·refine J 4 ?_
  refine .draw [arr b6 0 [vl],A] [0,0,0,0,0,1,1,1,1,2,2,2,1,1,3] rfl (by kernel_rfl) ?_
  refine J 7 ?_
  obtain⟨x,hx⟩:=aB (show n<ps.length by omega)
  have hxm:=List.mem_of_getElem? hx
  refine .p (.ix n rfl rfl rfl (by omega)) ?_
  refine .p (.la rfl (Cells.rd Rd.s hx)) ?_
  refine .c2 call12 rfl (Hl (hp x hxm) (hc x hxm)) fun x2 _=>?_
  refine .d2 rfl Kept.auto (af.gN 33 rfl rfl (by kernel_rfl)) (by rintro _ _ ⟨b23,rfl,rfl⟩;exact Kept.auto) ?_
  rintro _ _ ⟨b23,rfl,rfl⟩
  refine .d2 rfl Kept.auto (af.fb (enc:=dD) (k:=1) ((x2.1,(⟨x,x2.2⟩:RV),RSp.new x.p):Nat×RV×RSp) rfl underlying76 underlying76 typeInfo33 rfl rfl rfl (by decide) rfl rfl rfl .auto rfl .auto (by dsimp only;omega) rfl) (by rintro _ _ ⟨v24,rfl,rfl⟩;exact Kept.auto) ?_
  rintro _ _ ⟨v24,rfl,rfl⟩
  refine J 2 ?_
  refine .d3 rfl (af.pn sizeOf76 rfl rfl rfl) ?_
  rintro _ _ ⟨rfl,rfl⟩
  refine J 8 ?_
  refine .bq (n+1,v24,xs++[((x2.1,(⟨x,x2.2⟩:RV),RSp.new x.p):Nat×RV×RSp)]) .auto rfl ?_ ?_ ?_ ?_
  ·show ps.length-(n+1)<ps.length-n;omega
  ·exact⟨by show n+1≤_;omega,by simp[hxl],FO h1 h2 hx x2.1 x2.2⟩
  ·exact⟨rfl,trivial⟩
  ·show ∀ w,Sat _ w _→Sat _ w (seps [_,sl dD 1 v24 (xs++[((x2.1,(⟨x,x2.2⟩:RV),RSp.new x.p):Nat×RV×RSp)]),bb gj  (xs++[((x2.1,(⟨x,x2.2⟩:RV),RSp.new x.p):Nat×RV×RSp)]),A,F])
   rw[jX,show gj ((x2.1,(⟨x,x2.2⟩:RV),RSp.new x.p):Nat×RV×RSp)=cp x2.1 ⟨x,x2.2⟩ (RSp.new x.p) from rfl]
   exact fun w s=>aK.kept .auto w s
 ·obtain rfl:n=ps.length:=by omega
  rw[List.take_length] at h1 h2
  refine .to (A:=lq b6 (xs.map (·.2))) (Bs:=[arr b6 0 [vl],sl dD 1 vl xs,bb gj  xs]) .auto (Ic rfl) ?_
  refine J 12 ?_
  refine .aI rfl rfl fun w s=>⟨(b6,xs.map (·.2)),?_,⟨by rw[List.map_map];exact h1,by rw[List.map_map];exact h2⟩,aq .auto s⟩
  rfl
end Go.SLYtefdijgllbkmfaaGreat
namespace Go.SLYtefdijgllbkmfaaGreat
open Go Go.RowKit Go.Proofs Go.Proofs.Tryz
attribute [local irreducible] ax aS bo bY bP Y
theorem Bq{a b:iF}:rA Tryz.prog 74 2 (.agg (ek a).toArray) (.agg (ek b).toArray) (decide (a=b)):=fun d w=>by
 have hs:Tryz.prog.stoodInHeld 74=false:=by kernel_rfl
 have one:∀ (r:iF) (t:TypeId) (i:Nat) (v:Value),(∀ w,(isAgg t).run Tryz.prog w = .ok false w)→(ek r)[i]?=some v→Part Tryz.prog t (ek r).toArray i v:=fun r t i v ha hv=>Part.one ha (by rw[List.getElem?_toArray];exact hv)
 refine(lZ underlying74 hs (d+1) _ _ w).trans ?_
 show(Op.eqFields (d+1) _ _ [_,_,_,_]).run Tryz.prog w=_
 have pa0:Part Tryz.prog 3 (ek a).toArray 0 (.int .i64 a.kind):=one a _ 0 _ isAgg3 rfl
 have pb0:Part Tryz.prog 3 (ek b).toArray 0 (.int .i64 b.kind):=one b _ 0 _ isAgg3 rfl
 refine Eq.trans (du (a:=.int .i64 a.kind) (b:=.int .i64 b.kind) (r:=decide (a.kind=b.kind)) ?_ ?_ ?_ ?_) ?_
 ·decide +kernel
 ·exact pa0
 ·exact pb0
 ·exact(rA.int underlying3 d w)
 by_cases h0:a.kind=b.kind
 rotate_left
 ·rw[decide_eq_false h0,decide_eq_false (fun e=>h0 (by rw[e])),if_neg (by simp)]
 rw[decide_eq_true h0,if_pos rfl]
 have pa1:Part Tryz.prog 3 (ek a).toArray 1 (.int .i64 a.space):=one a _ 1 _ isAgg3 rfl
 have pb1:Part Tryz.prog 3 (ek b).toArray 1 (.int .i64 b.space):=one b _ 1 _ isAgg3 rfl
 refine Eq.trans (du (a:=.int .i64 a.space) (b:=.int .i64 b.space) (r:=decide (a.space=b.space)) ?_ ?_ ?_ ?_) ?_
 ·decide +kernel
 ·exact pa1
 ·exact pb1
 ·exact(rA.int underlying3 d w)
 by_cases h1:a.space=b.space
 rotate_left
 ·rw[decide_eq_false h1,decide_eq_false (fun e=>h1 (by rw[e])),if_neg (by simp)]
 rw[decide_eq_true h1,if_pos rfl]
 have pa2:Part Tryz.prog 3 (ek a).toArray 2 (.int .i64 a.cy):=one a _ 2 _ isAgg3 rfl
 have pb2:Part Tryz.prog 3 (ek b).toArray 2 (.int .i64 b.cy):=one b _ 2 _ isAgg3 rfl
 refine Eq.trans (du (a:=.int .i64 a.cy) (b:=.int .i64 b.cy) (r:=decide (a.cy=b.cy)) ?_ ?_ ?_ ?_) ?_
 ·decide +kernel
 ·exact pa2
 ·exact pb2
 ·exact(rA.int underlying3 d w)
 by_cases h2:a.cy=b.cy
 rotate_left
 ·rw[decide_eq_false h2,decide_eq_false (fun e=>h2 (by rw[e])),if_neg (by simp)]
 rw[decide_eq_true h2,if_pos rfl]
 have pa3:Part Tryz.prog 3 (ek a).toArray 3 (.int .i64 a.choice):=one a _ 3 _ isAgg3 rfl
 have pb3:Part Tryz.prog 3 (ek b).toArray 3 (.int .i64 b.choice):=one b _ 3 _ isAgg3 rfl
 refine Eq.trans (du (a:=.int .i64 a.choice) (b:=.int .i64 b.choice) (r:=decide (a.choice=b.choice)) ?_ ?_ ?_ ?_) ?_
 ·decide +kernel
 ·exact pa3
 ·exact pb3
 ·exact(rA.int underlying3 d w)
 by_cases h3:a.choice=b.choice
 rotate_left
 ·rw[decide_eq_false h3,decide_eq_false (fun e=>h3 (by rw[e])),if_neg (by simp)]
 rw[decide_eq_true h3,if_pos rfl]
 have e:a=b:=by
  obtain⟨a1,a2,a3,a4⟩:=a
  obtain⟨b1,b2,b3,b4⟩:=b
  simp only at h0 h1 h2 h3
  subst h0 h1 h2 h3
  rfl
 rw[decide_eq_true e]
 simp[Op.eqFields]
theorem u4{W:World}{A:aa}{u:Value}{acts:List iF}{n:Int}(ha:Rd W [A] ek 4 u acts)(hal:acts.length≤1000000000):Fn Tryz.prog W 78 [u,.int .i64 n] [A] Value (fun w=>w) (fun _=>True) (fun w=>[sl ek 4 w (dX acts n),A]):=by
 refine Fn.intro (N:=34) func78 rfl ntmps78 rfl fun F=>?_
 haveI hRI:∀ (H:List aa) [cf H A],aJ W H u ek 4 acts:=fun H h=>⟨ha.at h.has⟩
 show ax _ _ _ _ _ _ [A,F]
 refine J 19 ?_
 refine .da (X:=Nat×Value) [5,7,10,11,12,13,14,15,16,17,18,19,20,21,22,23,24,25,26,27,28,29,30,31,32] (fun z=>acts.length-z.1) (fun z=>z.1≤acts.length) (fun z=>[(10,some (.int .i64 (z.1:Int))),(5,some z.2)]) (fun z=>[sl ek 4 z.2 (dX (acts.take z.1) n),A,F]) (0,.slice none 0 0) ?_ ?_ ?_ ?_
 ·exact Nat.zero_le _
 ·exact⟨rfl,rfl,trivial⟩
 ·show ∀ w,Sat _ w _→Sat _ w (seps [sl ek 4 (.slice none 0 0) ([]:List iF),A,F])
  exact fun w s=>aK.kept .auto w s
 rintro⟨k,vl⟩ hk
 simp only at hk
 refine JD 6 (fun h11=>?_) fun h11=>?_
 ·refine J 6 ?_
  obtain⟨x,hx⟩:=aB (show k<acts.length by omega)
  have hlk:(dX (acts.take k) n).length≤k:=Nat.le_trans (iQ _ _) (by rw[List.length_take];omega)
  refine J 1 ?_
  refine .p (.la rfl (Cells.rd Rd.s hx)) ?_
  refine .aw rfl (af.alloc rfl zeroValue74 rfl) ?_
  rintro _ _ ⟨b7,rfl,rfl⟩
  refine .aw rfl (af.tf (vs:=ek x) (by exact sizeOf74) rfl rfl rfl (by rfl)) ?_
  rintro _ _ ⟨rfl,rfl⟩
  refine JD 11 (fun h17=>?_) fun h17=>?_
  ·refine J 2 ?_
   refine .p (.iv (fun v1=>[v1,(.int .i64 0),(.int .i64 0),(.int .i64 0)]) rfl (by kernel_rfl)) ?_
   refine .aw rfl (af.gN 74 rfl rfl (by kernel_rfl)) ?_
   rintro _ _ ⟨b20,rfl,rfl⟩
   refine .aw rfl (af.fb (enc:=ek) (k:=4) (⟨3,0,0,0⟩:iF) rfl underlying68 underlying68 typeInfo74 rfl rfl rfl (by decide) rfl rfl rfl .auto rfl .auto (by first | omega | (dsimp only;omega)) rfl) ?_
   rintro _ _ ⟨v21,rfl,rfl⟩
   refine J 9 ?_
   refine .bq (k+1,v21) .auto rfl ?_ ?_ ?_ ?_
   ·show acts.length-(k+1)<acts.length-k;omega
   ·show k+1≤_;omega
   ·exact⟨rfl,rfl,trivial⟩
   ·show ∀ w,Sat _ w _→Sat _ w (seps [sl ek 4 v21 (dX (acts.take (k+1)) n),A,F])
    rw[ji hx,uk h17]
    exact fun w s=>aK.kept .auto w s
  ·refine JD 9 (fun h26=>?_) fun h26=>?_
   ·refine J 4 ?_
    rw[show(ek x).set 1 (.int .i64 0)=ek {x with space:=0 } from rfl]
    refine J 5 ?_
    refine .aw rfl (af.gN 74 rfl rfl (by kernel_rfl)) ?_
    rintro _ _ ⟨b30,rfl,rfl⟩
    refine .aw rfl (af.fb (enc:=ek) (k:=4) ({x with space:=0 }:iF) rfl underlying68 underlying68 typeInfo74 rfl rfl rfl (by decide) rfl rfl rfl .auto rfl .auto (by first | omega | (dsimp only;omega)) rfl) ?_
    rintro _ _ ⟨v31,rfl,rfl⟩
    refine J 9 ?_
    refine .bq (k+1,v31) .auto rfl ?_ ?_ ?_ ?_
    ·show acts.length-(k+1)<acts.length-k;omega
    ·show k+1≤_;omega
    ·exact⟨rfl,rfl,trivial⟩
    ·show ∀ w,Sat _ w _→Sat _ w (seps [sl ek 4 v31 (dX (acts.take (k+1)) n),A,F])
     rw[ji hx,xZ h17 h26]
     exact fun w s=>aK.kept .auto w s
   ·refine J 8 ?_
    refine .bq (k+1,vl) .auto rfl ?_ ?_ ?_ ?_
    ·show acts.length-(k+1)<acts.length-k;omega
    ·show k+1≤_;omega
    ·exact⟨rfl,rfl,trivial⟩
    ·show ∀ w,Sat _ w _→Sat _ w (seps [sl ek 4 vl (dX (acts.take (k+1)) n),A,F])
     rw[ji hx,ya h17 h26,List.append_nil]
     exact fun w s=>aK.kept .auto w s
 ·refine J 12 ?_
  obtain rfl:k=acts.length:=by omega
  rw[List.take_length]
  exact JR 0 vl
theorem te{W:World}{A:aa}{v:Value}{ps:List bI}(hr:Rd W [A] eg 8 v ps)(hp:∀ p∈ps,eD W [A] p)(hb:ps.length≤1000000000∧ ∀ p∈ps,p.fs.length≤1000000000∧p.aT.length≤1000000000∧p.aC.length≤1000000000)(hw:∀ p∈ps.map bI.p, ∀ f∈p.funcs, ∀ i∈f,ff i.n){u:Value}{acts:List iF}{n:Int}(ha:Rd W [A] ek 4 u acts)(hal:acts.length≤1000):Fn Tryz.prog W 25 [v,.int .i64 n,u] [A] Value (fun w=>.tuple #[w,.int .i64 (l4 (ps.map bI.p) n)]) (fun _=>True) (fun w=>[sl dp 6 w (aloneR (ps.map bI.p) n acts),A]):=by
 refine Fn.intro (N:=46) func25 rfl ntmps25 rfl fun F=>?_
 haveI hRI:∀ (H:List aa) [cf H A],aJ W H v eg 8 ps:=fun H h=>⟨hr.at h.has⟩
 show ax _ _ _ _ _ _ [A,F]
 have hml:(ps.map bI.p).length=ps.length:=List.length_map ..
 refine J 12 ?_
 apply aS.fu 5 19 14 [14,15,16,17,18,19] rfl
 ·intro h14
  exact JS 6
 ·intro h14
  exact JS 6
 refine JD 2 (fun h19=>?_) fun h19=>?_
 ·simp only[Bool.or_eq_true,decide_eq_true_eq] at h19
  have hgn:cH (ps.map bI.p) n=none:=eC (by rw[hml];omega)
  refine J 8 ?_
  rw[(k0 hgn acts).1,(k0 hgn acts).2]
  refine .ef rfl rfl rfl fun w s=>⟨(.slice none 0 0),?_,trivial,aq .auto s⟩
  rfl
 ·simp only[Bool.or_eq_false_iff,decide_eq_false_iff_not] at h19
  refine J 7 ?_
  refine .p (.add rfl rfl (by omega)) ?_
  obtain⟨i,rfl⟩:∃ i:Nat,n=(i:Int):=⟨n.toNat,by omega⟩
  obtain⟨p0,hpi⟩:=aB (show i<ps.length by omega)
  have hpm:=List.mem_of_getElem? hpi
  have hgi:cH (ps.map bI.p) (i:Int)=some p0.p:=by rw[nV,List.getElem?_map,hpi];rfl
  have hcut:(ps.take (i+1)).drop i=[p0]:=by
   rw[cx hpi,List.drop_append_of_le_length (by rw[List.length_take];omega),List.drop_of_length_le (by rw[List.length_take];omega)];rfl
  have hrc:Rd W [A] eg 8 (cut 8 i (i+1) v) [p0]:=hcut ▸ hr.cut (Nat.le_succ i) (by omega)
  have hw1:∀ p∈ [p0].map bI.p, ∀ f∈p.funcs, ∀ i∈f,ff i.n:=fun p hp=>hw p (by
   rw[show[p0].map bI.p=[p0.p] from rfl,List.mem_singleton] at hp;subst hp;exact List.mem_map.2 ⟨p0,hpm,rfl⟩)
  refine .p (.Ak i (i+1) underlying67 sizeOf25 rfl rfl rfl Rd.s rfl (by omega) (by omega) (by omega)) ?_
  refine .c call29 rfl (HG (ps:=[p0]) hrc (fun p hq=>by rw[List.mem_singleton] at hq;subst hq;exact hp p hpm) ⟨by show 1≤_;decide,fun p hq=>by rw[List.mem_singleton] at hq;subst hq;exact hb.2 p hpm⟩) fun o ho=>?_
  rw[show[p0].map bI.p=[p0.p] from rfl,l5] at ho ⊢
  refine JD 14 (fun h30=>?_) fun h30=>?_
  ·refine J 9 ?_
   rw[(mC hgi h30 acts).1,(mC hgi h30 acts).2]
   refine .ef rfl rfl rfl fun w s=>⟨(.slice none 0 0),?_,trivial,aq .auto s⟩
   rfl
  ·have hc:cK p0.p=0:=Decidable.not_not.mp h30
   obtain⟨ka,rfl⟩:=Option.isSome_iff_exists.1 (ho.trans (decide_eq_true hc))
   refine .fr (A:=optH (fun b=>gd b ([p0.p].map Spc.new)) (some ka)) (Bs:=[gd ka [Spc.new p0.p]]) .auto xo ?_
   have hk1:gJ 1 [Spc.new p0.p]:=gJ.new (ps:=[p0.p]) (by rw[l5];exact hc) hw1
   refine J 7 ?_
   refine .c call78 rfl (u4 (n:=(i:Int)) ha (by omega)) fun u34 _=>?_
   refine J 5 ?_
   refine .da (X:=Nat) [11,36,37,38,39,40,41,42,43] (fun k=>(dX acts (i:Int)).length-k) (fun k=>k≤(dX acts (i:Int)).length) (fun k=>[(36,some (.int .i64 (k:Int)))]) (fun k=>[gd ka (ku [Spc.new p0.p] ((dX acts (i:Int)).take k)),sl ek 4 u34 (dX acts (i:Int)),A,F]) 0 ?_ ?_ ?_ ?_
   ·exact Nat.zero_le _
   ·exact⟨rfl,trivial⟩
   ·exact fun w s=>aK.kept .auto w s
   rintro k hk
   refine JD 6 (fun h37=>?_) fun h37=>?_
   ·refine J 6 ?_
    obtain⟨x,hx⟩:=aB (show k<(dX acts (i:Int)).length by omega)
    have hlb:=iQ acts (i:Int)
    have hok:=wz hk1 (dX acts (i:Int)) k hk (by omega)
    refine .p (.ix k rfl rfl rfl (by omega)) ?_
    refine .p (.la rfl (Cells.rd Rd.s hx)) ?_
    refine .aw rfl (af.alloc rfl zeroValue74 rfl) ?_
    rintro _ _ ⟨b11,rfl,rfl⟩
    refine .aw rfl (af.tf (vs:=ek x) (by exact sizeOf74) rfl rfl rfl (by rfl)) ?_
    rintro _ _ ⟨rfl,rfl⟩
    refine J 5 ?_
    refine .c call31 rfl (JL (l:=ku [Spc.new p0.p] ((dX acts (i:Int)).take k)) (a:=x) (by rw[sF];exact(by decide:1≤1000000000)) (hok.Ao (by have:=iQ acts (i:Int);omega))) fun _ _=>?_
    rw[← uj hx]
    refine J 7 ?_
    refine .bq (k+1) .auto rfl ?_ ?_ ?_ ?_
    ·omega
    ·show k+1≤_;omega
    ·exact⟨rfl,trivial⟩
    ·exact fun w s=>aK.kept .auto w s
   ·refine J 8 ?_
    obtain rfl:k=(dX acts (i:Int)).length:=by omega
    have hok:=wz hk1 (dX acts (i:Int)) _ (Nat.le_refl _) (by have:=iQ acts (i:Int);omega)
    rw[List.take_length] at hok ⊢
    refine .c call32 rfl (yH (l:=ku [Spc.new p0.p] (dX acts (i:Int))) (n:=0) (by rw[sF];exact(by decide:1≤1000000000)) (hok.Ao (by have:=iQ acts (i:Int);omega))) fun u45 _=>?_
    refine J 5 ?_
    rw[(mD hgi hc acts).1,(mD hgi hc acts).2]
    exact JR 0 u45
theorem mj{W:World}  : Fn Tryz.prog W 26 [] [] Unit (fun _=>.bool true) (fun _=>True) (fun _=>[]):=by
 refine Fn.intro (N:=49) func26 rfl ntmps26 rfl fun F=>?_
 show ax _ _ _ _ _ _ [F]
 refine J 7 ?_
 refine .p (.gB (fun v1 v2=>[v1,v2,(.int .i64 0),(.int .i64 0),(.int .u64 0)]) rfl rfl (by kernel_rfl)) ?_
 refine .aw rfl (af.gN 131 rfl rfl (by kernel_rfl)) ?_
 rintro _ _ ⟨b6,rfl,rfl⟩
 refine .aw rfl (af.gN 128 rfl rfl (by kernel_rfl)) ?_
 rintro _ _ ⟨b7,rfl,rfl⟩
 refine .p (.iv (fun _=>eg (ju b6 b7)) rfl (by kernel_rfl)) ?_
 refine .aw rfl (af.alloc rfl zeroValue25 rfl) ?_
 rintro _ _ ⟨b1,rfl,rfl⟩
 refine J 5 ?_
 refine .p (.F0 (fun v1 v2 v3=>[v1,v2,(.int .i64 0),v3]) rfl rfl rfl (by kernel_rfl)) ?_
 refine .p (.gB (fun v1 v2=>[v1,v2,(.int .i64 0),(.int .i64 0)]) rfl rfl (by kernel_rfl)) ?_
 refine .p (.iv (fun v1=>[v1,(.int .i64 0),(.int .i64 0),(.int .i64 0)]) rfl (by kernel_rfl)) ?_
 refine .aw rfl (af.gN 74 rfl rfl (by kernel_rfl)) ?_
 rintro _ _ ⟨b12,rfl,rfl⟩
 refine .c call78 rfl (u4 (A:=arr b12 0 (rows ek Ln)) (acts:=Ln) (n:=1) (Rd.lit .here rfl (fun _ _=>rfl) rfl) (by decide)) fun u13 _=>?_
 rw[LW]
 refine J 7 ?_
 refine .aw rfl (af.gN 25 rfl rfl (by kernel_rfl)) ?_
 rintro _ _ ⟨b17,rfl,rfl⟩
 refine .p (.gB (fun v1 v2=>[v1,v2,(.int .i64 0),(.int .i64 0)]) rfl rfl (by kernel_rfl)) ?_
 refine .aw rfl (af.gN 74 rfl rfl (by kernel_rfl)) ?_
 rintro _ _ ⟨b19,rfl,rfl⟩
 refine .c call25 rfl (te (A:=KW b6 b7 b17 b19) (v:=Gr b17 2) (u:=Gr b19 1) (ps:=[ju b6 b7,ju b6 b7]) (acts:=KV) (n:=1) EK GR Jb LU Cj (by decide)) fun u20 _=>?_
 rw[show[ju b6 b7,ju b6 b7].map bI.p=[FT,FT] from rfl,LX,LM]
 refine J 1 ?_
 refine .p (.extract (v:=u20) rfl rfl) ?_
 refine .p (.extract (v:=.int .i64 0) rfl rfl) ?_
 refine J 11 ?_
 refine .g (.ix 0 rfl rfl rfl (by decide)) ?_
 refine .g (.la rfl (Cells.rd Rd.s (show Lo[0]?=some ⟨1,0,0,3⟩ from rfl))) ?_
 refine .g (.gB (fun v1 v2=>[v1,(.int .i64 0),(.int .i64 0),v2]) rfl rfl (by kernel_rfl)) ?_
 refine .g (.Jc (Y.HQ (by kernel_rfl) (Bq (a:=⟨1,0,0,3⟩) (b:=⟨1,0,0,3⟩)) rfl rfl rfl) (decide_eq_true rfl)) ?_
 refine J 3 ?_
 refine .g (.ix 1 rfl rfl rfl (by decide)) ?_
 refine .g (.la rfl (Cells.rd Rd.s (show Lo[1]?=some ⟨3,0,0,0⟩ from rfl))) ?_
 refine .g (.iv (fun v1=>[v1,(.int .i64 0),(.int .i64 0),(.int .i64 0)]) rfl (by kernel_rfl)) ?_
 refine .g (.Jc (Y.HQ (by kernel_rfl) (Bq (a:=⟨3,0,0,0⟩) (b:=⟨3,0,0,0⟩)) rfl rfl rfl) (decide_eq_true rfl)) ?_
 exact JR 14 ()
end Go.SLYtefdijgllbkmfaaGreat
namespace Go.SLYtefdijgllbkmfaaGreat
open Go Go.RowKit Go.Proofs Go.Proofs.Tryz
attribute [local irreducible] ax aS bo bY bP Y
end Go.SLYtefdijgllbkmfaaGreat
namespace Go.SLYtefdijgllbkmfaaGreat
open Go Go.RowKit
section
variable{W:World}{H:List aa}{α:Type}
theorem Rd.KQ{enc:α→List Value}{k:Nat}{v:Value}{xs:List α}{n:Nat}(h2:n≤xs.length)(h:Rd W H enc k v xs):Rd W H enc k (Go.SLYtefdijgllbkmfaaGreat.cut k 0 n v) (xs.take n):=by
 have:=h.cut (Nat.zero_le n) h2
 rwa [List.drop_zero] at this
end
end Go.SLYtefdijgllbkmfaaGreat
namespace Go.SLYtefdijgllbkmfaaGreat
open Go Go.RowKit Go.Proofs Go.Proofs.Tryz
attribute [local irreducible] ax aS bo bY bP Y
set_option maxHeartbeats 2000000 in
theorem yJ{W:World}{A:aa}{v:Value}{ps:List bI}(hr:Rd W [A] eg 8 v ps)(hp:∀ p∈ps,eD W [A] p)(hb:ps.length≤1000000000∧ ∀ p∈ps,p.fs.length≤1000000000∧p.aT.length≤1000000000∧p.aC.length≤1000000000)(hw:∀ p∈ps.map bI.p, ∀ f∈p.funcs, ∀ i∈f,ff i.n){u:Value}{acts:List iF}(ha:Rd W [A] ek 4 u acts)(hal:acts.length≤1000000000){n:Int}:Fn Tryz.prog W 4 [v,.int .i64 n,u] [A] Unit (fun _=>.bool true) (fun _=>True) (fun _=>[A]):=by
 refine Fn.intro (N:=108) func4 rfl ntmps4 rfl fun F=>?_
 haveI hRI:∀ (H:List aa) [cf H A],aJ W H v eg 8 ps:=fun H h=>⟨hr.at h.has⟩
 haveI hRJ:∀ (H:List aa) [cf H A],aJ W H u ek 4 acts:=fun H h=>⟨ha.at h.has⟩
 show ax _ _ _ _ _ _ [A,F]
 have hml:(ps.map bI.p).length=ps.length:=List.length_map ..
 refine J 5 ?_
 refine .mX (X:=Value) [2,13,14,15,16,17] (fun u2=>Rd W [A] ek 4 u2 (acts.take 150)) (fun u2=>[(2,some u2)]) (fun _=>[A,F]) ?_ ?_
 ·refine JD 7 (fun h15=>?_) fun h15=>?_
  ·refine J 2 ?_
   refine .p (.sliceTo 150 underlying68 sizeOf74 rfl rfl Rd.s rfl (by omega)) ?_
   refine J 2 ?_
   refine .eK (cut 4 0 150 u) .auto ?_ ?_ ?_
   ·exact Rd.KQ (n:=150) (by omega) ha
   ·exact⟨rfl,trivial⟩
   ·exact fun w s=>aK.kept .auto w s
  ·refine J 1 ?_
   refine .eK u .auto ?_ ?_ ?_
   ·rw[List.take_of_length_le (by omega)];exact ha
   ·exact⟨rfl,trivial⟩
   ·exact fun w s=>aK.kept .auto w s
 ·rintro u2 hsm
  haveI hRK:∀ (H:List aa) [cf H A],aJ W H u2 ek 4 (acts.take 150):=fun H h=>⟨hsm.at h.has⟩
  have hxs2:(acts.take 150).length≤150:=List.length_take_le ..
  refine J 5 ?_
  refine .c call25 rfl (te (n:=n) (acts:=(acts.take 150)) hr hp hb hw hsm (by omega)) fun u22 _=>?_
  refine J 1 ?_
  refine .p (.extract (v:=u22) rfl rfl) ?_
  refine J 11 ?_
  apply aS.fu 5 32 27 [27,28,29,30,31,32] rfl
  ·intro h27
   exact JS 6
  ·intro h27
   exact JS 6
  refine JD 2 (fun h32=>?_) fun h32=>?_
  ·simp only[Bool.or_eq_true,decide_eq_true_eq] at h32
   have hgn:cH (ps.map bI.p) n=none:=eC (by rw[hml];omega)
   rw[(k0 hgn (acts.take 150)).1,(k0 hgn (acts.take 150)).2]
   refine J 2 ?_
   refine .c call26 rfl mj fun _ _=>?_
   exact JR 14 ()
  ·simp only[Bool.or_eq_false_iff,decide_eq_false_iff_not] at h32
   refine J 6 ?_
   obtain⟨i,rfl⟩:∃ i:Nat,n=(i:Int):=⟨n.toNat,by omega⟩
   obtain⟨p0,hxp⟩:=aB (show i<ps.length by omega)
   have hpm:=List.mem_of_getElem? hxp
   have hgi:cH (ps.map bI.p) (i:Int)=some p0.p:=by rw[nV,List.getElem?_map,hxp];rfl
   have hcut:(ps.take (i+1)).drop i=[p0]:=by
    rw[cx hxp,List.drop_append_of_le_length (by rw[List.length_take];omega),List.drop_of_length_le (by rw[List.length_take];omega)];rfl
   have hrc:Rd W [A] eg 8 (cut 8 i (i+1) v) [p0]:=hcut ▸ hr.cut (Nat.le_succ i) (by omega)
   have hw1:∀ p∈ [p0].map bI.p, ∀ f∈p.funcs, ∀ i∈f,ff i.n:=fun p hp=>hw p (by
    rw[show[p0].map bI.p=[p0.p] from rfl,List.mem_singleton] at hp;subst hp;exact List.mem_map.2 ⟨p0,hpm,rfl⟩)
   refine .p (.ix i rfl rfl rfl (by omega)) ?_
   refine .p (.la rfl (Cells.rd Rd.s hxp)) ?_
   refine .c call10 rfl (CU (hp p0 hpm) (hb.2 p0 hpm)) fun _ _=>?_
   refine JD 10 (fun h49=>?_) fun h49=>?_
   ·rw[(mC hgi h49 (acts.take 150)).1,(mC hgi h49 (acts.take 150)).2]
    refine J 2 ?_
    refine .c call26 rfl mj fun _ _=>?_
    refine J 6 ?_
    apply aS.gr 4 60 56 [56,57,58,59,60] rfl
    ·intro h56
     exact JS 5
    ·intro h56
     exact JS 5
    refine J 5 ?_
    refine .aI rfl rfl fun w s=>⟨(),?_,trivial,aq .auto s⟩
    simp
   ·have hc:cK p0.p=0:=Decidable.not_not.mp h49
    rw[(mD hgi hc (acts.take 150)).1,(mD hgi hc (acts.take 150)).2]
    have hk1:gJ 1 [Spc.new p0.p]:=gJ.new (ps:=[p0.p]) (by rw[l5];exact hc) hw1
    refine J 8 ?_
    refine .p (.Ak i (i+1) underlying67 sizeOf25 rfl rfl rfl Rd.s rfl (by omega) (by omega) (by omega)) ?_
    refine .aw rfl (af.fQ rfl call27 rfl (Ae (ps:=[p0]) hrc (fun p hq=>by rw[List.mem_singleton] at hq;subst hq;exact hp p hpm) (fun p hq=>by rw[List.mem_singleton] at hq;subst hq;exact m7 hc) (by show 1≤8;decide)) .auto) ?_
    rintro _ _ ⟨⟨mb,q0⟩,hq0,rfl,rfl⟩
    have hpq:∀ x∈q0,eD W [A] x.1.p:=fun x hx=>by
     have h1:x.1.p∈ [p0]:=by rw[← hq0.p];exact List.mem_map_of_mem (f:=fun y:RV×RSp=>y.1.p) hx
     rw[List.mem_singleton] at h1;rw[h1];exact hp p0 hpm
    have hsim:qf [Spc.new p0.p] q0:=hq0.L2 (fun p hq=>by rw[show[p0].map bI.p=[p0.p] from rfl,List.mem_singleton] at hq;subst hq;exact hc) hw1
    refine J 10 ?_
    refine .da (X:=Nat×List Spc×List (RV×RSp)) [11,12,67,68,69,70,71,72,73,74,75,76,77,78,79,80,81,82,83,84,85,86,87,88,89] (fun z=>(acts.take 150).length-z.1) (fun z=>z.1≤(acts.take 150).length∧z.2.1=(ku [Spc.new p0.p] (dX ((acts.take 150).take z.1) (i:Int)))∧gJ (z.1+1) z.2.1∧z.2.1.length=1∧qf z.2.1 z.2.2∧z.2.2.map (·.1)=q0.map (·.1)) (fun z=>[(11,some (.int .i64 (z.1:Int)))]) (fun z=>[lq mb z.2.2,sl dp 6 u22 (kr (ku [Spc.new p0.p] (dX (acts.take 150) (i:Int))) 0),A,F]) (0,[Spc.new p0.p],q0) ?_ ?_ ?_ ?_
    ·exact⟨Nat.zero_le _,rfl,hk1,rfl,hsim,rfl⟩
    ·exact⟨rfl,trivial⟩
    ·exact fun w s=>aK.kept .auto w s
    rintro⟨k,l,q⟩ ⟨hk,hle,hO,hl,hS,hqm⟩
    simp only at hk hle hO hl hS hqm
    refine JD 9 (fun h70=>?_) fun h70=>?_
    ·refine J 8 ?_
     obtain⟨x,hx⟩:=aB (show k<(acts.take 150).length by omega)
     refine .p (.ix k rfl rfl rfl (by omega)) ?_
     refine .p (.la rfl (Cells.rd Rd.s hx)) ?_
     refine .aw rfl (af.alloc rfl zeroValue74 rfl) ?_
     rintro _ _ ⟨b12,rfl,rfl⟩
     refine .aw rfl (af.tf (vs:=ek x) (by exact sizeOf74) rfl rfl rfl (by rfl)) ?_
     rintro _ _ ⟨rfl,rfl⟩
     refine J 8 ?_
     apply aS.fu 5 85 80 [80,81,82,83,84,85] rfl
     ·intro h80
      exact JS 6
     ·intro h80
      exact JS 6
     refine JD 2 (fun h85=>?_) fun h85=>?_
     ·simp only[Bool.or_eq_true,decide_eq_true_eq] at h85
      have hL:(oDo l {x with space:=0 }).2=ku [Spc.new p0.p] (dX ((acts.take 150).take (k+1)) (i:Int)):=CW hx hle h85
      refine J 4 ?_
      rw[show(ek x).set 1 (.int .i64 0)=ek {x with space:=0 } from rfl]
      refine J 4 ?_
      refine .p (.la rfl (Cells.a (cs:=ek {x with space:=0 }))) ?_
      refine .aw rfl (af.fQ rfl call28 rfl (JQ (l:=l) (q:=q) (a:={x with space:=0 }) hS hO (by omega) (by omega) (HN hqm (P:=fun v=>eD W [A] v.p) hpq)) .auto) ?_
      rintro _ _ ⟨q2,⟨hS2,hqm2⟩,rfl,rfl⟩
      refine J 8 ?_
      refine .bq (k+1,(oDo l {x with space:=0 }).2,q2) .auto rfl ?_ ?_ ?_ ?_
      ·show(acts.take 150).length-(k+1)<(acts.take 150).length-k;omega
      ·exact⟨by show k+1≤_;omega,hL,hO.act (by omega) _,by show(oDo l {x with space:=0 }).2.length=1;rw[AR];exact hl,hS2,hqm2.trans hqm⟩
      ·exact⟨rfl,trivial⟩
      ·exact fun w s=>aK.kept .auto w s
     ·simp only[Bool.or_eq_false_iff,decide_eq_false_iff_not] at h85
      have hL:l=ku [Spc.new p0.p] (dX ((acts.take 150).take (k+1)) (i:Int)):=CX hx hle (by omega)
      refine J 8 ?_
      refine .bq (k+1,l,q) .auto rfl ?_ ?_ ?_ ?_
      ·show(acts.take 150).length-(k+1)<(acts.take 150).length-k;omega
      ·exact⟨by show k+1≤_;omega,hL,hO.more (Nat.le_succ _),hl,hS,hqm⟩
      ·exact⟨rfl,trivial⟩
      ·exact fun w s=>aK.kept .auto w s
    ·obtain rfl:k=(acts.take 150).length:=by omega
     rw[List.take_length] at hle
     rw[← hle]
     have hql:=hS.n
     refine J 7 ?_
     refine .c call26 rfl mj fun _ _=>?_
     refine J 7 ?_
     refine .o2 (C:=lq mb q) .auto rfl ?_
     rintro um xq hxq0
     have hlq:xq.length=q.length:=by rw[← hxq0,List.length_map]
     refine J 3 ?_
     obtain⟨⟨pp,rv,r⟩,hxq⟩:=aB (show 0<xq.length by omega)
     have hqx:q[0]?=some (rv,r):=by rw[← hxq0,List.getElem?_map,hxq];rfl
     obtain⟨s,hsl,hSr⟩:=hS.back hqx
     have hSr:fk rv.p.p s r:=hSr
     have hOs:=hO s (List.mem_of_getElem? hsl)
     refine .g (.ix 0 rfl rfl rfl (by omega)) ?_
     refine .g (.lr rfl hxq) ?_
     refine .fr .auto (FL hxq) ?_
     refine .fr (A:=cp pp rv r) .auto bB ?_
     refine .o1 (C:=jl dp 6 pp 337 r.au) .auto rfl ?_
     rintro vr -
     rw[hSr.rc,show kr l 0=s.au from EI hsl]
     refine J 3 ?_
     refine .cg call21 rfl (FH (A:=seps [sl dp 6 u22 s.au,sl dp 6 vr s.au]) (Rd.kL (Rd.sl .here)) (Rd.kL (Rd.sl (.there .here))) (Nat.le_trans (hOs.rec (by omega)) (by decide))) fun _ _=>?_
     refine J 5 ?_
     refine .aI rfl rfl fun w s=>⟨(),?_,trivial,aq .auto s⟩
     rw[decide_eq_true rfl]
end Go.SLYtefdijgllbkmfaaGreat
