/- Walks of functions, and what they compute. Conditions: none, this text proves no statement. -/
import Derived.Test.YthncobnjdhjnoaaGreatG09
import Derived.Test.YthncobnjdhjnoaaGreatG07
import Derived.Test.YthncobnjdhjnoaaGreatG05
import Derived.Test.YthncobnjdhjnoaaGreatProg
import Derived.KernelRfl
import Derived.Test.YthncobnjdhjnoaaGreatG03
set_option maxRecDepth 20000
set_option maxHeartbeats 4000000
namespace Go.SLYthncobnjdhjnoaaGreat
open Go Go.RowKit
theorem l4(t:Int):∀ (rows:List (List Int)) (n:Nat),(whereFrom t rows n).2=GQ rows t
 | [],_=>rfl
 | r::rows,n=>by
  unfold whereFrom GQ
  rw[List.any_cons]
  by_cases h:t∈r
  ·rw[if_pos h,List.contains_iff_mem.2 h];rfl
  ·rw[if_neg h,l4 t rows (n+1)]
   have:r.contains t=false:=by rw[← Bool.not_eq_true,List.contains_iff_mem];exact h
   rw[this,Bool.false_or];rfl
theorem zT{rows:List (List Int)}{p t:Int}(h:(whereFrom t rows 0).2=true):rAdd rows p t=rows:=by unfold rAdd;rw[l4] at h;rw[if_pos h]
theorem CD{rows:List (List Int)}{p t:Int}(h:aV rows p=none):rAdd rows p t=rows:=by
 unfold rAdd;split
 ·rfl
 ·rw[h]
theorem CE{rows:List (List Int)}{p t:Int}{r:List Int}(h:(whereFrom t rows 0).2=false)(hr:aV rows p=some r):rAdd rows p t=rows.set p.toNat (r++[t]):=by
 unfold rAdd;rw[l4] at h;rw[if_neg (by rw[h];simp),hr]
theorem CF{rows:List (List Int)}{t:Int}(h:(whereFrom t rows 0).2=false){i:Nat}{r:List Int}(hr:rows[i]?=some r):r.contains t=false:=by
 rw[l4] at h
 unfold GQ at h
 have:=List.any_eq_false.1 h r (List.mem_of_getElem? hr)
 simpa using this
theorem zU{l:List Int}{i:Nat}(h:i+1=l.length):l.eraseIdx i=l.dropLast:=by
 rw[List.dropLast_eq_take,List.eraseIdx_eq_take_drop_succ,List.drop_of_length_le (by omega),List.append_nil,show l.length-1=i from by omega]
theorem GR{l:List Int}{t:Int}(h:l.getLast?=some t):∃ i,i+1=l.length∧l[i]?=some t:=by
 rw[List.getLast?_eq_getElem?] at h
 have:=(List.getElem?_eq_some_iff.1 h).1
 exact⟨l.length-1,by omega,h⟩
theorem xY:∀ {rows:List (List Int)} {k:Nat} {r:List Int} {t:Int},(∀ j,j<k→rows[j]?=some [])→rows[k]?=some r→r.getLast?=some t→rSteal rows=some (t,rows.set k r.dropLast)
 | [],_,_,_,_,h,_=>by simp at h
 | x::rows,0,r,t,_,h,ht=>by
  have e:x=r:=by simpa using h
  subst e
  unfold rSteal;rw[ht];rfl
 | x::rows,k+1,r,t,hj,h,ht=>by
  have e:x=[]:=by have:=hj 0 (by omega);simpa using this
  subst e
  have ih:=xY (rows:=rows) (k:=k) (r:=r) (t:=t) (fun j hjk=>by have:=hj (j+1) (by omega);simpa using this) (by simpa using h) ht
  unfold rSteal
  rw[List.getLast?_nil,ih]
  rfl
theorem sh:∀ {rows:List (List Int)},(∀ j,j<rows.length→rows[j]?=some [])→rSteal rows=none
 | [],_=>rfl
 | x::rows,hj=>by
  have e:x=[]:=by have:=hj 0 (by simp);simpa using this
  subst e
  have ih:=sh (rows:=rows) (fun j hjk=>by have:=hj (j+1) (by simp;omega);simpa using this)
  unfold rSteal
  rw[List.getLast?_nil,ih]
def si(rows:List (List Int))(p:Int):Int:=match rPick rows p with | none=>0 | some x=>x.1
def kI(rows:List (List Int))(p:Int):List (List Int):=match rPick rows p with | none=>rows | some x=>x.2
theorem l5{rows:List (List Int)}{p:Int}(h:rPick rows p=none):si rows p=0∧kI rows p=rows:=by unfold si kI;rw[h];exact⟨rfl,rfl⟩
theorem l6{rows rows':List (List Int)}{p t:Int}(h:rPick rows p=some (t,rows')):si rows p=t∧kI rows p=rows':=by unfold si kI;rw[h];exact⟨rfl,rfl⟩
theorem sj{rows:List (List Int)}{p:Int}(h:aV rows p=none):rPick rows p=none:=by unfold rPick;rw[h]
theorem CG{rows:List (List Int)}{p t:Int}{r:List Int}(h:aV rows p=some (t::r)):rPick rows p=some (t,rows.set p.toNat r):=by unfold rPick;rw[h]
theorem sk{rows:List (List Int)}{p:Int}(h:aV rows p=some []):rPick rows p=rSteal rows:=by unfold rPick;rw[h]
theorem Fj{rows:List (List Int)}{k:Nat}{r:List Int}(h:rows[k]?=some r)(hr:r≠[]):gX rows=false:=by
 unfold gX
 rw[List.all_eq_false]
 exact⟨r,List.mem_of_getElem? h,by simpa using hr⟩
theorem CH{rows:List (List Int)}(h:∀ j,j<rows.length→rows[j]?=some []):gX rows=true:=by
 unfold gX
 rw[List.all_eq_true]
 intro r hr
 obtain⟨j,hj⟩:=List.mem_iff_getElem?.1 hr
 have:=h j (List.getElem?_eq_some_iff.1 hj).1
 rw[hj] at this
 simpa using this
theorem uh{xs:List (Nat×List Int)}{rs:List (List Int)}(h:xs.map (·.2)=rs){p:Int}:aV rs p=(aV xs p).map (·.2):=by
 rw[← h];unfold aV;split
 ·rfl
 ·rw[List.getElem?_map]
theorem l7{xs:List (Nat×List Int)}{i q:Nat}{r:List Int}(hx:xs[i]?=some (q,r)):∀ g,aO (fun x:Nat×List Int=>eK x.1 x.2) xs g→seps [eK q r,aO (fun x:Nat×List Int=>eK x.1 x.2) (xs.eraseIdx i)] g:=cY (f:=fun x:Nat×List Int=>eK x.1 x.2) hx
theorem oh{b:Nat}{v:Value}{xs:List (Nat×List Int)}{rs:List (List Int)}(h:xs.map (·.2)=rs):∀ g,seps [arr b 0 [v],sl cX 1 v xs,aO (fun x:Nat×List Int=>eK x.1 x.2) xs] g→fy b rs g:=fun _ a=>⟨v,xs,h,a⟩
theorem Fk{xs:List (Nat×List Int)}{i q:Nat}{r r':List Int}{v:Value}(hx:xs[i]?=some (q,r)):∀ g,sl cX 1 v xs g→sl cX 1 v (xs.set i (q,r')) g:=fun g s=>by
 have hl:rows cX (xs.set i (q,r'))=rows cX xs:=by
  have e:∀ (l l':List (Nat×List Int)),l.map (·.1)=l'.map (·.1)→rows cX l=rows cX l':=fun l=>by
   induction l with
   | nil=>intro l' h;cases l' with
    | nil=>rfl
    | cons y ys=>cases h
   | cons x l ih=>intro l' h;cases l' with
    | nil=>cases h
    | cons y ys =>
     simp only[List.map_cons,List.cons.injEq] at h
     rw[eD,eD,ih ys h.2]
     show[ptr x.1]++_=[ptr y.1]++_
     rw[h.1]
  refine e _ _ ?_
  rw[List.map_set]
  have:(xs.map (·.1))[i]?=some q:=by rw[List.getElem?_map,hx];rfl
  exact jC this
 rcases s with ⟨a,rfl,e⟩ | ⟨b,cap,sp,e1,e2, -,e4,e5⟩
 ·simp at hx
 ·exact .inr ⟨b,cap,sp,by rw[List.length_set];exact e1,by rw[List.length_set];exact e2,fun _ _=>rfl,by rw[List.length_set];exact e4,by rw[hl];exact e5⟩
theorem o0{b:Nat}{v:Value}{xs:List (Nat×List Int)}{rs:List (List Int)}{i q:Nat}{r:List Int}(h:xs.map (·.2)=rs)(hx:xs[i]?=some (q,r))(r':List Int):∀ g,seps [arr b 0 [v],sl cX 1 v xs,eK q r',aO (fun x:Nat×List Int=>eK x.1 x.2) (xs.eraseIdx i)] g→fy b (rs.set i r') g:=fun g a=>by
 refine⟨v,xs.set i (q,r'),by show(xs.set i (q,r')).map (·.2)=_;rw[List.map_set,h],?_⟩
 simp only[seps,aH] at a ⊢
 refine bn (fun _ b=>b) (bn (Fk hx) (fun g b=>?_)) g a
 rw[ik _ _ (List.getElem?_eq_some_iff.1 hx).1];exact b
theorem zV{W:World}{H R K As:List aa}(t:Take H (seps As) R)(h:∀ w,Sat W w (seps (As++R))→Sat W w (seps K)):∀ w,Sat W w (seps H)→Sat W w (seps K):=fun w s=>h w (by rw[ah, ← t.seps];exact s)
def wE(l:List Ev):Ev:=match evWithin l with | none=>⟨0,0,0⟩ | some x=>x.1
def wR(l:List Ev):List Ev:=match evWithin l with | none=>l | some x=>x.2
theorem CI{l:List Ev}(h:idxP gr l 0<0):evWithin l=none:=if_pos h
theorem zW{l:List Ev}(h:¬idxP gr l 0<0)(hl:(idxP gr l 0).toNat<l.length):∃ i e,idxP gr l 0=((i:Nat):Int)∧l[i]?=some e∧evWithin l=some (e,l.take i++l.drop (i+1)):=by
 obtain⟨e,he⟩:=al hl
 refine⟨(idxP gr l 0).toNat,e,by omega,he,?_⟩
 unfold evWithin;rw[if_neg h,he]
theorem Bh{α:Type}{p:α→Bool}:∀ (l:List α) (k:Nat),idxP p l k<((k+l.length:Nat):Int)
 | [],k=>by show(-1:Int)<_;omega
 | x::l,k=>by
  unfold idxP
  split
  ·simp only[List.length_cons];omega
  ·have:=Bh (p:=p) l (k+1);simp only[List.length_cons];omega
end Go.SLYthncobnjdhjnoaaGreat
namespace Go.SLYthncobnjdhjnoaaGreat
open Go Go.RowKit Go.Proofs Go.Proofs.Tryz
attribute [local irreducible] aq aJ ba bq bu Y
theorem xZ{W:World}{b:Nat}{l:List Int}{n:Int}(hl:l.length≤1000000000):Fn Tryz.prog W 149 [ptr b,.int .i64 n] [eK b l] Unit (fun _=>.bool (!l.contains n)) (fun _=>True) (fun _=>[eK b l]):=by
 refine Fn.intro (N:=16) func149 rfl ntmps149 rfl fun F=>?_
 show aq _ _ _ _ _ _ [eK b l,F]
 refine .o1 (C:=eK b l) .auto rfl ?_
 rintro v -
 refine J 15 ?_
 refine .cg call170 rfl (tK (A:=sl ar 1 v l) (Rd.sl .here) hl) fun _ _=>?_
 exact JR 6 ()
theorem vH{W:World}{n:Int}:Fn Tryz.prog W 149 [.pointer none,.int .i64 n] [] Unit (fun _=>.bool false) (fun _=>True) (fun _=>[]):=by
 refine Fn.intro (N:=16) func149 rfl ntmps149 rfl fun F=>?_
 show aq _ _ _ _ _ _ [F]
 exact JR 22 ()
theorem zX{W:World}{b:Nat}{l:List Int}{n:Int}(hl:l.length≤1000000000)(hn:l.contains n=false):Fn Tryz.prog W 131 [ptr b,.int .i64 n] [eK b l] Unit (fun _=>.bool true) (fun _=>True) (fun _=>[eK b (l++[n])]):=by
 refine Fn.intro (N:=19) func131 rfl ntmps131 rfl fun F=>?_
 show aq _ _ _ _ _ _ [eK b l,F]
 refine J 10 ?_
 refine .c call149 rfl (xZ hl) fun _ _=>?_
 rw[hn]
 refine JD 3 (fun h8=>?_) fun h8=>?_
 ·cases h8
 ·refine J 5 ?_
  refine .o1 (C:=eK b l) .auto rfl ?_
  rintro v -
  refine J 5 ?_
  refine .ai rfl (ab.fG 3 rfl rfl (by kernel_rfl)) ?_
  rintro _ _ ⟨b15,rfl,rfl⟩
  refine .ai rfl (ab.gv (enc:=ar) (k:=1) n rfl underlying33 underlying33 typeInfo3 rfl rfl rfl (by decide) rfl rfl rfl .auto rfl .auto (by omega) rfl) ?_
  rintro _ _ ⟨v16,rfl,rfl⟩
  refine J 2 ?_
  refine .ai rfl (ab.ng sizeOf33 rfl rfl rfl) ?_
  rintro _ _ ⟨rfl,rfl⟩
  exact JR 8 ()
theorem ya{W:World}{n:Int}:Fn Tryz.prog W 131 [.pointer none,.int .i64 n] [] Unit (fun _=>.bool false) (fun _=>True) (fun _=>[]):=by
 refine Fn.intro (N:=19) func131 rfl ntmps131 rfl fun F=>?_
 show aq _ _ _ _ _ _ [F]
 refine J 10 ?_
 refine .c call149 rfl vH fun _ _=>?_
 refine J 3 ?_
 refine .eM rfl ?_
 exact JR 7 ()
theorem ui{W:World}{b:Nat}{l:List Int}{a x:Int}{i:Nat}(hl:l.length≤1000000000)(hx:l[i]?=some x)(ha:(0≤a∧a=(i:Int))∨(a<0∧a+(l.length:Int)=(i:Int))):Fn Tryz.prog W 132 [ptr b,.int .i64 a] [eK b l] Unit (fun _=>.tuple #[.int .i64 x,.bool true]) (fun _=>True) (fun _=>[eK b (l.eraseIdx i)]):=by
 refine Fn.intro (N:=45) func132 rfl ntmps132 rfl fun F=>?_
 show aq _ _ _ _ _ _ [eK b l,F]
 refine .o1 (C:=eK b l) .auto rfl ?_
 rintro v -
 have hi:=(List.getElem?_eq_some_iff.1 hx).1
 refine JD 21 (fun h16=>?_) fun h16=>?_
 ·exact absurd h16 (by omega)
 ·refine JD 9 (fun h18=>?_) fun h18=>?_
  ·refine J 7 ?_
   refine .p (.add rfl rfl (by omega)) ?_
   refine J 10 ?_
   refine .p (.ix i rfl rfl (by omega) hi) ?_
   refine .p (.lr rfl hx) ?_
   refine J 10 ?_
   refine .p (.eS (Y.m rfl) (show _=(i:Int) by omega)) ?_
   refine J 1 ?_
   refine .p (.eS (Y.add rfl rfl (by omega)) (show _=((i+1:Nat):Int) by omega)) ?_
   refine .c call150 rfl (vB hi hl) fun u41 _=>?_
   refine J 2 ?_
   refine .ai rfl (ab.ng sizeOf33 rfl rfl rfl) ?_
   rintro _ _ ⟨rfl,rfl⟩
   exact JR 10 ()
  ·refine J 9 ?_
   refine .p (.ix i rfl rfl (by omega) hi) ?_
   refine .p (.lr rfl hx) ?_
   refine J 10 ?_
   refine .p (.eS (Y.m rfl) (show _=(i:Int) by omega)) ?_
   refine J 1 ?_
   refine .p (.eS (Y.add rfl rfl (by omega)) (show _=((i+1:Nat):Int) by omega)) ?_
   refine .c call150 rfl (vB hi hl) fun u41 _=>?_
   refine J 2 ?_
   refine .ai rfl (ab.ng sizeOf33 rfl rfl rfl) ?_
   rintro _ _ ⟨rfl,rfl⟩
   exact JR 10 ()
theorem so{W:World}{b:Nat}{a:Int}:Fn Tryz.prog W 132 [ptr b,.int .i64 a] [eK b []] Unit (fun _=>.tuple #[.int .i64 0,.bool false]) (fun _=>True) (fun _=>[eK b []]):=by
 refine Fn.intro (N:=45) func132 rfl ntmps132 rfl fun F=>?_
 show aq _ _ _ _ _ _ [eK b [],F]
 refine .o1 (C:=eK b []) .auto rfl ?_
 rintro v -
 refine JD 21 (fun h16=>?_) fun h16=>?_
 ·exact JR 8 ()
 ·exact absurd rfl h16
theorem CJ{W:World}{b:Nat}{t:Int}{l:List Int}(hl:(t::l).length≤1000000000):Fn Tryz.prog W 119 [ptr b] [eK b (t::l)] Unit (fun _=>.tuple #[.int .i64 t,.bool true]) (fun _=>True) (fun _=>[eK b l]):=by
 refine Fn.intro (N:=8) func119 rfl ntmps119 rfl fun F=>?_
 show aq _ _ _ _ _ _ [eK b (t::l),F]
 refine J 9 ?_
 refine .c call132 rfl (ui (l:=t::l) (i:=0) hl rfl (.inl ⟨Int.le_refl _,rfl⟩)) fun _ _=>?_
 rw[show(t::l).eraseIdx 0=l from rfl]
 exact JR 7 ()
theorem zY{W:World}{b:Nat}:Fn Tryz.prog W 119 [ptr b] [eK b []] Unit (fun _=>.tuple #[.int .i64 0,.bool false]) (fun _=>True) (fun _=>[eK b []]):=by
 refine Fn.intro (N:=8) func119 rfl ntmps119 rfl fun F=>?_
 show aq _ _ _ _ _ _ [eK b [],F]
 refine J 9 ?_
 refine .c call132 rfl so fun _ _=>?_
 exact JR 7 ()
theorem sW{W:World}{b i:Nat}{t:Int}{l:List Int}(hl:l.length≤1000000000)(hi:i+1=l.length)(ht:l[i]?=some t):Fn Tryz.prog W 120 [ptr b] [eK b l] Unit (fun _=>.tuple #[.int .i64 t,.bool true]) (fun _=>True) (fun _=>[eK b l.dropLast]):=by
 refine Fn.intro (N:=8) func120 rfl ntmps120 rfl fun F=>?_
 show aq _ _ _ _ _ _ [eK b l,F]
 refine J 9 ?_
 refine .c call132 rfl (ui (i:=i) hl ht (.inr ⟨by decide,by omega⟩)) fun _ _=>?_
 rw[zU hi]
 exact JR 7 ()
theorem sq{W:World}{b:Nat}:Fn Tryz.prog W 120 [ptr b] [eK b []] Unit (fun _=>.tuple #[.int .i64 0,.bool false]) (fun _=>True) (fun _=>[eK b []]):=by
 refine Fn.intro (N:=8) func120 rfl ntmps120 rfl fun F=>?_
 show aq _ _ _ _ _ _ [eK b [],F]
 refine J 9 ?_
 refine .c call132 rfl so fun _ _=>?_
 exact JR 7 ()
theorem lE{W:World}{b:Nat}{v:Value}{xs:List (Nat×List Int)}{n:Int}(_hl:xs.length≤1000000000):Fn Tryz.prog W 118 [ptr b,.int .i64 n] [arr b 0 [v],sl cX 1 v xs] Unit (fun _=>dN ((aV xs n).map (·.1))) (fun _=>True) (fun _=>[arr b 0 [v],sl cX 1 v xs]):=by
 refine Fn.intro (N:=27) func118 rfl ntmps118 rfl fun F=>?_
 show aq _ _ _ _ _ _ [arr b 0 [v],sl cX 1 v xs,F]
 refine J 15 ?_
 refine .wc (t:=11) rfl (fun h11=>?_) (fun h11=>?_)
 ·refine J 10 ?_
  refine .eM rfl ?_
  refine J 7 ?_
  refine .aP rfl rfl fun w s=>⟨(),?_,trivial,aj .auto s⟩
  rw[fg (by omega)];rfl
 ·refine JD 10 (fun h19=>?_) fun h19=>?_
  ·refine J 7 ?_
   refine .aP rfl rfl fun w s=>⟨(),?_,trivial,aj .auto s⟩
   rw[fg (by omega)];rfl
  ·refine J 9 ?_
   obtain⟨x,hx,hg⟩:=cx (l:=xs) (i:=n) ⟨by omega,by omega⟩
   refine .p (.ix n.toNat rfl rfl (by omega) (by omega)) ?_
   refine .p (.lr rfl hx) ?_
   refine J 4 ?_
   refine .aP rfl rfl fun w s=>⟨(),?_,trivial,aj .auto s⟩
   rw[hg];rfl
theorem Fl{W:World}{b:Nat}{rs:List (List Int)}{p t:Int}(hl:rs.length≤64∧ ∀ r∈rs,r.length≤900000000):Fn Tryz.prog W 117 [ptr b,.int .i64 p,.int .i64 t] [fy b rs] Bool (fun u=>.bool u) (fun _=>True) (fun _=>[fy b (rAdd rs p t)]):=by
 refine Fn.intro (N:=21) func117 rfl ntmps117 rfl fun F=>?_
 show aq _ _ _ _ _ _ [fy b rs,F]
 have hlb:rs.length≤64∧ ∀ r∈rs,r.length≤1000000000:=⟨hl.1,fun r hr=>Nat.le_trans (hl.2 r hr) (by decide)⟩
 refine J 10 ?_
 refine .c call130 rfl (zC hlb) fun _ _=>?_
 refine JD 12 (fun h15=>?_) fun h15=>?_
 ·refine J 7 ?_
  rw[zT h15]
  exact JR 0 false
 ·refine .o2 (C:=fy b rs) .auto rfl ?_
  rintro v xs hxs
  have hxl:=aE hxs
  have hgr:=uh hxs (p:=p)
  refine J 3 ?_
  rcases hg:aV xs p with _ | ⟨q,r⟩
  ·rw[hg] at hgr
   refine J 3 ?_
   refine .c call118 rfl (lE (xs:=xs) (n:=p) (by omega)) fun _ _=>?_
   rw[hg]
   refine J 1 ?_
   refine .c call131 rfl ya fun _ _=>?_
   refine J 4 ?_
   rw[CD hgr]
   refine .to (A:=fy b rs) (Bs:=[arr b 0 [v],sl cX 1 v xs,aO (fun x:Nat×List Int=>eK x.1 x.2) xs]) .auto (oh hxs) ?_
   exact JR 0 false
  ·rw[hg] at hgr
   have hx:=(dj hg).2.2
   have hrx:=(dj hgr).2.2
   refine J 3 ?_
   refine .c call118 rfl (lE (xs:=xs) (n:=p) (by omega)) fun _ _=>?_
   rw[hg]
   refine .fr .auto (l7 hx) ?_
   refine J 1 ?_
   refine .c call131 rfl (zX (l:=r) (hlb.2 r (List.mem_of_getElem? hrx)) (CF h15 hrx)) fun _ _=>?_
   refine J 4 ?_
   rw[CE h15 hgr]
   refine .to (A:=fy b (rs.set p.toNat (r++[t]))) (Bs:=[arr b 0 [v],sl cX 1 v xs,eK q (r++[t]),aO (fun x:Nat×List Int=>eK x.1 x.2) (xs.eraseIdx p.toNat)]) .auto (o0 hxs hx (r++[t])) ?_
   exact JR 0 true
theorem CK{W:World}{b:Nat}{rs:List (List Int)}{p:Int}(hl:rs.length≤64∧ ∀ r∈rs,r.length≤900000000):Fn Tryz.prog W 93 [ptr b,.int .i64 p] [fy b rs] Unit (fun _=>.tuple #[.int .i64 (si rs p),.bool (rPick rs p).isSome]) (fun _=>True) (fun _=>[fy b (kI rs p)]):=by
 refine Fn.intro (N:=44) func93 rfl ntmps93 rfl fun F=>?_
 show aq _ _ _ _ _ _ [fy b rs,F]
 have hlb:rs.length≤64∧ ∀ r∈rs,r.length≤1000000000:=⟨hl.1,fun r hr=>Nat.le_trans (hl.2 r hr) (by decide)⟩
 refine .o2 (C:=fy b rs) .auto rfl ?_
 rintro v xs hxs
 have hxl:=aE hxs
 have hgr:=uh hxs (p:=p)
 refine J 1 ?_
 rcases hg:aV xs p with _ | ⟨q,_ | ⟨t,r⟩⟩
 ·rw[hg] at hgr
  refine J 9 ?_
  refine .c call118 rfl (lE (xs:=xs) (n:=p) (by omega)) fun _ _=>?_
  rw[hg]
  refine J 10 ?_
  refine .eM rfl ?_
  refine J 8 ?_
  rw[(l5 (sj hgr)).1,(l5 (sj hgr)).2,sj hgr]
  refine .to (A:=fy b rs) (Bs:=[arr b 0 [v],sl cX 1 v xs,aO (fun x:Nat×List Int=>eK x.1 x.2) xs]) .auto (oh hxs) ?_
  exact JR 0 ()
 ·rw[hg] at hgr
  have hx:=(dj hg).2.2
  refine J 9 ?_
  refine .c call118 rfl (lE (xs:=xs) (n:=p) (by omega)) fun _ _=>?_
  rw[hg]
  refine .fr .auto (l7 hx) ?_
  refine J 10 ?_
  refine .eN rfl ?_
  refine J 6 ?_
  refine .c call119 rfl zY fun _ _=>?_
  refine .to (A:=aO (fun x:Nat×List Int=>eK x.1 x.2) xs) (Bs:=[eK q [],aO (fun x:Nat×List Int=>eK x.1 x.2) (xs.eraseIdx p.toNat)]) .auto (dR (f:=(fun x:Nat×List Int=>eK x.1 x.2)) hx) ?_
  refine J 12 ?_
  refine .eN rfl ?_
  refine J 19 ?_
  refine .bf (X:=Nat) [4,5,11,12,13,31,32,33,34,35,36,37,38,39,40,41,42,43] (fun z=>rs.length-z) (fun z=>z≤rs.length∧ ∀ j,j<z→rs[j]?=some []) (fun z=>[(31,some (.int .i64 (z:Int)))]) (fun z=>[arr b 0 [v],sl cX 1 v xs,aO (fun x:Nat×List Int=>eK x.1 x.2) xs,F]) 0 ?_ ?_ ?_ ?_
  ·exact⟨Nat.zero_le _,fun j h=>absurd h (Nat.not_lt_zero _)⟩
  ·exact⟨rfl,trivial⟩
  ·exact fun w s=>au.kept .auto w s
  rintro k ⟨hk,hj⟩
  refine JD 6 (fun h32=>?_) fun h32=>?_
  ·obtain⟨⟨q2,r⟩,hxk⟩:=al (show k<xs.length by omega)
   have hrk:rs[k]?=some r:=ff hxs hxk
   refine J 5 ?_
   rcases hlast:r.getLast? with _ | t
   ·have hr0:r=[]:=List.getLast?_eq_none_iff.1 hlast
    subst hr0
    refine J 2 ?_
    refine .p (.lr rfl hxk) ?_
    refine J 7 ?_
    refine .fr .auto (l7 hxk) ?_
    refine .ai rfl (ab.jZ rfl rfl call120 rfl sq .auto) ?_
    rintro _ _ ⟨⟨⟩, -,rfl,rfl⟩
    refine .to (A:=aO (fun x:Nat×List Int=>eK x.1 x.2) xs) (Bs:=[eK q2 [],aO (fun x:Nat×List Int=>eK x.1 x.2) (xs.eraseIdx k)]) .auto (dR (f:=(fun x:Nat×List Int=>eK x.1 x.2)) hxk) ?_
    refine J 12 ?_
    refine .eN rfl ?_
    refine J 7 ?_
    refine .aF (k+1) .auto rfl ?_ ?_ ?_ ?_
    ·omega
    ·exact⟨by omega,fun j h=>by
      rcases Nat.lt_or_ge j k with h2 | h2
      ·exact hj j h2
      ·obtain rfl:j=k:=by omega
       exact hrk⟩
    ·exact⟨rfl,trivial⟩
    ·exact fun w s=>au.kept .auto w s
   ·obtain⟨i,hi,hti⟩:=GR hlast
    have hpk:rPick rs p=some (t,rs.set k r.dropLast):=(sk hgr).trans (xY hj hrk hlast)
    refine J 2 ?_
    refine .p (.lr rfl hxk) ?_
    refine J 7 ?_
    refine .fr .auto (l7 hxk) ?_
    refine .ai rfl (ab.jZ rfl rfl call120 rfl (sW (hlb.2 r (List.mem_of_getElem? hrk)) hi hti) .auto) ?_
    rintro _ _ ⟨⟨⟩, -,rfl,rfl⟩
    refine J 12 ?_
    refine .eM rfl ?_
    refine J 13 ?_
    rw[(l6 hpk).1,(l6 hpk).2,hpk]
    refine .to (A:=fy b (rs.set k r.dropLast)) (Bs:=[arr b 0 [v],sl cX 1 v xs,eK q2 r.dropLast,aO (fun x:Nat×List Int=>eK x.1 x.2) (xs.eraseIdx k)]) .auto (o0 hxs hxk r.dropLast) ?_
    exact JR 0 ()
  ·obtain rfl:k=rs.length:=by omega
   have hpk:rPick rs p=none:=(sk hgr).trans (sh hj)
   refine J 12 ?_
   rw[(l5 hpk).1,(l5 hpk).2,hpk]
   refine .to (A:=fy b rs) (Bs:=[arr b 0 [v],sl cX 1 v xs,aO (fun x:Nat×List Int=>eK x.1 x.2) xs]) .auto (oh hxs) ?_
   exact JR 0 ()
 ·rw[hg] at hgr
  have hx:=(dj hg).2.2
  have hpk:rPick rs p=some (t,rs.set p.toNat r):=CG hgr
  refine J 9 ?_
  refine .c call118 rfl (lE (xs:=xs) (n:=p) (by omega)) fun _ _=>?_
  rw[hg]
  refine .fr .auto (l7 hx) ?_
  refine J 10 ?_
  refine .eN rfl ?_
  refine J 6 ?_
  refine .c call119 rfl (CJ (hlb.2 (t::r) (List.mem_of_getElem? (dj hgr).2.2))) fun _ _=>?_
  refine J 12 ?_
  refine .eM rfl ?_
  refine J 9 ?_
  rw[(l6 hpk).1,(l6 hpk).2,hpk]
  refine .to (A:=fy b (rs.set p.toNat r)) (Bs:=[arr b 0 [v],sl cX 1 v xs,eK q r,aO (fun x:Nat×List Int=>eK x.1 x.2) (xs.eraseIdx p.toNat)]) .auto (o0 hxs hx r) ?_
  exact JR 0 ()
theorem zZ{W:World}{b:Nat}{rs:List (List Int)}(hl:rs.length≤64∧ ∀ r∈rs,r.length≤900000000):Fn Tryz.prog W 70 [ptr b] [fy b rs] Unit (fun _=>.bool (gX rs)) (fun _=>True) (fun _=>[fy b rs]):=by
 refine Fn.intro (N:=21) func70 rfl ntmps70 rfl fun F=>?_
 show aq _ _ _ _ _ _ [fy b rs,F]
 have hlb:rs.length≤64∧ ∀ r∈rs,r.length≤1000000000:=⟨hl.1,fun r hr=>Nat.le_trans (hl.2 r hr) (by decide)⟩
 refine .o2 (C:=fy b rs) .auto rfl ?_
 rintro v xs hxs
 have hxl:=aE hxs
 refine J 12 ?_
 refine .eN rfl ?_
 refine J 14 ?_
 refine .bf (X:=Nat) [2,4,12,13,14,15,16,17,18,19,20] (fun z=>rs.length-z) (fun z=>z≤rs.length∧ ∀ j,j<z→rs[j]?=some []) (fun z=>[(12,some (.int .i64 (z:Int)))]) (fun z=>[arr b 0 [v],sl cX 1 v xs,aO (fun x:Nat×List Int=>eK x.1 x.2) xs,F]) 0 ?_ ?_ ?_ ?_
 ·exact⟨Nat.zero_le _,fun j h=>absurd h (Nat.not_lt_zero _)⟩
 ·exact⟨rfl,trivial⟩
 ·exact fun w s=>au.kept .auto w s
 rintro k ⟨hk,hj⟩
 refine JD 6 (fun h13=>?_) fun h13=>?_
 ·refine J 6 ?_
  obtain⟨⟨q,r⟩,hx⟩:=al (show k<xs.length by omega)
  have hrk:rs[k]?=some r:=ff hxs hx
  refine J 1 ?_
  refine .p (.lr rfl hx) ?_
  refine J 6 ?_
  refine .fr .auto (l7 hx) ?_
  refine .c call97 rfl (tT (l:=r) (hlb.2 r (List.mem_of_getElem? hrk))) fun u17 _=>?_
  refine .to (A:=aO (fun x:Nat×List Int=>eK x.1 x.2) xs) (Bs:=[eK q r,aO (fun x:Nat×List Int=>eK x.1 x.2) (xs.eraseIdx k)]) .auto (dR (f:=(fun x:Nat×List Int=>eK x.1 x.2)) hx) ?_
  refine JD 4 (fun h19=>?_) fun h19=>?_
  ·have he:gX rs=false:=Fj hrk (fun e=>by rw[e] at h19;simp at h19)
   refine J 11 ?_
   rw[he]
   refine .to (A:=fy b rs) (Bs:=[arr b 0 [v],sl cX 1 v xs,aO (fun x:Nat×List Int=>eK x.1 x.2) xs]) .auto (oh hxs) ?_
   exact JR 0 ()
  ·refine J 7 ?_
   refine .aF (k+1) .auto rfl ?_ ?_ ?_ ?_
   ·omega
   ·exact⟨by omega,fun j h=>by
     rcases Nat.lt_or_ge j k with h2 | h2
     ·exact hj j h2
     ·obtain rfl:j=k:=by omega
      have hr0:r=[]:=List.eq_nil_of_length_eq_zero (by omega)
      rw[hrk,hr0]⟩
   ·exact⟨rfl,trivial⟩
   ·exact fun w s=>au.kept .auto w s
 ·obtain rfl:k=rs.length:=by omega
  have he:gX rs=true:=CH hj
  refine J 11 ?_
  rw[he]
  refine .to (A:=fy b rs) (Bs:=[arr b 0 [v],sl cX 1 v xs,aO (fun x:Nat×List Int=>eK x.1 x.2) xs]) .auto (oh hxs) ?_
  exact JR 0 ()
theorem yb{W:World}{A:aa}{v:Value}{xs:List Ev}{p:Ev→Bool}{g:Nat}(hr:Rd W [A] bW 3 v xs)(hl:xs.length≤1000000000)(hg:∀ args w,(callFunc g args).run Tryz.prog w = .ok (.enter g args) w)(hf:∀ x∈xs,Fn Tryz.prog W g [.agg (bW x).toArray] [A] Unit (fun _=>.bool (p x)) (fun _=>True) (fun _=>[A])):Fn Tryz.prog W 115 [v,.func (.func g) #[] #[]] [A] Unit (fun _=>.int .i64 (idxP p xs 0)) (fun _=>True) (fun _=>[A]):=by
 refine Fn.intro (N:=19) func115 rfl ntmps115 rfl fun F=>?_
 haveI hRI:∀ (H:List aa) [bE H A],aG W H v bW 3 xs:=fun H h=>⟨hr.at h.has⟩
 show aq _ _ _ _ _ _ [A,F]
 refine J 14 ?_
 refine .bf (X:=Nat) [4,5,8,9,10,11,12,13,14,15,16,17,18] (fun k=>xs.length-k) (fun k=>k≤xs.length∧idxP p xs 0=idxP p (xs.drop k) k) (fun k=>[(8,some (.int .i64 (k:Int)))]) (fun k=>[A,F]) 0 ?_ ?_ ?_ ?_
 ·exact⟨Nat.zero_le _,by simp⟩
 ·exact⟨rfl,trivial⟩
 ·exact fun w s=>au.kept .auto w s
 rintro k ⟨hk,hn⟩
 refine JD 6 (fun h9=>?_) fun h9=>?_
 ·refine J 15 ?_
  obtain⟨x,hx⟩:=al (show k<xs.length by omega)
  refine J 2 ?_
  refine .ai rfl (ab.jZ rfl rfl hg rfl (hf x (List.mem_of_getElem? hx)) .auto) ?_
  rintro _ _ ⟨⟨⟩, -,rfl,rfl⟩
  refine JD 2 (fun h16=>?_) fun h16=>?_
  ·refine J 12 ?_
   refine .aP rfl rfl fun w s=>⟨(),?_,trivial,aj .auto s⟩
   rw[hn,iy hx h16]
  ·refine J 7 ?_
   refine .aF (k+1) .auto rfl ?_ ?_ ?_ ?_
   ·first | omega | (dsimp only;omega)
   ·exact⟨by omega,hn.trans (gz hx h16)⟩
   ·exact⟨rfl,trivial⟩
   ·exact fun w s=>au.kept .auto w s
 ·refine J 11 ?_
  refine .aP rfl rfl fun w s=>⟨(),?_,trivial,aj .auto s⟩
  rw[hn,iz (by omega)]
theorem sX{W:World}{A:aa}{e:Ev}:Fn Tryz.prog W 116 [.agg (bW e).toArray] [A] Unit (fun _=>.bool (gr e)) (fun _=>True) (fun _=>[A]):=by
 refine Fn.intro (N:=6) func116 rfl ntmps116 rfl fun F=>?_
 show aq _ _ _ _ _ _ [A,F]
 refine J 2 ?_
 refine .ai rfl (ab.box rfl rfl rfl) ?_
 rintro _ _ ⟨b1,rfl,rfl⟩
 exact JR 12 ()
theorem vI{W:World}{A:aa}{v:Value}{xs:List Ev}(hr:Rd W [A] bW 3 v xs)(hl:xs.length≤900000000):Fn Tryz.prog W 88 [v] [A] Value (fun u=>.tuple #[.agg (bW (wE xs)).toArray,u,.bool (evWithin xs).isSome]) (fun _=>True) (fun u=>[sl bW 3 u (wR xs),A]):=by
 refine Fn.intro (N:=26) func88 rfl ntmps88 rfl fun F=>?_
 refine .cA (fun w s=>Rd.shape (hr.at .here) w s) fun e=>?_
 obtain⟨a1,c1,rfl⟩:=e
 haveI hRI:∀ (H:List aa) [bE H A],aG W H (.slice a1 xs.length c1) bW 3 xs:=fun H h=>⟨hr.at h.has⟩
 show aq _ _ _ _ _ _ [A,F]
 refine J 2 ?_
 refine .ai rfl (ab.alloc rfl zeroValue80 rfl) ?_
 rintro _ _ ⟨b2,rfl,rfl⟩
 refine J 7 ?_
 refine .c call115 rfl (yb (p:=gr) (g:=116) hr (by omega) call116 (fun e _=>sX)) fun _ _=>?_
 refine JD 10 (fun h9=>?_) fun h9=>?_
 ·have hw:=CI h9
  refine J 2 ?_
  refine .p (.l9 ([(.int .i64 0),(.int .i64 0),(.int .i64 0)]) (by kernel_rfl)) ?_
  refine J 1 ?_
  refine .c call79 rfl (oW hr (by omega)) fun u12 _=>?_
  refine J 7 ?_
  rw[show wE xs=⟨0,0,0⟩ from by unfold wE;rw[hw],show wR xs=xs from by unfold wR;rw[hw],hw]
  refine .C5 rfl rfl isAgg80 (by exact sizeOf80) Cells.a rfl rfl fun w s=>⟨u12,?_,trivial,aj .auto s⟩
  rfl
 ·have hil:=Bh (p:=gr) xs 0
  obtain⟨i,x,hid,hx,hw⟩:=zW h9 (by omega)
  rw[hid]
  have hib:=(List.getElem?_eq_some_iff.1 hx).1
  have hr1:=hr.cut (lo:=0) (hi:=i) (Nat.zero_le _) (by omega)
  have hr2:=hr.cut (lo:=i+1) (hi:=xs.length) (by omega) (Nat.le_refl _)
  refine J 3 ?_
  refine .draw [A] [0,0,0,0,1,1,1,1,1,1,1,2,2,3,1,1] rfl (by kernel_rfl) ?_
  refine J 2 ?_
  refine .q (.ix i rfl rfl rfl (by omega)) ?_
  refine .q (.la rfl (Cells.rd Rd.s hx)) ?_
  refine J 2 ?_
  refine .p (.sliceTo i underlying71 sizeOf80 rfl rfl Rd.s rfl (by omega)) ?_
  refine J 3 ?_
  refine .p (.sliceFrom (i+1) underlying71 sizeOf80 rfl rfl Rd.s rfl (by omega)) ?_
  refine .d2 rfl Kept.auto (ab.fG 71 rfl rfl (by kernel_rfl)) (by rintro _ _ ⟨b24,rfl,rfl⟩;exact Kept.auto) ?_
  rintro _ _ ⟨b24,rfl,rfl⟩
  refine .d2 rfl Kept.auto (ab.dX rfl call98 rfl (A5 (A:=seps [arr b24 0 [(cut 3 0 i (.slice a1 xs.length c1)),(cut 3 (i+1) xs.length (.slice a1 xs.length c1))],A]) (qs:=[((cut 3 0 i (.slice a1 xs.length c1)),xs.take i),((cut 3 (i+1) xs.length (.slice a1 xs.length c1)),xs.drop (i+1))]) (Rd.et (Rd.lit .here rfl (fun _ _=>rfl) rfl)) (by
    intro q hq
    simp only[List.mem_cons,List.not_mem_nil,or_false] at hq
    rcases hq with rfl | rfl
    ·exact Rd.et (Rd.at (by rw[List.drop_zero] at hr1;exact hr1) (.there .here))
    ·exact Rd.et (Rd.at (by rw[List.take_length] at hr2;exact hr2) (.there .here))) (by simp) (by simp;omega)) .auto) (by rintro _ _ ⟨u25, -,rfl,rfl⟩;exact zV .auto Kept.auto) ?_
  rintro _ _ ⟨u25, -,rfl,rfl⟩
  rw[show[((cut 3 0 i (.slice a1 xs.length c1)),xs.take i),((cut 3 (i+1) xs.length (.slice a1 xs.length c1)),xs.drop (i+1))].flatMap (fun q:Value×List Ev=>q.2)=xs.take i++xs.drop (i+1) from by simp]
  refine .dL .auto ?_
  refine .d3 rfl (ab.gC (by exact sizeOf80) rfl rfl rfl (by rfl)) ?_
  rintro _ _ ⟨rfl,rfl⟩
  refine J 5 ?_
  rw[show wE xs=x from by unfold wE;rw[hw],show wR xs=xs.take i++xs.drop (i+1) from by unfold wR;rw[hw],hw]
  refine .C5 rfl rfl isAgg80 (by exact sizeOf80) Cells.a rfl rfl fun w s=>⟨u25,?_,trivial,aj .auto s⟩
  rfl
end Go.SLYthncobnjdhjnoaaGreat
namespace Go.SLYthncobnjdhjnoaaGreat
open Go Go.RowKit
theorem GS{u:Value}{e:mh}(h:isSl u=true):(qd u e).all (·.oneCell')=true:=by
 have:=fz h
 show(u.oneCell' && (true && (true && (true && true))))=true
 rw[this];rfl
theorem cy{u:Value}{d:fo}(h:isSl u=true):(cC u d).all (·.oneCell')=true:=by
 have:=fz h
 show(true && (true && (u.oneCell' && (true && (true && (true && true))))))=true
 rw[this];rfl
theorem uj{α:Type}{f:α→aa}:∀ {xs:List α} {i:Nat} {x y:α},xs[i]?=some x→f y=f x→aO f (xs.set i y)=aO f xs
 | [],_,_,_,h,_=>by simp at h
 | z::xs,0,x,y,h,e=>by
  have:z=x:=by simpa using h
  subst this
  rw[List.set_cons_zero,fc,fc,e]
 | z::xs,i+1,x,y,h,e=>by
  rw[List.set_cons_succ,fc,fc,uj (i:=i) (x:=x) (by simpa using h) e]
abbrev vF:Value×aR→aa:=fun x=>sl bW 3 x.1 x.2.evs
theorem eJ{vv:Value}{xs:List (Value×aR)}{vs:List aR}(h:xs.map (·.2)=vs):∀ g,seps [sl dY 3 vv xs,aO (fun x:Value×aR=>sl bW 3 x.1 x.2.evs) xs] g→cb vv vs g:=fun _ a=>⟨xs,h,a⟩
theorem jO{vv:Value}{xs:List (Value×aR)}{vs:List aR}{i:Nat}{x:Value×aR}{y:aR}(h:xs.map (·.2)=vs)(hx:xs[i]?=some x)(he:y.evs=x.2.evs):∀ g,seps [sl dY 3 vv (xs.set i (x.1,y)),aO (fun x:Value×aR=>sl bW 3 x.1 x.2.evs) xs] g→cb vv (vs.set i y) g:=fun g a=>by
 refine⟨xs.set i (x.1,y),by show(xs.set i (x.1,y)).map (·.2)=_;rw[List.map_set,h],?_⟩
 show seps [_,aO (fun x:Value×aR=>sl bW 3 x.1 x.2.evs) (xs.set i (x.1,y))] g
 rwa [uj (f:=fun x:Value×aR=>sl bW 3 x.1 x.2.evs) hx (y:=(x.1,y)) (by show sl bW 3 x.1 y.evs=_;rw[he])]
theorem lF{vv:Value}{xs:List (Value×aR)}{vs:List aR}{i:Nat}{x:Value×aR}{w:Value}{y:aR}(h:xs.map (·.2)=vs)(hx:xs[i]?=some x):∀ g,seps [sl dY 3 vv (xs.set i (w,y)),sl bW 3 w y.evs,aO (fun x:Value×aR=>sl bW 3 x.1 x.2.evs) (xs.eraseIdx i)] g→cb vv (vs.set i y) g:=fun g a=>by
 refine⟨xs.set i (w,y),by show(xs.set i (w,y)).map (·.2)=_;rw[List.map_set,h],?_⟩
 simp only[seps,aH] at a ⊢
 refine bn (fun _ b=>b) (fun g b=>?_) g a
 rw[ik _ _ (List.getElem?_eq_some_iff.1 hx).1];exact b
theorem z6{rows:List (List Int)}{p:Int}{ts:List Int}{k:Nat}{t:Int}(h:ts[k]?=some t):fQ rows p (ts.take (k+1))=rAdd (fQ rows p (ts.take k)) p t:=by
 unfold fQ;rw[bj h,List.foldl_append];rfl
structure GU(l:Lib):Prop where
 sp:hD l.bI
 vl:l.vs.length≤64
 rl:l.rows.length≤64
 wt:l.waiting.length≤1000000
 ev:∀ v∈l.vs,v.evs.length≤1000000
 rw:∀ r∈l.rows,r.length≤1000000
theorem er.sz{k:Nat}{l:Lib}(h:er k l)(hk:k≤180):GU l:=by
 have hl:IG (40 * (k+1)) l:=⟨h.ev,h.vl,h.sp.lt⟩
 exact⟨h.sp.bI (by omega),h.vl,h.rl,Nat.le_trans hl.w (by omega),fun v hv=>Nat.le_trans (hl.e v hv) (by omega),fun r hr=>Nat.le_trans (h.rw r hr) (by omega)⟩
theorem sr{l:Lib}{p m:Int}(h:l.locked=true):l.enter p m=l:=if_pos h
theorem pa{l:Lib}{i:Nat}{v:aR}{m:Int}(hv:l.vs[i]?=some v)(h:l.locked=false):l.enter (i:Int) m = {l with locked:=true,vs:=l.vs.set i {v with mode:=m } }:=by
 unfold Lib.enter;rw[if_neg (by rw[h];simp),eC hv];unfold Lib.iF;rw[Int.toNat_natCast]
theorem su{l:Lib}{i:Nat}{v:aR}{m t:Int}(hv:l.vs[i]?=some v):l.leave (i:Int) m t = {l with locked:=false,vs:=l.vs.set i {v with mode:=m,af:=t } }:=by
 unfold Lib.leave;rw[eC hv];unfold Lib.iF;rw[Int.toNat_natCast]
theorem gH{l:Lib}{i:Nat}{y:aR}:l.iF (i:Int) y = {l with vs:=l.vs.set i y }:=by unfold Lib.iF;rw[Int.toNat_natCast]
end Go.SLYthncobnjdhjnoaaGreat
namespace Go.SLYthncobnjdhjnoaaGreat
open Go Go.RowKit Go.Proofs Go.Proofs.Tryz
attribute [local irreducible] aq aJ ba bq bu Y
theorem oo{W:World}{b bs br:Nat}{vv vw:Value}{lk:Bool}{rows:List (List Int)}{p:Int}{A:aa}{m:Value}{ts:List Int}(hm:Rd W [A] ar 1 m ts)(hl:ts.length≤100000∧rows.length≤64∧ ∀ r∈rows,r.length≤800000000):Fn Tryz.prog W 92 [ptr b,.int .i64 p,m] [arr b 0 (k0 bs br vv vw lk),fy br rows,A] Unit (fun _=>.tuple #[]) (fun _=>True) (fun _=>[arr b 0 (k0 bs br vv vw lk),fy br (fQ rows p ts),A]):=by
 refine Fn.intro (N:=22) func92 rfl ntmps92 rfl fun F=>?_
 haveI hRI:∀ (H:List aa) [bE H A],aG W H m ar 1 ts:=fun H h=>⟨hm.at h.has⟩
 show aq _ _ _ _ _ _ [arr b 0 (k0 bs br vv vw lk),fy br rows,A,F]
 refine J 8 ?_
 refine .bf (X:=Nat) [7,10,11,12,13,14,15,16,17,18,19,20,21] (fun z=>ts.length-z) (fun z=>z≤ts.length) (fun z=>[(10,some (.int .i64 (z:Int)))]) (fun z=>[arr b 0 (k0 bs br vv vw lk),fy br (fQ rows p (ts.take z)),A,F]) 0 ?_ ?_ ?_ ?_
 ·exact Nat.zero_le _
 ·exact⟨rfl,trivial⟩
 ·rw[show fQ rows p (ts.take 0)=rows from rfl];exact fun w s=>au.kept .auto w s
 rintro k hk
 refine JD 6 (fun h11=>?_) fun h11=>?_
 ·refine J 6 ?_
  obtain⟨t,hx⟩:=al (show k<ts.length by omega)
  have hrl:(fQ rows p (ts.take k)).length=rows.length:=l0
  have hrr:=kz (ts:=ts.take k) (p:=p) hl.2.2
  refine J 1 ?_
  refine .p (.lr rfl hx) ?_
  refine J 10 ?_
  refine .c call117 rfl (Fl (rs:=fQ rows p (ts.take k)) (p:=p) (t:=t) ⟨by omega,fun r hr=>by have:=hrr r hr;rw[List.length_take] at this;omega⟩) fun ub _=>?_
  refine J 7 ?_
  refine .aF (k+1) .auto rfl ?_ ?_ ?_ ?_
  ·omega
  ·show k+1≤_;omega
  ·exact⟨rfl,trivial⟩
  ·rw[z6 hx]
   exact fun w s=>au.kept .auto w s
 ·obtain rfl:k=ts.length:=by omega
  rw[List.take_length]
  exact JR 4 ()
theorem mW{W:World}{b bs br:Nat}{l:Lib}{t c:Int}(hO:hD l.bI):Fn Tryz.prog W 95 [ptr b,.int .i64 t,.int .i64 c] [aX b bs br l] Value (fun u=>.agg (cC u (l.aL t c).1).toArray) (fun _=>True) (fun u=>[sl ar 1 u (l.aL t c).1.ug.aw,aX b bs br (l.aL t c).2]):=by
 refine Fn.intro (N:=22) func95 rfl ntmps95 rfl fun F=>?_
 show aq _ _ _ _ _ _ [aX b bs br l,F]
 refine .o2 (C:=aX b bs br l) .auto rfl ?_
 rintro vv vw -
 refine J 2 ?_
 refine .ai rfl (ab.alloc rfl zeroValue37 rfl) ?_
 rintro _ _ ⟨b6,rfl,rfl⟩
 refine J 10 ?_
 refine .c call123 rfl (Fh (s:=l.bI) hO) fun u16 _=>?_
 refine .cA (fun w s=>Rd.isSl (Rd.sl .auto) w s) fun hu16=>?_
 refine J 1 ?_
 refine .p (.extract (v:=.agg (qd u16 (l.bI.run t c).1).toArray) rfl rfl) ?_
 refine .p (.extract (v:=.int .i64 (l.bI.run t c).2.1) rfl rfl) ?_
 refine .ai rfl (ab.alloc rfl zeroValue35 rfl) ?_
 rintro _ _ ⟨b7,rfl,rfl⟩
 refine .ai rfl (ab.gC (vs:=qd u16 (l.bI.run t c).1) (by exact sizeOf35) rfl rfl (GS hu16) (by rfl)) ?_
 rintro _ _ ⟨rfl,rfl⟩
 refine J 7 ?_
 refine .p (.sK (fun _ _ _=>cC u16 (l.aL t c).1) rfl rfl rfl (by kernel_rfl)) ?_
 refine .ai rfl (ab.gC (vs:=cC u16 (l.aL t c).1) (by exact sizeOf37) rfl rfl (cy hu16) (by rfl)) ?_
 rintro _ _ ⟨rfl,rfl⟩
 refine J 3 ?_
 refine .dt rfl rfl isAgg37 (by exact sizeOf37) Cells.a fun w s=>⟨u16,?_,trivial,aj .auto s⟩
 rfl
theorem yc{W:World}{u:Value}{e:mh}:Fn Tryz.prog W 96 [.agg (qd u e).toArray] [] Unit (fun _=>.bool e.cB) (fun _=>True) (fun _=>[]):=by
 refine Fn.intro (N:=11) func96 rfl ntmps96 rfl fun F=>?_
 show aq _ _ _ _ _ _ [F]
 refine J 2 ?_
 refine .ai rfl (ab.box rfl rfl rfl) ?_
 rintro _ _ ⟨b1,rfl,rfl⟩
 refine .mem (H':=[arr b1 0 (qd u e),F]) (fun w s=>s) ?_
 refine J 9 ?_
 apply aJ.gj 4 10 6 [6,7,8,9,10] rfl
 ·intro h6
  exact JS 5
 ·intro h6
  exact JS 5
 exact JR 4 ()
theorem pd{W:World}{b bs br i:Nat}{l:Lib}{v:aR}(hv:l.vs[i]?=some v){m:Int}:Fn Tryz.prog W 66 [ptr b,.int .i64 (i:Int),.int .i64 m] [aX b bs br l] Unit (fun _=>.tuple #[]) (fun _=>True) (fun _=>[aX b bs br (l.enter (i:Int) m)]):=by
 refine Fn.intro (N:=22) func66 rfl ntmps66 rfl fun F=>?_
 show aq _ _ _ _ _ _ [aX b bs br l,F]
 refine .o2 (C:=aX b bs br l) .auto rfl ?_
 rintro vv vw -
 refine .o1 (C:=cb vv l.vs) .auto rfl ?_
 rintro xs hxs
 have hxl:=aE hxs
 obtain⟨x,hx,rfl⟩:=da hxs hv
 have hil:=(List.getElem?_eq_some_iff.1 hx).1
 refine JD 9 (fun h10=>?_) fun h10=>?_
 ·rw[pa hv (by simpa using h10)]
  refine J 6 ?_
  rw[show(k0 bs br vv vw l.locked).set 4 (.bool true)=k0 bs br vv vw true from rfl]
  refine J 9 ?_
  refine .p (.ix i rfl rfl rfl (by omega)) ?_
  refine J 1 ?_
  refine .ai rfl (ab.ew (x':=(x.1,{x.2 with mode:=m })) rfl rfl sizeOf3 rfl hx (by decide) rfl .auto) ?_
  rintro _ _ ⟨rfl,rfl⟩
  refine .to (A:=cb vv (l.vs.set i {x.2 with mode:=m })) (Bs:=[sl dY 3 vv (xs.set i (x.1,{x.2 with mode:=m })),aO (fun x:Value×aR=>sl bW 3 x.1 x.2.evs) xs]) .auto (jO hxs hx rfl) ?_
  exact JR 1 ()
 ·refine J 1 ?_
  rw[sr (by simpa using h10)]
  refine .to (A:=cb vv l.vs) (Bs:=[sl dY 3 vv xs,aO (fun x:Value×aR=>sl bW 3 x.1 x.2.evs) xs]) .auto (eJ hxs) ?_
  exact JR 0 ()
theorem ic{W:World}{b bs br i:Nat}{l:Lib}{v:aR}(hv:l.vs[i]?=some v){m t:Int}:Fn Tryz.prog W 90 [ptr b,.int .i64 (i:Int),.int .i64 m,.int .i64 t] [aX b bs br l] Unit (fun _=>.tuple #[]) (fun _=>True) (fun _=>[aX b bs br (l.leave (i:Int) m t)]):=by
 refine Fn.intro (N:=27) func90 rfl ntmps90 rfl fun F=>?_
 show aq _ _ _ _ _ _ [aX b bs br l,F]
 refine .o2 (C:=aX b bs br l) .auto rfl ?_
 rintro vv vw -
 refine .o1 (C:=cb vv l.vs) .auto rfl ?_
 rintro xs hxs
 have hxl:=aE hxs
 obtain⟨x,hx,rfl⟩:=da hxs hv
 have hil:=(List.getElem?_eq_some_iff.1 hx).1
 rw[su hv]
 refine J 6 ?_
 rw[show(k0 bs br vv vw l.locked).set 4 (.bool false)=k0 bs br vv vw false from rfl]
 refine J 2 ?_
 refine .draw [arr b 0 (k0 bs br vv vw false)] [1,1,1,1,1,1,1,1,1,0,1,0,1,1,2,1,1,3] rfl (by kernel_rfl) ?_
 refine J 12 ?_
 refine .p (.ix i rfl rfl rfl (by omega)) ?_
 refine J 1 ?_
 refine .d2 rfl Kept.auto (ab.ew (x':=(x.1,{x.2 with mode:=m })) rfl rfl sizeOf3 rfl hx (by decide) rfl .auto) (by rintro _ _ ⟨rfl,rfl⟩;exact Kept.auto) ?_
 rintro _ _ ⟨rfl,rfl⟩
 have hx2:(xs.set i (x.1,{x.2 with mode:=m }))[i]?=some (x.1,{x.2 with mode:=m }):=List.getElem?_set_self hil
 refine .p (.ix i rfl rfl rfl (by rw[List.length_set];omega)) ?_
 refine J 1 ?_
 refine .d3 rfl (ab.jW (c:=1) (x':=(x.1,{x.2 with mode:=m,af:=t })) rfl rfl sizeOf3 rfl hx2 (by decide) rfl .auto) ?_
 rintro _ _ ⟨rfl,rfl⟩
 rw[List.set_set]
 refine .to (A:=cb vv (l.vs.set i {x.2 with mode:=m,af:=t })) (Bs:=[sl dY 3 vv (xs.set i (x.1,{x.2 with mode:=m,af:=t })),aO (fun x:Value×aR=>sl bW 3 x.1 x.2.evs) xs]) .auto (jO hxs hx rfl) ?_
 exact JR 1 ()
end Go.SLYthncobnjdhjnoaaGreat
namespace Go.SLYthncobnjdhjnoaaGreat
open Go Go.RowKit
section
variable{l:Lib}{i:Nat}{v:aR}
def Lib.pe(l:Lib)(i:Nat)(v:aR)(rest:List Ev):Lib:={l with locked:=false,vs:=l.vs.set i {v with evs:=rest } }
theorem mX(hv:l.vs[i]?=some v){q:Ev}{rest:List Ev}{c:Int}(h:¬q.mode=7):l.recover (i:Int) q rest c=(fo.z,l.pe i v rest):=by
 unfold Lib.recover;simp only;rw[if_neg h,eC hv,gH];rfl
theorem mY(hv:l.vs[i]?=some v){q:Ev}{rest:List Ev}{c:Int}(h:q.mode=7)(hg:(l.bI.run q.af c).1.cB=true) :
  l.recover (i:Int) q rest c=(((l.pe i v rest).aL q.af c).1,(((l.pe i v rest).aL q.af c).2.fI (i:Int) (l.bI.run q.af c).1.aw).fI (i:Int) [q.af]):=by
 unfold Lib.recover;simp only;rw[if_pos h,eC hv,gH]
 show((_,if (l.bI.run q.af c).1.cB=true then _ else _):fo×Lib)=_
 rw[if_pos hg];rfl
theorem kA(hv:l.vs[i]?=some v){q:Ev}{rest:List Ev}{c:Int}(h:q.mode=7)(hg:¬(l.bI.run q.af c).1.cB=true) :
  l.recover (i:Int) q rest c=(((l.pe i v rest).aL q.af c).1,((l.pe i v rest).aL q.af c).2.fI (i:Int) (l.bI.run q.af c).1.aw):=by
 unfold Lib.recover;simp only;rw[if_pos h,eC hv,gH]
 show((_,if (l.bI.run q.af c).1.cB=true then _ else _):fo×Lib)=_
 rw[if_neg hg];rfl
theorem mZ(hv:l.vs[i]?=some v){c:Int}(h:(evWithin v.evs).isSome=true):l.upcall (i:Int) c=l.recover (i:Int) (wE v.evs) (wR v.evs) c:=by
 unfold Lib.upcall;rw[eC hv]
 unfold wE wR
 cases e:evWithin v.evs with
 | none=>rw[e] at h;cases h
 | some x=>rfl
theorem pf(hv:l.vs[i]?=some v){c:Int}(h:(evWithin v.evs).isSome=false):l.upcall (i:Int) c=(fo.z,l.enter (i:Int) 2):=by
 unfold Lib.upcall;rw[eC hv]
 cases e:evWithin v.evs with
 | none=>rfl
 | some x=>rw[e] at h;cases h
theorem m0(hv:l.vs[i]?=some v)(h:v.evs=[]):l.handle (i:Int)=l.leave (i:Int) 3 (-1):=by unfold Lib.handle;rw[eC hv,h]
theorem pg(hv:l.vs[i]?=some v){e:Ev}{r:List Ev}(h:v.evs=e::r)(hr:eP e=true):l.handle (i:Int) = {l with rows:=fQ l.rows (i:Int) [e.af],vs:=l.vs.set i {v with evs:=r } }:=by
 unfold Lib.handle;rw[eC hv,h];simp only;rw[if_pos hr,gH];rfl
theorem m3(hv:l.vs[i]?=some v){e:Ev}{r:List Ev}(h:v.evs=e::r)(hr:¬eP e=true):l.handle (i:Int) = {l with vs:=l.vs.set i {v with evs:=r } }:=by
 unfold Lib.handle;rw[eC hv,h];simp only;rw[if_neg hr,gH]
theorem ph(h:(rPick l.rows (i:Int)).isSome=true):l.pick (i:Int)=({l with rows:=kI l.rows (i:Int) }:Lib).leave (i:Int) 5 (si l.rows (i:Int)):=by
 unfold Lib.pick kI si
 cases e:rPick l.rows (i:Int) with
 | none=>rw[e] at h;cases h
 | some x=>rfl
theorem sA(h:(rPick l.rows (i:Int)).isSome=false):l.pick (i:Int)=l.leave (i:Int) 8 (-1)∧kI l.rows (i:Int)=l.rows:=by
 unfold Lib.pick kI
 cases e:rPick l.rows (i:Int) with
 | none=>exact⟨rfl,rfl⟩
 | some x=>rw[e] at h;cases h
theorem m4(hv:l.vs[i]?=some v){c:Int}(h:l.bI.class v.af=2):l.gY (i:Int) c=(fo.z,{l with vs:=l.vs.set i {v with mode:=6 } }):=by
 unfold Lib.gY;rw[eC hv];simp only;rw[if_pos h,gH]
theorem pj(hv:l.vs[i]?=some v){c:Int}(h:¬l.bI.class v.af=2)(hs:(l.bI.run v.af c).1.aK=true) :
  l.gY (i:Int) c=((l.aL v.af c).1,({(l.aL v.af c).2 with vs:=l.vs.set i (aR.new [⟨2,v.af,0⟩]) }:Lib).tell (aQ (l.bI.run v.af c).1.aw)):=by
 unfold Lib.gY;rw[eC hv];simp only;rw[if_neg h]
 show((_,Lib.tell (if (l.bI.run v.af c).1.aK=true then _ else _) _):fo×Lib)=_
 rw[if_pos hs,gH];rfl
theorem sB(hv:l.vs[i]?=some v){c:Int}(h:¬l.bI.class v.af=2)(hs:¬(l.bI.run v.af c).1.aK=true)(he:(l.bI.run v.af c).1.ended=true) :
  l.gY (i:Int) c=((l.aL v.af c).1,({(l.aL v.af c).2 with vs:=l.vs.set i {v with mode:=3,af := -1 } }:Lib).tell (aQ (l.bI.run v.af c).1.aw)):=by
 have hv2:(l.aL v.af c).2.v (i:Int)=v:=eC (l:=(l.aL v.af c).2) hv
 unfold Lib.gY;rw[eC hv];simp only;rw[if_neg h,hv2]
 show((_,Lib.tell (if (l.bI.run v.af c).1.aK=true then _ else if (l.bI.run v.af c).1.ended=true then _ else _) _):fo×Lib)=_
 rw[if_neg hs,if_pos he,gH];rfl
theorem pk(hv:l.vs[i]?=some v){c:Int}(h:¬l.bI.class v.af=2)(hs:¬(l.bI.run v.af c).1.aK=true)(he:¬(l.bI.run v.af c).1.ended=true) :
  l.gY (i:Int) c=((l.aL v.af c).1,(l.aL v.af c).2.tell (aQ (l.bI.run v.af c).1.aw)):=by
 unfold Lib.gY;rw[eC hv];simp only;rw[if_neg h]
 show((_,Lib.tell (if (l.bI.run v.af c).1.aK=true then _ else if (l.bI.run v.af c).1.ended=true then _ else _) _):fo×Lib)=_
 rw[if_neg hs,if_neg he];rfl
theorem m5(hv:l.vs[i]?=some v){c:Int}(h:¬(l.bI.run v.af c).1.cB=true):l.inside (i:Int) c=((l.aL v.af c).1,((l.aL v.af c).2.fI (i:Int) (l.bI.run v.af c).1.aw).leave (i:Int) 3 (-1)):=by
 unfold Lib.inside;rw[eC hv]
 show((_,if (l.bI.run v.af c).1.cB=true then _ else _):fo×Lib)=_
 rw[if_neg h];rfl
theorem kB(hv:l.vs[i]?=some v){c:Int}(h:(l.bI.run v.af c).1.cB=true)(hy:(l.bI.run v.af c).1.yielded=true):l.inside (i:Int) c=((l.aL v.af c).1,(((l.aL v.af c).2.fI (i:Int) (l.bI.run v.af c).1.aw).fI (i:Int) [v.af]).leave (i:Int) 3 (-1)):=by
 unfold Lib.inside;rw[eC hv]
 show((_,if (l.bI.run v.af c).1.cB=true then (if (l.bI.run v.af c).1.yielded=true then _ else _) else _):fo×Lib)=_
 rw[if_pos h,if_pos hy];rfl
theorem pn(hv:l.vs[i]?=some v){c:Int}(h:(l.bI.run v.af c).1.cB=true)(hy:¬(l.bI.run v.af c).1.yielded=true):l.inside (i:Int) c=((l.aL v.af c).1,((l.aL v.af c).2.fI (i:Int) (l.bI.run v.af c).1.aw).leave (i:Int) 5 v.af):=by
 unfold Lib.inside;rw[eC hv]
 show((_,if (l.bI.run v.af c).1.cB=true then (if (l.bI.run v.af c).1.yielded=true then _ else _) else _):fo×Lib)=_
 rw[if_pos h,if_neg hy];rfl
theorem yd{rows:List (List Int)}{p:Int}{ts:List Int}(h:rows.length≤64∧ ∀ r∈rows,r.length≤1000000)(ht:ts.length≤100000):(fQ rows p ts).length≤64∧ ∀ r∈fQ rows p ts,r.length≤800000000 :=
 ⟨by rw[l0];exact h.1,fun r hr=>by have:=kz h.2 r hr;omega⟩
theorem vJ{rows:List (List Int)}(h:rows.length≤64∧ ∀ r∈rows,r.length≤1000000):rows.length≤64∧ ∀ r∈rows,r.length≤800000000:=⟨h.1,fun r hr=>Nat.le_trans (h.2 r hr) (by decide)⟩
end
end Go.SLYthncobnjdhjnoaaGreat
namespace Go.SLYthncobnjdhjnoaaGreat
open Go Go.RowKit Go.Proofs Go.Proofs.Tryz
attribute [local irreducible] aq aJ ba bq bu Y
theorem ye{W:World}{b bs br i:Nat}{l:Lib}{v:aR}(hv:l.vs[i]?=some v){q:Ev}{m:Value}{rest:List Ev}{c:Int}(hz:GU l)(hw:(l.bI.run q.af c).1.aw.length≤17):Fn Tryz.prog W 89 [ptr b,.int .i64 (i:Int),.agg (bW q).toArray,m,.int .i64 c] [aX b bs br l,sl bW 3 m rest] Value (fun u=>.agg (cC u (l.recover (i:Int) q rest c).1).toArray) (fun _=>True) (fun u=>[sl ar 1 u (l.recover (i:Int) q rest c).1.ug.aw,aX b bs br (l.recover (i:Int) q rest c).2]):=by
 refine Fn.intro (N:=48) func89 rfl ntmps89 rfl fun F=>?_
 show aq _ _ _ _ _ _ [aX b bs br l,sl bW 3 m rest,F]
 refine .cA (fun w s=>Rd.isSl (Rd.sl (.there .here)) w s) fun hum=>?_
 refine .o2 (C:=aX b bs br l) .auto rfl ?_
 rintro vv vw -
 refine .o1 (C:=cb vv l.vs) .auto rfl ?_
 rintro xs hxs
 have hxl:=aE hxs
 obtain⟨x,hx,rfl⟩:=da hxs hv
 have hil:=(List.getElem?_eq_some_iff.1 hx).1
 refine .fr .auto (cY (f:=(fun x:Value×aR=>sl bW 3 x.1 x.2.evs)) hx) ?_
 refine J 2 ?_
 refine .ai rfl (ab.box rfl rfl rfl) ?_
 rintro _ _ ⟨b7,rfl,rfl⟩
 refine .to (A:=arr b7 0 (bW q)) (Bs:=[arr b7 0 (bW q)]) .auto (fun g a=>by simpa only[seps,aH] using a) ?_
 refine .ai rfl (ab.alloc rfl zeroValue37 rfl) ?_
 rintro _ _ ⟨b10,rfl,rfl⟩
 refine J 10 ?_
 refine .p (.ix i rfl rfl rfl (by omega)) ?_
 refine J 1 ?_
 refine .ai rfl (ab.jW (c:=2) (x':=(m,{x.2 with evs:=rest })) rfl rfl sizeOf71 (fz hum) hx (by decide) rfl .auto) ?_
 rintro _ _ ⟨rfl,rfl⟩
 refine .to (A:=cb vv (l.vs.set i {x.2 with evs:=rest })) (Bs:=[sl dY 3 vv (xs.set i (m,{x.2 with evs:=rest })),sl bW 3 m ({x.2 with evs:=rest }).evs,aO (fun x:Value×aR=>sl bW 3 x.1 x.2.evs) (xs.eraseIdx i)]) .auto (lF hxs hx) ?_
 refine J 8 ?_
 rw[show(k0 bs br vv vw l.locked).set 4 (.bool false)=k0 bs br vv vw false from rfl]
 refine JD 10 (fun h25=>?_) fun h25=>?_
 ·refine J 2 ?_
  refine .p (.l9 (cC (.slice none 0 0) fo.z) (by kernel_rfl)) ?_
  refine .ai rfl (ab.gC (vs:=cC (.slice none 0 0) fo.z) (by exact sizeOf37) rfl rfl (by rfl) (by rfl)) ?_
  rintro _ _ ⟨rfl,rfl⟩
  refine J 4 ?_
  rw[mX hv h25]
  refine .dt rfl rfl isAgg37 (by exact sizeOf37) Cells.a fun w s=>⟨(.slice none 0 0),?_,trivial,aj .auto s⟩
  rfl
 ·have h25:q.mode=7:=Decidable.of_not_not h25
  refine J 8 ?_
  refine .c call95 rfl (mW (l:=(l.pe i x.2 rest)) (t:=q.af) (c:=c) hz.sp) fun u31 _=>?_
  refine .cA (fun w s=>Rd.isSl (Rd.sl .auto) w s) fun hu31=>?_
  refine .ai rfl (ab.alloc rfl zeroValue37 rfl) ?_
  rintro _ _ ⟨b11,rfl,rfl⟩
  refine .ai rfl (ab.gC (vs:=cC u31 ((l.pe i x.2 rest).aL q.af c).1) (by exact sizeOf37) rfl rfl (cy hu31) (by rfl)) ?_
  rintro _ _ ⟨rfl,rfl⟩
  refine J 4 ?_
  refine .o2 (C:=aX b bs br ((l.pe i x.2 rest).aL q.af c).2) .auto rfl ?_
  rintro vv vw -
  refine J 5 ?_
  refine .c call92 rfl (oo (rows:=l.rows) (p:=(i:Int)) (A:=sl ar 1 u31 (l.bI.run q.af c).1.aw) (ts:=(l.bI.run q.af c).1.aw) (Rd.sl .here) ⟨Nat.le_trans hw (by decide),(vJ ⟨hz.rl,hz.rw⟩)⟩) fun _ _=>?_
  refine J 6 ?_
  refine .p (.la rfl (Cells.kT (ds:=qd u31 ((l.pe i x.2 rest).aL q.af c).1.ug) Cells.a rfl)) ?_
  refine .c call96 rfl yc fun _ _=>?_
  refine JD 2 (fun h40=>?_) fun h40=>?_
  ·refine J 5 ?_
   refine .ai rfl (ab.fG 3 rfl rfl (by kernel_rfl)) ?_
   rintro _ _ ⟨b45,rfl,rfl⟩
   refine .c call92 rfl (oo (rows:=(fQ l.rows (i:Int) (l.bI.run q.af c).1.aw)) (p:=(i:Int)) (A:=arr b45 0 [.int .i64 q.af]) (ts:=[q.af]) (Rd.lit .here rfl (fun _ _=>rfl) rfl) ⟨by show 1≤_;decide,(yd ⟨hz.rl,hz.rw⟩ (Nat.le_trans hw (by decide)))⟩) fun _ _=>?_
   refine J 5 ?_
   refine .ai rfl (ab.gC (vs:=cC u31 ((l.pe i x.2 rest).aL q.af c).1) (by exact sizeOf37) rfl rfl (cy hu31) (by rfl)) ?_
   rintro _ _ ⟨rfl,rfl⟩
   refine J 3 ?_
   rw[mY hv h25 h40]
   refine .dt rfl rfl isAgg37 (by exact sizeOf37) Cells.a fun w s=>⟨u31,?_,trivial,aj .auto s⟩
   rfl
  ·refine J 5 ?_
   refine .ai rfl (ab.gC (vs:=cC u31 ((l.pe i x.2 rest).aL q.af c).1) (by exact sizeOf37) rfl rfl (cy hu31) (by rfl)) ?_
   rintro _ _ ⟨rfl,rfl⟩
   refine J 3 ?_
   rw[kA hv h25 (by rw[show(l.bI.run q.af c).1.cB=false from h40];simp)]
   refine .dt rfl rfl isAgg37 (by exact sizeOf37) Cells.a fun w s=>⟨u31,?_,trivial,aj .auto s⟩
   rfl
theorem z7{W:World}{b bs br i:Nat}{l:Lib}{v:aR}(hv:l.vs[i]?=some v){c:Int}(hz:GU l)(hw:∀ t,(l.bI.run t c).1.aw.length≤17):Fn Tryz.prog W 64 [ptr b,.int .i64 (i:Int),.int .i64 c] [aX b bs br l] Value (fun u=>.agg (cC u (l.upcall (i:Int) c).1).toArray) (fun _=>True) (fun u=>[sl ar 1 u (l.upcall (i:Int) c).1.ug.aw,aX b bs br (l.upcall (i:Int) c).2]):=by
 refine Fn.intro (N:=34) func64 rfl ntmps64 rfl fun F=>?_
 show aq _ _ _ _ _ _ [aX b bs br l,F]
 refine .o2 (C:=aX b bs br l) .auto rfl ?_
 rintro vv vw -
 refine .o1 (C:=cb vv l.vs) .auto rfl ?_
 rintro xs hxs
 have hxl:=aE hxs
 obtain⟨x,hx,rfl⟩:=da hxs hv
 have hil:=(List.getElem?_eq_some_iff.1 hx).1
 refine .fr .auto (cY (f:=(fun x:Value×aR=>sl bW 3 x.1 x.2.evs)) hx) ?_
 refine J 2 ?_
 refine .ai rfl (ab.alloc rfl zeroValue37 rfl) ?_
 rintro _ _ ⟨b6,rfl,rfl⟩
 refine J 10 ?_
 refine .p (.ix i rfl rfl rfl (by omega)) ?_
 refine J 1 ?_
 refine .p (.ld rfl (Cell.rd (c:=2) Rd.s hx rfl)) ?_
 refine .c call88 rfl (vI (A:=sl bW 3 x.1 x.2.evs) (Rd.sl .here) (Nat.le_trans (hz.ev _ (List.mem_of_getElem? hv)) (by decide))) fun u19 _=>?_
 refine .to (A:=aO (fun x:Value×aR=>sl bW 3 x.1 x.2.evs) xs) (Bs:=[sl bW 3 x.1 x.2.evs,aO (fun x:Value×aR=>sl bW 3 x.1 x.2.evs) (xs.eraseIdx i)]) .auto (dR (f:=(fun x:Value×aR=>sl bW 3 x.1 x.2.evs)) hx) ?_
 refine .to (A:=cb vv l.vs) (Bs:=[sl dY 3 vv xs,aO (fun x:Value×aR=>sl bW 3 x.1 x.2.evs) xs]) .auto (eJ hxs) ?_
 refine J 1 ?_
 refine .p (.extract (v:=.agg (bW (wE x.2.evs)).toArray) rfl rfl) ?_
 refine .p (.extract (v:=u19) rfl rfl) ?_
 refine .p (.extract (v:=.bool (evWithin x.2.evs).isSome) rfl rfl) ?_
 refine .ai rfl (ab.alloc rfl zeroValue80 rfl) ?_
 rintro _ _ ⟨b7,rfl,rfl⟩
 refine .ai rfl (ab.gC (vs:=bW (wE x.2.evs)) (by exact sizeOf80) rfl rfl (by rfl) (by rfl)) ?_
 rintro _ _ ⟨rfl,rfl⟩
 refine JD 9 (fun h23=>?_) fun h23=>?_
 ·refine J 7 ?_
  refine .c call89 rfl (ye (q:=wE x.2.evs) (rest:=wR x.2.evs) hv hz (hw _)) fun u29 _=>?_
  refine .cA (fun w s=>Rd.isSl (Rd.sl .auto) w s) fun hu29=>?_
  refine .ai rfl (ab.gC (vs:=cC u29 (l.recover (i:Int) (wE x.2.evs) (wR x.2.evs) c).1) (by exact sizeOf37) rfl rfl (cy hu29) (by rfl)) ?_
  rintro _ _ ⟨rfl,rfl⟩
  refine J 4 ?_
  rw[mZ hv h23]
  refine .dt rfl rfl isAgg37 (by exact sizeOf37) Cells.a fun w s=>⟨u29,?_,trivial,aj .auto s⟩
  rfl
 ·refine J 6 ?_
  refine .c call66 rfl (pd hv) fun _ _=>?_
  refine J 4 ?_
  refine .p (.l9 (cC (.slice none 0 0) fo.z) (by kernel_rfl)) ?_
  refine .ai rfl (ab.gC (vs:=cC (.slice none 0 0) fo.z) (by exact sizeOf37) rfl rfl (by rfl) (by rfl)) ?_
  rintro _ _ ⟨rfl,rfl⟩
  refine J 3 ?_
  rw[pf hv h23]
  refine .dt rfl rfl isAgg37 (by exact sizeOf37) Cells.a fun w s=>⟨(.slice none 0 0),?_,trivial,aj .auto s⟩
  rfl
theorem Fm{W:World}{b bs br i:Nat}{l:Lib}{v:aR}(hv:l.vs[i]?=some v)(hz:GU l):Fn Tryz.prog W 67 [ptr b,.int .i64 (i:Int)] [aX b bs br l] Unit (fun _=>.tuple #[]) (fun _=>True) (fun _=>[aX b bs br (l.pick (i:Int))]):=by
 refine Fn.intro (N:=23) func67 rfl ntmps67 rfl fun F=>?_
 show aq _ _ _ _ _ _ [aX b bs br l,F]
 refine .o2 (C:=aX b bs br l) .auto rfl ?_
 rintro vv vw -
 refine J 8 ?_
 refine .c call93 rfl (CK (rs:=l.rows) (p:=(i:Int)) ⟨hz.rl,fun r hr=>Nat.le_trans (hz.rw r hr) (by decide)⟩) fun _ _=>?_
 refine JD 12 (fun h15=>?_) fun h15=>?_
 ·refine J 5 ?_
  refine .c call90 rfl (ic (l:={l with rows:=kI l.rows (i:Int) }) hv) fun _ _=>?_
  refine J 4 ?_
  rw[ph h15]
  exact JR 0 ()
 ·have hpn:=sA (l:=l) (i:=i) h15
  rw[hpn.2]
  refine J 5 ?_
  refine .c call90 rfl (ic hv) fun _ _=>?_
  refine J 1 ?_
  rw[hpn.1]
  exact JR 0 ()
theorem z8{W:World}{b bs br i:Nat}{l:Lib}{v:aR}(hv:l.vs[i]?=some v)(hz:GU l):Fn Tryz.prog W 65 [ptr b,.int .i64 (i:Int)] [aX b bs br l] Unit (fun _=>.tuple #[]) (fun _=>True) (fun _=>[aX b bs br (l.handle (i:Int))]):=by
 refine Fn.intro (N:=47) func65 rfl ntmps65 rfl fun F=>?_
 show aq _ _ _ _ _ _ [aX b bs br l,F]
 refine .o2 (C:=aX b bs br l) .auto rfl ?_
 rintro vv vw -
 refine .o1 (C:=cb vv l.vs) .auto rfl ?_
 rintro xs hxs
 have hxl:=aE hxs
 obtain⟨x,hx,rfl⟩:=da hxs hv
 have hil:=(List.getElem?_eq_some_iff.1 hx).1
 have hev:=hz.ev _ (List.mem_of_getElem? hv)
 refine .fr .auto (cY (f:=(fun x:Value×aR=>sl bW 3 x.1 x.2.evs)) hx) ?_
 refine J 7 ?_
 refine .p (.ix i rfl rfl rfl (by omega)) ?_
 refine J 9 ?_
 refine .p (.ld rfl (Cell.rd (c:=2) Rd.s hx rfl)) ?_
 refine JD 4 (fun h18=>?_) fun h18=>?_
 ·refine J 4 ?_
  refine .to (A:=aO (fun x:Value×aR=>sl bW 3 x.1 x.2.evs) xs) (Bs:=[sl bW 3 x.1 x.2.evs,aO (fun x:Value×aR=>sl bW 3 x.1 x.2.evs) (xs.eraseIdx i)]) .auto (dR (f:=(fun x:Value×aR=>sl bW 3 x.1 x.2.evs)) hx) ?_
  refine .to (A:=cb vv l.vs) (Bs:=[sl dY 3 vv xs,aO (fun x:Value×aR=>sl bW 3 x.1 x.2.evs) xs]) .auto (eJ hxs) ?_
  refine .c call90 rfl (ic hv) fun _ _=>?_
  refine J 4 ?_
  rw[m0 hv (List.eq_nil_of_length_eq_zero (by omega))]
  exact JR 0 ()
 ·refine J 5 ?_
  obtain⟨e,r,her⟩:∃ e r,x.2.evs=e::r:=by
   cases h:x.2.evs with
   | nil=>rw[h] at h18;exact absurd rfl h18
   | cons e r=>exact⟨e,r,rfl⟩
  rw[her]
  have hcl:Rd W [sl bW 3 x.1 (e::r)] bW 3 (cut 3 1 (e::r).length x.1) r:=by
   have:=(Rd.sl (W:=W) (H:=[sl bW 3 x.1 (e::r)]) .here).cut (lo:=1) (hi:=(e::r).length) (by simp) (Nat.le_refl _)
   rwa [List.take_length] at this
  refine J 3 ?_
  refine .p (.ld rfl (Cell.rd (c:=2) Rd.s hx rfl)) ?_
  refine .p (.ix 0 rfl rfl rfl (by simp)) ?_
  refine .p (.la rfl (Cells.rd Rd.s (show(e::r)[0]?=some e from rfl))) ?_
  refine .c call91 rfl rJ fun _ _=>?_
  refine JD 12 (fun h32=>?_) fun h32=>?_
  ·have het:IW e=e.af:=by unfold IW;rw[if_pos h32]
   rw[het]
   refine J 4 ?_
   refine .ai rfl (ab.fG 3 rfl rfl (by kernel_rfl)) ?_
   rintro _ _ ⟨b36,rfl,rfl⟩
   refine .c call92 rfl (oo (rows:=l.rows) (p:=(i:Int)) (A:=arr b36 0 [.int .i64 e.af]) (ts:=[e.af]) (Rd.lit .here rfl (fun _ _=>rfl) rfl) ⟨by show 1≤_;decide,(vJ ⟨hz.rl,hz.rw⟩)⟩) fun _ _=>?_
   refine J 7 ?_
   refine .p (.ld rfl (Cell.rd (c:=2) Rd.s hx rfl)) ?_
   refine .p (.sliceFrom 1 underlying71 sizeOf80 rfl rfl Rd.s rfl (by simp)) ?_
   refine .c call79 rfl (oW (A:=sl bW 3 x.1 (e::r)) (xs:=r) hcl (by rw[her] at hev;simp only[List.length_cons] at hev;omega)) fun u44 _=>?_
   refine .cA (fun w s=>Rd.isSl (Rd.sl .auto) w s) fun hu44=>?_
   refine J 2 ?_
   refine .ai rfl (ab.jW (c:=2) (x':=(u44,{x.2 with evs:=r })) rfl rfl sizeOf71 (fz hu44) hx (by decide) rfl .auto) ?_
   rintro _ _ ⟨rfl,rfl⟩
   refine .to (A:=cb vv (l.vs.set i {x.2 with evs:=r })) (Bs:=[sl dY 3 vv (xs.set i (u44,{x.2 with evs:=r })),sl bW 3 u44 ({x.2 with evs:=r }).evs,aO (fun x:Value×aR=>sl bW 3 x.1 x.2.evs) (xs.eraseIdx i)]) .auto (lF hxs hx) ?_
   refine J 1 ?_
   rw[pg hv her h32]
   exact JR 0 ()
  ·refine J 7 ?_
   refine .p (.ld rfl (Cell.rd (c:=2) Rd.s hx rfl)) ?_
   refine .p (.sliceFrom 1 underlying71 sizeOf80 rfl rfl Rd.s rfl (by simp)) ?_
   refine .c call79 rfl (oW (A:=sl bW 3 x.1 (e::r)) (xs:=r) hcl (by rw[her] at hev;simp only[List.length_cons] at hev;omega)) fun u44 _=>?_
   refine .cA (fun w s=>Rd.isSl (Rd.sl .auto) w s) fun hu44=>?_
   refine J 2 ?_
   refine .ai rfl (ab.jW (c:=2) (x':=(u44,{x.2 with evs:=r })) rfl rfl sizeOf71 (fz hu44) hx (by decide) rfl .auto) ?_
   rintro _ _ ⟨rfl,rfl⟩
   refine .to (A:=cb vv (l.vs.set i {x.2 with evs:=r })) (Bs:=[sl dY 3 vv (xs.set i (u44,{x.2 with evs:=r })),sl bW 3 u44 ({x.2 with evs:=r }).evs,aO (fun x:Value×aR=>sl bW 3 x.1 x.2.evs) (xs.eraseIdx i)]) .auto (lF hxs hx) ?_
   refine J 1 ?_
   rw[m3 hv her (by rw[h32];simp)]
   exact JR 0 ()
end Go.SLYthncobnjdhjnoaaGreat
namespace Go.SLYthncobnjdhjnoaaGreat
open Go Go.RowKit
section
variable{l:Lib}{i:Nat}{v:aR}{c:Int}
theorem oq{p:Int}(h:l.has p=false):l.step p c=(fo.z,11,l):=by unfold Lib.step;rw[if_neg (by rw[h];simp)]
theorem vK(hh:l.has (i:Int)=true)(hv:l.vs[i]?=some v)(hm:v.mode=1):l.step (i:Int) c=((l.upcall (i:Int) c).1,0,(l.upcall (i:Int) c).2):=by
 unfold Lib.step;rw[if_pos hh,eC hv];simp only;rw[if_pos hm]
theorem vL(hh:l.has (i:Int)=true)(hv:l.vs[i]?=some v)(hm:v.mode=2):l.step (i:Int) c=(fo.z,0,l.handle (i:Int)):=by
 unfold Lib.step;rw[if_pos hh,eC hv];simp only;rw[if_neg (by omega),if_pos hm]
theorem vM(hh:l.has (i:Int)=true)(hv:l.vs[i]?=some v)(hm:v.mode=3):l.step (i:Int) c=(fo.z,0,l.enter (i:Int) 4):=by
 unfold Lib.step;rw[if_pos hh,eC hv];simp only;rw[if_neg (by omega),if_neg (by omega),if_pos hm]
theorem vN(hh:l.has (i:Int)=true)(hv:l.vs[i]?=some v)(hm:v.mode=4):l.step (i:Int) c=(fo.z,0,l.pick (i:Int)):=by
 unfold Lib.step;rw[if_pos hh,eC hv];simp only;rw[if_neg (by omega),if_neg (by omega),if_neg (by omega),if_pos hm]
theorem vO(hh:l.has (i:Int)=true)(hv:l.vs[i]?=some v)(hm:v.mode=5):l.step (i:Int) c=((l.gY (i:Int) c).1,0,(l.gY (i:Int) c).2):=by
 unfold Lib.step;rw[if_pos hh,eC hv];simp only;rw[if_neg (by omega),if_neg (by omega),if_neg (by omega),if_neg (by omega),if_pos hm]
theorem vP(hh:l.has (i:Int)=true)(hv:l.vs[i]?=some v)(hm:v.mode=6):l.step (i:Int) c=(fo.z,0,l.enter (i:Int) 7):=by
 unfold Lib.step;rw[if_pos hh,eC hv];simp only;rw[if_neg (by omega),if_neg (by omega),if_neg (by omega),if_neg (by omega),if_neg (by omega),if_pos hm]
theorem vQ(hh:l.has (i:Int)=true)(hv:l.vs[i]?=some v)(hm:v.mode=7):l.step (i:Int) c=((l.inside (i:Int) c).1,0,(l.inside (i:Int) c).2):=by
 unfold Lib.step;rw[if_pos hh,eC hv];simp only;rw[if_neg (by omega),if_neg (by omega),if_neg (by omega),if_neg (by omega),if_neg (by omega),if_neg (by omega),if_pos hm]
theorem sC(hh:l.has (i:Int)=true)(hv:l.vs[i]?=some v)(hm:v.mode=8)(he:gX l.rows=true):l.step (i:Int) c=(fo.z,0,l):=by
 unfold Lib.step;rw[if_pos hh,eC hv];simp only;rw[if_neg (by omega),if_neg (by omega),if_neg (by omega),if_neg (by omega),if_neg (by omega),if_neg (by omega),if_neg (by omega),if_pos hm,if_pos he]
theorem sD(hh:l.has (i:Int)=true)(hv:l.vs[i]?=some v)(hm:v.mode=8)(he:gX l.rows=false):l.step (i:Int) c=(fo.z,0,{l with vs:=l.vs.set i {v with mode:=3 } }):=by
 unfold Lib.step;rw[if_pos hh,eC hv];simp only;rw[if_neg (by omega),if_neg (by omega),if_neg (by omega),if_neg (by omega),if_neg (by omega),if_neg (by omega),if_neg (by omega),if_pos hm,if_neg (by rw[he];simp),gH]
theorem vR(hh:l.has (i:Int)=true)(hv:l.vs[i]?=some v)(hm:¬v.mode=1∧¬v.mode=2∧¬v.mode=3∧¬v.mode=4∧¬v.mode=5∧¬v.mode=6∧¬v.mode=7∧¬v.mode=8):l.step (i:Int) c=(fo.z,0,l):=by
 unfold Lib.step;rw[if_pos hh,eC hv];simp only;rw[if_neg (by omega),if_neg (by omega),if_neg (by omega),if_neg (by omega),if_neg (by omega),if_neg (by omega),if_neg (by omega),if_neg (by omega)]
theorem m6{p:Int}(h:l.has p=false):l.eb p=(false,l):=by unfold Lib.eb;rw[if_neg (by rw[h];simp)]
theorem lG(h:l.has (i:Int)=true)(hv:l.vs[i]?=some v):l.eb (i:Int)=(true,{l with vs:=l.vs.set i (v.told []) }):=by unfold Lib.eb;rw[if_pos h,Int.toNat_natCast,bx hv]
end
end Go.SLYthncobnjdhjnoaaGreat
namespace Go.SLYthncobnjdhjnoaaGreat
open Go Go.RowKit Go.Proofs Go.Proofs.Tryz
attribute [local irreducible] aq aJ ba bq bu Y
theorem GV{W:World}{b bs br i:Nat}{l:Lib}{v:aR}(hv:l.vs[i]?=some v){c:Int}(hz:GU l)(hw:∀ t,(l.bI.run t c).1.aw.length≤17):Fn Tryz.prog W 68 [ptr b,.int .i64 (i:Int),.int .i64 c] [aX b bs br l] Value (fun u=>.agg (cC u (l.gY (i:Int) c).1).toArray) (fun _=>True) (fun u=>[sl ar 1 u (l.gY (i:Int) c).1.ug.aw,aX b bs br (l.gY (i:Int) c).2]):=by
 refine Fn.intro (N:=77) func68 rfl ntmps68 rfl fun F=>?_
 show aq _ _ _ _ _ _ [aX b bs br l,F]
 refine .o2 (C:=aX b bs br l) .auto rfl ?_
 rintro vv vw -
 refine .o1 (C:=cb vv l.vs) .auto rfl ?_
 rintro xs hxs
 have hxl:=aE hxs
 obtain⟨x,hx,hxv⟩:=da hxs hv
 have hil:=(List.getElem?_eq_some_iff.1 hx).1
 subst hxv
 refine J 2 ?_
 refine .ai rfl (ab.alloc rfl zeroValue37 rfl) ?_
 rintro _ _ ⟨b6,rfl,rfl⟩
 refine J 9 ?_
 refine .p (.ix i rfl rfl rfl (by omega)) ?_
 refine J 1 ?_
 refine .p (.ld rfl (Cell.rd (c:=1) Rd.s hx rfl)) ?_
 refine J 10 ?_
 refine .c call94 rfl (zS (s:=l.bI) (n:=x.2.af) hz.sp) fun _ _=>?_
 refine JD 10 (fun h25=>?_) fun h25=>?_
 ·refine J 7 ?_
  refine .p (.ix i rfl rfl rfl (by omega)) ?_
  refine J 1 ?_
  refine .ai rfl (ab.ew (x':=(x.1,{x.2 with mode:=6 })) rfl rfl sizeOf3 rfl hx (by decide) rfl .auto) ?_
  rintro _ _ ⟨rfl,rfl⟩
  refine .to (A:=cb vv (l.vs.set i {x.2 with mode:=6 })) (Bs:=[sl dY 3 vv (xs.set i (x.1,{x.2 with mode:=6 })),aO (fun x:Value×aR=>sl bW 3 x.1 x.2.evs) xs]) .auto (jO hxs hx rfl) ?_
  refine J 4 ?_
  refine .p (.l9 (cC (.slice none 0 0) fo.z) (by kernel_rfl)) ?_
  refine .ai rfl (ab.gC (vs:=cC (.slice none 0 0) fo.z) (by exact sizeOf37) rfl rfl (by rfl) (by rfl)) ?_
  rintro _ _ ⟨rfl,rfl⟩
  refine J 4 ?_
  rw[m4 hv h25]
  refine .dt rfl rfl isAgg37 (by exact sizeOf37) Cells.a fun w s=>⟨(.slice none 0 0),?_,trivial,aj .auto s⟩
  rfl
 ·refine J 7 ?_
  refine .to (A:=cb vv l.vs) (Bs:=[sl dY 3 vv xs,aO (fun x:Value×aR=>sl bW 3 x.1 x.2.evs) xs]) .auto (eJ hxs) ?_
  refine .c call95 rfl (mW (l:=l) (t:=x.2.af) (c:=c) hz.sp) fun u37 _=>?_
  refine .cA (fun w s=>Rd.isSl (Rd.sl .auto) w s) fun hu37=>?_
  obtain⟨v,hvd⟩:∃ v,v=x.2:=⟨_,rfl⟩
  rw[← hvd] at hv h25 ⊢
  refine .ai rfl (ab.alloc rfl zeroValue37 rfl) ?_
  rintro _ _ ⟨b9,rfl,rfl⟩
  refine .ai rfl (ab.gC (vs:=cC u37 (l.aL v.af c).1) (by exact sizeOf37) rfl rfl (cy hu37) (by rfl)) ?_
  rintro _ _ ⟨rfl,rfl⟩
  refine JD 12 (fun h38=>?_) fun h38=>?_
  ·refine .o2 (C:=aX b bs br (l.aL v.af c).2) .auto rfl ?_
   rintro vv vw -
   refine .o1 (C:=cb vv l.vs) .auto rfl ?_
   rintro xs hxs
   have hxl:=aE hxs
   obtain⟨x,hx,hxv⟩:=da hxs hv
   have hil:=(List.getElem?_eq_some_iff.1 hx).1
   subst hxv
   refine .fr .auto (cY (f:=(fun x:Value×aR=>sl bW 3 x.1 x.2.evs)) hx) ?_
   refine .draw [arr b 0 (k0 bs br vv vw l.locked)] [0,0,0,0,0,1,1,2,2,1,3] rfl (by kernel_rfl) ?_
   refine J 6 ?_
   refine .p (.fW (fun v1 v2=>[v1,v2,(.int .i64 0)]) rfl rfl (by kernel_rfl)) ?_
   refine .d2 rfl Kept.auto (ab.fG 80 rfl rfl (by kernel_rfl)) (by rintro _ _ ⟨b49,rfl,rfl⟩;exact Kept.auto) ?_
   rintro _ _ ⟨b49,rfl,rfl⟩
   refine .c2 call72 rfl (mS (A:=arr b49 0 [.int .i64 2,.int .i64 x.2.af,.int .i64 0]) (xs:=[⟨2,x.2.af,0⟩]) (Rd.lit .here rfl (fun _ _=>rfl) rfl) (by show 1≤_;decide)) fun u50 _=>?_
   refine .cA (fun w s=>Rd.isSl (Rd.sl .auto) w s) fun hu50=>?_
   refine .p (.ix i rfl rfl rfl (by omega)) ?_
   refine .d3 rfl (ab.k4 (x':=(u50,(aR.new [⟨2,x.2.af,0⟩]))) rfl rfl sizeOf76 (j7 hu50) hx rfl rfl .auto) ?_
   rintro _ _ ⟨rfl,rfl⟩
   refine J 9 ?_
   refine .to (A:=cb vv (l.vs.set i (aR.new [⟨2,x.2.af,0⟩]))) (Bs:=[sl dY 3 vv (xs.set i (u50,(aR.new [⟨2,x.2.af,0⟩]))),sl bW 3 u50 ((aR.new [⟨2,x.2.af,0⟩])).evs,aO (fun x:Value×aR=>sl bW 3 x.1 x.2.evs) (xs.eraseIdx i)]) .auto (lF hxs hx) ?_
   refine .c call63 rfl (fD (A:=sl ar 1 u37 (l.bI.run x.2.af c).1.aw) (Rd.sl .here) (Nat.le_trans (hw _) (by decide))) fun u74 _=>?_
   refine .ai rfl (ab.dX rfl call35 rfl (lx (l:={l with bI:=(l.bI.run x.2.af c).2.2,vs:=l.vs.set i (aR.new [⟨2,x.2.af,0⟩]) }) (A:=sl bW 3 u74 (aQ (l.bI.run x.2.af c).1.aw)) (Rd.sl .here) ⟨by unfold aQ;rw[List.length_map];exact Nat.le_trans (hw _) (by decide),Nat.le_trans hz.wt (by decide),by show(l.vs.set i _).length≤_;rw[List.length_set];exact Nat.le_trans hz.vl (by decide),fun z hzm=>by
     rcases List.mem_or_eq_of_mem_set hzm with h | rfl
     ·exact Nat.le_trans (hz.ev z h) (by decide)
     ·show 1≤_;decide⟩) .auto) ?_
   rintro _ _ ⟨⟨⟩, -,rfl,rfl⟩
   refine J 5 ?_
   refine .ai rfl (ab.gC (vs:=cC u37 (l.aL x.2.af c).1) (by exact sizeOf37) rfl rfl (cy hu37) (by rfl)) ?_
   rintro _ _ ⟨rfl,rfl⟩
   refine J 3 ?_
   rw[pj hv h25 h38]
   refine .dt rfl rfl isAgg37 (by exact sizeOf37) Cells.a fun w s=>⟨u37,?_,trivial,aj .auto s⟩
   rfl
  ·refine JD 8 (fun h52=>?_) fun h52=>?_
   ·refine .o2 (C:=aX b bs br (l.aL v.af c).2) .auto rfl ?_
    rintro vv vw -
    refine .o1 (C:=cb vv l.vs) .auto rfl ?_
    rintro xs hxs
    have hxl:=aE hxs
    obtain⟨x,hx,hxv⟩:=da hxs hv
    have hil:=(List.getElem?_eq_some_iff.1 hx).1
    subst hxv
    refine .draw [arr b 0 (k0 bs br vv vw l.locked)] [1,1,1,1,1,1,1,1,1,0,1,1,2,1,1,3] rfl (by kernel_rfl) ?_
    refine J 10 ?_
    refine .p (.ix i rfl rfl rfl (by omega)) ?_
    refine J 1 ?_
    refine .d2 rfl Kept.auto (ab.ew (x':=(x.1,{x.2 with mode:=3 })) rfl rfl sizeOf3 rfl hx (by decide) rfl .auto) (by rintro _ _ ⟨rfl,rfl⟩;exact Kept.auto) ?_
    rintro _ _ ⟨rfl,rfl⟩
    have hx2:(xs.set i (x.1,{x.2 with mode:=3 }))[i]?=some (x.1,{x.2 with mode:=3 }):=List.getElem?_set_self hil
    refine .p (.ix i rfl rfl rfl (by rw[List.length_set];omega)) ?_
    refine J 1 ?_
    refine .d3 rfl (ab.jW (c:=1) (x':=(x.1,{x.2 with mode:=3,af := -1 })) rfl rfl sizeOf3 rfl hx2 (by decide) rfl .auto) ?_
    rintro _ _ ⟨rfl,rfl⟩
    rw[List.set_set]
    refine .to (A:=cb vv (l.vs.set i {x.2 with mode:=3,af := -1 })) (Bs:=[sl dY 3 vv (xs.set i (x.1,{x.2 with mode:=3,af := -1 })),aO (fun x:Value×aR=>sl bW 3 x.1 x.2.evs) xs]) .auto (jO hxs hx rfl) ?_
    refine J 9 ?_
    refine .c call63 rfl (fD (A:=sl ar 1 u37 (l.bI.run x.2.af c).1.aw) (Rd.sl .here) (Nat.le_trans (hw _) (by decide))) fun u74 _=>?_
    refine .ai rfl (ab.dX rfl call35 rfl (lx (l:={l with bI:=(l.bI.run x.2.af c).2.2,vs:=l.vs.set i ({x.2 with mode:=3,af := -1 }:aR) }) (A:=sl bW 3 u74 (aQ (l.bI.run x.2.af c).1.aw)) (Rd.sl .here) ⟨by unfold aQ;rw[List.length_map];exact Nat.le_trans (hw _) (by decide),Nat.le_trans hz.wt (by decide),by show(l.vs.set i _).length≤_;rw[List.length_set];exact Nat.le_trans hz.vl (by decide),fun z hzm=>by
      rcases List.mem_or_eq_of_mem_set hzm with h | rfl
      ·exact Nat.le_trans (hz.ev z h) (by decide)
      ·exact Nat.le_trans (show x.2.evs.length≤1000000 from hz.ev _ (List.mem_of_getElem? hv)) (by decide)⟩) .auto) ?_
    rintro _ _ ⟨⟨⟩, -,rfl,rfl⟩
    refine J 5 ?_
    refine .ai rfl (ab.gC (vs:=cC u37 (l.aL x.2.af c).1) (by exact sizeOf37) rfl rfl (cy hu37) (by rfl)) ?_
    rintro _ _ ⟨rfl,rfl⟩
    refine J 3 ?_
    rw[sB hv h25 (by rw[show(l.bI.run x.2.af c).1.aK=false from h38];simp) h52]
    refine .dt rfl rfl isAgg37 (by exact sizeOf37) Cells.a fun w s=>⟨u37,?_,trivial,aj .auto s⟩
    rfl
   ·refine J 9 ?_
    refine .c call63 rfl (fD (A:=sl ar 1 u37 (l.bI.run v.af c).1.aw) (Rd.sl .here) (Nat.le_trans (hw _) (by decide))) fun u74 _=>?_
    refine .c call35 rfl (lx (l:=(l.aL v.af c).2) (A:=sl bW 3 u74 (aQ (l.bI.run v.af c).1.aw)) (Rd.sl .here) ⟨by unfold aQ;rw[List.length_map];exact Nat.le_trans (hw _) (by decide),Nat.le_trans hz.wt (by decide),Nat.le_trans hz.vl (by decide),fun z hzm=>Nat.le_trans (hz.ev z hzm) (by decide)⟩) fun _ _=>?_
    refine J 5 ?_
    refine .ai rfl (ab.gC (vs:=cC u37 (l.aL v.af c).1) (by exact sizeOf37) rfl rfl (cy hu37) (by rfl)) ?_
    rintro _ _ ⟨rfl,rfl⟩
    refine J 3 ?_
    rw[pk hv h25 (by rw[show(l.bI.run v.af c).1.aK=false from h38];simp) (by rw[show(l.bI.run v.af c).1.ended=false from h52];simp)]
    refine .dt rfl rfl isAgg37 (by exact sizeOf37) Cells.a fun w s=>⟨u37,?_,trivial,aj .auto s⟩
    rfl
theorem Aa{W:World}{b bs br i:Nat}{l:Lib}{v:aR}(hv:l.vs[i]?=some v){c:Int}(hz:GU l)(hw:∀ t,(l.bI.run t c).1.aw.length≤17):Fn Tryz.prog W 69 [ptr b,.int .i64 (i:Int),.int .i64 c] [aX b bs br l] Value (fun u=>.agg (cC u (l.inside (i:Int) c).1).toArray) (fun _=>True) (fun u=>[sl ar 1 u (l.inside (i:Int) c).1.ug.aw,aX b bs br (l.inside (i:Int) c).2]):=by
 refine Fn.intro (N:=52) func69 rfl ntmps69 rfl fun F=>?_
 show aq _ _ _ _ _ _ [aX b bs br l,F]
 refine .o2 (C:=aX b bs br l) .auto rfl ?_
 rintro vv vw -
 refine .o1 (C:=cb vv l.vs) .auto rfl ?_
 rintro xs hxs
 have hxl:=aE hxs
 obtain⟨x,hx,rfl⟩:=da hxs hv
 have hil:=(List.getElem?_eq_some_iff.1 hx).1
 refine J 2 ?_
 refine .ai rfl (ab.alloc rfl zeroValue37 rfl) ?_
 rintro _ _ ⟨b6,rfl,rfl⟩
 refine J 9 ?_
 refine .p (.ix i rfl rfl rfl (by omega)) ?_
 refine J 1 ?_
 refine .p (.ld rfl (Cell.rd (c:=1) Rd.s hx rfl)) ?_
 refine J 5 ?_
 refine .to (A:=cb vv l.vs) (Bs:=[sl dY 3 vv xs,aO (fun x:Value×aR=>sl bW 3 x.1 x.2.evs) xs]) .auto (eJ hxs) ?_
 refine J 3 ?_
 refine .c call95 rfl (mW (l:=l) (t:=x.2.af) (c:=c) hz.sp) fun u20 _=>?_
 refine .cA (fun w s=>Rd.isSl (Rd.sl .auto) w s) fun hu20=>?_
 refine .ai rfl (ab.alloc rfl zeroValue37 rfl) ?_
 rintro _ _ ⟨b8,rfl,rfl⟩
 refine .ai rfl (ab.gC (vs:=cC u20 (l.aL x.2.af c).1) (by exact sizeOf37) rfl rfl (cy hu20) (by rfl)) ?_
 rintro _ _ ⟨rfl,rfl⟩
 refine J 4 ?_
 refine .o2 (C:=aX b bs br (l.aL x.2.af c).2) .auto rfl ?_
 rintro vv2 vw2 -
 refine J 5 ?_
 refine .c call92 rfl (oo (rows:=l.rows) (p:=(i:Int)) (A:=sl ar 1 u20 (l.bI.run x.2.af c).1.aw) (ts:=(l.bI.run x.2.af c).1.aw) (Rd.sl .here) ⟨Nat.le_trans (hw _) (by decide),(vJ ⟨hz.rl,hz.rw⟩)⟩) fun _ _=>?_
 refine J 7 ?_
 refine .p (.la rfl (Cells.kT (ds:=qd u20 (l.aL x.2.af c).1.ug) Cells.a rfl)) ?_
 refine .c call96 rfl yc fun _ _=>?_
 refine JD 4 (fun h31=>?_) fun h31=>?_
 ·refine J 3 ?_
  refine .c call90 rfl (ic (l:={l with bI:=(l.bI.run x.2.af c).2.2,rows:=(fQ l.rows (i:Int) (l.bI.run x.2.af c).1.aw) }) hv) fun _ _=>?_
  refine J 6 ?_
  refine .ai rfl (ab.gC (vs:=cC u20 (l.aL x.2.af c).1) (by exact sizeOf37) rfl rfl (cy hu20) (by rfl)) ?_
  rintro _ _ ⟨rfl,rfl⟩
  refine J 3 ?_
  rw[m5 hv (by rw[show(l.bI.run x.2.af c).1.cB=false from by have h:=h31;simp only[Bool.not_eq_true'] at h;exact h];simp)]
  refine .dt rfl rfl isAgg37 (by exact sizeOf37) Cells.a fun w s=>⟨u20,?_,trivial,aj .auto s⟩
  rfl
 ·have hg:(l.bI.run x.2.af c).1.cB=true:=by have h:=h31;simp only[Bool.not_eq_false'] at h;exact h
  refine JD 8 (fun h39=>?_) fun h39=>?_
  ·refine J 5 ?_
   refine .ai rfl (ab.fG 3 rfl rfl (by kernel_rfl)) ?_
   rintro _ _ ⟨b46,rfl,rfl⟩
   refine .c call92 rfl (oo (rows:=(fQ l.rows (i:Int) (l.bI.run x.2.af c).1.aw)) (p:=(i:Int)) (A:=arr b46 0 [.int .i64 x.2.af]) (ts:=[x.2.af]) (Rd.lit .here rfl (fun _ _=>rfl) rfl) ⟨by show 1≤_;decide,(yd ⟨hz.rl,hz.rw⟩ (Nat.le_trans (hw _) (by decide)))⟩) fun _ _=>?_
   refine J 5 ?_
   refine .c call90 rfl (ic (l:={l with bI:=(l.bI.run x.2.af c).2.2,rows:=(fQ (fQ l.rows (i:Int) (l.bI.run x.2.af c).1.aw) (i:Int) [x.2.af]) }) hv) fun _ _=>?_
   refine J 6 ?_
   refine .ai rfl (ab.gC (vs:=cC u20 (l.aL x.2.af c).1) (by exact sizeOf37) rfl rfl (cy hu20) (by rfl)) ?_
   rintro _ _ ⟨rfl,rfl⟩
   refine J 3 ?_
   rw[kB hv hg h39]
   refine .dt rfl rfl isAgg37 (by exact sizeOf37) Cells.a fun w s=>⟨u20,?_,trivial,aj .auto s⟩
   rfl
  ·refine J 4 ?_
   refine .c call90 rfl (ic (l:={l with bI:=(l.bI.run x.2.af c).2.2,rows:=(fQ l.rows (i:Int) (l.bI.run x.2.af c).1.aw) }) hv) fun _ _=>?_
   refine J 6 ?_
   refine .ai rfl (ab.gC (vs:=cC u20 (l.aL x.2.af c).1) (by exact sizeOf37) rfl rfl (cy hu20) (by rfl)) ?_
   rintro _ _ ⟨rfl,rfl⟩
   refine J 3 ?_
   rw[pn hv hg (by rw[show(l.bI.run x.2.af c).1.yielded=false from h39];simp)]
   refine .dt rfl rfl isAgg37 (by exact sizeOf37) Cells.a fun w s=>⟨u20,?_,trivial,aj .auto s⟩
   rfl
theorem ot{W:World}{b bs br:Nat}{l:Lib}{p c:Int}(hz:GU l)(hw:∀ t,(l.bI.run t c).1.aw.length≤17):Fn Tryz.prog W 31 [ptr b,.int .i64 p,.int .i64 c] [aX b bs br l] Value (fun u=>.tuple #[.agg (cC u (l.step p c).1).toArray,.int .i64 (l.step p c).2.1]) (fun _=>True) (fun u=>[sl ar 1 u (l.step p c).1.ug.aw,aX b bs br (l.step p c).2.2]):=by
 refine Fn.intro (N:=76) func31 rfl ntmps31 rfl fun F=>?_
 show aq _ _ _ _ _ _ [aX b bs br l,F]
 refine J 2 ?_
 refine .ai rfl (ab.alloc rfl zeroValue37 rfl) ?_
 rintro _ _ ⟨b6,rfl,rfl⟩
 refine J 8 ?_
 refine .c call44 rfl jG fun _ _=>?_
 refine JD 3 (fun h12=>?_) fun h12=>?_
 ·refine J 2 ?_
  refine .p (.l9 (cC (.slice none 0 0) fo.z) (by kernel_rfl)) ?_
  refine .ai rfl (ab.gC (vs:=cC (.slice none 0 0) fo.z) (by exact sizeOf37) rfl rfl (by rfl) (by rfl)) ?_
  rintro _ _ ⟨rfl,rfl⟩
  refine J 5 ?_
  rw[oq (by simpa using h12)]
  refine .fk rfl rfl isAgg37 (by exact sizeOf37) Cells.a rfl fun w s=>⟨(.slice none 0 0),?_,trivial,aj .auto s⟩
  rfl
 ·have h12:l.has p=true:=by simpa using h12
  refine J 4 ?_
  refine .ai rfl (ab.alloc rfl zeroValue37 rfl) ?_
  rintro _ _ ⟨b8,rfl,rfl⟩
  refine J 5 ?_
  obtain⟨i,v,rfl,hv,hm0⟩:=jf h12
  refine .o2 (C:=aX b bs br l) .auto rfl ?_
  rintro vv vw -
  refine .o1 (C:=cb vv l.vs) .auto rfl ?_
  rintro xs hxs
  have hxl:=aE hxs
  obtain⟨x,hx,rfl⟩:=da hxs hv
  have hil:=(List.getElem?_eq_some_iff.1 hx).1
  refine J 5 ?_
  refine .p (.ix i rfl rfl rfl (by omega)) ?_
  refine J 1 ?_
  refine .p (.lr rfl hx) ?_
  refine JD 9 (fun h23=>?_) fun h23=>?_
  ·refine J 1 ?_
   refine .to (A:=cb vv l.vs) (Bs:=[sl dY 3 vv xs,aO (fun x:Value×aR=>sl bW 3 x.1 x.2.evs) xs]) .auto (eJ hxs) ?_
   refine J 3 ?_
   refine .c call64 rfl (z7 hv hz hw) fun u27 _=>?_
   refine .cA (fun w s=>Rd.isSl (Rd.sl .auto) w s) fun hu27=>?_
   refine .ai rfl (ab.gC (vs:=cC u27 (l.upcall (i:Int) c).1) (by exact sizeOf37) rfl rfl (cy hu27) (by rfl)) ?_
   rintro _ _ ⟨rfl,rfl⟩
   refine J 6 ?_
   refine .ai rfl (ab.gC (vs:=cC u27 (l.upcall (i:Int) c).1) (by exact sizeOf37) rfl rfl (cy hu27) (by rfl)) ?_
   rintro _ _ ⟨rfl,rfl⟩
   refine J 4 ?_
   rw[vK h12 hv h23]
   refine .fk rfl rfl isAgg37 (by exact sizeOf37) Cells.a rfl fun w s=>⟨u27,?_,trivial,aj .auto s⟩
   rfl
  ·refine JD 6 (fun h29=>?_) fun h29=>?_
   ·refine J 1 ?_
    refine .to (A:=cb vv l.vs) (Bs:=[sl dY 3 vv xs,aO (fun x:Value×aR=>sl bW 3 x.1 x.2.evs) xs]) .auto (eJ hxs) ?_
    refine J 2 ?_
    refine .c call65 rfl (z8 hv hz) fun _ _=>?_
    refine J 6 ?_
    refine .ai rfl (ab.gC (vs:=cC (.slice none 0 0) fo.z) (by exact sizeOf37) rfl rfl (by rfl) (by rfl)) ?_
    rintro _ _ ⟨rfl,rfl⟩
    refine J 4 ?_
    rw[vL h12 hv (by omega)]
    refine .fk rfl rfl isAgg37 (by exact sizeOf37) Cells.a rfl fun w s=>⟨(.slice none 0 0),?_,trivial,aj .auto s⟩
    rfl
   ·refine JD 6 (fun h34=>?_) fun h34=>?_
    ·refine J 1 ?_
     refine .to (A:=cb vv l.vs) (Bs:=[sl dY 3 vv xs,aO (fun x:Value×aR=>sl bW 3 x.1 x.2.evs) xs]) .auto (eJ hxs) ?_
     refine J 2 ?_
     refine .c call66 rfl (pd hv) fun _ _=>?_
     refine J 6 ?_
     refine .ai rfl (ab.gC (vs:=cC (.slice none 0 0) fo.z) (by exact sizeOf37) rfl rfl (by rfl) (by rfl)) ?_
     rintro _ _ ⟨rfl,rfl⟩
     refine J 4 ?_
     rw[vM h12 hv (by omega)]
     refine .fk rfl rfl isAgg37 (by exact sizeOf37) Cells.a rfl fun w s=>⟨(.slice none 0 0),?_,trivial,aj .auto s⟩
     rfl
    ·refine JD 6 (fun h39=>?_) fun h39=>?_
     ·refine J 1 ?_
      refine .to (A:=cb vv l.vs) (Bs:=[sl dY 3 vv xs,aO (fun x:Value×aR=>sl bW 3 x.1 x.2.evs) xs]) .auto (eJ hxs) ?_
      refine J 2 ?_
      refine .c call67 rfl (Fm hv hz) fun _ _=>?_
      refine J 6 ?_
      refine .ai rfl (ab.gC (vs:=cC (.slice none 0 0) fo.z) (by exact sizeOf37) rfl rfl (by rfl) (by rfl)) ?_
      rintro _ _ ⟨rfl,rfl⟩
      refine J 4 ?_
      rw[vN h12 hv (by omega)]
      refine .fk rfl rfl isAgg37 (by exact sizeOf37) Cells.a rfl fun w s=>⟨(.slice none 0 0),?_,trivial,aj .auto s⟩
      rfl
     ·refine JD 6 (fun h44=>?_) fun h44=>?_
      ·refine J 1 ?_
       refine .to (A:=cb vv l.vs) (Bs:=[sl dY 3 vv xs,aO (fun x:Value×aR=>sl bW 3 x.1 x.2.evs) xs]) .auto (eJ hxs) ?_
       refine J 3 ?_
       refine .c call68 rfl (GV hv hz hw) fun u48 _=>?_
       refine .cA (fun w s=>Rd.isSl (Rd.sl .auto) w s) fun hu48=>?_
       refine .ai rfl (ab.gC (vs:=cC u48 (l.gY (i:Int) c).1) (by exact sizeOf37) rfl rfl (cy hu48) (by rfl)) ?_
       rintro _ _ ⟨rfl,rfl⟩
       refine J 6 ?_
       refine .ai rfl (ab.gC (vs:=cC u48 (l.gY (i:Int) c).1) (by exact sizeOf37) rfl rfl (cy hu48) (by rfl)) ?_
       rintro _ _ ⟨rfl,rfl⟩
       refine J 4 ?_
       rw[vO h12 hv h44]
       refine .fk rfl rfl isAgg37 (by exact sizeOf37) Cells.a rfl fun w s=>⟨u48,?_,trivial,aj .auto s⟩
       rfl
      ·refine JD 6 (fun h50=>?_) fun h50=>?_
       ·refine J 1 ?_
        refine .to (A:=cb vv l.vs) (Bs:=[sl dY 3 vv xs,aO (fun x:Value×aR=>sl bW 3 x.1 x.2.evs) xs]) .auto (eJ hxs) ?_
        refine J 2 ?_
        refine .c call66 rfl (pd hv) fun _ _=>?_
        refine J 6 ?_
        refine .ai rfl (ab.gC (vs:=cC (.slice none 0 0) fo.z) (by exact sizeOf37) rfl rfl (by rfl) (by rfl)) ?_
        rintro _ _ ⟨rfl,rfl⟩
        refine J 4 ?_
        rw[vP h12 hv (by omega)]
        refine .fk rfl rfl isAgg37 (by exact sizeOf37) Cells.a rfl fun w s=>⟨(.slice none 0 0),?_,trivial,aj .auto s⟩
        rfl
       ·refine JD 6 (fun h55=>?_) fun h55=>?_
        ·refine J 1 ?_
         refine .to (A:=cb vv l.vs) (Bs:=[sl dY 3 vv xs,aO (fun x:Value×aR=>sl bW 3 x.1 x.2.evs) xs]) .auto (eJ hxs) ?_
         refine J 3 ?_
         refine .c call69 rfl (Aa hv hz hw) fun u59 _=>?_
         refine .cA (fun w s=>Rd.isSl (Rd.sl .auto) w s) fun hu59=>?_
         refine .ai rfl (ab.gC (vs:=cC u59 (l.inside (i:Int) c).1) (by exact sizeOf37) rfl rfl (cy hu59) (by rfl)) ?_
         rintro _ _ ⟨rfl,rfl⟩
         refine J 6 ?_
         refine .ai rfl (ab.gC (vs:=cC u59 (l.inside (i:Int) c).1) (by exact sizeOf37) rfl rfl (cy hu59) (by rfl)) ?_
         rintro _ _ ⟨rfl,rfl⟩
         refine J 4 ?_
         rw[vQ h12 hv h55]
         refine .fk rfl rfl isAgg37 (by exact sizeOf37) Cells.a rfl fun w s=>⟨u59,?_,trivial,aj .auto s⟩
         rfl
        ·refine JD 6 (fun h61=>?_) fun h61=>?_
         ·refine J 6 ?_
          refine .c call70 rfl (zZ (rs:=l.rows) ⟨hz.rl,fun r hr=>Nat.le_trans (hz.rw r hr) (by decide)⟩) fun _ _=>?_
          refine JD 3 (fun h67=>?_) fun h67=>?_
          ·refine J 6 ?_
           refine .p (.ix i rfl rfl rfl (by omega)) ?_
           refine J 1 ?_
           refine .ai rfl (ab.ew (x':=(x.1,{x.2 with mode:=3 })) rfl rfl sizeOf3 rfl hx (by decide) rfl .auto) ?_
           rintro _ _ ⟨rfl,rfl⟩
           refine .to (A:=cb vv (l.vs.set i {x.2 with mode:=3 })) (Bs:=[sl dY 3 vv (xs.set i (x.1,{x.2 with mode:=3 })),aO (fun x:Value×aR=>sl bW 3 x.1 x.2.evs) xs]) .auto (jO hxs hx rfl) ?_
           refine J 6 ?_
           refine .ai rfl (ab.gC (vs:=cC (.slice none 0 0) fo.z) (by exact sizeOf37) rfl rfl (by rfl) (by rfl)) ?_
           rintro _ _ ⟨rfl,rfl⟩
           refine J 4 ?_
           rw[sD h12 hv (by omega) (by simpa using h67)]
           refine .fk rfl rfl isAgg37 (by exact sizeOf37) Cells.a rfl fun w s=>⟨(.slice none 0 0),?_,trivial,aj .auto s⟩
           rfl
          ·refine J 6 ?_
           refine .ai rfl (ab.gC (vs:=cC (.slice none 0 0) fo.z) (by exact sizeOf37) rfl rfl (by rfl) (by rfl)) ?_
           rintro _ _ ⟨rfl,rfl⟩
           refine J 4 ?_
           refine .to (A:=cb vv l.vs) (Bs:=[sl dY 3 vv xs,aO (fun x:Value×aR=>sl bW 3 x.1 x.2.evs) xs]) .auto (eJ hxs) ?_
           rw[sC h12 hv (by omega) (by simpa using h67)]
           refine .fk rfl rfl isAgg37 (by exact sizeOf37) Cells.a rfl fun w s=>⟨(.slice none 0 0),?_,trivial,aj .auto s⟩
           rfl
         ·refine J 6 ?_
          refine .ai rfl (ab.gC (vs:=cC (.slice none 0 0) fo.z) (by exact sizeOf37) rfl rfl (by rfl) (by rfl)) ?_
          rintro _ _ ⟨rfl,rfl⟩
          refine J 4 ?_
          refine .to (A:=cb vv l.vs) (Bs:=[sl dY 3 vv xs,aO (fun x:Value×aR=>sl bW 3 x.1 x.2.evs) xs]) .auto (eJ hxs) ?_
          rw[vR h12 hv (by omega)]
          refine .fk rfl rfl isAgg37 (by exact sizeOf37) Cells.a rfl fun w s=>⟨(.slice none 0 0),?_,trivial,aj .auto s⟩
          rfl
theorem yf{W:World}{b bs br:Nat}{l:Lib}{p:Int}(hz:GU l):Fn Tryz.prog W 34 [ptr b,.int .i64 p] [aX b bs br l] Unit (fun _=>.bool (l.eb p).1) (fun _=>True) (fun _=>[aX b bs br (l.eb p).2]):=by
 refine Fn.intro (N:=23) func34 rfl ntmps34 rfl fun F=>?_
 show aq _ _ _ _ _ _ [aX b bs br l,F]
 refine J 10 ?_
 refine .c call44 rfl jG fun _ _=>?_
 refine JD 3 (fun h8=>?_) fun h8=>?_
 ·refine J 7 ?_
  rw[m6 (by simpa using h8)]
  exact JR 0 ()
 ·refine J 3 ?_
  have h8:l.has p=true:=by simpa using h8
  obtain⟨i,v,rfl,hv,hm0⟩:=jf h8
  refine .o2 (C:=aX b bs br l) .auto rfl ?_
  rintro vv vw -
  refine .o1 (C:=cb vv l.vs) .auto rfl ?_
  rintro xs hxs
  have hxl:=aE hxs
  obtain⟨x,hx,rfl⟩:=da hxs hv
  have hil:=(List.getElem?_eq_some_iff.1 hx).1
  refine .fr .auto (cY (f:=(fun x:Value×aR=>sl bW 3 x.1 x.2.evs)) hx) ?_
  refine .draw [arr b 0 (k0 bs br vv vw l.locked)] [0,0,0,0,0,1,1,1,1,1,1,1,2,1,3] rfl (by kernel_rfl) ?_
  refine J 10 ?_
  refine .p (.ix i rfl rfl rfl (by omega)) ?_
  refine .p (.la rfl (Cells.rd Rd.s hx)) ?_
  refine .c2 call75 rfl (pS (A:=sl bW 3 x.1 x.2.evs) (u:=x.1) (x:=x.2) (m:=(.slice none 0 0)) (ys:=[]) (Rd.sl .here) Rd.nil ⟨Nat.le_trans (hz.ev _ (List.mem_of_getElem? hv)) (by decide),by show 0≤_;decide⟩) fun u21 _=>?_
  refine .cA (fun w s=>Rd.isSl (Rd.sl .auto) w s) fun hu21=>?_
  refine .p (.ix i rfl rfl rfl (by omega)) ?_
  refine .d3 rfl (ab.k4 (x':=(u21,x.2.told [])) rfl rfl sizeOf76 (j7 hu21) hx rfl rfl .auto) ?_
  rintro _ _ ⟨rfl,rfl⟩
  refine .to (A:=cb vv (l.vs.set i (x.2.told []))) (Bs:=[sl dY 3 vv (xs.set i (u21,(x.2.told []))),sl bW 3 u21 ((x.2.told [])).evs,aO (fun x:Value×aR=>sl bW 3 x.1 x.2.evs) (xs.eraseIdx i)]) .auto (lF hxs hx) ?_
  refine J 8 ?_
  rw[lG h8 hv]
  exact JR 0 ()
theorem m7{W:World}{b bs br:Nat}{l:Lib}:Fn Tryz.prog W 40 [ptr b] [aX b bs br l] Unit (fun _=>.bool l.locked) (fun _=>True) (fun _=>[aX b bs br l]):=by
 refine Fn.intro (N:=11) func40 rfl ntmps40 rfl fun F=>?_
 show aq _ _ _ _ _ _ [aX b bs br l,F]
 refine .o2 (C:=aX b bs br l) .auto rfl ?_
 rintro vv vw -
 exact JR 19 ()
end Go.SLYthncobnjdhjnoaaGreat
namespace Go.SLYthncobnjdhjnoaaGreat
open Go Go.RowKit
def K6(k:Nat)(xs:List (Nat×Spc)):List (Nat×Spc):=(xs.take k).map (fun x=>(x.1,x.2.tick.2))++xs.drop k
end Go.SLYthncobnjdhjnoaaGreat
namespace Go.SLYthncobnjdhjnoaaGreat
open Go Go.RowKit
def oReady(l:List Spc)(n:Int):List Int:=match aV l n with | none=>[] | some s=>s.ready
def Fo(l:List Spc)(n:Int):List Rec:=match aV l n with | none=>[] | some s=>s.aB
def KR(l:List Spc)(n:Int):List Int:=match aV l n with | none=>[] | some s=>s.mem
def Kz(l:List Spc)(n k:Int):Option bA:=match aV l n with | none=>none | some s=>s.at k
theorem hM.get{k:Nat}{l:List Spc}(h:hM k l){n:Int}{s:Spc}(hs:aV l n=some s):jj k s:=h s (List.mem_of_getElem? (dj hs).2.2)
theorem hM.more{k k':Nat}{l:List Spc}(h:hM k l)(hk:k≤k'):hM k' l:=fun s hs=>(h s hs).more hk
theorem hM.aB{k:Nat}{l:List Spc}(h:hM k l)(hk:k≤190)(n:Int):(Fo l n).length≤80000000:=by
 unfold Fo;split
 ·exact Nat.zero_le _
 ·rename_i s e;exact(h.get e).rec hk
theorem hM.ready{k:Nat}{l:List Spc}(h:hM k l)(n:Int):(oReady l n).length≤1000000000:=by
 unfold oReady;split
 ·exact Nat.zero_le _
 ·rename_i s e;exact Ca (h.get e).lt
def KS(s:Spc)(k:Nat)(a:Cb):Spc :=
 if a.kind=3 then s.tick.2 else if a.space≠(k:Int) then s else if a.kind=1 then (s.run a.af a.choice).2.2 else if a.kind=2 then (s.done a.choice).2.2 else s
def vS(ps:List gD):Int:=if ps.length<1∨8<ps.length then 1 else checkAll ps
def J9(n:Int)(a:Cb):List Cb:=if a.kind=3 then [⟨3,0,0,0⟩] else if a.space=n then [{a with space:=0 }] else []
def Ju(acts:List Cb)(n:Int):List Cb:=acts.flatMap (J9 n)
def Ka(l:List Spc)(acts:List Cb):List Spc:=acts.foldl (fun l a=>(oDo l a).2) l
def aloneR(ps:List gD)(n:Int)(acts:List Cb):List Rec :=
 match aV ps n with
 | none=>[]
 | some p=>if c0 p=0 then Fo (Ka [Spc.new p] (Ju acts n)) 0 else []
def Kb(ps:List gD)(n:Int):Int :=
 match aV ps n with
 | none=>1
 | some p=>c0 p
end Go.SLYthncobnjdhjnoaaGreat
namespace Go.SLYthncobnjdhjnoaaGreat
open Go Go.RowKit
theorem jg:∀ {l:List gD},checkAll l=0→ ∀ p∈l,c0 p=0
 | [],_,p,hp=>by cases hp
 | q::l,h,p,hp=>by
  unfold checkAll at h
  split at h
  ·rename_i hq
   rcases List.mem_cons.1 hp with rfl | hp
   ·exact hq
   ·exact jg h p hp
  ·rename_i hq;exact absurd h hq
theorem vT{ps:List gD}(h:vS ps=0):1≤ps.length∧ps.length≤8∧ ∀ p∈ps,c0 p=0:=by
 unfold vS at h
 split at h
 ·cases h
 ·exact⟨by omega,by omega,jg h⟩
theorem hM.new{ps:List gD}(h:vS ps=0)(hw:∀ p∈ps, ∀ f∈p.funcs, ∀ i∈f,fu i.n):hM 1 (ps.map Spc.new):=fun s hs=>by
 obtain⟨p,hp,rfl⟩:=List.mem_map.1 hs
 exact jj.new ⟨(vT h).2.2 p hp,hw p hp⟩
theorem hM.bI{k:Nat}{l:List Spc}(h:hM k l)(hk:k≤190):∀ s∈l,hD s:=fun s hs=>(h s hs).bI hk
/-! the laws' own fact -/
def Kc:List Ins:=[⟨32,1,0,0,0⟩]
def KA:gD:=⟨[Kc],0,0,0,[],[],0,0⟩
def Jv(x y:Nat):aW:=⟨v8 y 1,[(v8 x 1,Kc)],0,0,0,.slice none 0 0,[],.slice none 0 0,[],0,0⟩
def KT(x y z:Nat):aa:=seps [arr z 0 (rows fe [Jv x y,Jv x y]),arr y 0 [v8 x 1],arr x 0 (rows dO Kc)]
def Kd:List Spc:=[KA,KA].map Spc.new
def Ke:List Spc:=(oDo Kd ⟨1,1,0,0⟩).2
def Kf:List Spc:=(oDo Ke ⟨1,2,0,0⟩).2
def KU:List Spc:=(oDo Kf ⟨3,9,0,0⟩).2
def K7:List Rec:=[⟨65537,32,0,65537,0,true⟩]
end Go.SLYthncobnjdhjnoaaGreat
namespace Go.SLYthncobnjdhjnoaaGreat
open Go Go.RowKit
theorem uk{l:Lib}(hw:∀ t c,(l.bI.run t c).1.aw.length≤17)(p c:Int):aC 40 40 l (l.step p c).2.2:=by
 unfold Lib.step
 split
 ·rename_i hh
  obtain⟨i,v,rfl,hv, -⟩:=jf hh
  simp only
  split
  ·unfold Lib.upcall
   split
   ·rename_i x rest e
    rw[eC hv] at e
    have hl:=sf e
    exact(aC.recover hv (by omega) c (hw x.af c)).le (by omega) (by omega)
   ·exact(aC.enter hv 2).le (by omega) (by omega)
  ·split
   ·exact(aC.handle hv).le (by omega) (by omega)
   ·split
    ·exact(aC.enter hv 4).le (by omega) (by omega)
    ·split
     ·exact(aC.pick hv).le (by omega) (by omega)
     ·split
      ·exact(aC.gY hv c (hw _ c)).le (by omega) (by omega)
      ·split
       ·exact(aC.enter hv 7).le (by omega) (by omega)
       ·split
        ·exact(aC.inside hv c (hw _ c)).le (by omega) (by omega)
        ·split
         ·split
          ·exact(aC.refl _).le (by omega) (by omega)
          ·exact(aC.iF (x:={l.v (i:Int) with mode:=3 }) (a:=0) hv (by rw[eC hv];exact Nat.le_refl _)).le (by omega) (by omega)
         ·exact(aC.refl _).le (by omega) (by omega)
 ·exact(aC.refl _).le (by omega) (by omega)
theorem m8(l:Lib)(p:Int):aC 2 0 l (l.cO p).2:=by
 have h:=gB l p
 exact⟨h.len,congrArg _ h.rows,xJ l p,fun m hm=>by rw[h.rows];exact hm⟩
theorem ou(l:Lib)(p:Int):aC 1 0 l (l.eb p).2:=by
 cases h:l.has p with
 | false=>rw[m6 h];exact(aC.refl _).le (by omega) (by omega)
 | true =>
  obtain⟨i,v,rfl,hv, -⟩:=jf h
  rw[lG h hv, ← gH]
  exact aC.iF hv (by have:=xI v [];simpa using this)
theorem yh(l:Lib)(p:Int):(l.eb p).2.bI=l.bI:=by unfold Lib.eb;split <;> rfl
theorem er.more{k:Nat}{l:Lib}(h:er k l):er (k+1) l:=h.of ((aC.refl _).le (by omega) (by omega)) (h.sp.more (by omega))
theorem er.cO{k:Nat}{l:Lib}(h:er k l)(p:Int):er (k+1) (l.cO p).2:=h.of ((m8 l p).le (by omega) (by omega)) (by rw[(gB l p).bI];exact h.sp.more (by omega))
theorem er.eb{k:Nat}{l:Lib}(h:er k l)(p:Int):er (k+1) (l.eb p).2:=h.of ((ou l p).le (by omega) (by omega)) (by rw[yh];exact h.sp.more (by omega))
theorem er.new{s:Spc}(h:jj 1 s)(p:Int):er 0 (Lib.new s p):=by
 have hc:0≤ay p 64∧ay p 64≤64:=by unfold ay;omega
 have h2:=fC s.aA 0
 rw[h.lt] at h2
 refine⟨h,?_,?_,?_,?_⟩
 ·show(List.replicate _ _).length≤_;rw[List.length_replicate];omega
 ·show(List.replicate _ _).length≤_;rw[List.length_replicate];omega
 ·show(aQ s.ready).length+((List.replicate (ay p 64).toNat aR.z).map (fun v=>v.evs.length)).sum≤_
  have h3:(aQ s.ready).length=(readyFrom s.aA 0).length:=by unfold aQ;rw[List.length_map];rfl
  rw[h3,List.map_replicate,List.sum_replicate_nat]
  show _+(ay p 64).toNat * 0≤_
  omega
 ·intro r hr
  have:r=[]:=List.eq_of_mem_replicate hr
  subst this;exact Nat.zero_le _
theorem er.yz{k:Nat}{l:Lib}(h:er k l)(hk:k≤180):∀ t c,(l.bI.run t c).1.aw.length≤17:=fun t c=>xX h.sp (by omega) t c
/-! the law's own fact -/
def IJ:List Ins:=[⟨1,1,0,0,5⟩]
def sY:gD:=⟨[IJ],0,0,0,[],[],0,0⟩
def iG(x y:Nat):aW:=⟨v8 y 1,[(v8 x 1,IJ)],0,0,0,.slice none 0 0,[],.slice none 0 0,[],0,0⟩
def KB(x y:Nat):aa:=seps [arr y 0 [v8 x 1],arr x 0 (rows dO IJ)]
theorem GW{W:World}{x y:Nat}:ez W [KB x y] (iG x y):=by
 refine⟨Rd.et (Rd.lit .here rfl (fun _ _=>rfl) rfl),fun q hq=>?_,Rd.nil,Rd.nil⟩
 rw[show(iG x y).fs=[(v8 x 1,IJ)] from rfl,List.mem_singleton] at hq
 subst hq
 exact Rd.et (Rd.lit (.there .here) rfl (fun _ _=>rfl) rfl)
theorem Hm:c0 sY=0:=by decide +kernel
theorem Jw:AX sY:=⟨Hm,fun f hf i hi=>by
 have:(sY.funcs.all fun f=>f.all fun i=>decide (0≤i.n) && decide (i.n≤18446744073709551615))=true:=by decide +kernel
 have:=List.all_eq_true.1 (List.all_eq_true.1 this f hf) i hi
 exact(by simpa using this:0≤i.n∧i.n≤18446744073709551615)⟩
def Ab:Lib:=Lib.new (Spc.new sY) 2
def CL:Lib:=(Ab.cO 1).2
def l16:Nat→Lib
 | 0=>(CL.cO 1).2
 | k+1=>((l16 k).step 1 0).2.2
def Fp:Nat→Nat
 | 0=>0
 | k+1=>Fp k+if ((l16 k).step 1 0).1.aL=true then 1 else 0
theorem Jx:er 0 Ab:=er.new (jj.new Jw) 2
theorem Jy:er 1 CL:=Jx.cO 1
theorem i16:∀ k,k≤30→er (k+2) (l16 k)
 | 0,_=>Jy.cO 1
 | k+1,h=>(i16 k (by omega)).step (by omega) 1 0
theorem Kg:(Ab.cO 1).1=true:=by decide +kernel
theorem Kh:(CL.cO 1).1=false:=by decide +kernel
theorem KV:Fp 20=2:=by decide +kernel
theorem KW:((l16 20).step 0 0).2.1=11:=by decide +kernel
theorem KX:(l16 20).has 0=false:=by decide +kernel
theorem KY:(l16 20).procs=[1]:=by decide +kernel
theorem KZ:(l16 20).locked=false:=by decide +kernel
theorem Fq:∀ k,Fp k≤k
 | 0=>Nat.le_refl _
 | k+1=>by
  have:=Fq k
  unfold Fp;split <;> omega
end Go.SLYthncobnjdhjnoaaGreat
namespace Go.SLYthncobnjdhjnoaaGreat
open Go Go.RowKit Go.Proofs Go.Proofs.Tryz
attribute [local irreducible] aq aJ ba bq bu Y
theorem pW{W:World}  : Fn Tryz.prog W 29 [] [] Unit (fun _=>.bool true) (fun _=>True) (fun _=>[]):=by
 refine Fn.intro (N:=72) func29 rfl ntmps29 rfl fun F=>?_
 show aq _ _ _ _ _ _ [F]
 refine J 7 ?_
 refine .p (.sK (fun v1 v2 v3=>[v1,v2,(.int .i64 0),(.int .i64 0),v3]) rfl rfl rfl (by kernel_rfl)) ?_
 refine .ai rfl (ab.fG 88 rfl rfl (by kernel_rfl)) ?_
 rintro _ _ ⟨b14,rfl,rfl⟩
 refine .ai rfl (ab.fG 89 rfl rfl (by kernel_rfl)) ?_
 rintro _ _ ⟨b15,rfl,rfl⟩
 refine .p (.iK (fun _=>fe (iG b14 b15)) rfl (by kernel_rfl)) ?_
 refine .c call28 rfl (rI (A:=KB b14 b15) (v:=iG b14 b15) GW ⟨by show 1≤_;decide,by show 0≤_;decide,by show 0≤_;decide⟩) fun o ho=>?_
 rw[show(iG b14 b15).p=sY from rfl,Hm] at ho ⊢
 obtain⟨kb,rfl⟩:=Option.isSome_iff_exists.1 ho
 refine .fr (A:=optH (fun b=>fX b (Spc.new sY)) (some kb)) (Bs:=[fX kb (Spc.new sY)]) .auto gN ?_
 refine .o1 (C:=fX kb (Spc.new sY)) .auto rfl ?_
 rintro pt -
 refine J 10 ?_
 refine .c call30 rfl (A6 (bs:=kb) (ps:=pt) (s:=Spc.new sY) (p:=2) (nB _)) fun u21 _=>?_
 rw[show Lib.new (Spc.new sY) 2=Ab from rfl]
 refine .o2 (C:=du u21 Ab) .auto rfl ?_
 rintro bs br -
 refine J 6 ?_
 refine .c call32 rfl (lX (l:=Ab) (p:=1) (Nat.le_trans (Jx.sz (by decide)).wt (by decide))) fun _ _=>?_
 rw[Kg,show(Ab.cO 1).2=CL from rfl]
 refine J 1 ?_
 refine .c call32 rfl (lX (l:=CL) (p:=1) (Nat.le_trans (Jy.sz (by decide)).wt (by decide))) fun _ _=>?_
 rw[Kh,show(CL.cO 1).2=l16 0 from rfl]
 refine J 16 ?_
 refine .bf (X:=Nat) [6,7,8,9,26,27,28,29,30,31,32,33,34,35,36,37,38] (fun k=>20-k) (fun k=>k≤20) (fun k=>[(7,some (.int .i64 (k:Int))),(6,some (.int .i64 (Fp k:Int)))]) (fun k=>[aX u21 bs br (l16 k),F]) 0 ?_ ?_ ?_ ?_
 ·exact Nat.zero_le _
 ·exact⟨rfl,rfl,trivial⟩
 ·exact fun w s=>au.kept .auto w s
 rintro k hk
 refine JD 7 (fun h27=>?_) fun h27=>?_
 ·refine J 6 ?_
  have hI:=i16 k (by omega)
  have hnk:=Fq k
  refine J 1 ?_
  refine .c call31 rfl (ot (l:=l16 k) (p:=1) (c:=0) (hI.sz (by omega)) (fun t=>hI.yz (by omega) t _)) fun u32 _=>?_
  refine .cA (fun w s=>Rd.isSl (Rd.sl .auto) w s) fun hu32=>?_
  rw[show((l16 k).step 1 0).2.2=l16 (k+1) from rfl]
  refine J 1 ?_
  refine .p (.extract (v:=.agg (cC u32 ((l16 k).step 1 0).1).toArray) rfl rfl) ?_
  refine .p (.extract (v:=.int .i64 ((l16 k).step 1 0).2.1) rfl rfl) ?_
  refine .ai rfl (ab.alloc rfl zeroValue37 rfl) ?_
  rintro _ _ ⟨b8,rfl,rfl⟩
  refine .ai rfl (ab.gC (vs:=cC u32 ((l16 k).step 1 0).1) (by exact sizeOf37) rfl rfl (cy hu32) (by rfl)) ?_
  rintro _ _ ⟨rfl,rfl⟩
  refine JD 9 (fun h36=>?_) fun h36=>?_
  ·refine J 2 ?_
   refine .p (.add rfl rfl (by omega)) ?_
   refine J 9 ?_
   refine .aF (k+1) .auto rfl ?_ ?_ ?_ ?_
   ·omega
   ·show k+1≤20;omega
   ·refine⟨rfl,?_,trivial⟩
    rw[show Fp (k+1)=Fp k+1 from by show Fp k+_=_;rw[if_pos h36]];rfl
   ·exact fun w s=>au.kept .auto w s
  ·refine J 8 ?_
   refine .aF (k+1) .auto rfl ?_ ?_ ?_ ?_
   ·omega
   ·show k+1≤20;omega
   ·refine⟨rfl,?_,trivial⟩
    rw[show Fp (k+1)=Fp k from by show Fp k+_=_;rw[if_neg (by rw[h36];simp)];rfl];rfl
   ·exact fun w s=>au.kept .auto w s
 ·obtain rfl:k=20:=by omega
  have hI:=i16 20 (by decide)
  rw[KV]
  refine J 8 ?_
  refine .c call31 rfl (ot (l:=l16 20) (p:=0) (c:=0) (hI.sz (by decide)) (fun t=>hI.yz (by decide) t _)) fun u41 _=>?_
  refine .cA (fun w s=>Rd.isSl (Rd.sl .auto) w s) fun hu41=>?_
  rw[KW,show((l16 20).step 0 0).2.2=l16 20 from by rw[oq KX]]
  refine J 1 ?_
  refine .p (.extract (v:=.agg (cC u41 ((l16 20).step 0 0).1).toArray) rfl rfl) ?_
  refine .p (.extract (v:=.int .i64 11) rfl rfl) ?_
  refine .ai rfl (ab.alloc rfl zeroValue37 rfl) ?_
  rintro _ _ ⟨b10,rfl,rfl⟩
  refine .ai rfl (ab.gC (vs:=cC u41 ((l16 20).step 0 0).1) (by exact sizeOf37) rfl rfl (cy hu41) (by rfl)) ?_
  rintro _ _ ⟨rfl,rfl⟩
  refine J 23 ?_
  apply aJ.eT 5 66 61 [61,62,63,64,65,66] rfl
  ·intro h61
   refine J 1 ?_
   refine .cg call16 rfl (ia (l:=l16 20) (Nat.le_trans (hI.sz (by decide)).vl (by decide))) fun u63 _=>?_
   rw[KY]
   refine .dg rfl rfl rfl (ab.fG 3 rfl rfl (by kernel_rfl)) ?_
   rintro _ _ ⟨b64,rfl,rfl⟩
   refine .cg call20 rfl (iE (A:=seps [sl ar 1 u63 [1],arr b64 0 [.int .i64 1]]) (xs:=[1]) (ys:=[1]) (Rd.et (Rd.sl .here)) (Rd.et (Rd.lit (.there .here) rfl (fun _ _=>rfl) rfl)) (by decide)) fun _ _=>?_
   exact JS 2
  ·intro h61
   exact JS 6
  refine J 2 ?_
  refine .cg call40 rfl m7 fun _ _=>?_
  rw[KZ]
  exact JR 6 ()
end Go.SLYthncobnjdhjnoaaGreat
namespace Go.SLYthncobnjdhjnoaaGreat
open Go Go.RowKit
theorem ez.at{W:World}{H:List aa}{A:aa}{v:aW}(h:ez W [A] v)(ha:At H A):ez W H v:=⟨h.fs.at ha,fun x hx=>(h.ins x hx).at ha,h.sems.at ha,h.pipes.at ha⟩
theorem ez.et{W:World}{H:List aa}{v:aW}(h:ez W H v):ez W [seps H] v:=⟨Rd.et h.fs,fun x hx=>Rd.et (h.ins x hx),Rd.et h.sems,Rd.et h.pipes⟩
/-! the laws' own fact -/
def K8:List Cb:=[⟨1,1,0,3⟩,⟨3,5,0,0⟩,⟨1,0,0,0⟩]
def K9:List Cb:=[⟨1,0,0,3⟩,⟨3,0,0,0⟩]
def K0:List Cb:=[⟨1,1,0,0⟩]
def La(x y z w:Nat):aa:=seps [KT x y z,arr w 0 (rows J5 K0)]
end Go.SLYthncobnjdhjnoaaGreat
namespace Go.SLYthncobnjdhjnoaaGreat
open Go Go.RowKit
def Ki(v:aR)(w:Bool):Bool:=(decide (v.mode=1) && !w) || decide (v.mode=3) || decide (v.mode=6)
end Go.SLYthncobnjdhjnoaaGreat
namespace Go.SLYthncobnjdhjnoaaGreat
open Go Go.RowKit Go.Proofs Go.Proofs.Tryz
attribute [local irreducible] aq aJ ba bq bu Y
end Go.SLYthncobnjdhjnoaaGreat
namespace Go.SLYthncobnjdhjnoaaGreat
open Go Go.RowKit Go.Proofs Go.Proofs.Tryz
attribute [local irreducible] aq aJ ba bq bu Y
theorem pq{W:World}{b bs br:Nat}{l:Lib}:Fn Tryz.prog W 26 [ptr b] [aX b bs br l] Unit (fun _=>ptr bs) (fun _=>True) (fun _=>[aX b bs br l]):=by
 refine Fn.intro (N:=9) func26 rfl ntmps26 rfl fun F=>?_
 show aq _ _ _ _ _ _ [aX b bs br l,F]
 refine J 12 ?_
 refine .eN rfl ?_
 refine J 4 ?_
 refine .o2 (C:=aX b bs br l) .auto rfl ?_
 rintro vv vw -
 exact JR 8 ()
theorem iH{W:World}{b:Nat}{bl:List Nat}{k:Krn}:Fn Tryz.prog W 18 [ptr b] [bX b bl k] Unit (fun _=>.int .i64 (k.owner.length:Int)) (fun _=>True) (fun _=>[bX b bl k]):=by
 refine Fn.intro (N:=10) func18 rfl ntmps18 rfl fun F=>?_
 show aq _ _ _ _ _ _ [bX b bl k,F]
 refine J 12 ?_
 refine .eN rfl ?_
 refine J 4 ?_
 refine .o3 (C:=bX b bl k) .auto rfl ?_
 rintro vo vl xs ⟨hxb,hxs⟩
 have hxl:=aE hxs
 have hbl:=aE hxb
 have hxx:=And.intro hxb hxs
 exact JR 9 ()
theorem iX{W:World}{b:Nat}{bl:List Nat}{k:Krn}:Fn Tryz.prog W 14 [ptr b] [bX b bl k] Unit (fun _=>.int .i64 (k.libs.length:Int)) (fun _=>True) (fun _=>[bX b bl k]):=by
 refine Fn.intro (N:=10) func14 rfl ntmps14 rfl fun F=>?_
 show aq _ _ _ _ _ _ [bX b bl k,F]
 refine J 12 ?_
 refine .eN rfl ?_
 refine J 4 ?_
 refine .o3 (C:=bX b bl k) .auto rfl ?_
 rintro vo vl xs ⟨hxb,hxs⟩
 have hxl:=aE hxs
 have hbl:=aE hxb
 have hxx:=And.intro hxb hxs
 refine J 9 ?_
 refine .aP rfl rfl fun w s=>⟨(),?_,trivial,aj .auto s⟩
 rw[← hxl]
theorem m9{W:World}{b:Nat}{bl:List Nat}{k:Krn}{p:Int}:Fn Tryz.prog W 42 [ptr b,.int .i64 p] [bX b bl k] Unit (fun _=>.bool (eH k p)) (fun _=>True) (fun _=>[bX b bl k]):=by
 refine Fn.intro (N:=13) func42 rfl ntmps42 rfl fun F=>?_
 show aq _ _ _ _ _ _ [bX b bl k,F]
 refine J 10 ?_
 apply aJ.eT 5 12 7 [7,8,9,10,11,12] rfl
 ·intro h7
  refine J 2 ?_
  refine .cg call18 rfl iH fun _ _=>?_
  exact JS 3
 ·intro h7
  exact JS 6
 exact JR 4 ()
theorem na{W:World}{b:Nat}{bl:List Nat}{k:Krn}{p:Int}:Fn Tryz.prog W 17 [ptr b,.int .i64 p] [bX b bl k] Unit (fun _=>.tuple #[.int .i64 (k.eG p).1,.bool (k.eG p).2]) (fun _=>True) (fun _=>[bX b bl k]):=by
 refine Fn.intro (N:=27) func17 rfl ntmps17 rfl fun F=>?_
 show aq _ _ _ _ _ _ [bX b bl k,F]
 refine J 11 ?_
 refine .c call42 rfl m9 fun _ _=>?_
 refine J 2 ?_
 apply aJ.gM 9 19 10 [10,11,12,13,14,15,16,17,18,19] rfl
 ·intro h10
  have h9:eH k p=true:=by simpa using h10
  obtain⟨i,o,hi,ho⟩:=hZ h9
  have hil:=(List.getElem?_eq_some_iff.1 ho).1
  refine .o3 (C:=bX b bl k) .auto rfl ?_
  rintro vo vl xs ⟨hxb,hxs⟩
  have hxl:=aE hxs
  have hbl:=aE hxb
  have hxx:=And.intro hxb hxs
  refine J 5 ?_
  refine .g (.sJ i underlying33 sizeOf3 rfl rfl Rd.s hi (by omega)) ?_
  refine .g (.eS (Y.load isAgg3 rfl (Cell.G0 Rd.s ho rfl)) ((uK ho).trans (congrArg _ hi.symm))) ?_
  exact JS 3
 ·intro h10
  exact JS 10
 refine JD 2 (fun h19=>?_) fun h19=>?_
 ·simp only[Bool.or_eq_true,decide_eq_true_eq,Bool.not_eq_true'] at h19
  refine J 8 ?_
  refine .eO rfl rfl rfl fun w s=>⟨(),?_,trivial,aj .auto s⟩
  rw[wP h19]
 ·simp only[Bool.or_eq_false_iff,decide_eq_false_iff_not,Bool.not_eq_false'] at h19
  refine J 4 ?_
  obtain⟨i,o,rfl,ho⟩:=hZ (by simpa using h19.1)
  have hil:=(List.getElem?_eq_some_iff.1 ho).1
  have hoo:=uK ho
  refine .o3 (C:=bX b bl k) .auto rfl ?_
  rintro vo vl xs ⟨hxb,hxs⟩
  have hxl:=aE hxs
  have hbl:=aE hxb
  have hxx:=And.intro hxb hxs
  refine J 5 ?_
  refine .p (.ix i rfl rfl rfl (by omega)) ?_
  refine J 6 ?_
  refine .eO rfl rfl rfl fun w s=>⟨(),?_,trivial,aj .auto s⟩
  rw[oI ho (by rw[hoo];exact h19.2)]
theorem jP{W:World}{b:Nat}{bl:List Nat}{k:Krn}(hl:k.owner.length≤64):Fn Tryz.prog W 13 [ptr b] [bX b bl k] Value (fun u=>u) (fun _=>True) (fun u=>[sl ar 1 u k.free,bX b bl k]):=by
 refine Fn.intro (N:=24) func13 rfl ntmps13 rfl fun F=>?_
 show aq _ _ _ _ _ _ [bX b bl k,F]
 refine J 14 ?_
 refine .c call18 rfl iH fun _ _=>?_
 refine .o3 (C:=bX b bl k) .auto rfl ?_
 rintro vo vl xs ⟨hxb,hxs⟩
 have hxl:=aE hxs
 have hbl:=aE hxb
 have hxx:=And.intro hxb hxs
 refine J 4 ?_
 refine .bf (X:=Nat×Value×List Int) [3,4,7,8,9,10,11,12,13,14,15,16,17,18,19,20,21,22] (fun z=>k.owner.length-z.1) (fun z=>z.1≤k.owner.length∧z.2.2.length≤z.1∧k.free=z.2.2++freeFrom (k.owner.drop z.1) z.1) (fun z=>[(7,some (.int .i64 (z.1:Int))),(3,some z.2.1)]) (fun z=>[sl ar 1 z.2.1 z.2.2,arr b 0 [vo,vl],sl ar 1 vo k.owner,sl cX 1 vl xs,aO (fun x:Nat×Lib=>du x.1 x.2) xs,F]) (0,.slice none 0 0,[]) ?_ ?_ ?_ ?_
 ·exact⟨Nat.zero_le _,Nat.le_refl _,rfl⟩
 ·exact⟨rfl,rfl,trivial⟩
 ·exact fun w s=>au.kept .auto w s
 rintro⟨n,u,ys⟩ ⟨hk,hyl,hn⟩
 simp only at hk hyl hn
 refine JD 6 (fun h8=>?_) fun h8=>?_
 ·refine J 12 ?_
  obtain⟨o,ho⟩:=al (show n<k.owner.length by omega)
  refine JD 10 (fun h17=>?_) fun h17=>?_
  ·refine J 3 ?_
   refine .ai rfl (ab.fG 3 rfl rfl (by kernel_rfl)) ?_
   rintro _ _ ⟨b20,rfl,rfl⟩
   refine .ai rfl (ab.gv (enc:=ar) (k:=1) (n:Int) rfl underlying33 underlying33 typeInfo3 rfl rfl rfl (by decide) rfl rfl rfl .auto rfl .auto (by first | omega | (dsimp only;omega)) rfl) ?_
   rintro _ _ ⟨v21,rfl,rfl⟩
   refine J 8 ?_
   refine .aF (n+1,v21,ys++[(n:Int)]) .auto rfl ?_ ?_ ?_ ?_
   ·show k.owner.length-(n+1)<k.owner.length-n;omega
   ·exact⟨by show n+1≤_;omega,by simp;omega,by rw[hn,DI ho h17];simp⟩
   ·exact⟨rfl,rfl,trivial⟩
   ·exact fun w s=>au.kept .auto w s
  ·refine J 7 ?_
   refine .aF (n+1,u,ys) .auto rfl ?_ ?_ ?_ ?_
   ·show k.owner.length-(n+1)<k.owner.length-n;omega
   ·exact⟨by show n+1≤_;omega,by show ys.length≤n+1;omega,by rw[hn,FZ ho h17]⟩
   ·exact⟨rfl,rfl,trivial⟩
   ·exact fun w s=>au.kept .auto w s
 ·refine J 12 ?_
  obtain rfl:n=k.owner.length:=by omega
  rw[DJ (Nat.le_refl _),List.append_nil] at hn
  subst hn
  refine .aP rfl rfl fun w s=>⟨_,?_,trivial,aj .auto s⟩
  rfl
theorem fR{W:World}{b:Nat}{bl:List Nat}{k:Krn}{m:Nat}(hk:qX m k):Fn Tryz.prog W 19 [ptr b] [bX b bl k] Value (fun u=>u) (fun _=>True) (fun u=>[sl ar 1 u k.demand,bX b bl k]):=by
 refine Fn.intro (N:=25) func19 rfl ntmps19 rfl fun F=>?_
 show aq _ _ _ _ _ _ [bX b bl k,F]
 have hll:=hk.ll
 refine J 14 ?_
 refine .c call14 rfl iX fun _ _=>?_
 refine .o3 (C:=bX b bl k) .auto rfl ?_
 rintro vo vl xs ⟨hxb,hxs⟩
 have hxl:=aE hxs
 have hbl:=aE hxb
 have hxx:=And.intro hxb hxs
 refine J 4 ?_
 refine .bf (X:=Nat×Value) [3,4,7,8,9,10,11,12,13,14,15,16,17,18,19,20,21,22,23] (fun z=>k.libs.length-z.1) (fun z=>z.1≤k.libs.length) (fun z=>[(7,some (.int .i64 (z.1:Int))),(3,some z.2)]) (fun z=>[sl ar 1 z.2 (k.demand.take z.1),arr b 0 [vo,vl],sl ar 1 vo k.owner,sl cX 1 vl xs,aO (fun x:Nat×Lib=>du x.1 x.2) xs,F]) (0,.slice none 0 0) ?_ ?_ ?_ ?_
 ·exact Nat.zero_le _
 ·exact⟨rfl,rfl,trivial⟩
 ·exact fun w s=>au.kept .auto w s
 rintro⟨n,u⟩ hn
 simp only at hn
 refine JD 6 (fun h8=>?_) fun h8=>?_
 ·refine J 11 ?_
  obtain⟨x,hx⟩:=al (show n<xs.length by omega)
  have hx2:=ff hxs hx
  have hlo:=hk.oz x.2 (List.mem_of_getElem? hx2)
  refine J 8 ?_
  refine .fr .auto (cY (f:=fun x:Nat×Lib=>du x.1 x.2) hx) ?_
  refine .o2 (C:=du x.1 x.2) .auto rfl ?_
  rintro bs br -
  refine .c call26 rfl pq fun _ _=>?_
  refine .o2 (C:=aX x.1 bs br x.2) .auto rfl ?_
  rintro vv vw -
  refine .o1 (C:=fX bs x.2.bI) .auto rfl ?_
  rintro ps -
  refine .c call45 rfl (mR hlo.th) fun u19 _=>?_
  refine J 1 ?_
  refine .ai rfl (ab.fG 3 rfl rfl (by kernel_rfl)) ?_
  rintro _ _ ⟨b21,rfl,rfl⟩
  refine .to (A:=aO (fun x:Nat×Lib=>du x.1 x.2) xs) .auto (dR (f:=fun x:Nat×Lib=>du x.1 x.2) hx) ?_
  refine .ai rfl (ab.gv (enc:=ar) (k:=1) (x.2.bI.ready.length:Int) rfl underlying33 underlying33 typeInfo3 rfl rfl rfl (by decide) rfl rfl rfl .auto rfl .auto (by rw[List.length_take];omega) rfl) ?_
  rintro _ _ ⟨v22,rfl,rfl⟩
  refine J 8 ?_
  refine .aF (n+1,v22) .auto rfl ?_ ?_ ?_ ?_
  ·show k.libs.length-(n+1)<k.libs.length-n;omega
  ·show n+1≤_;omega
  ·exact⟨rfl,rfl,trivial⟩
  ·show ∀ w,Sat _ w _→Sat _ w (seps [sl ar 1 v22 (k.demand.take (n+1)),arr b 0 [vo,vl],sl ar 1 vo k.owner,sl cX 1 vl xs,aO (fun x:Nat×Lib=>du x.1 x.2) xs,F])
   rw[DK hx2]
   exact fun w s=>au.kept .auto w s
 ·refine J 12 ?_
  obtain rfl:n=k.libs.length:=by omega
  rw[List.take_of_length_le (show k.demand.length≤k.libs.length from by unfold Krn.demand;rw[List.length_map];exact Nat.le_refl _)]
  refine .aP rfl rfl fun w s=>⟨_,?_,trivial,aj .auto s⟩
  rfl
theorem iI{W:World}{b:Nat}{bl:List Nat}{k:Krn}{n:Int}:Fn Tryz.prog W 15 [ptr b,.int .i64 n] [bX b bl k] Unit (fun _=>dN (aV bl n)) (fun _=>True) (fun _=>[bX b bl k]):=by
 refine Fn.intro (N:=27) func15 rfl ntmps15 rfl fun F=>?_
 show aq _ _ _ _ _ _ [bX b bl k,F]
 refine .o3 (C:=bX b bl k) .auto rfl ?_
 rintro vo vl xs ⟨hxb,hxs⟩
 have hxl:=aE hxs
 have hbl:=aE hxb
 have hxx:=And.intro hxb hxs
 refine J 11 ?_
 apply aJ.gM 3 10 7 [7,8,9,10] rfl
 ·intro h7
  exact JS 4
 ·intro h7
  exact JS 4
 refine J 1 ?_
 apply aJ.fY 8 19 11 [11,12,13,14,15,16,17,18,19] rfl
 ·intro h11
  exact JS 9
 ·intro h11
  exact JS 9
 refine JD 2 (fun h19=>?_) fun h19=>?_
 ·simp only[Bool.or_eq_true,decide_eq_true_eq] at h19
  refine J 7 ?_
  refine .aP rfl rfl fun w s=>⟨(),?_,trivial,aj .auto s⟩
  rw[(HE (wQ hxb hxs) (by rw[← hxl];simpa using h19)).1];rfl
 ·simp only[Bool.or_eq_false_iff,decide_eq_false_iff_not] at h19
  refine J 4 ?_
  obtain⟨i,rfl⟩:∃ i:Nat,n=(i:Int):=⟨n.toNat,by omega⟩
  obtain⟨x,hx⟩:=al (show i<xs.length by omega)
  have hil:=(List.getElem?_eq_some_iff.1 hx).1
  refine J 5 ?_
  refine .p (.ix i rfl rfl rfl (by omega)) ?_
  refine J 5 ?_
  refine .aP rfl rfl fun w s=>⟨(),?_,trivial,aj .auto s⟩
  rw[bK,ff hxb hx];rfl
theorem um{W:World}{b:Nat}{bl:List Nat}{k:Krn}{p:Int}{m:Nat}(hk:qX m k):Fn Tryz.prog W 43 [ptr b,.int .i64 p] [bX b bl k] Unit (fun _=>.tuple #[dN (qZ bl k p),.int .i64 (eI k p)]) (fun _=>True) (fun _=>[bX b bl k]):=by
 refine Fn.intro (N:=27) func43 rfl ntmps43 rfl fun F=>?_
 show aq _ _ _ _ _ _ [bX b bl k,F]
 refine J 11 ?_
 refine .c call42 rfl m9 fun _ _=>?_
 refine JD 3 (fun h11=>?_) fun h11=>?_
 ·refine J 8 ?_
  refine .eO rfl rfl rfl fun w s=>⟨(),?_,trivial,aj .auto s⟩
  rw[(ta (bl:=bl) (by simpa using h11)).1,(ta (bl:=bl) (by simpa using h11)).2];rfl
 ·refine J 6 ?_
  refine .c call17 rfl na fun _ _=>?_
  refine JD 14 (fun h19=>?_) fun h19=>?_
  ·refine J 8 ?_
   refine .eO rfl rfl rfl fun w s=>⟨(),?_,trivial,aj .auto s⟩
   rw[(tc (bl:=bl) (by simpa using h11) (by simpa using h19)).1,(tc (bl:=bl) (by simpa using h11) (by simpa using h19)).2];rfl
  ·refine J 4 ?_
   refine .o3 (C:=bX b bl k) .auto rfl ?_
   rintro vo vl xs ⟨hxb,hxs⟩
   have hxl:=aE hxs
   have hbl:=aE hxb
   have hxx:=And.intro hxb hxs
   obtain⟨i,o,rfl,ho,hon,hoe⟩:=DL (by simpa using h11) (by simpa using h19)
   obtain⟨n,l,rfl,hl⟩:=hk.nat ho hon
   obtain⟨x,hx,rfl,hbx⟩:=gb hxb hxs hl
   have hil:=(List.getElem?_eq_some_iff.1 hx).1
   rw[(k6 (bl:=bl) ho).1,(k6 (bl:=bl) ho).2,hbx]
   refine J 5 ?_
   refine .p (.sJ n underlying83 sizeOf42 rfl rfl Rd.s (congrArg (·.1) hoe) (by omega)) ?_
   exact JR 6 ()
theorem jQ{W:World}{b:Nat}{bl:List Nat}{k:Krn}{p:Int}{m:Nat}(hk:qX m k)(hm:m≤300000000):Fn Tryz.prog W 11 [ptr b,.int .i64 p] [bX b bl k] Unit (fun _=>.int .i64 (k.take p).1) (fun _=>True) (fun _=>[bX b bl (k.take p).2]):=by
 refine Fn.intro (N:=25) func11 rfl ntmps11 rfl fun F=>?_
 show aq _ _ _ _ _ _ [bX b bl k,F]
 refine J 9 ?_
 refine .c call43 rfl (um hk) fun _ _=>?_
 refine JD 14 (fun h14=>?_) fun h14=>?_
 ·refine J 8 ?_
  rw[iv h14]
  exact JR 0 ()
 ·refine J 4 ?_
  refine .o3 (C:=bX b bl k) .auto rfl ?_
  rintro vo vl xs ⟨hxb,hxs⟩
  have hxl:=aE hxs
  have hbl:=aE hxb
  have hxx:=And.intro hxb hxs
  obtain⟨i,n,l,rfl,ho,hl,he⟩:=gE hk (Decidable.of_not_not h14)
  obtain⟨x,hx,rfl,hbx⟩:=gb hxb hxs hl
  have hil:=(List.getElem?_eq_some_iff.1 hx).1
  have hio:=(List.getElem?_eq_some_iff.1 ho).1
  have hlo:=hk.oz x.2 (List.mem_of_getElem? hl)
  rw[he]
  refine J 5 ?_
  refine .p (.ix i rfl rfl rfl (by omega)) ?_
  refine .ai rfl (ab.ew (x':=(-1:Int)) rfl rfl sizeOf3 rfl ho (by decide) rfl .auto) ?_
  rintro _ _ ⟨rfl,rfl⟩
  refine J 4 ?_
  rw[(k6 (bl:=bl) ho).2,hbx]
  refine .fr .auto (cY (f:=fun x:Nat×Lib=>du x.1 x.2) hx) ?_
  refine .o2 (C:=du x.1 x.2) .auto rfl ?_
  rintro bs br -
  refine J 2 ?_
  refine .c call33 rfl (rK (l:=x.2) (b:=x.1) (bs:=bs) (br:=br) (p:=(i:Int)) ⟨by have:=hlo.w;omega,Nat.le_trans hlo.vl (by decide),fun v hv=>Nat.le_trans (hlo.e v hv) (by omega)⟩) fun _ _=>?_
  refine .to (A:=aO (fun x:Nat×Lib=>du x.1 x.2) (xs.set n (x.1,(x.2.cF (i:Int)).2))) .auto (oH (f:=fun x:Nat×Lib=>du x.1 x.2) (x.1,(x.2.cF (i:Int)).2) hx) ?_
  have hss:=uL hxb hxs hx (x.2.cF (i:Int)).2
  refine .to (A:=sl cX 1 vl (xs.set n (x.1,(x.2.cF (i:Int)).2))) (Bs:=[sl cX 1 vl xs]) .auto (yW (hxb.trans hss.1.symm)) ?_
  exact JR 8 ()
theorem fS{W:World}{b:Nat}{bl:List Nat}{k:Krn}{p n:Int}{m:Nat}(hk:qX m k)(hm:m≤300000000):Fn Tryz.prog W 10 [ptr b,.int .i64 p,.int .i64 n] [bX b bl k] Unit (fun _=>.int .i64 (k.cz p n).1) (fun _=>True) (fun _=>[bX b bl (k.cz p n).2]):=by
 refine Fn.intro (N:=39) func10 rfl ntmps10 rfl fun F=>?_
 show aq _ _ _ _ _ _ [bX b bl k,F]
 refine J 9 ?_
 refine .c call15 rfl iI fun _ _=>?_
 refine J 9 ?_
 refine .c call42 rfl m9 fun _ _=>?_
 refine J 2 ?_
 apply aJ.gM 3 19 16 [16,17,18,19] rfl
 ·intro h16
  exact JS 4
 ·intro h16
  exact JS 4
 refine JD 3 (fun h11=>?_) fun h11=>?_
 ·simp only[Bool.or_eq_true,Bool.not_eq_true'] at h11
  refine .o3 (C:=bX b bl k) .auto rfl ?_
  rintro vo vl xs ⟨hxb,hxs⟩
  have hxl:=aE hxs
  have hbl:=aE hxb
  have hxx:=And.intro hxb hxs
  rw[yV (wQ hxb hxs) h11]
  exact JR 8 ()
 ·simp only[Bool.or_eq_false_iff,Bool.not_eq_false'] at h11
  refine .o3 (C:=bX b bl k) .auto rfl ?_
  rintro vo vl xs ⟨hxb,hxs⟩
  have hxl:=aE hxs
  have hbl:=aE hxb
  have hxx:=And.intro hxb hxs
  obtain⟨i,j,o,x,rfl,rfl,ho,hx,hl,hbx⟩:=BM hxb hxs h11
  have hio:=(List.getElem?_eq_some_iff.1 ho).1
  have hlo:=hk.oz x.2 (List.mem_of_getElem? hl)
  refine J 7 ?_
  refine .p (.ix i rfl rfl rfl (by omega)) ?_
  refine JD 5 (fun h20=>?_) fun h20=>?_
  ·rw[mA ho ((bK _ _).trans hl) h20]
   exact JR 8 ()
  ·obtain rfl:=Decidable.of_not_not h20
   rw[jy ho hl]
   refine J 11 ?_
   refine .p (.ix i rfl rfl rfl (by omega)) ?_
   refine .ai rfl (ab.ew (x':=(j:Int)) rfl rfl sizeOf3 rfl ho (by decide) rfl .auto) ?_
   rintro _ _ ⟨rfl,rfl⟩
   refine J 4 ?_
   rw[hbx]
   refine .fr .auto (cY (f:=fun x:Nat×Lib=>du x.1 x.2) hx) ?_
   refine .o2 (C:=du x.1 x.2) .auto rfl ?_
   rintro bs br -
   refine J 2 ?_
   refine .c call32 rfl (lX (l:=x.2) (b:=x.1) (bs:=bs) (br:=br) (p:=(i:Int)) (by have:=hlo.w;omega)) fun _ _=>?_
   refine .to (A:=aO (fun x:Nat×Lib=>du x.1 x.2) (xs.set j (x.1,(x.2.cO (i:Int)).2))) .auto (oH (f:=fun x:Nat×Lib=>du x.1 x.2) (x.1,(x.2.cO (i:Int)).2) hx) ?_
   have hss:=uL hxb hxs hx (x.2.cO (i:Int)).2
   refine .to (A:=sl cX 1 vl (xs.set j (x.1,(x.2.cO (i:Int)).2))) (Bs:=[sl cX 1 vl xs]) .auto (yW (hxb.trans hss.1.symm)) ?_
   exact JR 8 ()
end Go.SLYthncobnjdhjnoaaGreat
