/- Walks of functions, and what they compute. Conditions: none, this text proves no statement. -/
import Derived.Test.YtpbjdoplfgeliaaGreatG05
import Derived.Test.YtpbjdoplfgeliaaGreatG01
import Derived.WalkKit
import Derived.ProofKit
import Derived.OpenShut
import Derived.JoinedCond
import Derived.Deep.Slices
import Derived.Carry
import Derived.Test.YtpbjdoplfgeliaaGreatRows
import Derived.Test.YtpbjdoplfgeliaaGreatG03
namespace Go.SLYtpbjdoplfgeliaaGreat
open Go Go.RowKit
theorem kk(t:Int):∀ (rows:List (List Int)) (n:Nat),(whereFrom t rows n).2=yq rows t
 | [],_=>rfl
 | r::rows,n=>by
  unfold whereFrom yq
  rw[List.any_cons]
  by_cases h:t∈r
  ·rw[if_pos h,List.contains_iff_mem.2 h];rfl
  ·rw[if_neg h,kk t rows (n+1)]
   have:r.contains t=false:=by rw[← Bool.not_eq_true,List.contains_iff_mem];exact h
   rw[this,Bool.false_or];rfl
theorem BN{rows:List (List Int)}{p t:Int}(h:(whereFrom t rows 0).2=true):rAdd rows p t=rows:=by unfold rAdd;rw[kk] at h;rw[if_pos h]
theorem EC{rows:List (List Int)}{p t:Int}(h:aB rows p=none):rAdd rows p t=rows:=by
 unfold rAdd;split
 ·rfl
 ·rw[h]
theorem ED{rows:List (List Int)}{p t:Int}{r:List Int}(h:(whereFrom t rows 0).2=false)(hr:aB rows p=some r):rAdd rows p t=rows.set p.toNat (r++[t]):=by
 unfold rAdd;rw[kk] at h;rw[if_neg (by rw[h];simp),hr]
theorem EE{rows:List (List Int)}{t:Int}(h:(whereFrom t rows 0).2=false){i:Nat}{r:List Int}(hr:rows[i]?=some r):r.contains t=false:=by
 rw[kk] at h
 unfold yq at h
 have:=List.any_eq_false.1 h r (List.mem_of_getElem? hr)
 simpa using this
theorem BO{l:List Int}{i:Nat}(h:i+1=l.length):l.eraseIdx i=l.dropLast:=by
 rw[List.dropLast_eq_take,List.eraseIdx_eq_take_drop_succ,List.drop_of_length_le (by omega),List.append_nil,show l.length-1=i from by omega]
theorem JM{l:List Int}{t:Int}(h:l.getLast?=some t):∃ i,i+1=l.length∧l[i]?=some t:=by
 rw[List.getLast?_eq_getElem?] at h
 have:=(List.getElem?_eq_some_iff.1 h).1
 exact⟨l.length-1,by omega,h⟩
theorem Ag:∀ {rows:List (List Int)} {k:Nat} {r:List Int} {t:Int},(∀ j,j<k→rows[j]?=some [])→rows[k]?=some r→r.getLast?=some t→rSteal rows=some (t,rows.set k r.dropLast)
 | [],_,_,_,_,h,_=>by simp at h
 | x::rows,0,r,t,_,h,ht=>by
  have e:x=r:=by simpa using h
  subst e
  unfold rSteal;rw[ht];rfl
 | x::rows,k+1,r,t,hj,h,ht=>by
  have e:x=[]:=by have:=hj 0 (by omega);simpa using this
  subst e
  have ih:=Ag (rows:=rows) (k:=k) (r:=r) (t:=t) (fun j hjk=>by have:=hj (j+1) (by omega);simpa using this) (by simpa using h) ht
  unfold rSteal
  rw[List.getLast?_nil,ih]
  rfl
theorem uc:∀ {rows:List (List Int)},(∀ j,j<rows.length→rows[j]?=some [])→rSteal rows=none
 | [],_=>rfl
 | x::rows,hj=>by
  have e:x=[]:=by have:=hj 0 (by simp);simpa using this
  subst e
  have ih:=uc (rows:=rows) (fun j hjk=>by have:=hj (j+1) (by simp;omega);simpa using this)
  unfold rSteal
  rw[List.getLast?_nil,ih]
def ud(rows:List (List Int))(p:Int):Int:=match rPick rows p with | none=>0 | some x=>x.1
def lN(rows:List (List Int))(p:Int):List (List Int):=match rPick rows p with | none=>rows | some x=>x.2
theorem m7{rows:List (List Int)}{p:Int}(h:rPick rows p=none):ud rows p=0∧lN rows p=rows:=by unfold ud lN;rw[h];exact⟨rfl,rfl⟩
theorem jg{rows rows':List (List Int)}{p t:Int}(h:rPick rows p=some (t,rows')):ud rows p=t∧lN rows p=rows':=by unfold ud lN;rw[h];exact⟨rfl,rfl⟩
theorem ue{rows:List (List Int)}{p:Int}(h:aB rows p=none):rPick rows p=none:=by unfold rPick;rw[h]
theorem EF{rows:List (List Int)}{p t:Int}{r:List Int}(h:aB rows p=some (t::r)):rPick rows p=some (t,rows.set p.toNat r):=by unfold rPick;rw[h]
theorem uf{rows:List (List Int)}{p:Int}(h:aB rows p=some []):rPick rows p=rSteal rows:=by unfold rPick;rw[h]
theorem HA{rows:List (List Int)}{k:Nat}{r:List Int}(h:rows[k]?=some r)(hr:r≠[]):ig rows=false:=by
 unfold ig
 rw[List.all_eq_false]
 exact⟨r,List.mem_of_getElem? h,by simpa using hr⟩
theorem EG{rows:List (List Int)}(h:∀ j,j<rows.length→rows[j]?=some []):ig rows=true:=by
 unfold ig
 rw[List.all_eq_true]
 intro r hr
 obtain⟨j,hj⟩:=List.mem_iff_getElem?.1 hr
 have:=h j (List.getElem?_eq_some_iff.1 hj).1
 rw[hj] at this
 simpa using this
theorem wN{xs:List (Nat×List Int)}{rs:List (List Int)}(h:xs.map (·.2)=rs){p:Int}:aB rs p=(aB xs p).map (·.2):=by
 rw[← h];unfold aB;split
 ·rfl
 ·rw[List.getElem?_map]
theorem m8{xs:List (Nat×List Int)}{i q:Nat}{r:List Int}(hx:xs[i]?=some (q,r)):∀ g,aF (fun x:Nat×List Int=>fp x.1 x.2) xs g→seps [fp q r,aF (fun x:Nat×List Int=>fp x.1 x.2) (xs.eraseIdx i)] g:=cZ (f:=fun x:Nat×List Int=>fp x.1 x.2) hx
theorem pC{b:Nat}{v:Value}{xs:List (Nat×List Int)}{rs:List (List Int)}(h:xs.map (·.2)=rs):∀ g,seps [arr b 0 [v],sl bP 1 v xs,aF (fun x:Nat×List Int=>fp x.1 x.2) xs] g→fX b rs g:=fun _ a=>⟨v,xs,h,a⟩
theorem HB{xs:List (Nat×List Int)}{i q:Nat}{r r':List Int}{v:Value}(hx:xs[i]?=some (q,r)):∀ g,sl bP 1 v xs g→sl bP 1 v (xs.set i (q,r')) g:=fun g s=>by
 have hl:rows bP (xs.set i (q,r'))=rows bP xs:=by
  have e:∀ (l l':List (Nat×List Int)),l.map (·.1)=l'.map (·.1)→rows bP l=rows bP l':=fun l=>by
   induction l with
   | nil=>intro l' h;cases l' with
    | nil=>rfl
    | cons y ys=>cases h
   | cons x l ih=>intro l' h;cases l' with
    | nil=>cases h
    | cons y ys =>
     simp only[List.map_cons,List.cons.injEq] at h
     rw[eg,eg,ih ys h.2]
     show[ptr x.1]++_=[ptr y.1]++_
     rw[h.1]
  refine e _ _ ?_
  rw[List.map_set]
  have:(xs.map (·.1))[i]?=some q:=by rw[List.getElem?_map,hx];rfl
  exact fy this
 rcases s with ⟨a,rfl,e⟩ | ⟨b,cap,sp,e1,e2, -,e4,e5⟩
 ·simp at hx
 ·exact .inr ⟨b,cap,sp,by rw[List.length_set];exact e1,by rw[List.length_set];exact e2,fun _ _=>rfl,by rw[List.length_set];exact e4,by rw[hl];exact e5⟩
theorem qy{b:Nat}{v:Value}{xs:List (Nat×List Int)}{rs:List (List Int)}{i q:Nat}{r:List Int}(h:xs.map (·.2)=rs)(hx:xs[i]?=some (q,r))(r':List Int):∀ g,seps [arr b 0 [v],sl bP 1 v xs,fp q r',aF (fun x:Nat×List Int=>fp x.1 x.2) (xs.eraseIdx i)] g→fX b (rs.set i r') g:=fun g a=>by
 refine⟨v,xs.set i (q,r'),by show(xs.set i (q,r')).map (·.2)=_;rw[List.map_set,h],?_⟩
 simp only[seps,aJ] at a ⊢
 refine ba (fun _ b=>b) (ba (HB hx) (fun g b=>?_)) g a
 rw[gK _ _ (List.getElem?_eq_some_iff.1 hx).1];exact b
theorem BP{W:World}{H R K As:List aa}(t:Take H (seps As) R)(h:∀ w,Sat W w (seps (As++R))→Sat W w (seps K)):∀ w,Sat W w (seps H)→Sat W w (seps K):=fun w s=>h w (by rw[ah, ← t.seps];exact s)
def wE(l:List Ev):Ev:=match evWithin l with | none=>⟨0,0,0⟩ | some x=>x.1
def wR(l:List Ev):List Ev:=match evWithin l with | none=>l | some x=>x.2
theorem EH{l:List Ev}(h:idxP iU l 0<0):evWithin l=none:=if_pos h
theorem BQ{l:List Ev}(h:¬idxP iU l 0<0)(hl:(idxP iU l 0).toNat<l.length):∃ i e,idxP iU l 0=((i:Nat):Int)∧l[i]?=some e∧evWithin l=some (e,l.take i++l.drop (i+1)):=by
 obtain⟨e,he⟩:=ak hl
 refine⟨(idxP iU l 0).toNat,e,by omega,he,?_⟩
 unfold evWithin;rw[if_neg h,he]
theorem De{α:Type}{p:α→Bool}:∀ (l:List α) (k:Nat),idxP p l k<((k+l.length:Nat):Int)
 | [],k=>by show(-1:Int)<_;omega
 | x::l,k=>by
  unfold idxP
  split
  ·simp only[List.length_cons];omega
  ·have:=De (p:=p) l (k+1);simp only[List.length_cons];omega
end Go.SLYtpbjdoplfgeliaaGreat
namespace Go.SLYtpbjdoplfgeliaaGreat
open Go Go.RowKit
theorem Df{u:Value}{e:kP}(h:isSl u=true):(nU u e).all (·.oneCell')=true:=by
 have:=fZ h
 show(u.oneCell' && (true && (true && (true && true))))=true
 rw[this];rfl
theorem di{u:Value}{d:gg}(h:isSl u=true):(dz u d).all (·.oneCell')=true:=by
 have:=fZ h
 show(true && (true && (u.oneCell' && (true && (true && (true && true))))))=true
 rw[this];rfl
theorem wO{α:Type}{f:α→aa}:∀ {xs:List α} {i:Nat} {x y:α},xs[i]?=some x→f y=f x→aF f (xs.set i y)=aF f xs
 | [],_,_,_,h,_=>by simp at h
 | z::xs,0,x,y,h,e=>by
  have:z=x:=by simpa using h
  subst this
  rw[List.set_cons_zero,fI,fI,e]
 | z::xs,i+1,x,y,h,e=>by
  rw[List.set_cons_succ,fI,fI,wO (i:=i) (x:=x) (by simpa using h) e]
abbrev vF:Value×aL→aa:=fun x=>sl cv 3 x.1 x.2.evs
theorem fk{vv:Value}{xs:List (Value×aL)}{vs:List aL}(h:xs.map (·.2)=vs):∀ g,seps [sl fe 3 vv xs,aF (fun x:Value×aL=>sl cv 3 x.1 x.2.evs) xs] g→cx vv vs g:=fun _ a=>⟨xs,h,a⟩
theorem km{vv:Value}{xs:List (Value×aL)}{vs:List aL}{i:Nat}{x:Value×aL}{y:aL}(h:xs.map (·.2)=vs)(hx:xs[i]?=some x)(he:y.evs=x.2.evs):∀ g,seps [sl fe 3 vv (xs.set i (x.1,y)),aF (fun x:Value×aL=>sl cv 3 x.1 x.2.evs) xs] g→cx vv (vs.set i y) g:=fun g a=>by
 refine⟨xs.set i (x.1,y),by show(xs.set i (x.1,y)).map (·.2)=_;rw[List.map_set,h],?_⟩
 show seps [_,aF (fun x:Value×aL=>sl cv 3 x.1 x.2.evs) (xs.set i (x.1,y))] g
 rwa [wO (f:=fun x:Value×aL=>sl cv 3 x.1 x.2.evs) hx (y:=(x.1,y)) (by show sl cv 3 x.1 y.evs=_;rw[he])]
theorem mz{vv:Value}{xs:List (Value×aL)}{vs:List aL}{i:Nat}{x:Value×aL}{w:Value}{y:aL}(h:xs.map (·.2)=vs)(hx:xs[i]?=some x):∀ g,seps [sl fe 3 vv (xs.set i (w,y)),sl cv 3 w y.evs,aF (fun x:Value×aL=>sl cv 3 x.1 x.2.evs) (xs.eraseIdx i)] g→cx vv (vs.set i y) g:=fun g a=>by
 refine⟨xs.set i (w,y),by show(xs.set i (w,y)).map (·.2)=_;rw[List.map_set,h],?_⟩
 simp only[seps,aJ] at a ⊢
 refine ba (fun _ b=>b) (fun g b=>?_) g a
 rw[gK _ _ (List.getElem?_eq_some_iff.1 hx).1];exact b
theorem BR{rows:List (List Int)}{p:Int}{ts:List Int}{k:Nat}{t:Int}(h:ts[k]?=some t):dW rows p (ts.take (k+1))=rAdd (dW rows p (ts.take k)) p t:=by
 unfold dW;rw[aU h,List.foldl_append];rfl
structure HC(l:Lib):Prop where
 sp:gb l.aM
 vl:l.vs.length≤64
 rl:l.rows.length≤64
 wt:l.waiting.length≤1000000
 ev:∀ v∈l.vs,v.evs.length≤1000000
 rw:∀ r∈l.rows,r.length≤1000000
theorem ff.sz{k:Nat}{l:Lib}(h:ff k l)(hk:k≤180):HC l:=by
 have hl:Ld (40 * (k+1)) l:=⟨h.ev,h.vl,h.sp.lt⟩
 exact⟨h.sp.aM (by omega),h.vl,h.rl,Nat.le_trans hl.w (by omega),fun v hv=>Nat.le_trans (hl.e v hv) (by omega),fun r hr=>Nat.le_trans (h.rw r hr) (by omega)⟩
theorem pD{l:Lib}{p m:Int}(h:l.locked=true):l.enter p m=l:=if_pos h
theorem m9{l:Lib}{i:Nat}{v:aL}{m:Int}(hv:l.vs[i]?=some v)(h:l.locked=false):l.enter (i:Int) m = {l with locked:=true,vs:=l.vs.set i {v with mode:=m } }:=by
 unfold Lib.enter;rw[if_neg (by rw[h];simp),eU hv];unfold Lib.iT;rw[Int.toNat_natCast]
theorem iD{l:Lib}{i:Nat}{v:aL}{m t:Int}(hv:l.vs[i]?=some v):l.leave (i:Int) m t = {l with locked:=false,vs:=l.vs.set i {v with mode:=m,ab:=t } }:=by
 unfold Lib.leave;rw[eU hv];unfold Lib.iT;rw[Int.toNat_natCast]
theorem ir{l:Lib}{i:Nat}{y:aL}:l.iT (i:Int) y = {l with vs:=l.vs.set i y }:=by unfold Lib.iT;rw[Int.toNat_natCast]
end Go.SLYtpbjdoplfgeliaaGreat
namespace Go.SLYtpbjdoplfgeliaaGreat
open Go Go.RowKit
section
variable{l:Lib}{i:Nat}{v:aL}
def Lib.qz(l:Lib)(i:Nat)(v:aL)(rest:List Ev):Lib:={l with locked:=false,vs:=l.vs.set i {v with evs:=rest } }
theorem k5(hv:l.vs[i]?=some v){q:Ev}{rest:List Ev}{c:Int}(h:¬q.mode=7):l.recover (i:Int) q rest c=(gg.z,l.qz i v rest):=by
 unfold Lib.recover;simp only;rw[if_neg h,eU hv,ir];rfl
theorem k6(hv:l.vs[i]?=some v){q:Ev}{rest:List Ev}{c:Int}(h:q.mode=7)(hg:(l.aM.run q.ab c).1.ck=true) :
  l.recover (i:Int) q rest c=(((l.qz i v rest).aK q.ab c).1,(((l.qz i v rest).aK q.ab c).2.fD (i:Int) (l.aM.run q.ab c).1.ar).fD (i:Int) [q.ab]):=by
 unfold Lib.recover;simp only;rw[if_pos h,eU hv,ir]
 show((_,if (l.aM.run q.ab c).1.ck=true then _ else _):gg×Lib)=_
 rw[if_pos hg];rfl
theorem iW(hv:l.vs[i]?=some v){q:Ev}{rest:List Ev}{c:Int}(h:q.mode=7)(hg:¬(l.aM.run q.ab c).1.ck=true) :
  l.recover (i:Int) q rest c=(((l.qz i v rest).aK q.ab c).1,((l.qz i v rest).aK q.ab c).2.fD (i:Int) (l.aM.run q.ab c).1.ar):=by
 unfold Lib.recover;simp only;rw[if_pos h,eU hv,ir]
 show((_,if (l.aM.run q.ab c).1.ck=true then _ else _):gg×Lib)=_
 rw[if_neg hg];rfl
theorem k7(hv:l.vs[i]?=some v){c:Int}(h:(evWithin v.evs).isSome=true):l.upcall (i:Int) c=l.recover (i:Int) (wE v.evs) (wR v.evs) c:=by
 unfold Lib.upcall;rw[eU hv]
 unfold wE wR
 cases e:evWithin v.evs with
 | none=>rw[e] at h;cases h
 | some x=>rfl
theorem na(hv:l.vs[i]?=some v){c:Int}(h:(evWithin v.evs).isSome=false):l.upcall (i:Int) c=(gg.z,l.enter (i:Int) 2):=by
 unfold Lib.upcall;rw[eU hv]
 cases e:evWithin v.evs with
 | none=>rfl
 | some x=>rw[e] at h;cases h
theorem k8(hv:l.vs[i]?=some v)(h:v.evs=[]):l.handle (i:Int)=l.leave (i:Int) 3 (-1):=by unfold Lib.handle;rw[eU hv,h]
theorem nf(hv:l.vs[i]?=some v){e:Ev}{r:List Ev}(h:v.evs=e::r)(hr:dD e=true):l.handle (i:Int) = {l with rows:=dW l.rows (i:Int) [e.ab],vs:=l.vs.set i {v with evs:=r } }:=by
 unfold Lib.handle;rw[eU hv,h];simp only;rw[if_pos hr,ir];rfl
theorem k9(hv:l.vs[i]?=some v){e:Ev}{r:List Ev}(h:v.evs=e::r)(hr:¬dD e=true):l.handle (i:Int) = {l with vs:=l.vs.set i {v with evs:=r } }:=by
 unfold Lib.handle;rw[eU hv,h];simp only;rw[if_neg hr,ir]
theorem ng(h:(rPick l.rows (i:Int)).isSome=true):l.pick (i:Int)=({l with rows:=lN l.rows (i:Int) }:Lib).leave (i:Int) 5 (ud l.rows (i:Int)):=by
 unfold Lib.pick lN ud
 cases e:rPick l.rows (i:Int) with
 | none=>rw[e] at h;cases h
 | some x=>rfl
theorem pE(h:(rPick l.rows (i:Int)).isSome=false):l.pick (i:Int)=l.leave (i:Int) 8 (-1)∧lN l.rows (i:Int)=l.rows:=by
 unfold Lib.pick lN
 cases e:rPick l.rows (i:Int) with
 | none=>exact⟨rfl,rfl⟩
 | some x=>rw[e] at h;cases h
theorem lb(hv:l.vs[i]?=some v){c:Int}(h:l.aM.class v.ab=2):l.gR (i:Int) c=(gg.z,{l with vs:=l.vs.set i {v with mode:=6 } }):=by
 unfold Lib.gR;rw[eU hv];simp only;rw[if_pos h,ir]
theorem nh(hv:l.vs[i]?=some v){c:Int}(h:¬l.aM.class v.ab=2)(hs:(l.aM.run v.ab c).1.aQ=true) :
  l.gR (i:Int) c=((l.aK v.ab c).1,({(l.aK v.ab c).2 with vs:=l.vs.set i (aL.new [⟨2,v.ab,0⟩]) }:Lib).tell (aI (l.aM.run v.ab c).1.ar)):=by
 unfold Lib.gR;rw[eU hv];simp only;rw[if_neg h]
 show((_,Lib.tell (if (l.aM.run v.ab c).1.aQ=true then _ else _) _):gg×Lib)=_
 rw[if_pos hs,ir];rfl
theorem pF(hv:l.vs[i]?=some v){c:Int}(h:¬l.aM.class v.ab=2)(hs:¬(l.aM.run v.ab c).1.aQ=true)(he:(l.aM.run v.ab c).1.ended=true) :
  l.gR (i:Int) c=((l.aK v.ab c).1,({(l.aK v.ab c).2 with vs:=l.vs.set i {v with mode:=3,ab := -1 } }:Lib).tell (aI (l.aM.run v.ab c).1.ar)):=by
 have hv2:(l.aK v.ab c).2.v (i:Int)=v:=eU (l:=(l.aK v.ab c).2) hv
 unfold Lib.gR;rw[eU hv];simp only;rw[if_neg h,hv2]
 show((_,Lib.tell (if (l.aM.run v.ab c).1.aQ=true then _ else if (l.aM.run v.ab c).1.ended=true then _ else _) _):gg×Lib)=_
 rw[if_neg hs,if_pos he,ir];rfl
theorem ni(hv:l.vs[i]?=some v){c:Int}(h:¬l.aM.class v.ab=2)(hs:¬(l.aM.run v.ab c).1.aQ=true)(he:¬(l.aM.run v.ab c).1.ended=true) :
  l.gR (i:Int) c=((l.aK v.ab c).1,(l.aK v.ab c).2.tell (aI (l.aM.run v.ab c).1.ar)):=by
 unfold Lib.gR;rw[eU hv];simp only;rw[if_neg h]
 show((_,Lib.tell (if (l.aM.run v.ab c).1.aQ=true then _ else if (l.aM.run v.ab c).1.ended=true then _ else _) _):gg×Lib)=_
 rw[if_neg hs,if_neg he];rfl
theorem lf(hv:l.vs[i]?=some v){c:Int}(h:¬(l.aM.run v.ab c).1.ck=true):l.inside (i:Int) c=((l.aK v.ab c).1,((l.aK v.ab c).2.fD (i:Int) (l.aM.run v.ab c).1.ar).leave (i:Int) 3 (-1)):=by
 unfold Lib.inside;rw[eU hv]
 show((_,if (l.aM.run v.ab c).1.ck=true then _ else _):gg×Lib)=_
 rw[if_neg h];rfl
theorem iX(hv:l.vs[i]?=some v){c:Int}(h:(l.aM.run v.ab c).1.ck=true)(hy:(l.aM.run v.ab c).1.yielded=true):l.inside (i:Int) c=((l.aK v.ab c).1,(((l.aK v.ab c).2.fD (i:Int) (l.aM.run v.ab c).1.ar).fD (i:Int) [v.ab]).leave (i:Int) 3 (-1)):=by
 unfold Lib.inside;rw[eU hv]
 show((_,if (l.aM.run v.ab c).1.ck=true then (if (l.aM.run v.ab c).1.yielded=true then _ else _) else _):gg×Lib)=_
 rw[if_pos h,if_pos hy];rfl
theorem nj(hv:l.vs[i]?=some v){c:Int}(h:(l.aM.run v.ab c).1.ck=true)(hy:¬(l.aM.run v.ab c).1.yielded=true):l.inside (i:Int) c=((l.aK v.ab c).1,((l.aK v.ab c).2.fD (i:Int) (l.aM.run v.ab c).1.ar).leave (i:Int) 5 v.ab):=by
 unfold Lib.inside;rw[eU hv]
 show((_,if (l.aM.run v.ab c).1.ck=true then (if (l.aM.run v.ab c).1.yielded=true then _ else _) else _):gg×Lib)=_
 rw[if_pos h,if_neg hy];rfl
theorem Ah{rows:List (List Int)}{p:Int}{ts:List Int}(h:rows.length≤64∧ ∀ r∈rows,r.length≤1000000)(ht:ts.length≤100000):(dW rows p ts).length≤64∧ ∀ r∈dW rows p ts,r.length≤800000000 :=
 ⟨by rw[fM];exact h.1,fun r hr=>by have:=kY h.2 r hr;omega⟩
theorem yt{rows:List (List Int)}(h:rows.length≤64∧ ∀ r∈rows,r.length≤1000000):rows.length≤64∧ ∀ r∈rows,r.length≤800000000:=⟨h.1,fun r hr=>Nat.le_trans (h.2 r hr) (by decide)⟩
end
end Go.SLYtpbjdoplfgeliaaGreat
namespace Go.SLYtpbjdoplfgeliaaGreat
open Go Go.RowKit
section
variable{l:Lib}{i:Nat}{v:aL}{c:Int}
theorem pG{p:Int}(h:l.has p=false):l.step p c=(gg.z,11,l):=by unfold Lib.step;rw[if_neg (by rw[h];simp)]
theorem sd(hh:l.has (i:Int)=true)(hv:l.vs[i]?=some v)(hm:v.mode=1):l.step (i:Int) c=((l.upcall (i:Int) c).1,0,(l.upcall (i:Int) c).2):=by
 unfold Lib.step;rw[if_pos hh,eU hv];simp only;rw[if_pos hm]
theorem se(hh:l.has (i:Int)=true)(hv:l.vs[i]?=some v)(hm:v.mode=2):l.step (i:Int) c=(gg.z,0,l.handle (i:Int)):=by
 unfold Lib.step;rw[if_pos hh,eU hv];simp only;rw[if_neg (by omega),if_pos hm]
theorem sf(hh:l.has (i:Int)=true)(hv:l.vs[i]?=some v)(hm:v.mode=3):l.step (i:Int) c=(gg.z,0,l.enter (i:Int) 4):=by
 unfold Lib.step;rw[if_pos hh,eU hv];simp only;rw[if_neg (by omega),if_neg (by omega),if_pos hm]
theorem sh(hh:l.has (i:Int)=true)(hv:l.vs[i]?=some v)(hm:v.mode=4):l.step (i:Int) c=(gg.z,0,l.pick (i:Int)):=by
 unfold Lib.step;rw[if_pos hh,eU hv];simp only;rw[if_neg (by omega),if_neg (by omega),if_neg (by omega),if_pos hm]
theorem sj(hh:l.has (i:Int)=true)(hv:l.vs[i]?=some v)(hm:v.mode=5):l.step (i:Int) c=((l.gR (i:Int) c).1,0,(l.gR (i:Int) c).2):=by
 unfold Lib.step;rw[if_pos hh,eU hv];simp only;rw[if_neg (by omega),if_neg (by omega),if_neg (by omega),if_neg (by omega),if_pos hm]
theorem sk(hh:l.has (i:Int)=true)(hv:l.vs[i]?=some v)(hm:v.mode=6):l.step (i:Int) c=(gg.z,0,l.enter (i:Int) 7):=by
 unfold Lib.step;rw[if_pos hh,eU hv];simp only;rw[if_neg (by omega),if_neg (by omega),if_neg (by omega),if_neg (by omega),if_neg (by omega),if_pos hm]
theorem sm(hh:l.has (i:Int)=true)(hv:l.vs[i]?=some v)(hm:v.mode=7):l.step (i:Int) c=((l.inside (i:Int) c).1,0,(l.inside (i:Int) c).2):=by
 unfold Lib.step;rw[if_pos hh,eU hv];simp only;rw[if_neg (by omega),if_neg (by omega),if_neg (by omega),if_neg (by omega),if_neg (by omega),if_neg (by omega),if_pos hm]
theorem pH(hh:l.has (i:Int)=true)(hv:l.vs[i]?=some v)(hm:v.mode=8)(he:ig l.rows=true):l.step (i:Int) c=(gg.z,0,l):=by
 unfold Lib.step;rw[if_pos hh,eU hv];simp only;rw[if_neg (by omega),if_neg (by omega),if_neg (by omega),if_neg (by omega),if_neg (by omega),if_neg (by omega),if_neg (by omega),if_pos hm,if_pos he]
theorem pI(hh:l.has (i:Int)=true)(hv:l.vs[i]?=some v)(hm:v.mode=8)(he:ig l.rows=false):l.step (i:Int) c=(gg.z,0,{l with vs:=l.vs.set i {v with mode:=3 } }):=by
 unfold Lib.step;rw[if_pos hh,eU hv];simp only;rw[if_neg (by omega),if_neg (by omega),if_neg (by omega),if_neg (by omega),if_neg (by omega),if_neg (by omega),if_neg (by omega),if_pos hm,if_neg (by rw[he];simp),ir]
theorem so(hh:l.has (i:Int)=true)(hv:l.vs[i]?=some v)(hm:¬v.mode=1∧¬v.mode=2∧¬v.mode=3∧¬v.mode=4∧¬v.mode=5∧¬v.mode=6∧¬v.mode=7∧¬v.mode=8):l.step (i:Int) c=(gg.z,0,l):=by
 unfold Lib.step;rw[if_pos hh,eU hv];simp only;rw[if_neg (by omega),if_neg (by omega),if_neg (by omega),if_neg (by omega),if_neg (by omega),if_neg (by omega),if_neg (by omega),if_neg (by omega)]
theorem jy{p:Int}(h:l.has p=false):l.preempt p=(false,l):=by unfold Lib.preempt;rw[if_neg (by rw[h];simp)]
theorem iE(h:l.has (i:Int)=true)(hv:l.vs[i]?=some v):l.preempt (i:Int)=(true,{l with vs:=l.vs.set i (v.told []) }):=by unfold Lib.preempt;rw[if_pos h,Int.toNat_natCast,bA hv]
end
end Go.SLYtpbjdoplfgeliaaGreat
namespace Go.SLYtpbjdoplfgeliaaGreat
open Go Go.RowKit
structure eN where
 kind:Int
 space:Int
 ab:Int
 choice:Int
deriving DecidableEq
def cR(x:eN):List Value:=[.int .i64 x.kind,.int .i64 x.space,.int .i64 x.ab,.int .i64 x.choice]
theorem HD(l:List eN):∀ y∈l, ∀ c∈cR y,c.oneCell'=true:=kI (fun _=>rfl) l
def gh(b:Nat)(l:List Spc):aa:=nK (fun _ (xs:List (Nat×Spc))=>xs.map (·.2)=l) fun v xs=>[arr b 0 [v],sl bP 1 v xs,aF (fun x=>bV x.1 x.2) xs]
def oDo(l:List Spc)(a:eN):Int×List Spc :=
 if a.kind=3 then (0,l.map fun s=>s.tick.2) else
 match aB l a.space with
 | none=>(1,l)
 | some s =>
  if a.kind=1 then ((s.run a.ab a.choice).2.1,l.set a.space.toNat (s.run a.ab a.choice).2.2) else
  if a.kind=2 then ((s.done a.choice).2.1,l.set a.space.toNat (s.done a.choice).2.2) else (1,l)
def fa(k:Nat)(l:List Spc):Prop:=∀ s∈l,fS k s
theorem fa.act{k:Nat}{l:List Spc}(h:fa k l)(hk:k≤1990)(a:eN):fa (k+1) (oDo l a).2:=by
 have hm:∀ s∈l,fS (k+1) s:=fun s hs=>(h s hs).more (Nat.le_succ _)
 unfold oDo
 split
 ·intro s hs
  obtain⟨t,ht,rfl⟩:=List.mem_map.1 hs
  exact(h t ht).tick
 ·split
  ·exact hm
  ·rename_i s e
   have hs:=h s (List.mem_of_getElem? (bQ e).2.2)
   split
   ·intro t ht
    rcases List.mem_or_eq_of_mem_set ht with ht | rfl
    ·exact hm t ht
    ·exact hs.run hk _ _
   ·split
    ·intro t ht
     rcases List.mem_or_eq_of_mem_set ht with ht | rfl
     ·exact hm t ht
     ·exact hs.done _
    ·exact hm
theorem yu(l:List Spc)(a:eN):(oDo l a).2.length=l.length:=by
 unfold oDo
 split
 ·simp
 ·split
  ·rfl
  ·split
   ·simp
   ·split
    ·simp
    ·rfl
end Go.SLYtpbjdoplfgeliaaGreat
namespace Go.SLYtpbjdoplfgeliaaGreat
open Go Go.RowKit
theorem Ai{α β:Type}:∀ {xs:List (Nat×α)} {ys:List (Nat×β)},xs.map (·.1)=ys.map (·.1)→rows bP xs=rows bP ys
 | [],[],_=>rfl
 | [],y::ys,h=>by cases h
 | x::xs,[],h=>by cases h
 | x::xs,y::ys,h=>by
  simp only[List.map_cons,List.cons.injEq] at h
  rw[eg,eg,Ai h.2]
  show[ptr x.1]++_=[ptr y.1]++_
  rw[h.1]
theorem Dg{α β:Type}{xs:List (Nat×α)}{ys:List (Nat×β)}{v:Value}(h:xs.map (·.1)=ys.map (·.1)):∀ g,sl bP 1 v xs g→sl bP 1 v ys g:=fun g s=>by
 have hl:xs.length=ys.length:=by have:=congrArg List.length h;simpa using this
 rcases s with ⟨a,rfl,e⟩ | ⟨b,cap,sp,e1,e2, -,e4,e5⟩
 ·refine .inl ⟨a,?_,e⟩
  cases ys with
  | nil=>rfl
  | cons y ys=>simp at hl
 ·exact .inr ⟨b,cap,sp,by rw[← hl];exact e1,by rw[← hl];exact e2,fun _ _=>rfl,by rw[← hl];exact e4,by rw[← Ai h];exact e5⟩
theorem JN{α:Type}{f:α→aa}{xs:List α}{i:Nat}(hi:i<xs.length)(x:α):∀ g,seps [f x,aF f (xs.eraseIdx i)] g→aF f (xs.set i x) g:=fun g a=>by
 rw[gK f x hi];exact jC.1 a
def Aj(k:Nat)(xs:List (Nat×Spc)):List (Nat×Spc):=(xs.take k).map (fun x=>(x.1,x.2.tick.2))++xs.drop k
theorem HE{xs:List (Nat×Spc)}:Aj 0 xs=xs:=by unfold Aj;simp
theorem HF{xs:List (Nat×Spc)}{k:Nat}{x:Nat×Spc}(h:xs[k]?=some x):(Aj k xs)[k]?=some x∧(Aj k xs).set k (x.1,x.2.tick.2)=Aj (k+1) xs:=by
 have hk:=(List.getElem?_eq_some_iff.1 h).1
 have hl:((xs.take k).map (fun x:Nat×Spc=>(x.1,x.2.tick.2))).length=k:=by rw[List.length_map,List.length_take];omega
 unfold Aj
 rw[drop_cons h]
 refine⟨?_,?_⟩
 ·rw[List.getElem?_append_right (by omega),hl,Nat.sub_self];rfl
 ·rw[List.set_append_right _ _ (by omega),hl,Nat.sub_self,aU h,List.map_append,List.append_assoc];rfl
theorem JO{xs:List (Nat×Spc)}:Aj xs.length xs=xs.map (fun x=>(x.1,x.2.tick.2)):=by unfold Aj;simp
theorem EI{b:Nat}{v:Value}{xs:List (Nat×Spc)}{l:List Spc}(h:xs.map (·.2)=l):∀ g,seps [arr b 0 [v],sl bP 1 v xs,aF (fun x:Nat×Spc=>bV x.1 x.2) (xs.map (fun x=>(x.1,x.2.tick.2)))] g→gh b (l.map fun s=>s.tick.2) g:=fun g a=>by
 refine⟨v,xs.map (fun x=>(x.1,x.2.tick.2)),by subst h;rw[List.map_map,List.map_map];rfl,?_⟩
 simp only[seps,aJ] at a ⊢
 exact ba (fun _ b=>b) (ba (Dg (by rw[List.map_map];rfl)) (fun _ b=>b)) g a
theorem one_set{b:Nat}{v:Value}{xs:List (Nat×Spc)}{l:List Spc}{i:Nat}{x:Nat×Spc}(h:xs.map (·.2)=l)(hx:xs[i]?=some x)(s:Spc):∀ g,seps [arr b 0 [v],sl bP 1 v xs,bV x.1 s,aF (fun x:Nat×Spc=>bV x.1 x.2) (xs.eraseIdx i)] g→gh b (l.set i s) g:=fun g a=>by
 have hi:=(List.getElem?_eq_some_iff.1 hx).1
 refine⟨v,xs.set i (x.1,s),by show(xs.set i (x.1,s)).map (·.2)=_;rw[List.map_set,h],?_⟩
 simp only[seps,aJ] at a ⊢
 refine ba (fun _ b=>b) (ba (Dg ?_) (fun g b=>?_)) g a
 ·rw[List.map_set]
  have:(xs.map (·.1))[i]?=some x.1:=by rw[List.getElem?_map,hx];rfl
  exact(fy this).symm
 ·rw[gK _ _ hi];exact b
theorem mA{α β:Type}{f:α→β}{l:List α}{i:Int}:aB (l.map f) i=(aB l i).map f:=by
 unfold aB;split
 ·rfl
 ·rw[List.getElem?_map]
end Go.SLYtpbjdoplfgeliaaGreat
namespace Go.SLYtpbjdoplfgeliaaGreat
open Go Go.RowKit
def oReady(l:List Spc)(n:Int):List Int:=match aB l n with | none=>[] | some s=>s.ready
def gi(l:List Spc)(n:Int):List Rec:=match aB l n with | none=>[] | some s=>s.au
def JP(l:List Spc)(n:Int):List Int:=match aB l n with | none=>[] | some s=>s.mem
def OC(l:List Spc)(n k:Int):Option bE:=match aB l n with | none=>none | some s=>s.at k
theorem fa.get{k:Nat}{l:List Spc}(h:fa k l){n:Int}{s:Spc}(hs:aB l n=some s):fS k s:=h s (List.mem_of_getElem? (bQ hs).2.2)
theorem fa.more{k k':Nat}{l:List Spc}(h:fa k l)(hk:k≤k'):fa k' l:=fun s hs=>(h s hs).more hk
theorem fa.au{k:Nat}{l:List Spc}(h:fa k l)(hk:k≤1990)(n:Int):(gi l n).length≤800000000:=by
 unfold gi;split
 ·exact Nat.zero_le _
 ·rename_i s e;exact(h.get e).rec hk
theorem fa.ready{k:Nat}{l:List Spc}(h:fa k l)(n:Int):(oReady l n).length≤1000000000:=by
 unfold oReady;split
 ·exact Nat.zero_le _
 ·rename_i s e;exact Es (h.get e).lt
theorem HG{k:Nat}{l:List Spc}(h:fa k l)(hk:k≤1990){a:eN}(ha:a.kind=1):(oDo l a).1=0↔a.ab∈oReady l a.space:=by
 unfold oDo oReady
 rw[if_neg (by omega)]
 cases e:aB l a.space with
 | none=>simp
 | some s =>
  simp only
  rw[if_pos ha,mem_ready]
  have hs:=h.get e
  exact(hs.1.run hs.2.2 (by omega) (hs.rec hk)).2.2.2.2.1
def kn(s:Spc)(k:Nat)(a:eN):Spc :=
 if a.kind=3 then s.tick.2 else if a.space≠(k:Int) then s else if a.kind=1 then (s.run a.ab a.choice).2.2 else if a.kind=2 then (s.done a.choice).2.2 else s
theorem nk{l:List Spc}{k:Nat}{s:Spc}(h:l[k]?=some s)(a:eN):(oDo l a).2[k]?=some (kn s k a):=by
 unfold oDo kn
 by_cases h3:a.kind=3
 ·rw[if_pos h3,if_pos h3];show(l.map _)[k]?=_;rw[List.getElem?_map,h];rfl
 rw[if_neg h3,if_neg h3]
 have hk:=(List.getElem?_eq_some_iff.1 h).1
 by_cases hs:a.space≠(k:Int)
 ·rw[if_pos hs]
  split
  ·exact h
  ·rename_i t e
   have ht:=(bQ e).1
   have hne:a.space.toNat≠k:=fun e=>hs (by omega)
   have key:∀ x,(l.set a.space.toNat x)[k]?=some s:=fun x=>by rw[List.getElem?_set_ne hne];exact h
   split
   ·exact key _
   ·split
    ·exact key _
    ·exact h
 ·have hs:a.space=(k:Int):=Decidable.of_not_not hs
  rw[if_neg (fun e=>e hs),hs]
  have hg:aB l (k:Int)=some s:=by rw[aY];exact h
  rw[hg]
  simp only[Int.toNat_natCast]
  split
  ·show(l.set k _)[k]?=_;rw[List.getElem?_set_self hk]
  ·split
   ·show(l.set k _)[k]?=_;rw[List.getElem?_set_self hk]
   ·exact h
theorem JQ{s:Spc}{n:Nat}(h:fS n s)(hn:n≤1990)(k:Nat)(a:eN):fS (n+1) (kn s k a):=by
 unfold kn
 split
 ·exact h.tick
 ·split
  ·exact h.more (Nat.le_succ _)
  ·split
   ·exact h.run hn _ _
   ·split
    ·exact h.done _
    ·exact h.more (Nat.le_succ _)
def fN(ps:List fc):Int:=if ps.length<1∨8<ps.length then 1 else checkAll ps
theorem ug{ps:List fc}(h:¬(ps.length<1∨8<ps.length)):fN ps=checkAll ps:=if_neg h
theorem rm{ps:List fc}(h:ps.length<1∨8<ps.length):fN ps=1:=if_pos h
theorem vx{l:List fc}{n:Nat}{p:fc}(h:l[n]?=some p)(hc:cy p=0):checkAll (l.drop n)=checkAll (l.drop (n+1)):=by rw[drop_cons h,checkAll,if_pos hc]
theorem nH{l:List fc}{n:Nat}{p:fc}(h:l[n]?=some p)(hc:¬cy p=0):checkAll (l.drop n)=cy p:=by rw[drop_cons h,checkAll,if_neg hc]
def uh(n:Int)(a:eN):List eN:=if a.kind=3 then [⟨3,0,0,0⟩] else if a.space=n then [{a with space:=0 }] else []
def cn(acts:List eN)(n:Int):List eN:=acts.flatMap (uh n)
theorem od{acts:List eN}{n:Int}{k:Nat}{a:eN}(h:acts[k]?=some a):cn (acts.take (k+1)) n=cn (acts.take k) n++uh n a:=by
 unfold cn;rw[aU h,List.flatMap_append];simp
theorem HH(n:Int)(a:eN):(uh n a).length≤1:=by
 unfold uh;split
 ·exact Nat.le_refl _
 ·split
  ·exact Nat.le_refl _
  ·exact Nat.zero_le _
theorem ik:∀ (acts:List eN) (n:Int),(cn acts n).length≤acts.length
 | [],_=>Nat.le_refl _
 | a::acts,n=>by
  have h1:=ik acts n
  have h2:=HH n a
  show(List.flatMap _ (a::acts)).length≤_
  rw[List.flatMap_cons,List.length_append,List.length_cons]
  show _+(cn acts n).length≤_
  omega
def eP(l:List Spc)(acts:List eN):List Spc:=acts.foldl (fun l a=>(oDo l a).2) l
theorem qA{l:List Spc}{acts:List eN}{k:Nat}{a:eN}(h:acts[k]?=some a):eP l (acts.take (k+1))=(oDo (eP l (acts.take k)) a).2:=by
 unfold eP;rw[aU h,List.foldl_append];rfl
theorem sq{k:Nat}{l:List Spc}(h:fa k l):∀ (acts:List eN) (m:Nat),m≤acts.length→k+acts.length≤1990→fa (k+m) (eP l (acts.take m))
 | acts,0,_,_=>by rw[List.take_zero];exact h
 | acts,m+1,hm,hl=>by
  have ih:=sq h acts m (by omega) hl
  obtain⟨a,ha⟩:=ak (show m<acts.length by omega)
  rw[qA ha]
  exact ih.act (by omega) a
def aloneR(ps:List fc)(n:Int)(acts:List eN):List Rec :=
 match aB ps n with
 | none=>[]
 | some p=>if cy p=0 then gi (eP [Spc.new p] (cn acts n)) 0 else []
def lg(ps:List fc)(n:Int):Int :=
 match aB ps n with
 | none=>1
 | some p=>cy p
theorem BS{b:Nat}{v:Value}{xs:List (Nat×Spc)}{l:List Spc}(h:xs.map (·.2)=l):∀ g,seps [arr b 0 [v],sl bP 1 v xs,aF (fun x:Nat×Spc=>bV x.1 x.2) xs] g→gh b l g:=fun _ a=>⟨v,xs,h,a⟩
theorem LX{xs:List (Nat×Spc)}{l:List Spc}(h:xs.map (·.2)=l){n:Int}{s:Spc}(hg:aB l n=some s):∃ q,aB xs n=some (q,s)∧xs[n.toNat]?=some (q,s):=by
 rw[← h,mA] at hg
 cases hx:aB xs n with
 | none=>rw[hx] at hg;cases hg
 | some x =>
  rw[hx] at hg
  have e:x.2=s:=Option.some.inj hg
  subst e
  exact⟨x.1,rfl,(bQ hx).2.2⟩
theorem LY{xs:List (Nat×Spc)}{l:List Spc}(h:xs.map (·.2)=l){n:Int}(hg:aB l n=none):aB xs n=none:=by
 rw[← h,mA] at hg
 cases hx:aB xs n with
 | none=>rfl
 | some x=>rw[hx] at hg;cases hg
theorem yw{xs:List (Nat×Spc)}{i q:Nat}{s:Spc}(hx:xs[i]?=some (q,s)):∀ g,aF (fun x:Nat×Spc=>bV x.1 x.2) xs g→seps [bV q s,aF (fun x:Nat×Spc=>bV x.1 x.2) (xs.eraseIdx i)] g:=tE (f:=fun x:Nat×Spc=>bV x.1 x.2) hx
theorem Ak{b:Nat}{v:Value}{xs:List (Nat×Spc)}{l:List Spc}{i q:Nat}{s:Spc}(h:xs.map (·.2)=l)(hx:xs[i]?=some (q,s)):∀ g,seps [arr b 0 [v],sl bP 1 v xs,bV q s,aF (fun x:Nat×Spc=>bV x.1 x.2) (xs.eraseIdx i)] g→gh b l g:=fun g a=>by
 have:=one_set h hx s g a
 have e:l[i]?=some s:=by rw[← h,List.getElem?_map,hx];rfl
 rwa [fy e] at this
theorem Dh{b:Nat}{v:Value}{xs:List (Nat×Spc)}{l:List Spc}{i q:Nat}{s:Spc}(h:xs.map (·.2)=l)(hx:xs[i]?=some (q,s))(t:Spc):∀ g,seps [arr b 0 [v],sl bP 1 v xs,bV q t,aF (fun x:Nat×Spc=>bV x.1 x.2) (xs.eraseIdx i)] g→gh b (l.set i t) g:=one_set h hx t
theorem JT{xs:List (Nat×Spc)}{k q:Nat}{s:Spc}(hx:xs[k]?=some (q,s)):∀ g,aF (fun x:Nat×Spc=>bV x.1 x.2) (Aj k xs) g→seps [bV q s,aF (fun x:Nat×Spc=>bV x.1 x.2) ((Aj k xs).eraseIdx k)] g:=yw (HF hx).1
theorem LZ{xs:List (Nat×Spc)}{k q:Nat}{s:Spc}(hx:xs[k]?=some (q,s)):∀ g,seps [bV q s.tick.2,aF (fun x:Nat×Spc=>bV x.1 x.2) ((Aj k xs).eraseIdx k)] g→aF (fun x:Nat×Spc=>bV x.1 x.2) (Aj (k+1) xs) g:=by
 obtain⟨h1,h2⟩:=HF hx
 rw[← h2]
 exact JN (f:=fun x:Nat×Spc=>bV x.1 x.2) (List.getElem?_eq_some_iff.1 h1).1 (q,s.tick.2)
theorem HI{b:Nat}{v:Value}{xs:List (Nat×Spc)}{l:List Spc}(h:xs.map (·.2)=l){a:eN}(ha:a.kind=3):∀ g,seps [arr b 0 [v],sl bP 1 v xs,aF (fun x:Nat×Spc=>bV x.1 x.2) (Aj xs.length xs)] g→gh b (oDo l a).2 g:=by
 have e:(oDo l a).2=l.map fun s=>s.tick.2:=by unfold oDo;rw[if_pos ha]
 rw[e,JO]
 exact EI h
theorem HJ{l:List Spc}{a:eN}(ha:a.kind=3):(oDo l a).1=0:=by unfold oDo;rw[if_pos ha]
theorem HK{l:List Spc}{a:eN}(ha:¬a.kind=3)(hg:aB l a.space=none):oDo l a=(1,l):=by unfold oDo;rw[if_neg ha,hg]
theorem Di{l:List Spc}{a:eN}{s:Spc}(ha:a.kind=1)(hg:aB l a.space=some s):oDo l a=((s.run a.ab a.choice).2.1,l.set a.space.toNat (s.run a.ab a.choice).2.2):=by unfold oDo;rw[if_neg (by omega),hg];simp only;rw[if_pos ha]
theorem Al{l:List Spc}{a:eN}{s:Spc}(ha:a.kind=2)(hg:aB l a.space=some s):oDo l a=((s.done a.choice).2.1,l.set a.space.toNat (s.done a.choice).2.2):=by unfold oDo;rw[if_neg (by omega),hg];simp only;rw[if_neg (by omega),if_pos ha]
theorem HL{l:List Spc}{a:eN}{s:Spc}(h3:¬a.kind=3)(h1:¬a.kind=1)(h2:¬a.kind=2)(hg:aB l a.space=some s):oDo l a=(1,l):=by unfold oDo;rw[if_neg h3,hg];simp only;rw[if_neg h1,if_neg h2]
end Go.SLYtpbjdoplfgeliaaGreat
namespace Go.SLYtpbjdoplfgeliaaGreat
open Go Go.RowKit
theorem jV:∀ {l:List fc},checkAll l=0→ ∀ p∈l,cy p=0
 | [],_,p,hp=>by cases hp
 | q::l,h,p,hp=>by
  unfold checkAll at h
  split at h
  ·rename_i hq
   rcases List.mem_cons.1 hp with rfl | hp
   ·exact hq
   ·exact jV h p hp
  ·rename_i hq;exact absurd h hq
theorem lh{ps:List fc}(h:fN ps=0):1≤ps.length∧ps.length≤8∧ ∀ p∈ps,cy p=0:=by
 unfold fN at h
 split at h
 ·cases h
 ·exact⟨by omega,by omega,jV h⟩
theorem fa.new{ps:List fc}(h:fN ps=0)(hw:∀ p∈ps, ∀ f∈p.funcs, ∀ i∈f,fC i.n):fa 1 (ps.map Spc.new):=fun s hs=>by
 obtain⟨p,hp,rfl⟩:=List.mem_map.1 hs
 exact fS.new ⟨(lh h).2.2 p hp,hw p hp⟩
theorem fa.aM{k:Nat}{l:List Spc}(h:fa k l)(hk:k≤1990):∀ s∈l,gb s:=fun s hs=>(h s hs).aM hk
theorem pJ{l:List Spc}{k:Nat}{s:Spc}(h:l[k]?=some s):gi l (k:Int)=s.au:=by unfold gi;rw[aY,h]
theorem JU{l:List Spc}{k:Nat}{s:Spc}(h:l[k]?=some s):JP l (k:Int)=s.mem:=by unfold JP;rw[aY,h]
/-! the laws' own fact -/
def Nz:List Ins:=[⟨32,1,0,0,0⟩]
def FC:fc:=⟨[Nz],0,0,0,[],[],0,0⟩
def jD(x y:Nat):aX:=⟨rZ y 1,[(rZ x 1,Nz)],0,0,0,.slice none 0 0,[],.slice none 0 0,[],0,0⟩
def NZ(x y z:Nat):aa:=seps [arr z 0 (rows ej [jD x y,jD x y]),arr y 0 [rZ x 1],arr x 0 (rows dM Nz)]
theorem HM{W:World}{x y z:Nat}:Rd W [NZ x y z] ej 8 (rZ z 2) [jD x y,jD x y]:=Rd.eO (Rd.lit .here rfl (fun _ _=>rfl) rfl)
theorem JV{W:World}{x y z:Nat}:∀ p∈ [jD x y,jD x y],fi W [NZ x y z] p:=fun p hp=>by
 have e:p=jD x y:=by simpa using hp
 subst e
 refine⟨Rd.eO (Rd.lit (.there .here) rfl (fun _ _=>rfl) rfl),fun q hq=>?_,Rd.nil,Rd.nil⟩
 rw[show(jD x y).fs=[(rZ x 1,Nz)] from rfl,List.mem_singleton] at hq
 subst hq
 exact Rd.eO (Rd.lit (.there (.there .here)) rfl (fun _ _=>rfl) rfl)
theorem L2{x y:Nat}:[jD x y,jD x y].length≤1000000000∧ ∀ p∈ [jD x y,jD x y],p.fs.length≤1000000000∧p.bJ.length≤1000000000∧p.bb.length≤1000000000:=⟨by show 2≤_;decide,fun p hp=>by
 have e:p=jD x y:=by simpa using hp
 subst e
 exact⟨by show 1≤_;decide,by show 0≤_;decide,by show 0≤_;decide⟩⟩
theorem OP:∀ p∈ [FC,FC], ∀ f∈p.funcs, ∀ i∈f,fC i.n:=fun p hp f hf i hi=>by
 have:([FC,FC].all fun p=>p.funcs.all fun f=>f.all fun i=>decide (0≤i.n) && decide (i.n≤18446744073709551615))=true:=by decide +kernel
 have:=List.all_eq_true.1 (List.all_eq_true.1 (List.all_eq_true.1 this p hp) f hf) i hi
 exact(by simpa using this:0≤i.n∧i.n≤18446744073709551615)
def N0:List Spc:=[FC,FC].map Spc.new
def N1:List Spc:=(oDo N0 ⟨1,1,0,0⟩).2
def N2:List Spc:=(oDo N1 ⟨1,2,0,0⟩).2
def OQ:List Spc:=(oDo N2 ⟨3,9,0,0⟩).2
def OR:List Rec:=[⟨65537,32,0,65537,0,true⟩]
end Go.SLYtpbjdoplfgeliaaGreat
namespace Go.SLYtpbjdoplfgeliaaGreat
open Go Go.RowKit
theorem qB{l:Lib}(hw:∀ t c,(l.aM.run t c).1.ar.length≤17)(p c:Int):aD 40 40 l (l.step p c).2.2:=by
 unfold Lib.step
 split
 ·rename_i hh
  obtain⟨i,v,rfl,hv, -⟩:=ij hh
  simp only
  split
  ·unfold Lib.upcall
   split
   ·rename_i x rest e
    rw[eU hv] at e
    have hl:=tT e
    exact(aD.recover hv (by omega) c (hw x.ab c)).le (by omega) (by omega)
   ·exact(aD.enter hv 2).le (by omega) (by omega)
  ·split
   ·exact(aD.handle hv).le (by omega) (by omega)
   ·split
    ·exact(aD.enter hv 4).le (by omega) (by omega)
    ·split
     ·exact(aD.pick hv).le (by omega) (by omega)
     ·split
      ·exact(aD.gR hv c (hw _ c)).le (by omega) (by omega)
      ·split
       ·exact(aD.enter hv 7).le (by omega) (by omega)
       ·split
        ·exact(aD.inside hv c (hw _ c)).le (by omega) (by omega)
        ·split
         ·split
          ·exact(aD.refl _).le (by omega) (by omega)
          ·exact(aD.iT (x:={l.v (i:Int) with mode:=3 }) (a:=0) hv (by rw[eU hv];exact Nat.le_refl _)).le (by omega) (by omega)
         ·exact(aD.refl _).le (by omega) (by omega)
 ·exact(aD.refl _).le (by omega) (by omega)
theorem oe(l:Lib)(p:Int):aD 2 0 l (l.dq p).2:=by
 have h:=gu l p
 exact⟨h.len,congrArg _ h.rows,z7 l p,fun m hm=>by rw[h.rows];exact hm⟩
theorem lj(l:Lib)(p:Int):aD 1 0 l (l.preempt p).2:=by
 cases h:l.has p with
 | false=>rw[jy h];exact(aD.refl _).le (by omega) (by omega)
 | true =>
  obtain⟨i,v,rfl,hv, -⟩:=ij h
  rw[iE h hv, ← ir]
  exact aD.iT hv (by have:=z6 v [];simpa using this)
theorem mB(l:Lib)(p:Int):(l.preempt p).2.aM=l.aM:=by unfold Lib.preempt;split <;> rfl
theorem ff.more{k:Nat}{l:Lib}(h:ff k l):ff (k+1) l:=h.of ((aD.refl _).le (by omega) (by omega)) (h.sp.more (by omega))
theorem ff.dq{k:Nat}{l:Lib}(h:ff k l)(p:Int):ff (k+1) (l.dq p).2:=h.of ((oe l p).le (by omega) (by omega)) (by rw[(gu l p).aM];exact h.sp.more (by omega))
theorem ff.preempt{k:Nat}{l:Lib}(h:ff k l)(p:Int):ff (k+1) (l.preempt p).2:=h.of ((lj l p).le (by omega) (by omega)) (by rw[mB];exact h.sp.more (by omega))
theorem ff.new{s:Spc}(h:fS 1 s)(p:Int):ff 0 (Lib.new s p):=by
 have hc:0≤aO p 64∧aO p 64≤64:=by unfold aO;omega
 have h2:=gf s.aG 0
 rw[h.lt] at h2
 refine⟨h,?_,?_,?_,?_⟩
 ·show(List.replicate _ _).length≤_;rw[List.length_replicate];omega
 ·show(List.replicate _ _).length≤_;rw[List.length_replicate];omega
 ·show(aI s.ready).length+((List.replicate (aO p 64).toNat aL.z).map (fun v=>v.evs.length)).sum≤_
  have h3:(aI s.ready).length=(readyFrom s.aG 0).length:=by unfold aI;rw[List.length_map];rfl
  rw[h3,List.map_replicate,List.sum_replicate_nat]
  show _+(aO p 64).toNat * 0≤_
  omega
 ·intro r hr
  have:r=[]:=List.eq_of_mem_replicate hr
  subst this;exact Nat.zero_le _
theorem ff.AY{k:Nat}{l:Lib}(h:ff k l)(hk:k≤180):∀ t c,(l.aM.run t c).1.ar.length≤17:=fun t c=>tU h.sp (by omega) t c
/-! the law's own fact -/
def NA:List Ins:=[⟨1,1,0,0,5⟩]
def N3:fc:=⟨[NA],0,0,0,[],[],0,0⟩
def Na(x y:Nat):aX:=⟨rZ y 1,[(rZ x 1,NA)],0,0,0,.slice none 0 0,[],.slice none 0 0,[],0,0⟩
def Pd(x y:Nat):aa:=seps [arr y 0 [rZ x 1],arr x 0 (rows dM NA)]
def N4:Lib:=Lib.new (Spc.new N3) 2
def N5:Lib:=(N4.dq 1).2
def l16:Nat→Lib
 | 0=>(N5.dq 1).2
 | k+1=>((l16 k).step 1 0).2.2
def OS:Nat→Nat
 | 0=>0
 | k+1=>OS k+if ((l16 k).step 1 0).1.aK=true then 1 else 0
end Go.SLYtpbjdoplfgeliaaGreat
namespace Go.SLYtpbjdoplfgeliaaGreat
open Go Go.RowKit
def Mo(l l':Lib):Prop:=∀ q:Nat,cY l'.vs (q:Int)≠0↔cY l.vs (q:Int)≠0
theorem Mo.refl(l:Lib):Mo l l:=fun _=>Iff.rfl
theorem Mo.trans{a b c:Lib}(h:Mo a b)(g:Mo b c):Mo a c:=fun q=>(g q).trans (h q)
theorem Mo.set{l l':Lib}{i:Nat}{v y:aL}(hv:l.vs[i]?=some v)(h0:v.mode≠0)(hy:y.mode≠0)(e:l'.vs=l.vs.set i y):Mo l l':=fun q=>by
 have hi:=(List.getElem?_eq_some_iff.1 hv).1
 rw[e,py hi]
 by_cases h:q=i
 ·subst h;rw[if_pos rfl, ← kM hv];exact⟨fun _=>h0,fun _=>hy⟩
 ·rw[if_neg h]
theorem Mo.enter{l:Lib}{i:Nat}{v:aL}{m:Int}(hv:l.vs[i]?=some v)(h0:v.mode≠0)(hm:m≠0):Mo l (l.enter (i:Int) m):=by
 cases h:l.locked with
 | true=>rw[pD h];exact Mo.refl _
 | false=>exact Mo.set (y:={v with mode:=m }) hv h0 hm (by rw[m9 hv h])
theorem Mo.leave{l:Lib}{i:Nat}{v:aL}{m t:Int}(hv:l.vs[i]?=some v)(h0:v.mode≠0)(hm:m≠0):Mo l (l.leave (i:Int) m t):=Mo.set (y:={v with mode:=m,ab:=t }) hv h0 hm (by rw[iD hv])
theorem Mo.tell(l:Lib)(ys:List Ev):Mo l (l.tell ys):=fun q=>not_congr ((dC l ys).2 q)
theorem wP(l:Lib)(p c:Int):Mo l (l.step p c).2.2:=by
 cases hh:l.has p with
 | false=>rw[pG hh];exact Mo.refl _
 | true =>
  obtain⟨i,v,rfl,hv,h0⟩:=ij hh
  by_cases h1:v.mode=1
  ·rw[sd hh hv h1]
   show Mo l (l.upcall (i:Int) c).2
   cases hw:(evWithin v.evs).isSome with
   | false=>rw[na hv hw];exact Mo.enter hv h0 (by decide)
   | true =>
    rw[k7 hv hw]
    have key:Mo l (l.qz i v (wR v.evs)):=Mo.set (y:={v with evs:=wR v.evs }) hv h0 h0 rfl
    by_cases hm:(wE v.evs).mode=7
    ·by_cases hg:(l.aM.run (wE v.evs).ab c).1.ck=true
     ·rw[k6 hv hm hg];exact key
     ·rw[iW hv hm hg];exact key
    ·rw[k5 hv hm];exact key
  by_cases h2:v.mode=2
  ·rw[se hh hv h2]
   cases he:v.evs with
   | nil=>rw[k8 hv he];exact Mo.leave hv h0 (by decide)
   | cons e r =>
    by_cases hr:dD e=true
    ·rw[nf hv he hr];exact Mo.set (y:={v with evs:=r }) hv h0 h0 rfl
    ·rw[k9 hv he hr];exact Mo.set (y:={v with evs:=r }) hv h0 h0 rfl
  by_cases h3:v.mode=3
  ·rw[sf hh hv h3];exact Mo.enter hv h0 (by decide)
  by_cases h4:v.mode=4
  ·rw[sh hh hv h4]
   cases hp:(rPick l.rows (i:Int)).isSome with
   | false=>rw[(pE hp).1];exact Mo.leave hv h0 (by decide)
   | true=>rw[ng hp];exact Mo.leave (l:={l with rows:=lN l.rows (i:Int) }) hv h0 (by decide)
  by_cases h5:v.mode=5
  ·rw[sj hh hv h5]
   show Mo l (l.gR (i:Int) c).2
   by_cases hc:l.aM.class v.ab=2
   ·rw[lb hv hc];exact Mo.set (y:={v with mode:=6 }) hv h0 (by show(6:Int)≠0;decide) rfl
   ·by_cases hs:(l.aM.run v.ab c).1.aQ=true
    ·rw[nh hv hc hs]
     exact(Mo.set (y:=aL.new [⟨2,v.ab,0⟩]) hv h0 (by show(1:Int)≠0;decide) rfl).trans (Mo.tell _ _)
    ·by_cases he:(l.aM.run v.ab c).1.ended=true
     ·rw[pF hv hc hs he]
      exact(Mo.set (y:={v with mode:=3,ab := -1 }) hv h0 (by show(3:Int)≠0;decide) rfl).trans (Mo.tell _ _)
     ·rw[ni hv hc hs he]
      exact(show Mo l (l.aK v.ab c).2 from fun _=>Iff.rfl).trans (Mo.tell _ _)
  by_cases h6:v.mode=6
  ·rw[sk hh hv h6];exact Mo.enter hv h0 (by decide)
  by_cases h7:v.mode=7
  ·rw[sm hh hv h7]
   show Mo l (l.inside (i:Int) c).2
   by_cases hg:(l.aM.run v.ab c).1.ck=true
   ·by_cases hy:(l.aM.run v.ab c).1.yielded=true
    ·rw[iX hv hg hy]
     exact Mo.leave (l:=((l.aK v.ab c).2.fD (i:Int) (l.aM.run v.ab c).1.ar).fD (i:Int) [v.ab]) hv h0 (by decide)
    ·rw[nj hv hg hy]
     exact Mo.leave (l:=(l.aK v.ab c).2.fD (i:Int) (l.aM.run v.ab c).1.ar) hv h0 (by decide)
   ·rw[lf hv hg]
    exact Mo.leave (l:=(l.aK v.ab c).2.fD (i:Int) (l.aM.run v.ab c).1.ar) hv h0 (by decide)
  by_cases h8:v.mode=8
  ·cases he:ig l.rows with
   | true=>rw[pH hh hv h8 he];exact Mo.refl _
   | false=>rw[pI hh hv h8 he];exact Mo.set (y:={v with mode:=3 }) hv h0 (by show(3:Int)≠0;decide) rfl
  ·rw[so hh hv ⟨h1,h2,h3,h4,h5,h6,h7,h8⟩];exact Mo.refl _
theorem mC(l:Lib)(p:Int):aD 2 0 l (l.cK p).2:=by
 have h:=eR l p
 exact⟨h.len,congrArg _ h.rows,wG l p,fun m hm=>by rw[h.rows];exact hm⟩
theorem ff.cK{k:Nat}{l:Lib}(h:ff k l)(p:Int):ff (k+1) (l.cK p).2:=h.of ((mC l p).le (by omega) (by omega)) (by rw[(eR l p).aM];exact h.sp.more (by omega))
def Krn.step(k:Krn)(p c:Int):(Int×gg×Int)×Krn :=
 match aB k.owner p with
 | none=>((0,gg.z,1),k)
 | some o=>if o = -1 then ((0,gg.z,11),k) else
  match aB k.libs o with
  | none=>((0,gg.z,11),k)
  | some l=>((o,(l.step p c).1,(l.step p c).2.1),⟨k.owner,k.libs.set o.toNat (l.step p c).2.2⟩)
theorem gC{k:Krn}{p c:Int}(h:¬dy k p=0):k.step p c=((0,gg.z,dy k p),k):=by
 unfold dy at h ⊢
 unfold Krn.step
 cases e:aB k.owner p with
 | none=>rfl
 | some o =>
  rw[e] at h
  simp only at h ⊢
  by_cases ho:o = -1
  ·rw[if_pos ho,if_pos ho]
  ·rw[if_neg ho] at h;exact absurd rfl h
theorem iF{k:Krn}{i n:Nat}{l:Lib}{c:Int}(ho:k.owner[i]?=some (n:Int))(hl:k.libs[n]?=some l):k.step (i:Int) c=(((n:Int),(l.step (i:Int) c).1,(l.step (i:Int) c).2.1),⟨k.owner,k.libs.set n (l.step (i:Int) c).2.2⟩):=by
 unfold Krn.step
 rw[aY,ho]
 simp only
 rw[if_neg (by omega),aY,hl]
 simp only[Int.toNat_natCast]
structure fV(n:Nat)(k:Krn):Prop where
 ag:gS k
 own:∀ v∈k.owner,v = -1∨(0≤v∧v<(k.libs.length:Int))
 ll:k.libs.length≤8
 gY:∀ l∈k.libs,ff n l
theorem fV.ok{n:Nat}{k:Krn}(h:fV n k):qY (40 * (n+1)) k:=⟨h.own,h.ag.ol,h.ll,fun l hl=>⟨(h.gY l hl).ev,(h.gY l hl).vl,(h.gY l hl).sp.lt⟩⟩
structure nt(m:Nat)(k:Krn):Prop where
 ok:qY m k
 gY:∀ l∈k.libs,HC l∧ ∀ t c,(l.aM.run t c).1.ar.length≤17
theorem fV.rn{n:Nat}{k:Krn}(h:fV n k)(hn:n≤180):nt (40 * (n+1)) k:=⟨h.ok,fun l hl=>⟨(h.gY l hl).sz hn,fun t=>(h.gY l hl).AY hn t⟩⟩
theorem fV.more{n:Nat}{k:Krn}(h:fV n k):fV (n+1) k:=⟨h.ag,h.own,h.ll,fun l hl=>(h.gY l hl).more⟩
theorem fV.put{n:Nat}{k:Krn}(h:fV n k){i j:Nat}{o:Int}{l':Lib}(ho:o = -1∨(0≤o∧o<(k.libs.length:Int)))(ha:gS ⟨k.owner.set i o,k.libs.set j l'⟩)(hl:ff (n+1) l'):fV (n+1) ⟨k.owner.set i o,k.libs.set j l'⟩:=by
 refine⟨ha,fun v hv=>?_,by show(k.libs.set j l').length≤8;rw[List.length_set];exact h.ll,fun x hx=>?_⟩
 ·show v = -1∨(0≤v∧v<((k.libs.set j l').length:Int))
  rw[List.length_set]
  rcases List.mem_or_eq_of_mem_set hv with e | e
  ·exact h.own v e
  ·subst e;exact ho
 ·rcases List.mem_or_eq_of_mem_set hx with e | e
  ·exact(h.gY x e).more
  ·subst e;exact hl
theorem fV.eS{n:Nat}{k:Krn}(h:fV n k){i j:Nat}{l:Lib}(ho:k.owner[i]?=some (-1))(hl:k.libs[j]?=some l):fV (n+1) (k.eS (i:Int) (j:Int)).2:=by
 rw[mb ho hl]
 have:=(List.getElem?_eq_some_iff.1 hl).1
 exact h.put (.inr ⟨by omega,by omega⟩) (h.ag.eS ho hl) ((h.gY l (List.mem_of_getElem? hl)).dq _)
theorem fV.take{n:Nat}{k:Krn}(h:fV n k)(p:Int):fV (n+1) (k.take p).2:=by
 by_cases e:dy k p=0
 ·obtain⟨i,j,l,rfl,ho,hl,e⟩:=dA h.ok e
  rw[e]
  exact h.put (.inl rfl) (h.ag.take ho hl) ((h.gY l (List.mem_of_getElem? hl)).cK _)
 ·rw[jr e];exact h.more
theorem gS.step{k:Krn}(h:gS k){j:Nat}{l l':Lib}(hl:k.libs[j]?=some l)(hm:Mo l l')(he:l'.vs.length=l.vs.length):gS ⟨k.owner,k.libs.set j l'⟩:=by
 refine⟨fun x hx=>?_,h.ol,fun q x hx p=>?_⟩
 ·rcases List.mem_or_eq_of_mem_set hx with e | e
  ·exact h.len x e
  ·subst e;rw[he];exact h.len l (List.mem_of_getElem? hl)
 ·have hx':(k.libs.set j l')[q]?=some x:=hx
  by_cases e:j=q
  ·subst e
   rw[List.getElem?_set_self (List.getElem?_eq_some_iff.1 hl).1] at hx'
   obtain rfl:=Option.some.inj hx'
   rw[hm p];exact h.iff j l hl p
  ·rw[List.getElem?_set_ne e] at hx'
   exact h.iff q x hx' p
theorem fV.step{n:Nat}{k:Krn}(h:fV n k)(hn:n≤180)(p c:Int):fV (n+1) (k.step p c).2:=by
 by_cases e:dy k p=0
 ·obtain⟨i,j,l,rfl,ho,hl, -⟩:=dA h.ok e
  rw[iF ho hl]
  have hli:=h.gY l (List.mem_of_getElem? hl)
  have ha:=h.ag.step hl (wP l (i:Int) c) (qB (hli.AY hn) (i:Int) c).vs
  refine⟨ha,fun v hv=>?_,by show(k.libs.set j _).length≤8;rw[List.length_set];exact h.ll,fun x hx=>?_⟩
  ·show v = -1∨(0≤v∧v<((k.libs.set j _).length:Int));rw[List.length_set];exact h.own v hv
  ·rcases List.mem_or_eq_of_mem_set hx with e | e
   ·exact(h.gY x e).more
   ·subst e;exact hli.step hn _ _
 ·rw[gC e];exact h.more
end Go.SLYtpbjdoplfgeliaaGreat
namespace Go.SLYtpbjdoplfgeliaaGreat
open Go Go.RowKit
section
variable{P:Program}{W:World}{N:Nat}{L:List (Nat×Option Value)}{H:List aa}
theorem bq.HN{fn:Func}{R:Ending→World→Prop}{E:TypeId}{t t2 t3 b o:Nat}{cs:List Value}{v2 v3:Value}(hr:fn.results = #[.tmp t2,.cell t E,.tmp t3])(ht:look L t=some (.pointer (some ⟨b,o,none⟩)))(hg:∀ w,(isAgg E).run P w = .ok true w)(hz:∀ w,(sizeOf E).run P w = .ok cs.length w)(hc:Cells W H b o cs)(h2:look L t2=some v2)(h3:look L t3=some v3)
  (h:∀ w,Sat W w (seps H)→R (.returned (.tuple #[v2,.agg cs.toArray,v3])) w):bq W N (bodyPost P fn R) .ret L H :=
 bq.DK (fun a w ha hs=>by
  have hl:=gx (P:=P) (w:=w) hg hz fun i v hv=>hc i v hv w hs
  simp[results,hr,ha.get _ _ ht,asAddr,hl,ha.get _ _ h2,ha.get _ _ h3]) h
end
theorem HO(k:Krn):k.free.length=k.owner.count (-1):=by unfold Krn.free;rw[pw,iV]
theorem yx{n:Int}:∀ {o:List Int} {k:Nat} {p:Int},p∈posFrom n o k→ ∃ i:Nat,p=((k+i:Nat):Int)∧o[i]?=some n
 | [],_,_,h=>by cases h
 | x::o,k,p,h=>by
  unfold posFrom at h
  split at h
  ·rename_i e
   rcases List.mem_cons.1 h with rfl | h
   ·exact⟨0,rfl,by rw[e];rfl⟩
   ·obtain⟨i,h1,h2⟩:=yx h
    exact⟨i+1,by rw[h1];omega,by simpa using h2⟩
  ·obtain⟨i,h1,h2⟩:=yx h
   exact⟨i+1,by rw[h1];omega,by simpa using h2⟩
end Go.SLYtpbjdoplfgeliaaGreat
namespace Go.SLYtpbjdoplfgeliaaGreat
open Go Go.RowKit
theorem fV.new{procs:Int}{l:List fc}(h:dL procs l=0)(hw:∀ p∈l, ∀ f∈p.funcs, ∀ i∈f,fC i.n):fV 0 (Krn.new procs l):=by
 have hi:=(k0 h).1
 have hc:∀ p∈l,cy p=0:=by
  unfold dL at h
  split at h
  ·cases h
  ·exact jV h
 refine⟨hi.ag,hi.ok.own,hi.ok.ll,fun x hx=>?_⟩
 obtain⟨p,hp,rfl⟩:=List.mem_map.1 hx
 exact ff.new (fS.new ⟨hc p hp,hw p hp⟩) procs
/-! law 17's own fact -/
def N6:Krn:=Krn.new 3 [N3,N3]
def N7:Krn:=(N6.eS 1 1).2
def OT:Krn:=(N7.take 1).2
def Pe(x y z:Nat):aa:=seps [arr z 0 (rows ej [Na x y,Na x y]),arr y 0 [rZ x 1],arr x 0 (rows dM NA)]
end Go.SLYtpbjdoplfgeliaaGreat
namespace Go.SLYtpbjdoplfgeliaaGreat
open Go Go.RowKit
theorem Am{o:List Int}(h:o.length≤64):∀ n,cntTo o n≤n * 64
 | 0=>by unfold cntTo;omega
 | n+1=>by
  show cntTo o n+o.count (n:Int)≤_
  have h1:=Am h n
  have h2:o.count (n:Int)≤64:=Nat.le_trans List.count_le_length h
  omega
theorem fV.HP{n i:Nat}{k:Krn}(h:fV n k)(hi:i≤k.libs.length):k.free.length+cntTo k.owner i≤1000:=by
 have h1:=Am h.ag.ol i
 have h2:k.free.length≤64:=by rw[HO];exact Nat.le_trans List.count_le_length h.ag.ol
 have:=h.ll
 omega
end Go.SLYtpbjdoplfgeliaaGreat
namespace Go.SLYtpbjdoplfgeliaaGreat
open Go Go.RowKit
theorem EJ(k:Krn)(p c:Int):(k.step p c).2.owner=k.owner:=by
 unfold Krn.step
 split
 ·rfl
 ·split
  ·rfl
  ·split <;> rfl
theorem wQ(k:Krn)(p c:Int):(k.step p c).2.libs.length=k.libs.length:=by
 unfold Krn.step
 split
 ·rfl
 ·split
  ·rfl
  ·split
   ·rfl
   ·exact List.length_set ..
def HQ(n p:Nat)(s:Int):List Int:=(List.replicate n (-1)).set p s
theorem JW{n p:Nat}{s:Int}(h:p<n):(HQ n p s)[p]?=some s:=by
 unfold HQ;rw[List.getElem?_set_self (by rw[List.length_replicate];exact h)]
theorem EK{n p:Nat}{s:Int}(h:p<n):(HQ n p s).set p (-1)=List.replicate n (-1):=by
 unfold HQ
 rw[List.set_set]
 refine List.ext_getElem? fun j=>?_
 by_cases e:p=j
 ·subst e;rw[List.getElem?_set_self (by rw[List.length_replicate];exact h),List.getElem?_replicate,if_pos h]
 ·rw[List.getElem?_set_ne e]
structure HR(n p s m j:Nat)(k:Krn):Prop where
 inv:fV j k
 own:k.owner=HQ n p (s:Int)
 len:k.libs.length=m
theorem HR.step{n p s m j:Nat}{k:Krn}(h:HR n p s m j k)(hj:j≤180)(q c:Int):HR n p s m (j+1) (k.step q c).2:=⟨h.inv.step hj q c,(EJ k q c).trans h.own,(wQ k q c).trans h.len⟩
theorem HR.take{n p s m j:Nat}{k:Krn}(h:HR n p s m j k)(hp:p<n)(_hs:s<m):∃ k2:Krn,k.take (p:Int)=(0,k2)∧fV (j+1) k2∧k2.owner=List.replicate n (-1)∧k2.libs.length=m∧k2.demand=k.demand:=by
 have hop:k.owner[p]?=some (s:Int):=by rw[h.own];exact JW hp
 obtain⟨i,q,l,e,ho,hl,ht⟩:=dA h.inv.ok (jq (bl:=[]) hop).1
 obtain rfl:p=i:=by omega
 have hi:=h.inv.take (p:Int)
 rw[ht] at hi
 refine⟨_,ht,hi,?_,?_,?_⟩
 ·show k.owner.set p (-1)=_
  rw[h.own];exact EK hp
 ·show(k.libs.set q _).length=m
  rw[List.length_set];exact h.len
 ·exact tY hl (congrArg (fun z:Spc=>(z.ready.length:Int)) (eR l (p:Int)).aM)
end Go.SLYtpbjdoplfgeliaaGreat
namespace Go.SLYtpbjdoplfgeliaaGreat
open Go Go.RowKit
def mD(v:aL):Nat:=(if v.holds=true then 1 else 0)+v.evs.countP iU
def sumV:List aL→Nat
 | []=>0
 | v::l=>mD v+sumV l
def I0(l:Lib):Nat:=sumV l.vs+l.waiting.countP iU
def JX(b:Bool):Nat:=if b=true then 1 else 0
structure Lk(l:Lib):Prop where
 n:I0 l=JX l.locked
 e:∀ v∈l.vs,v.mode=1∨v.mode=2∨v.evs=[]
theorem mE{vs:List aL}{i:Nat}{v:aL}(h:vs[i]?=some v)(x:aL):sumV (vs.set i x)+mD v=sumV vs+mD x:=by
 induction vs generalizing i with
 | nil=>simp at h
 | cons y vs ih =>
  cases i with
  | zero =>
   obtain rfl:y=v:=by simpa using h
   simp only[List.set_cons_zero,sumV];omega
  | succ i =>
   have:=ih (i:=i) (by simpa using h)
   simp only[List.set_cons_succ,sumV];omega
theorem JY(l:List Ev):(cV l).countP iU=l.countP iU:=by
 induction l with
 | nil=>rfl
 | cons e l ih =>
  unfold cV at ih ⊢
  by_cases h:0<e.mode
  ·rw[List.filter_cons_of_pos (by simp[h]),List.countP_cons,List.countP_cons,ih]
  ·have h2:iU e=false:=by unfold iU;exact decide_eq_false h
   rw[List.countP_cons,h2]
   by_cases h3:dD e=true
   ·rw[List.filter_cons_of_pos (by simp[h3]),List.countP_cons,h2,ih]
   ·rw[List.filter_cons_of_neg (by simp[h3,h]),ih];simp
theorem EL{v:aL}(h:v.holds=true):0<v.mode:=by
 unfold aL.holds at h
 simp only[Bool.or_eq_true,decide_eq_true_eq] at h
 omega
theorem An(v:aL):v.strip.countP iU=mD v:=by
 unfold aL.strip mD
 rw[List.countP_append,JY]
 by_cases h:v.holds=true
 ·rw[if_pos h,if_pos h]
  have:∀ t,iU ⟨4,t,v.mode⟩=true:=fun t=>decide_eq_true (EL h)
  simp[this]
 ·rw[if_neg h,if_neg h]
  split <;> simp[iU]
theorem BT(l:List Ev):mD (aL.new l)=l.countP iU:=by
 show(if _ then 1 else 0)+l.countP iU=_
 rw[if_neg (by show ¬aL.holds _=true;unfold aL.holds aL.new;simp)];omega
theorem yy(v:aL)(l:List Ev):mD (v.told l)=mD v+l.countP iU:=by
 unfold aL.told
 rw[BT,List.countP_append,An]
theorem Nb:mD aL.z=0:=rfl
theorem fO(l:List Int):(aI l).countP iU=0:=by
 rw[List.countP_eq_zero]
 intro e he
 obtain⟨n, -,rfl⟩:=List.mem_map.1 he
 simp[iU]
theorem Lk.set{l:Lib}(h:Lk l){i:Nat}{v x:aL}{b:Bool}{rows:List (List Int)}{s:Spc}(hv:l.vs[i]?=some v)(hn:mD x+JX l.locked=mD v+JX b)(he:x.mode=1∨x.mode=2∨x.evs=[]):Lk ⟨s,rows,l.vs.set i x,l.waiting,b⟩:=by
 refine⟨?_,fun y hy=>?_⟩
 ·have h1:=mE hv x
  have h2:=h.n
  unfold I0 at h2 ⊢
  simp only at h2 ⊢
  omega
 ·rcases List.mem_or_eq_of_mem_set hy with hy | rfl
  ·exact h.e y hy
  ·exact he
theorem Lk.same{l:Lib}(h:Lk l){rows:List (List Int)}{s:Spc}:Lk ⟨s,rows,l.vs,l.waiting,l.locked⟩:=⟨h.n,h.e⟩
theorem HP{vs:List aL}{i:Nat}{v:aL}(h:vs[i]?=some v):mD v≤sumV vs:=by
 have:=mE h aL.z
 rw[Nb] at this
 omega
theorem Lk.one{l:Lib}(h:Lk l){i:Nat}{v:aL}(hv:l.vs[i]?=some v)(h1:1≤mD v):l.locked=true∧mD v=1:=by
 have h2:=h.n
 have h3:=HP hv
 unfold I0 at h2
 cases hl:l.locked with
 | true=>rw[hl] at h2;exact⟨rfl,by unfold JX at h2;rw[if_pos rfl] at h2;omega⟩
 | false=>rw[hl] at h2;unfold JX at h2;rw[if_neg (by decide)] at h2;omega
theorem Lk.tell{l:Lib}(h:Lk l){ys:List Ev}(hy:ys.countP iU=0):Lk (l.tell ys):=by
 by_cases h0:ys=[]
 ·subst h0;rw[jo];exact h
 ·cases hp:l.procs with
  | nil =>
   rw[jc h0 hp]
   exact⟨by have:=h.n;unfold I0 at this ⊢;simp only[List.countP_append];omega,h.e⟩
  | cons p r =>
   obtain⟨i,v,rfl,hv, -⟩:=hZ hp
   rw[jd h0 hp hv]
   exact h.set hv (by rw[yy];omega) (.inl rfl)
theorem Lk.wS{l:Lib}{ys:List Ev}(hn:I0 l+ys.countP iU=JX l.locked)(he:∀ v∈l.vs,v.mode=1∨v.mode=2∨v.evs=[]):Lk (l.tell ys):=by
 by_cases h0:ys=[]
 ·subst h0;rw[jo];exact⟨hn,he⟩
 ·cases hp:l.procs with
  | nil =>
   rw[jc h0 hp]
   exact⟨by unfold I0 at hn ⊢;simp only[List.countP_append];omega,he⟩
  | cons p r =>
   obtain⟨i,v,rfl,hv, -⟩:=hZ hp
   rw[jd h0 hp hv]
   refine⟨?_,fun y hy=>?_⟩
   ·have h1:=mE hv (v.told ys)
    rw[yy] at h1
    unfold I0 at hn ⊢
    simp only at hn ⊢
    omega
   ·rcases List.mem_or_eq_of_mem_set hy with hy | rfl
    ·exact he y hy
    ·exact .inl rfl
theorem Lk.dq{l:Lib}(h:Lk l)(p:Int):Lk (l.dq p).2:=by
 unfold Lib.dq
 cases e:aB l.vs p with
 | none=>exact h
 | some v =>
  simp only
  by_cases hm:v.mode=0
  ·rw[if_pos hm]
   obtain⟨h0, -,hv⟩:=bQ e
   have hh:mD v=0:=by
    unfold mD
    rw[if_neg (by unfold aL.holds;rw[hm];simp)]
    rcases h.e v (List.mem_of_getElem? hv) with g | g | g
    ·omega
    ·omega
    ·rw[g];rfl
   refine⟨?_,fun y hy=>?_⟩
   ·have h1:=mE hv (aL.new (⟨1, -1,0⟩::l.waiting))
    have h2:=h.n
    rw[BT,List.countP_cons] at h1
    unfold I0 at h2 ⊢
    simp only[List.countP_nil] at h1 h2 ⊢
    have:iU ⟨1, -1,0⟩=false:=rfl
    rw[this] at h1
    simp only[Bool.false_eq_true,if_false] at h1
    omega
   ·rcases List.mem_or_eq_of_mem_set hy with hy | rfl
    ·exact h.e y hy
    ·exact .inl rfl
  ·rw[if_neg hm];exact h
theorem Lk.cK{l:Lib}(h:Lk l)(p:Int):Lk (l.cK p).2:=by
 cases hh:l.has p with
 | false=>rw[je hh];exact h
 | true =>
  obtain⟨i,v,rfl,hv, -⟩:=ij hh
  rw[ia hh hv]
  refine Lk.wS ?_ fun y hy=>?_
  ·have h1:=mE hv aL.z
   have h2:=h.n
   rw[Nb] at h1
   rw[An]
   unfold I0 at h2 ⊢
   simp only at h2 ⊢
   omega
  ·rcases List.mem_or_eq_of_mem_set hy with hy | rfl
   ·exact h.e y hy
   ·exact .inr (.inr rfl)
theorem Lk.preempt{l:Lib}(h:Lk l)(p:Int):Lk (l.preempt p).2:=by
 cases hh:l.has p with
 | false=>rw[jy hh];exact h
 | true =>
  obtain⟨i,v,rfl,hv, -⟩:=ij hh
  rw[iE hh hv]
  exact h.set hv (by rw[yy];rfl) (.inl rfl)
theorem Lk.enter{l:Lib}(h:Lk l){i:Nat}{v:aL}{m:Int}(hv:l.vs[i]?=some v)(hh:v.holds=false)(hm:m=2∨m=4∨m=7)(he:m=2∨v.evs=[]):Lk (l.enter (i:Int) m):=by
 cases hl:l.locked with
 | true=>rw[pD hl];exact h
 | false =>
  rw[m9 hv hl]
  refine h.set hv ?_ (he.elim (fun e=>.inr (.inl e)) fun e=>.inr (.inr e))
  unfold mD
  rw[hl,hh]
  have:aL.holds {v with mode:=m }=true:=by unfold aL.holds;rcases hm with rfl | rfl | rfl <;> rfl
  rw[this]
  simp[JX];omega
theorem Lk.leave{l:Lib}(h:Lk l){i:Nat}{v:aL}{m t:Int}(hv:l.vs[i]?=some v)(hh:v.holds=true)(hm:m=3∨m=5∨m=8)(he:v.evs=[]):Lk (l.leave (i:Int) m t):=by
 rw[iD hv]
 have h1:1≤mD v:=by unfold mD;rw[if_pos hh];omega
 obtain⟨hl,h2⟩:=h.one hv h1
 refine h.set hv ?_ (.inr (.inr he))
 rw[h2,hl]
 unfold mD
 have:aL.holds {v with mode:=m,ab:=t }=false:=by unfold aL.holds;rcases hm with rfl | rfl | rfl <;> rfl
 rw[this,he]
 simp[JX]
theorem Lk.run{l:Lib}(h:Lk l){i:Nat}{v:aL}(hv:l.vs[i]?=some v)(h1:¬v.mode=1)(h2:¬v.mode=2):v.evs=[]:=by
 rcases h.e v (List.mem_of_getElem? hv) with g | g | g
 ·exact absurd g h1
 ·exact absurd g h2
 ·exact g
theorem Dj{α:Type}{p:α→Bool}:∀ (l:List α) (k:Nat),idxP p l k = -1∨(k:Int)≤idxP p l k
 | [],k=>.inl rfl
 | y::l,k=>by
  unfold idxP
  by_cases hp:p y=true
  ·rw[if_pos hp];exact .inr (Int.le_refl _)
  ·rw[if_neg hp]
   rcases Dj (p:=p) l (k+1) with g | g
   ·exact .inl g
   ·exact .inr (by omega)
theorem ui{α:Type}{p:α→Bool}:∀ {l:List α} {k i:Nat} {x:α},idxP p l k=((k+i:Nat):Int)→l[i]?=some x→p x=true
 | [],k,i,x,h,hx=>by simp at hx
 | y::l,k,i,x,h,hx=>by
  unfold idxP at h
  by_cases hp:p y=true
  ·rw[if_pos hp] at h
   obtain rfl:i=0:=by omega
   obtain rfl:y=x:=by simpa using hx
   exact hp
  ·rw[if_neg hp] at h
   cases i with
   | zero =>
    have:=Dj (p:=p) l (k+1)
    rcases this with g | g <;> omega
   | succ i=>exact ui (l:=l) (k:=k+1) (i:=i) (by rw[h];omega) (by simpa using hx)
theorem EM{l:List Ev}{x:Ev}{r:List Ev}(h:evWithin l=some (x,r)):l.countP iU=r.countP iU+1:=by
 unfold evWithin at h
 split at h
 ·cases h
 ·split at h
  ·cases h
  ·rename_i h0 y e2
   cases h
   have hi:=(List.getElem?_eq_some_iff.1 e2).1
   have hx:iU x=true:=ui (l:=l) (k:=0) (i:=(idxP iU l 0).toNat) (by omega) e2
   have e:l.take (idxP iU l 0).toNat++x::l.drop ((idxP iU l 0).toNat+1)=l:=by rw[← drop_cons e2,List.take_append_drop]
   have h1:=congrArg (List.countP iU) e
   rw[List.countP_append,List.countP_cons,hx] at h1
   rw[List.countP_append]
   simp only[if_true] at h1
   omega
theorem Lk.step{l:Lib}(h:Lk l)(p c:Int):Lk (l.step p c).2.2:=by
 cases hh:l.has p with
 | false=>rw[pG hh];exact h
 | true =>
  obtain⟨i,v,rfl,hv,h0⟩:=ij hh
  by_cases h1:v.mode=1
  ·have hn:v.holds=false:=by unfold aL.holds;rw[h1];rfl
   rw[sd hh hv h1]
   show Lk (l.upcall (i:Int) c).2
   cases hw:(evWithin v.evs).isSome with
   | false=>rw[na hv hw];exact h.enter hv hn (.inl rfl) (.inl rfl)
   | true =>
    rw[k7 hv hw]
    have hc:v.evs.countP iU=(wR v.evs).countP iU+1:=by
     unfold wR
     cases e:evWithin v.evs with
     | none=>rw[e] at hw;cases hw
     | some x=>exact EM (x:=x.1) (r:=x.2) e
    have hi:mD v=v.evs.countP iU:=by unfold mD;rw[hn];simp
    obtain⟨hl,h2⟩:=h.one hv (by omega)
    have key:Lk (l.qz i v (wR v.evs)):=h.set (b:=false) (x:={v with evs:=wR v.evs }) hv (by
     have:mD {v with evs:=wR v.evs }=(wR v.evs).countP iU:=by
      show(if v.holds=true then 1 else 0)+_=_
      rw[hn];simp
     rw[this,hl]
     unfold JX
     simp;omega) (.inl h1)
    by_cases hm:(wE v.evs).mode=7
    ·by_cases hg:(l.aM.run (wE v.evs).ab c).1.ck=true
     ·rw[k6 hv hm hg];exact key.same
     ·rw[iW hv hm hg];exact key.same
    ·rw[k5 hv hm];exact key
  by_cases h2:v.mode=2
  ·have hn:v.holds=true:=by unfold aL.holds;rw[h2];rfl
   rw[se hh hv h2]
   cases he:v.evs with
   | nil=>rw[k8 hv he];exact h.leave hv hn (.inl rfl) he
   | cons e r =>
    have hi:mD v=1+v.evs.countP iU:=by unfold mD;rw[hn];simp
    obtain⟨hl,h3⟩:=h.one hv (by omega)
    have hx:mD {v with evs:=r }=mD v:=by
     have:mD {v with evs:=r }=1+r.countP iU:=by
      show(if v.holds=true then 1 else 0)+_=_
      rw[hn];simp
     rw[he,List.countP_cons] at hi
     omega
    by_cases hr:dD e=true
    ·rw[nf hv he hr];exact h.set (x:={v with evs:=r }) hv (by rw[hx]) (.inr (.inl h2))
    ·rw[k9 hv he hr];exact h.set (x:={v with evs:=r }) hv (by rw[hx]) (.inr (.inl h2))
  have hev:=h.run hv h1 h2
  by_cases h3:v.mode=3
  ·rw[sf hh hv h3];exact h.enter hv (by unfold aL.holds;rw[h3];rfl) (.inr (.inl rfl)) (.inr hev)
  by_cases h4:v.mode=4
  ·have hn:v.holds=true:=by unfold aL.holds;rw[h4];rfl
   rw[sh hh hv h4]
   cases hp:(rPick l.rows (i:Int)).isSome with
   | false=>rw[(pE hp).1];exact h.leave hv hn (.inr (.inr rfl)) hev
   | true=>rw[ng hp];exact(h.same (rows:=lN l.rows (i:Int)) (s:=l.aM)).leave hv hn (.inr (.inl rfl)) hev
  by_cases h5:v.mode=5
  ·have hn:v.holds=false:=by unfold aL.holds;rw[h5];rfl
   have hi:mD v=0:=by unfold mD;rw[hn,hev];rfl
   rw[sj hh hv h5]
   show Lk (l.gR (i:Int) c).2
   by_cases hc:l.aM.class v.ab=2
   ·rw[lb hv hc];exact h.set (x:={v with mode:=6 }) hv (by rw[hi];unfold mD;rw[hev];rfl) (.inr (.inr hev))
   ·by_cases hs:(l.aM.run v.ab c).1.aQ=true
    ·rw[nh hv hc hs]
     exact Lk.tell (h.set (x:=aL.new [⟨2,v.ab,0⟩]) hv (by rw[hi,BT];rfl) (.inl rfl)) (fO _)
    ·by_cases he:(l.aM.run v.ab c).1.ended=true
     ·rw[pF hv hc hs he]
      exact Lk.tell (h.set (x:={v with mode:=3,ab := -1 }) hv (by rw[hi];unfold mD;rw[hev];rfl) (.inr (.inr hev))) (fO _)
     ·rw[ni hv hc hs he]
      exact Lk.tell h.same (fO _)
  by_cases h6:v.mode=6
  ·rw[sk hh hv h6];exact h.enter hv (by unfold aL.holds;rw[h6];rfl) (.inr (.inr rfl)) (.inr hev)
  by_cases h7:v.mode=7
  ·have hn:v.holds=true:=by unfold aL.holds;rw[h7];rfl
   rw[sm hh hv h7]
   show Lk (l.inside (i:Int) c).2
   by_cases hg:(l.aM.run v.ab c).1.ck=true
   ·by_cases hy:(l.aM.run v.ab c).1.yielded=true
    ·rw[iX hv hg hy]
     exact Lk.leave (l:=((l.aK v.ab c).2.fD (i:Int) (l.aM.run v.ab c).1.ar).fD (i:Int) [v.ab]) h.same hv hn (.inl rfl) hev
    ·rw[nj hv hg hy]
     exact Lk.leave (l:=(l.aK v.ab c).2.fD (i:Int) (l.aM.run v.ab c).1.ar) h.same hv hn (.inr (.inl rfl)) hev
   ·rw[lf hv hg]
    exact Lk.leave (l:=(l.aK v.ab c).2.fD (i:Int) (l.aM.run v.ab c).1.ar) h.same hv hn (.inl rfl) hev
  by_cases h8:v.mode=8
  ·cases he:ig l.rows with
   | true=>rw[pH hh hv h8 he];exact h
   | false=>rw[pI hh hv h8 he];exact h.set (x:={v with mode:=3 }) hv (by unfold mD aL.holds;rw[hev,h8];rfl) (.inr (.inr hev))
  ·rw[so hh hv ⟨h1,h2,h3,h4,h5,h6,h7,h8⟩];exact h
theorem Lk.new(s:Spc)(p:Int):Lk (Lib.new s p):=by
 have:∀ n,sumV (List.replicate n aL.z)=0:=fun n=>by
  induction n with
  | zero=>rfl
  | succ n ih=>rw[List.replicate_succ,sumV,ih];rfl
 exact⟨by unfold I0;show sumV (List.replicate _ aL.z)+(aI s.ready).countP iU=_;rw[this,fO];rfl,fun v hv=>.inr (.inr (by rw[(List.mem_replicate.1 hv).2];rfl))⟩
end Go.SLYtpbjdoplfgeliaaGreat
namespace Go.SLYtpbjdoplfgeliaaGreat
open Go Go.RowKit
def JZ(l:Lib):Nat→List Ev
 | 0=>l.waiting
 | n+1=>JZ l n++(nG l (n:Int)).evs
def L3(l:Lib):Nat→Nat
 | 0=>0
 | n+1=>L3 l n+(if (nG l (n:Int)).holds=true then 1 else 0)
theorem HS{k:Nat}{s:Spc}(h:fS k s):s.aS.due.length≤16:=by
 have hbal:∀ w,nA s w=dS s w:=fun w=>by have:=h.1.rH w;simpa using this
 have bL:∀ w,cL s.aS w≤dS s w:=fun w=>by have:=hbal w;unfold nA at this;omega
 have h1:s.aS.hU.length≤16:=pq (f:=fun r:Int×Int=>r.1) h.1.lt bL
 have:=pj s.aS
 omega
def Lib.cF(l:Lib):Lib:=({l with aM:=l.aM.tick.2 }:Lib).tell (aI l.aM.aS.due)
theorem gj(l:List Int):(aI l).length=l.length:=List.length_map ..
theorem Ao{k:Nat}{l:Lib}(h:ff k l):aD 17 0 l l.cF:=by
 have h0:aD 0 0 l ({l with aM:=l.aM.tick.2 }:Lib):=⟨rfl,rfl,Nat.le_refl _,fun _ h=>h⟩
 have h1:=HS h.sp
 have h2:=gj l.aM.aS.due
 exact(h0.trans (aD.tell _ _)).le (by omega) (by omega)
theorem ff.cF{k:Nat}{l:Lib}(h:ff k l):ff (k+1) l.cF :=
 h.of ((Ao h).le (by omega) (by omega)) (by
  show fS (k+2) (Lib.tell _ _).aM
  rw[(dC _ _).1.aM]
  exact h.sp.tick)
theorem Lk.cF{l:Lib}(h:Lk l):Lk l.cF:=Lk.tell h.same (fO _)
end Go.SLYtpbjdoplfgeliaaGreat
namespace Go.SLYtpbjdoplfgeliaaGreat
open Go Go.RowKit
theorem HT{Q:Lib→Prop}(hg:∀ l p,Q l→Q (l.dq p).2){k:Krn}(p n:Int)(h:∀ l∈k.libs,Q l):∀ l∈(k.eS p n).2.libs,Q l:=fun x hx=>by
 rcases tZ k p n with e | ⟨i,j,l,rfl,rfl,ho,hl,e⟩
 ·rw[e] at hx;exact h x hx
 ·rw[e] at hx
  rcases List.mem_or_eq_of_mem_set hx with hx | rfl
  ·exact h x hx
  ·exact hg _ _ (h l (List.mem_of_getElem? hl))
theorem HU{Q:Lib→Prop}(hr:∀ l p,Q l→Q (l.cK p).2){k:Krn}(p:Int)(h:∀ l∈k.libs,Q l):∀ l∈(k.take p).2.libs,Q l:=fun x hx=>by
 unfold Krn.take at hx
 split at hx
 ·exact h x hx
 ·split at hx
  ·exact h x hx
  ·rename_i o _ _
   have hx':x∈k.libs.set o.toNat ((k.libs.getD o.toNat Bc).cK p).2:=hx
   by_cases hi:o.toNat<k.libs.length
   ·obtain⟨l,hl⟩:=ak hi
    rw[bA hl] at hx'
    rcases List.mem_or_eq_of_mem_set hx' with hx' | rfl
    ·exact h x hx'
    ·exact hr _ _ (h l (List.mem_of_getElem? hl))
   ·rw[List.set_eq_of_length_le (by omega)] at hx'
    exact h x hx'
section
variable{Q:Lib→Prop}(hg:∀ l p,Q l→Q (l.dq p).2)(hr:∀ l p,Q l→Q (l.cK p).2)
include hr in
theorem rp:∀ (ps:List Int) {k:Krn},(∀ l∈k.libs,Q l)→ ∀ l∈(eB ps k).libs,Q l
 | [],_,h=>h
 | p::ps,_k,h=>rp ps (HU hr p h)
include hg in
theorem uj(n:Int):∀ (c:Nat) {k:Krn},(∀ l∈k.libs,Q l)→ ∀ l∈(giveTo c n k).libs,Q l
 | 0,_,h=>h
 | c+1,_k,h=>uj n c (HT hg _ _ h)
include hr in
theorem pK:∀ (l:List Int) (n mv:Nat) {k:Krn},(∀ x∈k.libs,Q x)→ ∀ x∈(takeFrom l n (k,mv)).1.libs,Q x
 | [],_,_,_,h=>h
 | w::l,n,mv,k,h=>by
  rw[takeFrom]
  exact pK l (n+1) _ (rp hr _ h)
include hg in
theorem pL:∀ (l:List Int) (n mv:Nat) {k:Krn},(∀ x∈k.libs,Q x)→ ∀ x∈(dI l n (k,mv)).1.libs,Q x
 | [],_,_,_,h=>h
 | w::l,n,mv,k,h=>by
  rw[dI]
  exact pL l (n+1) _ (uj hg _ _ h)
include hg hr in
theorem nm{k:Krn}(prio:List Int)(turn:Int)(h:∀ x∈k.libs,Q x):∀ x∈(k.share prio turn).1.libs,Q x:=by
 unfold Krn.share
 rw[Da (takeFrom (k.targets prio turn) 0 (k,0))]
 exact pL hg _ 0 _ (pK hr _ 0 0 h)
end
structure BU(k:Nat)(l:Lib):Prop where
 sp:fS (k+1) l.aM
 vl:l.vs.length≤64
 rl:l.rows.length≤64
 rw:∀ r∈l.rows,r.length≤40 * (k+1)
theorem BU.same{k:Nat}{l l':Lib}(h:BU k l)(s:wF l l')(hl:l'.vs.length=l.vs.length):BU k l':=⟨by rw[s.aM];exact h.sp,by rw[hl];exact h.vl,by rw[s.rows];exact h.rl,by rw[s.rows];exact h.rw⟩
theorem ff.row{k:Nat}{l:Lib}(h:ff k l):BU k l:=⟨h.sp,h.vl,h.rl,h.rw⟩
theorem BU.inv{k n:Nat}{l:Lib}(h:BU k l)(hk:k≤n)(he:fR l≤40 * (n+1)):ff n l:=⟨h.sp.more (by omega),h.vl,h.rl,he,fun r hr=>Nat.le_trans (h.rw r hr) (by omega)⟩
theorem fV.inv{n:Nat}{k:Krn}(h:fV n k):Inv (40 * (n+1)) k:=⟨h.ok,h.ag⟩
theorem fV.share{k:Krn}(h:fV 0 k)(prio:List Int)(turn:Int):fV 52 (k.share prio turn).1:=by
 obtain⟨h1,h2⟩:=gv h.inv prio turn
 have h3:∀ x∈(k.share prio turn).1.libs,BU 0 x:=nm (fun l p hl=>hl.same (gu l p) (oe l p).vs) (fun l p hl=>hl.same (eR l p) (mC l p).vs) prio turn fun x hx=>(h.gY x hx).row
 exact⟨h1.ag,h1.ok.own,h1.ok.ll,fun x hx=>(h3 x hx).inv (by omega) (Nat.le_trans (h1.ok.gY x hx).ev (by omega))⟩
def OU(k:Krn):List Int:=k.libs.map fun l=>(l.aM.au.length:Int)
end Go.SLYtpbjdoplfgeliaaGreat
namespace Go.SLYtpbjdoplfgeliaaGreat
open Go Go.RowKit
/-! processors by moments, requests, and taking away -/
def Lib.fE(l:Lib)(c:Int):Lib:=({l with aM:=(l.aM.done c).2.2 }:Lib).tell (aI (l.aM.done c).1.ar)
def Krn.tick(k:Krn):Krn:=⟨k.owner,k.libs.map Lib.cF⟩
def Krn.done(k:Krn)(n c:Int):Int×Krn:=match aB k.libs n with
 | none=>(1,k)
 | some l=>((l.aM.done c).2.1,⟨k.owner,k.libs.set n.toNat (l.fE c)⟩)
def Krn.preempt(k:Krn)(p:Int):Int×Krn:=match aB k.owner p with
 | none=>(1,k)
 | some o=>if o = -1 then (11,k) else match aB k.libs o with
  | none=>(11,k)
  | some l=>(0,⟨k.owner,k.libs.set o.toNat (l.preempt p).2⟩)
theorem mF{k:Krn}{p:Int}(h:¬dy k p=0):k.preempt p=(dy k p,k):=by
 unfold dy at h ⊢
 unfold Krn.preempt
 cases e:aB k.owner p with
 | none=>rfl
 | some o =>
  rw[e] at h
  simp only at h ⊢
  by_cases ho:o = -1
  ·rw[if_pos ho,if_pos ho]
  ·rw[if_neg ho] at h;exact absurd rfl h
theorem pM{k:Krn}{i n:Nat}{l:Lib}(ho:k.owner[i]?=some (n:Int))(hl:k.libs[n]?=some l):k.preempt (i:Int)=(0,⟨k.owner,k.libs.set n (l.preempt (i:Int)).2⟩):=by
 unfold Krn.preempt
 rw[aY,ho]
 simp only
 rw[if_neg (by omega),aY,hl]
 simp only[Int.toNat_natCast]
theorem pN{k:Krn}{n c:Int}(h:aB k.libs n=none):k.done n c=(1,k):=by unfold Krn.done;rw[h]
theorem mG{k:Krn}{n:Nat}{l:Lib}{c:Int}(hl:k.libs[n]?=some l):k.done (n:Int) c=((l.aM.done c).2.1,⟨k.owner,k.libs.set n (l.fE c)⟩):=by
 unfold Krn.done;rw[aY,hl];simp only[Int.toNat_natCast]
/-! order behind entries -/
structure LI(n m:Nat)(l:Lib):Prop where
 sp:fS (n+1) l.aM
 vl:l.vs.length≤64
 rl:l.rows.length≤64
 ev:fR l≤m
 rw:∀ r∈l.rows,r.length≤m
theorem LI.le{n m n' m':Nat}{l:Lib}(h:LI n m l)(hn:n≤n')(hm:m≤m'):LI n' m' l:=⟨h.sp.more (by omega),h.vl,h.rl,Nat.le_trans h.ev hm,fun r hr=>Nat.le_trans (h.rw r hr) hm⟩
theorem LI.of{n m a n' m':Nat}{l l':Lib}(h:LI n m l)(g:aD a a l l')(hs:fS (n'+1) l'.aM)(hm:m+a≤m'):LI n' m' l':=by
 have e:=g.ev
 have e2:=h.ev
 exact⟨hs,g.vs ▸ h.vl,g.rs ▸ h.rl,by omega,fun r hr=>by have:=g.rw _ h.rw r hr;omega⟩
theorem LI.sz{n m:Nat}{l:Lib}(h:LI n m l)(hn:n≤1980)(hm:m≤1000000):HC l:=by
 have hl:Ld m l:=⟨h.ev,h.vl,h.sp.lt⟩
 exact⟨h.sp.aM (by omega),h.vl,h.rl,Nat.le_trans hl.w hm,fun v hv=>Nat.le_trans (hl.e v hv) hm,fun r hr=>Nat.le_trans (h.rw r hr) hm⟩
theorem LI.AY{n m:Nat}{l:Lib}(h:LI n m l)(hn:n≤1980):∀ t c,(l.aM.run t c).1.ar.length≤17:=fun t c=>tU h.sp (by omega) t c
theorem HV{k:Nat}{l:Lib}(h:fS k l.aM)(hk:k≤1990)(p c:Int):fS (k+1) (l.step p c).2.2.aM:=by
 have hm:fS (k+1) l.aM:=h.more (by omega)
 have hr:=fun t=>h.run hk t c
 unfold Lib.step
 split
 ·simp only
  split
  ·unfold Lib.upcall
   split
   ·unfold Lib.recover
    simp only
    split
    ·show fS (k+1) (Lib.aM (if _ then _ else _))
     split <;> exact hr _
    ·exact hm
   ·unfold Lib.enter;split <;> exact hm
  ·split
   ·unfold Lib.handle
    split
    ·exact hm
    ·show fS (k+1) (Lib.aM (if _ then _ else _))
     split <;> exact hm
   ·split
    ·unfold Lib.enter;split <;> exact hm
    ·split
     ·unfold Lib.pick;split <;> exact hm
     ·split
      ·unfold Lib.gR
       simp only
       split
       ·exact hm
       ·rw[(dC _ _).1.aM]
        split
        ·exact hr _
        ·split <;> exact hr _
      ·split
       ·unfold Lib.enter;split <;> exact hm
       ·split
        ·unfold Lib.inside
         simp only
         split
         ·split <;> exact hr _
         ·exact hr _
        ·split
         ·split <;> exact hm
         ·exact hm
 ·exact hm
theorem og(s:Spc)(c:Int):(s.done c).1.ar.length≤1:=by
 unfold Spc.done
 simp only
 split <;> simp[kP.z]
theorem LI.step{n m:Nat}{l:Lib}(h:LI n m l)(hn:n≤1980)(p c:Int):LI (n+1) (m+40) (l.step p c).2.2:=by
 have g:=qB (h.AY hn) p c
 refine h.of g ?_ (Nat.le_refl _)
 exact HV h.sp (by omega) p c
theorem LI.preempt{n m:Nat}{l:Lib}(h:LI n m l)(p:Int):LI n (m+1) (l.preempt p).2:=h.of (a:=1) ((lj l p).le (by omega) (by omega)) (by rw[mB];exact h.sp) (Nat.le_refl _)
theorem LI.cF{n m:Nat}{l:Lib}(h:LI n m l):LI (n+1) (m+17) l.cF:=by
 have h0:aD 0 0 l ({l with aM:=l.aM.tick.2 }:Lib):=⟨rfl,rfl,Nat.le_refl _,fun _ h=>h⟩
 have h1:=HS h.sp
 have h2:=gj l.aM.aS.due
 refine h.of (a:=17) ((h0.trans (aD.tell _ _)).le (by omega) (by omega)) ?_ (Nat.le_refl _)
 show fS (n+1+1) (Lib.tell _ _).aM
 rw[(dC _ _).1.aM]
 exact h.sp.tick
theorem LI.fE{n m:Nat}{l:Lib}(h:LI n m l)(c:Int):LI (n+1) (m+17) (l.fE c):=by
 have h0:aD 0 0 l ({l with aM:=(l.aM.done c).2.2 }:Lib):=⟨rfl,rfl,Nat.le_refl _,fun _ h=>h⟩
 have h1:=og l.aM c
 have h2:=gj (l.aM.done c).1.ar
 refine h.of (a:=17) ((h0.trans (aD.tell _ _)).le (by omega) (by omega)) ?_ (Nat.le_refl _)
 show fS (n+1+1) (Lib.tell _ _).aM
 rw[(dC _ _).1.aM]
 exact h.sp.done c
structure Nc(n m:Nat)(l:Lib):Prop where
 sp:fS (n+1) l.aM
 vl:l.vs.length≤64
 rl:l.rows.length≤64
 rw:∀ r∈l.rows,r.length≤m
theorem Nc.same{n m:Nat}{l l':Lib}(h:Nc n m l)(s:wF l l')(hl:l'.vs.length=l.vs.length):Nc n m l':=⟨by rw[s.aM];exact h.sp,by rw[hl];exact h.vl,by rw[s.rows];exact h.rl,by rw[s.rows];exact h.rw⟩
theorem LI.row{n m:Nat}{l:Lib}(h:LI n m l):Nc n m l:=⟨h.sp,h.vl,h.rl,h.rw⟩
structure SI(n m:Nat)(k:Krn):Prop where
 ag:gS k
 own:∀ v∈k.owner,v = -1∨(0≤v∧v<(k.libs.length:Int))
 ll:k.libs.length≤8
 gY:∀ l∈k.libs,LI n m l
theorem SI.ok{n m:Nat}{k:Krn}(h:SI n m k):qY m k:=⟨h.own,h.ag.ol,h.ll,fun l hl=>⟨(h.gY l hl).ev,(h.gY l hl).vl,(h.gY l hl).sp.lt⟩⟩
theorem SI.le{n m n' m':Nat}{k:Krn}(h:SI n m k)(hn:n≤n')(hm:m≤m'):SI n' m' k:=⟨h.ag,h.own,h.ll,fun l hl=>(h.gY l hl).le hn hm⟩
theorem SI.rn{n m:Nat}{k:Krn}(h:SI n m k)(hn:n≤1980)(hm:m≤1000000):nt m k:=⟨h.ok,fun l hl=>⟨(h.gY l hl).sz hn hm,fun t=>(h.gY l hl).AY hn t⟩⟩
theorem SI.inv{n m:Nat}{k:Krn}(h:SI n m k):Inv m k:=⟨h.ok,h.ag⟩
theorem fV.si{n:Nat}{k:Krn}(h:fV n k):SI n (40 * (n+1)) k:=⟨h.ag,h.own,h.ll,fun l hl=>⟨(h.gY l hl).sp,(h.gY l hl).vl,(h.gY l hl).rl,(h.gY l hl).ev,(h.gY l hl).rw⟩⟩
theorem SI.set{n m n' m':Nat}{k:Krn}(h:SI n m k)(hn:n≤n')(hm:m≤m'){j:Nat}{l l':Lib}(hl:k.libs[j]?=some l)(hmo:Mo l l')(hv:l'.vs.length=l.vs.length)(hli:LI n' m' l'):SI n' m' ⟨k.owner,k.libs.set j l'⟩:=by
 refine⟨h.ag.step hl hmo hv,fun v hv=>?_,by show(k.libs.set j l').length≤8;rw[List.length_set];exact h.ll,fun x hx=>?_⟩
 ·show v = -1∨(0≤v∧v<((k.libs.set j l').length:Int));rw[List.length_set];exact h.own v hv
 ·rcases List.mem_or_eq_of_mem_set hx with e | e
  ·exact(h.gY x e).le hn hm
  ·subst e;exact hli
theorem SI.step{n m:Nat}{k:Krn}(h:SI n m k)(hn:n≤1980)(p c:Int):SI (n+1) (m+40) (k.step p c).2:=by
 by_cases e:dy k p=0
 ·obtain⟨i,j,l,rfl,ho,hl, -⟩:=dA h.ok e
  rw[iF ho hl]
  have hli:=h.gY l (List.mem_of_getElem? hl)
  exact h.set (by omega) (by omega) hl (wP l (i:Int) c) (qB (hli.AY hn) (i:Int) c).vs (hli.step hn _ _)
 ·rw[gC e];exact h.le (by omega) (by omega)
theorem BV(l:Lib)(p:Int):Mo l (l.preempt p).2:=by
 cases hh:l.has p with
 | false=>rw[jy hh];exact Mo.refl _
 | true =>
  obtain⟨i,v,rfl,hv,h0⟩:=ij hh
  rw[iE hh hv]
  exact Mo.set (y:=v.told []) hv h0 (by show(1:Int)≠0;decide) rfl
theorem SI.preempt{n m:Nat}{k:Krn}(h:SI n m k)(p:Int):SI n (m+1) (k.preempt p).2:=by
 by_cases e:dy k p=0
 ·obtain⟨i,j,l,rfl,ho,hl, -⟩:=dA h.ok e
  rw[pM ho hl]
  have hli:=h.gY l (List.mem_of_getElem? hl)
  exact h.set (Nat.le_refl _) (by omega) hl (BV l _) (lj l _).vs (hli.preempt _)
 ·rw[mF e];exact h.le (by omega) (by omega)
theorem EN(l:Lib):Mo l l.cF:=(show Mo l ({l with aM:=l.aM.tick.2 }:Lib) from fun _=>Iff.rfl).trans (Mo.tell _ _)
theorem HW(l:Lib)(c:Int):Mo l (l.fE c):=(show Mo l ({l with aM:=(l.aM.done c).2.2 }:Lib) from fun _=>Iff.rfl).trans (Mo.tell _ _)
theorem Dk(l:Lib)(ys:List Ev):(l.tell ys).vs.length=l.vs.length:=(dC l ys).1.len
theorem SI.done{n m:Nat}{k:Krn}(h:SI n m k)(q c:Int):SI (n+1) (m+17) (k.done q c).2:=by
 cases e:aB k.libs q with
 | none=>rw[pN e];exact h.le (by omega) (by omega)
 | some l =>
  obtain⟨q0, -,hq⟩:=bQ e
  obtain⟨j,rfl⟩:∃ j:Nat,q=(j:Int):=⟨q.toNat,by omega⟩
  rw[Int.toNat_natCast] at hq
  rw[mG hq]
  have hli:=h.gY l (List.mem_of_getElem? hq)
  exact h.set (by omega) (by omega) hq (HW l c) (Dk _ _) (hli.fE c)
theorem SI.tick{n m:Nat}{k:Krn}(h:SI n m k):SI (n+1) (m+17) k.tick:=by
 refine⟨⟨fun x hx=>?_,h.ag.ol,fun q x hx p=>?_⟩,fun v hv=>?_,by show(k.libs.map Lib.cF).length≤8;rw[List.length_map];exact h.ll,fun x hx=>?_⟩
 ·obtain⟨l,hl,rfl⟩:=List.mem_map.1 hx
  show l.cF.vs.length=_
  rw[show l.cF.vs.length=l.vs.length from Dk _ _];exact h.ag.len l hl
 ·have hx':(k.libs.map Lib.cF)[q]?=some x:=hx
  rw[List.getElem?_map] at hx'
  cases e:k.libs[q]? with
  | none=>rw[e] at hx';cases hx'
  | some l =>
   rw[e] at hx'
   obtain rfl:=Option.some.inj hx'
   rw[EN l p];exact h.ag.iff q l e p
 ·show v = -1∨(0≤v∧v<((k.libs.map Lib.cF).length:Int));rw[List.length_map];exact h.own v hv
 ·obtain⟨l,hl,rfl⟩:=List.mem_map.1 hx
  exact(h.gY l hl).cF
theorem SI.share{n m:Nat}{k:Krn}(h:SI n m k)(prio:List Int)(turn:Int):SI n (m+2048) (k.share prio turn).1:=by
 obtain⟨h1,h2⟩:=gv h.inv prio turn
 have h3:∀ x∈(k.share prio turn).1.libs,Nc n m x:=nm (fun l p hl=>hl.same (gu l p) (oe l p).vs) (fun l p hl=>hl.same (eR l p) (mC l p).vs) prio turn fun x hx=>(h.gY x hx).row
 exact⟨h1.ag,h1.ok.own,h1.ok.ll,fun x hx=>⟨(h3 x hx).sp,(h3 x hx).vl,(h3 x hx).rl,(h1.ok.gY x hx).ev,fun r hr=>Nat.le_trans ((h3 x hx).rw r hr) (by omega)⟩⟩
end Go.SLYtpbjdoplfgeliaaGreat
namespace Go.SLYtpbjdoplfgeliaaGreat
open Go Go.RowKit
def Krn.mH(k:Krn)(j:Nat):Krn:=⟨k.owner,(k.libs.take j).map Lib.cF++k.libs.drop j⟩
theorem EO(k:Krn):k.mH 0=k:=by
 cases k;rfl
theorem HX(k:Krn):k.mH k.libs.length=k.tick:=by
 unfold Krn.mH Krn.tick
 rw[List.take_length,List.drop_length,List.append_nil]
theorem pO{k:Krn}{j:Nat}(hj:j≤k.libs.length):((k.libs.take j).map Lib.cF).length=j:=by rw[List.length_map,List.length_take];omega
theorem J0{k:Krn}{j:Nat}{l:Lib}(h:k.libs[j]?=some l):(k.mH j).libs[j]?=some l:=by
 have hj:=(List.getElem?_eq_some_iff.1 h).1
 show((k.libs.take j).map Lib.cF++k.libs.drop j)[j]?=_
 rw[List.getElem?_append_right (by rw[pO (by omega)];exact Nat.le_refl _),pO (by omega),Nat.sub_self,List.getElem?_drop]
 exact h
theorem HY{k:Krn}{j:Nat}{l:Lib}(h:k.libs[j]?=some l):(k.mH j).libs.set j l.cF=(k.mH (j+1)).libs:=by
 have hj:=(List.getElem?_eq_some_iff.1 h).1
 show((k.libs.take j).map Lib.cF++k.libs.drop j).set j l.cF=(k.libs.take (j+1)).map Lib.cF++k.libs.drop (j+1)
 rw[aU h,List.map_append,drop_cons h,List.set_append_right _ _ (by rw[pO (by omega)];exact Nat.le_refl _),pO (by omega),Nat.sub_self,List.set_cons_zero,List.append_assoc]
 rfl
theorem HZ{bl:List Nat}{ls:List Lib}{n:Int}{g:Nat→Addr}(hb:bl.length=ls.length)(h:((aB bl n).map g).isNone=true):aB ls n=none:=by
 cases e:aB bl n with
 | some x=>rw[e] at h;cases h
 | none =>
  unfold aB at *
  split at e
  ·rename_i h0;rw[if_pos h0]
  ·rename_i h0
   rw[if_neg h0]
   rw[List.getElem?_eq_none_iff] at e ⊢
   omega
theorem H2{bl:List Nat}{xs:List (Nat×Lib)}{ls:List Lib}{n:Int}{g:Nat→Addr}(hb:xs.map (·.1)=bl)(hl:xs.map (·.2)=ls)(h:((aB bl n).map g).isNone=false):∃ (j:Nat) (x:Nat×Lib),n=(j:Int)∧xs[j]?=some x∧ls[j]?=some x.2∧bl[j]?=some x.1:=by
 cases e:aB bl n with
 | none=>rw[e] at h;cases h
 | some b =>
  obtain⟨h0, -,hb2⟩:=bQ e
  obtain⟨x,hx, -⟩:=dx hb hb2
  exact⟨n.toNat,x,by omega,hx,eT hl hx,eT hb hx⟩
/-! the system -/
structure oB where
 kind:Int
 a:Int
 b:Int
def lW(x:oB):List Value:=[.int .i64 x.kind,.int .i64 x.a,.int .i64 x.b]
structure Sy where
 k:Krn
 prio:List Int
 turn:Int
 log:List eN
def gn(b kb:Nat)(bl:List Nat)(s:Sy):aa:=nK (fun _ _=>True) fun(v vl:Value)=>[arr b 0 [ptr kb,v,.int .i64 s.turn,vl],bR kb bl s.k,sl av 1 v s.prio,sl cR 4 vl s.log]
def jQ(r:Int×gg×Int)(c:Int):List eN:=if r.2.1.aK=true then [⟨1,r.1,r.2.1.slot,c⟩] else []
def Sy.rq(s:Sy)(p c:Int):Int×Sy:=((s.k.step p c).1.2.2,⟨(s.k.step p c).2,s.prio,s.turn,s.log++jQ (s.k.step p c).1 c⟩)
def Sy.wA(s:Sy):Sy:=⟨s.k.tick,s.prio,s.turn,s.log++[⟨3,0,0,0⟩]⟩
def Sy.nB(s:Sy)(n c:Int):Int×Sy:=((s.k.done n c).1,⟨(s.k.done n c).2,s.prio,s.turn,s.log++(if (s.k.done n c).1=0 then [⟨2,n,0,c⟩] else [])⟩)
def Sy.do(s:Sy)(x:oB):Int×Sy :=
 if x.kind=1 then s.rq x.a x.b
 else if x.kind=2 then (0,s.wA)
 else if x.kind=3 then s.nB x.a x.b
 else if x.kind=4 then ((s.k.preempt x.a).1,⟨(s.k.preempt x.a).2,s.prio,s.turn,s.log⟩)
 else if x.kind=5 then (0,⟨s.k,s.prio,x.a,s.log⟩)
 else if x.kind=6 then (0,⟨(s.k.share s.prio s.turn).1,s.prio,s.turn,s.log⟩)
 else (1,s)
def Sy.new(procs:Int)(ps:List fc):Sy:=⟨((Krn.new procs ps).share (ps.map (·.prio)) 0).1,ps.map (·.prio),0,[]⟩
structure yQ(i:Nat)(s:Sy):Prop where
 k:SI (i+1) (2100+2048 * i) s.k
 log:s.log.length≤i
 prio:s.prio.length≤8
theorem yQ.new{procs:Int}{ps:List fc}(h:dL procs ps=0)(hw:∀ p∈ps, ∀ f∈p.funcs, ∀ i∈f,fC i.n):yQ 0 (Sy.new procs ps):=by
 have h0:=fV.new h hw
 refine⟨(h0.si.share _ _).le (by omega) (by omega),Nat.zero_le _,?_⟩
 show(ps.map _).length≤8
 rw[List.length_map]
 have:=(k0 h).2.2.2.2.2
 omega
theorem yQ.more{i:Nat}{s:Sy}(h:yQ i s):yQ (i+1) s:=⟨h.k.le (by omega) (by omega),Nat.le_succ_of_le h.log,h.prio⟩
theorem rr(r:Int×gg×Int)(c:Int):(jQ r c).length≤1:=by unfold jQ;split <;> simp
theorem yQ.do{i:Nat}{s:Sy}(h:yQ i s)(hi:i≤400)(x:oB):yQ (i+1) (s.do x).2:=by
 have hl:=h.log
 unfold Sy.do
 split
 ·refine⟨(h.k.step (by omega) _ _).le (by omega) (by omega),?_,h.prio⟩
  show(s.log++jQ _ _).length≤_
  have:=rr (s.k.step x.a x.b).1 x.b
  rw[List.length_append];omega
 ·split
  ·refine⟨h.k.tick.le (by omega) (by omega),?_,h.prio⟩
   show(s.log++[_]).length≤_
   rw[List.length_append];simp only[List.length_cons,List.length_nil];omega
  ·split
   ·refine⟨(h.k.done _ _).le (by omega) (by omega),?_,h.prio⟩
    show(s.log++(if _ then _ else _)).length≤_
    rw[List.length_append]
    split <;> simp only[List.length_cons,List.length_nil] <;> omega
   ·split
    ·exact⟨(h.k.preempt _).le (by omega) (by omega),Nat.le_succ_of_le hl,h.prio⟩
    ·split
     ·exact⟨h.k.le (by omega) (by omega),Nat.le_succ_of_le hl,h.prio⟩
     ·split
      ·exact⟨(h.k.share _ _).le (by omega) (by omega),Nat.le_succ_of_le hl,h.prio⟩
      ·exact h.more
theorem yQ.rn{i:Nat}{s:Sy}(h:yQ i s)(hi:i≤400):nt (2100+2048 * i) s.k:=h.k.rn (by omega) (by omega)
end Go.SLYtpbjdoplfgeliaaGreat
namespace Go.SLYtpbjdoplfgeliaaGreat
open Go Go.RowKit Go.ChangeAt Go.ChangeShapes Go.Deep
section
variable{H:Type}{enc:TypeId×Value→H}{P:Program}{W:World}{bulk:DataW H→Nat}
structure yz(bulk:DataW H→Nat):Prop where
 one:∀ d,1≤bulk d
 slice:∀ es sp,(es.map bulk).sum+1≤bulk (.slice es sp)
 agg:∀ ds,(ds.map bulk).sum≤bulk (.agg ds)
def gD(enc:TypeId×Value→H)(P:Program)(W:World)(bulk:DataW H→Nat)(t:TypeId){α:Type}(ea:α→List Value)(good:α→Nat→Prop):Prop :=
 ∀ fuel cs x,DataW.trod enc P W 0 (fun _=>true) true fuel t cs=some x→ ∃ a,cs=ea a∧good a (bulk x.1)
theorem gD.int{t:TypeId}{k:IntKind}(ht:P.underlying t=some (.int k)):gD enc P W bulk t (fun n:Int=>[.int k n]) (fun n _=>(Lit.int k n).wf=true):=fun fuel cs x h=>by
 obtain⟨n,rfl,_,hw⟩:=DataW.trod_int ht h
 exact⟨n,rfl,hw⟩
theorem gD.bool{t:TypeId}(ht:P.underlying t=some .bool):gD enc P W bulk t (fun b:Bool=>[.bool b]) (fun _ _=>True):=fun fuel cs x h=>by
 obtain⟨n,rfl,_⟩:=DataW.trod_bool ht h
 exact⟨n,rfl,trivial⟩
theorem Dl{l:List (DataW H)}{d:DataW H}(h:d∈l):bulk d≤(l.map bulk).sum:=by
 induction l with
 | nil=>cases h
 | cons x r ih =>
  simp only[List.map_cons,List.sum_cons]
  cases List.mem_cons.1 h with
  | inl e=>subst e;omega
  | inr e=>have:=ih e;omega
theorem J1(hb:yz bulk)(l:List (DataW H)):l.length≤(l.map bulk).sum:=by
 induction l with
 | nil=>simp
 | cons x r ih=>have:=hb.one x;simp only[List.map_cons,List.sum_cons,List.length_cons];omega
theorem gD.slice(hb:yz bulk){t e:TypeId}{k:Nat}{α:Type}{ea:α→List Value}{good:α→Nat→Prop}(ht:P.underlying t=some (.slice e))(hc:P.cellsOf e=k)(hk0:0<k)(hk:∀ a,(ea a).length=k)(he:gD enc P W bulk e ea good)
  (mono:∀ a m n,m≤n→good a m→good a n) :
  gD enc P W bulk t (fun p:Value×List α=>[p.1]) (fun p n=>iI W ea k p.1 p.2∧p.2.length+1≤n∧ ∀ a∈p.2,good a n):=fun fuel cs x h=>by
 rcases open_slice ht h with ⟨rfl,rfl⟩ | ⟨a,len,cap,m,n,D,Pl,rfl,hb0,hl,hm,hmm,rfl,hx⟩
 ·refine⟨(.slice none 0 0,[]),rfl,⟨⟨none,0,rfl,Nat.le_refl _,fun _ e _=>by(cases e),fun _=>rfl⟩,fun x hx=>(by cases hx),fun i x hx=>by simp at hx⟩,?_,fun a ha=>by cases ha⟩
  exact hb.one _
 ·simp only[if_true] at hmm
  have hmm':=hmm.symm
  subst hmm'
  have each:∀ i,i<len→ ∃ q:Option α, ∃ y,q=some y∧W.cells? 0 (a.add (i * k)) k=some (ea y)∧good y (bulk (D i)):=fun i hi=>by
   obtain⟨cs',h1,h2⟩:=hx i (Nat.lt_of_lt_of_le hi hl)
   obtain⟨y,rfl,hg⟩:=he _ _ _ h2
   rw[hc] at h1
   exact⟨some y,y,rfl,h1,hg⟩
  obtain⟨f,hf⟩:=choose_lt each
  obtain⟨xs,hxs,hxl⟩:∃ xs:List α,(∀ i y,xs[i]?=some y→i<len∧f i=some y)∧xs.length=len:=by
   clear h hx each
   induction len with
   | zero=>exact⟨[],fun i y h=>by simp at h,rfl⟩
   | succ len ih =>
    obtain⟨xs,h1,h2⟩:=ih (by omega) (fun i hi=>hf i (by omega))
    obtain⟨y,hy,_⟩:=hf len (by omega)
    refine⟨xs++[y],fun i z hz=>?_,by simp[h2]⟩
    by_cases hi:i<xs.length
    ·rw[List.getElem?_append_left hi] at hz
     have:=h1 i z hz
     exact⟨by omega,this.2⟩
    ·rw[List.getElem?_append_right (by omega)] at hz
     have hi0:=(List.getElem?_eq_some_iff.1 hz).1
     simp at hi0
     obtain rfl:i=len:=by omega
     simp[h2] at hz
     subst hz
     exact⟨by omega,hy⟩
  have spot:xs≠[]→a.spot=none:=fun hne=>by
   have h0:0<len:=by rw[← hxl];exact List.length_pos_iff.2 hne
   obtain⟨y,_,hcs,_⟩:=hf 0 h0
   obtain⟨_,hlen,hcell⟩:=World.cells?_some hcs
   have h1:=hcell 0 hk0
   rw[List.getElem?_eq_getElem (by rw[hk];exact hk0)] at h1
   have:=World.cell?_spot h1
   simpa [Addr.add] using this
  have hlenb:len+1≤bulk (.slice ((List.range len).map D) ((List.range (cap-len)).map fun j=>D (len+j))):=by
   have h1:=hb.slice ((List.range len).map D) ((List.range (cap-len)).map fun j=>D (len+j))
   have h2:=J1 hb ((List.range len).map D)
   simp only[List.length_map,List.length_range] at h2
   omega
  refine⟨(.slice (some a) len cap,xs),rfl,⟨⟨some a,cap,by rw[hxl],(by rw[hxl];exact hl),fun b e hne=>by cases e;exact spot hne,fun e=>by cases e⟩,fun x _=>hk x,fun i x hi c u hu=>?_⟩,by rw[hxl];exact hlenb,fun y hy=>?_⟩
  ·obtain⟨hil,hfi⟩:=hxs i x hi
   obtain⟨y,hy,hcs,_⟩:=hf i hil
   rw[hfi] at hy
   cases hy
   obtain⟨_,hlen,hcell⟩:=World.cells?_some hcs
   have hck:=(List.getElem?_eq_some_iff.1 hu).1
   rw[hk] at hck
   have h1:=hcell c hck
   rw[hu] at h1
   have hs:=spot (by intro e;subst e;simp at hi)
   obtain⟨b,o,s⟩:=a
   simp only at hs
   subst hs
   rw[dF,dF] at h1
   exact h1
  ·obtain⟨i,hi⟩:=List.mem_iff_getElem?.1 hy
   obtain⟨hil,hfi⟩:=hxs i y hi
   obtain⟨z,hz,_,hg⟩:=hf i hil
   rw[hfi] at hz
   cases hz
   refine mono y _ _ ?_ hg
   have h1:=hb.slice ((List.range len).map D) ((List.range (cap-len)).map fun j=>D (len+j))
   have h2:bulk (D i)≤(((List.range len).map D).map bulk).sum:=Dl (List.mem_map.2 ⟨i,List.mem_range.2 hil,rfl⟩)
   exact Nat.le_trans h2 (Nat.le_trans (Nat.le_succ _) h1)
theorem mI(hb:yz bulk){t:TypeId}{fs:Array Field}{fuel:Nat}{cs:List Value}{x:DataW H×List MemPlace}(ht:P.underlying t=some (.struct fs))(hc:P.cellsOf t=fs.size)(ho:∀ (i:Nat) (f:Field),fs[i]?=some f→f.offset=i∧P.cellsOf f.type=1)
  (h:DataW.trod enc P W 0 (fun _=>true) true fuel t cs=some x) :
  cs.length=fs.size∧ ∀ (i:Nat) (f:Field),fs[i]?=some f→ ∃ v fuel y,cs[i]?=some v∧DataW.trod enc P W 0 (fun _=>true) true fuel f.type [v]=some y∧bulk y.1≤bulk x.1:=by
 obtain⟨xs,n,rfl,rfl,hl,hxl,hf⟩:=DataW.trod_struct ht h
 refine⟨hl.trans hc,fun i f hi=>?_⟩
 have hlt:=(Array.getElem?_eq_some_iff.1 hi).1
 have h1:=hf i f hi
 obtain⟨ho1,ho2⟩:=ho i f hi
 have hil:i<cs.length:=by omega
 rw[ho1,ho2,List.drop_eq_getElem_cons hil,List.take_succ_cons,List.take_zero,List.getElem?_eq_getElem (by omega)] at h1
 refine⟨cs[i],n,_,List.getElem?_eq_getElem hil,h1,?_⟩
 have h2:=hb.agg (xs.map (·.1))
 have h3:bulk (xs[i]'(by omega)).1≤((xs.map (·.1)).map bulk).sum:=Dl (List.mem_map.2 ⟨_,List.getElem_mem _,rfl⟩)
 exact Nat.le_trans h3 h2
/-! ### A law's end -/
theorem wT(hl:laidOutB P=true){W W':World}(hb:Below W.heap.size W W'){sp:Nat→Bool} :
  ∀ {ts:List TypeId} {vs:List Value} {ds:List (DataW H)} {p:List MemPlace},ts.all (fun t=>P.readableRec t && decide (t<P.types.size))=true→DataW.TrodAll enc P W 0 (fun _=>true) true ts vs ds p→(∀ x∈p,x.block<W.heap.size)→(∀ x∈p,sp x.block=true)→
   DataW.TrodAll enc P W' 0 sp true ts vs ds p
 | [],[],[],_,_,h,_,_=>h
 | [],[],_::_,_,_,h,_,_=>h.elim
 | [],_::_,_,_,_,h,_,_=>h.elim
 | _::_,[],_,_,_,h,_,_=>h.elim
 | _::_,_::_,[],_,_,h,_,_=>h.elim
 | t::ts,v::vs,d::ds,ps,hr,h,hlt,hsp=>by
  obtain⟨p,q,h1,h2,rfl⟩:=h
  simp only[List.all_cons,Bool.and_eq_true,decide_eq_true_eq] at hr
  refine⟨p,q,WideElems.Trod_stays hl hr.1.1 hr.1.2 h1 (fun x hx=>hb.same (hlt x (by simp[hx]))) (fun x hx=>hsp x (by simp[hx])),?_,rfl⟩
  exact wT hl hb (by simpa using hr.2) h2 (fun x hx=>hlt x (by simp[hx])) (fun x hx=>hsp x (by simp[hx]))
theorem Ap{f:Func}{s:ChangeSpec}{apart fresh handsOn again:Bool}{W W':World}{args:Array Value}{ds gs:List (DataW H)}{before:List MemPlace}{tb:TypeId}
  (hl:laidOutB P=true) (hrd:f.params.toList.all (fun t=>P.readableRec t && decide (t<P.types.size))=true) (hv:s.vars=[]) (hr:f.resultTypes = #[tb]) (htb:P.underlying tb=some .bool)
  (hW:DataW.Whole enc P f.params.toList s.vars apart W args.toList ds gs before) (h1:(s.fn H ds).results=[.lit (.bool true)]) (h2:(s.fn H ds).args=ds) (h3:(s.fn H ds).vars=[])
  (hb:Below W.heap.size W W'):s.post enc P f apart fresh handsOn again W args (.bool true) W':=by
 have hlt:=fun p hp=>hW.lt p hp
 have hW':=hW
 obtain⟨p,q,hA,hV,rfl,hz,hn⟩:=hW'
 rw[hv] at hV
 obtain⟨rfl,rfl⟩:=trodVars_none hV
 have hres:∀ (b:Nat) (sp:Nat→Bool) (hd:Bool),DataW.TrodAll enc P W' b sp hd f.resultTypes.toList ((Value.bool true).resultList f.resultTypes.size) (s.fn H (ds++[])).results []:=fun b sp hd=>by
  rw[List.append_nil,h1,hr]
  exact trodAll_cons_mk (shut_bool htb _) trodAll_mk0
 have hargs:∀ sp:Nat→Bool,(∀ x∈p++[],sp x.block=true)→DataW.TrodAll enc P W' 0 sp true f.params.toList args.toList (s.fn H (ds++[])).args p:=fun sp hsp=>by
  rw[List.append_nil,h2]
  exact wT hl hb hrd hA (fun x hx=>hlt x (by simp[hx])) (fun x hx=>hsp x (by simp[hx]))
 have hvars:∀ sp:Nat→Bool,DataW.TrodVars enc P W' sp s.vars (s.fn H (ds++[])).vars []:=fun sp=>by
  rw[List.append_nil,h3,hv];rfl
 have hold:∀ x∈p++[],(fun b=>decide (b<W.heap.size)) x.block=true:=fun x hx=>by simpa using hlt x hx
 refine⟨ds,[],p++[],[],p,[],hW,hres _ _ _,hargs _ hold,hvars _,World.keptBut_mono (fun x hx=>⟨hx,?_⟩) (hb.frame _),fun _=>?_⟩
 ·simp only[List.append_nil] at hx
  exact Or.inr (by simpa using hx)
 ·refine⟨ok_one hr rfl (okWide_bool_mk htb _),_,_,([]++p)++[],⟨[]++p,[],trodAll_append (hargs _ (fun _ _=>rfl)) (hres _ _ _),hvars _,rfl,?_,?_⟩,?_⟩
  ·intro b off hp
   have hp':MemPlace.cell b off∈p:=by simpa using hp
   have:=hz b off (by simp[hp'])
   rw[← this]
   exact hb.frozen (p:=⟨b,off,none⟩) (hlt (.cell b off) (by simp[hp']))
  ·intro ha
   simpa using hn ha
  ·intro x hx _
   simpa using hx
theorem Fn.done{f:FuncId}{args:List Value}{X:Type}{v:Value}(h:Fn P W f args [] X (fun _=>v) (fun _=>True) (fun _=>[])):Calls P f args.toArray W fun e w'=>e = .returned v∧Below W.heap.size W w' :=
 (h SLYtpbjdoplfgeliaaGreat.emp W (by simpa only[seps,aJ] using Sat.empty)).mono fun e w' ⟨x,he,_,hs⟩=>⟨he,hs.KY⟩
end
end Go.SLYtpbjdoplfgeliaaGreat
namespace Go.Proofs.YtpbjdoplfgeliaaGreat
open Go Go.RowKit Go.ChangeShapes Go.WideShapes Go.ChangeAt Go.SLYtpbjdoplfgeliaaGreat
/-! the bulk of what is read -/
theorem ln{H:Type}:∀ l:List (DataW H),Rows.uptoBulkAll l=(l.map Rows.uptoBulk).sum
 | []=>by simp[Rows.uptoBulkAll]
 | d::r=>by simp[Rows.uptoBulkAll,ln r]
theorem mJ{H:Type}:yz (Rows.uptoBulk (H:=H)) where
 one:=fun d=>by
  cases d with
  | lit l=>cases l <;> simp[Rows.uptoBulk]
  | nil=>simp[Rows.uptoBulk]
  | ptr d=>simp[Rows.uptoBulk]
  | slice elems spare=>simp[Rows.uptoBulk]
  | agg parts=>simp[Rows.uptoBulk]
  | iface t d=>simp[Rows.uptoBulk]
  | map entries=>simp[Rows.uptoBulk]
  | held h=>simp[Rows.uptoBulk]
 slice:=fun es sp=>by rw[← ln];simp only[Rows.uptoBulk];omega
 agg:=fun ds=>by rw[← ln];simp only[Rows.uptoBulk];omega
theorem bound{H:Type}{l:List (DataW H)}(hk:Rows.uptoSmall H l=true):(l.map Rows.uptoBulk).sum≤1048576:=by
 rw[← ln];simpa [Rows.uptoSmall] using hk
structure Dm(W:World)(v:aX)(n:Nat):Prop where
 fs:iI W ek 1 v.fv v.fs
 ins:∀ x∈v.fs,iI W dM 5 x.1 x.2
 bJ:iI W av 1 v.sv v.bJ
 bb:iI W av 1 v.pv v.bb
 fl:v.fs.length≤n
 sl:v.bJ.length≤n
 pl:v.bb.length≤n
 wo:∀ f∈v.p.funcs, ∀ i∈f,fC i.n
theorem Dm.rd{W:World}{v:aX}{n:Nat}(h:Dm W v n)(H:List aa):fi W H v:=⟨.old h.fs,fun x hx=>.old (h.ins x hx),.old h.bJ,.old h.bb⟩
section
variable{H:Type}{enc:TypeId×Value→H}{W:World}
theorem H3:gD enc Tryz.prog W Rows.uptoBulk 94 dM (fun i _=>fC i.n):=fun fuel cs x h=>by
 obtain⟨hl,hf⟩:=mI mJ Tryz.underlying94 (by kernel_rfl) (by
  intro i f hi
  match i,hi with
  | 0,hi=>cases hi;exact⟨rfl,by kernel_rfl⟩
  | 1,hi=>cases hi;exact⟨rfl,by kernel_rfl⟩
  | 2,hi=>cases hi;exact⟨rfl,by kernel_rfl⟩
  | 3,hi=>cases hi;exact⟨rfl,by kernel_rfl⟩
  | 4,hi=>cases hi;exact⟨rfl,by kernel_rfl⟩
  | n+5,hi=>simp at hi) h
 obtain⟨v0,n0,y0,e0,t0,_⟩:=hf 0 _ rfl
 obtain⟨v1,n1,y1,e1,t1,_⟩:=hf 1 _ rfl
 obtain⟨v2,n2,y2,e2,t2,_⟩:=hf 2 _ rfl
 obtain⟨v3,n3,y3,e3,t3,_⟩:=hf 3 _ rfl
 obtain⟨v4,n4,y4,e4,t4,_⟩:=hf 4 _ rfl
 obtain⟨a0,r0,_,_⟩:=DataW.trod_int Tryz.underlying3 t0
 obtain⟨a1,r1,_,_⟩:=DataW.trod_int Tryz.underlying3 t1
 obtain⟨a2,r2,_,_⟩:=DataW.trod_int Tryz.underlying3 t2
 obtain⟨a3,r3,_,_⟩:=DataW.trod_int Tryz.underlying3 t3
 obtain⟨a4,r4,_,w4⟩:=DataW.trod_int Tryz.underlying92 t4
 cases r0;cases r1;cases r2;cases r3;cases r4
 refine⟨⟨a0,a1,a2,a3,a4⟩,?_,bounds_u64 w4⟩
 match cs,hl with
 | [w0,w1,w2,w3,w4],_ =>
  simp at e0 e1 e2 e3 e4
  subst e0 e1 e2 e3 e4
  rfl
theorem EP:gD enc Tryz.prog W Rows.uptoBulk 95 (ek (α:=List Ins)) (fun p n=>iI W dM 5 p.1 p.2∧p.2.length+1≤n∧ ∀ a∈p.2,fC a.n) :=
 gD.slice mJ Tryz.underlying95 (by kernel_rfl) (by decide) (fun _=>rfl) H3 (fun _ _ _ _ h=>h)
theorem BW:gD enc Tryz.prog W Rows.uptoBulk 49 (fun p:Value×List (Value×List Ins)=>[p.1]) (fun p n=>iI W ek 1 p.1 p.2∧p.2.length+1≤n∧ ∀ a∈p.2,iI W dM 5 a.1 a.2∧a.2.length+1≤n∧ ∀ b∈a.2,fC b.n) :=
 gD.slice mJ Tryz.underlying49 (by kernel_rfl) (by decide) (fun _=>rfl) EP (fun _ _ _ hm h=>⟨h.1,Nat.le_trans h.2.1 hm,h.2.2⟩)
theorem wU:gD enc Tryz.prog W Rows.uptoBulk 50 (fun p:Value×List Int=>[p.1]) (fun p n=>iI W av 1 p.1 p.2∧p.2.length+1≤n∧ ∀ a∈p.2,True) :=
 gD.slice mJ Tryz.underlying50 (by kernel_rfl) (by decide) (fun _=>rfl) (fun fuel cs x h=>by
  obtain⟨n,rfl,_,_⟩:=DataW.trod_int Tryz.underlying3 h
  exact⟨n,rfl,trivial⟩) (fun _ _ _ _ _=>trivial)
theorem H4:gD enc Tryz.prog W Rows.uptoBulk 52 ej (fun v n=>Dm W v n):=fun fuel cs x h=>by
 obtain⟨hl,hf⟩:=mI mJ Tryz.underlying52 (by kernel_rfl) (by
  intro i f hi
  match i,hi with
  | 0,hi=>cases hi;exact⟨rfl,by kernel_rfl⟩
  | 1,hi=>cases hi;exact⟨rfl,by kernel_rfl⟩
  | 2,hi=>cases hi;exact⟨rfl,by kernel_rfl⟩
  | 3,hi=>cases hi;exact⟨rfl,by kernel_rfl⟩
  | 4,hi=>cases hi;exact⟨rfl,by kernel_rfl⟩
  | 5,hi=>cases hi;exact⟨rfl,by kernel_rfl⟩
  | 6,hi=>cases hi;exact⟨rfl,by kernel_rfl⟩
  | 7,hi=>cases hi;exact⟨rfl,by kernel_rfl⟩
  | n+8,hi=>simp at hi) h
 obtain⟨v0,n0,y0,e0,t0,b0⟩:=hf 0 _ rfl
 obtain⟨v1,n1,y1,e1,t1,_⟩:=hf 1 _ rfl
 obtain⟨v2,n2,y2,e2,t2,_⟩:=hf 2 _ rfl
 obtain⟨v3,n3,y3,e3,t3,_⟩:=hf 3 _ rfl
 obtain⟨v4,n4,y4,e4,t4,b4⟩:=hf 4 _ rfl
 obtain⟨v5,n5,y5,e5,t5,b5⟩:=hf 5 _ rfl
 obtain⟨v6,n6,y6,e6,t6,_⟩:=hf 6 _ rfl
 obtain⟨v7,n7,y7,e7,t7,_⟩:=hf 7 _ rfl
 obtain⟨⟨fv,fs⟩,r0,f1,f2,f3⟩:=BW _ _ _ t0
 obtain⟨a1,r1,_,_⟩:=DataW.trod_int Tryz.underlying3 t1
 obtain⟨a2,r2,_,_⟩:=DataW.trod_int Tryz.underlying3 t2
 obtain⟨a3,r3,_,_⟩:=DataW.trod_int Tryz.underlying3 t3
 obtain⟨⟨sv,bJ⟩,r4,s1,s2,_⟩:=wU _ _ _ t4
 obtain⟨⟨pv,bb⟩,r5,p1,p2,_⟩:=wU _ _ _ t5
 obtain⟨a6,r6,_,_⟩:=DataW.trod_int Tryz.underlying3 t6
 obtain⟨a7,r7,_,_⟩:=DataW.trod_int Tryz.underlying3 t7
 cases r0;cases r1;cases r2;cases r3;cases r4;cases r5;cases r6;cases r7
 refine⟨⟨fv,fs,a1,a2,a3,sv,bJ,pv,bb,a6,a7⟩,?_,⟨f1,fun x hx=>(f3 x hx).1,s1,p1,?_,?_,?_,?_⟩⟩
 ·match cs,hl with
  | [w0,w1,w2,w3,w4,w5,w6,w7],_ =>
   simp at e0 e1 e2 e3 e4 e5 e6 e7
   subst e0 e1 e2 e3 e4 e5 e6 e7
   rfl
 ·exact Nat.le_trans (Nat.le_of_succ_le f2) b0
 ·exact Nat.le_trans (Nat.le_of_succ_le s2) b4
 ·exact Nat.le_trans (Nat.le_of_succ_le p2) b5
 ·intro f hf i hi
  obtain⟨q,hq,rfl⟩:=List.mem_map.1 hf
  exact(f3 q hq).2.2 i hi
theorem wV:gD enc Tryz.prog W Rows.uptoBulk 22 (fun p:Value×List aX=>[p.1]) (fun p n=>iI W ej 8 p.1 p.2∧p.2.length+1≤n∧ ∀ a∈p.2,Dm W a n) :=
 gD.slice mJ Tryz.underlying22 (by kernel_rfl) (by decide) (fun _=>rfl) H4 (fun _ _ _ hm h=>⟨h.fs,h.ins,h.bJ,h.bb,Nat.le_trans h.fl hm,Nat.le_trans h.sl hm,Nat.le_trans h.pl hm,h.wo⟩)
theorem H5:gD enc Tryz.prog W Rows.uptoBulk 32 lW (fun _ _=>True):=fun fuel cs x h=>by
 obtain⟨hl,hf⟩:=mI mJ Tryz.underlying32 (by kernel_rfl) (by
  intro i f hi
  match i,hi with
  | 0,hi=>cases hi;exact⟨rfl,by kernel_rfl⟩
  | 1,hi=>cases hi;exact⟨rfl,by kernel_rfl⟩
  | 2,hi=>cases hi;exact⟨rfl,by kernel_rfl⟩
  | n+3,hi=>simp at hi) h
 obtain⟨v0,n0,y0,e0,t0,_⟩:=hf 0 _ rfl
 obtain⟨v1,n1,y1,e1,t1,_⟩:=hf 1 _ rfl
 obtain⟨v2,n2,y2,e2,t2,_⟩:=hf 2 _ rfl
 obtain⟨a0,r0,_,_⟩:=DataW.trod_int Tryz.underlying3 t0
 obtain⟨a1,r1,_,_⟩:=DataW.trod_int Tryz.underlying3 t1
 obtain⟨a2,r2,_,_⟩:=DataW.trod_int Tryz.underlying3 t2
 cases r0;cases r1;cases r2
 refine⟨⟨a0,a1,a2⟩,?_,trivial⟩
 match cs,hl with
 | [w0,w1,w2],_ =>
  simp at e0 e1 e2
  subst e0 e1 e2
  rfl
theorem wW:gD enc Tryz.prog W Rows.uptoBulk 23 (fun p:Value×List oB=>[p.1]) (fun p n=>iI W lW 3 p.1 p.2∧p.2.length+1≤n∧ ∀ a∈p.2,True) :=
 gD.slice mJ Tryz.underlying23 (by kernel_rfl) (by decide) (fun _=>rfl) H5 (fun _ _ _ _ _=>trivial)
end
theorem own:ownKnob Tryz.prog.godebug=none:=by kernel_rfl
theorem laid:laidOutB Tryz.prog=true:=by kernel_rfl
end Go.Proofs.YtpbjdoplfgeliaaGreat
namespace Go.SLYtpbjdoplfgeliaaGreat
open Go Go.RowKit
class jE(P:Program)(t:TypeId)(u:outParam TypeDesc):Prop where
 ok:P.underlying t=some u
class iG(P:Program)(t:TypeId)(k:outParam Nat):Prop where
 ok:∀ w,(sizeOf t).run P w = .ok k w
class One(P:Program)(t:TypeId):Prop where
 ok:∀ w,(isAgg t).run P w = .ok false w
class jF(P:Program)(t:TypeId):Prop where
 ok:∀ w,(isAgg t).run P w = .ok true w
class cP(P:Program)(S:TypeId)(f:Nat)(k:outParam Nat):Prop where
 ok:∀ (b o:Nat) (w:World),(Instr.fieldAt S (.pointer (some ⟨b,o,none⟩)) f).run P w = .ok (.pointer (some ⟨b,o+k,none⟩)) w
section
variable{P:Program}{W:World}{N:Nat}{Q:Exit→Act→World→Prop}{L:List (Nat×Option Value)}{H:List aa}{O:Array Oper}{T:TypeId}{K:List aa}{ks:List Nat}
theorem Y.o{S:TypeId}{f k:Nat}[h:cP P S f k]{x:Operand}{b o:Nat}(hx:ev L x=some (.pointer (some ⟨b,o,none⟩))):Y P W N (.fieldAddr S x f) T L H (.pointer (some ⟨b,o+k,none⟩)):=fun dst pos after guard a w ha hs=>by
 simp only[execOp,ha.eval hx]
 exact bH (h.ok b o w)
theorem Y.f{S:TypeId}{f k:Nat}[h:cP P S f k]{x:Operand}{b:Nat}(hx:ev L x=some (.pointer (some ⟨b,0,none⟩))):Y P W N (.fieldAddr S x f) T L H (.pointer (some ⟨b,k,none⟩)):=by
 have:=Y.o (P:=P) (W:=W) (N:=N) (H:=H) (T:=T) (S:=S) (f:=f) (k:=k) hx
 rwa [Nat.zero_add] at this
theorem Y.z{S:TypeId}{f:Nat}[h:cP P S f 0]{x:Operand}{b o:Nat}(hx:ev L x=some (.pointer (some ⟨b,o,none⟩))):Y P W N (.fieldAddr S x f) T L H (.pointer (some ⟨b,o,none⟩)):=Y.o (k:=0) hx
theorem Y.ld{x:Operand}{b o:Nat}{v:Value}[h:One P T]{T':TypeId}(hx:ev L x=some (.pointer (some ⟨b,o,none⟩)))(hc:Cell W H b o v):Y P W N (.load T x) T' L H v:=Y.load h.ok hx hc
theorem Y.l{x:Operand}{b i:Nat}{v:Value}{cs:List Value}[h:One P T]{T':TypeId}(hx:ev L x=some (.pointer (some ⟨b,i,none⟩)))[hh:bY H b 0 cs](hc:cs[i]?=some v:=by rfl):Y P W N (.load T x) T' L H v:=Y.load h.ok hx (Cell.a hc)
theorem Y.lo{x:Operand}{b o i:Nat}{v:Value}{cs:List Value}[h:One P T]{T':TypeId}(hx:ev L x=some (.pointer (some ⟨b,o+i,none⟩)))[hh:bY H b o cs](hc:cs[i]?=some v:=by rfl):Y P W N (.load T x) T' L H v:=Y.load h.ok hx (Cell.ao hc)
theorem Y.lz{x:Operand}{b o:Nat}{v:Value}{cs:List Value}[h:One P T]{T':TypeId}(hx:ev L x=some (.pointer (some ⟨b,o,none⟩)))[hh:bY H b o cs](hc:cs[0]?=some v:=by rfl):Y P W N (.load T x) T' L H v:=Y.load h.ok hx (Cell.az hc)
theorem Y.lr{α:Type}{enc:α→List Value}{k i:Nat}{v u:Value}{xs:List α}{y:α}{x:Operand}[h:One P T]{T':TypeId}(hx:ev L x=some (.pointer (some ⟨blk v,ef v+i * k,none⟩)))(hy:xs[i]?=some y)[hr:aA W H v enc k xs](hu:(enc y)[0]?=some u:=by rfl):Y P W N (.load T x) T' L H u:=Y.load h.ok hx (Cell.KE hr.rd hy hu)
theorem Y.la{x:Operand}{b o k:Nat}{cs:List Value}[h:jF P T][z:iG P T k]{T':TypeId}(hx:ev L x=some (.pointer (some ⟨b,o,none⟩)))(hc:Cells W H b o cs)(hz:cs.length=k:=by rfl):Y P W N (.load T x) T' L H (.agg cs.toArray):=Y.FR h.ok hx hc (by rw[hz];exact z.ok)
theorem Y.lA{x:Operand}{b o k:Nat}{cs:List Value}[h:jF P T][z:iG P T k]{T':TypeId}(hx:ev L x=some (.pointer (some ⟨b,o,none⟩)))[hh:bY H b o cs](hz:cs.length=k:=by rfl):Y P W N (.load T x) T' L H (.agg cs.toArray):=Y.la hx Cells.a hz
theorem Y.len{α:Type}{enc:α→List Value}{k:Nat}{x:Operand}{t e:TypeId}{v:Value}{xs:List α}[hu:jE P t (.slice e)](hx:ev L x=some v)[h:aA W H v enc k xs]:Y P W N (.call ⟨.builtin .len, #[x], #[t]⟩) T L H (.int .i64 (xs.length:Int)):=Y.FN hu.ok hx h.rd
theorem Y.lens{x:Operand}{t e:TypeId}{p:Option Addr}{n c:Nat}[hu:jE P t (.slice e)](hx:ev L x=some (.slice p n c)):Y P W N (.call ⟨.builtin .len, #[x], #[t]⟩) T L H (.int .i64 n):=Y.yV hu.ok hx
theorem Y.ix{α:Type}{enc:α→List Value}{k:Nat}{x y:Operand}{t e:TypeId}{v:Value}{xs:List α}{kd:IntKind}{j:Int}(i:Nat)[hu:jE P t (.slice e)][hz:iG P e k](hx:ev L x=some v)(hy:ev L y=some (.int kd j))[h:aA W H v enc k xs](hj:j=(i:Int))(hi:i<xs.length):Y P W N (.indexAddr t x y) T L H (.pointer (some ⟨blk v,ef v+i * k,none⟩)):=Y.sM i hu.ok hz.ok hx hy h.rd hj hi
theorem Y.OD{xT e yT:TypeId}{x y:Operand}{p:Option Addr}[hu:jE P xT (.pointer e)](hx:ev L x=some (.pointer p))(hy:ev L y=some (.pointer none)):Y P W N (.binOp .eql xT x y yT) T L H (.bool p.isNone):=Y.FJ hu.ok hx hy
theorem Y.N8{xT e yT:TypeId}{x y:Operand}{p:Option Addr}[hu:jE P xT (.pointer e)](hx:ev L x=some (.pointer p))(hy:ev L y=some (.pointer none)):Y P W N (.binOp .neq xT x y yT) T L H (.bool (!p.isNone)):=Y.DI hu.ok hx hy
theorem aR.p{op:Op}{pos:String}{after:Array Edge}{d:Nat}{rest:List Oper}{v:Value}(hy:Y P W N op T L H v)(k:aR P W N O Q rest ((d,some v)::L) H)(hN:Nat.blt d N=true:=by rfl):aR P W N O Q (⟨some d,op,T,pos,after,none⟩::rest) L H:=aR.y hN hy k
theorem aR.g{op:Op}{pos:String}{after:Array Edge}{d j t:Nat}{want:Bool}{rest:List Oper}{v:Value}(hy:Y P W N op T L H v)(k:aR P W N O Q rest ((d,some v)::L) H)(hj:(O[j]?).bind (·.dst)=some t:=by rfl)(ht:look L t=some (.bool want):=by rfl)(hN:Nat.blt d N=true:=by rfl):aR P W N O Q (⟨some d,op,T,pos,after,some (j,want)⟩::rest) L H:=aR.yg hj ht hN hy k
theorem aR.u{op:Op}{pos:String}{after:Array Edge}{d j t:Nat}{want:Bool}{rest:List Oper}{u:Value}(k:aR P W N O Q rest ((d,some undef)::L) H)(hj:(O[j]?).bind (·.dst)=some t:=by rfl)(ht:look L t=some u:=by rfl)(hb:(boolOf u == some want)=false:=by rfl)(hN:Nat.blt d N=true:=by rfl):aR P W N O Q (⟨some d,op,T,pos,after,some (j,want)⟩::rest) L H:=aR.skip hj ht hb hN k
theorem bf.p{op:Op}{pos:String}{after:Array Edge}{d:Nat}{rest:List Oper}{v:Value}(hy:Y P W N op T L H v)(k:bf P W N K O Q ks rest ((d,some v)::L) H)(hN:Nat.blt d N=true:=by rfl):bf P W N K O Q (1::ks) (⟨some d,op,T,pos,after,none⟩::rest) L H:=bf.s hN hy k
theorem bf.q{op:Op}{pos:String}{after:Array Edge}{d:Nat}{rest:List Oper}{v:Value}(hy:Y P W N op T L K v)(k:bf P W N K O Q ks rest ((d,some v)::L) H)(hN:Nat.blt d N=true:=by rfl)(hK:∀ w,Sat W w (seps H)→Sat W w (seps K):=by exact Kept.auto):bf P W N K O Q (0::ks) (⟨some d,op,T,pos,after,none⟩::rest) L H:=bf.k hN hK hy k
theorem bf.g{op:Op}{pos:String}{after:Array Edge}{d j t:Nat}{want:Bool}{rest:List Oper}{v:Value}(hy:Y P W N op T L H v)(k:bf P W N K O Q ks rest ((d,some v)::L) H)(hj:(O[j]?).bind (·.dst)=some t:=by rfl)(ht:look L t=some (.bool want):=by rfl)(hN:Nat.blt d N=true:=by rfl):bf P W N K O Q (1::ks) (⟨some d,op,T,pos,after,some (j,want)⟩::rest) L H:=bf.sg hj ht hN hy k
theorem bf.h{op:Op}{pos:String}{after:Array Edge}{d j t:Nat}{want:Bool}{rest:List Oper}{v:Value}(hy:Y P W N op T L K v)(k:bf P W N K O Q ks rest ((d,some v)::L) H)(hj:(O[j]?).bind (·.dst)=some t:=by rfl)(ht:look L t=some (.bool want):=by rfl)(hN:Nat.blt d N=true:=by rfl)(hK:∀ w,Sat W w (seps H)→Sat W w (seps K):=by exact Kept.auto):bf P W N K O Q (0::ks) (⟨some d,op,T,pos,after,some (j,want)⟩::rest) L H:=bf.kg hj ht hN hK hy k
theorem bf.u{op:Op}{pos:String}{after:Array Edge}{d j t:Nat}{want:Bool}{rest:List Oper}{u:Value}(k:bf P W N K O Q ks rest ((d,some undef)::L) H)(hj:(O[j]?).bind (·.dst)=some t:=by rfl)(ht:look L t=some u:=by rfl)(hb:(boolOf u == some want)=false:=by rfl)(hN:Nat.blt d N=true:=by rfl)(hK:∀ w,Sat W w (seps H)→Sat W w (seps K):=by exact Kept.auto):bf P W N K O Q (0::ks) (⟨some d,op,T,pos,after,some (j,want)⟩::rest) L H:=bf.MF hj ht hb hN hK k
theorem bf.w{op:Op}{pos:String}{after:Array Edge}{d j t:Nat}{want:Bool}{rest:List Oper}{u:Value}(k:bf P W N K O Q ks rest ((d,some undef)::L) H)(hj:(O[j]?).bind (·.dst)=some t:=by rfl)(ht:look L t=some u:=by rfl)(hb:(boolOf u == some want)=false:=by rfl)(hN:Nat.blt d N=true:=by rfl):bf P W N K O Q (1::ks) (⟨some d,op,T,pos,after,some (j,want)⟩::rest) L H:=bf.MG hj ht hb hN k
end
end Go.SLYtpbjdoplfgeliaaGreat
