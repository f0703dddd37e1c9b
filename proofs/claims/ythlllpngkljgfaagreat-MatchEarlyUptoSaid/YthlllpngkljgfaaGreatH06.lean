/- Walks of functions, and what they compute. Conditions: none, this text proves no statement. -/
import Derived.Test.YthlllpngkljgfaaGreatH05
import Derived.Test.YthlllpngkljgfaaGreatH01
import Derived.WalkKit
import Derived.ProofKit
import Derived.OpenShut
import Derived.JoinedCond
import Derived.Deep.Slices
import Derived.Carry
import Derived.Test.YthlllpngkljgfaaGreatRows
import Derived.Test.YthlllpngkljgfaaGreatH03
namespace Go.SLYthlllpngkljgfaaGreat
open Go Go.RowKit
theorem ko(t:Int):∀ (rows:List (List Int)) (n:Nat),(whereFrom t rows n).2=ye rows t
 | [],_=>rfl
 | r::rows,n=>by
  unfold whereFrom ye
  rw[List.any_cons]
  by_cases h:t∈r
  ·rw[if_pos h,List.contains_iff_mem.2 h];rfl
  ·rw[if_neg h,ko t rows (n+1)]
   have:r.contains t=false:=by rw[← Bool.not_eq_true,List.contains_iff_mem];exact h
   rw[this,Bool.false_or];rfl
theorem BL{rows:List (List Int)}{p t:Int}(h:(whereFrom t rows 0).2=true):rAdd rows p t=rows:=by unfold rAdd;rw[ko] at h;rw[if_pos h]
theorem EP{rows:List (List Int)}{p t:Int}(h:aB rows p=none):rAdd rows p t=rows:=by
 unfold rAdd;split
 ·rfl
 ·rw[h]
theorem ER{rows:List (List Int)}{p t:Int}{r:List Int}(h:(whereFrom t rows 0).2=false)(hr:aB rows p=some r):rAdd rows p t=rows.set p.toNat (r++[t]):=by
 unfold rAdd;rw[ko] at h;rw[if_neg (by rw[h];simp),hr]
theorem ES{rows:List (List Int)}{t:Int}(h:(whereFrom t rows 0).2=false){i:Nat}{r:List Int}(hr:rows[i]?=some r):r.contains t=false:=by
 rw[ko] at h
 unfold ye at h
 have:=List.any_eq_false.1 h r (List.mem_of_getElem? hr)
 simpa using this
theorem BM{l:List Int}{i:Nat}(h:i+1=l.length):l.eraseIdx i=l.dropLast:=by
 rw[List.dropLast_eq_take,List.eraseIdx_eq_take_drop_succ,List.drop_of_length_le (by omega),List.append_nil,show l.length-1=i from by omega]
theorem JV{l:List Int}{t:Int}(h:l.getLast?=some t):∃ i,i+1=l.length∧l[i]?=some t:=by
 rw[List.getLast?_eq_getElem?] at h
 have:=(List.getElem?_eq_some_iff.1 h).1
 exact⟨l.length-1,by omega,h⟩
theorem z8:∀ {rows:List (List Int)} {k:Nat} {r:List Int} {t:Int},(∀ j,j<k→rows[j]?=some [])→rows[k]?=some r→r.getLast?=some t→rSteal rows=some (t,rows.set k r.dropLast)
 | [],_,_,_,_,h,_=>by simp at h
 | x::rows,0,r,t,_,h,ht=>by
  have e:x=r:=by simpa using h
  subst e
  unfold rSteal;rw[ht];rfl
 | x::rows,k+1,r,t,hj,h,ht=>by
  have e:x=[]:=by have:=hj 0 (by omega);simpa using this
  subst e
  have ih:=z8 (rows:=rows) (k:=k) (r:=r) (t:=t) (fun j hjk=>by have:=hj (j+1) (by omega);simpa using this) (by simpa using h) ht
  unfold rSteal
  rw[List.getLast?_nil,ih]
  rfl
theorem tW:∀ {rows:List (List Int)},(∀ j,j<rows.length→rows[j]?=some [])→rSteal rows=none
 | [],_=>rfl
 | x::rows,hj=>by
  have e:x=[]:=by have:=hj 0 (by simp);simpa using this
  subst e
  have ih:=tW (rows:=rows) (fun j hjk=>by have:=hj (j+1) (by simp;omega);simpa using this)
  unfold rSteal
  rw[List.getLast?_nil,ih]
def tX(rows:List (List Int))(p:Int):Int:=match rPick rows p with | none=>0 | some x=>x.1
def lH(rows:List (List Int))(p:Int):List (List Int):=match rPick rows p with | none=>rows | some x=>x.2
theorem m3{rows:List (List Int)}{p:Int}(h:rPick rows p=none):tX rows p=0∧lH rows p=rows:=by unfold tX lH;rw[h];exact⟨rfl,rfl⟩
theorem jh{rows rows':List (List Int)}{p t:Int}(h:rPick rows p=some (t,rows')):tX rows p=t∧lH rows p=rows':=by unfold tX lH;rw[h];exact⟨rfl,rfl⟩
theorem tY{rows:List (List Int)}{p:Int}(h:aB rows p=none):rPick rows p=none:=by unfold rPick;rw[h]
theorem ET{rows:List (List Int)}{p t:Int}{r:List Int}(h:aB rows p=some (t::r)):rPick rows p=some (t,rows.set p.toNat r):=by unfold rPick;rw[h]
theorem tZ{rows:List (List Int)}{p:Int}(h:aB rows p=some []):rPick rows p=rSteal rows:=by unfold rPick;rw[h]
theorem HI{rows:List (List Int)}{k:Nat}{r:List Int}(h:rows[k]?=some r)(hr:r≠[]):ib rows=false:=by
 unfold ib
 rw[List.all_eq_false]
 exact⟨r,List.mem_of_getElem? h,by simpa using hr⟩
theorem EU{rows:List (List Int)}(h:∀ j,j<rows.length→rows[j]?=some []):ib rows=true:=by
 unfold ib
 rw[List.all_eq_true]
 intro r hr
 obtain⟨j,hj⟩:=List.mem_iff_getElem?.1 hr
 have:=h j (List.getElem?_eq_some_iff.1 hj).1
 rw[hj] at this
 simpa using this
theorem wy{xs:List (Nat×List Int)}{rs:List (List Int)}(h:xs.map (·.2)=rs){p:Int}:aB rs p=(aB xs p).map (·.2):=by
 rw[← h];unfold aB;split
 ·rfl
 ·rw[List.getElem?_map]
theorem m4{xs:List (Nat×List Int)}{i q:Nat}{r:List Int}(hx:xs[i]?=some (q,r)):∀ g,aD (fun x:Nat×List Int=>fp x.1 x.2) xs g→seps [fp q r,aD (fun x:Nat×List Int=>fp x.1 x.2) (xs.eraseIdx i)] g:=c0 (f:=fun x:Nat×List Int=>fp x.1 x.2) hx
theorem pA{b:Nat}{v:Value}{xs:List (Nat×List Int)}{rs:List (List Int)}(h:xs.map (·.2)=rs):∀ g,seps [arr b 0 [v],sl bH 1 v xs,aD (fun x:Nat×List Int=>fp x.1 x.2) xs] g→ga b rs g:=fun _ a=>⟨v,xs,h,a⟩
theorem HJ{xs:List (Nat×List Int)}{i q:Nat}{r r':List Int}{v:Value}(hx:xs[i]?=some (q,r)):∀ g,sl bH 1 v xs g→sl bH 1 v (xs.set i (q,r')) g:=fun g s=>by
 have hl:rows bH (xs.set i (q,r'))=rows bH xs:=by
  have e:∀ (l l':List (Nat×List Int)),l.map (·.1)=l'.map (·.1)→rows bH l=rows bH l':=fun l=>by
   induction l with
   | nil=>intro l' h;cases l' with
    | nil=>rfl
    | cons y ys=>cases h
   | cons x l ih=>intro l' h;cases l' with
    | nil=>cases h
    | cons y ys =>
     simp only[List.map_cons,List.cons.injEq] at h
     rw[eh,eh,ih ys h.2]
     show[ptr x.1]++_=[ptr y.1]++_
     rw[h.1]
  refine e _ _ ?_
  rw[List.map_set]
  have:(xs.map (·.1))[i]?=some q:=by rw[List.getElem?_map,hx];rfl
  exact fA this
 rcases s with ⟨a,rfl,e⟩ | ⟨b,cap,sp,e1,e2, -,e4,e5⟩
 ·simp at hx
 ·exact .inr ⟨b,cap,sp,by rw[List.length_set];exact e1,by rw[List.length_set];exact e2,fun _ _=>rfl,by rw[List.length_set];exact e4,by rw[hl];exact e5⟩
theorem qG{b:Nat}{v:Value}{xs:List (Nat×List Int)}{rs:List (List Int)}{i q:Nat}{r:List Int}(h:xs.map (·.2)=rs)(hx:xs[i]?=some (q,r))(r':List Int):∀ g,seps [arr b 0 [v],sl bH 1 v xs,fp q r',aD (fun x:Nat×List Int=>fp x.1 x.2) (xs.eraseIdx i)] g→ga b (rs.set i r') g:=fun g a=>by
 refine⟨v,xs.set i (q,r'),by show(xs.set i (q,r')).map (·.2)=_;rw[List.map_set,h],?_⟩
 simp only[seps,aJ] at a ⊢
 refine ba (fun _ b=>b) (ba (HJ hx) (fun g b=>?_)) g a
 rw[gL _ _ (List.getElem?_eq_some_iff.1 hx).1];exact b
theorem BN{W:World}{H R K As:List aa}(t:Take H (seps As) R)(h:∀ w,Sat W w (seps (As++R))→Sat W w (seps K)):∀ w,Sat W w (seps H)→Sat W w (seps K):=fun w s=>h w (by rw[ah, ← t.seps];exact s)
def wE(l:List Ev):Ev:=match evWithin l with | none=>⟨0,0,0⟩ | some x=>x.1
def wR(l:List Ev):List Ev:=match evWithin l with | none=>l | some x=>x.2
theorem EV{l:List Ev}(h:idxP iU l 0<0):evWithin l=none:=if_pos h
theorem BO{l:List Ev}(h:¬idxP iU l 0<0)(hl:(idxP iU l 0).toNat<l.length):∃ i e,idxP iU l 0=((i:Nat):Int)∧l[i]?=some e∧evWithin l=some (e,l.take i++l.drop (i+1)):=by
 obtain⟨e,he⟩:=ak hl
 refine⟨(idxP iU l 0).toNat,e,by omega,he,?_⟩
 unfold evWithin;rw[if_neg h,he]
theorem Dq{α:Type}{p:α→Bool}:∀ (l:List α) (k:Nat),idxP p l k<((k+l.length:Nat):Int)
 | [],k=>by show(-1:Int)<_;omega
 | x::l,k=>by
  unfold idxP
  split
  ·simp only[List.length_cons];omega
  ·have:=Dq (p:=p) l (k+1);simp only[List.length_cons];omega
end Go.SLYthlllpngkljgfaaGreat
namespace Go.SLYthlllpngkljgfaaGreat
open Go Go.RowKit
theorem Dr{u:Value}{e:kO}(h:isSl u=true):(nS u e).all (·.oneCell')=true:=by
 have:=gb h
 show(u.oneCell' && (true && (true && (true && true))))=true
 rw[this];rfl
theorem da{u:Value}{d:gj}(h:isSl u=true):(dx u d).all (·.oneCell')=true:=by
 have:=gb h
 show(true && (true && (u.oneCell' && (true && (true && (true && true))))))=true
 rw[this];rfl
theorem wz{α:Type}{f:α→aa}:∀ {xs:List α} {i:Nat} {x y:α},xs[i]?=some x→f y=f x→aD f (xs.set i y)=aD f xs
 | [],_,_,_,h,_=>by simp at h
 | z::xs,0,x,y,h,e=>by
  have:z=x:=by simpa using h
  subst this
  rw[List.set_cons_zero,fN,fN,e]
 | z::xs,i+1,x,y,h,e=>by
  rw[List.set_cons_succ,fN,fN,wz (i:=i) (x:=x) (by simpa using h) e]
abbrev vF:Value×aM→aa:=fun x=>sl cr 3 x.1 x.2.evs
theorem fk{vv:Value}{xs:List (Value×aM)}{vs:List aM}(h:xs.map (·.2)=vs):∀ g,seps [sl fe 3 vv xs,aD (fun x:Value×aM=>sl cr 3 x.1 x.2.evs) xs] g→ct vv vs g:=fun _ a=>⟨xs,h,a⟩
theorem kp{vv:Value}{xs:List (Value×aM)}{vs:List aM}{i:Nat}{x:Value×aM}{y:aM}(h:xs.map (·.2)=vs)(hx:xs[i]?=some x)(he:y.evs=x.2.evs):∀ g,seps [sl fe 3 vv (xs.set i (x.1,y)),aD (fun x:Value×aM=>sl cr 3 x.1 x.2.evs) xs] g→ct vv (vs.set i y) g:=fun g a=>by
 refine⟨xs.set i (x.1,y),by show(xs.set i (x.1,y)).map (·.2)=_;rw[List.map_set,h],?_⟩
 show seps [_,aD (fun x:Value×aM=>sl cr 3 x.1 x.2.evs) (xs.set i (x.1,y))] g
 rwa [wz (f:=fun x:Value×aM=>sl cr 3 x.1 x.2.evs) hx (y:=(x.1,y)) (by show sl cr 3 x.1 y.evs=_;rw[he])]
theorem mj{vv:Value}{xs:List (Value×aM)}{vs:List aM}{i:Nat}{x:Value×aM}{w:Value}{y:aM}(h:xs.map (·.2)=vs)(hx:xs[i]?=some x):∀ g,seps [sl fe 3 vv (xs.set i (w,y)),sl cr 3 w y.evs,aD (fun x:Value×aM=>sl cr 3 x.1 x.2.evs) (xs.eraseIdx i)] g→ct vv (vs.set i y) g:=fun g a=>by
 refine⟨xs.set i (w,y),by show(xs.set i (w,y)).map (·.2)=_;rw[List.map_set,h],?_⟩
 simp only[seps,aJ] at a ⊢
 refine ba (fun _ b=>b) (fun g b=>?_) g a
 rw[gL _ _ (List.getElem?_eq_some_iff.1 hx).1];exact b
theorem BP{rows:List (List Int)}{p:Int}{ts:List Int}{k:Nat}{t:Int}(h:ts[k]?=some t):dU rows p (ts.take (k+1))=rAdd (dU rows p (ts.take k)) p t:=by
 unfold dU;rw[aX h,List.foldl_append];rfl
structure HK(l:Lib):Prop where
 sp:fj l.aO
 vl:l.vs.length≤64
 rl:l.rows.length≤64
 wt:l.waiting.length≤1000000
 ev:∀ v∈l.vs,v.evs.length≤1000000
 rw:∀ r∈l.rows,r.length≤1000000
theorem ff.sz{k:Nat}{l:Lib}(h:ff k l)(hk:k≤180):HK l:=by
 have hl:Le (40 * (k+1)) l:=⟨h.ev,h.vl,h.sp.lt⟩
 exact⟨h.sp.aO (by omega),h.vl,h.rl,Nat.le_trans hl.w (by omega),fun v hv=>Nat.le_trans (hl.e v hv) (by omega),fun r hr=>Nat.le_trans (h.rw r hr) (by omega)⟩
theorem pB{l:Lib}{p m:Int}(h:l.locked=true):l.enter p m=l:=if_pos h
theorem m5{l:Lib}{i:Nat}{v:aM}{m:Int}(hv:l.vs[i]?=some v)(h:l.locked=false):l.enter (i:Int) m = {l with locked:=true,vs:=l.vs.set i {v with mode:=m } }:=by
 unfold Lib.enter;rw[if_neg (by rw[h];simp),eR hv];unfold Lib.iT;rw[Int.toNat_natCast]
theorem iE{l:Lib}{i:Nat}{v:aM}{m t:Int}(hv:l.vs[i]?=some v):l.leave (i:Int) m t = {l with locked:=false,vs:=l.vs.set i {v with mode:=m,ab:=t } }:=by
 unfold Lib.leave;rw[eR hv];unfold Lib.iT;rw[Int.toNat_natCast]
theorem ik{l:Lib}{i:Nat}{y:aM}:l.iT (i:Int) y = {l with vs:=l.vs.set i y }:=by unfold Lib.iT;rw[Int.toNat_natCast]
end Go.SLYthlllpngkljgfaaGreat
namespace Go.SLYthlllpngkljgfaaGreat
open Go Go.RowKit
section
variable{l:Lib}{i:Nat}{v:aM}
def Lib.qH(l:Lib)(i:Nat)(v:aM)(rest:List Ev):Lib:={l with locked:=false,vs:=l.vs.set i {v with evs:=rest } }
theorem k0(hv:l.vs[i]?=some v){q:Ev}{rest:List Ev}{c:Int}(h:¬q.mode=7):l.recover (i:Int) q rest c=(gj.z,l.qH i v rest):=by
 unfold Lib.recover;simp only;rw[if_neg h,eR hv,ik];rfl
theorem k4(hv:l.vs[i]?=some v){q:Ev}{rest:List Ev}{c:Int}(h:q.mode=7)(hg:(l.aO.run q.ab c).1.cj=true) :
  l.recover (i:Int) q rest c=(((l.qH i v rest).aK q.ab c).1,(((l.qH i v rest).aK q.ab c).2.fE (i:Int) (l.aO.run q.ab c).1.ar).fE (i:Int) [q.ab]):=by
 unfold Lib.recover;simp only;rw[if_pos h,eR hv,ik]
 show((_,if (l.aO.run q.ab c).1.cj=true then _ else _):gj×Lib)=_
 rw[if_pos hg];rfl
theorem iX(hv:l.vs[i]?=some v){q:Ev}{rest:List Ev}{c:Int}(h:q.mode=7)(hg:¬(l.aO.run q.ab c).1.cj=true) :
  l.recover (i:Int) q rest c=(((l.qH i v rest).aK q.ab c).1,((l.qH i v rest).aK q.ab c).2.fE (i:Int) (l.aO.run q.ab c).1.ar):=by
 unfold Lib.recover;simp only;rw[if_pos h,eR hv,ik]
 show((_,if (l.aO.run q.ab c).1.cj=true then _ else _):gj×Lib)=_
 rw[if_neg hg];rfl
theorem k5(hv:l.vs[i]?=some v){c:Int}(h:(evWithin v.evs).isSome=true):l.upcall (i:Int) c=l.recover (i:Int) (wE v.evs) (wR v.evs) c:=by
 unfold Lib.upcall;rw[eR hv]
 unfold wE wR
 cases e:evWithin v.evs with
 | none=>rw[e] at h;cases h
 | some x=>rfl
theorem m6(hv:l.vs[i]?=some v){c:Int}(h:(evWithin v.evs).isSome=false):l.upcall (i:Int) c=(gj.z,l.enter (i:Int) 2):=by
 unfold Lib.upcall;rw[eR hv]
 cases e:evWithin v.evs with
 | none=>rfl
 | some x=>rw[e] at h;cases h
theorem k6(hv:l.vs[i]?=some v)(h:v.evs=[]):l.handle (i:Int)=l.leave (i:Int) 3 (-1):=by unfold Lib.handle;rw[eR hv,h]
theorem m7(hv:l.vs[i]?=some v){e:Ev}{r:List Ev}(h:v.evs=e::r)(hr:dC e=true):l.handle (i:Int) = {l with rows:=dU l.rows (i:Int) [e.ab],vs:=l.vs.set i {v with evs:=r } }:=by
 unfold Lib.handle;rw[eR hv,h];simp only;rw[if_pos hr,ik];rfl
theorem k7(hv:l.vs[i]?=some v){e:Ev}{r:List Ev}(h:v.evs=e::r)(hr:¬dC e=true):l.handle (i:Int) = {l with vs:=l.vs.set i {v with evs:=r } }:=by
 unfold Lib.handle;rw[eR hv,h];simp only;rw[if_neg hr,ik]
theorem m8(h:(rPick l.rows (i:Int)).isSome=true):l.pick (i:Int)=({l with rows:=lH l.rows (i:Int) }:Lib).leave (i:Int) 5 (tX l.rows (i:Int)):=by
 unfold Lib.pick lH tX
 cases e:rPick l.rows (i:Int) with
 | none=>rw[e] at h;cases h
 | some x=>rfl
theorem pC(h:(rPick l.rows (i:Int)).isSome=false):l.pick (i:Int)=l.leave (i:Int) 8 (-1)∧lH l.rows (i:Int)=l.rows:=by
 unfold Lib.pick lH
 cases e:rPick l.rows (i:Int) with
 | none=>exact⟨rfl,rfl⟩
 | some x=>rw[e] at h;cases h
theorem k8(hv:l.vs[i]?=some v){c:Int}(h:l.aO.class v.ab=2):l.gQ (i:Int) c=(gj.z,{l with vs:=l.vs.set i {v with mode:=6 } }):=by
 unfold Lib.gQ;rw[eR hv];simp only;rw[if_pos h,ik]
theorem m9(hv:l.vs[i]?=some v){c:Int}(h:¬l.aO.class v.ab=2)(hs:(l.aO.run v.ab c).1.aR=true) :
  l.gQ (i:Int) c=((l.aK v.ab c).1,({(l.aK v.ab c).2 with vs:=l.vs.set i (aM.new [⟨2,v.ab,0⟩]) }:Lib).tell (aH (l.aO.run v.ab c).1.ar)):=by
 unfold Lib.gQ;rw[eR hv];simp only;rw[if_neg h]
 show((_,Lib.tell (if (l.aO.run v.ab c).1.aR=true then _ else _) _):gj×Lib)=_
 rw[if_pos hs,ik];rfl
theorem pD(hv:l.vs[i]?=some v){c:Int}(h:¬l.aO.class v.ab=2)(hs:¬(l.aO.run v.ab c).1.aR=true)(he:(l.aO.run v.ab c).1.ended=true) :
  l.gQ (i:Int) c=((l.aK v.ab c).1,({(l.aK v.ab c).2 with vs:=l.vs.set i {v with mode:=3,ab := -1 } }:Lib).tell (aH (l.aO.run v.ab c).1.ar)):=by
 have hv2:(l.aK v.ab c).2.v (i:Int)=v:=eR (l:=(l.aK v.ab c).2) hv
 unfold Lib.gQ;rw[eR hv];simp only;rw[if_neg h,hv2]
 show((_,Lib.tell (if (l.aO.run v.ab c).1.aR=true then _ else if (l.aO.run v.ab c).1.ended=true then _ else _) _):gj×Lib)=_
 rw[if_neg hs,if_pos he,ik];rfl
theorem na(hv:l.vs[i]?=some v){c:Int}(h:¬l.aO.class v.ab=2)(hs:¬(l.aO.run v.ab c).1.aR=true)(he:¬(l.aO.run v.ab c).1.ended=true) :
  l.gQ (i:Int) c=((l.aK v.ab c).1,(l.aK v.ab c).2.tell (aH (l.aO.run v.ab c).1.ar)):=by
 unfold Lib.gQ;rw[eR hv];simp only;rw[if_neg h]
 show((_,Lib.tell (if (l.aO.run v.ab c).1.aR=true then _ else if (l.aO.run v.ab c).1.ended=true then _ else _) _):gj×Lib)=_
 rw[if_neg hs,if_neg he];rfl
theorem k9(hv:l.vs[i]?=some v){c:Int}(h:¬(l.aO.run v.ab c).1.cj=true):l.inside (i:Int) c=((l.aK v.ab c).1,((l.aK v.ab c).2.fE (i:Int) (l.aO.run v.ab c).1.ar).leave (i:Int) 3 (-1)):=by
 unfold Lib.inside;rw[eR hv]
 show((_,if (l.aO.run v.ab c).1.cj=true then _ else _):gj×Lib)=_
 rw[if_neg h];rfl
theorem iY(hv:l.vs[i]?=some v){c:Int}(h:(l.aO.run v.ab c).1.cj=true)(hy:(l.aO.run v.ab c).1.yielded=true):l.inside (i:Int) c=((l.aK v.ab c).1,(((l.aK v.ab c).2.fE (i:Int) (l.aO.run v.ab c).1.ar).fE (i:Int) [v.ab]).leave (i:Int) 3 (-1)):=by
 unfold Lib.inside;rw[eR hv]
 show((_,if (l.aO.run v.ab c).1.cj=true then (if (l.aO.run v.ab c).1.yielded=true then _ else _) else _):gj×Lib)=_
 rw[if_pos h,if_pos hy];rfl
theorem nf(hv:l.vs[i]?=some v){c:Int}(h:(l.aO.run v.ab c).1.cj=true)(hy:¬(l.aO.run v.ab c).1.yielded=true):l.inside (i:Int) c=((l.aK v.ab c).1,((l.aK v.ab c).2.fE (i:Int) (l.aO.run v.ab c).1.ar).leave (i:Int) 5 v.ab):=by
 unfold Lib.inside;rw[eR hv]
 show((_,if (l.aO.run v.ab c).1.cj=true then (if (l.aO.run v.ab c).1.yielded=true then _ else _) else _):gj×Lib)=_
 rw[if_pos h,if_neg hy];rfl
theorem Aa{rows:List (List Int)}{p:Int}{ts:List Int}(h:rows.length≤64∧ ∀ r∈rows,r.length≤1000000)(ht:ts.length≤100000):(dU rows p ts).length≤64∧ ∀ r∈dU rows p ts,r.length≤800000000 :=
 ⟨by rw[fQ];exact h.1,fun r hr=>by have:=kX h.2 r hr;omega⟩
theorem yh{rows:List (List Int)}(h:rows.length≤64∧ ∀ r∈rows,r.length≤1000000):rows.length≤64∧ ∀ r∈rows,r.length≤800000000:=⟨h.1,fun r hr=>Nat.le_trans (h.2 r hr) (by decide)⟩
end
end Go.SLYthlllpngkljgfaaGreat
namespace Go.SLYthlllpngkljgfaaGreat
open Go Go.RowKit
section
variable{l:Lib}{i:Nat}{v:aM}{c:Int}
theorem pE{p:Int}(h:l.has p=false):l.step p c=(gj.z,11,l):=by unfold Lib.step;rw[if_neg (by rw[h];simp)]
theorem sd(hh:l.has (i:Int)=true)(hv:l.vs[i]?=some v)(hm:v.mode=1):l.step (i:Int) c=((l.upcall (i:Int) c).1,0,(l.upcall (i:Int) c).2):=by
 unfold Lib.step;rw[if_pos hh,eR hv];simp only;rw[if_pos hm]
theorem se(hh:l.has (i:Int)=true)(hv:l.vs[i]?=some v)(hm:v.mode=2):l.step (i:Int) c=(gj.z,0,l.handle (i:Int)):=by
 unfold Lib.step;rw[if_pos hh,eR hv];simp only;rw[if_neg (by omega),if_pos hm]
theorem sf(hh:l.has (i:Int)=true)(hv:l.vs[i]?=some v)(hm:v.mode=3):l.step (i:Int) c=(gj.z,0,l.enter (i:Int) 4):=by
 unfold Lib.step;rw[if_pos hh,eR hv];simp only;rw[if_neg (by omega),if_neg (by omega),if_pos hm]
theorem sh(hh:l.has (i:Int)=true)(hv:l.vs[i]?=some v)(hm:v.mode=4):l.step (i:Int) c=(gj.z,0,l.pick (i:Int)):=by
 unfold Lib.step;rw[if_pos hh,eR hv];simp only;rw[if_neg (by omega),if_neg (by omega),if_neg (by omega),if_pos hm]
theorem sj(hh:l.has (i:Int)=true)(hv:l.vs[i]?=some v)(hm:v.mode=5):l.step (i:Int) c=((l.gQ (i:Int) c).1,0,(l.gQ (i:Int) c).2):=by
 unfold Lib.step;rw[if_pos hh,eR hv];simp only;rw[if_neg (by omega),if_neg (by omega),if_neg (by omega),if_neg (by omega),if_pos hm]
theorem sk(hh:l.has (i:Int)=true)(hv:l.vs[i]?=some v)(hm:v.mode=6):l.step (i:Int) c=(gj.z,0,l.enter (i:Int) 7):=by
 unfold Lib.step;rw[if_pos hh,eR hv];simp only;rw[if_neg (by omega),if_neg (by omega),if_neg (by omega),if_neg (by omega),if_neg (by omega),if_pos hm]
theorem sm(hh:l.has (i:Int)=true)(hv:l.vs[i]?=some v)(hm:v.mode=7):l.step (i:Int) c=((l.inside (i:Int) c).1,0,(l.inside (i:Int) c).2):=by
 unfold Lib.step;rw[if_pos hh,eR hv];simp only;rw[if_neg (by omega),if_neg (by omega),if_neg (by omega),if_neg (by omega),if_neg (by omega),if_neg (by omega),if_pos hm]
theorem pF(hh:l.has (i:Int)=true)(hv:l.vs[i]?=some v)(hm:v.mode=8)(he:ib l.rows=true):l.step (i:Int) c=(gj.z,0,l):=by
 unfold Lib.step;rw[if_pos hh,eR hv];simp only;rw[if_neg (by omega),if_neg (by omega),if_neg (by omega),if_neg (by omega),if_neg (by omega),if_neg (by omega),if_neg (by omega),if_pos hm,if_pos he]
theorem pG(hh:l.has (i:Int)=true)(hv:l.vs[i]?=some v)(hm:v.mode=8)(he:ib l.rows=false):l.step (i:Int) c=(gj.z,0,{l with vs:=l.vs.set i {v with mode:=3 } }):=by
 unfold Lib.step;rw[if_pos hh,eR hv];simp only;rw[if_neg (by omega),if_neg (by omega),if_neg (by omega),if_neg (by omega),if_neg (by omega),if_neg (by omega),if_neg (by omega),if_pos hm,if_neg (by rw[he];simp),ik]
theorem so(hh:l.has (i:Int)=true)(hv:l.vs[i]?=some v)(hm:¬v.mode=1∧¬v.mode=2∧¬v.mode=3∧¬v.mode=4∧¬v.mode=5∧¬v.mode=6∧¬v.mode=7∧¬v.mode=8):l.step (i:Int) c=(gj.z,0,l):=by
 unfold Lib.step;rw[if_pos hh,eR hv];simp only;rw[if_neg (by omega),if_neg (by omega),if_neg (by omega),if_neg (by omega),if_neg (by omega),if_neg (by omega),if_neg (by omega),if_neg (by omega)]
theorem jw{p:Int}(h:l.has p=false):l.preempt p=(false,l):=by unfold Lib.preempt;rw[if_neg (by rw[h];simp)]
theorem iF(h:l.has (i:Int)=true)(hv:l.vs[i]?=some v):l.preempt (i:Int)=(true,{l with vs:=l.vs.set i (v.told []) }):=by unfold Lib.preempt;rw[if_pos h,Int.toNat_natCast,bA hv]
end
end Go.SLYthlllpngkljgfaaGreat
namespace Go.SLYthlllpngkljgfaaGreat
open Go Go.RowKit
structure gw where
 kind:Int
 space:Int
 ab:Int
 choice:Int
deriving DecidableEq
def fG(x:gw):List Value:=[.int .i64 x.kind,.int .i64 x.space,.int .i64 x.ab,.int .i64 x.choice]
theorem HL(l:List gw):∀ y∈l, ∀ c∈fG y,c.oneCell'=true:=kH (fun _=>rfl) l
def cH(b:Nat)(l:List Spc):aa:=nI (fun _ (xs:List (Nat×Spc))=>xs.map (·.2)=l) fun v xs=>[arr b 0 [v],sl bH 1 v xs,aD (fun x=>ca x.1 x.2) xs]
def oDo(l:List Spc)(a:gw):Int×List Spc :=
 if a.kind=3 then (0,l.map fun s=>s.tick.2) else
 match aB l a.space with
 | none=>(1,l)
 | some s =>
  if a.kind=1 then ((s.run a.ab a.choice).2.1,l.set a.space.toNat (s.run a.ab a.choice).2.2) else
  if a.kind=2 then ((s.done a.choice).2.1,l.set a.space.toNat (s.done a.choice).2.2) else (1,l)
def dB(k:Nat)(l:List Spc):Prop:=∀ s∈l,gE k s
theorem dB.act{k:Nat}{l:List Spc}(h:dB k l)(hk:k≤1990)(a:gw):dB (k+1) (oDo l a).2:=by
 have hm:∀ s∈l,gE (k+1) s:=fun s hs=>(h s hs).more (Nat.le_succ _)
 unfold oDo
 split
 ·intro s hs
  obtain⟨t,ht,rfl⟩:=List.mem_map.1 hs
  exact(h t ht).tick
 ·split
  ·exact hm
  ·rename_i s e
   have hs:=h s (List.mem_of_getElem? (bF e).2.2)
   split
   ·intro t ht
    rcases List.mem_or_eq_of_mem_set ht with ht | rfl
    ·exact hm t ht
    ·exact hs.run hk _ _
   ·split
    ·intro t ht
     rcases List.mem_or_eq_of_mem_set ht with ht | rfl
     ·exact hm t ht
     ·exact hs.done _
    ·exact hm
theorem Ds(l:List Spc)(a:gw):(oDo l a).2.length=l.length:=by
 unfold oDo
 split
 ·simp
 ·split
  ·rfl
  ·split
   ·simp
   ·split
    ·simp
    ·rfl
end Go.SLYthlllpngkljgfaaGreat
namespace Go.SLYthlllpngkljgfaaGreat
open Go Go.RowKit
theorem Ab{α β:Type}:∀ {xs:List (Nat×α)} {ys:List (Nat×β)},xs.map (·.1)=ys.map (·.1)→rows bH xs=rows bH ys
 | [],[],_=>rfl
 | [],y::ys,h=>by cases h
 | x::xs,[],h=>by cases h
 | x::xs,y::ys,h=>by
  simp only[List.map_cons,List.cons.injEq] at h
  rw[eh,eh,Ab h.2]
  show[ptr x.1]++_=[ptr y.1]++_
  rw[h.1]
theorem Dt{α β:Type}{xs:List (Nat×α)}{ys:List (Nat×β)}{v:Value}(h:xs.map (·.1)=ys.map (·.1)):∀ g,sl bH 1 v xs g→sl bH 1 v ys g:=fun g s=>by
 have hl:xs.length=ys.length:=by have:=congrArg List.length h;simpa using this
 rcases s with ⟨a,rfl,e⟩ | ⟨b,cap,sp,e1,e2, -,e4,e5⟩
 ·refine .inl ⟨a,?_,e⟩
  cases ys with
  | nil=>rfl
  | cons y ys=>simp at hl
 ·exact .inr ⟨b,cap,sp,by rw[← hl];exact e1,by rw[← hl];exact e2,fun _ _=>rfl,by rw[← hl];exact e4,by rw[← Ab h];exact e5⟩
theorem JW{α:Type}{f:α→aa}{xs:List α}{i:Nat}(hi:i<xs.length)(x:α):∀ g,seps [f x,aD f (xs.eraseIdx i)] g→aD f (xs.set i x) g:=fun g a=>by
 rw[gL f x hi];exact jE.1 a
def Ac(k:Nat)(xs:List (Nat×Spc)):List (Nat×Spc):=(xs.take k).map (fun x=>(x.1,x.2.tick.2))++xs.drop k
theorem HM{xs:List (Nat×Spc)}:Ac 0 xs=xs:=by unfold Ac;simp
theorem HN{xs:List (Nat×Spc)}{k:Nat}{x:Nat×Spc}(h:xs[k]?=some x):(Ac k xs)[k]?=some x∧(Ac k xs).set k (x.1,x.2.tick.2)=Ac (k+1) xs:=by
 have hk:=(List.getElem?_eq_some_iff.1 h).1
 have hl:((xs.take k).map (fun x:Nat×Spc=>(x.1,x.2.tick.2))).length=k:=by rw[List.length_map,List.length_take];omega
 unfold Ac
 rw[drop_cons h]
 refine⟨?_,?_⟩
 ·rw[List.getElem?_append_right (by omega),hl,Nat.sub_self];rfl
 ·rw[List.set_append_right _ _ (by omega),hl,Nat.sub_self,aX h,List.map_append,List.append_assoc];rfl
theorem JX{xs:List (Nat×Spc)}:Ac xs.length xs=xs.map (fun x=>(x.1,x.2.tick.2)):=by unfold Ac;simp
theorem EW{b:Nat}{v:Value}{xs:List (Nat×Spc)}{l:List Spc}(h:xs.map (·.2)=l):∀ g,seps [arr b 0 [v],sl bH 1 v xs,aD (fun x:Nat×Spc=>ca x.1 x.2) (xs.map (fun x=>(x.1,x.2.tick.2)))] g→cH b (l.map fun s=>s.tick.2) g:=fun g a=>by
 refine⟨v,xs.map (fun x=>(x.1,x.2.tick.2)),by subst h;rw[List.map_map,List.map_map];rfl,?_⟩
 simp only[seps,aJ] at a ⊢
 exact ba (fun _ b=>b) (ba (Dt (by rw[List.map_map];rfl)) (fun _ b=>b)) g a
theorem one_set{b:Nat}{v:Value}{xs:List (Nat×Spc)}{l:List Spc}{i:Nat}{x:Nat×Spc}(h:xs.map (·.2)=l)(hx:xs[i]?=some x)(s:Spc):∀ g,seps [arr b 0 [v],sl bH 1 v xs,ca x.1 s,aD (fun x:Nat×Spc=>ca x.1 x.2) (xs.eraseIdx i)] g→cH b (l.set i s) g:=fun g a=>by
 have hi:=(List.getElem?_eq_some_iff.1 hx).1
 refine⟨v,xs.set i (x.1,s),by show(xs.set i (x.1,s)).map (·.2)=_;rw[List.map_set,h],?_⟩
 simp only[seps,aJ] at a ⊢
 refine ba (fun _ b=>b) (ba (Dt ?_) (fun g b=>?_)) g a
 ·rw[List.map_set]
  have:(xs.map (·.1))[i]?=some x.1:=by rw[List.getElem?_map,hx];rfl
  exact(fA this).symm
 ·rw[gL _ _ hi];exact b
theorem mm{α β:Type}{f:α→β}{l:List α}{i:Int}:aB (l.map f) i=(aB l i).map f:=by
 unfold aB;split
 ·rfl
 ·rw[List.getElem?_map]
end Go.SLYthlllpngkljgfaaGreat
namespace Go.SLYthlllpngkljgfaaGreat
open Go Go.RowKit
def oReady(l:List Spc)(n:Int):List Int:=match aB l n with | none=>[] | some s=>s.ready
def eO(l:List Spc)(n:Int):List Rec:=match aB l n with | none=>[] | some s=>s.av
def yi(l:List Spc)(n:Int):List Int:=match aB l n with | none=>[] | some s=>s.mem
def Om(l:List Spc)(n k:Int):Option bE:=match aB l n with | none=>none | some s=>s.at k
theorem dB.get{k:Nat}{l:List Spc}(h:dB k l){n:Int}{s:Spc}(hs:aB l n=some s):gE k s:=h s (List.mem_of_getElem? (bF hs).2.2)
theorem dB.more{k k':Nat}{l:List Spc}(h:dB k l)(hk:k≤k'):dB k' l:=fun s hs=>(h s hs).more hk
theorem dB.av{k:Nat}{l:List Spc}(h:dB k l)(hk:k≤1990)(n:Int):(eO l n).length≤800000000:=by
 unfold eO;split
 ·exact Nat.zero_le _
 ·rename_i s e;exact(h.get e).rec hk
theorem dB.ready{k:Nat}{l:List Spc}(h:dB k l)(n:Int):(oReady l n).length≤1000000000:=by
 unfold oReady;split
 ·exact Nat.zero_le _
 ·rename_i s e;exact EG (h.get e).lt
theorem HO{k:Nat}{l:List Spc}(h:dB k l)(hk:k≤1990){a:gw}(ha:a.kind=1):(oDo l a).1=0↔a.ab∈oReady l a.space:=by
 unfold oDo oReady
 rw[if_neg (by omega)]
 cases e:aB l a.space with
 | none=>simp
 | some s =>
  simp only
  rw[if_pos ha,mem_ready]
  have hs:=h.get e
  exact(hs.1.run hs.2.2 (by omega) (hs.rec hk)).2.2.2.2.1
def JY(s:Spc)(k:Nat)(a:gw):Spc :=
 if a.kind=3 then s.tick.2 else if a.space≠(k:Int) then s else if a.kind=1 then (s.run a.ab a.choice).2.2 else if a.kind=2 then (s.done a.choice).2.2 else s
theorem EX{l:List Spc}{k:Nat}{s:Spc}(h:l[k]?=some s)(a:gw):(oDo l a).2[k]?=some (JY s k a):=by
 unfold oDo JY
 by_cases h3:a.kind=3
 ·rw[if_pos h3,if_pos h3];show(l.map _)[k]?=_;rw[List.getElem?_map,h];rfl
 rw[if_neg h3,if_neg h3]
 have hk:=(List.getElem?_eq_some_iff.1 h).1
 by_cases hs:a.space≠(k:Int)
 ·rw[if_pos hs]
  split
  ·exact h
  ·rename_i t e
   have ht:=(bF e).1
   have hne:a.space.toNat≠k:=fun e=>hs (by omega)
   have key:∀ x,(l.set a.space.toNat x)[k]?=some s:=fun x=>by rw[List.getElem?_set_ne hne];exact h
   split
   ·exact key _
   ·split
    ·exact key _
    ·exact h
 ·have hs:a.space=(k:Int):=Decidable.of_not_not hs
  rw[if_neg (fun e=>e hs),hs]
  have hg:aB l (k:Int)=some s:=by rw[bb];exact h
  rw[hg]
  simp only[Int.toNat_natCast]
  split
  ·show(l.set k _)[k]?=_;rw[List.getElem?_set_self hk]
  ·split
   ·show(l.set k _)[k]?=_;rw[List.getElem?_set_self hk]
   ·exact h
def dV(ps:List fM):Int:=if ps.length<1∨8<ps.length then 1 else checkAll ps
theorem BQ{ps:List fM}(h:¬(ps.length<1∨8<ps.length)):dV ps=checkAll ps:=if_neg h
theorem rr{ps:List fM}(h:ps.length<1∨8<ps.length):dV ps=1:=if_pos h
theorem uW{l:List fM}{n:Nat}{p:fM}(h:l[n]?=some p)(hc:de p=0):checkAll (l.drop n)=checkAll (l.drop (n+1)):=by rw[drop_cons h,checkAll,if_pos hc]
theorem nF{l:List fM}{n:Nat}{p:fM}(h:l[n]?=some p)(hc:¬de p=0):checkAll (l.drop n)=de p:=by rw[drop_cons h,checkAll,if_neg hc]
def NK(n:Int)(a:gw):List gw:=if a.kind=3 then [⟨3,0,0,0⟩] else if a.space=n then [{a with space:=0 }] else []
def M0(acts:List gw)(n:Int):List gw:=acts.flatMap (NK n)
def fg(l:List Spc)(acts:List gw):List Spc:=acts.foldl (fun l a=>(oDo l a).2) l
theorem wA{l:List Spc}{acts:List gw}{k:Nat}{a:gw}(h:acts[k]?=some a):fg l (acts.take (k+1))=(oDo (fg l (acts.take k)) a).2:=by
 unfold fg;rw[aX h,List.foldl_append];rfl
theorem sq{k:Nat}{l:List Spc}(h:dB k l):∀ (acts:List gw) (m:Nat),m≤acts.length→k+acts.length≤1990→dB (k+m) (fg l (acts.take m))
 | acts,0,_,_=>by rw[List.take_zero];exact h
 | acts,m+1,hm,hl=>by
  have ih:=sq h acts m (by omega) hl
  obtain⟨a,ha⟩:=ak (show m<acts.length by omega)
  rw[wA ha]
  exact ih.act (by omega) a
def aloneR(ps:List fM)(n:Int)(acts:List gw):List Rec :=
 match aB ps n with
 | none=>[]
 | some p=>if de p=0 then eO (fg [Spc.new p] (M0 acts n)) 0 else []
def NL(ps:List fM)(n:Int):Int :=
 match aB ps n with
 | none=>1
 | some p=>de p
theorem uc{b:Nat}{v:Value}{xs:List (Nat×Spc)}{l:List Spc}(h:xs.map (·.2)=l):∀ g,seps [arr b 0 [v],sl bH 1 v xs,aD (fun x:Nat×Spc=>ca x.1 x.2) xs] g→cH b l g:=fun _ a=>⟨v,xs,h,a⟩
theorem BR{xs:List (Nat×Spc)}{l:List Spc}(h:xs.map (·.2)=l){n:Int}{s:Spc}(hg:aB l n=some s):∃ q,aB xs n=some (q,s)∧xs[n.toNat]?=some (q,s):=by
 rw[← h,mm] at hg
 cases hx:aB xs n with
 | none=>rw[hx] at hg;cases hg
 | some x =>
  rw[hx] at hg
  have e:x.2=s:=Option.some.inj hg
  subst e
  exact⟨x.1,rfl,(bF hx).2.2⟩
theorem BS{xs:List (Nat×Spc)}{l:List Spc}(h:xs.map (·.2)=l){n:Int}(hg:aB l n=none):aB xs n=none:=by
 rw[← h,mm] at hg
 cases hx:aB xs n with
 | none=>rfl
 | some x=>rw[hx] at hg;cases hg
theorem pH{xs:List (Nat×Spc)}{i q:Nat}{s:Spc}(hx:xs[i]?=some (q,s)):∀ g,aD (fun x:Nat×Spc=>ca x.1 x.2) xs g→seps [ca q s,aD (fun x:Nat×Spc=>ca x.1 x.2) (xs.eraseIdx i)] g:=tD (f:=fun x:Nat×Spc=>ca x.1 x.2) hx
theorem pI{b:Nat}{v:Value}{xs:List (Nat×Spc)}{l:List Spc}{i q:Nat}{s:Spc}(h:xs.map (·.2)=l)(hx:xs[i]?=some (q,s)):∀ g,seps [arr b 0 [v],sl bH 1 v xs,ca q s,aD (fun x:Nat×Spc=>ca x.1 x.2) (xs.eraseIdx i)] g→cH b l g:=fun g a=>by
 have:=one_set h hx s g a
 have e:l[i]?=some s:=by rw[← h,List.getElem?_map,hx];rfl
 rwa [fA e] at this
theorem Du{b:Nat}{v:Value}{xs:List (Nat×Spc)}{l:List Spc}{i q:Nat}{s:Spc}(h:xs.map (·.2)=l)(hx:xs[i]?=some (q,s))(t:Spc):∀ g,seps [arr b 0 [v],sl bH 1 v xs,ca q t,aD (fun x:Nat×Spc=>ca x.1 x.2) (xs.eraseIdx i)] g→cH b (l.set i t) g:=one_set h hx t
theorem JZ{xs:List (Nat×Spc)}{k q:Nat}{s:Spc}(hx:xs[k]?=some (q,s)):∀ g,aD (fun x:Nat×Spc=>ca x.1 x.2) (Ac k xs) g→seps [ca q s,aD (fun x:Nat×Spc=>ca x.1 x.2) ((Ac k xs).eraseIdx k)] g:=pH (HN hx).1
theorem LX{xs:List (Nat×Spc)}{k q:Nat}{s:Spc}(hx:xs[k]?=some (q,s)):∀ g,seps [ca q s.tick.2,aD (fun x:Nat×Spc=>ca x.1 x.2) ((Ac k xs).eraseIdx k)] g→aD (fun x:Nat×Spc=>ca x.1 x.2) (Ac (k+1) xs) g:=by
 obtain⟨h1,h2⟩:=HN hx
 rw[← h2]
 exact JW (f:=fun x:Nat×Spc=>ca x.1 x.2) (List.getElem?_eq_some_iff.1 h1).1 (q,s.tick.2)
theorem HP{b:Nat}{v:Value}{xs:List (Nat×Spc)}{l:List Spc}(h:xs.map (·.2)=l){a:gw}(ha:a.kind=3):∀ g,seps [arr b 0 [v],sl bH 1 v xs,aD (fun x:Nat×Spc=>ca x.1 x.2) (Ac xs.length xs)] g→cH b (oDo l a).2 g:=by
 have e:(oDo l a).2=l.map fun s=>s.tick.2:=by unfold oDo;rw[if_pos ha]
 rw[e,JX]
 exact EW h
theorem HQ{l:List Spc}{a:gw}(ha:a.kind=3):(oDo l a).1=0:=by unfold oDo;rw[if_pos ha]
theorem HR{l:List Spc}{a:gw}(ha:¬a.kind=3)(hg:aB l a.space=none):oDo l a=(1,l):=by unfold oDo;rw[if_neg ha,hg]
theorem Dv{l:List Spc}{a:gw}{s:Spc}(ha:a.kind=1)(hg:aB l a.space=some s):oDo l a=((s.run a.ab a.choice).2.1,l.set a.space.toNat (s.run a.ab a.choice).2.2):=by unfold oDo;rw[if_neg (by omega),hg];simp only;rw[if_pos ha]
theorem Ad{l:List Spc}{a:gw}{s:Spc}(ha:a.kind=2)(hg:aB l a.space=some s):oDo l a=((s.done a.choice).2.1,l.set a.space.toNat (s.done a.choice).2.2):=by unfold oDo;rw[if_neg (by omega),hg];simp only;rw[if_neg (by omega),if_pos ha]
theorem HS{l:List Spc}{a:gw}{s:Spc}(h3:¬a.kind=3)(h1:¬a.kind=1)(h2:¬a.kind=2)(hg:aB l a.space=some s):oDo l a=(1,l):=by unfold oDo;rw[if_neg h3,hg];simp only;rw[if_neg h1,if_neg h2]
end Go.SLYthlllpngkljgfaaGreat
namespace Go.SLYthlllpngkljgfaaGreat
open Go Go.RowKit
theorem jY:∀ {l:List fM},checkAll l=0→ ∀ p∈l,de p=0
 | [],_,p,hp=>by cases hp
 | q::l,h,p,hp=>by
  unfold checkAll at h
  split at h
  ·rename_i hq
   rcases List.mem_cons.1 hp with rfl | hp
   ·exact hq
   ·exact jY h p hp
  ·rename_i hq;exact absurd h hq
theorem pJ{ps:List fM}(h:dV ps=0):1≤ps.length∧ps.length≤8∧ ∀ p∈ps,de p=0:=by
 unfold dV at h
 split at h
 ·cases h
 ·exact⟨by omega,by omega,jY h⟩
theorem dB.new{ps:List fM}(h:dV ps=0)(hw:∀ p∈ps, ∀ f∈p.funcs, ∀ i∈f,fL i.n):dB 1 (ps.map Spc.new):=fun s hs=>by
 obtain⟨p,hp,rfl⟩:=List.mem_map.1 hs
 exact gE.new ⟨(pJ h).2.2 p hp,hw p hp⟩
theorem dB.aO{k:Nat}{l:List Spc}(h:dB k l)(hk:k≤1990):∀ s∈l,fj s:=fun s hs=>(h s hs).aO hk
theorem Ae{l:List Spc}{k:Nat}{s:Spc}(h:l[k]?=some s):eO l (k:Int)=s.av:=by unfold eO;rw[bb,h]
/-! the laws' own fact -/
def NM:List Ins:=[⟨32,1,0,0,0⟩]
def On:fM:=⟨[NM],0,0,0,[],[],0,0⟩
def M1(x y:Nat):aN:=⟨wb y 1,[(wb x 1,NM)],0,0,0,.slice none 0 0,[],.slice none 0 0,[],0,0⟩
def OG(x y z:Nat):aa:=seps [arr z 0 (rows ed [M1 x y,M1 x y]),arr y 0 [wb x 1],arr x 0 (rows dH NM)]
def NN:List Spc:=[On,On].map Spc.new
def NO:List Spc:=(oDo NN ⟨1,1,0,0⟩).2
def NP:List Spc:=(oDo NO ⟨1,2,0,0⟩).2
def OH:List Spc:=(oDo NP ⟨3,9,0,0⟩).2
def O0:List Rec:=[⟨65537,32,0,65537,0,true⟩]
end Go.SLYthlllpngkljgfaaGreat
namespace Go.SLYthlllpngkljgfaaGreat
open Go Go.RowKit
theorem qJ{l:Lib}(hw:∀ t c,(l.aO.run t c).1.ar.length≤17)(p c:Int):aC 40 40 l (l.step p c).2.2:=by
 unfold Lib.step
 split
 ·rename_i hh
  obtain⟨i,v,rfl,hv, -⟩:=ic hh
  simp only
  split
  ·unfold Lib.upcall
   split
   ·rename_i x rest e
    rw[eR hv] at e
    have hl:=tP e
    exact(aC.recover hv (by omega) c (hw x.ab c)).le (by omega) (by omega)
   ·exact(aC.enter hv 2).le (by omega) (by omega)
  ·split
   ·exact(aC.handle hv).le (by omega) (by omega)
   ·split
    ·exact(aC.enter hv 4).le (by omega) (by omega)
    ·split
     ·exact(aC.pick hv).le (by omega) (by omega)
     ·split
      ·exact(aC.gQ hv c (hw _ c)).le (by omega) (by omega)
      ·split
       ·exact(aC.enter hv 7).le (by omega) (by omega)
       ·split
        ·exact(aC.inside hv c (hw _ c)).le (by omega) (by omega)
        ·split
         ·split
          ·exact(aC.refl _).le (by omega) (by omega)
          ·exact(aC.iT (x:={l.v (i:Int) with mode:=3 }) (a:=0) hv (by rw[eR hv];exact Nat.le_refl _)).le (by omega) (by omega)
         ·exact(aC.refl _).le (by omega) (by omega)
 ·exact(aC.refl _).le (by omega) (by omega)
theorem oc(l:Lib)(p:Int):aC 2 0 l (l.dj p).2:=by
 have h:=gv l p
 exact⟨h.len,congrArg _ h.rows,zU l p,fun m hm=>by rw[h.rows];exact hm⟩
theorem lb(l:Lib)(p:Int):aC 1 0 l (l.preempt p).2:=by
 cases h:l.has p with
 | false=>rw[jw h];exact(aC.refl _).le (by omega) (by omega)
 | true =>
  obtain⟨i,v,rfl,hv, -⟩:=ic h
  rw[iF h hv, ← ik]
  exact aC.iT hv (by have:=zT v [];simpa using this)
theorem mn(l:Lib)(p:Int):(l.preempt p).2.aO=l.aO:=by unfold Lib.preempt;split <;> rfl
theorem ff.more{k:Nat}{l:Lib}(h:ff k l):ff (k+1) l:=h.of ((aC.refl _).le (by omega) (by omega)) (h.sp.more (by omega))
theorem ff.dj{k:Nat}{l:Lib}(h:ff k l)(p:Int):ff (k+1) (l.dj p).2:=h.of ((oc l p).le (by omega) (by omega)) (by rw[(gv l p).aO];exact h.sp.more (by omega))
theorem ff.preempt{k:Nat}{l:Lib}(h:ff k l)(p:Int):ff (k+1) (l.preempt p).2:=h.of ((lb l p).le (by omega) (by omega)) (by rw[mn];exact h.sp.more (by omega))
theorem ff.new{s:Spc}(h:gE 1 s)(p:Int):ff 0 (Lib.new s p):=by
 have hc:0≤aQ p 64∧aQ p 64≤64:=by unfold aQ;omega
 have h2:=gi s.aF 0
 rw[h.lt] at h2
 refine⟨h,?_,?_,?_,?_⟩
 ·show(List.replicate _ _).length≤_;rw[List.length_replicate];omega
 ·show(List.replicate _ _).length≤_;rw[List.length_replicate];omega
 ·show(aH s.ready).length+((List.replicate (aQ p 64).toNat aM.z).map (fun v=>v.evs.length)).sum≤_
  have h3:(aH s.ready).length=(readyFrom s.aF 0).length:=by unfold aH;rw[List.length_map];rfl
  rw[h3,List.map_replicate,List.sum_replicate_nat]
  show _+(aQ p 64).toNat * 0≤_
  omega
 ·intro r hr
  have:r=[]:=List.eq_of_mem_replicate hr
  subst this;exact Nat.zero_le _
theorem ff.AW{k:Nat}{l:Lib}(h:ff k l)(hk:k≤180):∀ t c,(l.aO.run t c).1.ar.length≤17:=fun t c=>tQ h.sp (by omega) t c
/-! the law's own fact -/
def Nk:List Ins:=[⟨1,1,0,0,5⟩]
def NQ:fM:=⟨[Nk],0,0,0,[],[],0,0⟩
def M3(x y:Nat):aN:=⟨wb y 1,[(wb x 1,Nk)],0,0,0,.slice none 0 0,[],.slice none 0 0,[],0,0⟩
def O1(x y:Nat):aa:=seps [arr y 0 [wb x 1],arr x 0 (rows dH Nk)]
def NR:Lib:=Lib.new (Spc.new NQ) 2
def NS:Lib:=(NR.dj 1).2
def l16:Nat→Lib
 | 0=>(NS.dj 1).2
 | k+1=>((l16 k).step 1 0).2.2
def OI:Nat→Nat
 | 0=>0
 | k+1=>OI k+if ((l16 k).step 1 0).1.aK=true then 1 else 0
end Go.SLYthlllpngkljgfaaGreat
namespace Go.SLYthlllpngkljgfaaGreat
open Go Go.RowKit
def Mo(l l':Lib):Prop:=∀ q:Nat,cS l'.vs (q:Int)≠0↔cS l.vs (q:Int)≠0
theorem Mo.refl(l:Lib):Mo l l:=fun _=>Iff.rfl
theorem Mo.trans{a b c:Lib}(h:Mo a b)(g:Mo b c):Mo a c:=fun q=>(g q).trans (h q)
theorem Mo.set{l l':Lib}{i:Nat}{v y:aM}(hv:l.vs[i]?=some v)(h0:v.mode≠0)(hy:y.mode≠0)(e:l'.vs=l.vs.set i y):Mo l l':=fun q=>by
 have hi:=(List.getElem?_eq_some_iff.1 hv).1
 rw[e,pq hi]
 by_cases h:q=i
 ·subst h;rw[if_pos rfl, ← kL hv];exact⟨fun _=>h0,fun _=>hy⟩
 ·rw[if_neg h]
theorem Mo.enter{l:Lib}{i:Nat}{v:aM}{m:Int}(hv:l.vs[i]?=some v)(h0:v.mode≠0)(hm:m≠0):Mo l (l.enter (i:Int) m):=by
 cases h:l.locked with
 | true=>rw[pB h];exact Mo.refl _
 | false=>exact Mo.set (y:={v with mode:=m }) hv h0 hm (by rw[m5 hv h])
theorem Mo.leave{l:Lib}{i:Nat}{v:aM}{m t:Int}(hv:l.vs[i]?=some v)(h0:v.mode≠0)(hm:m≠0):Mo l (l.leave (i:Int) m t):=Mo.set (y:={v with mode:=m,ab:=t }) hv h0 hm (by rw[iE hv])
theorem Mo.tell(l:Lib)(ys:List Ev):Mo l (l.tell ys):=fun q=>not_congr ((dA l ys).2 q)
theorem wB(l:Lib)(p c:Int):Mo l (l.step p c).2.2:=by
 cases hh:l.has p with
 | false=>rw[pE hh];exact Mo.refl _
 | true =>
  obtain⟨i,v,rfl,hv,h0⟩:=ic hh
  by_cases h1:v.mode=1
  ·rw[sd hh hv h1]
   show Mo l (l.upcall (i:Int) c).2
   cases hw:(evWithin v.evs).isSome with
   | false=>rw[m6 hv hw];exact Mo.enter hv h0 (by decide)
   | true =>
    rw[k5 hv hw]
    have key:Mo l (l.qH i v (wR v.evs)):=Mo.set (y:={v with evs:=wR v.evs }) hv h0 h0 rfl
    by_cases hm:(wE v.evs).mode=7
    ·by_cases hg:(l.aO.run (wE v.evs).ab c).1.cj=true
     ·rw[k4 hv hm hg];exact key
     ·rw[iX hv hm hg];exact key
    ·rw[k0 hv hm];exact key
  by_cases h2:v.mode=2
  ·rw[se hh hv h2]
   cases he:v.evs with
   | nil=>rw[k6 hv he];exact Mo.leave hv h0 (by decide)
   | cons e r =>
    by_cases hr:dC e=true
    ·rw[m7 hv he hr];exact Mo.set (y:={v with evs:=r }) hv h0 h0 rfl
    ·rw[k7 hv he hr];exact Mo.set (y:={v with evs:=r }) hv h0 h0 rfl
  by_cases h3:v.mode=3
  ·rw[sf hh hv h3];exact Mo.enter hv h0 (by decide)
  by_cases h4:v.mode=4
  ·rw[sh hh hv h4]
   cases hp:(rPick l.rows (i:Int)).isSome with
   | false=>rw[(pC hp).1];exact Mo.leave hv h0 (by decide)
   | true=>rw[m8 hp];exact Mo.leave (l:={l with rows:=lH l.rows (i:Int) }) hv h0 (by decide)
  by_cases h5:v.mode=5
  ·rw[sj hh hv h5]
   show Mo l (l.gQ (i:Int) c).2
   by_cases hc:l.aO.class v.ab=2
   ·rw[k8 hv hc];exact Mo.set (y:={v with mode:=6 }) hv h0 (by show(6:Int)≠0;decide) rfl
   ·by_cases hs:(l.aO.run v.ab c).1.aR=true
    ·rw[m9 hv hc hs]
     exact(Mo.set (y:=aM.new [⟨2,v.ab,0⟩]) hv h0 (by show(1:Int)≠0;decide) rfl).trans (Mo.tell _ _)
    ·by_cases he:(l.aO.run v.ab c).1.ended=true
     ·rw[pD hv hc hs he]
      exact(Mo.set (y:={v with mode:=3,ab := -1 }) hv h0 (by show(3:Int)≠0;decide) rfl).trans (Mo.tell _ _)
     ·rw[na hv hc hs he]
      exact(show Mo l (l.aK v.ab c).2 from fun _=>Iff.rfl).trans (Mo.tell _ _)
  by_cases h6:v.mode=6
  ·rw[sk hh hv h6];exact Mo.enter hv h0 (by decide)
  by_cases h7:v.mode=7
  ·rw[sm hh hv h7]
   show Mo l (l.inside (i:Int) c).2
   by_cases hg:(l.aO.run v.ab c).1.cj=true
   ·by_cases hy:(l.aO.run v.ab c).1.yielded=true
    ·rw[iY hv hg hy]
     exact Mo.leave (l:=((l.aK v.ab c).2.fE (i:Int) (l.aO.run v.ab c).1.ar).fE (i:Int) [v.ab]) hv h0 (by decide)
    ·rw[nf hv hg hy]
     exact Mo.leave (l:=(l.aK v.ab c).2.fE (i:Int) (l.aO.run v.ab c).1.ar) hv h0 (by decide)
   ·rw[k9 hv hg]
    exact Mo.leave (l:=(l.aK v.ab c).2.fE (i:Int) (l.aO.run v.ab c).1.ar) hv h0 (by decide)
  by_cases h8:v.mode=8
  ·cases he:ib l.rows with
   | true=>rw[pF hh hv h8 he];exact Mo.refl _
   | false=>rw[pG hh hv h8 he];exact Mo.set (y:={v with mode:=3 }) hv h0 (by show(3:Int)≠0;decide) rfl
  ·rw[so hh hv ⟨h1,h2,h3,h4,h5,h6,h7,h8⟩];exact Mo.refl _
theorem mq(l:Lib)(p:Int):aC 2 0 l (l.cF p).2:=by
 have h:=eN l p
 exact⟨h.len,congrArg _ h.rows,wi l p,fun m hm=>by rw[h.rows];exact hm⟩
theorem ff.cF{k:Nat}{l:Lib}(h:ff k l)(p:Int):ff (k+1) (l.cF p).2:=h.of ((mq l p).le (by omega) (by omega)) (by rw[(eN l p).aO];exact h.sp.more (by omega))
def Krn.step(k:Krn)(p c:Int):(Int×gj×Int)×Krn :=
 match aB k.owner p with
 | none=>((0,gj.z,1),k)
 | some o=>if o = -1 then ((0,gj.z,11),k) else
  match aB k.libs o with
  | none=>((0,gj.z,11),k)
  | some l=>((o,(l.step p c).1,(l.step p c).2.1),⟨k.owner,k.libs.set o.toNat (l.step p c).2.2⟩)
theorem gF{k:Krn}{p c:Int}(h:¬du k p=0):k.step p c=((0,gj.z,du k p),k):=by
 unfold du at h ⊢
 unfold Krn.step
 cases e:aB k.owner p with
 | none=>rfl
 | some o =>
  rw[e] at h
  simp only at h ⊢
  by_cases ho:o = -1
  ·rw[if_pos ho,if_pos ho]
  ·rw[if_neg ho] at h;exact absurd rfl h
theorem iG{k:Krn}{i n:Nat}{l:Lib}{c:Int}(ho:k.owner[i]?=some (n:Int))(hl:k.libs[n]?=some l):k.step (i:Int) c=(((n:Int),(l.step (i:Int) c).1,(l.step (i:Int) c).2.1),⟨k.owner,k.libs.set n (l.step (i:Int) c).2.2⟩):=by
 unfold Krn.step
 rw[bb,ho]
 simp only
 rw[if_neg (by omega),bb,hl]
 simp only[Int.toNat_natCast]
structure fY(n:Nat)(k:Krn):Prop where
 ag:gR k
 own:∀ v∈k.owner,v = -1∨(0≤v∧v<(k.libs.length:Int))
 ll:k.libs.length≤8
 gY:∀ l∈k.libs,ff n l
theorem fY.ok{n:Nat}{k:Krn}(h:fY n k):qZ (40 * (n+1)) k:=⟨h.own,h.ag.ol,h.ll,fun l hl=>⟨(h.gY l hl).ev,(h.gY l hl).vl,(h.gY l hl).sp.lt⟩⟩
structure nk(m:Nat)(k:Krn):Prop where
 ok:qZ m k
 gY:∀ l∈k.libs,HK l∧ ∀ t c,(l.aO.run t c).1.ar.length≤17
theorem fY.rn{n:Nat}{k:Krn}(h:fY n k)(hn:n≤180):nk (40 * (n+1)) k:=⟨h.ok,fun l hl=>⟨(h.gY l hl).sz hn,fun t=>(h.gY l hl).AW hn t⟩⟩
theorem fY.more{n:Nat}{k:Krn}(h:fY n k):fY (n+1) k:=⟨h.ag,h.own,h.ll,fun l hl=>(h.gY l hl).more⟩
theorem fY.put{n:Nat}{k:Krn}(h:fY n k){i j:Nat}{o:Int}{l':Lib}(ho:o = -1∨(0≤o∧o<(k.libs.length:Int)))(ha:gR ⟨k.owner.set i o,k.libs.set j l'⟩)(hl:ff (n+1) l'):fY (n+1) ⟨k.owner.set i o,k.libs.set j l'⟩:=by
 refine⟨ha,fun v hv=>?_,by show(k.libs.set j l').length≤8;rw[List.length_set];exact h.ll,fun x hx=>?_⟩
 ·show v = -1∨(0≤v∧v<((k.libs.set j l').length:Int))
  rw[List.length_set]
  rcases List.mem_or_eq_of_mem_set hv with e | e
  ·exact h.own v e
  ·subst e;exact ho
 ·rcases List.mem_or_eq_of_mem_set hx with e | e
  ·exact(h.gY x e).more
  ·subst e;exact hl
theorem fY.eP{n:Nat}{k:Krn}(h:fY n k){i j:Nat}{l:Lib}(ho:k.owner[i]?=some (-1))(hl:k.libs[j]?=some l):fY (n+1) (k.eP (i:Int) (j:Int)).2:=by
 rw[l3 ho hl]
 have:=(List.getElem?_eq_some_iff.1 hl).1
 exact h.put (.inr ⟨by omega,by omega⟩) (h.ag.eP ho hl) ((h.gY l (List.mem_of_getElem? hl)).dj _)
theorem fY.take{n:Nat}{k:Krn}(h:fY n k)(p:Int):fY (n+1) (k.take p).2:=by
 by_cases e:du k p=0
 ·obtain⟨i,j,l,rfl,ho,hl,e⟩:=dy h.ok e
  rw[e]
  exact h.put (.inl rfl) (h.ag.take ho hl) ((h.gY l (List.mem_of_getElem? hl)).cF _)
 ·rw[js e];exact h.more
theorem gR.step{k:Krn}(h:gR k){j:Nat}{l l':Lib}(hl:k.libs[j]?=some l)(hm:Mo l l')(he:l'.vs.length=l.vs.length):gR ⟨k.owner,k.libs.set j l'⟩:=by
 refine⟨fun x hx=>?_,h.ol,fun q x hx p=>?_⟩
 ·rcases List.mem_or_eq_of_mem_set hx with e | e
  ·exact h.len x e
  ·subst e;rw[he];exact h.len l (List.mem_of_getElem? hl)
 ·have hx':(k.libs.set j l')[q]?=some x:=hx
  by_cases e:j=q
  ·subst e
   rw[List.getElem?_set_self (List.getElem?_eq_some_iff.1 hl).1] at hx'
   obtain rfl:=Option.some.inj hx'
   rw[hm p];exact h.iff j l hl p
  ·rw[List.getElem?_set_ne e] at hx'
   exact h.iff q x hx' p
theorem fY.step{n:Nat}{k:Krn}(h:fY n k)(hn:n≤180)(p c:Int):fY (n+1) (k.step p c).2:=by
 by_cases e:du k p=0
 ·obtain⟨i,j,l,rfl,ho,hl, -⟩:=dy h.ok e
  rw[iG ho hl]
  have hli:=h.gY l (List.mem_of_getElem? hl)
  have ha:=h.ag.step hl (wB l (i:Int) c) (qJ (hli.AW hn) (i:Int) c).vs
  refine⟨ha,fun v hv=>?_,by show(k.libs.set j _).length≤8;rw[List.length_set];exact h.ll,fun x hx=>?_⟩
  ·show v = -1∨(0≤v∧v<((k.libs.set j _).length:Int));rw[List.length_set];exact h.own v hv
  ·rcases List.mem_or_eq_of_mem_set hx with e | e
   ·exact(h.gY x e).more
   ·subst e;exact hli.step hn _ _
 ·rw[gF e];exact h.more
end Go.SLYthlllpngkljgfaaGreat
namespace Go.SLYthlllpngkljgfaaGreat
open Go Go.RowKit
section
variable{P:Program}{W:World}{N:Nat}{L:List (Nat×Option Value)}{H:List aa}
theorem bx.HT{fn:Func}{R:Ending→World→Prop}{E:TypeId}{t t2 t3 b o:Nat}{cs:List Value}{v2 v3:Value}(hr:fn.results = #[.tmp t2,.cell t E,.tmp t3])(ht:look L t=some (.pointer (some ⟨b,o,none⟩)))(hg:∀ w,(isAgg E).run P w = .ok true w)(hz:∀ w,(sizeOf E).run P w = .ok cs.length w)(hc:Cells W H b o cs)(h2:look L t2=some v2)(h3:look L t3=some v3)
  (h:∀ w,Sat W w (seps H)→R (.returned (.tuple #[v2,.agg cs.toArray,v3])) w):bx W N (bodyPost P fn R) .ret L H :=
 bx.DX (fun a w ha hs=>by
  have hl:=gx (P:=P) (w:=w) hg hz fun i v hv=>hc i v hv w hs
  simp[results,hr,ha.get _ _ ht,asAddr,hl,ha.get _ _ h2,ha.get _ _ h3]) h
end
theorem HU(k:Krn):k.free.length=k.owner.count (-1):=by unfold Krn.free;rw[pn,iV]
theorem yj{n:Int}:∀ {o:List Int} {k:Nat} {p:Int},p∈posFrom n o k→ ∃ i:Nat,p=((k+i:Nat):Int)∧o[i]?=some n
 | [],_,_,h=>by cases h
 | x::o,k,p,h=>by
  unfold posFrom at h
  split at h
  ·rename_i e
   rcases List.mem_cons.1 h with rfl | h
   ·exact⟨0,rfl,by rw[e];rfl⟩
   ·obtain⟨i,h1,h2⟩:=yj h
    exact⟨i+1,by rw[h1];omega,by simpa using h2⟩
  ·obtain⟨i,h1,h2⟩:=yj h
   exact⟨i+1,by rw[h1];omega,by simpa using h2⟩
end Go.SLYthlllpngkljgfaaGreat
namespace Go.SLYthlllpngkljgfaaGreat
open Go Go.RowKit
theorem fY.new{procs:Int}{l:List fM}(h:ec procs l=0)(hw:∀ p∈l, ∀ f∈p.funcs, ∀ i∈f,fL i.n):fY 0 (Krn.new procs l):=by
 have hi:=(iW h).1
 have hc:∀ p∈l,de p=0:=by
  unfold ec at h
  split at h
  ·cases h
  ·exact jY h
 refine⟨hi.ag,hi.ok.own,hi.ok.ll,fun x hx=>?_⟩
 obtain⟨p,hp,rfl⟩:=List.mem_map.1 hx
 exact ff.new (gE.new ⟨hc p hp,hw p hp⟩) procs
/-! law 17's own fact -/
def NT:Krn:=Krn.new 3 [NQ,NQ]
def NU:Krn:=(NT.eP 1 1).2
def OJ:Krn:=(NU.take 1).2
def O2(x y z:Nat):aa:=seps [arr z 0 (rows ed [M3 x y,M3 x y]),arr y 0 [wb x 1],arr x 0 (rows dH Nk)]
end Go.SLYthlllpngkljgfaaGreat
namespace Go.SLYthlllpngkljgfaaGreat
open Go Go.RowKit
theorem Af{o:List Int}(h:o.length≤64):∀ n,cntTo o n≤n * 64
 | 0=>by unfold cntTo;omega
 | n+1=>by
  show cntTo o n+o.count (n:Int)≤_
  have h1:=Af h n
  have h2:o.count (n:Int)≤64:=Nat.le_trans List.count_le_length h
  omega
theorem fY.HV{n i:Nat}{k:Krn}(h:fY n k)(hi:i≤k.libs.length):k.free.length+cntTo k.owner i≤1000:=by
 have h1:=Af h.ag.ol i
 have h2:k.free.length≤64:=by rw[HU];exact Nat.le_trans List.count_le_length h.ag.ol
 have:=h.ll
 omega
end Go.SLYthlllpngkljgfaaGreat
namespace Go.SLYthlllpngkljgfaaGreat
open Go Go.RowKit
theorem EY(k:Krn)(p c:Int):(k.step p c).2.owner=k.owner:=by
 unfold Krn.step
 split
 ·rfl
 ·split
  ·rfl
  ·split <;> rfl
theorem wC(k:Krn)(p c:Int):(k.step p c).2.libs.length=k.libs.length:=by
 unfold Krn.step
 split
 ·rfl
 ·split
  ·rfl
  ·split
   ·rfl
   ·exact List.length_set ..
def HW(n p:Nat)(s:Int):List Int:=(List.replicate n (-1)).set p s
theorem J0{n p:Nat}{s:Int}(h:p<n):(HW n p s)[p]?=some s:=by
 unfold HW;rw[List.getElem?_set_self (by rw[List.length_replicate];exact h)]
theorem EZ{n p:Nat}{s:Int}(h:p<n):(HW n p s).set p (-1)=List.replicate n (-1):=by
 unfold HW
 rw[List.set_set]
 refine List.ext_getElem? fun j=>?_
 by_cases e:p=j
 ·subst e;rw[List.getElem?_set_self (by rw[List.length_replicate];exact h),List.getElem?_replicate,if_pos h]
 ·rw[List.getElem?_set_ne e]
structure HX(n p s m j:Nat)(k:Krn):Prop where
 inv:fY j k
 own:k.owner=HW n p (s:Int)
 len:k.libs.length=m
theorem HX.step{n p s m j:Nat}{k:Krn}(h:HX n p s m j k)(hj:j≤180)(q c:Int):HX n p s m (j+1) (k.step q c).2:=⟨h.inv.step hj q c,(EY k q c).trans h.own,(wC k q c).trans h.len⟩
theorem HX.take{n p s m j:Nat}{k:Krn}(h:HX n p s m j k)(hp:p<n)(_hs:s<m):∃ k2:Krn,k.take (p:Int)=(0,k2)∧fY (j+1) k2∧k2.owner=List.replicate n (-1)∧k2.libs.length=m∧k2.demand=k.demand:=by
 have hop:k.owner[p]?=some (s:Int):=by rw[h.own];exact J0 hp
 obtain⟨i,q,l,e,ho,hl,ht⟩:=dy h.inv.ok (jr (bl:=[]) hop).1
 obtain rfl:p=i:=by omega
 have hi:=h.inv.take (p:Int)
 rw[ht] at hi
 refine⟨_,ht,hi,?_,?_,?_⟩
 ·show k.owner.set p (-1)=_
  rw[h.own];exact EZ hp
 ·show(k.libs.set q _).length=m
  rw[List.length_set];exact h.len
 ·exact tU hl (congrArg (fun z:Spc=>(z.ready.length:Int)) (eN l (p:Int)).aO)
end Go.SLYthlllpngkljgfaaGreat
namespace Go.SLYthlllpngkljgfaaGreat
open Go Go.RowKit
def mr(v:aM):Nat:=(if v.holds=true then 1 else 0)+v.evs.countP iU
def sumV:List aM→Nat
 | []=>0
 | v::l=>mr v+sumV l
def I6(l:Lib):Nat:=sumV l.vs+l.waiting.countP iU
def J1(b:Bool):Nat:=if b=true then 1 else 0
structure Lk(l:Lib):Prop where
 n:I6 l=J1 l.locked
 e:∀ v∈l.vs,v.mode=1∨v.mode=2∨v.evs=[]
theorem mu{vs:List aM}{i:Nat}{v:aM}(h:vs[i]?=some v)(x:aM):sumV (vs.set i x)+mr v=sumV vs+mr x:=by
 induction vs generalizing i with
 | nil=>simp at h
 | cons y vs ih =>
  cases i with
  | zero =>
   obtain rfl:y=v:=by simpa using h
   simp only[List.set_cons_zero,sumV];omega
  | succ i =>
   have:=ih (i:=i) (by simpa using h)
   simp only[List.set_cons_succ,sumV];omega
theorem J2(l:List Ev):(cR l).countP iU=l.countP iU:=by
 induction l with
 | nil=>rfl
 | cons e l ih =>
  unfold cR at ih ⊢
  by_cases h:0<e.mode
  ·rw[List.filter_cons_of_pos (by simp[h]),List.countP_cons,List.countP_cons,ih]
  ·have h2:iU e=false:=by unfold iU;exact decide_eq_false h
   rw[List.countP_cons,h2]
   by_cases h3:dC e=true
   ·rw[List.filter_cons_of_pos (by simp[h3]),List.countP_cons,h2,ih]
   ·rw[List.filter_cons_of_neg (by simp[h3,h]),ih];simp
theorem E0{v:aM}(h:v.holds=true):0<v.mode:=by
 unfold aM.holds at h
 simp only[Bool.or_eq_true,decide_eq_true_eq] at h
 omega
theorem Ag(v:aM):v.strip.countP iU=mr v:=by
 unfold aM.strip mr
 rw[List.countP_append,J2]
 by_cases h:v.holds=true
 ·rw[if_pos h,if_pos h]
  have:∀ t,iU ⟨4,t,v.mode⟩=true:=fun t=>decide_eq_true (E0 h)
  simp[this]
 ·rw[if_neg h,if_neg h]
  split <;> simp[iU]
theorem BT(l:List Ev):mr (aM.new l)=l.countP iU:=by
 show(if _ then 1 else 0)+l.countP iU=_
 rw[if_neg (by show ¬aM.holds _=true;unfold aM.holds aM.new;simp)];omega
theorem yk(v:aM)(l:List Ev):mr (v.told l)=mr v+l.countP iU:=by
 unfold aM.told
 rw[BT,List.countP_append,Ag]
theorem M4:mr aM.z=0:=rfl
theorem fR(l:List Int):(aH l).countP iU=0:=by
 rw[List.countP_eq_zero]
 intro e he
 obtain⟨n, -,rfl⟩:=List.mem_map.1 he
 simp[iU]
theorem Lk.set{l:Lib}(h:Lk l){i:Nat}{v x:aM}{b:Bool}{rows:List (List Int)}{s:Spc}(hv:l.vs[i]?=some v)(hn:mr x+J1 l.locked=mr v+J1 b)(he:x.mode=1∨x.mode=2∨x.evs=[]):Lk ⟨s,rows,l.vs.set i x,l.waiting,b⟩:=by
 refine⟨?_,fun y hy=>?_⟩
 ·have h1:=mu hv x
  have h2:=h.n
  unfold I6 at h2 ⊢
  simp only at h2 ⊢
  omega
 ·rcases List.mem_or_eq_of_mem_set hy with hy | rfl
  ·exact h.e y hy
  ·exact he
theorem Lk.same{l:Lib}(h:Lk l){rows:List (List Int)}{s:Spc}:Lk ⟨s,rows,l.vs,l.waiting,l.locked⟩:=⟨h.n,h.e⟩
theorem HV{vs:List aM}{i:Nat}{v:aM}(h:vs[i]?=some v):mr v≤sumV vs:=by
 have:=mu h aM.z
 rw[M4] at this
 omega
theorem Lk.one{l:Lib}(h:Lk l){i:Nat}{v:aM}(hv:l.vs[i]?=some v)(h1:1≤mr v):l.locked=true∧mr v=1:=by
 have h2:=h.n
 have h3:=HV hv
 unfold I6 at h2
 cases hl:l.locked with
 | true=>rw[hl] at h2;exact⟨rfl,by unfold J1 at h2;rw[if_pos rfl] at h2;omega⟩
 | false=>rw[hl] at h2;unfold J1 at h2;rw[if_neg (by decide)] at h2;omega
theorem Lk.tell{l:Lib}(h:Lk l){ys:List Ev}(hy:ys.countP iU=0):Lk (l.tell ys):=by
 by_cases h0:ys=[]
 ·subst h0;rw[jq];exact h
 ·cases hp:l.procs with
  | nil =>
   rw[jd h0 hp]
   exact⟨by have:=h.n;unfold I6 at this ⊢;simp only[List.countP_append];omega,h.e⟩
  | cons p r =>
   obtain⟨i,v,rfl,hv, -⟩:=hY hp
   rw[je h0 hp hv]
   exact h.set hv (by rw[yk];omega) (.inl rfl)
theorem Lk.wD{l:Lib}{ys:List Ev}(hn:I6 l+ys.countP iU=J1 l.locked)(he:∀ v∈l.vs,v.mode=1∨v.mode=2∨v.evs=[]):Lk (l.tell ys):=by
 by_cases h0:ys=[]
 ·subst h0;rw[jq];exact⟨hn,he⟩
 ·cases hp:l.procs with
  | nil =>
   rw[jd h0 hp]
   exact⟨by unfold I6 at hn ⊢;simp only[List.countP_append];omega,he⟩
  | cons p r =>
   obtain⟨i,v,rfl,hv, -⟩:=hY hp
   rw[je h0 hp hv]
   refine⟨?_,fun y hy=>?_⟩
   ·have h1:=mu hv (v.told ys)
    rw[yk] at h1
    unfold I6 at hn ⊢
    simp only at hn ⊢
    omega
   ·rcases List.mem_or_eq_of_mem_set hy with hy | rfl
    ·exact he y hy
    ·exact .inl rfl
theorem Lk.dj{l:Lib}(h:Lk l)(p:Int):Lk (l.dj p).2:=by
 unfold Lib.dj
 cases e:aB l.vs p with
 | none=>exact h
 | some v =>
  simp only
  by_cases hm:v.mode=0
  ·rw[if_pos hm]
   obtain⟨h0, -,hv⟩:=bF e
   have hh:mr v=0:=by
    unfold mr
    rw[if_neg (by unfold aM.holds;rw[hm];simp)]
    rcases h.e v (List.mem_of_getElem? hv) with g | g | g
    ·omega
    ·omega
    ·rw[g];rfl
   refine⟨?_,fun y hy=>?_⟩
   ·have h1:=mu hv (aM.new (⟨1, -1,0⟩::l.waiting))
    have h2:=h.n
    rw[BT,List.countP_cons] at h1
    unfold I6 at h2 ⊢
    simp only[List.countP_nil] at h1 h2 ⊢
    have:iU ⟨1, -1,0⟩=false:=rfl
    rw[this] at h1
    simp only[Bool.false_eq_true,if_false] at h1
    omega
   ·rcases List.mem_or_eq_of_mem_set hy with hy | rfl
    ·exact h.e y hy
    ·exact .inl rfl
  ·rw[if_neg hm];exact h
theorem Lk.cF{l:Lib}(h:Lk l)(p:Int):Lk (l.cF p).2:=by
 cases hh:l.has p with
 | false=>rw[jf hh];exact h
 | true =>
  obtain⟨i,v,rfl,hv, -⟩:=ic hh
  rw[hZ hh hv]
  refine Lk.wD ?_ fun y hy=>?_
  ·have h1:=mu hv aM.z
   have h2:=h.n
   rw[M4] at h1
   rw[Ag]
   unfold I6 at h2 ⊢
   simp only at h2 ⊢
   omega
  ·rcases List.mem_or_eq_of_mem_set hy with hy | rfl
   ·exact h.e y hy
   ·exact .inr (.inr rfl)
theorem Lk.preempt{l:Lib}(h:Lk l)(p:Int):Lk (l.preempt p).2:=by
 cases hh:l.has p with
 | false=>rw[jw hh];exact h
 | true =>
  obtain⟨i,v,rfl,hv, -⟩:=ic hh
  rw[iF hh hv]
  exact h.set hv (by rw[yk];rfl) (.inl rfl)
theorem Lk.enter{l:Lib}(h:Lk l){i:Nat}{v:aM}{m:Int}(hv:l.vs[i]?=some v)(hh:v.holds=false)(hm:m=2∨m=4∨m=7)(he:m=2∨v.evs=[]):Lk (l.enter (i:Int) m):=by
 cases hl:l.locked with
 | true=>rw[pB hl];exact h
 | false =>
  rw[m5 hv hl]
  refine h.set hv ?_ (he.elim (fun e=>.inr (.inl e)) fun e=>.inr (.inr e))
  unfold mr
  rw[hl,hh]
  have:aM.holds {v with mode:=m }=true:=by unfold aM.holds;rcases hm with rfl | rfl | rfl <;> rfl
  rw[this]
  simp[J1];omega
theorem Lk.leave{l:Lib}(h:Lk l){i:Nat}{v:aM}{m t:Int}(hv:l.vs[i]?=some v)(hh:v.holds=true)(hm:m=3∨m=5∨m=8)(he:v.evs=[]):Lk (l.leave (i:Int) m t):=by
 rw[iE hv]
 have h1:1≤mr v:=by unfold mr;rw[if_pos hh];omega
 obtain⟨hl,h2⟩:=h.one hv h1
 refine h.set hv ?_ (.inr (.inr he))
 rw[h2,hl]
 unfold mr
 have:aM.holds {v with mode:=m,ab:=t }=false:=by unfold aM.holds;rcases hm with rfl | rfl | rfl <;> rfl
 rw[this,he]
 simp[J1]
theorem Lk.run{l:Lib}(h:Lk l){i:Nat}{v:aM}(hv:l.vs[i]?=some v)(h1:¬v.mode=1)(h2:¬v.mode=2):v.evs=[]:=by
 rcases h.e v (List.mem_of_getElem? hv) with g | g | g
 ·exact absurd g h1
 ·exact absurd g h2
 ·exact g
theorem Dw{α:Type}{p:α→Bool}:∀ (l:List α) (k:Nat),idxP p l k = -1∨(k:Int)≤idxP p l k
 | [],k=>.inl rfl
 | y::l,k=>by
  unfold idxP
  by_cases hp:p y=true
  ·rw[if_pos hp];exact .inr (Int.le_refl _)
  ·rw[if_neg hp]
   rcases Dw (p:=p) l (k+1) with g | g
   ·exact .inl g
   ·exact .inr (by omega)
theorem ud{α:Type}{p:α→Bool}:∀ {l:List α} {k i:Nat} {x:α},idxP p l k=((k+i:Nat):Int)→l[i]?=some x→p x=true
 | [],k,i,x,h,hx=>by simp at hx
 | y::l,k,i,x,h,hx=>by
  unfold idxP at h
  by_cases hp:p y=true
  ·rw[if_pos hp] at h
   obtain rfl:i=0:=by omega
   obtain rfl:y=x:=by simpa using hx
   exact hp
  ·rw[if_neg hp] at h
   cases i with
   | zero =>
    have:=Dw (p:=p) l (k+1)
    rcases this with g | g <;> omega
   | succ i=>exact ud (l:=l) (k:=k+1) (i:=i) (by rw[h];omega) (by simpa using hx)
theorem E1{l:List Ev}{x:Ev}{r:List Ev}(h:evWithin l=some (x,r)):l.countP iU=r.countP iU+1:=by
 unfold evWithin at h
 split at h
 ·cases h
 ·split at h
  ·cases h
  ·rename_i h0 y e2
   cases h
   have hi:=(List.getElem?_eq_some_iff.1 e2).1
   have hx:iU x=true:=ud (l:=l) (k:=0) (i:=(idxP iU l 0).toNat) (by omega) e2
   have e:l.take (idxP iU l 0).toNat++x::l.drop ((idxP iU l 0).toNat+1)=l:=by rw[← drop_cons e2,List.take_append_drop]
   have h1:=congrArg (List.countP iU) e
   rw[List.countP_append,List.countP_cons,hx] at h1
   rw[List.countP_append]
   simp only[if_true] at h1
   omega
theorem Lk.step{l:Lib}(h:Lk l)(p c:Int):Lk (l.step p c).2.2:=by
 cases hh:l.has p with
 | false=>rw[pE hh];exact h
 | true =>
  obtain⟨i,v,rfl,hv,h0⟩:=ic hh
  by_cases h1:v.mode=1
  ·have hn:v.holds=false:=by unfold aM.holds;rw[h1];rfl
   rw[sd hh hv h1]
   show Lk (l.upcall (i:Int) c).2
   cases hw:(evWithin v.evs).isSome with
   | false=>rw[m6 hv hw];exact h.enter hv hn (.inl rfl) (.inl rfl)
   | true =>
    rw[k5 hv hw]
    have hc:v.evs.countP iU=(wR v.evs).countP iU+1:=by
     unfold wR
     cases e:evWithin v.evs with
     | none=>rw[e] at hw;cases hw
     | some x=>exact E1 (x:=x.1) (r:=x.2) e
    have hi:mr v=v.evs.countP iU:=by unfold mr;rw[hn];simp
    obtain⟨hl,h2⟩:=h.one hv (by omega)
    have key:Lk (l.qH i v (wR v.evs)):=h.set (b:=false) (x:={v with evs:=wR v.evs }) hv (by
     have:mr {v with evs:=wR v.evs }=(wR v.evs).countP iU:=by
      show(if v.holds=true then 1 else 0)+_=_
      rw[hn];simp
     rw[this,hl]
     unfold J1
     simp;omega) (.inl h1)
    by_cases hm:(wE v.evs).mode=7
    ·by_cases hg:(l.aO.run (wE v.evs).ab c).1.cj=true
     ·rw[k4 hv hm hg];exact key.same
     ·rw[iX hv hm hg];exact key.same
    ·rw[k0 hv hm];exact key
  by_cases h2:v.mode=2
  ·have hn:v.holds=true:=by unfold aM.holds;rw[h2];rfl
   rw[se hh hv h2]
   cases he:v.evs with
   | nil=>rw[k6 hv he];exact h.leave hv hn (.inl rfl) he
   | cons e r =>
    have hi:mr v=1+v.evs.countP iU:=by unfold mr;rw[hn];simp
    obtain⟨hl,h3⟩:=h.one hv (by omega)
    have hx:mr {v with evs:=r }=mr v:=by
     have:mr {v with evs:=r }=1+r.countP iU:=by
      show(if v.holds=true then 1 else 0)+_=_
      rw[hn];simp
     rw[he,List.countP_cons] at hi
     omega
    by_cases hr:dC e=true
    ·rw[m7 hv he hr];exact h.set (x:={v with evs:=r }) hv (by rw[hx]) (.inr (.inl h2))
    ·rw[k7 hv he hr];exact h.set (x:={v with evs:=r }) hv (by rw[hx]) (.inr (.inl h2))
  have hev:=h.run hv h1 h2
  by_cases h3:v.mode=3
  ·rw[sf hh hv h3];exact h.enter hv (by unfold aM.holds;rw[h3];rfl) (.inr (.inl rfl)) (.inr hev)
  by_cases h4:v.mode=4
  ·have hn:v.holds=true:=by unfold aM.holds;rw[h4];rfl
   rw[sh hh hv h4]
   cases hp:(rPick l.rows (i:Int)).isSome with
   | false=>rw[(pC hp).1];exact h.leave hv hn (.inr (.inr rfl)) hev
   | true=>rw[m8 hp];exact(h.same (rows:=lH l.rows (i:Int)) (s:=l.aO)).leave hv hn (.inr (.inl rfl)) hev
  by_cases h5:v.mode=5
  ·have hn:v.holds=false:=by unfold aM.holds;rw[h5];rfl
   have hi:mr v=0:=by unfold mr;rw[hn,hev];rfl
   rw[sj hh hv h5]
   show Lk (l.gQ (i:Int) c).2
   by_cases hc:l.aO.class v.ab=2
   ·rw[k8 hv hc];exact h.set (x:={v with mode:=6 }) hv (by rw[hi];unfold mr;rw[hev];rfl) (.inr (.inr hev))
   ·by_cases hs:(l.aO.run v.ab c).1.aR=true
    ·rw[m9 hv hc hs]
     exact Lk.tell (h.set (x:=aM.new [⟨2,v.ab,0⟩]) hv (by rw[hi,BT];rfl) (.inl rfl)) (fR _)
    ·by_cases he:(l.aO.run v.ab c).1.ended=true
     ·rw[pD hv hc hs he]
      exact Lk.tell (h.set (x:={v with mode:=3,ab := -1 }) hv (by rw[hi];unfold mr;rw[hev];rfl) (.inr (.inr hev))) (fR _)
     ·rw[na hv hc hs he]
      exact Lk.tell h.same (fR _)
  by_cases h6:v.mode=6
  ·rw[sk hh hv h6];exact h.enter hv (by unfold aM.holds;rw[h6];rfl) (.inr (.inr rfl)) (.inr hev)
  by_cases h7:v.mode=7
  ·have hn:v.holds=true:=by unfold aM.holds;rw[h7];rfl
   rw[sm hh hv h7]
   show Lk (l.inside (i:Int) c).2
   by_cases hg:(l.aO.run v.ab c).1.cj=true
   ·by_cases hy:(l.aO.run v.ab c).1.yielded=true
    ·rw[iY hv hg hy]
     exact Lk.leave (l:=((l.aK v.ab c).2.fE (i:Int) (l.aO.run v.ab c).1.ar).fE (i:Int) [v.ab]) h.same hv hn (.inl rfl) hev
    ·rw[nf hv hg hy]
     exact Lk.leave (l:=(l.aK v.ab c).2.fE (i:Int) (l.aO.run v.ab c).1.ar) h.same hv hn (.inr (.inl rfl)) hev
   ·rw[k9 hv hg]
    exact Lk.leave (l:=(l.aK v.ab c).2.fE (i:Int) (l.aO.run v.ab c).1.ar) h.same hv hn (.inl rfl) hev
  by_cases h8:v.mode=8
  ·cases he:ib l.rows with
   | true=>rw[pF hh hv h8 he];exact h
   | false=>rw[pG hh hv h8 he];exact h.set (x:={v with mode:=3 }) hv (by unfold mr aM.holds;rw[hev,h8];rfl) (.inr (.inr hev))
  ·rw[so hh hv ⟨h1,h2,h3,h4,h5,h6,h7,h8⟩];exact h
theorem Lk.new(s:Spc)(p:Int):Lk (Lib.new s p):=by
 have:∀ n,sumV (List.replicate n aM.z)=0:=fun n=>by
  induction n with
  | zero=>rfl
  | succ n ih=>rw[List.replicate_succ,sumV,ih];rfl
 exact⟨by unfold I6;show sumV (List.replicate _ aM.z)+(aH s.ready).countP iU=_;rw[this,fR];rfl,fun v hv=>.inr (.inr (by rw[(List.mem_replicate.1 hv).2];rfl))⟩
end Go.SLYthlllpngkljgfaaGreat
namespace Go.SLYthlllpngkljgfaaGreat
open Go Go.RowKit
def J3(l:Lib):Nat→List Ev
 | 0=>l.waiting
 | n+1=>J3 l n++(nE l (n:Int)).evs
def LY(l:Lib):Nat→Nat
 | 0=>0
 | n+1=>LY l n+(if (nE l (n:Int)).holds=true then 1 else 0)
theorem HY{k:Nat}{s:Spc}(h:gE k s):s.aT.due.length≤16:=by
 have hbal:∀ w,ny s w=dP s w:=fun w=>by have:=h.1.rI w;simpa using this
 have bL:∀ w,cL s.aT w≤dP s w:=fun w=>by have:=hbal w;unfold ny at this;omega
 have h1:s.aT.hU.length≤16:=pk (f:=fun r:Int×Int=>r.1) h.1.lt bL
 have:=pg s.aT
 omega
def Lib.cA(l:Lib):Lib:=({l with aO:=l.aO.tick.2 }:Lib).tell (aH l.aO.aT.due)
theorem gm(l:List Int):(aH l).length=l.length:=List.length_map ..
theorem Ah{k:Nat}{l:Lib}(h:ff k l):aC 17 0 l l.cA:=by
 have h0:aC 0 0 l ({l with aO:=l.aO.tick.2 }:Lib):=⟨rfl,rfl,Nat.le_refl _,fun _ h=>h⟩
 have h1:=HY h.sp
 have h2:=gm l.aO.aT.due
 exact(h0.trans (aC.tell _ _)).le (by omega) (by omega)
theorem ff.cA{k:Nat}{l:Lib}(h:ff k l):ff (k+1) l.cA :=
 h.of ((Ah h).le (by omega) (by omega)) (by
  show gE (k+2) (Lib.tell _ _).aO
  rw[(dA _ _).1.aO]
  exact h.sp.tick)
theorem Lk.cA{l:Lib}(h:Lk l):Lk l.cA:=Lk.tell h.same (fR _)
end Go.SLYthlllpngkljgfaaGreat
namespace Go.SLYthlllpngkljgfaaGreat
open Go Go.RowKit
theorem HZ{Q:Lib→Prop}(hg:∀ l p,Q l→Q (l.dj p).2){k:Krn}(p n:Int)(h:∀ l∈k.libs,Q l):∀ l∈(k.eP p n).2.libs,Q l:=fun x hx=>by
 rcases tV k p n with e | ⟨i,j,l,rfl,rfl,ho,hl,e⟩
 ·rw[e] at hx;exact h x hx
 ·rw[e] at hx
  rcases List.mem_or_eq_of_mem_set hx with hx | rfl
  ·exact h x hx
  ·exact hg _ _ (h l (List.mem_of_getElem? hl))
theorem H2{Q:Lib→Prop}(hr:∀ l p,Q l→Q (l.cF p).2){k:Krn}(p:Int)(h:∀ l∈k.libs,Q l):∀ l∈(k.take p).2.libs,Q l:=fun x hx=>by
 unfold Krn.take at hx
 split at hx
 ·exact h x hx
 ·split at hx
  ·exact h x hx
  ·rename_i o _ _
   have hx':x∈k.libs.set o.toNat ((k.libs.getD o.toNat Ba).cF p).2:=hx
   by_cases hi:o.toNat<k.libs.length
   ·obtain⟨l,hl⟩:=ak hi
    rw[bA hl] at hx'
    rcases List.mem_or_eq_of_mem_set hx' with hx' | rfl
    ·exact h x hx'
    ·exact hr _ _ (h l (List.mem_of_getElem? hl))
   ·rw[List.set_eq_of_length_le (by omega)] at hx'
    exact h x hx'
section
variable{Q:Lib→Prop}(hg:∀ l p,Q l→Q (l.dj p).2)(hr:∀ l p,Q l→Q (l.cF p).2)
include hr in
theorem ru:∀ (ps:List Int) {k:Krn},(∀ l∈k.libs,Q l)→ ∀ l∈(eB ps k).libs,Q l
 | [],_,h=>h
 | p::ps,_k,h=>ru ps (H2 hr p h)
include hg in
theorem ue(n:Int):∀ (c:Nat) {k:Krn},(∀ l∈k.libs,Q l)→ ∀ l∈(giveTo c n k).libs,Q l
 | 0,_,h=>h
 | c+1,_k,h=>ue n c (HZ hg _ _ h)
include hr in
theorem pK:∀ (l:List Int) (n mv:Nat) {k:Krn},(∀ x∈k.libs,Q x)→ ∀ x∈(takeFrom l n (k,mv)).1.libs,Q x
 | [],_,_,_,h=>h
 | w::l,n,mv,k,h=>by
  rw[takeFrom]
  exact pK l (n+1) _ (ru hr _ h)
include hg in
theorem pL:∀ (l:List Int) (n mv:Nat) {k:Krn},(∀ x∈k.libs,Q x)→ ∀ x∈(dG l n (k,mv)).1.libs,Q x
 | [],_,_,_,h=>h
 | w::l,n,mv,k,h=>by
  rw[dG]
  exact pL l (n+1) _ (ue hg _ _ h)
include hg hr in
theorem ng{k:Krn}(prio:List Int)(turn:Int)(h:∀ x∈k.libs,Q x):∀ x∈(k.share prio turn).1.libs,Q x:=by
 unfold Krn.share
 rw[Dl (takeFrom (k.targets prio turn) 0 (k,0))]
 exact pL hg _ 0 _ (pK hr _ 0 0 h)
end
structure BU(k:Nat)(l:Lib):Prop where
 sp:gE (k+1) l.aO
 vl:l.vs.length≤64
 rl:l.rows.length≤64
 rw:∀ r∈l.rows,r.length≤40 * (k+1)
theorem BU.same{k:Nat}{l l':Lib}(h:BU k l)(s:wh l l')(hl:l'.vs.length=l.vs.length):BU k l':=⟨by rw[s.aO];exact h.sp,by rw[hl];exact h.vl,by rw[s.rows];exact h.rl,by rw[s.rows];exact h.rw⟩
theorem ff.row{k:Nat}{l:Lib}(h:ff k l):BU k l:=⟨h.sp,h.vl,h.rl,h.rw⟩
theorem BU.inv{k n:Nat}{l:Lib}(h:BU k l)(hk:k≤n)(he:fV l≤40 * (n+1)):ff n l:=⟨h.sp.more (by omega),h.vl,h.rl,he,fun r hr=>Nat.le_trans (h.rw r hr) (by omega)⟩
theorem fY.inv{n:Nat}{k:Krn}(h:fY n k):Inv (40 * (n+1)) k:=⟨h.ok,h.ag⟩
theorem fY.share{k:Krn}(h:fY 0 k)(prio:List Int)(turn:Int):fY 52 (k.share prio turn).1:=by
 obtain⟨h1,h2⟩:=fF h.inv prio turn
 have h3:∀ x∈(k.share prio turn).1.libs,BU 0 x:=ng (fun l p hl=>hl.same (gv l p) (oc l p).vs) (fun l p hl=>hl.same (eN l p) (mq l p).vs) prio turn fun x hx=>(h.gY x hx).row
 exact⟨h1.ag,h1.ok.own,h1.ok.ll,fun x hx=>(h3 x hx).inv (by omega) (Nat.le_trans (h1.ok.gY x hx).ev (by omega))⟩
def OK(k:Krn):List Int:=k.libs.map fun l=>(l.aO.av.length:Int)
end Go.SLYthlllpngkljgfaaGreat
namespace Go.SLYthlllpngkljgfaaGreat
open Go Go.RowKit
/-! processors by moments, requests, and taking away -/
def Lib.fH(l:Lib)(c:Int):Lib:=({l with aO:=(l.aO.done c).2.2 }:Lib).tell (aH (l.aO.done c).1.ar)
def Krn.tick(k:Krn):Krn:=⟨k.owner,k.libs.map Lib.cA⟩
def Krn.done(k:Krn)(n c:Int):Int×Krn:=match aB k.libs n with
 | none=>(1,k)
 | some l=>((l.aO.done c).2.1,⟨k.owner,k.libs.set n.toNat (l.fH c)⟩)
def Krn.preempt(k:Krn)(p:Int):Int×Krn:=match aB k.owner p with
 | none=>(1,k)
 | some o=>if o = -1 then (11,k) else match aB k.libs o with
  | none=>(11,k)
  | some l=>(0,⟨k.owner,k.libs.set o.toNat (l.preempt p).2⟩)
theorem my{k:Krn}{p:Int}(h:¬du k p=0):k.preempt p=(du k p,k):=by
 unfold du at h ⊢
 unfold Krn.preempt
 cases e:aB k.owner p with
 | none=>rfl
 | some o =>
  rw[e] at h
  simp only at h ⊢
  by_cases ho:o = -1
  ·rw[if_pos ho,if_pos ho]
  ·rw[if_neg ho] at h;exact absurd rfl h
theorem pM{k:Krn}{i n:Nat}{l:Lib}(ho:k.owner[i]?=some (n:Int))(hl:k.libs[n]?=some l):k.preempt (i:Int)=(0,⟨k.owner,k.libs.set n (l.preempt (i:Int)).2⟩):=by
 unfold Krn.preempt
 rw[bb,ho]
 simp only
 rw[if_neg (by omega),bb,hl]
 simp only[Int.toNat_natCast]
theorem pN{k:Krn}{n c:Int}(h:aB k.libs n=none):k.done n c=(1,k):=by unfold Krn.done;rw[h]
theorem mz{k:Krn}{n:Nat}{l:Lib}{c:Int}(hl:k.libs[n]?=some l):k.done (n:Int) c=((l.aO.done c).2.1,⟨k.owner,k.libs.set n (l.fH c)⟩):=by
 unfold Krn.done;rw[bb,hl];simp only[Int.toNat_natCast]
/-! order behind entries -/
structure LI(n m:Nat)(l:Lib):Prop where
 sp:gE (n+1) l.aO
 vl:l.vs.length≤64
 rl:l.rows.length≤64
 ev:fV l≤m
 rw:∀ r∈l.rows,r.length≤m
theorem LI.le{n m n' m':Nat}{l:Lib}(h:LI n m l)(hn:n≤n')(hm:m≤m'):LI n' m' l:=⟨h.sp.more (by omega),h.vl,h.rl,Nat.le_trans h.ev hm,fun r hr=>Nat.le_trans (h.rw r hr) hm⟩
theorem LI.of{n m a n' m':Nat}{l l':Lib}(h:LI n m l)(g:aC a a l l')(hs:gE (n'+1) l'.aO)(hm:m+a≤m'):LI n' m' l':=by
 have e:=g.ev
 have e2:=h.ev
 exact⟨hs,g.vs ▸ h.vl,g.rs ▸ h.rl,by omega,fun r hr=>by have:=g.rw _ h.rw r hr;omega⟩
theorem LI.sz{n m:Nat}{l:Lib}(h:LI n m l)(hn:n≤1980)(hm:m≤1000000):HK l:=by
 have hl:Le m l:=⟨h.ev,h.vl,h.sp.lt⟩
 exact⟨h.sp.aO (by omega),h.vl,h.rl,Nat.le_trans hl.w hm,fun v hv=>Nat.le_trans (hl.e v hv) hm,fun r hr=>Nat.le_trans (h.rw r hr) hm⟩
theorem LI.AW{n m:Nat}{l:Lib}(h:LI n m l)(hn:n≤1980):∀ t c,(l.aO.run t c).1.ar.length≤17:=fun t c=>tQ h.sp (by omega) t c
theorem H3{k:Nat}{l:Lib}(h:gE k l.aO)(hk:k≤1990)(p c:Int):gE (k+1) (l.step p c).2.2.aO:=by
 have hm:gE (k+1) l.aO:=h.more (by omega)
 have hr:=fun t=>h.run hk t c
 unfold Lib.step
 split
 ·simp only
  split
  ·unfold Lib.upcall
   split
   ·unfold Lib.recover
    simp only
    split
    ·show gE (k+1) (Lib.aO (if _ then _ else _))
     split <;> exact hr _
    ·exact hm
   ·unfold Lib.enter;split <;> exact hm
  ·split
   ·unfold Lib.handle
    split
    ·exact hm
    ·show gE (k+1) (Lib.aO (if _ then _ else _))
     split <;> exact hm
   ·split
    ·unfold Lib.enter;split <;> exact hm
    ·split
     ·unfold Lib.pick;split <;> exact hm
     ·split
      ·unfold Lib.gQ
       simp only
       split
       ·exact hm
       ·rw[(dA _ _).1.aO]
        split
        ·exact hr _
        ·split <;> exact hr _
      ·split
       ·unfold Lib.enter;split <;> exact hm
       ·split
        ·unfold Lib.inside
         simp only
         split
         ·split <;> exact hr _
         ·exact hr _
        ·split
         ·split <;> exact hm
         ·exact hm
 ·exact hm
theorem od(s:Spc)(c:Int):(s.done c).1.ar.length≤1:=by
 unfold Spc.done
 simp only
 split <;> simp[kO.z]
theorem LI.step{n m:Nat}{l:Lib}(h:LI n m l)(hn:n≤1980)(p c:Int):LI (n+1) (m+40) (l.step p c).2.2:=by
 have g:=qJ (h.AW hn) p c
 refine h.of g ?_ (Nat.le_refl _)
 exact H3 h.sp (by omega) p c
theorem LI.preempt{n m:Nat}{l:Lib}(h:LI n m l)(p:Int):LI n (m+1) (l.preempt p).2:=h.of (a:=1) ((lb l p).le (by omega) (by omega)) (by rw[mn];exact h.sp) (Nat.le_refl _)
theorem LI.cA{n m:Nat}{l:Lib}(h:LI n m l):LI (n+1) (m+17) l.cA:=by
 have h0:aC 0 0 l ({l with aO:=l.aO.tick.2 }:Lib):=⟨rfl,rfl,Nat.le_refl _,fun _ h=>h⟩
 have h1:=HY h.sp
 have h2:=gm l.aO.aT.due
 refine h.of (a:=17) ((h0.trans (aC.tell _ _)).le (by omega) (by omega)) ?_ (Nat.le_refl _)
 show gE (n+1+1) (Lib.tell _ _).aO
 rw[(dA _ _).1.aO]
 exact h.sp.tick
theorem LI.fH{n m:Nat}{l:Lib}(h:LI n m l)(c:Int):LI (n+1) (m+17) (l.fH c):=by
 have h0:aC 0 0 l ({l with aO:=(l.aO.done c).2.2 }:Lib):=⟨rfl,rfl,Nat.le_refl _,fun _ h=>h⟩
 have h1:=od l.aO c
 have h2:=gm (l.aO.done c).1.ar
 refine h.of (a:=17) ((h0.trans (aC.tell _ _)).le (by omega) (by omega)) ?_ (Nat.le_refl _)
 show gE (n+1+1) (Lib.tell _ _).aO
 rw[(dA _ _).1.aO]
 exact h.sp.done c
structure M5(n m:Nat)(l:Lib):Prop where
 sp:gE (n+1) l.aO
 vl:l.vs.length≤64
 rl:l.rows.length≤64
 rw:∀ r∈l.rows,r.length≤m
theorem M5.same{n m:Nat}{l l':Lib}(h:M5 n m l)(s:wh l l')(hl:l'.vs.length=l.vs.length):M5 n m l':=⟨by rw[s.aO];exact h.sp,by rw[hl];exact h.vl,by rw[s.rows];exact h.rl,by rw[s.rows];exact h.rw⟩
theorem LI.row{n m:Nat}{l:Lib}(h:LI n m l):M5 n m l:=⟨h.sp,h.vl,h.rl,h.rw⟩
structure SI(n m:Nat)(k:Krn):Prop where
 ag:gR k
 own:∀ v∈k.owner,v = -1∨(0≤v∧v<(k.libs.length:Int))
 ll:k.libs.length≤8
 gY:∀ l∈k.libs,LI n m l
theorem SI.ok{n m:Nat}{k:Krn}(h:SI n m k):qZ m k:=⟨h.own,h.ag.ol,h.ll,fun l hl=>⟨(h.gY l hl).ev,(h.gY l hl).vl,(h.gY l hl).sp.lt⟩⟩
theorem SI.le{n m n' m':Nat}{k:Krn}(h:SI n m k)(hn:n≤n')(hm:m≤m'):SI n' m' k:=⟨h.ag,h.own,h.ll,fun l hl=>(h.gY l hl).le hn hm⟩
theorem SI.rn{n m:Nat}{k:Krn}(h:SI n m k)(hn:n≤1980)(hm:m≤1000000):nk m k:=⟨h.ok,fun l hl=>⟨(h.gY l hl).sz hn hm,fun t=>(h.gY l hl).AW hn t⟩⟩
theorem SI.inv{n m:Nat}{k:Krn}(h:SI n m k):Inv m k:=⟨h.ok,h.ag⟩
theorem fY.si{n:Nat}{k:Krn}(h:fY n k):SI n (40 * (n+1)) k:=⟨h.ag,h.own,h.ll,fun l hl=>⟨(h.gY l hl).sp,(h.gY l hl).vl,(h.gY l hl).rl,(h.gY l hl).ev,(h.gY l hl).rw⟩⟩
theorem SI.set{n m n' m':Nat}{k:Krn}(h:SI n m k)(hn:n≤n')(hm:m≤m'){j:Nat}{l l':Lib}(hl:k.libs[j]?=some l)(hmo:Mo l l')(hv:l'.vs.length=l.vs.length)(hli:LI n' m' l'):SI n' m' ⟨k.owner,k.libs.set j l'⟩:=by
 refine⟨h.ag.step hl hmo hv,fun v hv=>?_,by show(k.libs.set j l').length≤8;rw[List.length_set];exact h.ll,fun x hx=>?_⟩
 ·show v = -1∨(0≤v∧v<((k.libs.set j l').length:Int));rw[List.length_set];exact h.own v hv
 ·rcases List.mem_or_eq_of_mem_set hx with e | e
  ·exact(h.gY x e).le hn hm
  ·subst e;exact hli
theorem SI.step{n m:Nat}{k:Krn}(h:SI n m k)(hn:n≤1980)(p c:Int):SI (n+1) (m+40) (k.step p c).2:=by
 by_cases e:du k p=0
 ·obtain⟨i,j,l,rfl,ho,hl, -⟩:=dy h.ok e
  rw[iG ho hl]
  have hli:=h.gY l (List.mem_of_getElem? hl)
  exact h.set (by omega) (by omega) hl (wB l (i:Int) c) (qJ (hli.AW hn) (i:Int) c).vs (hli.step hn _ _)
 ·rw[gF e];exact h.le (by omega) (by omega)
theorem BV(l:Lib)(p:Int):Mo l (l.preempt p).2:=by
 cases hh:l.has p with
 | false=>rw[jw hh];exact Mo.refl _
 | true =>
  obtain⟨i,v,rfl,hv,h0⟩:=ic hh
  rw[iF hh hv]
  exact Mo.set (y:=v.told []) hv h0 (by show(1:Int)≠0;decide) rfl
theorem SI.preempt{n m:Nat}{k:Krn}(h:SI n m k)(p:Int):SI n (m+1) (k.preempt p).2:=by
 by_cases e:du k p=0
 ·obtain⟨i,j,l,rfl,ho,hl, -⟩:=dy h.ok e
  rw[pM ho hl]
  have hli:=h.gY l (List.mem_of_getElem? hl)
  exact h.set (Nat.le_refl _) (by omega) hl (BV l _) (lb l _).vs (hli.preempt _)
 ·rw[my e];exact h.le (by omega) (by omega)
theorem E2(l:Lib):Mo l l.cA:=(show Mo l ({l with aO:=l.aO.tick.2 }:Lib) from fun _=>Iff.rfl).trans (Mo.tell _ _)
theorem H4(l:Lib)(c:Int):Mo l (l.fH c):=(show Mo l ({l with aO:=(l.aO.done c).2.2 }:Lib) from fun _=>Iff.rfl).trans (Mo.tell _ _)
theorem Dx(l:Lib)(ys:List Ev):(l.tell ys).vs.length=l.vs.length:=(dA l ys).1.len
theorem SI.done{n m:Nat}{k:Krn}(h:SI n m k)(q c:Int):SI (n+1) (m+17) (k.done q c).2:=by
 cases e:aB k.libs q with
 | none=>rw[pN e];exact h.le (by omega) (by omega)
 | some l =>
  obtain⟨q0, -,hq⟩:=bF e
  obtain⟨j,rfl⟩:∃ j:Nat,q=(j:Int):=⟨q.toNat,by omega⟩
  rw[Int.toNat_natCast] at hq
  rw[mz hq]
  have hli:=h.gY l (List.mem_of_getElem? hq)
  exact h.set (by omega) (by omega) hq (H4 l c) (Dx _ _) (hli.fH c)
theorem SI.tick{n m:Nat}{k:Krn}(h:SI n m k):SI (n+1) (m+17) k.tick:=by
 refine⟨⟨fun x hx=>?_,h.ag.ol,fun q x hx p=>?_⟩,fun v hv=>?_,by show(k.libs.map Lib.cA).length≤8;rw[List.length_map];exact h.ll,fun x hx=>?_⟩
 ·obtain⟨l,hl,rfl⟩:=List.mem_map.1 hx
  show l.cA.vs.length=_
  rw[show l.cA.vs.length=l.vs.length from Dx _ _];exact h.ag.len l hl
 ·have hx':(k.libs.map Lib.cA)[q]?=some x:=hx
  rw[List.getElem?_map] at hx'
  cases e:k.libs[q]? with
  | none=>rw[e] at hx';cases hx'
  | some l =>
   rw[e] at hx'
   obtain rfl:=Option.some.inj hx'
   rw[E2 l p];exact h.ag.iff q l e p
 ·show v = -1∨(0≤v∧v<((k.libs.map Lib.cA).length:Int));rw[List.length_map];exact h.own v hv
 ·obtain⟨l,hl,rfl⟩:=List.mem_map.1 hx
  exact(h.gY l hl).cA
theorem SI.share{n m:Nat}{k:Krn}(h:SI n m k)(prio:List Int)(turn:Int):SI n (m+2048) (k.share prio turn).1:=by
 obtain⟨h1,h2⟩:=fF h.inv prio turn
 have h3:∀ x∈(k.share prio turn).1.libs,M5 n m x:=ng (fun l p hl=>hl.same (gv l p) (oc l p).vs) (fun l p hl=>hl.same (eN l p) (mq l p).vs) prio turn fun x hx=>(h.gY x hx).row
 exact⟨h1.ag,h1.ok.own,h1.ok.ll,fun x hx=>⟨(h3 x hx).sp,(h3 x hx).vl,(h3 x hx).rl,(h1.ok.gY x hx).ev,fun r hr=>Nat.le_trans ((h3 x hx).rw r hr) (by omega)⟩⟩
end Go.SLYthlllpngkljgfaaGreat
namespace Go.SLYthlllpngkljgfaaGreat
open Go Go.RowKit
def Krn.mA(k:Krn)(j:Nat):Krn:=⟨k.owner,(k.libs.take j).map Lib.cA++k.libs.drop j⟩
theorem E3(k:Krn):k.mA 0=k:=by
 cases k;rfl
theorem H5(k:Krn):k.mA k.libs.length=k.tick:=by
 unfold Krn.mA Krn.tick
 rw[List.take_length,List.drop_length,List.append_nil]
theorem pO{k:Krn}{j:Nat}(hj:j≤k.libs.length):((k.libs.take j).map Lib.cA).length=j:=by rw[List.length_map,List.length_take];omega
theorem J4{k:Krn}{j:Nat}{l:Lib}(h:k.libs[j]?=some l):(k.mA j).libs[j]?=some l:=by
 have hj:=(List.getElem?_eq_some_iff.1 h).1
 show((k.libs.take j).map Lib.cA++k.libs.drop j)[j]?=_
 rw[List.getElem?_append_right (by rw[pO (by omega)];exact Nat.le_refl _),pO (by omega),Nat.sub_self,List.getElem?_drop]
 exact h
theorem H6{k:Krn}{j:Nat}{l:Lib}(h:k.libs[j]?=some l):(k.mA j).libs.set j l.cA=(k.mA (j+1)).libs:=by
 have hj:=(List.getElem?_eq_some_iff.1 h).1
 show((k.libs.take j).map Lib.cA++k.libs.drop j).set j l.cA=(k.libs.take (j+1)).map Lib.cA++k.libs.drop (j+1)
 rw[aX h,List.map_append,drop_cons h,List.set_append_right _ _ (by rw[pO (by omega)];exact Nat.le_refl _),pO (by omega),Nat.sub_self,List.set_cons_zero,List.append_assoc]
 rfl
theorem H7{bl:List Nat}{ls:List Lib}{n:Int}{g:Nat→Addr}(hb:bl.length=ls.length)(h:((aB bl n).map g).isNone=true):aB ls n=none:=by
 cases e:aB bl n with
 | some x=>rw[e] at h;cases h
 | none =>
  unfold aB at *
  split at e
  ·rename_i h0;rw[if_pos h0]
  ·rename_i h0
   rw[if_neg h0]
   rw[List.getElem?_eq_none_iff] at e ⊢
   omega
theorem H8{bl:List Nat}{xs:List (Nat×Lib)}{ls:List Lib}{n:Int}{g:Nat→Addr}(hb:xs.map (·.1)=bl)(hl:xs.map (·.2)=ls)(h:((aB bl n).map g).isNone=false):∃ (j:Nat) (x:Nat×Lib),n=(j:Int)∧xs[j]?=some x∧ls[j]?=some x.2∧bl[j]?=some x.1:=by
 cases e:aB bl n with
 | none=>rw[e] at h;cases h
 | some b =>
  obtain⟨h0, -,hb2⟩:=bF e
  obtain⟨x,hx, -⟩:=dt hb hb2
  exact⟨n.toNat,x,by omega,hx,eQ hl hx,eQ hb hx⟩
/-! the system -/
structure uf where
 kind:Int
 a:Int
 b:Int
def mB(x:uf):List Value:=[.int .i64 x.kind,.int .i64 x.a,.int .i64 x.b]
structure Sy where
 k:Krn
 prio:List Int
 turn:Int
 log:List gw
def fb(b kb:Nat)(bl:List Nat)(s:Sy):aa:=nI (fun _ _=>True) fun(v vl:Value)=>[arr b 0 [ptr kb,v,.int .i64 s.turn,vl],bS kb bl s.k,sl au 1 v s.prio,sl fG 4 vl s.log]
def jQ(r:Int×gj×Int)(c:Int):List gw:=if r.2.1.aK=true then [⟨1,r.1,r.2.1.slot,c⟩] else []
def Sy.rv(s:Sy)(p c:Int):Int×Sy:=((s.k.step p c).1.2.2,⟨(s.k.step p c).2,s.prio,s.turn,s.log++jQ (s.k.step p c).1 c⟩)
def Sy.wa(s:Sy):Sy:=⟨s.k.tick,s.prio,s.turn,s.log++[⟨3,0,0,0⟩]⟩
def Sy.nz(s:Sy)(n c:Int):Int×Sy:=((s.k.done n c).1,⟨(s.k.done n c).2,s.prio,s.turn,s.log++(if (s.k.done n c).1=0 then [⟨2,n,0,c⟩] else [])⟩)
def Sy.do(s:Sy)(x:uf):Int×Sy :=
 if x.kind=1 then s.rv x.a x.b
 else if x.kind=2 then (0,s.wa)
 else if x.kind=3 then s.nz x.a x.b
 else if x.kind=4 then ((s.k.preempt x.a).1,⟨(s.k.preempt x.a).2,s.prio,s.turn,s.log⟩)
 else if x.kind=5 then (0,⟨s.k,s.prio,x.a,s.log⟩)
 else if x.kind=6 then (0,⟨(s.k.share s.prio s.turn).1,s.prio,s.turn,s.log⟩)
 else (1,s)
def Sy.new(procs:Int)(ps:List fM):Sy:=⟨((Krn.new procs ps).share (ps.map (·.prio)) 0).1,ps.map (·.prio),0,[]⟩
structure wF(i:Nat)(s:Sy):Prop where
 k:SI (i+1) (2100+2048 * i) s.k
 log:s.log.length≤i
 prio:s.prio.length≤8
theorem wF.new{procs:Int}{ps:List fM}(h:ec procs ps=0)(hw:∀ p∈ps, ∀ f∈p.funcs, ∀ i∈f,fL i.n):wF 0 (Sy.new procs ps):=by
 have h0:=fY.new h hw
 refine⟨(h0.si.share _ _).le (by omega) (by omega),Nat.zero_le _,?_⟩
 show(ps.map _).length≤8
 rw[List.length_map]
 have:=(iW h).2.2.2.2.2
 omega
theorem wF.more{i:Nat}{s:Sy}(h:wF i s):wF (i+1) s:=⟨h.k.le (by omega) (by omega),Nat.le_succ_of_le h.log,h.prio⟩
theorem ry(r:Int×gj×Int)(c:Int):(jQ r c).length≤1:=by unfold jQ;split <;> simp
theorem wF.do{i:Nat}{s:Sy}(h:wF i s)(hi:i≤400)(x:uf):wF (i+1) (s.do x).2:=by
 have hl:=h.log
 unfold Sy.do
 split
 ·refine⟨(h.k.step (by omega) _ _).le (by omega) (by omega),?_,h.prio⟩
  show(s.log++jQ _ _).length≤_
  have:=ry (s.k.step x.a x.b).1 x.b
  rw[List.length_append];omega
 ·split
  ·refine⟨h.k.tick.le (by omega) (by omega),?_,h.prio⟩
   show(s.log++[_]).length≤_
   rw[List.length_append];simp only[List.length_cons,List.length_nil];omega
  ·split
   ·refine⟨(h.k.done _ _).le (by omega) (by omega),?_,h.prio⟩
    show(s.log++(if _ then _ else _)).length≤_
    rw[List.length_append]
    split <;> simp only[List.length_cons,List.length_nil] <;> omega
   ·split
    ·exact⟨(h.k.preempt _).le (by omega) (by omega),Nat.le_succ_of_le hl,h.prio⟩
    ·split
     ·exact⟨h.k.le (by omega) (by omega),Nat.le_succ_of_le hl,h.prio⟩
     ·split
      ·exact⟨(h.k.share _ _).le (by omega) (by omega),Nat.le_succ_of_le hl,h.prio⟩
      ·exact h.more
theorem wF.rn{i:Nat}{s:Sy}(h:wF i s)(hi:i≤400):nk (2100+2048 * i) s.k:=h.k.rn (by omega) (by omega)
end Go.SLYthlllpngkljgfaaGreat
namespace Go.SLYthlllpngkljgfaaGreat
open Go Go.RowKit Go.ChangeAt Go.ChangeShapes Go.Deep
section
variable{H:Type}{enc:TypeId×Value→H}{P:Program}{W:World}{bulk:DataW H→Nat}
structure ym(bulk:DataW H→Nat):Prop where
 one:∀ d,1≤bulk d
 slice:∀ es sp,(es.map bulk).sum+1≤bulk (.slice es sp)
 agg:∀ ds,(ds.map bulk).sum≤bulk (.agg ds)
def fI(enc:TypeId×Value→H)(P:Program)(W:World)(bulk:DataW H→Nat)(t:TypeId){α:Type}(ea:α→List Value)(good:α→Nat→Prop):Prop :=
 ∀ fuel cs x,DataW.trod enc P W 0 (fun _=>true) true fuel t cs=some x→ ∃ a,cs=ea a∧good a (bulk x.1)
theorem fI.int{t:TypeId}{k:IntKind}(ht:P.underlying t=some (.int k)):fI enc P W bulk t (fun n:Int=>[.int k n]) (fun n _=>(Lit.int k n).wf=true):=fun fuel cs x h=>by
 obtain⟨n,rfl,_,hw⟩:=DataW.trod_int ht h
 exact⟨n,rfl,hw⟩
theorem fI.bool{t:TypeId}(ht:P.underlying t=some .bool):fI enc P W bulk t (fun b:Bool=>[.bool b]) (fun _ _=>True):=fun fuel cs x h=>by
 obtain⟨n,rfl,_⟩:=DataW.trod_bool ht h
 exact⟨n,rfl,trivial⟩
theorem Dy{l:List (DataW H)}{d:DataW H}(h:d∈l):bulk d≤(l.map bulk).sum:=by
 induction l with
 | nil=>cases h
 | cons x r ih =>
  simp only[List.map_cons,List.sum_cons]
  cases List.mem_cons.1 h with
  | inl e=>subst e;omega
  | inr e=>have:=ih e;omega
theorem J5(hb:ym bulk)(l:List (DataW H)):l.length≤(l.map bulk).sum:=by
 induction l with
 | nil=>simp
 | cons x r ih=>have:=hb.one x;simp only[List.map_cons,List.sum_cons,List.length_cons];omega
theorem fI.slice(hb:ym bulk){t e:TypeId}{k:Nat}{α:Type}{ea:α→List Value}{good:α→Nat→Prop}(ht:P.underlying t=some (.slice e))(hc:P.cellsOf e=k)(hk0:0<k)(hk:∀ a,(ea a).length=k)(he:fI enc P W bulk e ea good)
  (mono:∀ a m n,m≤n→good a m→good a n) :
  fI enc P W bulk t (fun p:Value×List α=>[p.1]) (fun p n=>ir W ea k p.1 p.2∧p.2.length+1≤n∧ ∀ a∈p.2,good a n):=fun fuel cs x h=>by
 rcases open_slice ht h with ⟨rfl,rfl⟩ | ⟨a,len,cap,m,n,D,Pl,rfl,hb0,hl,hm,hmm,rfl,hx⟩
 ·refine⟨(.slice none 0 0,[]),rfl,⟨⟨none,0,rfl,Nat.le_refl _,fun _ e _=>by(cases e),fun _=>rfl⟩,fun x hx=>(by cases hx),fun i x hx=>by simp at hx⟩,?_,fun a ha=>by cases ha⟩
  exact hb.one _
 ·simp only[if_true] at hmm
  have hmm':=hmm.symm
  subst hmm'
  have each:∀ i,i<len→ ∃ q:Option α, ∃ y,q=some y∧W.cells? 0 (a.add (i * k)) k=some (ea y)∧good y (bulk (D i)):=fun i hi=>by
   obtain⟨cs',h1,h2⟩:=hx i (Nat.lt_of_lt_of_le hi hl)
   obtain⟨y,rfl,hg⟩:=he _ _ _ h2
   rw[hc] at h1
   exact⟨some y,y,rfl,h1,hg⟩
  obtain⟨f,hf⟩:=choose_lt each
  obtain⟨xs,hxs,hxl⟩:∃ xs:List α,(∀ i y,xs[i]?=some y→i<len∧f i=some y)∧xs.length=len:=by
   clear h hx each
   induction len with
   | zero=>exact⟨[],fun i y h=>by simp at h,rfl⟩
   | succ len ih =>
    obtain⟨xs,h1,h2⟩:=ih (by omega) (fun i hi=>hf i (by omega))
    obtain⟨y,hy,_⟩:=hf len (by omega)
    refine⟨xs++[y],fun i z hz=>?_,by simp[h2]⟩
    by_cases hi:i<xs.length
    ·rw[List.getElem?_append_left hi] at hz
     have:=h1 i z hz
     exact⟨by omega,this.2⟩
    ·rw[List.getElem?_append_right (by omega)] at hz
     have hi0:=(List.getElem?_eq_some_iff.1 hz).1
     simp at hi0
     obtain rfl:i=len:=by omega
     simp[h2] at hz
     subst hz
     exact⟨by omega,hy⟩
  have spot:xs≠[]→a.spot=none:=fun hne=>by
   have h0:0<len:=by rw[← hxl];exact List.length_pos_iff.2 hne
   obtain⟨y,_,hcs,_⟩:=hf 0 h0
   obtain⟨_,hlen,hcell⟩:=World.cells?_some hcs
   have h1:=hcell 0 hk0
   rw[List.getElem?_eq_getElem (by rw[hk];exact hk0)] at h1
   have:=World.cell?_spot h1
   simpa [Addr.add] using this
  have hlenb:len+1≤bulk (.slice ((List.range len).map D) ((List.range (cap-len)).map fun j=>D (len+j))):=by
   have h1:=hb.slice ((List.range len).map D) ((List.range (cap-len)).map fun j=>D (len+j))
   have h2:=J5 hb ((List.range len).map D)
   simp only[List.length_map,List.length_range] at h2
   omega
  refine⟨(.slice (some a) len cap,xs),rfl,⟨⟨some a,cap,by rw[hxl],(by rw[hxl];exact hl),fun b e hne=>by cases e;exact spot hne,fun e=>by cases e⟩,fun x _=>hk x,fun i x hi c u hu=>?_⟩,by rw[hxl];exact hlenb,fun y hy=>?_⟩
  ·obtain⟨hil,hfi⟩:=hxs i x hi
   obtain⟨y,hy,hcs,_⟩:=hf i hil
   rw[hfi] at hy
   cases hy
   obtain⟨_,hlen,hcell⟩:=World.cells?_some hcs
   have hck:=(List.getElem?_eq_some_iff.1 hu).1
   rw[hk] at hck
   have h1:=hcell c hck
   rw[hu] at h1
   have hs:=spot (by intro e;subst e;simp at hi)
   obtain⟨b,o,s⟩:=a
   simp only at hs
   subst hs
   rw[dE,dE] at h1
   exact h1
  ·obtain⟨i,hi⟩:=List.mem_iff_getElem?.1 hy
   obtain⟨hil,hfi⟩:=hxs i y hi
   obtain⟨z,hz,_,hg⟩:=hf i hil
   rw[hfi] at hz
   cases hz
   refine mono y _ _ ?_ hg
   have h1:=hb.slice ((List.range len).map D) ((List.range (cap-len)).map fun j=>D (len+j))
   have h2:bulk (D i)≤(((List.range len).map D).map bulk).sum:=Dy (List.mem_map.2 ⟨i,List.mem_range.2 hil,rfl⟩)
   exact Nat.le_trans h2 (Nat.le_trans (Nat.le_succ _) h1)
theorem jR(hb:ym bulk){t:TypeId}{fs:Array Field}{fuel:Nat}{cs:List Value}{x:DataW H×List MemPlace}(ht:P.underlying t=some (.struct fs))(hc:P.cellsOf t=fs.size)(ho:∀ (i:Nat) (f:Field),fs[i]?=some f→f.offset=i∧P.cellsOf f.type=1)
  (h:DataW.trod enc P W 0 (fun _=>true) true fuel t cs=some x) :
  cs.length=fs.size∧ ∀ (i:Nat) (f:Field),fs[i]?=some f→ ∃ v fuel y,cs[i]?=some v∧DataW.trod enc P W 0 (fun _=>true) true fuel f.type [v]=some y∧bulk y.1≤bulk x.1:=by
 obtain⟨xs,n,rfl,rfl,hl,hxl,hf⟩:=DataW.trod_struct ht h
 refine⟨hl.trans hc,fun i f hi=>?_⟩
 have hlt:=(Array.getElem?_eq_some_iff.1 hi).1
 have h1:=hf i f hi
 obtain⟨ho1,ho2⟩:=ho i f hi
 have hil:i<cs.length:=by omega
 rw[ho1,ho2,List.drop_eq_getElem_cons hil,List.take_succ_cons,List.take_zero,List.getElem?_eq_getElem (by omega)] at h1
 refine⟨cs[i],n,_,List.getElem?_eq_getElem hil,h1,?_⟩
 have h2:=hb.agg (xs.map (·.1))
 have h3:bulk (xs[i]'(by omega)).1≤((xs.map (·.1)).map bulk).sum:=Dy (List.mem_map.2 ⟨_,List.getElem_mem _,rfl⟩)
 exact Nat.le_trans h3 h2
/-! ### A law's end -/
theorem wG(hl:laidOutB P=true){W W':World}(hb:Below W.heap.size W W'){sp:Nat→Bool} :
  ∀ {ts:List TypeId} {vs:List Value} {ds:List (DataW H)} {p:List MemPlace},ts.all (fun t=>P.readableRec t && decide (t<P.types.size))=true→DataW.TrodAll enc P W 0 (fun _=>true) true ts vs ds p→(∀ x∈p,x.block<W.heap.size)→(∀ x∈p,sp x.block=true)→
   DataW.TrodAll enc P W' 0 sp true ts vs ds p
 | [],[],[],_,_,h,_,_=>h
 | [],[],_::_,_,_,h,_,_=>h.elim
 | [],_::_,_,_,_,h,_,_=>h.elim
 | _::_,[],_,_,_,h,_,_=>h.elim
 | _::_,_::_,[],_,_,h,_,_=>h.elim
 | t::ts,v::vs,d::ds,ps,hr,h,hlt,hsp=>by
  obtain⟨p,q,h1,h2,rfl⟩:=h
  simp only[List.all_cons,Bool.and_eq_true,decide_eq_true_eq] at hr
  refine⟨p,q,WideElems.Trod_stays hl hr.1.1 hr.1.2 h1 (fun x hx=>hb.same (hlt x (by simp[hx]))) (fun x hx=>hsp x (by simp[hx])),?_,rfl⟩
  exact wG hl hb (by simpa using hr.2) h2 (fun x hx=>hlt x (by simp[hx])) (fun x hx=>hsp x (by simp[hx]))
theorem pP{f:Func}{s:ChangeSpec}{apart fresh handsOn again:Bool}{W W':World}{args:Array Value}{ds gs:List (DataW H)}{before:List MemPlace}{tb:TypeId}
  (hl:laidOutB P=true) (hrd:f.params.toList.all (fun t=>P.readableRec t && decide (t<P.types.size))=true) (hv:s.vars=[]) (hr:f.resultTypes = #[tb]) (htb:P.underlying tb=some .bool)
  (hW:DataW.Whole enc P f.params.toList s.vars apart W args.toList ds gs before) (h1:(s.fn H ds).results=[.lit (.bool true)]) (h2:(s.fn H ds).args=ds) (h3:(s.fn H ds).vars=[])
  (hb:Below W.heap.size W W'):s.post enc P f apart fresh handsOn again W args (.bool true) W':=by
 have hlt:=fun p hp=>hW.lt p hp
 have hW':=hW
 obtain⟨p,q,hA,hV,rfl,hz,hn⟩:=hW'
 rw[hv] at hV
 obtain⟨rfl,rfl⟩:=trodVars_none hV
 have hres:∀ (b:Nat) (sp:Nat→Bool) (hd:Bool),DataW.TrodAll enc P W' b sp hd f.resultTypes.toList ((Value.bool true).resultList f.resultTypes.size) (s.fn H (ds++[])).results []:=fun b sp hd=>by
  rw[List.append_nil,h1,hr]
  exact trodAll_cons_mk (shut_bool htb _) trodAll_mk0
 have hargs:∀ sp:Nat→Bool,(∀ x∈p++[],sp x.block=true)→DataW.TrodAll enc P W' 0 sp true f.params.toList args.toList (s.fn H (ds++[])).args p:=fun sp hsp=>by
  rw[List.append_nil,h2]
  exact wG hl hb hrd hA (fun x hx=>hlt x (by simp[hx])) (fun x hx=>hsp x (by simp[hx]))
 have hvars:∀ sp:Nat→Bool,DataW.TrodVars enc P W' sp s.vars (s.fn H (ds++[])).vars []:=fun sp=>by
  rw[List.append_nil,h3,hv];rfl
 have hold:∀ x∈p++[],(fun b=>decide (b<W.heap.size)) x.block=true:=fun x hx=>by simpa using hlt x hx
 refine⟨ds,[],p++[],[],p,[],hW,hres _ _ _,hargs _ hold,hvars _,World.keptBut_mono (fun x hx=>⟨hx,?_⟩) (hb.frame _),fun _=>?_⟩
 ·simp only[List.append_nil] at hx
  exact Or.inr (by simpa using hx)
 ·refine⟨ok_one hr rfl (okWide_bool_mk htb _),_,_,([]++p)++[],⟨[]++p,[],trodAll_append (hargs _ (fun _ _=>rfl)) (hres _ _ _),hvars _,rfl,?_,?_⟩,?_⟩
  ·intro b off hp
   have hp':MemPlace.cell b off∈p:=by simpa using hp
   have:=hz b off (by simp[hp'])
   rw[← this]
   exact hb.frozen (p:=⟨b,off,none⟩) (hlt (.cell b off) (by simp[hp']))
  ·intro ha
   simpa using hn ha
  ·intro x hx _
   simpa using hx
theorem Fn.done{f:FuncId}{args:List Value}{X:Type}{v:Value}(h:Fn P W f args [] X (fun _=>v) (fun _=>True) (fun _=>[])):Calls P f args.toArray W fun e w'=>e = .returned v∧Below W.heap.size W w' :=
 (h SLYthlllpngkljgfaaGreat.emp W (by simpa only[seps,aJ] using Sat.empty)).mono fun e w' ⟨x,he,_,hs⟩=>⟨he,hs.K0⟩
end
end Go.SLYthlllpngkljgfaaGreat
namespace Go.Proofs.YthlllpngkljgfaaGreat
open Go Go.RowKit Go.ChangeShapes Go.WideShapes Go.ChangeAt Go.SLYthlllpngkljgfaaGreat
/-! the bulk of what is read -/
theorem lf{H:Type}:∀ l:List (DataW H),Rows.uptoBulkAll l=(l.map Rows.uptoBulk).sum
 | []=>by simp[Rows.uptoBulkAll]
 | d::r=>by simp[Rows.uptoBulkAll,lf r]
theorem jZ{H:Type}:ym (Rows.uptoBulk (H:=H)) where
 one:=fun d=>by
  cases d with
  | lit l=>cases l <;> simp[Rows.uptoBulk]
  | nil=>simp[Rows.uptoBulk]
  | ptr d=>simp[Rows.uptoBulk]
  | slice elems spare=>simp[Rows.uptoBulk]
  | agg parts=>simp[Rows.uptoBulk]
  | iface t d=>simp[Rows.uptoBulk]
  | map entries=>simp[Rows.uptoBulk]
  | held h=>simp[Rows.uptoBulk]
 slice:=fun es sp=>by rw[← lf];simp only[Rows.uptoBulk];omega
 agg:=fun ds=>by rw[← lf];simp only[Rows.uptoBulk];omega
theorem bound{H:Type}{l:List (DataW H)}(hk:Rows.uptoSmall H l=true):(l.map Rows.uptoBulk).sum≤1048576:=by
 rw[← lf];simpa [Rows.uptoSmall] using hk
structure Dz(W:World)(v:aN)(n:Nat):Prop where
 fs:ir W ej 1 v.fv v.fs
 ins:∀ x∈v.fs,ir W dH 5 x.1 x.2
 bI:ir W au 1 v.sv v.bI
 aZ:ir W au 1 v.pv v.aZ
 fl:v.fs.length≤n
 sl:v.bI.length≤n
 pl:v.aZ.length≤n
 wo:∀ f∈v.p.funcs, ∀ i∈f,fL i.n
theorem Dz.rd{W:World}{v:aN}{n:Nat}(h:Dz W v n)(H:List aa):eM W H v:=⟨.old h.fs,fun x hx=>.old (h.ins x hx),.old h.bI,.old h.aZ⟩
section
variable{H:Type}{enc:TypeId×Value→H}{W:World}
theorem H9:fI enc Tryz.prog W Rows.uptoBulk 112 dH (fun i _=>fL i.n):=fun fuel cs x h=>by
 obtain⟨hl,hf⟩:=jR jZ Tryz.underlying112 (by kernel_rfl) (by
  intro i f hi
  match i,hi with
  | 0,hi=>cases hi;exact⟨rfl,by kernel_rfl⟩
  | 1,hi=>cases hi;exact⟨rfl,by kernel_rfl⟩
  | 2,hi=>cases hi;exact⟨rfl,by kernel_rfl⟩
  | 3,hi=>cases hi;exact⟨rfl,by kernel_rfl⟩
  | 4,hi=>cases hi;exact⟨rfl,by kernel_rfl⟩
  | n+5,hi=>simp at hi) h
 obtain⟨v0,n0,y0,e0,t0,_⟩:=hf 0 _ rfl
 obtain⟨v1,n1,y1,e1,t1,_⟩:=hf 1 _ rfl
 obtain⟨v2,n2,y2,e2,t2,_⟩:=hf 2 _ rfl
 obtain⟨v3,n3,y3,e3,t3,_⟩:=hf 3 _ rfl
 obtain⟨v4,n4,y4,e4,t4,_⟩:=hf 4 _ rfl
 obtain⟨a0,r0,_,_⟩:=DataW.trod_int Tryz.underlying3 t0
 obtain⟨a1,r1,_,_⟩:=DataW.trod_int Tryz.underlying3 t1
 obtain⟨a2,r2,_,_⟩:=DataW.trod_int Tryz.underlying3 t2
 obtain⟨a3,r3,_,_⟩:=DataW.trod_int Tryz.underlying3 t3
 obtain⟨a4,r4,_,w4⟩:=DataW.trod_int Tryz.underlying110 t4
 cases r0;cases r1;cases r2;cases r3;cases r4
 refine⟨⟨a0,a1,a2,a3,a4⟩,?_,bounds_u64 w4⟩
 match cs,hl with
 | [w0,w1,w2,w3,w4],_ =>
  simp at e0 e1 e2 e3 e4
  subst e0 e1 e2 e3 e4
  rfl
theorem E4:fI enc Tryz.prog W Rows.uptoBulk 113 (ej (α:=List Ins)) (fun p n=>ir W dH 5 p.1 p.2∧p.2.length+1≤n∧ ∀ a∈p.2,fL a.n) :=
 fI.slice jZ Tryz.underlying113 (by kernel_rfl) (by decide) (fun _=>rfl) H9 (fun _ _ _ _ h=>h)
theorem BW:fI enc Tryz.prog W Rows.uptoBulk 54 (fun p:Value×List (Value×List Ins)=>[p.1]) (fun p n=>ir W ej 1 p.1 p.2∧p.2.length+1≤n∧ ∀ a∈p.2,ir W dH 5 a.1 a.2∧a.2.length+1≤n∧ ∀ b∈a.2,fL b.n) :=
 fI.slice jZ Tryz.underlying54 (by kernel_rfl) (by decide) (fun _=>rfl) E4 (fun _ _ _ hm h=>⟨h.1,Nat.le_trans h.2.1 hm,h.2.2⟩)
theorem wH:fI enc Tryz.prog W Rows.uptoBulk 50 (fun p:Value×List Int=>[p.1]) (fun p n=>ir W au 1 p.1 p.2∧p.2.length+1≤n∧ ∀ a∈p.2,True) :=
 fI.slice jZ Tryz.underlying50 (by kernel_rfl) (by decide) (fun _=>rfl) (fun fuel cs x h=>by
  obtain⟨n,rfl,_,_⟩:=DataW.trod_int Tryz.underlying3 h
  exact⟨n,rfl,trivial⟩) (fun _ _ _ _ _=>trivial)
theorem Ia:fI enc Tryz.prog W Rows.uptoBulk 56 ed (fun v n=>Dz W v n):=fun fuel cs x h=>by
 obtain⟨hl,hf⟩:=jR jZ Tryz.underlying56 (by kernel_rfl) (by
  intro i f hi
  match i,hi with
  | 0,hi=>cases hi;exact⟨rfl,by kernel_rfl⟩
  | 1,hi=>cases hi;exact⟨rfl,by kernel_rfl⟩
  | 2,hi=>cases hi;exact⟨rfl,by kernel_rfl⟩
  | 3,hi=>cases hi;exact⟨rfl,by kernel_rfl⟩
  | 4,hi=>cases hi;exact⟨rfl,by kernel_rfl⟩
  | 5,hi=>cases hi;exact⟨rfl,by kernel_rfl⟩
  | 6,hi=>cases hi;exact⟨rfl,by kernel_rfl⟩
  | 7,hi=>cases hi;exact⟨rfl,by kernel_rfl⟩
  | n+8,hi=>simp at hi) h
 obtain⟨v0,n0,y0,e0,t0,b0⟩:=hf 0 _ rfl
 obtain⟨v1,n1,y1,e1,t1,_⟩:=hf 1 _ rfl
 obtain⟨v2,n2,y2,e2,t2,_⟩:=hf 2 _ rfl
 obtain⟨v3,n3,y3,e3,t3,_⟩:=hf 3 _ rfl
 obtain⟨v4,n4,y4,e4,t4,b4⟩:=hf 4 _ rfl
 obtain⟨v5,n5,y5,e5,t5,b5⟩:=hf 5 _ rfl
 obtain⟨v6,n6,y6,e6,t6,_⟩:=hf 6 _ rfl
 obtain⟨v7,n7,y7,e7,t7,_⟩:=hf 7 _ rfl
 obtain⟨⟨fv,fs⟩,r0,f1,f2,f3⟩:=BW _ _ _ t0
 obtain⟨a1,r1,_,_⟩:=DataW.trod_int Tryz.underlying3 t1
 obtain⟨a2,r2,_,_⟩:=DataW.trod_int Tryz.underlying3 t2
 obtain⟨a3,r3,_,_⟩:=DataW.trod_int Tryz.underlying3 t3
 obtain⟨⟨sv,bI⟩,r4,s1,s2,_⟩:=wH _ _ _ t4
 obtain⟨⟨pv,aZ⟩,r5,p1,p2,_⟩:=wH _ _ _ t5
 obtain⟨a6,r6,_,_⟩:=DataW.trod_int Tryz.underlying3 t6
 obtain⟨a7,r7,_,_⟩:=DataW.trod_int Tryz.underlying3 t7
 cases r0;cases r1;cases r2;cases r3;cases r4;cases r5;cases r6;cases r7
 refine⟨⟨fv,fs,a1,a2,a3,sv,bI,pv,aZ,a6,a7⟩,?_,⟨f1,fun x hx=>(f3 x hx).1,s1,p1,?_,?_,?_,?_⟩⟩
 ·match cs,hl with
  | [w0,w1,w2,w3,w4,w5,w6,w7],_ =>
   simp at e0 e1 e2 e3 e4 e5 e6 e7
   subst e0 e1 e2 e3 e4 e5 e6 e7
   rfl
 ·exact Nat.le_trans (Nat.le_of_succ_le f2) b0
 ·exact Nat.le_trans (Nat.le_of_succ_le s2) b4
 ·exact Nat.le_trans (Nat.le_of_succ_le p2) b5
 ·intro f hf i hi
  obtain⟨q,hq,rfl⟩:=List.mem_map.1 hf
  exact(f3 q hq).2.2 i hi
theorem wI:fI enc Tryz.prog W Rows.uptoBulk 22 (fun p:Value×List aN=>[p.1]) (fun p n=>ir W ed 8 p.1 p.2∧p.2.length+1≤n∧ ∀ a∈p.2,Dz W a n) :=
 fI.slice jZ Tryz.underlying22 (by kernel_rfl) (by decide) (fun _=>rfl) Ia (fun _ _ _ hm h=>⟨h.fs,h.ins,h.bI,h.aZ,Nat.le_trans h.fl hm,Nat.le_trans h.sl hm,Nat.le_trans h.pl hm,h.wo⟩)
theorem Ib:fI enc Tryz.prog W Rows.uptoBulk 34 mB (fun _ _=>True):=fun fuel cs x h=>by
 obtain⟨hl,hf⟩:=jR jZ Tryz.underlying34 (by kernel_rfl) (by
  intro i f hi
  match i,hi with
  | 0,hi=>cases hi;exact⟨rfl,by kernel_rfl⟩
  | 1,hi=>cases hi;exact⟨rfl,by kernel_rfl⟩
  | 2,hi=>cases hi;exact⟨rfl,by kernel_rfl⟩
  | n+3,hi=>simp at hi) h
 obtain⟨v0,n0,y0,e0,t0,_⟩:=hf 0 _ rfl
 obtain⟨v1,n1,y1,e1,t1,_⟩:=hf 1 _ rfl
 obtain⟨v2,n2,y2,e2,t2,_⟩:=hf 2 _ rfl
 obtain⟨a0,r0,_,_⟩:=DataW.trod_int Tryz.underlying3 t0
 obtain⟨a1,r1,_,_⟩:=DataW.trod_int Tryz.underlying3 t1
 obtain⟨a2,r2,_,_⟩:=DataW.trod_int Tryz.underlying3 t2
 cases r0;cases r1;cases r2
 refine⟨⟨a0,a1,a2⟩,?_,trivial⟩
 match cs,hl with
 | [w0,w1,w2],_ =>
  simp at e0 e1 e2
  subst e0 e1 e2
  rfl
theorem wJ:fI enc Tryz.prog W Rows.uptoBulk 23 (fun p:Value×List uf=>[p.1]) (fun p n=>ir W mB 3 p.1 p.2∧p.2.length+1≤n∧ ∀ a∈p.2,True) :=
 fI.slice jZ Tryz.underlying23 (by kernel_rfl) (by decide) (fun _=>rfl) Ib (fun _ _ _ _ _=>trivial)
theorem Ic:fI enc Tryz.prog W Rows.uptoBulk 115 cP (fun _ _=>True):=fun fuel cs x h=>by
 obtain⟨hl,hf⟩:=jR jZ Tryz.underlying115 (by kernel_rfl) (by
  intro i f hi
  match i,hi with
  | 0,hi=>cases hi;exact⟨rfl,by kernel_rfl⟩
  | 1,hi=>cases hi;exact⟨rfl,by kernel_rfl⟩
  | 2,hi=>cases hi;exact⟨rfl,by kernel_rfl⟩
  | 3,hi=>cases hi;exact⟨rfl,by kernel_rfl⟩
  | 4,hi=>cases hi;exact⟨rfl,by kernel_rfl⟩
  | 5,hi=>cases hi;exact⟨rfl,by kernel_rfl⟩
  | n+6,hi=>simp at hi) h
 obtain⟨v0,n0,y0,e0,t0,_⟩:=hf 0 _ rfl
 obtain⟨v1,n1,y1,e1,t1,_⟩:=hf 1 _ rfl
 obtain⟨v2,n2,y2,e2,t2,_⟩:=hf 2 _ rfl
 obtain⟨v3,n3,y3,e3,t3,_⟩:=hf 3 _ rfl
 obtain⟨v4,n4,y4,e4,t4,_⟩:=hf 4 _ rfl
 obtain⟨v5,n5,y5,e5,t5,_⟩:=hf 5 _ rfl
 obtain⟨a0,r0,_,_⟩:=DataW.trod_int Tryz.underlying110 t0
 obtain⟨a1,r1,_,_⟩:=DataW.trod_int Tryz.underlying3 t1
 obtain⟨a2,r2,_,_⟩:=DataW.trod_int Tryz.underlying110 t2
 obtain⟨a3,r3,_,_⟩:=DataW.trod_int Tryz.underlying110 t3
 obtain⟨a4,r4,_,_⟩:=DataW.trod_int (show Tryz.prog.underlying _=some (.int .i64) by kernel_rfl) t4
 obtain⟨a5,r5,_⟩:=DataW.trod_bool Tryz.underlying4 t5
 cases r0;cases r1;cases r2;cases r3;cases r4;cases r5
 refine⟨⟨a0,a1,a2,a3,a4,a5⟩,?_,trivial⟩
 match cs,hl with
 | [w0,w1,w2,w3,w4,w5],_ =>
  simp at e0 e1 e2 e3 e4 e5
  subst e0 e1 e2 e3 e4 e5
  rfl
theorem wK:fI enc Tryz.prog W Rows.uptoBulk 44 (fun p:Value×List Rec=>[p.1]) (fun p n=>ir W cP 6 p.1 p.2∧p.2.length+1≤n∧ ∀ a∈p.2,True) :=
 fI.slice jZ Tryz.underlying44 (by kernel_rfl) (by decide) (fun _=>rfl) Ic (fun _ _ _ _ _=>trivial)
end
theorem own:ownKnob Tryz.prog.godebug=none:=by kernel_rfl
theorem laid:laidOutB Tryz.prog=true:=by kernel_rfl
end Go.Proofs.YthlllpngkljgfaaGreat
namespace Go.SLYthlllpngkljgfaaGreat
open Go Go.RowKit
class jB(P:Program)(t:TypeId)(u:outParam TypeDesc):Prop where
 ok:P.underlying t=some u
class iH(P:Program)(t:TypeId)(k:outParam Nat):Prop where
 ok:∀ w,(sizeOf t).run P w = .ok k w
class One(P:Program)(t:TypeId):Prop where
 ok:∀ w,(isAgg t).run P w = .ok false w
class jx(P:Program)(t:TypeId):Prop where
 ok:∀ w,(isAgg t).run P w = .ok true w
class cN(P:Program)(S:TypeId)(f:Nat)(k:outParam Nat):Prop where
 ok:∀ (b o:Nat) (w:World),(Instr.fieldAt S (.pointer (some ⟨b,o,none⟩)) f).run P w = .ok (.pointer (some ⟨b,o+k,none⟩)) w
section
variable{P:Program}{W:World}{N:Nat}{Q:Exit→Act→World→Prop}{L:List (Nat×Option Value)}{H:List aa}{O:Array Oper}{T:TypeId}{K:List aa}{ks:List Nat}
theorem Y.o{S:TypeId}{f k:Nat}[h:cN P S f k]{x:Operand}{b o:Nat}(hx:ev L x=some (.pointer (some ⟨b,o,none⟩))):Y P W N (.fieldAddr S x f) T L H (.pointer (some ⟨b,o+k,none⟩)):=fun dst pos after guard a w ha hs=>by
 simp only[execOp,ha.eval hx]
 exact bN (h.ok b o w)
theorem Y.f{S:TypeId}{f k:Nat}[h:cN P S f k]{x:Operand}{b:Nat}(hx:ev L x=some (.pointer (some ⟨b,0,none⟩))):Y P W N (.fieldAddr S x f) T L H (.pointer (some ⟨b,k,none⟩)):=by
 have:=Y.o (P:=P) (W:=W) (N:=N) (H:=H) (T:=T) (S:=S) (f:=f) (k:=k) hx
 rwa [Nat.zero_add] at this
theorem Y.z{S:TypeId}{f:Nat}[h:cN P S f 0]{x:Operand}{b o:Nat}(hx:ev L x=some (.pointer (some ⟨b,o,none⟩))):Y P W N (.fieldAddr S x f) T L H (.pointer (some ⟨b,o,none⟩)):=Y.o (k:=0) hx
theorem Y.ld{x:Operand}{b o:Nat}{v:Value}[h:One P T]{T':TypeId}(hx:ev L x=some (.pointer (some ⟨b,o,none⟩)))(hc:Cell W H b o v):Y P W N (.load T x) T' L H v:=Y.load h.ok hx hc
theorem Y.l{x:Operand}{b i:Nat}{v:Value}{cs:List Value}[h:One P T]{T':TypeId}(hx:ev L x=some (.pointer (some ⟨b,i,none⟩)))[hh:bX H b 0 cs](hc:cs[i]?=some v:=by rfl):Y P W N (.load T x) T' L H v:=Y.load h.ok hx (Cell.a hc)
theorem Y.lo{x:Operand}{b o i:Nat}{v:Value}{cs:List Value}[h:One P T]{T':TypeId}(hx:ev L x=some (.pointer (some ⟨b,o+i,none⟩)))[hh:bX H b o cs](hc:cs[i]?=some v:=by rfl):Y P W N (.load T x) T' L H v:=Y.load h.ok hx (Cell.ao hc)
theorem Y.lz{x:Operand}{b o:Nat}{v:Value}{cs:List Value}[h:One P T]{T':TypeId}(hx:ev L x=some (.pointer (some ⟨b,o,none⟩)))[hh:bX H b o cs](hc:cs[0]?=some v:=by rfl):Y P W N (.load T x) T' L H v:=Y.load h.ok hx (Cell.az hc)
theorem Y.lr{α:Type}{enc:α→List Value}{k i:Nat}{v u:Value}{xs:List α}{y:α}{x:Operand}[h:One P T]{T':TypeId}(hx:ev L x=some (.pointer (some ⟨blk v,eg v+i * k,none⟩)))(hy:xs[i]?=some y)[hr:aw W H v enc k xs](hu:(enc y)[0]?=some u:=by rfl):Y P W N (.load T x) T' L H u:=Y.load h.ok hx (Cell.KH hr.rd hy hu)
theorem Y.la{x:Operand}{b o k:Nat}{cs:List Value}[h:jx P T][z:iH P T k]{T':TypeId}(hx:ev L x=some (.pointer (some ⟨b,o,none⟩)))(hc:Cells W H b o cs)(hz:cs.length=k:=by rfl):Y P W N (.load T x) T' L H (.agg cs.toArray):=Y.FZ h.ok hx hc (by rw[hz];exact z.ok)
theorem Y.lA{x:Operand}{b o k:Nat}{cs:List Value}[h:jx P T][z:iH P T k]{T':TypeId}(hx:ev L x=some (.pointer (some ⟨b,o,none⟩)))[hh:bX H b o cs](hz:cs.length=k:=by rfl):Y P W N (.load T x) T' L H (.agg cs.toArray):=Y.la hx Cells.a hz
theorem Y.len{α:Type}{enc:α→List Value}{k:Nat}{x:Operand}{t e:TypeId}{v:Value}{xs:List α}[hu:jB P t (.slice e)](hx:ev L x=some v)[h:aw W H v enc k xs]:Y P W N (.call ⟨.builtin .len, #[x], #[t]⟩) T L H (.int .i64 (xs.length:Int)):=Y.FV hu.ok hx h.rd
theorem Y.lens{x:Operand}{t e:TypeId}{p:Option Addr}{n c:Nat}[hu:jB P t (.slice e)](hx:ev L x=some (.slice p n c)):Y P W N (.call ⟨.builtin .len, #[x], #[t]⟩) T L H (.int .i64 n):=Y.yM hu.ok hx
theorem Y.ix{α:Type}{enc:α→List Value}{k:Nat}{x y:Operand}{t e:TypeId}{v:Value}{xs:List α}{kd:IntKind}{j:Int}(i:Nat)[hu:jB P t (.slice e)][hz:iH P e k](hx:ev L x=some v)(hy:ev L y=some (.int kd j))[h:aw W H v enc k xs](hj:j=(i:Int))(hi:i<xs.length):Y P W N (.indexAddr t x y) T L H (.pointer (some ⟨blk v,eg v+i * k,none⟩)):=Y.sM i hu.ok hz.ok hx hy h.rd hj hi
theorem Y.Oo{xT e yT:TypeId}{x y:Operand}{p:Option Addr}[hu:jB P xT (.pointer e)](hx:ev L x=some (.pointer p))(hy:ev L y=some (.pointer none)):Y P W N (.binOp .eql xT x y yT) T L H (.bool p.isNone):=Y.FQ hu.ok hx hy
theorem Y.NV{xT e yT:TypeId}{x y:Operand}{p:Option Addr}[hu:jB P xT (.pointer e)](hx:ev L x=some (.pointer p))(hy:ev L y=some (.pointer none)):Y P W N (.binOp .neq xT x y yT) T L H (.bool (!p.isNone)):=Y.DV hu.ok hx hy
theorem aS.p{op:Op}{pos:String}{after:Array Edge}{d:Nat}{rest:List Oper}{v:Value}(hy:Y P W N op T L H v)(k:aS P W N O Q rest ((d,some v)::L) H)(hN:Nat.blt d N=true:=by rfl):aS P W N O Q (⟨some d,op,T,pos,after,none⟩::rest) L H:=aS.y hN hy k
theorem aS.g{op:Op}{pos:String}{after:Array Edge}{d j t:Nat}{want:Bool}{rest:List Oper}{v:Value}(hy:Y P W N op T L H v)(k:aS P W N O Q rest ((d,some v)::L) H)(hj:(O[j]?).bind (·.dst)=some t:=by rfl)(ht:look L t=some (.bool want):=by rfl)(hN:Nat.blt d N=true:=by rfl):aS P W N O Q (⟨some d,op,T,pos,after,some (j,want)⟩::rest) L H:=aS.yg hj ht hN hy k
theorem aS.u{op:Op}{pos:String}{after:Array Edge}{d j t:Nat}{want:Bool}{rest:List Oper}{u:Value}(k:aS P W N O Q rest ((d,some undef)::L) H)(hj:(O[j]?).bind (·.dst)=some t:=by rfl)(ht:look L t=some u:=by rfl)(hb:(boolOf u == some want)=false:=by rfl)(hN:Nat.blt d N=true:=by rfl):aS P W N O Q (⟨some d,op,T,pos,after,some (j,want)⟩::rest) L H:=aS.skip hj ht hb hN k
theorem bc.p{op:Op}{pos:String}{after:Array Edge}{d:Nat}{rest:List Oper}{v:Value}(hy:Y P W N op T L H v)(k:bc P W N K O Q ks rest ((d,some v)::L) H)(hN:Nat.blt d N=true:=by rfl):bc P W N K O Q (1::ks) (⟨some d,op,T,pos,after,none⟩::rest) L H:=bc.s hN hy k
theorem bc.q{op:Op}{pos:String}{after:Array Edge}{d:Nat}{rest:List Oper}{v:Value}(hy:Y P W N op T L K v)(k:bc P W N K O Q ks rest ((d,some v)::L) H)(hN:Nat.blt d N=true:=by rfl)(hK:∀ w,Sat W w (seps H)→Sat W w (seps K):=by exact Kept.auto):bc P W N K O Q (0::ks) (⟨some d,op,T,pos,after,none⟩::rest) L H:=bc.k hN hK hy k
theorem bc.g{op:Op}{pos:String}{after:Array Edge}{d j t:Nat}{want:Bool}{rest:List Oper}{v:Value}(hy:Y P W N op T L H v)(k:bc P W N K O Q ks rest ((d,some v)::L) H)(hj:(O[j]?).bind (·.dst)=some t:=by rfl)(ht:look L t=some (.bool want):=by rfl)(hN:Nat.blt d N=true:=by rfl):bc P W N K O Q (1::ks) (⟨some d,op,T,pos,after,some (j,want)⟩::rest) L H:=bc.sg hj ht hN hy k
theorem bc.h{op:Op}{pos:String}{after:Array Edge}{d j t:Nat}{want:Bool}{rest:List Oper}{v:Value}(hy:Y P W N op T L K v)(k:bc P W N K O Q ks rest ((d,some v)::L) H)(hj:(O[j]?).bind (·.dst)=some t:=by rfl)(ht:look L t=some (.bool want):=by rfl)(hN:Nat.blt d N=true:=by rfl)(hK:∀ w,Sat W w (seps H)→Sat W w (seps K):=by exact Kept.auto):bc P W N K O Q (0::ks) (⟨some d,op,T,pos,after,some (j,want)⟩::rest) L H:=bc.kg hj ht hN hK hy k
theorem bc.u{op:Op}{pos:String}{after:Array Edge}{d j t:Nat}{want:Bool}{rest:List Oper}{u:Value}(k:bc P W N K O Q ks rest ((d,some undef)::L) H)(hj:(O[j]?).bind (·.dst)=some t:=by rfl)(ht:look L t=some u:=by rfl)(hb:(boolOf u == some want)=false:=by rfl)(hN:Nat.blt d N=true:=by rfl)(hK:∀ w,Sat W w (seps H)→Sat W w (seps K):=by exact Kept.auto):bc P W N K O Q (0::ks) (⟨some d,op,T,pos,after,some (j,want)⟩::rest) L H:=bc.Mx hj ht hb hN hK k
theorem bc.w{op:Op}{pos:String}{after:Array Edge}{d j t:Nat}{want:Bool}{rest:List Oper}{u:Value}(k:bc P W N K O Q ks rest ((d,some undef)::L) H)(hj:(O[j]?).bind (·.dst)=some t:=by rfl)(ht:look L t=some u:=by rfl)(hb:(boolOf u == some want)=false:=by rfl)(hN:Nat.blt d N=true:=by rfl):bc P W N K O Q (1::ks) (⟨some d,op,T,pos,after,some (j,want)⟩::rest) L H:=bc.My hj ht hb hN k
end
end Go.SLYthlllpngkljgfaaGreat
