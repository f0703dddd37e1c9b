/- Walks of functions, and what they compute. Conditions: none, this text proves no statement. -/
import Derived.Test.YthlllpngkljgfaaGreatG05
import Derived.Test.YthlllpngkljgfaaGreatG01
import Derived.WalkKit
import Derived.ProofKit
import Derived.OpenShut
import Derived.JoinedCond
import Derived.Deep.Slices
import Derived.Carry
import Derived.Test.YthlllpngkljgfaaGreatRows
import Derived.Test.YthlllpngkljgfaaGreatG03
namespace Go.SLYthlllpngkljgfaaGreat
open Go Go.RowKit
structure mf where
 kind:Int
 at_:Int
deriving DecidableEq
def gr(p:mf):List Value:=[.int .i64 p.kind,.int .i64 p.at_]
def bS(l:Lib)(p:Int):aH:=if l.has p=true then l.vs.getD p.toNat aH.z else aH.z
def yw(slot:Int)(e:Ev):Bool:=decide (e.ab=slot) && (dG e || decide (e.mode>0))
def iY(l:List Ev)(slot:Int):Nat:=(l.filter (yw slot)).length
def whereFrom(t:Int):List (List Int)→Nat→Int×Bool
 | [],_=>(0,false)
 | r::l,n=>if t∈r then ((n:Int),true) else whereFrom t l (n+1)
def dj(l:Lib)(slot p:Int):List mf :=
 (if ((bS l p).runs=true∧(bS l p).ab=slot) then [⟨1,p⟩] else [])++List.replicate (iY (bS l p).evs slot) ⟨3,p⟩
def placeOf(l:Lib)(slot:Int):List mf :=
 l.procs.flatMap (dj l slot)++(if (whereFrom slot l.rows 0).2=true then [⟨2,(whereFrom slot l.rows 0).1⟩] else [])++List.replicate (iY l.waiting slot) ⟨4, -1⟩
theorem HD{l:List Ev}{k:Nat}{e:Ev}{slot:Int}(h:l[k]?=some e)(ht:yw slot e=true):iY (l.take (k+1)) slot=iY (l.take k) slot+1:=by
 unfold iY;rw[aQ h,List.filter_append,List.length_append,List.filter_cons,if_pos ht];rfl
theorem JI{l:List Ev}{k:Nat}{e:Ev}{slot:Int}(h:l[k]?=some e)(ht:yw slot e=false):iY (l.take (k+1)) slot=iY (l.take k) slot:=by
 unfold iY;rw[aQ h,List.filter_append,List.length_append,List.filter_cons,if_neg (by rw[ht];simp)];rfl
theorem yx(l:List Ev)(slot:Int):iY l slot≤l.length:=List.length_filter_le _ _
theorem JJ{l:Lib}{p:Int}(h:l.has p=false):bS l p=aH.z:=by unfold bS;rw[if_neg (by rw[h];simp)]
theorem uk{l:Lib}{i:Nat}{v:aH}(h:l.has (i:Int)=true)(hv:l.vs[i]?=some v):bS l (i:Int)=v:=by unfold bS;rw[if_pos h,Int.toNat_natCast,aY hv]
theorem EI{t:Int}{rs:List (List Int)}{n:Nat}{r:List Int}(h:rs[n]?=some r)(ht:t∈r):whereFrom t (rs.drop n) n=((n:Int),true):=by rw[drop_cons h,whereFrom,if_pos ht]
theorem HE{t:Int}{rs:List (List Int)}{n:Nat}{r:List Int}(h:rs[n]?=some r)(ht:t ∉ r):whereFrom t (rs.drop n) n=whereFrom t (rs.drop (n+1)) (n+1):=by rw[drop_cons h,whereFrom,if_neg ht]
theorem EJ{t:Int}{rs:List (List Int)}{n:Nat}(h:rs.length≤n):whereFrom t (rs.drop n) n=(0,false):=by rw[List.drop_of_length_le h];rfl
theorem Du{m:Nat}{l:Lib}(h:∀ v∈l.vs,v.evs.length≤m)(p:Int):(bS l p).evs.length≤m:=by
 unfold bS
 split
 ·rw[List.getD_eq_getElem?_getD]
  cases e:l.vs[p.toNat]? with
  | none=>exact Nat.zero_le _
  | some v=>exact h v (List.mem_of_getElem? e)
 ·exact Nat.zero_le _
theorem JK{l:Lib}{slot p:Int}{ys:List mf}(h:((bS l p).runs && decide (mL (bS l p)=slot))=true):ys++dj l slot p=(ys++List.replicate 1 ⟨1,p⟩)++List.replicate (iY (bS l p).evs slot) ⟨3,p⟩:=by
 simp only[Bool.and_eq_true,decide_eq_true_eq] at h
 have h2:=h.2
 unfold mL at h2
 rw[if_pos h.1] at h2
 unfold dj;rw[if_pos ⟨h.1,h2⟩, ← List.append_assoc];rfl
theorem LN{l:Lib}{slot p:Int}{ys:List mf}(h:((bS l p).runs && decide (mL (bS l p)=slot))=false):ys++dj l slot p=ys++List.replicate (iY (bS l p).evs slot) ⟨3,p⟩:=by
 unfold dj
 rw[if_neg,List.nil_append]
 rintro⟨h1,h2⟩
 unfold mL at h
 rw[if_pos h1,h1,decide_eq_true h2] at h
 cases h
/-! bounds, and where everything is -/
structure Om(k:Krn):Prop where
 ev:∀ l∈k.libs,(∀ v∈l.vs,v.evs.length≤1000000)∧l.waiting.length≤1000000∧l.rows.length≤64∧ ∀ r∈l.rows,r.length≤1000000
def kN(l:Lib)(slot:Int):List mf:=if (whereFrom slot l.rows 0).2=true then [⟨2,(whereFrom slot l.rows 0).1⟩] else []
theorem um(l:Lib)(slot:Int):placeOf l slot=(l.procs.flatMap (dj l slot)++kN l slot)++List.replicate (iY l.waiting slot) ⟨4, -1⟩:=rfl
theorem HF{l:Lib}{slot p:Int}{k:Nat}(h:l.procs[k]?=some p):(l.procs.take (k+1)).flatMap (dj l slot)=(l.procs.take k).flatMap (dj l slot)++dj l slot p:=by rw[aQ h,List.flatMap_append];simp
theorem LO{m:Nat}{l:Lib}(h:∀ v∈l.vs,v.evs.length≤m)(slot p:Int):(dj l slot p).length≤m+1:=by
 have:=yx (bS l p).evs slot
 have:=Du h p
 unfold dj
 rw[List.length_append,List.length_replicate]
 split <;> simp <;> omega
theorem Ap{m:Nat}{l:Lib}(h:∀ v∈l.vs,v.evs.length≤m)(slot:Int):∀ ps:List Int,(ps.flatMap (dj l slot)).length≤ps.length * (m+1)
 | []=>by simp
 | p::ps=>by
  have:=LO h slot p
  have:=Ap h slot ps
  rw[List.flatMap_cons,List.length_append,List.length_cons,Nat.add_mul]
  omega
theorem wM{l:Lib}(hv:l.vs.length≤64)(h:∀ v∈l.vs,v.evs.length≤1000000)(slot:Int)(k:Nat):((l.procs.take k).flatMap (dj l slot)).length≤70000000:=by
 have h1:=Ap h slot (l.procs.take k)
 have h2:(l.procs.take k).length≤64:=by rw[List.length_take];have:=jk l.vs 0;have:l.procs.length≤l.vs.length:=this;omega
 have h3:(l.procs.take k).length * (1000000+1)≤64 * (1000000+1):=Nat.mul_le_mul_right _ h2
 omega
def rightIn(l:Lib):Nat→Bool
 | 0=>true
 | n+1=>rightIn l n && decide ((placeOf l (n:Int)).length=if l.aK.ready.contains (n:Int) then 1 else 0)
def iy(k:Krn):Nat→Bool
 | 0=>true
 | n+1=>iy k n && rightIn (k.libs.getD n Bn) 16
def oe(k:Krn)(p:Nat):Nat→Bool
 | 0=>true
 | n+1=>oe k p n && decide ((k.libs.getD n Bn).procs.contains (p:Int)=((k.ownerOf (p:Int)).2 && decide ((n:Int)=(k.ownerOf (p:Int)).1)))
def og(k:Krn):Nat→Bool
 | 0=>true
 | p+1=>og k p && oe k p k.libs.length
def q5(k:Krn):Bool:=og k k.owner.length
def kO(k:Krn):Bool:=iy k k.libs.length && q5 k
theorem uo{k:Krn}{p:Nat}:∀ {m n:Nat},n≤m→oe k p n=false→oe k p m=false
 | 0,n,h,e=>by
  obtain rfl:n=0:=by omega
  exact e
 | m+1,n,h,e=>by
  by_cases c:n=m+1
  ·rw[← c];exact e
  ·rw[oe,uo (by omega) e,Bool.false_and]
theorem uq{k:Krn}:∀ {m n:Nat},n≤m→og k n=false→og k m=false
 | 0,n,h,e=>by
  obtain rfl:n=0:=by omega
  exact e
 | m+1,n,h,e=>by
  by_cases c:n=m+1
  ·rw[← c];exact e
  ·rw[og,uq (by omega) e,Bool.false_and]
theorem p4{l:Lib}:∀ {m n:Nat},n≤m→rightIn l n=false→rightIn l m=false
 | 0,n,h,e=>by
  obtain rfl:n=0:=by omega
  exact e
 | m+1,n,h,e=>by
  by_cases c:n=m+1
  ·rw[← c];exact e
  ·rw[rightIn,p4 (by omega) e,Bool.false_and]
theorem p5{k:Krn}:∀ {m n:Nat},n≤m→iy k n=false→iy k m=false
 | 0,n,h,e=>by
  obtain rfl:n=0:=by omega
  exact e
 | m+1,n,h,e=>by
  by_cases c:n=m+1
  ·rw[← c];exact e
  ·rw[iy,p5 (by omega) e,Bool.false_and]
theorem JL{k:Krn}{p n:Nat}{l:Lib}(hp:p<k.owner.length)(hn:n<k.libs.length)(hl:k.libs[n]?=some l)(h:¬l.procs.contains (p:Int)=((k.ownerOf (p:Int)).2 && decide ((n:Int)=(k.ownerOf (p:Int)).1))):q5 k=false:=by
 unfold q5
 refine uq (n:=p+1) (by omega) ?_
 rw[og,uo (n:=n+1) (by omega) (by rw[oe,aY hl,decide_eq_false h,Bool.and_false]),Bool.and_false]
theorem wN{k:Krn}{n s:Nat}{l:Lib}(hs:s<16)(hn:n<k.libs.length)(hl:k.libs[n]?=some l)(h:¬(placeOf l (s:Int)).length=if l.aK.ready.contains (s:Int) then 1 else 0):kO k=false:=by
 unfold kO
 rw[p5 (n:=n+1) (by omega) (by rw[iy,aY hl,p4 (n:=s+1) (by omega) (by rw[rightIn,decide_eq_false h,Bool.and_false]),Bool.and_false]),Bool.false_and]
end Go.SLYthlllpngkljgfaaGreat
namespace Go.SLYthlllpngkljgfaaGreat
open Go Go.RowKit
theorem kP(t:Int):∀ (rows:List (List Int)) (n:Nat),(whereFrom t rows n).2=yt rows t
 | [],_=>rfl
 | r::rows,n=>by
  unfold whereFrom yt
  rw[List.any_cons]
  by_cases h:t∈r
  ·rw[if_pos h,List.contains_iff_mem.2 h];rfl
  ·rw[if_neg h,kP t rows (n+1)]
   have:r.contains t=false:=by rw[← Bool.not_eq_true,List.contains_iff_mem];exact h
   rw[this,Bool.false_or];rfl
theorem BZ{rows:List (List Int)}{p t:Int}(h:(whereFrom t rows 0).2=true):rAdd rows p t=rows:=by unfold rAdd;rw[kP] at h;rw[if_pos h]
theorem EK{rows:List (List Int)}{p t:Int}(h:aU rows p=none):rAdd rows p t=rows:=by
 unfold rAdd;split
 ·rfl
 ·rw[h]
theorem EL{rows:List (List Int)}{p t:Int}{r:List Int}(h:(whereFrom t rows 0).2=false)(hr:aU rows p=some r):rAdd rows p t=rows.set p.toNat (r++[t]):=by
 unfold rAdd;rw[kP] at h;rw[if_neg (by rw[h];simp),hr]
theorem EM{rows:List (List Int)}{t:Int}(h:(whereFrom t rows 0).2=false){i:Nat}{r:List Int}(hr:rows[i]?=some r):r.contains t=false:=by
 rw[kP] at h
 unfold yt at h
 have:=List.any_eq_false.1 h r (List.mem_of_getElem? hr)
 simpa using this
theorem B0{l:List Int}{i:Nat}(h:i+1=l.length):l.eraseIdx i=l.dropLast:=by
 rw[List.dropLast_eq_take,List.eraseIdx_eq_take_drop_succ,List.drop_of_length_le (by omega),List.append_nil,show l.length-1=i from by omega]
theorem JM{l:List Int}{t:Int}(h:l.getLast?=some t):∃ i,i+1=l.length∧l[i]?=some t:=by
 rw[List.getLast?_eq_getElem?] at h
 have:=(List.getElem?_eq_some_iff.1 h).1
 exact⟨l.length-1,by omega,h⟩
theorem Aq:∀ {rows:List (List Int)} {k:Nat} {r:List Int} {t:Int},(∀ j,j<k→rows[j]?=some [])→rows[k]?=some r→r.getLast?=some t→rSteal rows=some (t,rows.set k r.dropLast)
 | [],_,_,_,_,h,_=>by simp at h
 | x::rows,0,r,t,_,h,ht=>by
  have e:x=r:=by simpa using h
  subst e
  unfold rSteal;rw[ht];rfl
 | x::rows,k+1,r,t,hj,h,ht=>by
  have e:x=[]:=by have:=hj 0 (by omega);simpa using this
  subst e
  have ih:=Aq (rows:=rows) (k:=k) (r:=r) (t:=t) (fun j hjk=>by have:=hj (j+1) (by omega);simpa using this) (by simpa using h) ht
  unfold rSteal
  rw[List.getLast?_nil,ih]
  rfl
theorem ur:∀ {rows:List (List Int)},(∀ j,j<rows.length→rows[j]?=some [])→rSteal rows=none
 | [],_=>rfl
 | x::rows,hj=>by
  have e:x=[]:=by have:=hj 0 (by simp);simpa using this
  subst e
  have ih:=ur (rows:=rows) (fun j hjk=>by have:=hj (j+1) (by simp;omega);simpa using this)
  unfold rSteal
  rw[List.getLast?_nil,ih]
def uu(rows:List (List Int))(p:Int):Int:=match rPick rows p with | none=>0 | some x=>x.1
def mg(rows:List (List Int))(p:Int):List (List Int):=match rPick rows p with | none=>rows | some x=>x.2
theorem nF{rows:List (List Int)}{p:Int}(h:rPick rows p=none):uu rows p=0∧mg rows p=rows:=by unfold uu mg;rw[h];exact⟨rfl,rfl⟩
theorem js{rows rows':List (List Int)}{p t:Int}(h:rPick rows p=some (t,rows')):uu rows p=t∧mg rows p=rows':=by unfold uu mg;rw[h];exact⟨rfl,rfl⟩
theorem uv{rows:List (List Int)}{p:Int}(h:aU rows p=none):rPick rows p=none:=by unfold rPick;rw[h]
theorem EN{rows:List (List Int)}{p t:Int}{r:List Int}(h:aU rows p=some (t::r)):rPick rows p=some (t,rows.set p.toNat r):=by unfold rPick;rw[h]
theorem ux{rows:List (List Int)}{p:Int}(h:aU rows p=some []):rPick rows p=rSteal rows:=by unfold rPick;rw[h]
theorem HG{rows:List (List Int)}{k:Nat}{r:List Int}(h:rows[k]?=some r)(hr:r≠[]):gR rows=false:=by
 unfold gR
 rw[List.all_eq_false]
 exact⟨r,List.mem_of_getElem? h,by simpa using hr⟩
theorem EO{rows:List (List Int)}(h:∀ j,j<rows.length→rows[j]?=some []):gR rows=true:=by
 unfold gR
 rw[List.all_eq_true]
 intro r hr
 obtain⟨j,hj⟩:=List.mem_iff_getElem?.1 hr
 have:=h j (List.getElem?_eq_some_iff.1 hj).1
 rw[hj] at this
 simpa using this
theorem wO{xs:List (Nat×List Int)}{rs:List (List Int)}(h:xs.map (·.2)=rs){p:Int}:aU rs p=(aU xs p).map (·.2):=by
 rw[← h];unfold aU;split
 ·rfl
 ·rw[List.getElem?_map]
theorem nG{xs:List (Nat×List Int)}{i q:Nat}{r:List Int}(hx:xs[i]?=some (q,r)):∀ g,aO (fun x:Nat×List Int=>fh x.1 x.2) xs g→seps [fh q r,aO (fun x:Nat×List Int=>fh x.1 x.2) (xs.eraseIdx i)] g:=cc (f:=fun x:Nat×List Int=>fh x.1 x.2) hx
theorem p9{b:Nat}{v:Value}{xs:List (Nat×List Int)}{rs:List (List Int)}(h:xs.map (·.2)=rs):∀ g,seps [arr b 0 [v],sl cQ 1 v xs,aO (fun x:Nat×List Int=>fh x.1 x.2) xs] g→fz b rs g:=fun _ a=>⟨v,xs,h,a⟩
theorem HH{xs:List (Nat×List Int)}{i q:Nat}{r r':List Int}{v:Value}(hx:xs[i]?=some (q,r)):∀ g,sl cQ 1 v xs g→sl cQ 1 v (xs.set i (q,r')) g:=fun g s=>by
 have hl:rows cQ (xs.set i (q,r'))=rows cQ xs:=by
  have e:∀ (l l':List (Nat×List Int)),l.map (·.1)=l'.map (·.1)→rows cQ l=rows cQ l':=fun l=>by
   induction l with
   | nil=>intro l' h;cases l' with
    | nil=>rfl
    | cons y ys=>cases h
   | cons x l ih=>intro l' h;cases l' with
    | nil=>cases h
    | cons y ys =>
     simp only[List.map_cons,List.cons.injEq] at h
     rw[fg,fg,ih ys h.2]
     show[ptr x.1]++_=[ptr y.1]++_
     rw[h.1]
  refine e _ _ ?_
  rw[List.map_set]
  have:(xs.map (·.1))[i]?=some q:=by rw[List.getElem?_map,hx];rfl
  exact gP this
 rcases s with ⟨a,rfl,e⟩ | ⟨b,cap,sp,e1,e2, -,e4,e5⟩
 ·simp at hx
 ·exact .inr ⟨b,cap,sp,by rw[List.length_set];exact e1,by rw[List.length_set];exact e2,fun _ _=>rfl,by rw[List.length_set];exact e4,by rw[hl];exact e5⟩
theorem q6{b:Nat}{v:Value}{xs:List (Nat×List Int)}{rs:List (List Int)}{i q:Nat}{r:List Int}(h:xs.map (·.2)=rs)(hx:xs[i]?=some (q,r))(r':List Int):∀ g,seps [arr b 0 [v],sl cQ 1 v xs,fh q r',aO (fun x:Nat×List Int=>fh x.1 x.2) (xs.eraseIdx i)] g→fz b (rs.set i r') g:=fun g a=>by
 refine⟨v,xs.set i (q,r'),by show(xs.set i (q,r')).map (·.2)=_;rw[List.map_set,h],?_⟩
 simp only[seps,aN] at a ⊢
 refine bB (fun _ b=>b) (bB (HH hx) (fun g b=>?_)) g a
 rw[jz _ _ (List.getElem?_eq_some_iff.1 hx).1];exact b
theorem B1{W:World}{H R K As:List aa}(t:Take H (seps As) R)(h:∀ w,Sat W w (seps (As++R))→Sat W w (seps K)):∀ w,Sat W w (seps H)→Sat W w (seps K):=fun w s=>h w (by rw[ah, ← t.seps];exact s)
def wE(l:List Ev):Ev:=match evWithin l with | none=>⟨0,0,0⟩ | some x=>x.1
def wR(l:List Ev):List Ev:=match evWithin l with | none=>l | some x=>x.2
theorem EP{l:List Ev}(h:idxP jb l 0<0):evWithin l=none:=if_pos h
theorem B2{l:List Ev}(h:¬idxP jb l 0<0)(hl:(idxP jb l 0).toNat<l.length):∃ i e,idxP jb l 0=((i:Nat):Int)∧l[i]?=some e∧evWithin l=some (e,l.take i++l.drop (i+1)):=by
 obtain⟨e,he⟩:=ak hl
 refine⟨(idxP jb l 0).toNat,e,by omega,he,?_⟩
 unfold evWithin;rw[if_neg h,he]
theorem Dv{α:Type}{p:α→Bool}:∀ (l:List α) (k:Nat),idxP p l k<((k+l.length:Nat):Int)
 | [],k=>by show(-1:Int)<_;omega
 | x::l,k=>by
  unfold idxP
  split
  ·simp only[List.length_cons];omega
  ·have:=Dv (p:=p) l (k+1);simp only[List.length_cons];omega
end Go.SLYthlllpngkljgfaaGreat
namespace Go.SLYthlllpngkljgfaaGreat
open Go Go.RowKit
theorem yy{u:Value}{e:lB}(h:isSl u=true):(mS u e).all (·.oneCell')=true:=by
 have:=fH h
 show(u.oneCell' && (true && (true && (true && true))))=true
 rw[this];rfl
theorem cV{u:Value}{d:gk}(h:isSl u=true):(dt u d).all (·.oneCell')=true:=by
 have:=fH h
 show(true && (true && (u.oneCell' && (true && (true && (true && true))))))=true
 rw[this];rfl
theorem wP{α:Type}{f:α→aa}:∀ {xs:List α} {i:Nat} {x y:α},xs[i]?=some x→f y=f x→aO f (xs.set i y)=aO f xs
 | [],_,_,_,h,_=>by simp at h
 | z::xs,0,x,y,h,e=>by
  have:z=x:=by simpa using h
  subst this
  rw[List.set_cons_zero,fU,fU,e]
 | z::xs,i+1,x,y,h,e=>by
  rw[List.set_cons_succ,fU,fU,wP (i:=i) (x:=x) (by simpa using h) e]
abbrev vF:Value×aH→aa:=fun x=>sl bP 3 x.1 x.2.evs
theorem fu{vv:Value}{xs:List (Value×aH)}{vs:List aH}(h:xs.map (·.2)=vs):∀ g,seps [sl eA 3 vv xs,aO (fun x:Value×aH=>sl bP 3 x.1 x.2.evs) xs] g→cu vv vs g:=fun _ a=>⟨xs,h,a⟩
theorem kQ{vv:Value}{xs:List (Value×aH)}{vs:List aH}{i:Nat}{x:Value×aH}{y:aH}(h:xs.map (·.2)=vs)(hx:xs[i]?=some x)(he:y.evs=x.2.evs):∀ g,seps [sl eA 3 vv (xs.set i (x.1,y)),aO (fun x:Value×aH=>sl bP 3 x.1 x.2.evs) xs] g→cu vv (vs.set i y) g:=fun g a=>by
 refine⟨xs.set i (x.1,y),by show(xs.set i (x.1,y)).map (·.2)=_;rw[List.map_set,h],?_⟩
 show seps [_,aO (fun x:Value×aH=>sl bP 3 x.1 x.2.evs) (xs.set i (x.1,y))] g
 rwa [wP (f:=fun x:Value×aH=>sl bP 3 x.1 x.2.evs) hx (y:=(x.1,y)) (by show sl bP 3 x.1 y.evs=_;rw[he])]
theorem m4{vv:Value}{xs:List (Value×aH)}{vs:List aH}{i:Nat}{x:Value×aH}{w:Value}{y:aH}(h:xs.map (·.2)=vs)(hx:xs[i]?=some x):∀ g,seps [sl eA 3 vv (xs.set i (w,y)),sl bP 3 w y.evs,aO (fun x:Value×aH=>sl bP 3 x.1 x.2.evs) (xs.eraseIdx i)] g→cu vv (vs.set i y) g:=fun g a=>by
 refine⟨xs.set i (w,y),by show(xs.set i (w,y)).map (·.2)=_;rw[List.map_set,h],?_⟩
 simp only[seps,aN] at a ⊢
 refine bB (fun _ b=>b) (fun g b=>?_) g a
 rw[jz _ _ (List.getElem?_eq_some_iff.1 hx).1];exact b
theorem B3{rows:List (List Int)}{p:Int}{ts:List Int}{k:Nat}{t:Int}(h:ts[k]?=some t):dW rows p (ts.take (k+1))=rAdd (dW rows p (ts.take k)) p t:=by
 unfold dW;rw[aQ h,List.foldl_append];rfl
structure HI(l:Lib):Prop where
 sp:iH l.aK
 vl:l.vs.length≤64
 rl:l.rows.length≤64
 wt:l.waiting.length≤1000000
 ev:∀ v∈l.vs,v.evs.length≤1000000
 rw:∀ r∈l.rows,r.length≤1000000
theorem eC.sz{k:Nat}{l:Lib}(h:eC k l)(hk:k≤180):HI l:=by
 have hl:K5 (40 * (k+1)) l:=⟨h.ev,h.vl,h.sp.lt⟩
 exact⟨h.sp.aK (by omega),h.vl,h.rl,Nat.le_trans hl.w (by omega),fun v hv=>Nat.le_trans (hl.e v hv) (by omega),fun r hr=>Nat.le_trans (h.rw r hr) (by omega)⟩
theorem qa{l:Lib}{p m:Int}(h:l.locked=true):l.enter p m=l:=if_pos h
theorem nH{l:Lib}{i:Nat}{v:aH}{m:Int}(hv:l.vs[i]?=some v)(h:l.locked=false):l.enter (i:Int) m = {l with locked:=true,vs:=l.vs.set i {v with mode:=m } }:=by
 unfold Lib.enter;rw[if_neg (by rw[h];simp),eY hv];unfold Lib.jM;rw[Int.toNat_natCast]
theorem iL{l:Lib}{i:Nat}{v:aH}{m t:Int}(hv:l.vs[i]?=some v):l.leave (i:Int) m t = {l with locked:=false,vs:=l.vs.set i {v with mode:=m,ab:=t } }:=by
 unfold Lib.leave;rw[eY hv];unfold Lib.jM;rw[Int.toNat_natCast]
theorem iz{l:Lib}{i:Nat}{y:aH}:l.jM (i:Int) y = {l with vs:=l.vs.set i y }:=by unfold Lib.jM;rw[Int.toNat_natCast]
end Go.SLYthlllpngkljgfaaGreat
namespace Go.SLYthlllpngkljgfaaGreat
open Go Go.RowKit
section
variable{l:Lib}{i:Nat}{v:aH}
def Lib.q7(l:Lib)(i:Nat)(v:aH)(rest:List Ev):Lib:={l with locked:=false,vs:=l.vs.set i {v with evs:=rest } }
theorem lM(hv:l.vs[i]?=some v){q:Ev}{rest:List Ev}{c:Int}(h:¬q.mode=7):l.recover (i:Int) q rest c=(gk.z,l.q7 i v rest):=by
 unfold Lib.recover;simp only;rw[if_neg h,eY hv,iz];rfl
theorem lN(hv:l.vs[i]?=some v){q:Ev}{rest:List Ev}{c:Int}(h:q.mode=7)(hg:(l.aK.run q.ab c).1.cj=true) :
  l.recover (i:Int) q rest c=(((l.q7 i v rest).aL q.ab c).1,(((l.q7 i v rest).aL q.ab c).2.fO (i:Int) (l.aK.run q.ab c).1.av).fO (i:Int) [q.ab]):=by
 unfold Lib.recover;simp only;rw[if_pos h,eY hv,iz]
 show((_,if (l.aK.run q.ab c).1.cj=true then _ else _):gk×Lib)=_
 rw[if_pos hg];rfl
theorem jc(hv:l.vs[i]?=some v){q:Ev}{rest:List Ev}{c:Int}(h:q.mode=7)(hg:¬(l.aK.run q.ab c).1.cj=true) :
  l.recover (i:Int) q rest c=(((l.q7 i v rest).aL q.ab c).1,((l.q7 i v rest).aL q.ab c).2.fO (i:Int) (l.aK.run q.ab c).1.av):=by
 unfold Lib.recover;simp only;rw[if_pos h,eY hv,iz]
 show((_,if (l.aK.run q.ab c).1.cj=true then _ else _):gk×Lib)=_
 rw[if_neg hg];rfl
theorem lO(hv:l.vs[i]?=some v){c:Int}(h:(evWithin v.evs).isSome=true):l.upcall (i:Int) c=l.recover (i:Int) (wE v.evs) (wR v.evs) c:=by
 unfold Lib.upcall;rw[eY hv]
 unfold wE wR
 cases e:evWithin v.evs with
 | none=>rw[e] at h;cases h
 | some x=>rfl
theorem nI(hv:l.vs[i]?=some v){c:Int}(h:(evWithin v.evs).isSome=false):l.upcall (i:Int) c=(gk.z,l.enter (i:Int) 2):=by
 unfold Lib.upcall;rw[eY hv]
 cases e:evWithin v.evs with
 | none=>rfl
 | some x=>rw[e] at h;cases h
theorem lP(hv:l.vs[i]?=some v)(h:v.evs=[]):l.handle (i:Int)=l.leave (i:Int) 3 (-1):=by unfold Lib.handle;rw[eY hv,h]
theorem nJ(hv:l.vs[i]?=some v){e:Ev}{r:List Ev}(h:v.evs=e::r)(hr:dG e=true):l.handle (i:Int) = {l with rows:=dW l.rows (i:Int) [e.ab],vs:=l.vs.set i {v with evs:=r } }:=by
 unfold Lib.handle;rw[eY hv,h];simp only;rw[if_pos hr,iz];rfl
theorem lQ(hv:l.vs[i]?=some v){e:Ev}{r:List Ev}(h:v.evs=e::r)(hr:¬dG e=true):l.handle (i:Int) = {l with vs:=l.vs.set i {v with evs:=r } }:=by
 unfold Lib.handle;rw[eY hv,h];simp only;rw[if_neg hr,iz]
theorem nK(h:(rPick l.rows (i:Int)).isSome=true):l.pick (i:Int)=({l with rows:=mg l.rows (i:Int) }:Lib).leave (i:Int) 5 (uu l.rows (i:Int)):=by
 unfold Lib.pick mg uu
 cases e:rPick l.rows (i:Int) with
 | none=>rw[e] at h;cases h
 | some x=>rfl
theorem qb(h:(rPick l.rows (i:Int)).isSome=false):l.pick (i:Int)=l.leave (i:Int) 8 (-1)∧mg l.rows (i:Int)=l.rows:=by
 unfold Lib.pick mg
 cases e:rPick l.rows (i:Int) with
 | none=>exact⟨rfl,rfl⟩
 | some x=>rw[e] at h;cases h
theorem lR(hv:l.vs[i]?=some v){c:Int}(h:l.aK.class v.ab=2):l.hJ (i:Int) c=(gk.z,{l with vs:=l.vs.set i {v with mode:=6 } }):=by
 unfold Lib.hJ;rw[eY hv];simp only;rw[if_pos h,iz]
theorem nL(hv:l.vs[i]?=some v){c:Int}(h:¬l.aK.class v.ab=2)(hs:(l.aK.run v.ab c).1.aR=true) :
  l.hJ (i:Int) c=((l.aL v.ab c).1,({(l.aL v.ab c).2 with vs:=l.vs.set i (aH.new [⟨2,v.ab,0⟩]) }:Lib).tell (aB (l.aK.run v.ab c).1.av)):=by
 unfold Lib.hJ;rw[eY hv];simp only;rw[if_neg h]
 show((_,Lib.tell (if (l.aK.run v.ab c).1.aR=true then _ else _) _):gk×Lib)=_
 rw[if_pos hs,iz];rfl
theorem qc(hv:l.vs[i]?=some v){c:Int}(h:¬l.aK.class v.ab=2)(hs:¬(l.aK.run v.ab c).1.aR=true)(he:(l.aK.run v.ab c).1.ended=true) :
  l.hJ (i:Int) c=((l.aL v.ab c).1,({(l.aL v.ab c).2 with vs:=l.vs.set i {v with mode:=3,ab := -1 } }:Lib).tell (aB (l.aK.run v.ab c).1.av)):=by
 have hv2:(l.aL v.ab c).2.v (i:Int)=v:=eY (l:=(l.aL v.ab c).2) hv
 unfold Lib.hJ;rw[eY hv];simp only;rw[if_neg h,hv2]
 show((_,Lib.tell (if (l.aK.run v.ab c).1.aR=true then _ else if (l.aK.run v.ab c).1.ended=true then _ else _) _):gk×Lib)=_
 rw[if_neg hs,if_pos he,iz];rfl
theorem nM(hv:l.vs[i]?=some v){c:Int}(h:¬l.aK.class v.ab=2)(hs:¬(l.aK.run v.ab c).1.aR=true)(he:¬(l.aK.run v.ab c).1.ended=true) :
  l.hJ (i:Int) c=((l.aL v.ab c).1,(l.aL v.ab c).2.tell (aB (l.aK.run v.ab c).1.av)):=by
 unfold Lib.hJ;rw[eY hv];simp only;rw[if_neg h]
 show((_,Lib.tell (if (l.aK.run v.ab c).1.aR=true then _ else if (l.aK.run v.ab c).1.ended=true then _ else _) _):gk×Lib)=_
 rw[if_neg hs,if_neg he];rfl
theorem lS(hv:l.vs[i]?=some v){c:Int}(h:¬(l.aK.run v.ab c).1.cj=true):l.inside (i:Int) c=((l.aL v.ab c).1,((l.aL v.ab c).2.fO (i:Int) (l.aK.run v.ab c).1.av).leave (i:Int) 3 (-1)):=by
 unfold Lib.inside;rw[eY hv]
 show((_,if (l.aK.run v.ab c).1.cj=true then _ else _):gk×Lib)=_
 rw[if_neg h];rfl
theorem jd(hv:l.vs[i]?=some v){c:Int}(h:(l.aK.run v.ab c).1.cj=true)(hy:(l.aK.run v.ab c).1.yielded=true):l.inside (i:Int) c=((l.aL v.ab c).1,(((l.aL v.ab c).2.fO (i:Int) (l.aK.run v.ab c).1.av).fO (i:Int) [v.ab]).leave (i:Int) 3 (-1)):=by
 unfold Lib.inside;rw[eY hv]
 show((_,if (l.aK.run v.ab c).1.cj=true then (if (l.aK.run v.ab c).1.yielded=true then _ else _) else _):gk×Lib)=_
 rw[if_pos h,if_pos hy];rfl
theorem nN(hv:l.vs[i]?=some v){c:Int}(h:(l.aK.run v.ab c).1.cj=true)(hy:¬(l.aK.run v.ab c).1.yielded=true):l.inside (i:Int) c=((l.aL v.ab c).1,((l.aL v.ab c).2.fO (i:Int) (l.aK.run v.ab c).1.av).leave (i:Int) 5 v.ab):=by
 unfold Lib.inside;rw[eY hv]
 show((_,if (l.aK.run v.ab c).1.cj=true then (if (l.aK.run v.ab c).1.yielded=true then _ else _) else _):gk×Lib)=_
 rw[if_pos h,if_neg hy];rfl
theorem Ar{rows:List (List Int)}{p:Int}{ts:List Int}(h:rows.length≤64∧ ∀ r∈rows,r.length≤1000000)(ht:ts.length≤100000):(dW rows p ts).length≤64∧ ∀ r∈dW rows p ts,r.length≤800000000 :=
 ⟨by rw[fY];exact h.1,fun r hr=>by have:=lK h.2 r hr;omega⟩
theorem yz{rows:List (List Int)}(h:rows.length≤64∧ ∀ r∈rows,r.length≤1000000):rows.length≤64∧ ∀ r∈rows,r.length≤800000000:=⟨h.1,fun r hr=>Nat.le_trans (h.2 r hr) (by decide)⟩
end
end Go.SLYthlllpngkljgfaaGreat
namespace Go.SLYthlllpngkljgfaaGreat
open Go Go.RowKit
section
variable{l:Lib}{i:Nat}{v:aH}{c:Int}
theorem kR{p:Int}(h:l.has p=false):l.step p c=(gk.z,11,l):=by unfold Lib.step;rw[if_neg (by rw[h];simp)]
theorem qd(hh:l.has (i:Int)=true)(hv:l.vs[i]?=some v)(hm:v.mode=1):l.step (i:Int) c=((l.upcall (i:Int) c).1,0,(l.upcall (i:Int) c).2):=by
 unfold Lib.step;rw[if_pos hh,eY hv];simp only;rw[if_pos hm]
theorem qe(hh:l.has (i:Int)=true)(hv:l.vs[i]?=some v)(hm:v.mode=2):l.step (i:Int) c=(gk.z,0,l.handle (i:Int)):=by
 unfold Lib.step;rw[if_pos hh,eY hv];simp only;rw[if_neg (by omega),if_pos hm]
theorem qf(hh:l.has (i:Int)=true)(hv:l.vs[i]?=some v)(hm:v.mode=3):l.step (i:Int) c=(gk.z,0,l.enter (i:Int) 4):=by
 unfold Lib.step;rw[if_pos hh,eY hv];simp only;rw[if_neg (by omega),if_neg (by omega),if_pos hm]
theorem qg(hh:l.has (i:Int)=true)(hv:l.vs[i]?=some v)(hm:v.mode=4):l.step (i:Int) c=(gk.z,0,l.pick (i:Int)):=by
 unfold Lib.step;rw[if_pos hh,eY hv];simp only;rw[if_neg (by omega),if_neg (by omega),if_neg (by omega),if_pos hm]
theorem qh(hh:l.has (i:Int)=true)(hv:l.vs[i]?=some v)(hm:v.mode=5):l.step (i:Int) c=((l.hJ (i:Int) c).1,0,(l.hJ (i:Int) c).2):=by
 unfold Lib.step;rw[if_pos hh,eY hv];simp only;rw[if_neg (by omega),if_neg (by omega),if_neg (by omega),if_neg (by omega),if_pos hm]
theorem qi(hh:l.has (i:Int)=true)(hv:l.vs[i]?=some v)(hm:v.mode=6):l.step (i:Int) c=(gk.z,0,l.enter (i:Int) 7):=by
 unfold Lib.step;rw[if_pos hh,eY hv];simp only;rw[if_neg (by omega),if_neg (by omega),if_neg (by omega),if_neg (by omega),if_neg (by omega),if_pos hm]
theorem qj(hh:l.has (i:Int)=true)(hv:l.vs[i]?=some v)(hm:v.mode=7):l.step (i:Int) c=((l.inside (i:Int) c).1,0,(l.inside (i:Int) c).2):=by
 unfold Lib.step;rw[if_pos hh,eY hv];simp only;rw[if_neg (by omega),if_neg (by omega),if_neg (by omega),if_neg (by omega),if_neg (by omega),if_neg (by omega),if_pos hm]
theorem m5(hh:l.has (i:Int)=true)(hv:l.vs[i]?=some v)(hm:v.mode=8)(he:gR l.rows=true):l.step (i:Int) c=(gk.z,0,l):=by
 unfold Lib.step;rw[if_pos hh,eY hv];simp only;rw[if_neg (by omega),if_neg (by omega),if_neg (by omega),if_neg (by omega),if_neg (by omega),if_neg (by omega),if_neg (by omega),if_pos hm,if_pos he]
theorem m6(hh:l.has (i:Int)=true)(hv:l.vs[i]?=some v)(hm:v.mode=8)(he:gR l.rows=false):l.step (i:Int) c=(gk.z,0,{l with vs:=l.vs.set i {v with mode:=3 } }):=by
 unfold Lib.step;rw[if_pos hh,eY hv];simp only;rw[if_neg (by omega),if_neg (by omega),if_neg (by omega),if_neg (by omega),if_neg (by omega),if_neg (by omega),if_neg (by omega),if_pos hm,if_neg (by rw[he];simp),iz]
theorem qk(hh:l.has (i:Int)=true)(hv:l.vs[i]?=some v)(hm:¬v.mode=1∧¬v.mode=2∧¬v.mode=3∧¬v.mode=4∧¬v.mode=5∧¬v.mode=6∧¬v.mode=7∧¬v.mode=8):l.step (i:Int) c=(gk.z,0,l):=by
 unfold Lib.step;rw[if_pos hh,eY hv];simp only;rw[if_neg (by omega),if_neg (by omega),if_neg (by omega),if_neg (by omega),if_neg (by omega),if_neg (by omega),if_neg (by omega),if_neg (by omega)]
theorem jN{p:Int}(h:l.has p=false):l.preempt p=(false,l):=by unfold Lib.preempt;rw[if_neg (by rw[h];simp)]
theorem iM(h:l.has (i:Int)=true)(hv:l.vs[i]?=some v):l.preempt (i:Int)=(true,{l with vs:=l.vs.set i (v.told []) }):=by unfold Lib.preempt;rw[if_pos h,Int.toNat_natCast,aY hv]
end
end Go.SLYthlllpngkljgfaaGreat
namespace Go.SLYthlllpngkljgfaaGreat
open Go Go.RowKit
structure q8 where
 kind:Int
 space:Int
 ab:Int
 choice:Int
deriving DecidableEq
def fC(x:q8):List Value:=[.int .i64 x.kind,.int .i64 x.space,.int .i64 x.ab,.int .i64 x.choice]
theorem HJ(l:List q8):∀ y∈l, ∀ c∈fC y,c.oneCell'=true:=lh (fun _=>rfl) l
def OG(b:Nat)(l:List Spc):aa:=oq (fun _ (xs:List (Nat×Spc))=>xs.map (·.2)=l) fun v xs=>[arr b 0 [v],sl cQ 1 v xs,aO (fun x=>eT x.1 x.2) xs]
def oDo(l:List Spc)(a:q8):Int×List Spc :=
 if a.kind=3 then (0,l.map fun s=>s.tick.2) else
 match aU l a.space with
 | none=>(1,l)
 | some s =>
  if a.kind=1 then ((s.run a.ab a.choice).2.1,l.set a.space.toNat (s.run a.ab a.choice).2.2) else
  if a.kind=2 then ((s.done a.choice).2.1,l.set a.space.toNat (s.done a.choice).2.2) else (1,l)
def iZ(k:Nat)(l:List Spc):Prop:=∀ s∈l,gZ k s
theorem iZ.act{k:Nat}{l:List Spc}(h:iZ k l)(hk:k≤1990)(a:q8):iZ (k+1) (oDo l a).2:=by
 have hm:∀ s∈l,gZ (k+1) s:=fun s hs=>(h s hs).more (Nat.le_succ _)
 unfold oDo
 split
 ·intro s hs
  obtain⟨t,ht,rfl⟩:=List.mem_map.1 hs
  exact(h t ht).tick
 ·split
  ·exact hm
  ·rename_i s e
   have hs:=h s (List.mem_of_getElem? (cB e).2.2)
   split
   ·intro t ht
    rcases List.mem_or_eq_of_mem_set ht with ht | rfl
    ·exact hm t ht
    ·exact hs.run hk _ _
   ·split
    ·intro t ht
     rcases List.mem_or_eq_of_mem_set ht with ht | rfl
     ·exact hm t ht
     ·exact hs.done _
    ·exact hm
end Go.SLYthlllpngkljgfaaGreat
namespace Go.SLYthlllpngkljgfaaGreat
open Go Go.RowKit
def OZ(k:Nat)(xs:List (Nat×Spc)):List (Nat×Spc):=(xs.take k).map (fun x=>(x.1,x.2.tick.2))++xs.drop k
end Go.SLYthlllpngkljgfaaGreat
namespace Go.SLYthlllpngkljgfaaGreat
open Go Go.RowKit
def oReady(l:List Spc)(n:Int):List Int:=match aU l n with | none=>[] | some s=>s.ready
def HK(l:List Spc)(n:Int):List Rec:=match aU l n with | none=>[] | some s=>s.aC
def OH(l:List Spc)(n:Int):List Int:=match aU l n with | none=>[] | some s=>s.mem
def On(l:List Spc)(n k:Int):Option bI:=match aU l n with | none=>none | some s=>s.at k
theorem iZ.get{k:Nat}{l:List Spc}(h:iZ k l){n:Int}{s:Spc}(hs:aU l n=some s):gZ k s:=h s (List.mem_of_getElem? (cB hs).2.2)
theorem iZ.more{k k':Nat}{l:List Spc}(h:iZ k l)(hk:k≤k'):iZ k' l:=fun s hs=>(h s hs).more hk
theorem iZ.aC{k:Nat}{l:List Spc}(h:iZ k l)(hk:k≤1990)(n:Int):(HK l n).length≤800000000:=by
 unfold HK;split
 ·exact Nat.zero_le _
 ·rename_i s e;exact(h.get e).rec hk
theorem iZ.ready{k:Nat}{l:List Spc}(h:iZ k l)(n:Int):(oReady l n).length≤1000000000:=by
 unfold oReady;split
 ·exact Nat.zero_le _
 ·rename_i s e;exact EA (h.get e).lt
def OI(s:Spc)(k:Nat)(a:q8):Spc :=
 if a.kind=3 then s.tick.2 else if a.space≠(k:Int) then s else if a.kind=1 then (s.run a.ab a.choice).2.2 else if a.kind=2 then (s.done a.choice).2.2 else s
def yA(ps:List gY):Int:=if ps.length<1∨8<ps.length then 1 else checkAll ps
def NL(n:Int)(a:q8):List q8:=if a.kind=3 then [⟨3,0,0,0⟩] else if a.space=n then [{a with space:=0 }] else []
def MU(acts:List q8)(n:Int):List q8:=acts.flatMap (NL n)
def NM(l:List Spc)(acts:List q8):List Spc:=acts.foldl (fun l a=>(oDo l a).2) l
def aloneR(ps:List gY)(n:Int)(acts:List q8):List Rec :=
 match aU ps n with
 | none=>[]
 | some p=>if dB p=0 then HK (NM [Spc.new p] (MU acts n)) 0 else []
def NN(ps:List gY)(n:Int):Int :=
 match aU ps n with
 | none=>1
 | some p=>dB p
end Go.SLYthlllpngkljgfaaGreat
namespace Go.SLYthlllpngkljgfaaGreat
open Go Go.RowKit
theorem kv:∀ {l:List gY},checkAll l=0→ ∀ p∈l,dB p=0
 | [],_,p,hp=>by cases hp
 | q::l,h,p,hp=>by
  unfold checkAll at h
  split at h
  ·rename_i hq
   rcases List.mem_cons.1 hp with rfl | hp
   ·exact hq
   ·exact kv h p hp
  ·rename_i hq;exact absurd h hq
theorem yB{ps:List gY}(h:yA ps=0):1≤ps.length∧ps.length≤8∧ ∀ p∈ps,dB p=0:=by
 unfold yA at h
 split at h
 ·cases h
 ·exact⟨by omega,by omega,kv h⟩
theorem iZ.new{ps:List gY}(h:yA ps=0)(hw:∀ p∈ps, ∀ f∈p.funcs, ∀ i∈f,fj i.n):iZ 1 (ps.map Spc.new):=fun s hs=>by
 obtain⟨p,hp,rfl⟩:=List.mem_map.1 hs
 exact gZ.new ⟨(yB h).2.2 p hp,hw p hp⟩
theorem iZ.aK{k:Nat}{l:List Spc}(h:iZ k l)(hk:k≤1990):∀ s∈l,iH s:=fun s hs=>(h s hs).aK hk
/-! the laws' own fact -/
def NO:List Ins:=[⟨32,1,0,0,0⟩]
def Oo:gY:=⟨[NO],0,0,0,[],[],0,0⟩
def MV(x y:Nat):aS:=⟨yY y 1,[(yY x 1,NO)],0,0,0,.slice none 0 0,[],.slice none 0 0,[],0,0⟩
def OJ(x y z:Nat):aa:=seps [arr z 0 (rows ez [MV x y,MV x y]),arr y 0 [yY x 1],arr x 0 (rows eg NO)]
def NP:List Spc:=[Oo,Oo].map Spc.new
def NQ:List Spc:=(oDo NP ⟨1,1,0,0⟩).2
def NR:List Spc:=(oDo NQ ⟨1,2,0,0⟩).2
def OK:List Spc:=(oDo NR ⟨3,9,0,0⟩).2
def O0:List Rec:=[⟨65537,32,0,65537,0,true⟩]
end Go.SLYthlllpngkljgfaaGreat
namespace Go.SLYthlllpngkljgfaaGreat
open Go Go.RowKit
theorem nO{l:Lib}(hw:∀ t c,(l.aK.run t c).1.av.length≤17)(p c:Int):aE 40 40 l (l.step p c).2.2:=by
 unfold Lib.step
 split
 ·rename_i hh
  obtain⟨i,v,rfl,hv, -⟩:=gA hh
  simp only
  split
  ·unfold Lib.upcall
   split
   ·rename_i x rest e
    rw[eY hv] at e
    have hl:=ud e
    exact(aE.recover hv (by omega) c (hw x.ab c)).le (by omega) (by omega)
   ·exact(aE.enter hv 2).le (by omega) (by omega)
  ·split
   ·exact(aE.handle hv).le (by omega) (by omega)
   ·split
    ·exact(aE.enter hv 4).le (by omega) (by omega)
    ·split
     ·exact(aE.pick hv).le (by omega) (by omega)
     ·split
      ·exact(aE.hJ hv c (hw _ c)).le (by omega) (by omega)
      ·split
       ·exact(aE.enter hv 7).le (by omega) (by omega)
       ·split
        ·exact(aE.inside hv c (hw _ c)).le (by omega) (by omega)
        ·split
         ·split
          ·exact(aE.refl _).le (by omega) (by omega)
          ·exact(aE.jM (x:={l.v (i:Int) with mode:=3 }) (a:=0) hv (by rw[eY hv];exact Nat.le_refl _)).le (by omega) (by omega)
         ·exact(aE.refl _).le (by omega) (by omega)
 ·exact(aE.refl _).le (by omega) (by omega)
theorem lT(l:Lib)(p:Int):aE 2 0 l (l.cy p).2:=by
 have h:=gz l p
 exact⟨h.len,congrArg _ h.rows,Aj l p,fun m hm=>by rw[h.rows];exact hm⟩
theorem je(l:Lib)(p:Int):aE 1 0 l (l.preempt p).2:=by
 cases h:l.has p with
 | false=>rw[jN h];exact(aE.refl _).le (by omega) (by omega)
 | true =>
  obtain⟨i,v,rfl,hv, -⟩:=gA h
  rw[iM h hv, ← iz]
  exact aE.jM hv (by have:=Ai v [];simpa using this)
theorem rU(l:Lib)(p:Int):(l.preempt p).2.aK=l.aK:=by unfold Lib.preempt;split <;> rfl
theorem eC.more{k:Nat}{l:Lib}(h:eC k l):eC (k+1) l:=h.of ((aE.refl _).le (by omega) (by omega)) (h.sp.more (by omega))
theorem eC.cy{k:Nat}{l:Lib}(h:eC k l)(p:Int):eC (k+1) (l.cy p).2:=h.of ((lT l p).le (by omega) (by omega)) (by rw[(gz l p).aK];exact h.sp.more (by omega))
theorem eC.preempt{k:Nat}{l:Lib}(h:eC k l)(p:Int):eC (k+1) (l.preempt p).2:=h.of ((je l p).le (by omega) (by omega)) (by rw[rU];exact h.sp.more (by omega))
theorem eC.new{s:Spc}(h:gZ 1 s)(p:Int):eC 0 (Lib.new s p):=by
 have hc:0≤aG p 64∧aG p 64≤64:=by unfold aG;omega
 have h2:=gq s.aF 0
 rw[h.lt] at h2
 refine⟨h,?_,?_,?_,?_⟩
 ·show(List.replicate _ _).length≤_;rw[List.length_replicate];omega
 ·show(List.replicate _ _).length≤_;rw[List.length_replicate];omega
 ·show(aB s.ready).length+((List.replicate (aG p 64).toNat aH.z).map (fun v=>v.evs.length)).sum≤_
  have h3:(aB s.ready).length=(readyFrom s.aF 0).length:=by unfold aB;rw[List.length_map];rfl
  rw[h3,List.map_replicate,List.sum_replicate_nat]
  show _+(aG p 64).toNat * 0≤_
  omega
 ·intro r hr
  have:r=[]:=List.eq_of_mem_replicate hr
  subst this;exact Nat.zero_le _
theorem eC.wy{k:Nat}{l:Lib}(h:eC k l)(hk:k≤180):∀ t c,(l.aK.run t c).1.av.length≤17:=fun t c=>ue h.sp (by omega) t c
/-! the law's own fact -/
def MW:List Ins:=[⟨1,1,0,0,5⟩]
def FG:gY:=⟨[MW],0,0,0,[],[],0,0⟩
def B4(x y:Nat):aS:=⟨yY y 1,[(yY x 1,MW)],0,0,0,.slice none 0 0,[],.slice none 0 0,[],0,0⟩
def Oq(x y:Nat):aa:=seps [arr y 0 [yY x 1],arr x 0 (rows eg MW)]
theorem JN{W:World}{x y:Nat}:eE W [Oq x y] (B4 x y):=by
 refine⟨Rd.eU (Rd.lit .here rfl (fun _ _=>rfl) rfl),fun q hq=>?_,Rd.nil,Rd.nil⟩
 rw[show(B4 x y).fs=[(yY x 1,MW)] from rfl,List.mem_singleton] at hq
 subst hq
 exact Rd.eU (Rd.lit (.there .here) rfl (fun _ _=>rfl) rfl)
theorem KK:dB FG=0:=by decide +kernel
theorem NS:Di FG:=⟨KK,fun f hf i hi=>by
 have:(FG.funcs.all fun f=>f.all fun i=>decide (0≤i.n) && decide (i.n≤18446744073709551615))=true:=by decide +kernel
 have:=List.all_eq_true.1 (List.all_eq_true.1 this f hf) i hi
 exact(by simpa using this:0≤i.n∧i.n≤18446744073709551615)⟩
def B5:Lib:=Lib.new (Spc.new FG) 2
def ER:Lib:=(B5.cy 1).2
def l16:Nat→Lib
 | 0=>(ER.cy 1).2
 | k+1=>((l16 k).step 1 0).2.2
def HL:Nat→Nat
 | 0=>0
 | k+1=>HL k+if ((l16 k).step 1 0).1.aL=true then 1 else 0
theorem MX:eC 0 B5:=eC.new (gZ.new NS) 2
theorem MY:eC 1 ER:=MX.cy 1
theorem i16:∀ k,k≤30→eC (k+2) (l16 k)
 | 0,_=>MY.cy 1
 | k+1,h=>(i16 k (by omega)).step (by omega) 1 0
theorem NT:(B5.cy 1).1=true:=by decide +kernel
theorem NU:(ER.cy 1).1=false:=by decide +kernel
theorem OL:HL 20=2:=by decide +kernel
theorem OM:((l16 20).step 0 0).2.1=11:=by decide +kernel
theorem ON:(l16 20).has 0=false:=by decide +kernel
theorem OO:(l16 20).procs=[1]:=by decide +kernel
theorem OP:(l16 20).locked=false:=by decide +kernel
theorem HM:∀ k,HL k≤k
 | 0=>Nat.le_refl _
 | k+1=>by
  have:=HM k
  unfold HL;split <;> omega
end Go.SLYthlllpngkljgfaaGreat
namespace Go.SLYthlllpngkljgfaaGreat
open Go Go.RowKit
def Mo(l l':Lib):Prop:=∀ q:Nat,cN l'.vs (q:Int)≠0↔cN l.vs (q:Int)≠0
theorem Mo.refl(l:Lib):Mo l l:=fun _=>Iff.rfl
theorem Mo.trans{a b c:Lib}(h:Mo a b)(g:Mo b c):Mo a c:=fun q=>(g q).trans (h q)
theorem Mo.set{l l':Lib}{i:Nat}{v y:aH}(hv:l.vs[i]?=some v)(h0:v.mode≠0)(hy:y.mode≠0)(e:l'.vs=l.vs.set i y):Mo l l':=fun q=>by
 have hi:=(List.getElem?_eq_some_iff.1 hv).1
 rw[e,pX hi]
 by_cases h:q=i
 ·subst h;rw[if_pos rfl, ← lu hv];exact⟨fun _=>h0,fun _=>hy⟩
 ·rw[if_neg h]
theorem Mo.enter{l:Lib}{i:Nat}{v:aH}{m:Int}(hv:l.vs[i]?=some v)(h0:v.mode≠0)(hm:m≠0):Mo l (l.enter (i:Int) m):=by
 cases h:l.locked with
 | true=>rw[qa h];exact Mo.refl _
 | false=>exact Mo.set (y:={v with mode:=m }) hv h0 hm (by rw[nH hv h])
theorem Mo.leave{l:Lib}{i:Nat}{v:aH}{m t:Int}(hv:l.vs[i]?=some v)(h0:v.mode≠0)(hm:m≠0):Mo l (l.leave (i:Int) m t):=Mo.set (y:={v with mode:=m,ab:=t }) hv h0 hm (by rw[iL hv])
theorem Mo.tell(l:Lib)(ys:List Ev):Mo l (l.tell ys):=fun q=>not_congr ((eR l ys).2 q)
theorem wQ(l:Lib)(p c:Int):Mo l (l.step p c).2.2:=by
 cases hh:l.has p with
 | false=>rw[kR hh];exact Mo.refl _
 | true =>
  obtain⟨i,v,rfl,hv,h0⟩:=gA hh
  by_cases h1:v.mode=1
  ·rw[qd hh hv h1]
   show Mo l (l.upcall (i:Int) c).2
   cases hw:(evWithin v.evs).isSome with
   | false=>rw[nI hv hw];exact Mo.enter hv h0 (by decide)
   | true =>
    rw[lO hv hw]
    have key:Mo l (l.q7 i v (wR v.evs)):=Mo.set (y:={v with evs:=wR v.evs }) hv h0 h0 rfl
    by_cases hm:(wE v.evs).mode=7
    ·by_cases hg:(l.aK.run (wE v.evs).ab c).1.cj=true
     ·rw[lN hv hm hg];exact key
     ·rw[jc hv hm hg];exact key
    ·rw[lM hv hm];exact key
  by_cases h2:v.mode=2
  ·rw[qe hh hv h2]
   cases he:v.evs with
   | nil=>rw[lP hv he];exact Mo.leave hv h0 (by decide)
   | cons e r =>
    by_cases hr:dG e=true
    ·rw[nJ hv he hr];exact Mo.set (y:={v with evs:=r }) hv h0 h0 rfl
    ·rw[lQ hv he hr];exact Mo.set (y:={v with evs:=r }) hv h0 h0 rfl
  by_cases h3:v.mode=3
  ·rw[qf hh hv h3];exact Mo.enter hv h0 (by decide)
  by_cases h4:v.mode=4
  ·rw[qg hh hv h4]
   cases hp:(rPick l.rows (i:Int)).isSome with
   | false=>rw[(qb hp).1];exact Mo.leave hv h0 (by decide)
   | true=>rw[nK hp];exact Mo.leave (l:={l with rows:=mg l.rows (i:Int) }) hv h0 (by decide)
  by_cases h5:v.mode=5
  ·rw[qh hh hv h5]
   show Mo l (l.hJ (i:Int) c).2
   by_cases hc:l.aK.class v.ab=2
   ·rw[lR hv hc];exact Mo.set (y:={v with mode:=6 }) hv h0 (by show(6:Int)≠0;decide) rfl
   ·by_cases hs:(l.aK.run v.ab c).1.aR=true
    ·rw[nL hv hc hs]
     exact(Mo.set (y:=aH.new [⟨2,v.ab,0⟩]) hv h0 (by show(1:Int)≠0;decide) rfl).trans (Mo.tell _ _)
    ·by_cases he:(l.aK.run v.ab c).1.ended=true
     ·rw[qc hv hc hs he]
      exact(Mo.set (y:={v with mode:=3,ab := -1 }) hv h0 (by show(3:Int)≠0;decide) rfl).trans (Mo.tell _ _)
     ·rw[nM hv hc hs he]
      exact(show Mo l (l.aL v.ab c).2 from fun _=>Iff.rfl).trans (Mo.tell _ _)
  by_cases h6:v.mode=6
  ·rw[qi hh hv h6];exact Mo.enter hv h0 (by decide)
  by_cases h7:v.mode=7
  ·rw[qj hh hv h7]
   show Mo l (l.inside (i:Int) c).2
   by_cases hg:(l.aK.run v.ab c).1.cj=true
   ·by_cases hy:(l.aK.run v.ab c).1.yielded=true
    ·rw[jd hv hg hy]
     exact Mo.leave (l:=((l.aL v.ab c).2.fO (i:Int) (l.aK.run v.ab c).1.av).fO (i:Int) [v.ab]) hv h0 (by decide)
    ·rw[nN hv hg hy]
     exact Mo.leave (l:=(l.aL v.ab c).2.fO (i:Int) (l.aK.run v.ab c).1.av) hv h0 (by decide)
   ·rw[lS hv hg]
    exact Mo.leave (l:=(l.aL v.ab c).2.fO (i:Int) (l.aK.run v.ab c).1.av) hv h0 (by decide)
  by_cases h8:v.mode=8
  ·cases he:gR l.rows with
   | true=>rw[m5 hh hv h8 he];exact Mo.refl _
   | false=>rw[m6 hh hv h8 he];exact Mo.set (y:={v with mode:=3 }) hv h0 (by show(3:Int)≠0;decide) rfl
  ·rw[qk hh hv ⟨h1,h2,h3,h4,h5,h6,h7,h8⟩];exact Mo.refl _
theorem ke(l:Lib)(p:Int):aE 2 0 l (l.ck p).2:=by
 have h:=eV l p
 exact⟨h.len,congrArg _ h.rows,wF l p,fun m hm=>by rw[h.rows];exact hm⟩
theorem eC.ck{k:Nat}{l:Lib}(h:eC k l)(p:Int):eC (k+1) (l.ck p).2:=h.of ((ke l p).le (by omega) (by omega)) (by rw[(eV l p).aK];exact h.sp.more (by omega))
def Krn.step(k:Krn)(p c:Int):(Int×gk×Int)×Krn :=
 match aU k.owner p with
 | none=>((0,gk.z,1),k)
 | some o=>if o = -1 then ((0,gk.z,11),k) else
  match aU k.libs o with
  | none=>((0,gk.z,11),k)
  | some l=>((o,(l.step p c).1,(l.step p c).2.1),⟨k.owner,k.libs.set o.toNat (l.step p c).2.2⟩)
theorem gI{k:Krn}{p c:Int}(h:¬dp k p=0):k.step p c=((0,gk.z,dp k p),k):=by
 unfold dp at h ⊢
 unfold Krn.step
 cases e:aU k.owner p with
 | none=>rfl
 | some o =>
  rw[e] at h
  simp only at h ⊢
  by_cases ho:o = -1
  ·rw[if_pos ho,if_pos ho]
  ·rw[if_neg ho] at h;exact absurd rfl h
theorem jO{k:Krn}{i n:Nat}{l:Lib}{c:Int}(ho:k.owner[i]?=some (n:Int))(hl:k.libs[n]?=some l):k.step (i:Int) c=(((n:Int),(l.step (i:Int) c).1,(l.step (i:Int) c).2.1),⟨k.owner,k.libs.set n (l.step (i:Int) c).2.2⟩):=by
 unfold Krn.step
 rw[bf,ho]
 simp only
 rw[if_neg (by omega),bf,hl]
 simp only[Int.toNat_natCast]
structure gm(n:Nat)(k:Krn):Prop where
 ag:gS k
 own:∀ v∈k.owner,v = -1∨(0≤v∧v<(k.libs.length:Int))
 ll:k.libs.length≤8
 gE:∀ l∈k.libs,eC n l
theorem gm.ok{n:Nat}{k:Krn}(h:gm n k):nZ (40 * (n+1)) k:=⟨h.own,h.ag.ol,h.ll,fun l hl=>⟨(h.gE l hl).ev,(h.gE l hl).vl,(h.gE l hl).sp.lt⟩⟩
structure nU(m:Nat)(k:Krn):Prop where
 ok:nZ m k
 gE:∀ l∈k.libs,HI l∧ ∀ t c,(l.aK.run t c).1.av.length≤17
theorem gm.rn{n:Nat}{k:Krn}(h:gm n k)(hn:n≤180):nU (40 * (n+1)) k:=⟨h.ok,fun l hl=>⟨(h.gE l hl).sz hn,fun t=>(h.gE l hl).wy hn t⟩⟩
theorem gm.more{n:Nat}{k:Krn}(h:gm n k):gm (n+1) k:=⟨h.ag,h.own,h.ll,fun l hl=>(h.gE l hl).more⟩
theorem gm.put{n:Nat}{k:Krn}(h:gm n k){i j:Nat}{o:Int}{l':Lib}(ho:o = -1∨(0≤o∧o<(k.libs.length:Int)))(ha:gS ⟨k.owner.set i o,k.libs.set j l'⟩)(hl:eC (n+1) l'):gm (n+1) ⟨k.owner.set i o,k.libs.set j l'⟩:=by
 refine⟨ha,fun v hv=>?_,by show(k.libs.set j l').length≤8;rw[List.length_set];exact h.ll,fun x hx=>?_⟩
 ·show v = -1∨(0≤v∧v<((k.libs.set j l').length:Int))
  rw[List.length_set]
  rcases List.mem_or_eq_of_mem_set hv with e | e
  ·exact h.own v e
  ·subst e;exact ho
 ·rcases List.mem_or_eq_of_mem_set hx with e | e
  ·exact(h.gE x e).more
  ·subst e;exact hl
theorem gm.eX{n:Nat}{k:Krn}(h:gm n k){i j:Nat}{l:Lib}(ho:k.owner[i]?=some (-1))(hl:k.libs[j]?=some l):gm (n+1) (k.eX (i:Int) (j:Int)).2:=by
 rw[mM ho hl]
 have:=(List.getElem?_eq_some_iff.1 hl).1
 exact h.put (.inr ⟨by omega,by omega⟩) (h.ag.eX ho hl) ((h.gE l (List.mem_of_getElem? hl)).cy _)
theorem gm.take{n:Nat}{k:Krn}(h:gm n k)(p:Int):gm (n+1) (k.take p).2:=by
 by_cases e:dp k p=0
 ·obtain⟨i,j,l,rfl,ho,hl,e⟩:=dE h.ok e
  rw[e]
  exact h.put (.inl rfl) (h.ag.take ho hl) ((h.gE l (List.mem_of_getElem? hl)).ck _)
 ·rw[jF e];exact h.more
theorem gS.step{k:Krn}(h:gS k){j:Nat}{l l':Lib}(hl:k.libs[j]?=some l)(hm:Mo l l')(he:l'.vs.length=l.vs.length):gS ⟨k.owner,k.libs.set j l'⟩:=by
 refine⟨fun x hx=>?_,h.ol,fun q x hx p=>?_⟩
 ·rcases List.mem_or_eq_of_mem_set hx with e | e
  ·exact h.len x e
  ·subst e;rw[he];exact h.len l (List.mem_of_getElem? hl)
 ·have hx':(k.libs.set j l')[q]?=some x:=hx
  by_cases e:j=q
  ·subst e
   rw[List.getElem?_set_self (List.getElem?_eq_some_iff.1 hl).1] at hx'
   obtain rfl:=Option.some.inj hx'
   rw[hm p];exact h.iff j l hl p
  ·rw[List.getElem?_set_ne e] at hx'
   exact h.iff q x hx' p
theorem gm.step{n:Nat}{k:Krn}(h:gm n k)(hn:n≤180)(p c:Int):gm (n+1) (k.step p c).2:=by
 by_cases e:dp k p=0
 ·obtain⟨i,j,l,rfl,ho,hl, -⟩:=dE h.ok e
  rw[jO ho hl]
  have hli:=h.gE l (List.mem_of_getElem? hl)
  have ha:=h.ag.step hl (wQ l (i:Int) c) (nO (hli.wy hn) (i:Int) c).vs
  refine⟨ha,fun v hv=>?_,by show(k.libs.set j _).length≤8;rw[List.length_set];exact h.ll,fun x hx=>?_⟩
  ·show v = -1∨(0≤v∧v<((k.libs.set j _).length:Int));rw[List.length_set];exact h.own v hv
  ·rcases List.mem_or_eq_of_mem_set hx with e | e
   ·exact(h.gE x e).more
   ·subst e;exact hli.step hn _ _
 ·rw[gI e];exact h.more
end Go.SLYthlllpngkljgfaaGreat
namespace Go.SLYthlllpngkljgfaaGreat
open Go Go.RowKit
section
variable{P:Program}{W:World}{N:Nat}{L:List (Nat×Option Value)}{H:List aa}
theorem bA.HN{fn:Func}{R:Ending→World→Prop}{E:TypeId}{t t2 t3 b o:Nat}{cs:List Value}{v2 v3:Value}(hr:fn.results = #[.tmp t2,.cell t E,.tmp t3])(ht:look L t=some (.pointer (some ⟨b,o,none⟩)))(hg:∀ w,(isAgg E).run P w = .ok true w)(hz:∀ w,(sizeOf E).run P w = .ok cs.length w)(hc:Cells W H b o cs)(h2:look L t2=some v2)(h3:look L t3=some v3)
  (h:∀ w,Sat W w (seps H)→R (.returned (.tuple #[v2,.agg cs.toArray,v3])) w):bA W N (bodyPost P fn R) .ret L H :=
 bA.DR (fun a w ha hs=>by
  have hl:=gB (P:=P) (w:=w) hg hz fun i v hv=>hc i v hv w hs
  simp[results,hr,ha.get _ _ ht,asAddr,hl,ha.get _ _ h2,ha.get _ _ h3]) h
end
theorem HO(k:Krn):k.free.length=k.owner.count (-1):=by unfold Krn.free;rw[mZ,iv]
theorem yC{n:Int}:∀ {o:List Int} {k:Nat} {p:Int},p∈posFrom n o k→ ∃ i:Nat,p=((k+i:Nat):Int)∧o[i]?=some n
 | [],_,_,h=>by cases h
 | x::o,k,p,h=>by
  unfold posFrom at h
  split at h
  ·rename_i e
   rcases List.mem_cons.1 h with rfl | h
   ·exact⟨0,rfl,by rw[e];rfl⟩
   ·obtain⟨i,h1,h2⟩:=yC h
    exact⟨i+1,by rw[h1];omega,by simpa using h2⟩
  ·obtain⟨i,h1,h2⟩:=yC h
   exact⟨i+1,by rw[h1];omega,by simpa using h2⟩
end Go.SLYthlllpngkljgfaaGreat
namespace Go.SLYthlllpngkljgfaaGreat
open Go Go.RowKit
theorem gm.new{procs:Int}{l:List gY}(h:ee procs l=0)(hw:∀ p∈l, ∀ f∈p.funcs, ∀ i∈f,fj i.n):gm 0 (Krn.new procs l):=by
 have hi:=(iw h).1
 have hc:∀ p∈l,dB p=0:=by
  unfold ee at h
  split at h
  ·cases h
  ·exact kv h
 refine⟨hi.ag,hi.ok.own,hi.ok.ll,fun x hx=>?_⟩
 obtain⟨p,hp,rfl⟩:=List.mem_map.1 hx
 exact eC.new (gZ.new ⟨hc p hp,hw p hp⟩) procs
/-! law 17's own fact -/
def NV:Krn:=Krn.new 3 [FG,FG]
def NW:Krn:=(NV.eX 1 1).2
def OQ:Krn:=(NW.take 1).2
def O1(x y z:Nat):aa:=seps [arr z 0 (rows ez [B4 x y,B4 x y]),arr y 0 [yY x 1],arr x 0 (rows eg MW)]
end Go.SLYthlllpngkljgfaaGreat
namespace Go.SLYthlllpngkljgfaaGreat
open Go Go.RowKit
theorem Au{o:List Int}(h:o.length≤64):∀ n,cntTo o n≤n * 64
 | 0=>by unfold cntTo;omega
 | n+1=>by
  show cntTo o n+o.count (n:Int)≤_
  have h1:=Au h n
  have h2:o.count (n:Int)≤64:=Nat.le_trans List.count_le_length h
  omega
theorem gm.HP{n i:Nat}{k:Krn}(h:gm n k)(hi:i≤k.libs.length):k.free.length+cntTo k.owner i≤1000:=by
 have h1:=Au h.ag.ol i
 have h2:k.free.length≤64:=by rw[HO];exact Nat.le_trans List.count_le_length h.ag.ol
 have:=h.ll
 omega
end Go.SLYthlllpngkljgfaaGreat
namespace Go.SLYthlllpngkljgfaaGreat
open Go Go.RowKit
theorem ES(k:Krn)(p c:Int):(k.step p c).2.owner=k.owner:=by
 unfold Krn.step
 split
 ·rfl
 ·split
  ·rfl
  ·split <;> rfl
theorem wS(k:Krn)(p c:Int):(k.step p c).2.libs.length=k.libs.length:=by
 unfold Krn.step
 split
 ·rfl
 ·split
  ·rfl
  ·split
   ·rfl
   ·exact List.length_set ..
def HQ(n p:Nat)(s:Int):List Int:=(List.replicate n (-1)).set p s
theorem JO{n p:Nat}{s:Int}(h:p<n):(HQ n p s)[p]?=some s:=by
 unfold HQ;rw[List.getElem?_set_self (by rw[List.length_replicate];exact h)]
theorem ET{n p:Nat}{s:Int}(h:p<n):(HQ n p s).set p (-1)=List.replicate n (-1):=by
 unfold HQ
 rw[List.set_set]
 refine List.ext_getElem? fun j=>?_
 by_cases e:p=j
 ·subst e;rw[List.getElem?_set_self (by rw[List.length_replicate];exact h),List.getElem?_replicate,if_pos h]
 ·rw[List.getElem?_set_ne e]
structure HR(n p s m j:Nat)(k:Krn):Prop where
 inv:gm j k
 own:k.owner=HQ n p (s:Int)
 len:k.libs.length=m
theorem HR.step{n p s m j:Nat}{k:Krn}(h:HR n p s m j k)(hj:j≤180)(q c:Int):HR n p s m (j+1) (k.step q c).2:=⟨h.inv.step hj q c,(ES k q c).trans h.own,(wS k q c).trans h.len⟩
theorem HR.take{n p s m j:Nat}{k:Krn}(h:HR n p s m j k)(hp:p<n)(_hs:s<m):∃ k2:Krn,k.take (p:Int)=(0,k2)∧gm (j+1) k2∧k2.owner=List.replicate n (-1)∧k2.libs.length=m∧k2.demand=k.demand:=by
 have hop:k.owner[p]?=some (s:Int):=by rw[h.own];exact JO hp
 obtain⟨i,q,l,e,ho,hl,ht⟩:=dE h.inv.ok (jE (bl:=[]) hop).1
 obtain rfl:p=i:=by omega
 have hi:=h.inv.take (p:Int)
 rw[ht] at hi
 refine⟨_,ht,hi,?_,?_,?_⟩
 ·show k.owner.set p (-1)=_
  rw[h.own];exact ET hp
 ·show(k.libs.set q _).length=m
  rw[List.length_set];exact h.len
 ·exact ui hl (congrArg (fun z:Spc=>(z.ready.length:Int)) (eV l (p:Int)).aK)
end Go.SLYthlllpngkljgfaaGreat
namespace Go.SLYthlllpngkljgfaaGreat
open Go Go.RowKit
def m7(v:aH):Nat:=(if v.holds=true then 1 else 0)+v.evs.countP jb
def sumV:List aH→Nat
 | []=>0
 | v::l=>m7 v+sumV l
def IY(l:Lib):Nat:=sumV l.vs+l.waiting.countP jb
def JP(b:Bool):Nat:=if b=true then 1 else 0
structure Lk(l:Lib):Prop where
 n:IY l=JP l.locked
 e:∀ v∈l.vs,v.mode=1∨v.mode=2∨v.evs=[]
theorem m8{vs:List aH}{i:Nat}{v:aH}(h:vs[i]?=some v)(x:aH):sumV (vs.set i x)+m7 v=sumV vs+m7 x:=by
 induction vs generalizing i with
 | nil=>simp at h
 | cons y vs ih =>
  cases i with
  | zero =>
   obtain rfl:y=v:=by simpa using h
   simp only[List.set_cons_zero,sumV];omega
  | succ i =>
   have:=ih (i:=i) (by simpa using h)
   simp only[List.set_cons_succ,sumV];omega
theorem JQ(l:List Ev):(da l).countP jb=l.countP jb:=by
 induction l with
 | nil=>rfl
 | cons e l ih =>
  unfold da at ih ⊢
  by_cases h:0<e.mode
  ·rw[List.filter_cons_of_pos (by simp[h]),List.countP_cons,List.countP_cons,ih]
  ·have h2:jb e=false:=by unfold jb;exact decide_eq_false h
   rw[List.countP_cons,h2]
   by_cases h3:dG e=true
   ·rw[List.filter_cons_of_pos (by simp[h3]),List.countP_cons,h2,ih]
   ·rw[List.filter_cons_of_neg (by simp[h3,h]),ih];simp
theorem EU{v:aH}(h:v.holds=true):0<v.mode:=by
 unfold aH.holds at h
 simp only[Bool.or_eq_true,decide_eq_true_eq] at h
 omega
theorem Av(v:aH):v.strip.countP jb=m7 v:=by
 unfold aH.strip m7
 rw[List.countP_append,JQ]
 by_cases h:v.holds=true
 ·rw[if_pos h,if_pos h]
  have:∀ t,jb ⟨4,t,v.mode⟩=true:=fun t=>decide_eq_true (EU h)
  simp[this]
 ·rw[if_neg h,if_neg h]
  split <;> simp[jb]
theorem B6(l:List Ev):m7 (aH.new l)=l.countP jb:=by
 show(if _ then 1 else 0)+l.countP jb=_
 rw[if_neg (by show ¬aH.holds _=true;unfold aH.holds aH.new;simp)];omega
theorem yD(v:aH)(l:List Ev):m7 (v.told l)=m7 v+l.countP jb:=by
 unfold aH.told
 rw[B6,List.countP_append,Av]
theorem MZ:m7 aH.z=0:=rfl
theorem fZ(l:List Int):(aB l).countP jb=0:=by
 rw[List.countP_eq_zero]
 intro e he
 obtain⟨n, -,rfl⟩:=List.mem_map.1 he
 simp[jb]
theorem Lk.set{l:Lib}(h:Lk l){i:Nat}{v x:aH}{b:Bool}{rows:List (List Int)}{s:Spc}(hv:l.vs[i]?=some v)(hn:m7 x+JP l.locked=m7 v+JP b)(he:x.mode=1∨x.mode=2∨x.evs=[]):Lk ⟨s,rows,l.vs.set i x,l.waiting,b⟩:=by
 refine⟨?_,fun y hy=>?_⟩
 ·have h1:=m8 hv x
  have h2:=h.n
  unfold IY at h2 ⊢
  simp only at h2 ⊢
  omega
 ·rcases List.mem_or_eq_of_mem_set hy with hy | rfl
  ·exact h.e y hy
  ·exact he
theorem Lk.same{l:Lib}(h:Lk l){rows:List (List Int)}{s:Spc}:Lk ⟨s,rows,l.vs,l.waiting,l.locked⟩:=⟨h.n,h.e⟩
theorem HP{vs:List aH}{i:Nat}{v:aH}(h:vs[i]?=some v):m7 v≤sumV vs:=by
 have:=m8 h aH.z
 rw[MZ] at this
 omega
theorem Lk.one{l:Lib}(h:Lk l){i:Nat}{v:aH}(hv:l.vs[i]?=some v)(h1:1≤m7 v):l.locked=true∧m7 v=1:=by
 have h2:=h.n
 have h3:=HP hv
 unfold IY at h2
 cases hl:l.locked with
 | true=>rw[hl] at h2;exact⟨rfl,by unfold JP at h2;rw[if_pos rfl] at h2;omega⟩
 | false=>rw[hl] at h2;unfold JP at h2;rw[if_neg (by decide)] at h2;omega
theorem Lk.tell{l:Lib}(h:Lk l){ys:List Ev}(hy:ys.countP jb=0):Lk (l.tell ys):=by
 by_cases h0:ys=[]
 ·subst h0;rw[jD];exact h
 ·cases hp:l.procs with
  | nil =>
   rw[jl h0 hp]
   exact⟨by have:=h.n;unfold IY at this ⊢;simp only[List.countP_append];omega,h.e⟩
  | cons p r =>
   obtain⟨i,v,rfl,hv, -⟩:=ig hp
   rw[jm h0 hp hv]
   exact h.set hv (by rw[yD];omega) (.inl rfl)
theorem Lk.wT{l:Lib}{ys:List Ev}(hn:IY l+ys.countP jb=JP l.locked)(he:∀ v∈l.vs,v.mode=1∨v.mode=2∨v.evs=[]):Lk (l.tell ys):=by
 by_cases h0:ys=[]
 ·subst h0;rw[jD];exact⟨hn,he⟩
 ·cases hp:l.procs with
  | nil =>
   rw[jl h0 hp]
   exact⟨by unfold IY at hn ⊢;simp only[List.countP_append];omega,he⟩
  | cons p r =>
   obtain⟨i,v,rfl,hv, -⟩:=ig hp
   rw[jm h0 hp hv]
   refine⟨?_,fun y hy=>?_⟩
   ·have h1:=m8 hv (v.told ys)
    rw[yD] at h1
    unfold IY at hn ⊢
    simp only at hn ⊢
    omega
   ·rcases List.mem_or_eq_of_mem_set hy with hy | rfl
    ·exact he y hy
    ·exact .inl rfl
theorem Lk.cy{l:Lib}(h:Lk l)(p:Int):Lk (l.cy p).2:=by
 unfold Lib.cy
 cases e:aU l.vs p with
 | none=>exact h
 | some v =>
  simp only
  by_cases hm:v.mode=0
  ·rw[if_pos hm]
   obtain⟨h0, -,hv⟩:=cB e
   have hh:m7 v=0:=by
    unfold m7
    rw[if_neg (by unfold aH.holds;rw[hm];simp)]
    rcases h.e v (List.mem_of_getElem? hv) with g | g | g
    ·omega
    ·omega
    ·rw[g];rfl
   refine⟨?_,fun y hy=>?_⟩
   ·have h1:=m8 hv (aH.new (⟨1, -1,0⟩::l.waiting))
    have h2:=h.n
    rw[B6,List.countP_cons] at h1
    unfold IY at h2 ⊢
    simp only[List.countP_nil] at h1 h2 ⊢
    have:jb ⟨1, -1,0⟩=false:=rfl
    rw[this] at h1
    simp only[Bool.false_eq_true,if_false] at h1
    omega
   ·rcases List.mem_or_eq_of_mem_set hy with hy | rfl
    ·exact h.e y hy
    ·exact .inl rfl
  ·rw[if_neg hm];exact h
theorem Lk.ck{l:Lib}(h:Lk l)(p:Int):Lk (l.ck p).2:=by
 cases hh:l.has p with
 | false=>rw[jo hh];exact h
 | true =>
  obtain⟨i,v,rfl,hv, -⟩:=gA hh
  rw[ij hh hv]
  refine Lk.wT ?_ fun y hy=>?_
  ·have h1:=m8 hv aH.z
   have h2:=h.n
   rw[MZ] at h1
   rw[Av]
   unfold IY at h2 ⊢
   simp only at h2 ⊢
   omega
  ·rcases List.mem_or_eq_of_mem_set hy with hy | rfl
   ·exact h.e y hy
   ·exact .inr (.inr rfl)
theorem Lk.preempt{l:Lib}(h:Lk l)(p:Int):Lk (l.preempt p).2:=by
 cases hh:l.has p with
 | false=>rw[jN hh];exact h
 | true =>
  obtain⟨i,v,rfl,hv, -⟩:=gA hh
  rw[iM hh hv]
  exact h.set hv (by rw[yD];rfl) (.inl rfl)
theorem Lk.enter{l:Lib}(h:Lk l){i:Nat}{v:aH}{m:Int}(hv:l.vs[i]?=some v)(hh:v.holds=false)(hm:m=2∨m=4∨m=7)(he:m=2∨v.evs=[]):Lk (l.enter (i:Int) m):=by
 cases hl:l.locked with
 | true=>rw[qa hl];exact h
 | false =>
  rw[nH hv hl]
  refine h.set hv ?_ (he.elim (fun e=>.inr (.inl e)) fun e=>.inr (.inr e))
  unfold m7
  rw[hl,hh]
  have:aH.holds {v with mode:=m }=true:=by unfold aH.holds;rcases hm with rfl | rfl | rfl <;> rfl
  rw[this]
  simp[JP];omega
theorem Lk.leave{l:Lib}(h:Lk l){i:Nat}{v:aH}{m t:Int}(hv:l.vs[i]?=some v)(hh:v.holds=true)(hm:m=3∨m=5∨m=8)(he:v.evs=[]):Lk (l.leave (i:Int) m t):=by
 rw[iL hv]
 have h1:1≤m7 v:=by unfold m7;rw[if_pos hh];omega
 obtain⟨hl,h2⟩:=h.one hv h1
 refine h.set hv ?_ (.inr (.inr he))
 rw[h2,hl]
 unfold m7
 have:aH.holds {v with mode:=m,ab:=t }=false:=by unfold aH.holds;rcases hm with rfl | rfl | rfl <;> rfl
 rw[this,he]
 simp[JP]
theorem Lk.run{l:Lib}(h:Lk l){i:Nat}{v:aH}(hv:l.vs[i]?=some v)(h1:¬v.mode=1)(h2:¬v.mode=2):v.evs=[]:=by
 rcases h.e v (List.mem_of_getElem? hv) with g | g | g
 ·exact absurd g h1
 ·exact absurd g h2
 ·exact g
theorem Dw{α:Type}{p:α→Bool}:∀ (l:List α) (k:Nat),idxP p l k = -1∨(k:Int)≤idxP p l k
 | [],k=>.inl rfl
 | y::l,k=>by
  unfold idxP
  by_cases hp:p y=true
  ·rw[if_pos hp];exact .inr (Int.le_refl _)
  ·rw[if_neg hp]
   rcases Dw (p:=p) l (k+1) with g | g
   ·exact .inl g
   ·exact .inr (by omega)
theorem uy{α:Type}{p:α→Bool}:∀ {l:List α} {k i:Nat} {x:α},idxP p l k=((k+i:Nat):Int)→l[i]?=some x→p x=true
 | [],k,i,x,h,hx=>by simp at hx
 | y::l,k,i,x,h,hx=>by
  unfold idxP at h
  by_cases hp:p y=true
  ·rw[if_pos hp] at h
   obtain rfl:i=0:=by omega
   obtain rfl:y=x:=by simpa using hx
   exact hp
  ·rw[if_neg hp] at h
   cases i with
   | zero =>
    have:=Dw (p:=p) l (k+1)
    rcases this with g | g <;> omega
   | succ i=>exact uy (l:=l) (k:=k+1) (i:=i) (by rw[h];omega) (by simpa using hx)
theorem EV{l:List Ev}{x:Ev}{r:List Ev}(h:evWithin l=some (x,r)):l.countP jb=r.countP jb+1:=by
 unfold evWithin at h
 split at h
 ·cases h
 ·split at h
  ·cases h
  ·rename_i h0 y e2
   cases h
   have hi:=(List.getElem?_eq_some_iff.1 e2).1
   have hx:jb x=true:=uy (l:=l) (k:=0) (i:=(idxP jb l 0).toNat) (by omega) e2
   have e:l.take (idxP jb l 0).toNat++x::l.drop ((idxP jb l 0).toNat+1)=l:=by rw[← drop_cons e2,List.take_append_drop]
   have h1:=congrArg (List.countP jb) e
   rw[List.countP_append,List.countP_cons,hx] at h1
   rw[List.countP_append]
   simp only[if_true] at h1
   omega
theorem Lk.step{l:Lib}(h:Lk l)(p c:Int):Lk (l.step p c).2.2:=by
 cases hh:l.has p with
 | false=>rw[kR hh];exact h
 | true =>
  obtain⟨i,v,rfl,hv,h0⟩:=gA hh
  by_cases h1:v.mode=1
  ·have hn:v.holds=false:=by unfold aH.holds;rw[h1];rfl
   rw[qd hh hv h1]
   show Lk (l.upcall (i:Int) c).2
   cases hw:(evWithin v.evs).isSome with
   | false=>rw[nI hv hw];exact h.enter hv hn (.inl rfl) (.inl rfl)
   | true =>
    rw[lO hv hw]
    have hc:v.evs.countP jb=(wR v.evs).countP jb+1:=by
     unfold wR
     cases e:evWithin v.evs with
     | none=>rw[e] at hw;cases hw
     | some x=>exact EV (x:=x.1) (r:=x.2) e
    have hi:m7 v=v.evs.countP jb:=by unfold m7;rw[hn];simp
    obtain⟨hl,h2⟩:=h.one hv (by omega)
    have key:Lk (l.q7 i v (wR v.evs)):=h.set (b:=false) (x:={v with evs:=wR v.evs }) hv (by
     have:m7 {v with evs:=wR v.evs }=(wR v.evs).countP jb:=by
      show(if v.holds=true then 1 else 0)+_=_
      rw[hn];simp
     rw[this,hl]
     unfold JP
     simp;omega) (.inl h1)
    by_cases hm:(wE v.evs).mode=7
    ·by_cases hg:(l.aK.run (wE v.evs).ab c).1.cj=true
     ·rw[lN hv hm hg];exact key.same
     ·rw[jc hv hm hg];exact key.same
    ·rw[lM hv hm];exact key
  by_cases h2:v.mode=2
  ·have hn:v.holds=true:=by unfold aH.holds;rw[h2];rfl
   rw[qe hh hv h2]
   cases he:v.evs with
   | nil=>rw[lP hv he];exact h.leave hv hn (.inl rfl) he
   | cons e r =>
    have hi:m7 v=1+v.evs.countP jb:=by unfold m7;rw[hn];simp
    obtain⟨hl,h3⟩:=h.one hv (by omega)
    have hx:m7 {v with evs:=r }=m7 v:=by
     have:m7 {v with evs:=r }=1+r.countP jb:=by
      show(if v.holds=true then 1 else 0)+_=_
      rw[hn];simp
     rw[he,List.countP_cons] at hi
     omega
    by_cases hr:dG e=true
    ·rw[nJ hv he hr];exact h.set (x:={v with evs:=r }) hv (by rw[hx]) (.inr (.inl h2))
    ·rw[lQ hv he hr];exact h.set (x:={v with evs:=r }) hv (by rw[hx]) (.inr (.inl h2))
  have hev:=h.run hv h1 h2
  by_cases h3:v.mode=3
  ·rw[qf hh hv h3];exact h.enter hv (by unfold aH.holds;rw[h3];rfl) (.inr (.inl rfl)) (.inr hev)
  by_cases h4:v.mode=4
  ·have hn:v.holds=true:=by unfold aH.holds;rw[h4];rfl
   rw[qg hh hv h4]
   cases hp:(rPick l.rows (i:Int)).isSome with
   | false=>rw[(qb hp).1];exact h.leave hv hn (.inr (.inr rfl)) hev
   | true=>rw[nK hp];exact(h.same (rows:=mg l.rows (i:Int)) (s:=l.aK)).leave hv hn (.inr (.inl rfl)) hev
  by_cases h5:v.mode=5
  ·have hn:v.holds=false:=by unfold aH.holds;rw[h5];rfl
   have hi:m7 v=0:=by unfold m7;rw[hn,hev];rfl
   rw[qh hh hv h5]
   show Lk (l.hJ (i:Int) c).2
   by_cases hc:l.aK.class v.ab=2
   ·rw[lR hv hc];exact h.set (x:={v with mode:=6 }) hv (by rw[hi];unfold m7;rw[hev];rfl) (.inr (.inr hev))
   ·by_cases hs:(l.aK.run v.ab c).1.aR=true
    ·rw[nL hv hc hs]
     exact Lk.tell (h.set (x:=aH.new [⟨2,v.ab,0⟩]) hv (by rw[hi,B6];rfl) (.inl rfl)) (fZ _)
    ·by_cases he:(l.aK.run v.ab c).1.ended=true
     ·rw[qc hv hc hs he]
      exact Lk.tell (h.set (x:={v with mode:=3,ab := -1 }) hv (by rw[hi];unfold m7;rw[hev];rfl) (.inr (.inr hev))) (fZ _)
     ·rw[nM hv hc hs he]
      exact Lk.tell h.same (fZ _)
  by_cases h6:v.mode=6
  ·rw[qi hh hv h6];exact h.enter hv (by unfold aH.holds;rw[h6];rfl) (.inr (.inr rfl)) (.inr hev)
  by_cases h7:v.mode=7
  ·have hn:v.holds=true:=by unfold aH.holds;rw[h7];rfl
   rw[qj hh hv h7]
   show Lk (l.inside (i:Int) c).2
   by_cases hg:(l.aK.run v.ab c).1.cj=true
   ·by_cases hy:(l.aK.run v.ab c).1.yielded=true
    ·rw[jd hv hg hy]
     exact Lk.leave (l:=((l.aL v.ab c).2.fO (i:Int) (l.aK.run v.ab c).1.av).fO (i:Int) [v.ab]) h.same hv hn (.inl rfl) hev
    ·rw[nN hv hg hy]
     exact Lk.leave (l:=(l.aL v.ab c).2.fO (i:Int) (l.aK.run v.ab c).1.av) h.same hv hn (.inr (.inl rfl)) hev
   ·rw[lS hv hg]
    exact Lk.leave (l:=(l.aL v.ab c).2.fO (i:Int) (l.aK.run v.ab c).1.av) h.same hv hn (.inl rfl) hev
  by_cases h8:v.mode=8
  ·cases he:gR l.rows with
   | true=>rw[m5 hh hv h8 he];exact h
   | false=>rw[m6 hh hv h8 he];exact h.set (x:={v with mode:=3 }) hv (by unfold m7 aH.holds;rw[hev,h8];rfl) (.inr (.inr hev))
  ·rw[qk hh hv ⟨h1,h2,h3,h4,h5,h6,h7,h8⟩];exact h
theorem Lk.new(s:Spc)(p:Int):Lk (Lib.new s p):=by
 have:∀ n,sumV (List.replicate n aH.z)=0:=fun n=>by
  induction n with
  | zero=>rfl
  | succ n ih=>rw[List.replicate_succ,sumV,ih];rfl
 exact⟨by unfold IY;show sumV (List.replicate _ aH.z)+(aB s.ready).countP jb=_;rw[this,fZ];rfl,fun v hv=>.inr (.inr (by rw[(List.mem_replicate.1 hv).2];rfl))⟩
end Go.SLYthlllpngkljgfaaGreat
namespace Go.SLYthlllpngkljgfaaGreat
open Go Go.RowKit
def cW(l:Lib):Nat→List Ev
 | 0=>l.waiting
 | n+1=>cW l n++(bS l (n:Int)).evs
def LP(l:Lib):Nat→Nat
 | 0=>0
 | n+1=>LP l n+(if (bS l (n:Int)).holds=true then 1 else 0)
theorem wU{l:Lib}{m:Nat}(h:∀ v∈l.vs,v.evs.length≤m)(p:Int):(bS l p).evs.length≤m:=by
 unfold bS
 split
 ·rename_i hh
  obtain⟨i,w,e,hv, -⟩:=gA hh
  rw[e,Int.toNat_natCast,aY hv];exact h w (List.mem_of_getElem? hv)
 ·exact Nat.zero_le _
theorem m9{l:Lib}{m:Nat}(hw:l.waiting.length≤m)(h:∀ v∈l.vs,v.evs.length≤m):∀ n,(cW l n).length≤(n+1) * m
 | 0=>by show l.waiting.length≤_;omega
 | n+1=>by
  have h1:=m9 hw h n
  have h2:=wU h (n:Int)
  show(cW l n++_).length≤_
  rw[List.length_append,Nat.add_mul (n+1) 1]
  omega
theorem B7{k:Nat}{s:Spc}(h:gZ k s):s.aT.due.length≤16:=by
 have hbal:∀ w,n9 s w=dQ s w:=fun w=>by have:=h.1.sq w;simpa using this
 have bL:∀ w,cL s.aT w≤dQ s w:=fun w=>by have:=hbal w;unfold n9 at this;omega
 have h1:s.aT.ic.length≤16:=pV (f:=fun r:Int×Int=>r.1) h.1.lt bL
 have:=pS s.aT
 omega
def Lib.cv(l:Lib):Lib:=({l with aK:=l.aK.tick.2 }:Lib).tell (aB l.aK.aT.due)
theorem eD(l:List Int):(aB l).length=l.length:=List.length_map ..
theorem rV{k:Nat}{l:Lib}(h:eC k l):aE 17 0 l l.cv:=by
 have h0:aE 0 0 l ({l with aK:=l.aK.tick.2 }:Lib):=⟨rfl,rfl,Nat.le_refl _,fun _ h=>h⟩
 have h1:=B7 h.sp
 have h2:=eD l.aK.aT.due
 exact(h0.trans (aE.tell _ _)).le (by omega) (by omega)
theorem eC.cv{k:Nat}{l:Lib}(h:eC k l):eC (k+1) l.cv :=
 h.of ((rV h).le (by omega) (by omega)) (by
  show gZ (k+2) (Lib.tell _ _).aK
  rw[(eR _ _).1.aK]
  exact h.sp.tick)
theorem Lk.cv{l:Lib}(h:Lk l):Lk l.cv:=Lk.tell h.same (fZ _)
end Go.SLYthlllpngkljgfaaGreat
namespace Go.SLYthlllpngkljgfaaGreat
open Go Go.RowKit
theorem HS{Q:Lib→Prop}(hg:∀ l p,Q l→Q (l.cy p).2){k:Krn}(p n:Int)(h:∀ l∈k.libs,Q l):∀ l∈(k.eX p n).2.libs,Q l:=fun x hx=>by
 rcases uj k p n with e | ⟨i,j,l,rfl,rfl,ho,hl,e⟩
 ·rw[e] at hx;exact h x hx
 ·rw[e] at hx
  rcases List.mem_or_eq_of_mem_set hx with hx | rfl
  ·exact h x hx
  ·exact hg _ _ (h l (List.mem_of_getElem? hl))
theorem HT{Q:Lib→Prop}(hr:∀ l p,Q l→Q (l.ck p).2){k:Krn}(p:Int)(h:∀ l∈k.libs,Q l):∀ l∈(k.take p).2.libs,Q l:=fun x hx=>by
 unfold Krn.take at hx
 split at hx
 ·exact h x hx
 ·split at hx
  ·exact h x hx
  ·rename_i o _ _
   have hx':x∈k.libs.set o.toNat ((k.libs.getD o.toNat Bn).ck p).2:=hx
   by_cases hi:o.toNat<k.libs.length
   ·obtain⟨l,hl⟩:=ak hi
    rw[aY hl] at hx'
    rcases List.mem_or_eq_of_mem_set hx' with hx' | rfl
    ·exact h x hx'
    ·exact hr _ _ (h l (List.mem_of_getElem? hl))
   ·rw[List.set_eq_of_length_le (by omega)] at hx'
    exact h x hx'
section
variable{Q:Lib→Prop}(hg:∀ l p,Q l→Q (l.cy p).2)(hr:∀ l p,Q l→Q (l.ck p).2)
include hr in
theorem rW:∀ (ps:List Int) {k:Krn},(∀ l∈k.libs,Q l)→ ∀ l∈(eG ps k).libs,Q l
 | [],_,h=>h
 | p::ps,_k,h=>rW ps (HT hr p h)
include hg in
theorem uz(n:Int):∀ (c:Nat) {k:Krn},(∀ l∈k.libs,Q l)→ ∀ l∈(giveTo c n k).libs,Q l
 | 0,_,h=>h
 | c+1,_k,h=>uz n c (HS hg _ _ h)
include hr in
theorem ql:∀ (l:List Int) (n mv:Nat) {k:Krn},(∀ x∈k.libs,Q x)→ ∀ x∈(takeFrom l n (k,mv)).1.libs,Q x
 | [],_,_,_,h=>h
 | w::l,n,mv,k,h=>by
  rw[takeFrom]
  exact ql l (n+1) _ (rW hr _ h)
include hg in
theorem qm:∀ (l:List Int) (n mv:Nat) {k:Krn},(∀ x∈k.libs,Q x)→ ∀ x∈(dK l n (k,mv)).1.libs,Q x
 | [],_,_,_,h=>h
 | w::l,n,mv,k,h=>by
  rw[dK]
  exact qm l (n+1) _ (uz hg _ _ h)
include hg hr in
theorem nP{k:Krn}(prio:List Int)(turn:Int)(h:∀ x∈k.libs,Q x):∀ x∈(k.share prio turn).1.libs,Q x:=by
 unfold Krn.share
 rw[Dt (takeFrom (k.targets prio turn) 0 (k,0))]
 exact qm hg _ 0 _ (ql hr _ 0 0 h)
end
structure B8(k:Nat)(l:Lib):Prop where
 sp:gZ (k+1) l.aK
 vl:l.vs.length≤64
 rl:l.rows.length≤64
 rw:∀ r∈l.rows,r.length≤40 * (k+1)
theorem B8.same{k:Nat}{l l':Lib}(h:B8 k l)(s:wD l l')(hl:l'.vs.length=l.vs.length):B8 k l':=⟨by rw[s.aK];exact h.sp,by rw[hl];exact h.vl,by rw[s.rows];exact h.rl,by rw[s.rows];exact h.rw⟩
theorem eC.row{k:Nat}{l:Lib}(h:eC k l):B8 k l:=⟨h.sp,h.vl,h.rl,h.rw⟩
theorem B8.inv{k n:Nat}{l:Lib}(h:B8 k l)(hk:k≤n)(he:gg l≤40 * (n+1)):eC n l:=⟨h.sp.more (by omega),h.vl,h.rl,he,fun r hr=>Nat.le_trans (h.rw r hr) (by omega)⟩
theorem gm.inv{n:Nat}{k:Krn}(h:gm n k):Inv (40 * (n+1)) k:=⟨h.ok,h.ag⟩
theorem gm.share{k:Krn}(h:gm 0 k)(prio:List Int)(turn:Int):gm 52 (k.share prio turn).1:=by
 obtain⟨h1,h2⟩:=im h.inv prio turn
 have h3:∀ x∈(k.share prio turn).1.libs,B8 0 x:=nP (fun l p hl=>hl.same (gz l p) (lT l p).vs) (fun l p hl=>hl.same (eV l p) (ke l p).vs) prio turn fun x hx=>(h.gE x hx).row
 exact⟨h1.ag,h1.ok.own,h1.ok.ll,fun x hx=>(h3 x hx).inv (by omega) (Nat.le_trans (h1.ok.gE x hx).ev (by omega))⟩
def OR(k:Krn):List Int:=k.libs.map fun l=>(l.aK.aC.length:Int)
end Go.SLYthlllpngkljgfaaGreat
namespace Go.SLYthlllpngkljgfaaGreat
open Go Go.RowKit
/-! processors by moments, requests, and taking away -/
def Lib.eW(l:Lib)(c:Int):Lib:=({l with aK:=(l.aK.done c).2.2 }:Lib).tell (aB (l.aK.done c).1.av)
def Krn.tick(k:Krn):Krn:=⟨k.owner,k.libs.map Lib.cv⟩
def Krn.done(k:Krn)(n c:Int):Int×Krn:=match aU k.libs n with
 | none=>(1,k)
 | some l=>((l.aK.done c).2.1,⟨k.owner,k.libs.set n.toNat (l.eW c)⟩)
def Krn.preempt(k:Krn)(p:Int):Int×Krn:=match aU k.owner p with
 | none=>(1,k)
 | some o=>if o = -1 then (11,k) else match aU k.libs o with
  | none=>(11,k)
  | some l=>(0,⟨k.owner,k.libs.set o.toNat (l.preempt p).2⟩)
theorem qn{k:Krn}{p:Int}(h:¬dp k p=0):k.preempt p=(dp k p,k):=by
 unfold dp at h ⊢
 unfold Krn.preempt
 cases e:aU k.owner p with
 | none=>rfl
 | some o =>
  rw[e] at h
  simp only at h ⊢
  by_cases ho:o = -1
  ·rw[if_pos ho,if_pos ho]
  ·rw[if_neg ho] at h;exact absurd rfl h
theorem sK{k:Krn}{i n:Nat}{l:Lib}(ho:k.owner[i]?=some (n:Int))(hl:k.libs[n]?=some l):k.preempt (i:Int)=(0,⟨k.owner,k.libs.set n (l.preempt (i:Int)).2⟩):=by
 unfold Krn.preempt
 rw[bf,ho]
 simp only
 rw[if_neg (by omega),bf,hl]
 simp only[Int.toNat_natCast]
theorem uA{k:Krn}{n c:Int}(h:aU k.libs n=none):k.done n c=(1,k):=by unfold Krn.done;rw[h]
theorem uB{k:Krn}{n:Nat}{l:Lib}{c:Int}(hl:k.libs[n]?=some l):k.done (n:Int) c=((l.aK.done c).2.1,⟨k.owner,k.libs.set n (l.eW c)⟩):=by
 unfold Krn.done;rw[bf,hl];simp only[Int.toNat_natCast]
/-! order behind entries -/
structure LI(n m:Nat)(l:Lib):Prop where
 sp:gZ (n+1) l.aK
 vl:l.vs.length≤64
 rl:l.rows.length≤64
 ev:gg l≤m
 rw:∀ r∈l.rows,r.length≤m
theorem LI.le{n m n' m':Nat}{l:Lib}(h:LI n m l)(hn:n≤n')(hm:m≤m'):LI n' m' l:=⟨h.sp.more (by omega),h.vl,h.rl,Nat.le_trans h.ev hm,fun r hr=>Nat.le_trans (h.rw r hr) hm⟩
theorem LI.of{n m a n' m':Nat}{l l':Lib}(h:LI n m l)(g:aE a a l l')(hs:gZ (n'+1) l'.aK)(hm:m+a≤m'):LI n' m' l':=by
 have e:=g.ev
 have e2:=h.ev
 exact⟨hs,g.vs ▸ h.vl,g.rs ▸ h.rl,by omega,fun r hr=>by have:=g.rw _ h.rw r hr;omega⟩
theorem LI.sz{n m:Nat}{l:Lib}(h:LI n m l)(hn:n≤1980)(hm:m≤1000000):HI l:=by
 have hl:K5 m l:=⟨h.ev,h.vl,h.sp.lt⟩
 exact⟨h.sp.aK (by omega),h.vl,h.rl,Nat.le_trans hl.w hm,fun v hv=>Nat.le_trans (hl.e v hv) hm,fun r hr=>Nat.le_trans (h.rw r hr) hm⟩
theorem LI.wy{n m:Nat}{l:Lib}(h:LI n m l)(hn:n≤1980):∀ t c,(l.aK.run t c).1.av.length≤17:=fun t c=>ue h.sp (by omega) t c
theorem HU{k:Nat}{l:Lib}(h:gZ k l.aK)(hk:k≤1990)(p c:Int):gZ (k+1) (l.step p c).2.2.aK:=by
 have hm:gZ (k+1) l.aK:=h.more (by omega)
 have hr:=fun t=>h.run hk t c
 unfold Lib.step
 split
 ·simp only
  split
  ·unfold Lib.upcall
   split
   ·unfold Lib.recover
    simp only
    split
    ·show gZ (k+1) (Lib.aK (if _ then _ else _))
     split <;> exact hr _
    ·exact hm
   ·unfold Lib.enter;split <;> exact hm
  ·split
   ·unfold Lib.handle
    split
    ·exact hm
    ·show gZ (k+1) (Lib.aK (if _ then _ else _))
     split <;> exact hm
   ·split
    ·unfold Lib.enter;split <;> exact hm
    ·split
     ·unfold Lib.pick;split <;> exact hm
     ·split
      ·unfold Lib.hJ
       simp only
       split
       ·exact hm
       ·rw[(eR _ _).1.aK]
        split
        ·exact hr _
        ·split <;> exact hr _
      ·split
       ·unfold Lib.enter;split <;> exact hm
       ·split
        ·unfold Lib.inside
         simp only
         split
         ·split <;> exact hr _
         ·exact hr _
        ·split
         ·split <;> exact hm
         ·exact hm
 ·exact hm
theorem lU(s:Spc)(c:Int):(s.done c).1.av.length≤1:=by
 unfold Spc.done
 simp only
 split <;> simp[lB.z]
theorem LI.step{n m:Nat}{l:Lib}(h:LI n m l)(hn:n≤1980)(p c:Int):LI (n+1) (m+40) (l.step p c).2.2:=by
 have g:=nO (h.wy hn) p c
 refine h.of g ?_ (Nat.le_refl _)
 exact HU h.sp (by omega) p c
theorem LI.preempt{n m:Nat}{l:Lib}(h:LI n m l)(p:Int):LI n (m+1) (l.preempt p).2:=h.of (a:=1) ((je l p).le (by omega) (by omega)) (by rw[rU];exact h.sp) (Nat.le_refl _)
theorem LI.cv{n m:Nat}{l:Lib}(h:LI n m l):LI (n+1) (m+17) l.cv:=by
 have h0:aE 0 0 l ({l with aK:=l.aK.tick.2 }:Lib):=⟨rfl,rfl,Nat.le_refl _,fun _ h=>h⟩
 have h1:=B7 h.sp
 have h2:=eD l.aK.aT.due
 refine h.of (a:=17) ((h0.trans (aE.tell _ _)).le (by omega) (by omega)) ?_ (Nat.le_refl _)
 show gZ (n+1+1) (Lib.tell _ _).aK
 rw[(eR _ _).1.aK]
 exact h.sp.tick
theorem LI.eW{n m:Nat}{l:Lib}(h:LI n m l)(c:Int):LI (n+1) (m+17) (l.eW c):=by
 have h0:aE 0 0 l ({l with aK:=(l.aK.done c).2.2 }:Lib):=⟨rfl,rfl,Nat.le_refl _,fun _ h=>h⟩
 have h1:=lU l.aK c
 have h2:=eD (l.aK.done c).1.av
 refine h.of (a:=17) ((h0.trans (aE.tell _ _)).le (by omega) (by omega)) ?_ (Nat.le_refl _)
 show gZ (n+1+1) (Lib.tell _ _).aK
 rw[(eR _ _).1.aK]
 exact h.sp.done c
structure M0(n m:Nat)(l:Lib):Prop where
 sp:gZ (n+1) l.aK
 vl:l.vs.length≤64
 rl:l.rows.length≤64
 rw:∀ r∈l.rows,r.length≤m
theorem M0.same{n m:Nat}{l l':Lib}(h:M0 n m l)(s:wD l l')(hl:l'.vs.length=l.vs.length):M0 n m l':=⟨by rw[s.aK];exact h.sp,by rw[hl];exact h.vl,by rw[s.rows];exact h.rl,by rw[s.rows];exact h.rw⟩
theorem LI.row{n m:Nat}{l:Lib}(h:LI n m l):M0 n m l:=⟨h.sp,h.vl,h.rl,h.rw⟩
structure SI(n m:Nat)(k:Krn):Prop where
 ag:gS k
 own:∀ v∈k.owner,v = -1∨(0≤v∧v<(k.libs.length:Int))
 ll:k.libs.length≤8
 gE:∀ l∈k.libs,LI n m l
theorem SI.ok{n m:Nat}{k:Krn}(h:SI n m k):nZ m k:=⟨h.own,h.ag.ol,h.ll,fun l hl=>⟨(h.gE l hl).ev,(h.gE l hl).vl,(h.gE l hl).sp.lt⟩⟩
theorem SI.le{n m n' m':Nat}{k:Krn}(h:SI n m k)(hn:n≤n')(hm:m≤m'):SI n' m' k:=⟨h.ag,h.own,h.ll,fun l hl=>(h.gE l hl).le hn hm⟩
theorem SI.rn{n m:Nat}{k:Krn}(h:SI n m k)(hn:n≤1980)(hm:m≤1000000):nU m k:=⟨h.ok,fun l hl=>⟨(h.gE l hl).sz hn hm,fun t=>(h.gE l hl).wy hn t⟩⟩
theorem SI.inv{n m:Nat}{k:Krn}(h:SI n m k):Inv m k:=⟨h.ok,h.ag⟩
theorem gm.si{n:Nat}{k:Krn}(h:gm n k):SI n (40 * (n+1)) k:=⟨h.ag,h.own,h.ll,fun l hl=>⟨(h.gE l hl).sp,(h.gE l hl).vl,(h.gE l hl).rl,(h.gE l hl).ev,(h.gE l hl).rw⟩⟩
theorem SI.set{n m n' m':Nat}{k:Krn}(h:SI n m k)(hn:n≤n')(hm:m≤m'){j:Nat}{l l':Lib}(hl:k.libs[j]?=some l)(hmo:Mo l l')(hv:l'.vs.length=l.vs.length)(hli:LI n' m' l'):SI n' m' ⟨k.owner,k.libs.set j l'⟩:=by
 refine⟨h.ag.step hl hmo hv,fun v hv=>?_,by show(k.libs.set j l').length≤8;rw[List.length_set];exact h.ll,fun x hx=>?_⟩
 ·show v = -1∨(0≤v∧v<((k.libs.set j l').length:Int));rw[List.length_set];exact h.own v hv
 ·rcases List.mem_or_eq_of_mem_set hx with e | e
  ·exact(h.gE x e).le hn hm
  ·subst e;exact hli
theorem SI.step{n m:Nat}{k:Krn}(h:SI n m k)(hn:n≤1980)(p c:Int):SI (n+1) (m+40) (k.step p c).2:=by
 by_cases e:dp k p=0
 ·obtain⟨i,j,l,rfl,ho,hl, -⟩:=dE h.ok e
  rw[jO ho hl]
  have hli:=h.gE l (List.mem_of_getElem? hl)
  exact h.set (by omega) (by omega) hl (wQ l (i:Int) c) (nO (hli.wy hn) (i:Int) c).vs (hli.step hn _ _)
 ·rw[gI e];exact h.le (by omega) (by omega)
theorem B9(l:Lib)(p:Int):Mo l (l.preempt p).2:=by
 cases hh:l.has p with
 | false=>rw[jN hh];exact Mo.refl _
 | true =>
  obtain⟨i,v,rfl,hv,h0⟩:=gA hh
  rw[iM hh hv]
  exact Mo.set (y:=v.told []) hv h0 (by show(1:Int)≠0;decide) rfl
theorem SI.preempt{n m:Nat}{k:Krn}(h:SI n m k)(p:Int):SI n (m+1) (k.preempt p).2:=by
 by_cases e:dp k p=0
 ·obtain⟨i,j,l,rfl,ho,hl, -⟩:=dE h.ok e
  rw[sK ho hl]
  have hli:=h.gE l (List.mem_of_getElem? hl)
  exact h.set (Nat.le_refl _) (by omega) hl (B9 l _) (je l _).vs (hli.preempt _)
 ·rw[qn e];exact h.le (by omega) (by omega)
theorem EW(l:Lib):Mo l l.cv:=(show Mo l ({l with aK:=l.aK.tick.2 }:Lib) from fun _=>Iff.rfl).trans (Mo.tell _ _)
theorem HV(l:Lib)(c:Int):Mo l (l.eW c):=(show Mo l ({l with aK:=(l.aK.done c).2.2 }:Lib) from fun _=>Iff.rfl).trans (Mo.tell _ _)
theorem yE(l:Lib)(ys:List Ev):(l.tell ys).vs.length=l.vs.length:=(eR l ys).1.len
theorem SI.done{n m:Nat}{k:Krn}(h:SI n m k)(q c:Int):SI (n+1) (m+17) (k.done q c).2:=by
 cases e:aU k.libs q with
 | none=>rw[uA e];exact h.le (by omega) (by omega)
 | some l =>
  obtain⟨q0, -,hq⟩:=cB e
  obtain⟨j,rfl⟩:∃ j:Nat,q=(j:Int):=⟨q.toNat,by omega⟩
  rw[Int.toNat_natCast] at hq
  rw[uB hq]
  have hli:=h.gE l (List.mem_of_getElem? hq)
  exact h.set (by omega) (by omega) hq (HV l c) (yE _ _) (hli.eW c)
theorem SI.tick{n m:Nat}{k:Krn}(h:SI n m k):SI (n+1) (m+17) k.tick:=by
 refine⟨⟨fun x hx=>?_,h.ag.ol,fun q x hx p=>?_⟩,fun v hv=>?_,by show(k.libs.map Lib.cv).length≤8;rw[List.length_map];exact h.ll,fun x hx=>?_⟩
 ·obtain⟨l,hl,rfl⟩:=List.mem_map.1 hx
  show l.cv.vs.length=_
  rw[show l.cv.vs.length=l.vs.length from yE _ _];exact h.ag.len l hl
 ·have hx':(k.libs.map Lib.cv)[q]?=some x:=hx
  rw[List.getElem?_map] at hx'
  cases e:k.libs[q]? with
  | none=>rw[e] at hx';cases hx'
  | some l =>
   rw[e] at hx'
   obtain rfl:=Option.some.inj hx'
   rw[EW l p];exact h.ag.iff q l e p
 ·show v = -1∨(0≤v∧v<((k.libs.map Lib.cv).length:Int));rw[List.length_map];exact h.own v hv
 ·obtain⟨l,hl,rfl⟩:=List.mem_map.1 hx
  exact(h.gE l hl).cv
theorem SI.share{n m:Nat}{k:Krn}(h:SI n m k)(prio:List Int)(turn:Int):SI n (m+2048) (k.share prio turn).1:=by
 obtain⟨h1,h2⟩:=im h.inv prio turn
 have h3:∀ x∈(k.share prio turn).1.libs,M0 n m x:=nP (fun l p hl=>hl.same (gz l p) (lT l p).vs) (fun l p hl=>hl.same (eV l p) (ke l p).vs) prio turn fun x hx=>(h.gE x hx).row
 exact⟨h1.ag,h1.ok.own,h1.ok.ll,fun x hx=>⟨(h3 x hx).sp,(h3 x hx).vl,(h3 x hx).rl,(h1.ok.gE x hx).ev,fun r hr=>Nat.le_trans ((h3 x hx).rw r hr) (by omega)⟩⟩
end Go.SLYthlllpngkljgfaaGreat
namespace Go.SLYthlllpngkljgfaaGreat
open Go Go.RowKit
def Krn.na(k:Krn)(j:Nat):Krn:=⟨k.owner,(k.libs.take j).map Lib.cv++k.libs.drop j⟩
theorem EX(k:Krn):k.na 0=k:=by
 cases k;rfl
theorem HW(k:Krn):k.na k.libs.length=k.tick:=by
 unfold Krn.na Krn.tick
 rw[List.take_length,List.drop_length,List.append_nil]
theorem qo{k:Krn}{j:Nat}(hj:j≤k.libs.length):((k.libs.take j).map Lib.cv).length=j:=by rw[List.length_map,List.length_take];omega
theorem JT{k:Krn}{j:Nat}{l:Lib}(h:k.libs[j]?=some l):(k.na j).libs[j]?=some l:=by
 have hj:=(List.getElem?_eq_some_iff.1 h).1
 show((k.libs.take j).map Lib.cv++k.libs.drop j)[j]?=_
 rw[List.getElem?_append_right (by rw[qo (by omega)];exact Nat.le_refl _),qo (by omega),Nat.sub_self,List.getElem?_drop]
 exact h
theorem HX{k:Krn}{j:Nat}{l:Lib}(h:k.libs[j]?=some l):(k.na j).libs.set j l.cv=(k.na (j+1)).libs:=by
 have hj:=(List.getElem?_eq_some_iff.1 h).1
 show((k.libs.take j).map Lib.cv++k.libs.drop j).set j l.cv=(k.libs.take (j+1)).map Lib.cv++k.libs.drop (j+1)
 rw[aQ h,List.map_append,drop_cons h,List.set_append_right _ _ (by rw[qo (by omega)];exact Nat.le_refl _),qo (by omega),Nat.sub_self,List.set_cons_zero,List.append_assoc]
 rfl
theorem HY{bl:List Nat}{ls:List Lib}{n:Int}{g:Nat→Addr}(hb:bl.length=ls.length)(h:((aU bl n).map g).isNone=true):aU ls n=none:=by
 cases e:aU bl n with
 | some x=>rw[e] at h;cases h
 | none =>
  unfold aU at *
  split at e
  ·rename_i h0;rw[if_pos h0]
  ·rename_i h0
   rw[if_neg h0]
   rw[List.getElem?_eq_none_iff] at e ⊢
   omega
theorem HZ{bl:List Nat}{xs:List (Nat×Lib)}{ls:List Lib}{n:Int}{g:Nat→Addr}(hb:xs.map (·.1)=bl)(hl:xs.map (·.2)=ls)(h:((aU bl n).map g).isNone=false):∃ (j:Nat) (x:Nat×Lib),n=(j:Int)∧xs[j]?=some x∧ls[j]?=some x.2∧bl[j]?=some x.1:=by
 cases e:aU bl n with
 | none=>rw[e] at h;cases h
 | some b =>
  obtain⟨h0, -,hb2⟩:=cB e
  obtain⟨x,hx, -⟩:=dn hb hb2
  exact⟨n.toNat,x,by omega,hx,eH hl hx,eH hb hx⟩
/-! the system -/
structure qC where
 kind:Int
 a:Int
 b:Int
def ga(x:qC):List Value:=[.int .i64 x.kind,.int .i64 x.a,.int .i64 x.b]
structure Sy where
 k:Krn
 prio:List Int
 turn:Int
 log:List q8
def fD(b kb:Nat)(bl:List Nat)(s:Sy):aa:=oq (fun _ _=>True) fun(v vl:Value)=>[arr b 0 [ptr kb,v,.int .i64 s.turn,vl],bu kb bl s.k,sl au 1 v s.prio,sl fC 4 vl s.log]
def jf(r:Int×gk×Int)(c:Int):List q8:=if r.2.1.aL=true then [⟨1,r.1,r.2.1.slot,c⟩] else []
def Sy.qp(s:Sy)(p c:Int):Int×Sy:=((s.k.step p c).1.2.2,⟨(s.k.step p c).2,s.prio,s.turn,s.log++jf (s.k.step p c).1 c⟩)
def Sy.Ag(s:Sy):Sy:=⟨s.k.tick,s.prio,s.turn,s.log++[⟨3,0,0,0⟩]⟩
def Sy.pW(s:Sy)(n c:Int):Int×Sy:=((s.k.done n c).1,⟨(s.k.done n c).2,s.prio,s.turn,s.log++(if (s.k.done n c).1=0 then [⟨2,n,0,c⟩] else [])⟩)
def Sy.do(s:Sy)(x:qC):Int×Sy :=
 if x.kind=1 then s.qp x.a x.b
 else if x.kind=2 then (0,s.Ag)
 else if x.kind=3 then s.pW x.a x.b
 else if x.kind=4 then ((s.k.preempt x.a).1,⟨(s.k.preempt x.a).2,s.prio,s.turn,s.log⟩)
 else if x.kind=5 then (0,⟨s.k,s.prio,x.a,s.log⟩)
 else if x.kind=6 then (0,⟨(s.k.share s.prio s.turn).1,s.prio,s.turn,s.log⟩)
 else (1,s)
def Sy.new(procs:Int)(ps:List gY):Sy:=⟨((Krn.new procs ps).share (ps.map (·.prio)) 0).1,ps.map (·.prio),0,[]⟩
structure wV(i:Nat)(s:Sy):Prop where
 k:SI (i+1) (2100+2048 * i) s.k
 log:s.log.length≤i
 prio:s.prio.length≤8
theorem wV.new{procs:Int}{ps:List gY}(h:ee procs ps=0)(hw:∀ p∈ps, ∀ f∈p.funcs, ∀ i∈f,fj i.n):wV 0 (Sy.new procs ps):=by
 have h0:=gm.new h hw
 refine⟨(h0.si.share _ _).le (by omega) (by omega),Nat.zero_le _,?_⟩
 show(ps.map _).length≤8
 rw[List.length_map]
 have:=(iw h).2.2.2.2.2
 omega
theorem wV.more{i:Nat}{s:Sy}(h:wV i s):wV (i+1) s:=⟨h.k.le (by omega) (by omega),Nat.le_succ_of_le h.log,h.prio⟩
theorem rX(r:Int×gk×Int)(c:Int):(jf r c).length≤1:=by unfold jf;split <;> simp
theorem wV.do{i:Nat}{s:Sy}(h:wV i s)(hi:i≤400)(x:qC):wV (i+1) (s.do x).2:=by
 have hl:=h.log
 unfold Sy.do
 split
 ·refine⟨(h.k.step (by omega) _ _).le (by omega) (by omega),?_,h.prio⟩
  show(s.log++jf _ _).length≤_
  have:=rX (s.k.step x.a x.b).1 x.b
  rw[List.length_append];omega
 ·split
  ·refine⟨h.k.tick.le (by omega) (by omega),?_,h.prio⟩
   show(s.log++[_]).length≤_
   rw[List.length_append];simp only[List.length_cons,List.length_nil];omega
  ·split
   ·refine⟨(h.k.done _ _).le (by omega) (by omega),?_,h.prio⟩
    show(s.log++(if _ then _ else _)).length≤_
    rw[List.length_append]
    split <;> simp only[List.length_cons,List.length_nil] <;> omega
   ·split
    ·exact⟨(h.k.preempt _).le (by omega) (by omega),Nat.le_succ_of_le hl,h.prio⟩
    ·split
     ·exact⟨h.k.le (by omega) (by omega),Nat.le_succ_of_le hl,h.prio⟩
     ·split
      ·exact⟨(h.k.share _ _).le (by omega) (by omega),Nat.le_succ_of_le hl,h.prio⟩
      ·exact h.more
theorem wV.rn{i:Nat}{s:Sy}(h:wV i s)(hi:i≤400):nU (2100+2048 * i) s.k:=h.k.rn (by omega) (by omega)
end Go.SLYthlllpngkljgfaaGreat
namespace Go.SLYthlllpngkljgfaaGreat
open Go Go.RowKit Go.ChangeAt Go.ChangeShapes Go.Deep
section
variable{H:Type}{enc:TypeId×Value→H}{P:Program}{W:World}{bulk:DataW H→Nat}
structure yF(bulk:DataW H→Nat):Prop where
 one:∀ d,1≤bulk d
 slice:∀ es sp,(es.map bulk).sum+1≤bulk (.slice es sp)
 agg:∀ ds,(ds.map bulk).sum≤bulk (.agg ds)
def fP(enc:TypeId×Value→H)(P:Program)(W:World)(bulk:DataW H→Nat)(t:TypeId){α:Type}(ea:α→List Value)(good:α→Nat→Prop):Prop :=
 ∀ fuel cs x,DataW.trod enc P W 0 (fun _=>true) true fuel t cs=some x→ ∃ a,cs=ea a∧good a (bulk x.1)
theorem fP.int{t:TypeId}{k:IntKind}(ht:P.underlying t=some (.int k)):fP enc P W bulk t (fun n:Int=>[.int k n]) (fun n _=>(Lit.int k n).wf=true):=fun fuel cs x h=>by
 obtain⟨n,rfl,_,hw⟩:=DataW.trod_int ht h
 exact⟨n,rfl,hw⟩
theorem fP.bool{t:TypeId}(ht:P.underlying t=some .bool):fP enc P W bulk t (fun b:Bool=>[.bool b]) (fun _ _=>True):=fun fuel cs x h=>by
 obtain⟨n,rfl,_⟩:=DataW.trod_bool ht h
 exact⟨n,rfl,trivial⟩
theorem Dx{l:List (DataW H)}{d:DataW H}(h:d∈l):bulk d≤(l.map bulk).sum:=by
 induction l with
 | nil=>cases h
 | cons x r ih =>
  simp only[List.map_cons,List.sum_cons]
  cases List.mem_cons.1 h with
  | inl e=>subst e;omega
  | inr e=>have:=ih e;omega
theorem JU(hb:yF bulk)(l:List (DataW H)):l.length≤(l.map bulk).sum:=by
 induction l with
 | nil=>simp
 | cons x r ih=>have:=hb.one x;simp only[List.map_cons,List.sum_cons,List.length_cons];omega
theorem fP.slice(hb:yF bulk){t e:TypeId}{k:Nat}{α:Type}{ea:α→List Value}{good:α→Nat→Prop}(ht:P.underlying t=some (.slice e))(hc:P.cellsOf e=k)(hk0:0<k)(hk:∀ a,(ea a).length=k)(he:fP enc P W bulk e ea good)
  (mono:∀ a m n,m≤n→good a m→good a n) :
  fP enc P W bulk t (fun p:Value×List α=>[p.1]) (fun p n=>iC W ea k p.1 p.2∧p.2.length+1≤n∧ ∀ a∈p.2,good a n):=fun fuel cs x h=>by
 rcases open_slice ht h with ⟨rfl,rfl⟩ | ⟨a,len,cap,m,n,D,Pl,rfl,hb0,hl,hm,hmm,rfl,hx⟩
 ·refine⟨(.slice none 0 0,[]),rfl,⟨⟨none,0,rfl,Nat.le_refl _,fun _ e _=>by(cases e),fun _=>rfl⟩,fun x hx=>(by cases hx),fun i x hx=>by simp at hx⟩,?_,fun a ha=>by cases ha⟩
  exact hb.one _
 ·simp only[if_true] at hmm
  have hmm':=hmm.symm
  subst hmm'
  have each:∀ i,i<len→ ∃ q:Option α, ∃ y,q=some y∧W.cells? 0 (a.add (i * k)) k=some (ea y)∧good y (bulk (D i)):=fun i hi=>by
   obtain⟨cs',h1,h2⟩:=hx i (Nat.lt_of_lt_of_le hi hl)
   obtain⟨y,rfl,hg⟩:=he _ _ _ h2
   rw[hc] at h1
   exact⟨some y,y,rfl,h1,hg⟩
  obtain⟨f,hf⟩:=choose_lt each
  obtain⟨xs,hxs,hxl⟩:∃ xs:List α,(∀ i y,xs[i]?=some y→i<len∧f i=some y)∧xs.length=len:=by
   clear h hx each
   induction len with
   | zero=>exact⟨[],fun i y h=>by simp at h,rfl⟩
   | succ len ih =>
    obtain⟨xs,h1,h2⟩:=ih (by omega) (fun i hi=>hf i (by omega))
    obtain⟨y,hy,_⟩:=hf len (by omega)
    refine⟨xs++[y],fun i z hz=>?_,by simp[h2]⟩
    by_cases hi:i<xs.length
    ·rw[List.getElem?_append_left hi] at hz
     have:=h1 i z hz
     exact⟨by omega,this.2⟩
    ·rw[List.getElem?_append_right (by omega)] at hz
     have hi0:=(List.getElem?_eq_some_iff.1 hz).1
     simp at hi0
     obtain rfl:i=len:=by omega
     simp[h2] at hz
     subst hz
     exact⟨by omega,hy⟩
  have spot:xs≠[]→a.spot=none:=fun hne=>by
   have h0:0<len:=by rw[← hxl];exact List.length_pos_iff.2 hne
   obtain⟨y,_,hcs,_⟩:=hf 0 h0
   obtain⟨_,hlen,hcell⟩:=World.cells?_some hcs
   have h1:=hcell 0 hk0
   rw[List.getElem?_eq_getElem (by rw[hk];exact hk0)] at h1
   have:=World.cell?_spot h1
   simpa [Addr.add] using this
  have hlenb:len+1≤bulk (.slice ((List.range len).map D) ((List.range (cap-len)).map fun j=>D (len+j))):=by
   have h1:=hb.slice ((List.range len).map D) ((List.range (cap-len)).map fun j=>D (len+j))
   have h2:=JU hb ((List.range len).map D)
   simp only[List.length_map,List.length_range] at h2
   omega
  refine⟨(.slice (some a) len cap,xs),rfl,⟨⟨some a,cap,by rw[hxl],(by rw[hxl];exact hl),fun b e hne=>by cases e;exact spot hne,fun e=>by cases e⟩,fun x _=>hk x,fun i x hi c u hu=>?_⟩,by rw[hxl];exact hlenb,fun y hy=>?_⟩
  ·obtain⟨hil,hfi⟩:=hxs i x hi
   obtain⟨y,hy,hcs,_⟩:=hf i hil
   rw[hfi] at hy
   cases hy
   obtain⟨_,hlen,hcell⟩:=World.cells?_some hcs
   have hck:=(List.getElem?_eq_some_iff.1 hu).1
   rw[hk] at hck
   have h1:=hcell c hck
   rw[hu] at h1
   have hs:=spot (by intro e;subst e;simp at hi)
   obtain⟨b,o,s⟩:=a
   simp only at hs
   subst hs
   rw[dI,dI] at h1
   exact h1
  ·obtain⟨i,hi⟩:=List.mem_iff_getElem?.1 hy
   obtain⟨hil,hfi⟩:=hxs i y hi
   obtain⟨z,hz,_,hg⟩:=hf i hil
   rw[hfi] at hz
   cases hz
   refine mono y _ _ ?_ hg
   have h1:=hb.slice ((List.range len).map D) ((List.range (cap-len)).map fun j=>D (len+j))
   have h2:bulk (D i)≤(((List.range len).map D).map bulk).sum:=Dx (List.mem_map.2 ⟨i,List.mem_range.2 hil,rfl⟩)
   exact Nat.le_trans h2 (Nat.le_trans (Nat.le_succ _) h1)
theorem kh(hb:yF bulk){t:TypeId}{fs:Array Field}{fuel:Nat}{cs:List Value}{x:DataW H×List MemPlace}(ht:P.underlying t=some (.struct fs))(hc:P.cellsOf t=fs.size)(ho:∀ (i:Nat) (f:Field),fs[i]?=some f→f.offset=i∧P.cellsOf f.type=1)
  (h:DataW.trod enc P W 0 (fun _=>true) true fuel t cs=some x) :
  cs.length=fs.size∧ ∀ (i:Nat) (f:Field),fs[i]?=some f→ ∃ v fuel y,cs[i]?=some v∧DataW.trod enc P W 0 (fun _=>true) true fuel f.type [v]=some y∧bulk y.1≤bulk x.1:=by
 obtain⟨xs,n,rfl,rfl,hl,hxl,hf⟩:=DataW.trod_struct ht h
 refine⟨hl.trans hc,fun i f hi=>?_⟩
 have hlt:=(Array.getElem?_eq_some_iff.1 hi).1
 have h1:=hf i f hi
 obtain⟨ho1,ho2⟩:=ho i f hi
 have hil:i<cs.length:=by omega
 rw[ho1,ho2,List.drop_eq_getElem_cons hil,List.take_succ_cons,List.take_zero,List.getElem?_eq_getElem (by omega)] at h1
 refine⟨cs[i],n,_,List.getElem?_eq_getElem hil,h1,?_⟩
 have h2:=hb.agg (xs.map (·.1))
 have h3:bulk (xs[i]'(by omega)).1≤((xs.map (·.1)).map bulk).sum:=Dx (List.mem_map.2 ⟨_,List.getElem_mem _,rfl⟩)
 exact Nat.le_trans h3 h2
/-! ### A law's end -/
theorem wW(hl:laidOutB P=true){W W':World}(hb:Below W.heap.size W W'){sp:Nat→Bool} :
  ∀ {ts:List TypeId} {vs:List Value} {ds:List (DataW H)} {p:List MemPlace},ts.all (fun t=>P.readableRec t && decide (t<P.types.size))=true→DataW.TrodAll enc P W 0 (fun _=>true) true ts vs ds p→(∀ x∈p,x.block<W.heap.size)→(∀ x∈p,sp x.block=true)→
   DataW.TrodAll enc P W' 0 sp true ts vs ds p
 | [],[],[],_,_,h,_,_=>h
 | [],[],_::_,_,_,h,_,_=>h.elim
 | [],_::_,_,_,_,h,_,_=>h.elim
 | _::_,[],_,_,_,h,_,_=>h.elim
 | _::_,_::_,[],_,_,h,_,_=>h.elim
 | t::ts,v::vs,d::ds,ps,hr,h,hlt,hsp=>by
  obtain⟨p,q,h1,h2,rfl⟩:=h
  simp only[List.all_cons,Bool.and_eq_true,decide_eq_true_eq] at hr
  refine⟨p,q,WideElems.Trod_stays hl hr.1.1 hr.1.2 h1 (fun x hx=>hb.same (hlt x (by simp[hx]))) (fun x hx=>hsp x (by simp[hx])),?_,rfl⟩
  exact wW hl hb (by simpa using hr.2) h2 (fun x hx=>hlt x (by simp[hx])) (fun x hx=>hsp x (by simp[hx]))
theorem jP{f:Func}{s:ChangeSpec}{apart fresh handsOn again:Bool}{W W':World}{args:Array Value}{ds gs:List (DataW H)}{before:List MemPlace}{tb:TypeId}
  (hl:laidOutB P=true) (hrd:f.params.toList.all (fun t=>P.readableRec t && decide (t<P.types.size))=true) (hv:s.vars=[]) (hr:f.resultTypes = #[tb]) (htb:P.underlying tb=some .bool)
  (hW:DataW.Whole enc P f.params.toList s.vars apart W args.toList ds gs before) (h1:(s.fn H ds).results=[.lit (.bool true)]) (h2:(s.fn H ds).args=ds) (h3:(s.fn H ds).vars=[])
  (hb:Below W.heap.size W W'):s.post enc P f apart fresh handsOn again W args (.bool true) W':=by
 have hlt:=fun p hp=>hW.lt p hp
 have hW':=hW
 obtain⟨p,q,hA,hV,rfl,hz,hn⟩:=hW'
 rw[hv] at hV
 obtain⟨rfl,rfl⟩:=trodVars_none hV
 have hres:∀ (b:Nat) (sp:Nat→Bool) (hd:Bool),DataW.TrodAll enc P W' b sp hd f.resultTypes.toList ((Value.bool true).resultList f.resultTypes.size) (s.fn H (ds++[])).results []:=fun b sp hd=>by
  rw[List.append_nil,h1,hr]
  exact trodAll_cons_mk (shut_bool htb _) trodAll_mk0
 have hargs:∀ sp:Nat→Bool,(∀ x∈p++[],sp x.block=true)→DataW.TrodAll enc P W' 0 sp true f.params.toList args.toList (s.fn H (ds++[])).args p:=fun sp hsp=>by
  rw[List.append_nil,h2]
  exact wW hl hb hrd hA (fun x hx=>hlt x (by simp[hx])) (fun x hx=>hsp x (by simp[hx]))
 have hvars:∀ sp:Nat→Bool,DataW.TrodVars enc P W' sp s.vars (s.fn H (ds++[])).vars []:=fun sp=>by
  rw[List.append_nil,h3,hv];rfl
 have hold:∀ x∈p++[],(fun b=>decide (b<W.heap.size)) x.block=true:=fun x hx=>by simpa using hlt x hx
 refine⟨ds,[],p++[],[],p,[],hW,hres _ _ _,hargs _ hold,hvars _,World.keptBut_mono (fun x hx=>⟨hx,?_⟩) (hb.frame _),fun _=>?_⟩
 ·simp only[List.append_nil] at hx
  exact Or.inr (by simpa using hx)
 ·refine⟨ok_one hr rfl (okWide_bool_mk htb _),_,_,([]++p)++[],⟨[]++p,[],trodAll_append (hargs _ (fun _ _=>rfl)) (hres _ _ _),hvars _,rfl,?_,?_⟩,?_⟩
  ·intro b off hp
   have hp':MemPlace.cell b off∈p:=by simpa using hp
   have:=hz b off (by simp[hp'])
   rw[← this]
   exact hb.frozen (p:=⟨b,off,none⟩) (hlt (.cell b off) (by simp[hp']))
  ·intro ha
   simpa using hn ha
  ·intro x hx _
   simpa using hx
theorem Fn.done{f:FuncId}{args:List Value}{X:Type}{v:Value}(h:Fn P W f args [] X (fun _=>v) (fun _=>True) (fun _=>[])):Calls P f args.toArray W fun e w'=>e = .returned v∧Below W.heap.size W w' :=
 (h SLYthlllpngkljgfaaGreat.emp W (by simpa only[seps,aN] using Sat.empty)).mono fun e w' ⟨x,he,_,hs⟩=>⟨he,hs.KS⟩
end
end Go.SLYthlllpngkljgfaaGreat
namespace Go.Proofs.YthlllpngkljgfaaGreat
open Go Go.RowKit Go.ChangeShapes Go.WideShapes Go.ChangeAt Go.SLYthlllpngkljgfaaGreat
/-! the bulk of what is read -/
theorem lV{H:Type}:∀ l:List (DataW H),Rows.uptoBulkAll l=(l.map Rows.uptoBulk).sum
 | []=>by simp[Rows.uptoBulkAll]
 | d::r=>by simp[Rows.uptoBulkAll,lV r]
theorem kx{H:Type}:yF (Rows.uptoBulk (H:=H)) where
 one:=fun d=>by
  cases d with
  | lit l=>cases l <;> simp[Rows.uptoBulk]
  | nil=>simp[Rows.uptoBulk]
  | ptr d=>simp[Rows.uptoBulk]
  | slice elems spare=>simp[Rows.uptoBulk]
  | agg parts=>simp[Rows.uptoBulk]
  | iface t d=>simp[Rows.uptoBulk]
  | map entries=>simp[Rows.uptoBulk]
  | held h=>simp[Rows.uptoBulk]
 slice:=fun es sp=>by rw[← lV];simp only[Rows.uptoBulk];omega
 agg:=fun ds=>by rw[← lV];simp only[Rows.uptoBulk];omega
theorem bound{H:Type}{l:List (DataW H)}(hk:Rows.uptoSmall H l=true):(l.map Rows.uptoBulk).sum≤1048576:=by
 rw[← lV];simpa [Rows.uptoSmall] using hk
structure Dy(W:World)(v:aS)(n:Nat):Prop where
 fs:iC W ep 1 v.fv v.fs
 ins:∀ x∈v.fs,iC W eg 5 x.1 x.2
 bF:iC W au 1 v.sv v.bF
 bb:iC W au 1 v.pv v.bb
 fl:v.fs.length≤n
 sl:v.bF.length≤n
 pl:v.bb.length≤n
 wo:∀ f∈v.p.funcs, ∀ i∈f,fj i.n
theorem Dy.rd{W:World}{v:aS}{n:Nat}(h:Dy W v n)(H:List aa):eE W H v:=⟨.old h.fs,fun x hx=>.old (h.ins x hx),.old h.bF,.old h.bb⟩
section
variable{H:Type}{enc:TypeId×Value→H}{W:World}
theorem H2:fP enc Tryz.prog W Rows.uptoBulk 112 eg (fun i _=>fj i.n):=fun fuel cs x h=>by
 obtain⟨hl,hf⟩:=kh kx Tryz.underlying112 (by kernel_rfl) (by
  intro i f hi
  match i,hi with
  | 0,hi=>cases hi;exact⟨rfl,by kernel_rfl⟩
  | 1,hi=>cases hi;exact⟨rfl,by kernel_rfl⟩
  | 2,hi=>cases hi;exact⟨rfl,by kernel_rfl⟩
  | 3,hi=>cases hi;exact⟨rfl,by kernel_rfl⟩
  | 4,hi=>cases hi;exact⟨rfl,by kernel_rfl⟩
  | n+5,hi=>simp at hi) h
 obtain⟨v0,n0,y0,e0,t0,_⟩:=hf 0 _ rfl
 obtain⟨v1,n1,y1,e1,t1,_⟩:=hf 1 _ rfl
 obtain⟨v2,n2,y2,e2,t2,_⟩:=hf 2 _ rfl
 obtain⟨v3,n3,y3,e3,t3,_⟩:=hf 3 _ rfl
 obtain⟨v4,n4,y4,e4,t4,_⟩:=hf 4 _ rfl
 obtain⟨a0,r0,_,_⟩:=DataW.trod_int Tryz.underlying3 t0
 obtain⟨a1,r1,_,_⟩:=DataW.trod_int Tryz.underlying3 t1
 obtain⟨a2,r2,_,_⟩:=DataW.trod_int Tryz.underlying3 t2
 obtain⟨a3,r3,_,_⟩:=DataW.trod_int Tryz.underlying3 t3
 obtain⟨a4,r4,_,w4⟩:=DataW.trod_int Tryz.underlying110 t4
 cases r0;cases r1;cases r2;cases r3;cases r4
 refine⟨⟨a0,a1,a2,a3,a4⟩,?_,bounds_u64 w4⟩
 match cs,hl with
 | [w0,w1,w2,w3,w4],_ =>
  simp at e0 e1 e2 e3 e4
  subst e0 e1 e2 e3 e4
  rfl
theorem EY:fP enc Tryz.prog W Rows.uptoBulk 113 (ep (α:=List Ins)) (fun p n=>iC W eg 5 p.1 p.2∧p.2.length+1≤n∧ ∀ a∈p.2,fj a.n) :=
 fP.slice kx Tryz.underlying113 (by kernel_rfl) (by decide) (fun _=>rfl) H2 (fun _ _ _ _ h=>h)
theorem Ca:fP enc Tryz.prog W Rows.uptoBulk 54 (fun p:Value×List (Value×List Ins)=>[p.1]) (fun p n=>iC W ep 1 p.1 p.2∧p.2.length+1≤n∧ ∀ a∈p.2,iC W eg 5 a.1 a.2∧a.2.length+1≤n∧ ∀ b∈a.2,fj b.n) :=
 fP.slice kx Tryz.underlying54 (by kernel_rfl) (by decide) (fun _=>rfl) EY (fun _ _ _ hm h=>⟨h.1,Nat.le_trans h.2.1 hm,h.2.2⟩)
theorem wX:fP enc Tryz.prog W Rows.uptoBulk 50 (fun p:Value×List Int=>[p.1]) (fun p n=>iC W au 1 p.1 p.2∧p.2.length+1≤n∧ ∀ a∈p.2,True) :=
 fP.slice kx Tryz.underlying50 (by kernel_rfl) (by decide) (fun _=>rfl) (fun fuel cs x h=>by
  obtain⟨n,rfl,_,_⟩:=DataW.trod_int Tryz.underlying3 h
  exact⟨n,rfl,trivial⟩) (fun _ _ _ _ _=>trivial)
theorem Aw:fP enc Tryz.prog W Rows.uptoBulk 56 ez (fun v n=>Dy W v n):=fun fuel cs x h=>by
 obtain⟨hl,hf⟩:=kh kx Tryz.underlying56 (by kernel_rfl) (by
  intro i f hi
  match i,hi with
  | 0,hi=>cases hi;exact⟨rfl,by kernel_rfl⟩
  | 1,hi=>cases hi;exact⟨rfl,by kernel_rfl⟩
  | 2,hi=>cases hi;exact⟨rfl,by kernel_rfl⟩
  | 3,hi=>cases hi;exact⟨rfl,by kernel_rfl⟩
  | 4,hi=>cases hi;exact⟨rfl,by kernel_rfl⟩
  | 5,hi=>cases hi;exact⟨rfl,by kernel_rfl⟩
  | 6,hi=>cases hi;exact⟨rfl,by kernel_rfl⟩
  | 7,hi=>cases hi;exact⟨rfl,by kernel_rfl⟩
  | n+8,hi=>simp at hi) h
 obtain⟨v0,n0,y0,e0,t0,b0⟩:=hf 0 _ rfl
 obtain⟨v1,n1,y1,e1,t1,_⟩:=hf 1 _ rfl
 obtain⟨v2,n2,y2,e2,t2,_⟩:=hf 2 _ rfl
 obtain⟨v3,n3,y3,e3,t3,_⟩:=hf 3 _ rfl
 obtain⟨v4,n4,y4,e4,t4,b4⟩:=hf 4 _ rfl
 obtain⟨v5,n5,y5,e5,t5,b5⟩:=hf 5 _ rfl
 obtain⟨v6,n6,y6,e6,t6,_⟩:=hf 6 _ rfl
 obtain⟨v7,n7,y7,e7,t7,_⟩:=hf 7 _ rfl
 obtain⟨⟨fv,fs⟩,r0,f1,f2,f3⟩:=Ca _ _ _ t0
 obtain⟨a1,r1,_,_⟩:=DataW.trod_int Tryz.underlying3 t1
 obtain⟨a2,r2,_,_⟩:=DataW.trod_int Tryz.underlying3 t2
 obtain⟨a3,r3,_,_⟩:=DataW.trod_int Tryz.underlying3 t3
 obtain⟨⟨sv,bF⟩,r4,s1,s2,_⟩:=wX _ _ _ t4
 obtain⟨⟨pv,bb⟩,r5,p1,p2,_⟩:=wX _ _ _ t5
 obtain⟨a6,r6,_,_⟩:=DataW.trod_int Tryz.underlying3 t6
 obtain⟨a7,r7,_,_⟩:=DataW.trod_int Tryz.underlying3 t7
 cases r0;cases r1;cases r2;cases r3;cases r4;cases r5;cases r6;cases r7
 refine⟨⟨fv,fs,a1,a2,a3,sv,bF,pv,bb,a6,a7⟩,?_,⟨f1,fun x hx=>(f3 x hx).1,s1,p1,?_,?_,?_,?_⟩⟩
 ·match cs,hl with
  | [w0,w1,w2,w3,w4,w5,w6,w7],_ =>
   simp at e0 e1 e2 e3 e4 e5 e6 e7
   subst e0 e1 e2 e3 e4 e5 e6 e7
   rfl
 ·exact Nat.le_trans (Nat.le_of_succ_le f2) b0
 ·exact Nat.le_trans (Nat.le_of_succ_le s2) b4
 ·exact Nat.le_trans (Nat.le_of_succ_le p2) b5
 ·intro f hf i hi
  obtain⟨q,hq,rfl⟩:=List.mem_map.1 hf
  exact(f3 q hq).2.2 i hi
theorem kS:fP enc Tryz.prog W Rows.uptoBulk 22 (fun p:Value×List aS=>[p.1]) (fun p n=>iC W ez 8 p.1 p.2∧p.2.length+1≤n∧ ∀ a∈p.2,Dy W a n) :=
 fP.slice kx Tryz.underlying22 (by kernel_rfl) (by decide) (fun _=>rfl) Aw (fun _ _ _ hm h=>⟨h.fs,h.ins,h.bF,h.bb,Nat.le_trans h.fl hm,Nat.le_trans h.sl hm,Nat.le_trans h.pl hm,h.wo⟩)
theorem H3:fP enc Tryz.prog W Rows.uptoBulk 64 Hp (fun _ _=>True):=fun fuel cs x h=>by
 obtain⟨hl,hf⟩:=kh kx Tryz.underlying64 (by kernel_rfl) (by
  intro i f hi
  match i,hi with
  | 0,hi=>cases hi;exact⟨rfl,by kernel_rfl⟩
  | 1,hi=>cases hi;exact⟨rfl,by kernel_rfl⟩
  | 2,hi=>cases hi;exact⟨rfl,by kernel_rfl⟩
  | n+3,hi=>simp at hi) h
 obtain⟨v0,n0,y0,e0,t0,_⟩:=hf 0 _ rfl
 obtain⟨v1,n1,y1,e1,t1,_⟩:=hf 1 _ rfl
 obtain⟨v2,n2,y2,e2,t2,_⟩:=hf 2 _ rfl
 obtain⟨a0,r0,_,_⟩:=DataW.trod_int Tryz.underlying3 t0
 obtain⟨a1,r1,_,_⟩:=DataW.trod_int Tryz.underlying3 t1
 obtain⟨a2,r2,_,_⟩:=DataW.trod_int Tryz.underlying3 t2
 cases r0;cases r1;cases r2
 refine⟨⟨a0,a1,a2⟩,?_,trivial⟩
 match cs,hl with
 | [w0,w1,w2],_ =>
  simp at e0 e1 e2
  subst e0 e1 e2
  rfl
theorem EZ:fP enc Tryz.prog W Rows.uptoBulk 57 (fun p:Value×List Nn=>[p.1]) (fun p n=>iC W Hp 3 p.1 p.2∧p.2.length+1≤n∧ ∀ a∈p.2,True) :=
 fP.slice kx Tryz.underlying57 (by kernel_rfl) (by decide) (fun _=>rfl) H3 (fun _ _ _ _ _=>trivial)
theorem Ax:fP enc Tryz.prog W Rows.uptoBulk 34 ga (fun _ _=>True):=fun fuel cs x h=>by
 obtain⟨hl,hf⟩:=kh kx Tryz.underlying34 (by kernel_rfl) (by
  intro i f hi
  match i,hi with
  | 0,hi=>cases hi;exact⟨rfl,by kernel_rfl⟩
  | 1,hi=>cases hi;exact⟨rfl,by kernel_rfl⟩
  | 2,hi=>cases hi;exact⟨rfl,by kernel_rfl⟩
  | n+3,hi=>simp at hi) h
 obtain⟨v0,n0,y0,e0,t0,_⟩:=hf 0 _ rfl
 obtain⟨v1,n1,y1,e1,t1,_⟩:=hf 1 _ rfl
 obtain⟨v2,n2,y2,e2,t2,_⟩:=hf 2 _ rfl
 obtain⟨a0,r0,_,_⟩:=DataW.trod_int Tryz.underlying3 t0
 obtain⟨a1,r1,_,_⟩:=DataW.trod_int Tryz.underlying3 t1
 obtain⟨a2,r2,_,_⟩:=DataW.trod_int Tryz.underlying3 t2
 cases r0;cases r1;cases r2
 refine⟨⟨a0,a1,a2⟩,?_,trivial⟩
 match cs,hl with
 | [w0,w1,w2],_ =>
  simp at e0 e1 e2
  subst e0 e1 e2
  rfl
theorem kT:fP enc Tryz.prog W Rows.uptoBulk 23 (fun p:Value×List qC=>[p.1]) (fun p n=>iC W ga 3 p.1 p.2∧p.2.length+1≤n∧ ∀ a∈p.2,True) :=
 fP.slice kx Tryz.underlying23 (by kernel_rfl) (by decide) (fun _=>rfl) Ax (fun _ _ _ _ _=>trivial)
end
theorem own:ownKnob Tryz.prog.godebug=none:=by kernel_rfl
theorem laid:laidOutB Tryz.prog=true:=by kernel_rfl
end Go.Proofs.YthlllpngkljgfaaGreat
namespace Go.SLYthlllpngkljgfaaGreat
open Go Go.RowKit
class jU(P:Program)(t:TypeId)(u:outParam TypeDesc):Prop where
 ok:P.underlying t=some u
class iN(P:Program)(t:TypeId)(k:outParam Nat):Prop where
 ok:∀ w,(sizeOf t).run P w = .ok k w
class One(P:Program)(t:TypeId):Prop where
 ok:∀ w,(isAgg t).run P w = .ok false w
class jQ(P:Program)(t:TypeId):Prop where
 ok:∀ w,(isAgg t).run P w = .ok true w
class cX(P:Program)(S:TypeId)(f:Nat)(k:outParam Nat):Prop where
 ok:∀ (b o:Nat) (w:World),(Instr.fieldAt S (.pointer (some ⟨b,o,none⟩)) f).run P w = .ok (.pointer (some ⟨b,o+k,none⟩)) w
section
variable{P:Program}{W:World}{N:Nat}{Q:Exit→Act→World→Prop}{L:List (Nat×Option Value)}{H:List aa}{O:Array Oper}{T:TypeId}{K:List aa}{ks:List Nat}
theorem Y.o{S:TypeId}{f k:Nat}[h:cX P S f k]{x:Operand}{b o:Nat}(hx:ev L x=some (.pointer (some ⟨b,o,none⟩))):Y P W N (.fieldAddr S x f) T L H (.pointer (some ⟨b,o+k,none⟩)):=fun dst pos after guard a w ha hs=>by
 simp only[execOp,ha.eval hx]
 exact bM (h.ok b o w)
theorem Y.f{S:TypeId}{f k:Nat}[h:cX P S f k]{x:Operand}{b:Nat}(hx:ev L x=some (.pointer (some ⟨b,0,none⟩))):Y P W N (.fieldAddr S x f) T L H (.pointer (some ⟨b,k,none⟩)):=by
 have:=Y.o (P:=P) (W:=W) (N:=N) (H:=H) (T:=T) (S:=S) (f:=f) (k:=k) hx
 rwa [Nat.zero_add] at this
theorem Y.z{S:TypeId}{f:Nat}[h:cX P S f 0]{x:Operand}{b o:Nat}(hx:ev L x=some (.pointer (some ⟨b,o,none⟩))):Y P W N (.fieldAddr S x f) T L H (.pointer (some ⟨b,o,none⟩)):=Y.o (k:=0) hx
theorem Y.ld{x:Operand}{b o:Nat}{v:Value}[h:One P T]{T':TypeId}(hx:ev L x=some (.pointer (some ⟨b,o,none⟩)))(hc:Cell W H b o v):Y P W N (.load T x) T' L H v:=Y.load h.ok hx hc
theorem Y.l{x:Operand}{b i:Nat}{v:Value}{cs:List Value}[h:One P T]{T':TypeId}(hx:ev L x=some (.pointer (some ⟨b,i,none⟩)))[hh:bX H b 0 cs](hc:cs[i]?=some v:=by rfl):Y P W N (.load T x) T' L H v:=Y.load h.ok hx (Cell.a hc)
theorem Y.lo{x:Operand}{b o i:Nat}{v:Value}{cs:List Value}[h:One P T]{T':TypeId}(hx:ev L x=some (.pointer (some ⟨b,o+i,none⟩)))[hh:bX H b o cs](hc:cs[i]?=some v:=by rfl):Y P W N (.load T x) T' L H v:=Y.load h.ok hx (Cell.ao hc)
theorem Y.lz{x:Operand}{b o:Nat}{v:Value}{cs:List Value}[h:One P T]{T':TypeId}(hx:ev L x=some (.pointer (some ⟨b,o,none⟩)))[hh:bX H b o cs](hc:cs[0]?=some v:=by rfl):Y P W N (.load T x) T' L H v:=Y.load h.ok hx (Cell.az hc)
theorem Y.lr{α:Type}{enc:α→List Value}{k i:Nat}{v u:Value}{xs:List α}{y:α}{x:Operand}[h:One P T]{T':TypeId}(hx:ev L x=some (.pointer (some ⟨blk v,ej v+i * k,none⟩)))(hy:xs[i]?=some y)[hr:ax W H v enc k xs](hu:(enc y)[0]?=some u:=by rfl):Y P W N (.load T x) T' L H u:=Y.load h.ok hx (Cell.CN hr.rd hy hu)
theorem Y.la{x:Operand}{b o k:Nat}{cs:List Value}[h:jQ P T][z:iN P T k]{T':TypeId}(hx:ev L x=some (.pointer (some ⟨b,o,none⟩)))(hc:Cells W H b o cs)(hz:cs.length=k:=by rfl):Y P W N (.load T x) T' L H (.agg cs.toArray):=Y.FT h.ok hx hc (by rw[hz];exact z.ok)
theorem Y.lA{x:Operand}{b o k:Nat}{cs:List Value}[h:jQ P T][z:iN P T k]{T':TypeId}(hx:ev L x=some (.pointer (some ⟨b,o,none⟩)))[hh:bX H b o cs](hz:cs.length=k:=by rfl):Y P W N (.load T x) T' L H (.agg cs.toArray):=Y.la hx Cells.a hz
theorem Y.len{α:Type}{enc:α→List Value}{k:Nat}{x:Operand}{t e:TypeId}{v:Value}{xs:List α}[hu:jU P t (.slice e)](hx:ev L x=some v)[h:ax W H v enc k xs]:Y P W N (.call ⟨.builtin .len, #[x], #[t]⟩) T L H (.int .i64 (xs.length:Int)):=Y.CO hu.ok hx h.rd
theorem Y.lens{x:Operand}{t e:TypeId}{p:Option Addr}{n c:Nat}[hu:jU P t (.slice e)](hx:ev L x=some (.slice p n c)):Y P W N (.call ⟨.builtin .len, #[x], #[t]⟩) T L H (.int .i64 n):=Y.zd hu.ok hx
theorem Y.ix{α:Type}{enc:α→List Value}{k:Nat}{x y:Operand}{t e:TypeId}{v:Value}{xs:List α}{kd:IntKind}{j:Int}(i:Nat)[hu:jU P t (.slice e)][hz:iN P e k](hx:ev L x=some v)(hy:ev L y=some (.int kd j))[h:ax W H v enc k xs](hj:j=(i:Int))(hi:i<xs.length):Y P W N (.indexAddr t x y) T L H (.pointer (some ⟨blk v,ej v+i * k,none⟩)):=Y.mC i hu.ok hz.ok hx hy h.rd hj hi
theorem Y.Ot{xT e yT:TypeId}{x y:Operand}{p:Option Addr}[hu:jU P xT (.pointer e)](hx:ev L x=some (.pointer p))(hy:ev L y=some (.pointer none)):Y P W N (.binOp .eql xT x y yT) T L H (.bool p.isNone):=Y.FM hu.ok hx hy
theorem Y.NX{xT e yT:TypeId}{x y:Operand}{p:Option Addr}[hu:jU P xT (.pointer e)](hx:ev L x=some (.pointer p))(hy:ev L y=some (.pointer none)):Y P W N (.binOp .neq xT x y yT) T L H (.bool (!p.isNone)):=Y.DQ hu.ok hx hy
theorem aM.p{op:Op}{pos:String}{after:Array Edge}{d:Nat}{rest:List Oper}{v:Value}(hy:Y P W N op T L H v)(k:aM P W N O Q rest ((d,some v)::L) H)(hN:Nat.blt d N=true:=by rfl):aM P W N O Q (⟨some d,op,T,pos,after,none⟩::rest) L H:=aM.y hN hy k
theorem aM.g{op:Op}{pos:String}{after:Array Edge}{d j t:Nat}{want:Bool}{rest:List Oper}{v:Value}(hy:Y P W N op T L H v)(k:aM P W N O Q rest ((d,some v)::L) H)(hj:(O[j]?).bind (·.dst)=some t:=by rfl)(ht:look L t=some (.bool want):=by rfl)(hN:Nat.blt d N=true:=by rfl):aM P W N O Q (⟨some d,op,T,pos,after,some (j,want)⟩::rest) L H:=aM.yg hj ht hN hy k
theorem aM.u{op:Op}{pos:String}{after:Array Edge}{d j t:Nat}{want:Bool}{rest:List Oper}{u:Value}(k:aM P W N O Q rest ((d,some undef)::L) H)(hj:(O[j]?).bind (·.dst)=some t:=by rfl)(ht:look L t=some u:=by rfl)(hb:(boolOf u == some want)=false:=by rfl)(hN:Nat.blt d N=true:=by rfl):aM P W N O Q (⟨some d,op,T,pos,after,some (j,want)⟩::rest) L H:=aM.skip hj ht hb hN k
theorem bm.p{op:Op}{pos:String}{after:Array Edge}{d:Nat}{rest:List Oper}{v:Value}(hy:Y P W N op T L H v)(k:bm P W N K O Q ks rest ((d,some v)::L) H)(hN:Nat.blt d N=true:=by rfl):bm P W N K O Q (1::ks) (⟨some d,op,T,pos,after,none⟩::rest) L H:=bm.s hN hy k
theorem bm.q{op:Op}{pos:String}{after:Array Edge}{d:Nat}{rest:List Oper}{v:Value}(hy:Y P W N op T L K v)(k:bm P W N K O Q ks rest ((d,some v)::L) H)(hN:Nat.blt d N=true:=by rfl)(hK:∀ w,Sat W w (seps H)→Sat W w (seps K):=by exact Kept.auto):bm P W N K O Q (0::ks) (⟨some d,op,T,pos,after,none⟩::rest) L H:=bm.k hN hK hy k
theorem bm.g{op:Op}{pos:String}{after:Array Edge}{d j t:Nat}{want:Bool}{rest:List Oper}{v:Value}(hy:Y P W N op T L H v)(k:bm P W N K O Q ks rest ((d,some v)::L) H)(hj:(O[j]?).bind (·.dst)=some t:=by rfl)(ht:look L t=some (.bool want):=by rfl)(hN:Nat.blt d N=true:=by rfl):bm P W N K O Q (1::ks) (⟨some d,op,T,pos,after,some (j,want)⟩::rest) L H:=bm.sg hj ht hN hy k
theorem bm.h{op:Op}{pos:String}{after:Array Edge}{d j t:Nat}{want:Bool}{rest:List Oper}{v:Value}(hy:Y P W N op T L K v)(k:bm P W N K O Q ks rest ((d,some v)::L) H)(hj:(O[j]?).bind (·.dst)=some t:=by rfl)(ht:look L t=some (.bool want):=by rfl)(hN:Nat.blt d N=true:=by rfl)(hK:∀ w,Sat W w (seps H)→Sat W w (seps K):=by exact Kept.auto):bm P W N K O Q (0::ks) (⟨some d,op,T,pos,after,some (j,want)⟩::rest) L H:=bm.kg hj ht hN hK hy k
theorem bm.u{op:Op}{pos:String}{after:Array Edge}{d j t:Nat}{want:Bool}{rest:List Oper}{u:Value}(k:bm P W N K O Q ks rest ((d,some undef)::L) H)(hj:(O[j]?).bind (·.dst)=some t:=by rfl)(ht:look L t=some u:=by rfl)(hb:(boolOf u == some want)=false:=by rfl)(hN:Nat.blt d N=true:=by rfl)(hK:∀ w,Sat W w (seps H)→Sat W w (seps K):=by exact Kept.auto):bm P W N K O Q (0::ks) (⟨some d,op,T,pos,after,some (j,want)⟩::rest) L H:=bm.Mt hj ht hb hN hK k
theorem bm.w{op:Op}{pos:String}{after:Array Edge}{d j t:Nat}{want:Bool}{rest:List Oper}{u:Value}(k:bm P W N K O Q ks rest ((d,some undef)::L) H)(hj:(O[j]?).bind (·.dst)=some t:=by rfl)(ht:look L t=some u:=by rfl)(hb:(boolOf u == some want)=false:=by rfl)(hN:Nat.blt d N=true:=by rfl):bm P W N K O Q (1::ks) (⟨some d,op,T,pos,after,some (j,want)⟩::rest) L H:=bm.Mu hj ht hb hN k
end
end Go.SLYthlllpngkljgfaaGreat
