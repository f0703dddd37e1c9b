/- Walks. Conditions: none. -/
import Derived.Test.YtpbjdoplfgeliaaGreatU05
import Derived.KernelRfl
namespace Go.SLYtpbjdoplfgeliaaGreat
open Go Go.RowKit
theorem Kg{W:World}{H:List aa}{v:bc}(h:eY W H v):eY W [seps H] v:=⟨Rd.eX h.fs,fun x hx=>Rd.eX (h.ins x hx),Rd.eX h.bK,Rd.eX h.bf⟩
def HP:gn:=⟨[[⟨1,1,0,0,5⟩]],0,0,0,[],[],0,0⟩
def Ch:Krn:=Krn.new 3 [HP,HP]
theorem Ll:dF 3 [HP,HP]=0:=by kernel_rfl
theorem Nx:Ch.fair [0,0] 0=false:=by kernel_rfl
theorem Ny:(Ch.share [0,0] 0).2=2:=by kernel_rfl
theorem Nz:(Ch.share [0,0] 0).1.fair [0,0] 0=true:=by kernel_rfl
theorem NA:(Ch.share [0,0] 0).1.targets [0,0] 0=[1,1]:=by kernel_rfl
theorem NB:(Ch.share [0,0] 0).1.free=[2]:=by kernel_rfl
def jT(a b:Nat):bc:=⟨.slice (some ⟨b,0,none⟩) 1 1,[(.slice (some ⟨a,0,none⟩) 1 1,[⟨1,1,0,0,5⟩])],0,0,0,.slice none 0 0,[],.slice none 0 0,[],0,0⟩
theorem Kh{W:World}{H:List aa}{a b:Nat}(ha:At H (arr a 0 (dM ⟨1,1,0,0,5⟩)))(hb:At H (arr b 0 [.slice (some ⟨a,0,none⟩) 1 1])):eY W H (jT a b) where
 fs:=Rd.lit hb rfl (fun _ _=>rfl) rfl
 ins:=fun x hx=>by
  obtain rfl:x=(.slice (some ⟨a,0,none⟩) 1 1,[⟨1,1,0,0,5⟩]):=by simpa [jT] using hx
  exact Rd.lit ha rfl (fun _ _=>rfl) rfl
 bK:=Rd.nil
 bf:=Rd.nil
theorem NC:((Ch.share [0,0] 0).1.share [0] 0).2=0:=by kernel_rfl
def Ow(a b c:Nat):aa:=seps [arr c 0 (eT (jT a b)++eT (jT a b)),arr b 0 [.slice (some ⟨a,0,none⟩) 1 1],arr a 0 (dM ⟨1,1,0,0,5⟩)]
theorem HQ{W:World}{a b c:Nat}:Rd W [Ow a b c] eT 8 (.slice (some ⟨c,0,none⟩) 2 2) [jT a b,jT a b]:=Rd.eX (Rd.lit .here rfl (fun _ _=>rfl) rfl)
theorem HR{W:World}{a b c:Nat}:∀ p∈ [jT a b,jT a b],eY W [Ow a b c] p:=fun p hp=>by
 obtain rfl:p=jT a b:=by simpa using hp
 exact Kg (Kh (.there (.there .here)) (.there .here))
theorem HS{a b:Nat}:[jT a b,jT a b].length≤1000000000∧ ∀ p∈ [jT a b,jT a b],p.fs.length≤1000000000∧p.bK.length≤1000000000∧p.bf.length≤1000000000:=⟨by simp,fun p hp=>by
 obtain rfl:p=jT a b:=by simpa using hp
 exact⟨by simp[jT],by simp[jT],by simp[jT]⟩⟩
end Go.SLYtpbjdoplfgeliaaGreat
namespace Go.SLYtpbjdoplfgeliaaGreat
open Go Go.RowKit
structure HT where
 kind:Int
 at_:Int
deriving DecidableEq
def rb(p:HT):List Value:=[.int .i64 p.kind,.int .i64 p.at_]
def eN(l:Lib)(p:Int):aH:=if l.has p=true then l.vs.getD p.toNat aH.z else aH.z
def yR(slot:Int)(e:Ev):Bool:=decide (e.ab=slot) && (dE e || decide (e.mode>0))
def jc(l:List Ev)(slot:Int):Nat:=(l.filter (yR slot)).length
def whereFrom(t:Int):List (List Int)→Nat→Int×Bool
 | [],_=>(0,false)
 | r::l,n=>if t∈r then ((n:Int),true) else whereFrom t l (n+1)
def df(l:Lib)(slot p:Int):List HT :=
 (if ((eN l p).runs=true∧(eN l p).ab=slot) then [⟨1,p⟩] else [])++List.replicate (jc (eN l p).evs slot) ⟨3,p⟩
def placeOf(l:Lib)(slot:Int):List HT :=
 l.procs.flatMap (df l slot)++(if (whereFrom slot l.rows 0).2=true then [⟨2,(whereFrom slot l.rows 0).1⟩] else [])++List.replicate (jc l.waiting slot) ⟨4, -1⟩
theorem HU{l:List Ev}{k:Nat}{e:Ev}{slot:Int}(h:l[k]?=some e)(ht:yR slot e=true):jc (l.take (k+1)) slot=jc (l.take k) slot+1:=by
 unfold jc;rw[aW h,List.filter_append,List.length_append,List.filter_cons,if_pos ht];rfl
theorem Ki{l:List Ev}{k:Nat}{e:Ev}{slot:Int}(h:l[k]?=some e)(ht:yR slot e=false):jc (l.take (k+1)) slot=jc (l.take k) slot:=by
 unfold jc;rw[aW h,List.filter_append,List.length_append,List.filter_cons,if_neg (by rw[ht];simp)];rfl
theorem yS(l:List Ev)(slot:Int):jc l slot≤l.length:=List.length_filter_le _ _
theorem Kj{l:Lib}{p:Int}(h:l.has p=false):eN l p=aH.z:=by unfold eN;rw[if_neg (by rw[h];simp)]
theorem uD{l:Lib}{i:Nat}{v:aH}(h:l.has (i:Int)=true)(hv:l.vs[i]?=some v):eN l (i:Int)=v:=by unfold eN;rw[if_pos h,Int.toNat_natCast,aP hv]
theorem E4{t:Int}{rs:List (List Int)}{n:Nat}{r:List Int}(h:rs[n]?=some r)(ht:t∈r):whereFrom t (rs.drop n) n=((n:Int),true):=by rw[drop_cons h,whereFrom,if_pos ht]
theorem HV{t:Int}{rs:List (List Int)}{n:Nat}{r:List Int}(h:rs[n]?=some r)(ht:t ∉ r):whereFrom t (rs.drop n) n=whereFrom t (rs.drop (n+1)) (n+1):=by rw[drop_cons h,whereFrom,if_neg ht]
theorem E5{t:Int}{rs:List (List Int)}{n:Nat}(h:rs.length≤n):whereFrom t (rs.drop n) n=(0,false):=by rw[List.drop_of_length_le h];rfl
theorem DO{m:Nat}{l:Lib}(h:∀ v∈l.vs,v.evs.length≤m)(p:Int):(eN l p).evs.length≤m:=by
 unfold eN
 split
 ·rw[List.getD_eq_getElem?_getD]
  cases e:l.vs[p.toNat]? with
  | none=>exact Nat.zero_le _
  | some v=>exact h v (List.mem_of_getElem? e)
 ·exact Nat.zero_le _
theorem Kk{l:Lib}{slot p:Int}{ys:List HT}(h:((eN l p).runs && decide (mO (eN l p)=slot))=true):ys++df l slot p=(ys++List.replicate 1 ⟨1,p⟩)++List.replicate (jc (eN l p).evs slot) ⟨3,p⟩:=by
 simp only[Bool.and_eq_true,decide_eq_true_eq] at h
 have h2:=h.2
 unfold mO at h2
 rw[if_pos h.1] at h2
 unfold df;rw[if_pos ⟨h.1,h2⟩, ← List.append_assoc];rfl
theorem Mv{l:Lib}{slot p:Int}{ys:List HT}(h:((eN l p).runs && decide (mO (eN l p)=slot))=false):ys++df l slot p=ys++List.replicate (jc (eN l p).evs slot) ⟨3,p⟩:=by
 unfold df
 rw[if_neg,List.nil_append]
 rintro⟨h1,h2⟩
 unfold mO at h
 rw[if_pos h1,h1,decide_eq_true h2] at h
 cases h
/-! bounds, and where everything is -/
structure O8(k:Krn):Prop where
 ev:∀ l∈k.libs,(∀ v∈l.vs,v.evs.length≤1000000)∧l.waiting.length≤1000000∧l.rows.length≤64∧ ∀ r∈l.rows,r.length≤1000000
def kS(l:Lib)(slot:Int):List HT:=if (whereFrom slot l.rows 0).2=true then [⟨2,(whereFrom slot l.rows 0).1⟩] else []
theorem uE(l:Lib)(slot:Int):placeOf l slot=(l.procs.flatMap (df l slot)++kS l slot)++List.replicate (jc l.waiting slot) ⟨4, -1⟩:=rfl
theorem HW{l:Lib}{slot p:Int}{k:Nat}(h:l.procs[k]?=some p):(l.procs.take (k+1)).flatMap (df l slot)=(l.procs.take k).flatMap (df l slot)++df l slot p:=by rw[aW h,List.flatMap_append];simp
theorem Mw{m:Nat}{l:Lib}(h:∀ v∈l.vs,v.evs.length≤m)(slot p:Int):(df l slot p).length≤m+1:=by
 have:=yS (eN l p).evs slot
 have:=DO h p
 unfold df
 rw[List.length_append,List.length_replicate]
 split <;> simp <;> omega
theorem AK{m:Nat}{l:Lib}(h:∀ v∈l.vs,v.evs.length≤m)(slot:Int):∀ ps:List Int,(ps.flatMap (df l slot)).length≤ps.length * (m+1)
 | []=>by simp
 | p::ps=>by
  have:=Mw h slot p
  have:=AK h slot ps
  rw[List.flatMap_cons,List.length_append,List.length_cons,Nat.add_mul]
  omega
theorem xd{l:Lib}(hv:l.vs.length≤64)(h:∀ v∈l.vs,v.evs.length≤1000000)(slot:Int)(k:Nat):((l.procs.take k).flatMap (df l slot)).length≤70000000:=by
 have h1:=AK h slot (l.procs.take k)
 have h2:(l.procs.take k).length≤64:=by rw[List.length_take];have:=jl l.vs 0;have:l.procs.length≤l.vs.length:=this;omega
 have h3:(l.procs.take k).length * (1000000+1)≤64 * (1000000+1):=Nat.mul_le_mul_right _ h2
 omega
def rightIn(l:Lib):Nat→Bool
 | 0=>true
 | n+1=>rightIn l n && decide ((placeOf l (n:Int)).length=if l.aI.ready.contains (n:Int) then 1 else 0)
def iA(k:Krn):Nat→Bool
 | 0=>true
 | n+1=>iA k n && rightIn (k.libs.getD n BH) 16
def og(k:Krn)(p:Nat):Nat→Bool
 | 0=>true
 | n+1=>og k p n && decide ((k.libs.getD n BH).procs.contains (p:Int)=((k.ownerOf (p:Int)).2 && decide ((n:Int)=(k.ownerOf (p:Int)).1)))
def oh(k:Krn):Nat→Bool
 | 0=>true
 | p+1=>oh k p && og k p k.libs.length
def re(k:Krn):Bool:=oh k k.owner.length
def kT(k:Krn):Bool:=iA k k.libs.length && re k
theorem uF{k:Krn}{p:Nat}:∀ {m n:Nat},n≤m→og k p n=false→og k p m=false
 | 0,n,h,e=>by
  obtain rfl:n=0:=by omega
  exact e
 | m+1,n,h,e=>by
  by_cases c:n=m+1
  ·rw[← c];exact e
  ·rw[og,uF (by omega) e,Bool.false_and]
theorem uG{k:Krn}:∀ {m n:Nat},n≤m→oh k n=false→oh k m=false
 | 0,n,h,e=>by
  obtain rfl:n=0:=by omega
  exact e
 | m+1,n,h,e=>by
  by_cases c:n=m+1
  ·rw[← c];exact e
  ·rw[oh,uG (by omega) e,Bool.false_and]
theorem pZ{l:Lib}:∀ {m n:Nat},n≤m→rightIn l n=false→rightIn l m=false
 | 0,n,h,e=>by
  obtain rfl:n=0:=by omega
  exact e
 | m+1,n,h,e=>by
  by_cases c:n=m+1
  ·rw[← c];exact e
  ·rw[rightIn,pZ (by omega) e,Bool.false_and]
theorem p5{k:Krn}:∀ {m n:Nat},n≤m→iA k n=false→iA k m=false
 | 0,n,h,e=>by
  obtain rfl:n=0:=by omega
  exact e
 | m+1,n,h,e=>by
  by_cases c:n=m+1
  ·rw[← c];exact e
  ·rw[iA,p5 (by omega) e,Bool.false_and]
theorem Kl{k:Krn}{p n:Nat}{l:Lib}(hp:p<k.owner.length)(hn:n<k.libs.length)(hl:k.libs[n]?=some l)(h:¬l.procs.contains (p:Int)=((k.ownerOf (p:Int)).2 && decide ((n:Int)=(k.ownerOf (p:Int)).1))):re k=false:=by
 unfold re
 refine uG (n:=p+1) (by omega) ?_
 rw[oh,uF (n:=n+1) (by omega) (by rw[og,aP hl,decide_eq_false h,Bool.and_false]),Bool.and_false]
theorem xe{k:Krn}{n s:Nat}{l:Lib}(hs:s<16)(hn:n<k.libs.length)(hl:k.libs[n]?=some l)(h:¬(placeOf l (s:Int)).length=if l.aI.ready.contains (s:Int) then 1 else 0):kT k=false:=by
 unfold kT
 rw[p5 (n:=n+1) (by omega) (by rw[iA,aP hl,pZ (n:=s+1) (by omega) (by rw[rightIn,decide_eq_false h,Bool.and_false]),Bool.and_false]),Bool.false_and]
end Go.SLYtpbjdoplfgeliaaGreat
namespace Go.SLYtpbjdoplfgeliaaGreat
open Go Go.RowKit
theorem kU(t:Int):∀ (rows:List (List Int)) (n:Nat),(whereFrom t rows n).2=yO rows t
 | [],_=>rfl
 | r::rows,n=>by
  unfold whereFrom yO
  rw[List.any_cons]
  by_cases h:t∈r
  ·rw[if_pos h,List.contains_iff_mem.2 h];rfl
  ·rw[if_neg h,kU t rows (n+1)]
   have:r.contains t=false:=by rw[← Bool.not_eq_true,List.contains_iff_mem];exact h
   rw[this,Bool.false_or];rfl
theorem Ci{rows:List (List Int)}{p t:Int}(h:(whereFrom t rows 0).2=true):rAdd rows p t=rows:=by unfold rAdd;rw[kU] at h;rw[if_pos h]
theorem E6{rows:List (List Int)}{p t:Int}(h:aL rows p=none):rAdd rows p t=rows:=by
 unfold rAdd;split
 ·rfl
 ·rw[h]
theorem E7{rows:List (List Int)}{p t:Int}{r:List Int}(h:(whereFrom t rows 0).2=false)(hr:aL rows p=some r):rAdd rows p t=rows.set p.toNat (r++[t]):=by
 unfold rAdd;rw[kU] at h;rw[if_neg (by rw[h];simp),hr]
theorem E8{rows:List (List Int)}{t:Int}(h:(whereFrom t rows 0).2=false){i:Nat}{r:List Int}(hr:rows[i]?=some r):r.contains t=false:=by
 rw[kU] at h
 unfold yO at h
 have:=List.any_eq_false.1 h r (List.mem_of_getElem? hr)
 simpa using this
theorem Cj{l:List Int}{i:Nat}(h:i+1=l.length):l.eraseIdx i=l.dropLast:=by
 rw[List.dropLast_eq_take,List.eraseIdx_eq_take_drop_succ,List.drop_of_length_le (by omega),List.append_nil,show l.length-1=i from by omega]
theorem Km{l:List Int}{t:Int}(h:l.getLast?=some t):∃ i,i+1=l.length∧l[i]?=some t:=by
 rw[List.getLast?_eq_getElem?] at h
 have:=(List.getElem?_eq_some_iff.1 h).1
 exact⟨l.length-1,by omega,h⟩
theorem AL:∀ {rows:List (List Int)} {k:Nat} {r:List Int} {t:Int},(∀ j,j<k→rows[j]?=some [])→rows[k]?=some r→r.getLast?=some t→rSteal rows=some (t,rows.set k r.dropLast)
 | [],_,_,_,_,h,_=>by simp at h
 | x::rows,0,r,t,_,h,ht=>by
  have e:x=r:=by simpa using h
  subst e
  unfold rSteal;rw[ht];rfl
 | x::rows,k+1,r,t,hj,h,ht=>by
  have e:x=[]:=by have:=hj 0 (by omega);simpa using this
  subst e
  have ih:=AL (rows:=rows) (k:=k) (r:=r) (t:=t) (fun j hjk=>by have:=hj (j+1) (by omega);simpa using this) (by simpa using h) ht
  unfold rSteal
  rw[List.getLast?_nil,ih]
  rfl
theorem uH:∀ {rows:List (List Int)},(∀ j,j<rows.length→rows[j]?=some [])→rSteal rows=none
 | [],_=>rfl
 | x::rows,hj=>by
  have e:x=[]:=by have:=hj 0 (by simp);simpa using this
  subst e
  have ih:=uH (rows:=rows) (fun j hjk=>by have:=hj (j+1) (by simp;omega);simpa using this)
  unfold rSteal
  rw[List.getLast?_nil,ih]
def uI(rows:List (List Int))(p:Int):Int:=match rPick rows p with | none=>0 | some x=>x.1
def mn(rows:List (List Int))(p:Int):List (List Int):=match rPick rows p with | none=>rows | some x=>x.2
theorem nH{rows:List (List Int)}{p:Int}(h:rPick rows p=none):uI rows p=0∧mn rows p=rows:=by unfold uI mn;rw[h];exact⟨rfl,rfl⟩
theorem js{rows rows':List (List Int)}{p t:Int}(h:rPick rows p=some (t,rows')):uI rows p=t∧mn rows p=rows':=by unfold uI mn;rw[h];exact⟨rfl,rfl⟩
theorem uJ{rows:List (List Int)}{p:Int}(h:aL rows p=none):rPick rows p=none:=by unfold rPick;rw[h]
theorem E9{rows:List (List Int)}{p t:Int}{r:List Int}(h:aL rows p=some (t::r)):rPick rows p=some (t,rows.set p.toNat r):=by unfold rPick;rw[h]
theorem uK{rows:List (List Int)}{p:Int}(h:aL rows p=some []):rPick rows p=rSteal rows:=by unfold rPick;rw[h]
theorem HX{rows:List (List Int)}{k:Nat}{r:List Int}(h:rows[k]?=some r)(hr:r≠[]):im rows=false:=by
 unfold im
 rw[List.all_eq_false]
 exact⟨r,List.mem_of_getElem? h,by simpa using hr⟩
theorem Fa{rows:List (List Int)}(h:∀ j,j<rows.length→rows[j]?=some []):im rows=true:=by
 unfold im
 rw[List.all_eq_true]
 intro r hr
 obtain⟨j,hj⟩:=List.mem_iff_getElem?.1 hr
 have:=h j (List.getElem?_eq_some_iff.1 hj).1
 rw[hj] at this
 simpa using this
theorem xf{xs:List (Nat×List Int)}{rs:List (List Int)}(h:xs.map (·.2)=rs){p:Int}:aL rs p=(aL xs p).map (·.2):=by
 rw[← h];unfold aL;split
 ·rfl
 ·rw[List.getElem?_map]
theorem nI{xs:List (Nat×List Int)}{i q:Nat}{r:List Int}(hx:xs[i]?=some (q,r)):∀ g,aO (fun x:Nat×List Int=>fu x.1 x.2) xs g→seps [fu q r,aO (fun x:Nat×List Int=>fu x.1 x.2) (xs.eraseIdx i)] g:=cc (f:=fun x:Nat×List Int=>fu x.1 x.2) hx
theorem p9{b:Nat}{v:Value}{xs:List (Nat×List Int)}{rs:List (List Int)}(h:xs.map (·.2)=rs):∀ g,seps [arr b 0 [v],sl cP 1 v xs,aO (fun x:Nat×List Int=>fu x.1 x.2) xs] g→ga b rs g:=fun _ a=>⟨v,xs,h,a⟩
theorem HY{xs:List (Nat×List Int)}{i q:Nat}{r r':List Int}{v:Value}(hx:xs[i]?=some (q,r)):∀ g,sl cP 1 v xs g→sl cP 1 v (xs.set i (q,r')) g:=fun g s=>by
 have hl:rows cP (xs.set i (q,r'))=rows cP xs:=by
  have e:∀ (l l':List (Nat×List Int)),l.map (·.1)=l'.map (·.1)→rows cP l=rows cP l':=fun l=>by
   induction l with
   | nil=>intro l' h;cases l' with
    | nil=>rfl
    | cons y ys=>cases h
   | cons x l ih=>intro l' h;cases l' with
    | nil=>cases h
    | cons y ys =>
     simp only[List.map_cons,List.cons.injEq] at h
     rw[fh,fh,ih ys h.2]
     show[ptr x.1]++_=[ptr y.1]++_
     rw[h.1]
  refine e _ _ ?_
  rw[List.map_set]
  have:(xs.map (·.1))[i]?=some q:=by rw[List.getElem?_map,hx];rfl
  exact gP this
 rcases s with ⟨a,rfl,e⟩ | ⟨b,cap,sp,e1,e2, -,e4,e5⟩
 ·simp at hx
 ·exact .inr ⟨b,cap,sp,by rw[List.length_set];exact e1,by rw[List.length_set];exact e2,fun _ _=>rfl,by rw[List.length_set];exact e4,by rw[hl];exact e5⟩
theorem rf{b:Nat}{v:Value}{xs:List (Nat×List Int)}{rs:List (List Int)}{i q:Nat}{r:List Int}(h:xs.map (·.2)=rs)(hx:xs[i]?=some (q,r))(r':List Int):∀ g,seps [arr b 0 [v],sl cP 1 v xs,fu q r',aO (fun x:Nat×List Int=>fu x.1 x.2) (xs.eraseIdx i)] g→ga b (rs.set i r') g:=fun g a=>by
 refine⟨v,xs.set i (q,r'),by show(xs.set i (q,r')).map (·.2)=_;rw[List.map_set,h],?_⟩
 simp only[seps,aK] at a ⊢
 refine bB (fun _ b=>b) (bB (HY hx) (fun g b=>?_)) g a
 rw[jy _ _ (List.getElem?_eq_some_iff.1 hx).1];exact b
theorem Ck{W:World}{H R K As:List aa}(t:Take H (seps As) R)(h:∀ w,Sat W w (seps (As++R))→Sat W w (seps K)):∀ w,Sat W w (seps H)→Sat W w (seps K):=fun w s=>h w (by rw[ah, ← t.seps];exact s)
def wE(l:List Ev):Ev:=match evWithin l with | none=>⟨0,0,0⟩ | some x=>x.1
def wR(l:List Ev):List Ev:=match evWithin l with | none=>l | some x=>x.2
theorem Fb{l:List Ev}(h:idxP jf l 0<0):evWithin l=none:=if_pos h
theorem Cl{l:List Ev}(h:¬idxP jf l 0<0)(hl:(idxP jf l 0).toNat<l.length):∃ i e,idxP jf l 0=((i:Nat):Int)∧l[i]?=some e∧evWithin l=some (e,l.take i++l.drop (i+1)):=by
 obtain⟨e,he⟩:=ai hl
 refine⟨(idxP jf l 0).toNat,e,by omega,he,?_⟩
 unfold evWithin;rw[if_neg h,he]
theorem DP{α:Type}{p:α→Bool}:∀ (l:List α) (k:Nat),idxP p l k<((k+l.length:Nat):Int)
 | [],k=>by show(-1:Int)<_;omega
 | x::l,k=>by
  unfold idxP
  split
  ·simp only[List.length_cons];omega
  ·have:=DP (p:=p) l (k+1);simp only[List.length_cons];omega
end Go.SLYtpbjdoplfgeliaaGreat
namespace Go.SLYtpbjdoplfgeliaaGreat
open Go Go.RowKit
theorem DQ{u:Value}{e:lG}(h:isSl u=true):(oE u e).all (·.oneCell')=true:=by
 have:=gb h
 show(u.oneCell' && (true && (true && (true && true))))=true
 rw[this];rfl
theorem dh{u:Value}{d:gg}(h:isSl u=true):(dy u d).all (·.oneCell')=true:=by
 have:=gb h
 show(true && (true && (u.oneCell' && (true && (true && (true && true))))))=true
 rw[this];rfl
theorem xg{α:Type}{f:α→aa}:∀ {xs:List α} {i:Nat} {x y:α},xs[i]?=some x→f y=f x→aO f (xs.set i y)=aO f xs
 | [],_,_,_,h,_=>by simp at h
 | z::xs,0,x,y,h,e=>by
  have:z=x:=by simpa using h
  subst this
  rw[List.set_cons_zero,fL,fL,e]
 | z::xs,i+1,x,y,h,e=>by
  rw[List.set_cons_succ,fL,fL,xg (i:=i) (x:=x) (by simpa using h) e]
abbrev vF:Value×aH→aa:=fun x=>sl cf 3 x.1 x.2.evs
theorem fp{vv:Value}{xs:List (Value×aH)}{vs:List aH}(h:xs.map (·.2)=vs):∀ g,seps [sl eZ 3 vv xs,aO (fun x:Value×aH=>sl cf 3 x.1 x.2.evs) xs] g→cv vv vs g:=fun _ a=>⟨xs,h,a⟩
theorem kV{vv:Value}{xs:List (Value×aH)}{vs:List aH}{i:Nat}{x:Value×aH}{y:aH}(h:xs.map (·.2)=vs)(hx:xs[i]?=some x)(he:y.evs=x.2.evs):∀ g,seps [sl eZ 3 vv (xs.set i (x.1,y)),aO (fun x:Value×aH=>sl cf 3 x.1 x.2.evs) xs] g→cv vv (vs.set i y) g:=fun g a=>by
 refine⟨xs.set i (x.1,y),by show(xs.set i (x.1,y)).map (·.2)=_;rw[List.map_set,h],?_⟩
 show seps [_,aO (fun x:Value×aH=>sl cf 3 x.1 x.2.evs) (xs.set i (x.1,y))] g
 rwa [xg (f:=fun x:Value×aH=>sl cf 3 x.1 x.2.evs) hx (y:=(x.1,y)) (by show sl cf 3 x.1 y.evs=_;rw[he])]
theorem m6{vv:Value}{xs:List (Value×aH)}{vs:List aH}{i:Nat}{x:Value×aH}{w:Value}{y:aH}(h:xs.map (·.2)=vs)(hx:xs[i]?=some x):∀ g,seps [sl eZ 3 vv (xs.set i (w,y)),sl cf 3 w y.evs,aO (fun x:Value×aH=>sl cf 3 x.1 x.2.evs) (xs.eraseIdx i)] g→cv vv (vs.set i y) g:=fun g a=>by
 refine⟨xs.set i (w,y),by show(xs.set i (w,y)).map (·.2)=_;rw[List.map_set,h],?_⟩
 simp only[seps,aK] at a ⊢
 refine bB (fun _ b=>b) (fun g b=>?_) g a
 rw[jy _ _ (List.getElem?_eq_some_iff.1 hx).1];exact b
theorem Cm{rows:List (List Int)}{p:Int}{ts:List Int}{k:Nat}{t:Int}(h:ts[k]?=some t):eb rows p (ts.take (k+1))=rAdd (eb rows p (ts.take k)) p t:=by
 unfold eb;rw[aW h,List.foldl_append];rfl
structure HZ(l:Lib):Prop where
 sp:hU l.aI
 vl:l.vs.length≤64
 rl:l.rows.length≤64
 wt:l.waiting.length≤1000000
 ev:∀ v∈l.vs,v.evs.length≤1000000
 rw:∀ r∈l.rows,r.length≤1000000
theorem fj.sz{k:Nat}{l:Lib}(h:fj k l)(hk:k≤180):HZ l:=by
 have hl:LP (40 * (k+1)) l:=⟨h.ev,h.vl,h.sp.lt⟩
 exact⟨h.sp.aI (by omega),h.vl,h.rl,Nat.le_trans hl.w (by omega),fun v hv=>Nat.le_trans (hl.e v hv) (by omega),fun r hr=>Nat.le_trans (h.rw r hr) (by omega)⟩
theorem qa{l:Lib}{p m:Int}(h:l.locked=true):l.enter p m=l:=if_pos h
theorem nJ{l:Lib}{i:Nat}{v:aH}{m:Int}(hv:l.vs[i]?=some v)(h:l.locked=false):l.enter (i:Int) m = {l with locked:=true,vs:=l.vs.set i {v with mode:=m } }:=by
 unfold Lib.enter;rw[if_neg (by rw[h];simp),eV hv];unfold Lib.je;rw[Int.toNat_natCast]
theorem iN{l:Lib}{i:Nat}{v:aH}{m t:Int}(hv:l.vs[i]?=some v):l.leave (i:Int) m t = {l with locked:=false,vs:=l.vs.set i {v with mode:=m,ab:=t } }:=by
 unfold Lib.leave;rw[eV hv];unfold Lib.je;rw[Int.toNat_natCast]
theorem iB{l:Lib}{i:Nat}{y:aH}:l.je (i:Int) y = {l with vs:=l.vs.set i y }:=by unfold Lib.je;rw[Int.toNat_natCast]
end Go.SLYtpbjdoplfgeliaaGreat
namespace Go.SLYtpbjdoplfgeliaaGreat
open Go Go.RowKit
section
variable{l:Lib}{i:Nat}{v:aH}
def Lib.rh(l:Lib)(i:Nat)(v:aH)(rest:List Ev):Lib:={l with locked:=false,vs:=l.vs.set i {v with evs:=rest } }
theorem lT(hv:l.vs[i]?=some v){q:Ev}{rest:List Ev}{c:Int}(h:¬q.mode=7):l.recover (i:Int) q rest c=(gg.z,l.rh i v rest):=by
 unfold Lib.recover;simp only;rw[if_neg h,eV hv,iB];rfl
theorem lU(hv:l.vs[i]?=some v){q:Ev}{rest:List Ev}{c:Int}(h:q.mode=7)(hg:(l.aI.run q.ab c).1.cq=true) :
  l.recover (i:Int) q rest c=(((l.rh i v rest).aJ q.ab c).1,(((l.rh i v rest).aJ q.ab c).2.fE (i:Int) (l.aI.run q.ab c).1.av).fE (i:Int) [q.ab]):=by
 unfold Lib.recover;simp only;rw[if_pos h,eV hv,iB]
 show((_,if (l.aI.run q.ab c).1.cq=true then _ else _):gg×Lib)=_
 rw[if_pos hg];rfl
theorem jg(hv:l.vs[i]?=some v){q:Ev}{rest:List Ev}{c:Int}(h:q.mode=7)(hg:¬(l.aI.run q.ab c).1.cq=true) :
  l.recover (i:Int) q rest c=(((l.rh i v rest).aJ q.ab c).1,((l.rh i v rest).aJ q.ab c).2.fE (i:Int) (l.aI.run q.ab c).1.av):=by
 unfold Lib.recover;simp only;rw[if_pos h,eV hv,iB]
 show((_,if (l.aI.run q.ab c).1.cq=true then _ else _):gg×Lib)=_
 rw[if_neg hg];rfl
theorem lV(hv:l.vs[i]?=some v){c:Int}(h:(evWithin v.evs).isSome=true):l.upcall (i:Int) c=l.recover (i:Int) (wE v.evs) (wR v.evs) c:=by
 unfold Lib.upcall;rw[eV hv]
 unfold wE wR
 cases e:evWithin v.evs with
 | none=>rw[e] at h;cases h
 | some x=>rfl
theorem nK(hv:l.vs[i]?=some v){c:Int}(h:(evWithin v.evs).isSome=false):l.upcall (i:Int) c=(gg.z,l.enter (i:Int) 2):=by
 unfold Lib.upcall;rw[eV hv]
 cases e:evWithin v.evs with
 | none=>rfl
 | some x=>rw[e] at h;cases h
theorem lW(hv:l.vs[i]?=some v)(h:v.evs=[]):l.handle (i:Int)=l.leave (i:Int) 3 (-1):=by unfold Lib.handle;rw[eV hv,h]
theorem nL(hv:l.vs[i]?=some v){e:Ev}{r:List Ev}(h:v.evs=e::r)(hr:dE e=true):l.handle (i:Int) = {l with rows:=eb l.rows (i:Int) [e.ab],vs:=l.vs.set i {v with evs:=r } }:=by
 unfold Lib.handle;rw[eV hv,h];simp only;rw[if_pos hr,iB];rfl
theorem lX(hv:l.vs[i]?=some v){e:Ev}{r:List Ev}(h:v.evs=e::r)(hr:¬dE e=true):l.handle (i:Int) = {l with vs:=l.vs.set i {v with evs:=r } }:=by
 unfold Lib.handle;rw[eV hv,h];simp only;rw[if_neg hr,iB]
theorem nM(h:(rPick l.rows (i:Int)).isSome=true):l.pick (i:Int)=({l with rows:=mn l.rows (i:Int) }:Lib).leave (i:Int) 5 (uI l.rows (i:Int)):=by
 unfold Lib.pick mn uI
 cases e:rPick l.rows (i:Int) with
 | none=>rw[e] at h;cases h
 | some x=>rfl
theorem qc(h:(rPick l.rows (i:Int)).isSome=false):l.pick (i:Int)=l.leave (i:Int) 8 (-1)∧mn l.rows (i:Int)=l.rows:=by
 unfold Lib.pick mn
 cases e:rPick l.rows (i:Int) with
 | none=>exact⟨rfl,rfl⟩
 | some x=>rw[e] at h;cases h
theorem lY(hv:l.vs[i]?=some v){c:Int}(h:l.aI.class v.ab=2):l.gR (i:Int) c=(gg.z,{l with vs:=l.vs.set i {v with mode:=6 } }):=by
 unfold Lib.gR;rw[eV hv];simp only;rw[if_pos h,iB]
theorem nN(hv:l.vs[i]?=some v){c:Int}(h:¬l.aI.class v.ab=2)(hs:(l.aI.run v.ab c).1.aQ=true) :
  l.gR (i:Int) c=((l.aJ v.ab c).1,({(l.aJ v.ab c).2 with vs:=l.vs.set i (aH.new [⟨2,v.ab,0⟩]) }:Lib).tell (aG (l.aI.run v.ab c).1.av)):=by
 unfold Lib.gR;rw[eV hv];simp only;rw[if_neg h]
 show((_,Lib.tell (if (l.aI.run v.ab c).1.aQ=true then _ else _) _):gg×Lib)=_
 rw[if_pos hs,iB];rfl
theorem qd(hv:l.vs[i]?=some v){c:Int}(h:¬l.aI.class v.ab=2)(hs:¬(l.aI.run v.ab c).1.aQ=true)(he:(l.aI.run v.ab c).1.ended=true) :
  l.gR (i:Int) c=((l.aJ v.ab c).1,({(l.aJ v.ab c).2 with vs:=l.vs.set i {v with mode:=3,ab := -1 } }:Lib).tell (aG (l.aI.run v.ab c).1.av)):=by
 have hv2:(l.aJ v.ab c).2.v (i:Int)=v:=eV (l:=(l.aJ v.ab c).2) hv
 unfold Lib.gR;rw[eV hv];simp only;rw[if_neg h,hv2]
 show((_,Lib.tell (if (l.aI.run v.ab c).1.aQ=true then _ else if (l.aI.run v.ab c).1.ended=true then _ else _) _):gg×Lib)=_
 rw[if_neg hs,if_pos he,iB];rfl
theorem nO(hv:l.vs[i]?=some v){c:Int}(h:¬l.aI.class v.ab=2)(hs:¬(l.aI.run v.ab c).1.aQ=true)(he:¬(l.aI.run v.ab c).1.ended=true) :
  l.gR (i:Int) c=((l.aJ v.ab c).1,(l.aJ v.ab c).2.tell (aG (l.aI.run v.ab c).1.av)):=by
 unfold Lib.gR;rw[eV hv];simp only;rw[if_neg h]
 show((_,Lib.tell (if (l.aI.run v.ab c).1.aQ=true then _ else if (l.aI.run v.ab c).1.ended=true then _ else _) _):gg×Lib)=_
 rw[if_neg hs,if_neg he];rfl
theorem lZ(hv:l.vs[i]?=some v){c:Int}(h:¬(l.aI.run v.ab c).1.cq=true):l.inside (i:Int) c=((l.aJ v.ab c).1,((l.aJ v.ab c).2.fE (i:Int) (l.aI.run v.ab c).1.av).leave (i:Int) 3 (-1)):=by
 unfold Lib.inside;rw[eV hv]
 show((_,if (l.aI.run v.ab c).1.cq=true then _ else _):gg×Lib)=_
 rw[if_neg h];rfl
theorem jh(hv:l.vs[i]?=some v){c:Int}(h:(l.aI.run v.ab c).1.cq=true)(hy:(l.aI.run v.ab c).1.yielded=true):l.inside (i:Int) c=((l.aJ v.ab c).1,(((l.aJ v.ab c).2.fE (i:Int) (l.aI.run v.ab c).1.av).fE (i:Int) [v.ab]).leave (i:Int) 3 (-1)):=by
 unfold Lib.inside;rw[eV hv]
 show((_,if (l.aI.run v.ab c).1.cq=true then (if (l.aI.run v.ab c).1.yielded=true then _ else _) else _):gg×Lib)=_
 rw[if_pos h,if_pos hy];rfl
theorem nP(hv:l.vs[i]?=some v){c:Int}(h:(l.aI.run v.ab c).1.cq=true)(hy:¬(l.aI.run v.ab c).1.yielded=true):l.inside (i:Int) c=((l.aJ v.ab c).1,((l.aJ v.ab c).2.fE (i:Int) (l.aI.run v.ab c).1.av).leave (i:Int) 5 v.ab):=by
 unfold Lib.inside;rw[eV hv]
 show((_,if (l.aI.run v.ab c).1.cq=true then (if (l.aI.run v.ab c).1.yielded=true then _ else _) else _):gg×Lib)=_
 rw[if_pos h,if_neg hy];rfl
theorem AM{rows:List (List Int)}{p:Int}{ts:List Int}(h:rows.length≤64∧ ∀ r∈rows,r.length≤1000000)(ht:ts.length≤100000):(eb rows p ts).length≤64∧ ∀ r∈eb rows p ts,r.length≤800000000 :=
 ⟨by rw[fQ];exact h.1,fun r hr=>by have:=lP h.2 r hr;omega⟩
theorem yU{rows:List (List Int)}(h:rows.length≤64∧ ∀ r∈rows,r.length≤1000000):rows.length≤64∧ ∀ r∈rows,r.length≤800000000:=⟨h.1,fun r hr=>Nat.le_trans (h.2 r hr) (by decide)⟩
end
end Go.SLYtpbjdoplfgeliaaGreat
namespace Go.SLYtpbjdoplfgeliaaGreat
open Go Go.RowKit
section
variable{l:Lib}{i:Nat}{v:aH}{c:Int}
theorem qe{p:Int}(h:l.has p=false):l.step p c=(gg.z,11,l):=by unfold Lib.step;rw[if_neg (by rw[h];simp)]
theorem sQ(hh:l.has (i:Int)=true)(hv:l.vs[i]?=some v)(hm:v.mode=1):l.step (i:Int) c=((l.upcall (i:Int) c).1,0,(l.upcall (i:Int) c).2):=by
 unfold Lib.step;rw[if_pos hh,eV hv];simp only;rw[if_pos hm]
theorem sR(hh:l.has (i:Int)=true)(hv:l.vs[i]?=some v)(hm:v.mode=2):l.step (i:Int) c=(gg.z,0,l.handle (i:Int)):=by
 unfold Lib.step;rw[if_pos hh,eV hv];simp only;rw[if_neg (by omega),if_pos hm]
theorem sS(hh:l.has (i:Int)=true)(hv:l.vs[i]?=some v)(hm:v.mode=3):l.step (i:Int) c=(gg.z,0,l.enter (i:Int) 4):=by
 unfold Lib.step;rw[if_pos hh,eV hv];simp only;rw[if_neg (by omega),if_neg (by omega),if_pos hm]
theorem sT(hh:l.has (i:Int)=true)(hv:l.vs[i]?=some v)(hm:v.mode=4):l.step (i:Int) c=(gg.z,0,l.pick (i:Int)):=by
 unfold Lib.step;rw[if_pos hh,eV hv];simp only;rw[if_neg (by omega),if_neg (by omega),if_neg (by omega),if_pos hm]
theorem sU(hh:l.has (i:Int)=true)(hv:l.vs[i]?=some v)(hm:v.mode=5):l.step (i:Int) c=((l.gR (i:Int) c).1,0,(l.gR (i:Int) c).2):=by
 unfold Lib.step;rw[if_pos hh,eV hv];simp only;rw[if_neg (by omega),if_neg (by omega),if_neg (by omega),if_neg (by omega),if_pos hm]
theorem sV(hh:l.has (i:Int)=true)(hv:l.vs[i]?=some v)(hm:v.mode=6):l.step (i:Int) c=(gg.z,0,l.enter (i:Int) 7):=by
 unfold Lib.step;rw[if_pos hh,eV hv];simp only;rw[if_neg (by omega),if_neg (by omega),if_neg (by omega),if_neg (by omega),if_neg (by omega),if_pos hm]
theorem sW(hh:l.has (i:Int)=true)(hv:l.vs[i]?=some v)(hm:v.mode=7):l.step (i:Int) c=((l.inside (i:Int) c).1,0,(l.inside (i:Int) c).2):=by
 unfold Lib.step;rw[if_pos hh,eV hv];simp only;rw[if_neg (by omega),if_neg (by omega),if_neg (by omega),if_neg (by omega),if_neg (by omega),if_neg (by omega),if_pos hm]
theorem qf(hh:l.has (i:Int)=true)(hv:l.vs[i]?=some v)(hm:v.mode=8)(he:im l.rows=true):l.step (i:Int) c=(gg.z,0,l):=by
 unfold Lib.step;rw[if_pos hh,eV hv];simp only;rw[if_neg (by omega),if_neg (by omega),if_neg (by omega),if_neg (by omega),if_neg (by omega),if_neg (by omega),if_neg (by omega),if_pos hm,if_pos he]
theorem qg(hh:l.has (i:Int)=true)(hv:l.vs[i]?=some v)(hm:v.mode=8)(he:im l.rows=false):l.step (i:Int) c=(gg.z,0,{l with vs:=l.vs.set i {v with mode:=3 } }):=by
 unfold Lib.step;rw[if_pos hh,eV hv];simp only;rw[if_neg (by omega),if_neg (by omega),if_neg (by omega),if_neg (by omega),if_neg (by omega),if_neg (by omega),if_neg (by omega),if_pos hm,if_neg (by rw[he];simp),iB]
theorem sX(hh:l.has (i:Int)=true)(hv:l.vs[i]?=some v)(hm:¬v.mode=1∧¬v.mode=2∧¬v.mode=3∧¬v.mode=4∧¬v.mode=5∧¬v.mode=6∧¬v.mode=7∧¬v.mode=8):l.step (i:Int) c=(gg.z,0,l):=by
 unfold Lib.step;rw[if_pos hh,eV hv];simp only;rw[if_neg (by omega),if_neg (by omega),if_neg (by omega),if_neg (by omega),if_neg (by omega),if_neg (by omega),if_neg (by omega),if_neg (by omega)]
theorem jO{p:Int}(h:l.has p=false):l.preempt p=(false,l):=by unfold Lib.preempt;rw[if_neg (by rw[h];simp)]
theorem iO(h:l.has (i:Int)=true)(hv:l.vs[i]?=some v):l.preempt (i:Int)=(true,{l with vs:=l.vs.set i (v.told []) }):=by unfold Lib.preempt;rw[if_pos h,Int.toNat_natCast,aP hv]
end
end Go.SLYtpbjdoplfgeliaaGreat
namespace Go.SLYtpbjdoplfgeliaaGreat
open Go Go.RowKit
structure k7 where
 kind:Int
 space:Int
 ab:Int
 choice:Int
deriving DecidableEq
def H2(x:k7):List Value:=[.int .i64 x.kind,.int .i64 x.space,.int .i64 x.ab,.int .i64 x.choice]
def Pq(b:Nat)(l:List Spc):aa:=ot (fun _ (xs:List (Nat×Spc))=>xs.map (·.2)=l) fun v xs=>[arr b 0 [v],sl cP 1 v xs,aO (fun x=>fM x.1 x.2) xs]
def oDo(l:List Spc)(a:k7):Int×List Spc :=
 if a.kind=3 then (0,l.map fun s=>s.tick.2) else
 match aL l a.space with
 | none=>(1,l)
 | some s =>
  if a.kind=1 then ((s.run a.ab a.choice).2.1,l.set a.space.toNat (s.run a.ab a.choice).2.2) else
  if a.kind=2 then ((s.done a.choice).2.1,l.set a.space.toNat (s.done a.choice).2.2) else (1,l)
def fF(k:Nat)(l:List Spc):Prop:=∀ s∈l,gE k s
theorem fF.act{k:Nat}{l:List Spc}(h:fF k l)(hk:k≤1990)(a:k7):fF (k+1) (oDo l a).2:=by
 have hm:∀ s∈l,gE (k+1) s:=fun s hs=>(h s hs).more (Nat.le_succ _)
 unfold oDo
 split
 ·intro s hs
  obtain⟨t,ht,rfl⟩:=List.mem_map.1 hs
  exact(h t ht).tick
 ·split
  ·exact hm
  ·rename_i s e
   have hs:=h s (List.mem_of_getElem? (ck e).2.2)
   split
   ·intro t ht
    rcases List.mem_or_eq_of_mem_set ht with ht | rfl
    ·exact hm t ht
    ·exact hs.run hk _ _
   ·split
    ·intro t ht
     rcases List.mem_or_eq_of_mem_set ht with ht | rfl
     ·exact hm t ht
     ·exact hs.done _
    ·exact hm
end Go.SLYtpbjdoplfgeliaaGreat
namespace Go.SLYtpbjdoplfgeliaaGreat
open Go Go.RowKit
def PL(k:Nat)(xs:List (Nat×Spc)):List (Nat×Spc):=(xs.take k).map (fun x=>(x.1,x.2.tick.2))++xs.drop k
theorem H3{α β:Type}{f:α→β}{l:List α}{i:Int}:aL (l.map f) i=(aL l i).map f:=by
 unfold aL;split
 ·rfl
 ·rw[List.getElem?_map]
end Go.SLYtpbjdoplfgeliaaGreat
namespace Go.SLYtpbjdoplfgeliaaGreat
open Go Go.RowKit
def oReady(l:List Spc)(n:Int):List Int:=match aL l n with | none=>[] | some s=>s.ready
def m7(l:List Spc)(n:Int):List Rec:=match aL l n with | none=>[] | some s=>s.aA
def Pr(l:List Spc)(n:Int):List Int:=match aL l n with | none=>[] | some s=>s.mem
def O9(l:List Spc)(n k:Int):Option bI:=match aL l n with | none=>none | some s=>s.at k
theorem fF.get{k:Nat}{l:List Spc}(h:fF k l){n:Int}{s:Spc}(hs:aL l n=some s):gE k s:=h s (List.mem_of_getElem? (ck hs).2.2)
theorem fF.more{k k':Nat}{l:List Spc}(h:fF k l)(hk:k≤k'):fF k' l:=fun s hs=>(h s hs).more hk
theorem fF.aA{k:Nat}{l:List Spc}(h:fF k l)(hk:k≤1990)(n:Int):(m7 l n).length≤800000000:=by
 unfold m7;split
 ·exact Nat.zero_le _
 ·rename_i s e;exact(h.get e).rec hk
theorem fF.ready{k:Nat}{l:List Spc}(h:fF k l)(n:Int):(oReady l n).length≤1000000000:=by
 unfold oReady;split
 ·exact Nat.zero_le _
 ·rename_i s e;exact E0 (h.get e).lt
theorem H4{k:Nat}{l:List Spc}(h:fF k l)(hk:k≤1990){a:k7}(ha:a.kind=1):(oDo l a).1=0↔a.ab∈oReady l a.space:=by
 unfold oDo oReady
 rw[if_neg (by omega)]
 cases e:aL l a.space with
 | none=>simp
 | some s =>
  simp only
  rw[if_pos ha,mem_ready]
  have hs:=h.get e
  exact(hs.1.run hs.2.2 (by omega) (hs.rec hk)).2.2.2.2.1
def H5(s:Spc)(k:Nat)(a:k7):Spc :=
 if a.kind=3 then s.tick.2 else if a.space≠(k:Int) then s else if a.kind=1 then (s.run a.ab a.choice).2.2 else if a.kind=2 then (s.done a.choice).2.2 else s
theorem Fc{l:List Spc}{k:Nat}{s:Spc}(h:l[k]?=some s)(a:k7):(oDo l a).2[k]?=some (H5 s k a):=by
 unfold oDo H5
 by_cases h3:a.kind=3
 ·rw[if_pos h3,if_pos h3];show(l.map _)[k]?=_;rw[List.getElem?_map,h];rfl
 rw[if_neg h3,if_neg h3]
 have hk:=(List.getElem?_eq_some_iff.1 h).1
 by_cases hs:a.space≠(k:Int)
 ·rw[if_pos hs]
  split
  ·exact h
  ·rename_i t e
   have ht:=(ck e).1
   have hne:a.space.toNat≠k:=fun e=>hs (by omega)
   have key:∀ x,(l.set a.space.toNat x)[k]?=some s:=fun x=>by rw[List.getElem?_set_ne hne];exact h
   split
   ·exact key _
   ·split
    ·exact key _
    ·exact h
 ·have hs:a.space=(k:Int):=Decidable.of_not_not hs
  rw[if_neg (fun e=>e hs),hs]
  have hg:aL l (k:Int)=some s:=by rw[aV];exact h
  rw[hg]
  simp only[Int.toNat_natCast]
  split
  ·show(l.set k _)[k]?=_;rw[List.getElem?_set_self hk]
  ·split
   ·show(l.set k _)[k]?=_;rw[List.getElem?_set_self hk]
   ·exact h
def kn(ps:List gn):Int:=if ps.length<1∨8<ps.length then 1 else checkAll ps
def Ox(n:Int)(a:k7):List k7:=if a.kind=3 then [⟨3,0,0,0⟩] else if a.space=n then [{a with space:=0 }] else []
def ND(cB:List k7)(n:Int):List k7:=cB.flatMap (Ox n)
def jP(l:List Spc)(cB:List k7):List Spc:=cB.foldl (fun l a=>(oDo l a).2) l
theorem xh{l:List Spc}{cB:List k7}{k:Nat}{a:k7}(h:cB[k]?=some a):jP l (cB.take (k+1))=(oDo (jP l (cB.take k)) a).2:=by
 unfold jP;rw[aW h,List.foldl_append];rfl
theorem DR{k:Nat}{l:List Spc}(h:fF k l):∀ (cB:List k7) (m:Nat),m≤cB.length→k+cB.length≤1990→fF (k+m) (jP l (cB.take m))
 | cB,0,_,_=>by rw[List.take_zero];exact h
 | cB,m+1,hm,hl=>by
  have ih:=DR h cB m (by omega) hl
  obtain⟨a,ha⟩:=ai (show m<cB.length by omega)
  rw[xh ha]
  exact ih.act (by omega) a
def aloneR(ps:List gn)(n:Int)(cB:List k7):List Rec :=
 match aL ps n with
 | none=>[]
 | some p=>if dD p=0 then m7 (jP [Spc.new p] (ND cB n)) 0 else []
def Oy(ps:List gn)(n:Int):Int :=
 match aL ps n with
 | none=>1
 | some p=>dD p
theorem Kn{l:List Spc}{a:k7}{s:Spc}(ha:a.kind=1)(hg:aL l a.space=some s):oDo l a=((s.run a.ab a.choice).2.1,l.set a.space.toNat (s.run a.ab a.choice).2.2):=by unfold oDo;rw[if_neg (by omega),hg];simp only;rw[if_pos ha]
theorem H6{l:List Spc}{a:k7}{s:Spc}(ha:a.kind=2)(hg:aL l a.space=some s):oDo l a=((s.done a.choice).2.1,l.set a.space.toNat (s.done a.choice).2.2):=by unfold oDo;rw[if_neg (by omega),hg];simp only;rw[if_neg (by omega),if_pos ha]
end Go.SLYtpbjdoplfgeliaaGreat
namespace Go.SLYtpbjdoplfgeliaaGreat
open Go Go.RowKit
theorem kB:∀ {l:List gn},checkAll l=0→ ∀ p∈l,dD p=0
 | [],_,p,hp=>by cases hp
 | q::l,h,p,hp=>by
  unfold checkAll at h
  split at h
  ·rename_i hq
   rcases List.mem_cons.1 hp with rfl | hp
   ·exact hq
   ·exact kB h p hp
  ·rename_i hq;exact absurd h hq
theorem ji{ps:List gn}(h:kn ps=0):1≤ps.length∧ps.length≤8∧ ∀ p∈ps,dD p=0:=by
 unfold kn at h
 split at h
 ·cases h
 ·exact⟨by omega,by omega,kB h⟩
theorem fF.new{ps:List gn}(h:kn ps=0)(hw:∀ p∈ps, ∀ f∈p.funcs, ∀ i∈f,fK i.n):fF 1 (ps.map Spc.new):=fun s hs=>by
 obtain⟨p,hp,rfl⟩:=List.mem_map.1 hs
 exact gE.new ⟨(ji h).2.2 p hp,hw p hp⟩
theorem fF.aI{k:Nat}{l:List Spc}(h:fF k l)(hk:k≤1990):∀ s∈l,hU s:=fun s hs=>(h s hs).aI hk
theorem AN{l:List Spc}{k:Nat}{s:Spc}(h:l[k]?=some s):m7 l (k:Int)=s.aA:=by unfold m7;rw[aV,h]
/-! the laws' own fact -/
def Oz:List Ins:=[⟨32,1,0,0,0⟩]
def Pa:gn:=⟨[Oz],0,0,0,[],[],0,0⟩
def NF(x y:Nat):bc:=⟨zp y 1,[(zp x 1,Oz)],0,0,0,.slice none 0 0,[],.slice none 0 0,[],0,0⟩
def Ps(x y z:Nat):aa:=seps [arr z 0 (rows eT [NF x y,NF x y]),arr y 0 [zp x 1],arr x 0 (rows dM Oz)]
def OA:List Spc:=[Pa,Pa].map Spc.new
def OB:List Spc:=(oDo OA ⟨1,1,0,0⟩).2
def OC:List Spc:=(oDo OB ⟨1,2,0,0⟩).2
def Pt:List Spc:=(oDo OC ⟨3,9,0,0⟩).2
def PM:List Rec:=[⟨65537,32,0,65537,0,true⟩]
end Go.SLYtpbjdoplfgeliaaGreat
namespace Go.SLYtpbjdoplfgeliaaGreat
open Go Go.RowKit
theorem ri{l:Lib}(hw:∀ t c,(l.aI.run t c).1.av.length≤17)(p c:Int):aD 40 40 l (l.step p c).2.2:=by
 unfold Lib.step
 split
 ·rename_i hh
  obtain⟨i,v,rfl,hv, -⟩:=iq hh
  simp only
  split
  ·unfold Lib.upcall
   split
   ·rename_i x rest e
    rw[eV hv] at e
    have hl:=uw e
    exact(aD.recover hv (by omega) c (hw x.ab c)).le (by omega) (by omega)
   ·exact(aD.enter hv 2).le (by omega) (by omega)
  ·split
   ·exact(aD.handle hv).le (by omega) (by omega)
   ·split
    ·exact(aD.enter hv 4).le (by omega) (by omega)
    ·split
     ·exact(aD.pick hv).le (by omega) (by omega)
     ·split
      ·exact(aD.gR hv c (hw _ c)).le (by omega) (by omega)
      ·split
       ·exact(aD.enter hv 7).le (by omega) (by omega)
       ·split
        ·exact(aD.inside hv c (hw _ c)).le (by omega) (by omega)
        ·split
         ·split
          ·exact(aD.refl _).le (by omega) (by omega)
          ·exact(aD.je (x:={l.v (i:Int) with mode:=3 }) (a:=0) hv (by rw[eV hv];exact Nat.le_refl _)).le (by omega) (by omega)
         ·exact(aD.refl _).le (by omega) (by omega)
 ·exact(aD.refl _).le (by omega) (by omega)
theorem oP(l:Lib)(p:Int):aD 2 0 l (l.dq p).2:=by
 have h:=gr l p
 exact⟨h.len,congrArg _ h.rows,AB l p,fun m hm=>by rw[h.rows];exact hm⟩
theorem l3(l:Lib)(p:Int):aD 1 0 l (l.preempt p).2:=by
 cases h:l.has p with
 | false=>rw[jO h];exact(aD.refl _).le (by omega) (by omega)
 | true =>
  obtain⟨i,v,rfl,hv, -⟩:=iq h
  rw[iO h hv, ← iB]
  exact aD.je hv (by have:=AA v [];simpa using this)
theorem m8(l:Lib)(p:Int):(l.preempt p).2.aI=l.aI:=by unfold Lib.preempt;split <;> rfl
theorem fj.more{k:Nat}{l:Lib}(h:fj k l):fj (k+1) l:=h.of ((aD.refl _).le (by omega) (by omega)) (h.sp.more (by omega))
theorem fj.dq{k:Nat}{l:Lib}(h:fj k l)(p:Int):fj (k+1) (l.dq p).2:=h.of ((oP l p).le (by omega) (by omega)) (by rw[(gr l p).aI];exact h.sp.more (by omega))
theorem fj.preempt{k:Nat}{l:Lib}(h:fj k l)(p:Int):fj (k+1) (l.preempt p).2:=h.of ((l3 l p).le (by omega) (by omega)) (by rw[m8];exact h.sp.more (by omega))
theorem fj.new{s:Spc}(h:gE 1 s)(p:Int):fj 0 (Lib.new s p):=by
 have hc:0≤aN p 64∧aN p 64≤64:=by unfold aN;omega
 have h2:=gf s.aF 0
 rw[h.lt] at h2
 refine⟨h,?_,?_,?_,?_⟩
 ·show(List.replicate _ _).length≤_;rw[List.length_replicate];omega
 ·show(List.replicate _ _).length≤_;rw[List.length_replicate];omega
 ·show(aG s.ready).length+((List.replicate (aN p 64).toNat aH.z).map (fun v=>v.evs.length)).sum≤_
  have h3:(aG s.ready).length=(readyFrom s.aF 0).length:=by unfold aG;rw[List.length_map];rfl
  rw[h3,List.map_replicate,List.sum_replicate_nat]
  show _+(aN p 64).toNat * 0≤_
  omega
 ·intro r hr
  have:r=[]:=List.eq_of_mem_replicate hr
  subst this;exact Nat.zero_le _
theorem fj.Bq{k:Nat}{l:Lib}(h:fj k l)(hk:k≤180):∀ t c,(l.aI.run t c).1.av.length≤17:=fun t c=>ux h.sp (by omega) t c
/-! the law's own fact -/
def N6:List Ins:=[⟨1,1,0,0,5⟩]
def OD:gn:=⟨[N6],0,0,0,[],[],0,0⟩
def NG(x y:Nat):bc:=⟨zp y 1,[(zp x 1,N6)],0,0,0,.slice none 0 0,[],.slice none 0 0,[],0,0⟩
def PN(x y:Nat):aa:=seps [arr y 0 [zp x 1],arr x 0 (rows dM N6)]
def OE:Lib:=Lib.new (Spc.new OD) 2
def OF:Lib:=(OE.dq 1).2
def l16:Nat→Lib
 | 0=>(OF.dq 1).2
 | k+1=>((l16 k).step 1 0).2.2
def Pu:Nat→Nat
 | 0=>0
 | k+1=>Pu k+if ((l16 k).step 1 0).1.aJ=true then 1 else 0
end Go.SLYtpbjdoplfgeliaaGreat
namespace Go.SLYtpbjdoplfgeliaaGreat
open Go Go.RowKit
def Mo(l l':Lib):Prop:=∀ q:Nat,cW l'.vs (q:Int)≠0↔cW l.vs (q:Int)≠0
theorem Mo.refl(l:Lib):Mo l l:=fun _=>Iff.rfl
theorem Mo.trans{a b c:Lib}(h:Mo a b)(g:Mo b c):Mo a c:=fun q=>(g q).trans (h q)
theorem Mo.set{l l':Lib}{i:Nat}{v y:aH}(hv:l.vs[i]?=some v)(h0:v.mode≠0)(hy:y.mode≠0)(e:l'.vs=l.vs.set i y):Mo l l':=fun q=>by
 have hi:=(List.getElem?_eq_some_iff.1 hv).1
 rw[e,pV hi]
 by_cases h:q=i
 ·subst h;rw[if_pos rfl, ← lC hv];exact⟨fun _=>h0,fun _=>hy⟩
 ·rw[if_neg h]
theorem Mo.enter{l:Lib}{i:Nat}{v:aH}{m:Int}(hv:l.vs[i]?=some v)(h0:v.mode≠0)(hm:m≠0):Mo l (l.enter (i:Int) m):=by
 cases h:l.locked with
 | true=>rw[qa h];exact Mo.refl _
 | false=>exact Mo.set (y:={v with mode:=m }) hv h0 hm (by rw[nJ hv h])
theorem Mo.leave{l:Lib}{i:Nat}{v:aH}{m t:Int}(hv:l.vs[i]?=some v)(h0:v.mode≠0)(hm:m≠0):Mo l (l.leave (i:Int) m t):=Mo.set (y:={v with mode:=m,ab:=t }) hv h0 hm (by rw[iN hv])
theorem Mo.tell(l:Lib)(ys:List Ev):Mo l (l.tell ys):=fun q=>not_congr ((dB l ys).2 q)
theorem xj(l:Lib)(p c:Int):Mo l (l.step p c).2.2:=by
 cases hh:l.has p with
 | false=>rw[qe hh];exact Mo.refl _
 | true =>
  obtain⟨i,v,rfl,hv,h0⟩:=iq hh
  by_cases h1:v.mode=1
  ·rw[sQ hh hv h1]
   show Mo l (l.upcall (i:Int) c).2
   cases hw:(evWithin v.evs).isSome with
   | false=>rw[nK hv hw];exact Mo.enter hv h0 (by decide)
   | true =>
    rw[lV hv hw]
    have key:Mo l (l.rh i v (wR v.evs)):=Mo.set (y:={v with evs:=wR v.evs }) hv h0 h0 rfl
    by_cases hm:(wE v.evs).mode=7
    ·by_cases hg:(l.aI.run (wE v.evs).ab c).1.cq=true
     ·rw[lU hv hm hg];exact key
     ·rw[jg hv hm hg];exact key
    ·rw[lT hv hm];exact key
  by_cases h2:v.mode=2
  ·rw[sR hh hv h2]
   cases he:v.evs with
   | nil=>rw[lW hv he];exact Mo.leave hv h0 (by decide)
   | cons e r =>
    by_cases hr:dE e=true
    ·rw[nL hv he hr];exact Mo.set (y:={v with evs:=r }) hv h0 h0 rfl
    ·rw[lX hv he hr];exact Mo.set (y:={v with evs:=r }) hv h0 h0 rfl
  by_cases h3:v.mode=3
  ·rw[sS hh hv h3];exact Mo.enter hv h0 (by decide)
  by_cases h4:v.mode=4
  ·rw[sT hh hv h4]
   cases hp:(rPick l.rows (i:Int)).isSome with
   | false=>rw[(qc hp).1];exact Mo.leave hv h0 (by decide)
   | true=>rw[nM hp];exact Mo.leave (l:={l with rows:=mn l.rows (i:Int) }) hv h0 (by decide)
  by_cases h5:v.mode=5
  ·rw[sU hh hv h5]
   show Mo l (l.gR (i:Int) c).2
   by_cases hc:l.aI.class v.ab=2
   ·rw[lY hv hc];exact Mo.set (y:={v with mode:=6 }) hv h0 (by show(6:Int)≠0;decide) rfl
   ·by_cases hs:(l.aI.run v.ab c).1.aQ=true
    ·rw[nN hv hc hs]
     exact(Mo.set (y:=aH.new [⟨2,v.ab,0⟩]) hv h0 (by show(1:Int)≠0;decide) rfl).trans (Mo.tell _ _)
    ·by_cases he:(l.aI.run v.ab c).1.ended=true
     ·rw[qd hv hc hs he]
      exact(Mo.set (y:={v with mode:=3,ab := -1 }) hv h0 (by show(3:Int)≠0;decide) rfl).trans (Mo.tell _ _)
     ·rw[nO hv hc hs he]
      exact(show Mo l (l.aJ v.ab c).2 from fun _=>Iff.rfl).trans (Mo.tell _ _)
  by_cases h6:v.mode=6
  ·rw[sV hh hv h6];exact Mo.enter hv h0 (by decide)
  by_cases h7:v.mode=7
  ·rw[sW hh hv h7]
   show Mo l (l.inside (i:Int) c).2
   by_cases hg:(l.aI.run v.ab c).1.cq=true
   ·by_cases hy:(l.aI.run v.ab c).1.yielded=true
    ·rw[jh hv hg hy]
     exact Mo.leave (l:=((l.aJ v.ab c).2.fE (i:Int) (l.aI.run v.ab c).1.av).fE (i:Int) [v.ab]) hv h0 (by decide)
    ·rw[nP hv hg hy]
     exact Mo.leave (l:=(l.aJ v.ab c).2.fE (i:Int) (l.aI.run v.ab c).1.av) hv h0 (by decide)
   ·rw[lZ hv hg]
    exact Mo.leave (l:=(l.aJ v.ab c).2.fE (i:Int) (l.aI.run v.ab c).1.av) hv h0 (by decide)
  by_cases h8:v.mode=8
  ·cases he:im l.rows with
   | true=>rw[qf hh hv h8 he];exact Mo.refl _
   | false=>rw[qg hh hv h8 he];exact Mo.set (y:={v with mode:=3 }) hv h0 (by show(3:Int)≠0;decide) rfl
  ·rw[sX hh hv ⟨h1,h2,h3,h4,h5,h6,h7,h8⟩];exact Mo.refl _
theorem m9(l:Lib)(p:Int):aD 2 0 l (l.cI p).2:=by
 have h:=eR l p
 exact⟨h.len,congrArg _ h.rows,wW l p,fun m hm=>by rw[h.rows];exact hm⟩
theorem fj.cI{k:Nat}{l:Lib}(h:fj k l)(p:Int):fj (k+1) (l.cI p).2:=h.of ((m9 l p).le (by omega) (by omega)) (by rw[(eR l p).aI];exact h.sp.more (by omega))
def Krn.step(k:Krn)(p c:Int):(Int×gg×Int)×Krn :=
 match aL k.owner p with
 | none=>((0,gg.z,1),k)
 | some o=>if o = -1 then ((0,gg.z,11),k) else
  match aL k.libs o with
  | none=>((0,gg.z,11),k)
  | some l=>((o,(l.step p c).1,(l.step p c).2.1),⟨k.owner,k.libs.set o.toNat (l.step p c).2.2⟩)
theorem gF{k:Krn}{p c:Int}(h:¬dx k p=0):k.step p c=((0,gg.z,dx k p),k):=by
 unfold dx at h ⊢
 unfold Krn.step
 cases e:aL k.owner p with
 | none=>rfl
 | some o =>
  rw[e] at h
  simp only at h ⊢
  by_cases ho:o = -1
  ·rw[if_pos ho,if_pos ho]
  ·rw[if_neg ho] at h;exact absurd rfl h
theorem iP{k:Krn}{i n:Nat}{l:Lib}{c:Int}(ho:k.owner[i]?=some (n:Int))(hl:k.libs[n]?=some l):k.step (i:Int) c=(((n:Int),(l.step (i:Int) c).1,(l.step (i:Int) c).2.1),⟨k.owner,k.libs.set n (l.step (i:Int) c).2.2⟩):=by
 unfold Krn.step
 rw[aV,ho]
 simp only
 rw[if_neg (by omega),aV,hl]
 simp only[Int.toNat_natCast]
structure ff(n:Nat)(k:Krn):Prop where
 ag:gS k
 own:∀ v∈k.owner,v = -1∨(0≤v∧v<(k.libs.length:Int))
 ll:k.libs.length≤8
 gy:∀ l∈k.libs,fj n l
theorem ff.ok{n:Nat}{k:Krn}(h:ff n k):o0 (40 * (n+1)) k:=⟨h.own,h.ag.ol,h.ll,fun l hl=>⟨(h.gy l hl).ev,(h.gy l hl).vl,(h.gy l hl).sp.lt⟩⟩
structure sA(m:Nat)(k:Krn):Prop where
 ok:o0 m k
 gy:∀ l∈k.libs,HZ l∧ ∀ t c,(l.aI.run t c).1.av.length≤17
theorem ff.rn{n:Nat}{k:Krn}(h:ff n k)(hn:n≤180):sA (40 * (n+1)) k:=⟨h.ok,fun l hl=>⟨(h.gy l hl).sz hn,fun t=>(h.gy l hl).Bq hn t⟩⟩
theorem ff.more{n:Nat}{k:Krn}(h:ff n k):ff (n+1) k:=⟨h.ag,h.own,h.ll,fun l hl=>(h.gy l hl).more⟩
theorem ff.put{n:Nat}{k:Krn}(h:ff n k){i j:Nat}{o:Int}{l':Lib}(ho:o = -1∨(0≤o∧o<(k.libs.length:Int)))(ha:gS ⟨k.owner.set i o,k.libs.set j l'⟩)(hl:fj (n+1) l'):ff (n+1) ⟨k.owner.set i o,k.libs.set j l'⟩:=by
 refine⟨ha,fun v hv=>?_,by show(k.libs.set j l').length≤8;rw[List.length_set];exact h.ll,fun x hx=>?_⟩
 ·show v = -1∨(0≤v∧v<((k.libs.set j l').length:Int))
  rw[List.length_set]
  rcases List.mem_or_eq_of_mem_set hv with e | e
  ·exact h.own v e
  ·subst e;exact ho
 ·rcases List.mem_or_eq_of_mem_set hx with e | e
  ·exact(h.gy x e).more
  ·subst e;exact hl
theorem ff.dV{n:Nat}{k:Krn}(h:ff n k){i j:Nat}{l:Lib}(ho:k.owner[i]?=some (-1))(hl:k.libs[j]?=some l):ff (n+1) (k.dV (i:Int) (j:Int)).2:=by
 rw[kK ho hl]
 have:=(List.getElem?_eq_some_iff.1 hl).1
 exact h.put (.inr ⟨by omega,by omega⟩) (h.ag.dV ho hl) ((h.gy l (List.mem_of_getElem? hl)).dq _)
theorem ff.take{n:Nat}{k:Krn}(h:ff n k)(p:Int):ff (n+1) (k.take p).2:=by
 by_cases e:dx k p=0
 ·obtain⟨i,j,l,rfl,ho,hl,e⟩:=dz h.ok e
  rw[e]
  exact h.put (.inl rfl) (h.ag.take ho hl) ((h.gy l (List.mem_of_getElem? hl)).cI _)
 ·rw[jE e];exact h.more
theorem gS.step{k:Krn}(h:gS k){j:Nat}{l l':Lib}(hl:k.libs[j]?=some l)(hm:Mo l l')(he:l'.vs.length=l.vs.length):gS ⟨k.owner,k.libs.set j l'⟩:=by
 refine⟨fun x hx=>?_,h.ol,fun q x hx p=>?_⟩
 ·rcases List.mem_or_eq_of_mem_set hx with e | e
  ·exact h.len x e
  ·subst e;rw[he];exact h.len l (List.mem_of_getElem? hl)
 ·have hx':(k.libs.set j l')[q]?=some x:=hx
  by_cases e:j=q
  ·subst e
   rw[List.getElem?_set_self (List.getElem?_eq_some_iff.1 hl).1] at hx'
   obtain rfl:=Option.some.inj hx'
   rw[hm p];exact h.iff j l hl p
  ·rw[List.getElem?_set_ne e] at hx'
   exact h.iff q x hx' p
theorem ff.step{n:Nat}{k:Krn}(h:ff n k)(hn:n≤180)(p c:Int):ff (n+1) (k.step p c).2:=by
 by_cases e:dx k p=0
 ·obtain⟨i,j,l,rfl,ho,hl, -⟩:=dz h.ok e
  rw[iP ho hl]
  have hli:=h.gy l (List.mem_of_getElem? hl)
  have ha:=h.ag.step hl (xj l (i:Int) c) (ri (hli.Bq hn) (i:Int) c).vs
  refine⟨ha,fun v hv=>?_,by show(k.libs.set j _).length≤8;rw[List.length_set];exact h.ll,fun x hx=>?_⟩
  ·show v = -1∨(0≤v∧v<((k.libs.set j _).length:Int));rw[List.length_set];exact h.own v hv
  ·rcases List.mem_or_eq_of_mem_set hx with e | e
   ·exact(h.gy x e).more
   ·subst e;exact hli.step hn _ _
 ·rw[gF e];exact h.more
end Go.SLYtpbjdoplfgeliaaGreat
namespace Go.SLYtpbjdoplfgeliaaGreat
open Go Go.RowKit
section
variable{P:Program}{W:World}{N:Nat}{L:List (Nat×Option Value)}{H:List aa}
theorem bA.H7{fn:Func}{R:Ending→World→Prop}{E:TypeId}{t t2 t3 b o:Nat}{cs:List Value}{v2 v3:Value}(hr:fn.results = #[.tmp t2,.cell t E,.tmp t3])(ht:look L t=some (.pointer (some ⟨b,o,none⟩)))(hg:∀ w,(isAgg E).run P w = .ok true w)(hz:∀ w,(sizeOf E).run P w = .ok cs.length w)(hc:Cells W H b o cs)(h2:look L t2=some v2)(h3:look L t3=some v3)
  (h:∀ w,Sat W w (seps H)→R (.returned (.tuple #[v2,.agg cs.toArray,v3])) w):bA W N (bodyPost P fn R) .ret L H :=
 bA.Ef (fun a w ha hs=>by
  have hl:=gv (P:=P) (w:=w) hg hz fun i v hv=>hc i v hv w hs
  simp[results,hr,ha.get _ _ ht,asAddr,hl,ha.get _ _ h2,ha.get _ _ h3]) h
end
theorem H8(k:Krn):k.free.length=k.owner.count (-1):=by unfold Krn.free;rw[m3,gT]
theorem yV{n:Int}:∀ {o:List Int} {k:Nat} {p:Int},p∈posFrom n o k→ ∃ i:Nat,p=((k+i:Nat):Int)∧o[i]?=some n
 | [],_,_,h=>by cases h
 | x::o,k,p,h=>by
  unfold posFrom at h
  split at h
  ·rename_i e
   rcases List.mem_cons.1 h with rfl | h
   ·exact⟨0,rfl,by rw[e];rfl⟩
   ·obtain⟨i,h1,h2⟩:=yV h
    exact⟨i+1,by rw[h1];omega,by simpa using h2⟩
  ·obtain⟨i,h1,h2⟩:=yV h
   exact⟨i+1,by rw[h1];omega,by simpa using h2⟩
end Go.SLYtpbjdoplfgeliaaGreat
namespace Go.SLYtpbjdoplfgeliaaGreat
open Go Go.RowKit
theorem ff.new{procs:Int}{l:List gn}(h:dF procs l=0)(hw:∀ p∈l, ∀ f∈p.funcs, ∀ i∈f,fK i.n):ff 0 (Krn.new procs l):=by
 have hi:=(gU h).1
 have hc:∀ p∈l,dD p=0:=by
  unfold dF at h
  split at h
  ·cases h
  ·exact kB h
 refine⟨hi.ag,hi.ok.own,hi.ok.ll,fun x hx=>?_⟩
 obtain⟨p,hp,rfl⟩:=List.mem_map.1 hx
 exact fj.new (gE.new ⟨hc p hp,hw p hp⟩) procs
/-! law 17's own fact -/
def OG:Krn:=Krn.new 3 [OD,OD]
def OH:Krn:=(OG.dV 1 1).2
def Pv:Krn:=(OH.take 1).2
def PO(x y z:Nat):aa:=seps [arr z 0 (rows eT [NG x y,NG x y]),arr y 0 [zp x 1],arr x 0 (rows dM N6)]
end Go.SLYtpbjdoplfgeliaaGreat
namespace Go.SLYtpbjdoplfgeliaaGreat
open Go Go.RowKit
theorem ff.NH{n:Nat}{k:Krn}(h:ff n k)(p q:Int):ff (n+1) (k.dV p q).2:=by
 cases e1:aL k.owner p with
 | none=>unfold Krn.dV;rw[e1];exact h.more
 | some o =>
  cases e2:aL k.libs q with
  | none=>unfold Krn.dV;rw[e1,e2];exact h.more
  | some l =>
   by_cases ho:o = -1
   ·obtain⟨p0, -,hp⟩:=ck e1
    obtain⟨q0, -,hq⟩:=ck e2
    subst ho
    have:=h.dV hp hq
    rwa [show((p.toNat:Nat):Int)=p from by omega,show((q.toNat:Nat):Int)=q from by omega] at this
   ·unfold Krn.dV;rw[e1,e2];simp only;rw[if_neg ho];exact h.more
theorem AO{o:List Int}(h:o.length≤64):∀ n,cntTo o n≤n * 64
 | 0=>by unfold cntTo;omega
 | n+1=>by
  show cntTo o n+o.count (n:Int)≤_
  have h1:=AO h n
  have h2:o.count (n:Int)≤64:=Nat.le_trans List.count_le_length h
  omega
theorem ff.H9{n i:Nat}{k:Krn}(h:ff n k)(hi:i≤k.libs.length):k.free.length+cntTo k.owner i≤1000:=by
 have h1:=AO h.ag.ol i
 have h2:k.free.length≤64:=by rw[H8];exact Nat.le_trans List.count_le_length h.ag.ol
 have:=h.ll
 omega
end Go.SLYtpbjdoplfgeliaaGreat
namespace Go.SLYtpbjdoplfgeliaaGreat
open Go Go.RowKit
theorem Fe(k:Krn)(p c:Int):(k.step p c).2.owner=k.owner:=by
 unfold Krn.step
 split
 ·rfl
 ·split
  ·rfl
  ·split <;> rfl
theorem rj(k:Krn)(p c:Int):(k.step p c).2.libs.length=k.libs.length:=by
 unfold Krn.step
 split
 ·rfl
 ·split
  ·rfl
  ·split
   ·rfl
   ·exact List.length_set ..
def Ia(n p:Nat)(s:Int):List Int:=(List.replicate n (-1)).set p s
theorem Ko{n p:Nat}{s:Int}(h:p<n):(Ia n p s)[p]?=some s:=by
 unfold Ia;rw[List.getElem?_set_self (by rw[List.length_replicate];exact h)]
theorem Ff{n p:Nat}{s:Int}(h:p<n):(Ia n p s).set p (-1)=List.replicate n (-1):=by
 unfold Ia
 rw[List.set_set]
 refine List.ext_getElem? fun j=>?_
 by_cases e:p=j
 ·subst e;rw[List.getElem?_set_self (by rw[List.length_replicate];exact h),List.getElem?_replicate,if_pos h]
 ·rw[List.getElem?_set_ne e]
structure Ib(n p s m j:Nat)(k:Krn):Prop where
 inv:ff j k
 own:k.owner=Ia n p (s:Int)
 len:k.libs.length=m
theorem Ib.step{n p s m j:Nat}{k:Krn}(h:Ib n p s m j k)(hj:j≤180)(q c:Int):Ib n p s m (j+1) (k.step q c).2:=⟨h.inv.step hj q c,(Fe k q c).trans h.own,(rj k q c).trans h.len⟩
theorem Ib.take{n p s m j:Nat}{k:Krn}(h:Ib n p s m j k)(hp:p<n)(_hs:s<m):∃ k2:Krn,k.take (p:Int)=(0,k2)∧ff (j+1) k2∧k2.owner=List.replicate n (-1)∧k2.libs.length=m∧k2.demand=k.demand:=by
 have hop:k.owner[p]?=some (s:Int):=by rw[h.own];exact Ko hp
 obtain⟨i,q,l,e,ho,hl,ht⟩:=dz h.inv.ok (jD (bl:=[]) hop).1
 obtain rfl:p=i:=by omega
 have hi:=h.inv.take (p:Int)
 rw[ht] at hi
 refine⟨_,ht,hi,?_,?_,?_⟩
 ·show k.owner.set p (-1)=_
  rw[h.own];exact Ff hp
 ·show(k.libs.set q _).length=m
  rw[List.length_set];exact h.len
 ·exact uB hl (congrArg (fun z:Spc=>(z.ready.length:Int)) (eR l (p:Int)).aI)
end Go.SLYtpbjdoplfgeliaaGreat
namespace Go.SLYtpbjdoplfgeliaaGreat
open Go Go.RowKit
def na(v:aH):Nat:=(if v.holds=true then 1 else 0)+v.evs.countP jf
def sumV:List aH→Nat
 | []=>0
 | v::l=>na v+sumV l
def Js(l:Lib):Nat:=sumV l.vs+l.waiting.countP jf
def Kq(b:Bool):Nat:=if b=true then 1 else 0
structure Lk(l:Lib):Prop where
 n:Js l=Kq l.locked
 e:∀ v∈l.vs,v.mode=1∨v.mode=2∨v.evs=[]
theorem nf{vs:List aH}{i:Nat}{v:aH}(h:vs[i]?=some v)(x:aH):sumV (vs.set i x)+na v=sumV vs+na x:=by
 induction vs generalizing i with
 | nil=>simp at h
 | cons y vs ih =>
  cases i with
  | zero =>
   obtain rfl:y=v:=by simpa using h
   simp only[List.set_cons_zero,sumV];omega
  | succ i =>
   have:=ih (i:=i) (by simpa using h)
   simp only[List.set_cons_succ,sumV];omega
theorem Kr(l:List Ev):(cV l).countP jf=l.countP jf:=by
 induction l with
 | nil=>rfl
 | cons e l ih =>
  unfold cV at ih ⊢
  by_cases h:0<e.mode
  ·rw[List.filter_cons_of_pos (by simp[h]),List.countP_cons,List.countP_cons,ih]
  ·have h2:jf e=false:=by unfold jf;exact decide_eq_false h
   rw[List.countP_cons,h2]
   by_cases h3:dE e=true
   ·rw[List.filter_cons_of_pos (by simp[h3]),List.countP_cons,h2,ih]
   ·rw[List.filter_cons_of_neg (by simp[h3,h]),ih];simp
theorem Fg{v:aH}(h:v.holds=true):0<v.mode:=by
 unfold aH.holds at h
 simp only[Bool.or_eq_true,decide_eq_true_eq] at h
 omega
theorem AP(v:aH):v.strip.countP jf=na v:=by
 unfold aH.strip na
 rw[List.countP_append,Kr]
 by_cases h:v.holds=true
 ·rw[if_pos h,if_pos h]
  have:∀ t,jf ⟨4,t,v.mode⟩=true:=fun t=>decide_eq_true (Fg h)
  simp[this]
 ·rw[if_neg h,if_neg h]
  split <;> simp[jf]
theorem Cn(l:List Ev):na (aH.new l)=l.countP jf:=by
 show(if _ then 1 else 0)+l.countP jf=_
 rw[if_neg (by show ¬aH.holds _=true;unfold aH.holds aH.new;simp)];omega
theorem yW(v:aH)(l:List Ev):na (v.told l)=na v+l.countP jf:=by
 unfold aH.told
 rw[Cn,List.countP_append,AP]
theorem NI:na aH.z=0:=rfl
theorem fR(l:List Int):(aG l).countP jf=0:=by
 rw[List.countP_eq_zero]
 intro e he
 obtain⟨n, -,rfl⟩:=List.mem_map.1 he
 simp[jf]
theorem Lk.set{l:Lib}(h:Lk l){i:Nat}{v x:aH}{b:Bool}{rows:List (List Int)}{s:Spc}(hv:l.vs[i]?=some v)(hn:na x+Kq l.locked=na v+Kq b)(he:x.mode=1∨x.mode=2∨x.evs=[]):Lk ⟨s,rows,l.vs.set i x,l.waiting,b⟩:=by
 refine⟨?_,fun y hy=>?_⟩
 ·have h1:=nf hv x
  have h2:=h.n
  unfold Js at h2 ⊢
  simp only at h2 ⊢
  omega
 ·rcases List.mem_or_eq_of_mem_set hy with hy | rfl
  ·exact h.e y hy
  ·exact he
theorem Lk.same{l:Lib}(h:Lk l){rows:List (List Int)}{s:Spc}:Lk ⟨s,rows,l.vs,l.waiting,l.locked⟩:=⟨h.n,h.e⟩
theorem H9{vs:List aH}{i:Nat}{v:aH}(h:vs[i]?=some v):na v≤sumV vs:=by
 have:=nf h aH.z
 rw[NI] at this
 omega
theorem Lk.one{l:Lib}(h:Lk l){i:Nat}{v:aH}(hv:l.vs[i]?=some v)(h1:1≤na v):l.locked=true∧na v=1:=by
 have h2:=h.n
 have h3:=H9 hv
 unfold Js at h2
 cases hl:l.locked with
 | true=>rw[hl] at h2;exact⟨rfl,by unfold Kq at h2;rw[if_pos rfl] at h2;omega⟩
 | false=>rw[hl] at h2;unfold Kq at h2;rw[if_neg (by decide)] at h2;omega
theorem Lk.tell{l:Lib}(h:Lk l){ys:List Ev}(hy:ys.countP jf=0):Lk (l.tell ys):=by
 by_cases h0:ys=[]
 ·subst h0;rw[jC];exact h
 ·cases hp:l.procs with
  | nil =>
   rw[jm h0 hp]
   exact⟨by have:=h.n;unfold Js at this ⊢;simp only[List.countP_append];omega,h.e⟩
  | cons p r =>
   obtain⟨i,v,rfl,hv, -⟩:=ig hp
   rw[jo h0 hp hv]
   exact h.set hv (by rw[yW];omega) (.inl rfl)
theorem Lk.xk{l:Lib}{ys:List Ev}(hn:Js l+ys.countP jf=Kq l.locked)(he:∀ v∈l.vs,v.mode=1∨v.mode=2∨v.evs=[]):Lk (l.tell ys):=by
 by_cases h0:ys=[]
 ·subst h0;rw[jC];exact⟨hn,he⟩
 ·cases hp:l.procs with
  | nil =>
   rw[jm h0 hp]
   exact⟨by unfold Js at hn ⊢;simp only[List.countP_append];omega,he⟩
  | cons p r =>
   obtain⟨i,v,rfl,hv, -⟩:=ig hp
   rw[jo h0 hp hv]
   refine⟨?_,fun y hy=>?_⟩
   ·have h1:=nf hv (v.told ys)
    rw[yW] at h1
    unfold Js at hn ⊢
    simp only at hn ⊢
    omega
   ·rcases List.mem_or_eq_of_mem_set hy with hy | rfl
    ·exact he y hy
    ·exact .inl rfl
theorem Lk.dq{l:Lib}(h:Lk l)(p:Int):Lk (l.dq p).2:=by
 unfold Lib.dq
 cases e:aL l.vs p with
 | none=>exact h
 | some v =>
  simp only
  by_cases hm:v.mode=0
  ·rw[if_pos hm]
   obtain⟨h0, -,hv⟩:=ck e
   have hh:na v=0:=by
    unfold na
    rw[if_neg (by unfold aH.holds;rw[hm];simp)]
    rcases h.e v (List.mem_of_getElem? hv) with g | g | g
    ·omega
    ·omega
    ·rw[g];rfl
   refine⟨?_,fun y hy=>?_⟩
   ·have h1:=nf hv (aH.new (⟨1, -1,0⟩::l.waiting))
    have h2:=h.n
    rw[Cn,List.countP_cons] at h1
    unfold Js at h2 ⊢
    simp only[List.countP_nil] at h1 h2 ⊢
    have:jf ⟨1, -1,0⟩=false:=rfl
    rw[this] at h1
    simp only[Bool.false_eq_true,if_false] at h1
    omega
   ·rcases List.mem_or_eq_of_mem_set hy with hy | rfl
    ·exact h.e y hy
    ·exact .inl rfl
  ·rw[if_neg hm];exact h
theorem Lk.cI{l:Lib}(h:Lk l)(p:Int):Lk (l.cI p).2:=by
 cases hh:l.has p with
 | false=>rw[jq hh];exact h
 | true =>
  obtain⟨i,v,rfl,hv, -⟩:=iq hh
  rw[ij hh hv]
  refine Lk.xk ?_ fun y hy=>?_
  ·have h1:=nf hv aH.z
   have h2:=h.n
   rw[NI] at h1
   rw[AP]
   unfold Js at h2 ⊢
   simp only at h2 ⊢
   omega
  ·rcases List.mem_or_eq_of_mem_set hy with hy | rfl
   ·exact h.e y hy
   ·exact .inr (.inr rfl)
theorem Lk.preempt{l:Lib}(h:Lk l)(p:Int):Lk (l.preempt p).2:=by
 cases hh:l.has p with
 | false=>rw[jO hh];exact h
 | true =>
  obtain⟨i,v,rfl,hv, -⟩:=iq hh
  rw[iO hh hv]
  exact h.set hv (by rw[yW];rfl) (.inl rfl)
theorem Lk.enter{l:Lib}(h:Lk l){i:Nat}{v:aH}{m:Int}(hv:l.vs[i]?=some v)(hh:v.holds=false)(hm:m=2∨m=4∨m=7)(he:m=2∨v.evs=[]):Lk (l.enter (i:Int) m):=by
 cases hl:l.locked with
 | true=>rw[qa hl];exact h
 | false =>
  rw[nJ hv hl]
  refine h.set hv ?_ (he.elim (fun e=>.inr (.inl e)) fun e=>.inr (.inr e))
  unfold na
  rw[hl,hh]
  have:aH.holds {v with mode:=m }=true:=by unfold aH.holds;rcases hm with rfl | rfl | rfl <;> rfl
  rw[this]
  simp[Kq];omega
theorem Lk.leave{l:Lib}(h:Lk l){i:Nat}{v:aH}{m t:Int}(hv:l.vs[i]?=some v)(hh:v.holds=true)(hm:m=3∨m=5∨m=8)(he:v.evs=[]):Lk (l.leave (i:Int) m t):=by
 rw[iN hv]
 have h1:1≤na v:=by unfold na;rw[if_pos hh];omega
 obtain⟨hl,h2⟩:=h.one hv h1
 refine h.set hv ?_ (.inr (.inr he))
 rw[h2,hl]
 unfold na
 have:aH.holds {v with mode:=m,ab:=t }=false:=by unfold aH.holds;rcases hm with rfl | rfl | rfl <;> rfl
 rw[this,he]
 simp[Kq]
theorem Lk.run{l:Lib}(h:Lk l){i:Nat}{v:aH}(hv:l.vs[i]?=some v)(h1:¬v.mode=1)(h2:¬v.mode=2):v.evs=[]:=by
 rcases h.e v (List.mem_of_getElem? hv) with g | g | g
 ·exact absurd g h1
 ·exact absurd g h2
 ·exact g
theorem DS{α:Type}{p:α→Bool}:∀ (l:List α) (k:Nat),idxP p l k = -1∨(k:Int)≤idxP p l k
 | [],k=>.inl rfl
 | y::l,k=>by
  unfold idxP
  by_cases hp:p y=true
  ·rw[if_pos hp];exact .inr (Int.le_refl _)
  ·rw[if_neg hp]
   rcases DS (p:=p) l (k+1) with g | g
   ·exact .inl g
   ·exact .inr (by omega)
theorem uL{α:Type}{p:α→Bool}:∀ {l:List α} {k i:Nat} {x:α},idxP p l k=((k+i:Nat):Int)→l[i]?=some x→p x=true
 | [],k,i,x,h,hx=>by simp at hx
 | y::l,k,i,x,h,hx=>by
  unfold idxP at h
  by_cases hp:p y=true
  ·rw[if_pos hp] at h
   obtain rfl:i=0:=by omega
   obtain rfl:y=x:=by simpa using hx
   exact hp
  ·rw[if_neg hp] at h
   cases i with
   | zero =>
    have:=DS (p:=p) l (k+1)
    rcases this with g | g <;> omega
   | succ i=>exact uL (l:=l) (k:=k+1) (i:=i) (by rw[h];omega) (by simpa using hx)
theorem Fh{l:List Ev}{x:Ev}{r:List Ev}(h:evWithin l=some (x,r)):l.countP jf=r.countP jf+1:=by
 unfold evWithin at h
 split at h
 ·cases h
 ·split at h
  ·cases h
  ·rename_i h0 y e2
   cases h
   have hi:=(List.getElem?_eq_some_iff.1 e2).1
   have hx:jf x=true:=uL (l:=l) (k:=0) (i:=(idxP jf l 0).toNat) (by omega) e2
   have e:l.take (idxP jf l 0).toNat++x::l.drop ((idxP jf l 0).toNat+1)=l:=by rw[← drop_cons e2,List.take_append_drop]
   have h1:=congrArg (List.countP jf) e
   rw[List.countP_append,List.countP_cons,hx] at h1
   rw[List.countP_append]
   simp only[if_true] at h1
   omega
theorem Lk.step{l:Lib}(h:Lk l)(p c:Int):Lk (l.step p c).2.2:=by
 cases hh:l.has p with
 | false=>rw[qe hh];exact h
 | true =>
  obtain⟨i,v,rfl,hv,h0⟩:=iq hh
  by_cases h1:v.mode=1
  ·have hn:v.holds=false:=by unfold aH.holds;rw[h1];rfl
   rw[sQ hh hv h1]
   show Lk (l.upcall (i:Int) c).2
   cases hw:(evWithin v.evs).isSome with
   | false=>rw[nK hv hw];exact h.enter hv hn (.inl rfl) (.inl rfl)
   | true =>
    rw[lV hv hw]
    have hc:v.evs.countP jf=(wR v.evs).countP jf+1:=by
     unfold wR
     cases e:evWithin v.evs with
     | none=>rw[e] at hw;cases hw
     | some x=>exact Fh (x:=x.1) (r:=x.2) e
    have hi:na v=v.evs.countP jf:=by unfold na;rw[hn];simp
    obtain⟨hl,h2⟩:=h.one hv (by omega)
    have key:Lk (l.rh i v (wR v.evs)):=h.set (b:=false) (x:={v with evs:=wR v.evs }) hv (by
     have:na {v with evs:=wR v.evs }=(wR v.evs).countP jf:=by
      show(if v.holds=true then 1 else 0)+_=_
      rw[hn];simp
     rw[this,hl]
     unfold Kq
     simp;omega) (.inl h1)
    by_cases hm:(wE v.evs).mode=7
    ·by_cases hg:(l.aI.run (wE v.evs).ab c).1.cq=true
     ·rw[lU hv hm hg];exact key.same
     ·rw[jg hv hm hg];exact key.same
    ·rw[lT hv hm];exact key
  by_cases h2:v.mode=2
  ·have hn:v.holds=true:=by unfold aH.holds;rw[h2];rfl
   rw[sR hh hv h2]
   cases he:v.evs with
   | nil=>rw[lW hv he];exact h.leave hv hn (.inl rfl) he
   | cons e r =>
    have hi:na v=1+v.evs.countP jf:=by unfold na;rw[hn];simp
    obtain⟨hl,h3⟩:=h.one hv (by omega)
    have hx:na {v with evs:=r }=na v:=by
     have:na {v with evs:=r }=1+r.countP jf:=by
      show(if v.holds=true then 1 else 0)+_=_
      rw[hn];simp
     rw[he,List.countP_cons] at hi
     omega
    by_cases hr:dE e=true
    ·rw[nL hv he hr];exact h.set (x:={v with evs:=r }) hv (by rw[hx]) (.inr (.inl h2))
    ·rw[lX hv he hr];exact h.set (x:={v with evs:=r }) hv (by rw[hx]) (.inr (.inl h2))
  have hev:=h.run hv h1 h2
  by_cases h3:v.mode=3
  ·rw[sS hh hv h3];exact h.enter hv (by unfold aH.holds;rw[h3];rfl) (.inr (.inl rfl)) (.inr hev)
  by_cases h4:v.mode=4
  ·have hn:v.holds=true:=by unfold aH.holds;rw[h4];rfl
   rw[sT hh hv h4]
   cases hp:(rPick l.rows (i:Int)).isSome with
   | false=>rw[(qc hp).1];exact h.leave hv hn (.inr (.inr rfl)) hev
   | true=>rw[nM hp];exact(h.same (rows:=mn l.rows (i:Int)) (s:=l.aI)).leave hv hn (.inr (.inl rfl)) hev
  by_cases h5:v.mode=5
  ·have hn:v.holds=false:=by unfold aH.holds;rw[h5];rfl
   have hi:na v=0:=by unfold na;rw[hn,hev];rfl
   rw[sU hh hv h5]
   show Lk (l.gR (i:Int) c).2
   by_cases hc:l.aI.class v.ab=2
   ·rw[lY hv hc];exact h.set (x:={v with mode:=6 }) hv (by rw[hi];unfold na;rw[hev];rfl) (.inr (.inr hev))
   ·by_cases hs:(l.aI.run v.ab c).1.aQ=true
    ·rw[nN hv hc hs]
     exact Lk.tell (h.set (x:=aH.new [⟨2,v.ab,0⟩]) hv (by rw[hi,Cn];rfl) (.inl rfl)) (fR _)
    ·by_cases he:(l.aI.run v.ab c).1.ended=true
     ·rw[qd hv hc hs he]
      exact Lk.tell (h.set (x:={v with mode:=3,ab := -1 }) hv (by rw[hi];unfold na;rw[hev];rfl) (.inr (.inr hev))) (fR _)
     ·rw[nO hv hc hs he]
      exact Lk.tell h.same (fR _)
  by_cases h6:v.mode=6
  ·rw[sV hh hv h6];exact h.enter hv (by unfold aH.holds;rw[h6];rfl) (.inr (.inr rfl)) (.inr hev)
  by_cases h7:v.mode=7
  ·have hn:v.holds=true:=by unfold aH.holds;rw[h7];rfl
   rw[sW hh hv h7]
   show Lk (l.inside (i:Int) c).2
   by_cases hg:(l.aI.run v.ab c).1.cq=true
   ·by_cases hy:(l.aI.run v.ab c).1.yielded=true
    ·rw[jh hv hg hy]
     exact Lk.leave (l:=((l.aJ v.ab c).2.fE (i:Int) (l.aI.run v.ab c).1.av).fE (i:Int) [v.ab]) h.same hv hn (.inl rfl) hev
    ·rw[nP hv hg hy]
     exact Lk.leave (l:=(l.aJ v.ab c).2.fE (i:Int) (l.aI.run v.ab c).1.av) h.same hv hn (.inr (.inl rfl)) hev
   ·rw[lZ hv hg]
    exact Lk.leave (l:=(l.aJ v.ab c).2.fE (i:Int) (l.aI.run v.ab c).1.av) h.same hv hn (.inl rfl) hev
  by_cases h8:v.mode=8
  ·cases he:im l.rows with
   | true=>rw[qf hh hv h8 he];exact h
   | false=>rw[qg hh hv h8 he];exact h.set (x:={v with mode:=3 }) hv (by unfold na aH.holds;rw[hev,h8];rfl) (.inr (.inr hev))
  ·rw[sX hh hv ⟨h1,h2,h3,h4,h5,h6,h7,h8⟩];exact h
theorem Lk.new(s:Spc)(p:Int):Lk (Lib.new s p):=by
 have:∀ n,sumV (List.replicate n aH.z)=0:=fun n=>by
  induction n with
  | zero=>rfl
  | succ n ih=>rw[List.replicate_succ,sumV,ih];rfl
 exact⟨by unfold Js;show sumV (List.replicate _ aH.z)+(aG s.ready).countP jf=_;rw[this,fR];rfl,fun v hv=>.inr (.inr (by rw[(List.mem_replicate.1 hv).2];rfl))⟩
end Go.SLYtpbjdoplfgeliaaGreat
namespace Go.SLYtpbjdoplfgeliaaGreat
open Go Go.RowKit
def Ks(l:Lib):Nat→List Ev
 | 0=>l.waiting
 | n+1=>Ks l n++(eN l (n:Int)).evs
def Mx(l:Lib):Nat→Nat
 | 0=>0
 | n+1=>Mx l n+(if (eN l (n:Int)).holds=true then 1 else 0)
theorem Ic{k:Nat}{s:Spc}(h:gE k s):s.aT.due.length≤16:=by
 have hbal:∀ w,nV s w=dW s w:=fun w=>by have:=h.1.su w;simpa using this
 have bL:∀ w,cL s.aT w≤dW s w:=fun w=>by have:=hbal w;unfold nV at this;omega
 have h1:s.aT.ia.length≤16:=pU (f:=fun r:Int×Int=>r.1) h.1.lt bL
 have:=pR s.aT
 omega
def Lib.cF(l:Lib):Lib:=({l with aI:=l.aI.tick.2 }:Lib).tell (aG l.aI.aT.due)
theorem gh(l:List Int):(aG l).length=l.length:=List.length_map ..
theorem AQ{k:Nat}{l:Lib}(h:fj k l):aD 17 0 l l.cF:=by
 have h0:aD 0 0 l ({l with aI:=l.aI.tick.2 }:Lib):=⟨rfl,rfl,Nat.le_refl _,fun _ h=>h⟩
 have h1:=Ic h.sp
 have h2:=gh l.aI.aT.due
 exact(h0.trans (aD.tell _ _)).le (by omega) (by omega)
theorem fj.cF{k:Nat}{l:Lib}(h:fj k l):fj (k+1) l.cF :=
 h.of ((AQ h).le (by omega) (by omega)) (by
  show gE (k+2) (Lib.tell _ _).aI
  rw[(dB _ _).1.aI]
  exact h.sp.tick)
theorem Lk.cF{l:Lib}(h:Lk l):Lk l.cF:=Lk.tell h.same (fR _)
end Go.SLYtpbjdoplfgeliaaGreat
namespace Go.SLYtpbjdoplfgeliaaGreat
open Go Go.RowKit
theorem Ie{Q:Lib→Prop}(hg:∀ l p,Q l→Q (l.dq p).2){k:Krn}(p n:Int)(h:∀ l∈k.libs,Q l):∀ l∈(k.dV p n).2.libs,Q l:=fun x hx=>by
 rcases uC k p n with e | ⟨i,j,l,rfl,rfl,ho,hl,e⟩
 ·rw[e] at hx;exact h x hx
 ·rw[e] at hx
  rcases List.mem_or_eq_of_mem_set hx with hx | rfl
  ·exact h x hx
  ·exact hg _ _ (h l (List.mem_of_getElem? hl))
theorem Ig{Q:Lib→Prop}(hr:∀ l p,Q l→Q (l.cI p).2){k:Krn}(p:Int)(h:∀ l∈k.libs,Q l):∀ l∈(k.take p).2.libs,Q l:=fun x hx=>by
 unfold Krn.take at hx
 split at hx
 ·exact h x hx
 ·split at hx
  ·exact h x hx
  ·rename_i o _ _
   have hx':x∈k.libs.set o.toNat ((k.libs.getD o.toNat BH).cI p).2:=hx
   by_cases hi:o.toNat<k.libs.length
   ·obtain⟨l,hl⟩:=ai hi
    rw[aP hl] at hx'
    rcases List.mem_or_eq_of_mem_set hx' with hx' | rfl
    ·exact h x hx'
    ·exact hr _ _ (h l (List.mem_of_getElem? hl))
   ·rw[List.set_eq_of_length_le (by omega)] at hx'
    exact h x hx'
section
variable{Q:Lib→Prop}(hg:∀ l p,Q l→Q (l.dq p).2)(hr:∀ l p,Q l→Q (l.cI p).2)
include hr in
theorem rW:∀ (ps:List Int) {k:Krn},(∀ l∈k.libs,Q l)→ ∀ l∈(eG ps k).libs,Q l
 | [],_,h=>h
 | p::ps,_k,h=>rW ps (Ig hr p h)
include hg in
theorem uM(n:Int):∀ (c:Nat) {k:Krn},(∀ l∈k.libs,Q l)→ ∀ l∈(giveTo c n k).libs,Q l
 | 0,_,h=>h
 | c+1,_k,h=>uM n c (Ie hg _ _ h)
include hr in
theorem qh:∀ (l:List Int) (n mv:Nat) {k:Krn},(∀ x∈k.libs,Q x)→ ∀ x∈(takeFrom l n (k,mv)).1.libs,Q x
 | [],_,_,_,h=>h
 | w::l,n,mv,k,h=>by
  rw[takeFrom]
  exact qh l (n+1) _ (rW hr _ h)
include hg in
theorem qi:∀ (l:List Int) (n mv:Nat) {k:Krn},(∀ x∈k.libs,Q x)→ ∀ x∈(cO l n (k,mv)).1.libs,Q x
 | [],_,_,_,h=>h
 | w::l,n,mv,k,h=>by
  rw[cO]
  exact qi l (n+1) _ (uM hg _ _ h)
include hg hr in
theorem nQ{k:Krn}(prio:List Int)(turn:Int)(h:∀ x∈k.libs,Q x):∀ x∈(k.share prio turn).1.libs,Q x:=by
 unfold Krn.share
 rw[sP (takeFrom (k.targets prio turn) 0 (k,0))]
 exact qi hg _ 0 _ (qh hr _ 0 0 h)
end
structure Co(k:Nat)(l:Lib):Prop where
 sp:gE (k+1) l.aI
 vl:l.vs.length≤64
 rl:l.rows.length≤64
 rw:∀ r∈l.rows,r.length≤40 * (k+1)
theorem Co.same{k:Nat}{l l':Lib}(h:Co k l)(s:wV l l')(hl:l'.vs.length=l.vs.length):Co k l':=⟨by rw[s.aI];exact h.sp,by rw[hl];exact h.vl,by rw[s.rows];exact h.rl,by rw[s.rows];exact h.rw⟩
theorem fj.row{k:Nat}{l:Lib}(h:fj k l):Co k l:=⟨h.sp,h.vl,h.rl,h.rw⟩
theorem Co.inv{k n:Nat}{l:Lib}(h:Co k l)(hk:k≤n)(he:fU l≤40 * (n+1)):fj n l:=⟨h.sp.more (by omega),h.vl,h.rl,he,fun r hr=>Nat.le_trans (h.rw r hr) (by omega)⟩
theorem ff.inv{n:Nat}{k:Krn}(h:ff n k):Inv (40 * (n+1)) k:=⟨h.ok,h.ag⟩
theorem ff.share{k:Krn}(h:ff 0 k)(prio:List Int)(turn:Int):ff 52 (k.share prio turn).1:=by
 obtain⟨h1,h2⟩:=dH h.inv prio turn
 have h3:∀ x∈(k.share prio turn).1.libs,Co 0 x:=nQ (fun l p hl=>hl.same (gr l p) (oP l p).vs) (fun l p hl=>hl.same (eR l p) (m9 l p).vs) prio turn fun x hx=>(h.gy x hx).row
 exact⟨h1.ag,h1.ok.own,h1.ok.ll,fun x hx=>(h3 x hx).inv (by omega) (Nat.le_trans (h1.ok.gy x hx).ev (by omega))⟩
def Pw(k:Krn):List Int:=k.libs.map fun l=>(l.aI.aA.length:Int)
end Go.SLYtpbjdoplfgeliaaGreat
