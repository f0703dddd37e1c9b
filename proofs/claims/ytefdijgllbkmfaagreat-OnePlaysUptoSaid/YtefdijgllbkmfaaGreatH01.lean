/- Walks of functions, and what they compute. Conditions: none, this text proves no statement. -/
import Derived.Test.YtefdijgllbkmfaaGreatH00
import Derived.Laws.StructEq
import Derived.Laws.Tables
namespace Go.SLYtefdijgllbkmfaaGreat
open Go Go.RowKit
section
variable{P:Program}{W:World}{N:Nat}{Q:Exit→Act→World→Prop}{L:List (Nat×Option Value)}{H K:List aa}{O:Array Oper}{T:TypeId}{α:Type}
def rows(enc:α→List Value)(xs:List α):List Value:=xs.flatMap enc
def blk:Value→Nat
 | .slice (some a) _ _=>a.block
 | _=>0
def cC:Value→Nat
 | .slice (some a) _ _=>a.off
 | _=>0
theorem bK{enc:α→List Value}{k:Nat}{xs:List α}(h:∀ x∈xs,(enc x).length=k):(rows enc xs).length=xs.length * k:=by
 induction xs with
 | nil=>simp[rows]
 | cons x xs ih =>
  have:=ih fun y hy=>h y (List.mem_cons_of_mem _ hy)
  simp only[rows,List.flatMap_cons,List.length_append,List.length_cons] at this ⊢
  rw[this,h x (List.mem_cons_self ..),Nat.succ_mul];omega
theorem dz(enc:α→List Value)(xs ys:List α):rows enc (xs++ys)=rows enc xs++rows enc ys:=by simp[rows]
theorem fL(enc:α→List Value)(x:α)(xs:List α):rows enc (x::xs)=enc x++rows enc xs:=by simp[rows]
theorem DA(enc:α→List Value)(x:α):rows enc [x]=enc x:=by simp[rows]
theorem nK{enc:α→List Value}{k:Nat}{xs:List α}(h:∀ x∈xs,(enc x).length=k){i:Nat}{x:α}(hx:xs[i]?=some x){c:Nat}(hc:c<k):(rows enc xs)[i * k+c]?=(enc x)[c]?:=by
 induction xs generalizing i with
 | nil=>simp at hx
 | cons y ys ih =>
  have hy:=h y (List.mem_cons_self ..)
  rw[fL]
  cases i with
  | zero =>
   simp at hx;subst hx
   rw[Nat.zero_mul,Nat.zero_add,List.getElem?_append_left (by omega)]
  | succ i =>
   rw[List.getElem?_append_right (by rw[hy,Nat.succ_mul];omega),hy]
   rw[show(i+1) * k+c-k=i * k+c from by rw[Nat.succ_mul];omega]
   exact ih (fun z hz=>h z (List.mem_cons_of_mem _ hz)) (by simpa using hx)
theorem rD{xs:List α}{i:Nat}{x:α}(hx:xs[i]?=some x):xs=xs.take i++x::xs.drop (i+1):=by
 have hi:=(List.getElem?_eq_some_iff.1 hx).1
 have he:=(List.getElem?_eq_some_iff.1 hx).2
 conv=>lhs;rw[← List.take_append_drop i xs]
 rw[List.drop_eq_getElem_cons hi,he]
theorem DB{xs:List α}{i:Nat}{x y:α}(hx:xs[i]?=some x):xs.set i y=xs.take i++y::xs.drop (i+1):=by
 have hi:=(List.getElem?_eq_some_iff.1 hx).1
 rw[List.set_eq_take_append_cons_drop,if_pos hi]
/-! ### Owned -/
def sl(enc:α→List Value)(k:Nat)(v:Value)(xs:List α):aa:=fun h =>
 ((∃ a,v = .slice a 0 0)∧xs=[]∧emp h)∨
  ∃ b cap sp,v = .slice (some ⟨b,0,none⟩) xs.length cap∧xs.length≤cap∧(∀ x∈xs,(enc x).length=k)∧sp.length=(cap-xs.length) * k∧arr b 0 (rows enc xs++sp) h
theorem jM(enc:α→List Value)(k:Nat):sl enc k (.slice none 0 0) ([]:List α)=emp:=by
 funext h
 apply propext
 constructor
 ·rintro(⟨_,_,e⟩ | ⟨b,cap,sp,e,_⟩)
  ·exact e
  ·cases e
 ·intro e;exact .inl ⟨⟨_,rfl⟩,rfl,e⟩
theorem Sat.nL{W w:World}{enc:α→List Value}{k:Nat}{a:Option Addr}{R:aa}(s:Sat W w R):Sat W w (sep (sl enc k (.slice a 0 0) ([]:List α)) R):=by
 have h:Sat W w (sep emp R):=by rw[fK];exact s
 exact h.mono (aS (fun _ e=>.inl ⟨⟨_,rfl⟩,rfl,e⟩) fun _ r=>r)
theorem Sat.qq{W w:World}{enc:α→List Value}{k b cap:Nat}{xs:List α}{sp:List Value}{R:aa}(hle:xs.length≤cap)(hk:∀ x∈xs,(enc x).length=k)(hsp:sp.length=(cap-xs.length) * k)
  (s:Sat W w (sep (arr b 0 (rows enc xs++sp)) R)):Sat W w (sep (sl enc k (.slice (some ⟨b,0,none⟩) xs.length cap) xs) R) :=
 s.mono (aS (fun _h a=>.inr ⟨b,cap,sp,rfl,hle,hk,hsp,a⟩) fun _ r=>r)
theorem Sat.qt{W w:World}{enc:α→List Value}{k:Nat}{v:Value}{xs:List α}{R:aa}(s:Sat W w (sep (sl enc k v xs) R)) :
  ((∃ a,v = .slice a 0 0)∧xs=[]∧Sat W w R)∨ ∃ b cap sp,v = .slice (some ⟨b,0,none⟩) xs.length cap∧xs.length≤cap∧(∀ x∈xs,(enc x).length=k)∧sp.length=(cap-xs.length) * k∧Sat W w (sep (arr b 0 (rows enc xs++sp)) R):=by
 obtain⟨h,⟨h1,h2,a,r,d,e⟩,hin⟩:=s.own
 rcases a with ⟨hv,hx,_⟩ | ⟨b,cap,sp,hv,hle,hk,hsp,a⟩
 ·exact .inl ⟨hv,hx,s.right⟩
 ·exact .inr ⟨b,cap,sp,hv,hle,hk,hsp,{s with own:=⟨h,⟨h1,h2,a,r,d,e⟩,hin⟩ }⟩
/-! ### Read -/
def iA(w:World)(enc:α→List Value)(k:Nat)(v:Value)(xs:List α):Prop :=
 (∃ a cap,v = .slice a xs.length cap∧xs.length≤cap∧(∀ b,a=some b→xs≠[]→b.spot=none)∧(a=none→xs=[]))∧(∀ x∈xs,(enc x).length=k)∧
  ∀ i x,xs[i]?=some x→ ∀ c u,(enc x)[c]?=some u→w.cell? ⟨blk v,cC v+i * k+c,none⟩=some u
def Rd(W:World)(H:List aa)(enc:α→List Value)(k:Nat)(v:Value)(xs:List α):Prop:=∀ w,Sat W w (seps H)→iA w enc k v xs
theorem Rd.sl{enc:α→List Value}{k:Nat}{v:Value}{xs:List α}(h:At H (SLYtefdijgllbkmfaaGreat.sl enc k v xs)):Rd W H enc k v xs:=fun w s=>by
 obtain⟨R,s⟩:=h.sat s
 rcases s.qt with ⟨⟨a,rfl⟩,rfl,_⟩ | ⟨b,cap,sp,rfl,hle,hk,hsp,s⟩
 ·exact⟨⟨a,0,rfl,Nat.le_refl _,fun _ _ h=>absurd rfl h,fun _=>rfl⟩,fun x hx=>by(cases hx),fun i x hx=>by simp at hx⟩
 ·refine⟨⟨_,cap,rfl,hle,fun _ e _=>by cases e;rfl,fun e=>by cases e⟩,hk,fun i x hx c u hu=>?_⟩
  have hi:=(List.getElem?_eq_some_iff.1 hx).1
  have hx':=hk x (List.mem_of_getElem? hx)
  have hc:=(List.getElem?_eq_some_iff.1 hu).1
  have:=(fu s (i:=i * k+c) (v:=u) (by
   have hlt:i * k+c<(rows enc xs).length:=by
    rw[bK hk]
    have:(i+1) * k≤xs.length * k:=Nat.mul_le_mul_right k hi
    rw[Nat.succ_mul] at this;omega
   rw[List.getElem?_append_left hlt,nK hk hx (by omega)]
   exact hu)).2
  rw[show 0+(i * k+c)=cC (Value.slice (some ⟨b,0,none⟩) xs.length cap)+i * k+c from by simp[cC]] at this
  exact this
theorem Rd.old{enc:α→List Value}{k:Nat}{v:Value}{xs:List α}(h:iA W enc k v xs):Rd W H enc k v xs:=fun w s =>
 ⟨h.1,h.2.1,fun i x hx c u hu=>Cell.old (h.2.2 i x hx c u hu) w s⟩
theorem Cell.rd{enc:α→List Value}{k:Nat}{v:Value}{xs:List α}(h:Rd W H enc k v xs){i:Nat}{x:α}(hx:xs[i]?=some x){c:Nat}{u:Value}(hu:(enc x)[c]?=some u):Cell W H (blk v) (cC v+i * k+c) u:=fun w s=>(h w s).2.2 i x hx c u hu
theorem Cell.za{enc:α→List Value}{k:Nat}{v:Value}{xs:List α}(h:Rd W H enc k v xs){i:Nat}{x:α}(hx:xs[i]?=some x){u:Value}(hu:(enc x)[0]?=some u):Cell W H (blk v) (cC v+i * k) u:=Cell.rd (c:=0) h hx hu
theorem Cells.rd{enc:α→List Value}{k:Nat}{v:Value}{xs:List α}(h:Rd W H enc k v xs){i:Nat}{x:α}(hx:xs[i]?=some x):Cells W H (blk v) (cC v+i * k) (enc x):=fun _c _u hu=>Cell.rd h hx hu
theorem Y.fb{op:Op}{v:Value}{p:Prop}(h:∀ w,Sat W w (seps H)→p)(hy:p→Y P W N op T L H v):Y P W N op T L H v:=fun dst pos after guard a w ha hs=>hy (h w hs) dst pos after guard a w ha hs
theorem Y.DC{enc:α→List Value}{k:Nat}{x:Operand}{t e:TypeId}{v:Value}{xs:List α}(hu:P.underlying t=some (.slice e))(hx:ev L x=some v)(h:Rd W H enc k v xs):Y P W N (.call ⟨.builtin .len, #[x], #[t]⟩) T L H (.int .i64 (xs.length:Int)) :=
 Y.fb (fun w s=>(h w s).1) fun⟨a,cap,hv,_⟩=>Y.xd hu (hx.trans (by rw[hv]))
theorem Y.ig{enc:α→List Value}{k:Nat}{x y:Operand}{t e:TypeId}{v:Value}{xs:List α}{kd:IntKind}{j:Int}(i:Nat)(hu:P.underlying t=some (.slice e))(hz:∀ w,(sizeOf e).run P w = .ok k w)(hx:ev L x=some v)(hy:ev L y=some (.int kd j))(h:Rd W H enc k v xs)(hj:j=(i:Int))(hi:i<xs.length) :
  Y P W N (.indexAddr t x y) T L H (.pointer (some ⟨blk v,cC v+i * k,none⟩)):=fun dst pos after guard a w ha hs=>by
 obtain⟨⟨ad,cap,hv,hle,hsp,hnn⟩,_,_⟩:=h w hs
 subst hj
 cases ad with
 | none=>rw[hnn rfl] at hi;simp at hi
 | some p =>
  have hp:=hsp p rfl (by intro e;subst e;simp at hi)
  simp only[execOp,ha.eval hx,ha.eval hy]
  refine bJ ?_
  subst hv
  cases p with
  | mk b o s =>
   simp only at hp
   subst hp
   simp[Instr.indexAt,asIntOf,run_underlying hu,hi,hz,dV,blk,cC]
theorem Y.aD{x y:Operand}{t e n k b o:Nat}{kd:IntKind}{j:Int}(i:Nat)(hu:P.underlying t=some (.array n e))(hz:∀ w,(sizeOf e).run P w = .ok k w)(hx:ev L x=some (.pointer (some ⟨b,o,none⟩)))(hy:ev L y=some (.int kd j))(hj:j=(i:Int))(hi:i<n) :
  Y P W N (.indexAddr t x y) T L H (.pointer (some ⟨b,o+i * k,none⟩)):=fun dst pos after guard a w ha hs=>by
 subst hj
 simp only[execOp,ha.eval hx,ha.eval hy]
 refine bJ ?_
 simp[Instr.indexAt,asIntOf,run_underlying hu,hi,hz,dV,Instr.sureAddr]
/-! ### Written -/
theorem DD{enc:α→List Value}{k:Nat}{xs:List α}{sp:List Value}(h:∀ x∈xs,(enc x).length=k){i c:Nat}{x x':α}(hx:xs[i]?=some x)(hc:c<k){u:Value}(he:enc x'=(enc x).set c u) :
  (rows enc xs++sp).set (i * k+c) u=rows enc (xs.set i x')++sp:=by
 have hi:=(List.getElem?_eq_some_iff.1 hx).1
 rw[DB hx]
 conv=>lhs;rw[rD hx]
 rw[dz,fL,dz,fL,he]
 have hl:(rows enc (xs.take i)).length=i * k:=by
  rw[bK fun y hy=>h y (List.mem_of_mem_take hy),List.length_take,Nat.min_eq_left (Nat.le_of_lt hi)]
 have hxk:=h x (List.mem_of_getElem? hx)
 rw[List.append_assoc,List.append_assoc,List.set_append_right _ _ (by omega),hl,Nat.add_sub_cancel_left,List.append_assoc,List.set_append_left _ _ (by omega)]
 simp
theorem af.AF{enc:α→List Value}{k:Nat}{E:TypeId}{x y:Operand}{pos:String}{after:Array Edge}{guard:Option (Nat×Bool)}{v u:Value}{xs:List α}{i c:Nat}{x0 x':α}{H':List aa}(hx:ev L x=some (.pointer (some ⟨blk v,cC v+i * k+c,none⟩)))(hy:ev L y=some u)(hz:∀ w,(sizeOf E).run P w = .ok 1 w)(hu:u.oneCell'=true)
  (h0:xs[i]?=some x0) (hc:c<k) (he:enc x'=(enc x0).set c u) (hr:gG H (sl enc k v xs) (sl enc k v (xs.set i x')) H') :
  af P W N ⟨none,.store E x y,T,pos,after,guard⟩ L H (fun L1 H1=>L1=L∧H1=H'):=fun a w ha hs Kp hK=>by
 obtain⟨R,e1,e2⟩:=hr.seps
 rw[e1] at hs
 have hi:=(List.getElem?_eq_some_iff.1 h0).1
 rcases hs.qt with ⟨_,rfl,_⟩ | ⟨b,cap,sp,rfl,hle,hk,hsp,hs⟩
 ·simp at h0
 ·have hlt:i * k+c<(rows enc xs++sp).length:=by
   rw[List.length_append,bK hk]
   have:(i+1) * k≤xs.length * k:=Nat.mul_le_mul_right k hi
   rw[Nat.succ_mul] at this;omega
  have ho:cC (Value.slice (some ⟨b,0,none⟩) xs.length cap)+i * k+c=0+(i * k+c):=by simp[cC]
  rw[ho] at hx
  have key:=af.store (P:=P) (W:=W) (N:=N) (T:=T) (pos:=pos) (after:=after) (guard:=guard) (H:=[arr b 0 (rows enc xs++sp),R]) hx hy hz hu .here hlt
  refine key a w ha (by simp only[seps,aP];exact hs) Kp fun L1 H1 ⟨h1,h2⟩ a' w' ha' hs'=>hK L1 H' ⟨h1,rfl⟩ a' w' ha' ?_
  subst h2
  simp only[seps,aP] at hs'
  rw[DD hk h0 hc he] at hs'
  rw[e2]
  have hk':∀ y∈xs.set i x',(enc y).length=k:=fun y hy=>by
   rcases List.mem_or_eq_of_mem_set hy with h | h
   ·exact hk y h
   ·subst h;rw[he,List.length_set];exact hk x0 (List.mem_of_getElem? h0)
  have:=Sat.qq (b:=b) (xs:=xs.set i x') (cap:=cap) (by simpa using hle) hk' (by simpa using hsp) hs'
  simpa using this
theorem af.gL{enc:α→List Value}{k:Nat}{E:TypeId}{x y:Operand}{pos:String}{after:Array Edge}{guard:Option (Nat×Bool)}{v u:Value}{xs:List α}{i:Nat}{x0 x':α}{H':List aa}(hx:ev L x=some (.pointer (some ⟨blk v,cC v+i * k,none⟩)))(hy:ev L y=some u)(hz:∀ w,(sizeOf E).run P w = .ok 1 w)(hu:u.oneCell'=true)
  (h0:xs[i]?=some x0) (hc:0<k) (he:enc x'=(enc x0).set 0 u) (hr:gG H (sl enc k v xs) (sl enc k v (xs.set i x')) H') :
  af P W N ⟨none,.store E x y,T,pos,after,guard⟩ L H (fun L1 H1=>L1=L∧H1=H') :=
 af.AF (c:=0) hx hy hz hu h0 hc he hr
def hole(enc:α→List Value)(k:Nat)(v:Value)(xs:List α)(i:Nat):aa:=fun h =>
 ∃ b cap sp,v = .slice (some ⟨b,0,none⟩) xs.length cap∧xs.length≤cap∧(∀ x∈xs,(enc x).length=k)∧sp.length=(cap-xs.length) * k∧
  sep (arr b 0 (rows enc (xs.take i))) (arr b ((i+1) * k) (rows enc (xs.drop (i+1))++sp)) h
theorem Sat.focus{W w:World}{enc:α→List Value}{k:Nat}{v:Value}{xs:List α}{R:aa}{i:Nat}{x:α}(hx:xs[i]?=some x)(s:Sat W w (sep (sl enc k v xs) R)) :
  Sat W w (sep (seps [arr (blk v) (cC v+i * k) (enc x),hole enc k v xs i]) R):=by
 have hi:=(List.getElem?_eq_some_iff.1 hx).1
 rcases s.qt with ⟨_,rfl,_⟩ | ⟨b,cap,sp,rfl,hle,hk,hsp,s⟩
 ·simp at hx
 ·have hl:(rows enc (xs.take i)).length=i * k:=by
   rw[bK fun y hy=>hk y (List.mem_of_mem_take hy),List.length_take,Nat.min_eq_left (Nat.le_of_lt hi)]
  have hxk:=hk x (List.mem_of_getElem? hx)
  have e:rows enc xs++sp=rows enc (xs.take i)++(enc x++(rows enc (xs.drop (i+1))++sp)):=by
   conv=>lhs;rw[rD hx]
   rw[dz,fL];simp
  rw[e,bR,bR,hl,hxk] at s
  simp only[seps,aP]
  rw[aN,aY,aN] at s
  rw[aN]
  simp only[blk,cC]
  refine s.mono (aS (fun _ h=>h) ?_)
  rw[aY, ← aN]
  exact aS (fun h hh=>⟨b,cap,sp,rfl,hle,hk,hsp,by rw[show(i+1) * k=0+i * k+k from by rw[Nat.succ_mul];omega];exact hh⟩) fun _ h=>h
/-! ### Appends -/
theorem BR(need:Nat):∀ (r c:Nat),Builtin.growBy need r c≤(c+768) * 2 ^ r:=by
 intro r
 induction r with
 | zero=>intro c;simp[Builtin.growBy]
 | succ r ih =>
  intro c
  unfold Builtin.growBy
  split
  ·have h1:1≤2 ^ (r+1):=Nat.one_le_two_pow
   have h2:=Nat.mul_le_mul_left (c+768) h1
   omega
  ·refine Nat.le_trans (ih _) ?_
   rw[Nat.pow_succ,Nat.mul_comm (2 ^ r) 2, ← Nat.mul_assoc]
   exact Nat.mul_le_mul_right _ (by omega)
theorem zb{need old:Nat}(h:old<need):Builtin.nextslicecap need old≤(need+768) * 16:=by
 unfold Builtin.nextslicecap
 split
 ·omega
 ·split
  ·omega
  ·have h1:=BR need 4 old
   have h2:(old+768) * 2 ^ 4≤(need+768) * 16:=Nat.mul_le_mul (by omega) (by decide)
   exact Nat.le_trans h1 h2
theorem rE{b o:Nat}{cs:List Value}{w:World}{n:Nat}(hn:n=cs.length)(hc:∀ i v,cs[i]?=some v→w.cell? ⟨b,o+i,none⟩=some v):(loadCells ⟨b,o,none⟩ n).run P w = .ok cs.toArray w:=by
 subst hn
 exact run_loadCells_list (P:=P) (w:=w) ⟨b,o,none⟩ cs fun j v hv=>by rw[dV];exact hc j v hv
theorem iA.firstCells{w:World}{enc:α→List Value}{k:Nat}{v:Value}{xs:List α}(h:iA w enc k v xs):(Builtin.firstCells k xs.length v).run P w = .ok (rows enc xs).toArray w:=by
 obtain⟨⟨a,cap,rfl,hle,hsp,hnn⟩,hk,hc⟩:=h
 cases a with
 | none=>rw[hnn rfl];simp[Builtin.firstCells,rows]
 | some p =>
  cases p with
  | mk b o s =>
   by_cases hxs:xs=[]
   ·subst hxs;simp[Builtin.firstCells,rows,loadCells,loadCellsFrom]
   obtain rfl:s=none:=hsp _ rfl hxs
   simp only[Builtin.firstCells]
   refine rE (bK hk).symm fun i u hu=>?_
   have hi:=(List.getElem?_eq_some_iff.1 hu).1
   rw[bK hk] at hi
   have hk0:0<k:=by
    rcases Nat.eq_zero_or_pos k with h | h
    ·subst h;simp at hi
    ·exact h
   have hq:i / k<xs.length:=Nat.div_lt_of_lt_mul (by rw[Nat.mul_comm];exact hi)
   have hx:xs[i / k]?=some xs[i / k]:=by simp[hq]
   have hm:=Nat.mod_lt i hk0
   have e:i / k * k+i % k=i:=by rw[Nat.mul_comm];exact Nat.div_add_mod i k
   have h1:=nK hk hx hm
   rw[e] at h1
   have:=hc _ _ hx (i % k) u (by rw[← h1];exact hu)
   rw[show cC (Value.slice (some ⟨b,o,none⟩) xs.length cap)+i / k * k+i % k=o+i from by simp[cC];omega] at this
   exact this
theorem jz{pre sp vs:List Value}(h:vs.length≤sp.length):setFrom (pre++sp) pre.length vs=pre++vs++sp.drop vs.length:=by
 induction vs generalizing pre sp with
 | nil=>simp[setFrom]
 | cons v vs ih =>
  cases sp with
  | nil=>simp at h
  | cons c sp =>
   have:=ih (pre:=pre++[v]) (sp:=sp) (by simpa using h)
   simp at this
   simp[setFrom,this]
theorem rF(z:Array Value)(n:Nat):(Builtin.zeroCells z n).size=n * z.size:=by simp[Builtin.zeroCells]
theorem rG{enc:α→List Value}{k:Nat}{t t2 e e2 ty:TypeId}{v u:Value}{xs ys:List α}{R:aa}{i:TypeInfo}{z:Value}{w:World}
  (hu:P.underlying t=some (.slice e)) (hu2:P.underlying t2=some (.slice e2)) (hi:∀ w,(typeInfo e).run P w = .ok i w) (hz:i.zero=some z) (hk:i.size=k) (hzs:z.cells.size=k) (hb:1≤i.bytes∧i.bytes≤4096)
  (hs:Sat W w (sep (sl enc k v xs) R)) (hrd:iA w enc k u ys) (hlen:xs.length+ys.length≤1073741824) (hone:∀ y∈ys, ∀ c∈enc y,c.oneCell'=true) :
  ∃ v' w',(Builtin.append_ #[t,t2] ty #[v,u]).run P w = .ok v' w'∧Sat W w' (sep (sl enc k v' (xs++ys)) R):=by
 have hysk:=hrd.2.1
 have hrd0:=hrd
 have hxrd:iA w enc k v xs:=Rd.sl (W:=W) (H:=[sl enc k v xs,R]) .here w (by simp only[seps,aP];exact hs)
 have hz0:∀ w,(zeroValue e).run P w = .ok z w:=fun w=>by simp[zeroValue,hi,hz]
 have hsz:∀ w,(sizeOf e).run P w = .ok k w:=fun w=>by simp[sizeOf,hi,hk]
 have hfu:(Builtin.firstCells k ys.length u).run P w = .ok (rows enc ys).toArray w:=hrd.firstCells
 obtain⟨⟨ua,ucap,hue,_⟩,_⟩:=hrd
 have hul:∀ w',(Builtin.lenOf u).run P w' = .ok ys.length w':=fun w'=>by rw[hue];simp[Builtin.lenOf]
 have hkk:∀ z∈xs++ys,(enc z).length=k:=fun z hz=>by
  rcases List.mem_append.1 hz with h | h
  ·exact hxrd.2.1 z h
  ·exact hysk z h
 have hfv:(Builtin.firstCells k xs.length v).run P w = .ok (rows enc xs).toArray w:=hxrd.firstCells
 obtain⟨⟨va,vcap,hve,hvle,hvsp,hvnn⟩,hxk,_⟩:=hxrd
 by_cases hcap:xs.length+ys.length≤vcap
 · -- there is room
  rcases hs.qt with ⟨⟨va',hv0⟩,hx0,hs0⟩ | ⟨b,cap,sp,hv1,hle,hk',hsp,hs1⟩
  ·subst hx0
   rw[hv0] at hve
   cases hve
   obtain rfl:ys=[]:=List.eq_nil_of_length_eq_zero (by simpa using hcap)
   refine⟨v,w,?_,?_⟩
   ·rw[hv0]
    simp only[List.length_nil] at hul
    simp[Builtin.append_,run_underlying hu,run_underlying hu2,hsz,hul,rows] at hfu ⊢
    simp[hfu]
    cases va <;> simp[storeCells]
   ·exact hs
  ·rw[hv1] at hve
   cases hve
   have hsplen:ys.length * k≤sp.length:=by
    rw[hsp]
    exact Nat.mul_le_mul_right _ (by omega)
   have hl:(rows enc ys).length=ys.length * k:=bK hysk
   have hlx:(rows enc xs).length=xs.length * k:=bK hxk
   have hone':∀ c∈rows enc ys,c.oneCell'=true:=fun c hc=>by
    obtain⟨y,hy,hc⟩:=List.mem_flatMap.1 hc
    exact hone y hy c hc
   obtain⟨w',h1,h2⟩:=eN (P:=P) (rows enc ys) (rows enc xs++sp) (xs.length * k) 0 w hs1 hone' (by rw[List.length_append];omega)
   refine⟨.slice (some ⟨b,0,none⟩) (xs.length+ys.length) vcap,w',?_,?_⟩
   ·rw[hv1]
    simp only[Nat.zero_add] at h1
    simp[Builtin.append_,run_underlying hu,run_underlying hu2,hsz,hul,hfu,hcap,dV,h1]
   ·have e3:setFrom (rows enc xs++sp) (xs.length * k+0) (rows enc ys)=rows enc (xs++ys)++sp.drop (ys.length * k):=by
     rw[Nat.add_zero, ← hlx,jz (by omega),dz,hl]
    rw[e3] at h2
    have:=Sat.qq (b:=b) (cap:=vcap) (xs:=xs++ys) (by simpa using hcap) hkk (by
     rw[List.length_drop,hsp,List.length_append, ← Nat.sub_mul]
     congr 1;omega) h2
    simpa using this
 · -- a new block
  have hnc:=zb (need:=xs.length+ys.length) (old:=vcap) (by omega)
  have hbig:¬(Builtin.nextslicecap (xs.length+ys.length) vcap * i.bytes>2 ^ 48):=by
   have h1:Builtin.nextslicecap (xs.length+ys.length) vcap * i.bytes≤(1073741824+768) * 16 * 4096 :=
    Nat.mul_le_mul (Nat.le_trans hnc (Nat.mul_le_mul_right _ (by omega))) hb.2
   have h2:(2:Nat) ^ 48=281474976710656:=by decide
   rw[h2]
   omega
  have hq:(Question.appendCap (xs.length+ys.length) vcap e).forced=false:=rfl
  let nc:=(Question.appendCap (xs.length+ys.length) vcap e).cut (w.tape w.drawn (Question.appendCap (xs.length+ys.length) vcap e))
  have hnc1:xs.length+ys.length≤nc:=Nat.le_add_right _ _
  have hroom:∀ w',(askRoom (nc * i.bytes)).run P w' = .ok () w':=fun w'=>by
   unfold askRoom
   split <;> rfl
  have hnz:(i.bytes=0)=False:=by simp;omega
  let w1:World:={w with drawn:=w.drawn+1 }
  have hfv1:(Builtin.firstCells k xs.length v).run P w1 = .ok (rows enc xs).toArray w1:=by
   have:=(Rd.sl (W:=W) (H:=[sl enc k v xs,R]) .here w1 (by simp only[seps,aP];exact hs.drew)).firstCells (P:=P)
   exact this
  have hfu1:(Builtin.firstCells k ys.length u).run P w1 = .ok (rows enc ys).toArray w1:=by
   exact iA.firstCells (w:=w1) hrd0
  have hch:(choose (Question.appendCap (xs.length+ys.length) vcap e)).run P w = .ok nc w1:=by
   simp only[choose,Sem.run,hq]
   rfl
  obtain⟨news,hnews⟩:∃ news,news=(rows enc xs).toArray++(rows enc ys).toArray++Builtin.zeroCells z.cells (nc - (xs.length+ys.length)):=⟨_,rfl⟩
  refine⟨.slice (some ⟨w1.heap.size,0,none⟩) (xs.length+ys.length) nc,w1.alloc (.cells news e),?_,?_⟩
  ·have hgt:¬xs.length+ys.length≤vcap:=hcap
   subst hve
   have e4:(newRow e news).run P w1 = .ok ⟨w1.heap.size,0,none⟩ (w1.alloc (.cells news e)):=rfl
   simp[Builtin.append_,hgt,run_underlying hu,run_underlying hu2,hsz,hul,hi,hbig,hnz,hz0]
   rw[if_neg (by rw[hq];simp)]
   have hw1:w.drew=w1:=rfl
   rw[hw1,hfv1]
   simp only[Result.andThen_ok]
   rw[hfu1]
   simp only[Result.andThen_ok]
   have h9:(rows enc xs).toArray++((rows enc ys).toArray++Builtin.zeroCells z.cells (nc-(xs.length+ys.length)))=news:=by rw[hnews,Array.append_assoc]
   have h10:((Question.appendCap (xs.length+ys.length) vcap e).cut (w.tape w.drawn (Question.appendCap (xs.length+ys.length) vcap e)))=nc:=rfl
   rw[h10,h9,e4]
   rfl
  ·have h6:Sat W w1 R:=hs.drew.right
   have h7:=h6.alloc news e
   have h8:news.toList=rows enc (xs++ys)++(Builtin.zeroCells z.cells (nc-(xs.length+ys.length))).toList:=by rw[hnews];simp[dz]
   rw[h8] at h7
   have h5:=Sat.qq (b:=w1.heap.size) (cap:=nc) (xs:=xs++ys) (sp:=(Builtin.zeroCells z.cells (nc-(xs.length+ys.length))).toList) (by simpa using hnc1) hkk (by
    rw[Array.length_toList,rF,hzs,List.length_append]) h7
   rw[List.length_append] at h5
   exact h5
theorem af.append{enc:α→List Value}{k:Nat}{x y:Operand}{t t2 e e2 ty:TypeId}{pos:String}{after:Array Edge}{guard:Option (Nat×Bool)}{d:Nat}{v u:Value}{xs ys:List α}{R:List aa}{i:TypeInfo}{z:Value}(hN:Nat.blt d N=true)
  (hu:P.underlying t=some (.slice e)) (hu2:P.underlying t2=some (.slice e2)) (hi:∀ w,(typeInfo e).run P w = .ok i w) (hz:i.zero=some z) (hk:i.size=k) (hzs:z.cells.size=k) (hb:1≤i.bytes∧i.bytes≤4096)
  (hx:ev L x=some v) (hy:ev L y=some u) (ht:Take H (sl enc k v xs) R) (hr:Rd W H enc k u ys) (hlen:xs.length+ys.length≤1073741824) (hone:∀ y∈ys, ∀ c∈enc y,c.oneCell'=true) :
  af P W N ⟨some d,.call ⟨.builtin .append, #[x,y], #[t,t2]⟩,ty,pos,after,guard⟩ L H (fun L1 H1=>∃ v',L1=(d,some v')::L∧H1=sl enc k v' (xs++ys)::R):=fun a w ha hs Kp hK=>by
 have hrd:=hr w hs
 rw[ht.seps] at hs
 obtain⟨v',w',h1,h2⟩:=rG (P:=P) (ty:=ty) hu hu2 hi hz hk hzs hb hs hrd hlen hone
 have hrun:(execOp a.eval ⟨some d,.call ⟨.builtin .append, #[x,y], #[t,t2]⟩,ty,pos,after,guard⟩).run P w = .ok (.value v') w':=by
  simp[execOp,resolve,invoke,builtin,ha.eval hx,ha.eval hy,h1]
 unfold Oper.wp
 rw[hrun]
 simp only[Oper.upon]
 exact hK _ _ ⟨v',rfl,rfl⟩ _ _ (ha.put (Nat.blt_eq.mp hN) v') h2
theorem Rd.lit{enc:α→List Value}{k b n:Nat}{cs:List Value}{xs:List α}(h:At H (arr b 0 cs))(hn:xs.length=n)(hk:∀ x∈xs,(enc x).length=k)(hc:rows enc xs=cs):Rd W H enc k (.slice (some ⟨b,0,none⟩) n n) xs:=fun w s=>by
 obtain⟨R,s⟩:=h.sat s
 subst hn
 refine⟨⟨_,_,rfl,Nat.le_refl _,fun _ e _=>by cases e;rfl,fun e=>by cases e⟩,hk,fun i x hx c u hu=>?_⟩
 have hx':=hk x (List.mem_of_getElem? hx)
 have hc':=(List.getElem?_eq_some_iff.1 hu).1
 have:=(fu s (i:=i * k+c) (v:=u) (by rw[← hc,nK hk hx (by omega)];exact hu)).2
 rw[show 0+(i * k+c)=cC (Value.slice (some ⟨b,0,none⟩) xs.length xs.length)+i * k+c from by simp[cC]] at this
 exact this
theorem af.Gu{enc:α→List Value}{k b:Nat}{x y:Operand}{t t2 e e2 ty:TypeId}{pos:String}{after:Array Edge}{guard:Option (Nat×Bool)}{d:Nat}{v:Value}{cs:List Value}{xs:List α}(z0:α){R:List aa}{i:TypeInfo}{z:Value}(hN:Nat.blt d N=true)
  (hu:P.underlying t=some (.slice e)) (hu2:P.underlying t2=some (.slice e2)) (hi:∀ w,(typeInfo e).run P w = .ok i w) (hz:i.zero=some z) (hk:i.size=k) (hzs:z.cells.size=k) (hb:1≤i.bytes∧i.bytes≤4096)
  (hx:ev L x=some v) (hy:ev L y=some (.slice (some ⟨b,0,none⟩) 1 1)) (ha:At H (arr b 0 cs)) (hc:enc z0=cs) (hcl:cs.length=k) (ht:Take H (sl enc k v xs) R) (hlen:xs.length<1073741824) (hone:∀ c∈cs,c.oneCell'=true) :
  af P W N ⟨some d,.call ⟨.builtin .append, #[x,y], #[t,t2]⟩,ty,pos,after,guard⟩ L H (fun L1 H1=>∃ v',L1=(d,some v')::L∧H1=sl enc k v' (xs++[z0])::R) :=
 af.append hN hu hu2 hi hz hk hzs hb hx hy ht (Rd.lit ha rfl (by simp[hc,hcl]) (by rw[DA,hc])) (by simp;omega) (by simpa [hc] using hone)
end
end Go.SLYtefdijgllbkmfaaGreat
namespace Go.SLYtefdijgllbkmfaaGreat
open Go Go.RowKit
class aX(H:List aa)(b o:Nat)(cs:outParam (List Value)):Prop where
 has:At H (arr b o cs)
instance aX.here{H:List aa}{b o:Nat}{cs:List Value}:aX (arr b o cs::H) b o cs:=⟨.here⟩
instance aX.there{H:List aa}{A:aa}{b o:Nat}{cs:List Value}[h:aX H b o cs]:aX (A::H) b o cs:=⟨.there h.has⟩
class bM(H:List aa)(b o:Nat)(cs:outParam (List Value))(cs':List Value)(H':outParam (List aa)):Prop where
 m3:gG H (arr b o cs) (arr b o cs') H'
instance bM.here{H:List aa}{b o:Nat}{cs cs':List Value}:bM (arr b o cs::H) b o cs cs' (arr b o cs'::H):=⟨.here⟩
instance bM.there{H H':List aa}{A:aa}{b o:Nat}{cs cs':List Value}[h:bM H b o cs cs' H']:bM (A::H) b o cs cs' (A::H'):=⟨.there h.m3⟩
class fX(H:List aa)(v:Value){α:outParam Type}(enc:outParam (α→List Value))(k:outParam Nat)(xs:outParam (List α)):Prop where
 has:At H (sl enc k v xs)
instance fX.here{α:Type}{H:List aa}{v:Value}{enc:α→List Value}{k:Nat}{xs:List α}:fX (sl enc k v xs::H) v enc k xs:=⟨.here⟩
instance fX.there{α:Type}{H:List aa}{A:aa}{v:Value}{enc:α→List Value}{k:Nat}{xs:List α}[h:fX H v enc k xs]:fX (A::H) v enc k xs:=⟨.there h.has⟩
instance aX.DE{H l:List aa}{b o:Nat}{cs:List Value}:aX ((arr b o cs::l)++H) b o cs:=⟨.here⟩
instance aX.DF{H l:List aa}{b o:Nat}{cs:List Value}:aX (List.append (arr b o cs::l) H) b o cs:=⟨.here⟩
instance aX.zd{H l:List aa}{A:aa}{b o:Nat}{cs:List Value}[h:aX (l++H) b o cs]:aX ((A::l)++H) b o cs:=⟨.there h.has⟩
instance aX.ze{H l:List aa}{A:aa}{b o:Nat}{cs:List Value}[h:aX (List.append l H) b o cs]:aX (List.append (A::l) H) b o cs:=⟨.there h.has⟩
instance aX.IU{H:List aa}{b o:Nat}{cs:List Value}[h:aX H b o cs]:aX ([]++H) b o cs:=⟨h.has⟩
instance aX.IV{H:List aa}{b o:Nat}{cs:List Value}[h:aX H b o cs]:aX (List.append [] H) b o cs:=⟨h.has⟩
instance bM.DE{H l:List aa}{b o:Nat}{cs cs':List Value}:bM ((arr b o cs::l)++H) b o cs cs' (arr b o cs'::(l++H)):=⟨.here⟩
instance bM.DF{H l:List aa}{b o:Nat}{cs cs':List Value}:bM (List.append (arr b o cs::l) H) b o cs cs' (arr b o cs'::(List.append l H)):=⟨.here⟩
instance bM.zd{H l H':List aa}{A:aa}{b o:Nat}{cs cs':List Value}[h:bM (l++H) b o cs cs' H']:bM ((A::l)++H) b o cs cs' (A::H'):=⟨.there h.m3⟩
instance bM.ze{H l H':List aa}{A:aa}{b o:Nat}{cs cs':List Value}[h:bM (List.append l H) b o cs cs' H']:bM (List.append (A::l) H) b o cs cs' (A::H'):=⟨.there h.m3⟩
instance bM.IU{H H':List aa}{b o:Nat}{cs cs':List Value}[h:bM H b o cs cs' H']:bM ([]++H) b o cs cs' H':=⟨h.m3⟩
instance bM.IV{H H':List aa}{b o:Nat}{cs cs':List Value}[h:bM H b o cs cs' H']:bM (List.append [] H) b o cs cs' H':=⟨h.m3⟩
instance fX.DE{α:Type}{H l:List aa}{v:Value}{enc:α→List Value}{k:Nat}{xs:List α}:fX ((sl enc k v xs::l)++H) v enc k xs:=⟨.here⟩
instance fX.DF{α:Type}{H l:List aa}{v:Value}{enc:α→List Value}{k:Nat}{xs:List α}:fX (List.append (sl enc k v xs::l) H) v enc k xs:=⟨.here⟩
instance fX.zd{α:Type}{H l:List aa}{A:aa}{v:Value}{enc:α→List Value}{k:Nat}{xs:List α}[h:fX (l++H) v enc k xs]:fX ((A::l)++H) v enc k xs:=⟨.there h.has⟩
instance fX.ze{α:Type}{H l:List aa}{A:aa}{v:Value}{enc:α→List Value}{k:Nat}{xs:List α}[h:fX (List.append l H) v enc k xs]:fX (List.append (A::l) H) v enc k xs:=⟨.there h.has⟩
instance fX.IU{α:Type}{H:List aa}{v:Value}{enc:α→List Value}{k:Nat}{xs:List α}[h:fX H v enc k xs]:fX ([]++H) v enc k xs:=⟨h.has⟩
instance fX.IV{α:Type}{H:List aa}{v:Value}{enc:α→List Value}{k:Nat}{xs:List α}[h:fX H v enc k xs]:fX (List.append [] H) v enc k xs:=⟨h.has⟩
section
variable{P:Program}{W:World}{N:Nat}{Q:Exit→Act→World→Prop}{L:List (Nat×Option Value)}{H K:List aa}{O:Array Oper}{T:TypeId}{α:Type}
theorem Cell.a{b i:Nat}{cs:List Value}{v:Value}[h:aX H b 0 cs](hv:cs[i]?=some v):Cell W H b i v:=Cell.arr h.has hv
theorem Cell.ao{b o i:Nat}{cs:List Value}{v:Value}[h:aX H b o cs](hv:cs[i]?=some v):Cell W H b (o+i) v:=Cell.IP h.has hv
theorem Cell.az{b o:Nat}{cs:List Value}{v:Value}[h:aX H b o cs](hv:cs[0]?=some v):Cell W H b o v:=Cell.Lp h.has hv
theorem Cells.a{b o:Nat}{cs:List Value}[h:aX H b o cs]:Cells W H b o cs:=Cells.arr h.has
class aI(W:World)(H:List aa)(v:Value){α:outParam Type}(enc:outParam (α→List Value))(k:outParam Nat)(xs:outParam (List α)):Prop where
 rd:Rd W H enc k v xs
instance aI.sl{W:World}{H:List aa}{v:Value}{α:Type}{enc:α→List Value}{k:Nat}{xs:List α}[h:fX H v enc k xs]:aI W H v enc k xs:=⟨Rd.sl h.has⟩
theorem Rd.s{v:Value}{enc:α→List Value}{k:Nat}{xs:List α}[h:aI W H v enc k xs]:Rd W H enc k v xs:=h.rd
class bX(H:List aa)(A:aa):Prop where
 has:At H A
instance bX.here{H:List aa}{A:aa}:bX (A::H) A:=⟨.here⟩
instance bX.there{H:List aa}{A B:aa}[h:bX H A]:bX (B::H) A:=⟨.there h.has⟩
instance bX.DE{H l:List aa}{A:aa}:bX ((A::l)++H) A:=⟨.here⟩
instance bX.DF{H l:List aa}{A:aa}:bX (List.append (A::l) H) A:=⟨.here⟩
instance bX.zd{H l:List aa}{A B:aa}[h:bX (l++H) A]:bX ((B::l)++H) A:=⟨.there h.has⟩
instance bX.ze{H l:List aa}{A B:aa}[h:bX (List.append l H) A]:bX (List.append (B::l) H) A:=⟨.there h.has⟩
instance bX.IU{H:List aa}{A:aa}[h:bX H A]:bX ([]++H) A:=⟨h.has⟩
instance bX.IV{H:List aa}{A:aa}[h:bX H A]:bX (List.append [] H) A:=⟨h.has⟩
theorem Rd.at{A:aa}{v:Value}{enc:α→List Value}{k:Nat}{xs:List α}(h:Rd W [A] enc k v xs)(ha:At H A):Rd W H enc k v xs:=fun w s=>by
 obtain⟨R,s'⟩:=ha.sat s
 exact h w (by simp only[seps,aP];exact s'.left)
theorem Y.Gl{x:Operand}{b o:Nat}{cs:List Value}(ht:∀ w,(isAgg T).run P w = .ok true w){T':TypeId}(hx:ev L x=some (.pointer (some ⟨b,o,none⟩)))(hc:Cells W H b o cs)(hz:∀ w,(sizeOf T).run P w = .ok cs.length w) :
  Y P W N (.load T x) T' L H (.agg cs.toArray):=Y.Gr ht hz hx hc
theorem Cells.part{b o i:Nat}{cs ds:List Value}(h:Cells W H b o cs)(hd:∀ j v,ds[j]?=some v→cs[i+j]?=some v):Cells W H b (o+i) ds:=fun j v hv=>by
 have:=h (i+j) v (hd j v hv)
 rwa [← Nat.add_assoc] at this
theorem Cells.jA{b i:Nat}{cs ds:List Value}(h:Cells W H b 0 cs)(hd:(cs.drop i).take ds.length=ds):Cells W H b i ds:=fun j v hv=>by
 have hj:=(List.getElem?_eq_some_iff.1 hv).1
 have:=h (i+j) v (by rw[← hd,List.getElem?_take_of_lt hj,List.getElem?_drop] at hv;exact hv)
 rwa [Nat.zero_add] at this
theorem af.st{E:TypeId}{x y:Operand}{pos:String}{after:Array Edge}{guard:Option (Nat×Bool)}{b i:Nat}{v:Value}{cs:List Value}{H':List aa}(hz:∀ w,(sizeOf E).run P w = .ok 1 w)(hx:ev L x=some (.pointer (some ⟨b,i,none⟩)))(hy:ev L y=some v)(hv:v.oneCell'=true)
  [_h0:aX H b 0 cs] [hr:bM H b 0 cs (cs.set i v) H'] (hi:Nat.blt i cs.length=true) :
  af P W N ⟨none,.store E x y,T,pos,after,guard⟩ L H (fun L1 H1=>L1=L∧H1=H') :=
 af.Dx hx hy hz hv hr.m3 (Nat.blt_eq.mp hi)
theorem af.Ij{E:TypeId}{x y:Operand}{pos:String}{after:Array Edge}{guard:Option (Nat×Bool)}{b o i:Nat}{v:Value}{cs:List Value}{H':List aa}(hz:∀ w,(sizeOf E).run P w = .ok 1 w)(hx:ev L x=some (.pointer (some ⟨b,o+i,none⟩)))(hy:ev L y=some v)(hv:v.oneCell'=true)
  [_h0:aX H b o cs] [hr:bM H b o cs (cs.set i v) H'] (hi:Nat.blt i cs.length=true) :
  af P W N ⟨none,.store E x y,T,pos,after,guard⟩ L H (fun L1 H1=>L1=L∧H1=H') :=
 af.store hx hy hz hv hr.m3 (Nat.blt_eq.mp hi)
theorem af.Ik{E:TypeId}{x y:Operand}{pos:String}{after:Array Edge}{guard:Option (Nat×Bool)}{b o:Nat}{v:Value}{cs:List Value}{H':List aa}(hz:∀ w,(sizeOf E).run P w = .ok 1 w)(hx:ev L x=some (.pointer (some ⟨b,o,none⟩)))(hy:ev L y=some v)(hv:v.oneCell'=true)
  [_h0:aX H b o cs] [hr:bM H b o cs (cs.set 0 v) H'] (hi:Nat.blt 0 cs.length=true) :
  af P W N ⟨none,.store E x y,T,pos,after,guard⟩ L H (fun L1 H1=>L1=L∧H1=H') :=
 af.IQ hx hy hz hv hr.m3 (Nat.blt_eq.mp hi)
theorem af.tP{E:TypeId}{x y:Operand}{pos:String}{after:Array Edge}{guard:Option (Nat×Bool)}{b o:Nat}{vs cs:List Value}{H':List aa}(hz:∀ w,(sizeOf E).run P w = .ok vs.length w)(hx:ev L x=some (.pointer (some ⟨b,o,none⟩)))(hy:ev L y=some (.agg vs.toArray))(hv:vs.all (·.oneCell')=true)
  [_h0:aX H b o cs] [hr:bM H b o cs vs H'] (hi:cs.length=vs.length) :
  af P W N ⟨none,.store E x y,T,pos,after,guard⟩ L H (fun L1 H1=>L1=L∧H1=H') :=
 af.storeAll hx hy hz (List.all_eq_true.1 hv) hr.m3 hi
theorem af.Kj{E:TypeId}{x y:Operand}{pos:String}{after:Array Edge}{guard:Option (Nat×Bool)}{b i:Nat}{vs cs:List Value}{H':List aa}(hz:∀ w,(sizeOf E).run P w = .ok vs.length w)(hx:ev L x=some (.pointer (some ⟨b,i,none⟩)))(hy:ev L y=some (.agg vs.toArray))(hv:vs.all (·.oneCell')=true)
  [_h0:aX H b 0 cs] [hr:bM H b 0 cs (setFrom cs i vs) H'] (hi:Nat.ble (i+vs.length) cs.length=true) :
  af P W N ⟨none,.store E x y,T,pos,after,guard⟩ L H (fun L1 H1=>L1=L∧H1=H') :=
 af.rC (o:=0) (i:=i) (by rw[Nat.zero_add];exact hx) hy hz (List.all_eq_true.1 hv) hr.m3 (Nat.ble_eq.mp hi)
theorem Fn.emp{f:FuncId}{args:List Value}{X:Type}{val:X→Value}{fact:X→Prop}(h:Fn P W f args [emp] X val fact (fun _=>[emp])):Fn P W f args [] X val fact (fun _=>[]):=fun F w hs =>
 (h F w (by simpa only[seps,aP,fK] using hs)).mono fun e w' ⟨x,he,hx,hs'⟩=>⟨x,he,hx,by simpa only[seps,aP,fK] using hs'⟩
theorem fin{w:World}{A:List aa}{F:aa}{R:List aa}(t:gJ H (A++[F]) R)(s:Sat W w (seps H)):Sat W w (sep (seps A) F):=by
 rw[t.seps,ah] at s
 have:=s.left
 rw[ah] at this
 exact this.eq (by simp only[seps,aP])
theorem Y.gy{src dst':TypeId}{x:Operand}{j:IntKind}{n:Int}{d0:TypeDesc}(hs:P.underlying src=some d0)(hu:P.underlying dst'=some (.int .i64))(hx:ev L x=some (.int j n))(h : -9223372036854775808≤n∧n≤9223372036854775807):Y P W N (.convert src dst' x) T L H (.int .i64 n):=by
 have:=Y.conv (P:=P) (W:=W) (N:=N) (H:=H) (T:=T) hs hu hx
 rwa [wrap_i64 h] at this
theorem Y.gh{src dst':TypeId}{x:Operand}{j:IntKind}{n:Int}{d0:TypeDesc}(hs:P.underlying src=some d0)(hu:P.underlying dst'=some (.int .u64))(hx:ev L x=some (.int j n))(h:0≤n∧n≤18446744073709551615):Y P W N (.convert src dst' x) T L H (.int .u64 n):=by
 have:=Y.conv (P:=P) (W:=W) (N:=N) (H:=H) (T:=T) hs hu hx
 rwa [wrap_u64 h] at this
theorem Y.Lu{xT yT:TypeId}{x y:Operand}{m n:Int}(hx:ev L x=some (.int .u64 m))(hy:ev L y=some (.int .u64 n))(h:0≤m * n∧m * n≤18446744073709551615):Y P W N (.binOp .mul xT x y yT) T L H (.int .u64 (m * n)):=by
 have:=Y.Du (P:=P) (W:=W) (N:=N) (H:=H) (T:=T) (xT:=xT) (yT:=yT) hx hy
 rwa [wrap_u64 h] at this
theorem Y.IW{xT yT:TypeId}{x y:Operand}{m n:Int}(hx:ev L x=some (.int .u64 m))(hy:ev L y=some (.int .u64 n))(h:0≤m-n∧m-n≤18446744073709551615):Y P W N (.binOp .sub xT x y yT) T L H (.int .u64 (m-n)):=by
 have:=Y.Gs (P:=P) (W:=W) (N:=N) (H:=H) (T:=T) (xT:=xT) (yT:=yT) hx hy
 rwa [wrap_u64 h] at this
theorem Y.Gv{xT yT:TypeId}{x y:Operand}{p q:Bool}(hu:P.underlying xT=some .bool)(hx:ev L x=some (.bool p))(hy:ev L y=some (.bool q)):Y P W N (.binOp .neq xT x y yT) T L H (.bool (p != q)) :=
 Y.bin hx hy fun w=>by
  have:(Op.equal xT (.bool p) (.bool q)).run P w = .ok (p == q) w:=by
   show(Op.equalIn (9999+1) xT _ _).run P w=_
   unfold Op.equalIn
   simp[run_underlying hu]
  simp[eqGuard,binOp,this]
  cases p <;> cases q <;> rfl
end
end Go.SLYtefdijgllbkmfaaGreat
namespace Go.SLYtefdijgllbkmfaaGreat
open Go Go.RowKit
section
variable{P:Program}
def pC(P:Program)(t:TypeId)(k:Nat)(x y:Value)(b:Bool):Prop:=∀ d w,(Op.equalIn (d+k) t x y).run P w = .ok b w
def Part(P:Program)(t:TypeId)(cs:Array Value)(off:Nat)(v:Value):Prop:=∀ w,(part t cs off).run P w = .ok v w
theorem Part.one{t:TypeId}{cs:Array Value}{off:Nat}{v:Value}(ha:∀ w,(isAgg t).run P w = .ok false w)(h:cs[off]?=some v):Part P t cs off v:=fun w=>by
 simp[part,ha,h]
theorem Part.agg{t:TypeId}{cs:Array Value}{off n:Nat}(ha:∀ w,(isAgg t).run P w = .ok true w)(hz:∀ w,(sizeOf t).run P w = .ok n w):Part P t cs off (.agg (cs.extract off (off+n))):=fun w=>by
 simp[part,ha,hz]
theorem pC.int{t:TypeId}{k k':IntKind}{a b:Int}(h:P.underlying t=some (.int k')):pC P t 1 (.int k a) (.int k b) (decide (a=b)):=fun d w=>by
 rw[run_equalIn_int w d t k k' a b h];congr 1
theorem pC.bool{t:TypeId}{a b:Bool}(h:P.underlying t=some .bool):pC P t 1 (.bool a) (.bool b) (decide (a=b)):=fun d w=>by
 rw[run_equalIn_bool w d t a b h];cases a <;> cases b <;> rfl
theorem pC.up{t:TypeId}{k m:Nat}{x y:Value}{b:Bool}(h:pC P t k x y b)(hm:k≤m):pC P t m x y b:=fun d w=>by
 have:=h (d+(m-k)) w
 rwa [show d+(m-k)+k=d+m from by omega] at this
theorem DG{e:TypeId}{kd:IntKind}{m:Nat}(hm:∀ a b w,(Op.equalIn m e (.int kd a) (.int kd b)).run P w = .ok (decide (a=b)) w)(ha:∀ w,(isAgg e).run P w = .ok false w)(xs ys:List Int)(hl:xs.length=ys.length)(w:World) :
  ∀ (n i:Nat),i+n=xs.length→ ∃ r:Option Bool×Unit,(forIn (m:=Sem) (List.range' i n) ((none,()):Option Bool×Unit) fun i __s=>do
    let a ← part e (xs.map (Value.int kd)).toArray (i * 1)
    let b ← part e (ys.map (Value.int kd)).toArray (i * 1)
    let r ← Op.equalIn m e a b
    if (!r)=true then pure (ForInStep.done (some false,())) else pure (ForInStep.yield (none,()))).run P w = .ok r w∧
   r.1.getD true=decide (xs.drop i=ys.drop i)
 | 0,i,h=>⟨(none,()),by simp,by rw[List.drop_of_length_le (by omega),List.drop_of_length_le (by omega)];rfl⟩
 | n+1,i,h=>by
  obtain⟨r,h1,h2⟩:=DG hm ha xs ys hl w n (i+1) (by omega)
  have hx:i<xs.length:=by omega
  have hy:i<ys.length:=by omega
  have p1:Part P e (xs.map (Value.int kd)).toArray (i * 1) (.int kd xs[i]):=Part.one ha (by simp[hx])
  have p2:Part P e (ys.map (Value.int kd)).toArray (i * 1) (.int kd ys[i]):=Part.one ha (by simp[hy])
  have dx:xs.drop i=xs[i]::xs.drop (i+1):=List.drop_eq_getElem_cons hx
  have dy:ys.drop i=ys[i]::ys.drop (i+1):=List.drop_eq_getElem_cons hy
  by_cases e:xs[i]=ys[i]
  ·refine⟨r,?_,?_⟩
   ·rw[List.range'_succ,List.forIn_cons]
    simp only[Sem.run_bind,p1 w,p2 w,Result.andThen_ok,hm,e]
    simpa using h1
   ·rw[h2,dx,dy,e,decide_eq_decide,List.cons.injEq];exact⟨fun h=>⟨rfl,h⟩,fun h=>h.2⟩
  ·refine⟨(some false,()),?_,?_⟩
   ·rw[List.range'_succ,List.forIn_cons]
    simp only[Sem.run_bind,p1 w,p2 w,Result.andThen_ok,hm,e]
    simp
   ·rw[dx,dy,decide_eq_false (fun h=>e (List.cons.inj h).1)];rfl
theorem pC.Lv{t e:TypeId}{n:Nat}{kd:IntKind}(hu:P.underlying t=some (.array n e))(he:P.underlying e=some (.int kd))(ha:∀ w,(isAgg e).run P w = .ok false w)(hz:∀ w,(sizeOf e).run P w = .ok 1 w){xs ys:List Int}(hx:xs.length=n)(hy:ys.length=n) :
  pC P t 2 (.agg (xs.map (Value.int kd)).toArray) (.agg (ys.map (Value.int kd)).toArray) (decide (xs=ys)):=fun d w=>by
 have hm:∀ a b w,(Op.equalIn (d+1) e (.int kd a) (.int kd b)).run P w = .ok (decide (a=b)) w:=fun a b w=>pC.int he d w
 show(Op.equalIn ((d+1)+1) t _ _).run P w=_
 generalize d+1=m at hm
 obtain⟨r,h1,h2⟩:=DG hm ha xs ys (hx.trans hy.symm) w n 0 (by omega)
 simp only[Op.equalIn,Sem.run_bind,run_underlying hu,Result.andThen_ok,hz]
 rw[Std.Legacy.Range.forIn_eq_forIn_range',show([:n].size)=n from by simp[Std.Legacy.Range.size]]
 rw[h1]
 rcases r with ⟨_ | b,_⟩
 ·simp at h2 ⊢;exact h2
 ·simp at h2 ⊢;exact h2
theorem pC.eql{t:TypeId}{k:Nat}{xs ys:Array Value}{b:Bool}(h:pC P t k (.agg xs) (.agg ys) b)(hk:k≤10000)(w:World):(Op.equal t (.agg xs) (.agg ys)).run P w = .ok b w:=h.up hk 0 w
end
section
variable{P:Program}{W:World}{N:Nat}{Q:Exit→Act→World→Prop}{L:List (Nat×Option Value)}{H K:List aa}{O:Array Oper}{T:TypeId}{ks:List Nat}{rest:List Oper}{α:Type}
theorem Y.DH{xT yT:TypeId}{x y:Operand}{xs ys:Array Value}{k:Nat}{b:Bool}(hg:P.eqGuardType P.depth xT=false)(h:pC P xT k (.agg xs) (.agg ys) b)(hk:Nat.ble k 10000=true)(hx:ev L x=some (.agg xs))(hy:ev L y=some (.agg ys)) :
  Y P W N (.binOp .neq xT x y yT) T L H (.bool (!b)) :=
 Y.bin hx hy fun w=>by
  rw[Sem.run_bind,run_eqGuard_agg w .neq xT x y xs ys hg]
  simp only[Result.andThen_ok]
  rw[run_neq_struct,h.up (Nat.le_of_ble_eq_true hk) 0 w];rfl
/-! structs and arrays laid out -/
theorem Y.qO{t:TypeId}(f:List Value)(h:P.built t []=some (f).toArray):Y P W N (.build t #[]) T L H (.agg (f).toArray) :=
 Y.build (vs:=[]) (by simp[evParts]) fun w=>run_build w t _ _ h
theorem Y.jt{t:TypeId}{i1:Nat}{x1:Operand}{v1:Value}(f:Value→List Value)(h1:ev L x1=some v1)(h:P.built t [(i1,v1)]=some (f v1).toArray):Y P W N (.build t #[(i1,x1)]) T L H (.agg (f v1).toArray) :=
 Y.build (vs:=[(i1,v1)]) (by simp[evParts,h1]) fun w=>run_build w t _ _ h
theorem Y.gH{t:TypeId}{i1:Nat}{x1:Operand}{v1:Value}{i2:Nat}{x2:Operand}{v2:Value}(f:Value→Value→List Value)(h1:ev L x1=some v1)(h2:ev L x2=some v2)(h:P.built t [(i1,v1),(i2,v2)]=some (f v1 v2).toArray):Y P W N (.build t #[(i1,x1),(i2,x2)]) T L H (.agg (f v1 v2).toArray) :=
 Y.build (vs:=[(i1,v1),(i2,v2)]) (by simp[evParts,h1,h2]) fun w=>run_build w t _ _ h
theorem Y.IX{t:TypeId}{i1:Nat}{x1:Operand}{v1:Value}{i2:Nat}{x2:Operand}{v2:Value}{i3:Nat}{x3:Operand}{v3:Value}(f:Value→Value→Value→List Value)(h1:ev L x1=some v1)(h2:ev L x2=some v2)(h3:ev L x3=some v3)(h:P.built t [(i1,v1),(i2,v2),(i3,v3)]=some (f v1 v2 v3).toArray):Y P W N (.build t #[(i1,x1),(i2,x2),(i3,x3)]) T L H (.agg (f v1 v2 v3).toArray) :=
 Y.build (vs:=[(i1,v1),(i2,v2),(i3,v3)]) (by simp[evParts,h1,h2,h3]) fun w=>run_build w t _ _ h
theorem Y.BS{t:TypeId}{i1:Nat}{x1:Operand}{v1:Value}{i2:Nat}{x2:Operand}{v2:Value}{i3:Nat}{x3:Operand}{v3:Value}{i4:Nat}{x4:Operand}{v4:Value}(f:Value→Value→Value→Value→List Value)(h1:ev L x1=some v1)(h2:ev L x2=some v2)(h3:ev L x3=some v3)(h4:ev L x4=some v4)(h:P.built t [(i1,v1),(i2,v2),(i3,v3),(i4,v4)]=some (f v1 v2 v3 v4).toArray):Y P W N (.build t #[(i1,x1),(i2,x2),(i3,x3),(i4,x4)]) T L H (.agg (f v1 v2 v3 v4).toArray) :=
 Y.build (vs:=[(i1,v1),(i2,v2),(i3,v3),(i4,v4)]) (by simp[evParts,h1,h2,h3,h4]) fun w=>run_build w t _ _ h
theorem Y.Lw{t:TypeId}{i1:Nat}{x1:Operand}{v1:Value}{i2:Nat}{x2:Operand}{v2:Value}{i3:Nat}{x3:Operand}{v3:Value}{i4:Nat}{x4:Operand}{v4:Value}{i5:Nat}{x5:Operand}{v5:Value}(f:Value→Value→Value→Value→Value→List Value)(h1:ev L x1=some v1)(h2:ev L x2=some v2)(h3:ev L x3=some v3)(h4:ev L x4=some v4)(h5:ev L x5=some v5)(h:P.built t [(i1,v1),(i2,v2),(i3,v3),(i4,v4),(i5,v5)]=some (f v1 v2 v3 v4 v5).toArray):Y P W N (.build t #[(i1,x1),(i2,x2),(i3,x3),(i4,x4),(i5,x5)]) T L H (.agg (f v1 v2 v3 v4 v5).toArray) :=
 Y.build (vs:=[(i1,v1),(i2,v2),(i3,v3),(i4,v4),(i5,v5)]) (by simp[evParts,h1,h2,h3,h4,h5]) fun w=>run_build w t _ _ h
theorem Y.DI{t:TypeId}{i1:Nat}{x1:Operand}{v1:Value}{i2:Nat}{x2:Operand}{v2:Value}{i3:Nat}{x3:Operand}{v3:Value}{i4:Nat}{x4:Operand}{v4:Value}{i5:Nat}{x5:Operand}{v5:Value}{i6:Nat}{x6:Operand}{v6:Value}(f:Value→Value→Value→Value→Value→Value→List Value)(h1:ev L x1=some v1)(h2:ev L x2=some v2)(h3:ev L x3=some v3)(h4:ev L x4=some v4)(h5:ev L x5=some v5)(h6:ev L x6=some v6)(h:P.built t [(i1,v1),(i2,v2),(i3,v3),(i4,v4),(i5,v5),(i6,v6)]=some (f v1 v2 v3 v4 v5 v6).toArray):Y P W N (.build t #[(i1,x1),(i2,x2),(i3,x3),(i4,x4),(i5,x5),(i6,x6)]) T L H (.agg (f v1 v2 v3 v4 v5 v6).toArray) :=
 Y.build (vs:=[(i1,v1),(i2,v2),(i3,v3),(i4,v4),(i5,v5),(i6,v6)]) (by simp[evParts,h1,h2,h3,h4,h5,h6]) fun w=>run_build w t _ _ h
theorem Y.Ly{t:TypeId}{i1:Nat}{x1:Operand}{v1:Value}{i2:Nat}{x2:Operand}{v2:Value}{i3:Nat}{x3:Operand}{v3:Value}{i4:Nat}{x4:Operand}{v4:Value}{i5:Nat}{x5:Operand}{v5:Value}{i6:Nat}{x6:Operand}{v6:Value}{i7:Nat}{x7:Operand}{v7:Value}(f:Value→Value→Value→Value→Value→Value→Value→List Value)(h1:ev L x1=some v1)(h2:ev L x2=some v2)(h3:ev L x3=some v3)(h4:ev L x4=some v4)(h5:ev L x5=some v5)(h6:ev L x6=some v6)(h7:ev L x7=some v7)(h:P.built t [(i1,v1),(i2,v2),(i3,v3),(i4,v4),(i5,v5),(i6,v6),(i7,v7)]=some (f v1 v2 v3 v4 v5 v6 v7).toArray):Y P W N (.build t #[(i1,x1),(i2,x2),(i3,x3),(i4,x4),(i5,x5),(i6,x6),(i7,x7)]) T L H (.agg (f v1 v2 v3 v4 v5 v6 v7).toArray) :=
 Y.build (vs:=[(i1,v1),(i2,v2),(i3,v3),(i4,v4),(i5,v5),(i6,v6),(i7,v7)]) (by simp[evParts,h1,h2,h3,h4,h5,h6,h7]) fun w=>run_build w t _ _ h
def vu(P:Program)(t:TypeId)(n:Nat)(parts:List (Nat×Value)):Option (TypeId×Array Value) :=
 match P.underlying t with
 | some (.slice e)=>match P.info? e with
  | some ie=>match ie.zero with
   | some z=>if n * ie.size>2 ^ 24 then none else
    (Instr.fill (fun i=>some (i * ie.size,ie.size)) ((Array.range (n * ie.size)).map (z.cells[· % z.cells.size]!)) parts).map fun cs=>(e,cs)
   | none=>none
  | none=>none
 | _=>none
theorem rH(w:World){t e:TypeId}{n:Nat}{vs:List (Nat×Value)}{cs:Array Value}(h:vu P t n vs=some (e,cs)):(Instr.buildSlice t n vs.toArray).run P w = .ok (.slice (some ⟨w.heap.size,0,none⟩) n n) (w.alloc (.cells cs e)):=by
 unfold vu at h
 cases hu:P.underlying t with
 | none=>simp[hu] at h
 | some d =>
  cases d <;> try (simp[hu] at h;done)
  rename_i e'
  cases hi:P.info? e' with
  | none=>simp[hu,hi] at h
  | some ie =>
   cases hz:ie.zero with
   | none=>simp[hu,hi,hz] at h
   | some z =>
    simp only[hu,hi,hz] at h
    split at h
    ·cases h
    ·rename_i hb
     cases hf:Instr.fill (fun i=>some (i * ie.size,ie.size)) ((Array.range (n * ie.size)).map (z.cells[· % z.cells.size]!)) vs with
     | none=>rw[hf] at h;cases h
     | some cs' =>
      rw[hf] at h
      simp only[Option.map_some,Option.some.injEq,Prod.mk.injEq] at h
      obtain⟨rfl,rfl⟩:=h
      have hsz:∀ w,(sizeOf e').run P w = .ok ie.size w:=fun w=>by simp[sizeOf,typeInfo,hi]
      have hzv:∀ w,(zeroValue e').run P w = .ok z w:=fun w=>by simp[zeroValue,typeInfo,hi,hz]
      by_cases h0:n * ie.size=0
      ·have:(Array.range (n * ie.size)).map (fun x=>z.cells[x % z.cells.size]!)=(Array.range (n * ie.size)).map (fun x=>(#[]:Array Value)[x % 0]!):=by rw[h0];simp
       rw[this] at hf
       simp[Instr.buildSlice,run_underlying hu,hsz,h0] at hf ⊢
       simp[hf,newRow]
      ·simp[Instr.buildSlice,run_underlying hu,hsz,hb,h0,hzv,hf,newRow]
theorem af.gQ{t:TypeId}{n:Nat}{ps:Array (Nat×Operand)}{pos:String}{after:Array Edge}{guard:Option (Nat×Bool)}{d:Nat}{vs:List (Nat×Value)}(e:TypeId)(hN:Nat.blt d N=true)(hp:evParts L ps.toList=some vs)(h:vu P t n vs=some (e,(vs.flatMap fun p=>p.2.cells.toList).toArray)) :
  af P W N ⟨some d,.buildSlice t n ps,T,pos,after,guard⟩ L H (fun L1 H1=>∃ b,L1=(d,some (.slice (some ⟨b,0,none⟩) n n))::L∧H1=arr b 0 (vs.flatMap fun p=>p.2.cells.toList)::H) :=
 af.buildSlice hN hp fun w=>rH w h
theorem Y.field{S:TypeId}{fs:Array Field}{f:Nat}{x:Operand}{cs:Array Value}{v:Value}(k t:Nat)(hu:P.underlying S=some (.struct fs))(hf:kN fs f k t=true)(ha:∀ w,(isAgg t).run P w = .ok false w)(hx:ev L x=some (.agg cs))(hv:cs[k]?=some v) :
  Y P W N (.field S x f) T L H v:=fun dst pos after guard a w he hs=>by
 simp only[execOp,he.eval hx]
 refine bJ ?_
 unfold kN at hf
 rw[Array.getElem?_toList] at hf
 cases hff:fs[f]? with
 | none=>rw[hff] at hf;cases hf
 | some fd =>
  rw[hff] at hf
  simp at hf
  simp[Instr.field,run_underlying hu,hff,part,hf,ha,hv,asAgg]
/-! effects under a guard, beside which something is unordered -/
theorem bu.Lj{o:Oper}{k:List (Nat×Option Value)→List aa→Prop}{j t:Nat}{want:Bool}(hg:o.guard=some (j,want))(hj:(O[j]?).bind (·.dst)=some t)(ht:look L t=some (.bool want))(hK:∀ w,Sat W w (seps H)→Sat W w (seps K))(hd:af P W N o L H k)
  (hK':∀ L' H',k L' H'→ ∀ w,Sat W w (seps H')→Sat W w (seps K)) (h:∀ L' H',k L' H'→bu P W N K O Q ks rest L' H'):bu P W N K O Q (2::ks) (o::rest) L H:=fun a w ha hs=>by
 simp only[wpKL]
 refine⟨hK w hs,?_⟩
 rw[if_pos (by rw[eh ha hg hj ht];simp[boolOf])]
 exact hd a w ha hs _ fun L' H' hk a' w' ha' hs'=>⟨hK' L' H' hk w' hs',h L' H' hk a' w' ha' hs'⟩
theorem bu.zf{op:Op}{pos:String}{after:Array Edge}{d j t:Nat}{want:Bool}{u:Value}(hj:(O[j]?).bind (·.dst)=some t)(ht:look L t=some u)(hb:(boolOf u == some want)=false)(hN:Nat.blt d N=true)(hK:∀ w,Sat W w (seps H)→Sat W w (seps K))
  (h:bu P W N K O Q ks rest ((d,some undef)::L) H):bu P W N K O Q (2::ks) (⟨some d,op,T,pos,after,some (j,want)⟩::rest) L H:=fun a w ha hs=>by
 simp only[wpKL]
 refine⟨hK w hs,?_⟩
 rw[if_neg (by rw[eh ha rfl hj ht,hb];simp)]
 exact h _ w (ha.put (Nat.blt_eq.mp hN) undef) hs
/-! ### A part of a slice -/
def cut(k lo hi:Nat):Value→Value
 | .slice a _ cap=>.slice (if cap=lo then a else a.map (·.add (lo * k))) (hi-lo) (cap-lo)
 | v=>v
theorem iA.cut{w:World}{enc:α→List Value}{k:Nat}{v:Value}{xs:List α}(h:iA w enc k v xs){lo hi:Nat}(h1:lo≤hi)(h2:hi≤xs.length):iA w enc k (cut k lo hi v) ((xs.take hi).drop lo):=by
 obtain⟨⟨a,cap,rfl,hle,hsp,hnn⟩,hk,hc⟩:=h
 have hl:((xs.take hi).drop lo).length=hi-lo:=by rw[List.length_drop,List.length_take];omega
 refine⟨⟨_,cap-lo,by rw[hl];rfl,by omega,?_,?_⟩,fun x hx=>hk x (List.mem_of_mem_take (List.mem_of_mem_drop hx)),?_⟩
 ·intro b e hne
  have hxs:xs≠[]:=fun e'=>hne (by subst e';simp)
  split at e
  ·exact hsp b e hxs
  ·cases a with
   | none=>cases e
   | some p =>
    have:=hsp p rfl hxs
    obtain⟨pb,po,ps⟩:=p
    simp only at this
    subst this
    simp only[Option.map_some,Option.some.injEq] at e
    rw[dV] at e
    subst e;rfl
 ·intro e
  split at e
  ·have:=hnn e;subst this;simp
  ·cases a with
   | none=>have:=hnn rfl;subst this;simp
   | some p=>cases e
 ·intro i x hx c u hu
  rw[List.getElem?_drop,List.getElem?_take] at hx
  split at hx
  ·rename_i hlt
   have:=hc (lo+i) x hx c u hu
   cases a with
   | none=>have:=hnn rfl;subst this;simp at hx
   | some p =>
    have hs:=hsp p rfl (by intro e';subst e';simp at hx)
    obtain⟨pb,po,ps⟩:=p
    simp only at hs
    subst hs
    have hne:cap≠lo:=by omega
    have he:SLYtefdijgllbkmfaaGreat.cut k lo hi (.slice (some ⟨pb,po,none⟩) xs.length cap) = .slice (some ⟨pb,po+lo * k,none⟩) (hi-lo) (cap-lo):=by
     show Value.slice (if cap=lo then _ else _) _ _=_
     rw[if_neg hne];simp only[Option.map_some,dV]
    rw[he]
    simp only[blk,cC] at this ⊢
    rw[show po+lo * k+i * k+c=po+(lo+i) * k+c from by rw[Nat.add_mul];omega]
    exact this
  ·cases hx
theorem Rd.cut{enc:α→List Value}{k:Nat}{v:Value}{xs:List α}(h:Rd W H enc k v xs){lo hi:Nat}(h1:lo≤hi)(h2:hi≤xs.length):Rd W H enc k (cut k lo hi v) ((xs.take hi).drop lo):=fun w s=>(h w s).cut h1 h2
theorem Y.sliceTo{enc:α→List Value}{k:Nat}{t e:TypeId}{x y:Operand}{v:Value}{xs:List α}{kd:IntKind}{j:Int}(hi:Nat)(hu:P.underlying t=some (.slice e))(hz:∀ w,(sizeOf e).run P w = .ok k w)(hx:ev L x=some v)(hy:ev L y=some (.int kd j))(h:Rd W H enc k v xs)(hj:j=(hi:Int))(hl:hi≤xs.length) :
  Y P W N (.slice t x none (some y) none) T L H (cut k 0 hi v):=fun dst pos after guard a w ha hs=>by
 obtain⟨⟨ad,cap,hv,hle,hsp,hnn⟩,_,_⟩:=h w hs
 subst hj hv
 simp only[execOp,Option.map,ha.eval hx,ha.eval hy]
 refine bJ ?_
 have e1:hi≤cap:=by omega
 simp[Instr.sliceAt,Instr.sureAddr,Instr.slice,run_underlying hu,Instr.sliceBounds,Instr.sliceBound,asIntOf,e1,hz,SLYtefdijgllbkmfaaGreat.cut]
theorem Y.sliceFrom{enc:α→List Value}{k:Nat}{t e:TypeId}{x y:Operand}{v:Value}{xs:List α}{kd:IntKind}{j:Int}(lo:Nat)(hu:P.underlying t=some (.slice e))(hz:∀ w,(sizeOf e).run P w = .ok k w)(hx:ev L x=some v)(hy:ev L y=some (.int kd j))(h:Rd W H enc k v xs)(hj:j=(lo:Int))(hl:lo≤xs.length) :
  Y P W N (.slice t x (some y) none none) T L H (cut k lo xs.length v):=fun dst pos after guard a w ha hs=>by
 obtain⟨⟨ad,cap,hv,hle,hsp,hnn⟩,_,_⟩:=h w hs
 subst hj hv
 simp only[execOp,Option.map,ha.eval hx,ha.eval hy]
 refine bJ ?_
 simp[Instr.sliceAt,Instr.sureAddr,Instr.slice,run_underlying hu,Instr.sliceBounds,Instr.sliceBound,asIntOf,hl,hz,SLYtefdijgllbkmfaaGreat.cut]
end
end Go.SLYtefdijgllbkmfaaGreat
namespace Go.SLYtefdijgllbkmfaaGreat
open Go Go.RowKit
abbrev nM:=aa→Act→World→Prop
def gi(S:nM):Prop:=∀ E a w (cs:List Value) T,S E a w→S (sep E (arr w.heap.size 0 cs)) a (w.alloc (.cells cs.toArray T))
section
variable(P:Program)(O:Array Oper)(C:World→Prop)(Q:Exit→Act→World→Prop)
def cv(o:Oper)(a:Act)(f:Nat→Value)(cs:List Value)(T:TypeId):Prop :=
 Region.wanted o (yielded O a.tmps)=true∧ ∀ w,(execOp a.eval o).run P w = .ok (.value (f w.heap.size)) (w.alloc (.cells cs.toArray T))
def vv(o:Oper)(S:nM):nM:=fun E a w=>∃ a0 v,a=a0.put o.dst v∧S E a0 w∧aV P O C o v a0
def zg(o:Oper)(v:Value)(S:nM):nM:=fun E a w=>∃ a0,a=a0.put o.dst v∧S E a0 w
def kP(o:Oper)(S:nM):nM:=fun E a w=>∃ a0 f cs T b,cv P O o a0 f cs T∧a=a0.put o.dst (f b)∧S (sep E (arr b 0 cs)) a0 w
def wpF(ks:Nat→Nat):List Nat→nM→Prop
 | [],S=>∀ a w,S emp a w→Q .normal a w
 | i::rest,S=>match O[i]? with
  | none=>False
  | some o=>match ks i with
   | 0=>(∀ E a w,S E a w→C w∧ ∃ v,aV P O C o v a)∧wpF ks rest (vv P O C o S)
   | 1=>∃ v,(∀ E a w,S E a w→aV P O (fun w'=>w'=w) o v a)∧wpF ks rest (zg o v S)
   | 4=>(∀ E a w,S E a w→C w∧ ∃ f cs T,cv P O o a f cs T)∧wpF ks rest (kP P O o S)
   | k=>∃ (X:Type) (S':X→nM),(∀ x,gi (S' x))∧
     (∀ E a w,S E a w→(k=2→C w)∧if Region.wanted o (yielded O a.tmps)=true then o.wp P a w (fun a' w'=>(k=2→C w')∧ ∃ x,S' x E a' w') QF else ∃ x,S' x E (a.put o.dst undef) w)∧ ∀ x,wpF ks rest (S' x)
end
def vx(x y:Nat):Bool:=rp x y || (Nat.beq x 0 && Nat.beq y 4) || (Nat.beq x 4 && Nat.beq y 0) || (Nat.beq x 4 && Nat.beq y 4) || (Nat.beq x 2 && Nat.beq y 4)
section
variable{P:Program}{O:Array Oper}{C:World→Prop}{Q:Exit→Act→World→Prop}
theorem gi.vv{o:Oper}{S:nM}(h:gi S):gi (vv P O C o S):=fun E _a w cs T ⟨a0,v,e,hs,hy⟩=>⟨a0,v,e,h E a0 w cs T hs,hy⟩
theorem gi.zg{o:Oper}{v:Value}{S:nM}(h:gi S):gi (zg o v S):=fun E _a w cs T ⟨a0,e,hs⟩=>⟨a0,e,h E a0 w cs T hs⟩
theorem lL(A B D:aa):sep (sep A B) D=sep (sep A D) B:=by rw[aN,ib B D, ← aN]
theorem gi.kP{o:Oper}{S:nM}(h:gi S):gi (kP P O o S):=fun E a w cs T ⟨a0,f,cs',T',b,hf,e,hs⟩ =>
 ⟨a0,f,cs',T',b,hf,e,by rw[lL];exact h _ a0 w cs T hs⟩
theorem BT{o:Oper}{S T:nM}(h:∀ E a w,T E a w→S E a w):∀ E a w,vv P O C o T E a w→vv P O C o S E a w:=fun _E _a _w ⟨a0,v,e,hs,hy⟩=>⟨a0,v,e,h _ _ _ hs,hy⟩
theorem BU{o:Oper}{v:Value}{S T:nM}(h:∀ E a w,T E a w→S E a w):∀ E a w,zg o v T E a w→zg o v S E a w:=fun _E _a _w ⟨a0,e,hs⟩=>⟨a0,e,h _ _ _ hs⟩
theorem xe{o:Oper}{S T:nM}(h:∀ E a w,T E a w→S E a w):∀ E a w,kP P O o T E a w→kP P O o S E a w:=fun _E _a _w ⟨a0,f,cs,T',b,hf,e,hs⟩=>⟨a0,f,cs,T',b,hf,e,h _ _ _ hs⟩
theorem dW{ks:Nat→Nat}:∀ (l:List Nat) {S T:nM},(∀ E a w,T E a w→S E a w)→wpF P O C Q ks l S→wpF P O C Q ks l T
 | [],S,T,h,hh=>fun a w ht=>hh a w (h _ _ _ ht)
 | i::l,S,T,h,hh=>by
  cases ho:O[i]? with
  | none=>simp only[wpF,ho] at hh
  | some o =>
   simp only[wpF,ho] at hh ⊢
   split at hh
   ·exact⟨fun E a w ht=>hh.1 E a w (h _ _ _ ht),dW l (BT h) hh.2⟩
   ·obtain⟨v,h1,h2⟩:=hh;exact⟨v,fun E a w ht=>h1 E a w (h _ _ _ ht),dW l (BU h) h2⟩
   ·exact⟨fun E a w ht=>hh.1 E a w (h _ _ _ ht),dW l (xe h) hh.2⟩
   ·obtain⟨X,S',h1,h2,h3⟩:=hh
    exact⟨X,S',h1,fun E a w ht=>h2 E a w (h _ _ _ ht),h3⟩
theorem DJ{ks:Nat→Nat}{i:Nat}{l l':List Nat}(h:∀ S,gi S→wpF P O C Q ks l S→wpF P O C Q ks l' S){S:nM}(hg:gi S)(hh:wpF P O C Q ks (i::l) S):wpF P O C Q ks (i::l') S:=by
 cases ho:O[i]? with
 | none=>simp only[wpF,ho] at hh
 | some o =>
  simp only[wpF,ho] at hh ⊢
  split at hh
  ·exact⟨hh.1,h _ hg.vv hh.2⟩
  ·obtain⟨v,h1,h2⟩:=hh;exact⟨v,h1,h _ hg.zg h2⟩
  ·exact⟨hh.1,h _ hg.kP hh.2⟩
  ·obtain⟨X,S',h1,h2,h3⟩:=hh
   exact⟨X,S',h1,h2,fun x=>h _ (h1 x) (h3 x)⟩
theorem cv.put{o o':Oper}{a:Act}{f:Nat→Value}{cs:List Value}{T:TypeId}(hs:∀ cs b,o.op≠.select cs b)(u:Value)(h:∀ d,o'.dst=some d→d ∉ o.looksAt O) :
  cv P O o (a.put o'.dst u) f cs T↔cv P O o a f cs T:=by
 unfold cv
 rw[execOp_put o hs a _ u h,wanted_put o a _ u h]
theorem cv.dC{o:Oper}{a:Act}{f:Nat→Value}{cs:List Value}{T:TypeId}(ds:List Deferred):cv P O o (SLYtefdijgllbkmfaaGreat.dC a ds) f cs T↔cv P O o a f cs T:=by
 have e:(SLYtefdijgllbkmfaaGreat.dC a ds).eval=a.eval:=by funext x;cases x <;> rfl
 unfold cv
 rw[e];rfl
theorem DK{ks:Nat→Nat}{i j:Nat}{oi oj:Oper}{rest:List Nat}(hi:O[i]?=some oi)(hj:O[j]?=some oj)(hsi:∀ cs b,oi.op≠.select cs b)(hsj:∀ cs b,oj.op≠.select cs b)
  (hap:oi.apart O oj=true) (hk:vx (ks i) (ks j)=true) (hC:∀ w (cs:List Value) T,C w→C (w.alloc (.cells cs.toArray T))) {S:nM} (hg:gi S) (hh:wpF P O C Q ks (i::j::rest) S):wpF P O C Q ks (j::i::rest) S:=by
 obtain⟨h1,h2,h3⟩:=Oper.apart_spec hap
 have keepi:∀ {C':World→Prop} {v:Value} {a:Act} (u:Value),aV P O C' oi v a→aV P O C' oi v (a.put oj.dst u):=fun {C' v a} u hy=>hy.kept (o':=oj) hsi a.defers u h3
 have keepj:∀ {C':World→Prop} {v:Value} {a:Act} (u:Value),aV P O C' oj v (a.put oi.dst u)→aV P O C' oj v a:=fun {C' v a} u hy=>aV.back (o':=oi) hsj a.defers u h1 hy
 have backi:∀ {C':World→Prop} {v:Value} {a:Act} (u:Value),aV P O C' oi v (a.put oj.dst u)→aV P O C' oi v a:=fun {C' v a} u hy=>aV.back (o':=oj) hsi a.defers u h3 hy
 have putj:∀ {C':World→Prop} {v:Value} {a:Act} (u:Value),aV P O C' oj v a→aV P O C' oj v (a.put oi.dst u):=fun {C' v a} u hy=>hy.kept (o':=oi) hsj a.defers u h1
 simp only[wpF,hi,hj] at hh ⊢
 generalize ks i=ki at *
 generalize ks j=kj at *
 match ki,kj,hk with
 | 0,0,_ =>
  obtain⟨y1,y2,hr⟩:=hh
  refine⟨fun E a w hs=>?_,fun E a w ⟨a0,v,e,hs,hy⟩=>?_,dW rest ?_ hr⟩
  ·obtain⟨c1,v1,z1⟩:=y1 E a w hs
   obtain⟨_,v2,z2⟩:=y2 E _ w ⟨a,v1,rfl,hs,z1⟩
   exact⟨c1,v2,keepj _ z2⟩
  ·subst e
   obtain⟨c1,v1,z1⟩:=y1 E a0 w hs
   exact⟨c1,v1,keepi _ z1⟩
  ·rintro E a w ⟨a1,v1,rfl,⟨a0,v2,rfl,hs,z2⟩,z1⟩
   exact⟨a0.put oi.dst v1,v2,(cK a0 v1 v2 h2).symm,⟨a0,v1,rfl,hs,backi _ z1⟩,putj _ z2⟩
 | 0,1,_ =>
  obtain⟨y1,v2,y2,hr⟩:=hh
  refine⟨v2,fun E a w hs=>?_,fun E a w ⟨a0,e,hs⟩=>?_,dW rest ?_ hr⟩
  ·obtain⟨c1,v1,z1⟩:=y1 E a w hs
   exact keepj _ (y2 E _ w ⟨a,v1,rfl,hs,z1⟩)
  ·subst e
   obtain⟨c1,v1,z1⟩:=y1 E a0 w hs
   exact⟨c1,v1,keepi _ z1⟩
  ·rintro E a w ⟨a1,v1,rfl,⟨a0,rfl,hs⟩,z1⟩
   exact⟨a0.put oi.dst v1,(cK a0 v1 v2 h2).symm,⟨a0,v1,rfl,hs,backi _ z1⟩⟩
 | 1,0,_ =>
  obtain⟨v1,y1,y2,hr⟩:=hh
  refine⟨fun E a w hs=>?_,v1,fun E a w ⟨a0,v,e,hs,hy⟩=>?_,dW rest ?_ hr⟩
  ·obtain⟨c2,v2,z2⟩:=y2 E _ w ⟨a,rfl,hs⟩
   exact⟨c2,v2,keepj _ z2⟩
  ·subst e
   exact keepi _ (y1 E a0 w hs)
  ·rintro E a w ⟨a1,rfl,⟨a0,v2,rfl,hs,z2⟩⟩
   exact⟨a0.put oi.dst v1,v2,(cK a0 v1 v2 h2).symm,⟨a0,rfl,hs⟩,putj _ z2⟩
 | 1,1,_ =>
  obtain⟨v1,y1,v2,y2,hr⟩:=hh
  refine⟨v2,fun E a w hs=>keepj _ (y2 E _ w ⟨a,rfl,hs⟩),v1,fun E a w ⟨a0,e,hs⟩=>?_,dW rest ?_ hr⟩
  ·subst e
   exact keepi _ (y1 E a0 w hs)
  ·rintro E a w ⟨a1,rfl,⟨a0,rfl,hs⟩⟩
   exact⟨a0.put oi.dst v1,(cK a0 v1 v2 h2).symm,⟨a0,rfl,hs⟩⟩
 | 0,4,_ =>
  obtain⟨y1,y2,hr⟩:=hh
  refine⟨fun E a w hs=>?_,fun E a w ⟨a0,f,cs,T,b,hf,e,hs⟩=>?_,dW rest ?_ hr⟩
  ·obtain⟨c1,v1,z1⟩:=y1 E a w hs
   obtain⟨_,f,cs,T,z2⟩:=y2 E _ w ⟨a,v1,rfl,hs,z1⟩
   exact⟨c1,f,cs,T,(cv.put hsj v1 h1).1 z2⟩
  ·subst e
   obtain⟨c1,v1,z1⟩:=y1 _ a0 w hs
   exact⟨c1,v1,keepi _ z1⟩
  ·rintro E a w ⟨a1,v1,rfl,⟨a0,f,cs,T,b,hf,rfl,hs⟩,z1⟩
   exact⟨a0.put oi.dst v1,f,cs,T,b,(cv.put hsj v1 h1).2 hf,(cK a0 v1 (f b) h2).symm,⟨a0,v1,rfl,hs,backi _ z1⟩⟩
 | 4,0,_ =>
  obtain⟨y1,y2,hr⟩:=hh
  refine⟨fun E a w hs=>?_,fun E a w ⟨a0,v,e,hs,hy⟩=>?_,dW rest ?_ hr⟩
  ·obtain⟨c1,f,cs,T,z1⟩:=y1 E a w hs
   obtain⟨_,v2,z2⟩:=y2 E _ _ ⟨a,f,cs,T,w.heap.size,z1,rfl,hg E a w cs T hs⟩
   exact⟨c1,v2,keepj _ z2⟩
  ·subst e
   obtain⟨c1,f,cs,T,z1⟩:=y1 E a0 w hs
   exact⟨c1,f,cs,T,(cv.put hsi v h3).2 z1⟩
  ·rintro E a w ⟨a1,f,cs,T,b,hf,rfl,⟨a0,v2,rfl,hs,z2⟩⟩
   exact⟨a0.put oi.dst (f b),v2,(cK a0 (f b) v2 h2).symm,⟨a0,f,cs,T,b,(cv.put hsi v2 h3).1 hf,rfl,hs⟩,putj _ z2⟩
 | 4,4,_ =>
  obtain⟨y1,y2,hr⟩:=hh
  refine⟨fun E a w hs=>?_,fun E a w ⟨a0,f,cs,T,b,hf,e,hs⟩=>?_,dW rest ?_ hr⟩
  ·obtain⟨c1,f,cs,T,z1⟩:=y1 E a w hs
   obtain⟨_,f2,cs2,T2,z2⟩:=y2 E _ _ ⟨a,f,cs,T,w.heap.size,z1,rfl,hg E a w cs T hs⟩
   exact⟨c1,f2,cs2,T2,(cv.put hsj (f w.heap.size) h1).1 z2⟩
  ·subst e
   obtain⟨c1,f1,cs1,T1,z1⟩:=y1 _ a0 w hs
   exact⟨c1,f1,cs1,T1,(cv.put hsi (f b) h3).2 z1⟩
  ·rintro E a w ⟨a1,f1,cs1,T1,b1,hf1,rfl,⟨a0,f2,cs2,T2,b2,hf2,rfl,hs⟩⟩
   exact⟨a0.put oi.dst (f1 b1),f2,cs2,T2,b2,(cv.put hsj (f1 b1) h1).2 hf2,(cK a0 (f1 b1) (f2 b2) h2).symm,
    ⟨a0,f1,cs1,T1,b1,(cv.put hsi (f2 b2) h3).1 hf1,rfl,by rw[lL];exact hs⟩⟩
 | 2,0,_ =>
  obtain⟨X,S',g1,y1,hx⟩:=hh
  refine⟨fun E a w hs=>?_,X,fun x=>vv P O C oj (S' x),fun x=>(g1 x).vv,fun E a w ⟨a0,v,e,hs,hy⟩=>?_,fun x=>(hx x).2⟩
  ·obtain⟨c1,z⟩:=y1 E a w hs
   refine⟨c1 rfl,?_⟩
   split at z
   ·obtain⟨ds,u,w',_,x,sx⟩:=vo z
    obtain⟨_,v,y⟩:=(hx x).1 E _ w' sx
    exact⟨v,y.back hsj ds u h1⟩
   ·obtain⟨x,sx⟩:=z
    obtain⟨_,v,y⟩:=(hx x).1 E _ w sx
    exact⟨v,keepj _ y⟩
  ·subst e
   obtain⟨c1,z⟩:=y1 E a0 w hs
   refine⟨fun _=>c1 rfl,?_⟩
   rw[wanted_put oi a0 oj.dst v h3]
   split at z
   ·rename_i hw
    rw[if_pos hw]
    refine jx (execOp_put oi hsi a0 oj.dst v h3) (by cases oj.dst <;> rfl) (fun ds u w' ⟨x,y,sx⟩=>⟨x,y,(dC a0 ds).put oi.dst u,v,?_,sx,hy.kept hsj ds u h1⟩) z
    rw[dG,dG,dG,cK a0 u v h2]
   ·rename_i hw
    rw[if_neg hw]
    obtain⟨x,sx⟩:=z
    exact⟨x,a0.put oi.dst undef,v,(cK a0 undef v h2).symm,sx,putj _ hy⟩
 | 0,2,_ =>
  obtain⟨y1,X,S',g1,y2,hx⟩:=hh
  refine⟨X,fun x E a w=>C w∧ ∃ v1,aV P O C oi v1 a∧S' x E (a.put oi.dst v1) w,fun x E a w cs T ⟨c,v1,y,hs⟩=>⟨hC _ _ _ c,v1,y,g1 x _ _ _ _ _ hs⟩,fun E a w hs=>?_,fun x=>⟨fun E a w ⟨c,v1,y,_⟩=>⟨c,v1,y⟩,dW rest ?_ (hx x)⟩⟩
  ·obtain⟨c1,v1,z1⟩:=y1 E a w hs
   obtain⟨_,z⟩:=y2 E _ w ⟨a,v1,rfl,hs,z1⟩
   refine⟨fun _=>c1,?_⟩
   rw[wanted_put oj a oi.dst v1 h1] at z
   split at z
   ·rename_i hw
    rw[if_pos hw]
    refine jx (execOp_put oj hsj a oi.dst v1 h1).symm (by cases oi.dst <;> rfl) (fun ds u w' ⟨c,x,sx⟩=>⟨c,x,c rfl,v1,z1.kept hsi ds u h3,?_⟩) z
    rw[dG,cK a v1 u h2] at sx
    rw[dG,dG]
    exact sx
   ·rename_i hw
    rw[if_neg hw]
    obtain⟨x,sx⟩:=z
    exact⟨x,c1,v1,keepi _ z1,by rw[← cK a v1 undef h2];exact sx⟩
  ·rintro E a w ⟨a0,v,rfl,⟨c,v1,y,hs⟩,hy⟩
   obtain rfl:=y.unique c hy
   exact hs
 | 2,4,_ =>
  obtain⟨X,S',g1,y1,hx⟩:=hh
  refine⟨fun E a w hs=>?_,X,fun x=>kP P O oj (S' x),fun x=>(g1 x).kP,fun E a w ⟨a0,f,cs,T,b,hf,e,hs⟩=>?_,fun x=>(hx x).2⟩
  ·obtain⟨c1,z⟩:=y1 E a w hs
   refine⟨c1 rfl,?_⟩
   split at z
   ·obtain⟨ds,u,w',_,x,sx⟩:=vo z
    obtain⟨_,f,cs,T,y⟩:=(hx x).1 E _ w' sx
    exact⟨f,cs,T,(cv.dC ds).1 ((cv.put hsj u h1).1 y)⟩
   ·obtain⟨x,sx⟩:=z
    obtain⟨_,f,cs,T,y⟩:=(hx x).1 E _ w sx
    exact⟨f,cs,T,(cv.put hsj undef h1).1 y⟩
  ·subst e
   obtain⟨c1,z⟩:=y1 _ a0 w hs
   refine⟨fun _=>c1 rfl,?_⟩
   rw[wanted_put oi a0 oj.dst (f b) h3]
   split at z
   ·rename_i hw
    rw[if_pos hw]
    refine jx (execOp_put oi hsi a0 oj.dst (f b) h3) (by cases oj.dst <;> rfl) (fun ds u w' ⟨x,y,sx⟩=>⟨x,y,(dC a0 ds).put oi.dst u,f,cs,T,b,(cv.put hsj u h1).2 ((cv.dC ds).2 hf),?_,sx⟩) z
    rw[dG,dG,dG,cK a0 u (f b) h2]
   ·rename_i hw
    rw[if_neg hw]
    obtain⟨x,sx⟩:=z
    exact⟨x,a0.put oi.dst undef,f,cs,T,b,(cv.put hsj undef h1).2 hf,(cK a0 undef (f b) h2).symm,sx⟩
theorem rI{ks:Nat→Nat}{i:Nat}{oi:Oper}(hi:O[i]?=some oi)(hsel:∀ (j:Nat) (o:Oper) cs b,O[j]?=some o→o.op≠.select cs b)(hC:∀ w (cs:List Value) T,C w→C (w.alloc (.cells cs.toArray T)))(post:List Nat) :
  ∀ (pre:List Nat) {S:nM},gi S→(∀ j∈pre, ∃ oj,O[j]?=some oj∧oj.apart O oi=true∧vx (ks j) (ks i)=true)→wpF P O C Q ks (pre++i::post) S→wpF P O C Q ks (i::(pre++post)) S
 | [],_,_,_,h=>h
 | j::pre,S,hg,hp,h=>by
  obtain⟨oj,hj,hap,hc⟩:=hp j (List.mem_cons_self ..)
  have h':wpF P O C Q ks (j::i::(pre++post)) S:=DJ (fun S hg=>rI hi hsel hC post pre hg (fun x hx=>hp x (List.mem_cons_of_mem _ hx))) hg h
  exact DK hj hi (fun cs b=>hsel j oj cs b hj) (fun cs b=>hsel i oi cs b hi) hap hc hC hg h'
theorem xf{ks:Nat→Nat}{i:Nat}{o:Oper}(ho:O[i]?=some o){l:List Nat}{S:nM}(hg:gi S){a:Act}{w:World}(hs:S emp a w){K:Act→World→Prop}(h:∀ S',gi S'→wpF P O C Q ks l S'→ ∀ a w,S' emp a w→K a w)
  (hh:wpF P O C Q ks (i::l) S):wpOp P O Q i K a w:=by
 simp only[wpF,ho] at hh
 unfold wpOp
 rw[ho]
 simp only
 have yl:∀ {C':World→Prop} {v:Value},C' w→aV P O C' o v a→K (a.put o.dst v) w→(if Region.wanted o (yielded O a.tmps)=true then o.wp P a w K Q∨(o.asks P a w∧LetsOut Q) else K (a.put o.dst undef) w):=fun {C' v} hc hy hr=>by
  rcases hy with ⟨hw,hy⟩ | ⟨hw,rfl⟩
  ·rw[if_pos hw]
   left
   unfold Oper.wp
   rw[hy w hc]
   exact hr
  ·rw[if_neg (by rw[hw];simp)]
   exact hr
 split at hh
 ·obtain⟨y,hr⟩:=hh
  obtain⟨c,v,z⟩:=y emp a w hs
  exact yl c z (h _ hg.vv hr _ _ ⟨a,v,rfl,hs,z⟩)
 ·obtain⟨v,y,hr⟩:=hh
  exact yl (C':=fun w'=>w'=w) rfl (y emp a w hs) (h _ hg.zg hr _ _ ⟨a,rfl,hs⟩)
 ·obtain⟨y,hr⟩:=hh
  obtain⟨c,f,cs,T,z⟩:=y emp a w hs
  rw[if_pos z.1]
  left
  unfold Oper.wp
  rw[z.2 w]
  exact h _ hg.kP hr _ _ ⟨a,f,cs,T,w.heap.size,z,rfl,hg emp a w cs T hs⟩
 ·obtain⟨X,S',g1,y,hr⟩:=hh
  obtain⟨_,z⟩:=y emp a w hs
  split at z
  ·rename_i hw
   rw[if_pos hw]
   exact .inl (jx rfl rfl (fun ds u w' ⟨_,x,sx⟩=>h _ (g1 x) (hr x) _ _ sx) z)
  ·rename_i hw
   rw[if_neg hw]
   obtain⟨x,sx⟩:=z
   exact h _ (g1 x) (hr x) _ _ sx
/-! ### The order of the walk -/
def xg(O:Array Oper)(ks ms:List Nat)(j i:Nat):Bool:=match O[j]?,O[i]? with
 | some oj,some oi=>(oj.after.toList.all fun e => !Region.binds .any e || !Nat.beq e.on i) && ((ms.getD (O.size-1-i) 0).testBit j || (oj.apart O oi && vx (ks.getD j 1) (ks.getD i 1)))
 | _,_=>false
def ordF(O:Array Oper)(ks ms:List Nat):List Nat→Bool
 | []=>true
 | j::r=>r.all (fun i=>xg O ks ms j i && !Nat.beq j i) && ordF O ks ms r
def lowsB:List Oper→Nat→Bool
 | [],_=>true
 | o::r,k=>rr o k && lowsB r (k+1)
def regionF(l:List Oper)(ks σ:List Nat):Bool :=
 Region.noSelect l.toArray && lowsB l 0 && ordF l.toArray ks (masks l 0 []) σ && (List.range l.length).all (fun i=>σ.elem i) && σ.all (fun i=>Nat.blt i l.length)
theorem rJ:∀ {l:List Oper} {k:Nat},lowsB l k=true→ ∀ j o,l[j]?=some o→rr o (k+j)=true
 | [],_,_,_,_,h=>by simp at h
 | x::l,k,hB,j,o,h=>by
  simp only[lowsB,Bool.and_eq_true] at hB
  cases j with
  | zero=>simp at h;subst h;exact hB.1
  | succ j =>
   have:=rJ hB.2 j o (by simpa using h)
   rwa [show k+1+j=k+(j+1) from by omega] at this
theorem tQ{ks ms:List Nat}:∀ {σ:List Nat},ordF O ks ms σ=true→σ.Pairwise (fun j i=>xg O ks ms j i=true∧j≠i)
 | [],_=>List.Pairwise.nil
 | j::r,h=>by
  simp only[ordF,Bool.and_eq_true,List.all_eq_true,Bool.not_eq_true'] at h
  refine List.Pairwise.cons (fun i hi=>⟨(h.1 i hi).1,fun e=>?_⟩) (tQ h.2)
  have:=(h.1 i hi).2
  subst e
  simp at this
theorem nN{ks ms:List Nat}(hsel:∀ (j:Nat) (o:Oper) cs b,O[j]?=some o→o.op≠.select cs b)(hC:∀ w (cs:List Value) T,C w→C (w.alloc (.cells cs.toArray T)))
  (hlow:∀ j o,O[j]?=some o→rr o j=true) (hm:∀ i,i<O.size→ru O i (ms.getD (O.size-1-i) 0)) :
  ∀ (n:Nat) (l:List Nat) (listed:Array Bool) (S:nM) (a:Act) (w:World),l.length=n→l.Pairwise (fun j i=>xg O ks ms j i=true∧j≠i)→(∀ i,i∈l↔listed.getD i true=false)→listed.size=O.size→qW O listed→
   gi S→wpF P O C Q (fun i=>ks.getD i 1) l S→S emp a w→wpAny P .any O Q n listed a w
 | 0,l,listed,S,a,w,hn,_,hl,hsz,_,_,h,hs0=>by
  obtain rfl:l=[]:=List.eq_nil_of_length_eq_zero hn
  refine⟨?_,h a w hs0⟩
  cases hr:Region.ready .any O listed with
  | nil=>rfl
  | cons x xs =>
   have:x∈Region.ready .any O listed:=by rw[hr];exact List.mem_cons_self ..
   have:=(hl x).2 (mem_ready.1 this).1
   cases this
 | n+1,l,listed,S,a,w,hn,hs,hl,hsz,hc,hg,h,hs0=>by
  refine⟨fun hr=>?_,fun i hi=>?_⟩
  ·exfalso
   cases l with
   | nil=>simp at hn
   | cons x l =>
    have hx:=(hl x).1 (List.mem_cons_self ..)
    have hxs:x<O.size:=by
     rcases Nat.lt_or_ge x O.size with h' | h'
     ·exact h'
     ·rw[Array.getD_eq_getD_getElem?,Array.getElem?_eq_none (by omega)] at hx;cases hx
    have ho:O[x]?=some O[x]:=by simp[hxs]
    have:x∈Region.ready .any O listed:=mem_ready.2 ⟨hx,_,ho,fun e he hb=>by
     have h1:=hlow x _ ho
     unfold rr at h1
     have h1:=List.all_eq_true.1 h1 e (by simpa using he)
     simp only[hb,Bool.not_true,Bool.false_or] at h1
     have h1:e.on<x:=by simpa using Nat.blt_eq.mp h1
     cases h2:listed.getD e.on true with
     | false =>
      have:=(hl e.on).2 h2
      cases List.mem_cons.1 this with
      | inl e'=>omega
      | inr e' =>
       have h5:=((List.pairwise_cons.1 hs).1 _ e').1
       have ho2:O[e.on]?=some O[e.on]:=by simp[show e.on<O.size by omega]
       unfold xg at h5
       rw[ho,ho2] at h5
       simp only[Bool.and_eq_true] at h5
       have h6:=List.all_eq_true.1 h5.1 e (by simpa using he)
       simp[hb] at h6
     | true =>
      have h3:e.on<listed.size:=by omega
      simp[h3] at h2 ⊢
      exact h2⟩
    rw[hr] at this
    cases this
  ·obtain⟨hun,oi,hoi,hall⟩:=mem_ready.1 hi
   have himem:=(hl i).2 hun
   obtain⟨pre,post,rfl⟩:=List.append_of_mem himem
   have hiS:i<O.size:=(Array.getElem?_eq_some_iff.1 hoi).1
   have hpw:=List.pairwise_append.1 hs
   have hb:=rI hoi hsel hC post pre hg (fun j hj=>by
    have hji:=(hpw.2.2 j hj i (List.mem_cons_self ..)).1
    unfold xg at hji
    rw[hoi] at hji
    cases hoj:O[j]? with
    | none=>rw[hoj] at hji;cases hji
    | some oj =>
     rw[hoj] at hji
     simp only[Bool.and_eq_true,Bool.or_eq_true] at hji
     rcases hji.2 with h1 | h1
     ·have h2:=hm i hiS oi listed hoi hc hall j h1
      have h3:=(hl j).1 (List.mem_append_left _ hj)
      have hjs:j<O.size:=(Array.getElem?_eq_some_iff.1 hoj).1
      have h4:j<listed.size:=by omega
      simp[h4] at h2 h3
      rw[h2] at h3;cases h3
     ·exact⟨oj,rfl,h1.1,h1.2⟩) h
   refine xf hoi hg hs0 (fun S' hg' h' a' w' hs'=>?_) hb
   have hne:∀ x∈pre++post,x≠i:=fun x hx e=>by
    subst e
    rcases List.mem_append.1 hx with h1 | h1
    ·exact(hpw.2.2 x h1 x (List.mem_cons_self ..)).2 rfl
    ·exact((List.pairwise_cons.1 hpw.2.1).1 x h1).2 rfl
   refine nN hsel hC hlow hm n (pre++post) _ S' a' w' (by simp at hn ⊢;omega) ?_ ?_ (by simp[hsz]) ?_ hg' h' hs'
   ·exact List.pairwise_append.2 ⟨hpw.1,(List.pairwise_cons.1 hpw.2.1).2,fun x hx y hy=>hpw.2.2 x hx y (List.mem_cons_of_mem _ hy)⟩
   ·intro x
    by_cases e:i=x
    ·subst e
     have h4:i<listed.size:=by omega
     constructor
     ·intro hx;exact absurd rfl (hne i hx)
     ·intro hx;simp[h4] at hx
    ·rw[getD_set_ne true e, ← hl x]
     simp[List.mem_append,List.mem_cons,Ne.symm e]
   ·intro j oj hj hlj e he hb'
    by_cases e':i=j
    ·subst e'
     have:oj=oi:=Option.some.inj (hj.symm.trans hoi)
     subst this
     exact getD_set_true (hall e he hb')
    ·rw[getD_set_ne false e'] at hlj
     exact getD_set_true (hc j oj hj hlj e he hb')
theorem xh{id:Nat}{l:List Oper}{a:Act}{w:World}(ks σ:List Nat)(hm:P.follows .mixedOrders=true)(hB:regionF l ks σ=true)(hC:∀ w (cs:List Value) T,C w→C (w.alloc (.cells cs.toArray T))){S:nM}(hg:gi S)
  (hs:S emp a {w with drawn:=w.drawn+1 }) (h:wpF P l.toArray C Q (fun i=>ks.getD i 1) σ S):(Code.region id l.toArray true).wp P Q a w:=by
 simp only[regionF,Bool.and_eq_true,List.all_eq_true] at hB
 obtain⟨⟨⟨⟨b1,b2⟩,b3⟩,b4⟩,b5⟩:=hB
 refine wp_region_any hm ?_
 have hlow:∀ j o,(l.toArray)[j]?=some o→rr o j=true:=fun j o ho=>by simpa using rJ b2 j o (by simpa using ho)
 have hms:=rz l.toArray l 0 [] (by simp) rfl (fun i hi=>by omega) (fun j o ho=>by have:=hlow j o (by simpa using ho);simpa using this) (Nat.zero_le _)
 have hp:=tQ b3
 have hnd:σ.Nodup:=hp.imp fun h=>h.2
 have hmem:∀ i,i∈σ↔i<l.length:=fun i=>⟨fun hi=>Nat.blt_eq.mp (b5 i hi),fun hi=>by
  have:=b4 i (List.mem_range.2 hi)
  simpa using this⟩
 have hlen:σ.length=l.length:=by
  have:σ.Perm (List.range l.length):=(List.perm_ext_iff_of_nodup hnd List.nodup_range).2 (fun i=>by rw[hmem,List.mem_range])
  rw[this.length_eq,List.length_range]
 have hw:=nN (ks:=ks) (ms:=masks l 0 []) (Region.noSelect_spec b1) hC hlow (fun i hi=>by simpa using hms i (by simpa using hi))
  l.toArray.size σ (Array.replicate l.toArray.size false) S a _ (by simp[hlen]) hp ?_ (by simp) (fun j oj hj hlj=>?_) hg h hs
 ·exact hw
 ·intro i
  rw[hmem]
  by_cases hi:i<l.length
  ·simp[hi]
  ·simp[hi]
 ·have key:∀ m j:Nat,(Array.replicate m false).getD j false=false:=fun m j=>by
   rw[Array.getD_eq_getD_getElem?,Array.getElem?_replicate]
   split <;> rfl
  rw[key] at hlj;cases hlj
end
end Go.SLYtefdijgllbkmfaaGreat
namespace Go.SLYtefdijgllbkmfaaGreat
open Go Go.RowKit
section
variable{P:Program}{O:Array Oper}{C:World→Prop}{Q:Exit→Act→World→Prop}
theorem vy{o:Oper}{k:Nat}{X:Type}{S:X→nM}{R:nM→Prop} (h:∀ x, ∃ (Y:Type) (S':Y→nM),(∀ y,gi (S' y))∧
   (∀ E a w,S x E a w→(k=2→C w)∧if Region.wanted o (yielded O a.tmps)=true then o.wp P a w (fun a' w'=>(k=2→C w')∧ ∃ y,S' y E a' w') QF else ∃ y,S' y E (a.put o.dst undef) w)∧ ∀ y,R (S' y)) :
  ∃ (Y:Type) (S':Y→nM),(∀ y,gi (S' y))∧
   (∀ E a w,(∃ x,S x E a w)→(k=2→C w)∧if Region.wanted o (yielded O a.tmps)=true then o.wp P a w (fun a' w'=>(k=2→C w')∧ ∃ y,S' y E a' w') QF else ∃ y,S' y E (a.put o.dst undef) w)∧ ∀ y,R (S' y):=by
 classical
 refine⟨(x:X)×Classical.choose (h x),fun p=>Classical.choose (Classical.choose_spec (h p.1)) p.2,fun p=>(Classical.choose_spec (Classical.choose_spec (h p.1))).1 p.2,fun E a w ⟨x,hs⟩=>?_,
  fun p=>(Classical.choose_spec (Classical.choose_spec (h p.1))).2.2 p.2⟩
 obtain⟨h1,h2⟩:=(Classical.choose_spec (Classical.choose_spec (h x))).2.1 E a w hs
 refine⟨h1,?_⟩
 split at h2
 ·rename_i hw
  rw[if_pos hw]
  exact Oper.wp_mono (fun a w ⟨c,y,sy⟩=>⟨c,⟨x,y⟩,sy⟩) h2
 ·rename_i hw
  rw[if_neg hw]
  obtain⟨y,sy⟩:=h2
  exact⟨⟨x,y⟩,sy⟩
theorem DL{ks:Nat→Nat}:∀ (l:List Nat),(∀ i∈l,ks i≠1)→ ∀ {X:Type} [Nonempty X] {S:X→nM},(∀ x,wpF P O C Q ks l (S x))→wpF P O C Q ks l (fun E a w=>∃ x,S x E a w)
 | [],_,X,_,S,h=>fun a w ⟨x,hs⟩=>h x a w hs
 | i::l,hk,X,hX,S,h=>by
  have ih:=fun {X:Type} [Nonempty X] {S:X→nM}=>DL l (fun j hj=>hk j (List.mem_cons_of_mem _ hj)) (X:=X) (S:=S)
  have hi:=hk i (List.mem_cons_self ..)
  cases ho:O[i]? with
  | none =>
   obtain⟨x⟩:=hX
   have:=h x
   simp only[wpF,ho] at this
  | some o =>
   simp only[wpF,ho] at h ⊢
   generalize ks i=k at *
   match k,hi with
   | 0,_ =>
    refine⟨fun E a w ⟨x,hs⟩=>(h x).1 E a w hs,dW l ?_ (ih (fun x=>(h x).2))⟩
    rintro E a w ⟨a0,v,e,⟨x,hs⟩,hy⟩
    exact⟨x,a0,v,e,hs,hy⟩
   | 4,_ =>
    refine⟨fun E a w ⟨x,hs⟩=>(h x).1 E a w hs,dW l ?_ (ih (fun x=>(h x).2))⟩
    rintro E a w ⟨a0,f,cs,T,b,hf,e,x,hs⟩
    exact⟨x,a0,f,cs,T,b,hf,e,hs⟩
   | 1,hi=>exact absurd rfl hi
   | 2,_=>exact vy (k:=2) h
   | 3,_=>exact vy (k:=3) h
   | n+5,_=>exact vy (k:=n+5) h
theorem cv.unique{o:Oper}{a:Act}{f f':Nat→Value}{cs cs':List Value}{T T':TypeId}(h:cv P O o a f cs T)(h':cv P O o a f' cs' T'):(∀ b,f b=f' b)∧cs=cs':=by
 have key:∀ w:World,f w.heap.size=f' w.heap.size∧cs=cs':=fun w=>by
  have e:=(h.2 w).symm.trans (h'.2 w)
  simp only[Result.ok.injEq,Next.value.injEq] at e
  refine⟨e.1,?_⟩
  have h1:=(MapKept.heap_alloc w (.cells cs.toArray T)).1
  have h2:=(MapKept.heap_alloc w (.cells cs'.toArray T')).1
  rw[e.2] at h1
  rw[h1] at h2
  simp only[Option.some.injEq,Obj.cells.injEq] at h2
  have:=congrArg Array.toList h2.1
  simpa using this
 refine⟨fun b=>?_,(key default).2⟩
 have:=(key {(default:World) with heap:=Array.replicate b (.cells #[] 0) }).1
 simpa using this
end
/-! ### The walk's own assertion -/
section
variable{P:Program}{W:World}{N:Nat}{Q:Exit→Act→World→Prop}{O:Array Oper}{L:List (Nat×Option Value)}{H K:List aa}
def xi(W:World)(N:Nat)(L:List (Nat×Option Value))(H:List aa):nM:=fun E a w=>Env N L a∧Sat W w (sep (seps H) E)
theorem gW:gi (xi W N L H):=fun E a w cs T ⟨ha,hs⟩=>⟨ha,(hs.alloc cs.toArray T).eq (by rw[ib,aN])⟩
theorem zh:∀ w (cs:List Value) T,Sat W w (seps K)→Sat W (w.alloc (.cells cs.toArray T)) (seps K):=fun _w cs T h=>(h.alloc cs.toArray T).right
def bQ(P:Program)(W:World)(N:Nat)(K:List aa)(O:Array Oper)(Q:Exit→Act→World→Prop)(ks σ:List Nat)(L:List (Nat×Option Value))(H:List aa):Prop :=
 wpF P O (fun w=>Sat W w (seps K)) Q (fun i=>ks.getD i 1) σ (xi W N L H)
theorem ax.xj{id:Nat}{l:List Oper}(K:List aa)(ks σ:List Nat)(hm:P.follows .mixedOrders=true)(hB:regionF l ks σ=true)(h:bQ P W N K l.toArray Q ks σ L H):ax P W N Q (.region id l.toArray true) L H:=fun a w ha hs =>
 xh ks σ hm hB (C:=fun w=>Sat W w (seps K)) zh gW ⟨ha,by rw[aP];exact hs.drew⟩ h
theorem bQ.nil{ks:List Nat}(h:cj W N Q .normal L H):bQ P W N K O Q ks [] L H:=fun a w ⟨ha,hs⟩=>h a w ha (by rwa [aP] at hs)
theorem jB{E:aa}{a:Act}{w:World}:xi W N L H E a w↔Env N L a∧Sat W w (seps (H++[E])):=by
 unfold xi
 rw[ah]
 simp only[seps,aP]
theorem gJ.app{H R As:List aa}(E:aa)(t:gJ H As R):gJ (H++[E]) As (R++[E]):=by
 have tk:∀ {H R:List aa} {A:aa},Take H A R→Take (H++[E]) A (R++[E]):=fun {H R A} t=>by
  induction t with
  | here=>exact .here
  | there _ ih=>exact .there ih
 induction t with
 | nil=>exact .nil
 | cons h _ ih=>exact .cons (tk h) ih
theorem bQ.q{ks rest:List Nat}{i:Nat}{op:Op}{T:TypeId}{pos:String}{after:Array Edge}{d:Nat}{v:Value}(ho:O[i]?=some ⟨some d,op,T,pos,after,none⟩)(hk:ks.getD i 1=0)(hN:Nat.blt d N=true)(hK:∀ w,Sat W w (seps H)→Sat W w (seps K))
  (hy:Y P W N op T L K v) (h:bQ P W N K O Q ks rest ((d,some v)::L) H):bQ P W N K O Q ks (i::rest) L H:=by
 unfold bQ
 simp only[wpF,ho,hk]
 refine⟨fun E a w ⟨ha,hs⟩=>⟨hK w hs.left,v,.inl ⟨bj rfl,fun w' hc=>hy (some d) pos after none a w' ha hc⟩⟩,dW rest ?_ h⟩
 rintro E a w ⟨a0,v',rfl,⟨ha,hs⟩,hy'⟩
 obtain rfl:=hy'.unique (hK w hs.left) (.inl ⟨bj rfl,fun w' hc=>hy (some d) pos after none a0 w' ha hc⟩)
 exact⟨ha.put (Nat.blt_eq.mp hN) _,hs⟩
theorem bQ.fresh{ks rest:List Nat}{i:Nat}{op:Op}{T E:TypeId}{pos:String}{after:Array Edge}{guard:Option (Nat×Bool)}{d:Nat}{f:Nat→Value}{cs:List Value}(ho:O[i]?=some ⟨some d,op,T,pos,after,guard⟩)(hk:ks.getD i 1=4)(hN:Nat.blt d N=true)(h1:∀ j∈rest,ks.getD j 1≠1)
  (hK:∀ w,Sat W w (seps H)→Sat W w (seps K)) (hf:∀ a,Env N L a→cv P O ⟨some d,op,T,pos,after,guard⟩ a f cs E) (h:∀ b,bQ P W N K O Q ks rest ((d,some (f b))::L) (arr b 0 cs::H)):bQ P W N K O Q ks (i::rest) L H:=by
 unfold bQ
 simp only[wpF,ho,hk]
 refine⟨fun F a w ⟨ha,hs⟩=>⟨hK w hs.left,f,cs,E,hf a ha⟩,dW rest ?_ (DL rest h1 h)⟩
 rintro F a w ⟨a0,f',cs',T',b,hf',rfl,⟨ha,hs⟩⟩
 obtain⟨e1,e2⟩:=hf'.unique (hf a0 ha)
 subst e2
 rw[e1]
 exact⟨b,ha.put (Nat.blt_eq.mp hN) _,hs.eq (by simp only[seps];rw[← aN,ib _ (arr b 0 cs'),aN])⟩
theorem bQ.call{ks rest:List Nat}{i:Nat}{f:FuncId}{xs:Array Operand}{ts:Array TypeId}{T:TypeId}{pos:String}{after:Array Edge}{d:Nat}{args:List Value}{pre R:List aa}{X:Type}{val:X→Value}{fact:X→Prop}{post:X→List aa}
  (ho:O[i]?=some ⟨some d,.call ⟨.value (.func f),xs,ts⟩,T,pos,after,none⟩) (hk:ks.getD i 1=2) (hN:Nat.blt d N=true) (hK:∀ w,Sat W w (seps H)→Sat W w (seps K))
  (hc:∀ args w,(callFunc f args).run P w = .ok (.enter f args) w) (hx:evs L xs.toList=some args) (hfn:Fn P W f args pre X val fact post) (ht:gJ H pre R) (hK':∀ x, ∀ w,Sat W w (seps (post x++R))→Sat W w (seps K))
  (h:∀ x,fact x→bQ P W N K O Q ks rest ((d,some (val x))::L) (post x++R)):bQ P W N K O Q ks (i::rest) L H:=by
 unfold bQ
 simp only[wpF,ho,hk]
 refine⟨{x:X // fact x },fun x=>xi W N ((d,some (val x.1))::L) (post x.1++R),fun x=>gW,fun E a w hs=>⟨fun _=>hK w hs.2.left,?_⟩,fun x=>h x.1 x.2⟩
 rw[if_pos (bj rfl)]
 obtain⟨ha,hs⟩:=jB.1 hs
 refine af.call (guard:=none) hN hc hx hfn (ht.app E) a w ha hs _ ?_
 rintro L' H' ⟨x,hx,rfl,rfl⟩ a' w' ha' hs'
 rw[← List.append_assoc] at hs'
 have h2:xi W N ((d,some (val x))::L) (post x++R) E a' w':=jB.2 ⟨ha',hs'⟩
 exact⟨fun _=>hK' x w' h2.2.left,⟨x,hx⟩,h2⟩
theorem gG.app{H H':List aa}{A B:aa}(E:aa)(t:gG H A B H'):gG (H++[E]) A B (H'++[E]):=by
 induction t with
 | here=>exact .here
 | there _ ih=>exact .there ih
theorem bQ.aw{ks rest:List Nat}{i:Nat}{o:Oper}{H':List aa}(ho:O[i]?=some o)(hg:o.guard=none)(hk:ks.getD i 1=3)(hd:∀ E,af P W N o L (H++[E]) (fun L1 H1=>L1=L∧H1=H'++[E]))(h:bQ P W N K O Q ks rest L H'):bQ P W N K O Q ks (i::rest) L H:=by
 unfold bQ
 simp only[wpF,ho,hk]
 refine⟨Unit,fun _=>xi W N L H',fun _=>gW,fun E a w hs=>⟨fun e=>(by cases e),?_⟩,fun _=>h⟩
 rw[if_pos (bj hg)]
 obtain⟨ha,hs⟩:=jB.1 hs
 refine hd E a w ha hs _ ?_
 rintro L' H1 ⟨rfl,rfl⟩ a' w' ha' hs'
 exact⟨fun e=>(by cases e),(),jB.2 ⟨ha',hs'⟩⟩
theorem bQ.tP{ks rest:List Nat}{i:Nat}{E T:TypeId}{x y:Operand}{pos:String}{after:Array Edge}{b o:Nat}{vs cs:List Value}{H':List aa}(ho:O[i]?=some ⟨none,.store E x y,T,pos,after,none⟩)(hk:ks.getD i 1=3)
  (hz:∀ w,(sizeOf E).run P w = .ok vs.length w) (hx:ev L x=some (.pointer (some ⟨b,o,none⟩))) (hy:ev L y=some (.agg vs.toArray)) (hv:vs.all (·.oneCell')=true) [_h0:aX H b o cs] [hr:bM H b o cs vs H'] (hi:cs.length=vs.length)
  (h:bQ P W N K O Q ks rest L H'):bQ P W N K O Q ks (i::rest) L H :=
 bQ.aw ho rfl hk (fun E=>af.storeAll hx hy hz (List.all_eq_true.1 hv) (gG.app E hr.m3) hi) h
theorem bQ.st{ks rest:List Nat}{i:Nat}{E T:TypeId}{x y:Operand}{pos:String}{after:Array Edge}{b k:Nat}{v:Value}{cs:List Value}{H':List aa}(ho:O[i]?=some ⟨none,.store E x y,T,pos,after,none⟩)(hk:ks.getD i 1=3)
  (hz:∀ w,(sizeOf E).run P w = .ok 1 w) (hx:ev L x=some (.pointer (some ⟨b,k,none⟩))) (hy:ev L y=some v) (hv:v.oneCell'=true) [_h0:aX H b 0 cs] [hr:bM H b 0 cs (cs.set k v) H'] (hi:Nat.blt k cs.length=true)
  (h:bQ P W N K O Q ks rest L H'):bQ P W N K O Q ks (i::rest) L H :=
 bQ.aw ho rfl hk (fun E=>af.Dx hx hy hz hv (gG.app E hr.m3) (Nat.blt_eq.mp hi)) h
theorem qu{E T:TypeId}{pos:String}{after:Array Edge}{d:Nat}{z:Value}{cs:List Value}(hz:∀ w,(zeroValue E).run P w = .ok z w)(hc:z.cells=cs.toArray) :
  ∀ a,Env N L a→cv P O ⟨some d,.alloc E,T,pos,after,none⟩ a (fun b=>.pointer (some ⟨b,0,none⟩)) cs E:=fun a _=>⟨bj rfl,fun w=>by
 simp only[execOp]
 show(Instr.alloc E true (.tuple #[]) >>= fun x=>pure (Next.value x)).run P w=_
 simp[Instr.alloc,hz,kO,hc]⟩
end
end Go.SLYtefdijgllbkmfaaGreat
namespace Go.SLYtefdijgllbkmfaaGreat
open Go Go.RowKit
section
variable{P:Program}{W:World}{N:Nat}{Q:Exit→Act→World→Prop}{L:List (Nat×Option Value)}{H K:List aa}{O:Array Oper}{T:TypeId}{α:Type}
/-! ### made -/
theorem xk{enc:α→List Value}{k:Nat}{z0:α}(hk:(enc z0).length=k)(hk0:0<k)(n:Nat) :
  ((Array.range (n * k)).map ((enc z0).toArray[· % (enc z0).toArray.size]!)).toList=rows enc (List.replicate n z0):=by
 apply List.ext_getElem?
 intro i
 have hl:(rows enc (List.replicate n z0)).length=n * k:=by
  rw[bK (k:=k) (fun x hx=>by rw[List.eq_of_mem_replicate hx];exact hk),List.length_replicate]
 by_cases hi:i<n * k
 ·have hq:i / k<n:=Nat.div_lt_of_lt_mul (by rw[Nat.mul_comm];exact hi)
  have hm:=Nat.mod_lt i hk0
  have hx:(List.replicate n z0)[i / k]?=some z0:=by simp[hq]
  have h1:=nK (enc:=enc) (k:=k) (fun x hx=>by rw[List.eq_of_mem_replicate hx];exact hk) hx hm
  rw[show i / k * k+i % k=i from by rw[Nat.mul_comm];exact Nat.div_add_mod i k] at h1
  rw[h1]
  simp[hi,hk,hm]
 ·rw[List.getElem?_eq_none (l:=rows enc _) (by rw[hl];omega),List.getElem?_eq_none (by simp;omega)]
theorem run_makeSlice{enc:α→List Value}{k:Nat}(z0:α){t e:TypeId}{kd kd':IntKind}{i:TypeInfo}{z:Value}{n:Nat}{R:aa}{w:World}(hu:P.underlying t=some (.slice e))(hi:∀ w,(typeInfo e).run P w = .ok i w)(hz:i.zero=some z)(hk:i.size=k)(hzc:z.cells=(enc z0).toArray)(hkl:(enc z0).length=k)(hk0:0<k)(hb:1≤i.bytes∧i.bytes≤4096)
  (hn:n≤1073741824) (hs:Sat W w R):∃ b w',(Instr.makeSlice t (.int kd (n:Int)) (.int kd' (n:Int))).run P w = .ok (.slice (some ⟨b,0,none⟩) n n) w'∧Sat W w' (sep (sl enc k (.slice (some ⟨b,0,none⟩) n n) (List.replicate n z0)) R):=by
 have hz0:∀ w,(zeroValue e).run P w = .ok z w:=fun w=>by simp[zeroValue,hi,hz]
 have hsz:∀ w,(sizeOf e).run P w = .ok k w:=fun w=>by simp[sizeOf,hi,hk]
 have hwr:IntKind.i64.wrap (n:Int)=(n:Int):=wrap_i64 (by omega)
 have hwr0:IntKind.i64.wrap 0=0:=wrap_i64 (by omega)
 have hbig:¬(i.bytes * (n:Int)>2 ^ 48):=by
  have h1:i.bytes * n≤4096 * 1073741824:=Nat.mul_le_mul hb.2 hn
  have h2:(2:Int) ^ 48=281474976710656:=by decide
  have h3:((i.bytes * n:Nat):Int)=i.bytes * (n:Int):=by simp
  omega
 have hbig2:¬(281474976710656<(i.bytes:Int) * (n:Int)):=hbig
 have hroom:∀ m w',(askRoom m).run P w' = .ok () w':=fun m w'=>by
  unfold askRoom
  split <;> rfl
 obtain⟨news,hnews⟩:∃ news,news=(Array.range (n * k)).map ((enc z0).toArray[· % (enc z0).toArray.size]!):=⟨_,rfl⟩
 have e4:∀ cs:Array Value,(newRow e cs).run P w = .ok ⟨w.heap.size,0,none⟩ (w.alloc (.cells cs e)):=fun _=>rfl
 refine⟨w.heap.size,w.alloc (.cells news e),?_,?_⟩
 ·by_cases h0:n=0
  ·subst h0
   have:news = #[]:=by rw[hnews];simp
   simp[Instr.makeSlice,run_underlying hu,asInt,asIntOf,hi,hwr0,hroom,hsz,e4,this]
   rw[show(Array.range 0).map (fun _=>(default:Value)) = #[] from by simp]
  ·have hnk:¬(n * k=0):=by
    intro h;rcases Nat.mul_eq_zero.1 h with h | h <;> omega
   have h3:¬((n:Int)<0):=by omega
   have hk00:¬(k=0):=by omega
   simp[Instr.makeSlice,run_underlying hu,asInt,asIntOf,hi,hwr,hroom,hsz,hz0,hzc,e4,hbig2,h3,hnews]
   intro h;exact absurd h hnk
 ·have h:=hs.alloc news e
  have h9:news.toList=rows enc (List.replicate n z0)++[]:=by rw[hnews,List.append_nil];exact xk hkl hk0 n
  rw[h9] at h
  have:=Sat.qq (enc:=enc) (k:=k) (b:=w.heap.size) (cap:=n) (xs:=List.replicate n z0) (sp:=[]) (by simp) (fun x hx=>by rw[List.eq_of_mem_replicate hx];exact hkl) (by simp) h
  simpa using this
theorem af.IY{enc:α→List Value}{k:Nat}(z0:α){x y:Operand}{t e:TypeId}{kd kd':IntKind}{i:TypeInfo}{z:Value}{m m':Int}(n:Nat){pos:String}{after:Array Edge}{guard:Option (Nat×Bool)}{d:Nat}(hN:Nat.blt d N=true)
  (hu:P.underlying t=some (.slice e)) (hi:∀ w,(typeInfo e).run P w = .ok i w) (hz:i.zero=some z) (hk:i.size=k) (hzc:z.cells=(enc z0).toArray) (hkl:(enc z0).length=k) (hk0:0<k) (hb:1≤i.bytes∧i.bytes≤4096)
  (hx:ev L x=some (.int kd m)) (hy:ev L y=some (.int kd' m')) (hm:m=(n:Int)) (hm':m'=(n:Int)) (hn:n≤1073741824) :
  af P W N ⟨some d,.makeSlice t x y,T,pos,after,guard⟩ L H (fun L1 H1=>∃ b,L1=(d,some (.slice (some ⟨b,0,none⟩) n n))::L∧H1=sl enc k (.slice (some ⟨b,0,none⟩) n n) (List.replicate n z0)::H):=fun a w ha hs Kp hK=>by
 subst hm hm'
 obtain⟨b,w',h1,h2⟩:=run_makeSlice (P:=P) (kd:=kd) (kd':=kd') z0 hu hi hz hk hzc hkl hk0 hb hn hs
 have hrun:(execOp a.eval ⟨some d,.makeSlice t x y,T,pos,after,guard⟩).run P w = .ok (.value (.slice (some ⟨b,0,none⟩) n n)) w':=by
  simp[execOp,ha.eval hx,ha.eval hy,h1]
 unfold Oper.wp
 rw[hrun]
 simp only[Oper.upon]
 exact hK _ _ ⟨b,rfl,rfl⟩ _ _ (ha.put (Nat.blt_eq.mp hN) _) h2
/-! ### cut -/
theorem Y.rK{x:Operand}{lo hi mx:Option Operand}{vlo vhi vmx:Option Value}{t e:TypeId}{k:Nat}{a:Option Addr}{len cap l h m:Nat}(hu:P.underlying t=some (.slice e))(hz:∀ w,(sizeOf e).run P w = .ok k w)(hx:ev L x=some (.slice a len cap))
  (hlo:∀ y,lo=some y→ ∃ v,ev L y=some v∧vlo=some v) (hlo0:lo=none→vlo=none) (hhi:∀ y,hi=some y→ ∃ v,ev L y=some v∧vhi=some v) (hhi0:hi=none→vhi=none) (hmx:∀ y,mx=some y→ ∃ v,ev L y=some v∧vmx=some v) (hmx0:mx=none→vmx=none)
  (hb:∀ w,(Instr.sliceBounds true len cap vlo vhi vmx).run P w = .ok (l,h,m) w) :
  Y P W N (.slice t x lo hi mx) T L H (.slice (if m=l then a else a.map (·.add (l * k))) (h-l) (m-l)):=fun dst pos after guard ac w ha hs=>by
 have e1:lo.map ac.eval=vlo:=by
  cases lo with
  | none=>exact(hlo0 rfl).symm
  | some y=>obtain⟨v,h1,h2⟩:=hlo y rfl;rw[h2,Option.map_some,ha.eval h1]
 have e2:hi.map ac.eval=vhi:=by
  cases hi with
  | none=>exact(hhi0 rfl).symm
  | some y=>obtain⟨v,h1,h2⟩:=hhi y rfl;rw[h2,Option.map_some,ha.eval h1]
 have e3:mx.map ac.eval=vmx:=by
  cases mx with
  | none=>exact(hmx0 rfl).symm
  | some y=>obtain⟨v,h1,h2⟩:=hmx y rfl;rw[h2,Option.map_some,ha.eval h1]
 simp only[execOp,ha.eval hx]
 refine bJ ?_
 rw[show(Option.map ac.eval lo)=vlo from e1,show(Option.map ac.eval hi)=vhi from e2,show(Option.map ac.eval mx)=vmx from e3]
 simp[Instr.sliceAt,Instr.sureAddr,Instr.slice,run_underlying hu,hb,hz]
theorem Kq(kd:IntKind)(i y:Nat)(c:BoundsCode)(h:i≤y)(w:World):(Instr.sliceBound (.int kd (i:Int)) y c).run P w = .ok i w:=by
 simp[Instr.sliceBound,asIntOf,h]
theorem Y.slice3{x y1 y2 y3:Operand}{t e:TypeId}{k:Nat}{a:Option Addr}{len cap:Nat}{k1 k2 k3:IntKind}{j1 j2 j3:Int}(l h m:Nat)(hu:P.underlying t=some (.slice e))(hz:∀ w,(sizeOf e).run P w = .ok k w)(hx:ev L x=some (.slice a len cap))
  (h1:ev L y1=some (.int k1 j1)) (h2:ev L y2=some (.int k2 j2)) (h3:ev L y3=some (.int k3 j3)) (e1:j1=(l:Int)) (e2:j2=(h:Int)) (e3:j3=(m:Int)) (b1:l≤h) (b2:h≤m) (b3:m≤cap) :
  Y P W N (.slice t x (some y1) (some y2) (some y3)) T L H (.slice (if m=l then a else a.map (·.add (l * k))) (h-l) (m-l)):=by
 subst e1 e2 e3
 exact Y.rK hu hz hx (fun y e=>by cases e;exact⟨_,h1,rfl⟩) (fun e=>by cases e) (fun y e=>by cases e;exact⟨_,h2,rfl⟩) (fun e=>by cases e) (fun y e=>by cases e;exact⟨_,h3,rfl⟩) (fun e=>by cases e)
  fun w=>by simp[Instr.sliceBounds,Kq,b1,b2,b3]
theorem Y.AG{x y2 y3:Operand}{t e:TypeId}{k:Nat}{a:Option Addr}{len cap:Nat}{k2 k3:IntKind}{j2 j3:Int}(h m:Nat)(hu:P.underlying t=some (.slice e))(hz:∀ w,(sizeOf e).run P w = .ok k w)(hx:ev L x=some (.slice a len cap))
  (h2:ev L y2=some (.int k2 j2)) (h3:ev L y3=some (.int k3 j3)) (e2:j2=(h:Int)) (e3:j3=(m:Int)) (b2:h≤m) (b3:m≤cap) :
  Y P W N (.slice t x none (some y2) (some y3)) T L H (.slice a h m):=by
 subst e2 e3
 have:=Y.rK (P:=P) (W:=W) (N:=N) (T:=T) (H:=H) (lo:=none) (hi:=some y2) (mx:=some y3) (vlo:=none) (l:=0) (h:=h) (m:=m) hu hz hx (fun y e=>by cases e) (fun _=>rfl) (fun y e=>by cases e;exact⟨_,h2,rfl⟩) (fun e=>by cases e) (fun y e=>by cases e;exact⟨_,h3,rfl⟩) (fun e=>by cases e)
  fun w=>by simp[Instr.sliceBounds,Kq,b2,b3]
 have e:(if m=0 then a else a.map (·.add (0 * k)))=a:=by
  split
  ·rfl
  ·cases a with
   | none=>rfl
   | some p=>simp[Addr.add]
 rw[e] at this
 simpa using this
theorem Y.rL{x y1 y2:Operand}{t e:TypeId}{k:Nat}{a:Option Addr}{len cap:Nat}{k1 k2:IntKind}{j1 j2:Int}(l h:Nat)(hu:P.underlying t=some (.slice e))(hz:∀ w,(sizeOf e).run P w = .ok k w)(hx:ev L x=some (.slice a len cap))
  (h1:ev L y1=some (.int k1 j1)) (h2:ev L y2=some (.int k2 j2)) (e1:j1=(l:Int)) (e2:j2=(h:Int)) (b1:l≤h) (b2:h≤cap) :
  Y P W N (.slice t x (some y1) (some y2) none) T L H (.slice (if cap=l then a else a.map (·.add (l * k))) (h-l) (cap-l)):=by
 subst e1 e2
 exact Y.rK hu hz hx (fun y e=>by cases e;exact⟨_,h1,rfl⟩) (fun e=>by cases e) (fun y e=>by cases e;exact⟨_,h2,rfl⟩) (fun e=>by cases e) (fun y e=>by cases e) (fun _=>rfl)
  fun w=>by simp[Instr.sliceBounds,Kq,b1,b2]
theorem Y.nO{x y2:Operand}{t e:TypeId}{k:Nat}{a:Option Addr}{len cap:Nat}{k2:IntKind}{j2:Int}(h:Nat)(hu:P.underlying t=some (.slice e))(hz:∀ w,(sizeOf e).run P w = .ok k w)(hx:ev L x=some (.slice a len cap))
  (h2:ev L y2=some (.int k2 j2)) (e2:j2=(h:Int)) (b2:h≤cap) :
  Y P W N (.slice t x none (some y2) none) T L H (.slice a h cap):=by
 subst e2
 have:=Y.rK (P:=P) (W:=W) (N:=N) (T:=T) (H:=H) (lo:=none) (hi:=some y2) (mx:=none) (vlo:=none) (vmx:=none) (l:=0) (h:=h) (m:=cap) hu hz hx (fun y e=>by cases e) (fun _=>rfl) (fun y e=>by cases e;exact⟨_,h2,rfl⟩) (fun e=>by cases e) (fun y e=>by cases e) (fun _=>rfl)
  fun w=>by simp[Instr.sliceBounds,Kq,b2]
 have e:(if cap=0 then a else a.map (·.add (0 * k)))=a:=by
  split
  ·rfl
  ·cases a with
   | none=>rfl
   | some p=>simp[Addr.add]
 rw[e] at this
 simpa using this
theorem Y.nP{x y1:Operand}{t e:TypeId}{k:Nat}{a:Option Addr}{len cap:Nat}{k1:IntKind}{j1:Int}(l:Nat)(hu:P.underlying t=some (.slice e))(hz:∀ w,(sizeOf e).run P w = .ok k w)(hx:ev L x=some (.slice a len cap))
  (h1:ev L y1=some (.int k1 j1)) (e1:j1=(l:Int)) (b1:l≤len) :
  Y P W N (.slice t x (some y1) none none) T L H (.slice (if cap=l then a else a.map (·.add (l * k))) (len-l) (cap-l)):=by
 subst e1
 exact Y.rK hu hz hx (fun y e=>by cases e;exact⟨_,h1,rfl⟩) (fun e=>by cases e) (fun y e=>by cases e) (fun _=>rfl) (fun y e=>by cases e) (fun _=>rfl)
  fun w=>by simp[Instr.sliceBounds,Kq,b1]
/-! ### closed up: append(s[:i], s[j:]...) -/
theorem run_append_room{enc:α→List Value}{k b cap:Nat}{t t2 e e2 ty:TypeId}{u:Value}{xs ys:List α}{sp:List Value}{R:aa}{i:TypeInfo}{w:World}
  (hu:P.underlying t=some (.slice e)) (hu2:P.underlying t2=some (.slice e2)) (hi:∀ w,(typeInfo e).run P w = .ok i w) (hk:i.size=k)
  (hs:Sat W w (sep (arr b 0 (rows enc xs++sp)) R)) (hxk:∀ x∈xs,(enc x).length=k) (hsp:sp.length=(cap-xs.length) * k) (hrd:iA w enc k u ys) (hcap:xs.length+ys.length≤cap) (hone:∀ y∈ys, ∀ c∈enc y,c.oneCell'=true) :
  ∃ w',(Builtin.append_ #[t,t2] ty #[.slice (some ⟨b,0,none⟩) xs.length cap,u]).run P w = .ok (.slice (some ⟨b,0,none⟩) (xs.length+ys.length) cap) w'∧
   Sat W w' (sep (sl enc k (.slice (some ⟨b,0,none⟩) (xs.length+ys.length) cap) (xs++ys)) R):=by
 have hysk:=hrd.2.1
 have hsz:∀ w,(sizeOf e).run P w = .ok k w:=fun w=>by simp[sizeOf,hi,hk]
 have hfu:(Builtin.firstCells k ys.length u).run P w = .ok (rows enc ys).toArray w:=hrd.firstCells
 obtain⟨⟨ua,ucap,hue,_⟩,_⟩:=hrd
 have hul:∀ w',(Builtin.lenOf u).run P w' = .ok ys.length w':=fun w'=>by rw[hue];simp[Builtin.lenOf]
 have hkk:∀ z∈xs++ys,(enc z).length=k:=fun z hz=>by
  rcases List.mem_append.1 hz with h | h
  ·exact hxk z h
  ·exact hysk z h
 have hsplen:ys.length * k≤sp.length:=by
  rw[hsp]
  exact Nat.mul_le_mul_right _ (by omega)
 have hl:(rows enc ys).length=ys.length * k:=bK hysk
 have hlx:(rows enc xs).length=xs.length * k:=bK hxk
 have hone':∀ c∈rows enc ys,c.oneCell'=true:=fun c hc=>by
  obtain⟨y,hy,hc⟩:=List.mem_flatMap.1 hc
  exact hone y hy c hc
 obtain⟨w',h1,h2⟩:=eN (P:=P) (rows enc ys) (rows enc xs++sp) (xs.length * k) 0 w hs hone' (by rw[List.length_append];omega)
 refine⟨w',?_,?_⟩
 ·simp only[Nat.zero_add] at h1
  simp[Builtin.append_,run_underlying hu,run_underlying hu2,hsz,hul,hfu,hcap,dV,h1]
 ·have e3:setFrom (rows enc xs++sp) (xs.length * k+0) (rows enc ys)=rows enc (xs++ys)++sp.drop (ys.length * k):=by
   rw[Nat.add_zero, ← hlx,jz (by omega),dz,hl]
  rw[e3] at h2
  have:=Sat.qq (b:=b) (cap:=cap) (xs:=xs++ys) (by simpa using hcap) hkk (by
   rw[List.length_drop,hsp,List.length_append, ← Nat.sub_mul]
   congr 1;omega) h2
  simpa using this
theorem af.j0{enc:α→List Value}{k b cap i j:Nat}{x y:Operand}{t t2 e e2 ty:TypeId}{pos:String}{after:Array Edge}{guard:Option (Nat×Bool)}{d:Nat}{xs:List α}{R:List aa}{ti:TypeInfo}(hN:Nat.blt d N=true)
  (hu:P.underlying t=some (.slice e)) (hu2:P.underlying t2=some (.slice e2)) (hi:∀ w,(typeInfo e).run P w = .ok ti w) (hk:ti.size=k)
  (hx:ev L x=some (.slice (some ⟨b,0,none⟩) i cap)) (hy:ev L y=some (.slice (if cap=j then some ⟨b,0,none⟩ else (some (⟨b,0,none⟩:Addr)).map (·.add (j * k))) (xs.length-j) (cap-j)))
  (ht:Take H (sl enc k (.slice (some ⟨b,0,none⟩) xs.length cap) xs) R) (hij:i≤j) (hj:j≤xs.length) (hone:∀ y∈xs, ∀ c∈enc y,c.oneCell'=true) (h0:xs≠[]) :
  af P W N ⟨some d,.call ⟨.builtin .append, #[x,y], #[t,t2]⟩,ty,pos,after,guard⟩ L H (fun L1 H1=>L1=(d,some (.slice (some ⟨b,0,none⟩) (i+(xs.length-j)) cap))::L∧H1=sl enc k (.slice (some ⟨b,0,none⟩) (i+(xs.length-j)) cap) (xs.take i++xs.drop j)::R):=fun a w ha hs Kp hK=>by
 rw[ht.seps] at hs
 have hrd:iA w enc k (cut k j xs.length (.slice (some ⟨b,0,none⟩) xs.length cap)) ((xs.take xs.length).drop j):=(Rd.sl (W:=W) (H:=[sl enc k (.slice (some ⟨b,0,none⟩) xs.length cap) xs,seps R]) .here w (by simp only[seps,aP];exact hs)).cut hj (Nat.le_refl _)
 rw[List.take_length] at hrd
 rcases hs.qt with ⟨_,hx0,_⟩ | ⟨b',cap',sp,hv,hle,hkk,hsp,hs1⟩
 ·exact absurd hx0 h0
 ·cases hv
  have hti:(xs.take i).length=i:=by rw[List.length_take];omega
  have hdj:(xs.drop j).length=xs.length-j:=List.length_drop
  have e9:rows enc xs++sp=rows enc (xs.take i)++(rows enc (xs.drop i)++sp):=by
   rw[← List.append_assoc, ← dz,List.take_append_drop]
  rw[e9] at hs1
  obtain⟨w',h1,h2⟩:=run_append_room (P:=P) (ty:=ty) (cap:=cap) hu hu2 hi hk hs1 (fun x hx=>hkk x (List.mem_of_mem_take hx)) (by
   rw[List.length_append,hsp,bK (fun x hx=>hkk x (List.mem_of_mem_drop hx)),List.length_drop,hti, ← Nat.add_mul];congr 1;omega) hrd (by rw[hti,hdj];omega) (fun y hy=>hone y (List.mem_of_mem_drop hy))
  rw[hti,hdj] at h1 h2
  have hrun:(execOp a.eval ⟨some d,.call ⟨.builtin .append, #[x,y], #[t,t2]⟩,ty,pos,after,guard⟩).run P w = .ok (.value (.slice (some ⟨b,0,none⟩) (i+(xs.length-j)) cap)) w':=by
   have e8:a.eval y=cut k j xs.length (.slice (some ⟨b,0,none⟩) xs.length cap):=(ha.eval hy).trans rfl
   simp[execOp,resolve,invoke,builtin,ha.eval hx,e8,h1]
  unfold Oper.wp
  rw[hrun]
  simp only[Oper.upon]
  exact hK _ _ ⟨rfl,rfl⟩ _ _ (ha.put (Nat.blt_eq.mp hN) _) h2
theorem af.nQ{enc:α→List Value}{k b cap n m:Nat}{x:Operand}{t e ty:TypeId}{pos:String}{after:Array Edge}{guard:Option (Nat×Bool)}{xs:List α}{R:List aa}{z:Value}{zc:List Value}
  (hu:P.underlying t=some (.slice e)) (hz:∀ w,(zeroValue e).run P w = .ok z w) (hzc:z.cells=zc.toArray) (hzl:zc.length=k) (hone:zc.all (·.oneCell')=true)
  (hx:ev L x=some (.slice (if cap=n then some ⟨b,0,none⟩ else (some (⟨b,0,none⟩:Addr)).map (·.add (n * k))) m (cap-n))) (hn:n=xs.length) (hm:n+m≤cap)
  (ht:Take H (sl enc k (.slice (some ⟨b,0,none⟩) n cap) xs) R) :
  af P W N ⟨none,.call ⟨.builtin .clear, #[x], #[t]⟩,ty,pos,after,guard⟩ L H (fun L1 H1=>L1=L∧H1=sl enc k (.slice (some ⟨b,0,none⟩) n cap) xs::R):=fun a w ha hs Kp hK=>by
 rw[ht.seps] at hs
 subst hn
 by_cases hm0:m=0
 ·subst hm0
  have hrun:(execOp a.eval ⟨none,.call ⟨.builtin .clear, #[x], #[t]⟩,ty,pos,after,guard⟩).run P w = .ok (.value (.tuple #[])) w:=by
   split at hx <;> simp[execOp,resolve,invoke,builtin,ha.eval hx,Builtin.clear_,run_underlying hu,dV]
  unfold Oper.wp
  rw[hrun]
  simp only[Oper.upon]
  exact hK _ _ ⟨rfl,rfl⟩ _ _ ⟨ha.size,ha.get,ha.defers⟩ hs
 ·rw[if_neg (by omega)] at hx
  rcases hs.qt with ⟨⟨va,hv0⟩,hx0,_⟩ | ⟨b',cap',sp,hv,hle,hkk,hsp,hs1⟩
  ·simp only[Value.slice.injEq] at hv0;omega
  ·cases hv
   have hlx:(rows enc xs).length=xs.length * k:=bK hkk
   have hzl':(Builtin.zeroCells zc.toArray m).toList.length=m * k:=by rw[Array.length_toList,rF];simp[hzl]
   have hone':∀ c∈(Builtin.zeroCells zc.toArray m).toList,c.oneCell'=true:=fun c hc=>by
    simp only[Builtin.zeroCells,Array.toList_map,List.mem_map] at hc
    obtain⟨i,hi,rfl⟩:=hc
    have hk0:0<zc.length:=by
     rcases Nat.eq_zero_or_pos zc.length with h | h
     ·simp[h] at hi
     ·exact h
    have hlt:i % zc.length<zc.length:=Nat.mod_lt _ hk0
    simp only[List.size_toArray]
    rw[getElem!_pos _ _ (by simpa using hlt)]
    exact List.all_eq_true.1 hone _ (by simp)
   have hmk:m * k≤sp.length:=by rw[hsp];exact Nat.mul_le_mul_right _ (by omega)
   obtain⟨w',h1,h2⟩:=eN (P:=P) (Builtin.zeroCells zc.toArray m).toList (rows enc xs++sp) (xs.length * k) 0 w hs1 hone' (by rw[List.length_append,hzl'];omega)
   have hrun:(execOp a.eval ⟨none,.call ⟨.builtin .clear, #[x], #[t]⟩,ty,pos,after,guard⟩).run P w = .ok (.value (.tuple #[])) w':=by
    simp only[Nat.zero_add] at h1
    simp only[Option.map_some,dV,Nat.zero_add] at hx
    have hz':∀ w,(zeroValue e).run P w = .ok z w:=hz
    cases m with
    | zero=>exact absurd rfl hm0
    | succ m=>simp[execOp,resolve,invoke,builtin,ha.eval hx,Builtin.clear_,run_underlying hu,hz',hzc,h1]
   unfold Oper.wp
   rw[hrun]
   simp only[Oper.upon]
   refine hK _ _ ⟨rfl,rfl⟩ _ _ ⟨ha.size,ha.get,ha.defers⟩ ?_
   have e3:setFrom (rows enc xs++sp) (xs.length * k+0) (Builtin.zeroCells zc.toArray m).toList=rows enc xs++((Builtin.zeroCells zc.toArray m).toList++sp.drop (m * k)):=by
    rw[Nat.add_zero, ← hlx,jz (by omega),hzl',List.append_assoc]
   rw[e3] at h2
   exact Sat.qq (b:=b) (cap:=cap) (xs:=xs) hle hkk (by rw[List.length_append,hzl',List.length_drop,hsp];omega) h2
/-! ### a slice's value -/
def DM:Value→Bool
 | .slice none _ _=>true
 | _=>false
theorem Y.AH{enc:α→List Value}{k:Nat}{xT e yT:TypeId}{x y:Operand}{v:Value}{xs:List α}{n' c':Nat}(hu:P.underlying xT=some (.slice e))(hx:ev L x=some v)(hy:ev L y=some (.slice none n' c'))(h:Rd W H enc k v xs):Y P W N (.binOp .eql xT x y yT) T L H (.bool (DM v)) :=
 Y.fb (fun w s=>(h w s).1) fun⟨a,cap,hv,_⟩=>by
  subst hv
  have:=Y.y8 (P:=P) (W:=W) (N:=N) (H:=H) (T:=T) (yT:=yT) hu hx hy
  cases a <;> exact this
def Mi:Value→Value
 | .slice a n _=>.slice a n n
 | v=>v
end
end Go.SLYtefdijgllbkmfaaGreat
