/- Walks of functions, and what they compute. Conditions: none, this text proves no statement. -/
import Derived.WalkKit
import Derived.Deep.Quiet
import Derived.Deep.LoopGhost
import Derived.Carry
namespace Go.SLYtefdijgllbkmfaaGreat
open Go Go.RowKit
def cellsB:Obj→Bool
 | .cells .. => true
 | _=>false
inductive Item where
 | cell (v:Value)
 | obj (o:Obj)
abbrev js:=Nat→Nat→Option Item
abbrev aa:=js→Prop
def Item.Dq(w:World)(b o:Nat):Item→Prop
 | .cell v=>w.cell? ⟨b,o,none⟩=some v∧w.frozen? ⟨b,o,none⟩=false
 | .obj x=>o=0∧w.heap[b]?=some x∧cellsB x=false
def js.In(h:js)(n:Nat)(w:World):Prop:=∀ b o i,h b o=some i→n≤b∧i.Dq w b o
def Gp(h1 h2:js):Prop:=∀ b o,h1 b o=none∨h2 b o=none
def join(h1 h2:js):js:=fun b o=>(h1 b o).or (h2 b o)
def emp:aa:=fun h=>∀ b o,h b o=none
def sep(A B:aa):aa:=fun h=>∃ h1 h2,A h1∧B h2∧Gp h1 h2∧h=join h1 h2
def ex{X:Type}(A:X→aa):aa:=fun h=>∃ x,A x h
def Mg(p:Prop):aa:=fun h=>p∧emp h
theorem join_comm{h1 h2:js}(d:Gp h1 h2):join h1 h2=join h2 h1:=by
 funext b o
 unfold join
 rcases d b o with e | e <;> simp[e]
theorem ib(A B:aa):sep A B=sep B A:=by
 funext h
 apply propext
 constructor
 ·rintro⟨h1,h2,a,b,d,rfl⟩
  exact⟨h2,h1,b,a,fun x y=>(d x y).symm,join_comm d⟩
 ·rintro⟨h1,h2,a,b,d,rfl⟩
  exact⟨h2,h1,b,a,fun x y=>(d x y).symm,join_comm d⟩
theorem aN(A B C:aa):sep (sep A B) C=sep A (sep B C):=by
 funext h
 apply propext
 constructor
 ·rintro⟨h12,h3,⟨h1,h2,a,b,d,rfl⟩,c,d',rfl⟩
  refine⟨h1,join h2 h3,a,⟨h2,h3,b,c,?_,rfl⟩,?_,?_⟩
  ·intro x y
   rcases d' x y with e | e
   ·unfold join at e
    left
    simp at e
    exact e.2
   ·exact .inr e
  ·intro x y
   rcases d x y with e | e
   ·exact .inl e
   ·rcases d' x y with e' | e'
    ·unfold join at e'
     simp at e'
     exact .inl e'.1
    ·right;unfold join;simp[e,e']
  ·funext x y;unfold join;cases h1 x y <;> simp
 ·rintro⟨h1,h23,a,⟨h2,h3,b,c,d,rfl⟩,d',rfl⟩
  refine⟨join h1 h2,h3,⟨h1,h2,a,b,?_,rfl⟩,c,?_,?_⟩
  ·intro x y
   rcases d' x y with e | e
   ·exact .inl e
   ·unfold join at e
    simp at e
    exact .inr e.1
  ·intro x y
   rcases d x y with e | e
   ·rcases d' x y with e' | e'
    ·left;unfold join;simp[e,e']
    ·unfold join at e'
     simp at e'
     exact .inr e'.2
   ·exact .inr e
  ·funext x y;unfold join;cases h1 x y <;> simp
theorem aY(A B C:aa):sep A (sep B C)=sep B (sep A C):=by
 rw[← aN,ib A B,aN]
theorem aP(A:aa):sep A emp=A:=by
 funext h
 apply propext
 constructor
 ·rintro⟨h1,h2,a,b,d,rfl⟩
  have:join h1 h2=h1:=by funext x y;unfold join;simp[b x y]
  rw[this];exact a
 ·intro a
  refine⟨h,fun _ _=>none,a,fun _ _=>rfl,fun _ _=>.inr rfl,?_⟩
  funext x y;unfold join;simp
theorem fK(A:aa):sep emp A=A:=by rw[ib,aP]
theorem aS{A A' B B':aa}(ha:∀ h,A h→A' h)(hb:∀ h,B h→B' h):∀ h,sep A B h→sep A' B' h :=
 fun _ ⟨h1,h2,a,b,d,e⟩=>⟨h1,h2,ha _ a,hb _ b,d,e⟩
theorem IL{X:Type}(A:X→aa)(B:aa):sep (ex A) B=ex (fun x=>sep (A x) B):=by
 funext h
 apply propext
 constructor
 ·rintro⟨h1,h2,⟨x,a⟩,b,d,e⟩;exact⟨x,h1,h2,a,b,d,e⟩
 ·rintro⟨x,h1,h2,a,b,d,e⟩;exact⟨h1,h2,⟨x,a⟩,b,d,e⟩
theorem Gq(p:Prop)(B:aa)(h:js):sep (Mg p) B h↔p∧B h:=by
 constructor
 ·rintro⟨h1,h2,⟨hp,e⟩,b,d,rfl⟩
  have:join h1 h2=h2:=by funext x y;unfold join;simp[e x y]
  rw[this];exact⟨hp,b⟩
 ·rintro⟨hp,b⟩
  refine⟨fun _ _=>none,h,⟨hp,fun _ _=>rfl⟩,b,fun _ _=>.inl rfl,?_⟩
  funext x y;unfold join;simp
def seps:List aa→aa
 | []=>emp
 | A::r=>sep A (seps r)
theorem ah(l r:List aa):seps (l++r)=sep (seps l) (seps r):=by
 induction l with
 | nil=>simp[seps,fK]
 | cons A l ih=>simp only[List.cons_append,seps,ih,aN]
/-! ### What a world bears -/
structure Sat(W w:World)(A:aa):Prop where
 old:∀ b,b<W.heap.size→w.heap[b]?=W.heap[b]?
 size:W.heap.size≤w.heap.size
 os:w.os=W.os
 tape:w.tape=W.tape
 out:w.output=W.output
 own:∃ h,A h∧js.In h W.heap.size w
theorem Sat.mono{W w:World}{A B:aa}(s:Sat W w A)(f:∀ h,A h→B h):Sat W w B :=
 {s with own:=let ⟨h,a,i⟩:=s.own;⟨h,f h a,i⟩ }
theorem Sat.eq{W w:World}{A B:aa}(s:Sat W w A)(f:A=B):Sat W w B:=f ▸ s
theorem js.In.left{h1 h2:js}{n:Nat}{w:World}(i:js.In (join h1 h2) n w):js.In h1 n w :=
 fun b o x e=>i b o x (by unfold join;simp[e])
theorem js.In.right{h1 h2:js}{n:Nat}{w:World}(d:Gp h1 h2)(i:js.In (join h1 h2) n w):js.In h2 n w :=
 fun b o x e=>i b o x (by
  unfold join
  rcases d b o with e' | e'
  ·simp[e',e]
  ·rw[e] at e';cases e')
theorem Sat.left{W w:World}{A B:aa}(s:Sat W w (sep A B)):Sat W w A :=
 {s with own:=let ⟨_,⟨h1,_,a,_,_,e⟩,i⟩:=s.own;⟨h1,a,(e ▸ i:js.In _ _ _).left⟩ }
theorem Sat.right{W w:World}{A B:aa}(s:Sat W w (sep A B)):Sat W w B :=
 {s with own:=let ⟨_,⟨_,h2,_,b,d,e⟩,i⟩:=s.own;⟨h2,b,(e ▸ i:js.In _ _ _).right d⟩ }
theorem Sat.empty{W:World}:Sat W W emp :=
 ⟨fun _ _=>rfl,Nat.le_refl _,rfl,rfl,rfl,fun _ _=>none,fun _ _=>rfl,fun _ _ _ e=>by cases e⟩
theorem Sat.pure{W w:World}{p:Prop}{B:aa}(s:Sat W w (sep (Mg p) B)):p :=
 let ⟨h,a,_⟩:=s.own;((Gq p B h).1 a).1
theorem Sat.exists{W w:World}{X:Type}{A:X→aa}{B:aa}(s:Sat W w (sep (ex A) B)):∃ x,Sat W w (sep (A x) B):=by
 rw[IL] at s
 obtain⟨h,⟨x,a⟩,i⟩:=s.own
 exact⟨x,{s with own:=⟨h,a,i⟩ }⟩
/-! ### Cells in a row, and objects -/
def arr(b off:Nat)(cs:List Value):aa:=fun h =>
 ∀ x y,h x y=if x=b∧off≤y then (cs[y-off]?).map Item.cell else none
def iT(b:Nat)(o:Obj):aa:=fun h=>cellsB o=false∧ ∀ x y,h x y=if x=b∧y=0 then some (.obj o) else none
theorem mU(b off:Nat)(l r:List Value)(x y:Nat) :
  (if x=b∧off≤y then ((l++r)[y-off]?).map Item.cell else none) =
   (if x=b∧off≤y then (l[y-off]?).map Item.cell else none).or (if x=b∧off+l.length≤y then (r[y-(off+l.length)]?).map Item.cell else none):=by
 by_cases hx:x=b
 ·by_cases h1:off≤y
  ·rw[if_pos ⟨hx,h1⟩,if_pos ⟨hx,h1⟩]
   by_cases h2:off+l.length≤y
   ·rw[if_pos ⟨hx,h2⟩,List.getElem?_append_right (by omega),List.getElem?_eq_none (l:=l) (by omega)]
    simp[show y-off-l.length=y-(off+l.length) from by omega]
   ·rw[if_neg (fun e=>h2 e.2),List.getElem?_append_left (by omega)]
    simp
  ·rw[if_neg (fun e=>h1 e.2),if_neg (fun e=>h1 e.2),if_neg (fun e=>h1 (by have:=e.2;omega))];rfl
 ·rw[if_neg (fun e=>hx e.1),if_neg (fun e=>hx e.1),if_neg (fun e=>hx e.1)];rfl
theorem bR(b off:Nat)(l r:List Value):arr b off (l++r)=sep (arr b off l) (arr b (off+l.length) r):=by
 funext h
 apply propext
 constructor
 ·intro a
  refine⟨fun x y=>if x=b∧off≤y then (l[y-off]?).map Item.cell else none,fun x y=>if x=b∧off+l.length≤y then (r[y-(off+l.length)]?).map Item.cell else none,fun _ _=>rfl,fun _ _=>rfl,?_,?_⟩
  ·intro x y
   by_cases hy:off+l.length≤y
   ·left
    simp only
    split
    ·rw[List.getElem?_eq_none (by omega)];rfl
    ·rfl
   ·right
    simp only
    rw[if_neg (by omega)]
  ·funext x y
   rw[a x y]
   exact mU b off l r x y
 ·rintro⟨h1,h2,a1,a2,d,rfl⟩ x y
  unfold join
  rw[a1 x y,a2 x y]
  exact(mU b off l r x y).symm
theorem fu{W w:World}{b off:Nat}{cs:List Value}{R:aa}(s:Sat W w (sep (arr b off cs) R)){i:Nat}{v:Value}(hv:cs[i]?=some v) :
  W.heap.size≤b∧w.cell? ⟨b,off+i,none⟩=some v:=by
 obtain⟨h,a,hi⟩:=s.left.own
 have:=hi b (off+i) (.cell v) (by rw[a];simp[hv])
 exact⟨this.1,this.2.1⟩
theorem rm{W w:World}{b off:Nat}{cs:List Value}{R:aa}(s:Sat W w (sep (arr b off cs) R)){i:Nat}(hi:i<cs.length):w.frozen? ⟨b,off+i,none⟩=false:=by
 obtain⟨h,a,hin⟩:=s.left.own
 have:=hin b (off+i) (.cell cs[i]) (by rw[a];simp[hi])
 exact this.2.2
theorem vk{w:World}{b o:Nat}{v:Value}(h:w.cell? ⟨b,o,none⟩=some v):b<w.heap.size:=by
 unfold World.cell? at h
 by_cases hb:b<w.heap.size
 ·exact hb
 ·simp[Array.getElem?_eq_none (Nat.le_of_not_lt hb)] at h
theorem lI(w:World)(a a':Addr)(v:Value)(h:¬(a.block=a'.block∧a.off=a'.off))(_ha:a.spot=none):(w.setCell a v).cell? a'=w.cell? a' :=
 World.cell?_setCell_other _ _ _ _ (fun e=>h ⟨congrArg Addr.block e,congrArg Addr.off e⟩)
theorem w9(w:World)(b o:Nat)(v u:Value)(h:w.cell? ⟨b,o,none⟩=some u):(w.setCell ⟨b,o,none⟩ v).cell? ⟨b,o,none⟩=some v :=
 World.cell?_setCell_same _ _ _ h
theorem nH(w:World)(a:Addr)(v:Value)(k:Nat)(x:Obj)(hx:cellsB x=false)(h:w.heap[k]?=some x):(w.setCell a v).heap[k]?=some x:=by
 unfold World.setCell
 simp only[Array.getElem?_modify]
 split
 ·rw[h]
  cases x <;> simp_all [cellsB]
 ·exact h
theorem kM(w:World)(a a':Addr)(v:Value):(w.setCell a v).frozen? a'=w.frozen? a':=World.frozen?_setCell _ _ _ _
theorem Sat.setCell{W w:World}{b off:Nat}{cs:List Value}{R:aa}(s:Sat W w (sep (arr b off cs) R)){i:Nat}(v:Value)(hi:i<cs.length) :
  Sat W (w.setCell ⟨b,off+i,none⟩ v) (sep (arr b off (cs.set i v)) R):=by
 obtain⟨hb,hc⟩:=fu s (i:=i) (v:=cs[i]) (by simp[hi])
 obtain⟨h,⟨h1,h2,a1,a2,d,rfl⟩,hin⟩:=s.own
 refine⟨fun k hk=>?_,?_,s.os,s.tape,s.out,join (fun x y=>if x=b∧off≤y then ((cs.set i v)[y-off]?).map Item.cell else none) h2,⟨_,h2,fun _ _=>rfl,a2,?_,rfl⟩,?_⟩
 ·rw[← s.old k hk];exact Below.heap_setCell _ _ _ _ (show k≠b from by omega)
 ·have:=s.size;simpa [World.setCell] using this
 ·intro x y
  rcases d x y with e | e
  ·left
   rw[a1] at e
   simp only
   split
   ·rename_i hxy
    rw[if_pos hxy] at e
    simp at e ⊢
    exact e
   ·rfl
  ·exact .inr e
 ·intro x y it e
  unfold join at e
  simp only at e
  by_cases hxy:x=b∧off≤y
  ·rw[if_pos hxy] at e
   obtain⟨rfl,hy⟩:=hxy
   by_cases hlt:y-off<cs.length
   ·by_cases hyi:i=y-off
    ·obtain rfl:y=off+i:=by omega
     simp[hi] at e
     subst e
     refine⟨hb,?_⟩
     exact⟨w9 _ _ _ _ _ hc,(kM _ _ _ _).trans (rm s hi)⟩
    ·rw[List.getElem?_set_ne hyi] at e
     simp[hlt] at e
     subst e
     obtain⟨_,hc'⟩:=fu s (i:=y - off) (v:=cs[y - off]) (by simp[hlt])
     refine⟨hb,?_⟩
     have e2:off+(y-off)=y:=by omega
     rw[e2] at hc'
     have hf':=rm s (i:=y-off) hlt
     rw[e2] at hf'
     exact⟨(lI _ _ _ _ (by simp;omega) rfl).trans hc',(kM _ _ _ _).trans hf'⟩
   ·rw[List.getElem?_eq_none (by simp;omega)] at e
    simp at e
    have h1n:h1 x y=none:=by rw[a1,if_pos ⟨rfl,hy⟩,List.getElem?_eq_none (by omega)];rfl
    have:=hin x y it (by unfold join;simp[h1n,e])
    refine⟨this.1,?_⟩
    cases it with
    | cell u=>exact⟨(lI _ _ _ _ (by simp;omega) rfl).trans this.2.1,(kM _ _ _ _).trans this.2.2⟩
    | obj o=>exact⟨this.2.1,nH _ _ _ _ _ this.2.2.2 this.2.2.1,this.2.2.2⟩
  ·rw[if_neg hxy] at e
   simp at e
   have h1n:h1 x y=none:=by rw[a1,if_neg hxy]
   have:=hin x y it (by unfold join;simp[h1n,e])
   refine⟨this.1,?_⟩
   cases it with
   | cell u=>exact⟨(lI _ _ _ _ (by simp;omega) rfl).trans this.2.1,(kM _ _ _ _).trans this.2.2⟩
   | obj o=>exact⟨this.2.1,nH _ _ _ _ _ this.2.2.2 this.2.2.1,this.2.2.2⟩
theorem AA{w:World}{b:Nat}{x:Obj}(h:w.heap[b]?=some x):b<w.heap.size:=(Array.getElem?_eq_some_iff.1 h).1
theorem Item.lt{w:World}{b o:Nat}{it:Item}(h:it.Dq w b o):b<w.heap.size:=by
 cases it with
 | cell v=>exact vk h.1
 | obj x=>exact AA h.2.1
theorem Item.push{w:World}{b o:Nat}{it:Item}(x:Obj)(h:it.Dq w b o):it.Dq (w.alloc x) b o:=by
 have hb:=Item.lt h
 have e:=Below.heap_alloc w x b hb
 cases it with
 | cell v=>exact⟨(World.cell?_of_block (w:=w) (a:=⟨b,o,none⟩) e).trans h.1,(World.frozen?_of_block (w:=w) (a:=⟨b,o,none⟩) e).trans h.2⟩
 | obj y=>exact⟨h.1,e.trans h.2.1,h.2.2⟩
theorem Sat.alloc{W w:World}{A:aa}(s:Sat W w A)(cs:Array Value)(T:TypeId) :
  Sat W (w.alloc (.cells cs T)) (sep (arr w.heap.size 0 cs.toList) A):=by
 obtain⟨h,a,hin⟩:=s.own
 have hnew:(w.alloc (.cells cs T)).heap[w.heap.size]?=some (.cells cs T):=(MapKept.heap_alloc w _).1
 have dd:∀ y,h w.heap.size y=none:=by
  intro y
  cases e:h w.heap.size y with
  | none=>rfl
  | some it=>exact absurd (Item.lt (hin _ _ _ e).2) (Nat.lt_irrefl _)
 refine⟨fun k hk=>?_,?_,s.os,s.tape,s.out,join (fun x y=>if x=w.heap.size∧0≤y then ((cs.toList)[y-0]?).map Item.cell else none) h,⟨_,h,fun _ _=>rfl,a,?_,rfl⟩,?_⟩
 ·rw[← s.old k hk];exact Below.heap_alloc _ _ _ (Nat.lt_of_lt_of_le hk s.size)
 ·have:=s.size;simp;omega
 ·intro x y
  by_cases hx:x=w.heap.size
  ·subst hx;exact .inr (dd y)
  ·left;simp[hx]
 ·intro x y it e
  unfold join at e
  by_cases hx:x=w.heap.size
  ·subst hx
   simp[dd] at e
   obtain⟨v,hv,rfl⟩:=e
   refine⟨s.size,?_⟩
   show(w.alloc (.cells cs T)).cell? ⟨w.heap.size,y,none⟩=some v∧(w.alloc (.cells cs T)).frozen? ⟨w.heap.size,y,none⟩=false
   unfold World.cell? World.frozen?
   rw[hnew]
   exact⟨by simpa using hv,by simp⟩
  ·simp[hx] at e
   have:=hin x y it e
   exact⟨this.1,Item.push _ this.2⟩
theorem Sat.drew{W w:World}{A:aa}(s:Sat W w A):Sat W {w with drawn:=w.drawn+1 } A :=
 ⟨s.old,s.size,s.os,s.tape,s.out,let ⟨h,a,i⟩:=s.own;⟨h,a,fun b o x e=>⟨(i b o x e).1,by cases x <;> exact(i b o _ e).2⟩⟩⟩
/-! objects that are no cells -/
theorem Sat.xa{W w:World}{A:aa}(s:Sat W w A)(x:Obj)(hx:cellsB x=false) :
  Sat W (w.alloc x) (sep (iT w.heap.size x) A):=by
 obtain⟨h,a,hin⟩:=s.own
 have hnew:(w.alloc x).heap[w.heap.size]?=some x:=(MapKept.heap_alloc w _).1
 have dd:∀ y,h w.heap.size y=none:=by
  intro y
  cases e:h w.heap.size y with
  | none=>rfl
  | some it=>exact absurd (Item.lt (hin _ _ _ e).2) (Nat.lt_irrefl _)
 refine⟨fun k hk=>?_,?_,s.os,s.tape,s.out,join (fun p q=>if p=w.heap.size∧q=0 then some (.obj x) else none) h,⟨_,h,⟨hx,fun _ _=>rfl⟩,a,?_,rfl⟩,?_⟩
 ·rw[← s.old k hk];exact Below.heap_alloc _ _ _ (Nat.lt_of_lt_of_le hk s.size)
 ·have:=s.size;simp;omega
 ·intro p q
  by_cases hp:p=w.heap.size
  ·subst hp;exact .inr (dd q)
  ·left;simp[hp]
 ·intro p q it e
  unfold join at e
  by_cases hp:p=w.heap.size
  ·subst hp
   simp[dd] at e
   obtain⟨rfl,rfl⟩:=e
   exact⟨s.size,rfl,hnew,hx⟩
  ·simp[hp] at e
   have:=hin p q it e
   exact⟨this.1,Item.push _ this.2⟩
theorem jX{W w:World}{b:Nat}{x:Obj}{R:aa}(s:Sat W w (sep (iT b x) R)):W.heap.size≤b∧w.heap[b]?=some x∧cellsB x=false:=by
 obtain⟨h,⟨hx,a⟩,hi⟩:=s.left.own
 have:=hi b 0 (.obj x) (by rw[a];simp)
 exact⟨this.1,this.2.2.1,hx⟩
theorem Sat.setObj{W w:World}{b:Nat}{x:Obj}{R:aa}(s:Sat W w (sep (iT b x) R))(y:Obj)(hy:cellsB y=false) :
  Sat W {w with heap:=w.heap.setIfInBounds b y } (sep (iT b y) R):=by
 obtain⟨hb,hx,hnc⟩:=jX s
 obtain⟨h,⟨h1,h2,⟨_,a1⟩,a2,d,rfl⟩,hin⟩:=s.own
 have hlt:=AA hx
 have hfr:∀ a:Addr,({w with heap:=w.heap.setIfInBounds b y }:World).frozen? a=w.frozen? a:=by
  intro a
  unfold World.frozen?
  simp only
  by_cases e:a.block=b
  ·rw[e,hx]
   rw[Array.getElem?_setIfInBounds_self_of_lt hlt]
   cases x <;> cases y <;> simp_all [cellsB]
  ·rw[Array.getElem?_setIfInBounds_ne (fun h=>e h.symm)]
 refine⟨fun k hk=>?_,?_,s.os,s.tape,s.out,join (fun p q=>if p=b∧q=0 then some (.obj y) else none) h2,⟨_,h2,⟨hy,fun _ _=>rfl⟩,a2,?_,rfl⟩,?_⟩
 ·rw[← s.old k hk]
  simp only
  rw[Array.getElem?_setIfInBounds_ne (by omega)]
 ·have:=s.size;simpa using this
 ·intro p q
  rcases d p q with e | e
  ·left
   rw[a1] at e
   simp only
   split
   ·rename_i hpq;rw[if_pos hpq] at e;cases e
   ·rfl
  ·exact .inr e
 ·intro p q it e
  unfold join at e
  by_cases hpq:p=b∧q=0
  ·obtain⟨rfl,rfl⟩:=hpq
   simp at e
   subst e
   exact⟨hb,rfl,by simp[hlt],hy⟩
  ·simp only at e
   rw[if_neg hpq] at e
   simp at e
   have h1n:h1 p q=none:=by rw[a1,if_neg hpq]
   have:=hin p q it (by unfold join;simp[h1n,e])
   refine⟨this.1,?_⟩
   cases it with
   | cell v =>
    have h':=this.2
    refine⟨?_,(hfr _).trans h'.2⟩
    replace h':=h'.1
    unfold World.cell? at h' ⊢
    simp only at h' ⊢
    by_cases e':p=b
    ·subst e'
     rw[hx] at h'
     cases x <;> simp_all [cellsB]
    ·rw[Array.getElem?_setIfInBounds_ne (fun h=>e' h.symm)];exact h'
   | obj z =>
    have h':=this.2
    refine⟨h'.1,?_,h'.2.2⟩
    have:p≠b:=fun e=>hpq ⟨e,h'.1⟩
    simp only
    rw[Array.getElem?_setIfInBounds_ne (fun h=>this h.symm)]
    exact h'.2.1
theorem Sat.below{W w w':World}{A:aa}(s:Sat W w A)(hb:Below w.heap.size w w'):Sat W w' A :=
 ⟨fun b h=>(hb.block b (Nat.lt_of_lt_of_le h s.size)).trans (s.old b h),Nat.le_trans s.size hb.size,hb.os.trans s.os,hb.tape.trans s.tape,hb.output.trans s.out,
  let ⟨h,a,i⟩:=s.own;⟨h,a,fun b o x e=>⟨(i b o x e).1,by
   have hl:=(i b o x e).2
   have hlt:=Item.lt hl
   cases x with
   | cell v=>exact⟨(hb.cell (p:=⟨b,o,none⟩) hlt).trans hl.1,(hb.frozen (p:=⟨b,o,none⟩) hlt).trans hl.2⟩
   | obj y=>exact⟨hl.1,(hb.block b hlt).trans hl.2.1,hl.2.2⟩⟩⟩⟩
theorem Sat.IM{W w:World}{A:aa}(s:Sat W w A):Below W.heap.size W w:=⟨s.os,s.tape,s.out,s.size,fun b h=>s.old b h⟩
end Go.SLYtefdijgllbkmfaaGreat
namespace Go.SLYtefdijgllbkmfaaGreat
open Go Go.RowKit
def look:List (Nat×Option Value)→Nat→Option Value
 | [],_=>none
 | (j,v)::L,k=>match Nat.beq j k with
  | true=>v
  | false=>look L k
theorem eB(j:Nat)(v:Option Value)(L:List (Nat×Option Value))(k:Nat):look ((j,v)::L) k=if j=k then v else look L k:=by
 unfold look
 by_cases h:j=k
 ·subst h;simp
 ·have:Nat.beq j k=false:=by cases e:Nat.beq j k with
   | false=>rfl
   | true=>exact absurd (Nat.eq_of_beq_eq_true e) h
  rw[this,if_neg h]
  cases L <;> rfl
def ev(L:List (Nat×Option Value)):Operand→Option Value
 | .tmp t=>look L t
 | .const v=>some v
 | .global g=>some (.pointer (some ⟨g,0,none⟩))
 | .func f=>some (.func (.func f) #[] #[])
def evs(L:List (Nat×Option Value)):List Operand→Option (List Value)
 | []=>some []
 | x::r=>match ev L x,evs L r with
  | some v,some vs=>some (v::vs)
  | _,_=>none
structure Env(N:Nat)(L:List (Nat×Option Value))(a:Act):Prop where
 size:a.tmps.size=N
 get:∀ k v,look L k=some v→a.tmps[k]?=some v
 defers:a.defers=[]
theorem Env.eval{N:Nat}{L:List (Nat×Option Value)}{a:Act}(h:Env N L a){x:Operand}{v:Value}(hv:ev L x=some v):a.eval x=v:=by
 cases x with
 | tmp t =>
  have:=h.get t v hv
  unfold Act.eval
  simp[this]
 | const u=>unfold ev at hv;exact Option.some.inj hv
 | global g=>unfold ev at hv;exact Option.some.inj hv
 | func f=>unfold ev at hv;exact Option.some.inj hv
theorem Env.mV{N:Nat}{L:List (Nat×Option Value)}{a:Act}(h:Env N L a):∀ {xs:List Operand} {vs:List Value},evs L xs=some vs→xs.map a.eval=vs
 | [],vs,e=>by unfold evs at e;simpa using e
 | x::xs,vs,e=>by
  unfold evs at e
  cases h1:ev L x with
  | none=>rw[h1] at e;cases e
  | some v =>
   cases h2:evs L xs with
   | none=>rw[h1,h2] at e;cases e
   | some us =>
    rw[h1,h2] at e
    cases e
    simp[h.eval h1,h.mV h2]
theorem Env.put{N:Nat}{L:List (Nat×Option Value)}{a:Act}(h:Env N L a){d:Nat}(hd:d<N)(v:Value):Env N ((d,some v)::L) (a.put (some d) v):=by
 refine⟨by simp[Act.put,h.size],fun k u hu=>?_,h.defers⟩
 rw[eB] at hu
 show(a.tmps.setIfInBounds d v)[k]?=some u
 by_cases e:d=k
 ·subst e
  rw[if_pos rfl] at hu
  cases hu
  rw[Array.getElem?_setIfInBounds_self_of_lt (by rw[h.size];exact hd)]
 ·rw[if_neg e] at hu
  rw[Array.getElem?_setIfInBounds_ne e]
  exact h.get k u hu
def Sub:List (Nat×Option Value)→List (Nat×Option Value)→Prop
 | [],_=>True
 | (_,none)::r,L=>Sub r L
 | (k,some v)::r,L=>look L k=some v∧Sub r L
theorem Sub.get{L:List (Nat×Option Value)}:∀ {r:List (Nat×Option Value)},Sub r L→ ∀ k v,look r k=some v→look L k=some v
 | [],_,_,_,e=>by cases e
 | (j,none)::r,h,k,v,e=>by
  rw[eB] at e
  by_cases hj:j=k
  ·rw[if_pos hj] at e;cases e
  ·rw[if_neg hj] at e;exact Sub.get (r:=r) h k v e
 | (j,some u)::r,⟨h1,h2⟩,k,v,e=>by
  rw[eB] at e
  by_cases hj:j=k
  ·rw[if_pos hj] at e;cases e;subst hj;exact h1
  ·rw[if_neg hj] at e;exact h2.get k v e
def nones:List Nat→List (Nat×Option Value)
 | []=>[]
 | k::r=>(k,none)::nones r
theorem qk(A B:List (Nat×Option Value))(k:Nat)(h:∀ v,(k,v) ∉ A):look (A++B) k=look B k:=by
 induction A with
 | nil=>rfl
 | cons p A ih =>
  obtain⟨j,v⟩:=p
  rw[List.cons_append,eB,if_neg (fun e=>h v (by subst e;exact List.mem_cons_self ..)),ih (fun v hv=>h v (List.mem_cons_of_mem _ hv))]
theorem BP{ks:List Nat}{k:Nat}{v:Option Value}:(k,v)∈nones ks↔k∈ks∧v=none:=by
 induction ks with
 | nil=>simp[nones]
 | cons j r ih =>
  simp only[nones,List.mem_cons,ih,Prod.mk.injEq]
  constructor
  ·rintro(⟨rfl,rfl⟩ | ⟨h1,h2⟩)
   ·exact⟨.inl rfl,rfl⟩
   ·exact⟨.inr h1,h2⟩
  ·rintro⟨rfl | h1,h2⟩
   ·exact .inl ⟨rfl,h2⟩
   ·exact .inr ⟨h1,h2⟩
theorem rn{ks:List Nat}{B:List (Nat×Option Value)}{k:Nat}{v:Value}(h:look (nones ks++B) k=some v):k ∉ ks∧look B k=some v:=by
 induction ks with
 | nil=>exact⟨by simp,h⟩
 | cons j r ih =>
  simp only[nones,List.cons_append] at h
  rw[eB] at h
  by_cases e:j=k
  ·rw[if_pos e] at h;cases h
  ·rw[if_neg e] at h
   obtain⟨h1,h2⟩:=ih h
   exact⟨by simp[Ne.symm e,h1],h2⟩
inductive yY(ks:List Nat):List (Nat×Option Value)→List (Nat×Option Value)→Prop where
 | base {B:List (Nat×Option Value)}:yY ks B B
 | cons {k:Nat} {v:Option Value} {A B:List (Nat×Option Value)} (hk:ks.elem k=true) (h:yY ks A B):yY ks ((k,v)::A) B
theorem yY.look{ks:List Nat}{A B:List (Nat×Option Value)}(t:yY ks A B){k:Nat}(hk:k ∉ ks):look A k=SLYtefdijgllbkmfaaGreat.look B k:=by
 induction t with
 | base=>rfl
 | cons h _ ih =>
  rw[eB,if_neg (fun e=>hk (by subst e;exact List.elem_iff.1 h)),ih]
theorem Sub.Mh{ks:List Nat}{E A L:List (Nat×Option Value)}(t:yY ks A L)(h:Sub E A):∀ k v,SLYtefdijgllbkmfaaGreat.look (E++(nones ks++L)) k=some v→SLYtefdijgllbkmfaaGreat.look A k=some v:=by
 intro k v hv
 induction E with
 | nil =>
  obtain⟨h1,h2⟩:=rn hv
  rw[t.look h1];exact h2
 | cons p r ih =>
  obtain⟨j,u⟩:=p
  rw[List.cons_append,eB] at hv
  cases u with
  | none =>
   by_cases e:j=k
   ·rw[if_pos e] at hv;cases hv
   ·rw[if_neg e] at hv;exact ih h hv
  | some u =>
   by_cases e:j=k
   ·rw[if_pos e] at hv;cases hv;subst e;exact h.1
   ·rw[if_neg e] at hv;exact ih h.2 hv
theorem Sub.round{ks:List Nat}{E E' A L:List (Nat×Option Value)}(t:yY ks A (E++(nones ks++L)))(hE:∀ k v,(k,v)∈E→ks.elem k=true)(h:Sub E' A) :
  ∀ k v,SLYtefdijgllbkmfaaGreat.look (E'++(nones ks++L)) k=some v→SLYtefdijgllbkmfaaGreat.look A k=some v:=by
 intro k v hv
 have split:∀ (E':List (Nat×Option Value)),Sub E' A→SLYtefdijgllbkmfaaGreat.look (E'++(nones ks++L)) k=some v→SLYtefdijgllbkmfaaGreat.look A k=some v:=by
  intro E'
  induction E' with
  | nil =>
   intro _ hv
   obtain⟨h1,h2⟩:=rn hv
   rw[t.look h1,qk _ _ _ (fun v hm=>h1 (List.elem_iff.1 (hE _ _ hm))),qk _ _ _ (fun v hm=>h1 (BP.1 hm).1)]
   exact h2
  | cons p r ih =>
   obtain⟨j,u⟩:=p
   intro hs hv
   rw[List.cons_append,eB] at hv
   cases u with
   | none =>
    by_cases e:j=k
    ·rw[if_pos e] at hv;cases hv
    ·rw[if_neg e] at hv;exact ih hs hv
   | some u =>
    by_cases e:j=k
    ·rw[if_pos e] at hv;cases hv;subst e;exact hs.1
    ·rw[if_neg e] at hv;exact ih hs.2 hv
 exact split E' h hv
theorem Env.sub{N:Nat}{L L':List (Nat×Option Value)}{a:Act}(h:Env N L a)(s:Sub L' L):Env N L' a :=
 ⟨h.size,fun k v e=>h.get k v (s.get k v e),h.defers⟩
/-! ### Chunks in a list -/
inductive Take:List aa→aa→List aa→Prop where
 | here {A:aa} {H:List aa}:Take (A::H) A H
 | there {A B:aa} {H R:List aa} (h:Take H A R):Take (B::H) A (B::R)
theorem Take.seps{H R:List aa}{A:aa}(t:Take H A R):seps H=sep A (seps R):=by
 induction t with
 | here=>rfl
 | there _ ih=>simp only[SLYtefdijgllbkmfaaGreat.seps,ih];exact aY _ _ _
inductive gJ:List aa→List aa→List aa→Prop where
 | nil {H:List aa}:gJ H [] H
 | cons {H R R':List aa} {A:aa} {As:List aa} (h:Take H A R) (t:gJ R As R'):gJ H (A::As) R'
theorem gJ.seps{H R As:List aa}(t:gJ H As R):seps H=seps (As++R):=by
 induction t with
 | nil=>rfl
 | cons h _ ih=>rw[h.seps,ih];rfl
inductive gG:List aa→aa→aa→List aa→Prop where
 | here {A B:aa} {H:List aa}:gG (A::H) A B (B::H)
 | there {A B C:aa} {H H':List aa} (h:gG H A B H'):gG (C::H) A B (C::H')
theorem gG.seps{H H':List aa}{A B:aa}(t:gG H A B H'):∃ R,seps H=sep A R∧seps H'=sep B R:=by
 induction t with
 | here=>exact⟨_,rfl,rfl⟩
 | there _ ih =>
  obtain⟨R,h1,h2⟩:=ih
  exact⟨sep _ R,by simp only[SLYtefdijgllbkmfaaGreat.seps,h1];exact aY _ _ _,by simp only[SLYtefdijgllbkmfaaGreat.seps,h2];exact aY _ _ _⟩
/-! ### The judgements -/
section
variable(P:Program)(W:World)(N:Nat)
def cj(Q:Exit→Act→World→Prop)(e:Exit)(L:List (Nat×Option Value))(H:List aa):Prop:=∀ a w,Env N L a→Sat W w (seps H)→Q e a w
def ax(Q:Exit→Act→World→Prop)(c:Code)(L:List (Nat×Option Value))(H:List aa):Prop:=∀ a w,Env N L a→Sat W w (seps H)→c.wp P Q a w
def aQ(O:Array Oper)(Q:Exit→Act→World→Prop)(ops:List Oper)(L:List (Nat×Option Value))(H:List aa):Prop :=
 ∀ a w,Env N L a→Sat W w (seps H)→wpList P O Q ops a w
def vn(O:Array Oper)(Q:Exit→Act→World→Prop)(ops:List Oper)(L:List (Nat×Option Value))(H:List aa):Prop :=
 ∀ a,Env N L a→wpQuiet P O (fun w=>Sat W w (seps H)) (fun a'=>∀ w',Sat W w' (seps H)→Q .normal a' w') ops a
def Y(op:Op)(T:TypeId)(L:List (Nat×Option Value))(H:List aa)(v:Value):Prop :=
 ∀ dst pos after guard a w,Env N L a→Sat W w (seps H)→(execOp a.eval ⟨dst,op,T,pos,after,guard⟩).run P w = .ok (.value v) w
end
section
variable{P:Program}{W:World}{N:Nat}{Q:Exit→Act→World→Prop}{L:List (Nat×Option Value)}{H:List aa}{O:Array Oper}
theorem cj.t{c:Code}(k:ax P W N Q c L H):cj W N (Exit.then (c.wp P Q) Q) .normal L H:=k
theorem cj.tr{next:Act→World→Prop}(k:cj W N Q .ret L H):cj W N (Exit.then next Q) .ret L H:=k
theorem cj.tx{next:Act→World→Prop}{id:Nat}(k:cj W N Q (.exit id) L H):cj W N (Exit.then next Q) (.exit id) L H:=k
theorem cj.b{id:Nat}(k:cj W N Q .normal L H):cj W N (Exit.inBlock id Q) .normal L H:=k
theorem cj.br{id:Nat}(k:cj W N Q .ret L H):cj W N (Exit.inBlock id Q) .ret L H:=k
theorem cj.bh{id:Nat}(k:cj W N Q .normal L H):cj W N (Exit.inBlock id Q) (.exit id) L H:=fun a w ha hs=>by
 show(if id=id then Q .normal a w else Q (.exit id) a w)
 rw[if_pos rfl];exact k a w ha hs
theorem cj.bp{id id':Nat}(h:Nat.beq id' id=false)(k:cj W N Q (.exit id') L H):cj W N (Exit.inBlock id Q) (.exit id') L H:=fun a w ha hs=>by
 show(if id'=id then Q .normal a w else Q (.exit id') a w)
 rw[if_neg (fun e=>by subst e;simp at h)];exact k a w ha hs
theorem ax.s{x y:Code}(k:ax P W N (Exit.then (y.wp P Q) Q) x L H):ax P W N Q (.seq x y) L H:=fun a w ha hs=>wp_seq (k a w ha hs)
theorem ax.b{id:Nat}{c:Code}(k:ax P W N (Exit.inBlock id Q) c L H):ax P W N Q (.block id c) L H:=fun a w ha hs=>wp_block (k a w ha hs)
theorem ax.v(k:cj W N Q .normal L H):ax P W N Q .skip L H:=fun a w ha hs=>wp_skip (k a w ha hs)
theorem ax.x{id:Nat}(k:cj W N Q (.exit id) L H):ax P W N Q (.exit id) L H:=fun a w ha hs=>wp_exit (k a w ha hs)
theorem ax.e(k:cj W N Q .ret L H):ax P W N Q .ret L H:=fun a w ha hs=>wp_ret (k a w ha hs)
theorem ax.cond{c:Operand}{x y:Code}{t:Bool}(hc:ev L c=some (.bool t))(ht:t=true→ax P W N Q x L H)(hf:t=false→ax P W N Q y L H):ax P W N Q (.cond c x y) L H :=
 fun a w ha hs=>wp_cond_split (ha.eval hc) (fun e=>ht e a w ha hs) (fun e=>hf e a w ha hs)
theorem ax.dN{c:Operand}{x y:Code}{p:Prop}[Decidable p](hc:ev L c=some (.bool (decide p)))(ht:p→ax P W N Q x L H)(hf:¬p→ax P W N Q y L H):ax P W N Q (.cond c x y) L H :=
 .cond hc (fun e=>ht (of_decide_eq_true e)) (fun e=>hf (of_decide_eq_false e))
theorem ax.gK{c:Operand}{x y:Code}(hc:ev L c=some (.bool true))(ht:ax P W N Q x L H):ax P W N Q (.cond c x y) L H:=.cond hc (fun _=>ht) (fun e=>by cases e)
theorem ax.jY{c:Operand}{x y:Code}(hc:ev L c=some (.bool false))(hf:ax P W N Q y L H):ax P W N Q (.cond c x y) L H:=.cond hc (fun e=>by cases e) (fun _=>hf)
theorem ax.r{id:Nat}{l:List Oper}(k:aQ P W N l.toArray Q l L H):ax P W N Q (.region id l.toArray false) L H:=fun a w ha hs=>wp_region_lit (k a w ha hs)
theorem ax.mono{c:Code}{Q':Exit→Act→World→Prop}(h:∀ e a w,Q' e a w→Q e a w)(k:ax P W N Q' c L H):ax P W N Q c L H:=fun a w ha hs=>wp_mono (k a w ha hs) h
theorem ax.mem{c:Code}{H':List aa}(h:∀ w,Sat W w (seps H)→Sat W w (seps H'))(k:ax P W N Q c L H'):ax P W N Q c L H:=fun a w ha hs=>k a w ha (h w hs)
theorem aQ.mem{ops:List Oper}{H':List aa}(h:∀ w,Sat W w (seps H)→Sat W w (seps H'))(k:aQ P W N O Q ops L H'):aQ P W N O Q ops L H:=fun a w ha hs=>k a w ha (h w hs)
theorem cj.mem{e:Exit}{H':List aa}(h:∀ w,Sat W w (seps H)→Sat W w (seps H'))(k:cj W N Q e L H'):cj W N Q e L H:=fun a w ha hs=>k a w ha (h w hs)
theorem ax.sub{c:Code}{L':List (Nat×Option Value)}(h:Sub L' L)(k:ax P W N Q c L' H):ax P W N Q c L H:=fun a w ha hs=>k a w (ha.sub h) hs
theorem aQ.sub{ops:List Oper}{L':List (Nat×Option Value)}(h:Sub L' L)(k:aQ P W N O Q ops L' H):aQ P W N O Q ops L H:=fun a w ha hs=>k a w (ha.sub h) hs
theorem cj.sub{e:Exit}{L':List (Nat×Option Value)}(h:Sub L' L)(k:cj W N Q e L' H):cj W N Q e L H:=fun a w ha hs=>k a w (ha.sub h) hs
theorem ax.fb{c:Code}{p:Prop}(h:∀ w,Sat W w (seps H)→p)(k:p→ax P W N Q c L H):ax P W N Q c L H:=fun a w ha hs=>k (h w hs) a w ha hs
theorem aQ.fb{ops:List Oper}{p:Prop}(h:∀ w,Sat W w (seps H)→p)(k:p→aQ P W N O Q ops L H):aQ P W N O Q ops L H:=fun a w ha hs=>k (h w hs) a w ha hs
theorem cj.fb{e:Exit}{p:Prop}(h:∀ w,Sat W w (seps H)→p)(k:p→cj W N Q e L H):cj W N Q e L H:=fun a w ha hs=>k (h w hs) a w ha hs
theorem ax.open{c:Code}{A:aa}{X:Type}{As:X→List aa}{R:List aa}(t:Take H A R)(h:∀ w R',Sat W w (sep A R')→ ∃ x,Sat W w (sep (seps (As x)) R'))(k:∀ x,ax P W N Q c L (As x++R)):ax P W N Q c L H :=
 fun a w ha hs=>by
  rw[t.seps] at hs
  obtain⟨x,hx⟩:=h w _ hs
  exact k x a w ha (by rw[ah];exact hx)
theorem aQ.open{ops:List Oper}{A:aa}{X:Type}{As:X→List aa}{R:List aa}(t:Take H A R)(h:∀ w R',Sat W w (sep A R')→ ∃ x,Sat W w (sep (seps (As x)) R'))(k:∀ x,aQ P W N O Q ops L (As x++R)):aQ P W N O Q ops L H :=
 fun a w ha hs=>by
  rw[t.seps] at hs
  obtain⟨x,hx⟩:=h w _ hs
  exact k x a w ha (by rw[ah];exact hx)
theorem cj.open{e:Exit}{A:aa}{X:Type}{As:X→List aa}{R:List aa}(t:Take H A R)(h:∀ w R',Sat W w (sep A R')→ ∃ x,Sat W w (sep (seps (As x)) R'))(k:∀ x,cj W N Q e L (As x++R)):cj W N Q e L H :=
 fun a w ha hs=>by
  rw[t.seps] at hs
  obtain⟨x,hx⟩:=h w _ hs
  exact k x a w ha (by rw[ah];exact hx)
theorem ax.shut{c:Code}{As:List aa}{A:aa}{R:List aa}(t:gJ H As R)(h:∀ w R',Sat W w (sep (seps As) R')→Sat W w (sep A R'))(k:ax P W N Q c L (A::R)):ax P W N Q c L H :=
 fun a w ha hs=>k a w ha (by rw[t.seps,ah] at hs;exact h w _ hs)
theorem aQ.shut{ops:List Oper}{As:List aa}{A:aa}{R:List aa}(t:gJ H As R)(h:∀ w R',Sat W w (sep (seps As) R')→Sat W w (sep A R'))(k:aQ P W N O Q ops L (A::R)):aQ P W N O Q ops L H :=
 fun a w ha hs=>k a w ha (by rw[t.seps,ah] at hs;exact h w _ hs)
theorem cj.shut{e:Exit}{As:List aa}{A:aa}{R:List aa}(t:gJ H As R)(h:∀ w R',Sat W w (sep (seps As) R')→Sat W w (sep A R'))(k:cj W N Q e L (A::R)):cj W N Q e L H :=
 fun a w ha hs=>k a w ha (by rw[t.seps,ah] at hs;exact h w _ hs)
theorem aQ.n(k:cj W N Q .normal L H):aQ P W N O Q [] L H:=fun a w ha hs=>wpList_nil (k a w ha hs)
theorem vn.nil(k:cj W N Q .normal L H):vn P W N O Q [] L H:=fun a ha=>wpQuiet_nil fun w hs=>k a w ha hs
theorem aQ.y{op:Op}{T:TypeId}{pos:String}{after:Array Edge}{d:Nat}{rest:List Oper}{v:Value}(hN:Nat.blt d N=true)(hy:Y P W N op T L H v)(k:aQ P W N O Q rest ((d,some v)::L) H) :
  aQ P W N O Q (⟨some d,op,T,pos,after,none⟩::rest) L H:=fun a w ha hs =>
 wpList_plain rfl fun K hK=>by
  unfold Oper.wp
  rw[hy _ _ _ _ a w ha hs]
  exact hK _ _ (k _ w (ha.put (Nat.blt_eq.mp hN) v) hs)
theorem vn.y{op:Op}{T:TypeId}{pos:String}{after:Array Edge}{d:Nat}{rest:List Oper}{v:Value}(hN:Nat.blt d N=true)(hy:Y P W N op T L H v)(k:vn P W N O Q rest ((d,some v)::L) H) :
  vn P W N O Q (⟨some d,op,T,pos,after,none⟩::rest) L H:=fun a ha =>
 wpQuiet_step fun K hK=>by
  rw[if_pos (by simp[Region.wanted])]
  refine⟨v,fun w hs=>?_,hK _ (k _ (ha.put (Nat.blt_eq.mp hN) v))⟩
  unfold Oper.quietAt
  rw[hy _ _ _ _ a w ha hs]
  exact⟨rfl,rfl⟩
def boolOf:Value→Option Bool
 | .bool b=>some b
 | _=>none
theorem eh{L:List (Nat×Option Value)}{a:Act}{N:Nat}(ha:Env N L a){o:Oper}{j t:Nat}{want:Bool}{v:Value}(hg:o.guard=some (j,want))(hj:(O[j]?).bind (·.dst)=some t)(ht:look L t=some v) :
  Region.wanted o (yielded O a.tmps)=(boolOf v == some want):=by
 unfold Region.wanted
 rw[hg]
 show(yielded O a.tmps j == some want)=_
 unfold yielded
 rw[hj]
 simp only[Option.bind_some,ha.get t v ht]
 cases v <;> rfl
theorem aQ.yg{op:Op}{T:TypeId}{pos:String}{after:Array Edge}{d j t:Nat}{want:Bool}{rest:List Oper}{v:Value}(hj:(O[j]?).bind (·.dst)=some t)(ht:look L t=some (.bool want))(hN:Nat.blt d N=true)
  (hy:Y P W N op T L H v) (k:aQ P W N O Q rest ((d,some v)::L) H) :
  aQ P W N O Q (⟨some d,op,T,pos,after,some (j,want)⟩::rest) L H:=fun a w ha hs =>
 wpList_step fun K hK=>by
  rw[if_pos (by rw[eh ha rfl hj ht];simp[boolOf])]
  unfold Oper.wp
  rw[hy _ _ _ _ a w ha hs]
  exact hK _ _ (k _ w (ha.put (Nat.blt_eq.mp hN) v) hs)
theorem aQ.skip{op:Op}{T:TypeId}{pos:String}{after:Array Edge}{d j t:Nat}{want:Bool}{rest:List Oper}{u:Value}(hj:(O[j]?).bind (·.dst)=some t)(ht:look L t=some u)(hb:(boolOf u == some want)=false)(hN:Nat.blt d N=true)
  (k:aQ P W N O Q rest ((d,some undef)::L) H) :
  aQ P W N O Q (⟨some d,op,T,pos,after,some (j,want)⟩::rest) L H:=fun a w ha hs =>
 wpList_step fun K hK=>by
  rw[if_neg (by rw[eh ha rfl hj ht,hb];simp)]
  exact hK _ _ (k _ w (ha.put (Nat.blt_eq.mp hN) undef) hs)
theorem vn.yg{op:Op}{T:TypeId}{pos:String}{after:Array Edge}{d j t:Nat}{want:Bool}{rest:List Oper}{v:Value}(hj:(O[j]?).bind (·.dst)=some t)(ht:look L t=some (.bool want))(hN:Nat.blt d N=true)
  (hy:Y P W N op T L H v) (k:vn P W N O Q rest ((d,some v)::L) H) :
  vn P W N O Q (⟨some d,op,T,pos,after,some (j,want)⟩::rest) L H:=fun a ha =>
 wpQuiet_step fun K hK=>by
  rw[if_pos (by rw[eh ha rfl hj ht];simp[boolOf])]
  refine⟨v,fun w hs=>?_,hK _ (k _ (ha.put (Nat.blt_eq.mp hN) v))⟩
  unfold Oper.quietAt
  rw[hy _ _ _ _ a w ha hs]
  exact⟨rfl,rfl⟩
theorem vn.skip{op:Op}{T:TypeId}{pos:String}{after:Array Edge}{d j t:Nat}{want:Bool}{rest:List Oper}{u:Value}(hj:(O[j]?).bind (·.dst)=some t)(ht:look L t=some u)(hb:(boolOf u == some want)=false)(hN:Nat.blt d N=true)
  (k:vn P W N O Q rest ((d,some undef)::L) H) :
  vn P W N O Q (⟨some d,op,T,pos,after,some (j,want)⟩::rest) L H:=fun a ha =>
 wpQuiet_step fun K hK=>by
  rw[if_neg (by rw[eh ha rfl hj ht,hb];simp)]
  exact hK _ (k _ (ha.put (Nat.blt_eq.mp hN) undef))
theorem aQ.part{ops:List Oper}{t:Nat}{b:Bool}(ht:look L t=some (.bool b))(h1:b=true→aQ P W N O Q ops ((t,some (.bool true))::L) H)(h2:b=false→aQ P W N O Q ops ((t,some (.bool false))::L) H):aQ P W N O Q ops L H:=fun a w ha hs=>by
 have hx:∀ u,b=u→Env N ((t,some (.bool u))::L) a:=fun u e=>by
  subst e
  refine⟨ha.size,fun k v hv=>?_,ha.defers⟩
  rw[eB] at hv
  by_cases hk:t=k
  ·rw[if_pos hk] at hv;cases hv;subst hk;exact ha.get _ _ ht
  ·rw[if_neg hk] at hv;exact ha.get _ _ hv
 cases b with
 | true=>exact h1 rfl a w (hx _ rfl) hs
 | false=>exact h2 rfl a w (hx _ rfl) hs
theorem aQ.lJ{ops:List Oper}{t:Nat}{p:Prop}[Decidable p](ht:look L t=some (.bool (decide p)))(h1:p→aQ P W N O Q ops ((t,some (.bool true))::L) H)(h2:¬p→aQ P W N O Q ops ((t,some (.bool false))::L) H):aQ P W N O Q ops L H :=
 .part ht (fun e=>h1 (of_decide_eq_true e)) (fun e=>h2 (of_decide_eq_false e))
theorem vn.part{ops:List Oper}{t:Nat}{b:Bool}(ht:look L t=some (.bool b))(h1:b=true→vn P W N O Q ops ((t,some (.bool true))::L) H)(h2:b=false→vn P W N O Q ops ((t,some (.bool false))::L) H):vn P W N O Q ops L H:=fun a ha=>by
 have hx:∀ u,b=u→Env N ((t,some (.bool u))::L) a:=fun u e=>by
  subst e
  refine⟨ha.size,fun k v hv=>?_,ha.defers⟩
  rw[eB] at hv
  by_cases hk:t=k
  ·rw[if_pos hk] at hv;cases hv;subst hk;exact ha.get _ _ ht
  ·rw[if_neg hk] at hv;exact ha.get _ _ hv
 cases b with
 | true=>exact h1 rfl a (hx _ rfl)
 | false=>exact h2 rfl a (hx _ rfl)
theorem vn.lJ{ops:List Oper}{t:Nat}{p:Prop}[Decidable p](ht:look L t=some (.bool (decide p)))(h1:p→vn P W N O Q ops ((t,some (.bool true))::L) H)(h2:¬p→vn P W N O Q ops ((t,some (.bool false))::L) H):vn P W N O Q ops L H :=
 .part ht (fun e=>h1 (of_decide_eq_true e)) (fun e=>h2 (of_decide_eq_false e))
end
end Go.SLYtefdijgllbkmfaaGreat
namespace Go.SLYtefdijgllbkmfaaGreat
open Go Go.RowKit
def QF:Exit→Act→World→Prop:=fun _ _ _=>False
section
variable{P:Program}{O:Array Oper}{C:World→Prop}{Q:Exit→Act→World→Prop}
def aV(P:Program)(O:Array Oper)(C:World→Prop)(o:Oper)(v:Value)(a:Act):Prop :=
 (Region.wanted o (yielded O a.tmps)=true∧ ∀ w,C w→(execOp a.eval o).run P w = .ok (.value v) w)∨(Region.wanted o (yielded O a.tmps)=false∧v=undef)
theorem aV.same{o:Oper}{v:Value}{a a':Act}(hy:aV P O C o v a)(he:execOp a'.eval o=execOp a.eval o)
  (hw:Region.wanted o (yielded O a'.tmps)=Region.wanted o (yielded O a.tmps)):aV P O C o v a':=by
 unfold aV at *
 rw[he,hw]
 exact hy
theorem aV.unique{o:Oper}{v u:Value}{a:Act}{w:World}(hC:C w)(h1:aV P O C o v a)(h2:aV P O C o u a):v=u:=by
 rcases h1 with ⟨a1,b1⟩ | ⟨a1,b1⟩ <;> rcases h2 with ⟨a2,b2⟩ | ⟨a2,b2⟩
 ·have e1:=b1 w hC
  have e2:=b2 w hC
  rw[e1] at e2
  cases e2;rfl
 ·rw[a1] at a2;cases a2
 ·rw[a1] at a2;cases a2
 ·rw[b1,b2]
def wpK(P:Program)(O:Array Oper)(C:World→Prop)(Q:Exit→Act→World→Prop)(ks:Nat→Nat):List Nat→Act→World→Prop
 | [],a,w=>Q .normal a w
 | i::rest,a,w=>match O[i]? with
  | none=>False
  | some o=>match ks i with
   | 0=>C w∧ ∃ v,aV P O C o v a∧wpK P O C Q ks rest (a.put o.dst v) w
   | 1=>∃ v,aV P O (fun w'=>w'=w) o v a∧wpK P O C Q ks rest (a.put o.dst v) w
   | 2=>C w∧if Region.wanted o (yielded O a.tmps) then o.wp P a w (fun a' w'=>C w'∧wpK P O C Q ks rest a' w') QF else wpK P O C Q ks rest (a.put o.dst undef) w
   | _=>if Region.wanted o (yielded O a.tmps) then o.wp P a w (wpK P O C Q ks rest) Q else wpK P O C Q ks rest (a.put o.dst undef) w
def rp(x y:Nat):Bool:=(Nat.ble x 1 && Nat.ble y 1) || (Nat.beq x 0 && Nat.beq y 2) || (Nat.beq x 2 && Nat.beq y 0)
def dC(a:Act)(ds:List Deferred):Act:={a with defers:=ds }
theorem jx{o:Oper}{a b:Act}{w:World}{K K':Act→World→Prop}{Q':Exit→Act→World→Prop}(he:execOp b.eval o=execOp a.eval o)(hd:b.defers=a.defers)
  (h:∀ ds u w',K ((dC a ds).put o.dst u) w'→K' ((dC b ds).put o.dst u) w') (hh:o.wp P a w K QF):o.wp P b w K' Q':=by
 unfold Oper.wp at *
 rw[he]
 generalize (execOp a.eval o).run P w=r at *
 have ha:dC a a.defers=a:=rfl
 have hb:dC b a.defers=b:=by rw[← hd];rfl
 have h0:=h a.defers
 rw[ha,hb] at h0
 cases r with
 | ok n w' =>
  cases n <;> simp only[Oper.upon] at hh ⊢
  case value v=>exact h0 _ _ hh
  case skip=>exact h0 _ _ hh
  case enter f args =>
   refine Calls.mono hh (fun e w'' he=>?_)
   cases e with
   | returned v=>exact h0 _ _ he
   | panicked c=>exact he.elim
   | outgrown=>obtain⟨_,_,hf⟩:=he;exact hf.elim
  case row r' args=>exact Rows.mono hh (fun v w'' he=>h0 _ _ he)
  case defer d =>
   have:=h (d::a.defers) undef w' hh
   rw[hd]
   exact this
 | halt x w'=>cases x <;> simp only[Oper.upon] at hh ⊢ <;> exact hh.elim
theorem vo{o:Oper}{a:Act}{w:World}{K:Act→World→Prop}(hh:o.wp P a w K QF):∃ ds u w',K ((dC a ds).put o.dst u) w':=by
 unfold Oper.wp at *
 generalize (execOp a.eval o).run P w=r at *
 cases r with
 | ok n w' =>
  cases n <;> simp only[Oper.upon] at hh
  case value v=>exact⟨a.defers,v,w',hh⟩
  case skip=>exact⟨a.defers,undef,w',hh⟩
  case enter f args =>
   obtain⟨e,w'',fr,hR,_⟩:=hh []
   cases e with
   | returned v=>exact⟨a.defers,v,w'',hR⟩
   | panicked c=>exact hR.elim
   | outgrown=>obtain⟨_,_,hf⟩:=hR;exact hf.elim
  case row r' args =>
   obtain⟨v,w'',hR,_⟩:=hh default []
   exact⟨a.defers,v,w'',hR⟩
  case defer d=>exact⟨d::a.defers,undef,w',hh⟩
 | halt x w'=>cases x <;> simp only[Oper.upon] at hh <;> exact hh.elim
theorem dG(a:Act)(ds:List Deferred)(d:Option Tmp)(u:Value):(dC a ds).put d u=dC (a.put d u) ds:=by cases d <;> rfl
theorem aV.kept{o o':Oper}{v:Value}{a:Act}(hs:∀ cs b,o.op≠.select cs b)(hy:aV P O C o v a)(ds:List Deferred)(u:Value)(h:∀ d,o'.dst=some d→d ∉ o.looksAt O) :
  aV P O C o v ((dC a ds).put o'.dst u):=by
 refine(aV.same (a:=(dC a ds)) hy ?_ rfl).same (execOp_put o hs _ _ _ h) (wanted_put o _ _ _ h)
 have:(dC a ds).eval=a.eval:=by funext x;cases x <;> rfl
 rw[this]
theorem aV.back{o o':Oper}{v:Value}{a:Act}(hs:∀ cs b,o.op≠.select cs b)(ds:List Deferred)(u:Value)(h:∀ d,o'.dst=some d→d ∉ o.looksAt O)(hy:aV P O C o v ((dC a ds).put o'.dst u)) :
  aV P O C o v a:=by
 have e:(dC a ds).eval=a.eval:=by funext x;cases x <;> rfl
 refine aV.same hy ?_ ?_
 ·rw[execOp_put o hs _ _ _ h,e]
 ·rw[wanted_put o _ _ _ h];rfl
theorem Dr{ks:Nat→Nat}{i:Nat}{l l':List Nat}(h:∀ a w,wpK P O C Q ks l a w→wpK P O C Q ks l' a w){a:Act}{w:World}(hh:wpK P O C Q ks (i::l) a w):wpK P O C Q ks (i::l') a w:=by
 cases ho:O[i]? with
 | none=>simp only[wpK,ho] at hh
 | some o =>
  simp only[wpK,ho] at hh ⊢
  generalize ks i=k at *
  match k with
  | 0=>obtain⟨hc,v,hy,hr⟩:=hh;exact⟨hc,v,hy,h _ _ hr⟩
  | 1=>obtain⟨v,hy,hr⟩:=hh;exact⟨v,hy,h _ _ hr⟩
  | 2 =>
   obtain⟨hc,hh⟩:=hh
   refine⟨hc,?_⟩
   split
   ·rename_i hw;rw[if_pos hw] at hh;exact Oper.wp_mono (fun a w ⟨x,y⟩=>⟨x,h _ _ y⟩) hh
   ·rename_i hw;rw[if_neg hw] at hh;exact h _ _ hh
  | n+3 =>
   simp only at hh ⊢
   split
   ·rename_i hw;rw[if_pos hw] at hh;exact Oper.wp_mono h hh
   ·rename_i hw;rw[if_neg hw] at hh;exact h _ _ hh
theorem cK(a:Act){x y:Option Tmp}(v u:Value)(h:∀ d,x=some d→y≠some d):(a.put x v).put y u=(a.put y u).put x v:=Act.put_comm a v u h
theorem Ds{ks:Nat→Nat}{i j:Nat}{oi oj:Oper}{rest:List Nat}(hi:O[i]?=some oi)(hj:O[j]?=some oj)(hsi:∀ cs b,oi.op≠.select cs b)(hsj:∀ cs b,oj.op≠.select cs b)
  (hap:oi.apart O oj=true) (hk:rp (ks i) (ks j)=true) {a:Act} {w:World} (hh:wpK P O C Q ks (i::j::rest) a w):wpK P O C Q ks (j::i::rest) a w:=by
 obtain⟨h1,h2,h3⟩:=Oper.apart_spec hap
 have e0:∀ a:Act,dC a a.defers=a:=fun _=>rfl
 have keepi:∀ {C':World→Prop} {v:Value} {a:Act} (u:Value),aV P O C' oi v a→aV P O C' oi v (a.put oj.dst u):=fun {C' v a} u hy =>
  hy.kept (o':=oj) hsi a.defers u h3
 have keepj:∀ {C':World→Prop} {v:Value} {a:Act} (u:Value),aV P O C' oj v (a.put oi.dst u)→aV P O C' oj v a:=fun {C' v a} u hy =>
  aV.back (o':=oi) hsj a.defers u h1 hy
 simp only[wpK,hi,hj] at hh ⊢
 generalize ks i=ki at *
 generalize ks j=kj at *
 match ki,kj,hk with
 | 0,0,_ =>
  obtain⟨c1,v1,y1,c2,v2,y2,hr⟩:=hh
  exact⟨c1,v2,keepj _ y2,c1,v1,keepi _ y1,by rw[← cK a v1 v2 h2];exact hr⟩
 | 0,1,_ =>
  obtain⟨c1,v1,y1,v2,y2,hr⟩:=hh
  exact⟨v2,keepj _ y2,c1,v1,keepi _ y1,by rw[← cK a v1 v2 h2];exact hr⟩
 | 1,0,_ =>
  obtain⟨v1,y1,c2,v2,y2,hr⟩:=hh
  exact⟨c2,v2,keepj _ y2,v1,keepi _ y1,by rw[← cK a v1 v2 h2];exact hr⟩
 | 1,1,_ =>
  obtain⟨v1,y1,v2,y2,hr⟩:=hh
  exact⟨v2,keepj _ y2,v1,keepi _ y1,by rw[← cK a v1 v2 h2];exact hr⟩
 | 0,2,_ =>
  obtain⟨c1,v1,y1,c2,hr⟩:=hh
  rw[wanted_put oj a oi.dst v1 h1] at hr
  refine⟨c1,?_⟩
  split
  ·rename_i hw
   rw[if_pos hw] at hr
   refine jx (execOp_put oj hsj a oi.dst v1 h1).symm (by cases oi.dst <;> rfl) (fun ds u w' ⟨x,y⟩=>⟨x,x,v1,y1.kept hsi ds u h3,?_⟩) hr
   rw[dG,cK a v1 u h2, ← dG] at y
   rw[dG] at y ⊢
   rw[dG]
   exact y
  ·rename_i hw
   rw[if_neg hw] at hr
   exact⟨c1,v1,keepi _ y1,by rw[← cK a v1 undef h2];exact hr⟩
 | 2,0,_ =>
  obtain⟨c1,hr⟩:=hh
  by_cases hw:Region.wanted oi (yielded O a.tmps)=true
  ·rw[if_pos hw] at hr
   obtain⟨ds0,u0,w0,_,_,v,y0,_⟩:=vo hr
   have yv:=y0.back hsj ds0 u0 h1
   refine⟨c1,v,yv,c1,?_⟩
   rw[wanted_put oi a oj.dst v h3,if_pos hw]
   refine jx (execOp_put oi hsi a oj.dst v h3) (by cases oj.dst <;> rfl) (fun ds u w' ⟨x,_,v',y',z⟩=>⟨x,?_⟩) hr
   obtain rfl:v'=v:=(y'.back hsj ds u h1).unique c1 yv
   rw[dG,dG] at z
   rw[dG]
   rw[← cK a u v' h2]
   exact z
  ·rw[if_neg hw] at hr
   obtain⟨_,v,y,hr⟩:=hr
   refine⟨c1,v,keepj _ y,c1,?_⟩
   rw[wanted_put oi a oj.dst v h3,if_neg hw, ← cK a undef v h2]
   exact hr
theorem rq{ks:Nat→Nat}{i:Nat}{oi:Oper}(hi:O[i]?=some oi)(hsel:∀ (j:Nat) (o:Oper) cs b,O[j]?=some o→o.op≠.select cs b)(post:List Nat) :
  ∀ (pre:List Nat) {a:Act} {w:World},(∀ j∈pre, ∃ oj,O[j]?=some oj∧oj.apart O oi=true∧rp (ks j) (ks i)=true)→wpK P O C Q ks (pre++i::post) a w→wpK P O C Q ks (i::(pre++post)) a w
 | [],_,_,_,h=>h
 | j::pre,a,w,hp,h=>by
  obtain⟨oj,hj,hap,hc⟩:=hp j (List.mem_cons_self ..)
  have h':wpK P O C Q ks (j::i::(pre++post)) a w:=Dr (fun a w=>rq hi hsel post pre (fun x hx=>hp x (List.mem_cons_of_mem _ hx))) h
  exact Ds hj hi (fun cs b=>hsel j oj cs b hj) (fun cs b=>hsel i oi cs b hi) hap hc h'
/-! ### Who must come ahead of whom -/
def Dt(o:Oper)(acc:List Nat)(k:Nat):Nat :=
 o.after.toList.foldl (fun s e=>if Region.binds .any e then s ||| 2 ^ e.on ||| acc.getD (k-1-e.on) 0 else s) 0
def masks:List Oper→Nat→List Nat→List Nat
 | [],_,acc=>acc
 | o::r,k,acc=>masks r (k+1) (Dt o acc k::acc)
def rr(o:Oper)(k:Nat):Bool:=o.after.toList.all fun e => !Region.binds .any e || Nat.blt e.on k
def pairsB(O:Array Oper)(ks:List Nat)(o:Oper)(k:Nat)(m:Nat):Nat→Bool
 | 0=>true
 | j+1=>(m.testBit j || (match O[j]? with | some oj=>oj.apart O o && rp (ks.getD j 1) (ks.getD k 1) | none=>false)) && pairsB O ks o k m j
def orderB(O:Array Oper)(ks:List Nat)(ms:List Nat):List Oper→Nat→Bool
 | [],_=>true
 | o::r,k=>rr o k && pairsB O ks o k (ms.getD (O.size-1-k) 0) k && orderB O ks ms r (k+1)
def qV(l:List Oper)(ks:List Nat):Bool:=Region.noSelect l.toArray && orderB l.toArray ks (masks l 0 []) l 0
def qW(O:Array Oper)(listed:Array Bool):Prop:=∀ j oj,O[j]?=some oj→listed.getD j false=true→ ∀ e∈oj.after,Region.binds .any e=true→listed.getD e.on false=true
def ru(O:Array Oper)(k m:Nat):Prop:=∀ (o:Oper) (listed:Array Bool),O[k]?=some o→qW O listed→(∀ e∈o.after,Region.binds .any e=true→listed.getD e.on false=true)→ ∀ j,m.testBit j=true→listed.getD j false=true
theorem ry(O:Array Oper)(acc:List Nat)(k:Nat)(listed:Array Bool)(hc:qW O listed)(hacc:∀ i,i<k→ru O i (acc.getD (k-1-i) 0))(hO:k≤O.size) :
  ∀ (es:List Edge) (s:Nat),(∀ j,s.testBit j=true→listed.getD j false=true)→(∀ e∈es,Region.binds .any e=true→listed.getD e.on false=true∧e.on<k)→
   ∀ j,(es.foldl (fun s e=>if Region.binds .any e then s ||| 2 ^ e.on ||| acc.getD (k-1-e.on) 0 else s) s).testBit j=true→listed.getD j false=true
 | [],s,hs,_,j,hj=>hs j hj
 | e::es,s,hs,he,j,hj=>by
  refine ry O acc k listed hc hacc hO es _ ?_ (fun e' h'=>he e' (List.mem_cons_of_mem _ h')) j hj
  intro i hi
  simp only at hi
  split at hi
  ·rename_i hb
   obtain⟨hl,hlt⟩:=he e (List.mem_cons_self ..) hb
   rw[Nat.testBit_or,Nat.testBit_or,Bool.or_eq_true,Bool.or_eq_true] at hi
   rcases hi with (hi | hi) | hi
   ·exact hs i hi
   ·rw[Nat.testBit_two_pow] at hi
    simp only[decide_eq_true_eq] at hi
    subst hi;exact hl
   ·have hk:e.on<O.size:=by omega
    have ho:O[e.on]?=some O[e.on]:=by simp[hk]
    exact hacc e.on hlt _ listed ho hc (hc e.on _ ho hl) i hi
  ·exact hs i hi
theorem rz(O:Array Oper):∀ (l:List Oper) (k:Nat) (acc:List Nat),(∀ j,l[j]?=O[k+j]?)→acc.length=k→(∀ i,i<k→ru O i (acc.getD (k-1-i) 0))→(∀ j o,l[j]?=some o→rr o (k+j)=true)→k≤O.size→
  ∀ i,i<k+l.length→ru O i ((masks l k acc).getD (k+l.length-1-i) 0)
 | [],k,acc,_,_,hacc,_,_,i,hi=>by simpa [masks] using hacc i (by simpa using hi)
 | o::l,k,acc,hl,hlen,hacc,hlow,hO,i,hi=>by
  have h0:O[k]?=some o:=by simpa using (hl 0).symm
  have hk:k<O.size:=(Array.getElem?_eq_some_iff.1 h0).1
  have:=rz O l (k+1) (Dt o acc k::acc) (fun j=>by have:=hl (j+1);simpa [Nat.add_assoc,Nat.add_comm 1 j] using this) (by simp[hlen])
   (fun i hi=>by
    by_cases e:i=k
    ·subst e
     simp only[Nat.add_sub_cancel,Nat.sub_self,List.getD_cons_zero]
     intro o' listed ho hc ha j hj
     have:o'=o:=Option.some.inj (ho.symm.trans h0)
     subst this
     refine ry O acc i listed hc hacc hO o'.after.toList 0 (fun j hj=>by simp at hj) (fun e he hb=>⟨ha e (by simpa using he) hb,?_⟩) j hj
     have:=hlow 0 o' rfl
     unfold rr at this
     have:=List.all_eq_true.1 this e he
     simp only[hb,Bool.not_true,Bool.false_or] at this
     simpa using Nat.blt_eq.mp this
    ·have hik:i<k:=by omega
     have:=hacc i hik
     rw[show k+1-1-i=(k-1-i)+1 from by omega,List.getD_cons_succ]
     exact this)
   (fun j o' ho=>by have:=hlow (j+1) o' (by simpa using ho);rwa [show k+(j+1)=k+1+j from by omega] at this) hk i (by simp at hi;omega)
  rw[show k+(o::l).length-1-i=k+1+l.length-1-i from by rw[List.length_cons];omega]
  exact this
theorem ql{ks:List Nat}{o:Oper}{k m:Nat}:∀ {n:Nat},pairsB O ks o k m n=true→ ∀ j,j<n→m.testBit j=true∨ ∃ oj,O[j]?=some oj∧oj.apart O o=true∧rp (ks.getD j 1) (ks.getD k 1)=true
 | 0,_,j,hj=>by omega
 | n+1,h,j,hj=>by
  simp only[pairsB,Bool.and_eq_true,Bool.or_eq_true] at h
  by_cases e:j=n
  ·subst e
   rcases h.1 with h | h
   ·exact .inl h
   ·right
    cases ho:O[j]? with
    | none=>rw[ho] at h;cases h
    | some oj=>rw[ho] at h;simp only[Bool.and_eq_true] at h;exact⟨oj,rfl,h.1,h.2⟩
  ·exact ql h.2 j (by omega)
theorem qm{ks ms:List Nat}:∀ {l:List Oper} {k:Nat},orderB O ks ms l k=true→ ∀ j o,l[j]?=some o→rr o (k+j)=true∧pairsB O ks o (k+j) (ms.getD (O.size-1-(k+j)) 0) (k+j)=true
 | [],_,_,_,_,h=>by simp at h
 | x::l,k,hB,j,o,h=>by
  simp only[orderB,Bool.and_eq_true] at hB
  cases j with
  | zero=>simp at h;subst h;exact⟨hB.1.1,hB.1.2⟩
  | succ j =>
   have:=qm hB.2 j o (by simpa using h)
   rwa [show k+1+j=k+(j+1) from by omega] at this
theorem xb{ks:Nat→Nat}{i:Nat}{o:Oper}(ho:O[i]?=some o){l:List Nat}{a:Act}{w:World}{K:Act→World→Prop}(h:∀ a w,wpK P O C Q ks l a w→K a w)(hh:wpK P O C Q ks (i::l) a w):wpOp P O Q i K a w:=by
 simp only[wpK,ho] at hh
 unfold wpOp
 rw[ho]
 simp only
 have yl:∀ {C':World→Prop} {v:Value},C' w→aV P O C' o v a→wpK P O C Q ks l (a.put o.dst v) w→(if Region.wanted o (yielded O a.tmps)=true then o.wp P a w K Q∨(o.asks P a w∧LetsOut Q) else K (a.put o.dst undef) w):=fun {C' v} hc hy hr=>by
  rcases hy with ⟨hw,hy⟩ | ⟨hw,rfl⟩
  ·rw[if_pos hw]
   left
   unfold Oper.wp
   rw[hy w hc]
   exact h _ _ hr
  ·rw[if_neg (by rw[hw];simp)]
   exact h _ _ hr
 generalize ks i=k at *
 match k with
 | 0=>obtain⟨hc,v,hy,hr⟩:=hh;exact yl hc hy hr
 | 1=>obtain⟨v,hy,hr⟩:=hh;exact yl (C':=fun w'=>w'=w) rfl hy hr
 | 2 =>
  obtain⟨hc,hh⟩:=hh
  split
  ·rename_i hw
   rw[if_pos hw] at hh
   exact .inl (jx rfl rfl (fun ds u w' ⟨_,y⟩=>h _ _ y) hh)
  ·rename_i hw;rw[if_neg hw] at hh;exact h _ _ hh
 | n+3 =>
  simp only at hh
  split
  ·rename_i hw;rw[if_pos hw] at hh;exact .inl (Oper.wp_mono h hh)
  ·rename_i hw;rw[if_neg hw] at hh;exact h _ _ hh
theorem nI{ks:List Nat}{ms:List Nat}(hsel:∀ (j:Nat) (o:Oper) cs b,O[j]?=some o→o.op≠.select cs b)
  (hlow:∀ j o,O[j]?=some o→rr o j=true) (hpair:∀ k o,O[k]?=some o→pairsB O ks o k (ms.getD (O.size-1-k) 0) k=true) (hm:∀ i,i<O.size→ru O i (ms.getD (O.size-1-i) 0)) :
  ∀ (n:Nat) (l:List Nat) (listed:Array Bool) (a:Act) (w:World),l.length=n→l.Pairwise (· < ·)→(∀ i,i∈l↔listed.getD i true=false)→listed.size=O.size→qW O listed→
   wpK P O C Q (fun i=>ks.getD i 1) l a w→wpAny P .any O Q n listed a w
 | 0,l,listed,a,w,hn,_,hl,hsz,_,h=>by
  obtain rfl:l=[]:=List.eq_nil_of_length_eq_zero hn
  refine⟨?_,h⟩
  cases hr:Region.ready .any O listed with
  | nil=>rfl
  | cons x xs =>
   have:x∈Region.ready .any O listed:=by rw[hr];exact List.mem_cons_self ..
   have:=(hl x).2 (mem_ready.1 this).1
   cases this
 | n+1,l,listed,a,w,hn,hs,hl,hsz,hc,h=>by
  refine⟨fun hr=>?_,fun i hi=>?_⟩
  ·exfalso
   cases l with
   | nil=>simp at hn
   | cons x l =>
    have hx:=(hl x).1 (List.mem_cons_self ..)
    have hxs:x<O.size:=by
     rcases Nat.lt_or_ge x O.size with h' | h'
     ·exact h'
     ·rw[Array.getD_eq_getD_getElem?,Array.getElem?_eq_none (by omega)] at hx;cases hx
    have ho:O[x]?=some O[x]:=by simp[hxs]
    have:x∈Region.ready .any O listed:=mem_ready.2 ⟨hx,_,ho,fun e he hb=>by
     have h1:=hlow x _ ho
     unfold rr at h1
     have h1:=List.all_eq_true.1 h1 e (by simpa using he)
     simp only[hb,Bool.not_true,Bool.false_or] at h1
     have h1:e.on<x:=by simpa using Nat.blt_eq.mp h1
     cases h2:listed.getD e.on true with
     | false =>
      have:=(hl e.on).2 h2
      cases List.mem_cons.1 this with
      | inl e'=>omega
      | inr e'=>have:=(List.pairwise_cons.1 hs).1 _ e';omega
     | true =>
      have h3:e.on<listed.size:=by omega
      simp[h3] at h2 ⊢
      exact h2⟩
    rw[hr] at this
    cases this
  ·obtain⟨hun,oi,hoi,hall⟩:=mem_ready.1 hi
   have himem:=(hl i).2 hun
   obtain⟨pre,post,rfl⟩:=List.append_of_mem himem
   have hiS:i<O.size:=(Array.getElem?_eq_some_iff.1 hoi).1
   have hpw:=List.pairwise_append.1 hs
   have hb:=rq hoi hsel post pre (fun j hj=>by
    have hji:j<i:=hpw.2.2 j hj i (List.mem_cons_self ..)
    rcases ql (hpair i oi hoi) j hji with h1 | h1
    ·have h2:=hm i hiS oi listed hoi hc hall j h1
     have h3:=(hl j).1 (List.mem_append_left _ hj)
     have h4:j<listed.size:=by omega
     simp[h4] at h2 h3
     rw[h2] at h3;cases h3
    ·exact h1) h
   refine xb hoi (fun a' w' h'=>?_) hb
   have hne:∀ x∈pre++post,x≠i:=fun x hx e=>by
    subst e
    rcases List.mem_append.1 hx with h1 | h1
    ·exact absurd (hpw.2.2 x h1 x (List.mem_cons_self ..)) (Nat.lt_irrefl _)
    ·exact absurd ((List.pairwise_cons.1 hpw.2.1).1 x h1) (Nat.lt_irrefl _)
   refine nI hsel hlow hpair hm n (pre++post) _ a' w' (by simp at hn ⊢;omega) ?_ ?_ (by simp[hsz]) ?_ h'
   ·exact List.pairwise_append.2 ⟨hpw.1,(List.pairwise_cons.1 hpw.2.1).2,fun x hx y hy=>hpw.2.2 x hx y (List.mem_cons_of_mem _ hy)⟩
   ·intro x
    by_cases e:i=x
    ·subst e
     have h4:i<listed.size:=by omega
     constructor
     ·intro hx;exact absurd rfl (hne i hx)
     ·intro hx;simp[h4] at hx
    ·rw[getD_set_ne true e, ← hl x]
     simp[List.mem_append,List.mem_cons,Ne.symm e]
   ·intro j oj hj hlj e he hb'
    by_cases e':i=j
    ·subst e'
     have:oj=oi:=Option.some.inj (hj.symm.trans hoi)
     subst this
     exact getD_set_true (hall e he hb')
    ·rw[getD_set_ne false e'] at hlj
     exact getD_set_true (hc j oj hj hlj e he hb')
/-! ### Over the operations themselves -/
def wpKL(P:Program)(O:Array Oper)(C:World→Prop)(Q:Exit→Act→World→Prop):List Nat→List Oper→Act→World→Prop
 | _,[],a,w=>Q .normal a w
 | [],_::_,_,_=>False
 | k::ks,o::rest,a,w=>match k with
   | 0=>C w∧ ∃ v,aV P O C o v a∧wpKL P O C Q ks rest (a.put o.dst v) w
   | 1=>∃ v,aV P O (fun w'=>w'=w) o v a∧wpKL P O C Q ks rest (a.put o.dst v) w
   | 2=>C w∧if Region.wanted o (yielded O a.tmps) then o.wp P a w (fun a' w'=>C w'∧wpKL P O C Q ks rest a' w') QF else wpKL P O C Q ks rest (a.put o.dst undef) w
   | _=>if Region.wanted o (yielded O a.tmps) then o.wp P a w (wpKL P O C Q ks rest) Q else wpKL P O C Q ks rest (a.put o.dst undef) w
theorem qn(kf:Nat→Nat):∀ (l:List Oper) (ks:List Nat) (k:Nat),(∀ j,l[j]?=O[k+j]?)→(∀ j x,ks[j]?=some x→kf (k+j)=x)→ ∀ a w,wpKL P O C Q ks l a w→wpK P O C Q kf (List.range' k l.length) a w
 | [],ks,k,_,_,a,w,h=>by cases ks <;> exact h
 | o::l,[],k,_,_,a,w,h=>by exact h.elim
 | o::l,x::ks,k,hl,hk,a,w,h=>by
  have h0:O[k]?=some o:=by simpa using (hl 0).symm
  have hx:kf k=x:=by simpa using hk 0 x rfl
  have ih:=qn kf l ks (k+1) (fun j=>by have:=hl (j+1);simpa [Nat.add_assoc,Nat.add_comm 1 j] using this) (fun j y hy=>by have:=hk (j+1) y (by simpa using hy);rwa [show k+1+j=k+(j+1) from by omega])
  simp only[List.length_cons,List.range'_succ]
  simp only[wpK,h0,hx]
  simp only[wpKL] at h
  match x with
  | 0=>obtain⟨hc,v,hy,hr⟩:=h;exact⟨hc,v,hy,ih _ _ hr⟩
  | 1=>obtain⟨v,hy,hr⟩:=h;exact⟨v,hy,ih _ _ hr⟩
  | 2 =>
   obtain⟨hc,h⟩:=h
   refine⟨hc,?_⟩
   split
   ·rename_i hw;rw[if_pos hw] at h;exact Oper.wp_mono (fun a w ⟨y,z⟩=>⟨y,ih _ _ z⟩) h
   ·rename_i hw;rw[if_neg hw] at h;exact ih _ _ h
  | n+3 =>
   simp only at h ⊢
   split
   ·rename_i hw;rw[if_pos hw] at h;exact Oper.wp_mono ih h
   ·rename_i hw;rw[if_neg hw] at h;exact ih _ _ h
theorem qo{id:Nat}{l:List Oper}{a:Act}{w:World}(ks:List Nat)(hm:P.follows .mixedOrders=true)(hB:qV l ks=true)
  (h:wpKL P l.toArray C Q ks l a {w with drawn:=w.drawn+1 }):(Code.region id l.toArray true).wp P Q a w:=by
 simp only[qV,Bool.and_eq_true] at hB
 have hsp:=fun j o (ho:(l.toArray)[j]?=some o)=>qm hB.2 j o (by simpa using ho)
 refine wp_region_any hm ?_
 have hms:=rz l.toArray l 0 [] (by simp) rfl (fun i hi=>by omega) (fun j o ho=>by have:=(hsp j o (by simpa using ho)).1;simpa using this) (Nat.zero_le _)
 refine nI (ks:=ks) (ms:=masks l 0 []) (Region.noSelect_spec hB.1) (fun j o ho=>by simpa using (hsp j o ho).1) (fun k o ho=>by simpa using (hsp k o ho).2) (fun i hi=>by simpa using hms i (by simpa using hi))
  l.toArray.size (List.range' 0 l.length) _ a _ (by simp) List.pairwise_lt_range' ?_ (by simp) (fun j oj hj hlj=>?_) (qn _ l ks 0 (by simp) (fun j x hx=>by simp[List.getD_eq_getElem?_getD,hx]) a _ h)
 ·intro i
  by_cases hi:i<l.length
  ·simp[hi]
  ·simp[hi]
 ·rw[getD_replicate_false'] at hlj;cases hlj
where
 getD_replicate_false' {m j:Nat}:(Array.replicate m false).getD j false=false:=by
  rcases Nat.lt_or_ge j m with h | h
  ·simp[h]
  ·simp[h]
end
end Go.SLYtefdijgllbkmfaaGreat
namespace Go.SLYtefdijgllbkmfaaGreat
open Go Go.RowKit
section
variable{P:Program}{W:World}{N:Nat}{Q:Exit→Act→World→Prop}{L:List (Nat×Option Value)}{H:List aa}{O:Array Oper}{T:TypeId}
def Cell(W:World)(H:List aa)(b o:Nat)(v:Value):Prop:=∀ w,Sat W w (seps H)→w.cell? ⟨b,o,none⟩=some v
def Cells(W:World)(H:List aa)(b o:Nat)(cs:List Value):Prop:=∀ i v,cs[i]?=some v→Cell W H b (o+i) v
inductive At:List aa→aa→Prop where
 | here {A:aa} {H:List aa}:At (A::H) A
 | there {A B:aa} {H:List aa} (h:At H A):At (B::H) A
theorem At.take{H:List aa}{A:aa}(h:At H A):∃ R,Take H A R:=by
 induction h with
 | here=>exact⟨_,.here⟩
 | there _ ih=>obtain⟨R,t⟩:=ih;exact⟨_,.there t⟩
theorem At.sat{H:List aa}{A:aa}(h:At H A){w:World}(s:Sat W w (seps H)):∃ R,Sat W w (sep A R):=by
 obtain⟨R,t⟩:=h.take
 exact⟨seps R,by rw[← t.seps];exact s⟩
theorem Cell.arr{b:Nat}{cs:List Value}(h:At H (arr b 0 cs)){i:Nat}{v:Value}(hv:cs[i]?=some v):Cell W H b i v:=fun w s=>by
 obtain⟨R,s⟩:=h.sat s
 have:=(fu s hv).2
 rwa [Nat.zero_add] at this
theorem Cell.IP{b o:Nat}{cs:List Value}(h:At H (SLYtefdijgllbkmfaaGreat.arr b o cs)){i:Nat}{v:Value}(hv:cs[i]?=some v):Cell W H b (o+i) v:=fun w s=>by
 obtain⟨R,s⟩:=h.sat s
 exact(fu s hv).2
theorem Cell.Lp{b o:Nat}{cs:List Value}(h:At H (SLYtefdijgllbkmfaaGreat.arr b o cs)){v:Value}(hv:cs[0]?=some v):Cell W H b o v:=Cell.IP (i:=0) h hv
theorem Cells.arr{b o:Nat}{cs:List Value}(h:At H (SLYtefdijgllbkmfaaGreat.arr b o cs)):Cells W H b o cs:=fun _i _v hv=>Cell.IP h hv
theorem Cells.cell{b o:Nat}{cs:List Value}(h:Cells W H b o cs){i:Nat}{v:Value}(hv:cs[i]?=some v):Cell W H b (o+i) v:=h i v hv
theorem Cell.old{b o:Nat}{v:Value}(h:W.cell? ⟨b,o,none⟩=some v):Cell W H b o v:=fun w s=>by
 rw[← h]
 exact World.cell?_of_block (w:=W) (a:=⟨b,o,none⟩) (s.old b (vk h))
/-! ### The operations that yield -/
theorem Y.m{x:Operand}{v:Value}(hx:ev L x=some v):Y P W N (.move x) T L H v:=fun dst pos after guard a w ha hs=>by
 show(Sem.pure (Next.value (a.eval x))).run P w=_
 rw[ha.eval hx];rfl
theorem Y.a{x:Operand}{v:Value}(hx:ev L x=some v):Y P W N (.assign x) T L H v:=fun dst pos after guard a w ha hs=>by
 show(Sem.pure (Next.value (a.eval x))).run P w=_
 rw[ha.eval hx];rfl
theorem Y.n{x:Operand}{p:Addr}(hx:ev L x=some (.pointer (some p))):Y P W N (.nilCheck x) T L H (.pointer (some p)):=fun dst pos after guard a w ha hs=>by
 simp only[execOp,ha.eval hx];rfl
theorem Y.t{c x y:Operand}{v:Value}(hc:ev L c=some (.bool true))(hx:ev L x=some v):Y P W N (.pick c x y) T L H v:=fun dst pos after guard a w ha hs=>by
 simp only[execOp,ha.eval hc,ha.eval hx];rfl
theorem Y.u{c x y:Operand}{v:Value}(hc:ev L c=some (.bool false))(hy:ev L y=some v):Y P W N (.pick c x y) T L H v:=fun dst pos after guard a w ha hs=>by
 simp only[execOp,ha.eval hc,ha.eval hy];rfl
theorem bJ{s:Sem Value}{v:Value}{w:World}(h:s.run P w = .ok v w):(do pure (Next.value (← s)):Sem Next).run P w = .ok (.value v) w:=by
 show(s >>= fun x=>pure (Next.value x)).run P w=_
 rw[Sem.run_bind,h];rfl
theorem dV(b o k:Nat):(⟨b,o,none⟩:Addr).add k=⟨b,o+k,none⟩:=by
 unfold Addr.add
 split
 ·rename_i h;subst h;rfl
 ·rfl
def kN(fs:Array Field)(f k t:Nat):Bool:=match fs.toList[f]? with
 | some fl=>Nat.beq fl.offset k && Nat.beq fl.type t
 | none=>false
theorem ab{S:TypeId}{fs:Array Field}{f n k t:Nat}(hu:P.underlying S=some (.struct fs))(hf:kN fs f k t=true)(hz:∀ w,(sizeOf t).run P w = .ok (n+1) w)(b o:Nat)(w:World) :
  (Instr.fieldAt S (.pointer (some ⟨b,o,none⟩)) f).run P w = .ok (.pointer (some ⟨b,o+k,none⟩)) w:=by
 unfold kN at hf
 cases e:fs.toList[f]? with
 | none=>rw[e] at hf;cases hf
 | some fld =>
  rw[e] at hf
  simp only[Bool.and_eq_true,Nat.beq_eq] at hf
  obtain⟨rfl,rfl⟩:=hf
  have e':fs[f]?=some fld:=by simpa using e
  simp[Instr.fieldAt,run_underlying hu,e',Instr.sureAddr,fieldPlace,hz,dV]
theorem Y.fieldAddr{S:TypeId}{fs:Array Field}{f n:Nat}{x:Operand}{b o:Nat}(k t:Nat)(hu:P.underlying S=some (.struct fs))(hf:kN fs f k t=true)(hz:∀ w,(sizeOf t).run P w = .ok (n+1) w)
  (hx:ev L x=some (.pointer (some ⟨b,o,none⟩))):Y P W N (.fieldAddr S x f) T L H (.pointer (some ⟨b,o+k,none⟩)):=fun dst pos after guard a w ha hs=>by
 simp only[execOp,ha.eval hx]
 exact bJ (ab hu hf hz b o w)
theorem Y.dc{S:TypeId}{fs:Array Field}{f n:Nat}{x:Operand}{b:Nat}(k t:Nat)(hu:P.underlying S=some (.struct fs))(hf:kN fs f k t=true)(hz:∀ w,(sizeOf t).run P w = .ok (n+1) w)
  (hx:ev L x=some (.pointer (some ⟨b,0,none⟩))):Y P W N (.fieldAddr S x f) T L H (.pointer (some ⟨b,k,none⟩)):=by
 have:=Y.fieldAddr (P:=P) (W:=W) (N:=N) (H:=H) (T:=T) k t hu hf hz hx
 rwa [Nat.zero_add] at this
theorem Y.iU{S:TypeId}{fs:Array Field}{f n:Nat}{x:Operand}{b o:Nat}(t:Nat)(hu:P.underlying S=some (.struct fs))(hf:kN fs f 0 t=true)(hz:∀ w,(sizeOf t).run P w = .ok (n+1) w)
  (hx:ev L x=some (.pointer (some ⟨b,o,none⟩))):Y P W N (.fieldAddr S x f) T L H (.pointer (some ⟨b,o,none⟩)) :=
 Y.fieldAddr (P:=P) (W:=W) (N:=N) (H:=H) (T:=T) 0 t hu hf hz hx
theorem Y.load{x:Operand}{b o:Nat}{v:Value}(ht:∀ w,(isAgg T).run P w = .ok false w){T':TypeId}(hx:ev L x=some (.pointer (some ⟨b,o,none⟩)))(hc:Cell W H b o v):Y P W N (.load T x) T' L H v:=fun dst pos after guard a w ha hs=>by
 simp only[execOp,ha.eval hx]
 refine bJ ?_
 simp[Instr.loadAt,Instr.sureAddr,loadVar,ht,hc w hs]
theorem ic{b o:Nat}{cs:List Value}{w:World}(ht:∀ w,(isAgg T).run P w = .ok true w)(hz:∀ w,(sizeOf T).run P w = .ok cs.length w)(hc:∀ i v,cs[i]?=some v→w.cell? ⟨b,o+i,none⟩=some v) :
  (loadVar T ⟨b,o,none⟩).run P w = .ok (.agg cs.toArray) w:=by
 have:=run_loadCells_list (P:=P) (w:=w) ⟨b,o,none⟩ cs (fun j v hv=>by rw[dV];exact hc j v hv)
 simp[loadVar,ht,hz,this]
theorem Y.Gr{x:Operand}{b o:Nat}{cs:List Value}(ht:∀ w,(isAgg T).run P w = .ok true w)(hz:∀ w,(sizeOf T).run P w = .ok cs.length w){T':TypeId}(hx:ev L x=some (.pointer (some ⟨b,o,none⟩)))(hc:Cells W H b o cs) :
  Y P W N (.load T x) T' L H (.agg cs.toArray):=fun dst pos after guard a w ha hs=>by
 simp only[execOp,ha.eval hx]
 exact bJ (by simp only[Instr.loadAt,Instr.sureAddr,pure_bind];exact ic ht hz fun i v hv=>hc i v hv w hs)
/-! arithmetic and comparisons -/
theorem Y.bin{op:BinOp}{xT yT:TypeId}{x y:Operand}{u v r:Value}(hx:ev L x=some u)(hy:ev L y=some v)(h:∀ w,(do eqGuard op xT x y u v;binOp op xT u v:Sem Value).run P w = .ok r w):Y P W N (.binOp op xT x y yT) T L H r:=fun dst pos after guard a w ha hs=>by
 simp only[execOp,ha.eval hx,ha.eval hy]
 exact bJ (h w)
theorem wrap_i64{n:Int}(h : -9223372036854775808≤n∧n≤9223372036854775807):IntKind.i64.wrap n=n:=by
 simp only[IntKind.wrap,IntKind.bits,IntKind.signed,Bool.true_and]
 split <;> rename_i h' <;> simp at h' <;> omega
theorem wrap_u64{n:Int}(h:0≤n∧n≤18446744073709551615):IntKind.u64.wrap n=n:=by
 simp only[IntKind.wrap,IntKind.bits,IntKind.signed,Bool.false_and]
 simp;omega
theorem Y.yZ{k:IntKind}{xT yT:TypeId}{x y:Operand}{m n:Int}(hx:ev L x=some (.int k m))(hy:ev L y=some (.int k n)):Y P W N (.binOp .add xT x y yT) T L H (.int k (k.wrap (m+n))) :=
 Y.bin hx hy fun w=>by simp[eqGuard,binOp,Op.intArith]
theorem Y.Gs{k:IntKind}{xT yT:TypeId}{x y:Operand}{m n:Int}(hx:ev L x=some (.int k m))(hy:ev L y=some (.int k n)):Y P W N (.binOp .sub xT x y yT) T L H (.int k (k.wrap (m-n))) :=
 Y.bin hx hy fun w=>by simp[eqGuard,binOp,Op.intArith]
theorem Y.Du{k:IntKind}{xT yT:TypeId}{x y:Operand}{m n:Int}(hx:ev L x=some (.int k m))(hy:ev L y=some (.int k n)):Y P W N (.binOp .mul xT x y yT) T L H (.int k (k.wrap (m * n))) :=
 Y.bin hx hy fun w=>by simp[eqGuard,binOp,Op.intArith]
theorem Y.add{xT yT:TypeId}{x y:Operand}{m n:Int}(hx:ev L x=some (.int .i64 m))(hy:ev L y=some (.int .i64 n))(h : -9223372036854775808≤m+n∧m+n≤9223372036854775807):Y P W N (.binOp .add xT x y yT) T L H (.int .i64 (m+n)):=by
 have:=Y.yZ (P:=P) (W:=W) (N:=N) (H:=H) (T:=T) (xT:=xT) (yT:=yT) hx hy
 rwa [wrap_i64 h] at this
theorem Y.sub{xT yT:TypeId}{x y:Operand}{m n:Int}(hx:ev L x=some (.int .i64 m))(hy:ev L y=some (.int .i64 n))(h : -9223372036854775808≤m-n∧m-n≤9223372036854775807):Y P W N (.binOp .sub xT x y yT) T L H (.int .i64 (m-n)):=by
 have:=Y.Gs (P:=P) (W:=W) (N:=N) (H:=H) (T:=T) (xT:=xT) (yT:=yT) hx hy
 rwa [wrap_i64 h] at this
theorem Y.mul{xT yT:TypeId}{x y:Operand}{m n:Int}(hx:ev L x=some (.int .i64 m))(hy:ev L y=some (.int .i64 n))(h : -9223372036854775808≤m * n∧m * n≤9223372036854775807):Y P W N (.binOp .mul xT x y yT) T L H (.int .i64 (m * n)):=by
 have:=Y.Du (P:=P) (W:=W) (N:=N) (H:=H) (T:=T) (xT:=xT) (yT:=yT) hx hy
 rwa [wrap_i64 h] at this
theorem Y.Dv{xT yT:TypeId}{x y:Operand}{m n:Int}(hx:ev L x=some (.int .u64 m))(hy:ev L y=some (.int .u64 n))(h:0≤m+n∧m+n≤18446744073709551615):Y P W N (.binOp .add xT x y yT) T L H (.int .u64 (m+n)):=by
 have:=Y.yZ (P:=P) (W:=W) (N:=N) (H:=H) (T:=T) (xT:=xT) (yT:=yT) hx hy
 rwa [wrap_u64 h] at this
theorem Y.inc{xT yT:TypeId}{x y:Operand}{m:Nat}(hx:ev L x=some (.int .i64 (m:Int)))(hy:ev L y=some (.int .i64 1))(h:m<9223372036854775807):Y P W N (.binOp .add xT x y yT) T L H (.int .i64 ((m+1:Nat):Int)):=by
 have:=Y.add (P:=P) (W:=W) (N:=N) (H:=H) (T:=T) (xT:=xT) (yT:=yT) hx hy (by omega)
 simpa using this
theorem Y.rem{k:IntKind}{xT yT:TypeId}{x y:Operand}{m n:Int}(hx:ev L x=some (.int k m))(hy:ev L y=some (.int k n))(hn:n≠0):Y P W N (.binOp .rem xT x y yT) T L H (.int k (m.tmod n)) :=
 Y.bin hx hy fun w=>by simp[eqGuard,binOp,Op.intDiv,hn]
theorem Y.lss{k:IntKind}{xT yT:TypeId}{x y:Operand}{m n:Int}(hx:ev L x=some (.int k m))(hy:ev L y=some (.int k n)):Y P W N (.binOp .lss xT x y yT) T L H (.bool (decide (m<n))) :=
 Y.bin hx hy fun w=>by simp[eqGuard,binOp,Op.intCmp]
theorem Y.leq{k:IntKind}{xT yT:TypeId}{x y:Operand}{m n:Int}(hx:ev L x=some (.int k m))(hy:ev L y=some (.int k n)):Y P W N (.binOp .leq xT x y yT) T L H (.bool (decide (m≤n))) :=
 Y.bin hx hy fun w=>by simp[eqGuard,binOp,Op.intCmp]
theorem Y.gtr{k:IntKind}{xT yT:TypeId}{x y:Operand}{m n:Int}(hx:ev L x=some (.int k m))(hy:ev L y=some (.int k n)):Y P W N (.binOp .gtr xT x y yT) T L H (.bool (decide (n<m))) :=
 Y.bin hx hy fun w=>by simp[eqGuard,binOp,Op.intCmp]
theorem Y.geq{k:IntKind}{xT yT:TypeId}{x y:Operand}{m n:Int}(hx:ev L x=some (.int k m))(hy:ev L y=some (.int k n)):Y P W N (.binOp .geq xT x y yT) T L H (.bool (decide (n≤m))) :=
 Y.bin hx hy fun w=>by simp[eqGuard,binOp,Op.intCmp]
theorem Y.eql{k:IntKind}{xT yT:TypeId}{x y:Operand}{m n:Int}(hx:ev L x=some (.int k m))(hy:ev L y=some (.int k n)):Y P W N (.binOp .eql xT x y yT) T L H (.bool (decide (m=n))) :=
 Y.bin hx hy fun w=>by simp[eqGuard,binOp,Op.intCmp];rfl
theorem Y.neq{k:IntKind}{xT yT:TypeId}{x y:Operand}{m n:Int}(hx:ev L x=some (.int k m))(hy:ev L y=some (.int k n)):Y P W N (.binOp .neq xT x y yT) T L H (.bool (decide (m≠n))) :=
 Y.bin hx hy fun w=>by
  simp[eqGuard,binOp,Op.intCmp]
  by_cases h:m=n <;> simp[h]
theorem Y.not{x:Operand}{b:Bool}{xT:TypeId}(hx:ev L x=some (.bool b)):Y P W N (.unOp .not xT x) T L H (.bool (!b)):=fun dst pos after guard a w ha hs=>by
 simp only[execOp,ha.eval hx]
 exact bJ (by simp[Op.unary])
theorem Y.Lq{x:Operand}{p:Prop}[Decidable p]{xT:TypeId}(hx:ev L x=some (.bool (decide p))):Y P W N (.unOp .not xT x) T L H (.bool (decide (¬p))):=by
 have:=Y.not (P:=P) (W:=W) (N:=N) (H:=H) (T:=T) (xT:=xT) hx
 rwa [← decide_not] at this
theorem Y.neg{x:Operand}{k:IntKind}{n:Int}{xT:TypeId}(hx:ev L x=some (.int k n)):Y P W N (.unOp .neg xT x) T L H (.int k (k.wrap (0-n))):=fun dst pos after guard a w ha hs=>by
 simp only[execOp,ha.eval hx]
 exact bJ (by simp[Op.unary,Op.intArith])
/-! a pointer against nil -/
theorem rA{xT:TypeId}{e:TypeId}(hu:P.underlying xT=some (.pointer e))(p:Option Addr)(w:World):(Op.equal xT (.pointer p) (.pointer none)).run P w = .ok p.isNone w:=by
 show(Op.equalIn (9999+1) xT _ _).run P w=_
 unfold Op.equalIn
 cases p <;> simp[run_underlying hu]
theorem Y.Dw{xT e yT:TypeId}{x y:Operand}{p:Option Addr}(hu:P.underlying xT=some (.pointer e))(hx:ev L x=some (.pointer p))(hy:ev L y=some (.pointer none)):Y P W N (.binOp .eql xT x y yT) T L H (.bool p.isNone) :=
 Y.bin hx hy fun w=>by simp[eqGuard,binOp,rA hu]
theorem Y.BQ{xT e yT:TypeId}{x y:Operand}{p:Option Addr}(hu:P.underlying xT=some (.pointer e))(hx:ev L x=some (.pointer p))(hy:ev L y=some (.pointer none)):Y P W N (.binOp .neq xT x y yT) T L H (.bool (!p.isNone)) :=
 Y.bin hx hy fun w=>by simp[eqGuard,binOp,rA hu]
/-! a slice against nil -/
theorem vq{xT:TypeId}{e:TypeId}(hu:P.underlying xT=some (.slice e))(p:Option Addr)(n c n' c':Nat)(w:World):(Op.equal xT (.slice p n c) (.slice none n' c')).run P w = .ok p.isNone w:=by
 show(Op.equalIn (9999+1) xT _ _).run P w=_
 unfold Op.equalIn
 cases p <;> simp[run_underlying hu]
theorem Y.y8{xT e yT:TypeId}{x y:Operand}{p:Option Addr}{n c n' c':Nat}(hu:P.underlying xT=some (.slice e))(hx:ev L x=some (.slice p n c))(hy:ev L y=some (.slice none n' c')):Y P W N (.binOp .eql xT x y yT) T L H (.bool p.isNone) :=
 Y.bin hx hy fun w=>by simp[eqGuard,binOp,vq hu]
/-! conversions between kinds of integers -/
theorem Y.conv{src dst':TypeId}{x:Operand}{j k:IntKind}{n:Int}{d0:TypeDesc}(hs:P.underlying src=some d0)(hu:P.underlying dst'=some (.int k))(hx:ev L x=some (.int j n)):Y P W N (.convert src dst' x) T L H (.int k (k.wrap n)):=fun dst pos after guard a w ha hs'=>by
 simp only[execOp,ha.eval hx]
 exact bJ (by simp[convert,run_underlying hs,run_underlying hu,Conv.intToInt])
/-! tuples, lengths -/
theorem Y.extract{x:Operand}{vs:Array Value}{i:Nat}{v:Value}(hx:ev L x=some (.tuple vs))(hv:vs[i]?=some v):Y P W N (.extract x i) T L H v:=fun dst pos after guard a w ha hs=>by
 simp only[execOp,ha.eval hx]
 exact bJ (by simp[Instr.extract,hv])
theorem Y.builtin{b:Builtin}{xs:Array Operand}{ts:Array TypeId}{vs:List Value}{v:Value}(hx:evs L xs.toList=some vs)(h:∀ w cs,(builtin b ts T cs vs.toArray).run P w = .ok (.value v) w):Y P W N (.call ⟨.builtin b,xs,ts⟩) T L H v:=fun dst pos after guard a w ha hs=>by
 have e:xs.map a.eval=vs.toArray:=by
  rw[← ha.mV hx, ← List.map_toArray]
 simp only[execOp,resolve,e,pure_bind,invoke]
 exact h w _
theorem Y.xd{x:Operand}{t e:TypeId}{p:Option Addr}{n c:Nat}(hu:P.underlying t=some (.slice e))(hx:ev L x=some (.slice p n c)):Y P W N (.call ⟨.builtin .len, #[x], #[t]⟩) T L H (.int .i64 n) :=
 Y.builtin (vs:=[.slice p n c]) (by simp[evs,hx]) fun w cs=>by simp[Go.builtin,Builtin.len_,run_underlying hu,goInt]
theorem Y.min2{x y:Operand}{ts:Array TypeId}{k:IntKind}{m n:Int}(hx:ev L x=some (.int k m))(hy:ev L y=some (.int k n)):Y P W N (.call ⟨.builtin .min, #[x,y],ts⟩) T L H (.int k (if n<m then n else m)) :=
 Y.builtin (vs:=[.int k m,.int k n]) (by simp[evs,hx,hy]) fun w cs=>by simp[Go.builtin,Builtin.min_,Builtin.min2]
theorem Y.max2{x y:Operand}{ts:Array TypeId}{k:IntKind}{m n:Int}(hx:ev L x=some (.int k m))(hy:ev L y=some (.int k n)):Y P W N (.call ⟨.builtin .max, #[x,y],ts⟩) T L H (.int k (if n>m then n else m)) :=
 Y.builtin (vs:=[.int k m,.int k n]) (by simp[evs,hx,hy]) fun w cs=>by simp[Go.builtin,Builtin.max_,Builtin.max2]
/-! structs built -/
def evParts(L:List (Nat×Option Value)):List (Nat×Operand)→Option (List (Nat×Value))
 | []=>some []
 | (i,x)::r=>match ev L x,evParts L r with
  | some v,some vs=>some ((i,v)::vs)
  | _,_=>none
theorem jy{a:Act}(ha:Env N L a):∀ {ps:List (Nat×Operand)} {vs:List (Nat×Value)},evParts L ps=some vs→ps.map (fun p=>(p.1,a.eval p.2))=vs
 | [],vs,e=>by unfold evParts at e;simpa using e
 | (i,x)::r,vs,e=>by
  unfold evParts at e
  cases h1:ev L x with
  | none=>rw[h1] at e;cases e
  | some v =>
   cases h2:evParts L r with
   | none=>rw[h1,h2] at e;cases e
   | some us =>
    rw[h1,h2] at e
    cases e
    simp[ha.eval h1,jy ha h2]
theorem Y.build{t:TypeId}{ps:Array (Nat×Operand)}{vs:List (Nat×Value)}{v:Value}(hp:evParts L ps.toList=some vs)(h:∀ w,(Instr.build t vs.toArray).run P w = .ok v w):Y P W N (.build t ps) T L H v:=fun dst pos after guard a w ha hs=>by
 have e:ps.map (fun p=>(p.1,a.eval p.2))=vs.toArray:=by
  rw[← jy ha hp, ← List.map_toArray]
 simp only[execOp]
 show(do pure (Next.value (← Instr.build t (ps.map fun p=>(p.1,a.eval p.2)))):Sem Next).run P w=_
 rw[e]
 exact bJ (h w)
theorem Y.makeFunc{f:Fn}{xs ys:Array Operand}{us vs:List Value}(hx:evs L xs.toList=some us)(hy:evs L ys.toList=some vs):Y P W N (.makeFunc f xs ys) T L H (.func f us.toArray vs.toArray):=fun dst pos after guard a w ha hs=>by
 have e1:xs.map a.eval=us.toArray:=by rw[← ha.mV hx, ← List.map_toArray]
 have e2:ys.map a.eval=vs.toArray:=by rw[← ha.mV hy, ← List.map_toArray]
 simp only[execOp,e1,e2]
 exact bJ rfl
end
end Go.SLYtefdijgllbkmfaaGreat
namespace Go.SLYtefdijgllbkmfaaGreat
open Go Go.RowKit
section
variable(P:Program)(W:World)(N:Nat)
def af(o:Oper)(L:List (Nat×Option Value))(H:List aa)(k:List (Nat×Option Value)→List aa→Prop):Prop :=
 ∀ a w,Env N L a→Sat W w (seps H)→ ∀ (K:Act→World→Prop),(∀ L' H',k L' H'→ ∀ a' w',Env N L' a'→Sat W w' (seps H')→K a' w')→o.wp P a w K QF
def bu(K:List aa)(O:Array Oper)(Q:Exit→Act→World→Prop)(ks:List Nat)(ops:List Oper)(L:List (Nat×Option Value))(H:List aa):Prop :=
 ∀ a w,Env N L a→Sat W w (seps H)→wpKL P O (fun w=>Sat W w (seps K)) Q ks ops a w
end
section
variable{P:Program}{W:World}{N:Nat}{Q:Exit→Act→World→Prop}{L:List (Nat×Option Value)}{H K:List aa}{O:Array Oper}{T:TypeId}{ks:List Nat}{rest:List Oper}
theorem AB{o:Oper}{a:Act}{w:World}{Kp:Act→World→Prop}{Q':Exit→Act→World→Prop}(h:o.wp P a w Kp QF):o.wp P a w Kp Q':=jx rfl rfl (fun _ _ _ h=>h) h
theorem aQ.aw{o:Oper}{k:List (Nat×Option Value)→List aa→Prop}(hg:o.guard=none)(hd:af P W N o L H k)(h:∀ L' H',k L' H'→aQ P W N O Q rest L' H'):aQ P W N O Q (o::rest) L H:=fun a w ha hs =>
 wpList_plain hg fun Kp hK=>AB (hd a w ha hs Kp fun L' H' hk a' w' ha' hs'=>hK _ _ (h L' H' hk a' w' ha' hs'))
theorem bj{o:Oper}{y:Nat→Option Bool}(hg:o.guard=none):Region.wanted o y=true:=by unfold Region.wanted;rw[hg]
theorem bu.n(h:cj W N Q .normal L H):bu P W N K O Q ks [] L H:=fun a w ha hs=>by cases ks <;> exact h a w ha hs
theorem ax.draw{id:Nat}{l:List Oper}(K:List aa)(ks:List Nat)(hm:P.follows .mixedOrders=true)(hB:qV l ks=true)(h:bu P W N K l.toArray Q ks l L H):ax P W N Q (.region id l.toArray true) L H :=
 fun a _w ha hs=>qo (C:=fun w=>Sat W w (seps K)) ks hm hB (h a _ ha hs.drew)
theorem bu.k{op:Op}{pos:String}{after:Array Edge}{d:Nat}{v:Value}(hN:Nat.blt d N=true)(hK:∀ w,Sat W w (seps H)→Sat W w (seps K))(hy:Y P W N op T L K v)(h:bu P W N K O Q ks rest ((d,some v)::L) H) :
  bu P W N K O Q (0::ks) (⟨some d,op,T,pos,after,none⟩::rest) L H:=fun a w ha hs=>by
 simp only[wpKL]
 exact⟨hK w hs,v,.inl ⟨bj rfl,fun w' hs'=>hy _ _ _ _ a w' ha hs'⟩,h _ w (ha.put (Nat.blt_eq.mp hN) v) hs⟩
theorem bu.s{op:Op}{pos:String}{after:Array Edge}{d:Nat}{v:Value}(hN:Nat.blt d N=true)(hy:Y P W N op T L H v)(h:bu P W N K O Q ks rest ((d,some v)::L) H) :
  bu P W N K O Q (1::ks) (⟨some d,op,T,pos,after,none⟩::rest) L H:=fun a w ha hs=>by
 simp only[wpKL]
 exact⟨v,.inl ⟨bj rfl,fun w' e=>by subst e;exact hy _ _ _ _ a w' ha hs⟩,h _ w (ha.put (Nat.blt_eq.mp hN) v) hs⟩
theorem bu.kg{op:Op}{pos:String}{after:Array Edge}{d j t:Nat}{want:Bool}{v:Value}(hj:(O[j]?).bind (·.dst)=some t)(ht:look L t=some (.bool want))(hN:Nat.blt d N=true)(hK:∀ w,Sat W w (seps H)→Sat W w (seps K))
  (hy:Y P W N op T L K v) (h:bu P W N K O Q ks rest ((d,some v)::L) H) :
  bu P W N K O Q (0::ks) (⟨some d,op,T,pos,after,some (j,want)⟩::rest) L H:=fun a w ha hs=>by
 simp only[wpKL]
 exact⟨hK w hs,v,.inl ⟨by rw[eh ha rfl hj ht];simp[boolOf],fun w' hs'=>hy _ _ _ _ a w' ha hs'⟩,h _ w (ha.put (Nat.blt_eq.mp hN) v) hs⟩
theorem bu.sg{op:Op}{pos:String}{after:Array Edge}{d j t:Nat}{want:Bool}{v:Value}(hj:(O[j]?).bind (·.dst)=some t)(ht:look L t=some (.bool want))(hN:Nat.blt d N=true)
  (hy:Y P W N op T L H v) (h:bu P W N K O Q ks rest ((d,some v)::L) H) :
  bu P W N K O Q (1::ks) (⟨some d,op,T,pos,after,some (j,want)⟩::rest) L H:=fun a w ha hs=>by
 simp only[wpKL]
 exact⟨v,.inl ⟨by rw[eh ha rfl hj ht];simp[boolOf],fun w' e=>by subst e;exact hy _ _ _ _ a w' ha hs⟩,h _ w (ha.put (Nat.blt_eq.mp hN) v) hs⟩
theorem bu.Km{op:Op}{pos:String}{after:Array Edge}{d j t:Nat}{want:Bool}{u:Value}(hj:(O[j]?).bind (·.dst)=some t)(ht:look L t=some u)(hb:(boolOf u == some want)=false)(hN:Nat.blt d N=true)(hK:∀ w,Sat W w (seps H)→Sat W w (seps K))
  (h:bu P W N K O Q ks rest ((d,some undef)::L) H) :
  bu P W N K O Q (0::ks) (⟨some d,op,T,pos,after,some (j,want)⟩::rest) L H:=fun a w ha hs=>by
 simp only[wpKL]
 exact⟨hK w hs,undef,.inr ⟨by rw[eh ha rfl hj ht,hb],rfl⟩,h _ w (ha.put (Nat.blt_eq.mp hN) undef) hs⟩
theorem bu.Kn{op:Op}{pos:String}{after:Array Edge}{d j t:Nat}{want:Bool}{u:Value}(hj:(O[j]?).bind (·.dst)=some t)(ht:look L t=some u)(hb:(boolOf u == some want)=false)(hN:Nat.blt d N=true)
  (h:bu P W N K O Q ks rest ((d,some undef)::L) H) :
  bu P W N K O Q (1::ks) (⟨some d,op,T,pos,after,some (j,want)⟩::rest) L H:=fun a w ha hs=>by
 simp only[wpKL]
 exact⟨undef,.inr ⟨by rw[eh ha rfl hj ht,hb],rfl⟩,h _ w (ha.put (Nat.blt_eq.mp hN) undef) hs⟩
theorem bu.d2{o:Oper}{k:List (Nat×Option Value)→List aa→Prop}(hg:o.guard=none)(hK:∀ w,Sat W w (seps H)→Sat W w (seps K))(hd:af P W N o L H k)(hK':∀ L' H',k L' H'→ ∀ w,Sat W w (seps H')→Sat W w (seps K))(h:∀ L' H',k L' H'→bu P W N K O Q ks rest L' H') :
  bu P W N K O Q (2::ks) (o::rest) L H:=fun a w ha hs=>by
 simp only[wpKL]
 refine⟨hK w hs,?_⟩
 rw[if_pos (bj hg)]
 exact hd a w ha hs _ fun L' H' hk a' w' ha' hs'=>⟨hK' L' H' hk w' hs',h L' H' hk a' w' ha' hs'⟩
theorem bu.d3{o:Oper}{k:List (Nat×Option Value)→List aa→Prop}(hg:o.guard=none)(hd:af P W N o L H k)(h:∀ L' H',k L' H'→bu P W N K O Q ks rest L' H') :
  bu P W N K O Q (3::ks) (o::rest) L H:=fun a w ha hs=>by
 simp only[wpKL]
 rw[if_pos (bj hg)]
 exact AB (hd a w ha hs _ fun L' H' hk a' w' ha' hs'=>h L' H' hk a' w' ha' hs')
theorem bu.dg{o:Oper}{k:List (Nat×Option Value)→List aa→Prop}{j t:Nat}{want:Bool}(hg:o.guard=some (j,want))(hj:(O[j]?).bind (·.dst)=some t)(ht:look L t=some (.bool want))(hd:af P W N o L H k)(h:∀ L' H',k L' H'→bu P W N K O Q ks rest L' H') :
  bu P W N K O Q (3::ks) (o::rest) L H:=fun a w ha hs=>by
 simp only[wpKL]
 rw[if_pos (by rw[eh ha hg hj ht];simp[boolOf])]
 exact AB (hd a w ha hs _ fun L' H' hk a' w' ha' hs'=>h L' H' hk a' w' ha' hs')
theorem bu.AD{op:Op}{pos:String}{after:Array Edge}{d j t:Nat}{want:Bool}{u:Value}(hj:(O[j]?).bind (·.dst)=some t)(ht:look L t=some u)(hb:(boolOf u == some want)=false)(hN:Nat.blt d N=true)
  (h:bu P W N K O Q ks rest ((d,some undef)::L) H):bu P W N K O Q (3::ks) (⟨some d,op,T,pos,after,some (j,want)⟩::rest) L H:=fun a w ha hs=>by
 simp only[wpKL]
 rw[if_neg (by rw[eh ha rfl hj ht,hb];simp)]
 exact h _ w (ha.put (Nat.blt_eq.mp hN) undef) hs
theorem aQ.dg{o:Oper}{k:List (Nat×Option Value)→List aa→Prop}{j t:Nat}{want:Bool}(hg:o.guard=some (j,want))(hj:(O[j]?).bind (·.dst)=some t)(ht:look L t=some (.bool want))(hd:af P W N o L H k)(h:∀ L' H',k L' H'→aQ P W N O Q rest L' H'):aQ P W N O Q (o::rest) L H:=fun a w ha hs =>
 wpList_step fun Kp hK=>by
  rw[if_pos (by rw[eh ha hg hj ht];simp[boolOf])]
  exact AB (hd a w ha hs Kp fun L' H' hk a' w' ha' hs'=>hK _ _ (h L' H' hk a' w' ha' hs'))
theorem bu.mem{ops:List Oper}{H':List aa}(h:∀ w,Sat W w (seps H)→Sat W w (seps H'))(k:bu P W N K O Q ks ops L H'):bu P W N K O Q ks ops L H:=fun a w ha hs=>k a w ha (h w hs)
theorem bu.part{ops:List Oper}{t:Nat}{b:Bool}(ht:look L t=some (.bool b))(h1:b=true→bu P W N K O Q ks ops ((t,some (.bool true))::L) H)(h2:b=false→bu P W N K O Q ks ops ((t,some (.bool false))::L) H):bu P W N K O Q ks ops L H:=fun a w ha hs=>by
 have hx:∀ u,b=u→Env N ((t,some (.bool u))::L) a:=fun u e=>by
  subst e
  refine⟨ha.size,fun k v hv=>?_,ha.defers⟩
  rw[eB] at hv
  by_cases hk:t=k
  ·rw[if_pos hk] at hv;cases hv;subst hk;exact ha.get _ _ ht
  ·rw[if_neg hk] at hv;exact ha.get _ _ hv
 cases b with
 | true=>exact h1 rfl a w (hx _ rfl) hs
 | false=>exact h2 rfl a w (hx _ rfl) hs
theorem bu.lJ{ops:List Oper}{t:Nat}{p:Prop}[Decidable p](ht:look L t=some (.bool (decide p)))(h1:p→bu P W N K O Q ks ops ((t,some (.bool true))::L) H)(h2:¬p→bu P W N K O Q ks ops ((t,some (.bool false))::L) H):bu P W N K O Q ks ops L H :=
 .part ht (fun e=>h1 (of_decide_eq_true e)) (fun e=>h2 (of_decide_eq_false e))
inductive Kept:List aa→List aa→Prop where
 | nil {H:List aa}:Kept H []
 | take {A:aa} {H R K:List aa} (t:Take H A R) (h:Kept R K):Kept H (A::K)
theorem Kept.sat{H K:List aa}(h:Kept H K):∀ {A:aa} w,Sat W w (sep (seps H) A)→Sat W w (sep (seps K) A):=by
 induction h with
 | nil=>intro A w s;exact s.right.eq (by simp only[seps];exact(fK _).symm)
 | take t _ ih =>
  intro A w s
  rw[t.seps,aN,aY] at s
  have:=ih w s
  simp only[seps]
  rw[aN,aY]
  exact this
theorem Kept.ok{H K:List aa}(h:Kept H K):∀ w,Sat W w (seps H)→Sat W w (seps K):=fun w s=>by
 have:=h.sat (A:=emp) w (by rw[aP];exact s)
 rwa [aP] at this
/-! ### Effects -/
theorem af.value{o:Oper}{d:Nat}{v:Value}{H':List aa}(hd:o.dst=some d)(hN:Nat.blt d N=true)(h:∀ a w,Env N L a→Sat W w (seps H)→ ∃ w',(execOp a.eval o).run P w = .ok (.value v) w'∧Sat W w' (seps H')) :
  af P W N o L H (fun L1 H1=>L1=(d,some v)::L∧H1=H'):=fun a w ha hs Kp hK=>by
 obtain⟨w',hr,hs'⟩:=h a w ha hs
 unfold Oper.wp
 rw[hr]
 simp only[Oper.upon]
 rw[hd]
 exact hK _ _ ⟨rfl,rfl⟩ _ _ (ha.put (Nat.blt_eq.mp hN) v) hs'
theorem af.new{op:Op}{pos:String}{after:Array Edge}{guard:Option (Nat×Bool)}{d:Nat}{cs:List Value}{E:TypeId}{f:Nat→Value}(hN:Nat.blt d N=true)
  (h:∀ a w,Env N L a→(execOp a.eval ⟨some d,op,T,pos,after,guard⟩).run P w = .ok (.value (f w.heap.size)) (w.alloc (.cells cs.toArray E))) :
  af P W N ⟨some d,op,T,pos,after,guard⟩ L H (fun L1 H1=>∃ b,L1=(d,some (f b))::L∧H1=arr b 0 cs::H):=fun a w ha hs Kp hK=>by
 unfold Oper.wp
 rw[h a w ha]
 simp only[Oper.upon]
 have:=hs.alloc cs.toArray E
 exact hK _ _ ⟨w.heap.size,rfl,rfl⟩ _ _ (ha.put (Nat.blt_eq.mp hN) _) this
theorem kO(E:TypeId)(v:Value)(w:World):(newVar E v).run P w = .ok ⟨w.heap.size,0,none⟩ (w.alloc (.cells v.cells E)):=rfl
theorem af.alloc{E:TypeId}{pos:String}{after:Array Edge}{guard:Option (Nat×Bool)}{d:Nat}{z:Value}{cs:List Value}(hN:Nat.blt d N=true)(hz:∀ w,(zeroValue E).run P w = .ok z w)(hc:z.cells=cs.toArray) :
  af P W N ⟨some d,.alloc E,T,pos,after,guard⟩ L H (fun L1 H1=>∃ b,L1=(d,some (.pointer (some ⟨b,0,none⟩)))::L∧H1=arr b 0 cs::H) :=
 af.new (E:=E) (f:=fun b=>.pointer (some ⟨b,0,none⟩)) hN fun a w ha=>by
  simp only[execOp]
  show(Instr.alloc E true (.tuple #[]) >>= fun x=>pure (Next.value x)).run P w=_
  simp[Instr.alloc,hz,kO,hc]
theorem af.box{E:TypeId}{x:Operand}{pos:String}{after:Array Edge}{guard:Option (Nat×Bool)}{d:Nat}{v:Value}{cs:List Value}(hN:Nat.blt d N=true)(hx:ev L x=some v)(hc:v.cells=cs.toArray) :
  af P W N ⟨some d,.box E x,T,pos,after,guard⟩ L H (fun L1 H1=>∃ b,L1=(d,some (.pointer (some ⟨b,0,none⟩)))::L∧H1=arr b 0 cs::H) :=
 af.new (E:=E) (f:=fun b=>.pointer (some ⟨b,0,none⟩)) hN fun a w ha=>by
  simp only[execOp,ha.eval hx]
  show(Instr.box E v >>= fun x=>pure (Next.value x)).run P w=_
  simp[Instr.box,kO,hc]
theorem af.buildSlice{t E:TypeId}{n:Nat}{ps:Array (Nat×Operand)}{pos:String}{after:Array Edge}{guard:Option (Nat×Bool)}{d:Nat}{vs:List (Nat×Value)}{cs:List Value}(hN:Nat.blt d N=true)(hp:evParts L ps.toList=some vs)
  (h:∀ w,(Instr.buildSlice t n vs.toArray).run P w = .ok (.slice (some ⟨w.heap.size,0,none⟩) n n) (w.alloc (.cells cs.toArray E))) :
  af P W N ⟨some d,.buildSlice t n ps,T,pos,after,guard⟩ L H (fun L1 H1=>∃ b,L1=(d,some (.slice (some ⟨b,0,none⟩) n n))::L∧H1=arr b 0 cs::H) :=
 af.new (E:=E) (f:=fun b=>.slice (some ⟨b,0,none⟩) n n) hN fun a w ha=>by
  have e:ps.map (fun p=>(p.1,a.eval p.2))=vs.toArray:=by
   rw[← jy ha hp, ← List.map_toArray]
  simp only[execOp]
  show(Instr.buildSlice t n (ps.map fun p=>(p.1,a.eval p.2)) >>= fun x=>pure (Next.value x)).run P w=_
  rw[e,Sem.run_bind,h]
  rfl
/-! stores -/
theorem rB{b o:Nat}{u v:Value}{w:World}(hv:v.oneCell'=true)(hc:w.cell? ⟨b,o,none⟩=some u)(hf:w.frozen? ⟨b,o,none⟩=false):(store ⟨b,o,none⟩ v).run P w = .ok () (w.setCell ⟨b,o,none⟩ v):=by
 cases v <;> first | (simp[Value.oneCell'] at hv;done) | (simp[store,Sem.run,hc,hf])
theorem tA{v:Value}(h:v.oneCell'=true):v.cells = #[v]:=by cases v <;> simp_all [Value.oneCell',Value.cells]
theorem af.store{E:TypeId}{x y:Operand}{pos:String}{after:Array Edge}{guard:Option (Nat×Bool)}{b o i:Nat}{v:Value}{cs:List Value}{H':List aa}(hx:ev L x=some (.pointer (some ⟨b,o+i,none⟩)))(hy:ev L y=some v)(hz:∀ w,(sizeOf E).run P w = .ok 1 w)(hv:v.oneCell'=true)
  (hr:gG H (arr b o cs) (arr b o (cs.set i v)) H') (hi:i<cs.length) :
  af P W N ⟨none,.store E x y,T,pos,after,guard⟩ L H (fun L1 H1=>L1=L∧H1=H'):=fun a w ha hs Kp hK=>by
 obtain⟨R,e1,e2⟩:=hr.seps
 rw[e1] at hs
 obtain⟨hb,hc⟩:=fu hs (i:=i) (v:=cs[i]) (by simp[hi])
 have hrun:(execOp a.eval ⟨none,.store E x y,T,pos,after,guard⟩).run P w = .ok .skip (w.setCell ⟨b,o+i,none⟩ v):=by
  simp only[execOp,ha.eval hx,ha.eval hy]
  show(Instr.storeAt E (.pointer (some ⟨b,o+i,none⟩)) v >>= fun _=>pure Next.skip).run P w=_
  have h1:(storeCells ⟨b,o+i,none⟩ [v]).run P w = .ok () (w.setCell ⟨b,o+i,none⟩ v):=by
   simp[storeCells,dV,rB hv hc (rm hs hi)]
  simp[Instr.storeAt,Instr.sureAddr,storeVar,hz,tA hv,h1]
 unfold Oper.wp
 rw[hrun]
 simp only[Oper.upon]
 exact hK _ _ ⟨rfl,rfl⟩ _ _ ⟨ha.size,ha.get,ha.defers⟩ (by rw[e2];exact hs.setCell v hi)
theorem af.Dx{E:TypeId}{x y:Operand}{pos:String}{after:Array Edge}{guard:Option (Nat×Bool)}{b i:Nat}{v:Value}{cs:List Value}{H':List aa}(hx:ev L x=some (.pointer (some ⟨b,i,none⟩)))(hy:ev L y=some v)(hz:∀ w,(sizeOf E).run P w = .ok 1 w)(hv:v.oneCell'=true)
  (hr:gG H (arr b 0 cs) (arr b 0 (cs.set i v)) H') (hi:i<cs.length) :
  af P W N ⟨none,.store E x y,T,pos,after,guard⟩ L H (fun L1 H1=>L1=L∧H1=H') :=
 af.store (o:=0) (by rw[Nat.zero_add];exact hx) hy hz hv hr hi
theorem af.IQ{E:TypeId}{x y:Operand}{pos:String}{after:Array Edge}{guard:Option (Nat×Bool)}{b o:Nat}{v:Value}{cs:List Value}{H':List aa}(hx:ev L x=some (.pointer (some ⟨b,o,none⟩)))(hy:ev L y=some v)(hz:∀ w,(sizeOf E).run P w = .ok 1 w)(hv:v.oneCell'=true)
  (hr:gG H (arr b o cs) (arr b o (cs.set 0 v)) H') (hi:0<cs.length) :
  af P W N ⟨none,.store E x y,T,pos,after,guard⟩ L H (fun L1 H1=>L1=L∧H1=H') :=
 af.store (i:=0) hx hy hz hv hr hi
def setFrom(cs:List Value)(i:Nat):List Value→List Value
 | []=>cs
 | v::vs=>setFrom (cs.set i v) (i+1) vs
theorem eN{b o:Nat}{R:aa}:∀ (vs:List Value) (cs:List Value) (i j:Nat) (w:World),Sat W w (sep (arr b o cs) R)→(∀ v∈vs,v.oneCell'=true)→i+j+vs.length≤cs.length→
  ∃ w',(storeCells ⟨b,o+i,none⟩ vs j).run P w = .ok () w'∧Sat W w' (sep (arr b o (setFrom cs (i+j) vs)) R)
 | [],cs,i,j,w,hs,_,_=>⟨w,rfl,hs⟩
 | v::vs,cs,i,j,w,hs,hv,hl=>by
  have hij:i+j<cs.length:=by simp at hl;omega
  obtain⟨hb,hc⟩:=fu hs (i:=i+j) (v:=cs[i+j]) (by simp[hij])
  have h1:=rB (P:=P) (hv v (List.mem_cons_self ..)) hc (rm hs hij)
  obtain⟨w',h2,h3⟩:=eN vs (cs.set (i+j) v) i (j+1) _ (hs.setCell v hij) (fun u hu=>hv u (List.mem_cons_of_mem _ hu)) (by simp at hl ⊢;omega)
  refine⟨w',?_,h3⟩
  simp only[storeCells,dV,Sem.run_bind]
  rw[show o+i+j=o+(i+j) from by omega,h1]
  exact h2
theorem af.rC{E:TypeId}{x y:Operand}{pos:String}{after:Array Edge}{guard:Option (Nat×Bool)}{b o i:Nat}{vs cs:List Value}{H':List aa}(hx:ev L x=some (.pointer (some ⟨b,o+i,none⟩)))(hy:ev L y=some (.agg vs.toArray))(hz:∀ w,(sizeOf E).run P w = .ok vs.length w)(hv:∀ v∈vs,v.oneCell'=true)
  (hr:gG H (arr b o cs) (arr b o (setFrom cs i vs)) H') (hi:i+vs.length≤cs.length) :
  af P W N ⟨none,.store E x y,T,pos,after,guard⟩ L H (fun L1 H1=>L1=L∧H1=H'):=fun a w ha hs Kp hK=>by
 obtain⟨R,e1,e2⟩:=hr.seps
 rw[e1] at hs
 obtain⟨w',h1,h2⟩:=eN (P:=P) vs cs i 0 w hs hv (by omega)
 have hrun:(execOp a.eval ⟨none,.store E x y,T,pos,after,guard⟩).run P w = .ok .skip w':=by
  simp only[execOp,ha.eval hx,ha.eval hy]
  show(Instr.storeAt E (.pointer (some ⟨b,o+i,none⟩)) (.agg vs.toArray) >>= fun _=>pure Next.skip).run P w=_
  simp[Instr.storeAt,Instr.sureAddr,storeVar,hz,Value.cells,h1]
 unfold Oper.wp
 rw[hrun]
 simp only[Oper.upon]
 exact hK _ _ ⟨rfl,rfl⟩ _ _ ⟨ha.size,ha.get,ha.defers⟩ (by rw[e2];exact h2)
theorem qp{cs vs:List Value}(h:cs.length=vs.length):setFrom cs 0 vs=vs:=by
 have key:∀ (vs pre cs:List Value),cs.length=pre.length+vs.length→cs.take pre.length=pre→setFrom cs pre.length vs=pre++vs:=by
  intro vs
  induction vs with
  | nil=>intro pre cs hl ht;simp[setFrom];rw[← ht,List.take_of_length_le (by simp at hl;omega)]
  | cons v vs ih =>
   intro pre cs hl ht
   have:=ih (pre++[v]) (cs.set pre.length v) (by simp at hl ⊢;omega) (by
    simp only[List.length_append,List.length_cons,List.length_nil]
    rw[List.take_set,List.take_add_one]
    have hlt:pre.length<cs.length:=by simp at hl;omega
    rw[ht]
    simp[hlt])
   simp at this
   simp[setFrom,this]
 simpa using key vs [] cs (by simpa using h) rfl
theorem af.storeAll{E:TypeId}{x y:Operand}{pos:String}{after:Array Edge}{guard:Option (Nat×Bool)}{b o:Nat}{vs cs:List Value}{H':List aa}(hx:ev L x=some (.pointer (some ⟨b,o,none⟩)))(hy:ev L y=some (.agg vs.toArray))(hz:∀ w,(sizeOf E).run P w = .ok vs.length w)(hv:∀ v∈vs,v.oneCell'=true)
  (hr:gG H (arr b o cs) (arr b o vs) H') (hi:cs.length=vs.length) :
  af P W N ⟨none,.store E x y,T,pos,after,guard⟩ L H (fun L1 H1=>L1=L∧H1=H') :=
 af.rC (i:=0) hx hy hz hv (by rw[qp hi];exact hr) (by omega)
/-! ### Calls -/
def Fn(P:Program)(W:World)(f:FuncId)(args:List Value)(pre:List aa)(X:Type)(val:X→Value)(fact:X→Prop)(post:X→List aa):Prop :=
 ∀ (F:aa) (w:World),Sat W w (sep (seps pre) F)→Calls P f args.toArray w (fun e w'=>∃ x,e = .returned (val x)∧fact x∧Sat W w' (sep (seps (post x)) F))
def enum(k:Nat):List Value→List (Nat×Option Value)
 | []=>[]
 | v::r=>(k,some v)::enum (k+1) r
theorem jZ:∀ (vs:List Value) (k j:Nat) (v:Value),look (enum k vs) j=some v→k≤j∧vs[j-k]?=some v
 | [],_,_,_,h=>by cases h
 | u::r,k,j,v,h=>by
  simp only[enum] at h
  rw[eB] at h
  by_cases e:k=j
  ·rw[if_pos e] at h;cases h;subst e;simp
  ·rw[if_neg e] at h
   obtain⟨h1,h2⟩:=jZ r (k+1) j v h
   refine⟨by omega,?_⟩
   rw[show j-k=(j-(k+1))+1 from by omega]
   simpa using h2
theorem Fn.intro{f:FuncId}{fn:Func}{c:Code}{args:List Value}{pre:List aa}{X:Type}{val:X→Value}{fact:X→Prop}{post:X→List aa}(hf:P.funcs[f]?=some fn)(hb:fn.body=some c)(hn:fn.ntmps=N)(ha:Nat.ble args.length N=true)
  (h:∀ F,ax P W N (bodyPost P fn (fun e w'=>∃ x,e = .returned (val x)∧fact x∧Sat W w' (sep (seps (post x)) F))) c (enum 0 args) (pre++[F])):Fn P W f args pre X val fact post:=fun F w hs=>by
 have hle:args.length≤N:=Nat.ble_eq.mp ha
 refine calls_of_wp hf hb (h F _ w ⟨?_,fun k v hv=>?_,rfl⟩ ?_)
 ·simp[hn];omega
 ·obtain⟨_,h2⟩:=jZ args 0 k v hv
  have hk:k<args.length:=by
   have:=(List.getElem?_eq_some_iff.1 h2).1;simpa using this
  show(args.toArray++Array.replicate (fn.ntmps-args.toArray.size) undef)[k]?=some v
  rw[Array.getElem?_append_left (by simpa using hk)]
  simpa using h2
 ·rw[ah];simp only[seps];rw[aP];exact hs
theorem af.call{f:FuncId}{xs:Array Operand}{ts:Array TypeId}{pos:String}{after:Array Edge}{guard:Option (Nat×Bool)}{d:Nat}{args:List Value}{pre R:List aa}{X:Type}{val:X→Value}{fact:X→Prop}{post:X→List aa}(hN:Nat.blt d N=true)
  (hc:∀ args w,(callFunc f args).run P w = .ok (.enter f args) w) (hx:evs L xs.toList=some args) (hfn:Fn P W f args pre X val fact post) (ht:gJ H pre R) :
  af P W N ⟨some d,.call ⟨.value (.func f),xs,ts⟩,T,pos,after,guard⟩ L H (fun L1 H1=>∃ x,fact x∧L1=(d,some (val x))::L∧H1=post x++R):=fun a w ha hs Kp hK=>by
 have e:xs.map a.eval=args.toArray:=by
  rw[← ha.mV hx, ← List.map_toArray]
 rw[ht.seps,ah] at hs
 unfold Oper.wp
 have hr:(execOp a.eval ⟨some d,.call ⟨.value (.func f),xs,ts⟩,T,pos,after,guard⟩).run P w = .ok (.enter f args.toArray) w:=by
  simp[execOp,resolve,Act.eval,Deferred.ofValue,invoke,e,hc]
 rw[hr]
 simp only[Oper.upon]
 refine(hfn _ w hs).mono fun en w' ⟨x,he,hf,hs'⟩=>?_
 subst he
 exact hK _ _ ⟨x,hf,rfl,rfl⟩ _ _ (ha.put (Nat.blt_eq.mp hN) _) (by rw[ah];exact hs')
theorem af.Ko{f:FuncId}{g:Operand}{us cap:List Value}{xs:Array Operand}{ts:Array TypeId}{pos:String}{after:Array Edge}{guard:Option (Nat×Bool)}{d:Nat}{args:List Value}{pre R:List aa}{X:Type}{val:X→Value}{fact:X→Prop}{post:X→List aa}(hN:Nat.blt d N=true)
  (hg:ev L g=some (.func (.func f) us.toArray cap.toArray)) (hc:∀ args w,(callFunc f args).run P w = .ok (.enter f args) w) (hx:evs L xs.toList=some args) (hfn:Fn P W f (us++args++cap) pre X val fact post) (ht:gJ H pre R) :
  af P W N ⟨some d,.call ⟨.value g,xs,ts⟩,T,pos,after,guard⟩ L H (fun L1 H1=>∃ x,fact x∧L1=(d,some (val x))::L∧H1=post x++R):=fun a w ha hs Kp hK=>by
 have e:xs.map a.eval=args.toArray:=by
  rw[← ha.mV hx, ← List.map_toArray]
 rw[ht.seps,ah] at hs
 unfold Oper.wp
 have hr:(execOp a.eval ⟨some d,.call ⟨.value g,xs,ts⟩,T,pos,after,guard⟩).run P w = .ok (.enter f (us++args++cap).toArray) w:=by
  simp[execOp,resolve,ha.eval hg,Deferred.ofValue,invoke,e,hc]
 rw[hr]
 simp only[Oper.upon]
 refine(hfn _ w hs).mono fun en w' ⟨x,he,hf,hs'⟩=>?_
 subst he
 exact hK _ _ ⟨x,hf,rfl,rfl⟩ _ _ (ha.put (Nat.blt_eq.mp hN) _) (by rw[ah];exact hs')
/-! ### The end of a function -/
theorem cj.Lr{fn:Func}{R:Ending→World→Prop}(hr:fn.results = #[])(h:∀ w,Sat W w (seps H)→R (.returned (.tuple #[])) w):cj W N (bodyPost P fn R) .ret L H:=fun _a w ha hs =>
 bodyPost_ret (results_none hr _ _ _) ha.defers (h w hs)
theorem cj.Dy{fn:Func}{R:Ending→World→Prop}(hr:fn.results = #[])(h:∀ w,Sat W w (seps H)→R (.returned (.tuple #[])) w):cj W N (bodyPost P fn R) .normal L H:=fun _a w ha hs =>
 bodyPost_end (results_none hr _ _ _) ha.defers (h w hs)
theorem pB{a:Act}(ha:Env N L a){t:Nat}{v:Value}(h:look L t=some v):a.tmps.getD t undef=v:=by
 have:=ha.get t v h;simp[this]
theorem cj.aC{fn:Func}{R:Ending→World→Prop}{t:Nat}{v:Value}(hr:fn.results = #[.tmp t])(ht:look L t=some v)(h:∀ w,Sat W w (seps H)→R (.returned v) w):cj W N (bodyPost P fn R) .ret L H:=fun a w ha hs =>
 bodyPost_ret (by rw[results_tmp hr,pB ha ht]) ha.defers (h w hs)
theorem cj.eo{fn:Func}{R:Ending→World→Prop}{t1 t2:Nat}{v1 v2:Value}(hr:fn.results = #[.tmp t1,.tmp t2])(h1:look L t1=some v1)(h2:look L t2=some v2)(h:∀ w,Sat W w (seps H)→R (.returned (.tuple #[v1,v2])) w):cj W N (bodyPost P fn R) .ret L H:=fun a w ha hs =>
 bodyPost_ret (by rw[results_tmp2 hr,pB ha h1,pB ha h2]) ha.defers (h w hs)
theorem cj.Dz{fn:Func}{R:Ending→World→Prop}{v:Value}(hv:∀ a w,Env N L a→Sat W w (seps H)→(results fn a.tmps).run P w = .ok v w)(h:∀ w,Sat W w (seps H)→R (.returned v) w):cj W N (bodyPost P fn R) .ret L H:=fun a w ha hs =>
 bodyPost_ret (hv a w ha hs) ha.defers (h w hs)
theorem cj.lK{fn:Func}{R:Ending→World→Prop}{t1 t2 t3:Nat}{v1 v2 v3:Value}(hr:fn.results = #[.tmp t1,.tmp t2,.tmp t3])(h1:look L t1=some v1)(h2:look L t2=some v2)(h3:look L t3=some v3)(h:∀ w,Sat W w (seps H)→R (.returned (.tuple #[v1,v2,v3])) w):cj W N (bodyPost P fn R) .ret L H :=
 cj.Dz (fun a w ha hs=>by simp[results,hr,ha.get _ _ h1,ha.get _ _ h2,ha.get _ _ h3]) h
theorem cj.Gt{fn:Func}{R:Ending→World→Prop}{t1 t2 t3 t4:Nat}{v1 v2 v3 v4:Value}(hr:fn.results = #[.tmp t1,.tmp t2,.tmp t3,.tmp t4])(h1:look L t1=some v1)(h2:look L t2=some v2)(h3:look L t3=some v3)(h4:look L t4=some v4)(h:∀ w,Sat W w (seps H)→R (.returned (.tuple #[v1,v2,v3,v4])) w):cj W N (bodyPost P fn R) .ret L H :=
 cj.Dz (fun a w ha hs=>by simp[results,hr,ha.get _ _ h1,ha.get _ _ h2,ha.get _ _ h3,ha.get _ _ h4]) h
theorem cj.fw{fn:Func}{R:Ending→World→Prop}{E:TypeId}{t b o:Nat}{cs:List Value}(hr:fn.results = #[.cell t E])(ht:look L t=some (.pointer (some ⟨b,o,none⟩)))(hg:∀ w,(isAgg E).run P w = .ok true w)(hz:∀ w,(sizeOf E).run P w = .ok cs.length w)(hc:Cells W H b o cs)
  (h:∀ w,Sat W w (seps H)→R (.returned (.agg cs.toArray)) w):cj W N (bodyPost P fn R) .ret L H :=
 cj.Dz (fun a w ha hs=>by
  have hl:=ic (P:=P) (w:=w) hg hz fun i v hv=>hc i v hv w hs
  simp[results,hr,ha.get _ _ ht,asAddr,hl]) h
theorem cj.gT{fn:Func}{R:Ending→World→Prop}{E:TypeId}{t t2 b o:Nat}{cs:List Value}{v2:Value}(hr:fn.results = #[.cell t E,.tmp t2])(ht:look L t=some (.pointer (some ⟨b,o,none⟩)))(hg:∀ w,(isAgg E).run P w = .ok true w)(hz:∀ w,(sizeOf E).run P w = .ok cs.length w)(hc:Cells W H b o cs)(h2:look L t2=some v2)
  (h:∀ w,Sat W w (seps H)→R (.returned (.tuple #[.agg cs.toArray,v2])) w):cj W N (bodyPost P fn R) .ret L H :=
 cj.Dz (fun a w ha hs=>by
  have hl:=ic (P:=P) (w:=w) hg hz fun i v hv=>hc i v hv w hs
  simp[results,hr,ha.get _ _ ht,asAddr,hl,ha.get _ _ h2]) h
theorem cj.y9{fn:Func}{R:Ending→World→Prop}{E:TypeId}{t t2 t3 b o:Nat}{cs:List Value}{v2 v3:Value}(hr:fn.results = #[.cell t E,.tmp t2,.tmp t3])(ht:look L t=some (.pointer (some ⟨b,o,none⟩)))(hg:∀ w,(isAgg E).run P w = .ok true w)(hz:∀ w,(sizeOf E).run P w = .ok cs.length w)(hc:Cells W H b o cs)(h2:look L t2=some v2)(h3:look L t3=some v3)
  (h:∀ w,Sat W w (seps H)→R (.returned (.tuple #[.agg cs.toArray,v2,v3])) w):cj W N (bodyPost P fn R) .ret L H :=
 cj.Dz (fun a w ha hs=>by
  have hl:=ic (P:=P) (w:=w) hg hz fun i v hv=>hc i v hv w hs
  simp[results,hr,ha.get _ _ ht,asAddr,hl,ha.get _ _ h2,ha.get _ _ h3]) h
/-! ### Loops -/
def AE(W:World)(N:Nat){X:Type}(m:X→Nat)(fact:X→Prop)(Ls:X→List (Nat×Option Value))(Hs:X→List aa)(x:X)(a:Act)(w:World):Prop :=
 ∃ y,m y<m x∧fact y∧Env N (Ls y) a∧Sat W w (seps (Hs y))
theorem ax.loop{c:Code}{X:Type}(m:X→Nat)(fact:X→Prop)(Ls:X→List (Nat×Option Value))(Hs:X→List aa)(x0:X)(h0:fact x0)(hL:Sub (Ls x0) L)(hH:∀ w,Sat W w (seps H)→Sat W w (seps (Hs x0)))
  (round:∀ x,fact x→ax P W N (Exit.then (AE W N m fact Ls Hs x) Q) c (Ls x) (Hs x)):ax P W N Q (.loop c) L H:=fun a w ha hs =>
 wp_loop_ghost (fun n a w=>∃ x,m x=n∧fact x∧Env N (Ls x) a∧Sat W w (seps (Hs x))) (m x0) ⟨x0,rfl,h0,ha.sub hL,hH w hs⟩ fun n a w ⟨x,hm,hf,ha,hs⟩=>by
  refine wp_mono (round x hf a w ha hs) fun e a' w' hq=>?_
  cases e with
  | normal =>
   obtain⟨y,h1,h2,h3,h4⟩:=hq
   exact⟨m y,by omega,y,rfl,h2,h3,h4⟩
  | exit id=>exact hq
  | goto l=>exact hq
  | ret=>exact hq
  | panic ch=>exact hq
  | outgrown=>exact hq
theorem cj.again{X:Type}{m:X→Nat}{fact:X→Prop}{Ls:X→List (Nat×Option Value)}{Hs:X→List aa}{x:X}(y:X)(h1:m y<m x)(h2:fact y)(hL:Sub (Ls y) L)(hH:∀ w,Sat W w (seps H)→Sat W w (seps (Hs y))) :
  cj W N (Exit.then (AE W N m fact Ls Hs x) Q) .normal L H:=fun _a w ha hs=>⟨y,h1,h2,ha.sub hL,hH w hs⟩
theorem Env.conv{L':List (Nat×Option Value)}{a:Act}(ha:Env N L a)(h:∀ k v,look L' k=some v→look L k=some v):Env N L' a:=⟨ha.size,fun k v hv=>ha.get k v (h k v hv),ha.defers⟩
theorem ax.cM{c:Code}{X:Type}(ks:List Nat)(m:X→Nat)(fact:X→Prop)(E:X→List (Nat×Option Value))(Hs:X→List aa)(x0:X)(h0:fact x0)(hL:Sub (E x0) L)(hH:∀ w,Sat W w (seps H)→Sat W w (seps (Hs x0)))
  (round:∀ x,fact x→ax P W N (Exit.then (AE W N m fact (fun x=>E x++(nones ks++L)) Hs x) Q) c (E x++(nones ks++L)) (Hs x)):ax P W N Q (.loop c) L H:=fun a w ha hs =>
 wp_loop_ghost (fun n a w=>∃ x,m x=n∧fact x∧Env N (E x++(nones ks++L)) a∧Sat W w (seps (Hs x))) (m x0) ⟨x0,rfl,h0,ha.conv (Sub.Mh .base hL),hH w hs⟩ fun n a w ⟨x,hm,hf,ha,hs⟩=>by
  refine wp_mono (round x hf a w ha hs) fun e a' w' hq=>?_
  cases e with
  | normal =>
   obtain⟨y,h1,h2,h3,h4⟩:=hq
   exact⟨m y,by omega,y,rfl,h2,h3,h4⟩
  | exit id=>exact hq
  | goto l=>exact hq
  | ret=>exact hq
  | panic ch=>exact hq
  | outgrown=>exact hq
theorem cj.bf{X:Type}{ks:List Nat}{m:X→Nat}{fact:X→Prop}{E:X→List (Nat×Option Value)}{L0:List (Nat×Option Value)}{Hs:X→List aa}{x:X}(y:X)(t:yY ks L (E x++(nones ks++L0)))(hE:(E x).all (fun p=>ks.elem p.1)=true)(h1:m y<m x)(h2:fact y)(hL:Sub (E y) L)(hH:∀ w,Sat W w (seps H)→Sat W w (seps (Hs y))) :
  cj W N (Exit.then (AE W N m fact (fun x=>E x++(nones ks++L0)) Hs x) Q) .normal L H:=fun _a w ha hs =>
 ⟨y,h1,h2,⟨ha.size,fun k v hv=>ha.get k v (Sub.round t (fun k v hm=>List.all_eq_true.1 hE (k,v) hm) hL k v hv),ha.defers⟩,hH w hs⟩
def Lt(W:World)(N:Nat){X:Type}(fact:X→Prop)(Ls:X→List (Nat×Option Value))(Hs:X→List aa)(a:Act)(w:World):Prop :=
 ∃ x,fact x∧Env N (Ls x) a∧Sat W w (seps (Hs x))
theorem ax.nJ{c1 c2:Code}{X:Type}(ks:List Nat)(fact:X→Prop)(E:X→List (Nat×Option Value))(Hs:X→List aa)(h1:ax P W N (Exit.then (Lt W N fact (fun x=>E x++(nones ks++L)) Hs) Q) c1 L H)(h2:∀ x,fact x→ax P W N Q c2 (E x++(nones ks++L)) (Hs x)):ax P W N Q (.seq c1 c2) L H:=fun a w ha hs =>
 wp_seq (wp_mono (h1 a w ha hs) fun e a' w' hq=>by
  cases e with
  | normal=>obtain⟨x,f,ha',hs'⟩:=hq;exact h2 x f a' w' ha' hs'
  | exit id=>exact hq
  | goto l=>exact hq
  | ret=>exact hq
  | panic ch=>exact hq
  | outgrown=>exact hq)
theorem cj.eY{X:Type}{ks:List Nat}{fact:X→Prop}{E:X→List (Nat×Option Value)}{L0:List (Nat×Option Value)}{Hs:X→List aa}(y:X)(t:yY ks L L0)(h2:fact y)(hL:Sub (E y) L)(hH:∀ w,Sat W w (seps H)→Sat W w (seps (Hs y))) :
  cj W N (Exit.then (Lt W N fact (fun x=>E x++(nones ks++L0)) Hs) Q) .normal L H:=fun _a w ha hs =>
 ⟨y,h2,⟨ha.size,fun k v hv=>ha.get k v (Sub.Mh t hL k v hv),ha.defers⟩,hH w hs⟩
end
end Go.SLYtefdijgllbkmfaaGreat
