/- Walks of functions, and what they compute. Conditions: none, this text proves no statement. -/
import Derived.Test.YthlllpngkljgfaaGreatH01
import GoSem.Core.Float
namespace Go.SLYthlllpngkljgfaaGreat
open Go Go.RowKit
def iS{X1:Type}(p:X1→Prop)(A:X1→List aa):aa:=fun h=>∃ x1,p x1∧seps (A x1) h
def nI{X1 X2:Type}(p:X1→X2→Prop)(A:X1→X2→List aa):aa:=fun h=>∃ x1 x2,p x1 x2∧seps (A x1 x2) h
def yX{X1 X2 X3:Type}(p:X1→X2→X3→Prop)(A:X1→X2→X3→List aa):aa:=fun h=>∃ x1 x2 x3,p x1 x2 x3∧seps (A x1 x2 x3) h
def F7{X1 X2 X3 X4:Type}(p:X1→X2→X3→X4→Prop)(A:X1→X2→X3→X4→List aa):aa:=fun h=>∃ x1 x2 x3 x4,p x1 x2 x3 x4∧seps (A x1 x2 x3 x4) h
def F8{X1 X2 X3 X4 X5:Type}(p:X1→X2→X3→X4→X5→Prop)(A:X1→X2→X3→X4→X5→List aa):aa:=fun h=>∃ x1 x2 x3 x4 x5,p x1 x2 x3 x4 x5∧seps (A x1 x2 x3 x4 x5) h
def F9{X1 X2 X3 X4 X5 X6:Type}(p:X1→X2→X3→X4→X5→X6→Prop)(A:X1→X2→X3→X4→X5→X6→List aa):aa:=fun h=>∃ x1 x2 x3 x4 x5 x6,p x1 x2 x3 x4 x5 x6∧seps (A x1 x2 x3 x4 x5 x6) h
def Ga{X1 X2 X3 X4 X5 X6 X7:Type}(p:X1→X2→X3→X4→X5→X6→X7→Prop)(A:X1→X2→X3→X4→X5→X6→X7→List aa):aa:=fun h=>∃ x1 x2 x3 x4 x5 x6 x7,p x1 x2 x3 x4 x5 x6 x7∧seps (A x1 x2 x3 x4 x5 x6 x7) h
def Gb{X1 X2 X3 X4 X5 X6 X7 X8:Type}(p:X1→X2→X3→X4→X5→X6→X7→X8→Prop)(A:X1→X2→X3→X4→X5→X6→X7→X8→List aa):aa:=fun h=>∃ x1 x2 x3 x4 x5 x6 x7 x8,p x1 x2 x3 x4 x5 x6 x7 x8∧seps (A x1 x2 x3 x4 x5 x6 x7 x8) h
def Gc{X1 X2 X3 X4 X5 X6 X7 X8 X9:Type}(p:X1→X2→X3→X4→X5→X6→X7→X8→X9→Prop)(A:X1→X2→X3→X4→X5→X6→X7→X8→X9→List aa):aa:=fun h=>∃ x1 x2 x3 x4 x5 x6 x7 x8 x9,p x1 x2 x3 x4 x5 x6 x7 x8 x9∧seps (A x1 x2 x3 x4 x5 x6 x7 x8 x9) h
def vA{X1 X2 X3 X4 X5 X6 X7 X8 X9 X10:Type}(p:X1→X2→X3→X4→X5→X6→X7→X8→X9→X10→Prop)(A:X1→X2→X3→X4→X5→X6→X7→X8→X9→X10→List aa):aa:=fun h=>∃ x1 x2 x3 x4 x5 x6 x7 x8 x9 x10,p x1 x2 x3 x4 x5 x6 x7 x8 x9 x10∧seps (A x1 x2 x3 x4 x5 x6 x7 x8 x9 x10) h
def yY{X1 X2 X3 X4 X5 X6 X7 X8 X9 X10 X11:Type}(p:X1→X2→X3→X4→X5→X6→X7→X8→X9→X10→X11→Prop)(A:X1→X2→X3→X4→X5→X6→X7→X8→X9→X10→X11→List aa):aa:=fun h=>∃ x1 x2 x3 x4 x5 x6 x7 x8 x9 x10 x11,p x1 x2 x3 x4 x5 x6 x7 x8 x9 x10 x11∧seps (A x1 x2 x3 x4 x5 x6 x7 x8 x9 x10 x11) h
def yZ{X1 X2 X3 X4 X5 X6 X7 X8 X9 X10 X11 X12:Type}(p:X1→X2→X3→X4→X5→X6→X7→X8→X9→X10→X11→X12→Prop)(A:X1→X2→X3→X4→X5→X6→X7→X8→X9→X10→X11→X12→List aa):aa:=fun h=>∃ x1 x2 x3 x4 x5 x6 x7 x8 x9 x10 x11 x12,p x1 x2 x3 x4 x5 x6 x7 x8 x9 x10 x11 x12∧seps (A x1 x2 x3 x4 x5 x6 x7 x8 x9 x10 x11 x12) h
inductive ax:List aa→List aa→List aa→Prop where
 | nil {H:List aa}:ax H [] H
 | cons {H R R':List aa} {A:aa} {As:List aa} (h:Take H A R) (t:ax R As R'):ax H (A::As) R'
 /-- a thing seen otherwise -/
 | conv {A B:aa} {H R As:List aa} (c:∀ h,A h→B h) (t:ax H (A::As) R):ax H (B::As) R
 | ez {H R R' Bs As:List aa} (t1:ax H Bs R) (t2:ax R As R'):ax H (seps Bs::As) R'
 | f1 {X1:Type} {p:X1→Prop} {A:X1→List aa} {C:aa} {H R R' As:List aa} (e:C=iS p A) (x1:X1) (t1:ax H (A x1) R) (t2:ax R As R') (hp:p x1):ax H (C::As) R'
 | f2 {X1 X2:Type} {p:X1→X2→Prop} {A:X1→X2→List aa} {C:aa} {H R R' As:List aa} (e:C=nI p A) (x1:X1) (x2:X2) (t1:ax H (A x1 x2) R) (t2:ax R As R') (hp:p x1 x2):ax H (C::As) R'
 | f3 {X1 X2 X3:Type} {p:X1→X2→X3→Prop} {A:X1→X2→X3→List aa} {C:aa} {H R R' As:List aa} (e:C=yX p A) (x1:X1) (x2:X2) (x3:X3) (t1:ax H (A x1 x2 x3) R) (t2:ax R As R') (hp:p x1 x2 x3):ax H (C::As) R'
 | f4 {X1 X2 X3 X4:Type} {p:X1→X2→X3→X4→Prop} {A:X1→X2→X3→X4→List aa} {C:aa} {H R R' As:List aa} (e:C=F7 p A) (x1:X1) (x2:X2) (x3:X3) (x4:X4) (t1:ax H (A x1 x2 x3 x4) R) (t2:ax R As R') (hp:p x1 x2 x3 x4):ax H (C::As) R'
 | f5 {X1 X2 X3 X4 X5:Type} {p:X1→X2→X3→X4→X5→Prop} {A:X1→X2→X3→X4→X5→List aa} {C:aa} {H R R' As:List aa} (e:C=F8 p A) (x1:X1) (x2:X2) (x3:X3) (x4:X4) (x5:X5) (t1:ax H (A x1 x2 x3 x4 x5) R) (t2:ax R As R') (hp:p x1 x2 x3 x4 x5):ax H (C::As) R'
 | f6 {X1 X2 X3 X4 X5 X6:Type} {p:X1→X2→X3→X4→X5→X6→Prop} {A:X1→X2→X3→X4→X5→X6→List aa} {C:aa} {H R R' As:List aa} (e:C=F9 p A) (x1:X1) (x2:X2) (x3:X3) (x4:X4) (x5:X5) (x6:X6) (t1:ax H (A x1 x2 x3 x4 x5 x6) R) (t2:ax R As R') (hp:p x1 x2 x3 x4 x5 x6):ax H (C::As) R'
 | f7 {X1 X2 X3 X4 X5 X6 X7:Type} {p:X1→X2→X3→X4→X5→X6→X7→Prop} {A:X1→X2→X3→X4→X5→X6→X7→List aa} {C:aa} {H R R' As:List aa} (e:C=Ga p A) (x1:X1) (x2:X2) (x3:X3) (x4:X4) (x5:X5) (x6:X6) (x7:X7) (t1:ax H (A x1 x2 x3 x4 x5 x6 x7) R) (t2:ax R As R') (hp:p x1 x2 x3 x4 x5 x6 x7):ax H (C::As) R'
 | f8 {X1 X2 X3 X4 X5 X6 X7 X8:Type} {p:X1→X2→X3→X4→X5→X6→X7→X8→Prop} {A:X1→X2→X3→X4→X5→X6→X7→X8→List aa} {C:aa} {H R R' As:List aa} (e:C=Gb p A) (x1:X1) (x2:X2) (x3:X3) (x4:X4) (x5:X5) (x6:X6) (x7:X7) (x8:X8) (t1:ax H (A x1 x2 x3 x4 x5 x6 x7 x8) R) (t2:ax R As R') (hp:p x1 x2 x3 x4 x5 x6 x7 x8):ax H (C::As) R'
 | f9 {X1 X2 X3 X4 X5 X6 X7 X8 X9:Type} {p:X1→X2→X3→X4→X5→X6→X7→X8→X9→Prop} {A:X1→X2→X3→X4→X5→X6→X7→X8→X9→List aa} {C:aa} {H R R' As:List aa} (e:C=Gc p A) (x1:X1) (x2:X2) (x3:X3) (x4:X4) (x5:X5) (x6:X6) (x7:X7) (x8:X8) (x9:X9) (t1:ax H (A x1 x2 x3 x4 x5 x6 x7 x8 x9) R) (t2:ax R As R') (hp:p x1 x2 x3 x4 x5 x6 x7 x8 x9):ax H (C::As) R'
 | f10 {X1 X2 X3 X4 X5 X6 X7 X8 X9 X10:Type} {p:X1→X2→X3→X4→X5→X6→X7→X8→X9→X10→Prop} {A:X1→X2→X3→X4→X5→X6→X7→X8→X9→X10→List aa} {C:aa} {H R R' As:List aa} (e:C=vA p A) (x1:X1) (x2:X2) (x3:X3) (x4:X4) (x5:X5) (x6:X6) (x7:X7) (x8:X8) (x9:X9) (x10:X10) (t1:ax H (A x1 x2 x3 x4 x5 x6 x7 x8 x9 x10) R) (t2:ax R As R') (hp:p x1 x2 x3 x4 x5 x6 x7 x8 x9 x10):ax H (C::As) R'
 | f11 {X1 X2 X3 X4 X5 X6 X7 X8 X9 X10 X11:Type} {p:X1→X2→X3→X4→X5→X6→X7→X8→X9→X10→X11→Prop} {A:X1→X2→X3→X4→X5→X6→X7→X8→X9→X10→X11→List aa} {C:aa} {H R R' As:List aa} (e:C=yY p A) (x1:X1) (x2:X2) (x3:X3) (x4:X4) (x5:X5) (x6:X6) (x7:X7) (x8:X8) (x9:X9) (x10:X10) (x11:X11) (t1:ax H (A x1 x2 x3 x4 x5 x6 x7 x8 x9 x10 x11) R) (t2:ax R As R') (hp:p x1 x2 x3 x4 x5 x6 x7 x8 x9 x10 x11):ax H (C::As) R'
 | f12 {X1 X2 X3 X4 X5 X6 X7 X8 X9 X10 X11 X12:Type} {p:X1→X2→X3→X4→X5→X6→X7→X8→X9→X10→X11→X12→Prop} {A:X1→X2→X3→X4→X5→X6→X7→X8→X9→X10→X11→X12→List aa} {C:aa} {H R R' As:List aa} (e:C=yZ p A) (x1:X1) (x2:X2) (x3:X3) (x4:X4) (x5:X5) (x6:X6) (x7:X7) (x8:X8) (x9:X9) (x10:X10) (x11:X11) (x12:X12) (t1:ax H (A x1 x2 x3 x4 x5 x6 x7 x8 x9 x10 x11 x12) R) (t2:ax R As R') (hp:p x1 x2 x3 x4 x5 x6 x7 x8 x9 x10 x11 x12):ax H (C::As) R'
theorem fh{B C D E F:aa}{h:jD}(a:sep B C h)(f:∀ h,B h→D h)(g:∀ h,C h→sep E F h):sep (sep D E) F h:=by
 rw[aU]
 exact ba f g h a
theorem ax.ok{H As R:List aa}(t:ax H As R):∀ h,seps H h→sep (seps As) (seps R) h:=by
 induction t with
 | nil=>intro h a;simp only[seps,jF];exact a
 | cons t _ ih=>intro h a;rw[t.seps] at a;exact fh a (fun _ h=>h) ih
 | conv c _ ih=>intro h a;exact ba (ba c (fun _ h=>h)) (fun _ h=>h) h (ih h a)
 | ez _ _ i1 i2=>intro h a;exact fh (i1 h a) (fun _ h=>h) i2
 | f1 e x1 _ _ hp i1 i2=>intro h a;subst e;exact fh (i1 h a) (fun _ h=>⟨x1,hp,h⟩) i2
 | f2 e x1 x2 _ _ hp i1 i2=>intro h a;subst e;exact fh (i1 h a) (fun _ h=>⟨x1,x2,hp,h⟩) i2
 | f3 e x1 x2 x3 _ _ hp i1 i2=>intro h a;subst e;exact fh (i1 h a) (fun _ h=>⟨x1,x2,x3,hp,h⟩) i2
 | f4 e x1 x2 x3 x4 _ _ hp i1 i2=>intro h a;subst e;exact fh (i1 h a) (fun _ h=>⟨x1,x2,x3,x4,hp,h⟩) i2
 | f5 e x1 x2 x3 x4 x5 _ _ hp i1 i2=>intro h a;subst e;exact fh (i1 h a) (fun _ h=>⟨x1,x2,x3,x4,x5,hp,h⟩) i2
 | f6 e x1 x2 x3 x4 x5 x6 _ _ hp i1 i2=>intro h a;subst e;exact fh (i1 h a) (fun _ h=>⟨x1,x2,x3,x4,x5,x6,hp,h⟩) i2
 | f7 e x1 x2 x3 x4 x5 x6 x7 _ _ hp i1 i2=>intro h a;subst e;exact fh (i1 h a) (fun _ h=>⟨x1,x2,x3,x4,x5,x6,x7,hp,h⟩) i2
 | f8 e x1 x2 x3 x4 x5 x6 x7 x8 _ _ hp i1 i2=>intro h a;subst e;exact fh (i1 h a) (fun _ h=>⟨x1,x2,x3,x4,x5,x6,x7,x8,hp,h⟩) i2
 | f9 e x1 x2 x3 x4 x5 x6 x7 x8 x9 _ _ hp i1 i2=>intro h a;subst e;exact fh (i1 h a) (fun _ h=>⟨x1,x2,x3,x4,x5,x6,x7,x8,x9,hp,h⟩) i2
 | f10 e x1 x2 x3 x4 x5 x6 x7 x8 x9 x10 _ _ hp i1 i2=>intro h a;subst e;exact fh (i1 h a) (fun _ h=>⟨x1,x2,x3,x4,x5,x6,x7,x8,x9,x10,hp,h⟩) i2
 | f11 e x1 x2 x3 x4 x5 x6 x7 x8 x9 x10 x11 _ _ hp i1 i2=>intro h a;subst e;exact fh (i1 h a) (fun _ h=>⟨x1,x2,x3,x4,x5,x6,x7,x8,x9,x10,x11,hp,h⟩) i2
 | f12 e x1 x2 x3 x4 x5 x6 x7 x8 x9 x10 x11 x12 _ _ hp i1 i2=>intro h a;subst e;exact fh (i1 h a) (fun _ h=>⟨x1,x2,x3,x4,x5,x6,x7,x8,x9,x10,x11,x12,hp,h⟩) i2
theorem gK.all(pre R:List aa):gK (pre++R) pre R:=by
 induction pre with
 | nil=>exact .nil
 | cons A r ih=>exact .cons .here ih
section
variable{P:Program}{W:World}{N:Nat}{Q:Exit→Act→World→Prop}{L:List (Nat×Option Value)}{H R K:List aa}{O:Array Oper}{T:TypeId}{ks:List Nat}{ops:List Oper}{C:aa}{X1 X2 X3 X4 X5 X6 X7 X8 X9 X10 X11 X12:Type}
theorem ax.sat{w:World}{As:List aa}(t:ax H As R)(s:Sat W w (seps H)):Sat W w (seps (As++R)):=by
 rw[ah];exact s.mono t.ok
theorem ax.kept{As:List aa}(t:ax H As R):∀ w,Sat W w (seps H)→Sat W w (seps As):=fun w s=>by
 have:=t.sat s
 rw[ah] at this
 exact this.left
theorem ai{w:World}{A:List aa}{F:aa}{R:List aa}(t:ax H (A++[F]) R)(s:Sat W w (seps H)):Sat W w (sep (seps A) F):=by
 have:=t.kept w s
 rw[ah] at this
 exact this.eq (by simp only[seps,aJ])
theorem af.eH{f:FuncId}{xs:Array Operand}{ts:Array TypeId}{pos:String}{after:Array Edge}{guard:Option (Nat×Bool)}{d:Nat}{args:List Value}{pre R:List aa}{X:Type}{val:X→Value}{fact:X→Prop}{post:X→List aa}(hN:Nat.blt d N=true)
  (hc:∀ args w,(callFunc f args).run P w = .ok (.enter f args) w) (hx:evs L xs.toList=some args) (hfn:Fn P W f args pre X val fact post) (ht:ax H pre R) :
  af P W N ⟨some d,.call ⟨.value (.func f),xs,ts⟩,T,pos,after,guard⟩ L H (fun L1 H1=>∃ x,fact x∧L1=(d,some (val x))::L∧H1=post x++R):=fun a w ha hs =>
 af.call (H:=pre++R) hN hc hx hfn (gK.all pre R) a w ha (ht.sat hs)
theorem af.jU{f:FuncId}{g:Operand}{us cap:List Value}{xs:Array Operand}{ts:Array TypeId}{pos:String}{after:Array Edge}{guard:Option (Nat×Bool)}{d:Nat}{args:List Value}{pre R:List aa}{X:Type}{val:X→Value}{fact:X→Prop}{post:X→List aa}(hN:Nat.blt d N=true)
  (hg:ev L g=some (.func (.func f) us.toArray cap.toArray)) (hc:∀ args w,(callFunc f args).run P w = .ok (.enter f args) w) (hx:evs L xs.toList=some args) (hfn:Fn P W f (us++args++cap) pre X val fact post) (ht:ax H pre R) :
  af P W N ⟨some d,.call ⟨.value g,xs,ts⟩,T,pos,after,guard⟩ L H (fun L1 H1=>∃ x,fact x∧L1=(d,some (val x))::L∧H1=post x++R):=fun a w ha hs =>
 af.MA (H:=pre++R) hN hg hc hx hfn (gK.all pre R) a w ha (ht.sat hs)
theorem aq.Ni{c:Code}{As:List aa}(t:ax H As R)(k:aq P W N Q c L (As++R)):aq P W N Q c L H:=fun a w ha hs=>k a w ha (t.sat hs)
theorem aq.dq{c:Code}{As:List aa}(t:Take H (seps As) R)(k:aq P W N Q c L (As++R)):aq P W N Q c L H:=fun a w ha hs=>k a w ha (by rw[ah, ← t.seps];exact hs)
theorem aq.o1{c:Code}{p:X1→Prop}{A:X1→List aa}(t:Take H C R)(e:C=iS p A)(k:∀ x1,p x1→aq P W N Q c L (A x1++R)):aq P W N Q c L H:=fun a w ha hs=>by
 rw[t.seps] at hs
 subst e
 obtain⟨h,⟨h1,h2,⟨x1,hp,a1⟩,r,d,e'⟩,hin⟩:=hs.own
 exact k x1 hp a w ha (by rw[ah];exact {hs with own:=⟨h,⟨h1,h2,a1,r,d,e'⟩,hin⟩ })
theorem aq.o2{c:Code}{p:X1→X2→Prop}{A:X1→X2→List aa}(t:Take H C R)(e:C=nI p A)(k:∀ x1 x2,p x1 x2→aq P W N Q c L (A x1 x2++R)):aq P W N Q c L H:=fun a w ha hs=>by
 rw[t.seps] at hs
 subst e
 obtain⟨h,⟨h1,h2,⟨x1,x2,hp,a1⟩,r,d,e'⟩,hin⟩:=hs.own
 exact k x1 x2 hp a w ha (by rw[ah];exact {hs with own:=⟨h,⟨h1,h2,a1,r,d,e'⟩,hin⟩ })
theorem aq.o3{c:Code}{p:X1→X2→X3→Prop}{A:X1→X2→X3→List aa}(t:Take H C R)(e:C=yX p A)(k:∀ x1 x2 x3,p x1 x2 x3→aq P W N Q c L (A x1 x2 x3++R)):aq P W N Q c L H:=fun a w ha hs=>by
 rw[t.seps] at hs
 subst e
 obtain⟨h,⟨h1,h2,⟨x1,x2,x3,hp,a1⟩,r,d,e'⟩,hin⟩:=hs.own
 exact k x1 x2 x3 hp a w ha (by rw[ah];exact {hs with own:=⟨h,⟨h1,h2,a1,r,d,e'⟩,hin⟩ })
theorem aq.o4{c:Code}{p:X1→X2→X3→X4→Prop}{A:X1→X2→X3→X4→List aa}(t:Take H C R)(e:C=F7 p A)(k:∀ x1 x2 x3 x4,p x1 x2 x3 x4→aq P W N Q c L (A x1 x2 x3 x4++R)):aq P W N Q c L H:=fun a w ha hs=>by
 rw[t.seps] at hs
 subst e
 obtain⟨h,⟨h1,h2,⟨x1,x2,x3,x4,hp,a1⟩,r,d,e'⟩,hin⟩:=hs.own
 exact k x1 x2 x3 x4 hp a w ha (by rw[ah];exact {hs with own:=⟨h,⟨h1,h2,a1,r,d,e'⟩,hin⟩ })
theorem aq.o5{c:Code}{p:X1→X2→X3→X4→X5→Prop}{A:X1→X2→X3→X4→X5→List aa}(t:Take H C R)(e:C=F8 p A)(k:∀ x1 x2 x3 x4 x5,p x1 x2 x3 x4 x5→aq P W N Q c L (A x1 x2 x3 x4 x5++R)):aq P W N Q c L H:=fun a w ha hs=>by
 rw[t.seps] at hs
 subst e
 obtain⟨h,⟨h1,h2,⟨x1,x2,x3,x4,x5,hp,a1⟩,r,d,e'⟩,hin⟩:=hs.own
 exact k x1 x2 x3 x4 x5 hp a w ha (by rw[ah];exact {hs with own:=⟨h,⟨h1,h2,a1,r,d,e'⟩,hin⟩ })
theorem aq.o6{c:Code}{p:X1→X2→X3→X4→X5→X6→Prop}{A:X1→X2→X3→X4→X5→X6→List aa}(t:Take H C R)(e:C=F9 p A)(k:∀ x1 x2 x3 x4 x5 x6,p x1 x2 x3 x4 x5 x6→aq P W N Q c L (A x1 x2 x3 x4 x5 x6++R)):aq P W N Q c L H:=fun a w ha hs=>by
 rw[t.seps] at hs
 subst e
 obtain⟨h,⟨h1,h2,⟨x1,x2,x3,x4,x5,x6,hp,a1⟩,r,d,e'⟩,hin⟩:=hs.own
 exact k x1 x2 x3 x4 x5 x6 hp a w ha (by rw[ah];exact {hs with own:=⟨h,⟨h1,h2,a1,r,d,e'⟩,hin⟩ })
theorem aq.o7{c:Code}{p:X1→X2→X3→X4→X5→X6→X7→Prop}{A:X1→X2→X3→X4→X5→X6→X7→List aa}(t:Take H C R)(e:C=Ga p A)(k:∀ x1 x2 x3 x4 x5 x6 x7,p x1 x2 x3 x4 x5 x6 x7→aq P W N Q c L (A x1 x2 x3 x4 x5 x6 x7++R)):aq P W N Q c L H:=fun a w ha hs=>by
 rw[t.seps] at hs
 subst e
 obtain⟨h,⟨h1,h2,⟨x1,x2,x3,x4,x5,x6,x7,hp,a1⟩,r,d,e'⟩,hin⟩:=hs.own
 exact k x1 x2 x3 x4 x5 x6 x7 hp a w ha (by rw[ah];exact {hs with own:=⟨h,⟨h1,h2,a1,r,d,e'⟩,hin⟩ })
theorem aq.o8{c:Code}{p:X1→X2→X3→X4→X5→X6→X7→X8→Prop}{A:X1→X2→X3→X4→X5→X6→X7→X8→List aa}(t:Take H C R)(e:C=Gb p A)(k:∀ x1 x2 x3 x4 x5 x6 x7 x8,p x1 x2 x3 x4 x5 x6 x7 x8→aq P W N Q c L (A x1 x2 x3 x4 x5 x6 x7 x8++R)):aq P W N Q c L H:=fun a w ha hs=>by
 rw[t.seps] at hs
 subst e
 obtain⟨h,⟨h1,h2,⟨x1,x2,x3,x4,x5,x6,x7,x8,hp,a1⟩,r,d,e'⟩,hin⟩:=hs.own
 exact k x1 x2 x3 x4 x5 x6 x7 x8 hp a w ha (by rw[ah];exact {hs with own:=⟨h,⟨h1,h2,a1,r,d,e'⟩,hin⟩ })
theorem aq.o9{c:Code}{p:X1→X2→X3→X4→X5→X6→X7→X8→X9→Prop}{A:X1→X2→X3→X4→X5→X6→X7→X8→X9→List aa}(t:Take H C R)(e:C=Gc p A)(k:∀ x1 x2 x3 x4 x5 x6 x7 x8 x9,p x1 x2 x3 x4 x5 x6 x7 x8 x9→aq P W N Q c L (A x1 x2 x3 x4 x5 x6 x7 x8 x9++R)):aq P W N Q c L H:=fun a w ha hs=>by
 rw[t.seps] at hs
 subst e
 obtain⟨h,⟨h1,h2,⟨x1,x2,x3,x4,x5,x6,x7,x8,x9,hp,a1⟩,r,d,e'⟩,hin⟩:=hs.own
 exact k x1 x2 x3 x4 x5 x6 x7 x8 x9 hp a w ha (by rw[ah];exact {hs with own:=⟨h,⟨h1,h2,a1,r,d,e'⟩,hin⟩ })
theorem aq.jA{c:Code}{p:X1→X2→X3→X4→X5→X6→X7→X8→X9→X10→Prop}{A:X1→X2→X3→X4→X5→X6→X7→X8→X9→X10→List aa}(t:Take H C R)(e:C=vA p A)(k:∀ x1 x2 x3 x4 x5 x6 x7 x8 x9 x10,p x1 x2 x3 x4 x5 x6 x7 x8 x9 x10→aq P W N Q c L (A x1 x2 x3 x4 x5 x6 x7 x8 x9 x10++R)):aq P W N Q c L H:=fun a w ha hs=>by
 rw[t.seps] at hs
 subst e
 obtain⟨h,⟨h1,h2,⟨x1,x2,x3,x4,x5,x6,x7,x8,x9,x10,hp,a1⟩,r,d,e'⟩,hin⟩:=hs.own
 exact k x1 x2 x3 x4 x5 x6 x7 x8 x9 x10 hp a w ha (by rw[ah];exact {hs with own:=⟨h,⟨h1,h2,a1,r,d,e'⟩,hin⟩ })
theorem aq.Ns{c:Code}{p:X1→X2→X3→X4→X5→X6→X7→X8→X9→X10→X11→Prop}{A:X1→X2→X3→X4→X5→X6→X7→X8→X9→X10→X11→List aa}(t:Take H C R)(e:C=yY p A)(k:∀ x1 x2 x3 x4 x5 x6 x7 x8 x9 x10 x11,p x1 x2 x3 x4 x5 x6 x7 x8 x9 x10 x11→aq P W N Q c L (A x1 x2 x3 x4 x5 x6 x7 x8 x9 x10 x11++R)):aq P W N Q c L H:=fun a w ha hs=>by
 rw[t.seps] at hs
 subst e
 obtain⟨h,⟨h1,h2,⟨x1,x2,x3,x4,x5,x6,x7,x8,x9,x10,x11,hp,a1⟩,r,d,e'⟩,hin⟩:=hs.own
 exact k x1 x2 x3 x4 x5 x6 x7 x8 x9 x10 x11 hp a w ha (by rw[ah];exact {hs with own:=⟨h,⟨h1,h2,a1,r,d,e'⟩,hin⟩ })
theorem aq.Nt{c:Code}{p:X1→X2→X3→X4→X5→X6→X7→X8→X9→X10→X11→X12→Prop}{A:X1→X2→X3→X4→X5→X6→X7→X8→X9→X10→X11→X12→List aa}(t:Take H C R)(e:C=yZ p A)(k:∀ x1 x2 x3 x4 x5 x6 x7 x8 x9 x10 x11 x12,p x1 x2 x3 x4 x5 x6 x7 x8 x9 x10 x11 x12→aq P W N Q c L (A x1 x2 x3 x4 x5 x6 x7 x8 x9 x10 x11 x12++R)):aq P W N Q c L H:=fun a w ha hs=>by
 rw[t.seps] at hs
 subst e
 obtain⟨h,⟨h1,h2,⟨x1,x2,x3,x4,x5,x6,x7,x8,x9,x10,x11,x12,hp,a1⟩,r,d,e'⟩,hin⟩:=hs.own
 exact k x1 x2 x3 x4 x5 x6 x7 x8 x9 x10 x11 x12 hp a w ha (by rw[ah];exact {hs with own:=⟨h,⟨h1,h2,a1,r,d,e'⟩,hin⟩ })
theorem aS.Ni{As:List aa}(t:ax H As R)(k:aS P W N O Q ops L (As++R)):aS P W N O Q ops L H:=fun a w ha hs=>k a w ha (t.sat hs)
theorem aS.dq{As:List aa}(t:Take H (seps As) R)(k:aS P W N O Q ops L (As++R)):aS P W N O Q ops L H:=fun a w ha hs=>k a w ha (by rw[ah, ← t.seps];exact hs)
theorem aS.o1{p:X1→Prop}{A:X1→List aa}(t:Take H C R)(e:C=iS p A)(k:∀ x1,p x1→aS P W N O Q ops L (A x1++R)):aS P W N O Q ops L H:=fun a w ha hs=>by
 rw[t.seps] at hs
 subst e
 obtain⟨h,⟨h1,h2,⟨x1,hp,a1⟩,r,d,e'⟩,hin⟩:=hs.own
 exact k x1 hp a w ha (by rw[ah];exact {hs with own:=⟨h,⟨h1,h2,a1,r,d,e'⟩,hin⟩ })
theorem aS.o2{p:X1→X2→Prop}{A:X1→X2→List aa}(t:Take H C R)(e:C=nI p A)(k:∀ x1 x2,p x1 x2→aS P W N O Q ops L (A x1 x2++R)):aS P W N O Q ops L H:=fun a w ha hs=>by
 rw[t.seps] at hs
 subst e
 obtain⟨h,⟨h1,h2,⟨x1,x2,hp,a1⟩,r,d,e'⟩,hin⟩:=hs.own
 exact k x1 x2 hp a w ha (by rw[ah];exact {hs with own:=⟨h,⟨h1,h2,a1,r,d,e'⟩,hin⟩ })
theorem aS.o3{p:X1→X2→X3→Prop}{A:X1→X2→X3→List aa}(t:Take H C R)(e:C=yX p A)(k:∀ x1 x2 x3,p x1 x2 x3→aS P W N O Q ops L (A x1 x2 x3++R)):aS P W N O Q ops L H:=fun a w ha hs=>by
 rw[t.seps] at hs
 subst e
 obtain⟨h,⟨h1,h2,⟨x1,x2,x3,hp,a1⟩,r,d,e'⟩,hin⟩:=hs.own
 exact k x1 x2 x3 hp a w ha (by rw[ah];exact {hs with own:=⟨h,⟨h1,h2,a1,r,d,e'⟩,hin⟩ })
theorem aS.o4{p:X1→X2→X3→X4→Prop}{A:X1→X2→X3→X4→List aa}(t:Take H C R)(e:C=F7 p A)(k:∀ x1 x2 x3 x4,p x1 x2 x3 x4→aS P W N O Q ops L (A x1 x2 x3 x4++R)):aS P W N O Q ops L H:=fun a w ha hs=>by
 rw[t.seps] at hs
 subst e
 obtain⟨h,⟨h1,h2,⟨x1,x2,x3,x4,hp,a1⟩,r,d,e'⟩,hin⟩:=hs.own
 exact k x1 x2 x3 x4 hp a w ha (by rw[ah];exact {hs with own:=⟨h,⟨h1,h2,a1,r,d,e'⟩,hin⟩ })
theorem aS.o5{p:X1→X2→X3→X4→X5→Prop}{A:X1→X2→X3→X4→X5→List aa}(t:Take H C R)(e:C=F8 p A)(k:∀ x1 x2 x3 x4 x5,p x1 x2 x3 x4 x5→aS P W N O Q ops L (A x1 x2 x3 x4 x5++R)):aS P W N O Q ops L H:=fun a w ha hs=>by
 rw[t.seps] at hs
 subst e
 obtain⟨h,⟨h1,h2,⟨x1,x2,x3,x4,x5,hp,a1⟩,r,d,e'⟩,hin⟩:=hs.own
 exact k x1 x2 x3 x4 x5 hp a w ha (by rw[ah];exact {hs with own:=⟨h,⟨h1,h2,a1,r,d,e'⟩,hin⟩ })
theorem aS.o6{p:X1→X2→X3→X4→X5→X6→Prop}{A:X1→X2→X3→X4→X5→X6→List aa}(t:Take H C R)(e:C=F9 p A)(k:∀ x1 x2 x3 x4 x5 x6,p x1 x2 x3 x4 x5 x6→aS P W N O Q ops L (A x1 x2 x3 x4 x5 x6++R)):aS P W N O Q ops L H:=fun a w ha hs=>by
 rw[t.seps] at hs
 subst e
 obtain⟨h,⟨h1,h2,⟨x1,x2,x3,x4,x5,x6,hp,a1⟩,r,d,e'⟩,hin⟩:=hs.own
 exact k x1 x2 x3 x4 x5 x6 hp a w ha (by rw[ah];exact {hs with own:=⟨h,⟨h1,h2,a1,r,d,e'⟩,hin⟩ })
theorem aS.o7{p:X1→X2→X3→X4→X5→X6→X7→Prop}{A:X1→X2→X3→X4→X5→X6→X7→List aa}(t:Take H C R)(e:C=Ga p A)(k:∀ x1 x2 x3 x4 x5 x6 x7,p x1 x2 x3 x4 x5 x6 x7→aS P W N O Q ops L (A x1 x2 x3 x4 x5 x6 x7++R)):aS P W N O Q ops L H:=fun a w ha hs=>by
 rw[t.seps] at hs
 subst e
 obtain⟨h,⟨h1,h2,⟨x1,x2,x3,x4,x5,x6,x7,hp,a1⟩,r,d,e'⟩,hin⟩:=hs.own
 exact k x1 x2 x3 x4 x5 x6 x7 hp a w ha (by rw[ah];exact {hs with own:=⟨h,⟨h1,h2,a1,r,d,e'⟩,hin⟩ })
theorem aS.o8{p:X1→X2→X3→X4→X5→X6→X7→X8→Prop}{A:X1→X2→X3→X4→X5→X6→X7→X8→List aa}(t:Take H C R)(e:C=Gb p A)(k:∀ x1 x2 x3 x4 x5 x6 x7 x8,p x1 x2 x3 x4 x5 x6 x7 x8→aS P W N O Q ops L (A x1 x2 x3 x4 x5 x6 x7 x8++R)):aS P W N O Q ops L H:=fun a w ha hs=>by
 rw[t.seps] at hs
 subst e
 obtain⟨h,⟨h1,h2,⟨x1,x2,x3,x4,x5,x6,x7,x8,hp,a1⟩,r,d,e'⟩,hin⟩:=hs.own
 exact k x1 x2 x3 x4 x5 x6 x7 x8 hp a w ha (by rw[ah];exact {hs with own:=⟨h,⟨h1,h2,a1,r,d,e'⟩,hin⟩ })
theorem aS.o9{p:X1→X2→X3→X4→X5→X6→X7→X8→X9→Prop}{A:X1→X2→X3→X4→X5→X6→X7→X8→X9→List aa}(t:Take H C R)(e:C=Gc p A)(k:∀ x1 x2 x3 x4 x5 x6 x7 x8 x9,p x1 x2 x3 x4 x5 x6 x7 x8 x9→aS P W N O Q ops L (A x1 x2 x3 x4 x5 x6 x7 x8 x9++R)):aS P W N O Q ops L H:=fun a w ha hs=>by
 rw[t.seps] at hs
 subst e
 obtain⟨h,⟨h1,h2,⟨x1,x2,x3,x4,x5,x6,x7,x8,x9,hp,a1⟩,r,d,e'⟩,hin⟩:=hs.own
 exact k x1 x2 x3 x4 x5 x6 x7 x8 x9 hp a w ha (by rw[ah];exact {hs with own:=⟨h,⟨h1,h2,a1,r,d,e'⟩,hin⟩ })
theorem aS.jA{p:X1→X2→X3→X4→X5→X6→X7→X8→X9→X10→Prop}{A:X1→X2→X3→X4→X5→X6→X7→X8→X9→X10→List aa}(t:Take H C R)(e:C=vA p A)(k:∀ x1 x2 x3 x4 x5 x6 x7 x8 x9 x10,p x1 x2 x3 x4 x5 x6 x7 x8 x9 x10→aS P W N O Q ops L (A x1 x2 x3 x4 x5 x6 x7 x8 x9 x10++R)):aS P W N O Q ops L H:=fun a w ha hs=>by
 rw[t.seps] at hs
 subst e
 obtain⟨h,⟨h1,h2,⟨x1,x2,x3,x4,x5,x6,x7,x8,x9,x10,hp,a1⟩,r,d,e'⟩,hin⟩:=hs.own
 exact k x1 x2 x3 x4 x5 x6 x7 x8 x9 x10 hp a w ha (by rw[ah];exact {hs with own:=⟨h,⟨h1,h2,a1,r,d,e'⟩,hin⟩ })
theorem aS.Ns{p:X1→X2→X3→X4→X5→X6→X7→X8→X9→X10→X11→Prop}{A:X1→X2→X3→X4→X5→X6→X7→X8→X9→X10→X11→List aa}(t:Take H C R)(e:C=yY p A)(k:∀ x1 x2 x3 x4 x5 x6 x7 x8 x9 x10 x11,p x1 x2 x3 x4 x5 x6 x7 x8 x9 x10 x11→aS P W N O Q ops L (A x1 x2 x3 x4 x5 x6 x7 x8 x9 x10 x11++R)):aS P W N O Q ops L H:=fun a w ha hs=>by
 rw[t.seps] at hs
 subst e
 obtain⟨h,⟨h1,h2,⟨x1,x2,x3,x4,x5,x6,x7,x8,x9,x10,x11,hp,a1⟩,r,d,e'⟩,hin⟩:=hs.own
 exact k x1 x2 x3 x4 x5 x6 x7 x8 x9 x10 x11 hp a w ha (by rw[ah];exact {hs with own:=⟨h,⟨h1,h2,a1,r,d,e'⟩,hin⟩ })
theorem aS.Nt{p:X1→X2→X3→X4→X5→X6→X7→X8→X9→X10→X11→X12→Prop}{A:X1→X2→X3→X4→X5→X6→X7→X8→X9→X10→X11→X12→List aa}(t:Take H C R)(e:C=yZ p A)(k:∀ x1 x2 x3 x4 x5 x6 x7 x8 x9 x10 x11 x12,p x1 x2 x3 x4 x5 x6 x7 x8 x9 x10 x11 x12→aS P W N O Q ops L (A x1 x2 x3 x4 x5 x6 x7 x8 x9 x10 x11 x12++R)):aS P W N O Q ops L H:=fun a w ha hs=>by
 rw[t.seps] at hs
 subst e
 obtain⟨h,⟨h1,h2,⟨x1,x2,x3,x4,x5,x6,x7,x8,x9,x10,x11,x12,hp,a1⟩,r,d,e'⟩,hin⟩:=hs.own
 exact k x1 x2 x3 x4 x5 x6 x7 x8 x9 x10 x11 x12 hp a w ha (by rw[ah];exact {hs with own:=⟨h,⟨h1,h2,a1,r,d,e'⟩,hin⟩ })
theorem bc.Ni{As:List aa}(t:ax H As R)(k:bc P W N K O Q ks ops L (As++R)):bc P W N K O Q ks ops L H:=fun a w ha hs=>k a w ha (t.sat hs)
theorem bc.dq{As:List aa}(t:Take H (seps As) R)(k:bc P W N K O Q ks ops L (As++R)):bc P W N K O Q ks ops L H:=fun a w ha hs=>k a w ha (by rw[ah, ← t.seps];exact hs)
theorem bc.o1{p:X1→Prop}{A:X1→List aa}(t:Take H C R)(e:C=iS p A)(k:∀ x1,p x1→bc P W N K O Q ks ops L (A x1++R)):bc P W N K O Q ks ops L H:=fun a w ha hs=>by
 rw[t.seps] at hs
 subst e
 obtain⟨h,⟨h1,h2,⟨x1,hp,a1⟩,r,d,e'⟩,hin⟩:=hs.own
 exact k x1 hp a w ha (by rw[ah];exact {hs with own:=⟨h,⟨h1,h2,a1,r,d,e'⟩,hin⟩ })
theorem bc.o2{p:X1→X2→Prop}{A:X1→X2→List aa}(t:Take H C R)(e:C=nI p A)(k:∀ x1 x2,p x1 x2→bc P W N K O Q ks ops L (A x1 x2++R)):bc P W N K O Q ks ops L H:=fun a w ha hs=>by
 rw[t.seps] at hs
 subst e
 obtain⟨h,⟨h1,h2,⟨x1,x2,hp,a1⟩,r,d,e'⟩,hin⟩:=hs.own
 exact k x1 x2 hp a w ha (by rw[ah];exact {hs with own:=⟨h,⟨h1,h2,a1,r,d,e'⟩,hin⟩ })
theorem bc.o3{p:X1→X2→X3→Prop}{A:X1→X2→X3→List aa}(t:Take H C R)(e:C=yX p A)(k:∀ x1 x2 x3,p x1 x2 x3→bc P W N K O Q ks ops L (A x1 x2 x3++R)):bc P W N K O Q ks ops L H:=fun a w ha hs=>by
 rw[t.seps] at hs
 subst e
 obtain⟨h,⟨h1,h2,⟨x1,x2,x3,hp,a1⟩,r,d,e'⟩,hin⟩:=hs.own
 exact k x1 x2 x3 hp a w ha (by rw[ah];exact {hs with own:=⟨h,⟨h1,h2,a1,r,d,e'⟩,hin⟩ })
theorem bc.o4{p:X1→X2→X3→X4→Prop}{A:X1→X2→X3→X4→List aa}(t:Take H C R)(e:C=F7 p A)(k:∀ x1 x2 x3 x4,p x1 x2 x3 x4→bc P W N K O Q ks ops L (A x1 x2 x3 x4++R)):bc P W N K O Q ks ops L H:=fun a w ha hs=>by
 rw[t.seps] at hs
 subst e
 obtain⟨h,⟨h1,h2,⟨x1,x2,x3,x4,hp,a1⟩,r,d,e'⟩,hin⟩:=hs.own
 exact k x1 x2 x3 x4 hp a w ha (by rw[ah];exact {hs with own:=⟨h,⟨h1,h2,a1,r,d,e'⟩,hin⟩ })
theorem bc.o5{p:X1→X2→X3→X4→X5→Prop}{A:X1→X2→X3→X4→X5→List aa}(t:Take H C R)(e:C=F8 p A)(k:∀ x1 x2 x3 x4 x5,p x1 x2 x3 x4 x5→bc P W N K O Q ks ops L (A x1 x2 x3 x4 x5++R)):bc P W N K O Q ks ops L H:=fun a w ha hs=>by
 rw[t.seps] at hs
 subst e
 obtain⟨h,⟨h1,h2,⟨x1,x2,x3,x4,x5,hp,a1⟩,r,d,e'⟩,hin⟩:=hs.own
 exact k x1 x2 x3 x4 x5 hp a w ha (by rw[ah];exact {hs with own:=⟨h,⟨h1,h2,a1,r,d,e'⟩,hin⟩ })
theorem bc.o6{p:X1→X2→X3→X4→X5→X6→Prop}{A:X1→X2→X3→X4→X5→X6→List aa}(t:Take H C R)(e:C=F9 p A)(k:∀ x1 x2 x3 x4 x5 x6,p x1 x2 x3 x4 x5 x6→bc P W N K O Q ks ops L (A x1 x2 x3 x4 x5 x6++R)):bc P W N K O Q ks ops L H:=fun a w ha hs=>by
 rw[t.seps] at hs
 subst e
 obtain⟨h,⟨h1,h2,⟨x1,x2,x3,x4,x5,x6,hp,a1⟩,r,d,e'⟩,hin⟩:=hs.own
 exact k x1 x2 x3 x4 x5 x6 hp a w ha (by rw[ah];exact {hs with own:=⟨h,⟨h1,h2,a1,r,d,e'⟩,hin⟩ })
theorem bc.o7{p:X1→X2→X3→X4→X5→X6→X7→Prop}{A:X1→X2→X3→X4→X5→X6→X7→List aa}(t:Take H C R)(e:C=Ga p A)(k:∀ x1 x2 x3 x4 x5 x6 x7,p x1 x2 x3 x4 x5 x6 x7→bc P W N K O Q ks ops L (A x1 x2 x3 x4 x5 x6 x7++R)):bc P W N K O Q ks ops L H:=fun a w ha hs=>by
 rw[t.seps] at hs
 subst e
 obtain⟨h,⟨h1,h2,⟨x1,x2,x3,x4,x5,x6,x7,hp,a1⟩,r,d,e'⟩,hin⟩:=hs.own
 exact k x1 x2 x3 x4 x5 x6 x7 hp a w ha (by rw[ah];exact {hs with own:=⟨h,⟨h1,h2,a1,r,d,e'⟩,hin⟩ })
theorem bc.o8{p:X1→X2→X3→X4→X5→X6→X7→X8→Prop}{A:X1→X2→X3→X4→X5→X6→X7→X8→List aa}(t:Take H C R)(e:C=Gb p A)(k:∀ x1 x2 x3 x4 x5 x6 x7 x8,p x1 x2 x3 x4 x5 x6 x7 x8→bc P W N K O Q ks ops L (A x1 x2 x3 x4 x5 x6 x7 x8++R)):bc P W N K O Q ks ops L H:=fun a w ha hs=>by
 rw[t.seps] at hs
 subst e
 obtain⟨h,⟨h1,h2,⟨x1,x2,x3,x4,x5,x6,x7,x8,hp,a1⟩,r,d,e'⟩,hin⟩:=hs.own
 exact k x1 x2 x3 x4 x5 x6 x7 x8 hp a w ha (by rw[ah];exact {hs with own:=⟨h,⟨h1,h2,a1,r,d,e'⟩,hin⟩ })
theorem bc.o9{p:X1→X2→X3→X4→X5→X6→X7→X8→X9→Prop}{A:X1→X2→X3→X4→X5→X6→X7→X8→X9→List aa}(t:Take H C R)(e:C=Gc p A)(k:∀ x1 x2 x3 x4 x5 x6 x7 x8 x9,p x1 x2 x3 x4 x5 x6 x7 x8 x9→bc P W N K O Q ks ops L (A x1 x2 x3 x4 x5 x6 x7 x8 x9++R)):bc P W N K O Q ks ops L H:=fun a w ha hs=>by
 rw[t.seps] at hs
 subst e
 obtain⟨h,⟨h1,h2,⟨x1,x2,x3,x4,x5,x6,x7,x8,x9,hp,a1⟩,r,d,e'⟩,hin⟩:=hs.own
 exact k x1 x2 x3 x4 x5 x6 x7 x8 x9 hp a w ha (by rw[ah];exact {hs with own:=⟨h,⟨h1,h2,a1,r,d,e'⟩,hin⟩ })
theorem bc.jA{p:X1→X2→X3→X4→X5→X6→X7→X8→X9→X10→Prop}{A:X1→X2→X3→X4→X5→X6→X7→X8→X9→X10→List aa}(t:Take H C R)(e:C=vA p A)(k:∀ x1 x2 x3 x4 x5 x6 x7 x8 x9 x10,p x1 x2 x3 x4 x5 x6 x7 x8 x9 x10→bc P W N K O Q ks ops L (A x1 x2 x3 x4 x5 x6 x7 x8 x9 x10++R)):bc P W N K O Q ks ops L H:=fun a w ha hs=>by
 rw[t.seps] at hs
 subst e
 obtain⟨h,⟨h1,h2,⟨x1,x2,x3,x4,x5,x6,x7,x8,x9,x10,hp,a1⟩,r,d,e'⟩,hin⟩:=hs.own
 exact k x1 x2 x3 x4 x5 x6 x7 x8 x9 x10 hp a w ha (by rw[ah];exact {hs with own:=⟨h,⟨h1,h2,a1,r,d,e'⟩,hin⟩ })
theorem bc.Ns{p:X1→X2→X3→X4→X5→X6→X7→X8→X9→X10→X11→Prop}{A:X1→X2→X3→X4→X5→X6→X7→X8→X9→X10→X11→List aa}(t:Take H C R)(e:C=yY p A)(k:∀ x1 x2 x3 x4 x5 x6 x7 x8 x9 x10 x11,p x1 x2 x3 x4 x5 x6 x7 x8 x9 x10 x11→bc P W N K O Q ks ops L (A x1 x2 x3 x4 x5 x6 x7 x8 x9 x10 x11++R)):bc P W N K O Q ks ops L H:=fun a w ha hs=>by
 rw[t.seps] at hs
 subst e
 obtain⟨h,⟨h1,h2,⟨x1,x2,x3,x4,x5,x6,x7,x8,x9,x10,x11,hp,a1⟩,r,d,e'⟩,hin⟩:=hs.own
 exact k x1 x2 x3 x4 x5 x6 x7 x8 x9 x10 x11 hp a w ha (by rw[ah];exact {hs with own:=⟨h,⟨h1,h2,a1,r,d,e'⟩,hin⟩ })
theorem bc.Nt{p:X1→X2→X3→X4→X5→X6→X7→X8→X9→X10→X11→X12→Prop}{A:X1→X2→X3→X4→X5→X6→X7→X8→X9→X10→X11→X12→List aa}(t:Take H C R)(e:C=yZ p A)(k:∀ x1 x2 x3 x4 x5 x6 x7 x8 x9 x10 x11 x12,p x1 x2 x3 x4 x5 x6 x7 x8 x9 x10 x11 x12→bc P W N K O Q ks ops L (A x1 x2 x3 x4 x5 x6 x7 x8 x9 x10 x11 x12++R)):bc P W N K O Q ks ops L H:=fun a w ha hs=>by
 rw[t.seps] at hs
 subst e
 obtain⟨h,⟨h1,h2,⟨x1,x2,x3,x4,x5,x6,x7,x8,x9,x10,x11,x12,hp,a1⟩,r,d,e'⟩,hin⟩:=hs.own
 exact k x1 x2 x3 x4 x5 x6 x7 x8 x9 x10 x11 x12 hp a w ha (by rw[ah];exact {hs with own:=⟨h,⟨h1,h2,a1,r,d,e'⟩,hin⟩ })
theorem bx.Ni{en:Exit}{As:List aa}(t:ax H As R)(k:bx W N Q en L (As++R)):bx W N Q en L H:=fun a w ha hs=>k a w ha (t.sat hs)
theorem bx.dq{en:Exit}{As:List aa}(t:Take H (seps As) R)(k:bx W N Q en L (As++R)):bx W N Q en L H:=fun a w ha hs=>k a w ha (by rw[ah, ← t.seps];exact hs)
theorem bx.o1{en:Exit}{p:X1→Prop}{A:X1→List aa}(t:Take H C R)(e:C=iS p A)(k:∀ x1,p x1→bx W N Q en L (A x1++R)):bx W N Q en L H:=fun a w ha hs=>by
 rw[t.seps] at hs
 subst e
 obtain⟨h,⟨h1,h2,⟨x1,hp,a1⟩,r,d,e'⟩,hin⟩:=hs.own
 exact k x1 hp a w ha (by rw[ah];exact {hs with own:=⟨h,⟨h1,h2,a1,r,d,e'⟩,hin⟩ })
theorem bx.o2{en:Exit}{p:X1→X2→Prop}{A:X1→X2→List aa}(t:Take H C R)(e:C=nI p A)(k:∀ x1 x2,p x1 x2→bx W N Q en L (A x1 x2++R)):bx W N Q en L H:=fun a w ha hs=>by
 rw[t.seps] at hs
 subst e
 obtain⟨h,⟨h1,h2,⟨x1,x2,hp,a1⟩,r,d,e'⟩,hin⟩:=hs.own
 exact k x1 x2 hp a w ha (by rw[ah];exact {hs with own:=⟨h,⟨h1,h2,a1,r,d,e'⟩,hin⟩ })
theorem bx.o3{en:Exit}{p:X1→X2→X3→Prop}{A:X1→X2→X3→List aa}(t:Take H C R)(e:C=yX p A)(k:∀ x1 x2 x3,p x1 x2 x3→bx W N Q en L (A x1 x2 x3++R)):bx W N Q en L H:=fun a w ha hs=>by
 rw[t.seps] at hs
 subst e
 obtain⟨h,⟨h1,h2,⟨x1,x2,x3,hp,a1⟩,r,d,e'⟩,hin⟩:=hs.own
 exact k x1 x2 x3 hp a w ha (by rw[ah];exact {hs with own:=⟨h,⟨h1,h2,a1,r,d,e'⟩,hin⟩ })
theorem bx.o4{en:Exit}{p:X1→X2→X3→X4→Prop}{A:X1→X2→X3→X4→List aa}(t:Take H C R)(e:C=F7 p A)(k:∀ x1 x2 x3 x4,p x1 x2 x3 x4→bx W N Q en L (A x1 x2 x3 x4++R)):bx W N Q en L H:=fun a w ha hs=>by
 rw[t.seps] at hs
 subst e
 obtain⟨h,⟨h1,h2,⟨x1,x2,x3,x4,hp,a1⟩,r,d,e'⟩,hin⟩:=hs.own
 exact k x1 x2 x3 x4 hp a w ha (by rw[ah];exact {hs with own:=⟨h,⟨h1,h2,a1,r,d,e'⟩,hin⟩ })
theorem bx.o5{en:Exit}{p:X1→X2→X3→X4→X5→Prop}{A:X1→X2→X3→X4→X5→List aa}(t:Take H C R)(e:C=F8 p A)(k:∀ x1 x2 x3 x4 x5,p x1 x2 x3 x4 x5→bx W N Q en L (A x1 x2 x3 x4 x5++R)):bx W N Q en L H:=fun a w ha hs=>by
 rw[t.seps] at hs
 subst e
 obtain⟨h,⟨h1,h2,⟨x1,x2,x3,x4,x5,hp,a1⟩,r,d,e'⟩,hin⟩:=hs.own
 exact k x1 x2 x3 x4 x5 hp a w ha (by rw[ah];exact {hs with own:=⟨h,⟨h1,h2,a1,r,d,e'⟩,hin⟩ })
theorem bx.o6{en:Exit}{p:X1→X2→X3→X4→X5→X6→Prop}{A:X1→X2→X3→X4→X5→X6→List aa}(t:Take H C R)(e:C=F9 p A)(k:∀ x1 x2 x3 x4 x5 x6,p x1 x2 x3 x4 x5 x6→bx W N Q en L (A x1 x2 x3 x4 x5 x6++R)):bx W N Q en L H:=fun a w ha hs=>by
 rw[t.seps] at hs
 subst e
 obtain⟨h,⟨h1,h2,⟨x1,x2,x3,x4,x5,x6,hp,a1⟩,r,d,e'⟩,hin⟩:=hs.own
 exact k x1 x2 x3 x4 x5 x6 hp a w ha (by rw[ah];exact {hs with own:=⟨h,⟨h1,h2,a1,r,d,e'⟩,hin⟩ })
theorem bx.o7{en:Exit}{p:X1→X2→X3→X4→X5→X6→X7→Prop}{A:X1→X2→X3→X4→X5→X6→X7→List aa}(t:Take H C R)(e:C=Ga p A)(k:∀ x1 x2 x3 x4 x5 x6 x7,p x1 x2 x3 x4 x5 x6 x7→bx W N Q en L (A x1 x2 x3 x4 x5 x6 x7++R)):bx W N Q en L H:=fun a w ha hs=>by
 rw[t.seps] at hs
 subst e
 obtain⟨h,⟨h1,h2,⟨x1,x2,x3,x4,x5,x6,x7,hp,a1⟩,r,d,e'⟩,hin⟩:=hs.own
 exact k x1 x2 x3 x4 x5 x6 x7 hp a w ha (by rw[ah];exact {hs with own:=⟨h,⟨h1,h2,a1,r,d,e'⟩,hin⟩ })
theorem bx.o8{en:Exit}{p:X1→X2→X3→X4→X5→X6→X7→X8→Prop}{A:X1→X2→X3→X4→X5→X6→X7→X8→List aa}(t:Take H C R)(e:C=Gb p A)(k:∀ x1 x2 x3 x4 x5 x6 x7 x8,p x1 x2 x3 x4 x5 x6 x7 x8→bx W N Q en L (A x1 x2 x3 x4 x5 x6 x7 x8++R)):bx W N Q en L H:=fun a w ha hs=>by
 rw[t.seps] at hs
 subst e
 obtain⟨h,⟨h1,h2,⟨x1,x2,x3,x4,x5,x6,x7,x8,hp,a1⟩,r,d,e'⟩,hin⟩:=hs.own
 exact k x1 x2 x3 x4 x5 x6 x7 x8 hp a w ha (by rw[ah];exact {hs with own:=⟨h,⟨h1,h2,a1,r,d,e'⟩,hin⟩ })
theorem bx.o9{en:Exit}{p:X1→X2→X3→X4→X5→X6→X7→X8→X9→Prop}{A:X1→X2→X3→X4→X5→X6→X7→X8→X9→List aa}(t:Take H C R)(e:C=Gc p A)(k:∀ x1 x2 x3 x4 x5 x6 x7 x8 x9,p x1 x2 x3 x4 x5 x6 x7 x8 x9→bx W N Q en L (A x1 x2 x3 x4 x5 x6 x7 x8 x9++R)):bx W N Q en L H:=fun a w ha hs=>by
 rw[t.seps] at hs
 subst e
 obtain⟨h,⟨h1,h2,⟨x1,x2,x3,x4,x5,x6,x7,x8,x9,hp,a1⟩,r,d,e'⟩,hin⟩:=hs.own
 exact k x1 x2 x3 x4 x5 x6 x7 x8 x9 hp a w ha (by rw[ah];exact {hs with own:=⟨h,⟨h1,h2,a1,r,d,e'⟩,hin⟩ })
theorem bx.jA{en:Exit}{p:X1→X2→X3→X4→X5→X6→X7→X8→X9→X10→Prop}{A:X1→X2→X3→X4→X5→X6→X7→X8→X9→X10→List aa}(t:Take H C R)(e:C=vA p A)(k:∀ x1 x2 x3 x4 x5 x6 x7 x8 x9 x10,p x1 x2 x3 x4 x5 x6 x7 x8 x9 x10→bx W N Q en L (A x1 x2 x3 x4 x5 x6 x7 x8 x9 x10++R)):bx W N Q en L H:=fun a w ha hs=>by
 rw[t.seps] at hs
 subst e
 obtain⟨h,⟨h1,h2,⟨x1,x2,x3,x4,x5,x6,x7,x8,x9,x10,hp,a1⟩,r,d,e'⟩,hin⟩:=hs.own
 exact k x1 x2 x3 x4 x5 x6 x7 x8 x9 x10 hp a w ha (by rw[ah];exact {hs with own:=⟨h,⟨h1,h2,a1,r,d,e'⟩,hin⟩ })
theorem bx.Ns{en:Exit}{p:X1→X2→X3→X4→X5→X6→X7→X8→X9→X10→X11→Prop}{A:X1→X2→X3→X4→X5→X6→X7→X8→X9→X10→X11→List aa}(t:Take H C R)(e:C=yY p A)(k:∀ x1 x2 x3 x4 x5 x6 x7 x8 x9 x10 x11,p x1 x2 x3 x4 x5 x6 x7 x8 x9 x10 x11→bx W N Q en L (A x1 x2 x3 x4 x5 x6 x7 x8 x9 x10 x11++R)):bx W N Q en L H:=fun a w ha hs=>by
 rw[t.seps] at hs
 subst e
 obtain⟨h,⟨h1,h2,⟨x1,x2,x3,x4,x5,x6,x7,x8,x9,x10,x11,hp,a1⟩,r,d,e'⟩,hin⟩:=hs.own
 exact k x1 x2 x3 x4 x5 x6 x7 x8 x9 x10 x11 hp a w ha (by rw[ah];exact {hs with own:=⟨h,⟨h1,h2,a1,r,d,e'⟩,hin⟩ })
theorem bx.Nt{en:Exit}{p:X1→X2→X3→X4→X5→X6→X7→X8→X9→X10→X11→X12→Prop}{A:X1→X2→X3→X4→X5→X6→X7→X8→X9→X10→X11→X12→List aa}(t:Take H C R)(e:C=yZ p A)(k:∀ x1 x2 x3 x4 x5 x6 x7 x8 x9 x10 x11 x12,p x1 x2 x3 x4 x5 x6 x7 x8 x9 x10 x11 x12→bx W N Q en L (A x1 x2 x3 x4 x5 x6 x7 x8 x9 x10 x11 x12++R)):bx W N Q en L H:=fun a w ha hs=>by
 rw[t.seps] at hs
 subst e
 obtain⟨h,⟨h1,h2,⟨x1,x2,x3,x4,x5,x6,x7,x8,x9,x10,x11,x12,hp,a1⟩,r,d,e'⟩,hin⟩:=hs.own
 exact k x1 x2 x3 x4 x5 x6 x7 x8 x9 x10 x11 x12 hp a w ha (by rw[ah];exact {hs with own:=⟨h,⟨h1,h2,a1,r,d,e'⟩,hin⟩ })
end
end Go.SLYthlllpngkljgfaaGreat
namespace Go.SLYthlllpngkljgfaaGreat
def aB{α:Type}(l:List α)(i:Int):Option α:=if i<0 then none else l[i.toNat]?
def pick(k:Int)(n:Nat):Nat:=((k.tmod n+n).tmod n).toNat
structure Ins where
 op:Int
 a:Int
 b:Int
 c:Int
 n:Int
deriving DecidableEq
def Ins.z:Ins:=⟨0,0,0,0,0⟩
structure fM where
 funcs:List (List Ins)
 words:Int
 bu:Int
 conds:Int
 bI:List Int
 aZ:List Int
 blocks:Int
 prio:Int
/-! instructions -/
def cls(op:Int):Int:=if 1≤op∧op≤19 then 1 else if 20≤op∧op≤32 then 2 else if 33≤op∧op≤38 then 3 else 0
def vB(n:Int)(b:Bool):Bool:=decide (n=0) || (b && decide (0<n) && decide (n<8))
structure Form where
 aI:Int
 mutex:Bool
 n:Int
 any:Bool
def bR(p:fM)(op:Int):Form :=
 if op=1 then ⟨1,false,0,true⟩
 else if op=2∨op=14∨op=15∨op=18∨op=19∨op=21∨op=33∨op=34 then ⟨2,false, -1,false⟩
 else if op=16 then ⟨0,false,257,false⟩
 else if op=17 then ⟨1,false,257,false⟩
 else if op=20 then ⟨2,false,p.funcs.length,false⟩
 else if op=22∨op=23∨op=32∨op=37∨op=38 then ⟨1,false, -1,false⟩
 else if op=24 then ⟨0,false, -1,false⟩
 else if op=25∨op=26 then ⟨0,false,p.bu,false⟩
 else if op=27 then ⟨0,true,p.conds,false⟩
 else if op=28∨op=29 then ⟨0,false,p.conds,false⟩
 else if op=30∨op=31 then ⟨0,false,p.bI.length,false⟩
 else if op=35∨op=36 then ⟨1,false,p.aZ.length,false⟩
 else ⟨3,false, -1,false⟩
def Form.below(f:Form)(n:Int):Bool :=
 if f.any=true then true else if f.n = -1 then decide (n=0) else decide (0<f.n) && decide (n<f.n)
def iK(p:fM)(i:Ins):Bool :=
 if cls i.op=0 then false else
  let f:=bR p i.op
  vB i.a (decide (0<f.aI)) && vB i.b (decide (1<f.aI)) && (if f.mutex=true then decide (0≤i.c) && decide (i.c<p.bu) else vB i.c (decide (2<f.aI))) && f.below i.n
def within(n most:Int):Bool:=decide (0≤n) && decide (n≤most)
def gX(p:fM):Bool :=
 decide (0<p.funcs.length) && decide (p.funcs.length≤8) && within p.words 64 && within p.bu 4 && within p.conds 4 && within p.blocks 64 && within p.prio 7 && decide (p.bI.length≤4) && decide (p.aZ.length≤4) &&
  p.funcs.all (fun f=>decide (f.length≤256)) && p.bI.all (fun n=>within n 1048576) && p.aZ.all (fun n=>decide (0<n) && within n 8)
def de(p:fM):Int:=if gX p=true then (if p.funcs.all (fun f=>f.all (iK p))=true then 0 else 8) else 9
/-! slots -/
def ei(taken:Int)(n:Nat):Int:=taken * 65536+n+1
def slotFree?:List (Bool×Int)→Nat→Option Nat
 | [],_=>none
 | o::l,k=>if o.1=true then slotFree? l (k+1) else some k
def bz(l:List (Bool×Int))(h:Int):Option Nat :=
 if h % 65536=0 then none else
  match l[(h % 65536-1).toNat]? with
  | none=>none
  | some o=>if o.1=true∧ei o.2 (h % 65536-1).toNat=h then some (h % 65536-1).toNat else none
def slotFreed(l:List (Bool×Int))(h:Int):List (Bool×Int) :=
 match bz l h with
 | none=>l
 | some n=>l.set n (false,(l.getD n (false,0)).2)
/-! gates -/
structure eS where
 who:Int
 mutex:Int
deriving DecidableEq
structure eI where
 wait:List eS
 held:Bool
 owner:Int
structure kz where
 wait:List eS
 count:Int
structure Gates where
 dh:List eI
 gZ:List (List eS)
 er:List kz
def lI(l:List eS)(who:Int):Bool:=l.any fun w=>decide (w.who=who)
def aP(l:List eS)(choice:Int):eS×Bool×List eS :=
 if l.length=0 then (⟨0,0⟩,false,l) else (l.getD (pick choice l.length) ⟨0,0⟩,true,l.eraseIdx (pick choice l.length))
def Gates.waits(g:Gates)(who:Int):Bool:=g.dh.any (fun m=>lI m.wait who) || g.gZ.any (fun r=>lI r who) || g.er.any (fun s=>lI s.wait who)
def eI.is(m:eI)(who:Int):Bool:=m.held && decide (m.owner=who)
def eI.lock(m:eI)(who:Int):Bool×eI:=if m.held=true then (false,{m with wait:=m.wait++[⟨who,0⟩] }) else (true,{m with held:=true,owner:=who })
def eI.unlock(m:eI)(choice:Int):Int×Bool×eI:=((aP m.wait choice).1.who,(aP m.wait choice).2.1,⟨(aP m.wait choice).2.2,(aP m.wait choice).2.1,(aP m.wait choice).1.who⟩)
def Gates.lock(g:Gates)(who m:Int):Bool×Int×Gates :=
 match aB g.dh m with
 | none=>(false,1,g)
 | some x=>if g.waits who=true∨x.is who=true then (false,4,g) else ((x.lock who).1,0,{g with dh:=g.dh.set m.toNat (x.lock who).2 })
def Gates.unlock(g:Gates)(who m choice:Int):Int×Bool×Int×Gates :=
 match aB g.dh m with
 | none=>(0,false,1,g)
 | some x=>if x.is who=true then ((x.unlock choice).1,(x.unlock choice).2.1,0,{g with dh:=g.dh.set m.toNat (x.unlock choice).2.2 }) else (0,false,5,g)
def Gates.wait(g:Gates)(who c m choice:Int):Int×Bool×Int×Gates :=
 match aB g.dh m,aB g.gZ c with
 | some x,some r =>
  if g.waits who=true then (0,false,4,g) else
  if x.is who=true then ((x.unlock choice).1,(x.unlock choice).2.1,0,{g with dh:=g.dh.set m.toNat (x.unlock choice).2.2,gZ:=g.gZ.set c.toNat (r++[⟨who,m⟩]) }) else (0,false,5,g)
 | _,_=>(0,false,1,g)
def sigLoop:Nat→Int→List eS→List eI→List Int→List eS×List eI×List Int
 | 0,_,r,ms,out=>(r,ms,out)
 | n+1,choice,r,ms,out =>
  let w:=(aP r choice).1
  let l:=(ms.getD w.mutex.toNat ⟨[],false,0⟩).lock w.who
  sigLoop n choice (aP r choice).2.2 (ms.set w.mutex.toNat l.2) (if l.1=true then out++[w.who] else out)
def Gates.signal(g:Gates)(c choice:Int)(all:Bool):List Int×Int×Gates :=
 match aB g.gZ c with
 | none=>([],1,g)
 | some r =>
  let z:=sigLoop (if all=true then r.length else min r.length 1) (if all=true then 0 else choice) r g.dh []
  (z.2.2,0,{g with dh:=z.2.1,gZ:=g.gZ.set c.toNat z.1 })
def Gates.down(g:Gates)(who s:Int):Bool×Int×Gates :=
 match aB g.er s with
 | none=>(false,1,g)
 | some x =>
  if g.waits who=true then (false,4,g) else
  if 0<x.count then (true,0,{g with er:=g.er.set s.toNat {x with count:=x.count-1 } }) else (false,0,{g with er:=g.er.set s.toNat {x with wait:=x.wait++[⟨who,0⟩] } })
def Gates.up(g:Gates)(s choice:Int):Int×Bool×Int×Gates :=
 match aB g.er s with
 | none=>(0,false,1,g)
 | some x =>
  if (aP x.wait choice).2.1=true then ((aP x.wait choice).1.who,true,0,{g with er:=g.er.set s.toNat {x with wait:=(aP x.wait choice).2.2 } }) else
  if 1048576≤x.count then (0,false,2,g) else (0,false,0,{g with er:=g.er.set s.toNat {x with count:=x.count+1 } })
def aQ(n most:Int):Int:=min (max n 0) most
def Gates.new(bu conds:Int)(bI:List Int):Gates :=
 ⟨List.replicate (aQ bu 4).toNat ⟨[],false,0⟩,List.replicate (aQ conds 4).toNat [],(bI.take 4).map fun n=>⟨[],aQ n 1048576⟩⟩
/-! pipes -/
structure Ptr where
 who:Int
 x:Int
deriving DecidableEq
structure Tub where
 room:Int
 words:List Int
 hM:List Ptr
 gM:List Int
def Tub.new(room:Int):Tub:=⟨min (max room 1) 8,[],[],[]⟩
def Tub.waits(t:Tub)(who:Int):Bool:=t.gM.contains who || t.hM.any fun p=>decide (p.who=who)
def Tub.put(t:Tub)(who x:Int):Bool×Int×Bool×Tub :=
 if t.waits who=true then (false,0,false,t) else
 match t.gM with
 | w::r=>(true,w,true,{t with gM:=r })
 | []=>if (t.words.length:Int)<t.room then (true,0,false,{t with words:=t.words++[x] }) else (false,0,false,{t with hM:=t.hM++[⟨who,x⟩] })
def Tub.get(t:Tub)(who:Int):Int×Bool×Int×Bool×Tub :=
 if t.waits who=true then (0,false,0,false,t) else
 match t.words with
 | []=>(0,false,0,false,{t with gM:=t.gM++[who] })
 | x::r =>
  match t.hM with
  | []=>(x,true,0,false,{t with words:=r })
  | p::q=>(x,true,p.who,true,{t with words:=r++[p.x],hM:=q })
/-! the disk -/
structure vC where
 who:Int
 block:Int
 write:Bool
 x:Int
deriving DecidableEq
structure kF where
 blocks:List Int
 wait:List vC
def kF.new(blocks:Int):kF:=⟨List.replicate (aQ blocks 64).toNat 0,[]⟩
def kF.ask(d:kF)(r:vC):Int×kF :=
 if r.block<0∨(d.blocks.length:Int)≤r.block then (1,d) else
 if d.wait.any (fun x=>decide (x.who=r.who))=true then (4,d) else (0,{d with wait:=d.wait++[r] })
def kF.done(d:kF)(k:Int):vC×Int×Bool×kF :=
 if d.wait.length=0 then (⟨0,0,false,0⟩,0,false,d) else
  let r:=d.wait.getD (pick k d.wait.length) ⟨0,0,false,0⟩
  let d':kF:={d with wait:=d.wait.eraseIdx (pick k d.wait.length) }
  if r.write=true then (r,0,true,{d' with blocks:=d'.blocks.set r.block.toNat r.x }) else (r,d.blocks.getD r.block.toNat 0,true,d')
/-! the clock: who waits until when, in no order that counts -/
structure lJ where
 now:Int
 hU:List (Int×Int)
def lU(l:List (Int×Int))(k:Int):Option Int:=(l.find? fun p=>decide (p.1=k)).map (·.2)
def mapSet:List (Int×Int)→Int→Int→List (Int×Int)
 | [],k,v=>[(k,v)]
 | p::l,k,v=>if p.1=k then (k,v)::l else p::mapSet l k v
def gu(l:List (Int×Int))(k:Int):List (Int×Int):=l.filter fun p => !decide (p.1=k)
def cX(x:Int):List Int→List Int
 | []=>[x]
 | y::l=>if x≤y then x::y::l else y::cX x l
def gy(l:List Int):List Int:=l.foldr cX []
def lJ.new:lJ:=⟨0,[]⟩
def lJ.sleep(w:lJ)(who n:Int):Int×lJ :=
 if n<1∨1099511627776<n then (1,w) else
 if 0<(lU w.hU who).getD 0 then (4,w) else (0,{w with hU:=mapSet w.hU who (min (w.now+n) 1099511627776) })
def lJ.due(w:lJ):List Int:=gy ((w.hU.filter fun p=>decide (p.2≤min (w.now+1) 1099511627776)).map (·.1))
def lJ.tick(w:lJ):List Int×lJ:=(w.due,⟨min (w.now+1) 1099511627776,w.due.foldl gu w.hU⟩)
/-! words -/
def A9(n:Int):Int:=n % 18446744073709551616
def nv:Int:=9221120237041090560
def Je(a:Int):Bool:=Ieee.double.order a.toNat a.toNat == none
def Og:Option Nat→Int
 | some r=>if Je (r:Int)=true then nv else r
 | none=>nv
/-! a space -/
structure Rec where
 ab:Int
 op:Int
 x:Int
 y:Int
 result:Int
 fin:Bool
deriving DecidableEq
structure bE where
 fn:Int
 pc:Int
 aI:List Int
 handle:Int
 cQ:Int
 value:Int
 bK:Bool
 ay:Int
 op:Int
 bY:Int
structure Spc where
 eT:fM
 table:List (Bool×Int)
 aF:List (Option bE)
 mem:List Int
 al:Gates
 cc:List Tub
 bZ:kF
 aT:lJ
 av:List Rec
def readyFrom:List (Option bE)→Nat→List Int
 | [],_=>[]
 | none::l,n=>readyFrom l (n+1)
 | some t::l,n=>if t.cQ=0 then (n:Int)::readyFrom l (n+1) else readyFrom l (n+1)
def Spc.ready(s:Spc):List Int:=readyFrom s.aF 0
def rG(f arg:Int)(handle:Int):bE:=⟨f,0,[arg,0,0,0,0,0,0,0],handle,0,0,false, -1,0, -1⟩
def Spc.begin(s:Spc)(f arg:Int):Int×Int×Spc :=
 match slotFree? s.table 0 with
 | none=>(0,2,s)
 | some n=>((n:Int),0,{s with table:=s.table.set n (true,(s.table.getD n (false,0)).2+1),aF:=s.aF.set n (some (rG f arg (ei ((s.table.getD n (false,0)).2+1) n))) })
def Spc.new(p:fM):Spc :=
 (Spc.begin ⟨p,List.replicate 16 (false,0),List.replicate 16 none,List.replicate p.words.toNat 0,Gates.new p.bu p.conds p.bI,p.aZ.map Tub.new,kF.new p.blocks,lJ.new,[]⟩ 0 0).2.2
/-! events, vessels, rows, a library -/
structure Ev where
 kind:Int
 ab:Int
 mode:Int
deriving DecidableEq
structure aM where
 mode:Int
 ab:Int
 evs:List Ev
def aM.z:aM:=⟨0,0,[]⟩
def dC(e:Ev):Bool:=decide (0≤e.ab) && decide (e.mode≤0) && (decide (e.kind=3) || decide (e.kind=4))
def cR(l:List Ev):List Ev:=l.filter fun e=>dC e || decide (0<e.mode)
def aM.holds(v:aM):Bool:=decide (v.mode=2) || decide (v.mode=4) || decide (v.mode=7)
def aM.runs(v:aM):Bool:=(decide (v.mode=5) || decide (v.mode=6) || decide (v.mode=7)) && decide (0≤v.ab)
def aM.strip(v:aM):List Ev :=
 (if v.holds=true then [⟨4,if v.runs=true then v.ab else -1,v.mode⟩] else if v.runs=true then [⟨4,v.ab,0⟩] else [])++cR v.evs
def aM.new(l:List Ev):aM:=⟨1, -1,l⟩
def aM.told(v:aM)(more:List Ev):aM:=aM.new (v.strip++more)
structure Lib where
 aO:Spc
 rows:List (List Int)
 vs:List aM
 waiting:List Ev
 locked:Bool
def aH(l:List Int):List Ev:=l.map fun n=>⟨3,n,0⟩
def Lib.new(s:Spc)(procs:Int):Lib :=
 ⟨s,List.replicate (aQ procs 64).toNat [],List.replicate (aQ procs 64).toNat aM.z,aH s.ready,false⟩
def Lib.has(l:Lib)(p:Int):Bool:=match aB l.vs p with | none=>false | some v => !decide (v.mode=0)
def procsFrom:List aM→Nat→List Int
 | [],_=>[]
 | v::l,n=>if v.mode=0 then procsFrom l (n+1) else (n:Int)::procsFrom l (n+1)
def Lib.procs(l:Lib):List Int:=procsFrom l.vs 0
def Lib.dj(l:Lib)(p:Int):Bool×Lib :=
 match aB l.vs p with
 | none=>(false,l)
 | some v=>if v.mode=0 then (true,{l with vs:=l.vs.set p.toNat (aM.new (⟨1, -1,0⟩::l.waiting)),waiting:=[] }) else (false,l)
def Lib.tell(l:Lib)(list:List Ev):Lib :=
 if list=[] then l else
 match l.procs with
 | []=>{l with waiting:=l.waiting++list }
 | p::_=>{l with vs:=l.vs.set p.toNat ((l.vs.getD p.toNat aM.z).told list) }
def Lib.cF(l:Lib)(p:Int):Bool×Lib :=
 if l.has p=true then (true,({l with vs:=l.vs.set p.toNat aM.z }:Lib).tell (l.vs.getD p.toNat aM.z).strip) else (false,l)
def Lib.preempt(l:Lib)(p:Int):Bool×Lib :=
 if l.has p=true then (true,{l with vs:=l.vs.set p.toNat ((l.vs.getD p.toNat aM.z).told []) }) else (false,l)
/-! processors -/
structure Krn where
 owner:List Int
 libs:List Lib
def Krn.gY(k:Krn)(n:Int):Option Lib:=aB k.libs n
def freeFrom:List Int→Nat→List Int
 | [],_=>[]
 | o::l,n=>if o = -1 then (n:Int)::freeFrom l (n+1) else freeFrom l (n+1)
def Krn.free(k:Krn):List Int:=freeFrom k.owner 0
def Krn.demand(k:Krn):List Int:=k.libs.map fun l=>(l.aO.ready.length:Int)
def Krn.ownerOf(k:Krn)(p:Int):Int×Bool :=
 match aB k.owner p with
 | none=>(0,false)
 | some o=>if o = -1 then (0,false) else (o,true)
def Krn.eP(k:Krn)(p n:Int):Int×Krn :=
 match aB k.owner p,aB k.libs n with
 | some o,some l=>if o = -1 then (0,⟨k.owner.set p.toNat n,k.libs.set n.toNat (l.dj p).2⟩) else (4,k)
 | _,_=>(1,k)
def Ba:Lib:=⟨⟨⟨[],0,0,0,[],[],0,0⟩,[],[],[],⟨[],[],[]⟩,[],⟨[],[]⟩,⟨0,[]⟩,[]⟩,[],[],[],false⟩
def Krn.take(k:Krn)(p:Int):Int×Krn :=
 match aB k.owner p with
 | none=>(1,k)
 | some o=>if o = -1 then (11,k) else (0,⟨k.owner.set p.toNat (-1),k.libs.set o.toNat ((k.libs.getD o.toNat Ba).cF p).2⟩)
def checkAll:List fM→Int
 | []=>0
 | p::l=>if de p=0 then checkAll l else de p
def Krn.new(procs:Int)(l:List fM):Krn:=⟨List.replicate procs.toNat (-1),l.map fun p=>Lib.new (Spc.new p) procs⟩
def ec(procs:Int)(l:List fM):Int:=if procs<1∨64<procs∨(l.length:Int)<1∨8<(l.length:Int) then 1 else checkAll l
/-! who gets how many -/
structure Deal where
 left:Int
 demand:List Int
 prio:List Int
 out:List Int
def Deal.lC(d:Deal)(n:Nat)(prio:Int):Bool:=decide (d.prio.getD n 0=prio) && decide (d.out.getD n 0<d.demand.getD n 0)
def Deal.step(d:Deal)(prio:Int)(n:Nat):Deal×Bool :=
 if 0<d.left∧d.lC n prio=true then ({d with out:=d.out.set n (d.out.getD n 0+1),left:=d.left-1 },true) else (d,false)
def Deal.go(prio:Int)(first:Nat):Nat→Nat→Deal→Bool→Deal×Bool
 | 0,_,d,any=>(d,any)
 | m+1,k,d,any=>Deal.go prio first m (k+1) (d.step prio ((first+k) % d.demand.length)).1 (any || (d.step prio ((first+k) % d.demand.length)).2)
def Deal.round(d:Deal)(prio:Int)(first:Nat):Deal×Bool:=Deal.go prio first d.demand.length 0 d false
def Deal.rounds(prio:Int)(first:Nat):Nat→Deal→Deal
 | 0,d=>d
 | f+1,d=>if (d.round prio first).2=true then Deal.rounds prio first f (d.round prio first).1 else (d.round prio first).1
def Deal.CK(first:Nat):Nat→Deal→Deal
 | 0,d=>Deal.rounds 0 first (d.left.toNat+1) d
 | p+1,d=>Deal.CK first p (Deal.rounds ((p:Int)+1) first (d.left.toNat+1) d)
def lD(procs:Int)(demand prio:List Int)(turn:Int):Option (List Int) :=
 if demand.length≠prio.length∨8<demand.length∨within procs 64=false∨prio.all (fun p=>within p 7)=false then none else
 if demand.length=0 then some [] else
 some (Deal.CK (pick turn demand.length) 7 ⟨procs,demand,prio,List.replicate demand.length 0⟩).out
def Krn.targets(k:Krn)(prio:List Int)(turn:Int):List Int:=(lD (k.owner.length:Int) k.demand prio turn).getD []
def eB:List Int→Krn→Krn
 | [],k=>k
 | p::l,k=>eB l (k.take p).2
def giveTo:Nat→Int→Krn→Krn
 | 0,_,k=>k
 | m+1,n,k=>giveTo m n (k.eP (k.free.headD 0) n).2
def cz(k:Krn)(n:Nat):List Int:=(k.libs.getD n Ba).procs
def takeFrom:List Int→Nat→Krn×Nat→Krn×Nat
 | [],_,z=>z
 | w::l,n,(k,m)=>takeFrom l (n+1) (eB ((cz k n).drop w.toNat) k,m+((cz k n).drop w.toNat).length)
def dG:List Int→Nat→Krn×Nat→Krn×Nat
 | [],_,z=>z
 | w::l,n,(k,m)=>dG l (n+1) (giveTo (w.toNat-(cz k n).length) n k,m+(w.toNat-(cz k n).length))
def Krn.share(k:Krn)(prio:List Int)(turn:Int):Krn×Nat :=
 dG (k.targets prio turn) 0 (takeFrom (k.targets prio turn) 0 (k,0))
def Krn.fair(k:Krn)(prio:List Int)(turn:Int):Bool :=
 decide ((k.targets prio turn).length=k.libs.length) && decide ((k.libs.map fun l=>(l.procs.length:Int))=k.targets prio turn)
end Go.SLYthlllpngkljgfaaGreat
namespace Go.SLYthlllpngkljgfaaGreat
open Go Go.RowKit
abbrev ptr(b:Nat):Value:=.pointer (some ⟨b,0,none⟩)
def dO(o:Option Nat):Value:=.pointer (o.map fun b=>⟨b,0,none⟩)
def Ou(v:Value):List Value:=[v]
def au(n:Int):List Value:=[.int .i64 n]
def cO(n:Int):List Value:=[.int .u64 n]
def dH(i:Ins):List Value:=[.int .i64 i.op,.int .i64 i.a,.int .i64 i.b,.int .i64 i.c,.int .u64 i.n]
def Jf(o:Bool×Int):List Value:=[.bool o.1,.int .u64 o.2]
def dn(w:eS):List Value:=[.int .i64 w.who,.int .i64 w.mutex]
def lK(p:Ptr):List Value:=[.int .i64 p.who,.int .u64 p.x]
def gJ(r:vC):List Value:=[.int .i64 r.who,.int .i64 r.block,.bool r.write,.int .u64 r.x]
def cP(r:Rec):List Value:=[.int .u64 r.ab,.int .i64 r.op,.int .u64 r.x,.int .u64 r.y,.int .i64 r.result,.bool r.fin]
def cr(e:Ev):List Value:=[.int .i64 e.kind,.int .i64 e.ab,.int .i64 e.mode]
/-! things in a row that bear things -/
def aD{α:Type}(f:α→aa)(xs:List α):aa:=seps (xs.map f)
theorem fN{α:Type}(f:α→aa)(x:α)(xs:List α):aD f (x::xs)=sep (f x) (aD f xs):=rfl
theorem Gd{α:Type}(f:α→aa)(xs ys:List α):aD f (xs++ys)=sep (aD f xs) (aD f ys):=by unfold aD;rw[List.map_append,ah]
theorem j7{α:Type}(f:α→aa)(xs:List α)(y:α):aD f (xs++[y])=sep (f y) (aD f xs):=by
 rw[Gd,iq]
 congr 1
 show sep (f y) emp=f y
 exact aJ _
theorem jl{α:Type}(f:α→aa){xs:List α}{i:Nat}{x:α}(h:xs[i]?=some x):aD f xs=sep (f x) (aD f (xs.eraseIdx i)):=by
 induction xs generalizing i with
 | nil=>simp at h
 | cons y ys ih =>
  cases i with
  | zero=>simp at h;subst h;rfl
  | succ i =>
   have:=ih (i:=i) (by simpa using h)
   rw[fN,this,List.eraseIdx_cons_succ,fN,aY]
theorem gL{α:Type}(f:α→aa){xs:List α}{i:Nat}(y:α)(h:i<xs.length):aD f (xs.set i y)=sep (f y) (aD f (xs.eraseIdx i)):=by
 induction xs generalizing i with
 | nil=>simp at h
 | cons z zs ih =>
  cases i with
  | zero=>rfl
  | succ i =>
   have:=ih (i:=i) (by simpa using h)
   simp only[List.set_cons_succ,List.eraseIdx_cons_succ,fN,this]
   exact aY _ _ _
/-! programs -/
structure aN where
 fv:Value
 fs:List (Value×List Ins)
 words:Int
 bu:Int
 conds:Int
 sv:Value
 bI:List Int
 pv:Value
 aZ:List Int
 blocks:Int
 prio:Int
def aN.p(v:aN):fM:=⟨v.fs.map (·.2),v.words,v.bu,v.conds,v.bI,v.aZ,v.blocks,v.prio⟩
def ed(v:aN):List Value:=[v.fv,.int .i64 v.words,.int .i64 v.bu,.int .i64 v.conds,v.sv,v.pv,.int .i64 v.blocks,.int .i64 v.prio]
def ej{α:Type}(x:Value×α):List Value:=[x.1]
def bH{α:Type}(x:Nat×α):List Value:=[ptr x.1]
structure eM(W:World)(H:List aa)(v:aN):Prop where
 fs:Rd W H ej 1 v.fv v.fs
 ins:∀ x∈v.fs,Rd W H dH 5 x.1 x.2
 bI:Rd W H au 1 v.sv v.bI
 aZ:Rd W H au 1 v.pv v.aZ
/-! a space's parts -/
def lL(b:Nat)(l:List (Bool×Int)):aa:=iS (fun _=>True) fun v=>[arr b 0 [v],sl Jf 2 v l]
def iL(b o:Nat)(l:List eS):aa:=iS (fun _=>True) fun v=>[arr b o [v],sl dn 2 v l]
def lM(x:Value×eI):List Value:=[x.1,.bool x.2.held,.int .i64 x.2.owner]
def lV(x:Value×kz):List Value:=[x.1,.int .i64 x.2.count]
def dY(v:Value)(l:List eI):aa:=iS (fun xs:List (Value×eI)=>xs.map (·.2)=l) fun xs=>[sl lM 3 v xs,aD (fun x=>sl dn 2 x.1 x.2.wait) xs]
def iu(v:Value)(l:List (List eS)):aa:=iS (fun xs:List (Value×List eS)=>xs.map (·.2)=l) fun xs=>[sl ej 1 v xs,aD (fun x=>sl dn 2 x.1 x.2) xs]
def fw(v:Value)(l:List kz):aa:=iS (fun xs:List (Value×kz)=>xs.map (·.2)=l) fun xs=>[sl lV 2 v xs,aD (fun x=>sl dn 2 x.1 x.2.wait) xs]
def cv(b:Nat)(g:Gates):aa:=yX (fun _ _ _=>True) fun vm vc vs=>[arr b 0 [vm,vc,vs],dY vm g.dh,iu vc g.gZ,fw vs g.er]
def iv(b:Nat)(t:Tub):aa:=yX (fun _ _ _=>True) fun vw vp vg=>[arr b 0 [.int .i64 t.room,vw,vp,vg],sl cO 1 vw t.words,sl lK 2 vp t.hM,sl au 1 vg t.gM]
def oG(v:Value)(l:List Tub):aa:=iS (fun xs:List (Nat×Tub)=>xs.map (·.2)=l) fun xs=>[sl bH 1 v xs,aD (fun x=>iv x.1 x.2) xs]
def oH(b:Nat)(d:kF):aa:=nI (fun _ _=>True) fun vb vw=>[arr b 0 [vb,vw],sl cO 1 vb d.blocks,sl gJ 4 vw d.wait]
def y8(v:Value)(l:List (List Ins)):aa:=iS (fun xs:List (Value×List Ins)=>xs.map (·.2)=l) fun xs=>[sl ej 1 v xs,aD (fun x=>sl dH 5 x.1 x.2) xs]
def lE(es:List MapEntry)(clock:Nat)(l:List (Int×Int)):Prop :=
 es.map (fun e=>(e.key,e.val))=l.map (fun p=>(Value.int .i64 p.1,Value.int .i64 p.2))∧(l.map (·.1)).Nodup∧(∀ e∈es,e.born<clock)∧(es.map (·.born)).Nodup
def nJ(m:Nat)(l:List (Int×Int)):aa:=nI (fun(es:List MapEntry) clock=>lE es clock l) fun es clock=>[jk m (.map es.toArray clock)]
def nK(b:Nat)(w:lJ):aa:=iS (fun _=>True) fun m=>[arr b 0 [.int .i64 w.now,.map (some m)],nJ m w.hU]
def bj(t:bE):List Value:=[.int .i64 t.fn,.int .i64 t.pc,.int .u64 (t.aI.getD 0 0),.int .u64 (t.aI.getD 1 0),.int .u64 (t.aI.getD 2 0),.int .u64 (t.aI.getD 3 0),.int .u64 (t.aI.getD 4 0),.int .u64 (t.aI.getD 5 0),.int .u64 (t.aI.getD 6 0),.int .u64 (t.aI.getD 7 0),
 .int .u64 t.handle,.int .i64 t.cQ,.int .u64 t.value,.bool t.bK,.int .i64 t.ay,.int .i64 t.op,.int .i64 t.bY,.int .u64 0]
def aA:List (Option Nat)→List (Option bE)→aa
 | [],[]=>emp
 | some p::ps,some t::ts=>sep (arr p 0 (bj t)) (aA ps ts)
 | none::ps,none::ts=>aA ps ts
 | _,_=>fun _=>False
theorem sW:∀ {ps:List (Option Nat)} {ts:List (Option bE)} {h:jD},aA ps ts h→ps.length=ts.length
 | [],[],_,_=>rfl
 | [],_::_,_,a=>a.elim
 | some _::_,[],_,a=>a.elim
 | none::_,[],_,a=>a.elim
 | some p::ps,some t::ts,h,⟨_,h2,_,a,_⟩=>by simp[sW a]
 | none::ps,none::ts,h,a=>by simp[sW (show aA ps ts h from a)]
 | some _::_,none::_,_,a=>a.elim
 | none::_,some _::_,_,a=>a.elim
theorem lW:∀ {ps:List (Option Nat)} {ts:List (Option bE)} {n:Nat} {t:bE},ts[n]?=some (some t)→ ∀ h,aA ps ts h→ ∃ p,ps[n]?=some (some p)∧sep (arr p 0 (bj t)) (aA (ps.set n none) (ts.set n none)) h
 | [],[],_,_,e,_,_=>by simp at e
 | [],_::_,_,_,_,_,a=>a.elim
 | some _::_,[],_,_,_,_,a=>a.elim
 | none::_,[],_,_,_,_,a=>a.elim
 | some _::_,none::_,_,_,_,_,a=>a.elim
 | none::_,some _::_,_,_,_,_,a=>a.elim
 | some p::ps,some t::ts,0,u,e,h,a=>by
  simp at e;subst e
  exact⟨p,rfl,a⟩
 | none::ps,none::ts,0,u,e,h,a=>by simp at e
 | some p::ps,some t::ts,n+1,u,e,h,⟨h1,h2,a1,a2,d,e'⟩=>by
  obtain⟨q,hq,a⟩:=lW (n:=n) (by simpa using e) h2 a2
  refine⟨q,by simpa using hq,?_⟩
  show sep _ (sep (arr p 0 (bj t)) (aA (ps.set n none) (ts.set n none))) h
  rw[aY]
  exact⟨h1,h2,a1,a,d,e'⟩
 | none::ps,none::ts,n+1,u,e,h,a=>by
  obtain⟨q,hq,a⟩:=lW (ps:=ps) (n:=n) (by simpa using e) h a
  exact⟨q,by simpa using hq,a⟩
theorem qe:∀ {ps:List (Option Nat)} {ts:List (Option bE)} {n:Nat},ts[n]?=some none→ ∀ h,aA ps ts h→ps[n]?=some none
 | [],[],_,e,_,_=>by simp at e
 | [],_::_,_,_,_,a=>a.elim
 | some _::_,[],_,_,_,a=>a.elim
 | none::_,[],_,_,_,a=>a.elim
 | some _::_,none::_,_,_,_,a=>a.elim
 | none::_,some _::_,_,_,_,a=>a.elim
 | some p::ps,some t::ts,0,e,h,a=>by simp at e
 | none::ps,none::ts,0,e,h,a=>rfl
 | some p::ps,some t::ts,n+1,e,h,⟨h1,h2,a1,a2,d,e'⟩=>by
  have:=qe (n:=n) (by simpa using e) h2 a2
  simpa using this
 | none::ps,none::ts,n+1,e,h,a=>by
  have:=qe (ps:=ps) (n:=n) (by simpa using e) h a
  simpa using this
theorem oI:∀ {ps:List (Option Nat)} {ts:List (Option bE)} {n:Nat} {p:Nat} {t:bE},ts[n]?=some none→ ∀ h,sep (arr p 0 (bj t)) (aA ps ts) h→aA (ps.set n (some p)) (ts.set n (some t)) h
 | [],[],_,_,_,e,_,_=>by simp at e
 | [],_::_,_,_,_,_,_,⟨_,_,_,a,_⟩=>a.elim
 | some _::_,[],_,_,_,_,_,⟨_,_,_,a,_⟩=>a.elim
 | none::_,[],_,_,_,_,_,⟨_,_,_,a,_⟩=>a.elim
 | some _::_,none::_,_,_,_,_,_,⟨_,_,_,a,_⟩=>a.elim
 | none::_,some _::_,_,_,_,_,_,⟨_,_,_,a,_⟩=>a.elim
 | some q::ps,some u::ts,0,p,t,e,h,a=>by simp at e
 | none::ps,none::ts,0,p,t,e,h,a=>a
 | some q::ps,some u::ts,n+1,p,t,e,h,a=>by
  show sep (arr q 0 (bj u)) (aA (ps.set n (some p)) (ts.set n (some t))) h
  have:sep (arr p 0 (bj t)) (sep (arr q 0 (bj u)) (aA ps ts)) h:=a
  rw[aY] at this
  exact ba (fun _ h=>h) (fun h' a'=>oI (by simpa using e) h' a') h this
 | none::ps,none::ts,n+1,p,t,e,h,a=>oI (ps:=ps) (ts:=ts) (n:=n) (by simpa using e) h a
theorem D2{ps:List (Option Nat)}{ts:List (Option bE)}{n p:Nat}{t:bE}(hn:n<ts.length)(hp:ps[n]?=some (some p)):∀ h,sep (arr p 0 (bj t)) (aA (ps.set n none) (ts.set n none)) h→aA ps (ts.set n (some t)) h:=fun h a=>by
 have:=oI (n:=n) (by simp[hn]) h a
 rw[List.set_set,List.set_set] at this
 rwa [show ps.set n (some p)=ps from by
  apply List.ext_getElem?
  intro i
  by_cases e:n=i
  ·subst e
   rw[List.getElem?_set_self (List.getElem?_eq_some_iff.1 hp).1,hp]
  ·rw[List.getElem?_set_ne e]] at this
def fo(fv sv pv:Value)(p:fM)(bt:Nat)(ps:List (Option Nat))(vm:Value)(bg:Nat)(vt:Value)(bd bw:Nat)(vr:Value):List Value :=
 [fv,.int .i64 p.words,.int .i64 p.bu,.int .i64 p.conds,sv,pv,.int .i64 p.blocks,.int .i64 p.prio,ptr bt,
  dO (ps.getD 0 none),dO (ps.getD 1 none),dO (ps.getD 2 none),dO (ps.getD 3 none),dO (ps.getD 4 none),dO (ps.getD 5 none),dO (ps.getD 6 none),dO (ps.getD 7 none),
  dO (ps.getD 8 none),dO (ps.getD 9 none),dO (ps.getD 10 none),dO (ps.getD 11 none),dO (ps.getD 12 none),dO (ps.getD 13 none),dO (ps.getD 14 none),dO (ps.getD 15 none),
  vm,ptr bg,vt,ptr bd,ptr bw,vr]
def cB(b:Nat)(ps:List (Option Nat))(s:Spc):aa:=vA (fun _ _ _ _ _ _ _ _ _ _=>True) fun(fv sv pv:Value) (bt:Nat) (vm:Value) (bg:Nat) (vt:Value) (bd bw:Nat) (vr:Value) =>
 [arr b 0 (fo fv sv pv s.eT bt ps vm bg vt bd bw vr),y8 fv s.eT.funcs,lL bt s.table,aA ps s.aF,sl cO 1 vm s.mem,cv bg s.al,oG vt s.cc,oH bd s.bZ,nK bw s.aT,sl cP 6 vr s.av]
def ca(b:Nat)(s:Spc):aa:=iS (fun _=>True) fun ps=>[cB b ps s]
/-! a library, processors -/
def fp(b:Nat)(l:List Int):aa:=iS (fun _=>True) fun v=>[arr b 0 [v],sl au 1 v l]
def ga(b:Nat)(l:List (List Int)):aa:=nI (fun _ (xs:List (Nat×List Int))=>xs.map (·.2)=l) fun v xs=>[arr b 0 [v],sl bH 1 v xs,aD (fun x=>fp x.1 x.2) xs]
def fe(x:Value×aM):List Value:=[.int .i64 x.2.mode,.int .i64 x.2.ab,x.1]
def ct(v:Value)(l:List aM):aa:=iS (fun xs:List (Value×aM)=>xs.map (·.2)=l) fun xs=>[sl fe 3 v xs,aD (fun x=>sl cr 3 x.1 x.2.evs) xs]
def lX(bs br:Nat)(vv vw:Value)(lk:Bool):List Value:=[ptr bs,ptr br,vv,vw,.bool lk]
def bJ(b bs br:Nat)(l:Lib):aa:=nI (fun _ _=>True) fun vv vw=>[arr b 0 (lX bs br vv vw l.locked),ca bs l.aO,ga br l.rows,ct vv l.vs,sl cr 3 vw l.waiting]
def df(b:Nat)(l:Lib):aa:=nI (fun _ _=>True) fun bs br=>[bJ b bs br l]
/-! chunks turned -/
section
variable{P:Program}{W:World}{N:Nat}{Q:Exit→Act→World→Prop}{L:List (Nat×Option Value)}{H R K:List aa}{O:Array Oper}{T:TypeId}{ks:List Nat}{ops:List Oper}{C:aa}
theorem xr{w:World}{A:aa}{Bs:List aa}(t:Take H A R)(e:∀ h,A h→seps Bs h)(s:Sat W w (seps H)):Sat W w (seps (Bs++R)):=by
 rw[t.seps] at s
 rw[ah]
 exact s.mono (ba e fun _ r=>r)
theorem xt{w:World}{A:aa}{Bs:List aa}(t:ax H Bs R)(e:∀ h,seps Bs h→A h)(s:Sat W w (seps H)):Sat W w (seps (A::R)):=by
 have:=t.sat s
 rw[ah] at this
 exact this.mono (ba e fun _ r=>r)
theorem aS.fr{A:aa}{Bs:List aa}(t:Take H A R)(e:∀ h,A h→seps Bs h)(k:aS P W N O Q ops L (Bs++R)):aS P W N O Q ops L H:=fun a w ha hs=>k a w ha (xr t e hs)
theorem aq.fr{c:Code}{A:aa}{Bs:List aa}(t:Take H A R)(e:∀ h,A h→seps Bs h)(k:aq P W N Q c L (Bs++R)):aq P W N Q c L H:=fun a w ha hs=>k a w ha (xr t e hs)
theorem bc.fr{A:aa}{Bs:List aa}(t:Take H A R)(e:∀ h,A h→seps Bs h)(k:bc P W N K O Q ks ops L (Bs++R)):bc P W N K O Q ks ops L H:=fun a w ha hs=>k a w ha (xr t e hs)
theorem bx.fr{en:Exit}{A:aa}{Bs:List aa}(t:Take H A R)(e:∀ h,A h→seps Bs h)(k:bx W N Q en L (Bs++R)):bx W N Q en L H:=fun a w ha hs=>k a w ha (xr t e hs)
theorem aS.to{A:aa}{Bs:List aa}(t:ax H Bs R)(e:∀ h,seps Bs h→A h)(k:aS P W N O Q ops L (A::R)):aS P W N O Q ops L H:=fun a w ha hs=>k a w ha (xt t e hs)
theorem aq.to{c:Code}{A:aa}{Bs:List aa}(t:ax H Bs R)(e:∀ h,seps Bs h→A h)(k:aq P W N Q c L (A::R)):aq P W N Q c L H:=fun a w ha hs=>k a w ha (xt t e hs)
theorem bc.to{A:aa}{Bs:List aa}(t:ax H Bs R)(e:∀ h,seps Bs h→A h)(k:bc P W N K O Q ks ops L (A::R)):bc P W N K O Q ks ops L H:=fun a w ha hs=>k a w ha (xt t e hs)
theorem bx.to{en:Exit}{A:aa}{Bs:List aa}(t:ax H Bs R)(e:∀ h,seps Bs h→A h)(k:bx W N Q en L (A::R)):bx W N Q en L H:=fun a w ha hs=>k a w ha (xt t e hs)
theorem xu{w:World}{A:aa}{X:Type}{p:X→Prop}{Bs:X→List aa}(t:Take H A R)(e:∀ h,A h→ ∃ x,p x∧seps (Bs x) h)(s:Sat W w (seps H)):∃ x,p x∧Sat W w (seps (Bs x++R)):=by
 rw[t.seps] at s
 obtain⟨h,⟨h1,h2,a,r,d,e'⟩,hin⟩:=s.own
 obtain⟨x,hp,a'⟩:=e h1 a
 exact⟨x,hp,by rw[ah];exact {s with own:=⟨h,⟨h1,h2,a',r,d,e'⟩,hin⟩ }⟩
theorem aS.fx{A:aa}{X:Type}{p:X→Prop}{Bs:X→List aa}(t:Take H A R)(e:∀ h,A h→ ∃ x,p x∧seps (Bs x) h)(k:∀ x,p x→aS P W N O Q ops L (Bs x++R)):aS P W N O Q ops L H:=fun a w ha hs=>let ⟨x,hp,s⟩:=xu t e hs;k x hp a w ha s
theorem aq.fx{c:Code}{A:aa}{X:Type}{p:X→Prop}{Bs:X→List aa}(t:Take H A R)(e:∀ h,A h→ ∃ x,p x∧seps (Bs x) h)(k:∀ x,p x→aq P W N Q c L (Bs x++R)):aq P W N Q c L H:=fun a w ha hs=>let ⟨x,hp,s⟩:=xu t e hs;k x hp a w ha s
theorem bc.fx{A:aa}{X:Type}{p:X→Prop}{Bs:X→List aa}(t:Take H A R)(e:∀ h,A h→ ∃ x,p x∧seps (Bs x) h)(k:∀ x,p x→bc P W N K O Q ks ops L (Bs x++R)):bc P W N K O Q ks ops L H:=fun a w ha hs=>let ⟨x,hp,s⟩:=xu t e hs;k x hp a w ha s
theorem bx.fx{en:Exit}{A:aa}{X:Type}{p:X→Prop}{Bs:X→List aa}(t:Take H A R)(e:∀ h,A h→ ∃ x,p x∧seps (Bs x) h)(k:∀ x,p x→bx W N Q en L (Bs x++R)):bx W N Q en L H:=fun a w ha hs=>let ⟨x,hp,s⟩:=xu t e hs;k x hp a w ha s
theorem cx{ps:List (Option Nat)}{ts:List (Option bE)}{n p:Nat}{t:bE}(hn:n<ts.length)(hp:ps[n]?=some (some p)):∀ h,seps [arr p 0 (bj t),aA (ps.set n none) (ts.set n none)] h→aA ps (ts.set n (some t)) h:=fun h a =>
 D2 hn hp h (by simpa only[seps,aJ] using a)
end
end Go.SLYthlllpngkljgfaaGreat
namespace Go.SLYthlllpngkljgfaaGreat
open Go Go.RowKit
section
variable{P:Program}{W:World}{N:Nat}{Q:Exit→Act→World→Prop}{O:Array Oper}{L:List (Nat×Option Value)}{H K R:List aa}{T:TypeId}{α:Type}
theorem Take.app{A:aa}(E:aa)(t:Take H A R):Take (H++[E]) A (R++[E]):=by
 induction t with
 | here=>exact .here
 | there _ ih=>exact .there ih
theorem ax.app{H R As:List aa}(E:aa)(t:ax H As R):ax (H++[E]) As (R++[E]):=by
 induction t with
 | nil=>exact .nil
 | cons h _ ih=>exact .cons (h.app E) ih
 | conv c _ ih=>exact .conv c ih
 | ez _ _ i1 i2=>exact .ez i1 i2
 | f1 e x1 _ _ hp i1 i2=>exact .f1 e x1 i1 i2 hp
 | f2 e x1 x2 _ _ hp i1 i2=>exact .f2 e x1 x2 i1 i2 hp
 | f3 e x1 x2 x3 _ _ hp i1 i2=>exact .f3 e x1 x2 x3 i1 i2 hp
 | f4 e x1 x2 x3 x4 _ _ hp i1 i2=>exact .f4 e x1 x2 x3 x4 i1 i2 hp
 | f5 e x1 x2 x3 x4 x5 _ _ hp i1 i2=>exact .f5 e x1 x2 x3 x4 x5 i1 i2 hp
 | f6 e x1 x2 x3 x4 x5 x6 _ _ hp i1 i2=>exact .f6 e x1 x2 x3 x4 x5 x6 i1 i2 hp
 | f7 e x1 x2 x3 x4 x5 x6 x7 _ _ hp i1 i2=>exact .f7 e x1 x2 x3 x4 x5 x6 x7 i1 i2 hp
 | f8 e x1 x2 x3 x4 x5 x6 x7 x8 _ _ hp i1 i2=>exact .f8 e x1 x2 x3 x4 x5 x6 x7 x8 i1 i2 hp
 | f9 e x1 x2 x3 x4 x5 x6 x7 x8 x9 _ _ hp i1 i2=>exact .f9 e x1 x2 x3 x4 x5 x6 x7 x8 x9 i1 i2 hp
 | f10 e x1 x2 x3 x4 x5 x6 x7 x8 x9 x10 _ _ hp i1 i2=>exact .f10 e x1 x2 x3 x4 x5 x6 x7 x8 x9 x10 i1 i2 hp
 | f11 e x1 x2 x3 x4 x5 x6 x7 x8 x9 x10 x11 _ _ hp i1 i2=>exact .f11 e x1 x2 x3 x4 x5 x6 x7 x8 x9 x10 x11 i1 i2 hp
 | f12 e x1 x2 x3 x4 x5 x6 x7 x8 x9 x10 x11 x12 _ _ hp i1 i2=>exact .f12 e x1 x2 x3 x4 x5 x6 x7 x8 x9 x10 x11 x12 i1 i2 hp
theorem bC.eH{ks rest:List Nat}{i:Nat}{f:FuncId}{xs:Array Operand}{ts:Array TypeId}{T:TypeId}{pos:String}{after:Array Edge}{d:Nat}{args:List Value}{pre R:List aa}{X:Type}{val:X→Value}{fact:X→Prop}{post:X→List aa}
  (ho:O[i]?=some ⟨some d,.call ⟨.value (.func f),xs,ts⟩,T,pos,after,none⟩) (hk:ks.getD i 1=2∨ks.getD i 1=3) (hN:Nat.blt d N=true) (hK:ks.getD i 1=2→ ∀ w,Sat W w (seps H)→Sat W w (seps K))
  (hc:∀ args w,(callFunc f args).run P w = .ok (.enter f args) w) (hx:evs L xs.toList=some args) (hfn:Fn P W f args pre X val fact post) (ht:ax H pre R) (hK':ks.getD i 1=2→ ∀ x, ∀ w,Sat W w (seps (post x++R))→Sat W w (seps K))
  (h:∀ x,fact x→bC P W N K O Q ks rest ((d,some (val x))::L) (post x++R)):bC P W N K O Q ks (i::rest) L H:=by
 have key:∀ E a w,yV W N L H E a w→Oper.wp P ⟨some d,.call ⟨.value (.func f),xs,ts⟩,T,pos,after,none⟩ a w (fun a' w'=>(ks.getD i 1=2→Sat W w' (seps K))∧ ∃ x:{x:X // fact x },yV W N ((d,some (val x.1))::L) (post x.1++R) E a' w') QF:=fun E a w hs=>by
  obtain⟨ha,hs⟩:=jI.1 hs
  refine af.eH (guard:=none) hN hc hx hfn (ht.app E) a w ha hs _ ?_
  rintro L' H' ⟨x,hx,rfl,rfl⟩ a' w' ha' hs'
  rw[← List.append_assoc] at hs'
  have h2:yV W N ((d,some (val x))::L) (post x++R) E a' w':=jI.2 ⟨ha',hs'⟩
  exact⟨fun e=>hK' e x w' h2.2.left,⟨x,hx⟩,h2⟩
 unfold bC
 rcases hk with hk | hk
 ·simp only[wpF,ho,hk]
  refine⟨{x:X // fact x },fun x=>yV W N ((d,some (val x.1))::L) (post x.1++R),fun x=>hJ,fun E a w hs=>⟨fun _=>hK hk w hs.2.left,?_⟩,fun x=>h x.1 x.2⟩
  rw[if_pos (bm rfl)]
  exact Oper.wp_mono (fun a w ⟨h1,h2⟩=>⟨fun _=>h1 hk,h2⟩) (key E a w hs)
 ·simp only[wpF,ho,hk]
  refine⟨{x:X // fact x },fun x=>yV W N ((d,some (val x.1))::L) (post x.1++R),fun x=>hJ,fun E a w hs=>⟨fun e=>(by cases e),?_⟩,fun x=>h x.1 x.2⟩
  rw[if_pos (bm rfl)]
  exact Oper.wp_mono (fun a w ⟨h1,h2⟩=>⟨fun e=>(by cases e),h2⟩) (key E a w hs)
theorem bC.d{ks rest:List Nat}{i:Nat}{o:Oper}{X:Type}{Lx:X→List (Nat×Option Value)}{Hx:X→List aa}(ho:O[i]?=some o)(hg:o.guard=none)(hk:ks.getD i 1=2∨ks.getD i 1=3)(hK:ks.getD i 1=2→ ∀ w,Sat W w (seps H)→Sat W w (seps K))
  (hd:∀ E,af P W N o L (H++[E]) (fun L1 H1=>∃ x,L1=Lx x∧H1=Hx x++[E])) (hK':ks.getD i 1=2→ ∀ x, ∀ w,Sat W w (seps (Hx x))→Sat W w (seps K)) (h:∀ x,bC P W N K O Q ks rest (Lx x) (Hx x)):bC P W N K O Q ks (i::rest) L H:=by
 have key:∀ E a w,yV W N L H E a w→Oper.wp P o a w (fun a' w'=>(ks.getD i 1=2→Sat W w' (seps K))∧ ∃ x:X,yV W N (Lx x) (Hx x) E a' w') QF:=fun E a w hs=>by
  obtain⟨ha,hs⟩:=jI.1 hs
  refine hd E a w ha hs _ ?_
  rintro L' H' ⟨x,rfl,rfl⟩ a' w' ha' hs'
  have h2:yV W N (Lx x) (Hx x) E a' w':=jI.2 ⟨ha',hs'⟩
  exact⟨fun e=>hK' e x w' h2.2.left,x,h2⟩
 unfold bC
 rcases hk with hk | hk
 ·simp only[wpF,ho,hk]
  refine⟨X,fun x=>yV W N (Lx x) (Hx x),fun x=>hJ,fun E a w hs=>⟨fun _=>hK hk w hs.2.left,?_⟩,h⟩
  rw[if_pos (bm hg)]
  exact Oper.wp_mono (fun a w ⟨h1,h2⟩=>⟨fun _=>h1 hk,h2⟩) (key E a w hs)
 ·simp only[wpF,ho,hk]
  refine⟨X,fun x=>yV W N (Lx x) (Hx x),fun x=>hJ,fun E a w hs=>⟨fun e=>(by cases e),?_⟩,h⟩
  rw[if_pos (bm hg)]
  exact Oper.wp_mono (fun a w ⟨h1,h2⟩=>⟨fun e=>(by cases e),h2⟩) (key E a w hs)
theorem Bb{enc:α→List Value}{k:Nat}(z0:α){t e:TypeId}{kd kd':IntKind}{i:TypeInfo}{z:Value}{n:Nat}(hu:P.underlying t=some (.slice e))(hi:∀ w,(typeInfo e).run P w = .ok i w)(hz:i.zero=some z)(hk:i.size=k)(hzc:z.cells=(enc z0).toArray)(hkl:(enc z0).length=k)(hk0:0<k)(hb:1≤i.bytes∧i.bytes≤4096)
  (hn:n≤1073741824) (w:World):(Instr.makeSlice t (.int kd (n:Int)) (.int kd' (n:Int))).run P w = .ok (.slice (some ⟨w.heap.size,0,none⟩) n n) (w.alloc (.cells (rows enc (List.replicate n z0)).toArray e)):=by
 have hz0:∀ w,(zeroValue e).run P w = .ok z w:=fun w=>by simp[zeroValue,hi,hz]
 have hsz:∀ w,(sizeOf e).run P w = .ok k w:=fun w=>by simp[sizeOf,hi,hk]
 have hwr:IntKind.i64.wrap (n:Int)=(n:Int):=wrap_i64 (by omega)
 have hwr0:IntKind.i64.wrap 0=0:=wrap_i64 (by omega)
 have hbig2:¬(281474976710656<(i.bytes:Int) * (n:Int)):=by
  have h1:i.bytes * n≤4096 * 1073741824:=Nat.mul_le_mul hb.2 hn
  have h3:((i.bytes * n:Nat):Int)=i.bytes * (n:Int):=by simp
  omega
 have hroom:∀ m w',(askRoom m).run P w' = .ok () w':=fun m w'=>by
  unfold askRoom
  split <;> rfl
 have e4:∀ cs:Array Value,(newRow e cs).run P w = .ok ⟨w.heap.size,0,none⟩ (w.alloc (.cells cs e)):=fun _=>rfl
 have hnews:(rows enc (List.replicate n z0)).toArray=(Array.range (n * k)).map ((enc z0).toArray[· % (enc z0).toArray.size]!):=by
  rw[← sS hkl hk0 n,Array.toArray_toList]
 by_cases h0:n=0
 ·subst h0
  simp[Instr.makeSlice,run_underlying hu,asInt,asIntOf,hi,hwr0,hroom,hsz,e4]
  rw[show(Array.range 0).map (fun _=>(default:Value)) = #[] from by simp]
  simp[rows]
 ·have hnk:¬(n * k=0):=by
   intro h;rcases Nat.mul_eq_zero.1 h with h | h <;> omega
  have h3:¬((n:Int)<0):=by omega
  have hk00:¬(k=0):=by omega
  simp[Instr.makeSlice,run_underlying hu,asInt,asIntOf,hi,hwr,hroom,hsz,hz0,hzc,e4,hbig2,h3,hnews]
  intro h;exact absurd h hnk
theorem kG{enc:α→List Value}{k:Nat}(z0:α){x y:Operand}{t e T:TypeId}{kd kd':IntKind}{i:TypeInfo}{z:Value}{m m':Int}(n:Nat){pos:String}{after:Array Edge}{d:Nat}
  (hu:P.underlying t=some (.slice e)) (hi:∀ w,(typeInfo e).run P w = .ok i w) (hz:i.zero=some z) (hk:i.size=k) (hzc:z.cells=(enc z0).toArray) (hkl:(enc z0).length=k) (hk0:0<k) (hb:1≤i.bytes∧i.bytes≤4096)
  (hx:ev L x=some (.int kd m)) (hy:ev L y=some (.int kd' m')) (hm:m=(n:Int)) (hm':m'=(n:Int)) (hn:n≤1073741824) :
  ∀ a,Env N L a→cb P O ⟨some d,.makeSlice t x y,T,pos,after,none⟩ a (fun b=>.slice (some ⟨b,0,none⟩) n n) (rows enc (List.replicate n z0)) e:=fun a ha=>⟨bm rfl,fun w=>by
 subst hm hm'
 simp[execOp,ha.eval hx,ha.eval hy,Bb (P:=P) (kd:=kd) (kd':=kd') z0 hu hi hz hk hzc hkl hk0 hb hn w]⟩
theorem Jg{enc:α→List Value}{k b n:Nat}(xs:List α){cs:List Value}(hn:xs.length=n)(hk:∀ x∈xs,(enc x).length=k)(hc:cs=rows enc xs):∀ h,seps [arr b 0 cs] h→sl enc k (.slice (some ⟨b,0,none⟩) n n) xs h:=fun h a=>by
 subst hn hc
 simp only[seps,aJ] at a
 exact .inr ⟨b,xs.length,[],rfl,Nat.le_refl _,hk,by simp,by rw[List.append_nil];exact a⟩
theorem rP{enc:α→List Value}{k b n:Nat}{z0:α}(hk:(enc z0).length=k):∀ h,seps [arr b 0 (rows enc (List.replicate n z0))] h→sl enc k (.slice (some ⟨b,0,none⟩) n n) (List.replicate n z0) h :=
 Jg _ (by simp) (fun x hx=>by rw[List.eq_of_mem_replicate hx];exact hk) rfl
theorem Y.fq{op:Op}{k:IntKind}{m n:Int}(h:Y P W N op T L H (.int k m))(e:m=n):Y P W N op T L H (.int k n):=e ▸ h
theorem Rd.shape{enc:α→List Value}{k:Nat}{v:Value}{xs:List α}(h:Rd W H enc k v xs):∀ w,Sat W w (seps H)→ ∃ a cap,v = .slice a xs.length cap:=fun w s=>by
 obtain⟨⟨a,cap,hv,_⟩,_⟩:=h w s
 exact⟨a,cap,hv⟩
theorem Y.Ge{x y1:Operand}{t e:TypeId}{k b len cap:Nat}{k1:IntKind}{j1:Int}(l:Nat)(hu:P.underlying t=some (.slice e))(hz:∀ w,(sizeOf e).run P w = .ok k w)(hx:ev L x=some (.slice (some ⟨b,0,none⟩) len cap))
  (h1:ev L y1=some (.int k1 j1)) (e1:j1=(l:Int)) (b1:l≤len) (b2:l<cap):Y P W N (.slice t x (some y1) none none) T L H (.slice (some ⟨b,l * k,none⟩) (len-l) (cap-l)):=by
 have:=Y.mQ (P:=P) (W:=W) (N:=N) (T:=T) (H:=H) l hu hz hx h1 e1 b1
 rw[if_neg (by omega),Option.map_some,dE,Nat.zero_add] at this
 exact this
theorem Rd.pre{enc:α→List Value}{k b j len cap:Nat}{xs:List α}(h:Rd W H enc k (.slice (some ⟨b,0,none⟩) len cap) xs)(hj:j≤xs.length):Rd W H enc k (.slice (some ⟨b,0,none⟩) j cap) (xs.take j):=by
 have:=h.cut (lo:=0) (hi:=j) (Nat.zero_le _) hj
 rw[List.drop_zero] at this
 have e:SLYthlllpngkljgfaaGreat.cut k 0 j (.slice (some ⟨b,0,none⟩) len cap) = .slice (some ⟨b,0,none⟩) j cap:=by
  simp only[SLYthlllpngkljgfaaGreat.cut]
  split <;> simp[Addr.add]
 rwa [e] at this
/-! ### bits -/
def Jh(k:IntKind)(a b:Int):Int:=k.wrap (BitVec.ofInt k.bits a &&& BitVec.ofInt k.bits b).toNat
def OU(k:IntKind)(a b:Int):Int:=k.wrap (BitVec.ofInt k.bits a ||| BitVec.ofInt k.bits b).toNat
def Ov(k:IntKind)(a b:Int):Int:=k.wrap (BitVec.ofInt k.bits a ^^^ BitVec.ofInt k.bits b).toNat
def Ow(k:IntKind)(a b:Int):Int:=k.wrap (a * 2 ^ (min b.toNat k.bits))
def K9(k:IntKind)(a b:Int):Int:=a.fdiv (2 ^ (min b.toNat k.bits))
theorem Y.La{k:IntKind}{xT yT:TypeId}{x y:Operand}{m n:Int}(hx:ev L x=some (.int k m))(hy:ev L y=some (.int k n)):Y P W N (.binOp .and xT x y yT) T L H (.int k (Jh k m n)) :=
 Y.bin hx hy fun w=>by simp[eqGuard,binOp,Op.intBits,Jh]
theorem Y.Gf{k k':IntKind}{xT yT:TypeId}{x y:Operand}{m n:Int}(hx:ev L x=some (.int k m))(hy:ev L y=some (.int k' n))(hn:0≤n):Y P W N (.binOp .shr xT x y yT) T L H (.int k (K9 k m n)) :=
 Y.bin hx hy fun w=>by simp[eqGuard,binOp,Op.shift,K9,show ¬(n<0) from by omega]
theorem qf{a:Int}(h:0≤a∧a<4294967296):Jh .u64 a 4294967295=a:=by
 obtain⟨n,rfl⟩:∃ n:Nat,a=n:=⟨a.toNat,by omega⟩
 unfold Jh
 have e:(BitVec.ofInt IntKind.u64.bits (n:Int) &&& BitVec.ofInt IntKind.u64.bits 4294967295).toNat=n:=by
  rw[BitVec.toNat_and]
  have h1:(BitVec.ofInt IntKind.u64.bits (n:Int)).toNat=n:=by
   show(BitVec.ofInt 64 (n:Int)).toNat=n
   rw[BitVec.toNat_ofInt]
   omega
  have h2:(BitVec.ofInt IntKind.u64.bits 4294967295).toNat=2 ^ 32-1:=by decide
  rw[h1,h2,Nat.and_two_pow_sub_one_eq_mod]
  omega
 rw[e]
 exact wrap_u64 (by omega)
theorem jm{a:Int}(h:0≤a∧a<4294967296):K9 .u64 a 32=0:=by
 show a.fdiv (2 ^ (min (32:Int).toNat 64))=0
 rw[show(2:Int) ^ (min (32:Int).toNat 64)=4294967296 from by decide,Int.fdiv_eq_ediv_of_nonneg _ (by omega)]
 omega
/-! ### a nil slice grows by zeros -/
theorem sX{enc:α→List Value}{k:Nat}(z0:α){t t2 e ty:TypeId}{kd k2:IntKind}{i:TypeInfo}{z:Value}{n:Nat}{R:aa}{w:World}(hu:P.underlying t=some (.slice e))(hu2:P.underlying t2=some (.int k2))(hi:∀ w,(typeInfo e).run P w = .ok i w)(hz:i.zero=some z)(hk:i.size=k)(hzc:z.cells=(enc z0).toArray)(hkl:(enc z0).length=k)(hk0:0<k)(hb:1≤i.bytes∧i.bytes≤4096)
  (hn:0<n∧n≤1000000000) (hs:Sat W w R):∃ b c w',(Builtin.append_ #[t,t2] ty #[.slice none 0 0,.int kd (n:Int)]).run P w = .ok (.slice (some ⟨b,0,none⟩) n c) w'∧n≤c∧Sat W w' (sep (sl enc k (.slice (some ⟨b,0,none⟩) n c) (List.replicate n z0)) R):=by
 have hz0:∀ w,(zeroValue e).run P w = .ok z w:=fun w=>by simp[zeroValue,hi,hz]
 have hsz:∀ w,(sizeOf e).run P w = .ok k w:=fun w=>by simp[sizeOf,hi,hk]
 have hwr:IntKind.i64.wrap (n:Int)=(n:Int):=wrap_i64 (by omega)
 have hzs:z.cells.size=k:=by rw[hzc];simpa using hkl
 have hbn:i.bytes * n≤4096 * 1000000000:=Nat.mul_le_mul hb.2 hn.2
 have hbig1:¬(281474976710656<(n:Int) * (i.bytes:Int)):=by
  have h3:((i.bytes * n:Nat):Int)=(n:Int) * i.bytes:=by rw[Int.natCast_mul,Int.mul_comm]
  omega
 have hnc:=sN (need:=n) (old:=0) (by omega)
 have hbig:¬(Builtin.nextslicecap n 0 * i.bytes>2 ^ 48):=by
  have h1:Builtin.nextslicecap n 0 * i.bytes≤(1000000000+768) * 16 * 4096 :=
   Nat.mul_le_mul (Nat.le_trans hnc (Nat.mul_le_mul_right _ (by omega))) hb.2
  have h2:(2:Nat) ^ 48=281474976710656:=by decide
  rw[h2]
  omega
 have hq:(Question.appendCap n 0 e).forced=false:=rfl
 let nc:=(Question.appendCap n 0 e).cut (w.tape w.drawn (Question.appendCap n 0 e))
 have hnc1:n≤nc:=Nat.le_add_right _ _
 have hroom:∀ m w',(askRoom m).run P w' = .ok () w':=fun m w'=>by
  unfold askRoom
  split <;> rfl
 obtain⟨news,hnews⟩:∃ news,news=Builtin.zeroCells z.cells n++Builtin.zeroCells z.cells (nc - n):=⟨_,rfl⟩
 refine⟨w.drew.heap.size,nc,w.drew.alloc (.cells news e),?_,hnc1,?_⟩
 ·have h3:¬((n:Int)<0):=by omega
  have h0:¬(n=0):=by omega
  have hk00:¬(k=0):=by omega
  have hnk:¬(n * k=0):=by
   intro h;rcases Nat.mul_eq_zero.1 h with h | h <;> omega
  have hmax:¬((n:Int)>IntKind.i64.max):=by
   rw[show IntKind.i64.max=9223372036854775807 from by decide];omega
  have e4:(newRow e news).run P w.drew = .ok ⟨w.drew.heap.size,0,none⟩ (w.drew.alloc (.cells news e)):=rfl
  simp[Builtin.append_,run_underlying hu,run_underlying hu2,hsz,asInt,asIntOf,hi,hwr,h3,hbig1,h0,hnk,hbig,choose,Sem.run,hq]
  rw[if_neg (by omega)]
  have hfc:∀ w,(Builtin.firstCells k 0 (.slice none 0 0)).run P w = .ok #[] w:=fun _=>rfl
  have e5:((Question.appendCap n 0 e).cut (w.tape w.drawn (Question.appendCap n 0 e)))=nc:=rfl
  rw[hfc,e5]
  simp only[Result.andThen_ok,hz0,Array.empty_append]
  rw[← hnews,e4]
  rfl
 ·have h7:=(hs.drew).alloc news e
  have h8:news.toList=rows enc (List.replicate n z0)++(Builtin.zeroCells z.cells (nc-n)).toList:=by
   rw[hnews,Array.toList_append]
   congr 1
   rw[← sS hkl hk0 n]
   simp only[Builtin.zeroCells,hzc]
   rw[show(enc z0).toArray.size=k from by simpa using hkl]
  rw[h8] at h7
  have h5:=Sat.nu (enc:=enc) (k:=k) (b:=w.drew.heap.size) (cap:=nc) (xs:=List.replicate n z0) (sp:=(Builtin.zeroCells z.cells (nc-n)).toList) (by simpa using hnc1) (fun x hx=>by rw[List.eq_of_mem_replicate hx];exact hkl) (by
   rw[Array.length_toList,nH,hzs,List.length_replicate]) h7
  rw[List.length_replicate] at h5
  exact h5
theorem af.Bc{enc:α→List Value}{k:Nat}(z0:α){x y:Operand}{t t2 e ty:TypeId}{kd k2:IntKind}{i:TypeInfo}{z:Value}{m:Int}(n:Nat){pos:String}{after:Array Edge}{guard:Option (Nat×Bool)}{d:Nat}(hN:Nat.blt d N=true)
  (hu:P.underlying t=some (.slice e)) (hu2:P.underlying t2=some (.int k2)) (hi:∀ w,(typeInfo e).run P w = .ok i w) (hz:i.zero=some z) (hk:i.size=k) (hzc:z.cells=(enc z0).toArray) (hkl:(enc z0).length=k) (hk0:0<k) (hb:1≤i.bytes∧i.bytes≤4096)
  (hx:ev L x=some (.slice none 0 0)) (hy:ev L y=some (.int kd m)) (hm:m=(n:Int)) (hn:0<n∧n≤1000000000) :
  af P W N ⟨some d,.call ⟨.builtin .append, #[x,y], #[t,t2]⟩,ty,pos,after,guard⟩ L H (fun L1 H1=>∃ q:Nat×Nat,n≤q.2∧L1=(d,some (.slice (some ⟨q.1,0,none⟩) n q.2))::L∧H1=sl enc k (.slice (some ⟨q.1,0,none⟩) n q.2) (List.replicate n z0)::H):=fun a w ha hs Kp hK=>by
 subst hm
 obtain⟨b,c,w',h1,hc,h2⟩:=sX (P:=P) (ty:=ty) (kd:=kd) z0 hu hu2 hi hz hk hzc hkl hk0 hb hn hs
 have hrun:(execOp a.eval ⟨some d,.call ⟨.builtin .append, #[x,y], #[t,t2]⟩,ty,pos,after,guard⟩).run P w = .ok (.value (.slice (some ⟨b,0,none⟩) n c)) w':=by
  simp[execOp,resolve,invoke,builtin,ha.eval hx,ha.eval hy,h1]
 unfold Oper.wp
 rw[hrun]
 simp only[Oper.upon]
 exact hK _ _ ⟨(b,c),hc,rfl,rfl⟩ _ _ (ha.put (Nat.blt_eq.mp hN) _) h2
theorem D3{enc:α→List Value}{k b n c:Nat}{xs:List α}(m:Nat)(hm:m≤xs.length):∀ h,sl enc k (.slice (some ⟨b,0,none⟩) n c) xs h→seps [sl enc k (.slice (some ⟨b,0,none⟩) m c) (xs.take m)] h:=by
 rintro h (⟨⟨a',e⟩,hx,he⟩ | ⟨b',cap',sp,e,hle,hk,hsp,a1⟩)
 ·cases e
  subst hx
  have:m=0:=by simpa using hm
  subst this
  simp only[seps,aJ]
  exact .inl ⟨⟨_,rfl⟩,rfl,he⟩
 ·cases e
  simp only[seps,aJ]
  have hl:(xs.take m).length=m:=by rw[List.length_take];omega
  have:sl enc k (.slice (some ⟨b,0,none⟩) (xs.take m).length c) (xs.take m) h:=by
   refine .inr ⟨b,c,rows enc (xs.drop m)++sp,rfl,by omega,fun x hx=>hk x (List.mem_of_mem_take hx),?_,?_⟩
   ·rw[List.length_append,bo (fun x hx=>hk x (List.mem_of_mem_drop hx)),List.length_drop,hsp,hl, ← Nat.add_mul]
    congr 1;omega
   ·rw[← List.append_assoc, ← cn,List.take_append_drop];exact a1
  rwa [hl] at this
theorem ir.Gg{w:World}{enc:α→List Value}{k m:Nat}{u:Value}{ys:List α}(h:ir w enc k u ys)(hm:m≤ys.length):(Builtin.firstCells k m u).run P w = .ok (rows enc (ys.take m)).toArray w:=by
 have h1:=(h.cut (lo:=0) (hi:=m) (Nat.zero_le _) hm).firstCells (P:=P)
 obtain⟨⟨a,cap,rfl,_⟩,_⟩:=h
 rw[List.drop_zero,List.length_take,Nat.min_eq_left hm] at h1
 have e:Builtin.firstCells k m (Value.slice a ys.length cap)=Builtin.firstCells k m (SLYthlllpngkljgfaaGreat.cut k 0 m (Value.slice a ys.length cap)):=by
  simp only[SLYthlllpngkljgfaaGreat.cut]
  cases a with
  | none=>simp[Builtin.firstCells]
  | some p=>split <;> simp[Builtin.firstCells,Addr.add]
 rw[e];exact h1
theorem af.Bd{enc:α→List Value}{k b i len cap c':Nat}{x y:Operand}{t t2 e ty:TypeId}{u:Value}{xs ys:List α}{pos:String}{after:Array Edge}{guard:Option (Nat×Bool)}{d:Nat}(hN:Nat.blt d N=true)(hu:P.underlying t=some (.slice e))(hz:∀ w,(sizeOf e).run P w = .ok k w)
  (hx:ev L x=some (.slice (some ⟨b,i * k,none⟩) (len-i) c')) (hy:ev L y=some u) (hr:Rd W H enc k u ys) (ht:Take H (sl enc k (.slice (some ⟨b,0,none⟩) len cap) xs) R) (hl:xs.length=len) (hi:i≤len) (h0:0<len) (hone:∀ y∈ys, ∀ c∈enc y,c.oneCell'=true) :
  af P W N ⟨some d,.call ⟨.builtin .copy, #[x,y], #[t,t2]⟩,ty,pos,after,guard⟩ L H (fun L1 H1=>L1=(d,some (.int .i64 ((min ys.length (len-i):Nat):Int)))::L∧
   H1=sl enc k (.slice (some ⟨b,0,none⟩) len cap) (xs.take i++(ys.take (min ys.length (len-i))++xs.drop (i+min ys.length (len-i))))::R):=fun a w ha hs Kp hK=>by
 have hrd:=hr w hs
 rw[ht.seps] at hs
 subst hl
 generalize hm:min ys.length (xs.length-i)=m at hK
 have hm1:m≤ys.length:=by omega
 have hm2:i+m≤xs.length:=by omega
 have hf:=hrd.Gg (P:=P) hm1
 have hue:=hrd
 obtain⟨⟨ua,ucap,hue,_⟩,hyk,_⟩:=hue
 have hln:(Builtin.lenOf u).run P w = .ok ys.length w:=by rw[hue];simp[Builtin.lenOf]
 have hmin:Nat.min ys.length (xs.length-i)=m:=hm
 have fin:∀ w',(execOp a.eval ⟨some d,.call ⟨.builtin .copy, #[x,y], #[t,t2]⟩,ty,pos,after,guard⟩).run P w = .ok (.value (.int .i64 (m:Int))) w'→
   Sat W w' (sep (sl enc k (.slice (some ⟨b,0,none⟩) xs.length cap) (xs.take i++(ys.take m++xs.drop (i+m)))) (seps R))→Oper.wp P ⟨some d,.call ⟨.builtin .copy, #[x,y], #[t,t2]⟩,ty,pos,after,guard⟩ a w Kp QF:=fun w' hrun hs'=>by
  unfold Oper.wp
  rw[hrun]
  simp only[Oper.upon]
  exact hK _ _ ⟨rfl,rfl⟩ _ _ (ha.put (Nat.blt_eq.mp hN) _) hs'
 rcases hs.qY with ⟨⟨va,hv0⟩,hx0,hs0⟩ | ⟨b',cap',sp,hv,hle,hkk,hsp,hs1⟩
 ·subst hx0;exact absurd h0 (by simp)
 ·cases hv
  have hlm:(ys.take m).length=m:=by rw[List.length_take];omega
  have hrl:(rows enc (ys.take m)).length=m * k:=by rw[bo (fun z hz=>hyk z (List.mem_of_mem_take hz)),hlm]
  have hone':∀ c∈rows enc (ys.take m),c.oneCell'=true:=fun c hc=>by
   obtain⟨z,hz,hc⟩:=List.mem_flatMap.1 hc
   exact hone z (List.mem_of_mem_take hz) c hc
  have hlx:(rows enc xs).length=xs.length * k:=bo hkk
  have hmk:i * k+m * k≤xs.length * k:=by rw[← Nat.add_mul];exact Nat.mul_le_mul_right _ hm2
  obtain⟨w',h1,h2⟩:=eF (P:=P) (rows enc (ys.take m)) (rows enc xs++sp) (i * k) 0 w hs1 hone' (by rw[List.length_append,hrl,hlx];omega)
  refine fin w' ?_ ?_
  ·simp only[Nat.zero_add] at h1
   simp[execOp,resolve,invoke,builtin,Builtin.copy_,run_underlying hu,ha.eval hx,ha.eval hy,hln,hz,hmin,hf,h1,goInt]
  ·have e9:rows enc xs++sp=rows enc (xs.take i)++(rows enc (xs.drop i)++sp):=by
    rw[← List.append_assoc, ← cn,List.take_append_drop]
   have hti:(rows enc (xs.take i)).length=i * k:=by rw[bo (fun z hz=>hkk z (List.mem_of_mem_take hz)),List.length_take];congr 1;omega
   have hdi:(rows enc (xs.drop i)).length=(xs.length-i) * k:=by rw[bo (fun z hz=>hkk z (List.mem_of_mem_drop hz)),List.length_drop]
   have e3:setFrom (rows enc xs++sp) (i * k+0) (rows enc (ys.take m))=rows enc (xs.take i++(ys.take m++xs.drop (i+m)))++sp:=by
    rw[Nat.add_zero,e9, ← hti,jH (by rw[List.length_append,hrl,hdi];have:=Nat.mul_le_mul_right k (show m≤xs.length-i by omega);omega),hrl,cn,cn]
    rw[List.drop_append_of_le_length (by rw[hdi];exact Nat.mul_le_mul_right k (by omega))]
    have:(rows enc (xs.drop i)).drop (m * k)=rows enc (xs.drop (i+m)):=by
     have hsplit:rows enc (xs.drop i)=rows enc ((xs.drop i).take m)++rows enc ((xs.drop i).drop m):=by rw[← cn,List.take_append_drop]
     have hlen:(rows enc ((xs.drop i).take m)).length=m * k:=by
      rw[bo (fun z hz=>hkk z (List.mem_of_mem_drop (List.mem_of_mem_take hz))),List.length_take,List.length_drop];congr 1;omega
     rw[hsplit, ← hlen,List.drop_left,List.drop_drop]
    rw[this];simp
   rw[e3] at h2
   have hnl:(xs.take i++(ys.take m++xs.drop (i+m))).length=xs.length:=by simp only[List.length_append,List.length_take,List.length_drop];omega
   have:=Sat.nu (enc:=enc) (k:=k) (b:=b) (cap:=cap) (xs:=xs.take i++(ys.take m++xs.drop (i+m))) (sp:=sp) (by omega) (fun z hz=>by
    rcases List.mem_append.1 hz with h | h
    ·exact hkk z (List.mem_of_mem_take h)
    ·rcases List.mem_append.1 h with h | h
     ·exact hyk z (List.mem_of_mem_take h)
     ·exact hkk z (List.mem_of_mem_drop h)) (by rw[hnl];exact hsp) h2
   rwa [hnl] at this
end
end Go.SLYthlllpngkljgfaaGreat
namespace Go.SLYthlllpngkljgfaaGreat
open Go Go.RowKit
theorem oJ(l:List Int):∀ y∈l, ∀ c∈au y,c.oneCell'=true:=fun y _ c hc=>by simp only[au,List.mem_cons,List.not_mem_nil,or_false] at hc;subst hc;rfl
theorem sY(l:List Int):∀ y∈l, ∀ c∈cO y,c.oneCell'=true:=fun y _ c hc=>by simp only[cO,List.mem_cons,List.not_mem_nil,or_false] at hc;subst hc;rfl
theorem kH{α:Type}{enc:α→List Value}(h:∀ x,(enc x).all (·.oneCell')=true)(l:List α):∀ y∈l, ∀ c∈enc y,c.oneCell'=true:=fun y _ c hc=>List.all_eq_true.1 (h y) c hc
theorem CL(l:List Ev):∀ y∈l, ∀ c∈cr y,c.oneCell'=true:=kH (fun _=>rfl) l
theorem y9(l:List Rec):∀ y∈l, ∀ c∈cP y,c.oneCell'=true:=kH (fun _=>rfl) l
theorem Gh(l:List Ins):∀ y∈l, ∀ c∈dH y,c.oneCell'=true:=kH (fun _=>rfl) l
theorem Gi(l:List vC):∀ y∈l, ∀ c∈gJ y,c.oneCell'=true:=kH (fun _=>rfl) l
theorem Gj(l:List eS):∀ y∈l, ∀ c∈dn y,c.oneCell'=true:=kH (fun _=>rfl) l
theorem Gk(l:List Ptr):∀ y∈l, ∀ c∈lK y,c.oneCell'=true:=kH (fun _=>rfl) l
def isSl:Value→Bool
 | .slice .. => true
 | _=>false
theorem gb{v:Value}(h:isSl v=true):v.oneCell'=true:=by cases v <;> simp_all [isSl,Value.oneCell']
section
variable{P:Program}{W:World}{H:List aa}{α:Type}
theorem Rd.sZ{enc:α→List Value}{k:Nat}{v:Value}{xs:List α}(h:Rd W H enc k v xs)(hn:F6 v=true):∀ w,Sat W w (seps H)→xs=[]:=fun w s=>by
 obtain⟨⟨a,cap,hv,_,_,hnn⟩,_⟩:=h w s
 subst hv
 cases a with
 | none=>exact hnn rfl
 | some p=>cases hn
theorem rQ{enc:α→List Value}{k:Nat}{a:Option Addr}{n cap:Nat}{xs:List α}:∀ h,sl enc k (.slice a n cap) xs h→ ∃ J:aa,True∧seps [sl enc k (.slice a n n) xs,J] h:=by
 rintro h (⟨⟨a',e⟩,hx,he⟩ | ⟨b,cap',sp,e,hle,hk,hsp,a1⟩)
 ·cases e
  exact⟨emp,trivial,by simp only[seps,aJ];exact .inl ⟨⟨_,rfl⟩,hx,he⟩⟩
 ·cases e
  rw[dR] at a1
  refine⟨arr b (0+(rows enc xs).length) sp,trivial,?_⟩
  ·simp only[seps,aJ]
   exact ba (fun h a=>.inr ⟨b,xs.length,[],rfl,Nat.le_refl _,hk,by simp,by rw[List.append_nil];exact a⟩) (fun _ h=>h) h a1
theorem drop_cons{xs:List α}{k:Nat}{x:α}(h:xs[k]?=some x):xs.drop k=x::xs.drop (k+1):=by
 have hi:=(List.getElem?_eq_some_iff.1 h).1
 rw[List.drop_eq_getElem_cons hi,(List.getElem?_eq_some_iff.1 h).2]
theorem aX{l:List α}{k:Nat}{x:α}(h:l[k]?=some x):l.take (k+1)=l.take k++[x]:=by
 have hi:=(List.getElem?_eq_some_iff.1 h).1
 rw[List.take_add_one,h];rfl
theorem Rd.ez{enc:α→List Value}{k:Nat}{v:Value}{xs:List α}{As:List aa}(h:Rd W As enc k v xs):Rd W [seps As] enc k v xs:=fun w s=>h w (by simpa only[seps,aJ] using s)
theorem mR{β:Type}{f:α→List β}{qs:List α}{k:Nat}{q:α}(h:qs[k]?=some q):(qs.take (k+1)).flatMap f=(qs.take k).flatMap f++f q:=by rw[aX h,List.flatMap_append];simp
theorem CM{β:Type}{f:α→List β}(qs:List α)(k:Nat):((qs.take k).flatMap f).length≤(qs.flatMap f).length:=by
 conv=>rhs;rw[← List.take_append_drop k qs,List.flatMap_append,List.length_append]
 omega
theorem Rd.rep{b j n c:Nat}{a:Int}(_hj:j≤n)(h:Rd W H au 1 (.slice (some ⟨b,0,none⟩) n c) (List.replicate j a++List.replicate (n-j) 0)):Rd W H au 1 (.slice (some ⟨b,0,none⟩) j c) (List.replicate j a):=by
 have:=h.pre (j:=j) (by simp)
 rwa [List.take_left' (by simp)] at this
theorem Gl(j n:Nat)(a:Int)(hj:j≤n):(List.replicate j a++List.replicate (n-j) 0).take j++((List.replicate j a).take (min (List.replicate j a).length (n-j))++(List.replicate j a++List.replicate (n-j) 0).drop (j+min (List.replicate j a).length (n-j))) =
  List.replicate (j+min j (n-j)) a++List.replicate (n-(j+min j (n-j))) 0:=by
 rw[List.take_left' (by simp),List.take_replicate,List.drop_append,List.length_replicate]
 rw[List.drop_of_length_le (by simp),List.nil_append,List.drop_replicate, ← List.append_assoc,List.replicate_append_replicate]
 congr 2 <;> omega
theorem za{xs:List α}{k:Nat}{x y:α}(h:xs[k]?=some x):(xs.set k y)[k]?=some y:=by simp[(List.getElem?_eq_some_iff.1 h).1]
theorem ak{xs:List α}{k:Nat}(h:k<xs.length):∃ x,xs[k]?=some x:=⟨xs[k],by simp[h]⟩
end
def idxFrom(x:Int):List Int→Nat→Int
 | [],_ => -1
 | y::l,n=>if x=y then n else idxFrom x l (n+1)
def idxOf(x:Int)(l:List Int):Int:=idxFrom x l 0
theorem Ji{x y:Int}{l:List Int}{k:Nat}(h:l[k]?=some y)(e:x=y):idxFrom x (l.drop k) k=k:=by rw[drop_cons h,idxFrom,if_pos e]
theorem Gm{x y:Int}{l:List Int}{k:Nat}(h:l[k]?=some y)(e:¬x=y):idxFrom x (l.drop k) k=idxFrom x (l.drop (k+1)) (k+1):=by rw[drop_cons h,idxFrom,if_neg e]
theorem Jj{x:Int}{l:List Int}{k:Nat}(h:l.length≤k):idxFrom x (l.drop k) k = -1:=by rw[List.drop_of_length_le h];rfl
theorem xv(x:Int)(l:List Int):∀ k,decide (0≤idxFrom x l k)=l.contains x:=by
 induction l with
 | nil=>intro k;rfl
 | cons y l ih =>
  intro k
  rw[idxFrom]
  by_cases h:x=y
  ·subst h;simp
  ·rw[if_neg h,ih,List.contains_cons];simp[h]
def minOf(l:List Int):Int:=l.tail.foldl min (l.headD 0)
end Go.SLYthlllpngkljgfaaGreat
namespace Go.SLYthlllpngkljgfaaGreat
open Go Go.RowKit
section
variable{P:Program}{W:World}{N:Nat}{Q:Exit→Act→World→Prop}{O:Array Oper}{L:List (Nat×Option Value)}{H K R:List aa}{T:TypeId}{C:World→Prop}
theorem xw{n:Act→World→Prop}(h:LetsOut (Exit.then n Q)):LetsOut Q:=h
theorem CN{o:Oper}{n:Act→World→Prop}{a:Act}{w:World}{Kp:Act→World→Prop}(h:o.wp P a w Kp (Exit.then n Q)):o.wp P a w Kp Q:=by
 unfold Oper.wp at *
 generalize (execOp a.eval o).run P w=r at *
 cases r with
 | ok n w' =>
  cases n <;> simp only[Oper.upon] at h ⊢
  case value v=>exact h
  case skip=>exact h
  case enter f args=>exact Calls.mono h (fun e w'' he=>by cases e <;> exact he)
  case row r' args=>exact h
  case defer d=>exact h
 | halt x w'=>cases x <;> simp only[Oper.upon] at h ⊢ <;> exact h
theorem zb{o:Oper}{n n':Act→World→Prop}{a:Act}{w:World}{Kp:Act→World→Prop}(h:o.wp P a w Kp (Exit.then n Q)):o.wp P a w Kp (Exit.then n' Q):=by
 unfold Oper.wp at *
 generalize (execOp a.eval o).run P w=r at *
 cases r with
 | ok n w' =>
  cases n <;> simp only[Oper.upon] at h ⊢
  case value v=>exact h
  case skip=>exact h
  case enter f args=>exact Calls.mono h (fun e w'' he=>by cases e <;> exact he)
  case row r' args=>exact h
  case defer d=>exact h
 | halt x w'=>cases x <;> simp only[Oper.upon] at h ⊢ <;> exact h
theorem kI{M M':Act→World→Prop}(hm:∀ a w,M a w→M' a w):∀ (ops:List Oper) (a:Act) (w:World),wpList P O (Exit.then M Q) ops a w→wpList P O (Exit.then M' Q) ops a w
 | [],a,w,h=>hm a w h
 | o::ops,a,w,h=>by
  unfold wpList at h ⊢
  split
  ·rename_i hw
   rw[if_pos hw] at h
   rcases h with h | ⟨h1,h2⟩
   ·exact .inl (zb (Oper.wp_mono (fun a w h=>kI hm ops a w h) h))
   ·exact .inr ⟨h1,h2⟩
  ·rename_i hw
   rw[if_neg hw] at h
   exact kI hm ops _ w h
theorem s4{M M':Act→World→Prop}(hm:∀ a w,M a w→M' a w):∀ (ks:List Nat) (ops:List Oper) (a:Act) (w:World),wpKL P O C (Exit.then M Q) ks ops a w→wpKL P O C (Exit.then M' Q) ks ops a w
 | [],[],a,w,h=>hm a w h
 | _::_,[],a,w,h=>hm a w h
 | [],_::_,_,_,h=>h
 | k::ks,o::ops,a,w,h=>by
  have ih:=s4 hm ks ops
  match k with
  | 0 =>
   obtain⟨hc,v,hy,h⟩:=h
   exact⟨hc,v,hy,ih _ _ h⟩
  | 1 =>
   obtain⟨v,hy,h⟩:=h
   exact⟨v,hy,ih _ _ h⟩
  | 2 =>
   obtain⟨hc,h⟩:=h
   refine⟨hc,?_⟩
   split
   ·rename_i hw
    rw[if_pos hw] at h
    exact Oper.wp_mono (fun a w ⟨x,y⟩=>⟨x,ih _ _ y⟩) h
   ·rename_i hw
    rw[if_neg hw] at h
    exact ih _ _ h
  | k+3 =>
   simp only[wpKL] at h ⊢
   split
   ·rename_i hw
    rw[if_pos hw] at h
    exact zb (Oper.wp_mono (fun a w h=>ih _ _ h) h)
   ·rename_i hw
    rw[if_neg hw] at h
    exact ih _ _ h
theorem nL:∀ (n:Nat) (ops:List Oper) (a:Act) (w:World),wpList P O (Exit.then (wpList P O Q (ops.drop n)) Q) (ops.take n) a w→wpList P O Q ops a w
 | 0,ops,a,w,h=>h
 | n+1,[],a,w,h=>h
 | n+1,o::ops,a,w,h=>by
  simp only[List.take_succ_cons,List.drop_succ_cons] at h
  unfold wpList at h ⊢
  split
  ·rename_i hw
   rw[if_pos hw] at h
   rcases h with h | ⟨h1,h2⟩
   ·exact .inl (CN (Oper.wp_mono (fun a w h=>nL n ops a w h) h))
   ·exact .inr ⟨h1,xw h2⟩
  ·rename_i hw
   rw[if_neg hw] at h
   exact nL n ops _ w h
theorem zd:∀ (n:Nat) (ks:List Nat) (ops:List Oper) (a:Act) (w:World),wpKL P O C (Exit.then (wpKL P O C Q (ks.drop n) (ops.drop n)) Q) (ks.take n) (ops.take n) a w→wpKL P O C Q ks ops a w
 | 0,ks,ops,a,w,h=>by
  cases ks <;> exact h
 | n+1,ks,[],a,w,h=>by
  cases ks with
  | nil=>exact h
  | cons k ks =>
   have h':wpKL P O C Q (ks.drop n) [] a w:=h
   revert h'
   generalize ks.drop n=l
   intro h'
   cases l <;> exact h'
 | n+1,[],o::ops,a,w,h=>h
 | n+1,k::ks,o::ops,a,w,h=>by
  simp only[List.take_succ_cons,List.drop_succ_cons] at h
  have ih:=fun a w=>zd n ks ops a w
  match k with
  | 0 =>
   obtain⟨hc,v,hy,h⟩:=h
   exact⟨hc,v,hy,ih _ _ h⟩
  | 1 =>
   obtain⟨v,hy,h⟩:=h
   exact⟨v,hy,ih _ _ h⟩
  | 2 =>
   obtain⟨hc,h⟩:=h
   refine⟨hc,?_⟩
   split
   ·rename_i hw
    rw[if_pos hw] at h
    exact Oper.wp_mono (fun a w ⟨x,y⟩=>⟨x,ih _ _ y⟩) h
   ·rename_i hw
    rw[if_neg hw] at h
    exact ih _ _ h
  | k+3 =>
   simp only[wpKL] at h ⊢
   split
   ·rename_i hw
    rw[if_pos hw] at h
    exact CN (Oper.wp_mono (fun a w h=>ih _ _ h) h)
   ·rename_i hw
    rw[if_neg hw] at h
    exact ih _ _ h
abbrev kJ(W:World)(N:Nat)(Q:Exit→Act→World→Prop)(d:Nat)(v:Value)(ks:List Nat)(L:List (Nat×Option Value))(H:List aa):Exit→Act→World→Prop :=
 Exit.then (Np W N (fun _:Unit=>True) (fun _=>[(d,some v)]++(nones ks++L)) (fun _=>H)) Q
theorem aS.cut{ops:List Oper}{d:Nat}{v:Value}{ks:List Nat}(n:Nat)(h1:aS P W N O (kJ W N Q d v ks L H) (ops.take n) L H)(h2:aS P W N O Q (ops.drop n) ((d,some v)::(nones ks++L)) H):aS P W N O Q ops L H:=fun a w ha hs =>
 nL n ops a w (kI (fun a w ⟨_,_,ha',hs'⟩=>h2 a w ha' hs') _ _ _ (h1 a w ha hs))
theorem bc.cut{ops:List Oper}{d:Nat}{v:Value}{ks kd:List Nat}(n:Nat)(h1:bc P W N K O (kJ W N Q d v ks L H) (kd.take n) (ops.take n) L H)(h2:bc P W N K O Q (kd.drop n) (ops.drop n) ((d,some v)::(nones ks++L)) H):bc P W N K O Q kd ops L H:=fun a w ha hs =>
 zd n kd ops a w (s4 (fun a w ⟨_,_,ha',hs'⟩=>h2 a w ha' hs') _ _ _ _ (h1 a w ha hs))
section
variable{ops:List Oper}{d t:Nat}{ks kd:List Nat}{b e:Bool}{p:Prop}[Decidable p]
theorem aS.gd(n d t:Nat)(ks:List Nat)(ht:look L t=some (.bool b))(h1:b=true→aS P W N O (kJ W N Q d (.bool e) ks L H) (ops.take n) ((t,some (.bool true))::L) H)(h0:b=false→aS P W N O (kJ W N Q d (.bool false) ks L H) (ops.take n) ((t,some (.bool false))::L) H)
  (h2:aS P W N O Q (ops.drop n) ((d,some (.bool (b && e)))::(nones ks++L)) H):aS P W N O Q ops L H :=
 aS.cut (v:=.bool (b && e)) (ks:=ks) n (.part ht (fun h=>by subst h;exact h1 rfl) (fun h=>by subst h;exact h0 rfl)) h2
theorem aS.iw(n d t:Nat)(ks:List Nat)(ht:look L t=some (.bool b))(h1:b=false→aS P W N O (kJ W N Q d (.bool e) ks L H) (ops.take n) ((t,some (.bool false))::L) H)(h0:b=true→aS P W N O (kJ W N Q d (.bool true) ks L H) (ops.take n) ((t,some (.bool true))::L) H)
  (h2:aS P W N O Q (ops.drop n) ((d,some (.bool (b || e)))::(nones ks++L)) H):aS P W N O Q ops L H :=
 aS.cut (v:=.bool (b || e)) (ks:=ks) n (.part ht (fun h=>by subst h;exact h0 rfl) (fun h=>by subst h;exact h1 rfl)) h2
theorem aS.gz(n d t:Nat)(ks:List Nat)(ht:look L t=some (.bool (decide p)))(h1:p→aS P W N O (kJ W N Q d (.bool e) ks L H) (ops.take n) ((t,some (.bool true))::L) H)(h0:¬p→aS P W N O (kJ W N Q d (.bool false) ks L H) (ops.take n) ((t,some (.bool false))::L) H)
  (h2:aS P W N O Q (ops.drop n) ((d,some (.bool (decide p && e)))::(nones ks++L)) H):aS P W N O Q ops L H :=
 aS.gd n d t ks ht (fun h=>h1 (of_decide_eq_true h)) (fun h=>h0 (of_decide_eq_false h)) h2
theorem aS.gf(n d t:Nat)(ks:List Nat)(ht:look L t=some (.bool (decide p)))(h1:¬p→aS P W N O (kJ W N Q d (.bool e) ks L H) (ops.take n) ((t,some (.bool false))::L) H)(h0:p→aS P W N O (kJ W N Q d (.bool true) ks L H) (ops.take n) ((t,some (.bool true))::L) H)
  (h2:aS P W N O Q (ops.drop n) ((d,some (.bool (decide p || e)))::(nones ks++L)) H):aS P W N O Q ops L H :=
 aS.iw n d t ks ht (fun h=>h1 (of_decide_eq_false h)) (fun h=>h0 (of_decide_eq_true h)) h2
theorem bc.gd(n d t:Nat)(ks:List Nat)(ht:look L t=some (.bool b))(h1:b=true→bc P W N K O (kJ W N Q d (.bool e) ks L H) (kd.take n) (ops.take n) ((t,some (.bool true))::L) H)(h0:b=false→bc P W N K O (kJ W N Q d (.bool false) ks L H) (kd.take n) (ops.take n) ((t,some (.bool false))::L) H)
  (h2:bc P W N K O Q (kd.drop n) (ops.drop n) ((d,some (.bool (b && e)))::(nones ks++L)) H):bc P W N K O Q kd ops L H :=
 bc.cut (v:=.bool (b && e)) (ks:=ks) n (.part ht (fun h=>by subst h;exact h1 rfl) (fun h=>by subst h;exact h0 rfl)) h2
theorem bc.iw(n d t:Nat)(ks:List Nat)(ht:look L t=some (.bool b))(h1:b=false→bc P W N K O (kJ W N Q d (.bool e) ks L H) (kd.take n) (ops.take n) ((t,some (.bool false))::L) H)(h0:b=true→bc P W N K O (kJ W N Q d (.bool true) ks L H) (kd.take n) (ops.take n) ((t,some (.bool true))::L) H)
  (h2:bc P W N K O Q (kd.drop n) (ops.drop n) ((d,some (.bool (b || e)))::(nones ks++L)) H):bc P W N K O Q kd ops L H :=
 bc.cut (v:=.bool (b || e)) (ks:=ks) n (.part ht (fun h=>by subst h;exact h0 rfl) (fun h=>by subst h;exact h1 rfl)) h2
theorem bc.gz(n d t:Nat)(ks:List Nat)(ht:look L t=some (.bool (decide p)))(h1:p→bc P W N K O (kJ W N Q d (.bool e) ks L H) (kd.take n) (ops.take n) ((t,some (.bool true))::L) H)(h0:¬p→bc P W N K O (kJ W N Q d (.bool false) ks L H) (kd.take n) (ops.take n) ((t,some (.bool false))::L) H)
  (h2:bc P W N K O Q (kd.drop n) (ops.drop n) ((d,some (.bool (decide p && e)))::(nones ks++L)) H):bc P W N K O Q kd ops L H :=
 bc.gd n d t ks ht (fun h=>h1 (of_decide_eq_true h)) (fun h=>h0 (of_decide_eq_false h)) h2
theorem bc.gf(n d t:Nat)(ks:List Nat)(ht:look L t=some (.bool (decide p)))(h1:¬p→bc P W N K O (kJ W N Q d (.bool e) ks L H) (kd.take n) (ops.take n) ((t,some (.bool false))::L) H)(h0:p→bc P W N K O (kJ W N Q d (.bool true) ks L H) (kd.take n) (ops.take n) ((t,some (.bool true))::L) H)
  (h2:bc P W N K O Q (kd.drop n) (ops.drop n) ((d,some (.bool (decide p || e)))::(nones ks++L)) H):bc P W N K O Q kd ops L H :=
 bc.iw n d t ks ht (fun h=>h1 (of_decide_eq_false h)) (fun h=>h0 (of_decide_eq_true h)) h2
theorem bx.oy{d:Nat}{v:Value}{ks:List Nat}{L0:List (Nat×Option Value)}{H0:List aa}(t:AY ks L L0)(hv:look L d=some v)(hH:∀ w,Sat W w (seps H)→Sat W w (seps H0)):bx W N (kJ W N Q d v ks L0 H0) .normal L H :=
 bx.nj () t trivial ⟨hv,trivial⟩ hH
end
end
end Go.SLYthlllpngkljgfaaGreat
namespace Go.SLYthlllpngkljgfaaGreat
open Go Go.RowKit
theorem ze{k:IntKind}{m n:Int}(h:m=n):Ending.returned (Value.int k m) = .returned (.int k n):=by rw[h]
theorem Lb{m n:Bool}(h:m=n):Ending.returned (Value.bool m) = .returned (.bool n):=by rw[h]
def dZ(f:Form):List Value:=[.int .i64 f.aI,.bool f.mutex,.int .i64 f.n,.bool f.any]
def Be(v:aN):Bool :=
 decide (0<(v.fs.length:Int)) && decide ((v.fs.length:Int)≤8) && within v.words 64 && within v.bu 4 && within v.conds 4 && within v.blocks 64 && within v.prio 7 && decide ((v.bI.length:Int)≤4) && decide ((v.aZ.length:Int)≤4)
def qg(v:aN)(k:Nat):Bool:=Be v && (v.fs.take k).all fun f=>decide ((f.2.length:Int)≤256)
def qh(v:aN)(k:Nat):Bool:=qg v v.fs.length && (v.bI.take k).all fun n=>within n 1048576
def qi(v:aN)(k:Nat):Bool:=qh v v.bI.length && (v.aZ.take k).all fun n=>decide (0<n) && within n 8
theorem j8{α:Type}{p:α→Bool}{l:List α}{k:Nat}{x:α}(h:l[k]?=some x):(l.take (k+1)).all p=((l.take k).all p && p x):=by rw[aX h,List.all_append];simp
theorem Gn(v:aN):qi v v.aZ.length=gX v.p:=by
 obtain⟨fv,fs,words,bu,conds,sv,bI,pv,aZ,blocks,prio⟩:=v
 have e0:∀ n:Nat,decide (0<(n:Int))=decide (0<n):=fun n=>by rw[decide_eq_decide];omega
 have e8:∀ n:Nat,decide ((n:Int)≤8)=decide (n≤8):=fun n=>by rw[decide_eq_decide];omega
 have e4:∀ n:Nat,decide ((n:Int)≤4)=decide (n≤4):=fun n=>by rw[decide_eq_decide];omega
 have e2:∀ n:Nat,decide ((n:Int)≤256)=decide (n≤256):=fun n=>by rw[decide_eq_decide];omega
 unfold qi qh qg Be gX aN.p
 simp only[List.take_length,List.length_map,List.all_map,e0,e8,e4,e2]
 rfl
theorem s5{p:fM}(h:gX p=true):0<p.funcs.length∧p.funcs.length≤8∧(0≤p.words∧p.words≤64)∧(0≤p.bu∧p.bu≤4)∧(0≤p.conds∧p.conds≤4)∧(0≤p.blocks∧p.blocks≤64)∧(0≤p.prio∧p.prio≤7)∧p.bI.length≤4∧p.aZ.length≤4∧
  (∀ f∈p.funcs,f.length≤256)∧(∀ n∈p.bI,0≤n∧n≤1048576)∧(∀ n∈p.aZ,0<n∧n≤8):=by
 unfold gX within at h
 simp only[Bool.and_eq_true,decide_eq_true_eq,List.all_eq_true] at h
 obtain⟨⟨⟨⟨⟨⟨⟨⟨⟨⟨⟨h1,h2⟩,h3⟩,h4⟩,h5⟩,h6⟩,h7⟩,h8⟩,h9⟩,h10⟩,h11⟩,h12⟩:=h
 exact⟨h1,h2,h3,h4,h5,h6,h7,h8,h9,h10,h11,fun n hn=>⟨(h12 n hn).1,(h12 n hn).2.2⟩⟩
theorem CO{v:aN}(h:gX v.p=true){x:Value×List Ins}(hx:x∈v.fs):x.2.length≤256 :=
 (s5 h).2.2.2.2.2.2.2.2.2.1 x.2 (List.mem_map.2 ⟨x,hx,rfl⟩)
theorem MD{c:Prop}[Decidable c]{x y:Form}{m:Int}(hx:x.n≤m)(hy:y.n≤m):(if c then x else y).n≤m:=by split <;> assumption
theorem D4{p:fM}(h:gX p=true)(op:Int):(bR p op).n≤9223372036854775807:=by
 obtain⟨h1,h2,_,h4,h5,_,_,h8,h9,_⟩:=s5 h
 unfold bR
 repeat' apply MD
 all_goals (show(_:Int)≤_;simp only;omega)
theorem D5{v:aN}(h:gX v.p=true){k j:Nat}{x:Value×List Ins}{i:Ins}(hx:v.fs[k]?=some x)(hj:x.2[j]?=some i)(hs:iK v.p i=false):de v.p=8:=by
 unfold de
 rw[if_pos h,if_neg]
 intro h'
 rw[List.all_eq_true] at h'
 have:=h' x.2 (List.mem_map.2 ⟨x,List.mem_of_getElem? hx,rfl⟩)
 rw[List.all_eq_true] at this
 have:=this i (List.mem_of_getElem? hj)
 rw[hs] at this;cases this
theorem Gp{v:aN}(h:gX v.p=true)(hs:v.fs.all (fun f:Value×List Ins=>f.2.all (iK v.p))=true):de v.p=0:=by
 unfold de
 rw[if_pos h,if_pos]
 rw[List.all_eq_true] at hs ⊢
 intro f hf
 obtain⟨x,hx,rfl⟩:=List.mem_map.1 hf
 exact hs x hx
end Go.SLYthlllpngkljgfaaGreat
namespace Go.SLYthlllpngkljgfaaGreat
open Go Go.RowKit
section
variable{P:Program}{W:World}{N:Nat}{Q:Exit→Act→World→Prop}{O:Array Oper}{L:List (Nat×Option Value)}{H K R:List aa}{T:TypeId}{α:Type}
theorem Y.index{x y:Operand}{t e n:Nat}{cs:Array Value}{v:Value}{kd:IntKind}{j:Int}(i:Nat)(hu:P.underlying t=some (.array n e))(ha:∀ w,(isAgg e).run P w = .ok false w)(hz:∀ w,(sizeOf e).run P w = .ok 1 w)(hx:ev L x=some (.agg cs))(hy:ev L y=some (.int kd j))(hj:j=(i:Int))(hi:i<n)(hv:cs[i]?=some v) :
  Y P W N (.index t x y) T L H v:=fun dst pos after guard a w he hs=>by
 subst hj
 simp only[execOp,he.eval hx,he.eval hy]
 refine bN ?_
 simp[Instr.index,asIntOf,run_underlying hu,hi,hz,part,ha,hv]
theorem Y.jK{x y:Operand}{ts:Array TypeId}{k:IntKind}{m n:Int}(hx:ev L x=some (.int k m))(hy:ev L y=some (.int k n)):Y P W N (.call ⟨.builtin .min, #[x,y],ts⟩) T L H (.int k (min m n)):=by
 have:=Y.min2 (P:=P) (W:=W) (N:=N) (H:=H) (T:=T) (ts:=ts) hx hy
 rwa [show(if n<m then n else m)=min m n from by omega] at this
theorem Y.oK{x y:Operand}{ts:Array TypeId}{k:IntKind}{m n:Int}(hx:ev L x=some (.int k m))(hy:ev L y=some (.int k n)):Y P W N (.call ⟨.builtin .max, #[x,y],ts⟩) T L H (.int k (max m n)):=by
 have:=Y.max2 (P:=P) (W:=W) (N:=N) (H:=H) (T:=T) (ts:=ts) hx hy
 rwa [show(if n>m then n else m)=max m n from by omega] at this
theorem af.makeMap{t:TypeId}{pos:String}{after:Array Edge}{guard:Option (Nat×Bool)}{d:Nat}(hN:Nat.blt d N=true) :
  af P W N ⟨some d,.makeMap t none,T,pos,after,guard⟩ L H (fun L1 H1=>∃ m,L1=(d,some (.map (some m)))::L∧H1=jk m (.map #[] 0)::H):=fun a w ha hs Kp hK=>by
 have hrun:(execOp a.eval ⟨some d,.makeMap t none,T,pos,after,guard⟩).run P w = .ok (.value (.map (some w.heap.size))) (w.alloc (.map #[] 0)):=by
  simp[execOp,Instr.makeMap,newObj,Sem.run]
 unfold Oper.wp
 rw[hrun]
 simp only[Oper.upon]
 exact hK _ _ ⟨w.heap.size,rfl,rfl⟩ _ _ (ha.put (Nat.blt_eq.mp hN) _) (hs.yK (.map #[] 0) rfl)
/-! ### a part of a thing, where it lies -/
theorem Sat.fact{w:World}{A:aa}{p:Prop}(s:Sat W w (seps H))(t:Take H A R)(e:∀ h,A h→p):p:=by
 rw[t.seps] at s
 obtain⟨h,⟨h1,h2,a,_⟩,_⟩:=s.own
 exact e h1 a
theorem Cell.sub{C:aa}{b o i:Nat}{cs:List Value}{v:Value}(t:At H C)(e:∀ h,C h→ ∃ J,sep (SLYthlllpngkljgfaaGreat.arr b o cs) J h)(hv:cs[i]?=some v):Cell W H b (o+i) v:=fun w s=>by
 obtain⟨R,s⟩:=t.sat s
 obtain⟨h,⟨h1,h2,a,r,d,e'⟩,hin⟩:=s.own
 obtain⟨J,a'⟩:=e h1 a
 have s2:Sat W w (sep (sep (SLYthlllpngkljgfaaGreat.arr b o cs) J) R):={s with own:=⟨h,⟨h1,h2,a',r,d,e'⟩,hin⟩ }
 rw[aU] at s2
 exact(ft s2 hv).2
theorem Cell.Nu{C:aa}{b i:Nat}{cs:List Value}{v:Value}(t:At H C)(e:∀ h,C h→ ∃ J,sep (SLYthlllpngkljgfaaGreat.arr b 0 cs) J h)(hv:cs[i]?=some v):Cell W H b i v:=by
 have:=Cell.sub (W:=W) t e hv
 rwa [Nat.zero_add] at this
theorem Rd.sub{C:aa}{enc:α→List Value}{k:Nat}{v:Value}{xs:List α}(t:At H C)(e:∀ h,C h→ ∃ J,sep (SLYthlllpngkljgfaaGreat.sl enc k v xs) J h):Rd W H enc k v xs:=fun w s=>by
 obtain⟨R,s⟩:=t.sat s
 obtain⟨h,⟨h1,h2,a,r,d,e'⟩,hin⟩:=s.own
 obtain⟨J,a'⟩:=e h1 a
 have s2:Sat W w (sep (sep (SLYthlllpngkljgfaaGreat.sl enc k v xs) J) R):={s with own:=⟨h,⟨h1,h2,a',r,d,e'⟩,hin⟩ }
 rw[aU] at s2
 exact(Rd.sl (W:=W) (H:=[SLYthlllpngkljgfaaGreat.sl enc k v xs,sep J R]) .here) w (by simpa only[seps,aJ] using s2)
theorem af.gg{enc:α→List Value}{k b:Nat}{x y:Operand}{t t2 e e2 ty:TypeId}{pos:String}{after:Array Edge}{guard:Option (Nat×Bool)}{d:Nat}{v:Value}{cs:List Value}{xs:List α}(z0:α){R:List aa}{i:TypeInfo}{z:Value}(hN:Nat.blt d N=true)
  (hu:P.underlying t=some (.slice e)) (hu2:P.underlying t2=some (.slice e2)) (hi:∀ w,(typeInfo e).run P w = .ok i w) (hz:i.zero=some z) (hk:i.size=k) (hzs:z.cells.size=k) (hb:1≤i.bytes∧i.bytes≤4096)
  (hx:ev L x=some v) (hy:ev L y=some (.slice (some ⟨b,0,none⟩) 1 1)) (hc:enc z0=cs) (ha:At H (arr b 0 cs)) (hcl:cs.length=k) (ht:Take H (sl enc k v xs) R) (hlen:xs.length<1073741824) (hone:(enc z0).all (·.oneCell')=true) :
  af P W N ⟨some d,.call ⟨.builtin .append, #[x,y], #[t,t2]⟩,ty,pos,after,guard⟩ L H (fun L1 H1=>∃ v',L1=(d,some v')::L∧H1=sl enc k v' (xs++[z0])::R) :=
 af.Jd z0 hN hu hu2 hi hz hk hzs hb hx hy ha hc hcl ht hlen (by rw[← hc];exact List.all_eq_true.1 hone)
theorem qj{E T:TypeId}{x:Operand}{pos:String}{after:Array Edge}{d:Nat}{v:Value}{cs:List Value}(hx:ev L x=some v)(hc:v.cells=cs.toArray) :
  ∀ a,Env N L a→cb P O ⟨some d,.box E x,T,pos,after,none⟩ a (fun b=>.pointer (some ⟨b,0,none⟩)) cs E:=fun a ha=>⟨bm rfl,fun w=>by
 simp only[execOp,ha.eval hx]
 show(Instr.box E v >>= fun x=>pure (Next.value x)).run P w=_
 simp[Instr.box,kC,hc]⟩
/-! a slice's value stored: it is one cell, whatever it is -/
theorem Rd.one{enc:α→List Value}{k:Nat}{v:Value}{xs:List α}(h:Rd W H enc k v xs):∀ w,Sat W w (seps H)→v.oneCell'=true:=fun w s=>by
 obtain⟨⟨a,cap,hv,_⟩,_⟩:=h w s
 rw[hv];rfl
theorem af.lY{E:TypeId}{x y:Operand}{pos:String}{after:Array Edge}{guard:Option (Nat×Bool)}{b i:Nat}{v:Value}{cs:List Value}{H':List aa}{enc:α→List Value}{k:Nat}{xs:List α}(hz:∀ w,(sizeOf E).run P w = .ok 1 w)(hx:ev L x=some (.pointer (some ⟨b,i,none⟩)))(hy:ev L y=some v)[hv:aw W H v enc k xs]
  [h0:bX H b 0 cs] [hr:cE H b 0 cs (cs.set i v) H'] (hi:Nat.blt i cs.length=true) :
  af P W N ⟨none,.store E x y,T,pos,after,guard⟩ L H (fun L1 H1=>L1=L∧H1=H'):=fun a w ha hs Kp hK=>af.st hz hx hy (hv.rd.one w hs) hi a w ha hs Kp hK
theorem af.ME{E:TypeId}{x y:Operand}{pos:String}{after:Array Edge}{guard:Option (Nat×Bool)}{b o:Nat}{v:Value}{cs:List Value}{H':List aa}{enc:α→List Value}{k:Nat}{xs:List α}(hz:∀ w,(sizeOf E).run P w = .ok 1 w)(hx:ev L x=some (.pointer (some ⟨b,o,none⟩)))(hy:ev L y=some v)[hv:aw W H v enc k xs]
  [h0:bX H b o cs] [hr:cE H b o cs (cs.set 0 v) H'] (hi:Nat.blt 0 cs.length=true) :
  af P W N ⟨none,.store E x y,T,pos,after,guard⟩ L H (fun L1 H1=>L1=L∧H1=H'):=fun a w ha hs Kp hK=>af.Nq hz hx hy (hv.rd.one w hs) hi a w ha hs Kp hK
theorem bc.cK{O:Array Oper}{ks:List Nat}{ops:List Oper}{p:Prop}(h:∀ w,Sat W w (seps H)→p)(k:p→bc P W N K O Q ks ops L H):bc P W N K O Q ks ops L H:=fun a w ha hs=>k (h w hs) a w ha hs
theorem af.lZ{enc:α→List Value}{k:Nat}{E:TypeId}{x y:Operand}{pos:String}{after:Array Edge}{guard:Option (Nat×Bool)}{v:Value}{vs:List Value}{xs:List α}{i:Nat}{x0 x':α}{H':List aa}(hx:ev L x=some (.pointer (some ⟨blk v,eg v+i * k,none⟩)))(hy:ev L y=some (.agg vs.toArray))(hz:∀ w,(sizeOf E).run P w = .ok vs.length w)(hv:vs.all (·.oneCell')=true)
  (h0:xs[i]?=some x0) (he:enc x'=vs) (hl:vs.length=k) (hr:gp H (sl enc k v xs) (sl enc k v (xs.set i x')) H') :
  af P W N ⟨none,.store E x y,T,pos,after,guard⟩ L H (fun L1 H1=>L1=L∧H1=H'):=fun a w ha hs Kp hK=>by
 obtain⟨R,e1,e2⟩:=hr.seps
 rw[e1] at hs
 have hk0:(enc x0).length=k:=((Rd.sl (W:=W) (H:=[sl enc k v xs,R]) .here) w (by simpa only[seps,aJ] using hs)).2.1 x0 (List.mem_of_getElem? h0)
 have hf:=hs.focus h0
 have key:=af.storeAll (P:=P) (W:=W) (N:=N) (L:=L) (T:=T) (pos:=pos) (after:=after) (guard:=guard) (H:=[arr (blk v) (eg v+i * k) (enc x0),hole enc k v xs i,R]) hx hy hz (List.all_eq_true.1 hv) .here (by rw[hk0,hl])
 refine key a w ha (by simp only[seps,aJ] at hf ⊢;rwa [aU] at hf) Kp ?_
 rintro L1 H1 ⟨rfl,rfl⟩ a' w' ha' hs'
 refine hK _ _ ⟨rfl,rfl⟩ a' w' ha' ?_
 rw[e2]
 refine Sat.Jc (x':=x') (List.getElem?_eq_some_iff.1 h0).1 (by rw[he,hl]) ?_
 simp only[seps,aJ] at hs' ⊢
 rwa [he,aU]
theorem Rd.nil{enc:α→List Value}{k:Nat}:Rd W H enc k (.slice none 0 0) ([]:List α):=fun w s=>⟨⟨none,0,rfl,Nat.le_refl _,fun _ e _=>(by cases e),fun _=>rfl⟩,fun x hx=>(by cases hx),fun i x hx=>(by simp at hx)⟩
theorem ax.Jk{H R As:List aa}(t:ax H As R):ax H (emp::As) R:=.conv (A:=seps []) (fun _ e=>e) (.ez .nil t)
theorem ax.two{H R R' As:List aa}{A B:aa}(t1:ax H [A,B] R)(t2:ax R As R'):ax H (sep A B::As) R':=.conv (A:=seps [A,B]) (fun _ a=>by simpa only[seps,aJ] using a) (.ez t1 t2)
theorem ax.void{H R As:List aa}{enc:α→List Value}{k:Nat}{a:Option Addr}(t:ax H As R):ax H (sl enc k (.slice a 0 0) ([]:List α)::As) R :=
 .conv (A:=seps []) (fun _ e=>.inl ⟨⟨_,rfl⟩,rfl,e⟩) (.ez .nil t)
end
end Go.SLYthlllpngkljgfaaGreat
