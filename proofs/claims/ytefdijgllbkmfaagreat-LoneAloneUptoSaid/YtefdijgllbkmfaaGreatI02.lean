/- Walks of functions, and what they compute. Conditions: none, this text proves no statement. -/
import Derived.Test.YtefdijgllbkmfaaGreatI01
import GoSem.Core.Float
namespace Go.SLYtefdijgllbkmfaaGreat
open Go Go.RowKit
def hZ{X1:Type}(p:X1→Prop)(A:X1→List aa):aa:=fun h=>∃ x1,p x1∧seps (A x1) h
def rG{X1 X2:Type}(p:X1→X2→Prop)(A:X1→X2→List aa):aa:=fun h=>∃ x1 x2,p x1 x2∧seps (A x1 x2) h
def yY{X1 X2 X3:Type}(p:X1→X2→X3→Prop)(A:X1→X2→X3→List aa):aa:=fun h=>∃ x1 x2 x3,p x1 x2 x3∧seps (A x1 x2 x3) h
def Dk{X1 X2 X3 X4:Type}(p:X1→X2→X3→X4→Prop)(A:X1→X2→X3→X4→List aa):aa:=fun h=>∃ x1 x2 x3 x4,p x1 x2 x3 x4∧seps (A x1 x2 x3 x4) h
def Dl{X1 X2 X3 X4 X5:Type}(p:X1→X2→X3→X4→X5→Prop)(A:X1→X2→X3→X4→X5→List aa):aa:=fun h=>∃ x1 x2 x3 x4 x5,p x1 x2 x3 x4 x5∧seps (A x1 x2 x3 x4 x5) h
def Dm{X1 X2 X3 X4 X5 X6:Type}(p:X1→X2→X3→X4→X5→X6→Prop)(A:X1→X2→X3→X4→X5→X6→List aa):aa:=fun h=>∃ x1 x2 x3 x4 x5 x6,p x1 x2 x3 x4 x5 x6∧seps (A x1 x2 x3 x4 x5 x6) h
def Dn{X1 X2 X3 X4 X5 X6 X7:Type}(p:X1→X2→X3→X4→X5→X6→X7→Prop)(A:X1→X2→X3→X4→X5→X6→X7→List aa):aa:=fun h=>∃ x1 x2 x3 x4 x5 x6 x7,p x1 x2 x3 x4 x5 x6 x7∧seps (A x1 x2 x3 x4 x5 x6 x7) h
def Dp{X1 X2 X3 X4 X5 X6 X7 X8:Type}(p:X1→X2→X3→X4→X5→X6→X7→X8→Prop)(A:X1→X2→X3→X4→X5→X6→X7→X8→List aa):aa:=fun h=>∃ x1 x2 x3 x4 x5 x6 x7 x8,p x1 x2 x3 x4 x5 x6 x7 x8∧seps (A x1 x2 x3 x4 x5 x6 x7 x8) h
def Dq{X1 X2 X3 X4 X5 X6 X7 X8 X9:Type}(p:X1→X2→X3→X4→X5→X6→X7→X8→X9→Prop)(A:X1→X2→X3→X4→X5→X6→X7→X8→X9→List aa):aa:=fun h=>∃ x1 x2 x3 x4 x5 x6 x7 x8 x9,p x1 x2 x3 x4 x5 x6 x7 x8 x9∧seps (A x1 x2 x3 x4 x5 x6 x7 x8 x9) h
def tM{X1 X2 X3 X4 X5 X6 X7 X8 X9 X10:Type}(p:X1→X2→X3→X4→X5→X6→X7→X8→X9→X10→Prop)(A:X1→X2→X3→X4→X5→X6→X7→X8→X9→X10→List aa):aa:=fun h=>∃ x1 x2 x3 x4 x5 x6 x7 x8 x9 x10,p x1 x2 x3 x4 x5 x6 x7 x8 x9 x10∧seps (A x1 x2 x3 x4 x5 x6 x7 x8 x9 x10) h
def xb{X1 X2 X3 X4 X5 X6 X7 X8 X9 X10 X11:Type}(p:X1→X2→X3→X4→X5→X6→X7→X8→X9→X10→X11→Prop)(A:X1→X2→X3→X4→X5→X6→X7→X8→X9→X10→X11→List aa):aa:=fun h=>∃ x1 x2 x3 x4 x5 x6 x7 x8 x9 x10 x11,p x1 x2 x3 x4 x5 x6 x7 x8 x9 x10 x11∧seps (A x1 x2 x3 x4 x5 x6 x7 x8 x9 x10 x11) h
def xd{X1 X2 X3 X4 X5 X6 X7 X8 X9 X10 X11 X12:Type}(p:X1→X2→X3→X4→X5→X6→X7→X8→X9→X10→X11→X12→Prop)(A:X1→X2→X3→X4→X5→X6→X7→X8→X9→X10→X11→X12→List aa):aa:=fun h=>∃ x1 x2 x3 x4 x5 x6 x7 x8 x9 x10 x11 x12,p x1 x2 x3 x4 x5 x6 x7 x8 x9 x10 x11 x12∧seps (A x1 x2 x3 x4 x5 x6 x7 x8 x9 x10 x11 x12) h
inductive aK:List aa→List aa→List aa→Prop where
 | nil {H:List aa}:aK H [] H
 | cons {H R R':List aa} {A:aa} {As:List aa} (h:Take H A R) (t:aK R As R'):aK H (A::As) R'
 /-- a thing seen otherwise -/
 | conv {A B:aa} {H R As:List aa} (c:∀ h,A h→B h) (t:aK H (A::As) R):aK H (B::As) R
 | kL {H R R' Bs As:List aa} (t1:aK H Bs R) (t2:aK R As R'):aK H (seps Bs::As) R'
 | f1 {X1:Type} {p:X1→Prop} {A:X1→List aa} {C:aa} {H R R' As:List aa} (e:C=hZ p A) (x1:X1) (t1:aK H (A x1) R) (t2:aK R As R') (hp:p x1):aK H (C::As) R'
 | f2 {X1 X2:Type} {p:X1→X2→Prop} {A:X1→X2→List aa} {C:aa} {H R R' As:List aa} (e:C=rG p A) (x1:X1) (x2:X2) (t1:aK H (A x1 x2) R) (t2:aK R As R') (hp:p x1 x2):aK H (C::As) R'
 | f3 {X1 X2 X3:Type} {p:X1→X2→X3→Prop} {A:X1→X2→X3→List aa} {C:aa} {H R R' As:List aa} (e:C=yY p A) (x1:X1) (x2:X2) (x3:X3) (t1:aK H (A x1 x2 x3) R) (t2:aK R As R') (hp:p x1 x2 x3):aK H (C::As) R'
 | f4 {X1 X2 X3 X4:Type} {p:X1→X2→X3→X4→Prop} {A:X1→X2→X3→X4→List aa} {C:aa} {H R R' As:List aa} (e:C=Dk p A) (x1:X1) (x2:X2) (x3:X3) (x4:X4) (t1:aK H (A x1 x2 x3 x4) R) (t2:aK R As R') (hp:p x1 x2 x3 x4):aK H (C::As) R'
 | f5 {X1 X2 X3 X4 X5:Type} {p:X1→X2→X3→X4→X5→Prop} {A:X1→X2→X3→X4→X5→List aa} {C:aa} {H R R' As:List aa} (e:C=Dl p A) (x1:X1) (x2:X2) (x3:X3) (x4:X4) (x5:X5) (t1:aK H (A x1 x2 x3 x4 x5) R) (t2:aK R As R') (hp:p x1 x2 x3 x4 x5):aK H (C::As) R'
 | f6 {X1 X2 X3 X4 X5 X6:Type} {p:X1→X2→X3→X4→X5→X6→Prop} {A:X1→X2→X3→X4→X5→X6→List aa} {C:aa} {H R R' As:List aa} (e:C=Dm p A) (x1:X1) (x2:X2) (x3:X3) (x4:X4) (x5:X5) (x6:X6) (t1:aK H (A x1 x2 x3 x4 x5 x6) R) (t2:aK R As R') (hp:p x1 x2 x3 x4 x5 x6):aK H (C::As) R'
 | f7 {X1 X2 X3 X4 X5 X6 X7:Type} {p:X1→X2→X3→X4→X5→X6→X7→Prop} {A:X1→X2→X3→X4→X5→X6→X7→List aa} {C:aa} {H R R' As:List aa} (e:C=Dn p A) (x1:X1) (x2:X2) (x3:X3) (x4:X4) (x5:X5) (x6:X6) (x7:X7) (t1:aK H (A x1 x2 x3 x4 x5 x6 x7) R) (t2:aK R As R') (hp:p x1 x2 x3 x4 x5 x6 x7):aK H (C::As) R'
 | f8 {X1 X2 X3 X4 X5 X6 X7 X8:Type} {p:X1→X2→X3→X4→X5→X6→X7→X8→Prop} {A:X1→X2→X3→X4→X5→X6→X7→X8→List aa} {C:aa} {H R R' As:List aa} (e:C=Dp p A) (x1:X1) (x2:X2) (x3:X3) (x4:X4) (x5:X5) (x6:X6) (x7:X7) (x8:X8) (t1:aK H (A x1 x2 x3 x4 x5 x6 x7 x8) R) (t2:aK R As R') (hp:p x1 x2 x3 x4 x5 x6 x7 x8):aK H (C::As) R'
 | f9 {X1 X2 X3 X4 X5 X6 X7 X8 X9:Type} {p:X1→X2→X3→X4→X5→X6→X7→X8→X9→Prop} {A:X1→X2→X3→X4→X5→X6→X7→X8→X9→List aa} {C:aa} {H R R' As:List aa} (e:C=Dq p A) (x1:X1) (x2:X2) (x3:X3) (x4:X4) (x5:X5) (x6:X6) (x7:X7) (x8:X8) (x9:X9) (t1:aK H (A x1 x2 x3 x4 x5 x6 x7 x8 x9) R) (t2:aK R As R') (hp:p x1 x2 x3 x4 x5 x6 x7 x8 x9):aK H (C::As) R'
 | f10 {X1 X2 X3 X4 X5 X6 X7 X8 X9 X10:Type} {p:X1→X2→X3→X4→X5→X6→X7→X8→X9→X10→Prop} {A:X1→X2→X3→X4→X5→X6→X7→X8→X9→X10→List aa} {C:aa} {H R R' As:List aa} (e:C=tM p A) (x1:X1) (x2:X2) (x3:X3) (x4:X4) (x5:X5) (x6:X6) (x7:X7) (x8:X8) (x9:X9) (x10:X10) (t1:aK H (A x1 x2 x3 x4 x5 x6 x7 x8 x9 x10) R) (t2:aK R As R') (hp:p x1 x2 x3 x4 x5 x6 x7 x8 x9 x10):aK H (C::As) R'
 | f11 {X1 X2 X3 X4 X5 X6 X7 X8 X9 X10 X11:Type} {p:X1→X2→X3→X4→X5→X6→X7→X8→X9→X10→X11→Prop} {A:X1→X2→X3→X4→X5→X6→X7→X8→X9→X10→X11→List aa} {C:aa} {H R R' As:List aa} (e:C=xb p A) (x1:X1) (x2:X2) (x3:X3) (x4:X4) (x5:X5) (x6:X6) (x7:X7) (x8:X8) (x9:X9) (x10:X10) (x11:X11) (t1:aK H (A x1 x2 x3 x4 x5 x6 x7 x8 x9 x10 x11) R) (t2:aK R As R') (hp:p x1 x2 x3 x4 x5 x6 x7 x8 x9 x10 x11):aK H (C::As) R'
 | f12 {X1 X2 X3 X4 X5 X6 X7 X8 X9 X10 X11 X12:Type} {p:X1→X2→X3→X4→X5→X6→X7→X8→X9→X10→X11→X12→Prop} {A:X1→X2→X3→X4→X5→X6→X7→X8→X9→X10→X11→X12→List aa} {C:aa} {H R R' As:List aa} (e:C=xd p A) (x1:X1) (x2:X2) (x3:X3) (x4:X4) (x5:X5) (x6:X6) (x7:X7) (x8:X8) (x9:X9) (x10:X10) (x11:X11) (x12:X12) (t1:aK H (A x1 x2 x3 x4 x5 x6 x7 x8 x9 x10 x11 x12) R) (t2:aK R As R') (hp:p x1 x2 x3 x4 x5 x6 x7 x8 x9 x10 x11 x12):aK H (C::As) R'
theorem fg{B C D E F:aa}{h:js}(a:sep B C h)(f:∀ h,B h→D h)(g:∀ h,C h→sep E F h):sep (sep D E) F h:=by
 rw[aM]
 exact aR f g h a
theorem aK.ok{H As R:List aa}(t:aK H As R):∀ h,seps H h→sep (seps As) (seps R) h:=by
 induction t with
 | nil=>intro h a;simp only[seps,fG];exact a
 | cons t _ ih=>intro h a;rw[t.seps] at a;exact fg a (fun _ h=>h) ih
 | conv c _ ih=>intro h a;exact aR (aR c (fun _ h=>h)) (fun _ h=>h) h (ih h a)
 | kL _ _ i1 i2=>intro h a;exact fg (i1 h a) (fun _ h=>h) i2
 | f1 e x1 _ _ hp i1 i2=>intro h a;subst e;exact fg (i1 h a) (fun _ h=>⟨x1,hp,h⟩) i2
 | f2 e x1 x2 _ _ hp i1 i2=>intro h a;subst e;exact fg (i1 h a) (fun _ h=>⟨x1,x2,hp,h⟩) i2
 | f3 e x1 x2 x3 _ _ hp i1 i2=>intro h a;subst e;exact fg (i1 h a) (fun _ h=>⟨x1,x2,x3,hp,h⟩) i2
 | f4 e x1 x2 x3 x4 _ _ hp i1 i2=>intro h a;subst e;exact fg (i1 h a) (fun _ h=>⟨x1,x2,x3,x4,hp,h⟩) i2
 | f5 e x1 x2 x3 x4 x5 _ _ hp i1 i2=>intro h a;subst e;exact fg (i1 h a) (fun _ h=>⟨x1,x2,x3,x4,x5,hp,h⟩) i2
 | f6 e x1 x2 x3 x4 x5 x6 _ _ hp i1 i2=>intro h a;subst e;exact fg (i1 h a) (fun _ h=>⟨x1,x2,x3,x4,x5,x6,hp,h⟩) i2
 | f7 e x1 x2 x3 x4 x5 x6 x7 _ _ hp i1 i2=>intro h a;subst e;exact fg (i1 h a) (fun _ h=>⟨x1,x2,x3,x4,x5,x6,x7,hp,h⟩) i2
 | f8 e x1 x2 x3 x4 x5 x6 x7 x8 _ _ hp i1 i2=>intro h a;subst e;exact fg (i1 h a) (fun _ h=>⟨x1,x2,x3,x4,x5,x6,x7,x8,hp,h⟩) i2
 | f9 e x1 x2 x3 x4 x5 x6 x7 x8 x9 _ _ hp i1 i2=>intro h a;subst e;exact fg (i1 h a) (fun _ h=>⟨x1,x2,x3,x4,x5,x6,x7,x8,x9,hp,h⟩) i2
 | f10 e x1 x2 x3 x4 x5 x6 x7 x8 x9 x10 _ _ hp i1 i2=>intro h a;subst e;exact fg (i1 h a) (fun _ h=>⟨x1,x2,x3,x4,x5,x6,x7,x8,x9,x10,hp,h⟩) i2
 | f11 e x1 x2 x3 x4 x5 x6 x7 x8 x9 x10 x11 _ _ hp i1 i2=>intro h a;subst e;exact fg (i1 h a) (fun _ h=>⟨x1,x2,x3,x4,x5,x6,x7,x8,x9,x10,x11,hp,h⟩) i2
 | f12 e x1 x2 x3 x4 x5 x6 x7 x8 x9 x10 x11 x12 _ _ hp i1 i2=>intro h a;subst e;exact fg (i1 h a) (fun _ h=>⟨x1,x2,x3,x4,x5,x6,x7,x8,x9,x10,x11,x12,hp,h⟩) i2
theorem gD.all(pre R:List aa):gD (pre++R) pre R:=by
 induction pre with
 | nil=>exact .nil
 | cons A r ih=>exact .cons .here ih
section
variable{P:Program}{W:World}{N:Nat}{Q:Exit→Act→World→Prop}{L:List (Nat×Option Value)}{H R K:List aa}{O:Array Oper}{T:TypeId}{ks:List Nat}{ops:List Oper}{C:aa}{X1 X2 X3 X4 X5 X6 X7 X8 X9 X10 X11 X12:Type}
theorem aK.sat{w:World}{As:List aa}(t:aK H As R)(s:Sat W w (seps H)):Sat W w (seps (As++R)):=by
 rw[ah];exact s.mono t.ok
theorem aK.kept{As:List aa}(t:aK H As R):∀ w,Sat W w (seps H)→Sat W w (seps As):=fun w s=>by
 have:=t.sat s
 rw[ah] at this
 exact this.left
theorem aq{w:World}{A:List aa}{F:aa}{R:List aa}(t:aK H (A++[F]) R)(s:Sat W w (seps H)):Sat W w (sep (seps A) F):=by
 have:=t.kept w s
 rw[ah] at this
 exact this.eq (by simp only[seps,aO])
theorem af.fQ{f:FuncId}{xs:Array Operand}{ts:Array TypeId}{pos:String}{after:Array Edge}{guard:Option (Nat×Bool)}{d:Nat}{args:List Value}{pre R:List aa}{X:Type}{val:X→Value}{fact:X→Prop}{post:X→List aa}(hN:Nat.blt d N=true)
  (hc:∀ args w,(callFunc f args).run P w = .ok (.enter f args) w) (hx:evs L xs.toList=some args) (hfn:Fn P W f args pre X val fact post) (ht:aK H pre R) :
  af P W N ⟨some d,.call ⟨.value (.func f),xs,ts⟩,T,pos,after,guard⟩ L H (fun L1 H1=>∃ x,fact x∧L1=(d,some (val x))::L∧H1=post x++R):=fun a w ha hs =>
 af.call (H:=pre++R) hN hc hx hfn (gD.all pre R) a w ha (ht.sat hs)
theorem af.py{f:FuncId}{g:Operand}{us cap:List Value}{xs:Array Operand}{ts:Array TypeId}{pos:String}{after:Array Edge}{guard:Option (Nat×Bool)}{d:Nat}{args:List Value}{pre R:List aa}{X:Type}{val:X→Value}{fact:X→Prop}{post:X→List aa}(hN:Nat.blt d N=true)
  (hg:ev L g=some (.func (.func f) us.toArray cap.toArray)) (hc:∀ args w,(callFunc f args).run P w = .ok (.enter f args) w) (hx:evs L xs.toList=some args) (hfn:Fn P W f (us++args++cap) pre X val fact post) (ht:aK H pre R) :
  af P W N ⟨some d,.call ⟨.value g,xs,ts⟩,T,pos,after,guard⟩ L H (fun L1 H1=>∃ x,fact x∧L1=(d,some (val x))::L∧H1=post x++R):=fun a w ha hs =>
 af.JX (H:=pre++R) hN hg hc hx hfn (gD.all pre R) a w ha (ht.sat hs)
theorem ax.KR{c:Code}{As:List aa}(t:aK H As R)(k:ax P W N Q c L (As++R)):ax P W N Q c L H:=fun a w ha hs=>k a w ha (t.sat hs)
theorem ax.fR{c:Code}{As:List aa}(t:Take H (seps As) R)(k:ax P W N Q c L (As++R)):ax P W N Q c L H:=fun a w ha hs=>k a w ha (by rw[ah, ← t.seps];exact hs)
theorem ax.o1{c:Code}{p:X1→Prop}{A:X1→List aa}(t:Take H C R)(e:C=hZ p A)(k:∀ x1,p x1→ax P W N Q c L (A x1++R)):ax P W N Q c L H:=fun a w ha hs=>by
 rw[t.seps] at hs
 subst e
 obtain⟨h,⟨h1,h2,⟨x1,hp,a1⟩,r,d,e'⟩,hin⟩:=hs.own
 exact k x1 hp a w ha (by rw[ah];exact {hs with own:=⟨h,⟨h1,h2,a1,r,d,e'⟩,hin⟩ })
theorem ax.o2{c:Code}{p:X1→X2→Prop}{A:X1→X2→List aa}(t:Take H C R)(e:C=rG p A)(k:∀ x1 x2,p x1 x2→ax P W N Q c L (A x1 x2++R)):ax P W N Q c L H:=fun a w ha hs=>by
 rw[t.seps] at hs
 subst e
 obtain⟨h,⟨h1,h2,⟨x1,x2,hp,a1⟩,r,d,e'⟩,hin⟩:=hs.own
 exact k x1 x2 hp a w ha (by rw[ah];exact {hs with own:=⟨h,⟨h1,h2,a1,r,d,e'⟩,hin⟩ })
theorem ax.o3{c:Code}{p:X1→X2→X3→Prop}{A:X1→X2→X3→List aa}(t:Take H C R)(e:C=yY p A)(k:∀ x1 x2 x3,p x1 x2 x3→ax P W N Q c L (A x1 x2 x3++R)):ax P W N Q c L H:=fun a w ha hs=>by
 rw[t.seps] at hs
 subst e
 obtain⟨h,⟨h1,h2,⟨x1,x2,x3,hp,a1⟩,r,d,e'⟩,hin⟩:=hs.own
 exact k x1 x2 x3 hp a w ha (by rw[ah];exact {hs with own:=⟨h,⟨h1,h2,a1,r,d,e'⟩,hin⟩ })
theorem ax.o4{c:Code}{p:X1→X2→X3→X4→Prop}{A:X1→X2→X3→X4→List aa}(t:Take H C R)(e:C=Dk p A)(k:∀ x1 x2 x3 x4,p x1 x2 x3 x4→ax P W N Q c L (A x1 x2 x3 x4++R)):ax P W N Q c L H:=fun a w ha hs=>by
 rw[t.seps] at hs
 subst e
 obtain⟨h,⟨h1,h2,⟨x1,x2,x3,x4,hp,a1⟩,r,d,e'⟩,hin⟩:=hs.own
 exact k x1 x2 x3 x4 hp a w ha (by rw[ah];exact {hs with own:=⟨h,⟨h1,h2,a1,r,d,e'⟩,hin⟩ })
theorem ax.o5{c:Code}{p:X1→X2→X3→X4→X5→Prop}{A:X1→X2→X3→X4→X5→List aa}(t:Take H C R)(e:C=Dl p A)(k:∀ x1 x2 x3 x4 x5,p x1 x2 x3 x4 x5→ax P W N Q c L (A x1 x2 x3 x4 x5++R)):ax P W N Q c L H:=fun a w ha hs=>by
 rw[t.seps] at hs
 subst e
 obtain⟨h,⟨h1,h2,⟨x1,x2,x3,x4,x5,hp,a1⟩,r,d,e'⟩,hin⟩:=hs.own
 exact k x1 x2 x3 x4 x5 hp a w ha (by rw[ah];exact {hs with own:=⟨h,⟨h1,h2,a1,r,d,e'⟩,hin⟩ })
theorem ax.o6{c:Code}{p:X1→X2→X3→X4→X5→X6→Prop}{A:X1→X2→X3→X4→X5→X6→List aa}(t:Take H C R)(e:C=Dm p A)(k:∀ x1 x2 x3 x4 x5 x6,p x1 x2 x3 x4 x5 x6→ax P W N Q c L (A x1 x2 x3 x4 x5 x6++R)):ax P W N Q c L H:=fun a w ha hs=>by
 rw[t.seps] at hs
 subst e
 obtain⟨h,⟨h1,h2,⟨x1,x2,x3,x4,x5,x6,hp,a1⟩,r,d,e'⟩,hin⟩:=hs.own
 exact k x1 x2 x3 x4 x5 x6 hp a w ha (by rw[ah];exact {hs with own:=⟨h,⟨h1,h2,a1,r,d,e'⟩,hin⟩ })
theorem ax.o7{c:Code}{p:X1→X2→X3→X4→X5→X6→X7→Prop}{A:X1→X2→X3→X4→X5→X6→X7→List aa}(t:Take H C R)(e:C=Dn p A)(k:∀ x1 x2 x3 x4 x5 x6 x7,p x1 x2 x3 x4 x5 x6 x7→ax P W N Q c L (A x1 x2 x3 x4 x5 x6 x7++R)):ax P W N Q c L H:=fun a w ha hs=>by
 rw[t.seps] at hs
 subst e
 obtain⟨h,⟨h1,h2,⟨x1,x2,x3,x4,x5,x6,x7,hp,a1⟩,r,d,e'⟩,hin⟩:=hs.own
 exact k x1 x2 x3 x4 x5 x6 x7 hp a w ha (by rw[ah];exact {hs with own:=⟨h,⟨h1,h2,a1,r,d,e'⟩,hin⟩ })
theorem ax.o8{c:Code}{p:X1→X2→X3→X4→X5→X6→X7→X8→Prop}{A:X1→X2→X3→X4→X5→X6→X7→X8→List aa}(t:Take H C R)(e:C=Dp p A)(k:∀ x1 x2 x3 x4 x5 x6 x7 x8,p x1 x2 x3 x4 x5 x6 x7 x8→ax P W N Q c L (A x1 x2 x3 x4 x5 x6 x7 x8++R)):ax P W N Q c L H:=fun a w ha hs=>by
 rw[t.seps] at hs
 subst e
 obtain⟨h,⟨h1,h2,⟨x1,x2,x3,x4,x5,x6,x7,x8,hp,a1⟩,r,d,e'⟩,hin⟩:=hs.own
 exact k x1 x2 x3 x4 x5 x6 x7 x8 hp a w ha (by rw[ah];exact {hs with own:=⟨h,⟨h1,h2,a1,r,d,e'⟩,hin⟩ })
theorem ax.o9{c:Code}{p:X1→X2→X3→X4→X5→X6→X7→X8→X9→Prop}{A:X1→X2→X3→X4→X5→X6→X7→X8→X9→List aa}(t:Take H C R)(e:C=Dq p A)(k:∀ x1 x2 x3 x4 x5 x6 x7 x8 x9,p x1 x2 x3 x4 x5 x6 x7 x8 x9→ax P W N Q c L (A x1 x2 x3 x4 x5 x6 x7 x8 x9++R)):ax P W N Q c L H:=fun a w ha hs=>by
 rw[t.seps] at hs
 subst e
 obtain⟨h,⟨h1,h2,⟨x1,x2,x3,x4,x5,x6,x7,x8,x9,hp,a1⟩,r,d,e'⟩,hin⟩:=hs.own
 exact k x1 x2 x3 x4 x5 x6 x7 x8 x9 hp a w ha (by rw[ah];exact {hs with own:=⟨h,⟨h1,h2,a1,r,d,e'⟩,hin⟩ })
theorem ax.jR{c:Code}{p:X1→X2→X3→X4→X5→X6→X7→X8→X9→X10→Prop}{A:X1→X2→X3→X4→X5→X6→X7→X8→X9→X10→List aa}(t:Take H C R)(e:C=tM p A)(k:∀ x1 x2 x3 x4 x5 x6 x7 x8 x9 x10,p x1 x2 x3 x4 x5 x6 x7 x8 x9 x10→ax P W N Q c L (A x1 x2 x3 x4 x5 x6 x7 x8 x9 x10++R)):ax P W N Q c L H:=fun a w ha hs=>by
 rw[t.seps] at hs
 subst e
 obtain⟨h,⟨h1,h2,⟨x1,x2,x3,x4,x5,x6,x7,x8,x9,x10,hp,a1⟩,r,d,e'⟩,hin⟩:=hs.own
 exact k x1 x2 x3 x4 x5 x6 x7 x8 x9 x10 hp a w ha (by rw[ah];exact {hs with own:=⟨h,⟨h1,h2,a1,r,d,e'⟩,hin⟩ })
theorem ax.K5{c:Code}{p:X1→X2→X3→X4→X5→X6→X7→X8→X9→X10→X11→Prop}{A:X1→X2→X3→X4→X5→X6→X7→X8→X9→X10→X11→List aa}(t:Take H C R)(e:C=xb p A)(k:∀ x1 x2 x3 x4 x5 x6 x7 x8 x9 x10 x11,p x1 x2 x3 x4 x5 x6 x7 x8 x9 x10 x11→ax P W N Q c L (A x1 x2 x3 x4 x5 x6 x7 x8 x9 x10 x11++R)):ax P W N Q c L H:=fun a w ha hs=>by
 rw[t.seps] at hs
 subst e
 obtain⟨h,⟨h1,h2,⟨x1,x2,x3,x4,x5,x6,x7,x8,x9,x10,x11,hp,a1⟩,r,d,e'⟩,hin⟩:=hs.own
 exact k x1 x2 x3 x4 x5 x6 x7 x8 x9 x10 x11 hp a w ha (by rw[ah];exact {hs with own:=⟨h,⟨h1,h2,a1,r,d,e'⟩,hin⟩ })
theorem ax.K6{c:Code}{p:X1→X2→X3→X4→X5→X6→X7→X8→X9→X10→X11→X12→Prop}{A:X1→X2→X3→X4→X5→X6→X7→X8→X9→X10→X11→X12→List aa}(t:Take H C R)(e:C=xd p A)(k:∀ x1 x2 x3 x4 x5 x6 x7 x8 x9 x10 x11 x12,p x1 x2 x3 x4 x5 x6 x7 x8 x9 x10 x11 x12→ax P W N Q c L (A x1 x2 x3 x4 x5 x6 x7 x8 x9 x10 x11 x12++R)):ax P W N Q c L H:=fun a w ha hs=>by
 rw[t.seps] at hs
 subst e
 obtain⟨h,⟨h1,h2,⟨x1,x2,x3,x4,x5,x6,x7,x8,x9,x10,x11,x12,hp,a1⟩,r,d,e'⟩,hin⟩:=hs.own
 exact k x1 x2 x3 x4 x5 x6 x7 x8 x9 x10 x11 x12 hp a w ha (by rw[ah];exact {hs with own:=⟨h,⟨h1,h2,a1,r,d,e'⟩,hin⟩ })
theorem aS.KR{As:List aa}(t:aK H As R)(k:aS P W N O Q ops L (As++R)):aS P W N O Q ops L H:=fun a w ha hs=>k a w ha (t.sat hs)
theorem aS.fR{As:List aa}(t:Take H (seps As) R)(k:aS P W N O Q ops L (As++R)):aS P W N O Q ops L H:=fun a w ha hs=>k a w ha (by rw[ah, ← t.seps];exact hs)
theorem aS.o1{p:X1→Prop}{A:X1→List aa}(t:Take H C R)(e:C=hZ p A)(k:∀ x1,p x1→aS P W N O Q ops L (A x1++R)):aS P W N O Q ops L H:=fun a w ha hs=>by
 rw[t.seps] at hs
 subst e
 obtain⟨h,⟨h1,h2,⟨x1,hp,a1⟩,r,d,e'⟩,hin⟩:=hs.own
 exact k x1 hp a w ha (by rw[ah];exact {hs with own:=⟨h,⟨h1,h2,a1,r,d,e'⟩,hin⟩ })
theorem aS.o2{p:X1→X2→Prop}{A:X1→X2→List aa}(t:Take H C R)(e:C=rG p A)(k:∀ x1 x2,p x1 x2→aS P W N O Q ops L (A x1 x2++R)):aS P W N O Q ops L H:=fun a w ha hs=>by
 rw[t.seps] at hs
 subst e
 obtain⟨h,⟨h1,h2,⟨x1,x2,hp,a1⟩,r,d,e'⟩,hin⟩:=hs.own
 exact k x1 x2 hp a w ha (by rw[ah];exact {hs with own:=⟨h,⟨h1,h2,a1,r,d,e'⟩,hin⟩ })
theorem aS.o3{p:X1→X2→X3→Prop}{A:X1→X2→X3→List aa}(t:Take H C R)(e:C=yY p A)(k:∀ x1 x2 x3,p x1 x2 x3→aS P W N O Q ops L (A x1 x2 x3++R)):aS P W N O Q ops L H:=fun a w ha hs=>by
 rw[t.seps] at hs
 subst e
 obtain⟨h,⟨h1,h2,⟨x1,x2,x3,hp,a1⟩,r,d,e'⟩,hin⟩:=hs.own
 exact k x1 x2 x3 hp a w ha (by rw[ah];exact {hs with own:=⟨h,⟨h1,h2,a1,r,d,e'⟩,hin⟩ })
theorem aS.o4{p:X1→X2→X3→X4→Prop}{A:X1→X2→X3→X4→List aa}(t:Take H C R)(e:C=Dk p A)(k:∀ x1 x2 x3 x4,p x1 x2 x3 x4→aS P W N O Q ops L (A x1 x2 x3 x4++R)):aS P W N O Q ops L H:=fun a w ha hs=>by
 rw[t.seps] at hs
 subst e
 obtain⟨h,⟨h1,h2,⟨x1,x2,x3,x4,hp,a1⟩,r,d,e'⟩,hin⟩:=hs.own
 exact k x1 x2 x3 x4 hp a w ha (by rw[ah];exact {hs with own:=⟨h,⟨h1,h2,a1,r,d,e'⟩,hin⟩ })
theorem aS.o5{p:X1→X2→X3→X4→X5→Prop}{A:X1→X2→X3→X4→X5→List aa}(t:Take H C R)(e:C=Dl p A)(k:∀ x1 x2 x3 x4 x5,p x1 x2 x3 x4 x5→aS P W N O Q ops L (A x1 x2 x3 x4 x5++R)):aS P W N O Q ops L H:=fun a w ha hs=>by
 rw[t.seps] at hs
 subst e
 obtain⟨h,⟨h1,h2,⟨x1,x2,x3,x4,x5,hp,a1⟩,r,d,e'⟩,hin⟩:=hs.own
 exact k x1 x2 x3 x4 x5 hp a w ha (by rw[ah];exact {hs with own:=⟨h,⟨h1,h2,a1,r,d,e'⟩,hin⟩ })
theorem aS.o6{p:X1→X2→X3→X4→X5→X6→Prop}{A:X1→X2→X3→X4→X5→X6→List aa}(t:Take H C R)(e:C=Dm p A)(k:∀ x1 x2 x3 x4 x5 x6,p x1 x2 x3 x4 x5 x6→aS P W N O Q ops L (A x1 x2 x3 x4 x5 x6++R)):aS P W N O Q ops L H:=fun a w ha hs=>by
 rw[t.seps] at hs
 subst e
 obtain⟨h,⟨h1,h2,⟨x1,x2,x3,x4,x5,x6,hp,a1⟩,r,d,e'⟩,hin⟩:=hs.own
 exact k x1 x2 x3 x4 x5 x6 hp a w ha (by rw[ah];exact {hs with own:=⟨h,⟨h1,h2,a1,r,d,e'⟩,hin⟩ })
theorem aS.o7{p:X1→X2→X3→X4→X5→X6→X7→Prop}{A:X1→X2→X3→X4→X5→X6→X7→List aa}(t:Take H C R)(e:C=Dn p A)(k:∀ x1 x2 x3 x4 x5 x6 x7,p x1 x2 x3 x4 x5 x6 x7→aS P W N O Q ops L (A x1 x2 x3 x4 x5 x6 x7++R)):aS P W N O Q ops L H:=fun a w ha hs=>by
 rw[t.seps] at hs
 subst e
 obtain⟨h,⟨h1,h2,⟨x1,x2,x3,x4,x5,x6,x7,hp,a1⟩,r,d,e'⟩,hin⟩:=hs.own
 exact k x1 x2 x3 x4 x5 x6 x7 hp a w ha (by rw[ah];exact {hs with own:=⟨h,⟨h1,h2,a1,r,d,e'⟩,hin⟩ })
theorem aS.o8{p:X1→X2→X3→X4→X5→X6→X7→X8→Prop}{A:X1→X2→X3→X4→X5→X6→X7→X8→List aa}(t:Take H C R)(e:C=Dp p A)(k:∀ x1 x2 x3 x4 x5 x6 x7 x8,p x1 x2 x3 x4 x5 x6 x7 x8→aS P W N O Q ops L (A x1 x2 x3 x4 x5 x6 x7 x8++R)):aS P W N O Q ops L H:=fun a w ha hs=>by
 rw[t.seps] at hs
 subst e
 obtain⟨h,⟨h1,h2,⟨x1,x2,x3,x4,x5,x6,x7,x8,hp,a1⟩,r,d,e'⟩,hin⟩:=hs.own
 exact k x1 x2 x3 x4 x5 x6 x7 x8 hp a w ha (by rw[ah];exact {hs with own:=⟨h,⟨h1,h2,a1,r,d,e'⟩,hin⟩ })
theorem aS.o9{p:X1→X2→X3→X4→X5→X6→X7→X8→X9→Prop}{A:X1→X2→X3→X4→X5→X6→X7→X8→X9→List aa}(t:Take H C R)(e:C=Dq p A)(k:∀ x1 x2 x3 x4 x5 x6 x7 x8 x9,p x1 x2 x3 x4 x5 x6 x7 x8 x9→aS P W N O Q ops L (A x1 x2 x3 x4 x5 x6 x7 x8 x9++R)):aS P W N O Q ops L H:=fun a w ha hs=>by
 rw[t.seps] at hs
 subst e
 obtain⟨h,⟨h1,h2,⟨x1,x2,x3,x4,x5,x6,x7,x8,x9,hp,a1⟩,r,d,e'⟩,hin⟩:=hs.own
 exact k x1 x2 x3 x4 x5 x6 x7 x8 x9 hp a w ha (by rw[ah];exact {hs with own:=⟨h,⟨h1,h2,a1,r,d,e'⟩,hin⟩ })
theorem aS.jR{p:X1→X2→X3→X4→X5→X6→X7→X8→X9→X10→Prop}{A:X1→X2→X3→X4→X5→X6→X7→X8→X9→X10→List aa}(t:Take H C R)(e:C=tM p A)(k:∀ x1 x2 x3 x4 x5 x6 x7 x8 x9 x10,p x1 x2 x3 x4 x5 x6 x7 x8 x9 x10→aS P W N O Q ops L (A x1 x2 x3 x4 x5 x6 x7 x8 x9 x10++R)):aS P W N O Q ops L H:=fun a w ha hs=>by
 rw[t.seps] at hs
 subst e
 obtain⟨h,⟨h1,h2,⟨x1,x2,x3,x4,x5,x6,x7,x8,x9,x10,hp,a1⟩,r,d,e'⟩,hin⟩:=hs.own
 exact k x1 x2 x3 x4 x5 x6 x7 x8 x9 x10 hp a w ha (by rw[ah];exact {hs with own:=⟨h,⟨h1,h2,a1,r,d,e'⟩,hin⟩ })
theorem aS.K5{p:X1→X2→X3→X4→X5→X6→X7→X8→X9→X10→X11→Prop}{A:X1→X2→X3→X4→X5→X6→X7→X8→X9→X10→X11→List aa}(t:Take H C R)(e:C=xb p A)(k:∀ x1 x2 x3 x4 x5 x6 x7 x8 x9 x10 x11,p x1 x2 x3 x4 x5 x6 x7 x8 x9 x10 x11→aS P W N O Q ops L (A x1 x2 x3 x4 x5 x6 x7 x8 x9 x10 x11++R)):aS P W N O Q ops L H:=fun a w ha hs=>by
 rw[t.seps] at hs
 subst e
 obtain⟨h,⟨h1,h2,⟨x1,x2,x3,x4,x5,x6,x7,x8,x9,x10,x11,hp,a1⟩,r,d,e'⟩,hin⟩:=hs.own
 exact k x1 x2 x3 x4 x5 x6 x7 x8 x9 x10 x11 hp a w ha (by rw[ah];exact {hs with own:=⟨h,⟨h1,h2,a1,r,d,e'⟩,hin⟩ })
theorem aS.K6{p:X1→X2→X3→X4→X5→X6→X7→X8→X9→X10→X11→X12→Prop}{A:X1→X2→X3→X4→X5→X6→X7→X8→X9→X10→X11→X12→List aa}(t:Take H C R)(e:C=xd p A)(k:∀ x1 x2 x3 x4 x5 x6 x7 x8 x9 x10 x11 x12,p x1 x2 x3 x4 x5 x6 x7 x8 x9 x10 x11 x12→aS P W N O Q ops L (A x1 x2 x3 x4 x5 x6 x7 x8 x9 x10 x11 x12++R)):aS P W N O Q ops L H:=fun a w ha hs=>by
 rw[t.seps] at hs
 subst e
 obtain⟨h,⟨h1,h2,⟨x1,x2,x3,x4,x5,x6,x7,x8,x9,x10,x11,x12,hp,a1⟩,r,d,e'⟩,hin⟩:=hs.own
 exact k x1 x2 x3 x4 x5 x6 x7 x8 x9 x10 x11 x12 hp a w ha (by rw[ah];exact {hs with own:=⟨h,⟨h1,h2,a1,r,d,e'⟩,hin⟩ })
theorem bo.KR{As:List aa}(t:aK H As R)(k:bo P W N K O Q ks ops L (As++R)):bo P W N K O Q ks ops L H:=fun a w ha hs=>k a w ha (t.sat hs)
theorem bo.fR{As:List aa}(t:Take H (seps As) R)(k:bo P W N K O Q ks ops L (As++R)):bo P W N K O Q ks ops L H:=fun a w ha hs=>k a w ha (by rw[ah, ← t.seps];exact hs)
theorem bo.o1{p:X1→Prop}{A:X1→List aa}(t:Take H C R)(e:C=hZ p A)(k:∀ x1,p x1→bo P W N K O Q ks ops L (A x1++R)):bo P W N K O Q ks ops L H:=fun a w ha hs=>by
 rw[t.seps] at hs
 subst e
 obtain⟨h,⟨h1,h2,⟨x1,hp,a1⟩,r,d,e'⟩,hin⟩:=hs.own
 exact k x1 hp a w ha (by rw[ah];exact {hs with own:=⟨h,⟨h1,h2,a1,r,d,e'⟩,hin⟩ })
theorem bo.o2{p:X1→X2→Prop}{A:X1→X2→List aa}(t:Take H C R)(e:C=rG p A)(k:∀ x1 x2,p x1 x2→bo P W N K O Q ks ops L (A x1 x2++R)):bo P W N K O Q ks ops L H:=fun a w ha hs=>by
 rw[t.seps] at hs
 subst e
 obtain⟨h,⟨h1,h2,⟨x1,x2,hp,a1⟩,r,d,e'⟩,hin⟩:=hs.own
 exact k x1 x2 hp a w ha (by rw[ah];exact {hs with own:=⟨h,⟨h1,h2,a1,r,d,e'⟩,hin⟩ })
theorem bo.o3{p:X1→X2→X3→Prop}{A:X1→X2→X3→List aa}(t:Take H C R)(e:C=yY p A)(k:∀ x1 x2 x3,p x1 x2 x3→bo P W N K O Q ks ops L (A x1 x2 x3++R)):bo P W N K O Q ks ops L H:=fun a w ha hs=>by
 rw[t.seps] at hs
 subst e
 obtain⟨h,⟨h1,h2,⟨x1,x2,x3,hp,a1⟩,r,d,e'⟩,hin⟩:=hs.own
 exact k x1 x2 x3 hp a w ha (by rw[ah];exact {hs with own:=⟨h,⟨h1,h2,a1,r,d,e'⟩,hin⟩ })
theorem bo.o4{p:X1→X2→X3→X4→Prop}{A:X1→X2→X3→X4→List aa}(t:Take H C R)(e:C=Dk p A)(k:∀ x1 x2 x3 x4,p x1 x2 x3 x4→bo P W N K O Q ks ops L (A x1 x2 x3 x4++R)):bo P W N K O Q ks ops L H:=fun a w ha hs=>by
 rw[t.seps] at hs
 subst e
 obtain⟨h,⟨h1,h2,⟨x1,x2,x3,x4,hp,a1⟩,r,d,e'⟩,hin⟩:=hs.own
 exact k x1 x2 x3 x4 hp a w ha (by rw[ah];exact {hs with own:=⟨h,⟨h1,h2,a1,r,d,e'⟩,hin⟩ })
theorem bo.o5{p:X1→X2→X3→X4→X5→Prop}{A:X1→X2→X3→X4→X5→List aa}(t:Take H C R)(e:C=Dl p A)(k:∀ x1 x2 x3 x4 x5,p x1 x2 x3 x4 x5→bo P W N K O Q ks ops L (A x1 x2 x3 x4 x5++R)):bo P W N K O Q ks ops L H:=fun a w ha hs=>by
 rw[t.seps] at hs
 subst e
 obtain⟨h,⟨h1,h2,⟨x1,x2,x3,x4,x5,hp,a1⟩,r,d,e'⟩,hin⟩:=hs.own
 exact k x1 x2 x3 x4 x5 hp a w ha (by rw[ah];exact {hs with own:=⟨h,⟨h1,h2,a1,r,d,e'⟩,hin⟩ })
theorem bo.o6{p:X1→X2→X3→X4→X5→X6→Prop}{A:X1→X2→X3→X4→X5→X6→List aa}(t:Take H C R)(e:C=Dm p A)(k:∀ x1 x2 x3 x4 x5 x6,p x1 x2 x3 x4 x5 x6→bo P W N K O Q ks ops L (A x1 x2 x3 x4 x5 x6++R)):bo P W N K O Q ks ops L H:=fun a w ha hs=>by
 rw[t.seps] at hs
 subst e
 obtain⟨h,⟨h1,h2,⟨x1,x2,x3,x4,x5,x6,hp,a1⟩,r,d,e'⟩,hin⟩:=hs.own
 exact k x1 x2 x3 x4 x5 x6 hp a w ha (by rw[ah];exact {hs with own:=⟨h,⟨h1,h2,a1,r,d,e'⟩,hin⟩ })
theorem bo.o7{p:X1→X2→X3→X4→X5→X6→X7→Prop}{A:X1→X2→X3→X4→X5→X6→X7→List aa}(t:Take H C R)(e:C=Dn p A)(k:∀ x1 x2 x3 x4 x5 x6 x7,p x1 x2 x3 x4 x5 x6 x7→bo P W N K O Q ks ops L (A x1 x2 x3 x4 x5 x6 x7++R)):bo P W N K O Q ks ops L H:=fun a w ha hs=>by
 rw[t.seps] at hs
 subst e
 obtain⟨h,⟨h1,h2,⟨x1,x2,x3,x4,x5,x6,x7,hp,a1⟩,r,d,e'⟩,hin⟩:=hs.own
 exact k x1 x2 x3 x4 x5 x6 x7 hp a w ha (by rw[ah];exact {hs with own:=⟨h,⟨h1,h2,a1,r,d,e'⟩,hin⟩ })
theorem bo.o8{p:X1→X2→X3→X4→X5→X6→X7→X8→Prop}{A:X1→X2→X3→X4→X5→X6→X7→X8→List aa}(t:Take H C R)(e:C=Dp p A)(k:∀ x1 x2 x3 x4 x5 x6 x7 x8,p x1 x2 x3 x4 x5 x6 x7 x8→bo P W N K O Q ks ops L (A x1 x2 x3 x4 x5 x6 x7 x8++R)):bo P W N K O Q ks ops L H:=fun a w ha hs=>by
 rw[t.seps] at hs
 subst e
 obtain⟨h,⟨h1,h2,⟨x1,x2,x3,x4,x5,x6,x7,x8,hp,a1⟩,r,d,e'⟩,hin⟩:=hs.own
 exact k x1 x2 x3 x4 x5 x6 x7 x8 hp a w ha (by rw[ah];exact {hs with own:=⟨h,⟨h1,h2,a1,r,d,e'⟩,hin⟩ })
theorem bo.o9{p:X1→X2→X3→X4→X5→X6→X7→X8→X9→Prop}{A:X1→X2→X3→X4→X5→X6→X7→X8→X9→List aa}(t:Take H C R)(e:C=Dq p A)(k:∀ x1 x2 x3 x4 x5 x6 x7 x8 x9,p x1 x2 x3 x4 x5 x6 x7 x8 x9→bo P W N K O Q ks ops L (A x1 x2 x3 x4 x5 x6 x7 x8 x9++R)):bo P W N K O Q ks ops L H:=fun a w ha hs=>by
 rw[t.seps] at hs
 subst e
 obtain⟨h,⟨h1,h2,⟨x1,x2,x3,x4,x5,x6,x7,x8,x9,hp,a1⟩,r,d,e'⟩,hin⟩:=hs.own
 exact k x1 x2 x3 x4 x5 x6 x7 x8 x9 hp a w ha (by rw[ah];exact {hs with own:=⟨h,⟨h1,h2,a1,r,d,e'⟩,hin⟩ })
theorem bo.jR{p:X1→X2→X3→X4→X5→X6→X7→X8→X9→X10→Prop}{A:X1→X2→X3→X4→X5→X6→X7→X8→X9→X10→List aa}(t:Take H C R)(e:C=tM p A)(k:∀ x1 x2 x3 x4 x5 x6 x7 x8 x9 x10,p x1 x2 x3 x4 x5 x6 x7 x8 x9 x10→bo P W N K O Q ks ops L (A x1 x2 x3 x4 x5 x6 x7 x8 x9 x10++R)):bo P W N K O Q ks ops L H:=fun a w ha hs=>by
 rw[t.seps] at hs
 subst e
 obtain⟨h,⟨h1,h2,⟨x1,x2,x3,x4,x5,x6,x7,x8,x9,x10,hp,a1⟩,r,d,e'⟩,hin⟩:=hs.own
 exact k x1 x2 x3 x4 x5 x6 x7 x8 x9 x10 hp a w ha (by rw[ah];exact {hs with own:=⟨h,⟨h1,h2,a1,r,d,e'⟩,hin⟩ })
theorem bo.K5{p:X1→X2→X3→X4→X5→X6→X7→X8→X9→X10→X11→Prop}{A:X1→X2→X3→X4→X5→X6→X7→X8→X9→X10→X11→List aa}(t:Take H C R)(e:C=xb p A)(k:∀ x1 x2 x3 x4 x5 x6 x7 x8 x9 x10 x11,p x1 x2 x3 x4 x5 x6 x7 x8 x9 x10 x11→bo P W N K O Q ks ops L (A x1 x2 x3 x4 x5 x6 x7 x8 x9 x10 x11++R)):bo P W N K O Q ks ops L H:=fun a w ha hs=>by
 rw[t.seps] at hs
 subst e
 obtain⟨h,⟨h1,h2,⟨x1,x2,x3,x4,x5,x6,x7,x8,x9,x10,x11,hp,a1⟩,r,d,e'⟩,hin⟩:=hs.own
 exact k x1 x2 x3 x4 x5 x6 x7 x8 x9 x10 x11 hp a w ha (by rw[ah];exact {hs with own:=⟨h,⟨h1,h2,a1,r,d,e'⟩,hin⟩ })
theorem bo.K6{p:X1→X2→X3→X4→X5→X6→X7→X8→X9→X10→X11→X12→Prop}{A:X1→X2→X3→X4→X5→X6→X7→X8→X9→X10→X11→X12→List aa}(t:Take H C R)(e:C=xd p A)(k:∀ x1 x2 x3 x4 x5 x6 x7 x8 x9 x10 x11 x12,p x1 x2 x3 x4 x5 x6 x7 x8 x9 x10 x11 x12→bo P W N K O Q ks ops L (A x1 x2 x3 x4 x5 x6 x7 x8 x9 x10 x11 x12++R)):bo P W N K O Q ks ops L H:=fun a w ha hs=>by
 rw[t.seps] at hs
 subst e
 obtain⟨h,⟨h1,h2,⟨x1,x2,x3,x4,x5,x6,x7,x8,x9,x10,x11,x12,hp,a1⟩,r,d,e'⟩,hin⟩:=hs.own
 exact k x1 x2 x3 x4 x5 x6 x7 x8 x9 x10 x11 x12 hp a w ha (by rw[ah];exact {hs with own:=⟨h,⟨h1,h2,a1,r,d,e'⟩,hin⟩ })
theorem bY.KR{en:Exit}{As:List aa}(t:aK H As R)(k:bY W N Q en L (As++R)):bY W N Q en L H:=fun a w ha hs=>k a w ha (t.sat hs)
theorem bY.fR{en:Exit}{As:List aa}(t:Take H (seps As) R)(k:bY W N Q en L (As++R)):bY W N Q en L H:=fun a w ha hs=>k a w ha (by rw[ah, ← t.seps];exact hs)
theorem bY.o1{en:Exit}{p:X1→Prop}{A:X1→List aa}(t:Take H C R)(e:C=hZ p A)(k:∀ x1,p x1→bY W N Q en L (A x1++R)):bY W N Q en L H:=fun a w ha hs=>by
 rw[t.seps] at hs
 subst e
 obtain⟨h,⟨h1,h2,⟨x1,hp,a1⟩,r,d,e'⟩,hin⟩:=hs.own
 exact k x1 hp a w ha (by rw[ah];exact {hs with own:=⟨h,⟨h1,h2,a1,r,d,e'⟩,hin⟩ })
theorem bY.o2{en:Exit}{p:X1→X2→Prop}{A:X1→X2→List aa}(t:Take H C R)(e:C=rG p A)(k:∀ x1 x2,p x1 x2→bY W N Q en L (A x1 x2++R)):bY W N Q en L H:=fun a w ha hs=>by
 rw[t.seps] at hs
 subst e
 obtain⟨h,⟨h1,h2,⟨x1,x2,hp,a1⟩,r,d,e'⟩,hin⟩:=hs.own
 exact k x1 x2 hp a w ha (by rw[ah];exact {hs with own:=⟨h,⟨h1,h2,a1,r,d,e'⟩,hin⟩ })
theorem bY.o3{en:Exit}{p:X1→X2→X3→Prop}{A:X1→X2→X3→List aa}(t:Take H C R)(e:C=yY p A)(k:∀ x1 x2 x3,p x1 x2 x3→bY W N Q en L (A x1 x2 x3++R)):bY W N Q en L H:=fun a w ha hs=>by
 rw[t.seps] at hs
 subst e
 obtain⟨h,⟨h1,h2,⟨x1,x2,x3,hp,a1⟩,r,d,e'⟩,hin⟩:=hs.own
 exact k x1 x2 x3 hp a w ha (by rw[ah];exact {hs with own:=⟨h,⟨h1,h2,a1,r,d,e'⟩,hin⟩ })
theorem bY.o4{en:Exit}{p:X1→X2→X3→X4→Prop}{A:X1→X2→X3→X4→List aa}(t:Take H C R)(e:C=Dk p A)(k:∀ x1 x2 x3 x4,p x1 x2 x3 x4→bY W N Q en L (A x1 x2 x3 x4++R)):bY W N Q en L H:=fun a w ha hs=>by
 rw[t.seps] at hs
 subst e
 obtain⟨h,⟨h1,h2,⟨x1,x2,x3,x4,hp,a1⟩,r,d,e'⟩,hin⟩:=hs.own
 exact k x1 x2 x3 x4 hp a w ha (by rw[ah];exact {hs with own:=⟨h,⟨h1,h2,a1,r,d,e'⟩,hin⟩ })
theorem bY.o5{en:Exit}{p:X1→X2→X3→X4→X5→Prop}{A:X1→X2→X3→X4→X5→List aa}(t:Take H C R)(e:C=Dl p A)(k:∀ x1 x2 x3 x4 x5,p x1 x2 x3 x4 x5→bY W N Q en L (A x1 x2 x3 x4 x5++R)):bY W N Q en L H:=fun a w ha hs=>by
 rw[t.seps] at hs
 subst e
 obtain⟨h,⟨h1,h2,⟨x1,x2,x3,x4,x5,hp,a1⟩,r,d,e'⟩,hin⟩:=hs.own
 exact k x1 x2 x3 x4 x5 hp a w ha (by rw[ah];exact {hs with own:=⟨h,⟨h1,h2,a1,r,d,e'⟩,hin⟩ })
theorem bY.o6{en:Exit}{p:X1→X2→X3→X4→X5→X6→Prop}{A:X1→X2→X3→X4→X5→X6→List aa}(t:Take H C R)(e:C=Dm p A)(k:∀ x1 x2 x3 x4 x5 x6,p x1 x2 x3 x4 x5 x6→bY W N Q en L (A x1 x2 x3 x4 x5 x6++R)):bY W N Q en L H:=fun a w ha hs=>by
 rw[t.seps] at hs
 subst e
 obtain⟨h,⟨h1,h2,⟨x1,x2,x3,x4,x5,x6,hp,a1⟩,r,d,e'⟩,hin⟩:=hs.own
 exact k x1 x2 x3 x4 x5 x6 hp a w ha (by rw[ah];exact {hs with own:=⟨h,⟨h1,h2,a1,r,d,e'⟩,hin⟩ })
theorem bY.o7{en:Exit}{p:X1→X2→X3→X4→X5→X6→X7→Prop}{A:X1→X2→X3→X4→X5→X6→X7→List aa}(t:Take H C R)(e:C=Dn p A)(k:∀ x1 x2 x3 x4 x5 x6 x7,p x1 x2 x3 x4 x5 x6 x7→bY W N Q en L (A x1 x2 x3 x4 x5 x6 x7++R)):bY W N Q en L H:=fun a w ha hs=>by
 rw[t.seps] at hs
 subst e
 obtain⟨h,⟨h1,h2,⟨x1,x2,x3,x4,x5,x6,x7,hp,a1⟩,r,d,e'⟩,hin⟩:=hs.own
 exact k x1 x2 x3 x4 x5 x6 x7 hp a w ha (by rw[ah];exact {hs with own:=⟨h,⟨h1,h2,a1,r,d,e'⟩,hin⟩ })
theorem bY.o8{en:Exit}{p:X1→X2→X3→X4→X5→X6→X7→X8→Prop}{A:X1→X2→X3→X4→X5→X6→X7→X8→List aa}(t:Take H C R)(e:C=Dp p A)(k:∀ x1 x2 x3 x4 x5 x6 x7 x8,p x1 x2 x3 x4 x5 x6 x7 x8→bY W N Q en L (A x1 x2 x3 x4 x5 x6 x7 x8++R)):bY W N Q en L H:=fun a w ha hs=>by
 rw[t.seps] at hs
 subst e
 obtain⟨h,⟨h1,h2,⟨x1,x2,x3,x4,x5,x6,x7,x8,hp,a1⟩,r,d,e'⟩,hin⟩:=hs.own
 exact k x1 x2 x3 x4 x5 x6 x7 x8 hp a w ha (by rw[ah];exact {hs with own:=⟨h,⟨h1,h2,a1,r,d,e'⟩,hin⟩ })
theorem bY.o9{en:Exit}{p:X1→X2→X3→X4→X5→X6→X7→X8→X9→Prop}{A:X1→X2→X3→X4→X5→X6→X7→X8→X9→List aa}(t:Take H C R)(e:C=Dq p A)(k:∀ x1 x2 x3 x4 x5 x6 x7 x8 x9,p x1 x2 x3 x4 x5 x6 x7 x8 x9→bY W N Q en L (A x1 x2 x3 x4 x5 x6 x7 x8 x9++R)):bY W N Q en L H:=fun a w ha hs=>by
 rw[t.seps] at hs
 subst e
 obtain⟨h,⟨h1,h2,⟨x1,x2,x3,x4,x5,x6,x7,x8,x9,hp,a1⟩,r,d,e'⟩,hin⟩:=hs.own
 exact k x1 x2 x3 x4 x5 x6 x7 x8 x9 hp a w ha (by rw[ah];exact {hs with own:=⟨h,⟨h1,h2,a1,r,d,e'⟩,hin⟩ })
theorem bY.jR{en:Exit}{p:X1→X2→X3→X4→X5→X6→X7→X8→X9→X10→Prop}{A:X1→X2→X3→X4→X5→X6→X7→X8→X9→X10→List aa}(t:Take H C R)(e:C=tM p A)(k:∀ x1 x2 x3 x4 x5 x6 x7 x8 x9 x10,p x1 x2 x3 x4 x5 x6 x7 x8 x9 x10→bY W N Q en L (A x1 x2 x3 x4 x5 x6 x7 x8 x9 x10++R)):bY W N Q en L H:=fun a w ha hs=>by
 rw[t.seps] at hs
 subst e
 obtain⟨h,⟨h1,h2,⟨x1,x2,x3,x4,x5,x6,x7,x8,x9,x10,hp,a1⟩,r,d,e'⟩,hin⟩:=hs.own
 exact k x1 x2 x3 x4 x5 x6 x7 x8 x9 x10 hp a w ha (by rw[ah];exact {hs with own:=⟨h,⟨h1,h2,a1,r,d,e'⟩,hin⟩ })
theorem bY.K5{en:Exit}{p:X1→X2→X3→X4→X5→X6→X7→X8→X9→X10→X11→Prop}{A:X1→X2→X3→X4→X5→X6→X7→X8→X9→X10→X11→List aa}(t:Take H C R)(e:C=xb p A)(k:∀ x1 x2 x3 x4 x5 x6 x7 x8 x9 x10 x11,p x1 x2 x3 x4 x5 x6 x7 x8 x9 x10 x11→bY W N Q en L (A x1 x2 x3 x4 x5 x6 x7 x8 x9 x10 x11++R)):bY W N Q en L H:=fun a w ha hs=>by
 rw[t.seps] at hs
 subst e
 obtain⟨h,⟨h1,h2,⟨x1,x2,x3,x4,x5,x6,x7,x8,x9,x10,x11,hp,a1⟩,r,d,e'⟩,hin⟩:=hs.own
 exact k x1 x2 x3 x4 x5 x6 x7 x8 x9 x10 x11 hp a w ha (by rw[ah];exact {hs with own:=⟨h,⟨h1,h2,a1,r,d,e'⟩,hin⟩ })
theorem bY.K6{en:Exit}{p:X1→X2→X3→X4→X5→X6→X7→X8→X9→X10→X11→X12→Prop}{A:X1→X2→X3→X4→X5→X6→X7→X8→X9→X10→X11→X12→List aa}(t:Take H C R)(e:C=xd p A)(k:∀ x1 x2 x3 x4 x5 x6 x7 x8 x9 x10 x11 x12,p x1 x2 x3 x4 x5 x6 x7 x8 x9 x10 x11 x12→bY W N Q en L (A x1 x2 x3 x4 x5 x6 x7 x8 x9 x10 x11 x12++R)):bY W N Q en L H:=fun a w ha hs=>by
 rw[t.seps] at hs
 subst e
 obtain⟨h,⟨h1,h2,⟨x1,x2,x3,x4,x5,x6,x7,x8,x9,x10,x11,x12,hp,a1⟩,r,d,e'⟩,hin⟩:=hs.own
 exact k x1 x2 x3 x4 x5 x6 x7 x8 x9 x10 x11 x12 hp a w ha (by rw[ah];exact {hs with own:=⟨h,⟨h1,h2,a1,r,d,e'⟩,hin⟩ })
end
end Go.SLYtefdijgllbkmfaaGreat
namespace Go.SLYtefdijgllbkmfaaGreat
def cH{α:Type}(l:List α)(i:Int):Option α:=if i<0 then none else l[i.toNat]?
def pick(k:Int)(n:Nat):Nat:=((k.tmod n+n).tmod n).toNat
structure Ins where
 op:Int
 a:Int
 b:Int
 c:Int
 n:Int
deriving DecidableEq
def Ins.z:Ins:=⟨0,0,0,0,0⟩
structure eB where
 funcs:List (List Ins)
 words:Int
 ay:Int
 conds:Int
 aT:List Int
 aC:List Int
 blocks:Int
 prio:Int
/-! instructions -/
def cls(op:Int):Int:=if 1≤op∧op≤19 then 1 else if 20≤op∧op≤32 then 2 else if 33≤op∧op≤38 then 3 else 0
def lI(n:Int)(b:Bool):Bool:=decide (n=0) || (b && decide (0<n) && decide (n<8))
structure Form where
 av:Int
 mutex:Bool
 n:Int
 any:Bool
def aQ(p:eB)(op:Int):Form :=
 if op=1 then ⟨1,false,0,true⟩
 else if op=2∨op=14∨op=15∨op=18∨op=19∨op=21∨op=33∨op=34 then ⟨2,false, -1,false⟩
 else if op=16 then ⟨0,false,257,false⟩
 else if op=17 then ⟨1,false,257,false⟩
 else if op=20 then ⟨2,false,p.funcs.length,false⟩
 else if op=22∨op=23∨op=32∨op=37∨op=38 then ⟨1,false, -1,false⟩
 else if op=24 then ⟨0,false, -1,false⟩
 else if op=25∨op=26 then ⟨0,false,p.ay,false⟩
 else if op=27 then ⟨0,true,p.conds,false⟩
 else if op=28∨op=29 then ⟨0,false,p.conds,false⟩
 else if op=30∨op=31 then ⟨0,false,p.aT.length,false⟩
 else if op=35∨op=36 then ⟨1,false,p.aC.length,false⟩
 else ⟨3,false, -1,false⟩
def Form.below(f:Form)(n:Int):Bool :=
 if f.any=true then true else if f.n = -1 then decide (n=0) else decide (0<f.n) && decide (n<f.n)
def ey(p:eB)(i:Ins):Bool :=
 if cls i.op=0 then false else
  let f:=aQ p i.op
  lI i.a (decide (0<f.av)) && lI i.b (decide (1<f.av)) && (if f.mutex=true then decide (0≤i.c) && decide (i.c<p.ay) else lI i.c (decide (2<f.av))) && f.below i.n
def within(n most:Int):Bool:=decide (0≤n) && decide (n≤most)
def ei(p:eB):Bool :=
 decide (0<p.funcs.length) && decide (p.funcs.length≤8) && within p.words 64 && within p.ay 4 && within p.conds 4 && within p.blocks 64 && within p.prio 7 && decide (p.aT.length≤4) && decide (p.aC.length≤4) &&
  p.funcs.all (fun f=>decide (f.length≤256)) && p.aT.all (fun n=>within n 1048576) && p.aC.all (fun n=>decide (0<n) && within n 8)
def cK(p:eB):Int:=if ei p=true then (if p.funcs.all (fun f=>f.all (ey p))=true then 0 else 8) else 9
/-! slots -/
def dn(taken:Int)(n:Nat):Int:=taken * 65536+n+1
def slotFree?:List (Bool×Int)→Nat→Option Nat
 | [],_=>none
 | o::l,k=>if o.1=true then slotFree? l (k+1) else some k
def bj(l:List (Bool×Int))(h:Int):Option Nat :=
 if h % 65536=0 then none else
  match l[(h % 65536-1).toNat]? with
  | none=>none
  | some o=>if o.1=true∧dn o.2 (h % 65536-1).toNat=h then some (h % 65536-1).toNat else none
def slotFreed(l:List (Bool×Int))(h:Int):List (Bool×Int) :=
 match bj l h with
 | none=>l
 | some n=>l.set n (false,(l.getD n (false,0)).2)
/-! gates -/
structure dc where
 who:Int
 mutex:Int
deriving DecidableEq
structure dt where
 wait:List dc
 held:Bool
 owner:Int
structure jr where
 wait:List dc
 count:Int
structure Gates where
 aD:List dt
 bm:List (List dc)
 bX:List jr
def lx(l:List dc)(who:Int):Bool:=l.any fun w=>decide (w.who=who)
def aH(l:List dc)(choice:Int):dc×Bool×List dc :=
 if l.length=0 then (⟨0,0⟩,false,l) else (l.getD (pick choice l.length) ⟨0,0⟩,true,l.eraseIdx (pick choice l.length))
def Gates.waits(g:Gates)(who:Int):Bool:=g.aD.any (fun m=>lx m.wait who) || g.bm.any (fun r=>lx r who) || g.bX.any (fun s=>lx s.wait who)
def dt.is(m:dt)(who:Int):Bool:=m.held && decide (m.owner=who)
def dt.lock(m:dt)(who:Int):Bool×dt:=if m.held=true then (false,{m with wait:=m.wait++[⟨who,0⟩] }) else (true,{m with held:=true,owner:=who })
def dt.unlock(m:dt)(choice:Int):Int×Bool×dt:=((aH m.wait choice).1.who,(aH m.wait choice).2.1,⟨(aH m.wait choice).2.2,(aH m.wait choice).2.1,(aH m.wait choice).1.who⟩)
def Gates.lock(g:Gates)(who m:Int):Bool×Int×Gates :=
 match cH g.aD m with
 | none=>(false,1,g)
 | some x=>if g.waits who=true∨x.is who=true then (false,4,g) else ((x.lock who).1,0,{g with aD:=g.aD.set m.toNat (x.lock who).2 })
def Gates.unlock(g:Gates)(who m choice:Int):Int×Bool×Int×Gates :=
 match cH g.aD m with
 | none=>(0,false,1,g)
 | some x=>if x.is who=true then ((x.unlock choice).1,(x.unlock choice).2.1,0,{g with aD:=g.aD.set m.toNat (x.unlock choice).2.2 }) else (0,false,5,g)
def Gates.wait(g:Gates)(who c m choice:Int):Int×Bool×Int×Gates :=
 match cH g.aD m,cH g.bm c with
 | some x,some r =>
  if g.waits who=true then (0,false,4,g) else
  if x.is who=true then ((x.unlock choice).1,(x.unlock choice).2.1,0,{g with aD:=g.aD.set m.toNat (x.unlock choice).2.2,bm:=g.bm.set c.toNat (r++[⟨who,m⟩]) }) else (0,false,5,g)
 | _,_=>(0,false,1,g)
def sigLoop:Nat→Int→List dc→List dt→List Int→List dc×List dt×List Int
 | 0,_,r,ms,out=>(r,ms,out)
 | n+1,choice,r,ms,out =>
  let w:=(aH r choice).1
  let l:=(ms.getD w.mutex.toNat ⟨[],false,0⟩).lock w.who
  sigLoop n choice (aH r choice).2.2 (ms.set w.mutex.toNat l.2) (if l.1=true then out++[w.who] else out)
def Gates.signal(g:Gates)(c choice:Int)(all:Bool):List Int×Int×Gates :=
 match cH g.bm c with
 | none=>([],1,g)
 | some r =>
  let z:=sigLoop (if all=true then r.length else min r.length 1) (if all=true then 0 else choice) r g.aD []
  (z.2.2,0,{g with aD:=z.2.1,bm:=g.bm.set c.toNat z.1 })
def Gates.down(g:Gates)(who s:Int):Bool×Int×Gates :=
 match cH g.bX s with
 | none=>(false,1,g)
 | some x =>
  if g.waits who=true then (false,4,g) else
  if 0<x.count then (true,0,{g with bX:=g.bX.set s.toNat {x with count:=x.count-1 } }) else (false,0,{g with bX:=g.bX.set s.toNat {x with wait:=x.wait++[⟨who,0⟩] } })
def Gates.up(g:Gates)(s choice:Int):Int×Bool×Int×Gates :=
 match cH g.bX s with
 | none=>(0,false,1,g)
 | some x =>
  if (aH x.wait choice).2.1=true then ((aH x.wait choice).1.who,true,0,{g with bX:=g.bX.set s.toNat {x with wait:=(aH x.wait choice).2.2 } }) else
  if 1048576≤x.count then (0,false,2,g) else (0,false,0,{g with bX:=g.bX.set s.toNat {x with count:=x.count+1 } })
def aZ(n most:Int):Int:=min (max n 0) most
def Gates.new(ay conds:Int)(aT:List Int):Gates :=
 ⟨List.replicate (aZ ay 4).toNat ⟨[],false,0⟩,List.replicate (aZ conds 4).toNat [],(aT.take 4).map fun n=>⟨[],aZ n 1048576⟩⟩
/-! pipes -/
structure Ptr where
 who:Int
 x:Int
deriving DecidableEq
structure Tub where
 room:Int
 words:List Int
 bN:List Ptr
 bz:List Int
def Tub.new(room:Int):Tub:=⟨min (max room 1) 8,[],[],[]⟩
def Tub.waits(t:Tub)(who:Int):Bool:=t.bz.contains who || t.bN.any fun p=>decide (p.who=who)
def Tub.put(t:Tub)(who x:Int):Bool×Int×Bool×Tub :=
 if t.waits who=true then (false,0,false,t) else
 match t.bz with
 | w::r=>(true,w,true,{t with bz:=r })
 | []=>if (t.words.length:Int)<t.room then (true,0,false,{t with words:=t.words++[x] }) else (false,0,false,{t with bN:=t.bN++[⟨who,x⟩] })
def Tub.get(t:Tub)(who:Int):Int×Bool×Int×Bool×Tub :=
 if t.waits who=true then (0,false,0,false,t) else
 match t.words with
 | []=>(0,false,0,false,{t with bz:=t.bz++[who] })
 | x::r =>
  match t.bN with
  | []=>(x,true,0,false,{t with words:=r })
  | p::q=>(x,true,p.who,true,{t with words:=r++[p.x],bN:=q })
/-! the disk -/
structure pz where
 who:Int
 block:Int
 write:Bool
 x:Int
deriving DecidableEq
structure jB where
 blocks:List Int
 wait:List pz
def jB.new(blocks:Int):jB:=⟨List.replicate (aZ blocks 64).toNat 0,[]⟩
def jB.ask(d:jB)(r:pz):Int×jB :=
 if r.block<0∨(d.blocks.length:Int)≤r.block then (1,d) else
 if d.wait.any (fun x=>decide (x.who=r.who))=true then (4,d) else (0,{d with wait:=d.wait++[r] })
def jB.done(d:jB)(k:Int):pz×Int×Bool×jB :=
 if d.wait.length=0 then (⟨0,0,false,0⟩,0,false,d) else
  let r:=d.wait.getD (pick k d.wait.length) ⟨0,0,false,0⟩
  let d':jB:={d with wait:=d.wait.eraseIdx (pick k d.wait.length) }
  if r.write=true then (r,0,true,{d' with blocks:=d'.blocks.set r.block.toNat r.x }) else (r,d.blocks.getD r.block.toNat 0,true,d')
/-! the clock: who waits until when, in no order that counts -/
structure jW where
 now:Int
 dV:List (Int×Int)
def cC(l:List (Int×Int))(k:Int):Option Int:=(l.find? fun p=>decide (p.1=k)).map (·.2)
def mapSet:List (Int×Int)→Int→Int→List (Int×Int)
 | [],k,v=>[(k,v)]
 | p::l,k,v=>if p.1=k then (k,v)::l else p::mapSet l k v
def dQ(l:List (Int×Int))(k:Int):List (Int×Int):=l.filter fun p => !decide (p.1=k)
def dB(x:Int):List Int→List Int
 | []=>[x]
 | y::l=>if x≤y then x::y::l else y::dB x l
def gq(l:List Int):List Int:=l.foldr dB []
def jW.new:jW:=⟨0,[]⟩
def jW.sleep(w:jW)(who n:Int):Int×jW :=
 if n<1∨1099511627776<n then (1,w) else
 if 0<(cC w.dV who).getD 0 then (4,w) else (0,{w with dV:=mapSet w.dV who (min (w.now+n) 1099511627776) })
def jW.due(w:jW):List Int:=gq ((w.dV.filter fun p=>decide (p.2≤min (w.now+1) 1099511627776)).map (·.1))
def jW.tick(w:jW):List Int×jW:=(w.due,⟨min (w.now+1) 1099511627776,w.due.foldl dQ w.dV⟩)
/-! words -/
def gO(n:Int):Int:=n % 18446744073709551616
def mS:Int:=9221120237041090560
/-! a space -/
structure Rec where
 cy:Int
 op:Int
 x:Int
 y:Int
 result:Int
 fin:Bool
deriving DecidableEq
structure bF where
 fn:Int
 pc:Int
 av:List Int
 handle:Int
 why:Int
 value:Int
 bn:Bool
 ar:Int
 op:Int
 into:Int
structure Spc where
 dG:eB
 table:List (Bool×Int)
 thr:List (Option bF)
 mem:List Int
 ag:Gates
 bx:List Tub
 aN:jB
 aA:jW
 au:List Rec
def readyFrom:List (Option bF)→Nat→List Int
 | [],_=>[]
 | none::l,n=>readyFrom l (n+1)
 | some t::l,n=>if t.why=0 then (n:Int)::readyFrom l (n+1) else readyFrom l (n+1)
def Spc.ready(s:Spc):List Int:=readyFrom s.thr 0
def mM(f arg:Int)(handle:Int):bF:=⟨f,0,[arg,0,0,0,0,0,0,0],handle,0,0,false, -1,0, -1⟩
def Spc.begin(s:Spc)(f arg:Int):Int×Int×Spc :=
 match slotFree? s.table 0 with
 | none=>(0,2,s)
 | some n=>((n:Int),0,{s with table:=s.table.set n (true,(s.table.getD n (false,0)).2+1),thr:=s.thr.set n (some (mM f arg (dn ((s.table.getD n (false,0)).2+1) n))) })
def Spc.new(p:eB):Spc :=
 (Spc.begin ⟨p,List.replicate 16 (false,0),List.replicate 16 none,List.replicate p.words.toNat 0,Gates.new p.ay p.conds p.aT,p.aC.map Tub.new,jB.new p.blocks,jW.new,[]⟩ 0 0).2.2
/-! events, vessels, rows, a library -/
structure Ev where
 kind:Int
 cy:Int
 mode:Int
deriving DecidableEq
structure KS where
 mode:Int
 cy:Int
 evs:List Ev
def KS.holds(v:KS):Bool:=decide (v.mode=2) || decide (v.mode=4) || decide (v.mode=7)
structure Lib where
 Ao:Spc
 rows:List (List Int)
 vs:List KS
 waiting:List Ev
 locked:Bool
/-! processors -/
structure LK where
 owner:List Int
 libs:List Lib
def checkAll:List eB→Int
 | []=>0
 | p::l=>if cK p=0 then checkAll l else cK p
/-! who gets how many -/
structure Deal where
 left:Int
 iz:List Int
 prio:List Int
 out:List Int
end Go.SLYtefdijgllbkmfaaGreat
namespace Go.SLYtefdijgllbkmfaaGreat
open Go Go.RowKit
abbrev ptr(b:Nat):Value:=.pointer (some ⟨b,0,none⟩)
def iw(o:Option Nat):Value:=.pointer (o.map fun b=>⟨b,0,none⟩)
def aP(n:Int):List Value:=[.int .i64 n]
def cM(n:Int):List Value:=[.int .u64 n]
def dC(i:Ins):List Value:=[.int .i64 i.op,.int .i64 i.a,.int .i64 i.b,.int .i64 i.c,.int .u64 i.n]
def F2(o:Bool×Int):List Value:=[.bool o.1,.int .u64 o.2]
def cN(w:dc):List Value:=[.int .i64 w.who,.int .i64 w.mutex]
def eO(p:Ptr):List Value:=[.int .i64 p.who,.int .u64 p.x]
def dY(r:pz):List Value:=[.int .i64 r.who,.int .i64 r.block,.bool r.write,.int .u64 r.x]
def dp(r:Rec):List Value:=[.int .u64 r.cy,.int .i64 r.op,.int .u64 r.x,.int .u64 r.y,.int .i64 r.result,.bool r.fin]
/-! things in a row that bear things -/
def bb{α:Type}(f:α→aa)(xs:List α):aa:=seps (xs.map f)
theorem Dr{α:Type}(f:α→aa):bb f []=emp:=rfl
theorem iM{α:Type}(f:α→aa)(x:α)(xs:List α):bb f (x::xs)=sep (f x) (bb f xs):=rfl
theorem Ds{α:Type}(f:α→aa)(xs ys:List α):bb f (xs++ys)=sep (bb f xs) (bb f ys):=by unfold bb;rw[List.map_append,ah]
theorem jX{α:Type}(f:α→aa)(xs:List α)(y:α):bb f (xs++[y])=sep (f y) (bb f xs):=by
 rw[Ds,hG]
 congr 1
 show sep (f y) emp=f y
 exact aO _
theorem iU{α:Type}(f:α→aa){xs:List α}{i:Nat}{x:α}(h:xs[i]?=some x):bb f xs=sep (f x) (bb f (xs.eraseIdx i)):=by
 induction xs generalizing i with
 | nil=>simp at h
 | cons y ys ih =>
  cases i with
  | zero=>simp at h;subst h;rfl
  | succ i =>
   have:=ih (i:=i) (by simpa using h)
   rw[iM,this,List.eraseIdx_cons_succ,iM,aX]
theorem iV{α:Type}(f:α→aa){xs:List α}{i:Nat}(y:α)(h:i<xs.length):bb f (xs.set i y)=sep (f y) (bb f (xs.eraseIdx i)):=by
 induction xs generalizing i with
 | nil=>simp at h
 | cons z zs ih =>
  cases i with
  | zero=>rfl
  | succ i =>
   have:=ih (i:=i) (by simpa using h)
   simp only[List.set_cons_succ,List.eraseIdx_cons_succ,iM,this]
   exact aX _ _ _
/-! programs -/
structure bI where
 fv:Value
 fs:List (Value×List Ins)
 words:Int
 ay:Int
 conds:Int
 sv:Value
 aT:List Int
 pv:Value
 aC:List Int
 blocks:Int
 prio:Int
def bI.p(v:bI):eB:=⟨v.fs.map (·.2),v.words,v.ay,v.conds,v.aT,v.aC,v.blocks,v.prio⟩
def eg(v:bI):List Value:=[v.fv,.int .i64 v.words,.int .i64 v.ay,.int .i64 v.conds,v.sv,v.pv,.int .i64 v.blocks,.int .i64 v.prio]
def cj{α:Type}(x:Value×α):List Value:=[x.1]
def dD{α:Type}(x:Nat×α):List Value:=[ptr x.1]
structure eD(W:World)(H:List aa)(v:bI):Prop where
 fs:Rd W H cj 1 v.fv v.fs
 ins:∀ x∈v.fs,Rd W H dC 5 x.1 x.2
 aT:Rd W H aP 1 v.sv v.aT
 aC:Rd W H aP 1 v.pv v.aC
/-! a space's parts -/
def lJ(b:Nat)(l:List (Bool×Int)):aa:=hZ (fun _=>True) fun v=>[arr b 0 [v],sl F2 2 v l]
def iy(b o:Nat)(l:List dc):aa:=hZ (fun _=>True) fun v=>[arr b o [v],sl cN 2 v l]
def ly(x:Value×dt):List Value:=[x.1,.bool x.2.held,.int .i64 x.2.owner]
def lK(x:Value×jr):List Value:=[x.1,.int .i64 x.2.count]
def eo(v:Value)(l:List dt):aa:=hZ (fun xs:List (Value×dt)=>xs.map (·.2)=l) fun xs=>[sl ly 3 v xs,bb (fun x=>sl cN 2 x.1 x.2.wait) xs]
def ia(v:Value)(l:List (List dc)):aa:=hZ (fun xs:List (Value×List dc)=>xs.map (·.2)=l) fun xs=>[sl cj 1 v xs,bb (fun x=>sl cN 2 x.1 x.2) xs]
def fq(v:Value)(l:List jr):aa:=hZ (fun xs:List (Value×jr)=>xs.map (·.2)=l) fun xs=>[sl lK 2 v xs,bb (fun x=>sl cN 2 x.1 x.2.wait) xs]
def cZ(b:Nat)(g:Gates):aa:=yY (fun _ _ _=>True) fun vm vc vs=>[arr b 0 [vm,vc,vs],eo vm g.aD,ia vc g.bm,fq vs g.bX]
def ib(b:Nat)(t:Tub):aa:=yY (fun _ _ _=>True) fun vw vp vg=>[arr b 0 [.int .i64 t.room,vw,vp,vg],sl cM 1 vw t.words,sl eO 2 vp t.bN,sl aP 1 vg t.bz]
def qp(v:Value)(l:List Tub):aa:=hZ (fun xs:List (Nat×Tub)=>xs.map (·.2)=l) fun xs=>[sl dD 1 v xs,bb (fun x=>ib x.1 x.2) xs]
def pA(b:Nat)(d:jB):aa:=rG (fun _ _=>True) fun vb vw=>[arr b 0 [vb,vw],sl cM 1 vb d.blocks,sl dY 4 vw d.wait]
def Al(v:Value)(l:List (List Ins)):aa:=hZ (fun xs:List (Value×List Ins)=>xs.map (·.2)=l) fun xs=>[sl cj 1 v xs,bb (fun x=>sl dC 5 x.1 x.2) xs]
def lu(es:List MapEntry)(clock:Nat)(l:List (Int×Int)):Prop :=
 es.map (fun e=>(e.key,e.val))=l.map (fun p=>(Value.int .i64 p.1,Value.int .i64 p.2))∧(l.map (·.1)).Nodup∧(∀ e∈es,e.born<clock)∧(es.map (·.born)).Nodup
def mZ(m:Nat)(l:List (Int×Int)):aa:=rG (fun(es:List MapEntry) clock=>lu es clock l) fun es clock=>[iS m (.map es.toArray clock)]
def nN(b:Nat)(w:jW):aa:=hZ (fun _=>True) fun m=>[arr b 0 [.int .i64 w.now,.map (some m)],mZ m w.dV]
def bH(t:bF):List Value:=[.int .i64 t.fn,.int .i64 t.pc,.int .u64 (t.av.getD 0 0),.int .u64 (t.av.getD 1 0),.int .u64 (t.av.getD 2 0),.int .u64 (t.av.getD 3 0),.int .u64 (t.av.getD 4 0),.int .u64 (t.av.getD 5 0),.int .u64 (t.av.getD 6 0),.int .u64 (t.av.getD 7 0),
 .int .u64 t.handle,.int .i64 t.why,.int .u64 t.value,.bool t.bn,.int .i64 t.ar,.int .i64 t.op,.int .i64 t.into,.int .u64 0]
def aG:List (Option Nat)→List (Option bF)→aa
 | [],[]=>emp
 | some p::ps,some t::ts=>sep (arr p 0 (bH t)) (aG ps ts)
 | none::ps,none::ts=>aG ps ts
 | _,_=>fun _=>False
theorem rH:∀ {ps:List (Option Nat)} {ts:List (Option bF)} {h:js},aG ps ts h→ps.length=ts.length
 | [],[],_,_=>rfl
 | [],_::_,_,a=>a.elim
 | some _::_,[],_,a=>a.elim
 | none::_,[],_,a=>a.elim
 | some p::ps,some t::ts,h,⟨_,h2,_,a,_⟩=>by simp[rH a]
 | none::ps,none::ts,h,a=>by simp[rH (show aG ps ts h from a)]
 | some _::_,none::_,_,a=>a.elim
 | none::_,some _::_,_,a=>a.elim
theorem nO:∀ {ps:List (Option Nat)} {ts:List (Option bF)} {n:Nat} {t:bF},ts[n]?=some (some t)→ ∀ h,aG ps ts h→ ∃ p,ps[n]?=some (some p)∧sep (arr p 0 (bH t)) (aG (ps.set n none) (ts.set n none)) h
 | [],[],_,_,e,_,_=>by simp at e
 | [],_::_,_,_,_,_,a=>a.elim
 | some _::_,[],_,_,_,_,a=>a.elim
 | none::_,[],_,_,_,_,a=>a.elim
 | some _::_,none::_,_,_,_,_,a=>a.elim
 | none::_,some _::_,_,_,_,_,a=>a.elim
 | some p::ps,some t::ts,0,u,e,h,a=>by
  simp at e;subst e
  exact⟨p,rfl,a⟩
 | none::ps,none::ts,0,u,e,h,a=>by simp at e
 | some p::ps,some t::ts,n+1,u,e,h,⟨h1,h2,a1,a2,d,e'⟩=>by
  obtain⟨q,hq,a⟩:=nO (n:=n) (by simpa using e) h2 a2
  refine⟨q,by simpa using hq,?_⟩
  show sep _ (sep (arr p 0 (bH t)) (aG (ps.set n none) (ts.set n none))) h
  rw[aX]
  exact⟨h1,h2,a1,a,d,e'⟩
 | none::ps,none::ts,n+1,u,e,h,a=>by
  obtain⟨q,hq,a⟩:=nO (ps:=ps) (n:=n) (by simpa using e) h a
  exact⟨q,by simpa using hq,a⟩
theorem pB:∀ {ps:List (Option Nat)} {ts:List (Option bF)} {n:Nat},ts[n]?=some none→ ∀ h,aG ps ts h→ps[n]?=some none
 | [],[],_,e,_,_=>by simp at e
 | [],_::_,_,_,_,a=>a.elim
 | some _::_,[],_,_,_,a=>a.elim
 | none::_,[],_,_,_,a=>a.elim
 | some _::_,none::_,_,_,_,a=>a.elim
 | none::_,some _::_,_,_,_,a=>a.elim
 | some p::ps,some t::ts,0,e,h,a=>by simp at e
 | none::ps,none::ts,0,e,h,a=>rfl
 | some p::ps,some t::ts,n+1,e,h,⟨h1,h2,a1,a2,d,e'⟩=>by
  have:=pB (n:=n) (by simpa using e) h2 a2
  simpa using this
 | none::ps,none::ts,n+1,e,h,a=>by
  have:=pB (ps:=ps) (n:=n) (by simpa using e) h a
  simpa using this
theorem nP:∀ {ps:List (Option Nat)} {ts:List (Option bF)} {n:Nat} {p:Nat} {t:bF},ts[n]?=some none→ ∀ h,sep (arr p 0 (bH t)) (aG ps ts) h→aG (ps.set n (some p)) (ts.set n (some t)) h
 | [],[],_,_,_,e,_,_=>by simp at e
 | [],_::_,_,_,_,_,_,⟨_,_,_,a,_⟩=>a.elim
 | some _::_,[],_,_,_,_,_,⟨_,_,_,a,_⟩=>a.elim
 | none::_,[],_,_,_,_,_,⟨_,_,_,a,_⟩=>a.elim
 | some _::_,none::_,_,_,_,_,_,⟨_,_,_,a,_⟩=>a.elim
 | none::_,some _::_,_,_,_,_,_,⟨_,_,_,a,_⟩=>a.elim
 | some q::ps,some u::ts,0,p,t,e,h,a=>by simp at e
 | none::ps,none::ts,0,p,t,e,h,a=>a
 | some q::ps,some u::ts,n+1,p,t,e,h,a=>by
  show sep (arr q 0 (bH u)) (aG (ps.set n (some p)) (ts.set n (some t))) h
  have:sep (arr p 0 (bH t)) (sep (arr q 0 (bH u)) (aG ps ts)) h:=a
  rw[aX] at this
  exact aR (fun _ h=>h) (fun h' a'=>nP (by simpa using e) h' a') h this
 | none::ps,none::ts,n+1,p,t,e,h,a=>nP (ps:=ps) (ts:=ts) (n:=n) (by simpa using e) h a
theorem Bz{ps:List (Option Nat)}{ts:List (Option bF)}{n p:Nat}{t:bF}(hn:n<ts.length)(hp:ps[n]?=some (some p)):∀ h,sep (arr p 0 (bH t)) (aG (ps.set n none) (ts.set n none)) h→aG ps (ts.set n (some t)) h:=fun h a=>by
 have:=nP (n:=n) (by simp[hn]) h a
 rw[List.set_set,List.set_set] at this
 rwa [show ps.set n (some p)=ps from by
  apply List.ext_getElem?
  intro i
  by_cases e:n=i
  ·subst e
   rw[List.getElem?_set_self (List.getElem?_eq_some_iff.1 hp).1,hp]
  ·rw[List.getElem?_set_ne e]] at this
def fU(fv sv pv:Value)(p:eB)(bt:Nat)(ps:List (Option Nat))(vm:Value)(bg:Nat)(vt:Value)(bd bw:Nat)(vr:Value):List Value :=
 [fv,.int .i64 p.words,.int .i64 p.ay,.int .i64 p.conds,sv,pv,.int .i64 p.blocks,.int .i64 p.prio,ptr bt,
  iw (ps.getD 0 none),iw (ps.getD 1 none),iw (ps.getD 2 none),iw (ps.getD 3 none),iw (ps.getD 4 none),iw (ps.getD 5 none),iw (ps.getD 6 none),iw (ps.getD 7 none),
  iw (ps.getD 8 none),iw (ps.getD 9 none),iw (ps.getD 10 none),iw (ps.getD 11 none),iw (ps.getD 12 none),iw (ps.getD 13 none),iw (ps.getD 14 none),iw (ps.getD 15 none),
  vm,ptr bg,vt,ptr bd,ptr bw,vr]
def dE(b:Nat)(ps:List (Option Nat))(s:Spc):aa:=tM (fun _ _ _ _ _ _ _ _ _ _=>True) fun(fv sv pv:Value) (bt:Nat) (vm:Value) (bg:Nat) (vt:Value) (bd bw:Nat) (vr:Value) =>
 [arr b 0 (fU fv sv pv s.dG bt ps vm bg vt bd bw vr),Al fv s.dG.funcs,lJ bt s.table,aG ps s.thr,sl cM 1 vm s.mem,cZ bg s.ag,qp vt s.bx,pA bd s.aN,nN bw s.aA,sl dp 6 vr s.au]
def dx(b:Nat)(s:Spc):aa:=hZ (fun _=>True) fun ps=>[dE b ps s]
/-! a library, processors -/
/-! chunks turned -/
section
variable{P:Program}{W:World}{N:Nat}{Q:Exit→Act→World→Prop}{L:List (Nat×Option Value)}{H R K:List aa}{O:Array Oper}{T:TypeId}{ks:List Nat}{ops:List Oper}{C:aa}
theorem yZ{w:World}{A:aa}{Bs:List aa}(t:Take H A R)(e:∀ h,A h→seps Bs h)(s:Sat W w (seps H)):Sat W w (seps (Bs++R)):=by
 rw[t.seps] at s
 rw[ah]
 exact s.mono (aR e fun _ r=>r)
theorem vn{w:World}{A:aa}{Bs:List aa}(t:aK H Bs R)(e:∀ h,seps Bs h→A h)(s:Sat W w (seps H)):Sat W w (seps (A::R)):=by
 have:=t.sat s
 rw[ah] at this
 exact this.mono (aR e fun _ r=>r)
theorem aS.fr{A:aa}{Bs:List aa}(t:Take H A R)(e:∀ h,A h→seps Bs h)(k:aS P W N O Q ops L (Bs++R)):aS P W N O Q ops L H:=fun a w ha hs=>k a w ha (yZ t e hs)
theorem ax.fr{c:Code}{A:aa}{Bs:List aa}(t:Take H A R)(e:∀ h,A h→seps Bs h)(k:ax P W N Q c L (Bs++R)):ax P W N Q c L H:=fun a w ha hs=>k a w ha (yZ t e hs)
theorem bo.fr{A:aa}{Bs:List aa}(t:Take H A R)(e:∀ h,A h→seps Bs h)(k:bo P W N K O Q ks ops L (Bs++R)):bo P W N K O Q ks ops L H:=fun a w ha hs=>k a w ha (yZ t e hs)
theorem aS.to{A:aa}{Bs:List aa}(t:aK H Bs R)(e:∀ h,seps Bs h→A h)(k:aS P W N O Q ops L (A::R)):aS P W N O Q ops L H:=fun a w ha hs=>k a w ha (vn t e hs)
theorem ax.to{c:Code}{A:aa}{Bs:List aa}(t:aK H Bs R)(e:∀ h,seps Bs h→A h)(k:ax P W N Q c L (A::R)):ax P W N Q c L H:=fun a w ha hs=>k a w ha (vn t e hs)
theorem bo.to{A:aa}{Bs:List aa}(t:aK H Bs R)(e:∀ h,seps Bs h→A h)(k:bo P W N K O Q ks ops L (A::R)):bo P W N K O Q ks ops L H:=fun a w ha hs=>k a w ha (vn t e hs)
theorem bY.to{en:Exit}{A:aa}{Bs:List aa}(t:aK H Bs R)(e:∀ h,seps Bs h→A h)(k:bY W N Q en L (A::R)):bY W N Q en L H:=fun a w ha hs=>k a w ha (vn t e hs)
theorem Iq{w:World}{A:aa}{X:Type}{p:X→Prop}{Bs:X→List aa}(t:Take H A R)(e:∀ h,A h→ ∃ x,p x∧seps (Bs x) h)(s:Sat W w (seps H)):∃ x,p x∧Sat W w (seps (Bs x++R)):=by
 rw[t.seps] at s
 obtain⟨h,⟨h1,h2,a,r,d,e'⟩,hin⟩:=s.own
 obtain⟨x,hp,a'⟩:=e h1 a
 exact⟨x,hp,by rw[ah];exact {s with own:=⟨h,⟨h1,h2,a',r,d,e'⟩,hin⟩ }⟩
theorem bY.fx{en:Exit}{A:aa}{X:Type}{p:X→Prop}{Bs:X→List aa}(t:Take H A R)(e:∀ h,A h→ ∃ x,p x∧seps (Bs x) h)(k:∀ x,p x→bY W N Q en L (Bs x++R)):bY W N Q en L H:=fun a w ha hs=>let ⟨x,hp,s⟩:=Iq t e hs;k x hp a w ha s
theorem cW{ps:List (Option Nat)}{ts:List (Option bF)}{n p:Nat}{t:bF}(hn:n<ts.length)(hp:ps[n]?=some (some p)):∀ h,seps [arr p 0 (bH t),aG (ps.set n none) (ts.set n none)] h→aG ps (ts.set n (some t)) h:=fun h a =>
 Bz hn hp h (by simpa only[seps,aO] using a)
end
end Go.SLYtefdijgllbkmfaaGreat
namespace Go.SLYtefdijgllbkmfaaGreat
open Go Go.RowKit
section
variable{P:Program}{W:World}{N:Nat}{Q:Exit→Act→World→Prop}{O:Array Oper}{L:List (Nat×Option Value)}{H K R:List aa}{T:TypeId}{α:Type}
theorem Take.app{A:aa}(E:aa)(t:Take H A R):Take (H++[E]) A (R++[E]):=by
 induction t with
 | here=>exact .here
 | there _ ih=>exact .there ih
theorem aK.app{H R As:List aa}(E:aa)(t:aK H As R):aK (H++[E]) As (R++[E]):=by
 induction t with
 | nil=>exact .nil
 | cons h _ ih=>exact .cons (h.app E) ih
 | conv c _ ih=>exact .conv c ih
 | kL _ _ i1 i2=>exact .kL i1 i2
 | f1 e x1 _ _ hp i1 i2=>exact .f1 e x1 i1 i2 hp
 | f2 e x1 x2 _ _ hp i1 i2=>exact .f2 e x1 x2 i1 i2 hp
 | f3 e x1 x2 x3 _ _ hp i1 i2=>exact .f3 e x1 x2 x3 i1 i2 hp
 | f4 e x1 x2 x3 x4 _ _ hp i1 i2=>exact .f4 e x1 x2 x3 x4 i1 i2 hp
 | f5 e x1 x2 x3 x4 x5 _ _ hp i1 i2=>exact .f5 e x1 x2 x3 x4 x5 i1 i2 hp
 | f6 e x1 x2 x3 x4 x5 x6 _ _ hp i1 i2=>exact .f6 e x1 x2 x3 x4 x5 x6 i1 i2 hp
 | f7 e x1 x2 x3 x4 x5 x6 x7 _ _ hp i1 i2=>exact .f7 e x1 x2 x3 x4 x5 x6 x7 i1 i2 hp
 | f8 e x1 x2 x3 x4 x5 x6 x7 x8 _ _ hp i1 i2=>exact .f8 e x1 x2 x3 x4 x5 x6 x7 x8 i1 i2 hp
 | f9 e x1 x2 x3 x4 x5 x6 x7 x8 x9 _ _ hp i1 i2=>exact .f9 e x1 x2 x3 x4 x5 x6 x7 x8 x9 i1 i2 hp
 | f10 e x1 x2 x3 x4 x5 x6 x7 x8 x9 x10 _ _ hp i1 i2=>exact .f10 e x1 x2 x3 x4 x5 x6 x7 x8 x9 x10 i1 i2 hp
 | f11 e x1 x2 x3 x4 x5 x6 x7 x8 x9 x10 x11 _ _ hp i1 i2=>exact .f11 e x1 x2 x3 x4 x5 x6 x7 x8 x9 x10 x11 i1 i2 hp
 | f12 e x1 x2 x3 x4 x5 x6 x7 x8 x9 x10 x11 x12 _ _ hp i1 i2=>exact .f12 e x1 x2 x3 x4 x5 x6 x7 x8 x9 x10 x11 x12 i1 i2 hp
theorem bP.fQ{ks rest:List Nat}{i:Nat}{f:FuncId}{xs:Array Operand}{ts:Array TypeId}{T:TypeId}{pos:String}{after:Array Edge}{d:Nat}{args:List Value}{pre R:List aa}{X:Type}{val:X→Value}{fact:X→Prop}{post:X→List aa}
  (ho:O[i]?=some ⟨some d,.call ⟨.value (.func f),xs,ts⟩,T,pos,after,none⟩) (hk:ks.getD i 1=2∨ks.getD i 1=3) (hN:Nat.blt d N=true) (hK:ks.getD i 1=2→ ∀ w,Sat W w (seps H)→Sat W w (seps K))
  (hc:∀ args w,(callFunc f args).run P w = .ok (.enter f args) w) (hx:evs L xs.toList=some args) (hfn:Fn P W f args pre X val fact post) (ht:aK H pre R) (hK':ks.getD i 1=2→ ∀ x, ∀ w,Sat W w (seps (post x++R))→Sat W w (seps K))
  (h:∀ x,fact x→bP P W N K O Q ks rest ((d,some (val x))::L) (post x++R)):bP P W N K O Q ks (i::rest) L H:=by
 have key:∀ E a w,w8 W N L H E a w→Oper.wp P ⟨some d,.call ⟨.value (.func f),xs,ts⟩,T,pos,after,none⟩ a w (fun a' w'=>(ks.getD i 1=2→Sat W w' (seps K))∧ ∃ x:{x:X // fact x },w8 W N ((d,some (val x.1))::L) (post x.1++R) E a' w') QF:=fun E a w hs=>by
  obtain⟨ha,hs⟩:=jA.1 hs
  refine af.fQ (guard:=none) hN hc hx hfn (ht.app E) a w ha hs _ ?_
  rintro L' H' ⟨x,hx,rfl,rfl⟩ a' w' ha' hs'
  rw[← List.append_assoc] at hs'
  have h2:w8 W N ((d,some (val x))::L) (post x++R) E a' w':=jA.2 ⟨ha',hs'⟩
  exact⟨fun e=>hK' e x w' h2.2.left,⟨x,hx⟩,h2⟩
 unfold bP
 rcases hk with hk | hk
 ·simp only[wpF,ho,hk]
  refine⟨{x:X // fact x },fun x=>w8 W N ((d,some (val x.1))::L) (post x.1++R),fun x=>gQ,fun E a w hs=>⟨fun _=>hK hk w hs.2.left,?_⟩,fun x=>h x.1 x.2⟩
  rw[if_pos (bf rfl)]
  exact Oper.wp_mono (fun a w ⟨h1,h2⟩=>⟨fun _=>h1 hk,h2⟩) (key E a w hs)
 ·simp only[wpF,ho,hk]
  refine⟨{x:X // fact x },fun x=>w8 W N ((d,some (val x.1))::L) (post x.1++R),fun x=>gQ,fun E a w hs=>⟨fun e=>(by cases e),?_⟩,fun x=>h x.1 x.2⟩
  rw[if_pos (bf rfl)]
  exact Oper.wp_mono (fun a w ⟨h1,h2⟩=>⟨fun e=>(by cases e),h2⟩) (key E a w hs)
theorem bP.d{ks rest:List Nat}{i:Nat}{o:Oper}{X:Type}{Lx:X→List (Nat×Option Value)}{Hx:X→List aa}(ho:O[i]?=some o)(hg:o.guard=none)(hk:ks.getD i 1=2∨ks.getD i 1=3)(hK:ks.getD i 1=2→ ∀ w,Sat W w (seps H)→Sat W w (seps K))
  (hd:∀ E,af P W N o L (H++[E]) (fun L1 H1=>∃ x,L1=Lx x∧H1=Hx x++[E])) (hK':ks.getD i 1=2→ ∀ x, ∀ w,Sat W w (seps (Hx x))→Sat W w (seps K)) (h:∀ x,bP P W N K O Q ks rest (Lx x) (Hx x)):bP P W N K O Q ks (i::rest) L H:=by
 have key:∀ E a w,w8 W N L H E a w→Oper.wp P o a w (fun a' w'=>(ks.getD i 1=2→Sat W w' (seps K))∧ ∃ x:X,w8 W N (Lx x) (Hx x) E a' w') QF:=fun E a w hs=>by
  obtain⟨ha,hs⟩:=jA.1 hs
  refine hd E a w ha hs _ ?_
  rintro L' H' ⟨x,rfl,rfl⟩ a' w' ha' hs'
  have h2:w8 W N (Lx x) (Hx x) E a' w':=jA.2 ⟨ha',hs'⟩
  exact⟨fun e=>hK' e x w' h2.2.left,x,h2⟩
 unfold bP
 rcases hk with hk | hk
 ·simp only[wpF,ho,hk]
  refine⟨X,fun x=>w8 W N (Lx x) (Hx x),fun x=>gQ,fun E a w hs=>⟨fun _=>hK hk w hs.2.left,?_⟩,h⟩
  rw[if_pos (bf hg)]
  exact Oper.wp_mono (fun a w ⟨h1,h2⟩=>⟨fun _=>h1 hk,h2⟩) (key E a w hs)
 ·simp only[wpF,ho,hk]
  refine⟨X,fun x=>w8 W N (Lx x) (Hx x),fun x=>gQ,fun E a w hs=>⟨fun e=>(by cases e),?_⟩,h⟩
  rw[if_pos (bf hg)]
  exact Oper.wp_mono (fun a w ⟨h1,h2⟩=>⟨fun e=>(by cases e),h2⟩) (key E a w hs)
theorem y8{enc:α→List Value}{k:Nat}(z0:α){t e:TypeId}{kd kd':IntKind}{i:TypeInfo}{z:Value}{n:Nat}(hu:P.underlying t=some (.slice e))(hi:∀ w,(typeInfo e).run P w = .ok i w)(hz:i.zero=some z)(hk:i.size=k)(hzc:z.cells=(enc z0).toArray)(hkl:(enc z0).length=k)(hk0:0<k)(hb:1≤i.bytes∧i.bytes≤4096)
  (hn:n≤1073741824) (w:World):(Instr.makeSlice t (.int kd (n:Int)) (.int kd' (n:Int))).run P w = .ok (.slice (some ⟨w.heap.size,0,none⟩) n n) (w.alloc (.cells (rows enc (List.replicate n z0)).toArray e)):=by
 have hz0:∀ w,(zeroValue e).run P w = .ok z w:=fun w=>by simp[zeroValue,hi,hz]
 have hsz:∀ w,(sizeOf e).run P w = .ok k w:=fun w=>by simp[sizeOf,hi,hk]
 have hwr:IntKind.i64.wrap (n:Int)=(n:Int):=wrap_i64 (by omega)
 have hwr0:IntKind.i64.wrap 0=0:=wrap_i64 (by omega)
 have hbig2:¬(281474976710656<(i.bytes:Int) * (n:Int)):=by
  have h1:i.bytes * n≤4096 * 1073741824:=Nat.mul_le_mul hb.2 hn
  have h3:((i.bytes * n:Nat):Int)=i.bytes * (n:Int):=by simp
  omega
 have hroom:∀ m w',(askRoom m).run P w' = .ok () w':=fun m w'=>by
  unfold askRoom
  split <;> rfl
 have e4:∀ cs:Array Value,(newRow e cs).run P w = .ok ⟨w.heap.size,0,none⟩ (w.alloc (.cells cs e)):=fun _=>rfl
 have hnews:(rows enc (List.replicate n z0)).toArray=(Array.range (n * k)).map ((enc z0).toArray[· % (enc z0).toArray.size]!):=by
  rw[← xa hkl hk0 n,Array.toArray_toList]
 by_cases h0:n=0
 ·subst h0
  simp[Instr.makeSlice,run_underlying hu,asInt,asIntOf,hi,hwr0,hroom,hsz,e4]
  rw[show(Array.range 0).map (fun _=>(default:Value)) = #[] from by simp]
  simp[rows]
 ·have hnk:¬(n * k=0):=by
   intro h;rcases Nat.mul_eq_zero.1 h with h | h <;> omega
  have h3:¬((n:Int)<0):=by omega
  have hk00:¬(k=0):=by omega
  simp[Instr.makeSlice,run_underlying hu,asInt,asIntOf,hi,hwr,hroom,hsz,hz0,hzc,e4,hbig2,h3,hnews]
  intro h;exact absurd h hnk
theorem ft{enc:α→List Value}{k:Nat}(z0:α){x y:Operand}{t e T:TypeId}{kd kd':IntKind}{i:TypeInfo}{z:Value}{m m':Int}(n:Nat){pos:String}{after:Array Edge}{d:Nat}
  (hu:P.underlying t=some (.slice e)) (hi:∀ w,(typeInfo e).run P w = .ok i w) (hz:i.zero=some z) (hk:i.size=k) (hzc:z.cells=(enc z0).toArray) (hkl:(enc z0).length=k) (hk0:0<k) (hb:1≤i.bytes∧i.bytes≤4096)
  (hx:ev L x=some (.int kd m)) (hy:ev L y=some (.int kd' m')) (hm:m=(n:Int)) (hm':m'=(n:Int)) (hn:n≤1073741824) :
  ∀ a,Env N L a→cu P O ⟨some d,.makeSlice t x y,T,pos,after,none⟩ a (fun b=>.slice (some ⟨b,0,none⟩) n n) (rows enc (List.replicate n z0)) e:=fun a ha=>⟨bf rfl,fun w=>by
 subst hm hm'
 simp[execOp,ha.eval hx,ha.eval hy,y8 (P:=P) (kd:=kd) (kd':=kd') z0 hu hi hz hk hzc hkl hk0 hb hn w]⟩
theorem BA{t T:TypeId}{n:Nat}{ps:Array (Nat×Operand)}{pos:String}{after:Array Edge}{d:Nat}{vs:List (Nat×Value)}(e:TypeId)(hp:evParts L ps.toList=some vs)(h:vh P t n vs=some (e,(vs.flatMap fun p=>p.2.cells.toList).toArray)) :
  ∀ a,Env N L a→cu P O ⟨some d,.buildSlice t n ps,T,pos,after,none⟩ a (fun b=>.slice (some ⟨b,0,none⟩) n n) (vs.flatMap fun p=>p.2.cells.toList) e:=fun a ha=>⟨bf rfl,fun w=>by
 have e':ps.map (fun p=>(p.1,a.eval p.2))=vs.toArray:=by rw[← jy ha hp, ← List.map_toArray]
 simp only[execOp]
 show(Instr.buildSlice t n (ps.map fun p=>(p.1,a.eval p.2)) >>= fun x=>pure (Next.value x)).run P w=_
 rw[e',Sem.run_bind,rB w h]
 rfl⟩
theorem vo{enc:α→List Value}{k b n:Nat}(xs:List α){cs:List Value}(hn:xs.length=n)(hk:∀ x∈xs,(enc x).length=k)(hc:cs=rows enc xs):∀ h,seps [arr b 0 cs] h→sl enc k (.slice (some ⟨b,0,none⟩) n n) xs h:=fun h a=>by
 subst hn hc
 simp only[seps,aO] at a
 exact .inr ⟨b,xs.length,[],rfl,Nat.le_refl _,hk,by simp,by rw[List.append_nil];exact a⟩
theorem jC{enc:α→List Value}{k b n:Nat}{z0:α}(hk:(enc z0).length=k):∀ h,seps [arr b 0 (rows enc (List.replicate n z0))] h→sl enc k (.slice (some ⟨b,0,none⟩) n n) (List.replicate n z0) h :=
 vo _ (by simp) (fun x hx=>by rw[List.eq_of_mem_replicate hx];exact hk) rfl
theorem Y.dJ{op:Op}{k:IntKind}{m n:Int}(h:Y P W N op T L H (.int k m))(e:m=n):Y P W N op T L H (.int k n):=e ▸ h
theorem Rd.pre{enc:α→List Value}{k b j len cap:Nat}{xs:List α}(h:Rd W H enc k (.slice (some ⟨b,0,none⟩) len cap) xs)(hj:j≤xs.length):Rd W H enc k (.slice (some ⟨b,0,none⟩) j cap) (xs.take j):=by
 have:=h.cut (lo:=0) (hi:=j) (Nat.zero_le _) hj
 rw[List.drop_zero] at this
 have e:SLYtefdijgllbkmfaaGreat.cut k 0 j (.slice (some ⟨b,0,none⟩) len cap) = .slice (some ⟨b,0,none⟩) j cap:=by
  simp only[SLYtefdijgllbkmfaaGreat.cut]
  split <;> simp[Addr.add]
 rwa [e] at this
/-! ### bits -/
def pC(k:IntKind)(a b:Int):Int:=k.wrap (BitVec.ofInt k.bits a &&& BitVec.ofInt k.bits b).toNat
def FQ(k:IntKind)(a b:Int):Int:=k.wrap (BitVec.ofInt k.bits a ||| BitVec.ofInt k.bits b).toNat
def LO(k:IntKind)(a b:Int):Int:=k.wrap (BitVec.ofInt k.bits a ^^^ BitVec.ofInt k.bits b).toNat
def mN(k:IntKind)(a b:Int):Int:=k.wrap (a * 2 ^ (min b.toNat k.bits))
def y9(k:IntKind)(a b:Int):Int:=a.fdiv (2 ^ (min b.toNat k.bits))
theorem Y.za{k:IntKind}{xT yT:TypeId}{x y:Operand}{m n:Int}(hx:ev L x=some (.int k m))(hy:ev L y=some (.int k n)):Y P W N (.binOp .and xT x y yT) T L H (.int k (pC k m n)) :=
 Y.bin hx hy fun w=>by simp[eqGuard,binOp,Op.intBits,pC]
theorem Y.KT{k:IntKind}{xT yT:TypeId}{x y:Operand}{m n:Int}(hx:ev L x=some (.int k m))(hy:ev L y=some (.int k n)):Y P W N (.binOp .or xT x y yT) T L H (.int k (FQ k m n)) :=
 Y.bin hx hy fun w=>by simp[eqGuard,binOp,Op.intBits,FQ]
theorem Y.BB{k k':IntKind}{xT yT:TypeId}{x y:Operand}{m n:Int}(hx:ev L x=some (.int k m))(hy:ev L y=some (.int k' n))(hn:0≤n):Y P W N (.binOp .shl xT x y yT) T L H (.int k (mN k m n)) :=
 Y.bin hx hy fun w=>by simp[eqGuard,binOp,Op.shift,mN,show ¬(n<0) from by omega]
theorem Y.zb{k k':IntKind}{xT yT:TypeId}{x y:Operand}{m n:Int}(hx:ev L x=some (.int k m))(hy:ev L y=some (.int k' n))(hn:0≤n):Y P W N (.binOp .shr xT x y yT) T L H (.int k (y9 k m n)) :=
 Y.bin hx hy fun w=>by simp[eqGuard,binOp,Op.shift,y9,show ¬(n<0) from by omega]
/-! ### a nil slice grows by zeros -/
theorem iu.Dt{w:World}{enc:α→List Value}{k m:Nat}{u:Value}{ys:List α}(h:iu w enc k u ys)(hm:m≤ys.length):(Builtin.firstCells k m u).run P w = .ok (rows enc (ys.take m)).toArray w:=by
 have h1:=(h.cut (lo:=0) (hi:=m) (Nat.zero_le _) hm).firstCells (P:=P)
 obtain⟨⟨a,cap,rfl,_⟩,_⟩:=h
 rw[List.drop_zero,List.length_take,Nat.min_eq_left hm] at h1
 have e:Builtin.firstCells k m (Value.slice a ys.length cap)=Builtin.firstCells k m (SLYtefdijgllbkmfaaGreat.cut k 0 m (Value.slice a ys.length cap)):=by
  simp only[SLYtefdijgllbkmfaaGreat.cut]
  cases a with
  | none=>simp[Builtin.firstCells]
  | some p=>split <;> simp[Builtin.firstCells,Addr.add]
 rw[e];exact h1
theorem af.Ir{enc:α→List Value}{k b i len cap c':Nat}{x y:Operand}{t t2 e ty:TypeId}{u:Value}{xs ys:List α}{pos:String}{after:Array Edge}{guard:Option (Nat×Bool)}{d:Nat}(hN:Nat.blt d N=true)(hu:P.underlying t=some (.slice e))(hz:∀ w,(sizeOf e).run P w = .ok k w)
  (hx:ev L x=some (.slice (some ⟨b,i * k,none⟩) (len-i) c')) (hy:ev L y=some u) (hr:Rd W H enc k u ys) (ht:Take H (sl enc k (.slice (some ⟨b,0,none⟩) len cap) xs) R) (hl:xs.length=len) (hi:i≤len) (h0:0<len) (hone:∀ y∈ys, ∀ c∈enc y,c.oneCell'=true) :
  af P W N ⟨some d,.call ⟨.builtin .copy, #[x,y], #[t,t2]⟩,ty,pos,after,guard⟩ L H (fun L1 H1=>L1=(d,some (.int .i64 ((min ys.length (len-i):Nat):Int)))::L∧
   H1=sl enc k (.slice (some ⟨b,0,none⟩) len cap) (xs.take i++(ys.take (min ys.length (len-i))++xs.drop (i+min ys.length (len-i))))::R):=fun a w ha hs Kp hK=>by
 have hrd:=hr w hs
 rw[ht.seps] at hs
 subst hl
 generalize hm:min ys.length (xs.length-i)=m at hK
 have hm1:m≤ys.length:=by omega
 have hm2:i+m≤xs.length:=by omega
 have hf:=hrd.Dt (P:=P) hm1
 have hue:=hrd
 obtain⟨⟨ua,ucap,hue,_⟩,hyk,_⟩:=hue
 have hln:(Builtin.lenOf u).run P w = .ok ys.length w:=by rw[hue];simp[Builtin.lenOf]
 have hmin:Nat.min ys.length (xs.length-i)=m:=hm
 have fin:∀ w',(execOp a.eval ⟨some d,.call ⟨.builtin .copy, #[x,y], #[t,t2]⟩,ty,pos,after,guard⟩).run P w = .ok (.value (.int .i64 (m:Int))) w'→
   Sat W w' (sep (sl enc k (.slice (some ⟨b,0,none⟩) xs.length cap) (xs.take i++(ys.take m++xs.drop (i+m)))) (seps R))→Oper.wp P ⟨some d,.call ⟨.builtin .copy, #[x,y], #[t,t2]⟩,ty,pos,after,guard⟩ a w Kp QF:=fun w' hrun hs'=>by
  unfold Oper.wp
  rw[hrun]
  simp only[Oper.upon]
  exact hK _ _ ⟨rfl,rfl⟩ _ _ (ha.put (Nat.blt_eq.mp hN) _) hs'
 rcases hs.qn with ⟨⟨va,hv0⟩,hx0,hs0⟩ | ⟨b',cap',sp,hv,hle,hkk,hsp,hs1⟩
 ·subst hx0;exact absurd h0 (by simp)
 ·cases hv
  have hlm:(ys.take m).length=m:=by rw[List.length_take];omega
  have hrl:(rows enc (ys.take m)).length=m * k:=by rw[bK (fun z hz=>hyk z (List.mem_of_mem_take hz)),hlm]
  have hone':∀ c∈rows enc (ys.take m),c.oneCell'=true:=fun c hc=>by
   obtain⟨z,hz,hc⟩:=List.mem_flatMap.1 hc
   exact hone z (List.mem_of_mem_take hz) c hc
  have hlx:(rows enc xs).length=xs.length * k:=bK hkk
  have hmk:i * k+m * k≤xs.length * k:=by rw[← Nat.add_mul];exact Nat.mul_le_mul_right _ hm2
  obtain⟨w',h1,h2⟩:=eN (P:=P) (rows enc (ys.take m)) (rows enc xs++sp) (i * k) 0 w hs1 hone' (by rw[List.length_append,hrl,hlx];omega)
  refine fin w' ?_ ?_
  ·simp only[Nat.zero_add] at h1
   simp[execOp,resolve,invoke,builtin,Builtin.copy_,run_underlying hu,ha.eval hx,ha.eval hy,hln,hz,hmin,hf,h1,goInt]
  ·have e9:rows enc xs++sp=rows enc (xs.take i)++(rows enc (xs.drop i)++sp):=by
    rw[← List.append_assoc, ← dq,List.take_append_drop]
   have hti:(rows enc (xs.take i)).length=i * k:=by rw[bK (fun z hz=>hkk z (List.mem_of_mem_take hz)),List.length_take];congr 1;omega
   have hdi:(rows enc (xs.drop i)).length=(xs.length-i) * k:=by rw[bK (fun z hz=>hkk z (List.mem_of_mem_drop hz)),List.length_drop]
   have e3:setFrom (rows enc xs++sp) (i * k+0) (rows enc (ys.take m))=rows enc (xs.take i++(ys.take m++xs.drop (i+m)))++sp:=by
    rw[Nat.add_zero,e9, ← hti,jz (by rw[List.length_append,hrl,hdi];have:=Nat.mul_le_mul_right k (show m≤xs.length-i by omega);omega),hrl,dq,dq]
    rw[List.drop_append_of_le_length (by rw[hdi];exact Nat.mul_le_mul_right k (by omega))]
    have:(rows enc (xs.drop i)).drop (m * k)=rows enc (xs.drop (i+m)):=by
     have hsplit:rows enc (xs.drop i)=rows enc ((xs.drop i).take m)++rows enc ((xs.drop i).drop m):=by rw[← dq,List.take_append_drop]
     have hlen:(rows enc ((xs.drop i).take m)).length=m * k:=by
      rw[bK (fun z hz=>hkk z (List.mem_of_mem_drop (List.mem_of_mem_take hz))),List.length_take,List.length_drop];congr 1;omega
     rw[hsplit, ← hlen,List.drop_left,List.drop_drop]
    rw[this];simp
   rw[e3] at h2
   have hnl:(xs.take i++(ys.take m++xs.drop (i+m))).length=xs.length:=by simp only[List.length_append,List.length_take,List.length_drop];omega
   have:=Sat.qm (enc:=enc) (k:=k) (b:=b) (cap:=cap) (xs:=xs.take i++(ys.take m++xs.drop (i+m))) (sp:=sp) (by omega) (fun z hz=>by
    rcases List.mem_append.1 hz with h | h
    ·exact hkk z (List.mem_of_mem_take h)
    ·rcases List.mem_append.1 h with h | h
     ·exact hyk z (List.mem_of_mem_take h)
     ·exact hkk z (List.mem_of_mem_drop h)) (by rw[hnl];exact hsp) h2
   rwa [hnl] at this
end
end Go.SLYtefdijgllbkmfaaGreat
namespace Go.SLYtefdijgllbkmfaaGreat
open Go Go.RowKit
theorem nQ(l:List Int):∀ y∈l, ∀ c∈aP y,c.oneCell'=true:=fun y _ c hc=>by simp only[aP,List.mem_cons,List.not_mem_nil,or_false] at hc;subst hc;rfl
theorem rI(l:List Int):∀ y∈l, ∀ c∈cM y,c.oneCell'=true:=fun y _ c hc=>by simp only[cM,List.mem_cons,List.not_mem_nil,or_false] at hc;subst hc;rfl
theorem nR{α:Type}{enc:α→List Value}(h:∀ x,(enc x).all (·.oneCell')=true)(l:List α):∀ y∈l, ∀ c∈enc y,c.oneCell'=true:=fun y _ c hc=>List.all_eq_true.1 (h y) c hc
theorem rJ(l:List Rec):∀ y∈l, ∀ c∈dp y,c.oneCell'=true:=nR (fun _=>rfl) l
theorem Du(l:List Ins):∀ y∈l, ∀ c∈dC y,c.oneCell'=true:=nR (fun _=>rfl) l
theorem rK(l:List pz):∀ y∈l, ∀ c∈dY y,c.oneCell'=true:=nR (fun _=>rfl) l
theorem rL(l:List dc):∀ y∈l, ∀ c∈cN y,c.oneCell'=true:=nR (fun _=>rfl) l
theorem xe(l:List Ptr):∀ y∈l, ∀ c∈eO y,c.oneCell'=true:=nR (fun _=>rfl) l
def isSl:Value→Bool
 | .slice .. => true
 | _=>false
theorem nS{v:Value}(h:isSl v=true):v.oneCell'=true:=by cases v <;> simp_all [isSl,Value.oneCell']
section
variable{P:Program}{W:World}{H:List aa}{α:Type}
theorem Rd.Dv{enc:α→List Value}{k:Nat}{v:Value}{xs:List α}(h:Rd W H enc k v xs)(hn:Di v=true):∀ w,Sat W w (seps H)→xs=[]:=fun w s=>by
 obtain⟨⟨a,cap,hv,_,_,hnn⟩,_⟩:=h w s
 subst hv
 cases a with
 | none=>exact hnn rfl
 | some p=>cases hn
theorem F3{enc:α→List Value}{k:Nat}{a:Option Addr}{n cap:Nat}{xs:List α}:∀ h,sl enc k (.slice a n cap) xs h→ ∃ J:aa,True∧seps [sl enc k (.slice a n n) xs,J] h:=by
 rintro h (⟨⟨a',e⟩,hx,he⟩ | ⟨b,cap',sp,e,hle,hk,hsp,a1⟩)
 ·cases e
  exact⟨emp,trivial,by simp only[seps,aO];exact .inl ⟨⟨_,rfl⟩,hx,he⟩⟩
 ·cases e
  rw[bQ] at a1
  refine⟨arr b (0+(rows enc xs).length) sp,trivial,?_⟩
  ·simp only[seps,aO]
   exact aR (fun h a=>.inr ⟨b,xs.length,[],rfl,Nat.le_refl _,hk,by simp,by rw[List.append_nil];exact a⟩) (fun _ h=>h) h a1
theorem drop_cons{xs:List α}{k:Nat}{x:α}(h:xs[k]?=some x):xs.drop k=x::xs.drop (k+1):=by
 have hi:=(List.getElem?_eq_some_iff.1 h).1
 rw[List.drop_eq_getElem_cons hi,(List.getElem?_eq_some_iff.1 h).2]
theorem cx{l:List α}{k:Nat}{x:α}(h:l[k]?=some x):l.take (k+1)=l.take k++[x]:=by
 have hi:=(List.getElem?_eq_some_iff.1 h).1
 rw[List.take_add_one,h];rfl
theorem Rd.kL{enc:α→List Value}{k:Nat}{v:Value}{xs:List α}{As:List aa}(h:Rd W As enc k v xs):Rd W [seps As] enc k v xs:=fun w s=>h w (by simpa only[seps,aO] using s)
theorem xf{xs:List α}{k:Nat}{x y:α}(h:xs[k]?=some x):(xs.set k y)[k]?=some y:=by simp[(List.getElem?_eq_some_iff.1 h).1]
theorem aB{xs:List α}{k:Nat}(h:k<xs.length):∃ x,xs[k]?=some x:=⟨xs[k],by simp[h]⟩
end
def idxFrom(x:Int):List Int→Nat→Int
 | [],_ => -1
 | y::l,n=>if x=y then n else idxFrom x l (n+1)
def idxOf(x:Int)(l:List Int):Int:=idxFrom x l 0
theorem F4{x y:Int}{l:List Int}{k:Nat}(h:l[k]?=some y)(e:x=y):idxFrom x (l.drop k) k=k:=by rw[drop_cons h,idxFrom,if_pos e]
theorem Dw{x y:Int}{l:List Int}{k:Nat}(h:l[k]?=some y)(e:¬x=y):idxFrom x (l.drop k) k=idxFrom x (l.drop (k+1)) (k+1):=by rw[drop_cons h,idxFrom,if_neg e]
theorem F5{x:Int}{l:List Int}{k:Nat}(h:l.length≤k):idxFrom x (l.drop k) k = -1:=by rw[List.drop_of_length_le h];rfl
theorem vq(x:Int)(l:List Int):∀ k,decide (0≤idxFrom x l k)=l.contains x:=by
 induction l with
 | nil=>intro k;rfl
 | cons y l ih =>
  intro k
  rw[idxFrom]
  by_cases h:x=y
  ·subst h;simp
  ·rw[if_neg h,ih,List.contains_cons];simp[h]
end Go.SLYtefdijgllbkmfaaGreat
namespace Go.SLYtefdijgllbkmfaaGreat
open Go Go.RowKit
section
variable{P:Program}{W:World}{N:Nat}{Q:Exit→Act→World→Prop}{O:Array Oper}{L:List (Nat×Option Value)}{H K R:List aa}{T:TypeId}{C:World→Prop}
theorem vu{n:Act→World→Prop}(h:LetsOut (Exit.then n Q)):LetsOut Q:=h
theorem Am{o:Oper}{n:Act→World→Prop}{a:Act}{w:World}{Kp:Act→World→Prop}(h:o.wp P a w Kp (Exit.then n Q)):o.wp P a w Kp Q:=by
 unfold Oper.wp at *
 generalize (execOp a.eval o).run P w=r at *
 cases r with
 | ok n w' =>
  cases n <;> simp only[Oper.upon] at h ⊢
  case value v=>exact h
  case skip=>exact h
  case enter f args=>exact Calls.mono h (fun e w'' he=>by cases e <;> exact he)
  case row r' args=>exact h
  case defer d=>exact h
 | halt x w'=>cases x <;> simp only[Oper.upon] at h ⊢ <;> exact h
theorem xg{o:Oper}{n n':Act→World→Prop}{a:Act}{w:World}{Kp:Act→World→Prop}(h:o.wp P a w Kp (Exit.then n Q)):o.wp P a w Kp (Exit.then n' Q):=by
 unfold Oper.wp at *
 generalize (execOp a.eval o).run P w=r at *
 cases r with
 | ok n w' =>
  cases n <;> simp only[Oper.upon] at h ⊢
  case value v=>exact h
  case skip=>exact h
  case enter f args=>exact Calls.mono h (fun e w'' he=>by cases e <;> exact he)
  case row r' args=>exact h
  case defer d=>exact h
 | halt x w'=>cases x <;> simp only[Oper.upon] at h ⊢ <;> exact h
theorem kM{M M':Act→World→Prop}(hm:∀ a w,M a w→M' a w):∀ (ops:List Oper) (a:Act) (w:World),wpList P O (Exit.then M Q) ops a w→wpList P O (Exit.then M' Q) ops a w
 | [],a,w,h=>hm a w h
 | o::ops,a,w,h=>by
  unfold wpList at h ⊢
  split
  ·rename_i hw
   rw[if_pos hw] at h
   rcases h with h | ⟨h1,h2⟩
   ·exact .inl (xg (Oper.wp_mono (fun a w h=>kM hm ops a w h) h))
   ·exact .inr ⟨h1,h2⟩
  ·rename_i hw
   rw[if_neg hw] at h
   exact kM hm ops _ w h
theorem rM{M M':Act→World→Prop}(hm:∀ a w,M a w→M' a w):∀ (ks:List Nat) (ops:List Oper) (a:Act) (w:World),wpKL P O C (Exit.then M Q) ks ops a w→wpKL P O C (Exit.then M' Q) ks ops a w
 | [],[],a,w,h=>hm a w h
 | _::_,[],a,w,h=>hm a w h
 | [],_::_,_,_,h=>h
 | k::ks,o::ops,a,w,h=>by
  have ih:=rM hm ks ops
  match k with
  | 0 =>
   obtain⟨hc,v,hy,h⟩:=h
   exact⟨hc,v,hy,ih _ _ h⟩
  | 1 =>
   obtain⟨v,hy,h⟩:=h
   exact⟨v,hy,ih _ _ h⟩
  | 2 =>
   obtain⟨hc,h⟩:=h
   refine⟨hc,?_⟩
   split
   ·rename_i hw
    rw[if_pos hw] at h
    exact Oper.wp_mono (fun a w ⟨x,y⟩=>⟨x,ih _ _ y⟩) h
   ·rename_i hw
    rw[if_neg hw] at h
    exact ih _ _ h
  | k+3 =>
   simp only[wpKL] at h ⊢
   split
   ·rename_i hw
    rw[if_pos hw] at h
    exact xg (Oper.wp_mono (fun a w h=>ih _ _ h) h)
   ·rename_i hw
    rw[if_neg hw] at h
    exact ih _ _ h
theorem m0:∀ (n:Nat) (ops:List Oper) (a:Act) (w:World),wpList P O (Exit.then (wpList P O Q (ops.drop n)) Q) (ops.take n) a w→wpList P O Q ops a w
 | 0,ops,a,w,h=>h
 | n+1,[],a,w,h=>h
 | n+1,o::ops,a,w,h=>by
  simp only[List.take_succ_cons,List.drop_succ_cons] at h
  unfold wpList at h ⊢
  split
  ·rename_i hw
   rw[if_pos hw] at h
   rcases h with h | ⟨h1,h2⟩
   ·exact .inl (Am (Oper.wp_mono (fun a w h=>m0 n ops a w h) h))
   ·exact .inr ⟨h1,vu h2⟩
  ·rename_i hw
   rw[if_neg hw] at h
   exact m0 n ops _ w h
theorem xh:∀ (n:Nat) (ks:List Nat) (ops:List Oper) (a:Act) (w:World),wpKL P O C (Exit.then (wpKL P O C Q (ks.drop n) (ops.drop n)) Q) (ks.take n) (ops.take n) a w→wpKL P O C Q ks ops a w
 | 0,ks,ops,a,w,h=>by
  cases ks <;> exact h
 | n+1,ks,[],a,w,h=>by
  cases ks with
  | nil=>exact h
  | cons k ks =>
   have h':wpKL P O C Q (ks.drop n) [] a w:=h
   revert h'
   generalize ks.drop n=l
   intro h'
   cases l <;> exact h'
 | n+1,[],o::ops,a,w,h=>h
 | n+1,k::ks,o::ops,a,w,h=>by
  simp only[List.take_succ_cons,List.drop_succ_cons] at h
  have ih:=fun a w=>xh n ks ops a w
  match k with
  | 0 =>
   obtain⟨hc,v,hy,h⟩:=h
   exact⟨hc,v,hy,ih _ _ h⟩
  | 1 =>
   obtain⟨v,hy,h⟩:=h
   exact⟨v,hy,ih _ _ h⟩
  | 2 =>
   obtain⟨hc,h⟩:=h
   refine⟨hc,?_⟩
   split
   ·rename_i hw
    rw[if_pos hw] at h
    exact Oper.wp_mono (fun a w ⟨x,y⟩=>⟨x,ih _ _ y⟩) h
   ·rename_i hw
    rw[if_neg hw] at h
    exact ih _ _ h
  | k+3 =>
   simp only[wpKL] at h ⊢
   split
   ·rename_i hw
    rw[if_pos hw] at h
    exact Am (Oper.wp_mono (fun a w h=>ih _ _ h) h)
   ·rename_i hw
    rw[if_neg hw] at h
    exact ih _ _ h
abbrev kN(W:World)(N:Nat)(Q:Exit→Act→World→Prop)(d:Nat)(v:Value)(ks:List Nat)(L:List (Nat×Option Value))(H:List aa):Exit→Act→World→Prop :=
 Exit.then (K1 W N (fun _:Unit=>True) (fun _=>[(d,some v)]++(nones ks++L)) (fun _=>H)) Q
theorem aS.cut{ops:List Oper}{d:Nat}{v:Value}{ks:List Nat}(n:Nat)(h1:aS P W N O (kN W N Q d v ks L H) (ops.take n) L H)(h2:aS P W N O Q (ops.drop n) ((d,some v)::(nones ks++L)) H):aS P W N O Q ops L H:=fun a w ha hs =>
 m0 n ops a w (kM (fun a w ⟨_,_,ha',hs'⟩=>h2 a w ha' hs') _ _ _ (h1 a w ha hs))
theorem bo.cut{ops:List Oper}{d:Nat}{v:Value}{ks kd:List Nat}(n:Nat)(h1:bo P W N K O (kN W N Q d v ks L H) (kd.take n) (ops.take n) L H)(h2:bo P W N K O Q (kd.drop n) (ops.drop n) ((d,some v)::(nones ks++L)) H):bo P W N K O Q kd ops L H:=fun a w ha hs =>
 xh n kd ops a w (rM (fun a w ⟨_,_,ha',hs'⟩=>h2 a w ha' hs') _ _ _ _ (h1 a w ha hs))
section
variable{ops:List Oper}{d t:Nat}{ks kd:List Nat}{b e:Bool}{p:Prop}[Decidable p]
theorem aS.iG(n d t:Nat)(ks:List Nat)(ht:look L t=some (.bool b))(h1:b=true→aS P W N O (kN W N Q d (.bool e) ks L H) (ops.take n) ((t,some (.bool true))::L) H)(h0:b=false→aS P W N O (kN W N Q d (.bool false) ks L H) (ops.take n) ((t,some (.bool false))::L) H)
  (h2:aS P W N O Q (ops.drop n) ((d,some (.bool (b && e)))::(nones ks++L)) H):aS P W N O Q ops L H :=
 aS.cut (v:=.bool (b && e)) (ks:=ks) n (.part ht (fun h=>by subst h;exact h1 rfl) (fun h=>by subst h;exact h0 rfl)) h2
theorem aS.gC(n d t:Nat)(ks:List Nat)(ht:look L t=some (.bool b))(h1:b=false→aS P W N O (kN W N Q d (.bool e) ks L H) (ops.take n) ((t,some (.bool false))::L) H)(h0:b=true→aS P W N O (kN W N Q d (.bool true) ks L H) (ops.take n) ((t,some (.bool true))::L) H)
  (h2:aS P W N O Q (ops.drop n) ((d,some (.bool (b || e)))::(nones ks++L)) H):aS P W N O Q ops L H :=
 aS.cut (v:=.bool (b || e)) (ks:=ks) n (.part ht (fun h=>by subst h;exact h0 rfl) (fun h=>by subst h;exact h1 rfl)) h2
theorem aS.gr(n d t:Nat)(ks:List Nat)(ht:look L t=some (.bool (decide p)))(h1:p→aS P W N O (kN W N Q d (.bool e) ks L H) (ops.take n) ((t,some (.bool true))::L) H)(h0:¬p→aS P W N O (kN W N Q d (.bool false) ks L H) (ops.take n) ((t,some (.bool false))::L) H)
  (h2:aS P W N O Q (ops.drop n) ((d,some (.bool (decide p && e)))::(nones ks++L)) H):aS P W N O Q ops L H :=
 aS.iG n d t ks ht (fun h=>h1 (of_decide_eq_true h)) (fun h=>h0 (of_decide_eq_false h)) h2
theorem aS.fu(n d t:Nat)(ks:List Nat)(ht:look L t=some (.bool (decide p)))(h1:¬p→aS P W N O (kN W N Q d (.bool e) ks L H) (ops.take n) ((t,some (.bool false))::L) H)(h0:p→aS P W N O (kN W N Q d (.bool true) ks L H) (ops.take n) ((t,some (.bool true))::L) H)
  (h2:aS P W N O Q (ops.drop n) ((d,some (.bool (decide p || e)))::(nones ks++L)) H):aS P W N O Q ops L H :=
 aS.gC n d t ks ht (fun h=>h1 (of_decide_eq_false h)) (fun h=>h0 (of_decide_eq_true h)) h2
theorem bo.iG(n d t:Nat)(ks:List Nat)(ht:look L t=some (.bool b))(h1:b=true→bo P W N K O (kN W N Q d (.bool e) ks L H) (kd.take n) (ops.take n) ((t,some (.bool true))::L) H)(h0:b=false→bo P W N K O (kN W N Q d (.bool false) ks L H) (kd.take n) (ops.take n) ((t,some (.bool false))::L) H)
  (h2:bo P W N K O Q (kd.drop n) (ops.drop n) ((d,some (.bool (b && e)))::(nones ks++L)) H):bo P W N K O Q kd ops L H :=
 bo.cut (v:=.bool (b && e)) (ks:=ks) n (.part ht (fun h=>by subst h;exact h1 rfl) (fun h=>by subst h;exact h0 rfl)) h2
theorem bo.gC(n d t:Nat)(ks:List Nat)(ht:look L t=some (.bool b))(h1:b=false→bo P W N K O (kN W N Q d (.bool e) ks L H) (kd.take n) (ops.take n) ((t,some (.bool false))::L) H)(h0:b=true→bo P W N K O (kN W N Q d (.bool true) ks L H) (kd.take n) (ops.take n) ((t,some (.bool true))::L) H)
  (h2:bo P W N K O Q (kd.drop n) (ops.drop n) ((d,some (.bool (b || e)))::(nones ks++L)) H):bo P W N K O Q kd ops L H :=
 bo.cut (v:=.bool (b || e)) (ks:=ks) n (.part ht (fun h=>by subst h;exact h0 rfl) (fun h=>by subst h;exact h1 rfl)) h2
theorem bo.gr(n d t:Nat)(ks:List Nat)(ht:look L t=some (.bool (decide p)))(h1:p→bo P W N K O (kN W N Q d (.bool e) ks L H) (kd.take n) (ops.take n) ((t,some (.bool true))::L) H)(h0:¬p→bo P W N K O (kN W N Q d (.bool false) ks L H) (kd.take n) (ops.take n) ((t,some (.bool false))::L) H)
  (h2:bo P W N K O Q (kd.drop n) (ops.drop n) ((d,some (.bool (decide p && e)))::(nones ks++L)) H):bo P W N K O Q kd ops L H :=
 bo.iG n d t ks ht (fun h=>h1 (of_decide_eq_true h)) (fun h=>h0 (of_decide_eq_false h)) h2
theorem bo.fu(n d t:Nat)(ks:List Nat)(ht:look L t=some (.bool (decide p)))(h1:¬p→bo P W N K O (kN W N Q d (.bool e) ks L H) (kd.take n) (ops.take n) ((t,some (.bool false))::L) H)(h0:p→bo P W N K O (kN W N Q d (.bool true) ks L H) (kd.take n) (ops.take n) ((t,some (.bool true))::L) H)
  (h2:bo P W N K O Q (kd.drop n) (ops.drop n) ((d,some (.bool (decide p || e)))::(nones ks++L)) H):bo P W N K O Q kd ops L H :=
 bo.gC n d t ks ht (fun h=>h1 (of_decide_eq_false h)) (fun h=>h0 (of_decide_eq_true h)) h2
theorem bY.tg{d:Nat}{v:Value}{ks:List Nat}{L0:List (Nat×Option Value)}{H0:List aa}(t:yM ks L L0)(hv:look L d=some v)(hH:∀ w,Sat W w (seps H)→Sat W w (seps H0)):bY W N (kN W N Q d v ks L0 H0) .normal L H :=
 bY.eK () t trivial ⟨hv,trivial⟩ hH
end
end
end Go.SLYtefdijgllbkmfaaGreat
namespace Go.SLYtefdijgllbkmfaaGreat
open Go Go.RowKit
theorem jt{k:IntKind}{m n:Int}(h:m=n):Ending.returned (Value.int k m) = .returned (.int k n):=by rw[h]
theorem F6{m n:Bool}(h:m=n):Ending.returned (Value.bool m) = .returned (.bool n):=by rw[h]
def ep(f:Form):List Value:=[.int .i64 f.av,.bool f.mutex,.int .i64 f.n,.bool f.any]
def vv(v:bI):Bool :=
 decide (0<(v.fs.length:Int)) && decide ((v.fs.length:Int)≤8) && within v.words 64 && within v.ay 4 && within v.conds 4 && within v.blocks 64 && within v.prio 7 && decide ((v.aT.length:Int)≤4) && decide ((v.aC.length:Int)≤4)
def m3(v:bI)(k:Nat):Bool:=vv v && (v.fs.take k).all fun f=>decide ((f.2.length:Int)≤256)
def m4(v:bI)(k:Nat):Bool:=m3 v v.fs.length && (v.aT.take k).all fun n=>within n 1048576
def m5(v:bI)(k:Nat):Bool:=m4 v v.aT.length && (v.aC.take k).all fun n=>decide (0<n) && within n 8
theorem ga{α:Type}{p:α→Bool}{l:List α}{k:Nat}{x:α}(h:l[k]?=some x):(l.take (k+1)).all p=((l.take k).all p && p x):=by rw[cx h,List.all_append];simp
theorem xi(v:bI):m5 v v.aC.length=ei v.p:=by
 obtain⟨fv,fs,words,ay,conds,sv,aT,pv,aC,blocks,prio⟩:=v
 have e0:∀ n:Nat,decide (0<(n:Int))=decide (0<n):=fun n=>by rw[decide_eq_decide];omega
 have e8:∀ n:Nat,decide ((n:Int)≤8)=decide (n≤8):=fun n=>by rw[decide_eq_decide];omega
 have e4:∀ n:Nat,decide ((n:Int)≤4)=decide (n≤4):=fun n=>by rw[decide_eq_decide];omega
 have e2:∀ n:Nat,decide ((n:Int)≤256)=decide (n≤256):=fun n=>by rw[decide_eq_decide];omega
 unfold m5 m4 m3 vv ei bI.p
 simp only[List.take_length,List.length_map,List.all_map,e0,e8,e4,e2]
 rfl
theorem nT{p:eB}(h:ei p=true):0<p.funcs.length∧p.funcs.length≤8∧(0≤p.words∧p.words≤64)∧(0≤p.ay∧p.ay≤4)∧(0≤p.conds∧p.conds≤4)∧(0≤p.blocks∧p.blocks≤64)∧(0≤p.prio∧p.prio≤7)∧p.aT.length≤4∧p.aC.length≤4∧
  (∀ f∈p.funcs,f.length≤256)∧(∀ n∈p.aT,0≤n∧n≤1048576)∧(∀ n∈p.aC,0<n∧n≤8):=by
 unfold ei within at h
 simp only[Bool.and_eq_true,decide_eq_true_eq,List.all_eq_true] at h
 obtain⟨⟨⟨⟨⟨⟨⟨⟨⟨⟨⟨h1,h2⟩,h3⟩,h4⟩,h5⟩,h6⟩,h7⟩,h8⟩,h9⟩,h10⟩,h11⟩,h12⟩:=h
 exact⟨h1,h2,h3,h4,h5,h6,h7,h8,h9,h10,h11,fun n hn=>⟨(h12 n hn).1,(h12 n hn).2.2⟩⟩
theorem vx{v:bI}(h:ei v.p=true){x:Value×List Ins}(hx:x∈v.fs):x.2.length≤256 :=
 (nT h).2.2.2.2.2.2.2.2.2.1 x.2 (List.mem_map.2 ⟨x,hx,rfl⟩)
theorem JZ{c:Prop}[Decidable c]{x y:Form}{m:Int}(hx:x.n≤m)(hy:y.n≤m):(if c then x else y).n≤m:=by split <;> assumption
theorem BC{p:eB}(h:ei p=true)(op:Int):(aQ p op).n≤9223372036854775807:=by
 obtain⟨h1,h2,_,h4,h5,_,_,h8,h9,_⟩:=nT h
 unfold aQ
 repeat' apply JZ
 all_goals (show(_:Int)≤_;simp only;omega)
theorem tN{v:bI}(h:ei v.p=true){k j:Nat}{x:Value×List Ins}{i:Ins}(hx:v.fs[k]?=some x)(hj:x.2[j]?=some i)(hs:ey v.p i=false):cK v.p=8:=by
 unfold cK
 rw[if_pos h,if_neg]
 intro h'
 rw[List.all_eq_true] at h'
 have:=h' x.2 (List.mem_map.2 ⟨x,List.mem_of_getElem? hx,rfl⟩)
 rw[List.all_eq_true] at this
 have:=this i (List.mem_of_getElem? hj)
 rw[hs] at this;cases this
theorem xj{v:bI}(h:ei v.p=true)(hs:v.fs.all (fun f:Value×List Ins=>f.2.all (ey v.p))=true):cK v.p=0:=by
 unfold cK
 rw[if_pos h,if_pos]
 rw[List.all_eq_true] at hs ⊢
 intro f hf
 obtain⟨x,hx,rfl⟩:=List.mem_map.1 hf
 exact hs x hx
end Go.SLYtefdijgllbkmfaaGreat
namespace Go.SLYtefdijgllbkmfaaGreat
open Go Go.RowKit
section
variable{P:Program}{W:World}{N:Nat}{Q:Exit→Act→World→Prop}{O:Array Oper}{L:List (Nat×Option Value)}{H K R:List aa}{T:TypeId}{α:Type}
theorem Y.index{x y:Operand}{t e n:Nat}{cs:Array Value}{v:Value}{kd:IntKind}{j:Int}(i:Nat)(hu:P.underlying t=some (.array n e))(ha:∀ w,(isAgg e).run P w = .ok false w)(hz:∀ w,(sizeOf e).run P w = .ok 1 w)(hx:ev L x=some (.agg cs))(hy:ev L y=some (.int kd j))(hj:j=(i:Int))(hi:i<n)(hv:cs[i]?=some v) :
  Y P W N (.index t x y) T L H v:=fun dst pos after guard a w he hs=>by
 subst hj
 simp only[execOp,he.eval hx,he.eval hy]
 refine bE ?_
 simp[Instr.index,asIntOf,run_underlying hu,hi,hz,part,ha,hv]
theorem Y.qq{x y:Operand}{ts:Array TypeId}{k:IntKind}{m n:Int}(hx:ev L x=some (.int k m))(hy:ev L y=some (.int k n)):Y P W N (.call ⟨.builtin .min, #[x,y],ts⟩) T L H (.int k (min m n)):=by
 have:=Y.min2 (P:=P) (W:=W) (N:=N) (H:=H) (T:=T) (ts:=ts) hx hy
 rwa [show(if n<m then n else m)=min m n from by omega] at this
theorem Y.An{x y:Operand}{ts:Array TypeId}{k:IntKind}{m n:Int}(hx:ev L x=some (.int k m))(hy:ev L y=some (.int k n)):Y P W N (.call ⟨.builtin .max, #[x,y],ts⟩) T L H (.int k (max m n)):=by
 have:=Y.max2 (P:=P) (W:=W) (N:=N) (H:=H) (T:=T) (ts:=ts) hx hy
 rwa [show(if n>m then n else m)=max m n from by omega] at this
theorem af.makeMap{t:TypeId}{pos:String}{after:Array Edge}{guard:Option (Nat×Bool)}{d:Nat}(hN:Nat.blt d N=true) :
  af P W N ⟨some d,.makeMap t none,T,pos,after,guard⟩ L H (fun L1 H1=>∃ m,L1=(d,some (.map (some m)))::L∧H1=iS m (.map #[] 0)::H):=fun a w ha hs Kp hK=>by
 have hrun:(execOp a.eval ⟨some d,.makeMap t none,T,pos,after,guard⟩).run P w = .ok (.value (.map (some w.heap.size))) (w.alloc (.map #[] 0)):=by
  simp[execOp,Instr.makeMap,newObj,Sem.run]
 unfold Oper.wp
 rw[hrun]
 simp only[Oper.upon]
 exact hK _ _ ⟨w.heap.size,rfl,rfl⟩ _ _ (ha.put (Nat.blt_eq.mp hN) _) (hs.wT (.map #[] 0) rfl)
/-! ### a part of a thing, where it lies -/
theorem Sat.fact{w:World}{A:aa}{p:Prop}(s:Sat W w (seps H))(t:Take H A R)(e:∀ h,A h→p):p:=by
 rw[t.seps] at s
 obtain⟨h,⟨h1,h2,a,_⟩,_⟩:=s.own
 exact e h1 a
theorem Cell.sub{C:aa}{b o i:Nat}{cs:List Value}{v:Value}(t:At H C)(e:∀ h,C h→ ∃ J,sep (SLYtefdijgllbkmfaaGreat.arr b o cs) J h)(hv:cs[i]?=some v):Cell W H b (o+i) v:=fun w s=>by
 obtain⟨R,s⟩:=t.sat s
 obtain⟨h,⟨h1,h2,a,r,d,e'⟩,hin⟩:=s.own
 obtain⟨J,a'⟩:=e h1 a
 have s2:Sat W w (sep (sep (SLYtefdijgllbkmfaaGreat.arr b o cs) J) R):={s with own:=⟨h,⟨h1,h2,a',r,d,e'⟩,hin⟩ }
 rw[aM] at s2
 exact(fm s2 hv).2
theorem Rd.sub{C:aa}{enc:α→List Value}{k:Nat}{v:Value}{xs:List α}(t:At H C)(e:∀ h,C h→ ∃ J,sep (SLYtefdijgllbkmfaaGreat.sl enc k v xs) J h):Rd W H enc k v xs:=fun w s=>by
 obtain⟨R,s⟩:=t.sat s
 obtain⟨h,⟨h1,h2,a,r,d,e'⟩,hin⟩:=s.own
 obtain⟨J,a'⟩:=e h1 a
 have s2:Sat W w (sep (sep (SLYtefdijgllbkmfaaGreat.sl enc k v xs) J) R):={s with own:=⟨h,⟨h1,h2,a',r,d,e'⟩,hin⟩ }
 rw[aM] at s2
 exact(Rd.sl (W:=W) (H:=[SLYtefdijgllbkmfaaGreat.sl enc k v xs,sep J R]) .here) w (by simpa only[seps,aO] using s2)
theorem af.fb{enc:α→List Value}{k b:Nat}{x y:Operand}{t t2 e e2 ty:TypeId}{pos:String}{after:Array Edge}{guard:Option (Nat×Bool)}{d:Nat}{v:Value}{cs:List Value}{xs:List α}(z0:α){R:List aa}{i:TypeInfo}{z:Value}(hN:Nat.blt d N=true)
  (hu:P.underlying t=some (.slice e)) (hu2:P.underlying t2=some (.slice e2)) (hi:∀ w,(typeInfo e).run P w = .ok i w) (hz:i.zero=some z) (hk:i.size=k) (hzs:z.cells.size=k) (hb:1≤i.bytes∧i.bytes≤4096)
  (hx:ev L x=some v) (hy:ev L y=some (.slice (some ⟨b,0,none⟩) 1 1)) (hc:enc z0=cs) (ha:At H (arr b 0 cs)) (hcl:cs.length=k) (ht:Take H (sl enc k v xs) R) (hlen:xs.length<1073741824) (hone:(enc z0).all (·.oneCell')=true) :
  af P W N ⟨some d,.call ⟨.builtin .append, #[x,y], #[t,t2]⟩,ty,pos,after,guard⟩ L H (fun L1 H1=>∃ v',L1=(d,some v')::L∧H1=sl enc k v' (xs++[z0])::R) :=
 af.FZ z0 hN hu hu2 hi hz hk hzs hb hx hy ha hc hcl ht hlen (by rw[← hc];exact List.all_eq_true.1 hone)
theorem pD{E T:TypeId}{x:Operand}{pos:String}{after:Array Edge}{d:Nat}{v:Value}{cs:List Value}(hx:ev L x=some v)(hc:v.cells=cs.toArray) :
  ∀ a,Env N L a→cu P O ⟨some d,.box E x,T,pos,after,none⟩ a (fun b=>.pointer (some ⟨b,0,none⟩)) cs E:=fun a ha=>⟨bf rfl,fun w=>by
 simp only[execOp,ha.eval hx]
 show(Instr.box E v >>= fun x=>pure (Next.value x)).run P w=_
 simp[Instr.box,kJ,hc]⟩
/-! a slice's value stored: it is one cell, whatever it is -/
theorem Rd.one{enc:α→List Value}{k:Nat}{v:Value}{xs:List α}(h:Rd W H enc k v xs):∀ w,Sat W w (seps H)→v.oneCell'=true:=fun w s=>by
 obtain⟨⟨a,cap,hv,_⟩,_⟩:=h w s
 rw[hv];rfl
theorem af.pn{E:TypeId}{x y:Operand}{pos:String}{after:Array Edge}{guard:Option (Nat×Bool)}{b i:Nat}{v:Value}{cs:List Value}{H':List aa}{enc:α→List Value}{k:Nat}{xs:List α}(hz:∀ w,(sizeOf E).run P w = .ok 1 w)(hx:ev L x=some (.pointer (some ⟨b,i,none⟩)))(hy:ev L y=some v)[hv:aJ W H v enc k xs]
  [h0:aW H b 0 cs] [hr:bM H b 0 cs (cs.set i v) H'] (hi:Nat.blt i cs.length=true) :
  af P W N ⟨none,.store E x y,T,pos,after,guard⟩ L H (fun L1 H1=>L1=L∧H1=H'):=fun a w ha hs Kp hK=>af.st hz hx hy (hv.rd.one w hs) hi a w ha hs Kp hK
theorem af.vy{E:TypeId}{x y:Operand}{pos:String}{after:Array Edge}{guard:Option (Nat×Bool)}{b o i:Nat}{v:Value}{cs:List Value}{H':List aa}{enc:α→List Value}{k:Nat}{xs:List α}(hz:∀ w,(sizeOf E).run P w = .ok 1 w)(hx:ev L x=some (.pointer (some ⟨b,o+i,none⟩)))(hy:ev L y=some v)[hv:aJ W H v enc k xs]
  [h0:aW H b o cs] [hr:bM H b o cs (cs.set i v) H'] (hi:Nat.blt i cs.length=true) :
  af P W N ⟨none,.store E x y,T,pos,after,guard⟩ L H (fun L1 H1=>L1=L∧H1=H'):=fun a w ha hs Kp hK=>af.HO hz hx hy (hv.rd.one w hs) hi a w ha hs Kp hK
theorem af.m6{E:TypeId}{x y:Operand}{pos:String}{after:Array Edge}{guard:Option (Nat×Bool)}{b o:Nat}{v:Value}{cs:List Value}{H':List aa}{enc:α→List Value}{k:Nat}{xs:List α}(hz:∀ w,(sizeOf E).run P w = .ok 1 w)(hx:ev L x=some (.pointer (some ⟨b,o,none⟩)))(hy:ev L y=some v)[hv:aJ W H v enc k xs]
  [h0:aW H b o cs] [hr:bM H b o cs (cs.set 0 v) H'] (hi:Nat.blt 0 cs.length=true) :
  af P W N ⟨none,.store E x y,T,pos,after,guard⟩ L H (fun L1 H1=>L1=L∧H1=H'):=fun a w ha hs Kp hK=>af.HP hz hx hy (hv.rd.one w hs) hi a w ha hs Kp hK
theorem bo.fo{O:Array Oper}{ks:List Nat}{ops:List Oper}{p:Prop}(h:∀ w,Sat W w (seps H)→p)(k:p→bo P W N K O Q ks ops L H):bo P W N K O Q ks ops L H:=fun a w ha hs=>k (h w hs) a w ha hs
theorem Rd.nil{enc:α→List Value}{k:Nat}:Rd W H enc k (.slice none 0 0) ([]:List α):=fun w s=>⟨⟨none,0,rfl,Nat.le_refl _,fun _ e _=>(by cases e),fun _=>rfl⟩,fun x hx=>(by cases hx),fun i x hx=>(by simp at hx)⟩
theorem aK.J0{H R As:List aa}(t:aK H As R):aK H (emp::As) R:=.conv (A:=seps []) (fun _ e=>e) (.kL .nil t)
theorem aK.two{H R R' As:List aa}{A B:aa}(t1:aK H [A,B] R)(t2:aK R As R'):aK H (sep A B::As) R':=.conv (A:=seps [A,B]) (fun _ a=>by simpa only[seps,aO] using a) (.kL t1 t2)
theorem aK.void{H R As:List aa}{enc:α→List Value}{k:Nat}{a:Option Addr}(t:aK H As R):aK H (sl enc k (.slice a 0 0) ([]:List α)::As) R :=
 .conv (A:=seps []) (fun _ e=>.inl ⟨⟨_,rfl⟩,rfl,e⟩) (.kL .nil t)
end
end Go.SLYtefdijgllbkmfaaGreat
namespace Go.SLYtefdijgllbkmfaaGreat
open Go Go.RowKit
theorem BD{α:Type}{f:α→aa}{n:Nat}{x:α}(h:∀ h,emp h→f x h):∀ h,emp h→bb f (List.replicate n x) h:=by
 induction n with
 | zero=>intro h e;exact e
 | succ n ih =>
  intro g e
  rw[List.replicate_succ,iM]
  have:sep emp emp g:=by rw[fG];exact e
  exact aR h ih g this
theorem aK.J1{α:Type}{H R As:List aa}{f:α→aa}{n:Nat}{x:α}(h:∀ h,emp h→f x h)(t:aK H As R):aK H (bb f (List.replicate n x)::As) R:=.conv (A:=seps []) (BD h) (.kL .nil t)
theorem nH{α:Type}{enc:α→List Value}{k:Nat}{a:Option Addr}:∀ h,emp h→sl enc k (.slice a 0 0) ([]:List α) h:=fun _ e=>.inl ⟨⟨_,rfl⟩,rfl,e⟩
def BE(ps:List (Option Nat))(ts:List (Option bF)):Prop:=ps.length=ts.length∧(∀ (n:Nat) (t:bF),ts[n]?=some (some t)→ ∃ p,ps[n]?=some (some p))∧ ∀ n:Nat,ts[n]?=some none→ps[n]?=some none
theorem mm{ps:List (Option Nat)}{ts:List (Option bF)}:∀ h,aG ps ts h→BE ps ts:=fun h a =>
 ⟨rH a,fun _n _t e=>let ⟨p,hp,_⟩:=nO e h a;⟨p,hp⟩,fun _n e=>pB e h a⟩
section
variable{fv sv pv:Value}{p:eB}{bt:Nat}{ps:List (Option Nat)}{vm:Value}{bg:Nat}{vt:Value}{bd bw:Nat}{vr:Value}
theorem eP:∀ {n:Nat} (_:n<16),(fU fv sv pv p bt ps vm bg vt bd bw vr)[9+n]?=some (iw (ps.getD n none))
 | 0,_=>rfl
 | 1,_=>rfl
 | 2,_=>rfl
 | 3,_=>rfl
 | 4,_=>rfl
 | 5,_=>rfl
 | 6,_=>rfl
 | 7,_=>rfl
 | 8,_=>rfl
 | 9,_=>rfl
 | 10,_=>rfl
 | 11,_=>rfl
 | 12,_=>rfl
 | 13,_=>rfl
 | 14,_=>rfl
 | 15,_=>rfl
 | n+16,h=>absurd h (by omega)
theorem BF{a0 a1 a2 a3 a4 a5 a6 a7 a8 a9 a10 a11 a12 a13 a14 a15:Option Nat}(q:Option Nat):∀ {n:Nat} (_:n<16),(fU fv sv pv p bt [a0,a1,a2,a3,a4,a5,a6,a7,a8,a9,a10,a11,a12,a13,a14,a15] vm bg vt bd bw vr).set (9+n) (iw q)=fU fv sv pv p bt ([a0,a1,a2,a3,a4,a5,a6,a7,a8,a9,a10,a11,a12,a13,a14,a15].set n q) vm bg vt bd bw vr
 | 0,_=>rfl
 | 1,_=>rfl
 | 2,_=>rfl
 | 3,_=>rfl
 | 4,_=>rfl
 | 5,_=>rfl
 | 6,_=>rfl
 | 7,_=>rfl
 | 8,_=>rfl
 | 9,_=>rfl
 | 10,_=>rfl
 | 11,_=>rfl
 | 12,_=>rfl
 | 13,_=>rfl
 | 14,_=>rfl
 | 15,_=>rfl
 | n+16,h=>absurd h (by omega)
theorem xk{n:Nat}(h:n<16)(hl:ps.length=16)(q:Option Nat):(fU fv sv pv p bt ps vm bg vt bd bw vr).set (9+n) (iw q)=fU fv sv pv p bt (ps.set n q) vm bg vt bd bw vr:=by
 match ps,hl with
 | [a0,a1,a2,a3,a4,a5,a6,a7,a8,a9,a10,a11,a12,a13,a14,a15],_=>exact BF q h
end
/-! slots -/
def eE(l:List (Bool×Int)):Int×Int×Int×List (Bool×Int) :=
 match slotFree? l 0 with
 | none=>(0,0,2,l)
 | some n=>((n:Int),dn ((l.getD n (false,0)).2+1) n,0,l.set n (true,(l.getD n (false,0)).2+1))
theorem BG{l:List (Bool×Int)}{k:Nat}{o:Bool×Int}(h:l[k]?=some o)(hu:o.1=true):slotFree? (l.drop k) k=slotFree? (l.drop (k+1)) (k+1):=by rw[drop_cons h,slotFree?,if_pos hu]
theorem Dx{l:List (Bool×Int)}{k:Nat}{o:Bool×Int}(h:l[k]?=some o)(hu:o.1=false):slotFree? (l.drop k) k=some k:=by rw[drop_cons h,slotFree?,if_neg (by rw[hu];simp)]
theorem Dy{l:List (Bool×Int)}{k:Nat}(h:l.length≤k):slotFree? (l.drop k) k=none:=by rw[List.drop_of_length_le h];rfl
def iW(l:List (Bool×Int)):Prop:=l.length≤1024∧ ∀ o∈l,0≤o.2∧o.2<1099511627776
def mn(l:List (Bool×Int))(ps:List (Option Nat))(p:Nat):List (Option Nat):=match slotFree? l 0 with | none=>ps | some n=>ps.set n (some p)
theorem xl{l:List (Bool×Int)}(h:(eE l).2.2.1=0):∃ n,slotFree? l 0=some n∧eE l=((n:Int),dn ((l.getD n (false,0)).2+1) n,0,l.set n (true,(l.getD n (false,0)).2+1)):=by
 unfold eE at *
 cases e:slotFree? l 0 with
 | none=>rw[e] at h;cases h
 | some n=>exact⟨n,rfl,rfl⟩
theorem xn{l:List (Bool×Int)}(h:¬(eE l).2.2.1=0):slotFree? l 0=none∧eE l=(0,0,2,l):=by
 unfold eE at *
 cases e:slotFree? l 0 with
 | none=>exact⟨rfl,rfl⟩
 | some n=>rw[e] at h;exact absurd rfl h
theorem dU{s:Spc}{f arg:Int}{n:Nat}(h:slotFree? s.table 0=some n):s.begin f arg=((n:Int),0,{s with table:=s.table.set n (true,(s.table.getD n (false,0)).2+1),thr:=s.thr.set n (some (mM f arg (dn ((s.table.getD n (false,0)).2+1) n))) }):=by
 unfold Spc.begin;rw[h]
theorem iX{s:Spc}{f arg:Int}(h:slotFree? s.table 0=none):s.begin f arg=(0,2,s):=by unfold Spc.begin;rw[h]
theorem Dz{ps:List (Option Nat)}{ts:List (Option bF)}{n p:Nat}{t:bF}(h:ts[n]?=some none):∀ g,seps [arr p 0 (bH t),aG ps ts] g→aG (ps.set n (some p)) (ts.set n (some t)) g:=fun g a=>nP h g (by simpa only[seps,aO] using a)
theorem fh{α:Type}{l:List α}{k:Nat}{x d:α}(h:l[k]?=some x):l.getD k d=x:=by rw[List.getD_eq_getElem?_getD,h];rfl
theorem zd{l:List Int}{k:Nat}{n:Int}(h:(l.take 4)[k]?=some n):((l.take 4).take (k+1)).map (fun n=>((Value.slice none 0 0:Value),(⟨[],aZ n 1048576⟩:jr)))=((l.take 4).take k).map (fun n=>((Value.slice none 0 0:Value),(⟨[],aZ n 1048576⟩:jr)))++[(Value.slice none 0 0,⟨[],aZ n 1048576⟩)]:=by
 rw[cx h,List.map_append];rfl
theorem tv{α β:Type}{f:β→aa}{g:α→β}{l:List α}(h:∀ x h,emp h→f (g x) h):∀ h,emp h→bb f (l.map g) h:=by
 induction l with
 | nil=>intro h e;exact e
 | cons x l ih =>
  intro k e
  rw[List.map_cons,iM]
  have:sep emp emp k:=by rw[fG];exact e
  exact aR (h x) ih k this
theorem aK.allM{α β:Type}{H R As:List aa}{f:β→aa}{g:α→β}{l:List α}(h:∀ x h,emp h→f (g x) h)(t:aK H As R):aK H (bb f (l.map g)::As) R:=.conv (A:=seps []) (tv h) (.kL .nil t)
@[irreducible] def optH (f:Nat→aa) (o:Option Nat):aa:=match o with
 | none=>emp
 | some b=>f b
theorem aK.J2{H R As:List aa}{f:Nat→aa}(t:aK H As R):aK H (optH f none::As) R:=.conv (A:=seps []) (fun _ e=>by unfold optH;exact e) (.kL .nil t)
theorem aK.J3{H R As:List aa}{f:Nat→aa}{b:Nat}(t:aK H (f b::As) R):aK H (optH f (some b)::As) R:=.conv (A:=f b) (fun _ e=>by unfold optH;exact e) t
theorem xo{f:Nat→aa}{b:Nat}:∀ h,optH f (some b) h→seps [f b] h:=fun h a=>by unfold optH at a;simpa only[seps,aO] using a
theorem m7{p:eB}(h:cK p=0):ei p=true:=by
 unfold cK at h
 by_cases hc:ei p=true
 ·exact hc
 ·rw[if_neg hc] at h;cases h
theorem F7{W:World}{H:List aa}{A:aa}{v:bI}(hp:eD W [A] v)(ha:At H A):∀ w,Sat W w (seps H)→ ∀ y∈v.fs, ∀ c∈cj y,c.oneCell'=true:=fun w s y hy c hc=>by
 simp only[cj,List.mem_cons,List.not_mem_nil,or_false] at hc
 subst hc
 exact((hp.ins y hy).at ha).one w s
def ze(p:eB):Spc:=⟨p,List.replicate 16 (false,0),List.replicate 16 none,List.replicate p.words.toNat 0,Gates.new p.ay p.conds p.aT,p.aC.map Tub.new,jB.new p.blocks,jW.new,[]⟩
theorem BH(p:eB):iW (ze p).table:=⟨by show(List.replicate 16 (false,(0:Int))).length≤1024;simp,fun o ho=>by rw[List.eq_of_mem_replicate ho];simp⟩
theorem BI(p:eB):∀ n,slotFree? (ze p).table 0=some n→(ze p).thr[n]?=some none:=fun n h=>by
 have:n=0:=by simpa [ze,slotFree?] using h.symm
 subst this;rfl
theorem F8{α:Type}{cl fs:List α}{k:Nat}{x y:α}(hl:cl.length=k)(hx:fs[k]?=some x):(cl++fs.drop k).set k y=(cl++[y])++fs.drop (k+1):=by
 subst hl
 rw[drop_cons hx,List.set_append_right _ _ (Nat.le_refl _)]
 simp
theorem DA{α:Type}{cl fs:List α}{k:Nat}{x:α}(hl:cl.length=k)(hx:fs[k]?=some x):(cl++fs.drop k)[k]?=some x:=by
 subst hl
 rw[drop_cons hx,List.getElem?_append_right (Nat.le_refl _)]
 simp
theorem Rd.isSl{W:World}{H:List aa}{α:Type}{enc:α→List Value}{k:Nat}{v:Value}{xs:List α}(h:Rd W H enc k v xs):∀ w,Sat W w (seps H)→isSl v=true:=fun w s=>by
 obtain⟨⟨a,cap,hv,_⟩,_⟩:=h w s
 rw[hv];rfl
/-! a library -/
theorem kO{α β:Type}{f:α→β}{xs:List α}{ys:List β}(h:xs.map f=ys):xs.length=ys.length:=by rw[← h,List.length_map]
theorem nU{α β:Type}{f:α→β}{xs:List α}{ys:List β}(h:xs.map f=ys){i:Nat}{x:α}(hx:xs[i]?=some x):ys[i]?=some (f x):=by rw[← h,List.getElem?_map,hx];rfl
end Go.SLYtefdijgllbkmfaaGreat
namespace Go.SLYtefdijgllbkmfaaGreat
open Go Go.RowKit
theorem At.auto{H:List aa}{A:aa}(t:At H A:=by repeat (first | exact At.here | refine At.there ?_)):At H A:=t
theorem Take.auto{H R:List aa}{A:aa}(t:Take H A R:=by repeat (first | exact Take.here | apply Take.there)):Take H A R:=t
theorem gA.auto{H H':List aa}{A B:aa}(t:gA H A B H':=by repeat (first | exact gA.here | apply gA.there)):gA H A B H':=t
theorem yM.auto{ks:List Nat}{L L':List (Nat×Option Value)}(t:yM ks L L':=by repeat (first | exact yM.base | refine yM.cons rfl ?_)):yM ks L L':=t
theorem Kept.auto{W:World}{H K:List aa}(t:Kept H K:=by repeat (first | exact Kept.nil | exact Take.here | apply Take.there | apply Kept.take)):∀ w,Sat W w (seps H)→Sat W w (seps K):=Kept.ok t
theorem aK.auto{H As R:List aa}(t:aK H As R:=by repeat (first | exact aK.nil | (apply aK.cons; · repeat (first | exact Take.here | apply Take.there)) | apply aK.J2 | apply aK.J3 | apply aK.void | apply aK.J0 | apply aK.two | (apply aK.J1; · exact nH) | (apply aK.allM; · exact fun _=>nH) | apply aK.f1 rfl | apply aK.f2 rfl | apply aK.f3 rfl | apply aK.f4 rfl | apply aK.f10 rfl | apply aK.kL | assumption | exact trivial | rfl | omega)):aK H As R:=t
end Go.SLYtefdijgllbkmfaaGreat
namespace Go.SLYtefdijgllbkmfaaGreat
open Go Go.RowKit
/-! processors -/
theorem F9{W:World}{H:List aa}{A:aa}{v:bI}(hp:eD W [A] v)(ha:At H A):∀ w,Sat W w (seps H)→(eg v).all (·.oneCell')=true:=fun w s=>by
 have h1:=nS ((hp.fs.at ha).isSl w s)
 have h2:=nS ((hp.aT.at ha).isSl w s)
 have h3:=nS ((hp.aC.at ha).isSl w s)
 show(v.fv.oneCell' && (true && (true && (true && (v.sv.oneCell' && (v.pv.oneCell' && (true && (true && true))))))))=true
 rw[h1,h2,h3];rfl
def HR(l:Lib):Nat:=l.waiting.length+(l.vs.map (fun v=>v.evs.length)).sum
structure K7(m:Nat)(l:Lib):Prop where
 ev:HR l≤m
 vl:l.vs.length≤64
 th:l.Ao.thr.length=16
structure L3(m:Nat)(k:LK):Prop where
 own:∀ v∈k.owner,v = -1∨(0≤v∧v<(k.libs.length:Int))
 ol:k.owner.length≤64
 ll:k.libs.length≤8
 L5:∀ l∈k.libs,K7 m l
theorem nV{α:Type}(l:List α)(i:Nat):cH l (i:Int)=l[i]?:=by unfold cH;rw[if_neg (by omega),Int.toNat_natCast]
theorem DB{l:List Nat}{n:Nat}(h:n∈l):n≤l.sum:=by
 induction l with
 | nil=>cases h
 | cons x l ih =>
  rw[List.sum_cons]
  rcases List.mem_cons.1 h with h | h
  ·omega
  ·have:=ih h;omega
theorem K7.e{m:Nat}{l:Lib}(h:K7 m l):∀ v∈l.vs,v.evs.length≤m:=fun v hv=>by
 have:=h.ev;unfold HR at this
 have:=DB (List.mem_map_of_mem (f:=fun v:KS=>v.evs.length) hv)
 omega
end Go.SLYtefdijgllbkmfaaGreat
namespace Go.SLYtefdijgllbkmfaaGreat
open Go Go.RowKit
structure L4(d:Deal):Prop where
 left:0≤d.left∧d.left≤64
 pl:d.prio.length=d.iz.length
 ol:d.out.length=d.iz.length
 dm:∀ z∈d.iz,z≤1000000
 om:∀ y∈d.out,0≤y
 dl:d.iz.length≤8
theorem rN{t:Int}{n:Nat}(hn:0<n):((t.tmod n+n).tmod n)=((pick t n:Nat):Int):=by
 unfold pick
 have h1 : -(n:Int)<t.tmod n:=Int.lt_tmod_of_pos t (show(0:Int)<n by omega)
 have h2:0≤(t.tmod n+n).tmod n:=Int.tmod_nonneg _ (by omega)
 omega
theorem eX{t:Int}{n:Nat}(hn:0<n):pick t n<n:=by
 have:=rN (t:=t) hn
 have h2:=Int.tmod_lt_of_pos (t.tmod n+n) (show(0:Int)<n by omega)
 omega
/-! what New makes -/
end Go.SLYtefdijgllbkmfaaGreat
