/- Walks of functions, and what they compute. Conditions: none, this text proves no statement. -/
import Derived.Test.YtefdijgllbkmfaaGreatH01
import GoSem.Core.Float
namespace Go.SLYtefdijgllbkmfaaGreat
open Go Go.RowKit
def ij{X1:Type}(p:X1→Prop)(A:X1→List aa):aa:=fun h=>∃ x1,p x1∧seps (A x1) h
def rM{X1 X2:Type}(p:X1→X2→Prop)(A:X1→X2→List aa):aa:=fun h=>∃ x1 x2,p x1 x2∧seps (A x1 x2) h
def zi{X1 X2 X3:Type}(p:X1→X2→X3→Prop)(A:X1→X2→X3→List aa):aa:=fun h=>∃ x1 x2 x3,p x1 x2 x3∧seps (A x1 x2 x3) h
def DN{X1 X2 X3 X4:Type}(p:X1→X2→X3→X4→Prop)(A:X1→X2→X3→X4→List aa):aa:=fun h=>∃ x1 x2 x3 x4,p x1 x2 x3 x4∧seps (A x1 x2 x3 x4) h
def DO{X1 X2 X3 X4 X5:Type}(p:X1→X2→X3→X4→X5→Prop)(A:X1→X2→X3→X4→X5→List aa):aa:=fun h=>∃ x1 x2 x3 x4 x5,p x1 x2 x3 x4 x5∧seps (A x1 x2 x3 x4 x5) h
def DP{X1 X2 X3 X4 X5 X6:Type}(p:X1→X2→X3→X4→X5→X6→Prop)(A:X1→X2→X3→X4→X5→X6→List aa):aa:=fun h=>∃ x1 x2 x3 x4 x5 x6,p x1 x2 x3 x4 x5 x6∧seps (A x1 x2 x3 x4 x5 x6) h
def DQ{X1 X2 X3 X4 X5 X6 X7:Type}(p:X1→X2→X3→X4→X5→X6→X7→Prop)(A:X1→X2→X3→X4→X5→X6→X7→List aa):aa:=fun h=>∃ x1 x2 x3 x4 x5 x6 x7,p x1 x2 x3 x4 x5 x6 x7∧seps (A x1 x2 x3 x4 x5 x6 x7) h
def DR{X1 X2 X3 X4 X5 X6 X7 X8:Type}(p:X1→X2→X3→X4→X5→X6→X7→X8→Prop)(A:X1→X2→X3→X4→X5→X6→X7→X8→List aa):aa:=fun h=>∃ x1 x2 x3 x4 x5 x6 x7 x8,p x1 x2 x3 x4 x5 x6 x7 x8∧seps (A x1 x2 x3 x4 x5 x6 x7 x8) h
def DS{X1 X2 X3 X4 X5 X6 X7 X8 X9:Type}(p:X1→X2→X3→X4→X5→X6→X7→X8→X9→Prop)(A:X1→X2→X3→X4→X5→X6→X7→X8→X9→List aa):aa:=fun h=>∃ x1 x2 x3 x4 x5 x6 x7 x8 x9,p x1 x2 x3 x4 x5 x6 x7 x8 x9∧seps (A x1 x2 x3 x4 x5 x6 x7 x8 x9) h
def tR{X1 X2 X3 X4 X5 X6 X7 X8 X9 X10:Type}(p:X1→X2→X3→X4→X5→X6→X7→X8→X9→X10→Prop)(A:X1→X2→X3→X4→X5→X6→X7→X8→X9→X10→List aa):aa:=fun h=>∃ x1 x2 x3 x4 x5 x6 x7 x8 x9 x10,p x1 x2 x3 x4 x5 x6 x7 x8 x9 x10∧seps (A x1 x2 x3 x4 x5 x6 x7 x8 x9 x10) h
def xl{X1 X2 X3 X4 X5 X6 X7 X8 X9 X10 X11:Type}(p:X1→X2→X3→X4→X5→X6→X7→X8→X9→X10→X11→Prop)(A:X1→X2→X3→X4→X5→X6→X7→X8→X9→X10→X11→List aa):aa:=fun h=>∃ x1 x2 x3 x4 x5 x6 x7 x8 x9 x10 x11,p x1 x2 x3 x4 x5 x6 x7 x8 x9 x10 x11∧seps (A x1 x2 x3 x4 x5 x6 x7 x8 x9 x10 x11) h
def xn{X1 X2 X3 X4 X5 X6 X7 X8 X9 X10 X11 X12:Type}(p:X1→X2→X3→X4→X5→X6→X7→X8→X9→X10→X11→X12→Prop)(A:X1→X2→X3→X4→X5→X6→X7→X8→X9→X10→X11→X12→List aa):aa:=fun h=>∃ x1 x2 x3 x4 x5 x6 x7 x8 x9 x10 x11 x12,p x1 x2 x3 x4 x5 x6 x7 x8 x9 x10 x11 x12∧seps (A x1 x2 x3 x4 x5 x6 x7 x8 x9 x10 x11 x12) h
inductive aK:List aa→List aa→List aa→Prop where
 | nil {H:List aa}:aK H [] H
 | cons {H R R':List aa} {A:aa} {As:List aa} (h:Take H A R) (t:aK R As R'):aK H (A::As) R'
 /-- a thing seen otherwise -/
 | conv {A B:aa} {H R As:List aa} (c:∀ h,A h→B h) (t:aK H (A::As) R):aK H (B::As) R
 | lE {H R R' Bs As:List aa} (t1:aK H Bs R) (t2:aK R As R'):aK H (seps Bs::As) R'
 | f1 {X1:Type} {p:X1→Prop} {A:X1→List aa} {C:aa} {H R R' As:List aa} (e:C=ij p A) (x1:X1) (t1:aK H (A x1) R) (t2:aK R As R') (hp:p x1):aK H (C::As) R'
 | f2 {X1 X2:Type} {p:X1→X2→Prop} {A:X1→X2→List aa} {C:aa} {H R R' As:List aa} (e:C=rM p A) (x1:X1) (x2:X2) (t1:aK H (A x1 x2) R) (t2:aK R As R') (hp:p x1 x2):aK H (C::As) R'
 | f3 {X1 X2 X3:Type} {p:X1→X2→X3→Prop} {A:X1→X2→X3→List aa} {C:aa} {H R R' As:List aa} (e:C=zi p A) (x1:X1) (x2:X2) (x3:X3) (t1:aK H (A x1 x2 x3) R) (t2:aK R As R') (hp:p x1 x2 x3):aK H (C::As) R'
 | f4 {X1 X2 X3 X4:Type} {p:X1→X2→X3→X4→Prop} {A:X1→X2→X3→X4→List aa} {C:aa} {H R R' As:List aa} (e:C=DN p A) (x1:X1) (x2:X2) (x3:X3) (x4:X4) (t1:aK H (A x1 x2 x3 x4) R) (t2:aK R As R') (hp:p x1 x2 x3 x4):aK H (C::As) R'
 | f5 {X1 X2 X3 X4 X5:Type} {p:X1→X2→X3→X4→X5→Prop} {A:X1→X2→X3→X4→X5→List aa} {C:aa} {H R R' As:List aa} (e:C=DO p A) (x1:X1) (x2:X2) (x3:X3) (x4:X4) (x5:X5) (t1:aK H (A x1 x2 x3 x4 x5) R) (t2:aK R As R') (hp:p x1 x2 x3 x4 x5):aK H (C::As) R'
 | f6 {X1 X2 X3 X4 X5 X6:Type} {p:X1→X2→X3→X4→X5→X6→Prop} {A:X1→X2→X3→X4→X5→X6→List aa} {C:aa} {H R R' As:List aa} (e:C=DP p A) (x1:X1) (x2:X2) (x3:X3) (x4:X4) (x5:X5) (x6:X6) (t1:aK H (A x1 x2 x3 x4 x5 x6) R) (t2:aK R As R') (hp:p x1 x2 x3 x4 x5 x6):aK H (C::As) R'
 | f7 {X1 X2 X3 X4 X5 X6 X7:Type} {p:X1→X2→X3→X4→X5→X6→X7→Prop} {A:X1→X2→X3→X4→X5→X6→X7→List aa} {C:aa} {H R R' As:List aa} (e:C=DQ p A) (x1:X1) (x2:X2) (x3:X3) (x4:X4) (x5:X5) (x6:X6) (x7:X7) (t1:aK H (A x1 x2 x3 x4 x5 x6 x7) R) (t2:aK R As R') (hp:p x1 x2 x3 x4 x5 x6 x7):aK H (C::As) R'
 | f8 {X1 X2 X3 X4 X5 X6 X7 X8:Type} {p:X1→X2→X3→X4→X5→X6→X7→X8→Prop} {A:X1→X2→X3→X4→X5→X6→X7→X8→List aa} {C:aa} {H R R' As:List aa} (e:C=DR p A) (x1:X1) (x2:X2) (x3:X3) (x4:X4) (x5:X5) (x6:X6) (x7:X7) (x8:X8) (t1:aK H (A x1 x2 x3 x4 x5 x6 x7 x8) R) (t2:aK R As R') (hp:p x1 x2 x3 x4 x5 x6 x7 x8):aK H (C::As) R'
 | f9 {X1 X2 X3 X4 X5 X6 X7 X8 X9:Type} {p:X1→X2→X3→X4→X5→X6→X7→X8→X9→Prop} {A:X1→X2→X3→X4→X5→X6→X7→X8→X9→List aa} {C:aa} {H R R' As:List aa} (e:C=DS p A) (x1:X1) (x2:X2) (x3:X3) (x4:X4) (x5:X5) (x6:X6) (x7:X7) (x8:X8) (x9:X9) (t1:aK H (A x1 x2 x3 x4 x5 x6 x7 x8 x9) R) (t2:aK R As R') (hp:p x1 x2 x3 x4 x5 x6 x7 x8 x9):aK H (C::As) R'
 | f10 {X1 X2 X3 X4 X5 X6 X7 X8 X9 X10:Type} {p:X1→X2→X3→X4→X5→X6→X7→X8→X9→X10→Prop} {A:X1→X2→X3→X4→X5→X6→X7→X8→X9→X10→List aa} {C:aa} {H R R' As:List aa} (e:C=tR p A) (x1:X1) (x2:X2) (x3:X3) (x4:X4) (x5:X5) (x6:X6) (x7:X7) (x8:X8) (x9:X9) (x10:X10) (t1:aK H (A x1 x2 x3 x4 x5 x6 x7 x8 x9 x10) R) (t2:aK R As R') (hp:p x1 x2 x3 x4 x5 x6 x7 x8 x9 x10):aK H (C::As) R'
 | f11 {X1 X2 X3 X4 X5 X6 X7 X8 X9 X10 X11:Type} {p:X1→X2→X3→X4→X5→X6→X7→X8→X9→X10→X11→Prop} {A:X1→X2→X3→X4→X5→X6→X7→X8→X9→X10→X11→List aa} {C:aa} {H R R' As:List aa} (e:C=xl p A) (x1:X1) (x2:X2) (x3:X3) (x4:X4) (x5:X5) (x6:X6) (x7:X7) (x8:X8) (x9:X9) (x10:X10) (x11:X11) (t1:aK H (A x1 x2 x3 x4 x5 x6 x7 x8 x9 x10 x11) R) (t2:aK R As R') (hp:p x1 x2 x3 x4 x5 x6 x7 x8 x9 x10 x11):aK H (C::As) R'
 | f12 {X1 X2 X3 X4 X5 X6 X7 X8 X9 X10 X11 X12:Type} {p:X1→X2→X3→X4→X5→X6→X7→X8→X9→X10→X11→X12→Prop} {A:X1→X2→X3→X4→X5→X6→X7→X8→X9→X10→X11→X12→List aa} {C:aa} {H R R' As:List aa} (e:C=xn p A) (x1:X1) (x2:X2) (x3:X3) (x4:X4) (x5:X5) (x6:X6) (x7:X7) (x8:X8) (x9:X9) (x10:X10) (x11:X11) (x12:X12) (t1:aK H (A x1 x2 x3 x4 x5 x6 x7 x8 x9 x10 x11 x12) R) (t2:aK R As R') (hp:p x1 x2 x3 x4 x5 x6 x7 x8 x9 x10 x11 x12):aK H (C::As) R'
theorem fo{B C D E F:aa}{h:js}(a:sep B C h)(f:∀ h,B h→D h)(g:∀ h,C h→sep E F h):sep (sep D E) F h:=by
 rw[aN]
 exact aS f g h a
theorem aK.ok{H As R:List aa}(t:aK H As R):∀ h,seps H h→sep (seps As) (seps R) h:=by
 induction t with
 | nil=>intro h a;simp only[seps,fK];exact a
 | cons t _ ih=>intro h a;rw[t.seps] at a;exact fo a (fun _ h=>h) ih
 | conv c _ ih=>intro h a;exact aS (aS c (fun _ h=>h)) (fun _ h=>h) h (ih h a)
 | lE _ _ i1 i2=>intro h a;exact fo (i1 h a) (fun _ h=>h) i2
 | f1 e x1 _ _ hp i1 i2=>intro h a;subst e;exact fo (i1 h a) (fun _ h=>⟨x1,hp,h⟩) i2
 | f2 e x1 x2 _ _ hp i1 i2=>intro h a;subst e;exact fo (i1 h a) (fun _ h=>⟨x1,x2,hp,h⟩) i2
 | f3 e x1 x2 x3 _ _ hp i1 i2=>intro h a;subst e;exact fo (i1 h a) (fun _ h=>⟨x1,x2,x3,hp,h⟩) i2
 | f4 e x1 x2 x3 x4 _ _ hp i1 i2=>intro h a;subst e;exact fo (i1 h a) (fun _ h=>⟨x1,x2,x3,x4,hp,h⟩) i2
 | f5 e x1 x2 x3 x4 x5 _ _ hp i1 i2=>intro h a;subst e;exact fo (i1 h a) (fun _ h=>⟨x1,x2,x3,x4,x5,hp,h⟩) i2
 | f6 e x1 x2 x3 x4 x5 x6 _ _ hp i1 i2=>intro h a;subst e;exact fo (i1 h a) (fun _ h=>⟨x1,x2,x3,x4,x5,x6,hp,h⟩) i2
 | f7 e x1 x2 x3 x4 x5 x6 x7 _ _ hp i1 i2=>intro h a;subst e;exact fo (i1 h a) (fun _ h=>⟨x1,x2,x3,x4,x5,x6,x7,hp,h⟩) i2
 | f8 e x1 x2 x3 x4 x5 x6 x7 x8 _ _ hp i1 i2=>intro h a;subst e;exact fo (i1 h a) (fun _ h=>⟨x1,x2,x3,x4,x5,x6,x7,x8,hp,h⟩) i2
 | f9 e x1 x2 x3 x4 x5 x6 x7 x8 x9 _ _ hp i1 i2=>intro h a;subst e;exact fo (i1 h a) (fun _ h=>⟨x1,x2,x3,x4,x5,x6,x7,x8,x9,hp,h⟩) i2
 | f10 e x1 x2 x3 x4 x5 x6 x7 x8 x9 x10 _ _ hp i1 i2=>intro h a;subst e;exact fo (i1 h a) (fun _ h=>⟨x1,x2,x3,x4,x5,x6,x7,x8,x9,x10,hp,h⟩) i2
 | f11 e x1 x2 x3 x4 x5 x6 x7 x8 x9 x10 x11 _ _ hp i1 i2=>intro h a;subst e;exact fo (i1 h a) (fun _ h=>⟨x1,x2,x3,x4,x5,x6,x7,x8,x9,x10,x11,hp,h⟩) i2
 | f12 e x1 x2 x3 x4 x5 x6 x7 x8 x9 x10 x11 x12 _ _ hp i1 i2=>intro h a;subst e;exact fo (i1 h a) (fun _ h=>⟨x1,x2,x3,x4,x5,x6,x7,x8,x9,x10,x11,x12,hp,h⟩) i2
theorem gJ.all(pre R:List aa):gJ (pre++R) pre R:=by
 induction pre with
 | nil=>exact .nil
 | cons A r ih=>exact .cons .here ih
section
variable{P:Program}{W:World}{N:Nat}{Q:Exit→Act→World→Prop}{L:List (Nat×Option Value)}{H R K:List aa}{O:Array Oper}{T:TypeId}{ks:List Nat}{ops:List Oper}{C:aa}{X1 X2 X3 X4 X5 X6 X7 X8 X9 X10 X11 X12:Type}
theorem aK.sat{w:World}{As:List aa}(t:aK H As R)(s:Sat W w (seps H)):Sat W w (seps (As++R)):=by
 rw[ah];exact s.mono t.ok
theorem aK.kept{As:List aa}(t:aK H As R):∀ w,Sat W w (seps H)→Sat W w (seps As):=fun w s=>by
 have:=t.sat s
 rw[ah] at this
 exact this.left
theorem ar{w:World}{A:List aa}{F:aa}{R:List aa}(t:aK H (A++[F]) R)(s:Sat W w (seps H)):Sat W w (sep (seps A) F):=by
 have:=t.kept w s
 rw[ah] at this
 exact this.eq (by simp only[seps,aP])
theorem af.eO{f:FuncId}{xs:Array Operand}{ts:Array TypeId}{pos:String}{after:Array Edge}{guard:Option (Nat×Bool)}{d:Nat}{args:List Value}{pre R:List aa}{X:Type}{val:X→Value}{fact:X→Prop}{post:X→List aa}(hN:Nat.blt d N=true)
  (hc:∀ args w,(callFunc f args).run P w = .ok (.enter f args) w) (hx:evs L xs.toList=some args) (hfn:Fn P W f args pre X val fact post) (ht:aK H pre R) :
  af P W N ⟨some d,.call ⟨.value (.func f),xs,ts⟩,T,pos,after,guard⟩ L H (fun L1 H1=>∃ x,fact x∧L1=(d,some (val x))::L∧H1=post x++R):=fun a w ha hs =>
 af.call (H:=pre++R) hN hc hx hfn (gJ.all pre R) a w ha (ht.sat hs)
theorem af.pD{f:FuncId}{g:Operand}{us cap:List Value}{xs:Array Operand}{ts:Array TypeId}{pos:String}{after:Array Edge}{guard:Option (Nat×Bool)}{d:Nat}{args:List Value}{pre R:List aa}{X:Type}{val:X→Value}{fact:X→Prop}{post:X→List aa}(hN:Nat.blt d N=true)
  (hg:ev L g=some (.func (.func f) us.toArray cap.toArray)) (hc:∀ args w,(callFunc f args).run P w = .ok (.enter f args) w) (hx:evs L xs.toList=some args) (hfn:Fn P W f (us++args++cap) pre X val fact post) (ht:aK H pre R) :
  af P W N ⟨some d,.call ⟨.value g,xs,ts⟩,T,pos,after,guard⟩ L H (fun L1 H1=>∃ x,fact x∧L1=(d,some (val x))::L∧H1=post x++R):=fun a w ha hs =>
 af.Ko (H:=pre++R) hN hg hc hx hfn (gJ.all pre R) a w ha (ht.sat hs)
theorem ax.Lk{c:Code}{As:List aa}(t:aK H As R)(k:ax P W N Q c L (As++R)):ax P W N Q c L H:=fun a w ha hs=>k a w ha (t.sat hs)
theorem ax.fY{c:Code}{As:List aa}(t:Take H (seps As) R)(k:ax P W N Q c L (As++R)):ax P W N Q c L H:=fun a w ha hs=>k a w ha (by rw[ah, ← t.seps];exact hs)
theorem ax.o1{c:Code}{p:X1→Prop}{A:X1→List aa}(t:Take H C R)(e:C=ij p A)(k:∀ x1,p x1→ax P W N Q c L (A x1++R)):ax P W N Q c L H:=fun a w ha hs=>by
 rw[t.seps] at hs
 subst e
 obtain⟨h,⟨h1,h2,⟨x1,hp,a1⟩,r,d,e'⟩,hin⟩:=hs.own
 exact k x1 hp a w ha (by rw[ah];exact {hs with own:=⟨h,⟨h1,h2,a1,r,d,e'⟩,hin⟩ })
theorem ax.o2{c:Code}{p:X1→X2→Prop}{A:X1→X2→List aa}(t:Take H C R)(e:C=rM p A)(k:∀ x1 x2,p x1 x2→ax P W N Q c L (A x1 x2++R)):ax P W N Q c L H:=fun a w ha hs=>by
 rw[t.seps] at hs
 subst e
 obtain⟨h,⟨h1,h2,⟨x1,x2,hp,a1⟩,r,d,e'⟩,hin⟩:=hs.own
 exact k x1 x2 hp a w ha (by rw[ah];exact {hs with own:=⟨h,⟨h1,h2,a1,r,d,e'⟩,hin⟩ })
theorem ax.o3{c:Code}{p:X1→X2→X3→Prop}{A:X1→X2→X3→List aa}(t:Take H C R)(e:C=zi p A)(k:∀ x1 x2 x3,p x1 x2 x3→ax P W N Q c L (A x1 x2 x3++R)):ax P W N Q c L H:=fun a w ha hs=>by
 rw[t.seps] at hs
 subst e
 obtain⟨h,⟨h1,h2,⟨x1,x2,x3,hp,a1⟩,r,d,e'⟩,hin⟩:=hs.own
 exact k x1 x2 x3 hp a w ha (by rw[ah];exact {hs with own:=⟨h,⟨h1,h2,a1,r,d,e'⟩,hin⟩ })
theorem ax.o4{c:Code}{p:X1→X2→X3→X4→Prop}{A:X1→X2→X3→X4→List aa}(t:Take H C R)(e:C=DN p A)(k:∀ x1 x2 x3 x4,p x1 x2 x3 x4→ax P W N Q c L (A x1 x2 x3 x4++R)):ax P W N Q c L H:=fun a w ha hs=>by
 rw[t.seps] at hs
 subst e
 obtain⟨h,⟨h1,h2,⟨x1,x2,x3,x4,hp,a1⟩,r,d,e'⟩,hin⟩:=hs.own
 exact k x1 x2 x3 x4 hp a w ha (by rw[ah];exact {hs with own:=⟨h,⟨h1,h2,a1,r,d,e'⟩,hin⟩ })
theorem ax.o5{c:Code}{p:X1→X2→X3→X4→X5→Prop}{A:X1→X2→X3→X4→X5→List aa}(t:Take H C R)(e:C=DO p A)(k:∀ x1 x2 x3 x4 x5,p x1 x2 x3 x4 x5→ax P W N Q c L (A x1 x2 x3 x4 x5++R)):ax P W N Q c L H:=fun a w ha hs=>by
 rw[t.seps] at hs
 subst e
 obtain⟨h,⟨h1,h2,⟨x1,x2,x3,x4,x5,hp,a1⟩,r,d,e'⟩,hin⟩:=hs.own
 exact k x1 x2 x3 x4 x5 hp a w ha (by rw[ah];exact {hs with own:=⟨h,⟨h1,h2,a1,r,d,e'⟩,hin⟩ })
theorem ax.o6{c:Code}{p:X1→X2→X3→X4→X5→X6→Prop}{A:X1→X2→X3→X4→X5→X6→List aa}(t:Take H C R)(e:C=DP p A)(k:∀ x1 x2 x3 x4 x5 x6,p x1 x2 x3 x4 x5 x6→ax P W N Q c L (A x1 x2 x3 x4 x5 x6++R)):ax P W N Q c L H:=fun a w ha hs=>by
 rw[t.seps] at hs
 subst e
 obtain⟨h,⟨h1,h2,⟨x1,x2,x3,x4,x5,x6,hp,a1⟩,r,d,e'⟩,hin⟩:=hs.own
 exact k x1 x2 x3 x4 x5 x6 hp a w ha (by rw[ah];exact {hs with own:=⟨h,⟨h1,h2,a1,r,d,e'⟩,hin⟩ })
theorem ax.o7{c:Code}{p:X1→X2→X3→X4→X5→X6→X7→Prop}{A:X1→X2→X3→X4→X5→X6→X7→List aa}(t:Take H C R)(e:C=DQ p A)(k:∀ x1 x2 x3 x4 x5 x6 x7,p x1 x2 x3 x4 x5 x6 x7→ax P W N Q c L (A x1 x2 x3 x4 x5 x6 x7++R)):ax P W N Q c L H:=fun a w ha hs=>by
 rw[t.seps] at hs
 subst e
 obtain⟨h,⟨h1,h2,⟨x1,x2,x3,x4,x5,x6,x7,hp,a1⟩,r,d,e'⟩,hin⟩:=hs.own
 exact k x1 x2 x3 x4 x5 x6 x7 hp a w ha (by rw[ah];exact {hs with own:=⟨h,⟨h1,h2,a1,r,d,e'⟩,hin⟩ })
theorem ax.o8{c:Code}{p:X1→X2→X3→X4→X5→X6→X7→X8→Prop}{A:X1→X2→X3→X4→X5→X6→X7→X8→List aa}(t:Take H C R)(e:C=DR p A)(k:∀ x1 x2 x3 x4 x5 x6 x7 x8,p x1 x2 x3 x4 x5 x6 x7 x8→ax P W N Q c L (A x1 x2 x3 x4 x5 x6 x7 x8++R)):ax P W N Q c L H:=fun a w ha hs=>by
 rw[t.seps] at hs
 subst e
 obtain⟨h,⟨h1,h2,⟨x1,x2,x3,x4,x5,x6,x7,x8,hp,a1⟩,r,d,e'⟩,hin⟩:=hs.own
 exact k x1 x2 x3 x4 x5 x6 x7 x8 hp a w ha (by rw[ah];exact {hs with own:=⟨h,⟨h1,h2,a1,r,d,e'⟩,hin⟩ })
theorem ax.o9{c:Code}{p:X1→X2→X3→X4→X5→X6→X7→X8→X9→Prop}{A:X1→X2→X3→X4→X5→X6→X7→X8→X9→List aa}(t:Take H C R)(e:C=DS p A)(k:∀ x1 x2 x3 x4 x5 x6 x7 x8 x9,p x1 x2 x3 x4 x5 x6 x7 x8 x9→ax P W N Q c L (A x1 x2 x3 x4 x5 x6 x7 x8 x9++R)):ax P W N Q c L H:=fun a w ha hs=>by
 rw[t.seps] at hs
 subst e
 obtain⟨h,⟨h1,h2,⟨x1,x2,x3,x4,x5,x6,x7,x8,x9,hp,a1⟩,r,d,e'⟩,hin⟩:=hs.own
 exact k x1 x2 x3 x4 x5 x6 x7 x8 x9 hp a w ha (by rw[ah];exact {hs with own:=⟨h,⟨h1,h2,a1,r,d,e'⟩,hin⟩ })
theorem ax.jq{c:Code}{p:X1→X2→X3→X4→X5→X6→X7→X8→X9→X10→Prop}{A:X1→X2→X3→X4→X5→X6→X7→X8→X9→X10→List aa}(t:Take H C R)(e:C=tR p A)(k:∀ x1 x2 x3 x4 x5 x6 x7 x8 x9 x10,p x1 x2 x3 x4 x5 x6 x7 x8 x9 x10→ax P W N Q c L (A x1 x2 x3 x4 x5 x6 x7 x8 x9 x10++R)):ax P W N Q c L H:=fun a w ha hs=>by
 rw[t.seps] at hs
 subst e
 obtain⟨h,⟨h1,h2,⟨x1,x2,x3,x4,x5,x6,x7,x8,x9,x10,hp,a1⟩,r,d,e'⟩,hin⟩:=hs.own
 exact k x1 x2 x3 x4 x5 x6 x7 x8 x9 x10 hp a w ha (by rw[ah];exact {hs with own:=⟨h,⟨h1,h2,a1,r,d,e'⟩,hin⟩ })
theorem ax.Lz{c:Code}{p:X1→X2→X3→X4→X5→X6→X7→X8→X9→X10→X11→Prop}{A:X1→X2→X3→X4→X5→X6→X7→X8→X9→X10→X11→List aa}(t:Take H C R)(e:C=xl p A)(k:∀ x1 x2 x3 x4 x5 x6 x7 x8 x9 x10 x11,p x1 x2 x3 x4 x5 x6 x7 x8 x9 x10 x11→ax P W N Q c L (A x1 x2 x3 x4 x5 x6 x7 x8 x9 x10 x11++R)):ax P W N Q c L H:=fun a w ha hs=>by
 rw[t.seps] at hs
 subst e
 obtain⟨h,⟨h1,h2,⟨x1,x2,x3,x4,x5,x6,x7,x8,x9,x10,x11,hp,a1⟩,r,d,e'⟩,hin⟩:=hs.own
 exact k x1 x2 x3 x4 x5 x6 x7 x8 x9 x10 x11 hp a w ha (by rw[ah];exact {hs with own:=⟨h,⟨h1,h2,a1,r,d,e'⟩,hin⟩ })
theorem ax.LA{c:Code}{p:X1→X2→X3→X4→X5→X6→X7→X8→X9→X10→X11→X12→Prop}{A:X1→X2→X3→X4→X5→X6→X7→X8→X9→X10→X11→X12→List aa}(t:Take H C R)(e:C=xn p A)(k:∀ x1 x2 x3 x4 x5 x6 x7 x8 x9 x10 x11 x12,p x1 x2 x3 x4 x5 x6 x7 x8 x9 x10 x11 x12→ax P W N Q c L (A x1 x2 x3 x4 x5 x6 x7 x8 x9 x10 x11 x12++R)):ax P W N Q c L H:=fun a w ha hs=>by
 rw[t.seps] at hs
 subst e
 obtain⟨h,⟨h1,h2,⟨x1,x2,x3,x4,x5,x6,x7,x8,x9,x10,x11,x12,hp,a1⟩,r,d,e'⟩,hin⟩:=hs.own
 exact k x1 x2 x3 x4 x5 x6 x7 x8 x9 x10 x11 x12 hp a w ha (by rw[ah];exact {hs with own:=⟨h,⟨h1,h2,a1,r,d,e'⟩,hin⟩ })
theorem aQ.Lk{As:List aa}(t:aK H As R)(k:aQ P W N O Q ops L (As++R)):aQ P W N O Q ops L H:=fun a w ha hs=>k a w ha (t.sat hs)
theorem aQ.fY{As:List aa}(t:Take H (seps As) R)(k:aQ P W N O Q ops L (As++R)):aQ P W N O Q ops L H:=fun a w ha hs=>k a w ha (by rw[ah, ← t.seps];exact hs)
theorem aQ.o1{p:X1→Prop}{A:X1→List aa}(t:Take H C R)(e:C=ij p A)(k:∀ x1,p x1→aQ P W N O Q ops L (A x1++R)):aQ P W N O Q ops L H:=fun a w ha hs=>by
 rw[t.seps] at hs
 subst e
 obtain⟨h,⟨h1,h2,⟨x1,hp,a1⟩,r,d,e'⟩,hin⟩:=hs.own
 exact k x1 hp a w ha (by rw[ah];exact {hs with own:=⟨h,⟨h1,h2,a1,r,d,e'⟩,hin⟩ })
theorem aQ.o2{p:X1→X2→Prop}{A:X1→X2→List aa}(t:Take H C R)(e:C=rM p A)(k:∀ x1 x2,p x1 x2→aQ P W N O Q ops L (A x1 x2++R)):aQ P W N O Q ops L H:=fun a w ha hs=>by
 rw[t.seps] at hs
 subst e
 obtain⟨h,⟨h1,h2,⟨x1,x2,hp,a1⟩,r,d,e'⟩,hin⟩:=hs.own
 exact k x1 x2 hp a w ha (by rw[ah];exact {hs with own:=⟨h,⟨h1,h2,a1,r,d,e'⟩,hin⟩ })
theorem aQ.o3{p:X1→X2→X3→Prop}{A:X1→X2→X3→List aa}(t:Take H C R)(e:C=zi p A)(k:∀ x1 x2 x3,p x1 x2 x3→aQ P W N O Q ops L (A x1 x2 x3++R)):aQ P W N O Q ops L H:=fun a w ha hs=>by
 rw[t.seps] at hs
 subst e
 obtain⟨h,⟨h1,h2,⟨x1,x2,x3,hp,a1⟩,r,d,e'⟩,hin⟩:=hs.own
 exact k x1 x2 x3 hp a w ha (by rw[ah];exact {hs with own:=⟨h,⟨h1,h2,a1,r,d,e'⟩,hin⟩ })
theorem aQ.o4{p:X1→X2→X3→X4→Prop}{A:X1→X2→X3→X4→List aa}(t:Take H C R)(e:C=DN p A)(k:∀ x1 x2 x3 x4,p x1 x2 x3 x4→aQ P W N O Q ops L (A x1 x2 x3 x4++R)):aQ P W N O Q ops L H:=fun a w ha hs=>by
 rw[t.seps] at hs
 subst e
 obtain⟨h,⟨h1,h2,⟨x1,x2,x3,x4,hp,a1⟩,r,d,e'⟩,hin⟩:=hs.own
 exact k x1 x2 x3 x4 hp a w ha (by rw[ah];exact {hs with own:=⟨h,⟨h1,h2,a1,r,d,e'⟩,hin⟩ })
theorem aQ.o5{p:X1→X2→X3→X4→X5→Prop}{A:X1→X2→X3→X4→X5→List aa}(t:Take H C R)(e:C=DO p A)(k:∀ x1 x2 x3 x4 x5,p x1 x2 x3 x4 x5→aQ P W N O Q ops L (A x1 x2 x3 x4 x5++R)):aQ P W N O Q ops L H:=fun a w ha hs=>by
 rw[t.seps] at hs
 subst e
 obtain⟨h,⟨h1,h2,⟨x1,x2,x3,x4,x5,hp,a1⟩,r,d,e'⟩,hin⟩:=hs.own
 exact k x1 x2 x3 x4 x5 hp a w ha (by rw[ah];exact {hs with own:=⟨h,⟨h1,h2,a1,r,d,e'⟩,hin⟩ })
theorem aQ.o6{p:X1→X2→X3→X4→X5→X6→Prop}{A:X1→X2→X3→X4→X5→X6→List aa}(t:Take H C R)(e:C=DP p A)(k:∀ x1 x2 x3 x4 x5 x6,p x1 x2 x3 x4 x5 x6→aQ P W N O Q ops L (A x1 x2 x3 x4 x5 x6++R)):aQ P W N O Q ops L H:=fun a w ha hs=>by
 rw[t.seps] at hs
 subst e
 obtain⟨h,⟨h1,h2,⟨x1,x2,x3,x4,x5,x6,hp,a1⟩,r,d,e'⟩,hin⟩:=hs.own
 exact k x1 x2 x3 x4 x5 x6 hp a w ha (by rw[ah];exact {hs with own:=⟨h,⟨h1,h2,a1,r,d,e'⟩,hin⟩ })
theorem aQ.o7{p:X1→X2→X3→X4→X5→X6→X7→Prop}{A:X1→X2→X3→X4→X5→X6→X7→List aa}(t:Take H C R)(e:C=DQ p A)(k:∀ x1 x2 x3 x4 x5 x6 x7,p x1 x2 x3 x4 x5 x6 x7→aQ P W N O Q ops L (A x1 x2 x3 x4 x5 x6 x7++R)):aQ P W N O Q ops L H:=fun a w ha hs=>by
 rw[t.seps] at hs
 subst e
 obtain⟨h,⟨h1,h2,⟨x1,x2,x3,x4,x5,x6,x7,hp,a1⟩,r,d,e'⟩,hin⟩:=hs.own
 exact k x1 x2 x3 x4 x5 x6 x7 hp a w ha (by rw[ah];exact {hs with own:=⟨h,⟨h1,h2,a1,r,d,e'⟩,hin⟩ })
theorem aQ.o8{p:X1→X2→X3→X4→X5→X6→X7→X8→Prop}{A:X1→X2→X3→X4→X5→X6→X7→X8→List aa}(t:Take H C R)(e:C=DR p A)(k:∀ x1 x2 x3 x4 x5 x6 x7 x8,p x1 x2 x3 x4 x5 x6 x7 x8→aQ P W N O Q ops L (A x1 x2 x3 x4 x5 x6 x7 x8++R)):aQ P W N O Q ops L H:=fun a w ha hs=>by
 rw[t.seps] at hs
 subst e
 obtain⟨h,⟨h1,h2,⟨x1,x2,x3,x4,x5,x6,x7,x8,hp,a1⟩,r,d,e'⟩,hin⟩:=hs.own
 exact k x1 x2 x3 x4 x5 x6 x7 x8 hp a w ha (by rw[ah];exact {hs with own:=⟨h,⟨h1,h2,a1,r,d,e'⟩,hin⟩ })
theorem aQ.o9{p:X1→X2→X3→X4→X5→X6→X7→X8→X9→Prop}{A:X1→X2→X3→X4→X5→X6→X7→X8→X9→List aa}(t:Take H C R)(e:C=DS p A)(k:∀ x1 x2 x3 x4 x5 x6 x7 x8 x9,p x1 x2 x3 x4 x5 x6 x7 x8 x9→aQ P W N O Q ops L (A x1 x2 x3 x4 x5 x6 x7 x8 x9++R)):aQ P W N O Q ops L H:=fun a w ha hs=>by
 rw[t.seps] at hs
 subst e
 obtain⟨h,⟨h1,h2,⟨x1,x2,x3,x4,x5,x6,x7,x8,x9,hp,a1⟩,r,d,e'⟩,hin⟩:=hs.own
 exact k x1 x2 x3 x4 x5 x6 x7 x8 x9 hp a w ha (by rw[ah];exact {hs with own:=⟨h,⟨h1,h2,a1,r,d,e'⟩,hin⟩ })
theorem aQ.jq{p:X1→X2→X3→X4→X5→X6→X7→X8→X9→X10→Prop}{A:X1→X2→X3→X4→X5→X6→X7→X8→X9→X10→List aa}(t:Take H C R)(e:C=tR p A)(k:∀ x1 x2 x3 x4 x5 x6 x7 x8 x9 x10,p x1 x2 x3 x4 x5 x6 x7 x8 x9 x10→aQ P W N O Q ops L (A x1 x2 x3 x4 x5 x6 x7 x8 x9 x10++R)):aQ P W N O Q ops L H:=fun a w ha hs=>by
 rw[t.seps] at hs
 subst e
 obtain⟨h,⟨h1,h2,⟨x1,x2,x3,x4,x5,x6,x7,x8,x9,x10,hp,a1⟩,r,d,e'⟩,hin⟩:=hs.own
 exact k x1 x2 x3 x4 x5 x6 x7 x8 x9 x10 hp a w ha (by rw[ah];exact {hs with own:=⟨h,⟨h1,h2,a1,r,d,e'⟩,hin⟩ })
theorem aQ.Lz{p:X1→X2→X3→X4→X5→X6→X7→X8→X9→X10→X11→Prop}{A:X1→X2→X3→X4→X5→X6→X7→X8→X9→X10→X11→List aa}(t:Take H C R)(e:C=xl p A)(k:∀ x1 x2 x3 x4 x5 x6 x7 x8 x9 x10 x11,p x1 x2 x3 x4 x5 x6 x7 x8 x9 x10 x11→aQ P W N O Q ops L (A x1 x2 x3 x4 x5 x6 x7 x8 x9 x10 x11++R)):aQ P W N O Q ops L H:=fun a w ha hs=>by
 rw[t.seps] at hs
 subst e
 obtain⟨h,⟨h1,h2,⟨x1,x2,x3,x4,x5,x6,x7,x8,x9,x10,x11,hp,a1⟩,r,d,e'⟩,hin⟩:=hs.own
 exact k x1 x2 x3 x4 x5 x6 x7 x8 x9 x10 x11 hp a w ha (by rw[ah];exact {hs with own:=⟨h,⟨h1,h2,a1,r,d,e'⟩,hin⟩ })
theorem aQ.LA{p:X1→X2→X3→X4→X5→X6→X7→X8→X9→X10→X11→X12→Prop}{A:X1→X2→X3→X4→X5→X6→X7→X8→X9→X10→X11→X12→List aa}(t:Take H C R)(e:C=xn p A)(k:∀ x1 x2 x3 x4 x5 x6 x7 x8 x9 x10 x11 x12,p x1 x2 x3 x4 x5 x6 x7 x8 x9 x10 x11 x12→aQ P W N O Q ops L (A x1 x2 x3 x4 x5 x6 x7 x8 x9 x10 x11 x12++R)):aQ P W N O Q ops L H:=fun a w ha hs=>by
 rw[t.seps] at hs
 subst e
 obtain⟨h,⟨h1,h2,⟨x1,x2,x3,x4,x5,x6,x7,x8,x9,x10,x11,x12,hp,a1⟩,r,d,e'⟩,hin⟩:=hs.own
 exact k x1 x2 x3 x4 x5 x6 x7 x8 x9 x10 x11 x12 hp a w ha (by rw[ah];exact {hs with own:=⟨h,⟨h1,h2,a1,r,d,e'⟩,hin⟩ })
theorem bu.Lk{As:List aa}(t:aK H As R)(k:bu P W N K O Q ks ops L (As++R)):bu P W N K O Q ks ops L H:=fun a w ha hs=>k a w ha (t.sat hs)
theorem bu.fY{As:List aa}(t:Take H (seps As) R)(k:bu P W N K O Q ks ops L (As++R)):bu P W N K O Q ks ops L H:=fun a w ha hs=>k a w ha (by rw[ah, ← t.seps];exact hs)
theorem bu.o1{p:X1→Prop}{A:X1→List aa}(t:Take H C R)(e:C=ij p A)(k:∀ x1,p x1→bu P W N K O Q ks ops L (A x1++R)):bu P W N K O Q ks ops L H:=fun a w ha hs=>by
 rw[t.seps] at hs
 subst e
 obtain⟨h,⟨h1,h2,⟨x1,hp,a1⟩,r,d,e'⟩,hin⟩:=hs.own
 exact k x1 hp a w ha (by rw[ah];exact {hs with own:=⟨h,⟨h1,h2,a1,r,d,e'⟩,hin⟩ })
theorem bu.o2{p:X1→X2→Prop}{A:X1→X2→List aa}(t:Take H C R)(e:C=rM p A)(k:∀ x1 x2,p x1 x2→bu P W N K O Q ks ops L (A x1 x2++R)):bu P W N K O Q ks ops L H:=fun a w ha hs=>by
 rw[t.seps] at hs
 subst e
 obtain⟨h,⟨h1,h2,⟨x1,x2,hp,a1⟩,r,d,e'⟩,hin⟩:=hs.own
 exact k x1 x2 hp a w ha (by rw[ah];exact {hs with own:=⟨h,⟨h1,h2,a1,r,d,e'⟩,hin⟩ })
theorem bu.o3{p:X1→X2→X3→Prop}{A:X1→X2→X3→List aa}(t:Take H C R)(e:C=zi p A)(k:∀ x1 x2 x3,p x1 x2 x3→bu P W N K O Q ks ops L (A x1 x2 x3++R)):bu P W N K O Q ks ops L H:=fun a w ha hs=>by
 rw[t.seps] at hs
 subst e
 obtain⟨h,⟨h1,h2,⟨x1,x2,x3,hp,a1⟩,r,d,e'⟩,hin⟩:=hs.own
 exact k x1 x2 x3 hp a w ha (by rw[ah];exact {hs with own:=⟨h,⟨h1,h2,a1,r,d,e'⟩,hin⟩ })
theorem bu.o4{p:X1→X2→X3→X4→Prop}{A:X1→X2→X3→X4→List aa}(t:Take H C R)(e:C=DN p A)(k:∀ x1 x2 x3 x4,p x1 x2 x3 x4→bu P W N K O Q ks ops L (A x1 x2 x3 x4++R)):bu P W N K O Q ks ops L H:=fun a w ha hs=>by
 rw[t.seps] at hs
 subst e
 obtain⟨h,⟨h1,h2,⟨x1,x2,x3,x4,hp,a1⟩,r,d,e'⟩,hin⟩:=hs.own
 exact k x1 x2 x3 x4 hp a w ha (by rw[ah];exact {hs with own:=⟨h,⟨h1,h2,a1,r,d,e'⟩,hin⟩ })
theorem bu.o5{p:X1→X2→X3→X4→X5→Prop}{A:X1→X2→X3→X4→X5→List aa}(t:Take H C R)(e:C=DO p A)(k:∀ x1 x2 x3 x4 x5,p x1 x2 x3 x4 x5→bu P W N K O Q ks ops L (A x1 x2 x3 x4 x5++R)):bu P W N K O Q ks ops L H:=fun a w ha hs=>by
 rw[t.seps] at hs
 subst e
 obtain⟨h,⟨h1,h2,⟨x1,x2,x3,x4,x5,hp,a1⟩,r,d,e'⟩,hin⟩:=hs.own
 exact k x1 x2 x3 x4 x5 hp a w ha (by rw[ah];exact {hs with own:=⟨h,⟨h1,h2,a1,r,d,e'⟩,hin⟩ })
theorem bu.o6{p:X1→X2→X3→X4→X5→X6→Prop}{A:X1→X2→X3→X4→X5→X6→List aa}(t:Take H C R)(e:C=DP p A)(k:∀ x1 x2 x3 x4 x5 x6,p x1 x2 x3 x4 x5 x6→bu P W N K O Q ks ops L (A x1 x2 x3 x4 x5 x6++R)):bu P W N K O Q ks ops L H:=fun a w ha hs=>by
 rw[t.seps] at hs
 subst e
 obtain⟨h,⟨h1,h2,⟨x1,x2,x3,x4,x5,x6,hp,a1⟩,r,d,e'⟩,hin⟩:=hs.own
 exact k x1 x2 x3 x4 x5 x6 hp a w ha (by rw[ah];exact {hs with own:=⟨h,⟨h1,h2,a1,r,d,e'⟩,hin⟩ })
theorem bu.o7{p:X1→X2→X3→X4→X5→X6→X7→Prop}{A:X1→X2→X3→X4→X5→X6→X7→List aa}(t:Take H C R)(e:C=DQ p A)(k:∀ x1 x2 x3 x4 x5 x6 x7,p x1 x2 x3 x4 x5 x6 x7→bu P W N K O Q ks ops L (A x1 x2 x3 x4 x5 x6 x7++R)):bu P W N K O Q ks ops L H:=fun a w ha hs=>by
 rw[t.seps] at hs
 subst e
 obtain⟨h,⟨h1,h2,⟨x1,x2,x3,x4,x5,x6,x7,hp,a1⟩,r,d,e'⟩,hin⟩:=hs.own
 exact k x1 x2 x3 x4 x5 x6 x7 hp a w ha (by rw[ah];exact {hs with own:=⟨h,⟨h1,h2,a1,r,d,e'⟩,hin⟩ })
theorem bu.o8{p:X1→X2→X3→X4→X5→X6→X7→X8→Prop}{A:X1→X2→X3→X4→X5→X6→X7→X8→List aa}(t:Take H C R)(e:C=DR p A)(k:∀ x1 x2 x3 x4 x5 x6 x7 x8,p x1 x2 x3 x4 x5 x6 x7 x8→bu P W N K O Q ks ops L (A x1 x2 x3 x4 x5 x6 x7 x8++R)):bu P W N K O Q ks ops L H:=fun a w ha hs=>by
 rw[t.seps] at hs
 subst e
 obtain⟨h,⟨h1,h2,⟨x1,x2,x3,x4,x5,x6,x7,x8,hp,a1⟩,r,d,e'⟩,hin⟩:=hs.own
 exact k x1 x2 x3 x4 x5 x6 x7 x8 hp a w ha (by rw[ah];exact {hs with own:=⟨h,⟨h1,h2,a1,r,d,e'⟩,hin⟩ })
theorem bu.o9{p:X1→X2→X3→X4→X5→X6→X7→X8→X9→Prop}{A:X1→X2→X3→X4→X5→X6→X7→X8→X9→List aa}(t:Take H C R)(e:C=DS p A)(k:∀ x1 x2 x3 x4 x5 x6 x7 x8 x9,p x1 x2 x3 x4 x5 x6 x7 x8 x9→bu P W N K O Q ks ops L (A x1 x2 x3 x4 x5 x6 x7 x8 x9++R)):bu P W N K O Q ks ops L H:=fun a w ha hs=>by
 rw[t.seps] at hs
 subst e
 obtain⟨h,⟨h1,h2,⟨x1,x2,x3,x4,x5,x6,x7,x8,x9,hp,a1⟩,r,d,e'⟩,hin⟩:=hs.own
 exact k x1 x2 x3 x4 x5 x6 x7 x8 x9 hp a w ha (by rw[ah];exact {hs with own:=⟨h,⟨h1,h2,a1,r,d,e'⟩,hin⟩ })
theorem bu.jq{p:X1→X2→X3→X4→X5→X6→X7→X8→X9→X10→Prop}{A:X1→X2→X3→X4→X5→X6→X7→X8→X9→X10→List aa}(t:Take H C R)(e:C=tR p A)(k:∀ x1 x2 x3 x4 x5 x6 x7 x8 x9 x10,p x1 x2 x3 x4 x5 x6 x7 x8 x9 x10→bu P W N K O Q ks ops L (A x1 x2 x3 x4 x5 x6 x7 x8 x9 x10++R)):bu P W N K O Q ks ops L H:=fun a w ha hs=>by
 rw[t.seps] at hs
 subst e
 obtain⟨h,⟨h1,h2,⟨x1,x2,x3,x4,x5,x6,x7,x8,x9,x10,hp,a1⟩,r,d,e'⟩,hin⟩:=hs.own
 exact k x1 x2 x3 x4 x5 x6 x7 x8 x9 x10 hp a w ha (by rw[ah];exact {hs with own:=⟨h,⟨h1,h2,a1,r,d,e'⟩,hin⟩ })
theorem bu.Lz{p:X1→X2→X3→X4→X5→X6→X7→X8→X9→X10→X11→Prop}{A:X1→X2→X3→X4→X5→X6→X7→X8→X9→X10→X11→List aa}(t:Take H C R)(e:C=xl p A)(k:∀ x1 x2 x3 x4 x5 x6 x7 x8 x9 x10 x11,p x1 x2 x3 x4 x5 x6 x7 x8 x9 x10 x11→bu P W N K O Q ks ops L (A x1 x2 x3 x4 x5 x6 x7 x8 x9 x10 x11++R)):bu P W N K O Q ks ops L H:=fun a w ha hs=>by
 rw[t.seps] at hs
 subst e
 obtain⟨h,⟨h1,h2,⟨x1,x2,x3,x4,x5,x6,x7,x8,x9,x10,x11,hp,a1⟩,r,d,e'⟩,hin⟩:=hs.own
 exact k x1 x2 x3 x4 x5 x6 x7 x8 x9 x10 x11 hp a w ha (by rw[ah];exact {hs with own:=⟨h,⟨h1,h2,a1,r,d,e'⟩,hin⟩ })
theorem bu.LA{p:X1→X2→X3→X4→X5→X6→X7→X8→X9→X10→X11→X12→Prop}{A:X1→X2→X3→X4→X5→X6→X7→X8→X9→X10→X11→X12→List aa}(t:Take H C R)(e:C=xn p A)(k:∀ x1 x2 x3 x4 x5 x6 x7 x8 x9 x10 x11 x12,p x1 x2 x3 x4 x5 x6 x7 x8 x9 x10 x11 x12→bu P W N K O Q ks ops L (A x1 x2 x3 x4 x5 x6 x7 x8 x9 x10 x11 x12++R)):bu P W N K O Q ks ops L H:=fun a w ha hs=>by
 rw[t.seps] at hs
 subst e
 obtain⟨h,⟨h1,h2,⟨x1,x2,x3,x4,x5,x6,x7,x8,x9,x10,x11,x12,hp,a1⟩,r,d,e'⟩,hin⟩:=hs.own
 exact k x1 x2 x3 x4 x5 x6 x7 x8 x9 x10 x11 x12 hp a w ha (by rw[ah];exact {hs with own:=⟨h,⟨h1,h2,a1,r,d,e'⟩,hin⟩ })
theorem cj.Lk{en:Exit}{As:List aa}(t:aK H As R)(k:cj W N Q en L (As++R)):cj W N Q en L H:=fun a w ha hs=>k a w ha (t.sat hs)
theorem cj.fY{en:Exit}{As:List aa}(t:Take H (seps As) R)(k:cj W N Q en L (As++R)):cj W N Q en L H:=fun a w ha hs=>k a w ha (by rw[ah, ← t.seps];exact hs)
theorem cj.o1{en:Exit}{p:X1→Prop}{A:X1→List aa}(t:Take H C R)(e:C=ij p A)(k:∀ x1,p x1→cj W N Q en L (A x1++R)):cj W N Q en L H:=fun a w ha hs=>by
 rw[t.seps] at hs
 subst e
 obtain⟨h,⟨h1,h2,⟨x1,hp,a1⟩,r,d,e'⟩,hin⟩:=hs.own
 exact k x1 hp a w ha (by rw[ah];exact {hs with own:=⟨h,⟨h1,h2,a1,r,d,e'⟩,hin⟩ })
theorem cj.o2{en:Exit}{p:X1→X2→Prop}{A:X1→X2→List aa}(t:Take H C R)(e:C=rM p A)(k:∀ x1 x2,p x1 x2→cj W N Q en L (A x1 x2++R)):cj W N Q en L H:=fun a w ha hs=>by
 rw[t.seps] at hs
 subst e
 obtain⟨h,⟨h1,h2,⟨x1,x2,hp,a1⟩,r,d,e'⟩,hin⟩:=hs.own
 exact k x1 x2 hp a w ha (by rw[ah];exact {hs with own:=⟨h,⟨h1,h2,a1,r,d,e'⟩,hin⟩ })
theorem cj.o3{en:Exit}{p:X1→X2→X3→Prop}{A:X1→X2→X3→List aa}(t:Take H C R)(e:C=zi p A)(k:∀ x1 x2 x3,p x1 x2 x3→cj W N Q en L (A x1 x2 x3++R)):cj W N Q en L H:=fun a w ha hs=>by
 rw[t.seps] at hs
 subst e
 obtain⟨h,⟨h1,h2,⟨x1,x2,x3,hp,a1⟩,r,d,e'⟩,hin⟩:=hs.own
 exact k x1 x2 x3 hp a w ha (by rw[ah];exact {hs with own:=⟨h,⟨h1,h2,a1,r,d,e'⟩,hin⟩ })
theorem cj.o4{en:Exit}{p:X1→X2→X3→X4→Prop}{A:X1→X2→X3→X4→List aa}(t:Take H C R)(e:C=DN p A)(k:∀ x1 x2 x3 x4,p x1 x2 x3 x4→cj W N Q en L (A x1 x2 x3 x4++R)):cj W N Q en L H:=fun a w ha hs=>by
 rw[t.seps] at hs
 subst e
 obtain⟨h,⟨h1,h2,⟨x1,x2,x3,x4,hp,a1⟩,r,d,e'⟩,hin⟩:=hs.own
 exact k x1 x2 x3 x4 hp a w ha (by rw[ah];exact {hs with own:=⟨h,⟨h1,h2,a1,r,d,e'⟩,hin⟩ })
theorem cj.o5{en:Exit}{p:X1→X2→X3→X4→X5→Prop}{A:X1→X2→X3→X4→X5→List aa}(t:Take H C R)(e:C=DO p A)(k:∀ x1 x2 x3 x4 x5,p x1 x2 x3 x4 x5→cj W N Q en L (A x1 x2 x3 x4 x5++R)):cj W N Q en L H:=fun a w ha hs=>by
 rw[t.seps] at hs
 subst e
 obtain⟨h,⟨h1,h2,⟨x1,x2,x3,x4,x5,hp,a1⟩,r,d,e'⟩,hin⟩:=hs.own
 exact k x1 x2 x3 x4 x5 hp a w ha (by rw[ah];exact {hs with own:=⟨h,⟨h1,h2,a1,r,d,e'⟩,hin⟩ })
theorem cj.o6{en:Exit}{p:X1→X2→X3→X4→X5→X6→Prop}{A:X1→X2→X3→X4→X5→X6→List aa}(t:Take H C R)(e:C=DP p A)(k:∀ x1 x2 x3 x4 x5 x6,p x1 x2 x3 x4 x5 x6→cj W N Q en L (A x1 x2 x3 x4 x5 x6++R)):cj W N Q en L H:=fun a w ha hs=>by
 rw[t.seps] at hs
 subst e
 obtain⟨h,⟨h1,h2,⟨x1,x2,x3,x4,x5,x6,hp,a1⟩,r,d,e'⟩,hin⟩:=hs.own
 exact k x1 x2 x3 x4 x5 x6 hp a w ha (by rw[ah];exact {hs with own:=⟨h,⟨h1,h2,a1,r,d,e'⟩,hin⟩ })
theorem cj.o7{en:Exit}{p:X1→X2→X3→X4→X5→X6→X7→Prop}{A:X1→X2→X3→X4→X5→X6→X7→List aa}(t:Take H C R)(e:C=DQ p A)(k:∀ x1 x2 x3 x4 x5 x6 x7,p x1 x2 x3 x4 x5 x6 x7→cj W N Q en L (A x1 x2 x3 x4 x5 x6 x7++R)):cj W N Q en L H:=fun a w ha hs=>by
 rw[t.seps] at hs
 subst e
 obtain⟨h,⟨h1,h2,⟨x1,x2,x3,x4,x5,x6,x7,hp,a1⟩,r,d,e'⟩,hin⟩:=hs.own
 exact k x1 x2 x3 x4 x5 x6 x7 hp a w ha (by rw[ah];exact {hs with own:=⟨h,⟨h1,h2,a1,r,d,e'⟩,hin⟩ })
theorem cj.o8{en:Exit}{p:X1→X2→X3→X4→X5→X6→X7→X8→Prop}{A:X1→X2→X3→X4→X5→X6→X7→X8→List aa}(t:Take H C R)(e:C=DR p A)(k:∀ x1 x2 x3 x4 x5 x6 x7 x8,p x1 x2 x3 x4 x5 x6 x7 x8→cj W N Q en L (A x1 x2 x3 x4 x5 x6 x7 x8++R)):cj W N Q en L H:=fun a w ha hs=>by
 rw[t.seps] at hs
 subst e
 obtain⟨h,⟨h1,h2,⟨x1,x2,x3,x4,x5,x6,x7,x8,hp,a1⟩,r,d,e'⟩,hin⟩:=hs.own
 exact k x1 x2 x3 x4 x5 x6 x7 x8 hp a w ha (by rw[ah];exact {hs with own:=⟨h,⟨h1,h2,a1,r,d,e'⟩,hin⟩ })
theorem cj.o9{en:Exit}{p:X1→X2→X3→X4→X5→X6→X7→X8→X9→Prop}{A:X1→X2→X3→X4→X5→X6→X7→X8→X9→List aa}(t:Take H C R)(e:C=DS p A)(k:∀ x1 x2 x3 x4 x5 x6 x7 x8 x9,p x1 x2 x3 x4 x5 x6 x7 x8 x9→cj W N Q en L (A x1 x2 x3 x4 x5 x6 x7 x8 x9++R)):cj W N Q en L H:=fun a w ha hs=>by
 rw[t.seps] at hs
 subst e
 obtain⟨h,⟨h1,h2,⟨x1,x2,x3,x4,x5,x6,x7,x8,x9,hp,a1⟩,r,d,e'⟩,hin⟩:=hs.own
 exact k x1 x2 x3 x4 x5 x6 x7 x8 x9 hp a w ha (by rw[ah];exact {hs with own:=⟨h,⟨h1,h2,a1,r,d,e'⟩,hin⟩ })
theorem cj.jq{en:Exit}{p:X1→X2→X3→X4→X5→X6→X7→X8→X9→X10→Prop}{A:X1→X2→X3→X4→X5→X6→X7→X8→X9→X10→List aa}(t:Take H C R)(e:C=tR p A)(k:∀ x1 x2 x3 x4 x5 x6 x7 x8 x9 x10,p x1 x2 x3 x4 x5 x6 x7 x8 x9 x10→cj W N Q en L (A x1 x2 x3 x4 x5 x6 x7 x8 x9 x10++R)):cj W N Q en L H:=fun a w ha hs=>by
 rw[t.seps] at hs
 subst e
 obtain⟨h,⟨h1,h2,⟨x1,x2,x3,x4,x5,x6,x7,x8,x9,x10,hp,a1⟩,r,d,e'⟩,hin⟩:=hs.own
 exact k x1 x2 x3 x4 x5 x6 x7 x8 x9 x10 hp a w ha (by rw[ah];exact {hs with own:=⟨h,⟨h1,h2,a1,r,d,e'⟩,hin⟩ })
theorem cj.Lz{en:Exit}{p:X1→X2→X3→X4→X5→X6→X7→X8→X9→X10→X11→Prop}{A:X1→X2→X3→X4→X5→X6→X7→X8→X9→X10→X11→List aa}(t:Take H C R)(e:C=xl p A)(k:∀ x1 x2 x3 x4 x5 x6 x7 x8 x9 x10 x11,p x1 x2 x3 x4 x5 x6 x7 x8 x9 x10 x11→cj W N Q en L (A x1 x2 x3 x4 x5 x6 x7 x8 x9 x10 x11++R)):cj W N Q en L H:=fun a w ha hs=>by
 rw[t.seps] at hs
 subst e
 obtain⟨h,⟨h1,h2,⟨x1,x2,x3,x4,x5,x6,x7,x8,x9,x10,x11,hp,a1⟩,r,d,e'⟩,hin⟩:=hs.own
 exact k x1 x2 x3 x4 x5 x6 x7 x8 x9 x10 x11 hp a w ha (by rw[ah];exact {hs with own:=⟨h,⟨h1,h2,a1,r,d,e'⟩,hin⟩ })
theorem cj.LA{en:Exit}{p:X1→X2→X3→X4→X5→X6→X7→X8→X9→X10→X11→X12→Prop}{A:X1→X2→X3→X4→X5→X6→X7→X8→X9→X10→X11→X12→List aa}(t:Take H C R)(e:C=xn p A)(k:∀ x1 x2 x3 x4 x5 x6 x7 x8 x9 x10 x11 x12,p x1 x2 x3 x4 x5 x6 x7 x8 x9 x10 x11 x12→cj W N Q en L (A x1 x2 x3 x4 x5 x6 x7 x8 x9 x10 x11 x12++R)):cj W N Q en L H:=fun a w ha hs=>by
 rw[t.seps] at hs
 subst e
 obtain⟨h,⟨h1,h2,⟨x1,x2,x3,x4,x5,x6,x7,x8,x9,x10,x11,x12,hp,a1⟩,r,d,e'⟩,hin⟩:=hs.own
 exact k x1 x2 x3 x4 x5 x6 x7 x8 x9 x10 x11 x12 hp a w ha (by rw[ah];exact {hs with own:=⟨h,⟨h1,h2,a1,r,d,e'⟩,hin⟩ })
end
end Go.SLYtefdijgllbkmfaaGreat
namespace Go.SLYtefdijgllbkmfaaGreat
def cE{α:Type}(l:List α)(i:Int):Option α:=if i<0 then none else l[i.toNat]?
def pick(k:Int)(n:Nat):Nat:=((k.tmod n+n).tmod n).toNat
structure Ins where
 op:Int
 a:Int
 b:Int
 c:Int
 n:Int
deriving DecidableEq
def Ins.z:Ins:=⟨0,0,0,0,0⟩
structure eZ where
 funcs:List (List Ins)
 words:Int
 aB:Int
 conds:Int
 aU:List Int
 aG:List Int
 blocks:Int
 prio:Int
/-! instructions -/
def cls(op:Int):Int:=if 1≤op∧op≤19 then 1 else if 20≤op∧op≤32 then 2 else if 33≤op∧op≤38 then 3 else 0
def lM(n:Int)(b:Bool):Bool:=decide (n=0) || (b && decide (0<n) && decide (n<8))
structure Form where
 aq:Int
 mutex:Bool
 n:Int
 any:Bool
def aR(p:eZ)(op:Int):Form :=
 if op=1 then ⟨1,false,0,true⟩
 else if op=2∨op=14∨op=15∨op=18∨op=19∨op=21∨op=33∨op=34 then ⟨2,false, -1,false⟩
 else if op=16 then ⟨0,false,257,false⟩
 else if op=17 then ⟨1,false,257,false⟩
 else if op=20 then ⟨2,false,p.funcs.length,false⟩
 else if op=22∨op=23∨op=32∨op=37∨op=38 then ⟨1,false, -1,false⟩
 else if op=24 then ⟨0,false, -1,false⟩
 else if op=25∨op=26 then ⟨0,false,p.aB,false⟩
 else if op=27 then ⟨0,true,p.conds,false⟩
 else if op=28∨op=29 then ⟨0,false,p.conds,false⟩
 else if op=30∨op=31 then ⟨0,false,p.aU.length,false⟩
 else if op=35∨op=36 then ⟨1,false,p.aG.length,false⟩
 else ⟨3,false, -1,false⟩
def Form.below(f:Form)(n:Int):Bool :=
 if f.any=true then true else if f.n = -1 then decide (n=0) else decide (0<f.n) && decide (n<f.n)
def ez(p:eZ)(i:Ins):Bool :=
 if cls i.op=0 then false else
  let f:=aR p i.op
  lM i.a (decide (0<f.aq)) && lM i.b (decide (1<f.aq)) && (if f.mutex=true then decide (0≤i.c) && decide (i.c<p.aB) else lM i.c (decide (2<f.aq))) && f.below i.n
def within(n most:Int):Bool:=decide (0≤n) && decide (n≤most)
def eg(p:eZ):Bool :=
 decide (0<p.funcs.length) && decide (p.funcs.length≤8) && within p.words 64 && within p.aB 4 && within p.conds 4 && within p.blocks 64 && within p.prio 7 && decide (p.aU.length≤4) && decide (p.aG.length≤4) &&
  p.funcs.all (fun f=>decide (f.length≤256)) && p.aU.all (fun n=>within n 1048576) && p.aG.all (fun n=>decide (0<n) && within n 8)
def dD(p:eZ):Int:=if eg p=true then (if p.funcs.all (fun f=>f.all (ez p))=true then 0 else 8) else 9
/-! slots -/
def dq(taken:Int)(n:Nat):Int:=taken * 65536+n+1
def slotFree?:List (Bool×Int)→Nat→Option Nat
 | [],_=>none
 | o::l,k=>if o.1=true then slotFree? l (k+1) else some k
def bm(l:List (Bool×Int))(h:Int):Option Nat :=
 if h % 65536=0 then none else
  match l[(h % 65536-1).toNat]? with
  | none=>none
  | some o=>if o.1=true∧dq o.2 (h % 65536-1).toNat=h then some (h % 65536-1).toNat else none
def slotFreed(l:List (Bool×Int))(h:Int):List (Bool×Int) :=
 match bm l h with
 | none=>l
 | some n=>l.set n (false,(l.getD n (false,0)).2)
/-! gates -/
structure dh where
 who:Int
 mutex:Int
deriving DecidableEq
structure dB where
 wait:List dh
 held:Bool
 owner:Int
structure jr where
 wait:List dh
 count:Int
structure Gates where
 aF:List dB
 bn:List (List dh)
 cf:List jr
def lB(l:List dh)(who:Int):Bool:=l.any fun w=>decide (w.who=who)
def aJ(l:List dh)(choice:Int):dh×Bool×List dh :=
 if l.length=0 then (⟨0,0⟩,false,l) else (l.getD (pick choice l.length) ⟨0,0⟩,true,l.eraseIdx (pick choice l.length))
def Gates.waits(g:Gates)(who:Int):Bool:=g.aF.any (fun m=>lB m.wait who) || g.bn.any (fun r=>lB r who) || g.cf.any (fun s=>lB s.wait who)
def dB.is(m:dB)(who:Int):Bool:=m.held && decide (m.owner=who)
def dB.lock(m:dB)(who:Int):Bool×dB:=if m.held=true then (false,{m with wait:=m.wait++[⟨who,0⟩] }) else (true,{m with held:=true,owner:=who })
def dB.unlock(m:dB)(choice:Int):Int×Bool×dB:=((aJ m.wait choice).1.who,(aJ m.wait choice).2.1,⟨(aJ m.wait choice).2.2,(aJ m.wait choice).2.1,(aJ m.wait choice).1.who⟩)
def Gates.lock(g:Gates)(who m:Int):Bool×Int×Gates :=
 match cE g.aF m with
 | none=>(false,1,g)
 | some x=>if g.waits who=true∨x.is who=true then (false,4,g) else ((x.lock who).1,0,{g with aF:=g.aF.set m.toNat (x.lock who).2 })
def Gates.unlock(g:Gates)(who m choice:Int):Int×Bool×Int×Gates :=
 match cE g.aF m with
 | none=>(0,false,1,g)
 | some x=>if x.is who=true then ((x.unlock choice).1,(x.unlock choice).2.1,0,{g with aF:=g.aF.set m.toNat (x.unlock choice).2.2 }) else (0,false,5,g)
def Gates.wait(g:Gates)(who c m choice:Int):Int×Bool×Int×Gates :=
 match cE g.aF m,cE g.bn c with
 | some x,some r =>
  if g.waits who=true then (0,false,4,g) else
  if x.is who=true then ((x.unlock choice).1,(x.unlock choice).2.1,0,{g with aF:=g.aF.set m.toNat (x.unlock choice).2.2,bn:=g.bn.set c.toNat (r++[⟨who,m⟩]) }) else (0,false,5,g)
 | _,_=>(0,false,1,g)
def sigLoop:Nat→Int→List dh→List dB→List Int→List dh×List dB×List Int
 | 0,_,r,ms,out=>(r,ms,out)
 | n+1,choice,r,ms,out =>
  let w:=(aJ r choice).1
  let l:=(ms.getD w.mutex.toNat ⟨[],false,0⟩).lock w.who
  sigLoop n choice (aJ r choice).2.2 (ms.set w.mutex.toNat l.2) (if l.1=true then out++[w.who] else out)
def Gates.signal(g:Gates)(c choice:Int)(all:Bool):List Int×Int×Gates :=
 match cE g.bn c with
 | none=>([],1,g)
 | some r =>
  let z:=sigLoop (if all=true then r.length else min r.length 1) (if all=true then 0 else choice) r g.aF []
  (z.2.2,0,{g with aF:=z.2.1,bn:=g.bn.set c.toNat z.1 })
def Gates.down(g:Gates)(who s:Int):Bool×Int×Gates :=
 match cE g.cf s with
 | none=>(false,1,g)
 | some x =>
  if g.waits who=true then (false,4,g) else
  if 0<x.count then (true,0,{g with cf:=g.cf.set s.toNat {x with count:=x.count-1 } }) else (false,0,{g with cf:=g.cf.set s.toNat {x with wait:=x.wait++[⟨who,0⟩] } })
def Gates.up(g:Gates)(s choice:Int):Int×Bool×Int×Gates :=
 match cE g.cf s with
 | none=>(0,false,1,g)
 | some x =>
  if (aJ x.wait choice).2.1=true then ((aJ x.wait choice).1.who,true,0,{g with cf:=g.cf.set s.toNat {x with wait:=(aJ x.wait choice).2.2 } }) else
  if 1048576≤x.count then (0,false,2,g) else (0,false,0,{g with cf:=g.cf.set s.toNat {x with count:=x.count+1 } })
def bb(n most:Int):Int:=min (max n 0) most
def Gates.new(aB conds:Int)(aU:List Int):Gates :=
 ⟨List.replicate (bb aB 4).toNat ⟨[],false,0⟩,List.replicate (bb conds 4).toNat [],(aU.take 4).map fun n=>⟨[],bb n 1048576⟩⟩
/-! pipes -/
structure Ptr where
 who:Int
 x:Int
deriving DecidableEq
structure Tub where
 room:Int
 words:List Int
 bP:List Ptr
 bC:List Int
def Tub.new(room:Int):Tub:=⟨min (max room 1) 8,[],[],[]⟩
def Tub.waits(t:Tub)(who:Int):Bool:=t.bC.contains who || t.bP.any fun p=>decide (p.who=who)
def Tub.put(t:Tub)(who x:Int):Bool×Int×Bool×Tub :=
 if t.waits who=true then (false,0,false,t) else
 match t.bC with
 | w::r=>(true,w,true,{t with bC:=r })
 | []=>if (t.words.length:Int)<t.room then (true,0,false,{t with words:=t.words++[x] }) else (false,0,false,{t with bP:=t.bP++[⟨who,x⟩] })
def Tub.get(t:Tub)(who:Int):Int×Bool×Int×Bool×Tub :=
 if t.waits who=true then (0,false,0,false,t) else
 match t.words with
 | []=>(0,false,0,false,{t with bC:=t.bC++[who] })
 | x::r =>
  match t.bP with
  | []=>(x,true,0,false,{t with words:=r })
  | p::q=>(x,true,p.who,true,{t with words:=r++[p.x],bP:=q })
/-! the disk -/
structure pE where
 who:Int
 block:Int
 write:Bool
 x:Int
deriving DecidableEq
structure jC where
 blocks:List Int
 wait:List pE
def jC.new(blocks:Int):jC:=⟨List.replicate (bb blocks 64).toNat 0,[]⟩
def jC.ask(d:jC)(r:pE):Int×jC :=
 if r.block<0∨(d.blocks.length:Int)≤r.block then (1,d) else
 if d.wait.any (fun x=>decide (x.who=r.who))=true then (4,d) else (0,{d with wait:=d.wait++[r] })
def jC.done(d:jC)(k:Int):pE×Int×Bool×jC :=
 if d.wait.length=0 then (⟨0,0,false,0⟩,0,false,d) else
  let r:=d.wait.getD (pick k d.wait.length) ⟨0,0,false,0⟩
  let d':jC:={d with wait:=d.wait.eraseIdx (pick k d.wait.length) }
  if r.write=true then (r,0,true,{d' with blocks:=d'.blocks.set r.block.toNat r.x }) else (r,d.blocks.getD r.block.toNat 0,true,d')
/-! the clock: who waits until when, in no order that counts -/
structure j6 where
 now:Int
 dY:List (Int×Int)
def cF(l:List (Int×Int))(k:Int):Option Int:=(l.find? fun p=>decide (p.1=k)).map (·.2)
def mapSet:List (Int×Int)→Int→Int→List (Int×Int)
 | [],k,v=>[(k,v)]
 | p::l,k,v=>if p.1=k then (k,v)::l else p::mapSet l k v
def dT(l:List (Int×Int))(k:Int):List (Int×Int):=l.filter fun p => !decide (p.1=k)
def dH(x:Int):List Int→List Int
 | []=>[x]
 | y::l=>if x≤y then x::y::l else y::dH x l
def gz(l:List Int):List Int:=l.foldr dH []
def j6.new:j6:=⟨0,[]⟩
def j6.sleep(w:j6)(who n:Int):Int×j6 :=
 if n<1∨1099511627776<n then (1,w) else
 if 0<(cF w.dY who).getD 0 then (4,w) else (0,{w with dY:=mapSet w.dY who (min (w.now+n) 1099511627776) })
def j6.due(w:j6):List Int:=gz ((w.dY.filter fun p=>decide (p.2≤min (w.now+1) 1099511627776)).map (·.1))
def j6.tick(w:j6):List Int×j6:=(w.due,⟨min (w.now+1) 1099511627776,w.due.foldl dT w.dY⟩)
/-! words -/
def gU(n:Int):Int:=n % 18446744073709551616
def mW:Int:=9221120237041090560
/-! a space -/
structure Rec where
 dv:Int
 op:Int
 x:Int
 y:Int
 result:Int
 fin:Bool
deriving DecidableEq
structure bo where
 fn:Int
 pc:Int
 aq:List Int
 handle:Int
 why:Int
 value:Int
 bq:Bool
 av:Int
 op:Int
 into:Int
structure Spc where
 dK:eZ
 table:List (Bool×Int)
 thr:List (Option bo)
 mem:List Int
 ag:Gates
 bA:List Tub
 aO:jC
 aA:j6
 au:List Rec
def readyFrom:List (Option bo)→Nat→List Int
 | [],_=>[]
 | none::l,n=>readyFrom l (n+1)
 | some t::l,n=>if t.why=0 then (n:Int)::readyFrom l (n+1) else readyFrom l (n+1)
def Spc.ready(s:Spc):List Int:=readyFrom s.thr 0
def mP(f arg:Int)(handle:Int):bo:=⟨f,0,[arg,0,0,0,0,0,0,0],handle,0,0,false, -1,0, -1⟩
def Spc.begin(s:Spc)(f arg:Int):Int×Int×Spc :=
 match slotFree? s.table 0 with
 | none=>(0,2,s)
 | some n=>((n:Int),0,{s with table:=s.table.set n (true,(s.table.getD n (false,0)).2+1),thr:=s.thr.set n (some (mP f arg (dq ((s.table.getD n (false,0)).2+1) n))) })
def Spc.new(p:eZ):Spc :=
 (Spc.begin ⟨p,List.replicate 16 (false,0),List.replicate 16 none,List.replicate p.words.toNat 0,Gates.new p.aB p.conds p.aU,p.aG.map Tub.new,jC.new p.blocks,j6.new,[]⟩ 0 0).2.2
/-! events, vessels, rows, a library -/
structure Ev where
 kind:Int
 dv:Int
 mode:Int
deriving DecidableEq
structure Ll where
 mode:Int
 dv:Int
 evs:List Ev
def Ll.holds(v:Ll):Bool:=decide (v.mode=2) || decide (v.mode=4) || decide (v.mode=7)
structure Lib where
 qP:Spc
 rows:List (List Int)
 vs:List Ll
 waiting:List Ev
 locked:Bool
/-! processors -/
structure Mj where
 owner:List Int
 libs:List Lib
def checkAll:List eZ→Int
 | []=>0
 | p::l=>if dD p=0 then checkAll l else dD p
/-! who gets how many -/
structure Deal where
 left:Int
 iC:List Int
 prio:List Int
 out:List Int
end Go.SLYtefdijgllbkmfaaGreat
namespace Go.SLYtefdijgllbkmfaaGreat
open Go Go.RowKit
abbrev ptr(b:Nat):Value:=.pointer (some ⟨b,0,none⟩)
def eJ(o:Option Nat):Value:=.pointer (o.map fun b=>⟨b,0,none⟩)
def aL(n:Int):List Value:=[.int .i64 n]
def bF(n:Int):List Value:=[.int .u64 n]
def dI(i:Ins):List Value:=[.int .i64 i.op,.int .i64 i.a,.int .i64 i.b,.int .i64 i.c,.int .u64 i.n]
def Gw(o:Bool×Int):List Value:=[.bool o.1,.int .u64 o.2]
def cN(w:dh):List Value:=[.int .i64 w.who,.int .i64 w.mutex]
def eP(p:Ptr):List Value:=[.int .i64 p.who,.int .u64 p.x]
def ec(r:pE):List Value:=[.int .i64 r.who,.int .i64 r.block,.bool r.write,.int .u64 r.x]
def dr(r:Rec):List Value:=[.int .u64 r.dv,.int .i64 r.op,.int .u64 r.x,.int .u64 r.y,.int .i64 r.result,.bool r.fin]
/-! things in a row that bear things -/
def aT{α:Type}(f:α→aa)(xs:List α):aa:=seps (xs.map f)
theorem DT{α:Type}(f:α→aa):aT f []=emp:=rfl
theorem iN{α:Type}(f:α→aa)(x:α)(xs:List α):aT f (x::xs)=sep (f x) (aT f xs):=rfl
theorem DU{α:Type}(f:α→aa)(xs ys:List α):aT f (xs++ys)=sep (aT f xs) (aT f ys):=by unfold aT;rw[List.map_append,ah]
theorem j7{α:Type}(f:α→aa)(xs:List α)(y:α):aT f (xs++[y])=sep (f y) (aT f xs):=by
 rw[DU,ib]
 congr 1
 show sep (f y) emp=f y
 exact aP _
theorem iV{α:Type}(f:α→aa){xs:List α}{i:Nat}{x:α}(h:xs[i]?=some x):aT f xs=sep (f x) (aT f (xs.eraseIdx i)):=by
 induction xs generalizing i with
 | nil=>simp at h
 | cons y ys ih =>
  cases i with
  | zero=>simp at h;subst h;rfl
  | succ i =>
   have:=ih (i:=i) (by simpa using h)
   rw[iN,this,List.eraseIdx_cons_succ,iN,aY]
theorem iW{α:Type}(f:α→aa){xs:List α}{i:Nat}(y:α)(h:i<xs.length):aT f (xs.set i y)=sep (f y) (aT f (xs.eraseIdx i)):=by
 induction xs generalizing i with
 | nil=>simp at h
 | cons z zs ih =>
  cases i with
  | zero=>rfl
  | succ i =>
   have:=ih (i:=i) (by simpa using h)
   simp only[List.set_cons_succ,List.eraseIdx_cons_succ,iN,this]
   exact aY _ _ _
/-! programs -/
structure bN where
 fv:Value
 fs:List (Value×List Ins)
 words:Int
 aB:Int
 conds:Int
 sv:Value
 aU:List Int
 pv:Value
 aG:List Int
 blocks:Int
 prio:Int
def bN.p(v:bN):eZ:=⟨v.fs.map (·.2),v.words,v.aB,v.conds,v.aU,v.aG,v.blocks,v.prio⟩
def eH(v:bN):List Value:=[v.fv,.int .i64 v.words,.int .i64 v.aB,.int .i64 v.conds,v.sv,v.pv,.int .i64 v.blocks,.int .i64 v.prio]
def cn{α:Type}(x:Value×α):List Value:=[x.1]
def df{α:Type}(x:Nat×α):List Value:=[ptr x.1]
structure fp(W:World)(H:List aa)(v:bN):Prop where
 fs:Rd W H cn 1 v.fv v.fs
 ins:∀ x∈v.fs,Rd W H dI 5 x.1 x.2
 aU:Rd W H aL 1 v.sv v.aU
 aG:Rd W H aL 1 v.pv v.aG
/-! a space's parts -/
def lC(b:Nat)(l:List (Bool×Int)):aa:=ij (fun _=>True) fun v=>[arr b 0 [v],sl Gw 2 v l]
def iB(b o:Nat)(l:List dh):aa:=ij (fun _=>True) fun v=>[arr b o [v],sl cN 2 v l]
def lD(x:Value×dB):List Value:=[x.1,.bool x.2.held,.int .i64 x.2.owner]
def lN(x:Value×jr):List Value:=[x.1,.int .i64 x.2.count]
def ep(v:Value)(l:List dB):aa:=ij (fun xs:List (Value×dB)=>xs.map (·.2)=l) fun xs=>[sl lD 3 v xs,aT (fun x=>sl cN 2 x.1 x.2.wait) xs]
def ik(v:Value)(l:List (List dh)):aa:=ij (fun xs:List (Value×List dh)=>xs.map (·.2)=l) fun xs=>[sl cn 1 v xs,aT (fun x=>sl cN 2 x.1 x.2) xs]
def fy(v:Value)(l:List jr):aa:=ij (fun xs:List (Value×jr)=>xs.map (·.2)=l) fun xs=>[sl lN 2 v xs,aT (fun x=>sl cN 2 x.1 x.2.wait) xs]
def cX(b:Nat)(g:Gates):aa:=zi (fun _ _ _=>True) fun vm vc vs=>[arr b 0 [vm,vc,vs],ep vm g.aF,ik vc g.bn,fy vs g.cf]
def il(b:Nat)(t:Tub):aa:=zi (fun _ _ _=>True) fun vw vp vg=>[arr b 0 [.int .i64 t.room,vw,vp,vg],sl bF 1 vw t.words,sl eP 2 vp t.bP,sl aL 1 vg t.bC]
def nR(v:Value)(l:List Tub):aa:=ij (fun xs:List (Nat×Tub)=>xs.map (·.2)=l) fun xs=>[sl df 1 v xs,aT (fun x=>il x.1 x.2) xs]
def nS(b:Nat)(d:jC):aa:=rM (fun _ _=>True) fun vb vw=>[arr b 0 [vb,vw],sl bF 1 vb d.blocks,sl ec 4 vw d.wait]
def xo(v:Value)(l:List (List Ins)):aa:=ij (fun xs:List (Value×List Ins)=>xs.map (·.2)=l) fun xs=>[sl cn 1 v xs,aT (fun x=>sl dI 5 x.1 x.2) xs]
def lx(es:List MapEntry)(clock:Nat)(l:List (Int×Int)):Prop :=
 es.map (fun e=>(e.key,e.val))=l.map (fun p=>(Value.int .i64 p.1,Value.int .i64 p.2))∧(l.map (·.1)).Nodup∧(∀ e∈es,e.born<clock)∧(es.map (·.born)).Nodup
def m4(m:Nat)(l:List (Int×Int)):aa:=rM (fun(es:List MapEntry) clock=>lx es clock l) fun es clock=>[iT m (.map es.toArray clock)]
def m5(b:Nat)(w:j6):aa:=ij (fun _=>True) fun m=>[arr b 0 [.int .i64 w.now,.map (some m)],m4 m w.dY]
def bz(t:bo):List Value:=[.int .i64 t.fn,.int .i64 t.pc,.int .u64 (t.aq.getD 0 0),.int .u64 (t.aq.getD 1 0),.int .u64 (t.aq.getD 2 0),.int .u64 (t.aq.getD 3 0),.int .u64 (t.aq.getD 4 0),.int .u64 (t.aq.getD 5 0),.int .u64 (t.aq.getD 6 0),.int .u64 (t.aq.getD 7 0),
 .int .u64 t.handle,.int .i64 t.why,.int .u64 t.value,.bool t.bq,.int .i64 t.av,.int .i64 t.op,.int .i64 t.into,.int .u64 0]
def aE:List (Option Nat)→List (Option bo)→aa
 | [],[]=>emp
 | some p::ps,some t::ts=>sep (arr p 0 (bz t)) (aE ps ts)
 | none::ps,none::ts=>aE ps ts
 | _,_=>fun _=>False
theorem rN:∀ {ps:List (Option Nat)} {ts:List (Option bo)} {h:js},aE ps ts h→ps.length=ts.length
 | [],[],_,_=>rfl
 | [],_::_,_,a=>a.elim
 | some _::_,[],_,a=>a.elim
 | none::_,[],_,a=>a.elim
 | some p::ps,some t::ts,h,⟨_,h2,_,a,_⟩=>by simp[rN a]
 | none::ps,none::ts,h,a=>by simp[rN (show aE ps ts h from a)]
 | some _::_,none::_,_,a=>a.elim
 | none::_,some _::_,_,a=>a.elim
theorem lO:∀ {ps:List (Option Nat)} {ts:List (Option bo)} {n:Nat} {t:bo},ts[n]?=some (some t)→ ∀ h,aE ps ts h→ ∃ p,ps[n]?=some (some p)∧sep (arr p 0 (bz t)) (aE (ps.set n none) (ts.set n none)) h
 | [],[],_,_,e,_,_=>by simp at e
 | [],_::_,_,_,_,_,a=>a.elim
 | some _::_,[],_,_,_,_,a=>a.elim
 | none::_,[],_,_,_,_,a=>a.elim
 | some _::_,none::_,_,_,_,_,a=>a.elim
 | none::_,some _::_,_,_,_,_,a=>a.elim
 | some p::ps,some t::ts,0,u,e,h,a=>by
  simp at e;subst e
  exact⟨p,rfl,a⟩
 | none::ps,none::ts,0,u,e,h,a=>by simp at e
 | some p::ps,some t::ts,n+1,u,e,h,⟨h1,h2,a1,a2,d,e'⟩=>by
  obtain⟨q,hq,a⟩:=lO (n:=n) (by simpa using e) h2 a2
  refine⟨q,by simpa using hq,?_⟩
  show sep _ (sep (arr p 0 (bz t)) (aE (ps.set n none) (ts.set n none))) h
  rw[aY]
  exact⟨h1,h2,a1,a,d,e'⟩
 | none::ps,none::ts,n+1,u,e,h,a=>by
  obtain⟨q,hq,a⟩:=lO (ps:=ps) (n:=n) (by simpa using e) h a
  exact⟨q,by simpa using hq,a⟩
theorem pF:∀ {ps:List (Option Nat)} {ts:List (Option bo)} {n:Nat},ts[n]?=some none→ ∀ h,aE ps ts h→ps[n]?=some none
 | [],[],_,e,_,_=>by simp at e
 | [],_::_,_,_,_,a=>a.elim
 | some _::_,[],_,_,_,a=>a.elim
 | none::_,[],_,_,_,a=>a.elim
 | some _::_,none::_,_,_,_,a=>a.elim
 | none::_,some _::_,_,_,_,a=>a.elim
 | some p::ps,some t::ts,0,e,h,a=>by simp at e
 | none::ps,none::ts,0,e,h,a=>rfl
 | some p::ps,some t::ts,n+1,e,h,⟨h1,h2,a1,a2,d,e'⟩=>by
  have:=pF (n:=n) (by simpa using e) h2 a2
  simpa using this
 | none::ps,none::ts,n+1,e,h,a=>by
  have:=pF (ps:=ps) (n:=n) (by simpa using e) h a
  simpa using this
theorem nT:∀ {ps:List (Option Nat)} {ts:List (Option bo)} {n:Nat} {p:Nat} {t:bo},ts[n]?=some none→ ∀ h,sep (arr p 0 (bz t)) (aE ps ts) h→aE (ps.set n (some p)) (ts.set n (some t)) h
 | [],[],_,_,_,e,_,_=>by simp at e
 | [],_::_,_,_,_,_,_,⟨_,_,_,a,_⟩=>a.elim
 | some _::_,[],_,_,_,_,_,⟨_,_,_,a,_⟩=>a.elim
 | none::_,[],_,_,_,_,_,⟨_,_,_,a,_⟩=>a.elim
 | some _::_,none::_,_,_,_,_,_,⟨_,_,_,a,_⟩=>a.elim
 | none::_,some _::_,_,_,_,_,_,⟨_,_,_,a,_⟩=>a.elim
 | some q::ps,some u::ts,0,p,t,e,h,a=>by simp at e
 | none::ps,none::ts,0,p,t,e,h,a=>a
 | some q::ps,some u::ts,n+1,p,t,e,h,a=>by
  show sep (arr q 0 (bz u)) (aE (ps.set n (some p)) (ts.set n (some t))) h
  have:sep (arr p 0 (bz t)) (sep (arr q 0 (bz u)) (aE ps ts)) h:=a
  rw[aY] at this
  exact aS (fun _ h=>h) (fun h' a'=>nT (by simpa using e) h' a') h this
 | none::ps,none::ts,n+1,p,t,e,h,a=>nT (ps:=ps) (ts:=ts) (n:=n) (by simpa using e) h a
theorem BV{ps:List (Option Nat)}{ts:List (Option bo)}{n p:Nat}{t:bo}(hn:n<ts.length)(hp:ps[n]?=some (some p)):∀ h,sep (arr p 0 (bz t)) (aE (ps.set n none) (ts.set n none)) h→aE ps (ts.set n (some t)) h:=fun h a=>by
 have:=nT (n:=n) (by simp[hn]) h a
 rw[List.set_set,List.set_set] at this
 rwa [show ps.set n (some p)=ps from by
  apply List.ext_getElem?
  intro i
  by_cases e:n=i
  ·subst e
   rw[List.getElem?_set_self (List.getElem?_eq_some_iff.1 hp).1,hp]
  ·rw[List.getElem?_set_ne e]] at this
def fM(fv sv pv:Value)(p:eZ)(bt:Nat)(ps:List (Option Nat))(vm:Value)(bg:Nat)(vt:Value)(bd bw:Nat)(vr:Value):List Value :=
 [fv,.int .i64 p.words,.int .i64 p.aB,.int .i64 p.conds,sv,pv,.int .i64 p.blocks,.int .i64 p.prio,ptr bt,
  eJ (ps.getD 0 none),eJ (ps.getD 1 none),eJ (ps.getD 2 none),eJ (ps.getD 3 none),eJ (ps.getD 4 none),eJ (ps.getD 5 none),eJ (ps.getD 6 none),eJ (ps.getD 7 none),
  eJ (ps.getD 8 none),eJ (ps.getD 9 none),eJ (ps.getD 10 none),eJ (ps.getD 11 none),eJ (ps.getD 12 none),eJ (ps.getD 13 none),eJ (ps.getD 14 none),eJ (ps.getD 15 none),
  vm,ptr bg,vt,ptr bd,ptr bw,vr]
def dt(b:Nat)(ps:List (Option Nat))(s:Spc):aa:=tR (fun _ _ _ _ _ _ _ _ _ _=>True) fun(fv sv pv:Value) (bt:Nat) (vm:Value) (bg:Nat) (vt:Value) (bd bw:Nat) (vr:Value) =>
 [arr b 0 (fM fv sv pv s.dK bt ps vm bg vt bd bw vr),xo fv s.dK.funcs,lC bt s.table,aE ps s.thr,sl bF 1 vm s.mem,cX bg s.ag,nR vt s.bA,nS bd s.aO,m5 bw s.aA,sl dr 6 vr s.au]
def cH(b:Nat)(s:Spc):aa:=ij (fun _=>True) fun ps=>[dt b ps s]
/-! a library, processors -/
/-! chunks turned -/
section
variable{P:Program}{W:World}{N:Nat}{Q:Exit→Act→World→Prop}{L:List (Nat×Option Value)}{H R K:List aa}{O:Array Oper}{T:TypeId}{ks:List Nat}{ops:List Oper}{C:aa}
theorem zj{w:World}{A:aa}{Bs:List aa}(t:Take H A R)(e:∀ h,A h→seps Bs h)(s:Sat W w (seps H)):Sat W w (seps (Bs++R)):=by
 rw[t.seps] at s
 rw[ah]
 exact s.mono (aS e fun _ r=>r)
theorem vz{w:World}{A:aa}{Bs:List aa}(t:aK H Bs R)(e:∀ h,seps Bs h→A h)(s:Sat W w (seps H)):Sat W w (seps (A::R)):=by
 have:=t.sat s
 rw[ah] at this
 exact this.mono (aS e fun _ r=>r)
theorem aQ.fr{A:aa}{Bs:List aa}(t:Take H A R)(e:∀ h,A h→seps Bs h)(k:aQ P W N O Q ops L (Bs++R)):aQ P W N O Q ops L H:=fun a w ha hs=>k a w ha (zj t e hs)
theorem ax.fr{c:Code}{A:aa}{Bs:List aa}(t:Take H A R)(e:∀ h,A h→seps Bs h)(k:ax P W N Q c L (Bs++R)):ax P W N Q c L H:=fun a w ha hs=>k a w ha (zj t e hs)
theorem bu.fr{A:aa}{Bs:List aa}(t:Take H A R)(e:∀ h,A h→seps Bs h)(k:bu P W N K O Q ks ops L (Bs++R)):bu P W N K O Q ks ops L H:=fun a w ha hs=>k a w ha (zj t e hs)
theorem aQ.to{A:aa}{Bs:List aa}(t:aK H Bs R)(e:∀ h,seps Bs h→A h)(k:aQ P W N O Q ops L (A::R)):aQ P W N O Q ops L H:=fun a w ha hs=>k a w ha (vz t e hs)
theorem ax.to{c:Code}{A:aa}{Bs:List aa}(t:aK H Bs R)(e:∀ h,seps Bs h→A h)(k:ax P W N Q c L (A::R)):ax P W N Q c L H:=fun a w ha hs=>k a w ha (vz t e hs)
theorem bu.to{A:aa}{Bs:List aa}(t:aK H Bs R)(e:∀ h,seps Bs h→A h)(k:bu P W N K O Q ks ops L (A::R)):bu P W N K O Q ks ops L H:=fun a w ha hs=>k a w ha (vz t e hs)
theorem cj.to{en:Exit}{A:aa}{Bs:List aa}(t:aK H Bs R)(e:∀ h,seps Bs h→A h)(k:cj W N Q en L (A::R)):cj W N Q en L H:=fun a w ha hs=>k a w ha (vz t e hs)
theorem IZ{w:World}{A:aa}{X:Type}{p:X→Prop}{Bs:X→List aa}(t:Take H A R)(e:∀ h,A h→ ∃ x,p x∧seps (Bs x) h)(s:Sat W w (seps H)):∃ x,p x∧Sat W w (seps (Bs x++R)):=by
 rw[t.seps] at s
 obtain⟨h,⟨h1,h2,a,r,d,e'⟩,hin⟩:=s.own
 obtain⟨x,hp,a'⟩:=e h1 a
 exact⟨x,hp,by rw[ah];exact {s with own:=⟨h,⟨h1,h2,a',r,d,e'⟩,hin⟩ }⟩
theorem cj.fx{en:Exit}{A:aa}{X:Type}{p:X→Prop}{Bs:X→List aa}(t:Take H A R)(e:∀ h,A h→ ∃ x,p x∧seps (Bs x) h)(k:∀ x,p x→cj W N Q en L (Bs x++R)):cj W N Q en L H:=fun a w ha hs=>let ⟨x,hp,s⟩:=IZ t e hs;k x hp a w ha s
theorem cY{ps:List (Option Nat)}{ts:List (Option bo)}{n p:Nat}{t:bo}(hn:n<ts.length)(hp:ps[n]?=some (some p)):∀ h,seps [arr p 0 (bz t),aE (ps.set n none) (ts.set n none)] h→aE ps (ts.set n (some t)) h:=fun h a =>
 BV hn hp h (by simpa only[seps,aP] using a)
end
end Go.SLYtefdijgllbkmfaaGreat
namespace Go.SLYtefdijgllbkmfaaGreat
open Go Go.RowKit
section
variable{P:Program}{W:World}{N:Nat}{Q:Exit→Act→World→Prop}{O:Array Oper}{L:List (Nat×Option Value)}{H K R:List aa}{T:TypeId}{α:Type}
theorem Take.app{A:aa}(E:aa)(t:Take H A R):Take (H++[E]) A (R++[E]):=by
 induction t with
 | here=>exact .here
 | there _ ih=>exact .there ih
theorem aK.app{H R As:List aa}(E:aa)(t:aK H As R):aK (H++[E]) As (R++[E]):=by
 induction t with
 | nil=>exact .nil
 | cons h _ ih=>exact .cons (h.app E) ih
 | conv c _ ih=>exact .conv c ih
 | lE _ _ i1 i2=>exact .lE i1 i2
 | f1 e x1 _ _ hp i1 i2=>exact .f1 e x1 i1 i2 hp
 | f2 e x1 x2 _ _ hp i1 i2=>exact .f2 e x1 x2 i1 i2 hp
 | f3 e x1 x2 x3 _ _ hp i1 i2=>exact .f3 e x1 x2 x3 i1 i2 hp
 | f4 e x1 x2 x3 x4 _ _ hp i1 i2=>exact .f4 e x1 x2 x3 x4 i1 i2 hp
 | f5 e x1 x2 x3 x4 x5 _ _ hp i1 i2=>exact .f5 e x1 x2 x3 x4 x5 i1 i2 hp
 | f6 e x1 x2 x3 x4 x5 x6 _ _ hp i1 i2=>exact .f6 e x1 x2 x3 x4 x5 x6 i1 i2 hp
 | f7 e x1 x2 x3 x4 x5 x6 x7 _ _ hp i1 i2=>exact .f7 e x1 x2 x3 x4 x5 x6 x7 i1 i2 hp
 | f8 e x1 x2 x3 x4 x5 x6 x7 x8 _ _ hp i1 i2=>exact .f8 e x1 x2 x3 x4 x5 x6 x7 x8 i1 i2 hp
 | f9 e x1 x2 x3 x4 x5 x6 x7 x8 x9 _ _ hp i1 i2=>exact .f9 e x1 x2 x3 x4 x5 x6 x7 x8 x9 i1 i2 hp
 | f10 e x1 x2 x3 x4 x5 x6 x7 x8 x9 x10 _ _ hp i1 i2=>exact .f10 e x1 x2 x3 x4 x5 x6 x7 x8 x9 x10 i1 i2 hp
 | f11 e x1 x2 x3 x4 x5 x6 x7 x8 x9 x10 x11 _ _ hp i1 i2=>exact .f11 e x1 x2 x3 x4 x5 x6 x7 x8 x9 x10 x11 i1 i2 hp
 | f12 e x1 x2 x3 x4 x5 x6 x7 x8 x9 x10 x11 x12 _ _ hp i1 i2=>exact .f12 e x1 x2 x3 x4 x5 x6 x7 x8 x9 x10 x11 x12 i1 i2 hp
theorem bQ.eO{ks rest:List Nat}{i:Nat}{f:FuncId}{xs:Array Operand}{ts:Array TypeId}{T:TypeId}{pos:String}{after:Array Edge}{d:Nat}{args:List Value}{pre R:List aa}{X:Type}{val:X→Value}{fact:X→Prop}{post:X→List aa}
  (ho:O[i]?=some ⟨some d,.call ⟨.value (.func f),xs,ts⟩,T,pos,after,none⟩) (hk:ks.getD i 1=2∨ks.getD i 1=3) (hN:Nat.blt d N=true) (hK:ks.getD i 1=2→ ∀ w,Sat W w (seps H)→Sat W w (seps K))
  (hc:∀ args w,(callFunc f args).run P w = .ok (.enter f args) w) (hx:evs L xs.toList=some args) (hfn:Fn P W f args pre X val fact post) (ht:aK H pre R) (hK':ks.getD i 1=2→ ∀ x, ∀ w,Sat W w (seps (post x++R))→Sat W w (seps K))
  (h:∀ x,fact x→bQ P W N K O Q ks rest ((d,some (val x))::L) (post x++R)):bQ P W N K O Q ks (i::rest) L H:=by
 have key:∀ E a w,xi W N L H E a w→Oper.wp P ⟨some d,.call ⟨.value (.func f),xs,ts⟩,T,pos,after,none⟩ a w (fun a' w'=>(ks.getD i 1=2→Sat W w' (seps K))∧ ∃ x:{x:X // fact x },xi W N ((d,some (val x.1))::L) (post x.1++R) E a' w') QF:=fun E a w hs=>by
  obtain⟨ha,hs⟩:=jB.1 hs
  refine af.eO (guard:=none) hN hc hx hfn (ht.app E) a w ha hs _ ?_
  rintro L' H' ⟨x,hx,rfl,rfl⟩ a' w' ha' hs'
  rw[← List.append_assoc] at hs'
  have h2:xi W N ((d,some (val x))::L) (post x++R) E a' w':=jB.2 ⟨ha',hs'⟩
  exact⟨fun e=>hK' e x w' h2.2.left,⟨x,hx⟩,h2⟩
 unfold bQ
 rcases hk with hk | hk
 ·simp only[wpF,ho,hk]
  refine⟨{x:X // fact x },fun x=>xi W N ((d,some (val x.1))::L) (post x.1++R),fun x=>gW,fun E a w hs=>⟨fun _=>hK hk w hs.2.left,?_⟩,fun x=>h x.1 x.2⟩
  rw[if_pos (bj rfl)]
  exact Oper.wp_mono (fun a w ⟨h1,h2⟩=>⟨fun _=>h1 hk,h2⟩) (key E a w hs)
 ·simp only[wpF,ho,hk]
  refine⟨{x:X // fact x },fun x=>xi W N ((d,some (val x.1))::L) (post x.1++R),fun x=>gW,fun E a w hs=>⟨fun e=>(by cases e),?_⟩,fun x=>h x.1 x.2⟩
  rw[if_pos (bj rfl)]
  exact Oper.wp_mono (fun a w ⟨h1,h2⟩=>⟨fun e=>(by cases e),h2⟩) (key E a w hs)
theorem bQ.d{ks rest:List Nat}{i:Nat}{o:Oper}{X:Type}{Lx:X→List (Nat×Option Value)}{Hx:X→List aa}(ho:O[i]?=some o)(hg:o.guard=none)(hk:ks.getD i 1=2∨ks.getD i 1=3)(hK:ks.getD i 1=2→ ∀ w,Sat W w (seps H)→Sat W w (seps K))
  (hd:∀ E,af P W N o L (H++[E]) (fun L1 H1=>∃ x,L1=Lx x∧H1=Hx x++[E])) (hK':ks.getD i 1=2→ ∀ x, ∀ w,Sat W w (seps (Hx x))→Sat W w (seps K)) (h:∀ x,bQ P W N K O Q ks rest (Lx x) (Hx x)):bQ P W N K O Q ks (i::rest) L H:=by
 have key:∀ E a w,xi W N L H E a w→Oper.wp P o a w (fun a' w'=>(ks.getD i 1=2→Sat W w' (seps K))∧ ∃ x:X,xi W N (Lx x) (Hx x) E a' w') QF:=fun E a w hs=>by
  obtain⟨ha,hs⟩:=jB.1 hs
  refine hd E a w ha hs _ ?_
  rintro L' H' ⟨x,rfl,rfl⟩ a' w' ha' hs'
  have h2:xi W N (Lx x) (Hx x) E a' w':=jB.2 ⟨ha',hs'⟩
  exact⟨fun e=>hK' e x w' h2.2.left,x,h2⟩
 unfold bQ
 rcases hk with hk | hk
 ·simp only[wpF,ho,hk]
  refine⟨X,fun x=>xi W N (Lx x) (Hx x),fun x=>gW,fun E a w hs=>⟨fun _=>hK hk w hs.2.left,?_⟩,h⟩
  rw[if_pos (bj hg)]
  exact Oper.wp_mono (fun a w ⟨h1,h2⟩=>⟨fun _=>h1 hk,h2⟩) (key E a w hs)
 ·simp only[wpF,ho,hk]
  refine⟨X,fun x=>xi W N (Lx x) (Hx x),fun x=>gW,fun E a w hs=>⟨fun e=>(by cases e),?_⟩,h⟩
  rw[if_pos (bj hg)]
  exact Oper.wp_mono (fun a w ⟨h1,h2⟩=>⟨fun e=>(by cases e),h2⟩) (key E a w hs)
theorem zk{enc:α→List Value}{k:Nat}(z0:α){t e:TypeId}{kd kd':IntKind}{i:TypeInfo}{z:Value}{n:Nat}(hu:P.underlying t=some (.slice e))(hi:∀ w,(typeInfo e).run P w = .ok i w)(hz:i.zero=some z)(hk:i.size=k)(hzc:z.cells=(enc z0).toArray)(hkl:(enc z0).length=k)(hk0:0<k)(hb:1≤i.bytes∧i.bytes≤4096)
  (hn:n≤1073741824) (w:World):(Instr.makeSlice t (.int kd (n:Int)) (.int kd' (n:Int))).run P w = .ok (.slice (some ⟨w.heap.size,0,none⟩) n n) (w.alloc (.cells (rows enc (List.replicate n z0)).toArray e)):=by
 have hz0:∀ w,(zeroValue e).run P w = .ok z w:=fun w=>by simp[zeroValue,hi,hz]
 have hsz:∀ w,(sizeOf e).run P w = .ok k w:=fun w=>by simp[sizeOf,hi,hk]
 have hwr:IntKind.i64.wrap (n:Int)=(n:Int):=wrap_i64 (by omega)
 have hwr0:IntKind.i64.wrap 0=0:=wrap_i64 (by omega)
 have hbig2:¬(281474976710656<(i.bytes:Int) * (n:Int)):=by
  have h1:i.bytes * n≤4096 * 1073741824:=Nat.mul_le_mul hb.2 hn
  have h3:((i.bytes * n:Nat):Int)=i.bytes * (n:Int):=by simp
  omega
 have hroom:∀ m w',(askRoom m).run P w' = .ok () w':=fun m w'=>by
  unfold askRoom
  split <;> rfl
 have e4:∀ cs:Array Value,(newRow e cs).run P w = .ok ⟨w.heap.size,0,none⟩ (w.alloc (.cells cs e)):=fun _=>rfl
 have hnews:(rows enc (List.replicate n z0)).toArray=(Array.range (n * k)).map ((enc z0).toArray[· % (enc z0).toArray.size]!):=by
  rw[← xk hkl hk0 n,Array.toArray_toList]
 by_cases h0:n=0
 ·subst h0
  simp[Instr.makeSlice,run_underlying hu,asInt,asIntOf,hi,hwr0,hroom,hsz,e4]
  rw[show(Array.range 0).map (fun _=>(default:Value)) = #[] from by simp]
  simp[rows]
 ·have hnk:¬(n * k=0):=by
   intro h;rcases Nat.mul_eq_zero.1 h with h | h <;> omega
  have h3:¬((n:Int)<0):=by omega
  have hk00:¬(k=0):=by omega
  simp[Instr.makeSlice,run_underlying hu,asInt,asIntOf,hi,hwr,hroom,hsz,hz0,hzc,e4,hbig2,h3,hnews]
  intro h;exact absurd h hnk
theorem fz{enc:α→List Value}{k:Nat}(z0:α){x y:Operand}{t e T:TypeId}{kd kd':IntKind}{i:TypeInfo}{z:Value}{m m':Int}(n:Nat){pos:String}{after:Array Edge}{d:Nat}
  (hu:P.underlying t=some (.slice e)) (hi:∀ w,(typeInfo e).run P w = .ok i w) (hz:i.zero=some z) (hk:i.size=k) (hzc:z.cells=(enc z0).toArray) (hkl:(enc z0).length=k) (hk0:0<k) (hb:1≤i.bytes∧i.bytes≤4096)
  (hx:ev L x=some (.int kd m)) (hy:ev L y=some (.int kd' m')) (hm:m=(n:Int)) (hm':m'=(n:Int)) (hn:n≤1073741824) :
  ∀ a,Env N L a→cv P O ⟨some d,.makeSlice t x y,T,pos,after,none⟩ a (fun b=>.slice (some ⟨b,0,none⟩) n n) (rows enc (List.replicate n z0)) e:=fun a ha=>⟨bj rfl,fun w=>by
 subst hm hm'
 simp[execOp,ha.eval hx,ha.eval hy,zk (P:=P) (kd:=kd) (kd':=kd') z0 hu hi hz hk hzc hkl hk0 hb hn w]⟩
theorem BW{t T:TypeId}{n:Nat}{ps:Array (Nat×Operand)}{pos:String}{after:Array Edge}{d:Nat}{vs:List (Nat×Value)}(e:TypeId)(hp:evParts L ps.toList=some vs)(h:vu P t n vs=some (e,(vs.flatMap fun p=>p.2.cells.toList).toArray)) :
  ∀ a,Env N L a→cv P O ⟨some d,.buildSlice t n ps,T,pos,after,none⟩ a (fun b=>.slice (some ⟨b,0,none⟩) n n) (vs.flatMap fun p=>p.2.cells.toList) e:=fun a ha=>⟨bj rfl,fun w=>by
 have e':ps.map (fun p=>(p.1,a.eval p.2))=vs.toArray:=by rw[← jy ha hp, ← List.map_toArray]
 simp only[execOp]
 show(Instr.buildSlice t n (ps.map fun p=>(p.1,a.eval p.2)) >>= fun x=>pure (Next.value x)).run P w=_
 rw[e',Sem.run_bind,rH w h]
 rfl⟩
theorem vA{enc:α→List Value}{k b n:Nat}(xs:List α){cs:List Value}(hn:xs.length=n)(hk:∀ x∈xs,(enc x).length=k)(hc:cs=rows enc xs):∀ h,seps [arr b 0 cs] h→sl enc k (.slice (some ⟨b,0,none⟩) n n) xs h:=fun h a=>by
 subst hn hc
 simp only[seps,aP] at a
 exact .inr ⟨b,xs.length,[],rfl,Nat.le_refl _,hk,by simp,by rw[List.append_nil];exact a⟩
theorem jD{enc:α→List Value}{k b n:Nat}{z0:α}(hk:(enc z0).length=k):∀ h,seps [arr b 0 (rows enc (List.replicate n z0))] h→sl enc k (.slice (some ⟨b,0,none⟩) n n) (List.replicate n z0) h :=
 vA _ (by simp) (fun x hx=>by rw[List.eq_of_mem_replicate hx];exact hk) rfl
theorem Y.dJ{op:Op}{k:IntKind}{m n:Int}(h:Y P W N op T L H (.int k m))(e:m=n):Y P W N op T L H (.int k n):=e ▸ h
theorem Rd.pre{enc:α→List Value}{k b j len cap:Nat}{xs:List α}(h:Rd W H enc k (.slice (some ⟨b,0,none⟩) len cap) xs)(hj:j≤xs.length):Rd W H enc k (.slice (some ⟨b,0,none⟩) j cap) (xs.take j):=by
 have:=h.cut (lo:=0) (hi:=j) (Nat.zero_le _) hj
 rw[List.drop_zero] at this
 have e:SLYtefdijgllbkmfaaGreat.cut k 0 j (.slice (some ⟨b,0,none⟩) len cap) = .slice (some ⟨b,0,none⟩) j cap:=by
  simp only[SLYtefdijgllbkmfaaGreat.cut]
  split <;> simp[Addr.add]
 rwa [e] at this
/-! ### bits -/
def pG(k:IntKind)(a b:Int):Int:=k.wrap (BitVec.ofInt k.bits a &&& BitVec.ofInt k.bits b).toNat
def Gm(k:IntKind)(a b:Int):Int:=k.wrap (BitVec.ofInt k.bits a ||| BitVec.ofInt k.bits b).toNat
def Mm(k:IntKind)(a b:Int):Int:=k.wrap (BitVec.ofInt k.bits a ^^^ BitVec.ofInt k.bits b).toNat
def mQ(k:IntKind)(a b:Int):Int:=k.wrap (a * 2 ^ (min b.toNat k.bits))
def zl(k:IntKind)(a b:Int):Int:=a.fdiv (2 ^ (min b.toNat k.bits))
theorem Y.zm{k:IntKind}{xT yT:TypeId}{x y:Operand}{m n:Int}(hx:ev L x=some (.int k m))(hy:ev L y=some (.int k n)):Y P W N (.binOp .and xT x y yT) T L H (.int k (pG k m n)) :=
 Y.bin hx hy fun w=>by simp[eqGuard,binOp,Op.intBits,pG]
theorem Y.Lm{k:IntKind}{xT yT:TypeId}{x y:Operand}{m n:Int}(hx:ev L x=some (.int k m))(hy:ev L y=some (.int k n)):Y P W N (.binOp .or xT x y yT) T L H (.int k (Gm k m n)) :=
 Y.bin hx hy fun w=>by simp[eqGuard,binOp,Op.intBits,Gm]
theorem Y.BX{k k':IntKind}{xT yT:TypeId}{x y:Operand}{m n:Int}(hx:ev L x=some (.int k m))(hy:ev L y=some (.int k' n))(hn:0≤n):Y P W N (.binOp .shl xT x y yT) T L H (.int k (mQ k m n)) :=
 Y.bin hx hy fun w=>by simp[eqGuard,binOp,Op.shift,mQ,show ¬(n<0) from by omega]
theorem Y.zn{k k':IntKind}{xT yT:TypeId}{x y:Operand}{m n:Int}(hx:ev L x=some (.int k m))(hy:ev L y=some (.int k' n))(hn:0≤n):Y P W N (.binOp .shr xT x y yT) T L H (.int k (zl k m n)) :=
 Y.bin hx hy fun w=>by simp[eqGuard,binOp,Op.shift,zl,show ¬(n<0) from by omega]
/-! ### a nil slice grows by zeros -/
theorem iA.DV{w:World}{enc:α→List Value}{k m:Nat}{u:Value}{ys:List α}(h:iA w enc k u ys)(hm:m≤ys.length):(Builtin.firstCells k m u).run P w = .ok (rows enc (ys.take m)).toArray w:=by
 have h1:=(h.cut (lo:=0) (hi:=m) (Nat.zero_le _) hm).firstCells (P:=P)
 obtain⟨⟨a,cap,rfl,_⟩,_⟩:=h
 rw[List.drop_zero,List.length_take,Nat.min_eq_left hm] at h1
 have e:Builtin.firstCells k m (Value.slice a ys.length cap)=Builtin.firstCells k m (SLYtefdijgllbkmfaaGreat.cut k 0 m (Value.slice a ys.length cap)):=by
  simp only[SLYtefdijgllbkmfaaGreat.cut]
  cases a with
  | none=>simp[Builtin.firstCells]
  | some p=>split <;> simp[Builtin.firstCells,Addr.add]
 rw[e];exact h1
theorem af.I0{enc:α→List Value}{k b i len cap c':Nat}{x y:Operand}{t t2 e ty:TypeId}{u:Value}{xs ys:List α}{pos:String}{after:Array Edge}{guard:Option (Nat×Bool)}{d:Nat}(hN:Nat.blt d N=true)(hu:P.underlying t=some (.slice e))(hz:∀ w,(sizeOf e).run P w = .ok k w)
  (hx:ev L x=some (.slice (some ⟨b,i * k,none⟩) (len-i) c')) (hy:ev L y=some u) (hr:Rd W H enc k u ys) (ht:Take H (sl enc k (.slice (some ⟨b,0,none⟩) len cap) xs) R) (hl:xs.length=len) (hi:i≤len) (h0:0<len) (hone:∀ y∈ys, ∀ c∈enc y,c.oneCell'=true) :
  af P W N ⟨some d,.call ⟨.builtin .copy, #[x,y], #[t,t2]⟩,ty,pos,after,guard⟩ L H (fun L1 H1=>L1=(d,some (.int .i64 ((min ys.length (len-i):Nat):Int)))::L∧
   H1=sl enc k (.slice (some ⟨b,0,none⟩) len cap) (xs.take i++(ys.take (min ys.length (len-i))++xs.drop (i+min ys.length (len-i))))::R):=fun a w ha hs Kp hK=>by
 have hrd:=hr w hs
 rw[ht.seps] at hs
 subst hl
 generalize hm:min ys.length (xs.length-i)=m at hK
 have hm1:m≤ys.length:=by omega
 have hm2:i+m≤xs.length:=by omega
 have hf:=hrd.DV (P:=P) hm1
 have hue:=hrd
 obtain⟨⟨ua,ucap,hue,_⟩,hyk,_⟩:=hue
 have hln:(Builtin.lenOf u).run P w = .ok ys.length w:=by rw[hue];simp[Builtin.lenOf]
 have hmin:Nat.min ys.length (xs.length-i)=m:=hm
 have fin:∀ w',(execOp a.eval ⟨some d,.call ⟨.builtin .copy, #[x,y], #[t,t2]⟩,ty,pos,after,guard⟩).run P w = .ok (.value (.int .i64 (m:Int))) w'→
   Sat W w' (sep (sl enc k (.slice (some ⟨b,0,none⟩) xs.length cap) (xs.take i++(ys.take m++xs.drop (i+m)))) (seps R))→Oper.wp P ⟨some d,.call ⟨.builtin .copy, #[x,y], #[t,t2]⟩,ty,pos,after,guard⟩ a w Kp QF:=fun w' hrun hs'=>by
  unfold Oper.wp
  rw[hrun]
  simp only[Oper.upon]
  exact hK _ _ ⟨rfl,rfl⟩ _ _ (ha.put (Nat.blt_eq.mp hN) _) hs'
 rcases hs.qt with ⟨⟨va,hv0⟩,hx0,hs0⟩ | ⟨b',cap',sp,hv,hle,hkk,hsp,hs1⟩
 ·subst hx0;exact absurd h0 (by simp)
 ·cases hv
  have hlm:(ys.take m).length=m:=by rw[List.length_take];omega
  have hrl:(rows enc (ys.take m)).length=m * k:=by rw[bK (fun z hz=>hyk z (List.mem_of_mem_take hz)),hlm]
  have hone':∀ c∈rows enc (ys.take m),c.oneCell'=true:=fun c hc=>by
   obtain⟨z,hz,hc⟩:=List.mem_flatMap.1 hc
   exact hone z (List.mem_of_mem_take hz) c hc
  have hlx:(rows enc xs).length=xs.length * k:=bK hkk
  have hmk:i * k+m * k≤xs.length * k:=by rw[← Nat.add_mul];exact Nat.mul_le_mul_right _ hm2
  obtain⟨w',h1,h2⟩:=eN (P:=P) (rows enc (ys.take m)) (rows enc xs++sp) (i * k) 0 w hs1 hone' (by rw[List.length_append,hrl,hlx];omega)
  refine fin w' ?_ ?_
  ·simp only[Nat.zero_add] at h1
   simp[execOp,resolve,invoke,builtin,Builtin.copy_,run_underlying hu,ha.eval hx,ha.eval hy,hln,hz,hmin,hf,h1,goInt]
  ·have e9:rows enc xs++sp=rows enc (xs.take i)++(rows enc (xs.drop i)++sp):=by
    rw[← List.append_assoc, ← dz,List.take_append_drop]
   have hti:(rows enc (xs.take i)).length=i * k:=by rw[bK (fun z hz=>hkk z (List.mem_of_mem_take hz)),List.length_take];congr 1;omega
   have hdi:(rows enc (xs.drop i)).length=(xs.length-i) * k:=by rw[bK (fun z hz=>hkk z (List.mem_of_mem_drop hz)),List.length_drop]
   have e3:setFrom (rows enc xs++sp) (i * k+0) (rows enc (ys.take m))=rows enc (xs.take i++(ys.take m++xs.drop (i+m)))++sp:=by
    rw[Nat.add_zero,e9, ← hti,jz (by rw[List.length_append,hrl,hdi];have:=Nat.mul_le_mul_right k (show m≤xs.length-i by omega);omega),hrl,dz,dz]
    rw[List.drop_append_of_le_length (by rw[hdi];exact Nat.mul_le_mul_right k (by omega))]
    have:(rows enc (xs.drop i)).drop (m * k)=rows enc (xs.drop (i+m)):=by
     have hsplit:rows enc (xs.drop i)=rows enc ((xs.drop i).take m)++rows enc ((xs.drop i).drop m):=by rw[← dz,List.take_append_drop]
     have hlen:(rows enc ((xs.drop i).take m)).length=m * k:=by
      rw[bK (fun z hz=>hkk z (List.mem_of_mem_drop (List.mem_of_mem_take hz))),List.length_take,List.length_drop];congr 1;omega
     rw[hsplit, ← hlen,List.drop_left,List.drop_drop]
    rw[this];simp
   rw[e3] at h2
   have hnl:(xs.take i++(ys.take m++xs.drop (i+m))).length=xs.length:=by simp only[List.length_append,List.length_take,List.length_drop];omega
   have:=Sat.qq (enc:=enc) (k:=k) (b:=b) (cap:=cap) (xs:=xs.take i++(ys.take m++xs.drop (i+m))) (sp:=sp) (by omega) (fun z hz=>by
    rcases List.mem_append.1 hz with h | h
    ·exact hkk z (List.mem_of_mem_take h)
    ·rcases List.mem_append.1 h with h | h
     ·exact hyk z (List.mem_of_mem_take h)
     ·exact hkk z (List.mem_of_mem_drop h)) (by rw[hnl];exact hsp) h2
   rwa [hnl] at this
end
end Go.SLYtefdijgllbkmfaaGreat
namespace Go.SLYtefdijgllbkmfaaGreat
open Go Go.RowKit
theorem nU(l:List Int):∀ y∈l, ∀ c∈aL y,c.oneCell'=true:=fun y _ c hc=>by simp only[aL,List.mem_cons,List.not_mem_nil,or_false] at hc;subst hc;rfl
theorem nV(l:List Int):∀ y∈l, ∀ c∈bF y,c.oneCell'=true:=fun y _ c hc=>by simp only[bF,List.mem_cons,List.not_mem_nil,or_false] at hc;subst hc;rfl
theorem nW{α:Type}{enc:α→List Value}(h:∀ x,(enc x).all (·.oneCell')=true)(l:List α):∀ y∈l, ∀ c∈enc y,c.oneCell'=true:=fun y _ c hc=>List.all_eq_true.1 (h y) c hc
theorem rP(l:List Rec):∀ y∈l, ∀ c∈dr y,c.oneCell'=true:=nW (fun _=>rfl) l
theorem DW(l:List Ins):∀ y∈l, ∀ c∈dI y,c.oneCell'=true:=nW (fun _=>rfl) l
theorem rQ(l:List pE):∀ y∈l, ∀ c∈ec y,c.oneCell'=true:=nW (fun _=>rfl) l
theorem rR(l:List dh):∀ y∈l, ∀ c∈cN y,c.oneCell'=true:=nW (fun _=>rfl) l
theorem xp(l:List Ptr):∀ y∈l, ∀ c∈eP y,c.oneCell'=true:=nW (fun _=>rfl) l
def isSl:Value→Bool
 | .slice .. => true
 | _=>false
theorem nX{v:Value}(h:isSl v=true):v.oneCell'=true:=by cases v <;> simp_all [isSl,Value.oneCell']
section
variable{P:Program}{W:World}{H:List aa}{α:Type}
theorem Rd.AJ{enc:α→List Value}{k:Nat}{v:Value}{xs:List α}(h:Rd W H enc k v xs)(hn:DM v=true):∀ w,Sat W w (seps H)→xs=[]:=fun w s=>by
 obtain⟨⟨a,cap,hv,_,_,hnn⟩,_⟩:=h w s
 subst hv
 cases a with
 | none=>exact hnn rfl
 | some p=>cases hn
theorem AK{enc:α→List Value}{k:Nat}{a:Option Addr}{n cap:Nat}{xs:List α}:∀ h,sl enc k (.slice a n cap) xs h→ ∃ J:aa,True∧seps [sl enc k (.slice a n n) xs,J] h:=by
 rintro h (⟨⟨a',e⟩,hx,he⟩ | ⟨b,cap',sp,e,hle,hk,hsp,a1⟩)
 ·cases e
  exact⟨emp,trivial,by simp only[seps,aP];exact .inl ⟨⟨_,rfl⟩,hx,he⟩⟩
 ·cases e
  rw[bR] at a1
  refine⟨arr b (0+(rows enc xs).length) sp,trivial,?_⟩
  ·simp only[seps,aP]
   exact aS (fun h a=>.inr ⟨b,xs.length,[],rfl,Nat.le_refl _,hk,by simp,by rw[List.append_nil];exact a⟩) (fun _ h=>h) h a1
theorem drop_cons{xs:List α}{k:Nat}{x:α}(h:xs[k]?=some x):xs.drop k=x::xs.drop (k+1):=by
 have hi:=(List.getElem?_eq_some_iff.1 h).1
 rw[List.drop_eq_getElem_cons hi,(List.getElem?_eq_some_iff.1 h).2]
theorem cy{l:List α}{k:Nat}{x:α}(h:l[k]?=some x):l.take (k+1)=l.take k++[x]:=by
 have hi:=(List.getElem?_eq_some_iff.1 h).1
 rw[List.take_add_one,h];rfl
theorem Rd.lE{enc:α→List Value}{k:Nat}{v:Value}{xs:List α}{As:List aa}(h:Rd W As enc k v xs):Rd W [seps As] enc k v xs:=fun w s=>h w (by simpa only[seps,aP] using s)
theorem xr{xs:List α}{k:Nat}{x y:α}(h:xs[k]?=some x):(xs.set k y)[k]?=some y:=by simp[(List.getElem?_eq_some_iff.1 h).1]
theorem ay{xs:List α}{k:Nat}(h:k<xs.length):∃ x,xs[k]?=some x:=⟨xs[k],by simp[h]⟩
end
def idxFrom(x:Int):List Int→Nat→Int
 | [],_ => -1
 | y::l,n=>if x=y then n else idxFrom x l (n+1)
def idxOf(x:Int)(l:List Int):Int:=idxFrom x l 0
theorem Gx{x y:Int}{l:List Int}{k:Nat}(h:l[k]?=some y)(e:x=y):idxFrom x (l.drop k) k=k:=by rw[drop_cons h,idxFrom,if_pos e]
theorem DX{x y:Int}{l:List Int}{k:Nat}(h:l[k]?=some y)(e:¬x=y):idxFrom x (l.drop k) k=idxFrom x (l.drop (k+1)) (k+1):=by rw[drop_cons h,idxFrom,if_neg e]
theorem Gy{x:Int}{l:List Int}{k:Nat}(h:l.length≤k):idxFrom x (l.drop k) k = -1:=by rw[List.drop_of_length_le h];rfl
theorem vD(x:Int)(l:List Int):∀ k,decide (0≤idxFrom x l k)=l.contains x:=by
 induction l with
 | nil=>intro k;rfl
 | cons y l ih =>
  intro k
  rw[idxFrom]
  by_cases h:x=y
  ·subst h;simp
  ·rw[if_neg h,ih,List.contains_cons];simp[h]
end Go.SLYtefdijgllbkmfaaGreat
namespace Go.SLYtefdijgllbkmfaaGreat
open Go Go.RowKit
section
variable{P:Program}{W:World}{N:Nat}{Q:Exit→Act→World→Prop}{O:Array Oper}{L:List (Nat×Option Value)}{H K R:List aa}{T:TypeId}{C:World→Prop}
theorem vE{n:Act→World→Prop}(h:LetsOut (Exit.then n Q)):LetsOut Q:=h
theorem AL{o:Oper}{n:Act→World→Prop}{a:Act}{w:World}{Kp:Act→World→Prop}(h:o.wp P a w Kp (Exit.then n Q)):o.wp P a w Kp Q:=by
 unfold Oper.wp at *
 generalize (execOp a.eval o).run P w=r at *
 cases r with
 | ok n w' =>
  cases n <;> simp only[Oper.upon] at h ⊢
  case value v=>exact h
  case skip=>exact h
  case enter f args=>exact Calls.mono h (fun e w'' he=>by cases e <;> exact he)
  case row r' args=>exact h
  case defer d=>exact h
 | halt x w'=>cases x <;> simp only[Oper.upon] at h ⊢ <;> exact h
theorem xt{o:Oper}{n n':Act→World→Prop}{a:Act}{w:World}{Kp:Act→World→Prop}(h:o.wp P a w Kp (Exit.then n Q)):o.wp P a w Kp (Exit.then n' Q):=by
 unfold Oper.wp at *
 generalize (execOp a.eval o).run P w=r at *
 cases r with
 | ok n w' =>
  cases n <;> simp only[Oper.upon] at h ⊢
  case value v=>exact h
  case skip=>exact h
  case enter f args=>exact Calls.mono h (fun e w'' he=>by cases e <;> exact he)
  case row r' args=>exact h
  case defer d=>exact h
 | halt x w'=>cases x <;> simp only[Oper.upon] at h ⊢ <;> exact h
theorem kQ{M M':Act→World→Prop}(hm:∀ a w,M a w→M' a w):∀ (ops:List Oper) (a:Act) (w:World),wpList P O (Exit.then M Q) ops a w→wpList P O (Exit.then M' Q) ops a w
 | [],a,w,h=>hm a w h
 | o::ops,a,w,h=>by
  unfold wpList at h ⊢
  split
  ·rename_i hw
   rw[if_pos hw] at h
   rcases h with h | ⟨h1,h2⟩
   ·exact .inl (xt (Oper.wp_mono (fun a w h=>kQ hm ops a w h) h))
   ·exact .inr ⟨h1,h2⟩
  ·rename_i hw
   rw[if_neg hw] at h
   exact kQ hm ops _ w h
theorem rS{M M':Act→World→Prop}(hm:∀ a w,M a w→M' a w):∀ (ks:List Nat) (ops:List Oper) (a:Act) (w:World),wpKL P O C (Exit.then M Q) ks ops a w→wpKL P O C (Exit.then M' Q) ks ops a w
 | [],[],a,w,h=>hm a w h
 | _::_,[],a,w,h=>hm a w h
 | [],_::_,_,_,h=>h
 | k::ks,o::ops,a,w,h=>by
  have ih:=rS hm ks ops
  match k with
  | 0 =>
   obtain⟨hc,v,hy,h⟩:=h
   exact⟨hc,v,hy,ih _ _ h⟩
  | 1 =>
   obtain⟨v,hy,h⟩:=h
   exact⟨v,hy,ih _ _ h⟩
  | 2 =>
   obtain⟨hc,h⟩:=h
   refine⟨hc,?_⟩
   split
   ·rename_i hw
    rw[if_pos hw] at h
    exact Oper.wp_mono (fun a w ⟨x,y⟩=>⟨x,ih _ _ y⟩) h
   ·rename_i hw
    rw[if_neg hw] at h
    exact ih _ _ h
  | k+3 =>
   simp only[wpKL] at h ⊢
   split
   ·rename_i hw
    rw[if_pos hw] at h
    exact xt (Oper.wp_mono (fun a w h=>ih _ _ h) h)
   ·rename_i hw
    rw[if_neg hw] at h
    exact ih _ _ h
theorem m6:∀ (n:Nat) (ops:List Oper) (a:Act) (w:World),wpList P O (Exit.then (wpList P O Q (ops.drop n)) Q) (ops.take n) a w→wpList P O Q ops a w
 | 0,ops,a,w,h=>h
 | n+1,[],a,w,h=>h
 | n+1,o::ops,a,w,h=>by
  simp only[List.take_succ_cons,List.drop_succ_cons] at h
  unfold wpList at h ⊢
  split
  ·rename_i hw
   rw[if_pos hw] at h
   rcases h with h | ⟨h1,h2⟩
   ·exact .inl (AL (Oper.wp_mono (fun a w h=>m6 n ops a w h) h))
   ·exact .inr ⟨h1,vE h2⟩
  ·rename_i hw
   rw[if_neg hw] at h
   exact m6 n ops _ w h
theorem xu:∀ (n:Nat) (ks:List Nat) (ops:List Oper) (a:Act) (w:World),wpKL P O C (Exit.then (wpKL P O C Q (ks.drop n) (ops.drop n)) Q) (ks.take n) (ops.take n) a w→wpKL P O C Q ks ops a w
 | 0,ks,ops,a,w,h=>by
  cases ks <;> exact h
 | n+1,ks,[],a,w,h=>by
  cases ks with
  | nil=>exact h
  | cons k ks =>
   have h':wpKL P O C Q (ks.drop n) [] a w:=h
   revert h'
   generalize ks.drop n=l
   intro h'
   cases l <;> exact h'
 | n+1,[],o::ops,a,w,h=>h
 | n+1,k::ks,o::ops,a,w,h=>by
  simp only[List.take_succ_cons,List.drop_succ_cons] at h
  have ih:=fun a w=>xu n ks ops a w
  match k with
  | 0 =>
   obtain⟨hc,v,hy,h⟩:=h
   exact⟨hc,v,hy,ih _ _ h⟩
  | 1 =>
   obtain⟨v,hy,h⟩:=h
   exact⟨v,hy,ih _ _ h⟩
  | 2 =>
   obtain⟨hc,h⟩:=h
   refine⟨hc,?_⟩
   split
   ·rename_i hw
    rw[if_pos hw] at h
    exact Oper.wp_mono (fun a w ⟨x,y⟩=>⟨x,ih _ _ y⟩) h
   ·rename_i hw
    rw[if_neg hw] at h
    exact ih _ _ h
  | k+3 =>
   simp only[wpKL] at h ⊢
   split
   ·rename_i hw
    rw[if_pos hw] at h
    exact AL (Oper.wp_mono (fun a w h=>ih _ _ h) h)
   ·rename_i hw
    rw[if_neg hw] at h
    exact ih _ _ h
abbrev kR(W:World)(N:Nat)(Q:Exit→Act→World→Prop)(d:Nat)(v:Value)(ks:List Nat)(L:List (Nat×Option Value))(H:List aa):Exit→Act→World→Prop :=
 Exit.then (Lt W N (fun _:Unit=>True) (fun _=>[(d,some v)]++(nones ks++L)) (fun _=>H)) Q
theorem aQ.cut{ops:List Oper}{d:Nat}{v:Value}{ks:List Nat}(n:Nat)(h1:aQ P W N O (kR W N Q d v ks L H) (ops.take n) L H)(h2:aQ P W N O Q (ops.drop n) ((d,some v)::(nones ks++L)) H):aQ P W N O Q ops L H:=fun a w ha hs =>
 m6 n ops a w (kQ (fun a w ⟨_,_,ha',hs'⟩=>h2 a w ha' hs') _ _ _ (h1 a w ha hs))
theorem bu.cut{ops:List Oper}{d:Nat}{v:Value}{ks kd:List Nat}(n:Nat)(h1:bu P W N K O (kR W N Q d v ks L H) (kd.take n) (ops.take n) L H)(h2:bu P W N K O Q (kd.drop n) (ops.drop n) ((d,some v)::(nones ks++L)) H):bu P W N K O Q kd ops L H:=fun a w ha hs =>
 xu n kd ops a w (rS (fun a w ⟨_,_,ha',hs'⟩=>h2 a w ha' hs') _ _ _ _ (h1 a w ha hs))
section
variable{ops:List Oper}{d t:Nat}{ks kd:List Nat}{b e:Bool}{p:Prop}[Decidable p]
theorem aQ.gI(n d t:Nat)(ks:List Nat)(ht:look L t=some (.bool b))(h1:b=true→aQ P W N O (kR W N Q d (.bool e) ks L H) (ops.take n) ((t,some (.bool true))::L) H)(h0:b=false→aQ P W N O (kR W N Q d (.bool false) ks L H) (ops.take n) ((t,some (.bool false))::L) H)
  (h2:aQ P W N O Q (ops.drop n) ((d,some (.bool (b && e)))::(nones ks++L)) H):aQ P W N O Q ops L H :=
 aQ.cut (v:=.bool (b && e)) (ks:=ks) n (.part ht (fun h=>by subst h;exact h1 rfl) (fun h=>by subst h;exact h0 rfl)) h2
theorem aQ.gj(n d t:Nat)(ks:List Nat)(ht:look L t=some (.bool b))(h1:b=false→aQ P W N O (kR W N Q d (.bool e) ks L H) (ops.take n) ((t,some (.bool false))::L) H)(h0:b=true→aQ P W N O (kR W N Q d (.bool true) ks L H) (ops.take n) ((t,some (.bool true))::L) H)
  (h2:aQ P W N O Q (ops.drop n) ((d,some (.bool (b || e)))::(nones ks++L)) H):aQ P W N O Q ops L H :=
 aQ.cut (v:=.bool (b || e)) (ks:=ks) n (.part ht (fun h=>by subst h;exact h0 rfl) (fun h=>by subst h;exact h1 rfl)) h2
theorem aQ.fZ(n d t:Nat)(ks:List Nat)(ht:look L t=some (.bool (decide p)))(h1:p→aQ P W N O (kR W N Q d (.bool e) ks L H) (ops.take n) ((t,some (.bool true))::L) H)(h0:¬p→aQ P W N O (kR W N Q d (.bool false) ks L H) (ops.take n) ((t,some (.bool false))::L) H)
  (h2:aQ P W N O Q (ops.drop n) ((d,some (.bool (decide p && e)))::(nones ks++L)) H):aQ P W N O Q ops L H :=
 aQ.gI n d t ks ht (fun h=>h1 (of_decide_eq_true h)) (fun h=>h0 (of_decide_eq_false h)) h2
theorem aQ.ga(n d t:Nat)(ks:List Nat)(ht:look L t=some (.bool (decide p)))(h1:¬p→aQ P W N O (kR W N Q d (.bool e) ks L H) (ops.take n) ((t,some (.bool false))::L) H)(h0:p→aQ P W N O (kR W N Q d (.bool true) ks L H) (ops.take n) ((t,some (.bool true))::L) H)
  (h2:aQ P W N O Q (ops.drop n) ((d,some (.bool (decide p || e)))::(nones ks++L)) H):aQ P W N O Q ops L H :=
 aQ.gj n d t ks ht (fun h=>h1 (of_decide_eq_false h)) (fun h=>h0 (of_decide_eq_true h)) h2
theorem bu.gI(n d t:Nat)(ks:List Nat)(ht:look L t=some (.bool b))(h1:b=true→bu P W N K O (kR W N Q d (.bool e) ks L H) (kd.take n) (ops.take n) ((t,some (.bool true))::L) H)(h0:b=false→bu P W N K O (kR W N Q d (.bool false) ks L H) (kd.take n) (ops.take n) ((t,some (.bool false))::L) H)
  (h2:bu P W N K O Q (kd.drop n) (ops.drop n) ((d,some (.bool (b && e)))::(nones ks++L)) H):bu P W N K O Q kd ops L H :=
 bu.cut (v:=.bool (b && e)) (ks:=ks) n (.part ht (fun h=>by subst h;exact h1 rfl) (fun h=>by subst h;exact h0 rfl)) h2
theorem bu.gj(n d t:Nat)(ks:List Nat)(ht:look L t=some (.bool b))(h1:b=false→bu P W N K O (kR W N Q d (.bool e) ks L H) (kd.take n) (ops.take n) ((t,some (.bool false))::L) H)(h0:b=true→bu P W N K O (kR W N Q d (.bool true) ks L H) (kd.take n) (ops.take n) ((t,some (.bool true))::L) H)
  (h2:bu P W N K O Q (kd.drop n) (ops.drop n) ((d,some (.bool (b || e)))::(nones ks++L)) H):bu P W N K O Q kd ops L H :=
 bu.cut (v:=.bool (b || e)) (ks:=ks) n (.part ht (fun h=>by subst h;exact h0 rfl) (fun h=>by subst h;exact h1 rfl)) h2
theorem bu.fZ(n d t:Nat)(ks:List Nat)(ht:look L t=some (.bool (decide p)))(h1:p→bu P W N K O (kR W N Q d (.bool e) ks L H) (kd.take n) (ops.take n) ((t,some (.bool true))::L) H)(h0:¬p→bu P W N K O (kR W N Q d (.bool false) ks L H) (kd.take n) (ops.take n) ((t,some (.bool false))::L) H)
  (h2:bu P W N K O Q (kd.drop n) (ops.drop n) ((d,some (.bool (decide p && e)))::(nones ks++L)) H):bu P W N K O Q kd ops L H :=
 bu.gI n d t ks ht (fun h=>h1 (of_decide_eq_true h)) (fun h=>h0 (of_decide_eq_false h)) h2
theorem bu.ga(n d t:Nat)(ks:List Nat)(ht:look L t=some (.bool (decide p)))(h1:¬p→bu P W N K O (kR W N Q d (.bool e) ks L H) (kd.take n) (ops.take n) ((t,some (.bool false))::L) H)(h0:p→bu P W N K O (kR W N Q d (.bool true) ks L H) (kd.take n) (ops.take n) ((t,some (.bool true))::L) H)
  (h2:bu P W N K O Q (kd.drop n) (ops.drop n) ((d,some (.bool (decide p || e)))::(nones ks++L)) H):bu P W N K O Q kd ops L H :=
 bu.gj n d t ks ht (fun h=>h1 (of_decide_eq_false h)) (fun h=>h0 (of_decide_eq_true h)) h2
theorem cj.tt{d:Nat}{v:Value}{ks:List Nat}{L0:List (Nat×Option Value)}{H0:List aa}(t:yY ks L L0)(hv:look L d=some v)(hH:∀ w,Sat W w (seps H)→Sat W w (seps H0)):cj W N (kR W N Q d v ks L0 H0) .normal L H :=
 cj.eY () t trivial ⟨hv,trivial⟩ hH
end
end
end Go.SLYtefdijgllbkmfaaGreat
namespace Go.SLYtefdijgllbkmfaaGreat
open Go Go.RowKit
theorem ju{k:IntKind}{m n:Int}(h:m=n):Ending.returned (Value.int k m) = .returned (.int k n):=by rw[h]
theorem Gz{m n:Bool}(h:m=n):Ending.returned (Value.bool m) = .returned (.bool n):=by rw[h]
def ew(f:Form):List Value:=[.int .i64 f.aq,.bool f.mutex,.int .i64 f.n,.bool f.any]
def vF(v:bN):Bool :=
 decide (0<(v.fs.length:Int)) && decide ((v.fs.length:Int)≤8) && within v.words 64 && within v.aB 4 && within v.conds 4 && within v.blocks 64 && within v.prio 7 && decide ((v.aU.length:Int)≤4) && decide ((v.aG.length:Int)≤4)
def m7(v:bN)(k:Nat):Bool:=vF v && (v.fs.take k).all fun f=>decide ((f.2.length:Int)≤256)
def m8(v:bN)(k:Nat):Bool:=m7 v v.fs.length && (v.aU.take k).all fun n=>within n 1048576
def m9(v:bN)(k:Nat):Bool:=m8 v v.aU.length && (v.aG.take k).all fun n=>decide (0<n) && within n 8
theorem gk{α:Type}{p:α→Bool}{l:List α}{k:Nat}{x:α}(h:l[k]?=some x):(l.take (k+1)).all p=((l.take k).all p && p x):=by rw[cy h,List.all_append];simp
theorem xv(v:bN):m9 v v.aG.length=eg v.p:=by
 obtain⟨fv,fs,words,aB,conds,sv,aU,pv,aG,blocks,prio⟩:=v
 have e0:∀ n:Nat,decide (0<(n:Int))=decide (0<n):=fun n=>by rw[decide_eq_decide];omega
 have e8:∀ n:Nat,decide ((n:Int)≤8)=decide (n≤8):=fun n=>by rw[decide_eq_decide];omega
 have e4:∀ n:Nat,decide ((n:Int)≤4)=decide (n≤4):=fun n=>by rw[decide_eq_decide];omega
 have e2:∀ n:Nat,decide ((n:Int)≤256)=decide (n≤256):=fun n=>by rw[decide_eq_decide];omega
 unfold m9 m8 m7 vF eg bN.p
 simp only[List.take_length,List.length_map,List.all_map,e0,e8,e4,e2]
 rfl
theorem nY{p:eZ}(h:eg p=true):0<p.funcs.length∧p.funcs.length≤8∧(0≤p.words∧p.words≤64)∧(0≤p.aB∧p.aB≤4)∧(0≤p.conds∧p.conds≤4)∧(0≤p.blocks∧p.blocks≤64)∧(0≤p.prio∧p.prio≤7)∧p.aU.length≤4∧p.aG.length≤4∧
  (∀ f∈p.funcs,f.length≤256)∧(∀ n∈p.aU,0≤n∧n≤1048576)∧(∀ n∈p.aG,0<n∧n≤8):=by
 unfold eg within at h
 simp only[Bool.and_eq_true,decide_eq_true_eq,List.all_eq_true] at h
 obtain⟨⟨⟨⟨⟨⟨⟨⟨⟨⟨⟨h1,h2⟩,h3⟩,h4⟩,h5⟩,h6⟩,h7⟩,h8⟩,h9⟩,h10⟩,h11⟩,h12⟩:=h
 exact⟨h1,h2,h3,h4,h5,h6,h7,h8,h9,h10,h11,fun n hn=>⟨(h12 n hn).1,(h12 n hn).2.2⟩⟩
theorem vG{v:bN}(h:eg v.p=true){x:Value×List Ins}(hx:x∈v.fs):x.2.length≤256 :=
 (nY h).2.2.2.2.2.2.2.2.2.1 x.2 (List.mem_map.2 ⟨x,hx,rfl⟩)
theorem Kr{c:Prop}[Decidable c]{x y:Form}{m:Int}(hx:x.n≤m)(hy:y.n≤m):(if c then x else y).n≤m:=by split <;> assumption
theorem BZ{p:eZ}(h:eg p=true)(op:Int):(aR p op).n≤9223372036854775807:=by
 obtain⟨h1,h2,_,h4,h5,_,_,h8,h9,_⟩:=nY h
 unfold aR
 repeat' apply Kr
 all_goals (show(_:Int)≤_;simp only;omega)
theorem tS{v:bN}(h:eg v.p=true){k j:Nat}{x:Value×List Ins}{i:Ins}(hx:v.fs[k]?=some x)(hj:x.2[j]?=some i)(hs:ez v.p i=false):dD v.p=8:=by
 unfold dD
 rw[if_pos h,if_neg]
 intro h'
 rw[List.all_eq_true] at h'
 have:=h' x.2 (List.mem_map.2 ⟨x,List.mem_of_getElem? hx,rfl⟩)
 rw[List.all_eq_true] at this
 have:=this i (List.mem_of_getElem? hj)
 rw[hs] at this;cases this
theorem xw{v:bN}(h:eg v.p=true)(hs:v.fs.all (fun f:Value×List Ins=>f.2.all (ez v.p))=true):dD v.p=0:=by
 unfold dD
 rw[if_pos h,if_pos]
 rw[List.all_eq_true] at hs ⊢
 intro f hf
 obtain⟨x,hx,rfl⟩:=List.mem_map.1 hf
 exact hs x hx
end Go.SLYtefdijgllbkmfaaGreat
namespace Go.SLYtefdijgllbkmfaaGreat
open Go Go.RowKit
section
variable{P:Program}{W:World}{N:Nat}{Q:Exit→Act→World→Prop}{O:Array Oper}{L:List (Nat×Option Value)}{H K R:List aa}{T:TypeId}{α:Type}
theorem Y.index{x y:Operand}{t e n:Nat}{cs:Array Value}{v:Value}{kd:IntKind}{j:Int}(i:Nat)(hu:P.underlying t=some (.array n e))(ha:∀ w,(isAgg e).run P w = .ok false w)(hz:∀ w,(sizeOf e).run P w = .ok 1 w)(hx:ev L x=some (.agg cs))(hy:ev L y=some (.int kd j))(hj:j=(i:Int))(hi:i<n)(hv:cs[i]?=some v) :
  Y P W N (.index t x y) T L H v:=fun dst pos after guard a w he hs=>by
 subst hj
 simp only[execOp,he.eval hx,he.eval hy]
 refine bJ ?_
 simp[Instr.index,asIntOf,run_underlying hu,hi,hz,part,ha,hv]
theorem Y.qv{x y:Operand}{ts:Array TypeId}{k:IntKind}{m n:Int}(hx:ev L x=some (.int k m))(hy:ev L y=some (.int k n)):Y P W N (.call ⟨.builtin .min, #[x,y],ts⟩) T L H (.int k (min m n)):=by
 have:=Y.min2 (P:=P) (W:=W) (N:=N) (H:=H) (T:=T) (ts:=ts) hx hy
 rwa [show(if n<m then n else m)=min m n from by omega] at this
theorem Y.AM{x y:Operand}{ts:Array TypeId}{k:IntKind}{m n:Int}(hx:ev L x=some (.int k m))(hy:ev L y=some (.int k n)):Y P W N (.call ⟨.builtin .max, #[x,y],ts⟩) T L H (.int k (max m n)):=by
 have:=Y.max2 (P:=P) (W:=W) (N:=N) (H:=H) (T:=T) (ts:=ts) hx hy
 rwa [show(if n>m then n else m)=max m n from by omega] at this
theorem af.makeMap{t:TypeId}{pos:String}{after:Array Edge}{guard:Option (Nat×Bool)}{d:Nat}(hN:Nat.blt d N=true) :
  af P W N ⟨some d,.makeMap t none,T,pos,after,guard⟩ L H (fun L1 H1=>∃ m,L1=(d,some (.map (some m)))::L∧H1=iT m (.map #[] 0)::H):=fun a w ha hs Kp hK=>by
 have hrun:(execOp a.eval ⟨some d,.makeMap t none,T,pos,after,guard⟩).run P w = .ok (.value (.map (some w.heap.size))) (w.alloc (.map #[] 0)):=by
  simp[execOp,Instr.makeMap,newObj,Sem.run]
 unfold Oper.wp
 rw[hrun]
 simp only[Oper.upon]
 exact hK _ _ ⟨w.heap.size,rfl,rfl⟩ _ _ (ha.put (Nat.blt_eq.mp hN) _) (hs.xa (.map #[] 0) rfl)
/-! ### a part of a thing, where it lies -/
theorem Sat.fact{w:World}{A:aa}{p:Prop}(s:Sat W w (seps H))(t:Take H A R)(e:∀ h,A h→p):p:=by
 rw[t.seps] at s
 obtain⟨h,⟨h1,h2,a,_⟩,_⟩:=s.own
 exact e h1 a
theorem Cell.sub{C:aa}{b o i:Nat}{cs:List Value}{v:Value}(t:At H C)(e:∀ h,C h→ ∃ J,sep (SLYtefdijgllbkmfaaGreat.arr b o cs) J h)(hv:cs[i]?=some v):Cell W H b (o+i) v:=fun w s=>by
 obtain⟨R,s⟩:=t.sat s
 obtain⟨h,⟨h1,h2,a,r,d,e'⟩,hin⟩:=s.own
 obtain⟨J,a'⟩:=e h1 a
 have s2:Sat W w (sep (sep (SLYtefdijgllbkmfaaGreat.arr b o cs) J) R):={s with own:=⟨h,⟨h1,h2,a',r,d,e'⟩,hin⟩ }
 rw[aN] at s2
 exact(fu s2 hv).2
theorem Cell.LB{C:aa}{b i:Nat}{cs:List Value}{v:Value}(t:At H C)(e:∀ h,C h→ ∃ J,sep (SLYtefdijgllbkmfaaGreat.arr b 0 cs) J h)(hv:cs[i]?=some v):Cell W H b i v:=by
 have:=Cell.sub (W:=W) t e hv
 rwa [Nat.zero_add] at this
theorem Rd.sub{C:aa}{enc:α→List Value}{k:Nat}{v:Value}{xs:List α}(t:At H C)(e:∀ h,C h→ ∃ J,sep (SLYtefdijgllbkmfaaGreat.sl enc k v xs) J h):Rd W H enc k v xs:=fun w s=>by
 obtain⟨R,s⟩:=t.sat s
 obtain⟨h,⟨h1,h2,a,r,d,e'⟩,hin⟩:=s.own
 obtain⟨J,a'⟩:=e h1 a
 have s2:Sat W w (sep (sep (SLYtefdijgllbkmfaaGreat.sl enc k v xs) J) R):={s with own:=⟨h,⟨h1,h2,a',r,d,e'⟩,hin⟩ }
 rw[aN] at s2
 exact(Rd.sl (W:=W) (H:=[SLYtefdijgllbkmfaaGreat.sl enc k v xs,sep J R]) .here) w (by simpa only[seps,aP] using s2)
theorem af.fi{enc:α→List Value}{k b:Nat}{x y:Operand}{t t2 e e2 ty:TypeId}{pos:String}{after:Array Edge}{guard:Option (Nat×Bool)}{d:Nat}{v:Value}{cs:List Value}{xs:List α}(z0:α){R:List aa}{i:TypeInfo}{z:Value}(hN:Nat.blt d N=true)
  (hu:P.underlying t=some (.slice e)) (hu2:P.underlying t2=some (.slice e2)) (hi:∀ w,(typeInfo e).run P w = .ok i w) (hz:i.zero=some z) (hk:i.size=k) (hzs:z.cells.size=k) (hb:1≤i.bytes∧i.bytes≤4096)
  (hx:ev L x=some v) (hy:ev L y=some (.slice (some ⟨b,0,none⟩) 1 1)) (hc:enc z0=cs) (ha:At H (arr b 0 cs)) (hcl:cs.length=k) (ht:Take H (sl enc k v xs) R) (hlen:xs.length<1073741824) (hone:(enc z0).all (·.oneCell')=true) :
  af P W N ⟨some d,.call ⟨.builtin .append, #[x,y], #[t,t2]⟩,ty,pos,after,guard⟩ L H (fun L1 H1=>∃ v',L1=(d,some v')::L∧H1=sl enc k v' (xs++[z0])::R) :=
 af.Gu z0 hN hu hu2 hi hz hk hzs hb hx hy ha hc hcl ht hlen (by rw[← hc];exact List.all_eq_true.1 hone)
theorem pH{E T:TypeId}{x:Operand}{pos:String}{after:Array Edge}{d:Nat}{v:Value}{cs:List Value}(hx:ev L x=some v)(hc:v.cells=cs.toArray) :
  ∀ a,Env N L a→cv P O ⟨some d,.box E x,T,pos,after,none⟩ a (fun b=>.pointer (some ⟨b,0,none⟩)) cs E:=fun a ha=>⟨bj rfl,fun w=>by
 simp only[execOp,ha.eval hx]
 show(Instr.box E v >>= fun x=>pure (Next.value x)).run P w=_
 simp[Instr.box,kO,hc]⟩
/-! a slice's value stored: it is one cell, whatever it is -/
theorem Rd.one{enc:α→List Value}{k:Nat}{v:Value}{xs:List α}(h:Rd W H enc k v xs):∀ w,Sat W w (seps H)→v.oneCell'=true:=fun w s=>by
 obtain⟨⟨a,cap,hv,_⟩,_⟩:=h w s
 rw[hv];rfl
theorem af.pz{E:TypeId}{x y:Operand}{pos:String}{after:Array Edge}{guard:Option (Nat×Bool)}{b i:Nat}{v:Value}{cs:List Value}{H':List aa}{enc:α→List Value}{k:Nat}{xs:List α}(hz:∀ w,(sizeOf E).run P w = .ok 1 w)(hx:ev L x=some (.pointer (some ⟨b,i,none⟩)))(hy:ev L y=some v)[hv:aI W H v enc k xs]
  [h0:aX H b 0 cs] [hr:bM H b 0 cs (cs.set i v) H'] (hi:Nat.blt i cs.length=true) :
  af P W N ⟨none,.store E x y,T,pos,after,guard⟩ L H (fun L1 H1=>L1=L∧H1=H'):=fun a w ha hs Kp hK=>af.st hz hx hy (hv.rd.one w hs) hi a w ha hs Kp hK
theorem af.vH{E:TypeId}{x y:Operand}{pos:String}{after:Array Edge}{guard:Option (Nat×Bool)}{b o i:Nat}{v:Value}{cs:List Value}{H':List aa}{enc:α→List Value}{k:Nat}{xs:List α}(hz:∀ w,(sizeOf E).run P w = .ok 1 w)(hx:ev L x=some (.pointer (some ⟨b,o+i,none⟩)))(hy:ev L y=some v)[hv:aI W H v enc k xs]
  [h0:aX H b o cs] [hr:bM H b o cs (cs.set i v) H'] (hi:Nat.blt i cs.length=true) :
  af P W N ⟨none,.store E x y,T,pos,after,guard⟩ L H (fun L1 H1=>L1=L∧H1=H'):=fun a w ha hs Kp hK=>af.Ij hz hx hy (hv.rd.one w hs) hi a w ha hs Kp hK
theorem af.nf{E:TypeId}{x y:Operand}{pos:String}{after:Array Edge}{guard:Option (Nat×Bool)}{b o:Nat}{v:Value}{cs:List Value}{H':List aa}{enc:α→List Value}{k:Nat}{xs:List α}(hz:∀ w,(sizeOf E).run P w = .ok 1 w)(hx:ev L x=some (.pointer (some ⟨b,o,none⟩)))(hy:ev L y=some v)[hv:aI W H v enc k xs]
  [h0:aX H b o cs] [hr:bM H b o cs (cs.set 0 v) H'] (hi:Nat.blt 0 cs.length=true) :
  af P W N ⟨none,.store E x y,T,pos,after,guard⟩ L H (fun L1 H1=>L1=L∧H1=H'):=fun a w ha hs Kp hK=>af.Ik hz hx hy (hv.rd.one w hs) hi a w ha hs Kp hK
theorem bu.fb{O:Array Oper}{ks:List Nat}{ops:List Oper}{p:Prop}(h:∀ w,Sat W w (seps H)→p)(k:p→bu P W N K O Q ks ops L H):bu P W N K O Q ks ops L H:=fun a w ha hs=>k (h w hs) a w ha hs
theorem Rd.nil{enc:α→List Value}{k:Nat}:Rd W H enc k (.slice none 0 0) ([]:List α):=fun w s=>⟨⟨none,0,rfl,Nat.le_refl _,fun _ e _=>(by cases e),fun _=>rfl⟩,fun x hx=>(by cases hx),fun i x hx=>(by simp at hx)⟩
theorem aK.Ks{H R As:List aa}(t:aK H As R):aK H (emp::As) R:=.conv (A:=seps []) (fun _ e=>e) (.lE .nil t)
theorem aK.two{H R R' As:List aa}{A B:aa}(t1:aK H [A,B] R)(t2:aK R As R'):aK H (sep A B::As) R':=.conv (A:=seps [A,B]) (fun _ a=>by simpa only[seps,aP] using a) (.lE t1 t2)
theorem aK.void{H R As:List aa}{enc:α→List Value}{k:Nat}{a:Option Addr}(t:aK H As R):aK H (sl enc k (.slice a 0 0) ([]:List α)::As) R :=
 .conv (A:=seps []) (fun _ e=>.inl ⟨⟨_,rfl⟩,rfl,e⟩) (.lE .nil t)
end
end Go.SLYtefdijgllbkmfaaGreat
namespace Go.SLYtefdijgllbkmfaaGreat
open Go Go.RowKit
theorem B0{α:Type}{f:α→aa}{n:Nat}{x:α}(h:∀ h,emp h→f x h):∀ h,emp h→aT f (List.replicate n x) h:=by
 induction n with
 | zero=>intro h e;exact e
 | succ n ih =>
  intro g e
  rw[List.replicate_succ,iN]
  have:sep emp emp g:=by rw[fK];exact e
  exact aS h ih g this
theorem aK.Kt{α:Type}{H R As:List aa}{f:α→aa}{n:Nat}{x:α}(h:∀ h,emp h→f x h)(t:aK H As R):aK H (aT f (List.replicate n x)::As) R:=.conv (A:=seps []) (B0 h) (.lE .nil t)
theorem nL{α:Type}{enc:α→List Value}{k:Nat}{a:Option Addr}:∀ h,emp h→sl enc k (.slice a 0 0) ([]:List α) h:=fun _ e=>.inl ⟨⟨_,rfl⟩,rfl,e⟩
def vI(ps:List (Option Nat))(ts:List (Option bo)):Prop:=ps.length=ts.length∧(∀ (n:Nat) (t:bo),ts[n]?=some (some t)→ ∃ p,ps[n]?=some (some p))∧ ∀ n:Nat,ts[n]?=some none→ps[n]?=some none
theorem iO{ps:List (Option Nat)}{ts:List (Option bo)}:∀ h,aE ps ts h→vI ps ts:=fun h a =>
 ⟨rN a,fun _n _t e=>let ⟨p,hp,_⟩:=lO e h a;⟨p,hp⟩,fun _n e=>pF e h a⟩
theorem B1{ps:List (Option Nat)}{ts:List (Option bo)}{n p:Nat}{t:bo}(hp:ps[n]?=some (some p))(ht:ts[n]?=some (some t)):∀ h,aE ps ts h→ ∃ J,sep (arr p 0 (bz t)) J h:=fun h a=>by
 obtain⟨q,hq,a'⟩:=lO ht h a
 rw[hp] at hq
 cases hq
 exact⟨_,a'⟩
def Ku(ps:List (Option Nat)):List Value :=
 [eJ (ps.getD 0 none),eJ (ps.getD 1 none),eJ (ps.getD 2 none),eJ (ps.getD 3 none),eJ (ps.getD 4 none),eJ (ps.getD 5 none),eJ (ps.getD 6 none),eJ (ps.getD 7 none),
  eJ (ps.getD 8 none),eJ (ps.getD 9 none),eJ (ps.getD 10 none),eJ (ps.getD 11 none),eJ (ps.getD 12 none),eJ (ps.getD 13 none),eJ (ps.getD 14 none),eJ (ps.getD 15 none)]
theorem DY(ps:List (Option Nat)):∀ {n:Nat} (_:n<16),(Ku ps)[n]?=some (eJ (ps.getD n none))
 | 0,_=>rfl
 | 1,_=>rfl
 | 2,_=>rfl
 | 3,_=>rfl
 | 4,_=>rfl
 | 5,_=>rfl
 | 6,_=>rfl
 | 7,_=>rfl
 | 8,_=>rfl
 | 9,_=>rfl
 | 10,_=>rfl
 | 11,_=>rfl
 | 12,_=>rfl
 | 13,_=>rfl
 | 14,_=>rfl
 | 15,_=>rfl
 | n+16,h=>absurd h (by omega)
section
variable{fv sv pv:Value}{p:eZ}{bt:Nat}{ps:List (Option Nat)}{vm:Value}{bg:Nat}{vt:Value}{bd bw:Nat}{vr:Value}
theorem eQ:∀ {n:Nat} (_:n<16),(fM fv sv pv p bt ps vm bg vt bd bw vr)[9+n]?=some (eJ (ps.getD n none))
 | 0,_=>rfl
 | 1,_=>rfl
 | 2,_=>rfl
 | 3,_=>rfl
 | 4,_=>rfl
 | 5,_=>rfl
 | 6,_=>rfl
 | 7,_=>rfl
 | 8,_=>rfl
 | 9,_=>rfl
 | 10,_=>rfl
 | 11,_=>rfl
 | 12,_=>rfl
 | 13,_=>rfl
 | 14,_=>rfl
 | 15,_=>rfl
 | n+16,h=>absurd h (by omega)
theorem B2{a0 a1 a2 a3 a4 a5 a6 a7 a8 a9 a10 a11 a12 a13 a14 a15:Option Nat}(q:Option Nat):∀ {n:Nat} (_:n<16),(fM fv sv pv p bt [a0,a1,a2,a3,a4,a5,a6,a7,a8,a9,a10,a11,a12,a13,a14,a15] vm bg vt bd bw vr).set (9+n) (eJ q)=fM fv sv pv p bt ([a0,a1,a2,a3,a4,a5,a6,a7,a8,a9,a10,a11,a12,a13,a14,a15].set n q) vm bg vt bd bw vr
 | 0,_=>rfl
 | 1,_=>rfl
 | 2,_=>rfl
 | 3,_=>rfl
 | 4,_=>rfl
 | 5,_=>rfl
 | 6,_=>rfl
 | 7,_=>rfl
 | 8,_=>rfl
 | 9,_=>rfl
 | 10,_=>rfl
 | 11,_=>rfl
 | 12,_=>rfl
 | 13,_=>rfl
 | 14,_=>rfl
 | 15,_=>rfl
 | n+16,h=>absurd h (by omega)
theorem xx{n:Nat}(h:n<16)(hl:ps.length=16)(q:Option Nat):(fM fv sv pv p bt ps vm bg vt bd bw vr).set (9+n) (eJ q)=fM fv sv pv p bt (ps.set n q) vm bg vt bd bw vr:=by
 match ps,hl with
 | [a0,a1,a2,a3,a4,a5,a6,a7,a8,a9,a10,a11,a12,a13,a14,a15],_=>exact B2 q h
end
/-! slots -/
def eC(l:List (Bool×Int)):Int×Int×Int×List (Bool×Int) :=
 match slotFree? l 0 with
 | none=>(0,0,2,l)
 | some n=>((n:Int),dq ((l.getD n (false,0)).2+1) n,0,l.set n (true,(l.getD n (false,0)).2+1))
theorem B3{l:List (Bool×Int)}{k:Nat}{o:Bool×Int}(h:l[k]?=some o)(hu:o.1=true):slotFree? (l.drop k) k=slotFree? (l.drop (k+1)) (k+1):=by rw[drop_cons h,slotFree?,if_pos hu]
theorem DZ{l:List (Bool×Int)}{k:Nat}{o:Bool×Int}(h:l[k]?=some o)(hu:o.1=false):slotFree? (l.drop k) k=some k:=by rw[drop_cons h,slotFree?,if_neg (by rw[hu];simp)]
theorem D0{l:List (Bool×Int)}{k:Nat}(h:l.length≤k):slotFree? (l.drop k) k=none:=by rw[List.drop_of_length_le h];rfl
def iX(l:List (Bool×Int)):Prop:=l.length≤1024∧ ∀ o∈l,0≤o.2∧o.2<1099511627776
def mu(l:List (Bool×Int))(ps:List (Option Nat))(p:Nat):List (Option Nat):=match slotFree? l 0 with | none=>ps | some n=>ps.set n (some p)
theorem zo{l:List (Option bo)}{k:Nat}(h:l[k]?=some none):readyFrom (l.drop k) k=readyFrom (l.drop (k+1)) (k+1):=by rw[drop_cons h,readyFrom]
theorem B4{l:List (Option bo)}{k:Nat}{t:bo}(h:l[k]?=some (some t))(hw:t.why=0):readyFrom (l.drop k) k=(k:Int)::readyFrom (l.drop (k+1)) (k+1):=by rw[drop_cons h,readyFrom,if_pos hw]
theorem D1{l:List (Option bo)}{k:Nat}{t:bo}(h:l[k]?=some (some t))(hw:¬t.why=0):readyFrom (l.drop k) k=readyFrom (l.drop (k+1)) (k+1):=by rw[drop_cons h,readyFrom,if_neg hw]
theorem B5{l:List (Option bo)}{k:Nat}(h:l.length≤k):readyFrom (l.drop k) k=[]:=by rw[List.drop_of_length_le h];rfl
theorem xy{l:List (Bool×Int)}(h:(eC l).2.2.1=0):∃ n,slotFree? l 0=some n∧eC l=((n:Int),dq ((l.getD n (false,0)).2+1) n,0,l.set n (true,(l.getD n (false,0)).2+1)):=by
 unfold eC at *
 cases e:slotFree? l 0 with
 | none=>rw[e] at h;cases h
 | some n=>exact⟨n,rfl,rfl⟩
theorem xz{l:List (Bool×Int)}(h:¬(eC l).2.2.1=0):slotFree? l 0=none∧eC l=(0,0,2,l):=by
 unfold eC at *
 cases e:slotFree? l 0 with
 | none=>exact⟨rfl,rfl⟩
 | some n=>rw[e] at h;exact absurd rfl h
theorem dX{s:Spc}{f arg:Int}{n:Nat}(h:slotFree? s.table 0=some n):s.begin f arg=((n:Int),0,{s with table:=s.table.set n (true,(s.table.getD n (false,0)).2+1),thr:=s.thr.set n (some (mP f arg (dq ((s.table.getD n (false,0)).2+1) n))) }):=by
 unfold Spc.begin;rw[h]
theorem iY{s:Spc}{f arg:Int}(h:slotFree? s.table 0=none):s.begin f arg=(0,2,s):=by unfold Spc.begin;rw[h]
theorem D2{ps:List (Option Nat)}{ts:List (Option bo)}{n p:Nat}{t:bo}(h:ts[n]?=some none):∀ g,seps [arr p 0 (bz t),aE ps ts] g→aE (ps.set n (some p)) (ts.set n (some t)) g:=fun g a=>nT h g (by simpa only[seps,aP] using a)
def AN(ts:List (Option bo))(k:Nat):Int:=match ts[k]? with | some (some t)=>t.why | _=>0
theorem zp{ts:List (Option bo)}{k:Nat}{t:bo}(h:ts[k]?=some (some t)):t.why=AN ts k:=by unfold AN;rw[h]
theorem tT{ps:List (Option Nat)}{ts:List (Option bo)}(hs:vI ps ts){k:Nat}(hk:k<ts.length){g:Nat→Addr}(h:((ps.getD k none).map g).isNone=false):∃ p t,ps[k]?=some (some p)∧ts[k]?=some (some t):=by
 obtain⟨x,hx⟩:=ay hk
 cases x with
 | none=>have:=hs.2.2 k hx;rw[List.getD_eq_getElem?_getD,this] at h;cases h
 | some t=>obtain⟨p,hp⟩:=hs.2.1 k t hx;exact⟨p,t,hp,hx⟩
theorem eL{α:Type}{l:List α}{k:Nat}{x d:α}(h:l[k]?=some x):l.getD k d=x:=by rw[List.getD_eq_getElem?_getD,h];rfl
theorem GA{ps:List (Option Nat)}{ts:List (Option bo)}(hs:vI ps ts){k:Nat}(hk:k<ts.length){g:Nat→Addr}(h:((ps.getD k none).map g).isNone=false∧AN ts k=0):readyFrom (ts.drop k) k=(k:Int)::readyFrom (ts.drop (k+1)) (k+1):=by
 obtain⟨p,t,hp,ht⟩:=tT hs hk h.1
 exact B4 ht ((zp ht).trans h.2)
theorem I1{ps:List (Option Nat)}{ts:List (Option bo)}(hs:vI ps ts){k:Nat}(hk:k<ts.length){g:Nat→Addr}(h:((ps.getD k none).map g).isNone=true∨¬AN ts k=0):readyFrom (ts.drop k) k=readyFrom (ts.drop (k+1)) (k+1):=by
 obtain⟨x,hx⟩:=ay hk
 cases x with
 | none=>exact zo hx
 | some t =>
  obtain⟨p,hp⟩:=hs.2.1 k t hx
  rcases h with h | h
  ·rw[eL hp] at h;cases h
  ·exact D1 hx (fun e=>h (by rw[← zp hx];exact e))
theorem zq{l:List Int}{k:Nat}{n:Int}(h:(l.take 4)[k]?=some n):((l.take 4).take (k+1)).map (fun n=>((Value.slice none 0 0:Value),(⟨[],bb n 1048576⟩:jr)))=((l.take 4).take k).map (fun n=>((Value.slice none 0 0:Value),(⟨[],bb n 1048576⟩:jr)))++[(Value.slice none 0 0,⟨[],bb n 1048576⟩)]:=by
 rw[cy h,List.map_append];rfl
theorem tB{α β:Type}{f:β→aa}{g:α→β}{l:List α}(h:∀ x h,emp h→f (g x) h):∀ h,emp h→aT f (l.map g) h:=by
 induction l with
 | nil=>intro h e;exact e
 | cons x l ih =>
  intro k e
  rw[List.map_cons,iN]
  have:sep emp emp k:=by rw[fK];exact e
  exact aS (h x) ih k this
theorem aK.allM{α β:Type}{H R As:List aa}{f:β→aa}{g:α→β}{l:List α}(h:∀ x h,emp h→f (g x) h)(t:aK H As R):aK H (aT f (l.map g)::As) R:=.conv (A:=seps []) (tB h) (.lE .nil t)
@[irreducible] def optH (f:Nat→aa) (o:Option Nat):aa:=match o with
 | none=>emp
 | some b=>f b
theorem aK.Kv{H R As:List aa}{f:Nat→aa}(t:aK H As R):aK H (optH f none::As) R:=.conv (A:=seps []) (fun _ e=>by unfold optH;exact e) (.lE .nil t)
theorem aK.Kw{H R As:List aa}{f:Nat→aa}{b:Nat}(t:aK H (f b::As) R):aK H (optH f (some b)::As) R:=.conv (A:=f b) (fun _ e=>by unfold optH;exact e) t
theorem rT{f:Nat→aa}{b:Nat}:∀ h,optH f (some b) h→seps [f b] h:=fun h a=>by unfold optH at a;simpa only[seps,aP] using a
theorem ng{p:eZ}(h:dD p=0):eg p=true:=by
 unfold dD at h
 by_cases hc:eg p=true
 ·exact hc
 ·rw[if_neg hc] at h;cases h
theorem GB{W:World}{H:List aa}{A:aa}{v:bN}(hp:fp W [A] v)(ha:At H A):∀ w,Sat W w (seps H)→ ∀ y∈v.fs, ∀ c∈cn y,c.oneCell'=true:=fun w s y hy c hc=>by
 simp only[cn,List.mem_cons,List.not_mem_nil,or_false] at hc
 subst hc
 exact((hp.ins y hy).at ha).one w s
def zr(p:eZ):Spc:=⟨p,List.replicate 16 (false,0),List.replicate 16 none,List.replicate p.words.toNat 0,Gates.new p.aB p.conds p.aU,p.aG.map Tub.new,jC.new p.blocks,j6.new,[]⟩
theorem B6(p:eZ):iX (zr p).table:=⟨by show(List.replicate 16 (false,(0:Int))).length≤1024;simp,fun o ho=>by rw[List.eq_of_mem_replicate ho];simp⟩
theorem B7(p:eZ):∀ n,slotFree? (zr p).table 0=some n→(zr p).thr[n]?=some none:=fun n h=>by
 have:n=0:=by simpa [zr,slotFree?] using h.symm
 subst this;rfl
theorem GC{α:Type}{cl fs:List α}{k:Nat}{x y:α}(hl:cl.length=k)(hx:fs[k]?=some x):(cl++fs.drop k).set k y=(cl++[y])++fs.drop (k+1):=by
 subst hl
 rw[drop_cons hx,List.set_append_right _ _ (Nat.le_refl _)]
 simp
theorem D3{α:Type}{cl fs:List α}{k:Nat}{x:α}(hl:cl.length=k)(hx:fs[k]?=some x):(cl++fs.drop k)[k]?=some x:=by
 subst hl
 rw[drop_cons hx,List.getElem?_append_right (Nat.le_refl _)]
 simp
theorem Rd.isSl{W:World}{H:List aa}{α:Type}{enc:α→List Value}{k:Nat}{v:Value}{xs:List α}(h:Rd W H enc k v xs):∀ w,Sat W w (seps H)→isSl v=true:=fun w s=>by
 obtain⟨⟨a,cap,hv,_⟩,_⟩:=h w s
 rw[hv];rfl
/-! a library -/
theorem kS{α β:Type}{f:α→β}{xs:List α}{ys:List β}(h:xs.map f=ys):xs.length=ys.length:=by rw[← h,List.length_map]
theorem nZ{α β:Type}{f:α→β}{xs:List α}{ys:List β}(h:xs.map f=ys){i:Nat}{x:α}(hx:xs[i]?=some x):ys[i]?=some (f x):=by rw[← h,List.getElem?_map,hx];rfl
end Go.SLYtefdijgllbkmfaaGreat
namespace Go.SLYtefdijgllbkmfaaGreat
open Go Go.RowKit
theorem At.auto{H:List aa}{A:aa}(t:At H A:=by repeat (first | exact At.here | refine At.there ?_)):At H A:=t
theorem Take.auto{H R:List aa}{A:aa}(t:Take H A R:=by repeat (first | exact Take.here | apply Take.there)):Take H A R:=t
theorem gG.auto{H H':List aa}{A B:aa}(t:gG H A B H':=by repeat (first | exact gG.here | apply gG.there)):gG H A B H':=t
theorem yY.auto{ks:List Nat}{L L':List (Nat×Option Value)}(t:yY ks L L':=by repeat (first | exact yY.base | refine yY.cons rfl ?_)):yY ks L L':=t
theorem Kept.auto{W:World}{H K:List aa}(t:Kept H K:=by repeat (first | exact Kept.nil | exact Take.here | apply Take.there | apply Kept.take)):∀ w,Sat W w (seps H)→Sat W w (seps K):=Kept.ok t
theorem aK.auto{H As R:List aa}(t:aK H As R:=by repeat (first | exact aK.nil | (apply aK.cons; · repeat (first | exact Take.here | apply Take.there)) | apply aK.Kv | apply aK.Kw | apply aK.void | apply aK.Ks | apply aK.two | (apply aK.Kt; · exact nL) | (apply aK.allM; · exact fun _=>nL) | apply aK.f1 rfl | apply aK.f2 rfl | apply aK.f3 rfl | apply aK.f4 rfl | apply aK.f10 rfl | apply aK.lE | assumption | exact trivial | rfl | omega)):aK H As R:=t
end Go.SLYtefdijgllbkmfaaGreat
namespace Go.SLYtefdijgllbkmfaaGreat
open Go Go.RowKit
/-! processors -/
theorem GD{W:World}{H:List aa}{A:aa}{v:bN}(hp:fp W [A] v)(ha:At H A):∀ w,Sat W w (seps H)→(eH v).all (·.oneCell')=true:=fun w s=>by
 have h1:=nX ((hp.fs.at ha).isSl w s)
 have h2:=nX ((hp.aU.at ha).isSl w s)
 have h3:=nX ((hp.aG.at ha).isSl w s)
 show(v.fv.oneCell' && (true && (true && (true && (v.sv.oneCell' && (v.pv.oneCell' && (true && (true && true))))))))=true
 rw[h1,h2,h3];rfl
def Il(l:Lib):Nat:=l.waiting.length+(l.vs.map (fun v=>v.evs.length)).sum
structure LC(m:Nat)(l:Lib):Prop where
 ev:Il l≤m
 vl:l.vs.length≤64
 th:l.qP.thr.length=16
structure Mx(m:Nat)(k:Mj):Prop where
 own:∀ v∈k.owner,v = -1∨(0≤v∧v<(k.libs.length:Int))
 ol:k.owner.length≤64
 ll:k.libs.length≤8
 Mz:∀ l∈k.libs,LC m l
theorem lP{α:Type}(l:List α)(i:Nat):cE l (i:Int)=l[i]?:=by unfold cE;rw[if_neg (by omega),Int.toNat_natCast]
theorem D4{l:List Nat}{n:Nat}(h:n∈l):n≤l.sum:=by
 induction l with
 | nil=>cases h
 | cons x l ih =>
  rw[List.sum_cons]
  rcases List.mem_cons.1 h with h | h
  ·omega
  ·have:=ih h;omega
theorem LC.e{m:Nat}{l:Lib}(h:LC m l):∀ v∈l.vs,v.evs.length≤m:=fun v hv=>by
 have:=h.ev;unfold Il at this
 have:=D4 (List.mem_map_of_mem (f:=fun v:Ll=>v.evs.length) hv)
 omega
end Go.SLYtefdijgllbkmfaaGreat
namespace Go.SLYtefdijgllbkmfaaGreat
open Go Go.RowKit
structure My(d:Deal):Prop where
 left:0≤d.left∧d.left≤64
 pl:d.prio.length=d.iC.length
 ol:d.out.length=d.iC.length
 dm:∀ z∈d.iC,z≤1000000
 om:∀ y∈d.out,0≤y
 dl:d.iC.length≤8
theorem rU{t:Int}{n:Nat}(hn:0<n):((t.tmod n+n).tmod n)=((pick t n:Nat):Int):=by
 unfold pick
 have h1 : -(n:Int)<t.tmod n:=Int.lt_tmod_of_pos t (show(0:Int)<n by omega)
 have h2:0≤(t.tmod n+n).tmod n:=Int.tmod_nonneg _ (by omega)
 omega
theorem fc{t:Int}{n:Nat}(hn:0<n):pick t n<n:=by
 have:=rU (t:=t) hn
 have h2:=Int.tmod_lt_of_pos (t.tmod n+n) (show(0:Int)<n by omega)
 omega
/-! what New makes -/
end Go.SLYtefdijgllbkmfaaGreat
