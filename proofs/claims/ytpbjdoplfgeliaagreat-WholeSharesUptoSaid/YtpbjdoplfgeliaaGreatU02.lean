/- Walks. Conditions: none. -/
import Derived.Test.YtpbjdoplfgeliaaGreatU01
import GoSem.Core.Float
namespace Go.SLYtpbjdoplfgeliaaGreat
open Go Go.RowKit
def jd{X1:Type}(p:X1→Prop)(A:X1→List aa):aa:=fun h=>∃ x1,p x1∧seps (A x1) h
def ot{X1 X2:Type}(p:X1→X2→Prop)(A:X1→X2→List aa):aa:=fun h=>∃ x1 x2,p x1 x2∧seps (A x1 x2) h
def zF{X1 X2 X3:Type}(p:X1→X2→X3→Prop)(A:X1→X2→X3→List aa):aa:=fun h=>∃ x1 x2 x3,p x1 x2 x3∧seps (A x1 x2 x3) h
def Gk{X1 X2 X3 X4:Type}(p:X1→X2→X3→X4→Prop)(A:X1→X2→X3→X4→List aa):aa:=fun h=>∃ x1 x2 x3 x4,p x1 x2 x3 x4∧seps (A x1 x2 x3 x4) h
def Gl{X1 X2 X3 X4 X5:Type}(p:X1→X2→X3→X4→X5→Prop)(A:X1→X2→X3→X4→X5→List aa):aa:=fun h=>∃ x1 x2 x3 x4 x5,p x1 x2 x3 x4 x5∧seps (A x1 x2 x3 x4 x5) h
def Gm{X1 X2 X3 X4 X5 X6:Type}(p:X1→X2→X3→X4→X5→X6→Prop)(A:X1→X2→X3→X4→X5→X6→List aa):aa:=fun h=>∃ x1 x2 x3 x4 x5 x6,p x1 x2 x3 x4 x5 x6∧seps (A x1 x2 x3 x4 x5 x6) h
def Gn{X1 X2 X3 X4 X5 X6 X7:Type}(p:X1→X2→X3→X4→X5→X6→X7→Prop)(A:X1→X2→X3→X4→X5→X6→X7→List aa):aa:=fun h=>∃ x1 x2 x3 x4 x5 x6 x7,p x1 x2 x3 x4 x5 x6 x7∧seps (A x1 x2 x3 x4 x5 x6 x7) h
def Gp{X1 X2 X3 X4 X5 X6 X7 X8:Type}(p:X1→X2→X3→X4→X5→X6→X7→X8→Prop)(A:X1→X2→X3→X4→X5→X6→X7→X8→List aa):aa:=fun h=>∃ x1 x2 x3 x4 x5 x6 x7 x8,p x1 x2 x3 x4 x5 x6 x7 x8∧seps (A x1 x2 x3 x4 x5 x6 x7 x8) h
def Gq{X1 X2 X3 X4 X5 X6 X7 X8 X9:Type}(p:X1→X2→X3→X4→X5→X6→X7→X8→X9→Prop)(A:X1→X2→X3→X4→X5→X6→X7→X8→X9→List aa):aa:=fun h=>∃ x1 x2 x3 x4 x5 x6 x7 x8 x9,p x1 x2 x3 x4 x5 x6 x7 x8 x9∧seps (A x1 x2 x3 x4 x5 x6 x7 x8 x9) h
def we{X1 X2 X3 X4 X5 X6 X7 X8 X9 X10:Type}(p:X1→X2→X3→X4→X5→X6→X7→X8→X9→X10→Prop)(A:X1→X2→X3→X4→X5→X6→X7→X8→X9→X10→List aa):aa:=fun h=>∃ x1 x2 x3 x4 x5 x6 x7 x8 x9 x10,p x1 x2 x3 x4 x5 x6 x7 x8 x9 x10∧seps (A x1 x2 x3 x4 x5 x6 x7 x8 x9 x10) h
def zG{X1 X2 X3 X4 X5 X6 X7 X8 X9 X10 X11:Type}(p:X1→X2→X3→X4→X5→X6→X7→X8→X9→X10→X11→Prop)(A:X1→X2→X3→X4→X5→X6→X7→X8→X9→X10→X11→List aa):aa:=fun h=>∃ x1 x2 x3 x4 x5 x6 x7 x8 x9 x10 x11,p x1 x2 x3 x4 x5 x6 x7 x8 x9 x10 x11∧seps (A x1 x2 x3 x4 x5 x6 x7 x8 x9 x10 x11) h
def zH{X1 X2 X3 X4 X5 X6 X7 X8 X9 X10 X11 X12:Type}(p:X1→X2→X3→X4→X5→X6→X7→X8→X9→X10→X11→X12→Prop)(A:X1→X2→X3→X4→X5→X6→X7→X8→X9→X10→X11→X12→List aa):aa:=fun h=>∃ x1 x2 x3 x4 x5 x6 x7 x8 x9 x10 x11 x12,p x1 x2 x3 x4 x5 x6 x7 x8 x9 x10 x11 x12∧seps (A x1 x2 x3 x4 x5 x6 x7 x8 x9 x10 x11 x12) h
inductive aw:List aa→List aa→List aa→Prop where
 | nil {H:List aa}:aw H [] H
 | cons {H R R':List aa} {A:aa} {As:List aa} (h:Take H A R) (t:aw R As R'):aw H (A::As) R'
 /-- a thing seen otherwise -/
 | conv {A B:aa} {H R As:List aa} (c:∀ h,A h→B h) (t:aw H (A::As) R):aw H (B::As) R
 | eX {H R R' Bs As:List aa} (t1:aw H Bs R) (t2:aw R As R'):aw H (seps Bs::As) R'
 | f1 {X1:Type} {p:X1→Prop} {A:X1→List aa} {C:aa} {H R R' As:List aa} (e:C=jd p A) (x1:X1) (t1:aw H (A x1) R) (t2:aw R As R') (hp:p x1):aw H (C::As) R'
 | f2 {X1 X2:Type} {p:X1→X2→Prop} {A:X1→X2→List aa} {C:aa} {H R R' As:List aa} (e:C=ot p A) (x1:X1) (x2:X2) (t1:aw H (A x1 x2) R) (t2:aw R As R') (hp:p x1 x2):aw H (C::As) R'
 | f3 {X1 X2 X3:Type} {p:X1→X2→X3→Prop} {A:X1→X2→X3→List aa} {C:aa} {H R R' As:List aa} (e:C=zF p A) (x1:X1) (x2:X2) (x3:X3) (t1:aw H (A x1 x2 x3) R) (t2:aw R As R') (hp:p x1 x2 x3):aw H (C::As) R'
 | f4 {X1 X2 X3 X4:Type} {p:X1→X2→X3→X4→Prop} {A:X1→X2→X3→X4→List aa} {C:aa} {H R R' As:List aa} (e:C=Gk p A) (x1:X1) (x2:X2) (x3:X3) (x4:X4) (t1:aw H (A x1 x2 x3 x4) R) (t2:aw R As R') (hp:p x1 x2 x3 x4):aw H (C::As) R'
 | f5 {X1 X2 X3 X4 X5:Type} {p:X1→X2→X3→X4→X5→Prop} {A:X1→X2→X3→X4→X5→List aa} {C:aa} {H R R' As:List aa} (e:C=Gl p A) (x1:X1) (x2:X2) (x3:X3) (x4:X4) (x5:X5) (t1:aw H (A x1 x2 x3 x4 x5) R) (t2:aw R As R') (hp:p x1 x2 x3 x4 x5):aw H (C::As) R'
 | f6 {X1 X2 X3 X4 X5 X6:Type} {p:X1→X2→X3→X4→X5→X6→Prop} {A:X1→X2→X3→X4→X5→X6→List aa} {C:aa} {H R R' As:List aa} (e:C=Gm p A) (x1:X1) (x2:X2) (x3:X3) (x4:X4) (x5:X5) (x6:X6) (t1:aw H (A x1 x2 x3 x4 x5 x6) R) (t2:aw R As R') (hp:p x1 x2 x3 x4 x5 x6):aw H (C::As) R'
 | f7 {X1 X2 X3 X4 X5 X6 X7:Type} {p:X1→X2→X3→X4→X5→X6→X7→Prop} {A:X1→X2→X3→X4→X5→X6→X7→List aa} {C:aa} {H R R' As:List aa} (e:C=Gn p A) (x1:X1) (x2:X2) (x3:X3) (x4:X4) (x5:X5) (x6:X6) (x7:X7) (t1:aw H (A x1 x2 x3 x4 x5 x6 x7) R) (t2:aw R As R') (hp:p x1 x2 x3 x4 x5 x6 x7):aw H (C::As) R'
 | f8 {X1 X2 X3 X4 X5 X6 X7 X8:Type} {p:X1→X2→X3→X4→X5→X6→X7→X8→Prop} {A:X1→X2→X3→X4→X5→X6→X7→X8→List aa} {C:aa} {H R R' As:List aa} (e:C=Gp p A) (x1:X1) (x2:X2) (x3:X3) (x4:X4) (x5:X5) (x6:X6) (x7:X7) (x8:X8) (t1:aw H (A x1 x2 x3 x4 x5 x6 x7 x8) R) (t2:aw R As R') (hp:p x1 x2 x3 x4 x5 x6 x7 x8):aw H (C::As) R'
 | f9 {X1 X2 X3 X4 X5 X6 X7 X8 X9:Type} {p:X1→X2→X3→X4→X5→X6→X7→X8→X9→Prop} {A:X1→X2→X3→X4→X5→X6→X7→X8→X9→List aa} {C:aa} {H R R' As:List aa} (e:C=Gq p A) (x1:X1) (x2:X2) (x3:X3) (x4:X4) (x5:X5) (x6:X6) (x7:X7) (x8:X8) (x9:X9) (t1:aw H (A x1 x2 x3 x4 x5 x6 x7 x8 x9) R) (t2:aw R As R') (hp:p x1 x2 x3 x4 x5 x6 x7 x8 x9):aw H (C::As) R'
 | f10 {X1 X2 X3 X4 X5 X6 X7 X8 X9 X10:Type} {p:X1→X2→X3→X4→X5→X6→X7→X8→X9→X10→Prop} {A:X1→X2→X3→X4→X5→X6→X7→X8→X9→X10→List aa} {C:aa} {H R R' As:List aa} (e:C=we p A) (x1:X1) (x2:X2) (x3:X3) (x4:X4) (x5:X5) (x6:X6) (x7:X7) (x8:X8) (x9:X9) (x10:X10) (t1:aw H (A x1 x2 x3 x4 x5 x6 x7 x8 x9 x10) R) (t2:aw R As R') (hp:p x1 x2 x3 x4 x5 x6 x7 x8 x9 x10):aw H (C::As) R'
 | f11 {X1 X2 X3 X4 X5 X6 X7 X8 X9 X10 X11:Type} {p:X1→X2→X3→X4→X5→X6→X7→X8→X9→X10→X11→Prop} {A:X1→X2→X3→X4→X5→X6→X7→X8→X9→X10→X11→List aa} {C:aa} {H R R' As:List aa} (e:C=zG p A) (x1:X1) (x2:X2) (x3:X3) (x4:X4) (x5:X5) (x6:X6) (x7:X7) (x8:X8) (x9:X9) (x10:X10) (x11:X11) (t1:aw H (A x1 x2 x3 x4 x5 x6 x7 x8 x9 x10 x11) R) (t2:aw R As R') (hp:p x1 x2 x3 x4 x5 x6 x7 x8 x9 x10 x11):aw H (C::As) R'
 | f12 {X1 X2 X3 X4 X5 X6 X7 X8 X9 X10 X11 X12:Type} {p:X1→X2→X3→X4→X5→X6→X7→X8→X9→X10→X11→X12→Prop} {A:X1→X2→X3→X4→X5→X6→X7→X8→X9→X10→X11→X12→List aa} {C:aa} {H R R' As:List aa} (e:C=zH p A) (x1:X1) (x2:X2) (x3:X3) (x4:X4) (x5:X5) (x6:X6) (x7:X7) (x8:X8) (x9:X9) (x10:X10) (x11:X11) (x12:X12) (t1:aw H (A x1 x2 x3 x4 x5 x6 x7 x8 x9 x10 x11 x12) R) (t2:aw R As R') (hp:p x1 x2 x3 x4 x5 x6 x7 x8 x9 x10 x11 x12):aw H (C::As) R'
theorem fk{B C D E F:aa}{h:jS}(a:sep B C h)(f:∀ h,B h→D h)(g:∀ h,C h→sep E F h):sep (sep D E) F h:=by
 rw[aU]
 exact bB f g h a
theorem aw.ok{H As R:List aa}(t:aw H As R):∀ h,seps H h→sep (seps As) (seps R) h:=by
 induction t with
 | nil=>intro h a;simp only[seps,jW];exact a
 | cons t _ ih=>intro h a;rw[t.seps] at a;exact fk a (fun _ h=>h) ih
 | conv c _ ih=>intro h a;exact bB (bB c (fun _ h=>h)) (fun _ h=>h) h (ih h a)
 | eX _ _ i1 i2=>intro h a;exact fk (i1 h a) (fun _ h=>h) i2
 | f1 e x1 _ _ hp i1 i2=>intro h a;subst e;exact fk (i1 h a) (fun _ h=>⟨x1,hp,h⟩) i2
 | f2 e x1 x2 _ _ hp i1 i2=>intro h a;subst e;exact fk (i1 h a) (fun _ h=>⟨x1,x2,hp,h⟩) i2
 | f3 e x1 x2 x3 _ _ hp i1 i2=>intro h a;subst e;exact fk (i1 h a) (fun _ h=>⟨x1,x2,x3,hp,h⟩) i2
 | f4 e x1 x2 x3 x4 _ _ hp i1 i2=>intro h a;subst e;exact fk (i1 h a) (fun _ h=>⟨x1,x2,x3,x4,hp,h⟩) i2
 | f5 e x1 x2 x3 x4 x5 _ _ hp i1 i2=>intro h a;subst e;exact fk (i1 h a) (fun _ h=>⟨x1,x2,x3,x4,x5,hp,h⟩) i2
 | f6 e x1 x2 x3 x4 x5 x6 _ _ hp i1 i2=>intro h a;subst e;exact fk (i1 h a) (fun _ h=>⟨x1,x2,x3,x4,x5,x6,hp,h⟩) i2
 | f7 e x1 x2 x3 x4 x5 x6 x7 _ _ hp i1 i2=>intro h a;subst e;exact fk (i1 h a) (fun _ h=>⟨x1,x2,x3,x4,x5,x6,x7,hp,h⟩) i2
 | f8 e x1 x2 x3 x4 x5 x6 x7 x8 _ _ hp i1 i2=>intro h a;subst e;exact fk (i1 h a) (fun _ h=>⟨x1,x2,x3,x4,x5,x6,x7,x8,hp,h⟩) i2
 | f9 e x1 x2 x3 x4 x5 x6 x7 x8 x9 _ _ hp i1 i2=>intro h a;subst e;exact fk (i1 h a) (fun _ h=>⟨x1,x2,x3,x4,x5,x6,x7,x8,x9,hp,h⟩) i2
 | f10 e x1 x2 x3 x4 x5 x6 x7 x8 x9 x10 _ _ hp i1 i2=>intro h a;subst e;exact fk (i1 h a) (fun _ h=>⟨x1,x2,x3,x4,x5,x6,x7,x8,x9,x10,hp,h⟩) i2
 | f11 e x1 x2 x3 x4 x5 x6 x7 x8 x9 x10 x11 _ _ hp i1 i2=>intro h a;subst e;exact fk (i1 h a) (fun _ h=>⟨x1,x2,x3,x4,x5,x6,x7,x8,x9,x10,x11,hp,h⟩) i2
 | f12 e x1 x2 x3 x4 x5 x6 x7 x8 x9 x10 x11 x12 _ _ hp i1 i2=>intro h a;subst e;exact fk (i1 h a) (fun _ h=>⟨x1,x2,x3,x4,x5,x6,x7,x8,x9,x10,x11,x12,hp,h⟩) i2
theorem gL.all(pre R:List aa):gL (pre++R) pre R:=by
 induction pre with
 | nil=>exact .nil
 | cons A r ih=>exact .cons .here ih
section
variable{P:Program}{W:World}{N:Nat}{Q:Exit→Act→World→Prop}{L:List (Nat×Option Value)}{H R K:List aa}{O:Array Oper}{T:TypeId}{ks:List Nat}{ops:List Oper}{C:aa}{X1 X2 X3 X4 X5 X6 X7 X8 X9 X10 X11 X12:Type}
theorem aw.sat{w:World}{As:List aa}(t:aw H As R)(s:Sat W w (seps H)):Sat W w (seps (As++R)):=by
 rw[ah];exact s.mono t.ok
theorem aw.kept{As:List aa}(t:aw H As R):∀ w,Sat W w (seps H)→Sat W w (seps As):=fun w s=>by
 have:=t.sat s
 rw[ah] at this
 exact this.left
theorem ak{w:World}{A:List aa}{F:aa}{R:List aa}(t:aw H (A++[F]) R)(s:Sat W w (seps H)):Sat W w (sep (seps A) F):=by
 have:=t.kept w s
 rw[ah] at this
 exact this.eq (by simp only[seps,aK])
theorem af.eD{f:FuncId}{xs:Array Operand}{ts:Array TypeId}{pos:String}{after:Array Edge}{guard:Option (Nat×Bool)}{d:Nat}{args:List Value}{pre R:List aa}{X:Type}{val:X→Value}{fact:X→Prop}{post:X→List aa}(hN:Nat.blt d N=true)
  (hc:∀ args w,(callFunc f args).run P w = .ok (.enter f args) w) (hx:evs L xs.toList=some args) (hfn:Fn P W f args pre X val fact post) (ht:aw H pre R) :
  af P W N ⟨some d,.call ⟨.value (.func f),xs,ts⟩,T,pos,after,guard⟩ L H (fun L1 H1=>∃ x,fact x∧L1=(d,some (val x))::L∧H1=post x++R):=fun a w ha hs =>
 af.call (H:=pre++R) hN hc hx hfn (gL.all pre R) a w ha (ht.sat hs)
theorem af.lh{f:FuncId}{g:Operand}{us cap:List Value}{xs:Array Operand}{ts:Array TypeId}{pos:String}{after:Array Edge}{guard:Option (Nat×Bool)}{d:Nat}{args:List Value}{pre R:List aa}{X:Type}{val:X→Value}{fact:X→Prop}{post:X→List aa}(hN:Nat.blt d N=true)
  (hg:ev L g=some (.func (.func f) us.toArray cap.toArray)) (hc:∀ args w,(callFunc f args).run P w = .ok (.enter f args) w) (hx:evs L xs.toList=some args) (hfn:Fn P W f (us++args++cap) pre X val fact post) (ht:aw H pre R) :
  af P W N ⟨some d,.call ⟨.value g,xs,ts⟩,T,pos,after,guard⟩ L H (fun L1 H1=>∃ x,fact x∧L1=(d,some (val x))::L∧H1=post x++R):=fun a w ha hs =>
 af.M5 (H:=pre++R) hN hg hc hx hfn (gL.all pre R) a w ha (ht.sat hs)
theorem ar.N3{c:Code}{As:List aa}(t:aw H As R)(k:ar P W N Q c L (As++R)):ar P W N Q c L H:=fun a w ha hs=>k a w ha (t.sat hs)
theorem ar.dL{c:Code}{As:List aa}(t:Take H (seps As) R)(k:ar P W N Q c L (As++R)):ar P W N Q c L H:=fun a w ha hs=>k a w ha (by rw[ah, ← t.seps];exact hs)
theorem ar.o1{c:Code}{p:X1→Prop}{A:X1→List aa}(t:Take H C R)(e:C=jd p A)(k:∀ x1,p x1→ar P W N Q c L (A x1++R)):ar P W N Q c L H:=fun a w ha hs=>by
 rw[t.seps] at hs
 subst e
 obtain⟨h,⟨h1,h2,⟨x1,hp,a1⟩,r,d,e'⟩,hin⟩:=hs.own
 exact k x1 hp a w ha (by rw[ah];exact {hs with own:=⟨h,⟨h1,h2,a1,r,d,e'⟩,hin⟩ })
theorem ar.o2{c:Code}{p:X1→X2→Prop}{A:X1→X2→List aa}(t:Take H C R)(e:C=ot p A)(k:∀ x1 x2,p x1 x2→ar P W N Q c L (A x1 x2++R)):ar P W N Q c L H:=fun a w ha hs=>by
 rw[t.seps] at hs
 subst e
 obtain⟨h,⟨h1,h2,⟨x1,x2,hp,a1⟩,r,d,e'⟩,hin⟩:=hs.own
 exact k x1 x2 hp a w ha (by rw[ah];exact {hs with own:=⟨h,⟨h1,h2,a1,r,d,e'⟩,hin⟩ })
theorem ar.o3{c:Code}{p:X1→X2→X3→Prop}{A:X1→X2→X3→List aa}(t:Take H C R)(e:C=zF p A)(k:∀ x1 x2 x3,p x1 x2 x3→ar P W N Q c L (A x1 x2 x3++R)):ar P W N Q c L H:=fun a w ha hs=>by
 rw[t.seps] at hs
 subst e
 obtain⟨h,⟨h1,h2,⟨x1,x2,x3,hp,a1⟩,r,d,e'⟩,hin⟩:=hs.own
 exact k x1 x2 x3 hp a w ha (by rw[ah];exact {hs with own:=⟨h,⟨h1,h2,a1,r,d,e'⟩,hin⟩ })
theorem ar.o4{c:Code}{p:X1→X2→X3→X4→Prop}{A:X1→X2→X3→X4→List aa}(t:Take H C R)(e:C=Gk p A)(k:∀ x1 x2 x3 x4,p x1 x2 x3 x4→ar P W N Q c L (A x1 x2 x3 x4++R)):ar P W N Q c L H:=fun a w ha hs=>by
 rw[t.seps] at hs
 subst e
 obtain⟨h,⟨h1,h2,⟨x1,x2,x3,x4,hp,a1⟩,r,d,e'⟩,hin⟩:=hs.own
 exact k x1 x2 x3 x4 hp a w ha (by rw[ah];exact {hs with own:=⟨h,⟨h1,h2,a1,r,d,e'⟩,hin⟩ })
theorem ar.o5{c:Code}{p:X1→X2→X3→X4→X5→Prop}{A:X1→X2→X3→X4→X5→List aa}(t:Take H C R)(e:C=Gl p A)(k:∀ x1 x2 x3 x4 x5,p x1 x2 x3 x4 x5→ar P W N Q c L (A x1 x2 x3 x4 x5++R)):ar P W N Q c L H:=fun a w ha hs=>by
 rw[t.seps] at hs
 subst e
 obtain⟨h,⟨h1,h2,⟨x1,x2,x3,x4,x5,hp,a1⟩,r,d,e'⟩,hin⟩:=hs.own
 exact k x1 x2 x3 x4 x5 hp a w ha (by rw[ah];exact {hs with own:=⟨h,⟨h1,h2,a1,r,d,e'⟩,hin⟩ })
theorem ar.o6{c:Code}{p:X1→X2→X3→X4→X5→X6→Prop}{A:X1→X2→X3→X4→X5→X6→List aa}(t:Take H C R)(e:C=Gm p A)(k:∀ x1 x2 x3 x4 x5 x6,p x1 x2 x3 x4 x5 x6→ar P W N Q c L (A x1 x2 x3 x4 x5 x6++R)):ar P W N Q c L H:=fun a w ha hs=>by
 rw[t.seps] at hs
 subst e
 obtain⟨h,⟨h1,h2,⟨x1,x2,x3,x4,x5,x6,hp,a1⟩,r,d,e'⟩,hin⟩:=hs.own
 exact k x1 x2 x3 x4 x5 x6 hp a w ha (by rw[ah];exact {hs with own:=⟨h,⟨h1,h2,a1,r,d,e'⟩,hin⟩ })
theorem ar.o7{c:Code}{p:X1→X2→X3→X4→X5→X6→X7→Prop}{A:X1→X2→X3→X4→X5→X6→X7→List aa}(t:Take H C R)(e:C=Gn p A)(k:∀ x1 x2 x3 x4 x5 x6 x7,p x1 x2 x3 x4 x5 x6 x7→ar P W N Q c L (A x1 x2 x3 x4 x5 x6 x7++R)):ar P W N Q c L H:=fun a w ha hs=>by
 rw[t.seps] at hs
 subst e
 obtain⟨h,⟨h1,h2,⟨x1,x2,x3,x4,x5,x6,x7,hp,a1⟩,r,d,e'⟩,hin⟩:=hs.own
 exact k x1 x2 x3 x4 x5 x6 x7 hp a w ha (by rw[ah];exact {hs with own:=⟨h,⟨h1,h2,a1,r,d,e'⟩,hin⟩ })
theorem ar.o8{c:Code}{p:X1→X2→X3→X4→X5→X6→X7→X8→Prop}{A:X1→X2→X3→X4→X5→X6→X7→X8→List aa}(t:Take H C R)(e:C=Gp p A)(k:∀ x1 x2 x3 x4 x5 x6 x7 x8,p x1 x2 x3 x4 x5 x6 x7 x8→ar P W N Q c L (A x1 x2 x3 x4 x5 x6 x7 x8++R)):ar P W N Q c L H:=fun a w ha hs=>by
 rw[t.seps] at hs
 subst e
 obtain⟨h,⟨h1,h2,⟨x1,x2,x3,x4,x5,x6,x7,x8,hp,a1⟩,r,d,e'⟩,hin⟩:=hs.own
 exact k x1 x2 x3 x4 x5 x6 x7 x8 hp a w ha (by rw[ah];exact {hs with own:=⟨h,⟨h1,h2,a1,r,d,e'⟩,hin⟩ })
theorem ar.o9{c:Code}{p:X1→X2→X3→X4→X5→X6→X7→X8→X9→Prop}{A:X1→X2→X3→X4→X5→X6→X7→X8→X9→List aa}(t:Take H C R)(e:C=Gq p A)(k:∀ x1 x2 x3 x4 x5 x6 x7 x8 x9,p x1 x2 x3 x4 x5 x6 x7 x8 x9→ar P W N Q c L (A x1 x2 x3 x4 x5 x6 x7 x8 x9++R)):ar P W N Q c L H:=fun a w ha hs=>by
 rw[t.seps] at hs
 subst e
 obtain⟨h,⟨h1,h2,⟨x1,x2,x3,x4,x5,x6,x7,x8,x9,hp,a1⟩,r,d,e'⟩,hin⟩:=hs.own
 exact k x1 x2 x3 x4 x5 x6 x7 x8 x9 hp a w ha (by rw[ah];exact {hs with own:=⟨h,⟨h1,h2,a1,r,d,e'⟩,hin⟩ })
theorem ar.jw{c:Code}{p:X1→X2→X3→X4→X5→X6→X7→X8→X9→X10→Prop}{A:X1→X2→X3→X4→X5→X6→X7→X8→X9→X10→List aa}(t:Take H C R)(e:C=we p A)(k:∀ x1 x2 x3 x4 x5 x6 x7 x8 x9 x10,p x1 x2 x3 x4 x5 x6 x7 x8 x9 x10→ar P W N Q c L (A x1 x2 x3 x4 x5 x6 x7 x8 x9 x10++R)):ar P W N Q c L H:=fun a w ha hs=>by
 rw[t.seps] at hs
 subst e
 obtain⟨h,⟨h1,h2,⟨x1,x2,x3,x4,x5,x6,x7,x8,x9,x10,hp,a1⟩,r,d,e'⟩,hin⟩:=hs.own
 exact k x1 x2 x3 x4 x5 x6 x7 x8 x9 x10 hp a w ha (by rw[ah];exact {hs with own:=⟨h,⟨h1,h2,a1,r,d,e'⟩,hin⟩ })
theorem ar.Ob{c:Code}{p:X1→X2→X3→X4→X5→X6→X7→X8→X9→X10→X11→Prop}{A:X1→X2→X3→X4→X5→X6→X7→X8→X9→X10→X11→List aa}(t:Take H C R)(e:C=zG p A)(k:∀ x1 x2 x3 x4 x5 x6 x7 x8 x9 x10 x11,p x1 x2 x3 x4 x5 x6 x7 x8 x9 x10 x11→ar P W N Q c L (A x1 x2 x3 x4 x5 x6 x7 x8 x9 x10 x11++R)):ar P W N Q c L H:=fun a w ha hs=>by
 rw[t.seps] at hs
 subst e
 obtain⟨h,⟨h1,h2,⟨x1,x2,x3,x4,x5,x6,x7,x8,x9,x10,x11,hp,a1⟩,r,d,e'⟩,hin⟩:=hs.own
 exact k x1 x2 x3 x4 x5 x6 x7 x8 x9 x10 x11 hp a w ha (by rw[ah];exact {hs with own:=⟨h,⟨h1,h2,a1,r,d,e'⟩,hin⟩ })
theorem ar.Oc{c:Code}{p:X1→X2→X3→X4→X5→X6→X7→X8→X9→X10→X11→X12→Prop}{A:X1→X2→X3→X4→X5→X6→X7→X8→X9→X10→X11→X12→List aa}(t:Take H C R)(e:C=zH p A)(k:∀ x1 x2 x3 x4 x5 x6 x7 x8 x9 x10 x11 x12,p x1 x2 x3 x4 x5 x6 x7 x8 x9 x10 x11 x12→ar P W N Q c L (A x1 x2 x3 x4 x5 x6 x7 x8 x9 x10 x11 x12++R)):ar P W N Q c L H:=fun a w ha hs=>by
 rw[t.seps] at hs
 subst e
 obtain⟨h,⟨h1,h2,⟨x1,x2,x3,x4,x5,x6,x7,x8,x9,x10,x11,x12,hp,a1⟩,r,d,e'⟩,hin⟩:=hs.own
 exact k x1 x2 x3 x4 x5 x6 x7 x8 x9 x10 x11 x12 hp a w ha (by rw[ah];exact {hs with own:=⟨h,⟨h1,h2,a1,r,d,e'⟩,hin⟩ })
theorem aR.N3{As:List aa}(t:aw H As R)(k:aR P W N O Q ops L (As++R)):aR P W N O Q ops L H:=fun a w ha hs=>k a w ha (t.sat hs)
theorem aR.dL{As:List aa}(t:Take H (seps As) R)(k:aR P W N O Q ops L (As++R)):aR P W N O Q ops L H:=fun a w ha hs=>k a w ha (by rw[ah, ← t.seps];exact hs)
theorem aR.o1{p:X1→Prop}{A:X1→List aa}(t:Take H C R)(e:C=jd p A)(k:∀ x1,p x1→aR P W N O Q ops L (A x1++R)):aR P W N O Q ops L H:=fun a w ha hs=>by
 rw[t.seps] at hs
 subst e
 obtain⟨h,⟨h1,h2,⟨x1,hp,a1⟩,r,d,e'⟩,hin⟩:=hs.own
 exact k x1 hp a w ha (by rw[ah];exact {hs with own:=⟨h,⟨h1,h2,a1,r,d,e'⟩,hin⟩ })
theorem aR.o2{p:X1→X2→Prop}{A:X1→X2→List aa}(t:Take H C R)(e:C=ot p A)(k:∀ x1 x2,p x1 x2→aR P W N O Q ops L (A x1 x2++R)):aR P W N O Q ops L H:=fun a w ha hs=>by
 rw[t.seps] at hs
 subst e
 obtain⟨h,⟨h1,h2,⟨x1,x2,hp,a1⟩,r,d,e'⟩,hin⟩:=hs.own
 exact k x1 x2 hp a w ha (by rw[ah];exact {hs with own:=⟨h,⟨h1,h2,a1,r,d,e'⟩,hin⟩ })
theorem aR.o3{p:X1→X2→X3→Prop}{A:X1→X2→X3→List aa}(t:Take H C R)(e:C=zF p A)(k:∀ x1 x2 x3,p x1 x2 x3→aR P W N O Q ops L (A x1 x2 x3++R)):aR P W N O Q ops L H:=fun a w ha hs=>by
 rw[t.seps] at hs
 subst e
 obtain⟨h,⟨h1,h2,⟨x1,x2,x3,hp,a1⟩,r,d,e'⟩,hin⟩:=hs.own
 exact k x1 x2 x3 hp a w ha (by rw[ah];exact {hs with own:=⟨h,⟨h1,h2,a1,r,d,e'⟩,hin⟩ })
theorem aR.o4{p:X1→X2→X3→X4→Prop}{A:X1→X2→X3→X4→List aa}(t:Take H C R)(e:C=Gk p A)(k:∀ x1 x2 x3 x4,p x1 x2 x3 x4→aR P W N O Q ops L (A x1 x2 x3 x4++R)):aR P W N O Q ops L H:=fun a w ha hs=>by
 rw[t.seps] at hs
 subst e
 obtain⟨h,⟨h1,h2,⟨x1,x2,x3,x4,hp,a1⟩,r,d,e'⟩,hin⟩:=hs.own
 exact k x1 x2 x3 x4 hp a w ha (by rw[ah];exact {hs with own:=⟨h,⟨h1,h2,a1,r,d,e'⟩,hin⟩ })
theorem aR.o5{p:X1→X2→X3→X4→X5→Prop}{A:X1→X2→X3→X4→X5→List aa}(t:Take H C R)(e:C=Gl p A)(k:∀ x1 x2 x3 x4 x5,p x1 x2 x3 x4 x5→aR P W N O Q ops L (A x1 x2 x3 x4 x5++R)):aR P W N O Q ops L H:=fun a w ha hs=>by
 rw[t.seps] at hs
 subst e
 obtain⟨h,⟨h1,h2,⟨x1,x2,x3,x4,x5,hp,a1⟩,r,d,e'⟩,hin⟩:=hs.own
 exact k x1 x2 x3 x4 x5 hp a w ha (by rw[ah];exact {hs with own:=⟨h,⟨h1,h2,a1,r,d,e'⟩,hin⟩ })
theorem aR.o6{p:X1→X2→X3→X4→X5→X6→Prop}{A:X1→X2→X3→X4→X5→X6→List aa}(t:Take H C R)(e:C=Gm p A)(k:∀ x1 x2 x3 x4 x5 x6,p x1 x2 x3 x4 x5 x6→aR P W N O Q ops L (A x1 x2 x3 x4 x5 x6++R)):aR P W N O Q ops L H:=fun a w ha hs=>by
 rw[t.seps] at hs
 subst e
 obtain⟨h,⟨h1,h2,⟨x1,x2,x3,x4,x5,x6,hp,a1⟩,r,d,e'⟩,hin⟩:=hs.own
 exact k x1 x2 x3 x4 x5 x6 hp a w ha (by rw[ah];exact {hs with own:=⟨h,⟨h1,h2,a1,r,d,e'⟩,hin⟩ })
theorem aR.o7{p:X1→X2→X3→X4→X5→X6→X7→Prop}{A:X1→X2→X3→X4→X5→X6→X7→List aa}(t:Take H C R)(e:C=Gn p A)(k:∀ x1 x2 x3 x4 x5 x6 x7,p x1 x2 x3 x4 x5 x6 x7→aR P W N O Q ops L (A x1 x2 x3 x4 x5 x6 x7++R)):aR P W N O Q ops L H:=fun a w ha hs=>by
 rw[t.seps] at hs
 subst e
 obtain⟨h,⟨h1,h2,⟨x1,x2,x3,x4,x5,x6,x7,hp,a1⟩,r,d,e'⟩,hin⟩:=hs.own
 exact k x1 x2 x3 x4 x5 x6 x7 hp a w ha (by rw[ah];exact {hs with own:=⟨h,⟨h1,h2,a1,r,d,e'⟩,hin⟩ })
theorem aR.o8{p:X1→X2→X3→X4→X5→X6→X7→X8→Prop}{A:X1→X2→X3→X4→X5→X6→X7→X8→List aa}(t:Take H C R)(e:C=Gp p A)(k:∀ x1 x2 x3 x4 x5 x6 x7 x8,p x1 x2 x3 x4 x5 x6 x7 x8→aR P W N O Q ops L (A x1 x2 x3 x4 x5 x6 x7 x8++R)):aR P W N O Q ops L H:=fun a w ha hs=>by
 rw[t.seps] at hs
 subst e
 obtain⟨h,⟨h1,h2,⟨x1,x2,x3,x4,x5,x6,x7,x8,hp,a1⟩,r,d,e'⟩,hin⟩:=hs.own
 exact k x1 x2 x3 x4 x5 x6 x7 x8 hp a w ha (by rw[ah];exact {hs with own:=⟨h,⟨h1,h2,a1,r,d,e'⟩,hin⟩ })
theorem aR.o9{p:X1→X2→X3→X4→X5→X6→X7→X8→X9→Prop}{A:X1→X2→X3→X4→X5→X6→X7→X8→X9→List aa}(t:Take H C R)(e:C=Gq p A)(k:∀ x1 x2 x3 x4 x5 x6 x7 x8 x9,p x1 x2 x3 x4 x5 x6 x7 x8 x9→aR P W N O Q ops L (A x1 x2 x3 x4 x5 x6 x7 x8 x9++R)):aR P W N O Q ops L H:=fun a w ha hs=>by
 rw[t.seps] at hs
 subst e
 obtain⟨h,⟨h1,h2,⟨x1,x2,x3,x4,x5,x6,x7,x8,x9,hp,a1⟩,r,d,e'⟩,hin⟩:=hs.own
 exact k x1 x2 x3 x4 x5 x6 x7 x8 x9 hp a w ha (by rw[ah];exact {hs with own:=⟨h,⟨h1,h2,a1,r,d,e'⟩,hin⟩ })
theorem aR.jw{p:X1→X2→X3→X4→X5→X6→X7→X8→X9→X10→Prop}{A:X1→X2→X3→X4→X5→X6→X7→X8→X9→X10→List aa}(t:Take H C R)(e:C=we p A)(k:∀ x1 x2 x3 x4 x5 x6 x7 x8 x9 x10,p x1 x2 x3 x4 x5 x6 x7 x8 x9 x10→aR P W N O Q ops L (A x1 x2 x3 x4 x5 x6 x7 x8 x9 x10++R)):aR P W N O Q ops L H:=fun a w ha hs=>by
 rw[t.seps] at hs
 subst e
 obtain⟨h,⟨h1,h2,⟨x1,x2,x3,x4,x5,x6,x7,x8,x9,x10,hp,a1⟩,r,d,e'⟩,hin⟩:=hs.own
 exact k x1 x2 x3 x4 x5 x6 x7 x8 x9 x10 hp a w ha (by rw[ah];exact {hs with own:=⟨h,⟨h1,h2,a1,r,d,e'⟩,hin⟩ })
theorem aR.Ob{p:X1→X2→X3→X4→X5→X6→X7→X8→X9→X10→X11→Prop}{A:X1→X2→X3→X4→X5→X6→X7→X8→X9→X10→X11→List aa}(t:Take H C R)(e:C=zG p A)(k:∀ x1 x2 x3 x4 x5 x6 x7 x8 x9 x10 x11,p x1 x2 x3 x4 x5 x6 x7 x8 x9 x10 x11→aR P W N O Q ops L (A x1 x2 x3 x4 x5 x6 x7 x8 x9 x10 x11++R)):aR P W N O Q ops L H:=fun a w ha hs=>by
 rw[t.seps] at hs
 subst e
 obtain⟨h,⟨h1,h2,⟨x1,x2,x3,x4,x5,x6,x7,x8,x9,x10,x11,hp,a1⟩,r,d,e'⟩,hin⟩:=hs.own
 exact k x1 x2 x3 x4 x5 x6 x7 x8 x9 x10 x11 hp a w ha (by rw[ah];exact {hs with own:=⟨h,⟨h1,h2,a1,r,d,e'⟩,hin⟩ })
theorem aR.Oc{p:X1→X2→X3→X4→X5→X6→X7→X8→X9→X10→X11→X12→Prop}{A:X1→X2→X3→X4→X5→X6→X7→X8→X9→X10→X11→X12→List aa}(t:Take H C R)(e:C=zH p A)(k:∀ x1 x2 x3 x4 x5 x6 x7 x8 x9 x10 x11 x12,p x1 x2 x3 x4 x5 x6 x7 x8 x9 x10 x11 x12→aR P W N O Q ops L (A x1 x2 x3 x4 x5 x6 x7 x8 x9 x10 x11 x12++R)):aR P W N O Q ops L H:=fun a w ha hs=>by
 rw[t.seps] at hs
 subst e
 obtain⟨h,⟨h1,h2,⟨x1,x2,x3,x4,x5,x6,x7,x8,x9,x10,x11,x12,hp,a1⟩,r,d,e'⟩,hin⟩:=hs.own
 exact k x1 x2 x3 x4 x5 x6 x7 x8 x9 x10 x11 x12 hp a w ha (by rw[ah];exact {hs with own:=⟨h,⟨h1,h2,a1,r,d,e'⟩,hin⟩ })
theorem bm.N3{As:List aa}(t:aw H As R)(k:bm P W N K O Q ks ops L (As++R)):bm P W N K O Q ks ops L H:=fun a w ha hs=>k a w ha (t.sat hs)
theorem bm.dL{As:List aa}(t:Take H (seps As) R)(k:bm P W N K O Q ks ops L (As++R)):bm P W N K O Q ks ops L H:=fun a w ha hs=>k a w ha (by rw[ah, ← t.seps];exact hs)
theorem bm.o1{p:X1→Prop}{A:X1→List aa}(t:Take H C R)(e:C=jd p A)(k:∀ x1,p x1→bm P W N K O Q ks ops L (A x1++R)):bm P W N K O Q ks ops L H:=fun a w ha hs=>by
 rw[t.seps] at hs
 subst e
 obtain⟨h,⟨h1,h2,⟨x1,hp,a1⟩,r,d,e'⟩,hin⟩:=hs.own
 exact k x1 hp a w ha (by rw[ah];exact {hs with own:=⟨h,⟨h1,h2,a1,r,d,e'⟩,hin⟩ })
theorem bm.o2{p:X1→X2→Prop}{A:X1→X2→List aa}(t:Take H C R)(e:C=ot p A)(k:∀ x1 x2,p x1 x2→bm P W N K O Q ks ops L (A x1 x2++R)):bm P W N K O Q ks ops L H:=fun a w ha hs=>by
 rw[t.seps] at hs
 subst e
 obtain⟨h,⟨h1,h2,⟨x1,x2,hp,a1⟩,r,d,e'⟩,hin⟩:=hs.own
 exact k x1 x2 hp a w ha (by rw[ah];exact {hs with own:=⟨h,⟨h1,h2,a1,r,d,e'⟩,hin⟩ })
theorem bm.o3{p:X1→X2→X3→Prop}{A:X1→X2→X3→List aa}(t:Take H C R)(e:C=zF p A)(k:∀ x1 x2 x3,p x1 x2 x3→bm P W N K O Q ks ops L (A x1 x2 x3++R)):bm P W N K O Q ks ops L H:=fun a w ha hs=>by
 rw[t.seps] at hs
 subst e
 obtain⟨h,⟨h1,h2,⟨x1,x2,x3,hp,a1⟩,r,d,e'⟩,hin⟩:=hs.own
 exact k x1 x2 x3 hp a w ha (by rw[ah];exact {hs with own:=⟨h,⟨h1,h2,a1,r,d,e'⟩,hin⟩ })
theorem bm.o4{p:X1→X2→X3→X4→Prop}{A:X1→X2→X3→X4→List aa}(t:Take H C R)(e:C=Gk p A)(k:∀ x1 x2 x3 x4,p x1 x2 x3 x4→bm P W N K O Q ks ops L (A x1 x2 x3 x4++R)):bm P W N K O Q ks ops L H:=fun a w ha hs=>by
 rw[t.seps] at hs
 subst e
 obtain⟨h,⟨h1,h2,⟨x1,x2,x3,x4,hp,a1⟩,r,d,e'⟩,hin⟩:=hs.own
 exact k x1 x2 x3 x4 hp a w ha (by rw[ah];exact {hs with own:=⟨h,⟨h1,h2,a1,r,d,e'⟩,hin⟩ })
theorem bm.o5{p:X1→X2→X3→X4→X5→Prop}{A:X1→X2→X3→X4→X5→List aa}(t:Take H C R)(e:C=Gl p A)(k:∀ x1 x2 x3 x4 x5,p x1 x2 x3 x4 x5→bm P W N K O Q ks ops L (A x1 x2 x3 x4 x5++R)):bm P W N K O Q ks ops L H:=fun a w ha hs=>by
 rw[t.seps] at hs
 subst e
 obtain⟨h,⟨h1,h2,⟨x1,x2,x3,x4,x5,hp,a1⟩,r,d,e'⟩,hin⟩:=hs.own
 exact k x1 x2 x3 x4 x5 hp a w ha (by rw[ah];exact {hs with own:=⟨h,⟨h1,h2,a1,r,d,e'⟩,hin⟩ })
theorem bm.o6{p:X1→X2→X3→X4→X5→X6→Prop}{A:X1→X2→X3→X4→X5→X6→List aa}(t:Take H C R)(e:C=Gm p A)(k:∀ x1 x2 x3 x4 x5 x6,p x1 x2 x3 x4 x5 x6→bm P W N K O Q ks ops L (A x1 x2 x3 x4 x5 x6++R)):bm P W N K O Q ks ops L H:=fun a w ha hs=>by
 rw[t.seps] at hs
 subst e
 obtain⟨h,⟨h1,h2,⟨x1,x2,x3,x4,x5,x6,hp,a1⟩,r,d,e'⟩,hin⟩:=hs.own
 exact k x1 x2 x3 x4 x5 x6 hp a w ha (by rw[ah];exact {hs with own:=⟨h,⟨h1,h2,a1,r,d,e'⟩,hin⟩ })
theorem bm.o7{p:X1→X2→X3→X4→X5→X6→X7→Prop}{A:X1→X2→X3→X4→X5→X6→X7→List aa}(t:Take H C R)(e:C=Gn p A)(k:∀ x1 x2 x3 x4 x5 x6 x7,p x1 x2 x3 x4 x5 x6 x7→bm P W N K O Q ks ops L (A x1 x2 x3 x4 x5 x6 x7++R)):bm P W N K O Q ks ops L H:=fun a w ha hs=>by
 rw[t.seps] at hs
 subst e
 obtain⟨h,⟨h1,h2,⟨x1,x2,x3,x4,x5,x6,x7,hp,a1⟩,r,d,e'⟩,hin⟩:=hs.own
 exact k x1 x2 x3 x4 x5 x6 x7 hp a w ha (by rw[ah];exact {hs with own:=⟨h,⟨h1,h2,a1,r,d,e'⟩,hin⟩ })
theorem bm.o8{p:X1→X2→X3→X4→X5→X6→X7→X8→Prop}{A:X1→X2→X3→X4→X5→X6→X7→X8→List aa}(t:Take H C R)(e:C=Gp p A)(k:∀ x1 x2 x3 x4 x5 x6 x7 x8,p x1 x2 x3 x4 x5 x6 x7 x8→bm P W N K O Q ks ops L (A x1 x2 x3 x4 x5 x6 x7 x8++R)):bm P W N K O Q ks ops L H:=fun a w ha hs=>by
 rw[t.seps] at hs
 subst e
 obtain⟨h,⟨h1,h2,⟨x1,x2,x3,x4,x5,x6,x7,x8,hp,a1⟩,r,d,e'⟩,hin⟩:=hs.own
 exact k x1 x2 x3 x4 x5 x6 x7 x8 hp a w ha (by rw[ah];exact {hs with own:=⟨h,⟨h1,h2,a1,r,d,e'⟩,hin⟩ })
theorem bm.o9{p:X1→X2→X3→X4→X5→X6→X7→X8→X9→Prop}{A:X1→X2→X3→X4→X5→X6→X7→X8→X9→List aa}(t:Take H C R)(e:C=Gq p A)(k:∀ x1 x2 x3 x4 x5 x6 x7 x8 x9,p x1 x2 x3 x4 x5 x6 x7 x8 x9→bm P W N K O Q ks ops L (A x1 x2 x3 x4 x5 x6 x7 x8 x9++R)):bm P W N K O Q ks ops L H:=fun a w ha hs=>by
 rw[t.seps] at hs
 subst e
 obtain⟨h,⟨h1,h2,⟨x1,x2,x3,x4,x5,x6,x7,x8,x9,hp,a1⟩,r,d,e'⟩,hin⟩:=hs.own
 exact k x1 x2 x3 x4 x5 x6 x7 x8 x9 hp a w ha (by rw[ah];exact {hs with own:=⟨h,⟨h1,h2,a1,r,d,e'⟩,hin⟩ })
theorem bm.jw{p:X1→X2→X3→X4→X5→X6→X7→X8→X9→X10→Prop}{A:X1→X2→X3→X4→X5→X6→X7→X8→X9→X10→List aa}(t:Take H C R)(e:C=we p A)(k:∀ x1 x2 x3 x4 x5 x6 x7 x8 x9 x10,p x1 x2 x3 x4 x5 x6 x7 x8 x9 x10→bm P W N K O Q ks ops L (A x1 x2 x3 x4 x5 x6 x7 x8 x9 x10++R)):bm P W N K O Q ks ops L H:=fun a w ha hs=>by
 rw[t.seps] at hs
 subst e
 obtain⟨h,⟨h1,h2,⟨x1,x2,x3,x4,x5,x6,x7,x8,x9,x10,hp,a1⟩,r,d,e'⟩,hin⟩:=hs.own
 exact k x1 x2 x3 x4 x5 x6 x7 x8 x9 x10 hp a w ha (by rw[ah];exact {hs with own:=⟨h,⟨h1,h2,a1,r,d,e'⟩,hin⟩ })
theorem bm.Ob{p:X1→X2→X3→X4→X5→X6→X7→X8→X9→X10→X11→Prop}{A:X1→X2→X3→X4→X5→X6→X7→X8→X9→X10→X11→List aa}(t:Take H C R)(e:C=zG p A)(k:∀ x1 x2 x3 x4 x5 x6 x7 x8 x9 x10 x11,p x1 x2 x3 x4 x5 x6 x7 x8 x9 x10 x11→bm P W N K O Q ks ops L (A x1 x2 x3 x4 x5 x6 x7 x8 x9 x10 x11++R)):bm P W N K O Q ks ops L H:=fun a w ha hs=>by
 rw[t.seps] at hs
 subst e
 obtain⟨h,⟨h1,h2,⟨x1,x2,x3,x4,x5,x6,x7,x8,x9,x10,x11,hp,a1⟩,r,d,e'⟩,hin⟩:=hs.own
 exact k x1 x2 x3 x4 x5 x6 x7 x8 x9 x10 x11 hp a w ha (by rw[ah];exact {hs with own:=⟨h,⟨h1,h2,a1,r,d,e'⟩,hin⟩ })
theorem bm.Oc{p:X1→X2→X3→X4→X5→X6→X7→X8→X9→X10→X11→X12→Prop}{A:X1→X2→X3→X4→X5→X6→X7→X8→X9→X10→X11→X12→List aa}(t:Take H C R)(e:C=zH p A)(k:∀ x1 x2 x3 x4 x5 x6 x7 x8 x9 x10 x11 x12,p x1 x2 x3 x4 x5 x6 x7 x8 x9 x10 x11 x12→bm P W N K O Q ks ops L (A x1 x2 x3 x4 x5 x6 x7 x8 x9 x10 x11 x12++R)):bm P W N K O Q ks ops L H:=fun a w ha hs=>by
 rw[t.seps] at hs
 subst e
 obtain⟨h,⟨h1,h2,⟨x1,x2,x3,x4,x5,x6,x7,x8,x9,x10,x11,x12,hp,a1⟩,r,d,e'⟩,hin⟩:=hs.own
 exact k x1 x2 x3 x4 x5 x6 x7 x8 x9 x10 x11 x12 hp a w ha (by rw[ah];exact {hs with own:=⟨h,⟨h1,h2,a1,r,d,e'⟩,hin⟩ })
theorem bA.N3{en:Exit}{As:List aa}(t:aw H As R)(k:bA W N Q en L (As++R)):bA W N Q en L H:=fun a w ha hs=>k a w ha (t.sat hs)
theorem bA.dL{en:Exit}{As:List aa}(t:Take H (seps As) R)(k:bA W N Q en L (As++R)):bA W N Q en L H:=fun a w ha hs=>k a w ha (by rw[ah, ← t.seps];exact hs)
theorem bA.o1{en:Exit}{p:X1→Prop}{A:X1→List aa}(t:Take H C R)(e:C=jd p A)(k:∀ x1,p x1→bA W N Q en L (A x1++R)):bA W N Q en L H:=fun a w ha hs=>by
 rw[t.seps] at hs
 subst e
 obtain⟨h,⟨h1,h2,⟨x1,hp,a1⟩,r,d,e'⟩,hin⟩:=hs.own
 exact k x1 hp a w ha (by rw[ah];exact {hs with own:=⟨h,⟨h1,h2,a1,r,d,e'⟩,hin⟩ })
theorem bA.o2{en:Exit}{p:X1→X2→Prop}{A:X1→X2→List aa}(t:Take H C R)(e:C=ot p A)(k:∀ x1 x2,p x1 x2→bA W N Q en L (A x1 x2++R)):bA W N Q en L H:=fun a w ha hs=>by
 rw[t.seps] at hs
 subst e
 obtain⟨h,⟨h1,h2,⟨x1,x2,hp,a1⟩,r,d,e'⟩,hin⟩:=hs.own
 exact k x1 x2 hp a w ha (by rw[ah];exact {hs with own:=⟨h,⟨h1,h2,a1,r,d,e'⟩,hin⟩ })
theorem bA.o3{en:Exit}{p:X1→X2→X3→Prop}{A:X1→X2→X3→List aa}(t:Take H C R)(e:C=zF p A)(k:∀ x1 x2 x3,p x1 x2 x3→bA W N Q en L (A x1 x2 x3++R)):bA W N Q en L H:=fun a w ha hs=>by
 rw[t.seps] at hs
 subst e
 obtain⟨h,⟨h1,h2,⟨x1,x2,x3,hp,a1⟩,r,d,e'⟩,hin⟩:=hs.own
 exact k x1 x2 x3 hp a w ha (by rw[ah];exact {hs with own:=⟨h,⟨h1,h2,a1,r,d,e'⟩,hin⟩ })
theorem bA.o4{en:Exit}{p:X1→X2→X3→X4→Prop}{A:X1→X2→X3→X4→List aa}(t:Take H C R)(e:C=Gk p A)(k:∀ x1 x2 x3 x4,p x1 x2 x3 x4→bA W N Q en L (A x1 x2 x3 x4++R)):bA W N Q en L H:=fun a w ha hs=>by
 rw[t.seps] at hs
 subst e
 obtain⟨h,⟨h1,h2,⟨x1,x2,x3,x4,hp,a1⟩,r,d,e'⟩,hin⟩:=hs.own
 exact k x1 x2 x3 x4 hp a w ha (by rw[ah];exact {hs with own:=⟨h,⟨h1,h2,a1,r,d,e'⟩,hin⟩ })
theorem bA.o5{en:Exit}{p:X1→X2→X3→X4→X5→Prop}{A:X1→X2→X3→X4→X5→List aa}(t:Take H C R)(e:C=Gl p A)(k:∀ x1 x2 x3 x4 x5,p x1 x2 x3 x4 x5→bA W N Q en L (A x1 x2 x3 x4 x5++R)):bA W N Q en L H:=fun a w ha hs=>by
 rw[t.seps] at hs
 subst e
 obtain⟨h,⟨h1,h2,⟨x1,x2,x3,x4,x5,hp,a1⟩,r,d,e'⟩,hin⟩:=hs.own
 exact k x1 x2 x3 x4 x5 hp a w ha (by rw[ah];exact {hs with own:=⟨h,⟨h1,h2,a1,r,d,e'⟩,hin⟩ })
theorem bA.o6{en:Exit}{p:X1→X2→X3→X4→X5→X6→Prop}{A:X1→X2→X3→X4→X5→X6→List aa}(t:Take H C R)(e:C=Gm p A)(k:∀ x1 x2 x3 x4 x5 x6,p x1 x2 x3 x4 x5 x6→bA W N Q en L (A x1 x2 x3 x4 x5 x6++R)):bA W N Q en L H:=fun a w ha hs=>by
 rw[t.seps] at hs
 subst e
 obtain⟨h,⟨h1,h2,⟨x1,x2,x3,x4,x5,x6,hp,a1⟩,r,d,e'⟩,hin⟩:=hs.own
 exact k x1 x2 x3 x4 x5 x6 hp a w ha (by rw[ah];exact {hs with own:=⟨h,⟨h1,h2,a1,r,d,e'⟩,hin⟩ })
theorem bA.o7{en:Exit}{p:X1→X2→X3→X4→X5→X6→X7→Prop}{A:X1→X2→X3→X4→X5→X6→X7→List aa}(t:Take H C R)(e:C=Gn p A)(k:∀ x1 x2 x3 x4 x5 x6 x7,p x1 x2 x3 x4 x5 x6 x7→bA W N Q en L (A x1 x2 x3 x4 x5 x6 x7++R)):bA W N Q en L H:=fun a w ha hs=>by
 rw[t.seps] at hs
 subst e
 obtain⟨h,⟨h1,h2,⟨x1,x2,x3,x4,x5,x6,x7,hp,a1⟩,r,d,e'⟩,hin⟩:=hs.own
 exact k x1 x2 x3 x4 x5 x6 x7 hp a w ha (by rw[ah];exact {hs with own:=⟨h,⟨h1,h2,a1,r,d,e'⟩,hin⟩ })
theorem bA.o8{en:Exit}{p:X1→X2→X3→X4→X5→X6→X7→X8→Prop}{A:X1→X2→X3→X4→X5→X6→X7→X8→List aa}(t:Take H C R)(e:C=Gp p A)(k:∀ x1 x2 x3 x4 x5 x6 x7 x8,p x1 x2 x3 x4 x5 x6 x7 x8→bA W N Q en L (A x1 x2 x3 x4 x5 x6 x7 x8++R)):bA W N Q en L H:=fun a w ha hs=>by
 rw[t.seps] at hs
 subst e
 obtain⟨h,⟨h1,h2,⟨x1,x2,x3,x4,x5,x6,x7,x8,hp,a1⟩,r,d,e'⟩,hin⟩:=hs.own
 exact k x1 x2 x3 x4 x5 x6 x7 x8 hp a w ha (by rw[ah];exact {hs with own:=⟨h,⟨h1,h2,a1,r,d,e'⟩,hin⟩ })
theorem bA.o9{en:Exit}{p:X1→X2→X3→X4→X5→X6→X7→X8→X9→Prop}{A:X1→X2→X3→X4→X5→X6→X7→X8→X9→List aa}(t:Take H C R)(e:C=Gq p A)(k:∀ x1 x2 x3 x4 x5 x6 x7 x8 x9,p x1 x2 x3 x4 x5 x6 x7 x8 x9→bA W N Q en L (A x1 x2 x3 x4 x5 x6 x7 x8 x9++R)):bA W N Q en L H:=fun a w ha hs=>by
 rw[t.seps] at hs
 subst e
 obtain⟨h,⟨h1,h2,⟨x1,x2,x3,x4,x5,x6,x7,x8,x9,hp,a1⟩,r,d,e'⟩,hin⟩:=hs.own
 exact k x1 x2 x3 x4 x5 x6 x7 x8 x9 hp a w ha (by rw[ah];exact {hs with own:=⟨h,⟨h1,h2,a1,r,d,e'⟩,hin⟩ })
theorem bA.jw{en:Exit}{p:X1→X2→X3→X4→X5→X6→X7→X8→X9→X10→Prop}{A:X1→X2→X3→X4→X5→X6→X7→X8→X9→X10→List aa}(t:Take H C R)(e:C=we p A)(k:∀ x1 x2 x3 x4 x5 x6 x7 x8 x9 x10,p x1 x2 x3 x4 x5 x6 x7 x8 x9 x10→bA W N Q en L (A x1 x2 x3 x4 x5 x6 x7 x8 x9 x10++R)):bA W N Q en L H:=fun a w ha hs=>by
 rw[t.seps] at hs
 subst e
 obtain⟨h,⟨h1,h2,⟨x1,x2,x3,x4,x5,x6,x7,x8,x9,x10,hp,a1⟩,r,d,e'⟩,hin⟩:=hs.own
 exact k x1 x2 x3 x4 x5 x6 x7 x8 x9 x10 hp a w ha (by rw[ah];exact {hs with own:=⟨h,⟨h1,h2,a1,r,d,e'⟩,hin⟩ })
theorem bA.Ob{en:Exit}{p:X1→X2→X3→X4→X5→X6→X7→X8→X9→X10→X11→Prop}{A:X1→X2→X3→X4→X5→X6→X7→X8→X9→X10→X11→List aa}(t:Take H C R)(e:C=zG p A)(k:∀ x1 x2 x3 x4 x5 x6 x7 x8 x9 x10 x11,p x1 x2 x3 x4 x5 x6 x7 x8 x9 x10 x11→bA W N Q en L (A x1 x2 x3 x4 x5 x6 x7 x8 x9 x10 x11++R)):bA W N Q en L H:=fun a w ha hs=>by
 rw[t.seps] at hs
 subst e
 obtain⟨h,⟨h1,h2,⟨x1,x2,x3,x4,x5,x6,x7,x8,x9,x10,x11,hp,a1⟩,r,d,e'⟩,hin⟩:=hs.own
 exact k x1 x2 x3 x4 x5 x6 x7 x8 x9 x10 x11 hp a w ha (by rw[ah];exact {hs with own:=⟨h,⟨h1,h2,a1,r,d,e'⟩,hin⟩ })
theorem bA.Oc{en:Exit}{p:X1→X2→X3→X4→X5→X6→X7→X8→X9→X10→X11→X12→Prop}{A:X1→X2→X3→X4→X5→X6→X7→X8→X9→X10→X11→X12→List aa}(t:Take H C R)(e:C=zH p A)(k:∀ x1 x2 x3 x4 x5 x6 x7 x8 x9 x10 x11 x12,p x1 x2 x3 x4 x5 x6 x7 x8 x9 x10 x11 x12→bA W N Q en L (A x1 x2 x3 x4 x5 x6 x7 x8 x9 x10 x11 x12++R)):bA W N Q en L H:=fun a w ha hs=>by
 rw[t.seps] at hs
 subst e
 obtain⟨h,⟨h1,h2,⟨x1,x2,x3,x4,x5,x6,x7,x8,x9,x10,x11,x12,hp,a1⟩,r,d,e'⟩,hin⟩:=hs.own
 exact k x1 x2 x3 x4 x5 x6 x7 x8 x9 x10 x11 x12 hp a w ha (by rw[ah];exact {hs with own:=⟨h,⟨h1,h2,a1,r,d,e'⟩,hin⟩ })
end
end Go.SLYtpbjdoplfgeliaaGreat
namespace Go.SLYtpbjdoplfgeliaaGreat
def aL{α:Type}(l:List α)(i:Int):Option α:=if i<0 then none else l[i.toNat]?
def pick(k:Int)(n:Nat):Nat:=((k.tmod n+n).tmod n).toNat
structure Ins where
 op:Int
 a:Int
 b:Int
 c:Int
 n:Int
deriving DecidableEq
def Ins.z:Ins:=⟨0,0,0,0,0⟩
structure gn where
 funcs:List (List Ins)
 words:Int
 bx:Int
 conds:Int
 bK:List Int
 bf:List Int
 blocks:Int
 prio:Int
/-! instructions -/
def cls(op:Int):Int:=if 1≤op∧op≤19 then 1 else if 20≤op∧op≤32 then 2 else if 33≤op∧op≤38 then 3 else 0
def wg(n:Int)(b:Bool):Bool:=decide (n=0) || (b && decide (0<n) && decide (n<8))
structure Form where
 aE:Int
 mutex:Bool
 n:Int
 any:Bool
def bV(p:gn)(op:Int):Form :=
 if op=1 then ⟨1,false,0,true⟩
 else if op=2∨op=14∨op=15∨op=18∨op=19∨op=21∨op=33∨op=34 then ⟨2,false, -1,false⟩
 else if op=16 then ⟨0,false,257,false⟩
 else if op=17 then ⟨1,false,257,false⟩
 else if op=20 then ⟨2,false,p.funcs.length,false⟩
 else if op=22∨op=23∨op=32∨op=37∨op=38 then ⟨1,false, -1,false⟩
 else if op=24 then ⟨0,false, -1,false⟩
 else if op=25∨op=26 then ⟨0,false,p.bx,false⟩
 else if op=27 then ⟨0,true,p.conds,false⟩
 else if op=28∨op=29 then ⟨0,false,p.conds,false⟩
 else if op=30∨op=31 then ⟨0,false,p.bK.length,false⟩
 else if op=35∨op=36 then ⟨1,false,p.bf.length,false⟩
 else ⟨3,false, -1,false⟩
def Form.below(f:Form)(n:Int):Bool :=
 if f.any=true then true else if f.n = -1 then decide (n=0) else decide (0<f.n) && decide (n<f.n)
def iT(p:gn)(i:Ins):Bool :=
 if cls i.op=0 then false else
  let f:=bV p i.op
  wg i.a (decide (0<f.aE)) && wg i.b (decide (1<f.aE)) && (if f.mutex=true then decide (0≤i.c) && decide (i.c<p.bx) else wg i.c (decide (2<f.aE))) && f.below i.n
def within(n most:Int):Bool:=decide (0≤n) && decide (n≤most)
def gw(p:gn):Bool :=
 decide (0<p.funcs.length) && decide (p.funcs.length≤8) && within p.words 64 && within p.bx 4 && within p.conds 4 && within p.blocks 64 && within p.prio 7 && decide (p.bK.length≤4) && decide (p.bf.length≤4) &&
  p.funcs.all (fun f=>decide (f.length≤256)) && p.bK.all (fun n=>within n 1048576) && p.bf.all (fun n=>decide (0<n) && within n 8)
def dD(p:gn):Int:=if gw p=true then (if p.funcs.all (fun f=>f.all (iT p))=true then 0 else 8) else 9
/-! slots -/
def et(taken:Int)(n:Nat):Int:=taken * 65536+n+1
def slotFree?:List (Bool×Int)→Nat→Option Nat
 | [],_=>none
 | o::l,k=>if o.1=true then slotFree? l (k+1) else some k
def bC(l:List (Bool×Int))(h:Int):Option Nat :=
 if h % 65536=0 then none else
  match l[(h % 65536-1).toNat]? with
  | none=>none
  | some o=>if o.1=true∧et o.2 (h % 65536-1).toNat=h then some (h % 65536-1).toNat else none
def slotFreed(l:List (Bool×Int))(h:Int):List (Bool×Int) :=
 match bC l h with
 | none=>l
 | some n=>l.set n (false,(l.getD n (false,0)).2)
/-! gates -/
structure eW where
 who:Int
 mutex:Int
deriving DecidableEq
structure eK where
 wait:List eW
 held:Bool
 owner:Int
structure k6 where
 wait:List eW
 count:Int
structure Gates where
 dn:List eK
 hJ:List (List eW)
 ez:List k6
def mr(l:List eW)(who:Int):Bool:=l.any fun w=>decide (w.who=who)
def aM(l:List eW)(choice:Int):eW×Bool×List eW :=
 if l.length=0 then (⟨0,0⟩,false,l) else (l.getD (pick choice l.length) ⟨0,0⟩,true,l.eraseIdx (pick choice l.length))
def Gates.waits(g:Gates)(who:Int):Bool:=g.dn.any (fun m=>mr m.wait who) || g.hJ.any (fun r=>mr r who) || g.ez.any (fun s=>mr s.wait who)
def eK.is(m:eK)(who:Int):Bool:=m.held && decide (m.owner=who)
def eK.lock(m:eK)(who:Int):Bool×eK:=if m.held=true then (false,{m with wait:=m.wait++[⟨who,0⟩] }) else (true,{m with held:=true,owner:=who })
def eK.unlock(m:eK)(choice:Int):Int×Bool×eK:=((aM m.wait choice).1.who,(aM m.wait choice).2.1,⟨(aM m.wait choice).2.2,(aM m.wait choice).2.1,(aM m.wait choice).1.who⟩)
def Gates.lock(g:Gates)(who m:Int):Bool×Int×Gates :=
 match aL g.dn m with
 | none=>(false,1,g)
 | some x=>if g.waits who=true∨x.is who=true then (false,4,g) else ((x.lock who).1,0,{g with dn:=g.dn.set m.toNat (x.lock who).2 })
def Gates.unlock(g:Gates)(who m choice:Int):Int×Bool×Int×Gates :=
 match aL g.dn m with
 | none=>(0,false,1,g)
 | some x=>if x.is who=true then ((x.unlock choice).1,(x.unlock choice).2.1,0,{g with dn:=g.dn.set m.toNat (x.unlock choice).2.2 }) else (0,false,5,g)
def Gates.wait(g:Gates)(who c m choice:Int):Int×Bool×Int×Gates :=
 match aL g.dn m,aL g.hJ c with
 | some x,some r =>
  if g.waits who=true then (0,false,4,g) else
  if x.is who=true then ((x.unlock choice).1,(x.unlock choice).2.1,0,{g with dn:=g.dn.set m.toNat (x.unlock choice).2.2,hJ:=g.hJ.set c.toNat (r++[⟨who,m⟩]) }) else (0,false,5,g)
 | _,_=>(0,false,1,g)
def sigLoop:Nat→Int→List eW→List eK→List Int→List eW×List eK×List Int
 | 0,_,r,ms,out=>(r,ms,out)
 | n+1,choice,r,ms,out =>
  let w:=(aM r choice).1
  let l:=(ms.getD w.mutex.toNat ⟨[],false,0⟩).lock w.who
  sigLoop n choice (aM r choice).2.2 (ms.set w.mutex.toNat l.2) (if l.1=true then out++[w.who] else out)
def Gates.signal(g:Gates)(c choice:Int)(all:Bool):List Int×Int×Gates :=
 match aL g.hJ c with
 | none=>([],1,g)
 | some r =>
  let z:=sigLoop (if all=true then r.length else min r.length 1) (if all=true then 0 else choice) r g.dn []
  (z.2.2,0,{g with dn:=z.2.1,hJ:=g.hJ.set c.toNat z.1 })
def Gates.down(g:Gates)(who s:Int):Bool×Int×Gates :=
 match aL g.ez s with
 | none=>(false,1,g)
 | some x =>
  if g.waits who=true then (false,4,g) else
  if 0<x.count then (true,0,{g with ez:=g.ez.set s.toNat {x with count:=x.count-1 } }) else (false,0,{g with ez:=g.ez.set s.toNat {x with wait:=x.wait++[⟨who,0⟩] } })
def Gates.up(g:Gates)(s choice:Int):Int×Bool×Int×Gates :=
 match aL g.ez s with
 | none=>(0,false,1,g)
 | some x =>
  if (aM x.wait choice).2.1=true then ((aM x.wait choice).1.who,true,0,{g with ez:=g.ez.set s.toNat {x with wait:=(aM x.wait choice).2.2 } }) else
  if 1048576≤x.count then (0,false,2,g) else (0,false,0,{g with ez:=g.ez.set s.toNat {x with count:=x.count+1 } })
def aN(n most:Int):Int:=min (max n 0) most
def Gates.new(bx conds:Int)(bK:List Int):Gates :=
 ⟨List.replicate (aN bx 4).toNat ⟨[],false,0⟩,List.replicate (aN conds 4).toNat [],(bK.take 4).map fun n=>⟨[],aN n 1048576⟩⟩
/-! pipes -/
structure Ptr where
 who:Int
 x:Int
deriving DecidableEq
structure Tub where
 room:Int
 words:List Int
 hZ:List Ptr
 gM:List Int
def Tub.new(room:Int):Tub:=⟨min (max room 1) 8,[],[],[]⟩
def Tub.waits(t:Tub)(who:Int):Bool:=t.gM.contains who || t.hZ.any fun p=>decide (p.who=who)
def Tub.put(t:Tub)(who x:Int):Bool×Int×Bool×Tub :=
 if t.waits who=true then (false,0,false,t) else
 match t.gM with
 | w::r=>(true,w,true,{t with gM:=r })
 | []=>if (t.words.length:Int)<t.room then (true,0,false,{t with words:=t.words++[x] }) else (false,0,false,{t with hZ:=t.hZ++[⟨who,x⟩] })
def Tub.get(t:Tub)(who:Int):Int×Bool×Int×Bool×Tub :=
 if t.waits who=true then (0,false,0,false,t) else
 match t.words with
 | []=>(0,false,0,false,{t with gM:=t.gM++[who] })
 | x::r =>
  match t.hZ with
  | []=>(x,true,0,false,{t with words:=r })
  | p::q=>(x,true,p.who,true,{t with words:=r++[p.x],hZ:=q })
/-! the disk -/
structure wh where
 who:Int
 block:Int
 write:Bool
 x:Int
deriving DecidableEq
structure lj where
 blocks:List Int
 wait:List wh
def lj.new(blocks:Int):lj:=⟨List.replicate (aN blocks 64).toNat 0,[]⟩
def lj.ask(d:lj)(r:wh):Int×lj :=
 if r.block<0∨(d.blocks.length:Int)≤r.block then (1,d) else
 if d.wait.any (fun x=>decide (x.who=r.who))=true then (4,d) else (0,{d with wait:=d.wait++[r] })
def lj.done(d:lj)(k:Int):wh×Int×Bool×lj :=
 if d.wait.length=0 then (⟨0,0,false,0⟩,0,false,d) else
  let r:=d.wait.getD (pick k d.wait.length) ⟨0,0,false,0⟩
  let d':lj:={d with wait:=d.wait.eraseIdx (pick k d.wait.length) }
  if r.write=true then (r,0,true,{d' with blocks:=d'.blocks.set r.block.toNat r.x }) else (r,d.blocks.getD r.block.toNat 0,true,d')
/-! the clock: who waits until when, in no order that counts -/
structure mu where
 now:Int
 ia:List (Int×Int)
def mJ(l:List (Int×Int))(k:Int):Option Int:=(l.find? fun p=>decide (p.1=k)).map (·.2)
def mapSet:List (Int×Int)→Int→Int→List (Int×Int)
 | [],k,v=>[(k,v)]
 | p::l,k,v=>if p.1=k then (k,v)::l else p::mapSet l k v
def gp(l:List (Int×Int))(k:Int):List (Int×Int):=l.filter fun p => !decide (p.1=k)
def cZ(x:Int):List Int→List Int
 | []=>[x]
 | y::l=>if x≤y then x::y::l else y::cZ x l
def gx(l:List Int):List Int:=l.foldr cZ []
def mu.new:mu:=⟨0,[]⟩
def mu.sleep(w:mu)(who n:Int):Int×mu :=
 if n<1∨1099511627776<n then (1,w) else
 if 0<(mJ w.ia who).getD 0 then (4,w) else (0,{w with ia:=mapSet w.ia who (min (w.now+n) 1099511627776) })
def mu.due(w:mu):List Int:=gx ((w.ia.filter fun p=>decide (p.2≤min (w.now+1) 1099511627776)).map (·.1))
def mu.tick(w:mu):List Int×mu:=(w.due,⟨min (w.now+1) 1099511627776,w.due.foldl gp w.ia⟩)
/-! words -/
def BG(n:Int):Int:=n % 18446744073709551616
def n8:Int:=9221120237041090560
def JA(a:Int):Bool:=Ieee.double.order a.toNat a.toNat == none
def O4:Option Nat→Int
 | some r=>if JA (r:Int)=true then n8 else r
 | none=>n8
/-! a space -/
structure Rec where
 ab:Int
 op:Int
 x:Int
 y:Int
 result:Int
 fin:Bool
deriving DecidableEq
structure bI where
 fn:Int
 pc:Int
 aE:List Int
 handle:Int
 cS:Int
 value:Int
 bN:Bool
 ay:Int
 op:Int
 bZ:Int
structure Spc where
 fb:gn
 table:List (Bool×Int)
 aF:List (Option bI)
 mem:List Int
 al:Gates
 cj:List Tub
 ca:lj
 aT:mu
 aA:List Rec
def readyFrom:List (Option bI)→Nat→List Int
 | [],_=>[]
 | none::l,n=>readyFrom l (n+1)
 | some t::l,n=>if t.cS=0 then (n:Int)::readyFrom l (n+1) else readyFrom l (n+1)
def Spc.ready(s:Spc):List Int:=readyFrom s.aF 0
def sr(f arg:Int)(handle:Int):bI:=⟨f,0,[arg,0,0,0,0,0,0,0],handle,0,0,false, -1,0, -1⟩
def Spc.begin(s:Spc)(f arg:Int):Int×Int×Spc :=
 match slotFree? s.table 0 with
 | none=>(0,2,s)
 | some n=>((n:Int),0,{s with table:=s.table.set n (true,(s.table.getD n (false,0)).2+1),aF:=s.aF.set n (some (sr f arg (et ((s.table.getD n (false,0)).2+1) n))) })
def Spc.new(p:gn):Spc :=
 (Spc.begin ⟨p,List.replicate 16 (false,0),List.replicate 16 none,List.replicate p.words.toNat 0,Gates.new p.bx p.conds p.bK,p.bf.map Tub.new,lj.new p.blocks,mu.new,[]⟩ 0 0).2.2
/-! events, vessels, rows, a library -/
structure Ev where
 kind:Int
 ab:Int
 mode:Int
deriving DecidableEq
structure aH where
 mode:Int
 ab:Int
 evs:List Ev
def aH.z:aH:=⟨0,0,[]⟩
def dE(e:Ev):Bool:=decide (0≤e.ab) && decide (e.mode≤0) && (decide (e.kind=3) || decide (e.kind=4))
def cV(l:List Ev):List Ev:=l.filter fun e=>dE e || decide (0<e.mode)
def aH.holds(v:aH):Bool:=decide (v.mode=2) || decide (v.mode=4) || decide (v.mode=7)
def aH.runs(v:aH):Bool:=(decide (v.mode=5) || decide (v.mode=6) || decide (v.mode=7)) && decide (0≤v.ab)
def aH.strip(v:aH):List Ev :=
 (if v.holds=true then [⟨4,if v.runs=true then v.ab else -1,v.mode⟩] else if v.runs=true then [⟨4,v.ab,0⟩] else [])++cV v.evs
def aH.new(l:List Ev):aH:=⟨1, -1,l⟩
def aH.told(v:aH)(more:List Ev):aH:=aH.new (v.strip++more)
structure Lib where
 aI:Spc
 rows:List (List Int)
 vs:List aH
 waiting:List Ev
 locked:Bool
def aG(l:List Int):List Ev:=l.map fun n=>⟨3,n,0⟩
def Lib.new(s:Spc)(procs:Int):Lib :=
 ⟨s,List.replicate (aN procs 64).toNat [],List.replicate (aN procs 64).toNat aH.z,aG s.ready,false⟩
def Lib.has(l:Lib)(p:Int):Bool:=match aL l.vs p with | none=>false | some v => !decide (v.mode=0)
def procsFrom:List aH→Nat→List Int
 | [],_=>[]
 | v::l,n=>if v.mode=0 then procsFrom l (n+1) else (n:Int)::procsFrom l (n+1)
def Lib.procs(l:Lib):List Int:=procsFrom l.vs 0
def Lib.dq(l:Lib)(p:Int):Bool×Lib :=
 match aL l.vs p with
 | none=>(false,l)
 | some v=>if v.mode=0 then (true,{l with vs:=l.vs.set p.toNat (aH.new (⟨1, -1,0⟩::l.waiting)),waiting:=[] }) else (false,l)
def Lib.tell(l:Lib)(list:List Ev):Lib :=
 if list=[] then l else
 match l.procs with
 | []=>{l with waiting:=l.waiting++list }
 | p::_=>{l with vs:=l.vs.set p.toNat ((l.vs.getD p.toNat aH.z).told list) }
def Lib.cI(l:Lib)(p:Int):Bool×Lib :=
 if l.has p=true then (true,({l with vs:=l.vs.set p.toNat aH.z }:Lib).tell (l.vs.getD p.toNat aH.z).strip) else (false,l)
def Lib.preempt(l:Lib)(p:Int):Bool×Lib :=
 if l.has p=true then (true,{l with vs:=l.vs.set p.toNat ((l.vs.getD p.toNat aH.z).told []) }) else (false,l)
/-! processors -/
structure Krn where
 owner:List Int
 libs:List Lib
def Krn.gy(k:Krn)(n:Int):Option Lib:=aL k.libs n
def freeFrom:List Int→Nat→List Int
 | [],_=>[]
 | o::l,n=>if o = -1 then (n:Int)::freeFrom l (n+1) else freeFrom l (n+1)
def Krn.free(k:Krn):List Int:=freeFrom k.owner 0
def Krn.demand(k:Krn):List Int:=k.libs.map fun l=>(l.aI.ready.length:Int)
def Krn.ownerOf(k:Krn)(p:Int):Int×Bool :=
 match aL k.owner p with
 | none=>(0,false)
 | some o=>if o = -1 then (0,false) else (o,true)
def Krn.dV(k:Krn)(p n:Int):Int×Krn :=
 match aL k.owner p,aL k.libs n with
 | some o,some l=>if o = -1 then (0,⟨k.owner.set p.toNat n,k.libs.set n.toNat (l.dq p).2⟩) else (4,k)
 | _,_=>(1,k)
def BH:Lib:=⟨⟨⟨[],0,0,0,[],[],0,0⟩,[],[],[],⟨[],[],[]⟩,[],⟨[],[]⟩,⟨0,[]⟩,[]⟩,[],[],[],false⟩
def Krn.take(k:Krn)(p:Int):Int×Krn :=
 match aL k.owner p with
 | none=>(1,k)
 | some o=>if o = -1 then (11,k) else (0,⟨k.owner.set p.toNat (-1),k.libs.set o.toNat ((k.libs.getD o.toNat BH).cI p).2⟩)
def checkAll:List gn→Int
 | []=>0
 | p::l=>if dD p=0 then checkAll l else dD p
def Krn.new(procs:Int)(l:List gn):Krn:=⟨List.replicate procs.toNat (-1),l.map fun p=>Lib.new (Spc.new p) procs⟩
def dF(procs:Int)(l:List gn):Int:=if procs<1∨64<procs∨(l.length:Int)<1∨8<(l.length:Int) then 1 else checkAll l
/-! who gets how many -/
structure Deal where
 left:Int
 demand:List Int
 prio:List Int
 out:List Int
def Deal.hD(d:Deal)(n:Nat)(prio:Int):Bool:=decide (d.prio.getD n 0=prio) && decide (d.out.getD n 0<d.demand.getD n 0)
def Deal.step(d:Deal)(prio:Int)(n:Nat):Deal×Bool :=
 if 0<d.left∧d.hD n prio=true then ({d with out:=d.out.set n (d.out.getD n 0+1),left:=d.left-1 },true) else (d,false)
def Deal.go(prio:Int)(first:Nat):Nat→Nat→Deal→Bool→Deal×Bool
 | 0,_,d,any=>(d,any)
 | m+1,k,d,any=>Deal.go prio first m (k+1) (d.step prio ((first+k) % d.demand.length)).1 (any || (d.step prio ((first+k) % d.demand.length)).2)
def Deal.round(d:Deal)(prio:Int)(first:Nat):Deal×Bool:=Deal.go prio first d.demand.length 0 d false
def Deal.rounds(prio:Int)(first:Nat):Nat→Deal→Deal
 | 0,d=>d
 | f+1,d=>if (d.round prio first).2=true then Deal.rounds prio first f (d.round prio first).1 else (d.round prio first).1
def Deal.tB(first:Nat):Nat→Deal→Deal
 | 0,d=>Deal.rounds 0 first (d.left.toNat+1) d
 | p+1,d=>Deal.tB first p (Deal.rounds ((p:Int)+1) first (d.left.toNat+1) d)
def fm(procs:Int)(demand prio:List Int)(turn:Int):Option (List Int) :=
 if demand.length≠prio.length∨8<demand.length∨within procs 64=false∨prio.all (fun p=>within p 7)=false then none else
 if demand.length=0 then some [] else
 some (Deal.tB (pick turn demand.length) 7 ⟨procs,demand,prio,List.replicate demand.length 0⟩).out
def Krn.targets(k:Krn)(prio:List Int)(turn:Int):List Int:=(fm (k.owner.length:Int) k.demand prio turn).getD []
def eG:List Int→Krn→Krn
 | [],k=>k
 | p::l,k=>eG l (k.take p).2
def giveTo:Nat→Int→Krn→Krn
 | 0,_,k=>k
 | m+1,n,k=>giveTo m n (k.dV (k.free.headD 0) n).2
def cu(k:Krn)(n:Nat):List Int:=(k.libs.getD n BH).procs
def takeFrom:List Int→Nat→Krn×Nat→Krn×Nat
 | [],_,z=>z
 | w::l,n,(k,m)=>takeFrom l (n+1) (eG ((cu k n).drop w.toNat) k,m+((cu k n).drop w.toNat).length)
def cO:List Int→Nat→Krn×Nat→Krn×Nat
 | [],_,z=>z
 | w::l,n,(k,m)=>cO l (n+1) (giveTo (w.toNat-(cu k n).length) n k,m+(w.toNat-(cu k n).length))
def Krn.share(k:Krn)(prio:List Int)(turn:Int):Krn×Nat :=
 cO (k.targets prio turn) 0 (takeFrom (k.targets prio turn) 0 (k,0))
def Krn.fair(k:Krn)(prio:List Int)(turn:Int):Bool :=
 decide ((k.targets prio turn).length=k.libs.length) && decide ((k.libs.map fun l=>(l.procs.length:Int))=k.targets prio turn)
end Go.SLYtpbjdoplfgeliaaGreat
namespace Go.SLYtpbjdoplfgeliaaGreat
open Go Go.RowKit
abbrev ptr(b:Nat):Value:=.pointer (some ⟨b,0,none⟩)
def ed(o:Option Nat):Value:=.pointer (o.map fun b=>⟨b,0,none⟩)
def Pf(v:Value):List Value:=[v]
def aq(n:Int):List Value:=[.int .i64 n]
def eS(n:Int):List Value:=[.int .u64 n]
def dM(i:Ins):List Value:=[.int .i64 i.op,.int .i64 i.a,.int .i64 i.b,.int .i64 i.c,.int .u64 i.n]
def JB(o:Bool×Int):List Value:=[.bool o.1,.int .u64 o.2]
def dt(w:eW):List Value:=[.int .i64 w.who,.int .i64 w.mutex]
def my(p:Ptr):List Value:=[.int .i64 p.who,.int .u64 p.x]
def gJ(r:wh):List Value:=[.int .i64 r.who,.int .i64 r.block,.bool r.write,.int .u64 r.x]
def iU(r:Rec):List Value:=[.int .u64 r.ab,.int .i64 r.op,.int .u64 r.x,.int .u64 r.y,.int .i64 r.result,.bool r.fin]
def cf(e:Ev):List Value:=[.int .i64 e.kind,.int .i64 e.ab,.int .i64 e.mode]
/-! things in a row that bear things -/
def aO{α:Type}(f:α→aa)(xs:List α):aa:=seps (xs.map f)
theorem fL{α:Type}(f:α→aa)(x:α)(xs:List α):aO f (x::xs)=sep (f x) (aO f xs):=rfl
theorem Gr{α:Type}(f:α→aa)(xs ys:List α):aO f (xs++ys)=sep (aO f xs) (aO f ys):=by unfold aO;rw[List.map_append,ah]
theorem nw{α:Type}(f:α→aa)(xs:List α)(y:α):aO f (xs++[y])=sep (f y) (aO f xs):=by
 rw[Gr,iF]
 congr 1
 show sep (f y) emp=f y
 exact aK _
theorem jx{α:Type}(f:α→aa){xs:List α}{i:Nat}{x:α}(h:xs[i]?=some x):aO f xs=sep (f x) (aO f (xs.eraseIdx i)):=by
 induction xs generalizing i with
 | nil=>simp at h
 | cons y ys ih =>
  cases i with
  | zero=>simp at h;subst h;rfl
  | succ i =>
   have:=ih (i:=i) (by simpa using h)
   rw[fL,this,List.eraseIdx_cons_succ,fL,bb]
theorem jy{α:Type}(f:α→aa){xs:List α}{i:Nat}(y:α)(h:i<xs.length):aO f (xs.set i y)=sep (f y) (aO f (xs.eraseIdx i)):=by
 induction xs generalizing i with
 | nil=>simp at h
 | cons z zs ih =>
  cases i with
  | zero=>rfl
  | succ i =>
   have:=ih (i:=i) (by simpa using h)
   simp only[List.set_cons_succ,List.eraseIdx_cons_succ,fL,this]
   exact bb _ _ _
/-! programs -/
structure bc where
 fv:Value
 fs:List (Value×List Ins)
 words:Int
 bx:Int
 conds:Int
 sv:Value
 bK:List Int
 pv:Value
 bf:List Int
 blocks:Int
 prio:Int
def bc.p(v:bc):gn:=⟨v.fs.map (·.2),v.words,v.bx,v.conds,v.bK,v.bf,v.blocks,v.prio⟩
def eT(v:bc):List Value:=[v.fv,.int .i64 v.words,.int .i64 v.bx,.int .i64 v.conds,v.sv,v.pv,.int .i64 v.blocks,.int .i64 v.prio]
def eu{α:Type}(x:Value×α):List Value:=[x.1]
def cP{α:Type}(x:Nat×α):List Value:=[ptr x.1]
structure eY(W:World)(H:List aa)(v:bc):Prop where
 fs:Rd W H eu 1 v.fv v.fs
 ins:∀ x∈v.fs,Rd W H dM 5 x.1 x.2
 bK:Rd W H aq 1 v.sv v.bK
 bf:Rd W H aq 1 v.pv v.bf
/-! a space's parts -/
def mz(b:Nat)(l:List (Bool×Int)):aa:=jd (fun _=>True) fun v=>[arr b 0 [v],sl JB 2 v l]
def iV(b o:Nat)(l:List eW):aa:=jd (fun _=>True) fun v=>[arr b o [v],sl dt 2 v l]
def mA(x:Value×eK):List Value:=[x.1,.bool x.2.held,.int .i64 x.2.owner]
def mK(x:Value×k6):List Value:=[x.1,.int .i64 x.2.count]
def ef(v:Value)(l:List eK):aa:=jd (fun xs:List (Value×eK)=>xs.map (·.2)=l) fun xs=>[sl mA 3 v xs,aO (fun x=>sl dt 2 x.1 x.2.wait) xs]
def iH(v:Value)(l:List (List eW)):aa:=jd (fun xs:List (Value×List eW)=>xs.map (·.2)=l) fun xs=>[sl eu 1 v xs,aO (fun x=>sl dt 2 x.1 x.2) xs]
def fy(v:Value)(l:List k6):aa:=jd (fun xs:List (Value×k6)=>xs.map (·.2)=l) fun xs=>[sl mK 2 v xs,aO (fun x=>sl dt 2 x.1 x.2.wait) xs]
def cy(b:Nat)(g:Gates):aa:=zF (fun _ _ _=>True) fun vm vc vs=>[arr b 0 [vm,vc,vs],ef vm g.dn,iH vc g.hJ,fy vs g.ez]
def iI(b:Nat)(t:Tub):aa:=zF (fun _ _ _=>True) fun vw vp vg=>[arr b 0 [.int .i64 t.room,vw,vp,vg],sl eS 1 vw t.words,sl my 2 vp t.hZ,sl aq 1 vg t.gM]
def pn(v:Value)(l:List Tub):aa:=jd (fun xs:List (Nat×Tub)=>xs.map (·.2)=l) fun xs=>[sl cP 1 v xs,aO (fun x=>iI x.1 x.2) xs]
def pq(b:Nat)(d:lj):aa:=ot (fun _ _=>True) fun vb vw=>[arr b 0 [vb,vw],sl eS 1 vb d.blocks,sl gJ 4 vw d.wait]
def zI(v:Value)(l:List (List Ins)):aa:=jd (fun xs:List (Value×List Ins)=>xs.map (·.2)=l) fun xs=>[sl eu 1 v xs,aO (fun x=>sl dM 5 x.1 x.2) xs]
def mh(es:List MapEntry)(clock:Nat)(l:List (Int×Int)):Prop :=
 es.map (fun e=>(e.key,e.val))=l.map (fun p=>(Value.int .i64 p.1,Value.int .i64 p.2))∧(l.map (·.1)).Nodup∧(∀ e∈es,e.born<clock)∧(es.map (·.born)).Nodup
def ou(m:Nat)(l:List (Int×Int)):aa:=ot (fun(es:List MapEntry) clock=>mh es clock l) fun es clock=>[jv m (.map es.toArray clock)]
def ow(b:Nat)(w:mu):aa:=jd (fun _=>True) fun m=>[arr b 0 [.int .i64 w.now,.map (some m)],ou m w.ia]
def bn(t:bI):List Value:=[.int .i64 t.fn,.int .i64 t.pc,.int .u64 (t.aE.getD 0 0),.int .u64 (t.aE.getD 1 0),.int .u64 (t.aE.getD 2 0),.int .u64 (t.aE.getD 3 0),.int .u64 (t.aE.getD 4 0),.int .u64 (t.aE.getD 5 0),.int .u64 (t.aE.getD 6 0),.int .u64 (t.aE.getD 7 0),
 .int .u64 t.handle,.int .i64 t.cS,.int .u64 t.value,.bool t.bN,.int .i64 t.ay,.int .i64 t.op,.int .i64 t.bZ,.int .u64 0]
def aB:List (Option Nat)→List (Option bI)→aa
 | [],[]=>emp
 | some p::ps,some t::ts=>sep (arr p 0 (bn t)) (aB ps ts)
 | none::ps,none::ts=>aB ps ts
 | _,_=>fun _=>False
theorem tC:∀ {ps:List (Option Nat)} {ts:List (Option bI)} {h:jS},aB ps ts h→ps.length=ts.length
 | [],[],_,_=>rfl
 | [],_::_,_,a=>a.elim
 | some _::_,[],_,a=>a.elim
 | none::_,[],_,a=>a.elim
 | some p::ps,some t::ts,h,⟨_,h2,_,a,_⟩=>by simp[tC a]
 | none::ps,none::ts,h,a=>by simp[tC (show aB ps ts h from a)]
 | some _::_,none::_,_,a=>a.elim
 | none::_,some _::_,_,a=>a.elim
theorem mL:∀ {ps:List (Option Nat)} {ts:List (Option bI)} {n:Nat} {t:bI},ts[n]?=some (some t)→ ∀ h,aB ps ts h→ ∃ p,ps[n]?=some (some p)∧sep (arr p 0 (bn t)) (aB (ps.set n none) (ts.set n none)) h
 | [],[],_,_,e,_,_=>by simp at e
 | [],_::_,_,_,_,_,a=>a.elim
 | some _::_,[],_,_,_,_,a=>a.elim
 | none::_,[],_,_,_,_,a=>a.elim
 | some _::_,none::_,_,_,_,_,a=>a.elim
 | none::_,some _::_,_,_,_,_,a=>a.elim
 | some p::ps,some t::ts,0,u,e,h,a=>by
  simp at e;subst e
  exact⟨p,rfl,a⟩
 | none::ps,none::ts,0,u,e,h,a=>by simp at e
 | some p::ps,some t::ts,n+1,u,e,h,⟨h1,h2,a1,a2,d,e'⟩=>by
  obtain⟨q,hq,a⟩:=mL (n:=n) (by simpa using e) h2 a2
  refine⟨q,by simpa using hq,?_⟩
  show sep _ (sep (arr p 0 (bn t)) (aB (ps.set n none) (ts.set n none))) h
  rw[bb]
  exact⟨h1,h2,a1,a,d,e'⟩
 | none::ps,none::ts,n+1,u,e,h,a=>by
  obtain⟨q,hq,a⟩:=mL (ps:=ps) (n:=n) (by simpa using e) h a
  exact⟨q,by simpa using hq,a⟩
theorem qC:∀ {ps:List (Option Nat)} {ts:List (Option bI)} {n:Nat},ts[n]?=some none→ ∀ h,aB ps ts h→ps[n]?=some none
 | [],[],_,e,_,_=>by simp at e
 | [],_::_,_,_,_,a=>a.elim
 | some _::_,[],_,_,_,a=>a.elim
 | none::_,[],_,_,_,a=>a.elim
 | some _::_,none::_,_,_,_,a=>a.elim
 | none::_,some _::_,_,_,_,a=>a.elim
 | some p::ps,some t::ts,0,e,h,a=>by simp at e
 | none::ps,none::ts,0,e,h,a=>rfl
 | some p::ps,some t::ts,n+1,e,h,⟨h1,h2,a1,a2,d,e'⟩=>by
  have:=qC (n:=n) (by simpa using e) h2 a2
  simpa using this
 | none::ps,none::ts,n+1,e,h,a=>by
  have:=qC (ps:=ps) (n:=n) (by simpa using e) h a
  simpa using this
theorem pw:∀ {ps:List (Option Nat)} {ts:List (Option bI)} {n:Nat} {p:Nat} {t:bI},ts[n]?=some none→ ∀ h,sep (arr p 0 (bn t)) (aB ps ts) h→aB (ps.set n (some p)) (ts.set n (some t)) h
 | [],[],_,_,_,e,_,_=>by simp at e
 | [],_::_,_,_,_,_,_,⟨_,_,_,a,_⟩=>a.elim
 | some _::_,[],_,_,_,_,_,⟨_,_,_,a,_⟩=>a.elim
 | none::_,[],_,_,_,_,_,⟨_,_,_,a,_⟩=>a.elim
 | some _::_,none::_,_,_,_,_,_,⟨_,_,_,a,_⟩=>a.elim
 | none::_,some _::_,_,_,_,_,_,⟨_,_,_,a,_⟩=>a.elim
 | some q::ps,some u::ts,0,p,t,e,h,a=>by simp at e
 | none::ps,none::ts,0,p,t,e,h,a=>a
 | some q::ps,some u::ts,n+1,p,t,e,h,a=>by
  show sep (arr q 0 (bn u)) (aB (ps.set n (some p)) (ts.set n (some t))) h
  have:sep (arr p 0 (bn t)) (sep (arr q 0 (bn u)) (aB ps ts)) h:=a
  rw[bb] at this
  exact bB (fun _ h=>h) (fun h' a'=>pw (by simpa using e) h' a') h this
 | none::ps,none::ts,n+1,p,t,e,h,a=>pw (ps:=ps) (ts:=ts) (n:=n) (by simpa using e) h a
theorem El{ps:List (Option Nat)}{ts:List (Option bI)}{n p:Nat}{t:bI}(hn:n<ts.length)(hp:ps[n]?=some (some p)):∀ h,sep (arr p 0 (bn t)) (aB (ps.set n none) (ts.set n none)) h→aB ps (ts.set n (some t)) h:=fun h a=>by
 have:=pw (n:=n) (by simp[hn]) h a
 rw[List.set_set,List.set_set] at this
 rwa [show ps.set n (some p)=ps from by
  apply List.ext_getElem?
  intro i
  by_cases e:n=i
  ·subst e
   rw[List.getElem?_set_self (List.getElem?_eq_some_iff.1 hp).1,hp]
  ·rw[List.getElem?_set_ne e]] at this
def ft(fv sv pv:Value)(p:gn)(bt:Nat)(ps:List (Option Nat))(vm:Value)(bg:Nat)(vt:Value)(bd bw:Nat)(vr:Value):List Value :=
 [fv,.int .i64 p.words,.int .i64 p.bx,.int .i64 p.conds,sv,pv,.int .i64 p.blocks,.int .i64 p.prio,ptr bt,
  ed (ps.getD 0 none),ed (ps.getD 1 none),ed (ps.getD 2 none),ed (ps.getD 3 none),ed (ps.getD 4 none),ed (ps.getD 5 none),ed (ps.getD 6 none),ed (ps.getD 7 none),
  ed (ps.getD 8 none),ed (ps.getD 9 none),ed (ps.getD 10 none),ed (ps.getD 11 none),ed (ps.getD 12 none),ed (ps.getD 13 none),ed (ps.getD 14 none),ed (ps.getD 15 none),
  vm,ptr bg,vt,ptr bd,ptr bw,vr]
def cE(b:Nat)(ps:List (Option Nat))(s:Spc):aa:=we (fun _ _ _ _ _ _ _ _ _ _=>True) fun(fv sv pv:Value) (bt:Nat) (vm:Value) (bg:Nat) (vt:Value) (bd bw:Nat) (vr:Value) =>
 [arr b 0 (ft fv sv pv s.fb bt ps vm bg vt bd bw vr),zI fv s.fb.funcs,mz bt s.table,aB ps s.aF,sl eS 1 vm s.mem,cy bg s.al,pn vt s.cj,pq bd s.ca,ow bw s.aT,sl iU 6 vr s.aA]
def fM(b:Nat)(s:Spc):aa:=jd (fun _=>True) fun ps=>[cE b ps s]
/-! a library, processors -/
def fu(b:Nat)(l:List Int):aa:=jd (fun _=>True) fun v=>[arr b 0 [v],sl aq 1 v l]
def ga(b:Nat)(l:List (List Int)):aa:=ot (fun _ (xs:List (Nat×List Int))=>xs.map (·.2)=l) fun v xs=>[arr b 0 [v],sl cP 1 v xs,aO (fun x=>fu x.1 x.2) xs]
def eZ(x:Value×aH):List Value:=[.int .i64 x.2.mode,.int .i64 x.2.ab,x.1]
def cv(v:Value)(l:List aH):aa:=jd (fun xs:List (Value×aH)=>xs.map (·.2)=l) fun xs=>[sl eZ 3 v xs,aO (fun x=>sl cf 3 x.1 x.2.evs) xs]
def mM(bs br:Nat)(vv vw:Value)(lk:Bool):List Value:=[ptr bs,ptr br,vv,vw,.bool lk]
def bj(b bs br:Nat)(l:Lib):aa:=ot (fun _ _=>True) fun vv vw=>[arr b 0 (mM bs br vv vw l.locked),fM bs l.aI,ga br l.rows,cv vv l.vs,sl cf 3 vw l.waiting]
def bJ(b:Nat)(l:Lib):aa:=ot (fun _ _=>True) fun bs br=>[bj b bs br l]
/-! chunks turned -/
section
variable{P:Program}{W:World}{N:Nat}{Q:Exit→Act→World→Prop}{L:List (Nat×Option Value)}{H R K:List aa}{O:Array Oper}{T:TypeId}{ks:List Nat}{ops:List Oper}{C:aa}
theorem xX{w:World}{A:aa}{Bs:List aa}(t:Take H A R)(e:∀ h,A h→seps Bs h)(s:Sat W w (seps H)):Sat W w (seps (Bs++R)):=by
 rw[t.seps] at s
 rw[ah]
 exact s.mono (bB e fun _ r=>r)
theorem xY{w:World}{A:aa}{Bs:List aa}(t:aw H Bs R)(e:∀ h,seps Bs h→A h)(s:Sat W w (seps H)):Sat W w (seps (A::R)):=by
 have:=t.sat s
 rw[ah] at this
 exact this.mono (bB e fun _ r=>r)
theorem aR.fr{A:aa}{Bs:List aa}(t:Take H A R)(e:∀ h,A h→seps Bs h)(k:aR P W N O Q ops L (Bs++R)):aR P W N O Q ops L H:=fun a w ha hs=>k a w ha (xX t e hs)
theorem ar.fr{c:Code}{A:aa}{Bs:List aa}(t:Take H A R)(e:∀ h,A h→seps Bs h)(k:ar P W N Q c L (Bs++R)):ar P W N Q c L H:=fun a w ha hs=>k a w ha (xX t e hs)
theorem bm.fr{A:aa}{Bs:List aa}(t:Take H A R)(e:∀ h,A h→seps Bs h)(k:bm P W N K O Q ks ops L (Bs++R)):bm P W N K O Q ks ops L H:=fun a w ha hs=>k a w ha (xX t e hs)
theorem bA.fr{en:Exit}{A:aa}{Bs:List aa}(t:Take H A R)(e:∀ h,A h→seps Bs h)(k:bA W N Q en L (Bs++R)):bA W N Q en L H:=fun a w ha hs=>k a w ha (xX t e hs)
theorem aR.to{A:aa}{Bs:List aa}(t:aw H Bs R)(e:∀ h,seps Bs h→A h)(k:aR P W N O Q ops L (A::R)):aR P W N O Q ops L H:=fun a w ha hs=>k a w ha (xY t e hs)
theorem ar.to{c:Code}{A:aa}{Bs:List aa}(t:aw H Bs R)(e:∀ h,seps Bs h→A h)(k:ar P W N Q c L (A::R)):ar P W N Q c L H:=fun a w ha hs=>k a w ha (xY t e hs)
theorem bm.to{A:aa}{Bs:List aa}(t:aw H Bs R)(e:∀ h,seps Bs h→A h)(k:bm P W N K O Q ks ops L (A::R)):bm P W N K O Q ks ops L H:=fun a w ha hs=>k a w ha (xY t e hs)
theorem bA.to{en:Exit}{A:aa}{Bs:List aa}(t:aw H Bs R)(e:∀ h,seps Bs h→A h)(k:bA W N Q en L (A::R)):bA W N Q en L H:=fun a w ha hs=>k a w ha (xY t e hs)
theorem xZ{w:World}{A:aa}{X:Type}{p:X→Prop}{Bs:X→List aa}(t:Take H A R)(e:∀ h,A h→ ∃ x,p x∧seps (Bs x) h)(s:Sat W w (seps H)):∃ x,p x∧Sat W w (seps (Bs x++R)):=by
 rw[t.seps] at s
 obtain⟨h,⟨h1,h2,a,r,d,e'⟩,hin⟩:=s.own
 obtain⟨x,hp,a'⟩:=e h1 a
 exact⟨x,hp,by rw[ah];exact {s with own:=⟨h,⟨h1,h2,a',r,d,e'⟩,hin⟩ }⟩
theorem aR.fx{A:aa}{X:Type}{p:X→Prop}{Bs:X→List aa}(t:Take H A R)(e:∀ h,A h→ ∃ x,p x∧seps (Bs x) h)(k:∀ x,p x→aR P W N O Q ops L (Bs x++R)):aR P W N O Q ops L H:=fun a w ha hs=>let ⟨x,hp,s⟩:=xZ t e hs;k x hp a w ha s
theorem ar.fx{c:Code}{A:aa}{X:Type}{p:X→Prop}{Bs:X→List aa}(t:Take H A R)(e:∀ h,A h→ ∃ x,p x∧seps (Bs x) h)(k:∀ x,p x→ar P W N Q c L (Bs x++R)):ar P W N Q c L H:=fun a w ha hs=>let ⟨x,hp,s⟩:=xZ t e hs;k x hp a w ha s
theorem bm.fx{A:aa}{X:Type}{p:X→Prop}{Bs:X→List aa}(t:Take H A R)(e:∀ h,A h→ ∃ x,p x∧seps (Bs x) h)(k:∀ x,p x→bm P W N K O Q ks ops L (Bs x++R)):bm P W N K O Q ks ops L H:=fun a w ha hs=>let ⟨x,hp,s⟩:=xZ t e hs;k x hp a w ha s
theorem bA.fx{en:Exit}{A:aa}{X:Type}{p:X→Prop}{Bs:X→List aa}(t:Take H A R)(e:∀ h,A h→ ∃ x,p x∧seps (Bs x) h)(k:∀ x,p x→bA W N Q en L (Bs x++R)):bA W N Q en L H:=fun a w ha hs=>let ⟨x,hp,s⟩:=xZ t e hs;k x hp a w ha s
theorem cz{ps:List (Option Nat)}{ts:List (Option bI)}{n p:Nat}{t:bI}(hn:n<ts.length)(hp:ps[n]?=some (some p)):∀ h,seps [arr p 0 (bn t),aB (ps.set n none) (ts.set n none)] h→aB ps (ts.set n (some t)) h:=fun h a =>
 El hn hp h (by simpa only[seps,aK] using a)
end
end Go.SLYtpbjdoplfgeliaaGreat
namespace Go.SLYtpbjdoplfgeliaaGreat
open Go Go.RowKit
section
variable{P:Program}{W:World}{N:Nat}{Q:Exit→Act→World→Prop}{O:Array Oper}{L:List (Nat×Option Value)}{H K R:List aa}{T:TypeId}{α:Type}
theorem Take.app{A:aa}(E:aa)(t:Take H A R):Take (H++[E]) A (R++[E]):=by
 induction t with
 | here=>exact .here
 | there _ ih=>exact .there ih
theorem aw.app{H R As:List aa}(E:aa)(t:aw H As R):aw (H++[E]) As (R++[E]):=by
 induction t with
 | nil=>exact .nil
 | cons h _ ih=>exact .cons (h.app E) ih
 | conv c _ ih=>exact .conv c ih
 | eX _ _ i1 i2=>exact .eX i1 i2
 | f1 e x1 _ _ hp i1 i2=>exact .f1 e x1 i1 i2 hp
 | f2 e x1 x2 _ _ hp i1 i2=>exact .f2 e x1 x2 i1 i2 hp
 | f3 e x1 x2 x3 _ _ hp i1 i2=>exact .f3 e x1 x2 x3 i1 i2 hp
 | f4 e x1 x2 x3 x4 _ _ hp i1 i2=>exact .f4 e x1 x2 x3 x4 i1 i2 hp
 | f5 e x1 x2 x3 x4 x5 _ _ hp i1 i2=>exact .f5 e x1 x2 x3 x4 x5 i1 i2 hp
 | f6 e x1 x2 x3 x4 x5 x6 _ _ hp i1 i2=>exact .f6 e x1 x2 x3 x4 x5 x6 i1 i2 hp
 | f7 e x1 x2 x3 x4 x5 x6 x7 _ _ hp i1 i2=>exact .f7 e x1 x2 x3 x4 x5 x6 x7 i1 i2 hp
 | f8 e x1 x2 x3 x4 x5 x6 x7 x8 _ _ hp i1 i2=>exact .f8 e x1 x2 x3 x4 x5 x6 x7 x8 i1 i2 hp
 | f9 e x1 x2 x3 x4 x5 x6 x7 x8 x9 _ _ hp i1 i2=>exact .f9 e x1 x2 x3 x4 x5 x6 x7 x8 x9 i1 i2 hp
 | f10 e x1 x2 x3 x4 x5 x6 x7 x8 x9 x10 _ _ hp i1 i2=>exact .f10 e x1 x2 x3 x4 x5 x6 x7 x8 x9 x10 i1 i2 hp
 | f11 e x1 x2 x3 x4 x5 x6 x7 x8 x9 x10 x11 _ _ hp i1 i2=>exact .f11 e x1 x2 x3 x4 x5 x6 x7 x8 x9 x10 x11 i1 i2 hp
 | f12 e x1 x2 x3 x4 x5 x6 x7 x8 x9 x10 x11 x12 _ _ hp i1 i2=>exact .f12 e x1 x2 x3 x4 x5 x6 x7 x8 x9 x10 x11 x12 i1 i2 hp
theorem bH.eD{ks rest:List Nat}{i:Nat}{f:FuncId}{xs:Array Operand}{ts:Array TypeId}{T:TypeId}{pos:String}{after:Array Edge}{d:Nat}{args:List Value}{pre R:List aa}{X:Type}{val:X→Value}{fact:X→Prop}{post:X→List aa}
  (ho:O[i]?=some ⟨some d,.call ⟨.value (.func f),xs,ts⟩,T,pos,after,none⟩) (hk:ks.getD i 1=2∨ks.getD i 1=3) (hN:Nat.blt d N=true) (hK:ks.getD i 1=2→ ∀ w,Sat W w (seps H)→Sat W w (seps K))
  (hc:∀ args w,(callFunc f args).run P w = .ok (.enter f args) w) (hx:evs L xs.toList=some args) (hfn:Fn P W f args pre X val fact post) (ht:aw H pre R) (hK':ks.getD i 1=2→ ∀ x, ∀ w,Sat W w (seps (post x++R))→Sat W w (seps K))
  (h:∀ x,fact x→bH P W N K O Q ks rest ((d,some (val x))::L) (post x++R)):bH P W N K O Q ks (i::rest) L H:=by
 have key:∀ E a w,zC W N L H E a w→Oper.wp P ⟨some d,.call ⟨.value (.func f),xs,ts⟩,T,pos,after,none⟩ a w (fun a' w'=>(ks.getD i 1=2→Sat W w' (seps K))∧ ∃ x:{x:X // fact x },zC W N ((d,some (val x.1))::L) (post x.1++R) E a' w') QF:=fun E a w hs=>by
  obtain⟨ha,hs⟩:=j4.1 hs
  refine af.eD (guard:=none) hN hc hx hfn (ht.app E) a w ha hs _ ?_
  rintro L' H' ⟨x,hx,rfl,rfl⟩ a' w' ha' hs'
  rw[← List.append_assoc] at hs'
  have h2:zC W N ((d,some (val x))::L) (post x++R) E a' w':=j4.2 ⟨ha',hs'⟩
  exact⟨fun e=>hK' e x w' h2.2.left,⟨x,hx⟩,h2⟩
 unfold bH
 rcases hk with hk | hk
 ·simp only[wpF,ho,hk]
  refine⟨{x:X // fact x },fun x=>zC W N ((d,some (val x.1))::L) (post x.1++R),fun x=>hY,fun E a w hs=>⟨fun _=>hK hk w hs.2.left,?_⟩,fun x=>h x.1 x.2⟩
  rw[if_pos (bo rfl)]
  exact Oper.wp_mono (fun a w ⟨h1,h2⟩=>⟨fun _=>h1 hk,h2⟩) (key E a w hs)
 ·simp only[wpF,ho,hk]
  refine⟨{x:X // fact x },fun x=>zC W N ((d,some (val x.1))::L) (post x.1++R),fun x=>hY,fun E a w hs=>⟨fun e=>(by cases e),?_⟩,fun x=>h x.1 x.2⟩
  rw[if_pos (bo rfl)]
  exact Oper.wp_mono (fun a w ⟨h1,h2⟩=>⟨fun e=>(by cases e),h2⟩) (key E a w hs)
theorem bH.d{ks rest:List Nat}{i:Nat}{o:Oper}{X:Type}{Lx:X→List (Nat×Option Value)}{Hx:X→List aa}(ho:O[i]?=some o)(hg:o.guard=none)(hk:ks.getD i 1=2∨ks.getD i 1=3)(hK:ks.getD i 1=2→ ∀ w,Sat W w (seps H)→Sat W w (seps K))
  (hd:∀ E,af P W N o L (H++[E]) (fun L1 H1=>∃ x,L1=Lx x∧H1=Hx x++[E])) (hK':ks.getD i 1=2→ ∀ x, ∀ w,Sat W w (seps (Hx x))→Sat W w (seps K)) (h:∀ x,bH P W N K O Q ks rest (Lx x) (Hx x)):bH P W N K O Q ks (i::rest) L H:=by
 have key:∀ E a w,zC W N L H E a w→Oper.wp P o a w (fun a' w'=>(ks.getD i 1=2→Sat W w' (seps K))∧ ∃ x:X,zC W N (Lx x) (Hx x) E a' w') QF:=fun E a w hs=>by
  obtain⟨ha,hs⟩:=j4.1 hs
  refine hd E a w ha hs _ ?_
  rintro L' H' ⟨x,rfl,rfl⟩ a' w' ha' hs'
  have h2:zC W N (Lx x) (Hx x) E a' w':=j4.2 ⟨ha',hs'⟩
  exact⟨fun e=>hK' e x w' h2.2.left,x,h2⟩
 unfold bH
 rcases hk with hk | hk
 ·simp only[wpF,ho,hk]
  refine⟨X,fun x=>zC W N (Lx x) (Hx x),fun x=>hY,fun E a w hs=>⟨fun _=>hK hk w hs.2.left,?_⟩,h⟩
  rw[if_pos (bo hg)]
  exact Oper.wp_mono (fun a w ⟨h1,h2⟩=>⟨fun _=>h1 hk,h2⟩) (key E a w hs)
 ·simp only[wpF,ho,hk]
  refine⟨X,fun x=>zC W N (Lx x) (Hx x),fun x=>hY,fun E a w hs=>⟨fun e=>(by cases e),?_⟩,h⟩
  rw[if_pos (bo hg)]
  exact Oper.wp_mono (fun a w ⟨h1,h2⟩=>⟨fun e=>(by cases e),h2⟩) (key E a w hs)
theorem BI{enc:α→List Value}{k:Nat}(z0:α){t e:TypeId}{kd kd':IntKind}{i:TypeInfo}{z:Value}{n:Nat}(hu:P.underlying t=some (.slice e))(hi:∀ w,(typeInfo e).run P w = .ok i w)(hz:i.zero=some z)(hk:i.size=k)(hzc:z.cells=(enc z0).toArray)(hkl:(enc z0).length=k)(hk0:0<k)(hb:1≤i.bytes∧i.bytes≤4096)
  (hn:n≤1073741824) (w:World):(Instr.makeSlice t (.int kd (n:Int)) (.int kd' (n:Int))).run P w = .ok (.slice (some ⟨w.heap.size,0,none⟩) n n) (w.alloc (.cells (rows enc (List.replicate n z0)).toArray e)):=by
 have hz0:∀ w,(zeroValue e).run P w = .ok z w:=fun w=>by simp[zeroValue,hi,hz]
 have hsz:∀ w,(sizeOf e).run P w = .ok k w:=fun w=>by simp[sizeOf,hi,hk]
 have hwr:IntKind.i64.wrap (n:Int)=(n:Int):=wrap_i64 (by omega)
 have hwr0:IntKind.i64.wrap 0=0:=wrap_i64 (by omega)
 have hbig2:¬(281474976710656<(i.bytes:Int) * (n:Int)):=by
  have h1:i.bytes * n≤4096 * 1073741824:=Nat.mul_le_mul hb.2 hn
  have h3:((i.bytes * n:Nat):Int)=i.bytes * (n:Int):=by simp
  omega
 have hroom:∀ m w',(askRoom m).run P w' = .ok () w':=fun m w'=>by
  unfold askRoom
  split <;> rfl
 have e4:∀ cs:Array Value,(newRow e cs).run P w = .ok ⟨w.heap.size,0,none⟩ (w.alloc (.cells cs e)):=fun _=>rfl
 have hnews:(rows enc (List.replicate n z0)).toArray=(Array.range (n * k)).map ((enc z0).toArray[· % (enc z0).toArray.size]!):=by
  rw[← tv hkl hk0 n,Array.toArray_toList]
 by_cases h0:n=0
 ·subst h0
  simp[Instr.makeSlice,run_underlying hu,asInt,asIntOf,hi,hwr0,hroom,hsz,e4]
  rw[show(Array.range 0).map (fun _=>(default:Value)) = #[] from by simp]
  simp[rows]
 ·have hnk:¬(n * k=0):=by
   intro h;rcases Nat.mul_eq_zero.1 h with h | h <;> omega
  have h3:¬((n:Int)<0):=by omega
  have hk00:¬(k=0):=by omega
  simp[Instr.makeSlice,run_underlying hu,asInt,asIntOf,hi,hwr,hroom,hsz,hz0,hzc,e4,hbig2,h3,h0,hk00,hnews]
  intro h;exact absurd h hnk
theorem ln{enc:α→List Value}{k:Nat}(z0:α){x y:Operand}{t e T:TypeId}{kd kd':IntKind}{i:TypeInfo}{z:Value}{m m':Int}(n:Nat){pos:String}{after:Array Edge}{d:Nat}
  (hu:P.underlying t=some (.slice e)) (hi:∀ w,(typeInfo e).run P w = .ok i w) (hz:i.zero=some z) (hk:i.size=k) (hzc:z.cells=(enc z0).toArray) (hkl:(enc z0).length=k) (hk0:0<k) (hb:1≤i.bytes∧i.bytes≤4096)
  (hx:ev L x=some (.int kd m)) (hy:ev L y=some (.int kd' m')) (hm:m=(n:Int)) (hm':m'=(n:Int)) (hn:n≤1073741824) :
  ∀ a,Env N L a→cb P O ⟨some d,.makeSlice t x y,T,pos,after,none⟩ a (fun b=>.slice (some ⟨b,0,none⟩) n n) (rows enc (List.replicate n z0)) e:=fun a ha=>⟨bo rfl,fun w=>by
 subst hm hm'
 simp[execOp,ha.eval hx,ha.eval hy,BI (P:=P) (kd:=kd) (kd':=kd') z0 hu hi hz hk hzc hkl hk0 hb hn w]⟩
theorem JC{enc:α→List Value}{k b n:Nat}(xs:List α){cs:List Value}(hn:xs.length=n)(hk:∀ x∈xs,(enc x).length=k)(hc:cs=rows enc xs):∀ h,seps [arr b 0 cs] h→sl enc k (.slice (some ⟨b,0,none⟩) n n) xs h:=fun h a=>by
 subst hn hc
 simp only[seps,aK] at a
 exact .inr ⟨b,xs.length,[],rfl,Nat.le_refl _,hk,by simp,by rw[List.append_nil];exact a⟩
theorem sE{enc:α→List Value}{k b n:Nat}{z0:α}(hk:(enc z0).length=k):∀ h,seps [arr b 0 (rows enc (List.replicate n z0))] h→sl enc k (.slice (some ⟨b,0,none⟩) n n) (List.replicate n z0) h :=
 JC _ (by simp) (fun x hx=>by rw[List.eq_of_mem_replicate hx];exact hk) rfl
theorem Y.fa{op:Op}{k:IntKind}{m n:Int}(h:Y P W N op T L H (.int k m))(e:m=n):Y P W N op T L H (.int k n):=e ▸ h
theorem Rd.shape{enc:α→List Value}{k:Nat}{v:Value}{xs:List α}(h:Rd W H enc k v xs):∀ w,Sat W w (seps H)→ ∃ a cap,v = .slice a xs.length cap:=fun w s=>by
 obtain⟨⟨a,cap,hv,_⟩,_⟩:=h w s
 exact⟨a,cap,hv⟩
theorem Y.Gs{x y1:Operand}{t e:TypeId}{k b len cap:Nat}{k1:IntKind}{j1:Int}(l:Nat)(hu:P.underlying t=some (.slice e))(hz:∀ w,(sizeOf e).run P w = .ok k w)(hx:ev L x=some (.slice (some ⟨b,0,none⟩) len cap))
  (h1:ev L y1=some (.int k1 j1)) (e1:j1=(l:Int)) (b1:l≤len) (b2:l<cap):Y P W N (.slice t x (some y1) none none) T L H (.slice (some ⟨b,l * k,none⟩) (len-l) (cap-l)):=by
 have:=Y.nv (P:=P) (W:=W) (N:=N) (T:=T) (H:=H) l hu hz hx h1 e1 b1
 rw[if_neg (by omega),Option.map_some,dI,Nat.zero_add] at this
 exact this
theorem Rd.pre{enc:α→List Value}{k b j len cap:Nat}{xs:List α}(h:Rd W H enc k (.slice (some ⟨b,0,none⟩) len cap) xs)(hj:j≤xs.length):Rd W H enc k (.slice (some ⟨b,0,none⟩) j cap) (xs.take j):=by
 have:=h.cut (lo:=0) (hi:=j) (Nat.zero_le _) hj
 rw[List.drop_zero] at this
 have e:SLYtpbjdoplfgeliaaGreat.cut k 0 j (.slice (some ⟨b,0,none⟩) len cap) = .slice (some ⟨b,0,none⟩) j cap:=by
  simp only[SLYtpbjdoplfgeliaaGreat.cut]
  split <;> simp[Addr.add]
 rwa [e] at this
/-! ### bits -/
def JE(k:IntKind)(a b:Int):Int:=k.wrap (BitVec.ofInt k.bits a &&& BitVec.ofInt k.bits b).toNat
def PI(k:IntKind)(a b:Int):Int:=k.wrap (BitVec.ofInt k.bits a ||| BitVec.ofInt k.bits b).toNat
def Pg(k:IntKind)(a b:Int):Int:=k.wrap (BitVec.ofInt k.bits a ^^^ BitVec.ofInt k.bits b).toNat
def Ph(k:IntKind)(a b:Int):Int:=k.wrap (a * 2 ^ (min b.toNat k.bits))
def LK(k:IntKind)(a b:Int):Int:=a.fdiv (2 ^ (min b.toNat k.bits))
theorem Y.LL{k:IntKind}{xT yT:TypeId}{x y:Operand}{m n:Int}(hx:ev L x=some (.int k m))(hy:ev L y=some (.int k n)):Y P W N (.binOp .and xT x y yT) T L H (.int k (JE k m n)) :=
 Y.bin hx hy fun w=>by simp[eqGuard,binOp,Op.intBits,JE]
theorem Y.Gt{k k':IntKind}{xT yT:TypeId}{x y:Operand}{m n:Int}(hx:ev L x=some (.int k m))(hy:ev L y=some (.int k' n))(hn:0≤n):Y P W N (.binOp .shr xT x y yT) T L H (.int k (LK k m n)) :=
 Y.bin hx hy fun w=>by simp[eqGuard,binOp,Op.shift,LK,show ¬(n<0) from by omega]
theorem qD{a:Int}(h:0≤a∧a<4294967296):JE .u64 a 4294967295=a:=by
 obtain⟨n,rfl⟩:∃ n:Nat,a=n:=⟨a.toNat,by omega⟩
 unfold JE
 have e:(BitVec.ofInt IntKind.u64.bits (n:Int) &&& BitVec.ofInt IntKind.u64.bits 4294967295).toNat=n:=by
  rw[BitVec.toNat_and]
  have h1:(BitVec.ofInt IntKind.u64.bits (n:Int)).toNat=n:=by
   show(BitVec.ofInt 64 (n:Int)).toNat=n
   rw[BitVec.toNat_ofInt]
   omega
  have h2:(BitVec.ofInt IntKind.u64.bits 4294967295).toNat=2 ^ 32-1:=by decide
  rw[h1,h2,Nat.and_two_pow_sub_one_eq_mod]
  omega
 rw[e]
 exact wrap_u64 (by omega)
theorem jz{a:Int}(h:0≤a∧a<4294967296):LK .u64 a 32=0:=by
 show a.fdiv (2 ^ (min (32:Int).toNat 64))=0
 rw[show(2:Int) ^ (min (32:Int).toNat 64)=4294967296 from by decide,Int.fdiv_eq_ediv_of_nonneg _ (by omega)]
 omega
/-! ### a nil slice grows by zeros -/
theorem tD{enc:α→List Value}{k:Nat}(z0:α){t t2 e ty:TypeId}{kd k2:IntKind}{i:TypeInfo}{z:Value}{n:Nat}{R:aa}{w:World}(hu:P.underlying t=some (.slice e))(hu2:P.underlying t2=some (.int k2))(hi:∀ w,(typeInfo e).run P w = .ok i w)(hz:i.zero=some z)(hk:i.size=k)(hzc:z.cells=(enc z0).toArray)(hkl:(enc z0).length=k)(hk0:0<k)(hb:1≤i.bytes∧i.bytes≤4096)
  (hn:0<n∧n≤1000000000) (hs:Sat W w R):∃ b c w',(Builtin.append_ #[t,t2] ty #[.slice none 0 0,.int kd (n:Int)]).run P w = .ok (.slice (some ⟨b,0,none⟩) n c) w'∧n≤c∧Sat W w' (sep (sl enc k (.slice (some ⟨b,0,none⟩) n c) (List.replicate n z0)) R):=by
 have hz0:∀ w,(zeroValue e).run P w = .ok z w:=fun w=>by simp[zeroValue,hi,hz]
 have hsz:∀ w,(sizeOf e).run P w = .ok k w:=fun w=>by simp[sizeOf,hi,hk]
 have hwr:IntKind.i64.wrap (n:Int)=(n:Int):=wrap_i64 (by omega)
 have hzs:z.cells.size=k:=by rw[hzc];simpa using hkl
 have hbn:i.bytes * n≤4096 * 1000000000:=Nat.mul_le_mul hb.2 hn.2
 have hbig1:¬(281474976710656<(n:Int) * (i.bytes:Int)):=by
  have h3:((i.bytes * n:Nat):Int)=(n:Int) * i.bytes:=by rw[Int.natCast_mul,Int.mul_comm]
  omega
 have hnc:=tn (need:=n) (old:=0) (by omega)
 have hbig:¬(Builtin.nextslicecap n 0 * i.bytes>2 ^ 48):=by
  have h1:Builtin.nextslicecap n 0 * i.bytes≤(1000000000+768) * 16 * 4096 :=
   Nat.mul_le_mul (Nat.le_trans hnc (Nat.mul_le_mul_right _ (by omega))) hb.2
  have h2:(2:Nat) ^ 48=281474976710656:=by decide
  rw[h2]
  omega
 have hq:(Question.appendCap n 0 e).forced=false:=rfl
 let nc:=(Question.appendCap n 0 e).cut (w.tape w.drawn (Question.appendCap n 0 e))
 have hnc1:n≤nc:=Nat.le_add_right _ _
 have hroom:∀ m w',(askRoom m).run P w' = .ok () w':=fun m w'=>by
  unfold askRoom
  split <;> rfl
 obtain⟨news,hnews⟩:∃ news,news=Builtin.zeroCells z.cells n++Builtin.zeroCells z.cells (nc - n):=⟨_,rfl⟩
 refine⟨w.drew.heap.size,nc,w.drew.alloc (.cells news e),?_,hnc1,?_⟩
 ·have h3:¬((n:Int)<0):=by omega
  have h0:¬(n=0):=by omega
  have hk00:¬(k=0):=by omega
  have hnk:¬(n * k=0):=by
   intro h;rcases Nat.mul_eq_zero.1 h with h | h <;> omega
  have hmax:¬((n:Int)>IntKind.i64.max):=by
   rw[show IntKind.i64.max=9223372036854775807 from by decide];omega
  have e4:(newRow e news).run P w.drew = .ok ⟨w.drew.heap.size,0,none⟩ (w.drew.alloc (.cells news e)):=rfl
  simp[Builtin.append_,run_underlying hu,run_underlying hu2,hsz,asInt,asIntOf,hi,hwr,h3,hbig1,h0,hk00,hnk,hmax,hbig,choose,Sem.run,hq]
  rw[if_neg (by omega)]
  have hfc:∀ w,(Builtin.firstCells k 0 (.slice none 0 0)).run P w = .ok #[] w:=fun _=>rfl
  have e5:((Question.appendCap n 0 e).cut (w.tape w.drawn (Question.appendCap n 0 e)))=nc:=rfl
  rw[hfc,e5]
  simp only[Result.andThen_ok,hz0,Array.empty_append]
  rw[← hnews,e4]
  rfl
 ·have h7:=(hs.drew).alloc news e
  have h8:news.toList=rows enc (List.replicate n z0)++(Builtin.zeroCells z.cells (nc-n)).toList:=by
   rw[hnews,Array.toList_append]
   congr 1
   rw[← tv hkl hk0 n]
   simp only[Builtin.zeroCells,hzc]
   rw[show(enc z0).toArray.size=k from by simpa using hkl]
  rw[h8] at h7
  have h5:=Sat.nZ (enc:=enc) (k:=k) (b:=w.drew.heap.size) (cap:=nc) (xs:=List.replicate n z0) (sp:=(Builtin.zeroCells z.cells (nc-n)).toList) (by simpa using hnc1) (fun x hx=>by rw[List.eq_of_mem_replicate hx];exact hkl) (by
   rw[Array.length_toList,oq,hzs,List.length_replicate]) h7
  rw[List.length_replicate] at h5
  exact h5
theorem af.BJ{enc:α→List Value}{k:Nat}(z0:α){x y:Operand}{t t2 e ty:TypeId}{kd k2:IntKind}{i:TypeInfo}{z:Value}{m:Int}(n:Nat){pos:String}{after:Array Edge}{guard:Option (Nat×Bool)}{d:Nat}(hN:Nat.blt d N=true)
  (hu:P.underlying t=some (.slice e)) (hu2:P.underlying t2=some (.int k2)) (hi:∀ w,(typeInfo e).run P w = .ok i w) (hz:i.zero=some z) (hk:i.size=k) (hzc:z.cells=(enc z0).toArray) (hkl:(enc z0).length=k) (hk0:0<k) (hb:1≤i.bytes∧i.bytes≤4096)
  (hx:ev L x=some (.slice none 0 0)) (hy:ev L y=some (.int kd m)) (hm:m=(n:Int)) (hn:0<n∧n≤1000000000) :
  af P W N ⟨some d,.call ⟨.builtin .append, #[x,y], #[t,t2]⟩,ty,pos,after,guard⟩ L H (fun L1 H1=>∃ q:Nat×Nat,n≤q.2∧L1=(d,some (.slice (some ⟨q.1,0,none⟩) n q.2))::L∧H1=sl enc k (.slice (some ⟨q.1,0,none⟩) n q.2) (List.replicate n z0)::H):=fun a w ha hs Kp hK=>by
 subst hm
 obtain⟨b,c,w',h1,hc,h2⟩:=tD (P:=P) (ty:=ty) (kd:=kd) z0 hu hu2 hi hz hk hzc hkl hk0 hb hn hs
 have hrun:(execOp a.eval ⟨some d,.call ⟨.builtin .append, #[x,y], #[t,t2]⟩,ty,pos,after,guard⟩).run P w = .ok (.value (.slice (some ⟨b,0,none⟩) n c)) w':=by
  simp[execOp,resolve,invoke,builtin,ha.eval hx,ha.eval hy,h1]
 unfold Oper.wp
 rw[hrun]
 simp only[Oper.upon]
 exact hK _ _ ⟨(b,c),hc,rfl,rfl⟩ _ _ (ha.put (Nat.blt_eq.mp hN) _) h2
theorem Em{enc:α→List Value}{k b n c:Nat}{xs:List α}(m:Nat)(hm:m≤xs.length):∀ h,sl enc k (.slice (some ⟨b,0,none⟩) n c) xs h→seps [sl enc k (.slice (some ⟨b,0,none⟩) m c) (xs.take m)] h:=by
 rintro h (⟨⟨a',e⟩,hx,he⟩ | ⟨b',cap',sp,e,hle,hk,hsp,a1⟩)
 ·cases e
  subst hx
  have:m=0:=by simpa using hm
  subst this
  simp only[seps,aK]
  exact .inl ⟨⟨_,rfl⟩,rfl,he⟩
 ·cases e
  simp only[seps,aK]
  have hl:(xs.take m).length=m:=by rw[List.length_take];omega
  have:sl enc k (.slice (some ⟨b,0,none⟩) (xs.take m).length c) (xs.take m) h:=by
   refine .inr ⟨b,c,rows enc (xs.drop m)++sp,rfl,by omega,fun x hx=>hk x (List.mem_of_mem_take hx),?_,?_⟩
   ·rw[List.length_append,bq (fun x hx=>hk x (List.mem_of_mem_drop hx)),List.length_drop,hsp,hl, ← Nat.add_mul]
    congr 1;omega
   ·rw[← List.append_assoc, ← ct,List.take_append_drop];exact a1
  rwa [hl] at this
theorem iG.Gu{w:World}{enc:α→List Value}{k m:Nat}{u:Value}{ys:List α}(h:iG w enc k u ys)(hm:m≤ys.length):(Builtin.firstCells k m u).run P w = .ok (rows enc (ys.take m)).toArray w:=by
 have h1:=(h.cut (lo:=0) (hi:=m) (Nat.zero_le _) hm).firstCells (P:=P)
 obtain⟨⟨a,cap,rfl,_⟩,_⟩:=h
 rw[List.drop_zero,List.length_take,Nat.min_eq_left hm] at h1
 have e:Builtin.firstCells k m (Value.slice a ys.length cap)=Builtin.firstCells k m (SLYtpbjdoplfgeliaaGreat.cut k 0 m (Value.slice a ys.length cap)):=by
  simp only[SLYtpbjdoplfgeliaaGreat.cut]
  cases a with
  | none=>simp[Builtin.firstCells]
  | some p=>split <;> simp[Builtin.firstCells,Addr.add]
 rw[e];exact h1
theorem af.BK{enc:α→List Value}{k b i len cap c':Nat}{x y:Operand}{t t2 e ty:TypeId}{u:Value}{xs ys:List α}{pos:String}{after:Array Edge}{guard:Option (Nat×Bool)}{d:Nat}(hN:Nat.blt d N=true)(hu:P.underlying t=some (.slice e))(hz:∀ w,(sizeOf e).run P w = .ok k w)
  (hx:ev L x=some (.slice (some ⟨b,i * k,none⟩) (len-i) c')) (hy:ev L y=some u) (hr:Rd W H enc k u ys) (ht:Take H (sl enc k (.slice (some ⟨b,0,none⟩) len cap) xs) R) (hl:xs.length=len) (hi:i≤len) (h0:0<len) (hone:∀ y∈ys, ∀ c∈enc y,c.oneCell'=true) :
  af P W N ⟨some d,.call ⟨.builtin .copy, #[x,y], #[t,t2]⟩,ty,pos,after,guard⟩ L H (fun L1 H1=>L1=(d,some (.int .i64 ((min ys.length (len-i):Nat):Int)))::L∧
   H1=sl enc k (.slice (some ⟨b,0,none⟩) len cap) (xs.take i++(ys.take (min ys.length (len-i))++xs.drop (i+min ys.length (len-i))))::R):=fun a w ha hs Kp hK=>by
 have hrd:=hr w hs
 rw[ht.seps] at hs
 subst hl
 generalize hm:min ys.length (xs.length-i)=m at hK
 have hm1:m≤ys.length:=by omega
 have hm2:i+m≤xs.length:=by omega
 have hf:=hrd.Gu (P:=P) hm1
 have hue:=hrd
 obtain⟨⟨ua,ucap,hue,_⟩,hyk,_⟩:=hue
 have hln:(Builtin.lenOf u).run P w = .ok ys.length w:=by rw[hue];simp[Builtin.lenOf]
 have hmin:Nat.min ys.length (xs.length-i)=m:=hm
 have fin:∀ w',(execOp a.eval ⟨some d,.call ⟨.builtin .copy, #[x,y], #[t,t2]⟩,ty,pos,after,guard⟩).run P w = .ok (.value (.int .i64 (m:Int))) w'→
   Sat W w' (sep (sl enc k (.slice (some ⟨b,0,none⟩) xs.length cap) (xs.take i++(ys.take m++xs.drop (i+m)))) (seps R))→Oper.wp P ⟨some d,.call ⟨.builtin .copy, #[x,y], #[t,t2]⟩,ty,pos,after,guard⟩ a w Kp QF:=fun w' hrun hs'=>by
  unfold Oper.wp
  rw[hrun]
  simp only[Oper.upon]
  exact hK _ _ ⟨rfl,rfl⟩ _ _ (ha.put (Nat.blt_eq.mp hN) _) hs'
 rcases hs.rH with ⟨⟨va,hv0⟩,hx0,hs0⟩ | ⟨b',cap',sp,hv,hle,hkk,hsp,hs1⟩
 ·subst hx0;exact absurd h0 (by simp)
 ·cases hv
  have hlm:(ys.take m).length=m:=by rw[List.length_take];omega
  have hrl:(rows enc (ys.take m)).length=m * k:=by rw[bq (fun z hz=>hyk z (List.mem_of_mem_take hz)),hlm]
  have hone':∀ c∈rows enc (ys.take m),c.oneCell'=true:=fun c hc=>by
   obtain⟨z,hz,hc⟩:=List.mem_flatMap.1 hc
   exact hone z (List.mem_of_mem_take hz) c hc
  have hlx:(rows enc xs).length=xs.length * k:=bq hkk
  have hmk:i * k+m * k≤xs.length * k:=by rw[← Nat.add_mul];exact Nat.mul_le_mul_right _ hm2
  obtain⟨w',h1,h2⟩:=eJ (P:=P) (rows enc (ys.take m)) (rows enc xs++sp) (i * k) 0 w hs1 hone' (by rw[List.length_append,hrl,hlx];omega)
  refine fin w' ?_ ?_
  ·simp only[Nat.zero_add] at h1
   simp[execOp,resolve,invoke,builtin,Builtin.copy_,run_underlying hu,ha.eval hx,ha.eval hy,hln,hz,hmin,hf,h1,goInt]
  ·have e9:rows enc xs++sp=rows enc (xs.take i)++(rows enc (xs.drop i)++sp):=by
    rw[← List.append_assoc, ← ct,List.take_append_drop]
   have hti:(rows enc (xs.take i)).length=i * k:=by rw[bq (fun z hz=>hkk z (List.mem_of_mem_take hz)),List.length_take];congr 1;omega
   have hdi:(rows enc (xs.drop i)).length=(xs.length-i) * k:=by rw[bq (fun z hz=>hkk z (List.mem_of_mem_drop hz)),List.length_drop]
   have e3:setFrom (rows enc xs++sp) (i * k+0) (rows enc (ys.take m))=rows enc (xs.take i++(ys.take m++xs.drop (i+m)))++sp:=by
    rw[Nat.add_zero,e9, ← hti,jY (by rw[List.length_append,hrl,hdi];have:=Nat.mul_le_mul_right k (show m≤xs.length-i by omega);omega),hrl,ct,ct]
    rw[List.drop_append_of_le_length (by rw[hdi];exact Nat.mul_le_mul_right k (by omega))]
    have:(rows enc (xs.drop i)).drop (m * k)=rows enc (xs.drop (i+m)):=by
     have hsplit:rows enc (xs.drop i)=rows enc ((xs.drop i).take m)++rows enc ((xs.drop i).drop m):=by rw[← ct,List.take_append_drop]
     have hlen:(rows enc ((xs.drop i).take m)).length=m * k:=by
      rw[bq (fun z hz=>hkk z (List.mem_of_mem_drop (List.mem_of_mem_take hz))),List.length_take,List.length_drop];congr 1;omega
     rw[hsplit, ← hlen,List.drop_left,List.drop_drop]
    rw[this];simp
   rw[e3] at h2
   have hnl:(xs.take i++(ys.take m++xs.drop (i+m))).length=xs.length:=by simp only[List.length_append,List.length_take,List.length_drop];omega
   have:=Sat.nZ (enc:=enc) (k:=k) (b:=b) (cap:=cap) (xs:=xs.take i++(ys.take m++xs.drop (i+m))) (sp:=sp) (by omega) (fun z hz=>by
    rcases List.mem_append.1 hz with h | h
    ·exact hkk z (List.mem_of_mem_take h)
    ·rcases List.mem_append.1 h with h | h
     ·exact hyk z (List.mem_of_mem_take h)
     ·exact hkk z (List.mem_of_mem_drop h)) (by rw[hnl];exact hsp) h2
   rwa [hnl] at this
end
end Go.SLYtpbjdoplfgeliaaGreat
namespace Go.SLYtpbjdoplfgeliaaGreat
open Go Go.RowKit
theorem py(l:List Int):∀ y∈l, ∀ c∈aq y,c.oneCell'=true:=fun y _ c hc=>by simp only[aq,List.mem_cons,List.not_mem_nil,or_false] at hc;subst hc;rfl
theorem zJ(l:List Int):∀ y∈l, ∀ c∈eS y,c.oneCell'=true:=fun y _ c hc=>by simp only[eS,List.mem_cons,List.not_mem_nil,or_false] at hc;subst hc;rfl
theorem ny{α:Type}{enc:α→List Value}(h:∀ x,(enc x).all (·.oneCell')=true)(l:List α):∀ y∈l, ∀ c∈enc y,c.oneCell'=true:=fun y _ c hc=>List.all_eq_true.1 (h y) c hc
theorem Dc(l:List Ev):∀ y∈l, ∀ c∈cf y,c.oneCell'=true:=ny (fun _=>rfl) l
theorem zK(l:List Rec):∀ y∈l, ∀ c∈iU y,c.oneCell'=true:=ny (fun _=>rfl) l
theorem Gv(l:List Ins):∀ y∈l, ∀ c∈dM y,c.oneCell'=true:=ny (fun _=>rfl) l
theorem Gw(l:List wh):∀ y∈l, ∀ c∈gJ y,c.oneCell'=true:=ny (fun _=>rfl) l
theorem Gx(l:List eW):∀ y∈l, ∀ c∈dt y,c.oneCell'=true:=ny (fun _=>rfl) l
theorem Gy(l:List Ptr):∀ y∈l, ∀ c∈my y,c.oneCell'=true:=ny (fun _=>rfl) l
def isSl:Value→Bool
 | .slice .. => true
 | _=>false
theorem gb{v:Value}(h:isSl v=true):v.oneCell'=true:=by cases v <;> simp_all [isSl,Value.oneCell']
section
variable{P:Program}{W:World}{H:List aa}{α:Type}
theorem Rd.zL{enc:α→List Value}{k:Nat}{v:Value}{xs:List α}(h:Rd W H enc k v xs)(hn:Gj v=true):∀ w,Sat W w (seps H)→xs=[]:=fun w s=>by
 obtain⟨⟨a,cap,hv,_,_,hnn⟩,_⟩:=h w s
 subst hv
 cases a with
 | none=>exact hnn rfl
 | some p=>cases hn
theorem ya{enc:α→List Value}{k:Nat}{a:Option Addr}{n cap:Nat}{xs:List α}:∀ h,sl enc k (.slice a n cap) xs h→ ∃ J:aa,True∧seps [sl enc k (.slice a n n) xs,J] h:=by
 rintro h (⟨⟨a',e⟩,hx,he⟩ | ⟨b,cap',sp,e,hle,hk,hsp,a1⟩)
 ·cases e
  exact⟨emp,trivial,by simp only[seps,aK];exact .inl ⟨⟨_,rfl⟩,hx,he⟩⟩
 ·cases e
  rw[dX] at a1
  refine⟨arr b (0+(rows enc xs).length) sp,trivial,?_⟩
  ·simp only[seps,aK]
   exact bB (fun h a=>.inr ⟨b,xs.length,[],rfl,Nat.le_refl _,hk,by simp,by rw[List.append_nil];exact a⟩) (fun _ h=>h) h a1
theorem drop_cons{xs:List α}{k:Nat}{x:α}(h:xs[k]?=some x):xs.drop k=x::xs.drop (k+1):=by
 have hi:=(List.getElem?_eq_some_iff.1 h).1
 rw[List.drop_eq_getElem_cons hi,(List.getElem?_eq_some_iff.1 h).2]
theorem aW{l:List α}{k:Nat}{x:α}(h:l[k]?=some x):l.take (k+1)=l.take k++[x]:=by
 have hi:=(List.getElem?_eq_some_iff.1 h).1
 rw[List.take_add_one,h];rfl
theorem Rd.eX{enc:α→List Value}{k:Nat}{v:Value}{xs:List α}{As:List aa}(h:Rd W As enc k v xs):Rd W [seps As] enc k v xs:=fun w s=>h w (by simpa only[seps,aK] using s)
theorem nz{β:Type}{f:α→List β}{qs:List α}{k:Nat}{q:α}(h:qs[k]?=some q):(qs.take (k+1)).flatMap f=(qs.take k).flatMap f++f q:=by rw[aW h,List.flatMap_append];simp
theorem Dd{β:Type}{f:α→List β}(qs:List α)(k:Nat):((qs.take k).flatMap f).length≤(qs.flatMap f).length:=by
 conv=>rhs;rw[← List.take_append_drop k qs,List.flatMap_append,List.length_append]
 omega
theorem Rd.rep{b j n c:Nat}{a:Int}(_hj:j≤n)(h:Rd W H aq 1 (.slice (some ⟨b,0,none⟩) n c) (List.replicate j a++List.replicate (n-j) 0)):Rd W H aq 1 (.slice (some ⟨b,0,none⟩) j c) (List.replicate j a):=by
 have:=h.pre (j:=j) (by simp)
 rwa [List.take_left' (by simp)] at this
theorem Gz(j n:Nat)(a:Int)(hj:j≤n):(List.replicate j a++List.replicate (n-j) 0).take j++((List.replicate j a).take (min (List.replicate j a).length (n-j))++(List.replicate j a++List.replicate (n-j) 0).drop (j+min (List.replicate j a).length (n-j))) =
  List.replicate (j+min j (n-j)) a++List.replicate (n-(j+min j (n-j))) 0:=by
 rw[List.take_left' (by simp),List.take_replicate,List.drop_append,List.length_replicate]
 rw[List.drop_of_length_le (by simp),List.nil_append,List.drop_replicate, ← List.append_assoc,List.replicate_append_replicate]
 congr 2 <;> omega
theorem zM{xs:List α}{k:Nat}{x y:α}(h:xs[k]?=some x):(xs.set k y)[k]?=some y:=by simp[(List.getElem?_eq_some_iff.1 h).1]
theorem ai{xs:List α}{k:Nat}(h:k<xs.length):∃ x,xs[k]?=some x:=⟨xs[k],by simp[h]⟩
end
def idxFrom(x:Int):List Int→Nat→Int
 | [],_ => -1
 | y::l,n=>if x=y then n else idxFrom x l (n+1)
def idxOf(x:Int)(l:List Int):Int:=idxFrom x l 0
theorem JF{x y:Int}{l:List Int}{k:Nat}(h:l[k]?=some y)(e:x=y):idxFrom x (l.drop k) k=k:=by rw[drop_cons h,idxFrom,if_pos e]
theorem GA{x y:Int}{l:List Int}{k:Nat}(h:l[k]?=some y)(e:¬x=y):idxFrom x (l.drop k) k=idxFrom x (l.drop (k+1)) (k+1):=by rw[drop_cons h,idxFrom,if_neg e]
theorem JG{x:Int}{l:List Int}{k:Nat}(h:l.length≤k):idxFrom x (l.drop k) k = -1:=by rw[List.drop_of_length_le h];rfl
theorem yc(x:Int)(l:List Int):∀ k,decide (0≤idxFrom x l k)=l.contains x:=by
 induction l with
 | nil=>intro k;rfl
 | cons y l ih =>
  intro k
  rw[idxFrom]
  by_cases h:x=y
  ·subst h;simp
  ·rw[if_neg h,ih,List.contains_cons];simp[h]
def minOf(l:List Int):Int:=l.tail.foldl min (l.headD 0)
end Go.SLYtpbjdoplfgeliaaGreat
namespace Go.SLYtpbjdoplfgeliaaGreat
open Go Go.RowKit
section
variable{P:Program}{W:World}{N:Nat}{Q:Exit→Act→World→Prop}{O:Array Oper}{L:List (Nat×Option Value)}{H K R:List aa}{T:TypeId}{C:World→Prop}
theorem yd{n:Act→World→Prop}(h:LetsOut (Exit.then n Q)):LetsOut Q:=h
theorem De{o:Oper}{n:Act→World→Prop}{a:Act}{w:World}{Kp:Act→World→Prop}(h:o.wp P a w Kp (Exit.then n Q)):o.wp P a w Kp Q:=by
 unfold Oper.wp at *
 generalize (execOp a.eval o).run P w=r at *
 cases r with
 | ok n w' =>
  cases n <;> simp only[Oper.upon] at h ⊢
  case value v=>exact h
  case skip=>exact h
  case enter f args=>exact Calls.mono h (fun e w'' he=>by cases e <;> exact he)
  case row r' args=>exact h
  case defer d=>exact h
 | halt x w'=>cases x <;> simp only[Oper.upon] at h ⊢ <;> exact h
theorem zN{o:Oper}{n n':Act→World→Prop}{a:Act}{w:World}{Kp:Act→World→Prop}(h:o.wp P a w Kp (Exit.then n Q)):o.wp P a w Kp (Exit.then n' Q):=by
 unfold Oper.wp at *
 generalize (execOp a.eval o).run P w=r at *
 cases r with
 | ok n w' =>
  cases n <;> simp only[Oper.upon] at h ⊢
  case value v=>exact h
  case skip=>exact h
  case enter f args=>exact Calls.mono h (fun e w'' he=>by cases e <;> exact he)
  case row r' args=>exact h
  case defer d=>exact h
 | halt x w'=>cases x <;> simp only[Oper.upon] at h ⊢ <;> exact h
theorem lq{M M':Act→World→Prop}(hm:∀ a w,M a w→M' a w):∀ (ops:List Oper) (a:Act) (w:World),wpList P O (Exit.then M Q) ops a w→wpList P O (Exit.then M' Q) ops a w
 | [],a,w,h=>hm a w h
 | o::ops,a,w,h=>by
  unfold wpList at h ⊢
  split
  ·rename_i hw
   rw[if_pos hw] at h
   rcases h with h | ⟨h1,h2⟩
   ·exact .inl (zN (Oper.wp_mono (fun a w h=>lq hm ops a w h) h))
   ·exact .inr ⟨h1,h2⟩
  ·rename_i hw
   rw[if_neg hw] at h
   exact lq hm ops _ w h
theorem tE{M M':Act→World→Prop}(hm:∀ a w,M a w→M' a w):∀ (ks:List Nat) (ops:List Oper) (a:Act) (w:World),wpKL P O C (Exit.then M Q) ks ops a w→wpKL P O C (Exit.then M' Q) ks ops a w
 | [],[],a,w,h=>hm a w h
 | _::_,[],a,w,h=>hm a w h
 | [],_::_,_,_,h=>h
 | k::ks,o::ops,a,w,h=>by
  have ih:=tE hm ks ops
  match k with
  | 0 =>
   obtain⟨hc,v,hy,h⟩:=h
   exact⟨hc,v,hy,ih _ _ h⟩
  | 1 =>
   obtain⟨v,hy,h⟩:=h
   exact⟨v,hy,ih _ _ h⟩
  | 2 =>
   obtain⟨hc,h⟩:=h
   refine⟨hc,?_⟩
   split
   ·rename_i hw
    rw[if_pos hw] at h
    exact Oper.wp_mono (fun a w ⟨x,y⟩=>⟨x,ih _ _ y⟩) h
   ·rename_i hw
    rw[if_neg hw] at h
    exact ih _ _ h
  | k+3 =>
   simp only[wpKL] at h ⊢
   split
   ·rename_i hw
    rw[if_pos hw] at h
    exact zN (Oper.wp_mono (fun a w h=>ih _ _ h) h)
   ·rename_i hw
    rw[if_neg hw] at h
    exact ih _ _ h
theorem ox:∀ (n:Nat) (ops:List Oper) (a:Act) (w:World),wpList P O (Exit.then (wpList P O Q (ops.drop n)) Q) (ops.take n) a w→wpList P O Q ops a w
 | 0,ops,a,w,h=>h
 | n+1,[],a,w,h=>h
 | n+1,o::ops,a,w,h=>by
  simp only[List.take_succ_cons,List.drop_succ_cons] at h
  unfold wpList at h ⊢
  split
  ·rename_i hw
   rw[if_pos hw] at h
   rcases h with h | ⟨h1,h2⟩
   ·exact .inl (De (Oper.wp_mono (fun a w h=>ox n ops a w h) h))
   ·exact .inr ⟨h1,yd h2⟩
  ·rename_i hw
   rw[if_neg hw] at h
   exact ox n ops _ w h
theorem zO:∀ (n:Nat) (ks:List Nat) (ops:List Oper) (a:Act) (w:World),wpKL P O C (Exit.then (wpKL P O C Q (ks.drop n) (ops.drop n)) Q) (ks.take n) (ops.take n) a w→wpKL P O C Q ks ops a w
 | 0,ks,ops,a,w,h=>by
  cases ks <;> exact h
 | n+1,ks,[],a,w,h=>by
  cases ks with
  | nil=>exact h
  | cons k ks =>
   have h':wpKL P O C Q (ks.drop n) [] a w:=h
   revert h'
   generalize ks.drop n=l
   intro h'
   cases l <;> exact h'
 | n+1,[],o::ops,a,w,h=>h
 | n+1,k::ks,o::ops,a,w,h=>by
  simp only[List.take_succ_cons,List.drop_succ_cons] at h
  have ih:=fun a w=>zO n ks ops a w
  match k with
  | 0 =>
   obtain⟨hc,v,hy,h⟩:=h
   exact⟨hc,v,hy,ih _ _ h⟩
  | 1 =>
   obtain⟨v,hy,h⟩:=h
   exact⟨v,hy,ih _ _ h⟩
  | 2 =>
   obtain⟨hc,h⟩:=h
   refine⟨hc,?_⟩
   split
   ·rename_i hw
    rw[if_pos hw] at h
    exact Oper.wp_mono (fun a w ⟨x,y⟩=>⟨x,ih _ _ y⟩) h
   ·rename_i hw
    rw[if_neg hw] at h
    exact ih _ _ h
  | k+3 =>
   simp only[wpKL] at h ⊢
   split
   ·rename_i hw
    rw[if_pos hw] at h
    exact De (Oper.wp_mono (fun a w h=>ih _ _ h) h)
   ·rename_i hw
    rw[if_neg hw] at h
    exact ih _ _ h
abbrev lu(W:World)(N:Nat)(Q:Exit→Act→World→Prop)(d:Nat)(v:Value)(ks:List Nat)(L:List (Nat×Option Value))(H:List aa):Exit→Act→World→Prop :=
 Exit.then (N9 W N (fun _:Unit=>True) (fun _=>[(d,some v)]++(nones ks++L)) (fun _=>H)) Q
theorem aR.cut{ops:List Oper}{d:Nat}{v:Value}{ks:List Nat}(n:Nat)(h1:aR P W N O (lu W N Q d v ks L H) (ops.take n) L H)(h2:aR P W N O Q (ops.drop n) ((d,some v)::(nones ks++L)) H):aR P W N O Q ops L H:=fun a w ha hs =>
 ox n ops a w (lq (fun a w ⟨_,_,ha',hs'⟩=>h2 a w ha' hs') _ _ _ (h1 a w ha hs))
theorem bm.cut{ops:List Oper}{d:Nat}{v:Value}{ks kd:List Nat}(n:Nat)(h1:bm P W N K O (lu W N Q d v ks L H) (kd.take n) (ops.take n) L H)(h2:bm P W N K O Q (kd.drop n) (ops.drop n) ((d,some v)::(nones ks++L)) H):bm P W N K O Q kd ops L H:=fun a w ha hs =>
 zO n kd ops a w (tE (fun a w ⟨_,_,ha',hs'⟩=>h2 a w ha' hs') _ _ _ _ (h1 a w ha hs))
section
variable{ops:List Oper}{d t:Nat}{ks kd:List Nat}{b e:Bool}{p:Prop}[Decidable p]
theorem aR.gq(n d t:Nat)(ks:List Nat)(ht:look L t=some (.bool b))(h1:b=true→aR P W N O (lu W N Q d (.bool e) ks L H) (ops.take n) ((t,some (.bool true))::L) H)(h0:b=false→aR P W N O (lu W N Q d (.bool false) ks L H) (ops.take n) ((t,some (.bool false))::L) H)
  (h2:aR P W N O Q (ops.drop n) ((d,some (.bool (b && e)))::(nones ks++L)) H):aR P W N O Q ops L H :=
 aR.cut (v:=.bool (b && e)) (ks:=ks) n (.part ht (fun h=>by subst h;exact h1 rfl) (fun h=>by subst h;exact h0 rfl)) h2
theorem aR.gY(n d t:Nat)(ks:List Nat)(ht:look L t=some (.bool b))(h1:b=false→aR P W N O (lu W N Q d (.bool e) ks L H) (ops.take n) ((t,some (.bool false))::L) H)(h0:b=true→aR P W N O (lu W N Q d (.bool true) ks L H) (ops.take n) ((t,some (.bool true))::L) H)
  (h2:aR P W N O Q (ops.drop n) ((d,some (.bool (b || e)))::(nones ks++L)) H):aR P W N O Q ops L H :=
 aR.cut (v:=.bool (b || e)) (ks:=ks) n (.part ht (fun h=>by subst h;exact h0 rfl) (fun h=>by subst h;exact h1 rfl)) h2
theorem aR.gz(n d t:Nat)(ks:List Nat)(ht:look L t=some (.bool (decide p)))(h1:p→aR P W N O (lu W N Q d (.bool e) ks L H) (ops.take n) ((t,some (.bool true))::L) H)(h0:¬p→aR P W N O (lu W N Q d (.bool false) ks L H) (ops.take n) ((t,some (.bool false))::L) H)
  (h2:aR P W N O Q (ops.drop n) ((d,some (.bool (decide p && e)))::(nones ks++L)) H):aR P W N O Q ops L H :=
 aR.gq n d t ks ht (fun h=>h1 (of_decide_eq_true h)) (fun h=>h0 (of_decide_eq_false h)) h2
theorem aR.gA(n d t:Nat)(ks:List Nat)(ht:look L t=some (.bool (decide p)))(h1:¬p→aR P W N O (lu W N Q d (.bool e) ks L H) (ops.take n) ((t,some (.bool false))::L) H)(h0:p→aR P W N O (lu W N Q d (.bool true) ks L H) (ops.take n) ((t,some (.bool true))::L) H)
  (h2:aR P W N O Q (ops.drop n) ((d,some (.bool (decide p || e)))::(nones ks++L)) H):aR P W N O Q ops L H :=
 aR.gY n d t ks ht (fun h=>h1 (of_decide_eq_false h)) (fun h=>h0 (of_decide_eq_true h)) h2
theorem bm.gq(n d t:Nat)(ks:List Nat)(ht:look L t=some (.bool b))(h1:b=true→bm P W N K O (lu W N Q d (.bool e) ks L H) (kd.take n) (ops.take n) ((t,some (.bool true))::L) H)(h0:b=false→bm P W N K O (lu W N Q d (.bool false) ks L H) (kd.take n) (ops.take n) ((t,some (.bool false))::L) H)
  (h2:bm P W N K O Q (kd.drop n) (ops.drop n) ((d,some (.bool (b && e)))::(nones ks++L)) H):bm P W N K O Q kd ops L H :=
 bm.cut (v:=.bool (b && e)) (ks:=ks) n (.part ht (fun h=>by subst h;exact h1 rfl) (fun h=>by subst h;exact h0 rfl)) h2
theorem bm.gY(n d t:Nat)(ks:List Nat)(ht:look L t=some (.bool b))(h1:b=false→bm P W N K O (lu W N Q d (.bool e) ks L H) (kd.take n) (ops.take n) ((t,some (.bool false))::L) H)(h0:b=true→bm P W N K O (lu W N Q d (.bool true) ks L H) (kd.take n) (ops.take n) ((t,some (.bool true))::L) H)
  (h2:bm P W N K O Q (kd.drop n) (ops.drop n) ((d,some (.bool (b || e)))::(nones ks++L)) H):bm P W N K O Q kd ops L H :=
 bm.cut (v:=.bool (b || e)) (ks:=ks) n (.part ht (fun h=>by subst h;exact h0 rfl) (fun h=>by subst h;exact h1 rfl)) h2
theorem bm.gz(n d t:Nat)(ks:List Nat)(ht:look L t=some (.bool (decide p)))(h1:p→bm P W N K O (lu W N Q d (.bool e) ks L H) (kd.take n) (ops.take n) ((t,some (.bool true))::L) H)(h0:¬p→bm P W N K O (lu W N Q d (.bool false) ks L H) (kd.take n) (ops.take n) ((t,some (.bool false))::L) H)
  (h2:bm P W N K O Q (kd.drop n) (ops.drop n) ((d,some (.bool (decide p && e)))::(nones ks++L)) H):bm P W N K O Q kd ops L H :=
 bm.gq n d t ks ht (fun h=>h1 (of_decide_eq_true h)) (fun h=>h0 (of_decide_eq_false h)) h2
theorem bm.gA(n d t:Nat)(ks:List Nat)(ht:look L t=some (.bool (decide p)))(h1:¬p→bm P W N K O (lu W N Q d (.bool e) ks L H) (kd.take n) (ops.take n) ((t,some (.bool false))::L) H)(h0:p→bm P W N K O (lu W N Q d (.bool true) ks L H) (kd.take n) (ops.take n) ((t,some (.bool true))::L) H)
  (h2:bm P W N K O Q (kd.drop n) (ops.drop n) ((d,some (.bool (decide p || e)))::(nones ks++L)) H):bm P W N K O Q kd ops L H :=
 bm.gY n d t ks ht (fun h=>h1 (of_decide_eq_false h)) (fun h=>h0 (of_decide_eq_true h)) h2
theorem bA.n9{d:Nat}{v:Value}{ks:List Nat}{L0:List (Nat×Option Value)}{H0:List aa}(t:Bu ks L L0)(hv:look L d=some v)(hH:∀ w,Sat W w (seps H)→Sat W w (seps H0)):bA W N (lu W N Q d v ks L0 H0) .normal L H :=
 bA.kF () t trivial ⟨hv,trivial⟩ hH
end
end
end Go.SLYtpbjdoplfgeliaaGreat
namespace Go.SLYtpbjdoplfgeliaaGreat
open Go Go.RowKit
theorem zP{k:IntKind}{m n:Int}(h:m=n):Ending.returned (Value.int k m) = .returned (.int k n):=by rw[h]
theorem LM{m n:Bool}(h:m=n):Ending.returned (Value.bool m) = .returned (.bool n):=by rw[h]
def eg(f:Form):List Value:=[.int .i64 f.aE,.bool f.mutex,.int .i64 f.n,.bool f.any]
def BL(v:bc):Bool :=
 decide (0<(v.fs.length:Int)) && decide ((v.fs.length:Int)≤8) && within v.words 64 && within v.bx 4 && within v.conds 4 && within v.blocks 64 && within v.prio 7 && decide ((v.bK.length:Int)≤4) && decide ((v.bf.length:Int)≤4)
def qE(v:bc)(k:Nat):Bool:=BL v && (v.fs.take k).all fun f=>decide ((f.2.length:Int)≤256)
def qF(v:bc)(k:Nat):Bool:=qE v v.fs.length && (v.bK.take k).all fun n=>within n 1048576
def qG(v:bc)(k:Nat):Bool:=qF v v.bK.length && (v.bf.take k).all fun n=>decide (0<n) && within n 8
theorem jA{α:Type}{p:α→Bool}{l:List α}{k:Nat}{x:α}(h:l[k]?=some x):(l.take (k+1)).all p=((l.take k).all p && p x):=by rw[aW h,List.all_append];simp
theorem GB(v:bc):qG v v.bf.length=gw v.p:=by
 obtain⟨fv,fs,words,bx,conds,sv,bK,pv,bf,blocks,prio⟩:=v
 have e0:∀ n:Nat,decide (0<(n:Int))=decide (0<n):=fun n=>by rw[decide_eq_decide];omega
 have e8:∀ n:Nat,decide ((n:Int)≤8)=decide (n≤8):=fun n=>by rw[decide_eq_decide];omega
 have e4:∀ n:Nat,decide ((n:Int)≤4)=decide (n≤4):=fun n=>by rw[decide_eq_decide];omega
 have e2:∀ n:Nat,decide ((n:Int)≤256)=decide (n≤256):=fun n=>by rw[decide_eq_decide];omega
 unfold qG qF qE BL gw bc.p
 simp only[List.take_length,List.length_map,List.all_map,e0,e8,e4,e2]
 rfl
theorem tF{p:gn}(h:gw p=true):0<p.funcs.length∧p.funcs.length≤8∧(0≤p.words∧p.words≤64)∧(0≤p.bx∧p.bx≤4)∧(0≤p.conds∧p.conds≤4)∧(0≤p.blocks∧p.blocks≤64)∧(0≤p.prio∧p.prio≤7)∧p.bK.length≤4∧p.bf.length≤4∧
  (∀ f∈p.funcs,f.length≤256)∧(∀ n∈p.bK,0≤n∧n≤1048576)∧(∀ n∈p.bf,0<n∧n≤8):=by
 unfold gw within at h
 simp only[Bool.and_eq_true,decide_eq_true_eq,List.all_eq_true] at h
 obtain⟨⟨⟨⟨⟨⟨⟨⟨⟨⟨⟨h1,h2⟩,h3⟩,h4⟩,h5⟩,h6⟩,h7⟩,h8⟩,h9⟩,h10⟩,h11⟩,h12⟩:=h
 exact⟨h1,h2,h3,h4,h5,h6,h7,h8,h9,h10,h11,fun n hn=>⟨(h12 n hn).1,(h12 n hn).2.2⟩⟩
theorem Df{v:bc}(h:gw v.p=true){x:Value×List Ins}(hx:x∈v.fs):x.2.length≤256 :=
 (tF h).2.2.2.2.2.2.2.2.2.1 x.2 (List.mem_map.2 ⟨x,hx,rfl⟩)
theorem M8{c:Prop}[Decidable c]{x y:Form}{m:Int}(hx:x.n≤m)(hy:y.n≤m):(if c then x else y).n≤m:=by split <;> assumption
theorem En{p:gn}(h:gw p=true)(op:Int):(bV p op).n≤9223372036854775807:=by
 obtain⟨h1,h2,_,h4,h5,_,_,h8,h9,_⟩:=tF h
 unfold bV
 repeat' apply M8
 all_goals (show(_:Int)≤_;simp only;omega)
theorem Eo{v:bc}(h:gw v.p=true){k j:Nat}{x:Value×List Ins}{i:Ins}(hx:v.fs[k]?=some x)(hj:x.2[j]?=some i)(hs:iT v.p i=false):dD v.p=8:=by
 unfold dD
 rw[if_pos h,if_neg]
 intro h'
 rw[List.all_eq_true] at h'
 have:=h' x.2 (List.mem_map.2 ⟨x,List.mem_of_getElem? hx,rfl⟩)
 rw[List.all_eq_true] at this
 have:=this i (List.mem_of_getElem? hj)
 rw[hs] at this;cases this
theorem GC{v:bc}(h:gw v.p=true)(hs:v.fs.all (fun f:Value×List Ins=>f.2.all (iT v.p))=true):dD v.p=0:=by
 unfold dD
 rw[if_pos h,if_pos]
 rw[List.all_eq_true] at hs ⊢
 intro f hf
 obtain⟨x,hx,rfl⟩:=List.mem_map.1 hf
 exact hs x hx
end Go.SLYtpbjdoplfgeliaaGreat
namespace Go.SLYtpbjdoplfgeliaaGreat
open Go Go.RowKit
section
variable{P:Program}{W:World}{N:Nat}{Q:Exit→Act→World→Prop}{O:Array Oper}{L:List (Nat×Option Value)}{H K R:List aa}{T:TypeId}{α:Type}
theorem Y.index{x y:Operand}{t e n:Nat}{cs:Array Value}{v:Value}{kd:IntKind}{j:Int}(i:Nat)(hu:P.underlying t=some (.array n e))(ha:∀ w,(isAgg e).run P w = .ok false w)(hz:∀ w,(sizeOf e).run P w = .ok 1 w)(hx:ev L x=some (.agg cs))(hy:ev L y=some (.int kd j))(hj:j=(i:Int))(hi:i<n)(hv:cs[i]?=some v) :
  Y P W N (.index t x y) T L H v:=fun dst pos after guard a w he hs=>by
 subst hj
 simp only[execOp,he.eval hx,he.eval hy]
 refine bS ?_
 simp[Instr.index,asIntOf,run_underlying hu,hi,hz,part,ha,hv]
theorem Y.mi{x y:Operand}{ts:Array TypeId}{k:IntKind}{m n:Int}(hx:ev L x=some (.int k m))(hy:ev L y=some (.int k n)):Y P W N (.call ⟨.builtin .min, #[x,y],ts⟩) T L H (.int k (min m n)):=by
 have:=Y.min2 (P:=P) (W:=W) (N:=N) (H:=H) (T:=T) (ts:=ts) hx hy
 rwa [show(if n<m then n else m)=min m n from by omega] at this
theorem Y.wi{x y:Operand}{ts:Array TypeId}{k:IntKind}{m n:Int}(hx:ev L x=some (.int k m))(hy:ev L y=some (.int k n)):Y P W N (.call ⟨.builtin .max, #[x,y],ts⟩) T L H (.int k (max m n)):=by
 have:=Y.max2 (P:=P) (W:=W) (N:=N) (H:=H) (T:=T) (ts:=ts) hx hy
 rwa [show(if n>m then n else m)=max m n from by omega] at this
theorem af.makeMap{t:TypeId}{pos:String}{after:Array Edge}{guard:Option (Nat×Bool)}{d:Nat}(hN:Nat.blt d N=true) :
  af P W N ⟨some d,.makeMap t none,T,pos,after,guard⟩ L H (fun L1 H1=>∃ m,L1=(d,some (.map (some m)))::L∧H1=jv m (.map #[] 0)::H):=fun a w ha hs Kp hK=>by
 have hrun:(execOp a.eval ⟨some d,.makeMap t none,T,pos,after,guard⟩).run P w = .ok (.value (.map (some w.heap.size))) (w.alloc (.map #[] 0)):=by
  simp[execOp,Instr.makeMap,newObj,Sem.run]
 unfold Oper.wp
 rw[hrun]
 simp only[Oper.upon]
 exact hK _ _ ⟨w.heap.size,rfl,rfl⟩ _ _ (ha.put (Nat.blt_eq.mp hN) _) (hs.zt (.map #[] 0) rfl)
/-! ### a part of a thing, where it lies -/
theorem Sat.fact{w:World}{A:aa}{p:Prop}(s:Sat W w (seps H))(t:Take H A R)(e:∀ h,A h→p):p:=by
 rw[t.seps] at s
 obtain⟨h,⟨h1,h2,a,_⟩,_⟩:=s.own
 exact e h1 a
theorem Cell.sub{C:aa}{b o i:Nat}{cs:List Value}{v:Value}(t:At H C)(e:∀ h,C h→ ∃ J,sep (SLYtpbjdoplfgeliaaGreat.arr b o cs) J h)(hv:cs[i]?=some v):Cell W H b (o+i) v:=fun w s=>by
 obtain⟨R,s⟩:=t.sat s
 obtain⟨h,⟨h1,h2,a,r,d,e'⟩,hin⟩:=s.own
 obtain⟨J,a'⟩:=e h1 a
 have s2:Sat W w (sep (sep (SLYtpbjdoplfgeliaaGreat.arr b o cs) J) R):={s with own:=⟨h,⟨h1,h2,a',r,d,e'⟩,hin⟩ }
 rw[aU] at s2
 exact(fw s2 hv).2
theorem Cell.Od{C:aa}{b i:Nat}{cs:List Value}{v:Value}(t:At H C)(e:∀ h,C h→ ∃ J,sep (SLYtpbjdoplfgeliaaGreat.arr b 0 cs) J h)(hv:cs[i]?=some v):Cell W H b i v:=by
 have:=Cell.sub (W:=W) t e hv
 rwa [Nat.zero_add] at this
theorem Rd.sub{C:aa}{enc:α→List Value}{k:Nat}{v:Value}{xs:List α}(t:At H C)(e:∀ h,C h→ ∃ J,sep (SLYtpbjdoplfgeliaaGreat.sl enc k v xs) J h):Rd W H enc k v xs:=fun w s=>by
 obtain⟨R,s⟩:=t.sat s
 obtain⟨h,⟨h1,h2,a,r,d,e'⟩,hin⟩:=s.own
 obtain⟨J,a'⟩:=e h1 a
 have s2:Sat W w (sep (sep (SLYtpbjdoplfgeliaaGreat.sl enc k v xs) J) R):={s with own:=⟨h,⟨h1,h2,a',r,d,e'⟩,hin⟩ }
 rw[aU] at s2
 exact(Rd.sl (W:=W) (H:=[SLYtpbjdoplfgeliaaGreat.sl enc k v xs,sep J R]) .here) w (by simpa only[seps,aK] using s2)
theorem af.fV{enc:α→List Value}{k b:Nat}{x y:Operand}{t t2 e e2 ty:TypeId}{pos:String}{after:Array Edge}{guard:Option (Nat×Bool)}{d:Nat}{v:Value}{cs:List Value}{xs:List α}(z0:α){R:List aa}{i:TypeInfo}{z:Value}(hN:Nat.blt d N=true)
  (hu:P.underlying t=some (.slice e)) (hu2:P.underlying t2=some (.slice e2)) (hi:∀ w,(typeInfo e).run P w = .ok i w) (hz:i.zero=some z) (hk:i.size=k) (hzs:z.cells.size=k) (hb:1≤i.bytes∧i.bytes≤4096)
  (hx:ev L x=some v) (hy:ev L y=some (.slice (some ⟨b,0,none⟩) 1 1)) (hc:enc z0=cs) (ha:At H (arr b 0 cs)) (hcl:cs.length=k) (ht:Take H (sl enc k v xs) R) (hlen:xs.length<1073741824) (hone:(enc z0).all (·.oneCell')=true) :
  af P W N ⟨some d,.call ⟨.builtin .append, #[x,y], #[t,t2]⟩,ty,pos,after,guard⟩ L H (fun L1 H1=>∃ v',L1=(d,some v')::L∧H1=sl enc k v' (xs++[z0])::R) :=
 af.Jy z0 hN hu hu2 hi hz hk hzs hb hx hy ha hc hcl ht hlen (by rw[← hc];exact List.all_eq_true.1 hone)
theorem qH{E T:TypeId}{x:Operand}{pos:String}{after:Array Edge}{d:Nat}{v:Value}{cs:List Value}(hx:ev L x=some v)(hc:v.cells=cs.toArray) :
  ∀ a,Env N L a→cb P O ⟨some d,.box E x,T,pos,after,none⟩ a (fun b=>.pointer (some ⟨b,0,none⟩)) cs E:=fun a ha=>⟨bo rfl,fun w=>by
 simp only[execOp,ha.eval hx]
 show(Instr.box E v >>= fun x=>pure (Next.value x)).run P w=_
 simp[Instr.box,lb,hc]⟩
/-! a slice's value stored: it is one cell, whatever it is -/
theorem Rd.one{enc:α→List Value}{k:Nat}{v:Value}{xs:List α}(h:Rd W H enc k v xs):∀ w,Sat W w (seps H)→v.oneCell'=true:=fun w s=>by
 obtain⟨⟨a,cap,hv,_⟩,_⟩:=h w s
 rw[hv];rfl
theorem af.mC{E:TypeId}{x y:Operand}{pos:String}{after:Array Edge}{guard:Option (Nat×Bool)}{b i:Nat}{v:Value}{cs:List Value}{H':List aa}{enc:α→List Value}{k:Nat}{xs:List α}(hz:∀ w,(sizeOf E).run P w = .ok 1 w)(hx:ev L x=some (.pointer (some ⟨b,i,none⟩)))(hy:ev L y=some v)[hv:aC W H v enc k xs]
  [h0:bY H b 0 cs] [hr:cH H b 0 cs (cs.set i v) H'] (hi:Nat.blt i cs.length=true) :
  af P W N ⟨none,.store E x y,T,pos,after,guard⟩ L H (fun L1 H1=>L1=L∧H1=H'):=fun a w ha hs Kp hK=>af.st hz hx hy (hv.rd.one w hs) hi a w ha hs Kp hK
theorem af.M9{E:TypeId}{x y:Operand}{pos:String}{after:Array Edge}{guard:Option (Nat×Bool)}{b o:Nat}{v:Value}{cs:List Value}{H':List aa}{enc:α→List Value}{k:Nat}{xs:List α}(hz:∀ w,(sizeOf E).run P w = .ok 1 w)(hx:ev L x=some (.pointer (some ⟨b,o,none⟩)))(hy:ev L y=some v)[hv:aC W H v enc k xs]
  [h0:bY H b o cs] [hr:cH H b o cs (cs.set 0 v) H'] (hi:Nat.blt 0 cs.length=true) :
  af P W N ⟨none,.store E x y,T,pos,after,guard⟩ L H (fun L1 H1=>L1=L∧H1=H'):=fun a w ha hs Kp hK=>af.Oa hz hx hy (hv.rd.one w hs) hi a w ha hs Kp hK
theorem bm.cM{O:Array Oper}{ks:List Nat}{ops:List Oper}{p:Prop}(h:∀ w,Sat W w (seps H)→p)(k:p→bm P W N K O Q ks ops L H):bm P W N K O Q ks ops L H:=fun a w ha hs=>k (h w hs) a w ha hs
theorem af.mN{enc:α→List Value}{k:Nat}{E:TypeId}{x y:Operand}{pos:String}{after:Array Edge}{guard:Option (Nat×Bool)}{v:Value}{vs:List Value}{xs:List α}{i:Nat}{x0 x':α}{H':List aa}(hx:ev L x=some (.pointer (some ⟨blk v,ek v+i * k,none⟩)))(hy:ev L y=some (.agg vs.toArray))(hz:∀ w,(sizeOf E).run P w = .ok vs.length w)(hv:vs.all (·.oneCell')=true)
  (h0:xs[i]?=some x0) (he:enc x'=vs) (hl:vs.length=k) (hr:gk H (sl enc k v xs) (sl enc k v (xs.set i x')) H') :
  af P W N ⟨none,.store E x y,T,pos,after,guard⟩ L H (fun L1 H1=>L1=L∧H1=H'):=fun a w ha hs Kp hK=>by
 obtain⟨R,e1,e2⟩:=hr.seps
 rw[e1] at hs
 have hk0:(enc x0).length=k:=((Rd.sl (W:=W) (H:=[sl enc k v xs,R]) .here) w (by simpa only[seps,aK] using hs)).2.1 x0 (List.mem_of_getElem? h0)
 have hf:=hs.focus h0
 have key:=af.storeAll (P:=P) (W:=W) (N:=N) (L:=L) (T:=T) (pos:=pos) (after:=after) (guard:=guard) (H:=[arr (blk v) (ek v+i * k) (enc x0),hole enc k v xs i,R]) hx hy hz (List.all_eq_true.1 hv) .here (by rw[hk0,hl])
 refine key a w ha (by simp only[seps,aK] at hf ⊢;rwa [aU] at hf) Kp ?_
 rintro L1 H1 ⟨rfl,rfl⟩ a' w' ha' hs'
 refine hK _ _ ⟨rfl,rfl⟩ a' w' ha' ?_
 rw[e2]
 refine Sat.Jx (x':=x') (List.getElem?_eq_some_iff.1 h0).1 (by rw[he,hl]) ?_
 simp only[seps,aK] at hs' ⊢
 rwa [he,aU]
theorem Rd.nil{enc:α→List Value}{k:Nat}:Rd W H enc k (.slice none 0 0) ([]:List α):=fun w s=>⟨⟨none,0,rfl,Nat.le_refl _,fun _ e _=>(by cases e),fun _=>rfl⟩,fun x hx=>(by cases hx),fun i x hx=>(by simp at hx)⟩
theorem aw.JH{H R As:List aa}(t:aw H As R):aw H (emp::As) R:=.conv (A:=seps []) (fun _ e=>e) (.eX .nil t)
theorem aw.two{H R R' As:List aa}{A B:aa}(t1:aw H [A,B] R)(t2:aw R As R'):aw H (sep A B::As) R':=.conv (A:=seps [A,B]) (fun _ a=>by simpa only[seps,aK] using a) (.eX t1 t2)
theorem aw.void{H R As:List aa}{enc:α→List Value}{k:Nat}{a:Option Addr}(t:aw H As R):aw H (sl enc k (.slice a 0 0) ([]:List α)::As) R :=
 .conv (A:=seps []) (fun _ e=>.inl ⟨⟨_,rfl⟩,rfl,e⟩) (.eX .nil t)
end
end Go.SLYtpbjdoplfgeliaaGreat
