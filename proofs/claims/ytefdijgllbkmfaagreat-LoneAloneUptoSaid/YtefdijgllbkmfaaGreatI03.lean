/- Walks of functions, and what they compute. Conditions: none, this text proves no statement. -/
import Derived.Test.YtefdijgllbkmfaaGreatI02
import Derived.Recover
import Derived.OrdersHeld
import Derived.Laws.Externs
import Derived.Laws.NewFold
namespace Go.SLYtefdijgllbkmfaaGreat
structure iY where
 aL:List Int
 bA:Bool
 ended:Bool
 yielded:Bool
deriving DecidableEq
def iY.z:iY:=⟨[],false,false,false⟩
/-! words as numbers with a point -/
def DC(a b:Int):Bool:=Ieee.double.order a.toNat b.toNat == some .lt
def K8(a b:Int):Bool:=Ieee.double.order a.toNat b.toNat == some .eq
def mO(a:Int):Bool := !K8 a a
def fw(a:Int):Int:=if mO a=true then mS else a
def BJ:Option Nat→Int
 | some r=>fw r
 | none=>mS
def BK(a b:Int):Int:=BJ (Ieee.double.add a.toNat b.toNat)
def BL(a b:Int):Int:=BJ (Ieee.double.sub a.toNat b.toNat)
def BM(a b:Int):Int:=BJ (Ieee.double.mul a.toNat b.toNat)
def BN(a b:Int):Int:=BJ (Ieee.double.div a.toNat b.toNat)
def fc(a:Int):Int:=fw (Go.FloatKind.f64.nearest (Go.IntKind.i64.wrap a))
def rP(b:Bool):Int:=if b=true then 1 else 0
def eF(neg:Bool)(win:Ordering)(x y:Nat):Nat :=
 let a:=Go.FloatKind.f64.decode x
 let b:=Go.FloatKind.f64.decode y
 if a == .infinity neg || b == .infinity neg then Go.FloatKind.f64.encode (.infinity neg)
 else if a.isNaN || b.isNaN then 0x7FF8000000000001
 else if a.isZero && b.isZero then (if a.neg == neg then x else y)
 else if a.order b == some win then x else y
def nW(a b:Int):Int:=if (mO a || mO b)=true then mS else fw (eF true .lt a.toNat b.toNat:Nat)
def nX(a b:Int):Int:=if (mO a || mO b)=true then mS else fw (eF false .gt a.toNat b.toNat:Nat)
def nY:Nat:=4890909195324358656
def nZ:Nat:=14114281232179134464
def eY(a:Int):Int :=
 if mO a=true then 0 else
 if (Ieee.double.order a.toNat nY == some .gt || Ieee.double.order a.toNat nY == some .eq)=true then 9223372036854775807 else
 if (Ieee.double.order a.toNat nZ == some .lt)=true then 9223372036854775808 else gO (((Go.FloatKind.f64.decode a.toNat).toInt .zero).getD 0)
def aE(op a b:Int):Int :=
 if op=2 then a else if op=3 then gO (a+b) else if op=4 then gO (a-b) else if op=5 then gO (a * b) else if op=6 then rP (decide (a<b)) else
 if op=7 then BK a b else if op=8 then BL a b else if op=9 then BM a b else if op=10 then BN a b else
 if op=11 then nW a b else if op=12 then nX a b else if op=13 then rP (DC a b) else
 if op=14 then eY a else if op=15 then fc a else 0
/-! plain instructions -/
structure iD where
 fn:Int
 pc:Int
 av:List Int
def iD.z:iD:=⟨0,0,[0,0,0,0,0,0,0,0]⟩
def iD.eW(f:iD)(a:Int):Int:=f.av.getD a.toNat 0
def iD.put(f:iD)(a v:Int):iD:={f with av:=f.av.set a.toNat v }
def lL(op:Int):Bool:=decide (op=2) || decide (op=14) || decide (op=15)
def gX(f:iD)(m:List Int)(i:Ins):Option (iD×List Int) :=
 if i.op=16 then some ({f with pc:=i.n },m) else
 if i.op=17 then some ({f with pc:=if f.eW i.a=0 then i.n else f.pc+1 },m) else
 if i.op=1 then some ({f.put i.a i.n with pc:=f.pc+1 },m) else
 if i.op=18 then (if f.eW i.b<m.length then some ({f.put i.a (m.getD (f.eW i.b).toNat 0) with pc:=f.pc+1 },m) else none) else
 if i.op=19 then (if f.eW i.a<m.length then some ({f with pc:=f.pc+1 },m.set (f.eW i.a).toNat (f.eW i.b)) else none) else
 some ({f.put i.a (aE i.op (f.eW i.b) (if lL i.op=true then 0 else f.eW i.c)) with pc:=f.pc+1 },m)
/-! threads -/
def K9:bF:=⟨0,0,[0,0,0,0,0,0,0,0],0,0,0,false, -1,0, -1⟩
def bF.gY(t:bF):iD:=⟨t.fn,t.pc,t.av⟩
def bF.lM(t:bF)(f:iD):bF:={t with fn:=f.fn,pc:=f.pc,av:=f.av }
def bF.eW(t:bF)(a:Int):Int:=t.av.getD a.toNat 0
def bF.put(t:bF)(a:Int)(v:Int):bF:={t with av:=t.av.set a.toNat v }
def Spc.t(s:Spc)(n:Nat):bF:=(s.thr.getD n none).getD K9
def Spc.aj(s:Spc)(n:Nat)(t:bF):Spc:={s with thr:=s.thr.set n (some t) }
def Spc.at(s:Spc)(n:Int):Option bF:=(cH s.thr n).getD none
def Spc.free(s:Spc)(n:Nat):Spc:={s with table:=slotFreed s.table (s.t n).handle,thr:=s.thr.set n none }
def Spc.tell(s:Spc)(r:Rec):Spc:={s with au:=s.au++[r] }
def eG(p:eB)(f:iD):Option Ins:=if f.fn<0∨f.pc<0 then none else (p.funcs.getD f.fn.toNat [])[f.pc.toNat]?
def bF.cS(t:bF)(y:Int):bF:={(if t.into = -1 then t else t.put t.into y).put 7 0 with why:=0,into := -1 }
def bF.dH(t:bF)(y:Int):Rec:=⟨t.handle,t.op,0,if t.into = -1 then 0 else y,0,true⟩
def Spc.di(s:Spc)(n:Nat)(y:Int):Spc:=s.aj n ((s.t n).cS y)
/-! an instruction that a thread does -/
structure Dng where
 s:Spc
 n:Nat
 i:Ins
 choice:Int
 out:iY
 ends:List Rec
def Dng.t(d:Dng):bF:=d.s.t d.n
def Dng.aj(d:Dng)(t:bF):Dng:={d with s:=d.s.aj d.n t }
def Dng.a(d:Dng):Int:=d.t.eW d.i.a
def Dng.b(d:Dng):Int:=d.t.eW d.i.b
def Dng.tell(d:Dng)(x y e:Int)(fin:Bool):Dng:={d with s:=d.s.tell ⟨d.t.handle,d.i.op,x,y,e,fin⟩ }
def Dng.pass(d:Dng)(x y e:Int):Dng:=(d.tell x y e true).aj (d.t.put 7 e)
def Dng.block(d:Dng)(why into x y:Int):Dng:={(d.tell x y 0 false).aj {d.t with why:=why,op:=d.i.op,into:=into } with out:={d.out with bA:=true } }
def Dng.dW(d:Dng)(n:Nat)(y:Int):Dng:={d with s:=d.s.di n y,ends:=d.ends++[(d.s.t n).dH y],out:={d.out with aL:=d.out.aL++[(n:Int)] } }
def Dng.free(d:Dng)(n:Nat):Dng:={d with s:=d.s.free n }
def Dng.ended(d:Dng):Dng:={d with out:={d.out with ended:=true } }
def Dng.fin(d:Dng)(v:Int):Dng :=
 if d.t.bn=true then d.ended.free d.n else
 if d.t.ar = -1 then d.ended.aj {d.t with why:=9,value:=v } else (d.ended.dW d.t.ar.toNat v).free d.n
def Dng.finish(d:Dng):iY×Spc:=(d.out,{d.s with au:=d.s.au++d.ends })
def Dng.aY(d:Dng)(g:Gates):Dng:={d with s:={d.s with ag:=g } }
def Dng.dM(d:Dng)(k:Nat)(u:Tub):Dng:={d with s:={d.s with bx:=d.s.bx.set k u } }
def Dng.dv(d:Dng)(u:jB):Dng:={d with s:={d.s with aN:=u } }
def Dng.rQ(d:Dng)(u:jW):Dng:={d with s:={d.s with aA:=u } }
def Dng.plain(d:Dng):Dng :=
 match gX d.t.gY d.s.mem d.i with
 | some (f,m) =>
  let d1:=if d.i.op=18 then d.tell d.b (d.s.mem.getD d.b.toNat 0) 0 true else if d.i.op=19 then d.tell d.a d.b 0 true else d
  {d1 with s:={d1.s.aj d.n (d.t.lM f) with mem:=m } }
 | none=>(if d.i.op=18 then d.tell d.b 0 6 true else d.tell d.a d.b 6 true).fin 18446744073709551615
def Dng.spawn(d:Dng):Dng :=
 let r:=d.s.begin d.i.n d.b
 let h:=if r.2.1=0 then (r.2.2.t r.1.toNat).handle else 0
 let d1:Dng:={d with s:=r.2.2,out:=if r.2.1=0 then {d.out with aL:=d.out.aL++[r.1] } else d.out }
 (d1.aj (d1.t.put d.i.a h)).pass d.i.n h r.2.1
def Dng.other(d:Dng)(h:Int):Nat×Int :=
 match bj d.s.table h with
 | none=>(0,3)
 | some n=>if n=d.n∨(d.s.t n).bn=true then (0,3) else if (d.s.t n).ar = -1 then (n,0) else (0,4)
def Dng.join(d:Dng):Dng :=
 let x:=d.b
 if (d.other x).2≠0 then d.pass x 0 (d.other x).2 else
 let n:=(d.other x).1
 if (d.s.t n).why=9 then ((d.aj (d.t.put d.i.a (d.s.t n).value)).free n).pass x (d.s.t n).value 0 else
 ({d with s:=d.s.aj n {d.s.t n with ar:=d.n } }:Dng).block 4 d.i.a x 0
def Dng.cO(d:Dng):Dng :=
 let x:=d.a
 if (d.other x).2≠0 then d.pass x 0 (d.other x).2 else
 let n:=(d.other x).1
 (if (d.s.t n).why=9 then d.free n else ({d with s:=d.s.aj n {d.s.t n with bn:=true } }:Dng)).pass x 0 0
def Dng.dy(d:Dng):List Int→Dng
 | []=>d
 | n::l=>(d.dW n.toNat 0).dy l
def bV(s:Spc):List Int→Spc
 | []=>s
 | n::l=>bV (s.aj n.toNat {s.t n.toNat with why:=1 }) l
def Dng.waits(d:Dng):List Int:=((d.s.ag.aD.take d.s.dG.ay.toNat).flatMap fun m=>m.wait.map (·.who))
def Dng.jY(d:Dng)(l:List Int):Dng:=({d with s:=bV d.s d.waits }:Dng).dy l
def Dng.given(d:Dng)(n:Int)(ok:Bool):Dng:=if ok=true then d.dW n.toNat 0 else d
def Dng.mutex(d:Dng):Dng :=
 let m:=d.i.n
 if d.i.op=25 then
  let r:=d.s.ag.lock d.n m
  if r.2.1=0∧r.1=false then (d.aY r.2.2).block 1 (-1) m 0 else (d.aY r.2.2).pass m 0 r.2.1
 else if d.i.op=26 then
  let r:=d.s.ag.unlock d.n m d.choice
  ((d.aY r.2.2.2).pass m 0 r.2.2.1).given r.1 r.2.1
 else
  let r:=d.s.ag.wait d.n m d.i.c d.choice
  if r.2.2.1≠0 then (d.aY r.2.2.2).pass m (gO d.i.c) r.2.2.1 else ((d.aY r.2.2.2).block 2 (-1) m (gO d.i.c)).given r.1 r.2.1
def Dng.bX(d:Dng):Dng :=
 if d.i.op=31 then
  let r:=d.s.ag.up d.i.n d.choice
  ((d.aY r.2.2.2).pass d.i.n 0 r.2.2.1).given r.1 r.2.1
 else
  let r:=d.s.ag.down d.n d.i.n
  if r.2.1=0∧r.1=false then (d.aY r.2.2).block 3 (-1) d.i.n 0 else (d.aY r.2.2).pass d.i.n 0 r.2.1
def Dng.ask(d:Dng)(block y into:Int):Dng :=
 if block<64 then
  let r:=d.s.aN.ask ⟨d.n,block,decide (d.i.op=34),y⟩
  if r.1≠0 then (d.dv r.2).pass block y r.1 else (d.dv r.2).block 5 into block y
 else d.pass block y 1
def J4:Tub:=⟨0,[],[],[]⟩
def Dng.bc(d:Dng):Tub:=d.s.bx.getD d.i.n.toNat J4
def Dng.put(d:Dng):Dng :=
 let x:=d.a
 let r:=d.bc.put d.n x
 let d1:=d.dM d.i.n.toNat r.2.2.2
 if r.1=false then d1.block 7 (-1) d.i.n x else
 if r.2.2.1=true then (d1.pass d.i.n x 0).dW r.2.1.toNat x else d1.pass d.i.n x 0
def Dng.get(d:Dng):Dng :=
 let r:=d.bc.get d.n
 let d1:=d.dM d.i.n.toNat r.2.2.2.2
 if r.2.1=false then d1.block 6 d.i.a d.i.n 0 else
 let d2:=(d1.aj (d1.t.put d.i.a r.1)).pass d.i.n r.1 0
 if r.2.2.2.1=true then d2.dW r.2.2.1.toNat 0 else d2
def Dng.sleep(d:Dng):Dng :=
 let x:=d.a
 if x=0 then d.pass x 0 0 else if 1099511627776<x then d.pass x 0 1 else (d.rQ (d.s.aA.sleep d.n x).2).block 8 (-1) x 0
def Dng.kernel(d:Dng):Dng :=
 if d.i.op=33 then d.ask d.b 0 d.i.a else
 if d.i.op=34 then d.ask d.a d.b (-1) else
 if d.i.op=35 then d.put else
 if d.i.op=36 then d.get else
 if d.i.op=37 then d.sleep else d.pass d.a 0 0
def Dng.call(d:Dng):Dng :=
 if d.i.op=20 then d.spawn else
 if d.i.op=32 then (d.aj (d.t.put d.i.a d.t.handle)).pass 0 d.t.handle 0 else
 if d.i.op=24 then {d.pass 0 0 0 with out:={d.out with yielded:=true } } else
 if d.i.op=21 then d.join else
 if d.i.op=22 then d.cO else
 if d.i.op=23 then (d.tell d.a 0 0 true).fin d.a else
 if d.i.op=25∨d.i.op=26∨d.i.op=27 then d.mutex else
 if d.i.op=28∨d.i.op=29 then
  let r:=d.s.ag.signal d.i.n d.choice (decide (d.i.op=29))
  ((d.aY r.2.2).pass d.i.n 0 r.2.1).jY r.1
 else
 if d.i.op=30∨d.i.op=31 then d.bX else d.kernel
/-! a space's steps -/
def Spc.dI(s:Spc)(n:Nat)(i:Ins)(choice:Int):Dng:=⟨s,n,i,choice,iY.z,[]⟩
def Spc.run(s:Spc)(n choice:Int):iY×Int×Spc :=
 match s.at n with
 | none=>(iY.z,1,s)
 | some t =>
  if t.why≠0 then (iY.z,4,s) else
  match eG s.dG t.gY with
  | none=>let r:=(((s.dI n.toNat ⟨23,0,0,0,0⟩ choice).tell 0 0 0 true).fin 0).finish;(r.1,0,r.2)
  | some i =>
   let d:=s.dI n.toNat i choice
   let r:=(if cls i.op=1 then d.plain else (d.aj {t with pc:=t.pc+1 }).call).finish
   (r.1,0,r.2)
def Spc.done(s:Spc)(k:Int):iY×Int×Spc :=
 let r:=s.aN.done k
 if r.2.2.1=false then (iY.z,3,s) else
 let s1:Spc:={s with aN:=r.2.2.2 }
 (⟨[r.1.who],false,false,false⟩,0,(s1.di r.1.who.toNat r.2.1).tell ((s1.t r.1.who.toNat).dH r.2.1))
def df(s:Spc):List Int→Spc
 | []=>s
 | n::l=>df ((s.di n.toNat 0).tell ((s.t n.toNat).dH 0)) l
def Spc.tick(s:Spc):iY×Spc:=(⟨s.aA.due,false,false,false⟩,df {s with aA:=s.aA.tick.2 } s.aA.due)
end Go.SLYtefdijgllbkmfaaGreat
namespace Go.SLYtefdijgllbkmfaaGreat
open Go Go.RowKit
def BO(P:Program)(W:World)(f:FuncId)(args:List Value)(pre:List aa)(X:Type)(en:X→Ending)(fact:X→Prop)(post:X→List aa):Prop :=
 ∀ (F:aa) (w:World),Sat W w (sep (seps pre) F)→Calls P f args.toArray w (fun e w'=>∃ x,e=en x∧fact x∧Sat W w' (sep (seps (post x)) F))
section
variable{P:Program}{W:World}{N:Nat}{Q:Exit→Act→World→Prop}{L:List (Nat×Option Value)}{H K R:List aa}{O:Array Oper}{T:TypeId}{rest:List Oper}
theorem Fn.b{f:FuncId}{args:List Value}{pre:List aa}{X:Type}{val:X→Value}{fact:X→Prop}{post:X→List aa}(h:Fn P W f args pre X val fact post):BO P W f args pre X (fun x=>.returned (val x)) fact post:=h
theorem BO.intro{f:FuncId}{fn:Func}{c:Code}{args:List Value}{pre:List aa}{X:Type}{en:X→Ending}{fact:X→Prop}{post:X→List aa}(hf:P.funcs[f]?=some fn)(hb:fn.body=some c)(hn:fn.ntmps=N)(ha:Nat.ble args.length N=true)
  (h:∀ F,ax P W N (bodyPost P fn (fun e w'=>∃ x,e=en x∧fact x∧Sat W w' (sep (seps (post x)) F))) c (enum 0 args) (pre++[F])):BO P W f args pre X en fact post:=fun F w hs=>by
 have hle:args.length≤N:=Nat.ble_eq.mp ha
 refine calls_of_wp hf hb (h F _ w ⟨?_,fun k v hv=>?_,rfl⟩ ?_)
 ·simp[hn];omega
 ·obtain⟨_,h2⟩:=jT args 0 k v hv
  have hk:k<args.length:=by
   have:=(List.getElem?_eq_some_iff.1 h2).1;simpa using this
  show(args.toArray++Array.replicate (fn.ntmps-args.toArray.size) undef)[k]?=some v
  rw[Array.getElem?_append_left (by simpa using hk)]
  simpa using h2
 ·rw[ah];simp only[seps];rw[aO];exact hs
theorem aS.J5{f:FuncId}{xs:Array Operand}{ts:Array TypeId}{pos:String}{after:Array Edge}{d:Nat}{args:List Value}{pre:List aa}{X:Type}{en:X→Ending}{fact:X→Prop}{post:X→List aa}(hN:Nat.blt d N=true)
  (hc:∀ args w,(callFunc f args).run P w = .ok (.enter f args) w) (hx:evs L xs.toList=some args) (hfn:BO P W f args pre X en fact post) (ht:aK H pre R) (hno:∀ x,en x≠.outgrown)
  (h1:∀ x v,en x = .returned v→fact x→aS P W N O Q rest ((d,some v)::L) (post x++R)) (h2:∀ x c,en x = .panicked c→fact x→bY W N Q (.panic c) L (post x++R)) :
  aS P W N O Q (⟨some d,.call ⟨.value (.func f),xs,ts⟩,T,pos,after,none⟩::rest) L H:=fun a w ha hs=>wpList_plain rfl fun Kp hK=>by
 have e:xs.map a.eval=args.toArray:=by
  rw[← ha.mR hx, ← List.map_toArray]
 have hs:=ht.sat hs
 rw[ah] at hs
 unfold Oper.wp
 have hr:(execOp a.eval ⟨some d,.call ⟨.value (.func f),xs,ts⟩,T,pos,after,none⟩).run P w = .ok (.enter f args.toArray) w:=by
  simp[execOp,resolve,Act.eval,Deferred.ofValue,invoke,e,hc]
 rw[hr]
 simp only[Oper.upon]
 refine(hfn _ w hs).mono fun en' w' ⟨x,he,hf,hs'⟩=>?_
 rw[← ah] at hs'
 subst he
 cases e2:en x with
 | returned v=>exact hK _ _ (h1 x v e2 hf _ _ (ha.put (Nat.blt_eq.mp hN) _) hs')
 | panicked c=>exact h2 x c e2 hf _ _ ha hs'
 | outgrown=>exact absurd e2 (hno x)
theorem bY.panics{fn:Func}{R:Ending→World→Prop}{c:List PanicEntry}(h:∀ w,Sat W w (seps H)→R (.panicked c) w):bY W N (bodyPost P fn R) (.panic c) L H:=fun a w ha hs=>by
 unfold bodyPost
 exact⟨ha.defers,h w hs⟩
theorem Y.Ga{t:TypeId}{u:TypeDesc}{x:Operand}{v:Value}(hu:P.underlying t=some u)(hn:(match u with | .interface _=>true | _=>false)=false)(hx:ev L x=some v):Y P W N (.makeInterface t x) T L H (.iface t v):=fun dst pos after guard a w ha hs=>by
 simp only[execOp,ha.eval hx]
 refine bE ?_
 cases u <;> first | (simp at hn;done) | simp[Instr.makeInterface,run_underlying hu]
theorem aS.panic{t:TypeId}{x:Operand}{v:Value}{pos:String}{after:Array Edge}{d:Option Nat}(hx:ev L x=some (.iface t v))(h:bY W N Q (.panic [{v:=.iface t v,recovered:=false }]) L H) :
  aS P W N O Q (⟨d,.panic x,T,pos,after,none⟩::rest) L H:=fun a w ha hs=>wpList_plain rfl fun Kp hK=>by
 unfold Oper.wp
 have hr:(execOp a.eval ⟨d,.panic x,T,pos,after,none⟩).run P w = .halt (.panic (.iface t v)) w:=by
  simp only[execOp,ha.eval hx];rfl
 rw[hr]
 exact h a w ha hs
end
end Go.SLYtefdijgllbkmfaaGreat
namespace Go.SLYtefdijgllbkmfaaGreat
open Go Go.RowKit
/-! a part apart, and how it is laid back -/
def n8{X:Type}(B C:X→aa):aa:=fun h=>∀ x h',FU h' h→B x h'→C x (join h' h)
theorem mo{X:Type}{B C:X→aa}(x:X):∀ h,seps [B x,n8 B C] h→C x h:=fun h a=>by
 simp only[seps,aO] at a
 obtain⟨h1,h2,b,c,d,rfl⟩:=a
 exact c x h1 d b
theorem n9{X:Type}{B C:X→aa}{R:aa}(f:∀ x h,sep (B x) R h→C x h):∀ h,R h→n8 B C h:=fun h r x h' d b=>f x _ ⟨h',h,b,r,d,rfl⟩
theorem gR{A B:aa}{h:js}:seps [A,B] h↔sep A B h:=by simp only[seps,aO]
section
variable{α:Type}{enc:α→List Value}{k:Nat}{v:Value}{xs:List α}
theorem rR{i:Nat}{x:α}(hx:xs[i]?=some x):∀ h,sl enc k v xs h→sep (arr (blk v) (cB v+i * k) (enc x)) (hole enc k v xs i) h:=fun h s=>by
 have hi:=(List.getElem?_eq_some_iff.1 hx).1
 rcases s with ⟨_,rfl,_⟩ | ⟨b,cap,sp,rfl,hle,hk,hsp,s⟩
 ·simp at hx
 ·have hl:(rows enc (xs.take i)).length=i * k:=by
   rw[bK fun y hy=>hk y (List.mem_of_mem_take hy),List.length_take,Nat.min_eq_left (Nat.le_of_lt hi)]
  have hxk:=hk x (List.mem_of_getElem? hx)
  have e:rows enc xs++sp=rows enc (xs.take i)++(enc x++(rows enc (xs.drop (i+1))++sp)):=by
   conv=>lhs;rw[rr hx]
   rw[dq,fH];simp
  rw[e,bQ,bQ,hl,hxk,aX] at s
  simp only[blk,cB]
  refine aR (fun _ h=>h) (fun h hh=>⟨b,cap,sp,rfl,hle,hk,hsp,?_⟩) h s
  rw[show(i+1) * k=0+i * k+k from by rw[Nat.succ_mul];omega];exact hh
theorem lN{i:Nat}{x':α}(hi:i<xs.length)(hx':(enc x').length=k):∀ h,sep (arr (blk v) (cB v+i * k) (enc x')) (hole enc k v xs i) h→sl enc k v (xs.set i x') h:=fun h s=>by
 obtain⟨x,hx⟩:∃ x,xs[i]?=some x:=⟨xs[i],by simp[hi]⟩
 obtain⟨h3,h4,a3,⟨b,cap,sp,hv,hle,hk,hsp,a4⟩,d',e'⟩:=s
 subst hv
 have s':sep (arr b (0+i * k) (enc x')) (sep (arr b 0 (rows enc (xs.take i))) (arr b ((i+1) * k) (rows enc (xs.drop (i+1))++sp))) h:=⟨h3,h4,a3,a4,d',e'⟩
 have hl:(rows enc (xs.take i)).length=i * k:=by
  rw[bK fun y hy=>hk y (List.mem_of_mem_take hy),List.length_take,Nat.min_eq_left (Nat.le_of_lt hi)]
 have e2:rows enc (xs.set i x')++sp=rows enc (xs.take i)++(enc x'++(rows enc (xs.drop (i+1))++sp)):=by
  rw[Da hx,dq,fH];simp
 have hk':∀ y∈xs.set i x',(enc y).length=k:=fun y hy=>by
  rcases List.mem_or_eq_of_mem_set hy with h | h
  ·exact hk y h
  ·subst h;exact hx'
 right
 refine⟨b,cap,sp,by simp,by simpa using hle,hk',by simpa using hsp,?_⟩
 rw[e2,bQ,bQ,hl,hx',aX]
 rwa [show(i+1) * k=0+i * k+k from by rw[Nat.succ_mul];omega] at s'
theorem jZ(h0:xs≠[]):∀ h,sl enc k v xs h→ ∃ b cap,v = .slice (some ⟨b,0,none⟩) xs.length cap∧xs.length≤cap:=fun h s=>by
 rcases s with ⟨_,hx0,_⟩ | ⟨b,cap,_,hv,hle,_⟩
 ·exact absurd hx0 h0
 ·exact⟨b,cap,hv,hle⟩
end
theorem j0{α:Type}(xs:List α)(i:Nat):xs.take i++xs.drop (i+1)=xs.eraseIdx i:=(List.eraseIdx_eq_take_drop_succ ..).symm
theorem oa{b o:Nat}{u:Value}{cs:List Value}:∀ h,arr b o (u::cs) h→seps [arr b o [u],arr b (o+1) cs] h:=fun h a=>by
 rw[show u::cs=[u]++cs from rfl,bQ] at a
 exact gR.2 a
theorem tO{b o:Nat}{u:Value}{cs:List Value}:∀ h,seps [arr b o [u],arr b (o+1) cs] h→arr b o (u::cs) h:=fun h a=>by
 rw[show u::cs=[u]++cs from rfl,bQ]
 exact gR.1 a
/-! gates -/
def ew(b o:Nat)(m:dt):aa:=hZ (fun _:Value=>True) fun u=>[arr b o [u,.bool m.held,.int .i64 m.owner],sl cN 2 u m.wait]
def gP(b o:Nat)(m:jr):aa:=hZ (fun _:Value=>True) fun u=>[arr b o [u,.int .i64 m.count],sl cN 2 u m.wait]
theorem DD{v:Value}{l:List dt}{i:Nat}{m:dt}(hm:l[i]?=some m):∀ h,eo v l h→seps [ew (blk v) (cB v+i * 3) m,n8 (ew (blk v) (cB v+i * 3)) (fun m'=>eo v (l.set i m'))] h:=fun h ⟨xs,hxs,a⟩=>by
 obtain⟨x,hx⟩:=aB (show i<xs.length by rw[← List.length_map (f:=(·.2)),hxs];exact(List.getElem?_eq_some_iff.1 hm).1)
 have hxm:x.2=m:=by have:=nU hxs hx;rw[hm] at this;exact(Option.some.inj this).symm
 rw[gR] at a ⊢
 have a2:sep (sep (arr (blk v) (cB v+i * 3) (ly x)) (hole ly 3 v xs i)) (sep (sl cN 2 x.1 x.2.wait) (bb (fun x:Value×dt=>sl cN 2 x.1 x.2.wait) (xs.eraseIdx i))) h:=aR (rR hx) (fun g b=>by rw[iU _ hx] at b;exact b) h a
 rw[aM,aX (hole ly 3 v xs i), ← aM] at a2
 refine aR ?_ ?_ h a2
 ·intro g b;exact⟨x.1,trivial,by rw[gR, ← hxm];exact b⟩
 ·refine n9 fun m' g b=>?_
  obtain⟨h1,h2,⟨u, -,b1⟩,b2,d,rfl⟩:=b
  refine⟨xs.set i (u,m'),by show(xs.set i (u,m')).map (·.2)=_;rw[List.map_set,show xs.map (·.2)=l from hxs],?_⟩
  rw[gR] at b1 ⊢
  have b3:sep (sep (arr (blk v) (cB v+i * 3) (ly (u,m'))) (sl cN 2 u m'.wait)) (sep (hole ly 3 v xs i) (bb (fun x:Value×dt=>sl cN 2 x.1 x.2.wait) (xs.eraseIdx i))) (join h1 h2):=⟨h1,h2,b1,b2,d,rfl⟩
  rw[aM,aX (sl cN 2 u m'.wait), ← aM] at b3
  refine aR (lN (List.getElem?_eq_some_iff.1 hx).1 rfl) (fun g c=>?_) _ b3
  rw[iV _ _ (List.getElem?_eq_some_iff.1 hx).1];exact c
theorem DE{v:Value}{l:List jr}{i:Nat}{m:jr}(hm:l[i]?=some m):∀ h,fq v l h→seps [gP (blk v) (cB v+i * 2) m,n8 (gP (blk v) (cB v+i * 2)) (fun m'=>fq v (l.set i m'))] h:=fun h ⟨xs,hxs,a⟩=>by
 obtain⟨x,hx⟩:=aB (show i<xs.length by rw[← List.length_map (f:=(·.2)),hxs];exact(List.getElem?_eq_some_iff.1 hm).1)
 have hxm:x.2=m:=by have:=nU hxs hx;rw[hm] at this;exact(Option.some.inj this).symm
 rw[gR] at a ⊢
 have a2:sep (sep (arr (blk v) (cB v+i * 2) (lK x)) (hole lK 2 v xs i)) (sep (sl cN 2 x.1 x.2.wait) (bb (fun x:Value×jr=>sl cN 2 x.1 x.2.wait) (xs.eraseIdx i))) h:=aR (rR hx) (fun g b=>by rw[iU _ hx] at b;exact b) h a
 rw[aM,aX (hole lK 2 v xs i), ← aM] at a2
 refine aR ?_ ?_ h a2
 ·intro g b;exact⟨x.1,trivial,by rw[gR, ← hxm];exact b⟩
 ·refine n9 fun m' g b=>?_
  obtain⟨h1,h2,⟨u, -,b1⟩,b2,d,rfl⟩:=b
  refine⟨xs.set i (u,m'),by show(xs.set i (u,m')).map (·.2)=_;rw[List.map_set,show xs.map (·.2)=l from hxs],?_⟩
  rw[gR] at b1 ⊢
  have b3:sep (sep (arr (blk v) (cB v+i * 2) (lK (u,m'))) (sl cN 2 u m'.wait)) (sep (hole lK 2 v xs i) (bb (fun x:Value×jr=>sl cN 2 x.1 x.2.wait) (xs.eraseIdx i))) (join h1 h2):=⟨h1,h2,b1,b2,d,rfl⟩
  rw[aM,aX (sl cN 2 u m'.wait), ← aM] at b3
  refine aR (lN (List.getElem?_eq_some_iff.1 hx).1 rfl) (fun g c=>?_) _ b3
  rw[iV _ _ (List.getElem?_eq_some_iff.1 hx).1];exact c
theorem DF{v:Value}{l:List (List dc)}{i:Nat}{m:List dc}(hm:l[i]?=some m):∀ h,ia v l h→seps [iy (blk v) (cB v+i * 1) m,n8 (iy (blk v) (cB v+i * 1)) (fun m'=>ia v (l.set i m'))] h:=fun h ⟨xs,hxs,a⟩=>by
 obtain⟨x,hx⟩:=aB (show i<xs.length by rw[← List.length_map (f:=(·.2)),hxs];exact(List.getElem?_eq_some_iff.1 hm).1)
 have hxm:x.2=m:=by have:=nU hxs hx;rw[hm] at this;exact(Option.some.inj this).symm
 rw[gR] at a ⊢
 have a2:sep (sep (arr (blk v) (cB v+i * 1) (cj x)) (hole cj 1 v xs i)) (sep (sl cN 2 x.1 x.2) (bb (fun x:Value×List dc=>sl cN 2 x.1 x.2) (xs.eraseIdx i))) h:=aR (rR hx) (fun g b=>by rw[iU _ hx] at b;exact b) h a
 rw[aM,aX (hole cj 1 v xs i), ← aM] at a2
 refine aR ?_ ?_ h a2
 ·intro g b;exact⟨x.1,trivial,by rw[gR, ← hxm];exact b⟩
 ·refine n9 fun m' g b=>?_
  obtain⟨h1,h2,⟨u, -,b1⟩,b2,d,rfl⟩:=b
  refine⟨xs.set i (u,m'),by show(xs.set i (u,m')).map (·.2)=_;rw[List.map_set,show xs.map (·.2)=l from hxs],?_⟩
  rw[gR] at b1 ⊢
  have b3:sep (sep (arr (blk v) (cB v+i * 1) (cj (u,m'))) (sl cN 2 u m')) (sep (hole cj 1 v xs i) (bb (fun x:Value×List dc=>sl cN 2 x.1 x.2) (xs.eraseIdx i))) (join h1 h2):=⟨h1,h2,b1,b2,d,rfl⟩
  rw[aM,aX (sl cN 2 u m'), ← aM] at b3
  refine aR (lN (List.getElem?_eq_some_iff.1 hx).1 rfl) (fun g c=>?_) _ b3
  rw[iV _ _ (List.getElem?_eq_some_iff.1 hx).1];exact c
theorem Ap{b o:Nat}{m:dt}:∀ h,seps [iy b o m.wait,arr b (o+1) [.bool m.held,.int .i64 m.owner]] h→ew b o m h:=fun h a=>by
 rw[gR] at a
 obtain⟨h1,h2,⟨u, -,b1⟩,b2,d,rfl⟩:=a
 refine⟨u,trivial,?_⟩
 rw[gR] at b1 ⊢
 have b3:sep (sep (arr b o [u]) (sl cN 2 u m.wait)) (arr b (o+1) [.bool m.held,.int .i64 m.owner]) (join h1 h2):=⟨h1,h2,b1,b2,d,rfl⟩
 rw[aM,hG (sl cN 2 u m.wait), ← aM] at b3
 exact aR (fun g c=>tO g (gR.2 c)) (fun _ c=>c) _ b3
theorem qT{b o:Nat}{m:jr}:∀ h,seps [iy b o m.wait,arr b (o+1) [.int .i64 m.count]] h→gP b o m h:=fun h a=>by
 rw[gR] at a
 obtain⟨h1,h2,⟨u, -,b1⟩,b2,d,rfl⟩:=a
 refine⟨u,trivial,?_⟩
 rw[gR] at b1 ⊢
 have b3:sep (sep (arr b o [u]) (sl cN 2 u m.wait)) (arr b (o+1) [.int .i64 m.count]) (join h1 h2):=⟨h1,h2,b1,b2,d,rfl⟩
 rw[aM,hG (sl cN 2 u m.wait), ← aM] at b3
 exact aR (fun g c=>tO g (gR.2 c)) (fun _ c=>c) _ b3
def HS(v:Value)(n k:Nat)(i:Int):Value:=.pointer (if 0≤i∧i<(n:Int) then some ⟨blk v,cB v+i.toNat * k,none⟩ else none)
/-! searches -/
def idxP{α:Type}(p:α→Bool):List α→Nat→Int
 | [],_ => -1
 | x::l,k=>if p x=true then (k:Int) else idxP p l (k+1)
theorem j6{α:Type}{p:α→Bool}{l:List α}{k:Nat}{x:α}(h:l[k]?=some x)(hp:p x=true):idxP p (l.drop k) k=(k:Int):=by rw[drop_cons h,idxP,if_pos hp]
theorem iN{α:Type}{p:α→Bool}{l:List α}{k:Nat}{x:α}(h:l[k]?=some x)(hp:p x=false):idxP p (l.drop k) k=idxP p (l.drop (k+1)) (k+1):=by rw[drop_cons h,idxP,if_neg (by rw[hp];simp)]
theorem j7{α:Type}{p:α→Bool}{l:List α}{k:Nat}(h:l.length≤k):idxP p (l.drop k) k = -1:=by rw[List.drop_of_length_le h];rfl
theorem iZ{α:Type}{p:α→Bool}:∀ (l:List α) (k:Nat),decide (0≤idxP p l k)=l.any p
 | [],_=>rfl
 | x::l,k=>by
  rw[idxP,List.any_cons]
  cases h:p x with
  | true=>rw[if_pos rfl];simp
  | false=>rw[if_neg (by simp),iZ l (k+1),Bool.false_or]
theorem vz{α β:Type}{p:β→Bool}{xs:List (α×β)}{l:List β}(h:xs.map (·.2)=l):(xs.any fun x=>p x.2)=l.any p:=by rw[← h,List.any_map];rfl
end Go.SLYtefdijgllbkmfaaGreat
namespace Go.SLYtefdijgllbkmfaaGreat
open Go Go.RowKit
theorem getD_some{α:Type}{l:List α}{d:α}{n:Nat}(h:n<l.length):l[n]?=some (l.getD n d):=by
 rw[List.getD_eq_getElem?_getD,List.getElem?_eq_getElem h];rfl
section
variable{P:Program}{W:World}{N:Nat}{L:List (Nat×Option Value)}{H:List aa}{T:TypeId}
end
/-! slots -/
def hN(h:Int):Nat:=(h % 65536-1).toNat
def jL(l:List (Bool×Int))(n:Nat):Bool×Int:=l.getD n (false,0)
theorem tP{l:List (Bool×Int)}{h:Int}(e:h % 65536=0):bj l h=none:=by unfold bj;rw[if_pos e]
theorem find_eq{l:List (Bool×Int)}{h:Int}(e:¬h % 65536=0):bj l h=if (decide ((l.length:Int)≤(hN h:Int)) || !(jL l (hN h)).1 || decide (dn (jL l (hN h)).2 (hN h)≠h))=true then none else some (hN h):=by
 unfold bj
 rw[if_neg e]
 have hb:0≤h % 65536-1:=by omega
 have hc:(hN h:Int)=h % 65536-1:=by unfold hN;omega
 rw[hc]
 by_cases hl:(l.length:Int)≤h % 65536-1
 ·rw[show l[(h % 65536-1).toNat]?=none from by rw[List.getElem?_eq_none];omega]
  simp[hl]
 ·rw[getD_some (d:=(false,0)) (show(h % 65536-1).toNat<l.length by omega)]
  unfold jL hN
  simp only[hl,decide_false,Bool.false_or]
  generalize l.getD (h % 65536-1).toNat (false,0)=o
  obtain⟨u,t⟩:=o
  cases u <;> simp <;> rfl
theorem vA{l:List (Bool×Int)}{h:Int}{n:Nat}(e:bj l h=some n):n<l.length∧n=hN h∧(jL l n).1=true∧dn (jL l n).2 n=h:=by
 by_cases e0:h % 65536=0
 ·rw[tP e0] at e;cases e
 ·rw[find_eq e0] at e
  split at e
  ·cases e
  ·rename_i hc
   cases e
   simp only[Bool.not_eq_true,Bool.or_eq_false_iff,decide_eq_false_iff_not,Bool.not_eq_false',ne_eq,Decidable.not_not] at hc
   exact⟨by omega,rfl,hc.1.2,hc.2⟩
theorem Gb{h:Int}(e:¬h % 65536=0):h % 65536-1=(hN h:Int):=by unfold hN;omega
def J6(o:Option Nat):Value:=.tuple #[.int .i64 ((o.getD 0:Nat):Int),.bool o.isSome]
theorem xp{h:Int}(a:0≤h):h.tmod 65536=h % 65536:=Int.tmod_eq_emod_of_nonneg a
theorem zf{l:List (Bool×Int)}{h:Int}(e:bj l h=none):slotFreed l h=l:=by unfold slotFreed;rw[e]
theorem rS{l:List (Bool×Int)}{h:Int}{n:Nat}(e:bj l h=some n):slotFreed l h=l.set n (false,(jL l n).2):=by unfold slotFreed;rw[e];rfl
theorem Aq{t:Int}{n:Nat}(hn:0<n)(hb:n≤1000000000) : -9223372036854775808≤t.tmod n+n∧t.tmod n+n≤9223372036854775807:=by
 have h1:=Int.lt_tmod_of_pos t (show(0:Int)<n by omega)
 have h2:=Int.tmod_lt_of_pos t (show(0:Int)<n by omega)
 omega
/-! gates -/
structure gF(g:Gates):Prop where
 m:g.aD.length≤1000000
 c:g.bm.length≤1000000
 s:g.bX.length≤1000000
 mw:∀ x∈g.aD,x.wait.length≤1000000
 cw:∀ x∈g.bm,x.length≤1000000
 sw:∀ x∈g.bX,x.wait.length≤1000000
section
variable{W:World}
theorem vD{α β:Type}{enc:α→List Value}{k:Nat}{f:β→Value}{g:β→List α}{xs:List β}{x:β}(hx:x∈xs){H:List aa}(t:At H (bb (fun x=>sl enc k (f x) (g x)) xs)):Rd W H enc k (f x) (g x):=by
 obtain⟨i,hi⟩:=List.getElem?_of_mem hx
 exact Rd.sub t fun h a=>⟨_,by rw[iU _ hi] at a;exact a⟩
end
theorem DG{g:Gates}{xm:List (Value×dt)}{xc:List (Value×List dc)}{xs:List (Value×jr)}{who:Int}(h1:xm.map (·.2)=g.aD)(h2:xc.map (·.2)=g.bm)(h3:xs.map (·.2)=g.bX) :
  ((xm.any fun x=>lx x.2.wait who) || (xc.any fun x=>lx x.2 who) || (xs.any fun x=>lx x.2.wait who))=g.waits who:=by
 unfold Gates.waits
 rw[vz (p:=fun m:dt=>lx m.wait who) h1,vz (p:=fun m:List dc=>lx m who) h2,vz (p:=fun m:jr=>lx m.wait who) h3]
theorem vE{l:List dc}{c:Int}(h:l.length=0):aH l c=(⟨0,0⟩,false,l):=by unfold aH;rw[if_pos h]
theorem qU{l:List dc}{c:Int}(h:¬l.length=0):aH l c=(l.getD (pick c l.length) ⟨0,0⟩,true,l.eraseIdx (pick c l.length)):=by unfold aH;rw[if_neg h]
theorem eC{α:Type}{l:List α}{i:Int}(h:¬(0≤i∧i<(l.length:Int))):cH l i=none:=by
 unfold cH
 split
 ·rfl
 ·rw[List.getElem?_eq_none];omega
theorem ck{α:Type}{l:List α}{i:Int}(h:0≤i∧i<(l.length:Int)):∃ x,l[i.toNat]?=some x∧cH l i=some x:=by
 obtain⟨x,hx⟩:=aB (show i.toNat<l.length by omega)
 exact⟨x,hx,by unfold cH;rw[if_neg (by omega),hx]⟩
theorem gG{α:Type}{l:List α}{i:Int}{x:α}(h:cH l i=some x):0≤i∧i<(l.length:Int)∧l[i.toNat]?=some x:=by
 unfold cH at h
 split at h
 ·cases h
 ·have:=(List.getElem?_eq_some_iff.1 h).1
  exact⟨by omega,by omega,h⟩
theorem qV{v:Value}{n k:Nat}{i:Int}(h:¬(0≤i∧i<(n:Int))):HS v n k i = .pointer none:=by unfold HS;rw[if_neg h]
theorem fe{v:Value}{n k:Nat}{i:Int}(h:0≤i∧i<(n:Int)):HS v n k i = .pointer (some ⟨blk v,cB v+i.toNat * k,none⟩):=by unfold HS;rw[if_pos h]
def iH:dt:=⟨[],false,0⟩
theorem vF{m:dt}{who:Int}(h:m.held=true):m.lock who=(false,{m with wait:=m.wait++[⟨who,0⟩] }):=by unfold dt.lock;rw[if_pos h]
theorem vG{m:dt}{who:Int}(h:m.held=false):m.lock who=(true,{m with held:=true,owner:=who }):=by unfold dt.lock;rw[if_neg (by rw[h];simp)]
end Go.SLYtefdijgllbkmfaaGreat
namespace Go.SLYtefdijgllbkmfaaGreat
open Go Go.RowKit
structure pE(N:Nat)(L:List (Nat×Option Value))(D:List Deferred)(a:Act):Prop where
 size:a.tmps.size=N
 get:∀ k v,look L k=some v→a.tmps[k]?=some v
 defers:a.defers=D
theorem pE.env{N:Nat}{L:List (Nat×Option Value)}{D:List Deferred}{a:Act}(h:pE N L D a):Env N L (dv a []):=⟨h.size,h.get,rfl⟩
theorem m8(a:Act)(ds:List Deferred):(dv a ds).eval=a.eval:=by funext x;cases x <;> rfl
theorem pE.put{N:Nat}{L:List (Nat×Option Value)}{D:List Deferred}{a:Act}(h:pE N L D a){d:Nat}(hd:d<N)(v:Value):pE N ((d,some v)::L) D (a.put (some d) v) :=
 ⟨(h.env.put hd v).size,(h.env.put hd v).get,h.defers⟩
section
variable{P:Program}{W:World}{N:Nat}{Q:Exit→Act→World→Prop}{L:List (Nat×Option Value)}{H K R:List aa}{O:Array Oper}{T:TypeId}{rest:List Oper}{D:List Deferred}{ks:List Nat}
theorem DH{o:Oper}{a:Act}{w:World}{Kp Kp':Act→World→Prop}{Q':Exit→Act→World→Prop}(h:∀ ds u w',Kp ((dv a ds).put o.dst u) w'→Kp' ((dv a (ds++a.defers)).put o.dst u) w')(hh:o.wp P (dv a []) w Kp QF):o.wp P a w Kp' Q':=by
 unfold Oper.wp at *
 rw[m8] at hh
 generalize (execOp a.eval o).run P w=r at *
 have h0:=h []
 rw[List.nil_append,show dv a a.defers=a from rfl] at h0
 cases r with
 | ok n w' =>
  cases n <;> simp only[Oper.upon] at hh ⊢
  case value v=>exact h0 _ _ hh
  case skip=>exact h0 _ _ hh
  case enter f args =>
   refine Calls.mono hh (fun e w'' he=>?_)
   cases e with
   | returned v=>exact h0 _ _ he
   | panicked c=>exact he.elim
   | outgrown=>obtain⟨_,_,hf⟩:=he;exact hf.elim
  case row r' args=>exact Rows.mono hh (fun v w'' he=>h0 _ _ he)
  case defer d=>exact h [d] undef w' hh
 | halt x w'=>cases x <;> simp only[Oper.upon] at hh ⊢ <;> exact hh.elim
theorem af.d{o:Oper}{k:List (Nat×Option Value)→List aa→Prop}{a:Act}{w:World}{Kp:Act→World→Prop}{Q':Exit→Act→World→Prop}(hd:af P W N o L H k)(ha:pE N L D a)(hs:Sat W w (seps H))(h:∀ L' H',k L' H'→ ∀ a' w',pE N L' D a'→Sat W w' (seps H')→Kp a' w'):o.wp P a w Kp Q':=by
 refine DH (Kp:=fun a' w'=>∃ L' H',k L' H'∧Env N L' a'∧Sat W w' (seps H')) (fun ds u w' ⟨L',H',hk,he,hs'⟩=>?_) (hd _ w ha.env hs _ fun L' H' hk a' w' ha' hs'=>⟨L',H',hk,ha',hs'⟩)
 have e:((dv a ds).put o.dst u).defers=ds:=by cases o.dst <;> rfl
 rw[he.defers] at e
 subst e
 refine h L' H' hk _ w' ⟨?_,fun k v hv=>?_,?_⟩ hs'
 ·have:=he.size;cases ho:o.dst <;> rw[ho] at this <;> exact this
 ·have:=he.get k v hv;cases ho:o.dst <;> rw[ho] at this <;> exact this
 ·rw[List.nil_append];cases o.dst <;> exact ha.defers
theorem Y.d{op:Op}{v:Value}(hy:Y P W N op T L H v)(dst:Option Tmp)(pos:String)(after:Array Edge)(guard:Option (Nat×Bool)){a:Act}{w:World}(ha:pE N L D a)(hs:Sat W w (seps H)):(execOp a.eval ⟨dst,op,T,pos,after,guard⟩).run P w = .ok (.value v) w:=by
 have:=hy dst pos after guard _ w ha.env hs
 rwa [m8] at this
def rT(W:World)(N:Nat)(D:List Deferred)(Q:Exit→Act→World→Prop)(e:Exit)(L:List (Nat×Option Value))(H:List aa):Prop:=∀ a w,pE N L D a→Sat W w (seps H)→Q e a w
def kP(P:Program)(W:World)(N:Nat)(D:List Deferred)(Q:Exit→Act→World→Prop)(c:Code)(L:List (Nat×Option Value))(H:List aa):Prop:=∀ a w,pE N L D a→Sat W w (seps H)→c.wp P Q a w
def fI(P:Program)(W:World)(N:Nat)(D:List Deferred)(O:Array Oper)(Q:Exit→Act→World→Prop)(ops:List Oper)(L:List (Nat×Option Value))(H:List aa):Prop:=∀ a w,pE N L D a→Sat W w (seps H)→wpList P O Q ops a w
def fy(P:Program)(W:World)(N:Nat)(D:List Deferred)(K:List aa)(O:Array Oper)(Q:Exit→Act→World→Prop)(ks:List Nat)(ops:List Oper)(L:List (Nat×Option Value))(H:List aa):Prop:=∀ a w,pE N L D a→Sat W w (seps H)→wpKL P O (fun w=>Sat W w (seps K)) Q ks ops a w
theorem aS.Is{x:Operand}{f:FuncId}{us cap:Array Value}{ts:Array TypeId}{pos:String}{after:Array Edge}(hx:ev L x=some (.func (.func f) us cap))(k:fI P W N [⟨.fn (.func f) cap,us⟩] O Q rest L H):aS P W N O Q (⟨none,.defer ⟨.value x, #[],ts⟩,T,pos,after,none⟩::rest) L H:=fun a w ha hs=>wpList_plain rfl fun Kp hK=>by
 unfold Oper.wp
 have hr:(execOp a.eval ⟨none,.defer ⟨.value x, #[],ts⟩,T,pos,after,none⟩).run P w = .ok (.defer ⟨.fn (.func f) cap,us⟩) w:=by
  simp[execOp,resolve,ha.eval hx,Deferred.ofValue]
 rw[hr]
 simp only[Oper.upon]
 exact hK _ _ (k _ w ⟨ha.size,ha.get,by simp[Act.put,ha.defers]⟩ hs)
theorem rT.ic{c:Code}(k:kP P W N D Q c L H):rT W N D (Exit.then (c.wp P Q) Q) .normal L H:=k
theorem kP.seq{x y:Code}(k:kP P W N D (Exit.then (y.wp P Q) Q) x L H):kP P W N D Q (.seq x y) L H:=fun a w ha hs=>wp_seq (k a w ha hs)
theorem kP.region{id:Nat}{l:List Oper}(k:fI P W N D l.toArray Q l L H):kP P W N D Q (.region id l.toArray false) L H:=fun a w ha hs=>wp_region_lit (k a w ha hs)
theorem kP.draw{id:Nat}{l:List Oper}(K:List aa)(ks:List Nat)(hm:P.follows .mixedOrders=true)(hB:qR l ks=true)(h:fy P W N D K l.toArray Q ks l L H):kP P W N D Q (.region id l.toArray true) L H :=
 fun a _w ha hs=>qk (C:=fun w=>Sat W w (seps K)) ks hm hB (h a _ ha hs.drew)
theorem kP.ret(k:rT W N D Q .ret L H):kP P W N D Q .ret L H:=fun a w ha hs=>wp_ret (k a w ha hs)
theorem fI.nil(k:rT W N D Q .normal L H):fI P W N D O Q [] L H:=fun a w ha hs=>wpList_nil (k a w ha hs)
theorem fI.y{op:Op}{pos:String}{after:Array Edge}{d:Nat}{v:Value}(hN:Nat.blt d N=true)(hy:Y P W N op T L H v)(k:fI P W N D O Q rest ((d,some v)::L) H) :
  fI P W N D O Q (⟨some d,op,T,pos,after,none⟩::rest) L H:=fun a w ha hs =>
 wpList_plain rfl fun Kp hK=>by
  unfold Oper.wp
  rw[hy.d _ _ _ _ ha hs]
  exact hK _ _ (k _ w (ha.put (Nat.blt_eq.mp hN) v) hs)
theorem fI.aw{o:Oper}{k:List (Nat×Option Value)→List aa→Prop}(hg:o.guard=none)(hd:af P W N o L H k)(h:∀ L' H',k L' H'→fI P W N D O Q rest L' H'):fI P W N D O Q (o::rest) L H:=fun _a _w ha hs =>
 wpList_plain hg fun _Kp hK=>hd.d ha hs fun L' H' hk a' w' ha' hs'=>hK _ _ (h L' H' hk a' w' ha' hs')
theorem fy.nil(h:rT W N D Q .normal L H):fy P W N D K O Q ks [] L H:=fun a w ha hs=>by cases ks <;> exact h a w ha hs
theorem fy.k{op:Op}{pos:String}{after:Array Edge}{d:Nat}{v:Value}(hN:Nat.blt d N=true)(hK:∀ w,Sat W w (seps H)→Sat W w (seps K))(hy:Y P W N op T L K v)(h:fy P W N D K O Q ks rest ((d,some v)::L) H) :
  fy P W N D K O Q (0::ks) (⟨some d,op,T,pos,after,none⟩::rest) L H:=fun a w ha hs=>by
 simp only[wpKL]
 exact⟨hK w hs,v,.inl ⟨bf rfl,fun w' hs'=>hy.d _ _ _ _ ha hs'⟩,h _ w (ha.put (Nat.blt_eq.mp hN) v) hs⟩
theorem fy.s{op:Op}{pos:String}{after:Array Edge}{d:Nat}{v:Value}(hN:Nat.blt d N=true)(hy:Y P W N op T L H v)(h:fy P W N D K O Q ks rest ((d,some v)::L) H) :
  fy P W N D K O Q (1::ks) (⟨some d,op,T,pos,after,none⟩::rest) L H:=fun a w ha hs=>by
 simp only[wpKL]
 exact⟨v,.inl ⟨bf rfl,fun w' e=>by subst e;exact hy.d _ _ _ _ ha hs⟩,h _ w (ha.put (Nat.blt_eq.mp hN) v) hs⟩
theorem fy.d2{o:Oper}{k:List (Nat×Option Value)→List aa→Prop}(hg:o.guard=none)(hK:∀ w,Sat W w (seps H)→Sat W w (seps K))(hd:af P W N o L H k)(hK':∀ L' H',k L' H'→ ∀ w,Sat W w (seps H')→Sat W w (seps K))(h:∀ L' H',k L' H'→fy P W N D K O Q ks rest L' H') :
  fy P W N D K O Q (2::ks) (o::rest) L H:=fun a w ha hs=>by
 simp only[wpKL]
 refine⟨hK w hs,?_⟩
 rw[if_pos (bf hg)]
 exact hd.d ha hs fun L' H' hk a' w' ha' hs'=>⟨hK' L' H' hk w' hs',h L' H' hk a' w' ha' hs'⟩
theorem fy.d3{o:Oper}{k:List (Nat×Option Value)→List aa→Prop}(hg:o.guard=none)(hd:af P W N o L H k)(h:∀ L' H',k L' H'→fy P W N D K O Q ks rest L' H') :
  fy P W N D K O Q (3::ks) (o::rest) L H:=fun a w ha hs=>by
 simp only[wpKL]
 rw[if_pos (bf hg)]
 exact hd.d ha hs fun L' H' hk a' w' ha' hs'=>h L' H' hk a' w' ha' hs'
theorem fI.KR{As:List aa}(t:aK H As R)(k:fI P W N D O Q rest L (As++R)):fI P W N D O Q rest L H:=fun a w ha hs=>k a w ha (t.sat hs)
theorem fI.mem{ops:List Oper}{H':List aa}(h:∀ w,Sat W w (seps H)→Sat W w (seps H'))(k:fI P W N D O Q ops L H'):fI P W N D O Q ops L H:=fun a w ha hs=>k a w ha (h w hs)
theorem fI.fo{ops:List Oper}{p:Prop}(h:∀ w,Sat W w (seps H)→p)(k:p→fI P W N D O Q ops L H):fI P W N D O Q ops L H:=fun a w ha hs=>k (h w hs) a w ha hs
theorem fI.It{f:FuncId}{xs:Array Operand}{ts:Array TypeId}{pos:String}{after:Array Edge}{dst:Option Nat}{args:List Value}{pre:List aa}{X:Type}{en:X→Ending}{fact:X→Prop}{post:X→List aa}(hdst:∀ d,dst=some d→Nat.blt d N=true)
  (hc:∀ args w,(callFunc f args).run P w = .ok (.enter f args) w) (hx:evs L xs.toList=some args) (hfn:BO P W f args pre X en fact post) (ht:aK H pre R) (hno:∀ x,en x≠.outgrown)
  (h1:∀ x v,en x = .returned v→fact x→fI P W N D O Q rest (match dst with | some d=>(d,some v)::L | none=>L) (post x++R)) (h2:∀ x c,en x = .panicked c→fact x→rT W N D Q (.panic c) L (post x++R)) :
  fI P W N D O Q (⟨dst,.call ⟨.value (.func f),xs,ts⟩,T,pos,after,none⟩::rest) L H:=fun a w ha hs=>wpList_plain rfl fun Kp hK=>by
 have e:xs.map a.eval=args.toArray:=by
  rw[← m8 a [], ← ha.env.mR hx, ← List.map_toArray]
 have hs:=ht.sat hs
 rw[ah] at hs
 unfold Oper.wp
 have hr:(execOp a.eval ⟨dst,.call ⟨.value (.func f),xs,ts⟩,T,pos,after,none⟩).run P w = .ok (.enter f args.toArray) w:=by
  simp[execOp,resolve,Act.eval,Deferred.ofValue,invoke,e,hc]
 rw[hr]
 simp only[Oper.upon]
 refine(hfn _ w hs).mono fun en' w' ⟨x,he,hf,hs'⟩=>?_
 rw[← ah] at hs'
 subst he
 cases e2:en x with
 | returned v =>
  have h:=h1 x v e2 hf
  cases dst with
  | none=>exact hK _ _ (h _ _ ⟨ha.size,ha.get,ha.defers⟩ hs')
  | some d=>exact hK _ _ (h _ _ (ha.put (Nat.blt_eq.mp (hdst d rfl)) _) hs')
 | panicked c=>exact h2 x c e2 hf _ _ ha hs'
 | outgrown=>exact absurd e2 (hno x)
/-! a region in which a call panics: all that is read comes first -/
def Ar(P:Program)(W:World)(N:Nat)(K:List aa)(O:Array Oper)(Q:Exit→Act→World→Prop)(fuel:Nat)(li:Array Bool)(L:List (Nat×Option Value))(H:List aa):Prop :=
 ∀ a w,Env N L a→Sat W w (seps H)→wpAnyH P .any O Q (fun w=>Sat W w (seps K)) fuel li a w
theorem ax.held{id:Nat}{l:List Oper}(K:List aa)(hm:P.follows .mixedOrders=true)(h:Ar P W N K l.toArray Q l.toArray.size (Array.replicate l.toArray.size false) L H):ax P W N Q (.region id l.toArray true) L H:=fun a _w ha hs=>wp_region_held hm (h a _ ha hs.drew)
def J7(Q:Exit→Act→World→Prop):Prop:=∀ c d v a w,Q (.panic c) (a.put (some d) v) w→Q (.panic c) a w
theorem Ar.take(i:Nat){op:Op}{pos:String}{after:Array Edge}{d fuel:Nat}{li:Array Bool}{v:Value}(hi:O[i]?=some ⟨some d,op,T,pos,after,none⟩)(hs:Region.noSelect O=true)(hf:Region.free .any O li i=true)(hr:(Region.ready .any O li).contains i=true)(hQ:J7 Q)(hN:Nat.blt d N=true)
  (hK:∀ w,Sat W w (seps H)→Sat W w (seps K)) (hy:Y P W N op T L K v) (h:Ar P W N K O Q fuel (li.setIfInBounds i true) ((d,some v)::L) H):Ar P W N K O Q (fuel+1) li L H:=fun a w ha hs' =>
 wpAnyH_take hi hs hf hr (fun c a w=>hQ c d v a w) (.inl ⟨bf rfl,fun w' hw'=>hy _ _ _ _ a w' ha hw'⟩) (hK w hs') (h _ w (ha.put (Nat.blt_eq.mp hN) v) hs')
theorem Ar.J8(i:Nat){f:FuncId}{xs:Array Operand}{ts:Array TypeId}{pos:String}{after:Array Edge}{d fuel:Nat}{li:Array Bool}{args:List Value}{pre:List aa}{X:Type}{en:X→Ending}{fact:X→Prop}{post:X→List aa}(hi:O[i]?=some ⟨some d,.call ⟨.value (.func f),xs,ts⟩,T,pos,after,none⟩)(hr:Region.ready .any O li=[i])
  (hc:∀ args w,(callFunc f args).run P w = .ok (.enter f args) w) (hx:evs L xs.toList=some args) (hfn:BO P W f args pre X en fact post) (ht:aK H pre R) (hp:∀ x, ∃ c,en x = .panicked c)
  (h2:∀ x c,en x = .panicked c→fact x→bY W N Q (.panic c) L (post x++R)):Ar P W N K O Q (fuel+1) li L H:=fun a w ha hs=>by
 refine wpAnyH_all hr (by simp) fun j hj=>?_
 obtain rfl:j=i:=by simpa using hj
 have e:xs.map a.eval=args.toArray:=by
  rw[← ha.mR hx, ← List.map_toArray]
 have hs:=ht.sat hs
 rw[ah] at hs
 unfold wpOp
 rw[hi]
 simp only
 rw[if_pos (bf rfl)]
 left
 unfold Oper.wp
 have hr:(execOp a.eval ⟨some d,.call ⟨.value (.func f),xs,ts⟩,T,pos,after,none⟩).run P w = .ok (.enter f args.toArray) w:=by
  simp[execOp,resolve,Act.eval,Deferred.ofValue,invoke,e,hc]
 rw[hr]
 simp only[Oper.upon]
 refine(hfn _ w hs).mono fun en' w' ⟨x,he,hf,hs'⟩=>?_
 rw[← ah] at hs'
 subst he
 obtain⟨c,e2⟩:=hp x
 rw[e2]
 exact h2 x c e2 hf _ _ ha hs'
/-! what the model stands in for -/
theorem Y.ext {f : FuncId} {fn : Func} {e : Array Value → Sem Value} {xs : Array Operand} {ts : Array TypeId} {args : List Value} {v : Value} (hf : P.funcs[f]? = some fn) (hname : (fn.name == "runtime.NumGoroutine") = false) (hb : fn.body.isNone = true) (hn : Extern.findNext fn = none) (he : Extern.find fn = some e)
  (hx:evs L xs.toList=some args) (h:∀ w,(e args.toArray).run P w = .ok v w):Y P W N (.call ⟨.value (.func f),xs,ts⟩) T L H v:=fun dst pos after guard a w ha hs=>by
 have e2:xs.map a.eval=args.toArray:=by
  rw[← ha.mR hx, ← List.map_toArray]
 simp[execOp,resolve,Act.eval,Deferred.ofValue,invoke,e2,run_callFunc_extern hf hname hb hn he,h]
/-! numbers with a point -/
def jM(m n:Nat):Option Ordering:=Ieee.double.order m n
theorem Y.J9{xT yT:TypeId}{x y:Operand}{m n:Nat}(hx:ev L x=some (.float .f64 m))(hy:ev L y=some (.float .f64 n)):Y P W N (.binOp .lss xT x y yT) T L H (.bool (jM m n == some .lt)):=Y.bin hx hy fun _w=>rfl
theorem Y.La{xT yT:TypeId}{x y:Operand}{m n:Nat}(hx:ev L x=some (.float .f64 m))(hy:ev L y=some (.float .f64 n)):Y P W N (.binOp .geq xT x y yT) T L H (.bool (jM m n == some .gt || jM m n == some .eq)):=Y.bin hx hy fun _w=>rfl
theorem Y.Lb{xT yT:TypeId}{x y:Operand}{m n:Nat}(hx:ev L x=some (.float .f64 m))(hy:ev L y=some (.float .f64 n))(hg:∀ w,(eqGuard .neq xT x y (.float .f64 m) (.float .f64 n)).run P w = .ok () w):Y P W N (.binOp .neq xT x y yT) T L H (.bool (jM m n != some .eq)):=Y.bin hx hy fun w=>by
 rw[Sem.run_bind,hg];rfl
def Iu(o:Option Nat)(r:Nat):Prop:=match o with | some q=>r=q | none=>(jM r r == some .eq)=false
theorem Au(t:Nat):(jM ((t % 2) * 2 ^ 63+0x7ff0000000000000+1+(t / 2) % (2 ^ 52-1)) ((t % 2) * 2 ^ 63+0x7ff0000000000000+1+(t / 2) % (2 ^ 52-1)) == some .eq)=false:=by
 have h1:t % 2<2:=Nat.mod_lt _ (by decide)
 have h2:(t / 2) % (2 ^ 52-1)<2 ^ 52-1:=Nat.mod_lt _ (by decide)
 generalize t % 2=s at *
 generalize (t / 2) % (2 ^ 52-1)=q at *
 have hr:(s * 2 ^ 63+0x7ff0000000000000+1+q) % Ieee.double.signWeight=0x7ff0000000000001+q:=by
  have:Ieee.double.signWeight=2 ^ 63:=by decide
  rw[this];omega
 have hread:∃ b f,Ieee.double.read (s * 2 ^ 63+0x7ff0000000000000+1+q) = .nan b f:=by
  unfold Ieee.Format.read
  simp only[hr]
  have e1:Ieee.double.binade=4503599627370496:=by decide
  have e2:Ieee.double.infRung=9218868437227405312:=by decide
  rw[e1,e2,if_neg (by omega),if_neg (by omega),if_neg (by omega)]
  exact⟨_,_,rfl⟩
 obtain⟨b,f,e⟩:=hread
 unfold jM Ieee.Format.order
 rw[e]
 rfl
theorem af.Gc{op:BinOp}{xT yT:TypeId}{x y:Operand}{pos:String}{after:Array Edge}{guard:Option (Nat×Bool)}{d m n:Nat}(o:Option Nat)(hN:Nat.blt d N=true)(hx:ev L x=some (.float .f64 m))(hy:ev L y=some (.float .f64 n))
  (h:∀ w,(do eqGuard op xT x y (.float .f64 m) (.float .f64 n);binOp op xT (.float .f64 m) (.float .f64 n):Sem Value).run P w=(match o with | some r=>pure (.float .f64 r) | none=>do pure (.float .f64 (← choose (.nanBits .f64 m n))):Sem Value).run P w) :
  af P W N ⟨some d,.binOp op xT x y yT,T,pos,after,guard⟩ L H (fun L1 H1=>∃ r,Iu o r∧L1=(d,some (.float .f64 r))::L∧H1=H):=fun a w ha hs Kp hK=>by
 have hrun:∀ v w',(match o with | some r=>pure (.float .f64 r) | none=>do pure (.float .f64 (← choose (.nanBits .f64 m n))):Sem Value).run P w = .ok v w'→(execOp a.eval ⟨some d,.binOp op xT x y yT,T,pos,after,guard⟩).run P w = .ok (.value v) w':=fun v w' hv=>by
  simp only[execOp,ha.eval hx,ha.eval hy]
  have h2:=(h w).trans hv
  show((do eqGuard op xT x y (.float .f64 m) (.float .f64 n);binOp op xT (.float .f64 m) (.float .f64 n):Sem Value) >>= fun v=>pure (Next.value v)).run P w=_
  rw[Sem.run_bind,h2]
  rfl
 unfold Oper.wp
 cases o with
 | some r =>
  rw[hrun (.float .f64 r) w rfl]
  simp only[Oper.upon]
  exact hK _ _ ⟨r,rfl,rfl,rfl⟩ _ _ (ha.put (Nat.blt_eq.mp hN) _) hs
 | none =>
  have hq:(choose (.nanBits .f64 m n)).run P w = .ok ((Question.nanBits .f64 m n).cut (w.tape w.drawn (.nanBits .f64 m n))) w.drew:=by
   rw[run_choose_drew];simp[Question.forced]
  rw[hrun (.float .f64 ((Question.nanBits .f64 m n).cut (w.tape w.drawn (.nanBits .f64 m n)))) w.drew (by simp only[Sem.run_bind,hq,Result.andThen_ok,Sem.run_pure])]
  simp only[Oper.upon]
  refine hK _ _ ⟨_,?_,rfl,rfl⟩ _ _ (ha.put (Nat.blt_eq.mp hN) _) hs.drew
  show(jM _ _ == some .eq)=false
  simp only[Question.cut]
  exact Au _
theorem Y.toFloat{src dst':TypeId}{x:Operand}{j:IntKind}{n:Int}(h:∀ w,(convert src dst' (.int j n)).run P w = .ok (.float .f64 (FloatKind.f64.nearest n)) w)(hx:ev L x=some (.int j n)):Y P W N (.convert src dst' x) T L H (.float .f64 (FloatKind.f64.nearest n)):=fun dst pos after guard a w ha hs=>by
 simp only[execOp,ha.eval hx]
 exact bE (h w)
theorem Y.Iv{src dst':TypeId}{x:Operand}{j:IntKind}{n:Nat}{k:Int}(h:∀ w,(convert src dst' (.float .f64 n)).run P w = .ok (.int j k) w)(hx:ev L x=some (.float .f64 n)):Y P W N (.convert src dst' x) T L H (.int j k):=fun dst pos after guard a w ha hs=>by
 simp only[execOp,ha.eval hx]
 exact bE (h w)
end
end Go.SLYtefdijgllbkmfaaGreat
namespace Go.SLYtefdijgllbkmfaaGreat
open Go Go.RowKit
theorem xr(n:Nat):mO (n:Int)=(jM n n != some .eq):=by
 unfold mO K8 jM bne
 rw[Int.toNat_natCast]
theorem pF(n:Nat):fw (n:Int)=if (jM n n != some .eq)=true then mS else (n:Int):=by unfold fw;rw[xr]
theorem jD{o:Option Nat}{r:Nat}(h:Iu o r):fw (r:Int)=BJ o:=by
 cases o with
 | some q=>rw[show r=q from h];rfl
 | none =>
  have h:(jM r r == some .eq)=false:=h
  rw[pF]
  unfold bne
  rw[h];rfl
theorem gu{a:Int}(h:0≤a):(jM a.toNat a.toNat != some .eq)=mO a:=by
 rw[← xr,Int.toNat_of_nonneg h]
/-! from a number to a whole one -/
theorem DI:Ieee.double.read nY = .number false 4503599627370496 11:=by decide +kernel
theorem BP:Ieee.double.read nZ = .number true 4503599627370496 11:=by decide +kernel
open Ieee in
theorem DJ(s:Bool)(n drop:Nat):Toward.zero.cut s n drop=n / 2 ^ min drop (n.log2+2):=by
 unfold Toward.cut
 simp[Nat.one_shiftLeft]
theorem Iw{n drop b:Nat}(h:n≤b * 2 ^ drop):n / 2 ^ min drop (n.log2+2)≤b:=by
 rcases Nat.le_total drop (n.log2+2) with hd | hd
 ·rw[Nat.min_eq_left hd]
  exact Nat.div_le_of_le_mul (by rw[Nat.mul_comm];exact h)
 ·rw[Nat.min_eq_right hd]
  have:n<2 ^ (n.log2+2):=Nat.lt_of_lt_of_le Nat.lt_log2_self (Nat.pow_le_pow_right (by decide) (by omega))
  rw[Nat.div_eq_of_lt this]
  exact Nat.zero_le _
theorem Ix{n drop b:Nat}(hb:0<b)(h:n<b * 2 ^ drop):n / 2 ^ min drop (n.log2+2)<b:=by
 rcases Nat.le_total drop (n.log2+2) with hd | hd
 ·rw[Nat.min_eq_left hd]
  exact Nat.div_lt_of_lt_mul (by rw[Nat.mul_comm];exact h)
 ·rw[Nat.min_eq_right hd]
  have:n<2 ^ (n.log2+2):=Nat.lt_of_lt_of_le Nat.lt_log2_self (Nat.pow_le_pow_right (by decide) (by omega))
  rw[Nat.div_eq_of_lt this]
  exact hb
open Ieee in
theorem Gd(m:Nat)(i:Int):let base:=min i 11
  (m <<< (i-base).toNat<4503599627370496 <<< (11-base).toNat→m <<< i.toNat<9223372036854775808 * 2 ^ (-i).toNat)∧(m <<< (i-base).toNat≤4503599627370496 <<< (11-base).toNat→m <<< i.toNat≤9223372036854775808 * 2 ^ (-i).toNat):=by
 intro base
 simp only[Nat.shiftLeft_eq]
 have key:∃ c:Nat,0<c∧(m * 2 ^ i.toNat)=(m * 2 ^ (i-base).toNat) * c∧9223372036854775808 * 2 ^ (-i).toNat=4503599627370496 * 2 ^ (11-base).toNat * c:=by
  rcases(show i<0∨0≤i by omega) with hi | hi
  ·refine⟨1,by decide,?_,?_⟩
   ·rw[show base=i from by show min i 11=i;omega,show i.toNat=0 from by omega,show(i-i).toNat=0 from by omega];simp
   ·rw[show base=i from by show min i 11=i;omega,show(11-i).toNat=11+(-i).toNat from by omega,Nat.pow_add,Nat.mul_one, ← Nat.mul_assoc]
  ·refine⟨2 ^ base.toNat,Nat.pow_pos (by decide),?_,?_⟩
   ·rw[Nat.mul_assoc, ← Nat.pow_add,show(i-base).toNat+base.toNat=i.toNat from by show(i-min i 11).toNat+(min i 11).toNat=_;omega]
   ·rw[Nat.mul_assoc, ← Nat.pow_add,show(11-base).toNat+base.toNat=11 from by show(11-min i 11).toNat+(min i 11).toNat=_;omega,show(-i).toNat=0 from by omega]
 obtain⟨c,hc,e1,e2⟩:=key
 rw[e1,e2]
 exact⟨fun h=>Nat.mul_lt_mul_of_pos_right h hc,fun h=>Nat.mul_le_mul_right c h⟩
theorem Iy(x y:Int):compare x y=if x<y then .lt else if x=y then .eq else .gt:=rfl
theorem Iz{x y:Int}(h:y<x):compare x y = .gt:=by rw[Iy,if_neg (by omega),if_neg (by omega)]
theorem IA{x y:Int}(h:x<y):compare x y = .lt:=by rw[Iy,if_pos h]
theorem IB(x:Int):compare x x = .eq:=by rw[Iy,if_neg (by omega),if_pos rfl]
theorem xt(m k:Nat):Ieee.signed false m k=((m <<< k:Nat):Int):=rfl
theorem DK(m k:Nat):Ieee.signed true m k = -((m <<< k:Nat):Int):=rfl
open Ieee in
theorem BQ{n:Nat}(h1:(jM n n != some .eq)=false)(h2:(jM n nY == some .gt || jM n nY == some .eq)=false)(h3:(jM n nZ == some .lt)=false) :
  ∃ k,(FloatKind.f64.decode n).toInt .zero=some k∧IntKind.i64.min≤k∧k≤IntKind.i64.max:=by
 show ∃ k,(double.read n).toInt .zero=some k∧_
 unfold jM Format.order at h1 h2 h3
 rw[DI] at h2
 rw[BP] at h3
 have hmin:IntKind.i64.min = -9223372036854775808:=by decide
 have hmax:IntKind.i64.max=9223372036854775807:=by decide
 rw[hmin,hmax]
 cases hd:double.read n with
 | nan b f=>rw[hd] at h1;simp[Datum.order] at h1
 | infinity s =>
  rw[hd] at h2 h3
  cases s <;> simp[Datum.order] at h2 h3
 | number s m i =>
  rw[hd] at h2 h3
  simp only[Datum.order,Bool.or_eq_false_iff] at h2 h3
  refine⟨signed s (Toward.zero.cut s (m <<< i.toNat) (-i).toNat) 0,rfl,?_⟩
  rw[DJ]
  obtain⟨c1,c2⟩:=Gd m i
  cases s with
  | false =>
   have hlt:m <<< (i-min i 11).toNat<4503599627370496 <<< (11-min i 11).toNat:=by
    rcases Nat.lt_trichotomy (m <<< (i - min i 11).toNat) (4503599627370496 <<< (11 - min i 11).toNat) with h | h | h
    ·exact h
    ·exfalso
     rw[xt,xt,h,IB] at h2;simp at h2
    ·exfalso
     rw[xt,xt,Iz (by omega)] at h2;simp at h2
   have:=Ix (by decide) (c1 hlt)
   generalize (m <<< i.toNat) / 2 ^ min (-i).toNat ((m <<< i.toNat).log2+2)=q at *
   rw[xt,Nat.shiftLeft_zero]
   omega
  | true =>
   have hle:m <<< (i-min i 11).toNat≤4503599627370496 <<< (11-min i 11).toNat:=by
    rcases Nat.lt_or_ge (4503599627370496 <<< (11 - min i 11).toNat) (m <<< (i - min i 11).toNat) with h | h
    ·exfalso
     rw[DK,DK,IA (by omega)] at h3;simp at h3
    ·exact h
   have:=Iw (c2 hle)
   generalize (m <<< i.toNat) / 2 ^ min (-i).toNat ((m <<< i.toNat).log2+2)=q at *
   rw[DK,Nat.shiftLeft_zero]
   omega
theorem BR{P:Program}{n:Nat}{w:World}{k:Int}(h:(FloatKind.f64.decode n).toInt .zero=some k)(h1:IntKind.i64.min≤k)(h2:k≤IntKind.i64.max):(Conv.floatToInt .f64 n .i64).run P w = .ok (.int .i64 k) w:=by
 unfold Conv.floatToInt
 rw[h]
 simp only
 rw[if_pos ⟨h1,h2⟩]
 rfl
theorem DL(k:Int):IntKind.u64.wrap k=gO k:=by
 unfold gO
 rfl
end Go.SLYtefdijgllbkmfaaGreat
namespace Go.SLYtefdijgllbkmfaaGreat
open Go Go.RowKit
def iI(f:iD):List Value:=[.int .i64 f.fn,.int .i64 f.pc,.int .u64 (f.av.getD 0 0),.int .u64 (f.av.getD 1 0),.int .u64 (f.av.getD 2 0),.int .u64 (f.av.getD 3 0),.int .u64 (f.av.getD 4 0),.int .u64 (f.av.getD 5 0),.int .u64 (f.av.getD 6 0),.int .u64 (f.av.getD 7 0)]
def tQ(f:iD)(v:Value):List Value:=[.int .i64 f.fn,.int .i64 f.pc,.int .u64 (f.av.getD 0 0),.int .u64 (f.av.getD 1 0),.int .u64 (f.av.getD 2 0),.int .u64 (f.av.getD 3 0),.int .u64 (f.av.getD 4 0),.int .u64 (f.av.getD 5 0),.int .u64 (f.av.getD 6 0),.int .u64 (f.av.getD 7 0),v]
def DM(o:Option Ins):Value:=.tuple #[.agg (dC (o.getD Ins.z)).toArray,.bool o.isSome]
theorem Ge{p:eB}{f:iD}{fs:List (Value×List Ins)}{z:Value×List Ins}(hp:fs.map (·.2)=p.funcs)
  (h:(decide (f.fn<0) || decide ((fs.length:Int)≤f.fn) || decide (f.pc<0) || decide (((fs.getD f.fn.toNat z).2.length:Int)≤f.pc))=true) (_hz:z.2=[]):eG p f=none:=by
 unfold eG
 split
 ·rfl
 ·rename_i hn
  rw[← hp,List.getElem?_eq_none]
  simp only[Bool.or_eq_true,decide_eq_true_eq] at h
  rw[List.getD_eq_getElem?_getD,List.getElem?_map]
  rw[List.getD_eq_getElem?_getD] at h
  cases e:fs[f.fn.toNat]? with
  | none=>exact Nat.zero_le _
  | some x =>
   rw[e] at h
   have:=(List.getElem?_eq_some_iff.1 e).1
   simp only[Option.getD_some,Option.map_some] at h ⊢
   omega
theorem DN{p:eB}{f:iD}{fs:List (Value×List Ins)}{x:Value×List Ins}{i:Ins}(hp:fs.map (·.2)=p.funcs)(h1:¬f.fn<0)(h2:¬f.pc<0)(hx:fs[f.fn.toNat]?=some x)(hi:x.2[f.pc.toNat]?=some i):eG p f=some i:=by
 unfold eG
 rw[if_neg (by omega), ← hp,List.getD_eq_getElem?_getD,List.getElem?_map,hx]
 exact hi
theorem lO{f:iD}{v:Value}:∀ {n:Nat} (_:n<8),(tQ f v)[2+n]?=some (.int .u64 (f.av.getD n 0))
 | 0,_=>rfl
 | 1,_=>rfl
 | 2,_=>rfl
 | 3,_=>rfl
 | 4,_=>rfl
 | 5,_=>rfl
 | 6,_=>rfl
 | 7,_=>rfl
 | n+8,h=>absurd h (by omega)
theorem Gf{fn pc:Int}{a0 a1 a2 a3 a4 a5 a6 a7:Int}{v:Value}(x:Int):∀ {n:Nat} (_:n<8),(tQ ⟨fn,pc,[a0,a1,a2,a3,a4,a5,a6,a7]⟩ v).set (2+n) (.int .u64 x)=tQ ⟨fn,pc,[a0,a1,a2,a3,a4,a5,a6,a7].set n x⟩ v
 | 0,_=>rfl
 | 1,_=>rfl
 | 2,_=>rfl
 | 3,_=>rfl
 | 4,_=>rfl
 | 5,_=>rfl
 | 6,_=>rfl
 | 7,_=>rfl
 | n+8,h=>absurd h (by omega)
theorem zg{f:iD}{v:Value}{n:Nat}(x:Int)(hn:n<8)(hl:f.av.length=8):(tQ f v).set (2+n) (.int .u64 x)=tQ {f with av:=f.av.set n x } v:=by
 obtain⟨fn,pc,av⟩:=f
 match av,hl with
 | [a0,a1,a2,a3,a4,a5,a6,a7],_=>exact Gf x hn
def tR(t:Nat)(e:Int):List PanicEntry:=[{v:=.iface t (.agg #[.int .i64 e]),recovered:=false }]
structure ja(i:Ins):Prop where
 a:0≤i.a∧i.a<8
 b:0≤i.b∧i.b<8
 c:0≤i.c∧i.c<8
 n:0≤i.n∧i.n≤18446744073709551615
 j:i.op=16∨i.op=17→i.n≤256
structure Av(f:iD):Prop where
 l:f.av.length=8
 pc:0≤f.pc∧f.pc≤1000000
 r:∀ n,0≤f.av.getD n 0∧f.av.getD n 0≤18446744073709551615
def doEnd(t:Nat)(o:Option (iD×List Int)):Ending:=match o with | some _=>.returned (.tuple #[]) | none=>.panicked (tR t 6)
def Lc(b:Nat)(v:Value)(o:Option (iD×List Int)):List aa:=match o with | some z=>[arr b 0 (tQ z.1 v),sl cM 1 v z.2] | none=>[]
def fV(f:iD)(m:List Int)(i:Ins):iD×List Int×Int:=match gX f m i with | some (f',m')=>(f',m',0) | none=>(iD.z,[],6)
section
variable{P:Program}{W:World}{N:Nat}{Q:Exit→Act→World→Prop}{L:List (Nat×Option Value)}{H K R:List aa}{O:Array Oper}{T:TypeId}{rest:List Oper}{D:List Deferred}{ks:List Nat}
theorem Y.Gg{x:Operand}{v r:Value}{t u:TypeId}{c:Bool}(hx:ev L x=some v)(h:∀ w,(Instr.typeAssert v t u c).run P w = .ok r w):Y P W N (.typeAssert x t u c) T L H r:=fun dst pos after guard a w ha hs=>by
 simp only[execOp,ha.eval hx]
 exact bE (h w)
theorem BO.ok{f:FuncId}{args:List Value}{pre:List aa}{X:Type}{en:X→Ending}{fact:X→Prop}{post:X→List aa}(val:X→Value)(h:BO P W f args pre X en fact post)(he:∀ x,en x = .returned (val x)):Fn P W f args pre X val fact post:=fun F w hs =>
 (h F w hs).mono fun _ _ ⟨x,e1,e2,e3⟩=>⟨x,e1.trans (he x),e2,e3⟩
theorem Fn.IC{f:FuncId}{fn:Func}{c:Code}{args:List Value}{pre:List aa}{X:Type}{val:X→Value}{fact:X→Prop}{post:X→List aa}(hf:P.funcs[f]?=some fn)(hb:fn.body=some c)(hn:fn.ntmps=N)(ha:Nat.ble args.length N=true)
  (h:∀ F,ax P W N (bodyPostD P fn (fun e w'=>∃ x,e = .returned (val x)∧fact x∧Sat W w' (sep (seps (post x)) F))) c (enum 0 args) (pre++[F])):Fn P W f args pre X val fact post:=fun F w hs=>by
 have hle:args.length≤N:=Nat.ble_eq.mp ha
 refine calls_of_wp_defers hf hb (h F _ w ⟨?_,fun k v hv=>?_,rfl⟩ ?_)
 ·simp[hn];omega
 ·obtain⟨_,h2⟩:=jT args 0 k v hv
  have hk:k<args.length:=by
   have:=(List.getElem?_eq_some_iff.1 h2).1;simpa using this
  show(args.toArray++Array.replicate (fn.ntmps-args.toArray.size) undef)[k]?=some v
  rw[Array.getElem?_append_left (by simpa using hk)]
  simpa using h2
 ·rw[ah];simp only[seps];rw[aO];exact hs
theorem af.Gh{α:Type}{enc:α→List Value}{k b n c':Nat}{x y:Operand}{t t2 e ty:TypeId}{u:Value}{xs ys:List α}{pos:String}{after:Array Edge}{guard:Option (Nat×Bool)}{d:Nat}(hN:Nat.blt d N=true)(hu:P.underlying t=some (.slice e))(hz:∀ w,(sizeOf e).run P w = .ok k w)
  (hx:ev L x=some (.slice (some ⟨b,0,none⟩) n c')) (hy:ev L y=some u) (hr:Rd W H enc k u ys) (ht:Take H (sl enc k (.slice (some ⟨b,0,none⟩) n c') xs) R) (hl:xs.length=n) (hl2:ys.length=n) (hone:∀ y∈ys, ∀ c∈enc y,c.oneCell'=true) :
  af P W N ⟨some d,.call ⟨.builtin .copy, #[x,y], #[t,t2]⟩,ty,pos,after,guard⟩ L H (fun L1 H1=>L1=(d,some (.int .i64 (n:Int)))::L∧H1=sl enc k (.slice (some ⟨b,0,none⟩) n c') ys::R):=by
 rcases Nat.eq_zero_or_pos n with h0 | h0
 ·subst h0
  obtain rfl:=List.eq_nil_of_length_eq_zero hl
  obtain rfl:=List.eq_nil_of_length_eq_zero hl2
  intro a w ha hs Kp hK
  have hrd:=hr w hs
  have hf:=hrd.Dt (P:=P) (m:=0) (Nat.zero_le _)
  obtain⟨⟨ua,ucap,hue,_⟩,_⟩:=hrd
  have hln:(Builtin.lenOf u).run P w = .ok 0 w:=by rw[hue];simp[Builtin.lenOf]
  have hrun:(execOp a.eval ⟨some d,.call ⟨.builtin .copy, #[x,y], #[t,t2]⟩,ty,pos,after,guard⟩).run P w = .ok (.value (.int .i64 ((0:Nat):Int))) w:=by
   simp[execOp,resolve,invoke,builtin,ha.eval hx,ha.eval hy,Builtin.copy_,run_underlying hu,hz,hln,goInt,hf,rows,storeCells]
  unfold Oper.wp
  rw[hrun]
  simp only[Oper.upon]
  rw[ht.seps] at hs
  exact hK _ _ ⟨rfl,rfl⟩ _ _ (ha.put (Nat.blt_eq.mp hN) _) hs
 ·have:=af.Ir (P:=P) (W:=W) (N:=N) (L:=L) (H:=H) (R:=R) (ty:=ty) (pos:=pos) (after:=after) (guard:=guard) (t2:=t2) (d:=d) (x:=x) (y:=y) (t:=t) (i:=0) (b:=b) (len:=n) (cap:=c') (c':=c') (xs:=xs) (ys:=ys) hN hu hz (by simpa using hx) hy hr ht hl (Nat.zero_le _) h0 hone
  have e:min ys.length (n-0)=n:=by omega
  rw[e,List.take_zero,List.nil_append,Nat.zero_add,List.take_of_length_le (by omega),List.drop_of_length_le (by omega),List.append_nil] at this
  exact this
end
end Go.SLYtefdijgllbkmfaaGreat
namespace Go.SLYtefdijgllbkmfaaGreat
open Go Go.RowKit
def QC(R:Ending→FrameMode→World→Prop)(u:FrameMode):Exit→Act→World→Prop
 | .normal,a,w | .ret,a,w=>a.defers=[]∧R (.returned (.tuple #[])) u w
 | _,_,_=>False
section
variable{P:Program}{W:World}{N:Nat}{Q:Exit→Act→World→Prop}{L:List (Nat×Option Value)}{H K R:List aa}{O:Array Oper}{T:TypeId}{D:List Deferred}
theorem BS{args:List Value}(ha:Nat.ble args.length N=true):Env N (enum 0 args) {tmps:=args.toArray++Array.replicate (N-args.toArray.size) undef,defers:=[] }:=by
 have hle:args.length≤N:=Nat.ble_eq.mp ha
 refine⟨by simp;omega,fun k v hv=>?_,rfl⟩
 obtain⟨_,h2⟩:=jT args 0 k v hv
 have hk:k<args.length:=by
  have:=(List.getElem?_eq_some_iff.1 h2).1;simpa using this
 show(args.toArray++Array.replicate (N-args.toArray.size) undef)[k]?=some v
 rw[Array.getElem?_append_left (by simpa using hk)]
 simpa using h2
theorem lP{f:FuncId}{fn:Func}{rest:Code}{id d:Nat}{pos:String}{after:Array Edge}{args:List Value}{Rc:Ending→FrameMode→World→Prop}{u u2:FrameMode}{v:Value}{w:World}(hf:P.funcs[f]?=some fn)
  (hb:fn.body=some (.seq (.region id #[⟨some d,.call ⟨.builtin .recover, #[], #[]⟩,T,pos,after,none⟩] false) rest)) (hn:fn.ntmps=N) (ha:Nat.ble args.length N=true) (hd:Nat.blt d N=true) (hr:fn.results = #[])
  (hu:∀ (c:Frame) (cs:List Frame),c.mode=u→(recoverD (c::cs)=some (v,{c with mode:=u2 }::cs))∨(recoverD (c::cs)=none∧v = .nilIface∧u2=u))
  (hs:Sat W w (seps H)) (h:ax P W N (QC Rc u2) rest ((d,some v)::enum 0 args) H):CallsD P f args.toArray u w Rc:=by
 refine callsD_of_wpS hf hb fun c cs hc=>wpS_seq (wpS_region ?_)
 have henv:Env N ((d,some v)::enum 0 args) (({tmps:=args.toArray++Array.replicate (fn.ntmps-args.toArray.size) undef,defers:=[] }:Act).put (some d) v):=by
  rw[hn];exact(BS ha).put (Nat.blt_eq.mp hd) v
 have hw:=h _ w henv hs
 have hfin:rest.wpS P (bodyPostS P fn c cs Rc) (({tmps:=args.toArray++Array.replicate (fn.ntmps-args.toArray.size) undef,defers:=[] }:Act).put (some d) v) ({c with mode:=u2 }::cs) w:=by
  refine wpS_of_wp (wp_mono hw fun e a' w' hq=>?_)
  cases e with
  | normal=>exact⟨hq.1,u2,rfl,_,results_none hr _ _ _,hq.2⟩
  | ret=>exact⟨hq.1,u2,rfl,_,results_none hr _ _ _,hq.2⟩
  | exit id=>exact hq.elim
  | goto l=>exact hq.elim
  | panic c=>exact hq.elim
  | outgrown=>exact hq.elim
 have hlist:List.range (#[(⟨some d,.call ⟨.builtin .recover, #[], #[]⟩,T,pos,after,none⟩:Oper)]).size=[0]:=rfl
 rw[hlist]
 simp only[wpOpsS,List.getElem?_toArray,List.getElem?_cons_zero]
 rw[if_pos (bf rfl)]
 have hx:(execOp ({tmps:=args.toArray++Array.replicate (fn.ntmps-args.toArray.size) undef,defers:=[] }:Act).eval ⟨some d,.call ⟨.builtin .recover, #[], #[]⟩,T,pos,after,none⟩).run P w = .ok .recover w:=by
  simp[execOp,resolve,invoke,builtin]
 rw[hx]
 simp only
 rcases hu c cs hc with e | ⟨e,rfl,rfl⟩
 ·rw[e];exact hfin
 ·rw[e]
  have:({c with mode:=u2 }:Frame)=c:=by subst hc;rfl
  rw[this] at hfin
  exact hfin
theorem vH{xT:TypeId}{ms:Array (String×TypeId)}(hu:P.underlying xT=some (.interface ms))(w:World):(Op.equal xT .nilIface .nilIface).run P w = .ok true w:=by
 show(Op.equalIn (9999+1) xT _ _).run P w=_
 unfold Op.equalIn
 simp[run_underlying hu]
theorem tA{xT:TypeId}{ms:Array (String×TypeId)}{t:TypeId}{u:Value}(hu:P.underlying xT=some (.interface ms))(w:World):(Op.equal xT (.iface t u) .nilIface).run P w = .ok false w:=by
 show(Op.equalIn (9999+1) xT _ _).run P w=_
 unfold Op.equalIn
 simp[run_underlying hu]
theorem Y.Ka{xT yT:TypeId}{x:Operand}{ms:Array (String×TypeId)}(hu:P.underlying xT=some (.interface ms))(hx:ev L x=some .nilIface):Y P W N (.binOp .eql xT x (.const .nilIface) yT) T L H (.bool true) :=
 Y.bin hx rfl fun w=>by simp[eqGuard,binOp,vH hu]
theorem Y.Kb{xT yT:TypeId}{x:Operand}{t:TypeId}{u:Value}{ms:Array (String×TypeId)}(hu:P.underlying xT=some (.interface ms))(hx:ev L x=some (.iface t u)):Y P W N (.binOp .eql xT x (.const .nilIface) yT) T L H (.bool false) :=
 Y.bin hx rfl fun w=>by simp[eqGuard,binOp,tA hu]
theorem bY.Kc{Rc:Ending→FrameMode→World→Prop}{u:FrameMode}(h:∀ w,Sat W w (seps H)→Rc (.returned (.tuple #[])) u w):bY W N (QC Rc u) .normal L H:=fun _a w ha hs=>⟨ha.defers,h w hs⟩
theorem tS{fn:Func}{a:Act}{w:World}{t1 t2 t3 T1 T2 T3 b1 b2 b3:Nat}{cs:List Value}{v2 v3:Value}(ha:pE N L D a)(hs:Sat W w (seps H))(hr:fn.results = #[.cell t1 T1,.cell t2 T2,.cell t3 T3])(h1:look L t1=some (ptr b1))(h2:look L t2=some (ptr b2))(h3:look L t3=some (ptr b3))
  (g1:∀ w,(isAgg T1).run P w = .ok true w) (z1:∀ w,(sizeOf T1).run P w = .ok cs.length w) (g2:∀ w,(isAgg T2).run P w = .ok false w) (g3:∀ w,(isAgg T3).run P w = .ok false w) (c1:Cells W H b1 0 cs) (c2:Cell W H b2 0 v2) (c3:Cell W H b3 0 v3) :
  (results fn a.tmps).run P w = .ok (.tuple #[.agg cs.toArray,v2,v3]) w:=by
 have hl:=hP (P:=P) (w:=w) g1 z1 fun i v hv=>c1 i v hv w hs
 have hl2:(loadVar T2 ⟨b2,0,none⟩).run P w = .ok v2 w:=by simp[loadVar,g2,c2 w hs]
 have hl3:(loadVar T3 ⟨b3,0,none⟩).run P w = .ok v3 w:=by simp[loadVar,g3,c3 w hs]
 simp[results,hr,ha.get _ _ h1,ha.get _ _ h2,ha.get _ _ h3,ptr,asAddr,hl,hl2,hl3]
end
end Go.SLYtefdijgllbkmfaaGreat
namespace Go.SLYtefdijgllbkmfaaGreat
open Go Go.RowKit
def qM(v:Value)(l:List dt)(i:Nat):aa:=n8 (ew (blk v) (cB v+i * 3)) (fun m'=>eo v (l.set i m'))
def xu(v:Value)(l:List jr)(i:Nat):aa:=n8 (gP (blk v) (cB v+i * 2)) (fun m'=>fq v (l.set i m'))
def BT(v:Value)(l:List (List dc))(i:Nat):aa:=n8 (iy (blk v) (cB v+i * 1)) (fun m'=>ia v (l.set i m'))
theorem ob{v:Value}{l:List dt}{i:Nat}{m:dt}(hm:l[i]?=some m):∀ h,eo v l h→seps [ew (blk v) (cB v+i * 3) m,qM v l i] h:=DD hm
theorem Aw{v:Value}{l:List jr}{i:Nat}{m:jr}(hm:l[i]?=some m):∀ h,fq v l h→seps [gP (blk v) (cB v+i * 2) m,xu v l i] h:=DE hm
theorem Ax{v:Value}{l:List (List dc)}{i:Nat}{m:List dc}(hm:l[i]?=some m):∀ h,ia v l h→seps [iy (blk v) (cB v+i * 1) m,BT v l i] h:=DF hm
theorem rU{v:Value}{l:List dt}{i:Nat}(m':dt):∀ h,seps [ew (blk v) (cB v+i * 3) m',qM v l i] h→eo v (l.set i m') h:=mo m'
theorem rV{v:Value}{l:List jr}{i:Nat}(m':jr):∀ h,seps [gP (blk v) (cB v+i * 2) m',xu v l i] h→fq v (l.set i m') h:=mo m'
theorem DO{v:Value}{l:List (List dc)}{i:Nat}(m':List dc):∀ h,seps [iy (blk v) (cB v+i * 1) m',BT v l i] h→ia v (l.set i m') h:=mo m'
theorem eH{α:Type}{l:List α}{i:Nat}{x:α}(h:l[i]?=some x):l.set i x=l:=by
 apply List.ext_getElem?
 intro j
 by_cases e:i=j
 ·subst e;rw[List.getElem?_set_self (List.getElem?_eq_some_iff.1 h).1,h]
 ·rw[List.getElem?_set_ne e]
theorem oc{v:Value}{l:List dt}{i:Nat}{m:dt}(hm:l[i]?=some m):∀ h,seps [ew (blk v) (cB v+i * 3) m,qM v l i] h→eo v l h:=fun h a=>by have:=rU m h a;rwa [eH hm] at this
theorem DP{v:Value}{l:List jr}{i:Nat}{m:jr}(hm:l[i]?=some m):∀ h,seps [gP (blk v) (cB v+i * 2) m,xu v l i] h→fq v l h:=fun h a=>by have:=rV m h a;rwa [eH hm] at this
theorem fz{p:Prop}[Decidable p]{α:Type}{a:α}(h:(if p then some a else none).isNone=false):p:=by
 by_cases hp:p
 ·exact hp
 ·rw[if_neg hp] at h;cases h
theorem fJ{p:Prop}[Decidable p]{α:Type}{a:α}(h:(if p then some a else none).isNone=true):¬p:=by
 intro hp
 rw[if_pos hp] at h;cases h
theorem xv{p:Prop}[Decidable p]{α:Type}{a:α}(h:(!(if p then some a else none).isNone)=true):p:=fz (by simpa only[Bool.not_eq_true'] using h)
theorem zh{p:Prop}[Decidable p]{α:Type}{a:α}(h:(!(if p then some a else none).isNone)=false):¬p:=fJ (by simpa only[Bool.not_eq_false'] using h)
section
variable{g:Gates}{who m c choice s:Int}{x:dt}{r:List dc}{y:jr}
theorem tT(h:¬(0≤m∧m<(g.aD.length:Int))):g.lock who m=(false,1,g):=by unfold Gates.lock;rw[eC h]
theorem qt(h:cH g.aD m=some x)(hb:(g.waits who || x.is who)=true):g.lock who m=(false,4,g):=by unfold Gates.lock;rw[h];simp only;rw[if_pos (by simpa using hb)]
theorem tU(h:cH g.aD m=some x)(hb:(g.waits who || x.is who)=false):g.lock who m=((x.lock who).1,0,{g with aD:=g.aD.set m.toNat (x.lock who).2 }):=by unfold Gates.lock;rw[h];simp only;rw[if_neg (by simpa using hb)]
theorem qu(h:¬(0≤m∧m<(g.aD.length:Int))):g.unlock who m choice=(0,false,1,g):=by unfold Gates.unlock;rw[eC h]
theorem od(h:cH g.aD m=some x)(hb:x.is who=false):g.unlock who m choice=(0,false,5,g):=by unfold Gates.unlock;rw[h];simp only;rw[if_neg (by simpa using hb)]
theorem qv(h:cH g.aD m=some x)(hb:x.is who=true):g.unlock who m choice=((x.unlock choice).1,(x.unlock choice).2.1,0,{g with aD:=g.aD.set m.toNat (x.unlock choice).2.2 }):=by unfold Gates.unlock;rw[h];simp only;rw[if_pos hb]
theorem m9(h:¬(0≤m∧m<(g.aD.length:Int))):g.wait who c m choice=(0,false,1,g):=by unfold Gates.wait;rw[eC h]
theorem nf(h:¬(0≤c∧c<(g.bm.length:Int))):g.wait who c m choice=(0,false,1,g):=by unfold Gates.wait;rw[eC h];cases cH g.aD m <;> rfl
theorem xw(h:cH g.aD m=some x)(h2:cH g.bm c=some r)(hb:g.waits who=true):g.wait who c m choice=(0,false,4,g):=by unfold Gates.wait;rw[h,h2];simp only;rw[if_pos hb]
theorem ng(h:cH g.aD m=some x)(h2:cH g.bm c=some r)(hb:g.waits who=false)(ho:x.is who=false):g.wait who c m choice=(0,false,5,g):=by unfold Gates.wait;rw[h,h2];simp only;rw[if_neg (by rw[hb];simp),if_neg (by rw[ho];simp)]
theorem pG(h:cH g.aD m=some x)(h2:cH g.bm c=some r)(hb:g.waits who=false)(ho:x.is who=true):g.wait who c m choice=((x.unlock choice).1,(x.unlock choice).2.1,0,{g with aD:=g.aD.set m.toNat (x.unlock choice).2.2,bm:=g.bm.set c.toNat (r++[⟨who,m⟩]) }):=by unfold Gates.wait;rw[h,h2];simp only;rw[if_neg (by rw[hb];simp),if_pos ho]
theorem qw{all:Bool}(h:¬(0≤c∧c<(g.bm.length:Int))):g.signal c choice all=([],1,g):=by unfold Gates.signal;rw[eC h]
theorem qx{all:Bool}{z:List dc×List dt×List Int}(h2:cH g.bm c=some r)(hz:sigLoop (if all=true then r.length else min r.length 1) (if all=true then 0 else choice) r g.aD []=z):g.signal c choice all=(z.2.2,0,{g with aD:=z.2.1,bm:=g.bm.set c.toNat z.1 }):=by unfold Gates.signal;rw[h2];simp only;rw[hz]
theorem tV(h:¬(0≤s∧s<(g.bX.length:Int))):g.down who s=(false,1,g):=by unfold Gates.down;rw[eC h]
theorem xx(h:cH g.bX s=some y)(hb:g.waits who=true):g.down who s=(false,4,g):=by unfold Gates.down;rw[h];simp only;rw[if_pos hb]
theorem tW(h:cH g.bX s=some y)(hb:g.waits who=false)(hc:0<y.count):g.down who s=(true,0,{g with bX:=g.bX.set s.toNat {y with count:=y.count-1 } }):=by unfold Gates.down;rw[h];simp only;rw[if_neg (by rw[hb];simp),if_pos hc]
theorem qy(h:cH g.bX s=some y)(hb:g.waits who=false)(hc:¬ 0<y.count):g.down who s=(false,0,{g with bX:=g.bX.set s.toNat {y with wait:=y.wait++[⟨who,0⟩] } }):=by unfold Gates.down;rw[h];simp only;rw[if_neg (by rw[hb];simp),if_neg hc]
theorem Ay(h:¬(0≤s∧s<(g.bX.length:Int))):g.up s choice=(0,false,1,g):=by unfold Gates.up;rw[eC h]
theorem tX(h:cH g.bX s=some y)(hb:(aH y.wait choice).2.1=true):g.up s choice=((aH y.wait choice).1.who,true,0,{g with bX:=g.bX.set s.toNat {y with wait:=(aH y.wait choice).2.2 } }):=by unfold Gates.up;rw[h];simp only;rw[if_pos hb]
theorem tY(h:cH g.bX s=some y)(hb:(aH y.wait choice).2.1=false)(hc:1048576≤y.count):g.up s choice=(0,false,2,g):=by unfold Gates.up;rw[h];simp only;rw[if_neg (by rw[hb];simp),if_pos hc]
theorem Az(h:cH g.bX s=some y)(hb:(aH y.wait choice).2.1=false)(hc:¬ 1048576≤y.count):g.up s choice=(0,false,0,{g with bX:=g.bX.set s.toNat {y with count:=y.count+1 } }):=by unfold Gates.up;rw[h];simp only;rw[if_neg (by rw[hb];simp),if_neg hc]
end
theorem BU{l:List dc}{c:Int}(h:(aH l c).2.1=false):(aH l c).2.2=l:=by
 unfold aH at *
 split
 ·rfl
 ·rename_i hl;rw[if_neg hl] at h;cases h
def zi(r:List dc)(c:Int)(ms:List dt):Bool×dt:=(ms.getD (aH r c).1.mutex.toNat iH).lock (aH r c).1.who
theorem DQ{n:Nat}{c:Int}{r:List dc}{ms:List dt}{out:List Int} :
  sigLoop (n+1) c r ms out=sigLoop n c (aH r c).2.2 (ms.set (aH r c).1.mutex.toNat (zi r c ms).2) (if (zi r c ms).1=true then out++[(aH r c).1.who] else out):=rfl
theorem j8{l:List dc}{c:Int}(h:l.length≠0):(aH l c).1∈l∧(aH l c).2.2.length+1=l.length∧(∀ w∈(aH l c).2.2,w∈l):=by
 rw[qU h]
 have hp:pick c l.length<l.length:=eX (by omega)
 refine⟨List.mem_of_getElem? (getD_some hp),?_,fun w hw=>(List.eraseIdx_sublist _ _).mem hw⟩
 have:=List.length_eraseIdx_of_lt hp
 show(l.eraseIdx (pick c l.length)).length+1=_
 omega
theorem DR{m:dt}{who:Int}:(m.lock who).2.wait.length≤m.wait.length+1:=by
 unfold dt.lock
 split <;> simp
structure oe(r0:List dc)(ms0:List dt)(n0:Nat)(c:Int)(k:Nat)(r:List dc)(ms:List dt)(out:List Int):Prop where
 hk:k≤n0
 len:r.length+k=r0.length
 mem:∀ w∈r,w∈r0
 ml:ms.length=ms0.length
 mw:∀ m∈ms,m.wait.length≤1000000+k
 ol:out.length≤k
 eq:sigLoop n0 c r0 ms0 []=sigLoop (n0-k) c r ms out
theorem oe.zero{r0:List dc}{ms0:List dt}{n0:Nat}{c:Int}(h:∀ m∈ms0,m.wait.length≤1000000):oe r0 ms0 n0 c 0 r0 ms0 []:=⟨Nat.zero_le _,rfl,fun _ h=>h,rfl,h,Nat.le_refl _,rfl⟩
theorem oe.next{r0 r:List dc}{ms0 ms:List dt}{n0 k:Nat}{c:Int}{out:List Int}(h:oe r0 ms0 n0 c k r ms out)(hk:k<n0)(h0:n0≤r0.length) :
  oe r0 ms0 n0 c (k+1) (aH r c).2.2 (ms.set (aH r c).1.mutex.toNat (zi r c ms).2) (if (zi r c ms).1=true then out++[(aH r c).1.who] else out):=by
 have hl:=h.len
 obtain⟨h1,h2,h3⟩:=j8 (l:=r) (c:=c) (by omega)
 refine⟨by omega,by omega,fun w hw=>h.mem w (h3 w hw),by rw[List.length_set];exact h.ml,fun m hm=>?_,?_,?_⟩
 ·rcases List.mem_or_eq_of_mem_set hm with e | e
  ·have:=h.mw m e;omega
  ·subst e
   unfold zi
   have:=DR (m:=ms.getD (aH r c).1.mutex.toNat iH) (who:=(aH r c).1.who)
   have h5:(ms.getD (aH r c).1.mutex.toNat iH).wait.length≤1000000+k:=by
    rw[List.getD_eq_getElem?_getD]
    cases e:ms[(aH r c).1.mutex.toNat]? with
    | none=>exact Nat.zero_le _
    | some m=>exact h.mw m (List.mem_of_getElem? e)
   omega
 ·have:=h.ol
  split <;> simp <;> omega
 ·rw[h.eq,show n0-k=(n0-(k+1))+1 by omega,DQ]
theorem oe.done{r0 r:List dc}{ms0 ms:List dt}{n0 k:Nat}{c:Int}{out:List Int}(h:oe r0 ms0 n0 c k r ms out)(hk:¬k<n0):sigLoop n0 c r0 ms0 []=(r,ms,out):=by
 rw[h.eq,show n0-k=0 by omega];rfl
end Go.SLYtefdijgllbkmfaaGreat
namespace Go.SLYtefdijgllbkmfaaGreat
open Go Go.RowKit
structure rW(t:Tub):Prop where
 w:t.words.length≤1000000
 p:t.bN.length≤1000000
 g:t.bz.length≤1000000
section
variable{t:Tub}{who x w:Int}{r:List Int}{p:Ptr}{q:List Ptr}
theorem tZ(h:t.waits who=true):t.put who x=(false,0,false,t):=by unfold Tub.put;rw[if_pos h]
theorem og(h:t.waits who=false)(hg:t.bz=w::r):t.put who x=(true,w,true,{t with bz:=r }):=by unfold Tub.put;rw[if_neg (by rw[h];simp),hg]
theorem lQ(h:t.waits who=false)(hg:t.bz=[])(hr:(t.words.length:Int)<t.room):t.put who x=(true,0,false,{t with words:=t.words++[x] }):=by unfold Tub.put;rw[if_neg (by rw[h];simp),hg];simp only;rw[if_pos hr]
theorem lR(h:t.waits who=false)(hg:t.bz=[])(hr:¬(t.words.length:Int)<t.room):t.put who x=(false,0,false,{t with bN:=t.bN++[⟨who,x⟩] }):=by unfold Tub.put;rw[if_neg (by rw[h];simp),hg];simp only;rw[if_neg hr]
theorem pH(h:t.waits who=true):t.get who=(0,false,0,false,t):=by unfold Tub.get;rw[if_pos h]
theorem get_none(h:t.waits who=false)(hg:t.words=[]):t.get who=(0,false,0,false,{t with bz:=t.bz++[who] }):=by unfold Tub.get;rw[if_neg (by rw[h];simp),hg]
theorem mq(h:t.waits who=false)(hg:t.words=x::r)(hp:t.bN=[]):t.get who=(x,true,0,false,{t with words:=r }):=by unfold Tub.get;rw[if_neg (by rw[h];simp),hg,hp]
theorem mr(h:t.waits who=false)(hg:t.words=x::r)(hp:t.bN=p::q):t.get who=(x,true,p.who,true,{t with words:=r++[p.x],bN:=q }):=by unfold Tub.get;rw[if_neg (by rw[h];simp),hg,hp]
end
theorem vI{α:Type}{l:List α}(h:¬l.length=0):∃ x r,l=x::r:=by
 cases l with
 | nil=>exact absurd rfl h
 | cons x r=>exact⟨x,r,rfl⟩
theorem zj{α:Type}{l:List α}(h:l.length=0):l=[]:=List.eq_nil_of_length_eq_zero h
section
variable{d:jB}{r:pz}{k:Int}
theorem AA(h:(decide (r.block<0) || decide ((d.blocks.length:Int)≤r.block))=true):d.ask r=(1,d):=by unfold jB.ask;rw[if_pos (by simpa using h)]
theorem DS(h:(decide (r.block<0) || decide ((d.blocks.length:Int)≤r.block))=false)(h2:d.wait.any (fun x=>decide (x.who=r.who))=true):d.ask r=(4,d):=by unfold jB.ask;rw[if_neg (by simpa using h),if_pos h2]
theorem DT(h:(decide (r.block<0) || decide ((d.blocks.length:Int)≤r.block))=false)(h2:d.wait.any (fun x=>decide (x.who=r.who))=false):d.ask r=(0,{d with wait:=d.wait++[r] }):=by unfold jB.ask;rw[if_neg (by simpa using h),if_neg (by rw[h2];simp)]
def rX:pz:=⟨0,0,false,0⟩
theorem mu(h:d.wait.length=0):d.done k=(⟨0,0,false,0⟩,0,false,d):=by unfold jB.done;rw[if_pos h]
theorem kQ(h:¬d.wait.length=0)(hr:d.wait.getD (pick k d.wait.length) rX=r)(hw:r.write=true):d.done k=(r,0,true,{d with wait:=d.wait.eraseIdx (pick k d.wait.length),blocks:=d.blocks.set r.block.toNat r.x }):=by
 subst hr;unfold rX at *;unfold jB.done;rw[if_neg h];simp only;rw[if_pos hw]
theorem mv(h:¬d.wait.length=0)(hr:d.wait.getD (pick k d.wait.length) rX=r)(hw:r.write=false):d.done k=(r,d.blocks.getD r.block.toNat 0,true,{d with wait:=d.wait.eraseIdx (pick k d.wait.length) }):=by
 subst hr;unfold rX at *;unfold jB.done;rw[if_neg h];simp only;rw[if_neg (by rw[hw];simp)]
end
end Go.SLYtefdijgllbkmfaaGreat
namespace Go.SLYtefdijgllbkmfaaGreat
open Go Go.RowKit
def ez(b p:Nat)(d:Dng)(vw ve:Value):List Value:=[ptr b,.int .i64 (d.n:Int),ptr p,.int .i64 d.i.op,.int .i64 d.i.a,.int .i64 d.i.b,.int .i64 d.i.c,.int .u64 d.i.n,.int .i64 d.choice,vw,.bool d.out.bA,.bool d.out.ended,.bool d.out.yielded,ve]
def bu(bd b p:Nat)(ps:List (Option Nat))(d:Dng):aa:=rG (fun _ _=>True) fun vw ve=>[arr bd 0 (ez b p d vw ve),sl aP 1 vw d.out.aL,sl dp 6 ve d.ends,dE b ps d.s]
def xy(v:Value)(e:iY):List Value:=[v,.bool e.bA,.bool e.ended,.bool e.yielded]
theorem cq{ps:List (Option Nat)}{ts:List (Option bF)}{n p:Nat}{t:bF}(hp:ps[n]?=some (some p))(ht:ts[n]?=some (some t)):∀ h,aG ps ts h→seps [arr p 0 (bH t),aG (ps.set n none) (ts.set n none)] h:=fun h a=>by
 obtain⟨q,hq,a'⟩:=nO ht h a
 rw[hp] at hq;cases hq
 exact gR.2 a'
theorem cI{ps:List (Option Nat)}{ts:List (Option bF)}{n p:Nat}{t:bF}(hp:ps[n]?=some (some p))(ht:ts[n]?=some (some t)):∀ h,seps [arr p 0 (bH t),aG (ps.set n none) (ts.set n none)] h→aG ps ts h:=fun h a=>by
 have:=cW (List.getElem?_eq_some_iff.1 ht).1 hp h a
 rwa [eH ht] at this
theorem my{t:bF}:∀ {n:Nat} (_:n<8),(bH t)[2+n * 1]?=some (.int .u64 (t.av.getD n 0))
 | 0,_=>rfl
 | 1,_=>rfl
 | 2,_=>rfl
 | 3,_=>rfl
 | 4,_=>rfl
 | 5,_=>rfl
 | 6,_=>rfl
 | 7,_=>rfl
 | n+8,h=>absurd h (by omega)
theorem DU{fn pc handle why value ar op into:Int}{pq:Bool}{a0 a1 a2 a3 a4 a5 a6 a7:Int}(x:Int):∀ {n:Nat} (_:n<8),(bH ⟨fn,pc,[a0,a1,a2,a3,a4,a5,a6,a7],handle,why,value,pq,ar,op,into⟩).set (2+n * 1) (.int .u64 x)=bH ⟨fn,pc,[a0,a1,a2,a3,a4,a5,a6,a7].set n x,handle,why,value,pq,ar,op,into⟩
 | 0,_=>rfl
 | 1,_=>rfl
 | 2,_=>rfl
 | 3,_=>rfl
 | 4,_=>rfl
 | 5,_=>rfl
 | 6,_=>rfl
 | 7,_=>rfl
 | n+8,h=>absurd h (by omega)
theorem qW{t:bF}(x:Int){n:Nat}(hn:n<8)(hl:t.av.length=8):(bH t).set (2+n * 1) (.int .u64 x)=bH (t.put (n:Int) x):=by
 obtain⟨fn,pc,av,handle,why,value,pq,ar,op,into⟩:=t
 match av,hl with
 | [a0,a1,a2,a3,a4,a5,a6,a7],_=>exact DU x hn
theorem jb{t:bF}(x:Int){i:Int}(h0:0≤i)(hn:i<8)(hl:t.av.length=8):(bH t).set (2+i.toNat * 1) (.int .u64 x)=bH (t.put i x):=by
 rw[qW x (by omega) hl,show((i.toNat:Nat):Int)=i from by omega]
theorem oh(t:bF)(x:Int):(bH t).set 11 (.int .i64 x)=bH {t with why:=x }:=rfl
theorem BV(t:bF)(x:Int):(bH t).set 12 (.int .u64 x)=bH {t with value:=x }:=rfl
theorem Gi(t:bF)(x:Bool):(bH t).set 13 (.bool x)=bH {t with bn:=x }:=rfl
theorem zk(t:bF)(x:Int):(bH t).set 14 (.int .i64 x)=bH {t with ar:=x }:=rfl
theorem ID(t:bF)(x:Int):(bH t).set 15 (.int .i64 x)=bH {t with op:=x }:=rfl
theorem rY(t:bF)(x:Int):(bH t).set 16 (.int .i64 x)=bH {t with into:=x }:=rfl
theorem jE{t:bF}{i x:Int}:(t.put i x).av.length=t.av.length:=by unfold bF.put;simp
section
variable{fv sv pv:Value}{p:eB}{bt:Nat}{ps:List (Option Nat)}{vm:Value}{bg:Nat}{vt:Value}{bk bw:Nat}{vr u:Value}
theorem oq:(fU fv sv pv p bt ps vm bg vt bk bw vr).set 30 u=fU fv sv pv p bt ps vm bg vt bk bw u:=rfl
theorem vJ:(fU fv sv pv p bt ps vm bg vt bk bw vr).set 25 u=fU fv sv pv p bt ps u bg vt bk bw vr:=rfl
end
structure gL(t:bF):Prop where
 l:t.av.length=8
 r:∀ n,0≤t.av.getD n 0∧t.av.getD n 0≤18446744073709551615
 i : -1≤t.into∧t.into<8
 v:0≤t.value∧t.value≤18446744073709551615
 h:0≤t.handle∧t.handle≤18446744073709551615
theorem cV{s:Spc}{n:Nat}{t:bF}(h:s.thr[n]?=some (some t)):s.t n=t:=by unfold Spc.t;rw[List.getD_eq_getElem?_getD,h];rfl
theorem bZ{d:Dng}{t:bF}(h:d.s.thr[d.n]?=some (some t)):d.t=t:=cV h
def DV(ps:List (Option Nat))(n:Int):Option Nat:=if 0≤n∧n<16 then ps.getD n.toNat none else none
theorem AB{t:bF}{y:Int}(t1:bF)(h:t1=if t.into = -1 then t else t.put t.into y):t.cS y = {t1.put 7 0 with why:=0,into := -1 }:=by unfold bF.cS;rw[h]
section
variable{P:Program}{W:World}{N:Nat}{T:TypeId}{L:List (Nat×Option Value)}{H:List aa}{α:Type}
theorem af.DW{E:TypeId}{x y:Operand}{pos:String}{after:Array Edge}{guard:Option (Nat×Bool)}{b o:Nat}{v:Value}{vs cs:List Value}{H':List aa}{enc:α→List Value}{k:Nat}{xs:List α}(hz:∀ w,(sizeOf E).run P w = .ok (vs.length+1) w)(hx:ev L x=some (.pointer (some ⟨b,o,none⟩)))(hy:ev L y=some (.agg (v::vs).toArray))[hv:aJ W H v enc k xs](hvs:vs.all (·.oneCell')=true)
  [_h0:aW H b o cs] [hr:bM H b o cs (v::vs) H'] (hi:cs.length=vs.length+1) :
  af P W N ⟨none,.store E x y,T,pos,after,guard⟩ L H (fun L1 H1=>L1=L∧H1=H'):=fun a w ha hs Kp hK=>af.storeAll hx hy hz (fun c hc=>by
   rcases List.mem_cons.1 hc with rfl | hc
   ·exact hv.rd.one w hs
   ·exact List.all_eq_true.1 hvs c hc) hr.mY hi a w ha hs Kp hK
end
end Go.SLYtefdijgllbkmfaaGreat
namespace Go.SLYtefdijgllbkmfaaGreat
open Go Go.RowKit
def bW(ps:List (Option Nat))(s:Spc)(n:Nat):Prop:=n<16∧ ∃ q t,ps[n]?=some (some q)∧s.thr[n]?=some (some t)∧gL t
theorem BW{b p:Nat}{d:Dng}{vw ve:Value}:(ez b p d vw ve).set 11 (.bool true)=ez b p d.ended vw ve:=rfl
theorem Gj{b p:Nat}{d:Dng}{vw ve:Value}:(ez b p d vw ve).set 12 (.bool true)=ez b p {d with out:={d.out with yielded:=true } } vw ve:=rfl
theorem cn{s:Spc}{n m:Nat}{t t':bF}(h:s.thr[m]?=some (some t))(hne:n≠m):(s.aj n t').thr[m]?=some (some t):=by
 unfold Spc.aj;simp only;rw[List.getElem?_set_ne hne];exact h
theorem bS{s:Spc}{n:Nat}{t t':bF}(h:s.thr[n]?=some (some t)):(s.aj n t').thr[n]?=some (some t'):=by
 unfold Spc.aj;simp only;exact List.getElem?_set_self (List.getElem?_eq_some_iff.1 h).1
theorem DX{d:Dng}{n:Nat}{y:Int}{m:Nat}{t:bF}(h:d.s.thr[m]?=some (some t))(hne:n≠m):(d.dW n y).s.thr[m]?=some (some t):=cn h hne
theorem vK{d:Dng}{t:bF}{v:Int}(ht:d.s.thr[d.n]?=some (some t))(h:t.bn=true):d.fin v=d.ended.free d.n:=by
 unfold Dng.fin;rw[bZ ht,if_pos h]
theorem rZ{d:Dng}{t:bF}{v:Int}(ht:d.s.thr[d.n]?=some (some t))(h:t.bn=false)(hj:t.ar = -1):d.fin v=d.ended.aj {t with why:=9,value:=v }:=by
 unfold Dng.fin;rw[bZ ht,if_neg (by rw[h];simp),if_pos hj]
theorem r8{d:Dng}{t:bF}{v:Int}(ht:d.s.thr[d.n]?=some (some t))(h:t.bn=false)(hj:¬t.ar = -1):d.fin v=(d.ended.dW t.ar.toNat v).free d.n:=by
 unfold Dng.fin;rw[bZ ht,if_neg (by rw[h];simp),if_neg hj]
theorem sa{t:bF}{f:iD}:setFrom (bH t) 0 (iI f)=bH (t.lM f):=rfl
theorem kR{f:iD}{m:List Int}{i:Ins}{z:iD×List Int}(h:gX f m i=some z):fV f m i=(z.1,z.2,0):=by unfold fV;rw[h]
theorem sb{f:iD}{m:List Int}{i:Ins}(h:gX f m i=none):fV f m i=(iD.z,[],6):=by unfold fV;rw[h]
theorem nh{f:iD}{m:List Int}{i:Ins}(h:(fV f m i).2.2=0):∃ z,gX f m i=some z:=by
 unfold fV at h
 cases e:gX f m i with
 | none=>rw[e] at h;cases h
 | some z=>exact⟨z,rfl⟩
theorem pI{f:iD}{m:List Int}{i:Ins}(h:¬(fV f m i).2.2=0):gX f m i=none:=by
 cases e:gX f m i with
 | none=>rfl
 | some z=>rw[kR e] at h;exact absurd rfl h
theorem DY{f:iD}{m:List Int}{i:Ins}(h:gX f m i=none):i.op=18∨i.op=19:=by
 unfold gX at h
 repeat' split at h
 all_goals first | (cases h;done) | omega
theorem DZ{f:iD}{m:List Int}{i:Ins}{z:iD×List Int}(h:gX f m i=some z)(ho:i.op=18):f.eW i.b<m.length:=by
 unfold gX at h
 rw[if_neg (by omega),if_neg (by omega),if_neg (by omega),if_pos ho] at h
 split at h
 ·assumption
 ·cases h
def Dng.told(d:Dng):Dng:=if d.i.op=18 then d.tell d.b (d.s.mem.getD d.b.toNat 0) 0 true else if d.i.op=19 then d.tell d.a d.b 0 true else d
theorem jF{d:Dng}{t:bF}{z:iD×List Int}(ht:d.s.thr[d.n]?=some (some t))(h:gX t.gY d.s.mem d.i=some z):d.plain = {d.told with s:={d.told.s.aj d.n (t.lM z.1) with mem:=z.2 } }:=by
 unfold Dng.plain;rw[bZ ht,h];rfl
theorem lS{d:Dng}{t:bF}(ht:d.s.thr[d.n]?=some (some t))(h:gX t.gY d.s.mem d.i=none):d.plain=(if d.i.op=18 then d.tell d.b 0 6 true else d.tell d.a d.b 6 true).fin 18446744073709551615:=by
 unfold Dng.plain;rw[bZ ht,h]
theorem ot{d:Dng}{h:Int}(e:bj d.s.table h=none):d.other h=(0,3):=by unfold Dng.other;rw[e]
theorem jc{d:Dng}{h:Int}{n:Nat}{t:bF}(e:bj d.s.table h=some n)(ht:d.s.thr[n]?=some (some t))(hn:n=d.n∨t.bn=true):d.other h=(0,3):=by unfold Dng.other;rw[e];simp only;rw[cV ht,if_pos hn]
theorem ou{d:Dng}{h:Int}{n:Nat}{t:bF}(e:bj d.s.table h=some n)(ht:d.s.thr[n]?=some (some t))(hn:¬(n=d.n∨t.bn=true))(hj:t.ar = -1):d.other h=(n,0):=by unfold Dng.other;rw[e];simp only;rw[cV ht,if_neg hn,if_pos hj]
theorem kS{d:Dng}{h:Int}{n:Nat}{t:bF}(e:bj d.s.table h=some n)(ht:d.s.thr[n]?=some (some t))(hn:¬(n=d.n∨t.bn=true))(hj:¬t.ar = -1):d.other h=(0,4):=by unfold Dng.other;rw[e];simp only;rw[cV ht,if_neg hn,if_neg hj]
section
variable{P:Program}{W:World}{N:Nat}{Q:Exit→Act→World→Prop}{O:Array Oper}{L:List (Nat×Option Value)}{H K:List aa}
theorem bP.Kd{ks rest:List Nat}{i:Nat}{E T:TypeId}{x y:Operand}{pos:String}{after:Array Edge}{b o:Nat}{vs cs:List Value}{H':List aa}(ho:O[i]?=some ⟨none,.store E x y,T,pos,after,none⟩)(hk:ks.getD i 1=2)
  (hz:∀ w,(sizeOf E).run P w = .ok vs.length w) (hx:ev L x=some (.pointer (some ⟨b,o,none⟩))) (hy:ev L y=some (.agg vs.toArray)) (hv:vs.all (·.oneCell')=true) [_h0:aW H b o cs] [hr:bM H b o cs vs H'] (hi:cs.length=vs.length)
  (hK:∀ w,Sat W w (seps H)→Sat W w (seps K)) (hK':∀ w,Sat W w (seps H')→Sat W w (seps K)) (h:bP P W N K O Q ks rest L H'):bP P W N K O Q ks (i::rest) L H :=
 bP.d (X:=Unit) (Lx:=fun _=>L) (Hx:=fun _=>H') ho rfl (.inl hk) (fun _=>hK) (fun E=>(by
  intro a w ha hs Kp hK
  exact af.storeAll hx hy hz (List.all_eq_true.1 hv) (gA.app E hr.mY) hi a w ha hs Kp (fun L1 H1 ⟨e1,e2⟩=>hK L1 H1 ⟨(),e1,e2⟩))) (fun _ _=>hK') (fun _=>h)
end
end Go.SLYtefdijgllbkmfaaGreat
namespace Go.SLYtefdijgllbkmfaaGreat
open Go Go.RowKit
theorem lT{α:Type}{f:α→aa}{xs:List α}{i:Nat}{x:α}(h:xs[i]?=some x):∀ g,bb f xs g→seps [f x,bb f (xs.eraseIdx i)] g:=fun g a=>by rw[iU f h] at a;exact gR.2 a
theorem vL{v:Value}{l:List Tub}{xs:List (Nat×Tub)}{i:Nat}{x:Nat×Tub}(hx:xs[i]?=some x)(hxs:xs.map (·.2)=l)(u:Tub):∀ h,seps [sl dD 1 v xs,ib x.1 u,bb (fun x:Nat×Tub=>ib x.1 x.2) (xs.eraseIdx i)] h→qp v (l.set i u) h:=fun h a=>by
 refine⟨xs.set i (x.1,u),by show(xs.set i (x.1,u)).map (·.2)=_;rw[List.map_set,hxs],?_⟩
 have hi:=(List.getElem?_eq_some_iff.1 hx).1
 rw[gR,iV _ _ hi]
 exact aR (fun g b=>lN (x':=(x.1,u)) hi rfl g (rR hx g b)) (fun g b=>gR.1 b) h a
theorem bW.aj{ps:List (Option Nat)}{s:Spc}{n m:Nat}{t:bF}(h:bW ps s m)(ht:gL t):bW ps (s.aj n t) m:=by
 obtain⟨hm,q,u,hq,hu,hR⟩:=h
 rcases Decidable.em (n=m) with rfl | hne
 ·exact⟨hm,q,t,hq,bS hu,ht⟩
 ·exact⟨hm,q,u,hq,cn hu hne,hR⟩
theorem bW.of{ps:List (Option Nat)}{s s':Spc}{m:Nat}(h:bW ps s m)(e:s'.thr=s.thr):bW ps s' m:=by
 obtain⟨hm,q,u,hq,hu,hR⟩:=h
 exact⟨hm,q,u,hq,by rw[e];exact hu,hR⟩
theorem ov{l:List Int}{i n:Nat}{x:Int}(hx:0≤x∧x≤18446744073709551615)(h:∀ n,0≤l.getD n 0∧l.getD n 0≤18446744073709551615):0≤(l.set i x).getD n 0∧(l.set i x).getD n 0≤18446744073709551615:=by
 have hn:=h n
 rw[List.getD_eq_getElem?_getD] at hn ⊢
 rw[List.getElem?_set]
 split
 ·split
  ·exact hx
  ·exact⟨Int.le_refl _,by decide⟩
 ·exact hn
theorem gL.put{t:bF}(h:gL t){i x:Int}(hx:0≤x∧x≤18446744073709551615):gL (t.put i x):=⟨by rw[jE];exact h.l,fun n=>ov hx h.r,h.i,h.v,h.h⟩
theorem gL.with{t:bF}(h:gL t){a b c:Int}(hc : -1≤c∧c<8):gL {t with why:=a,op:=b,into:=c }:=⟨h.l,h.r,hc,h.v,h.h⟩
def Gates.has(g:Gates)(w:Int):Prop:=(∃ x∈g.aD, ∃ y∈x.wait,y.who=w)∨(∃ r∈g.bm, ∃ y∈r,y.who=w)∨(∃ x∈g.bX, ∃ y∈x.wait,y.who=w)
structure iA(ps:List (Option Nat))(d:Dng)(t:bF):Prop where
 nb:d.n<16
 R:gL t
 lt:d.s.thr.length=16
 lp:ps.length=16
 T:iW d.s.table
 slot:∀ h m,bj d.s.table h=some m→bW ps d.s m
 free:∀ n,slotFree? d.s.table 0=some n→d.s.thr[n]?=some none
 join:¬t.ar = -1→0≤t.ar∧t.ar.toNat≠d.n∧bW ps d.s t.ar.toNat
 I:ja d.i
 nn:d.i.n≤1099511627776
 au:d.s.au.length≤900000000
 ends:d.ends.length≤500000
 Gk:d.out.aL.length≤500000
 mem:d.s.mem.length≤1000000
 gl:gF d.s.ag
 Gl:∀ x∈d.s.ag.bX,0≤x.count∧x.count≤1048576
 Gm:∀ r∈d.s.ag.bm, ∀ w∈r,0≤w.mutex∧w.mutex<(d.s.ag.aD.length:Int)
 iE:∀ w,d.s.ag.has w→0≤w∧bW ps d.s w.toNat
 Gn:d.s.dG.ay≤(d.s.ag.aD.length:Int)
 zm:(∀ x∈d.s.ag.aD,x.wait.length≤400000)∧ ∀ r∈d.s.ag.bm,r.length≤400000
 oy:(d.i.op=35∨d.i.op=36)→d.i.n<(d.s.bx.length:Int)
 tl:∀ u∈d.s.bx,rW u
 xA:∀ u∈d.s.bx,(∀ w∈u.bz,0≤w∧bW ps d.s w.toNat)∧(∀ x∈u.bN,0≤x.who∧bW ps d.s x.who.toNat)
 tw:∀ u∈d.s.bx, ∀ w∈u.words,0≤w∧w≤18446744073709551615
 dw:d.s.aN.wait.length≤1000000
 wn:0≤d.s.aA.now∧d.s.aA.now≤1099511627776
theorem sd{ps:List (Option Nat)}{d:Dng}{h:Int}(hs:∀ n,bj d.s.table h=some n→bW ps d.s n)(e:(d.other h).2=0) :
  ∃ m q u,bj d.s.table h=some m∧(d.other h).1=m∧m≠d.n∧m<16∧ps[m]?=some (some q)∧d.s.thr[m]?=some (some u)∧gL u∧u.bn=false∧u.ar = -1:=by
 cases hf:bj d.s.table h with
 | none=>rw[ot hf] at e;cases e
 | some m =>
  obtain⟨hm,q,u,hq,hu,hR⟩:=hs m hf
  by_cases h1:m=d.n∨u.bn=true
  ·rw[jc hf hu h1] at e;cases e
  ·by_cases h2:u.ar = -1
   ·exact⟨m,q,u,rfl,by rw[ou hf hu h1 h2],fun h=>h1 (.inl h),hm,hq,hu,hR,by cases hd:u.bn with | false=>rfl | true=>exact absurd (.inr hd) h1,h2⟩
   ·rw[kS hf hu h1 h2] at e;cases e
theorem j9{d:Dng}{h:Int}:0≤(d.other h).2∧(d.other h).2≤11:=by
 unfold Dng.other
 repeat' split
 all_goals (dsimp only;omega)
theorem D0{d:jB}{r:pz}:0≤(d.ask r).1∧(d.ask r).1≤11:=by
 unfold jB.ask
 repeat' split
 all_goals (dsimp only;omega)
theorem AD{g:Gates}{w m:Int}:0≤(g.lock w m).2.1∧(g.lock w m).2.1≤11:=by
 unfold Gates.lock
 repeat' split
 all_goals (dsimp only;omega)
theorem pJ{g:Gates}{w m c:Int}:0≤(g.unlock w m c).2.2.1∧(g.unlock w m c).2.2.1≤11:=by
 unfold Gates.unlock
 repeat' split
 all_goals (dsimp only;omega)
theorem AE{g:Gates}{w c m ch:Int}:0≤(g.wait w c m ch).2.2.1∧(g.wait w c m ch).2.2.1≤11:=by
 unfold Gates.wait
 repeat' split
 all_goals (dsimp only;omega)
theorem D1{g:Gates}{s c:Int}:0≤(g.up s c).2.2.1∧(g.up s c).2.2.1≤11:=by
 unfold Gates.up
 repeat' split
 all_goals (dsimp only;omega)
theorem AF{g:Gates}{w s:Int}:0≤(g.down w s).2.1∧(g.down w s).2.1≤11:=by
 unfold Gates.down
 repeat' split
 all_goals (dsimp only;omega)
theorem gS{g:Gates}{c ch:Int}{a:Bool}:0≤(g.signal c ch a).2.1∧(g.signal c ch a).2.1≤11:=by
 unfold Gates.signal
 repeat' split
 all_goals (dsimp only;omega)
theorem pK{l:List dc}{c:Int}(h:(aH l c).2.1=true):(aH l c).1∈l:=by
 by_cases h0:l.length=0
 ·rw[vE h0] at h;cases h
 ·exact(j8 h0).1
theorem se{g:Gates}{w m c:Int}(h:(g.unlock w m c).2.1=true):g.has (g.unlock w m c).1:=by
 unfold Gates.unlock at h ⊢
 split
 ·rename_i e;rw[e] at h;cases h
 ·rename_i x e
  rw[e] at h;simp only at h ⊢
  split
  ·rename_i hi;rw[if_pos hi] at h
   exact .inl ⟨x,List.mem_of_getElem? (gG e).2.2,_,pK h,rfl⟩
  ·rename_i hi;rw[if_neg hi] at h;cases h
theorem xz{g:Gates}{w c m ch:Int}(h:(g.wait w c m ch).2.1=true):g.has (g.wait w c m ch).1:=by
 unfold Gates.wait at h ⊢
 split
 ·rename_i x r e1 e2
  rw[e1,e2] at h;simp only at h ⊢
  repeat' split at h
  all_goals first | (cases h;done) | skip
  rename_i h1 h2
  rw[if_neg h1,if_pos h2]
  exact .inl ⟨x,List.mem_of_getElem? (gG e1).2.2,_,pK h,rfl⟩
 ·rename_i hn
  split at h
  ·rename_i x r e1 e2;exact absurd e2 (hn x r e1)
  ·cases h
theorem D2{g:Gates}{s c:Int}(h:(g.up s c).2.1=true):g.has (g.up s c).1:=by
 unfold Gates.up at h ⊢
 split
 ·rename_i e;rw[e] at h;cases h
 ·rename_i x e
  rw[e] at h;simp only at h ⊢
  split
  ·rename_i hi
   exact .inr (.inr ⟨x,List.mem_of_getElem? (gG e).2.2,_,pK hi,rfl⟩)
  ·rename_i hi;rw[if_neg hi] at h
   split at h <;> cases h
end Go.SLYtefdijgllbkmfaaGreat
namespace Go.SLYtefdijgllbkmfaaGreat
open Go Go.RowKit
theorem bW.pass{ps:List (Option Nat)}{d:Dng}{t:bF}{m:Nat}{x y e:Int}(h:bW ps d.s m)(ht:d.s.thr[d.n]?=some (some t))(hR:gL t)(he:0≤e∧e≤11):bW ps (d.pass x y e).s m:=by
 have:bW ps (d.tell x y e true).s m:=h.of rfl
 have h2:=this.aj (n:=d.n) (hR.put (i:=7) (x:=e) (by omega))
 unfold Dng.pass;rw[bZ ht];exact h2
theorem bW.block{ps:List (Option Nat)}{d:Dng}{t:bF}{m:Nat}{w i x y:Int}(h:bW ps d.s m)(ht:d.s.thr[d.n]?=some (some t))(hR:gL t)(hi : -1≤i∧i<8):bW ps (d.block w i x y).s m:=by
 have:bW ps (d.tell x y 0 false).s m:=h.of rfl
 have h2:=this.aj (n:=d.n) (hR.with (a:=w) (b:=d.i.op) hi)
 unfold Dng.block;rw[bZ ht];exact h2
theorem IE{c:Int}(h:0≤c∧c<8):gO c=c:=by unfold gO;omega
theorem D3{u:Tub}{who x:Int}(h:(u.put who x).2.2.1=true):(u.put who x).2.1∈u.bz:=by
 cases hw:u.waits who with
 | true=>rw[tZ hw] at h;cases h
 | false =>
  cases hg:u.bz with
  | cons w r=>rw[og hw hg];exact List.mem_cons_self
  | nil =>
   by_cases hr:(u.words.length:Int)<u.room
   ·rw[lQ hw hg hr] at h;cases h
   ·rw[lR hw hg hr] at h;cases h
theorem D4{u:Tub}{who:Int}(h:(u.get who).2.2.2.1=true):∃ x∈u.bN,x.who=(u.get who).2.2.1:=by
 cases hw:u.waits who with
 | true=>rw[pH hw] at h;cases h
 | false =>
  cases hg:u.words with
  | nil=>rw[get_none hw hg] at h;cases h
  | cons w r =>
   cases hp:u.bN with
   | nil=>rw[mq hw hg hp] at h;cases h
   | cons q r2=>rw[mr hw hg hp];exact⟨q,List.mem_cons_self,rfl⟩
theorem D5{u:Tub}{who:Int}(h:∀ w∈u.words,0≤w∧w≤18446744073709551615):0≤(u.get who).1∧(u.get who).1≤18446744073709551615:=by
 have h0:(0:Int)≤0∧(0:Int)≤18446744073709551615:=by decide
 cases hw:u.waits who with
 | true=>rw[pH hw];exact h0
 | false =>
  cases hg:u.words with
  | nil=>rw[get_none hw hg];exact h0
  | cons w r =>
   have:=h w (by rw[hg];exact List.mem_cons_self)
   cases hp:u.bN with
   | nil=>rw[mq hw hg hp];exact this
   | cons q r2=>rw[mr hw hg hp];exact this
theorem AG{d:Dng}{xs:List (Nat×Tub)}(hxs:xs.map (·.2)=d.s.bx)(h0:0≤d.i.n)(h:d.i.n<(d.s.bx.length:Int)):∃ q,xs[d.i.n.toNat]?=some (q,d.bc)∧d.bc∈d.s.bx:=by
 have hl:xs.length=d.s.bx.length:=by rw[← hxs,List.length_map]
 obtain⟨⟨q,u⟩,hx⟩:=aB (show d.i.n.toNat<xs.length by omega)
 have hu:=nU hxs hx
 have:d.bc=u:=by unfold Dng.bc;rw[List.getD_eq_getElem?_getD,hu];rfl
 exact⟨q,by rw[this];exact hx,by rw[this];exact List.mem_of_getElem? hu⟩
theorem pL{s:Spc}{f arg:Int}{n:Nat}(h:slotFree? s.table 0=some n)(hl:n<s.thr.length):∃ t,(s.begin f arg).2.2.thr[n]?=some (some t)∧t=mM f arg (dn ((s.table.getD n (false,0)).2+1) n):=by
 rw[dU h]
 exact⟨_,List.getElem?_set_self hl,rfl⟩
end Go.SLYtefdijgllbkmfaaGreat
namespace Go.SLYtefdijgllbkmfaaGreat
open Go Go.RowKit
theorem zl(s:Spc)(a b:List Int):bV s (a++b)=bV (bV s a) b:=by
 induction a generalizing s with
 | nil=>rfl
 | cons x l ih=>exact ih _
theorem vN(s:Spc)(a:List Int):(bV s a).ag=s.ag:=by
 induction a generalizing s with
 | nil=>rfl
 | cons x l ih=>exact(ih _).trans rfl
theorem sf{ps:List (Option Nat)}{s:Spc}(m:Nat)(a:List Int)(h:bW ps s m):bW ps (bV s a) m:=by
 induction a generalizing s with
 | nil=>exact h
 | cons x l ih =>
  refine ih ?_
  by_cases hx:∃ t,s.thr[x.toNat]?=some (some t)
  ·obtain⟨t,ht⟩:=hx
   rw[show s.t x.toNat=t from cV ht]
   obtain⟨hm,q,u,hq,hu,hR⟩:=h
   rcases Decidable.em (x.toNat=m) with e | hne
   ·subst e
    rw[ht] at hu;cases hu
    exact⟨hm,q,_,hq,bS ht,⟨hR.l,hR.r,hR.i,hR.v,hR.h⟩⟩
   ·exact⟨hm,q,u,hq,cn hu hne,hR⟩
  ·obtain⟨hm,q,u,hq,hu,hR⟩:=h
   exact⟨hm,q,u,hq,cn hu (fun e=>hx ⟨u,by rw[e];exact hu⟩),hR⟩
theorem gL.cS{t:bF}(h:gL t){y:Int}(hy:0≤y∧y≤18446744073709551615):gL (t.cS y):=by
 have h1:gL (if t.into = -1 then t else t.put t.into y):=by split;exact h;exact h.put hy
 have h2:=h1.put (i:=7) (x:=0) (by decide)
 exact⟨h2.l,h2.r,by show(-1:Int)≤ -1∧(-1:Int)<8;decide,h2.v,h2.h⟩
theorem vO(d:Dng)(a:List Int)(n:Int):d.dy (a++[n])=(d.dy a).dW n.toNat 0:=by
 induction a generalizing d with
 | nil=>rfl
 | cons x l ih=>exact ih _
theorem qz(d:Dng)(a:List Int):(d.dy a).ends.length=d.ends.length+a.length∧(d.dy a).out.aL.length=d.out.aL.length+a.length:=by
 induction a generalizing d with
 | nil=>exact⟨rfl,rfl⟩
 | cons x l ih =>
  have:=ih (d.dW x.toNat 0)
  simp only[Dng.dW,List.length_append,List.length_cons,List.length_nil] at this
  show(Dng.dy (d.dW x.toNat 0) l).ends.length=_∧(Dng.dy (d.dW x.toNat 0) l).out.aL.length=_
  rw[List.length_cons]
  exact⟨by have:=this.1;simp only[Dng.dW] at this ⊢;omega,by have:=this.2;simp only[Dng.dW] at this ⊢;omega⟩
theorem ub{ps:List (Option Nat)}{d:Dng}{m n:Nat}(h:bW ps d.s m)(hn:bW ps d.s n):bW ps (d.dW n 0).s m:=by
 obtain⟨hn16,q,u,hq,hu,hR⟩:=hn
 have:=h.aj (n:=n) (hR.cS (y:=0) (by decide))
 unfold Dng.dW Spc.di
 simp only
 rw[cV hu];exact this
theorem vP{ps:List (Option Nat)}(m:Nat)(a:List Int):∀ (d:Dng),bW ps d.s m→(∀ w∈a,bW ps d.s w.toNat)→bW ps (d.dy a).s m:=by
 induction a with
 | nil=>intro d h _;exact h
 | cons x l ih =>
  intro d h ha
  have hx:=ha x List.mem_cons_self
  exact ih _ (ub h hx) (fun w hw=>ub (ha w (List.mem_cons_of_mem _ hw)) hx)
def eM(d:Dng)(k:Nat):List Int:=(d.s.ag.aD.take k).flatMap fun m=>m.wait.map (·.who)
theorem vQ{d:Dng}{k:Nat}{x:dt}(h:d.s.ag.aD[k]?=some x):eM d (k+1)=eM d k++x.wait.map (·.who):=by
 unfold eM
 rw[cx h,List.flatMap_append];simp
theorem AH:∀ (n:Nat) (c:Int) (r:List dc) (ms:List dt) (out:List Int),n≤r.length→ ∀ w∈(sigLoop n c r ms out).2.2,w∈out∨ ∃ y∈r,y.who=w
 | 0,_,_,_,_,_,_,h=>.inl h
 | n+1,c,r,ms,out,hn,w,h=>by
  unfold sigLoop at h
  simp only at h
  obtain⟨h1,h2,h3⟩:=j8 (l:=r) (c:=c) (by omega)
  rcases AH n c _ _ _ (by omega) w h with h | ⟨y,hy,e⟩
  ·split at h
   ·rcases List.mem_append.1 h with h | h
    ·exact .inl h
    ·rw[List.mem_singleton] at h;exact .inr ⟨_,h1,h.symm⟩
   ·exact .inl h
  ·exact .inr ⟨y,h3 y hy,e⟩
theorem AJ:∀ (n:Nat) (c:Int) (r:List dc) (ms:List dt) (out:List Int),(sigLoop n c r ms out).2.2.length≤out.length+n
 | 0,_,_,_,_=>by simp[sigLoop]
 | n+1,c,r,ms,out=>by
  unfold sigLoop
  simp only
  refine Nat.le_trans (AJ n c _ _ _) ?_
  split
  ·rw[List.length_append];simp;omega
  ·omega
theorem kT{g:Gates}{c ch:Int}{all:Bool}:∀ w∈(g.signal c ch all).1,g.has w:=fun w h=>by
 unfold Gates.signal at h
 split at h
 ·cases h
 ·rename_i r e
  rcases AH _ _ _ _ _ (by split <;> omega) w h with h | ⟨y,hy,e2⟩
  ·cases h
  ·exact .inr (.inl ⟨r,List.mem_of_getElem? (gG e).2.2,y,hy,e2⟩)
theorem ni{g:Gates}{c ch:Int}{all:Bool}(hg:∀ r∈g.bm,r.length≤400000):(g.signal c ch all).1.length≤400000:=by
 unfold Gates.signal
 split
 ·simp
 ·rename_i r e
  have:=hg r (List.mem_of_getElem? (gG e).2.2)
  refine Nat.le_trans (AJ _ _ _ _ _) ?_
  simp only[List.length_nil]
  split <;> omega
theorem ox:∀ (n:Nat) (c:Int) (r:List dc) (ms:List dt) (out:List Int),(sigLoop n c r ms out).2.1.length=ms.length
 | 0,_,_,_,_=>rfl
 | n+1,c,r,ms,out=>by unfold sigLoop;simp only;rw[ox n,List.length_set]
theorem jG{g:Gates}{c ch:Int}{all:Bool}:(g.signal c ch all).2.2.aD.length=g.aD.length:=by
 unfold Gates.signal
 split
 ·rfl
 ·exact ox _ _ _ _ _
theorem uc:∀ (n:Nat) (c:Int) (r:List dc) (ms:List dt) (out:List Int) (N:Nat),n≤r.length→(∀ x∈ms,x.wait.length≤N)→ ∀ x∈(sigLoop n c r ms out).2.1,x.wait.length≤N+n∧ ∀ y∈x.wait,(∃ x'∈ms,y∈x'.wait)∨ ∃ z∈r,z.who=y.who
 | 0,_,_,_,_,_,_,hN,x,h=>⟨hN x h,fun y hy=>.inl ⟨x,h,hy⟩⟩
 | n+1,c,r,ms,out,N,hn,hN,x,h=>by
  unfold sigLoop at h
  simp only at h
  obtain⟨h1,h2,h3⟩:=j8 (l:=r) (c:=c) (by omega)
  have hl:∀ x∈ms.set (aH r c).1.mutex.toNat ((ms.getD (aH r c).1.mutex.toNat ⟨[],false,0⟩).lock (aH r c).1.who).2,x.wait.length≤N+1∧ ∀ y∈x.wait,(∃ x'∈ms,y∈x'.wait)∨y.who=(aH r c).1.who:=by
   intro x hx
   rcases List.mem_or_eq_of_mem_set hx with hx | rfl
   ·exact⟨by have:=hN x hx;omega,fun y hy=>.inl ⟨x,hx,hy⟩⟩
   ·have hg:∀ (z:dt),(z∈ms∨z=⟨[],false,0⟩)→(z.lock (aH r c).1.who).2.wait.length≤N+1∧ ∀ y∈(z.lock (aH r c).1.who).2.wait,(∃ x'∈ms,y∈x'.wait)∨y.who=(aH r c).1.who:=by
     intro z hz
     have hzl:z.wait.length≤N:=by
      rcases hz with hz | rfl
      ·exact hN z hz
      ·exact Nat.zero_le _
     unfold dt.lock
     split
     ·refine⟨by rw[List.length_append];simp;omega,fun y hy=>?_⟩
      rcases List.mem_append.1 hy with hy | hy
      ·rcases hz with hz | rfl
       ·exact .inl ⟨z,hz,hy⟩
       ·cases hy
      ·rw[List.mem_singleton] at hy;exact .inr (by rw[hy])
     ·refine⟨by show z.wait.length≤_;omega,fun y hy=>?_⟩
      rcases hz with hz | rfl
      ·exact .inl ⟨z,hz,hy⟩
      ·cases hy
    refine hg _ ?_
    rw[List.getD_eq_getElem?_getD]
    cases e:ms[(aH r c).1.mutex.toNat]? with
    | none=>exact .inr rfl
    | some z=>exact .inl (List.mem_of_getElem? e)
  obtain⟨g1,g2⟩:=uc n c _ _ _ (N+1) (by omega) (fun x hx=>(hl x hx).1) x h
  refine⟨by omega,fun y hy=>?_⟩
  rcases g2 y hy with ⟨x',hx',hy'⟩ | ⟨z,hz,e⟩
  ·rcases(hl x' hx').2 y hy' with hh | hh
   ·exact .inl hh
   ·exact .inr ⟨_,h1,hh.symm⟩
  ·exact .inr ⟨z,h3 z hz,e⟩
theorem kU{g:Gates}{c ch:Int}{all:Bool}(h1:∀ x∈g.aD,x.wait.length≤400000)(h2:∀ r∈g.bm,r.length≤400000):∀ x∈(g.signal c ch all).2.2.aD,x.wait.length≤1000000∧ ∀ y∈x.wait,g.has y.who:=by
 intro x hx
 unfold Gates.signal at hx
 split at hx
 ·exact⟨Nat.le_trans (h1 x hx) (by decide),fun y hy=>.inl ⟨x,hx,y,hy,rfl⟩⟩
 ·rename_i r e
  have hr:=List.mem_of_getElem? (gG e).2.2
  have hrl:=h2 r hr
  obtain⟨a,b⟩:=uc _ _ _ _ _ 400000 (by split <;> omega) h1 x hx
  have hif:(if all=true then r.length else min r.length 1)≤r.length:=by split <;> omega
  refine⟨by omega,fun y hy=>?_⟩
  rcases b y hy with ⟨x',hx',hy'⟩ | ⟨z,hz,e2⟩
  ·exact .inl ⟨x',hx',y,hy',rfl⟩
  ·exact .inr (.inl ⟨r,hr,z,hz,e2⟩)
end Go.SLYtefdijgllbkmfaaGreat
namespace Go.SLYtefdijgllbkmfaaGreat
open Go Go.RowKit
structure ig(s:Spc):Prop where
 lt:s.thr.length=16
 T:iW s.table
 R:∀ (n:Nat) (t:bF),s.thr[n]?=some (some t)→gL t∧0≤t.pc∧t.pc≤257
 slot:∀ (h:Int) (m:Nat),bj s.table h=some m→ ∃ t,s.thr[m]?=some (some t)
 free:∀ n:Nat,slotFree? s.table 0=some n→s.thr[n]?=some none
 join:∀ (n:Nat) (t:bF),s.thr[n]?=some (some t)→t.why=0→¬t.ar = -1→0≤t.ar∧t.ar.toNat≠n∧ ∃ u,s.thr[t.ar.toNat]?=some (some u)
 au:s.au.length≤800000000
 mem:s.mem.length≤1000000
 gl:gF s.ag
 Gl:∀ x∈s.ag.bX,0≤x.count∧x.count≤1048576
 Gm:∀ r∈s.ag.bm, ∀ w∈r,0≤w.mutex∧w.mutex<(s.ag.aD.length:Int)
 iE:∀ w,s.ag.has w→0≤w∧ ∃ u,s.thr[w.toNat]?=some (some u)
 Gn:s.dG.ay≤(s.ag.aD.length:Int)
 zm:(∀ x∈s.ag.aD,x.wait.length≤400000)∧ ∀ r∈s.ag.bm,r.length≤400000
 code:∀ f∈s.dG.funcs, ∀ i∈f,ja i∧(cls i.op≠1→i.n≤1099511627776)∧(i.op=35∨i.op=36→i.n<(s.bx.length:Int))
 D7:s.dG.funcs.length≤1000000∧ ∀ f∈s.dG.funcs,f.length≤256
 tl:∀ u∈s.bx,rW u
 xA:∀ u∈s.bx,(∀ w∈u.bz,0≤w∧ ∃ v,s.thr[w.toNat]?=some (some v))∧(∀ x∈u.bN,0≤x.who∧ ∃ v,s.thr[x.who.toNat]?=some (some v))
 tw:∀ u∈s.bx, ∀ w∈u.words,0≤w∧w≤18446744073709551615
 dw:s.aN.wait.length≤1000000
 db:∀ r∈s.aN.wait,0≤r.block∧r.block<(s.aN.blocks.length:Int)
 Kf:∀ r∈s.aN.wait,0≤r.who∧ ∃ v,s.thr[r.who.toNat]?=some (some v)
 wn:0≤s.aA.now∧s.aA.now≤1099511627776
 wl:s.aA.dV.length≤1000000
 Kg:∀ x∈s.aA.dV,0≤x.1∧ ∃ v,s.thr[x.1.toNat]?=some (some v)
theorem ig.live{s:Spc}(h:ig s){ps:List (Option Nat)}(hs:BE ps s.thr){m:Nat}{t:bF}(e:s.thr[m]?=some (some t)):bW ps s m:=by
 obtain⟨q,hq⟩:=hs.2.1 m t e
 exact⟨h.lt ▸ (List.getElem?_eq_some_iff.1 e).1,q,t,hq,e,(h.R m t e).1⟩
theorem gL.gY{t:bF}(h:gL t)(hp:0≤t.pc∧t.pc≤257):Av t.gY:=⟨h.l,by show 0≤t.pc∧t.pc≤_;omega,h.r⟩
theorem ig.call{s:Spc}(h:ig s){ps:List (Option Nat)}(hs:BE ps s.thr){k:Nat}{t:bF}{i:Ins}{choice:Int}(ht:s.thr[k]?=some (some t))(hw:t.why=0)(hI:ja i)(hn:i.n≤1099511627776)(htub:i.op=35∨i.op=36→i.n<(s.bx.length:Int)) :
  iA ps ((s.dI k i choice).aj {t with pc:=t.pc+1 }) {t with pc:=t.pc+1 }:=by
 have hk16:k<16:=h.lt ▸ (List.getElem?_eq_some_iff.1 ht).1
 have hR:=(h.R k t ht).1
 have hR2:gL {t with pc:=t.pc+1 }:=⟨hR.l,hR.r,hR.i,hR.v,hR.h⟩
 have lv:∀ {m:Nat} {u:bF},s.thr[m]?=some (some u)→bW ps (s.aj k {t with pc:=t.pc+1 }) m:=fun e=>(h.live hs e).aj hR2
 refine⟨hk16,hR2,?_,hs.1.trans h.lt,h.T,fun x m e=>?_,fun n e=>?_,fun hj=>?_,hI,hn,Nat.le_trans h.au (by decide),Nat.zero_le _,Nat.zero_le _,h.mem,h.gl,h.Gl,h.Gm,fun w hw=>?_,h.Gn,h.zm,htub,h.tl,fun u hu=>⟨fun w hw=>?_,fun x hx=>?_⟩,h.tw,h.dw,h.wn⟩
 ·show(s.thr.set k _).length=16
  rw[List.length_set];exact h.lt
 ·obtain⟨u,hu⟩:=h.slot x m e;exact lv hu
 ·have:=h.free n e
  show(s.thr.set k _)[n]?=_
  rw[List.getElem?_set_ne (fun e=>by rw[e,this] at ht;cases ht)];exact this
 ·obtain⟨a,b,u,hu⟩:=h.join k t ht hw hj
  exact⟨a,b,lv hu⟩
 ·obtain⟨a,u,hu⟩:=h.iE w hw;exact⟨a,lv hu⟩
 ·obtain⟨a,u,hu⟩:=(h.xA u hu).1 w hw;exact⟨a,lv hu⟩
 ·obtain⟨a,u,hu⟩:=(h.xA u hu).2 x hx;exact⟨a,lv hu⟩
theorem ig.HT{s:Spc}(h:ig s){ps:List (Option Nat)}(hs:BE ps s.thr){k:Nat}{t:bF}(ht:s.thr[k]?=some (some t))(hw:t.why=0):¬t.ar = -1→0≤t.ar∧t.ar.toNat≠k∧bW ps s t.ar.toNat:=fun hj=>by
 obtain⟨a,b,u,hu⟩:=h.join k t ht hw hj
 exact⟨a,b,h.live hs hu⟩
theorem kb{s:Spc}(h:ig s){f:iD}{i:Ins}(e:eG s.dG f=some i):ja i∧(cls i.op≠1→i.n≤1099511627776)∧(i.op=35∨i.op=36→i.n<(s.bx.length:Int)):=by
 unfold eG at e
 split at e
 ·cases e
 ·have hi:=List.mem_of_getElem? e
  cases hf:s.dG.funcs[f.fn.toNat]? with
  | none=>rw[List.getD_eq_getElem?_getD,hf] at hi;cases hi
  | some g=>rw[List.getD_eq_getElem?_getD,hf] at hi;exact h.code g (List.mem_of_getElem? hf) i hi
theorem Ke{s:Spc}{ps:List (Option Nat)}(hs:BE ps s.thr){n:Int}(h:DV ps n=none)(hl:s.thr.length=16):s.at n=none:=by
 unfold DV at h
 unfold Spc.at cH
 split
 ·rfl
 ·rename_i h0
  by_cases hn:n<16
  ·rw[if_pos ⟨by omega,hn⟩] at h
   obtain⟨x,hx⟩:=aB (show n.toNat<s.thr.length by omega)
   rw[hx]
   cases x with
   | none=>rfl
   | some t=>obtain⟨q,hq⟩:=hs.2.1 _ t hx;rw[fh hq] at h;cases h
  ·rw[List.getElem?_eq_none (by omega)];rfl
theorem IF{s:Spc}{ps:List (Option Nat)}(hs:BE ps s.thr){n:Int}{p:Nat}(h:DV ps n=some p)(hl:s.thr.length=16):∃ k:Nat, ∃ t,n=(k:Int)∧k<16∧ps[k]?=some (some p)∧s.thr[k]?=some (some t)∧s.at n=some t:=by
 unfold DV at h
 split at h
 ·rename_i h0
  have hp:ps[n.toNat]?=some (some p):=by
   rw[List.getD_eq_getElem?_getD] at h
   cases e:ps[n.toNat]? with
   | none=>rw[e] at h;cases h
   | some x=>rw[e] at h;simp only[Option.getD_some] at h;rw[h]
  obtain⟨x,hx⟩:=aB (show n.toNat<s.thr.length by omega)
  cases x with
  | none=>have:=hs.2.2 _ hx;rw[hp] at this;cases this
  | some t=>exact⟨n.toNat,t,by omega,by omega,hp,hx,by unfold Spc.at cH;rw[if_neg (by omega),hx];rfl⟩
 ·cases h
section
variable{P:Program}{W:World}
theorem Fn.Ld{f:FuncId}{args:List Value}{X X1:Type}{val:X→Value}{fact:X→Prop}{p:X1→Prop}{A:X1→List aa}(h:∀ x,p x→Fn P W f args [seps (A x)] X val fact (fun _=>[seps (A x)])):Fn P W f args [hZ p A] X val fact (fun _=>[hZ p A]):=fun F w hs=>by
 have h1:Sat W w (sep (ex fun x:{x // p x }=>seps (A x.1)) F):=hs.mono (aR (fun g b=>by
  obtain⟨x,hx,b⟩:hZ p A g:=by simpa only[seps,aO] using b
  exact⟨⟨x,hx⟩,b⟩) (fun g b=>b))
 obtain⟨x,h2⟩:=h1.exists
 refine(h x.1 x.2 F w (by simpa only[seps,aO] using h2)).mono ?_
 rintro e w' ⟨y,e1,e2,s⟩
 exact⟨y,e1,e2,s.mono (aR (fun g b=>by
  have b':seps (A x.1) g:=by simpa only[seps,aO] using b
  show seps [hZ p A] g
  simp only[seps,aO]
  exact⟨x.1,x.2,b'⟩) (fun g b=>b))⟩
end
theorem si{s:Spc}{n c:Int}(h:s.at n=none):s.run n c=(iY.z,1,s):=by unfold Spc.run;rw[h]
theorem sj{s:Spc}{n c:Int}{t:bF}(h:s.at n=some t)(hw:t.why≠0):s.run n c=(iY.z,4,s):=by unfold Spc.run;rw[h];simp only;rw[if_pos hw]
theorem vR{s:Spc}{k:Nat}{c:Int}{t:bF}(h:s.at (k:Int)=some t)(hw:¬t.why≠0)(hn:eG s.dG t.gY=none){z:Dng}(hz:z=((s.dI k ⟨23,0,0,0,0⟩ c).tell 0 0 0 true).fin 0):s.run (k:Int) c=(z.finish.1,0,z.finish.2):=by
 unfold Spc.run;rw[h];simp only;rw[if_neg hw,hn];subst hz;rfl
theorem pM{s:Spc}{k:Nat}{c:Int}{t:bF}{i:Ins}(h:s.at (k:Int)=some t)(hw:¬t.why≠0)(hn:eG s.dG t.gY=some i)(hc:cls i.op=1){z:Dng}(hz:z=(s.dI k i c).plain):s.run (k:Int) c=(z.finish.1,0,z.finish.2):=by
 unfold Spc.run;rw[h];simp only;rw[if_neg hw,hn];simp only;rw[if_pos hc];subst hz;rfl
theorem sk{s:Spc}{k:Nat}{c:Int}{t:bF}{i:Ins}(h:s.at (k:Int)=some t)(hw:¬t.why≠0)(hn:eG s.dG t.gY=some i)(hc:¬cls i.op=1){z:Dng}(hz:z=((s.dI k i c).aj {t with pc:=t.pc+1 }).call):s.run (k:Int) c=(z.finish.1,0,z.finish.2):=by
 unfold Spc.run;rw[h];simp only;rw[if_neg hw,hn];simp only;rw[if_neg hc];subst hz;rfl
theorem IG(t:bF)(x:Int):(bH t).set 1 (.int .i64 x)=bH {t with pc:=x }:=rfl
def D6(fv sv pv:Value)(p:eB):List Value:=[fv,.int .i64 p.words,.int .i64 p.ay,.int .i64 p.conds,sv,pv,.int .i64 p.blocks,.int .i64 p.prio]
end Go.SLYtefdijgllbkmfaaGreat
