/- Walks of functions, and what they compute. Conditions: none, this text proves no statement. -/
import Derived.Test.YtefdijgllbkmfaaGreatG02
import Derived.Recover
import Derived.OrdersHeld
import Derived.Laws.Externs
import Derived.Laws.NewFold
namespace Go.SLYtefdijgllbkmfaaGreat
structure fF where
 aC:List Int
 aU:Bool
 ended:Bool
 yielded:Bool
deriving DecidableEq
def fF.z:fF:=⟨[],false,false,false⟩
/-! words as numbers with a point -/
def Dy(a b:Int):Bool:=Ieee.double.order a.toNat b.toNat == some .lt
def Kz(a b:Int):Bool:=Ieee.double.order a.toNat b.toNat == some .eq
def mF(a:Int):Bool := !Kz a a
def ft(a:Int):Int:=if mF a=true then mK else a
def Bq:Option Nat→Int
 | some r=>ft r
 | none=>mK
def Br(a b:Int):Int:=Bq (Ieee.double.add a.toNat b.toNat)
def Bt(a b:Int):Int:=Bq (Ieee.double.sub a.toNat b.toNat)
def Bu(a b:Int):Int:=Bq (Ieee.double.mul a.toNat b.toNat)
def Bv(a b:Int):Int:=Bq (Ieee.double.div a.toNat b.toNat)
def fc(a:Int):Int:=ft (Go.FloatKind.f64.nearest (Go.IntKind.i64.wrap a))
def rr(b:Bool):Int:=if b=true then 1 else 0
def eB(neg:Bool)(win:Ordering)(x y:Nat):Nat :=
 let a:=Go.FloatKind.f64.decode x
 let b:=Go.FloatKind.f64.decode y
 if a == .infinity neg || b == .infinity neg then Go.FloatKind.f64.encode (.infinity neg)
 else if a.isNaN || b.isNaN then 0x7FF8000000000001
 else if a.isZero && b.isZero then (if a.neg == neg then x else y)
 else if a.order b == some win then x else y
def nO(a b:Int):Int:=if (mF a || mF b)=true then mK else ft (eB true .lt a.toNat b.toNat:Nat)
def nP(a b:Int):Int:=if (mF a || mF b)=true then mK else ft (eB false .gt a.toNat b.toNat:Nat)
def nQ:Nat:=4890909195324358656
def nR:Nat:=14114281232179134464
def eZ(a:Int):Int :=
 if mF a=true then 0 else
 if (Ieee.double.order a.toNat nQ == some .gt || Ieee.double.order a.toNat nQ == some .eq)=true then 9223372036854775807 else
 if (Ieee.double.order a.toNat nR == some .lt)=true then 9223372036854775808 else gL (((Go.FloatKind.f64.decode a.toNat).toInt .zero).getD 0)
def aI(op a b:Int):Int :=
 if op=2 then a else if op=3 then gL (a+b) else if op=4 then gL (a-b) else if op=5 then gL (a * b) else if op=6 then rr (decide (a<b)) else
 if op=7 then Br a b else if op=8 then Bt a b else if op=9 then Bu a b else if op=10 then Bv a b else
 if op=11 then nO a b else if op=12 then nP a b else if op=13 then rr (Dy a b) else
 if op=14 then eZ a else if op=15 then fc a else 0
/-! plain instructions -/
structure iG where
 fn:Int
 pc:Int
 aq:List Int
def iG.z:iG:=⟨0,0,[0,0,0,0,0,0,0,0]⟩
def iG.eR(f:iG)(a:Int):Int:=f.aq.getD a.toNat 0
def iG.put(f:iG)(a v:Int):iG:={f with aq:=f.aq.set a.toNat v }
def lG(op:Int):Bool:=decide (op=2) || decide (op=14) || decide (op=15)
def gZ(f:iG)(m:List Int)(i:Ins):Option (iG×List Int) :=
 if i.op=16 then some ({f with pc:=i.n },m) else
 if i.op=17 then some ({f with pc:=if f.eR i.a=0 then i.n else f.pc+1 },m) else
 if i.op=1 then some ({f.put i.a i.n with pc:=f.pc+1 },m) else
 if i.op=18 then (if f.eR i.b<m.length then some ({f.put i.a (m.getD (f.eR i.b).toNat 0) with pc:=f.pc+1 },m) else none) else
 if i.op=19 then (if f.eR i.a<m.length then some ({f with pc:=f.pc+1 },m.set (f.eR i.a).toNat (f.eR i.b)) else none) else
 some ({f.put i.a (aI i.op (f.eR i.b) (if lG i.op=true then 0 else f.eR i.c)) with pc:=f.pc+1 },m)
/-! threads -/
def KA:bc:=⟨0,0,[0,0,0,0,0,0,0,0],0,0,0,false, -1,0, -1⟩
def bc.gb(t:bc):iG:=⟨t.fn,t.pc,t.aq⟩
def bc.lH(t:bc)(f:iG):bc:={t with fn:=f.fn,pc:=f.pc,aq:=f.aq }
def bc.eR(t:bc)(a:Int):Int:=t.aq.getD a.toNat 0
def bc.put(t:bc)(a:Int)(v:Int):bc:={t with aq:=t.aq.set a.toNat v }
def Spc.t(s:Spc)(n:Nat):bc:=(s.thr.getD n none).getD KA
def Spc.aj(s:Spc)(n:Nat)(t:bc):Spc:={s with thr:=s.thr.set n (some t) }
def Spc.at(s:Spc)(n:Int):Option bc:=(eU s.thr n).getD none
def Spc.free(s:Spc)(n:Nat):Spc:={s with table:=slotFreed s.table (s.t n).handle,thr:=s.thr.set n none }
def Spc.tell(s:Spc)(r:Rec):Spc:={s with av:=s.av++[r] }
def dD(p:fE)(f:iG):Option Ins:=if f.fn<0∨f.pc<0 then none else (p.funcs.getD f.fn.toNat [])[f.pc.toNat]?
def bc.cE(t:bc)(y:Int):bc:={(if t.into = -1 then t else t.put t.into y).put 7 0 with why:=0,into := -1 }
def bc.dE(t:bc)(y:Int):Rec:=⟨t.handle,t.op,0,if t.into = -1 then 0 else y,0,true⟩
def Spc.cZ(s:Spc)(n:Nat)(y:Int):Spc:=s.aj n ((s.t n).cE y)
/-! an instruction that a thread does -/
structure Dng where
 s:Spc
 n:Nat
 i:Ins
 choice:Int
 out:fF
 ends:List Rec
def Dng.t(d:Dng):bc:=d.s.t d.n
def Dng.aj(d:Dng)(t:bc):Dng:={d with s:=d.s.aj d.n t }
def Dng.a(d:Dng):Int:=d.t.eR d.i.a
def Dng.b(d:Dng):Int:=d.t.eR d.i.b
def Dng.tell(d:Dng)(x y e:Int)(fin:Bool):Dng:={d with s:=d.s.tell ⟨d.t.handle,d.i.op,x,y,e,fin⟩ }
def Dng.pass(d:Dng)(x y e:Int):Dng:=(d.tell x y e true).aj (d.t.put 7 e)
def Dng.block(d:Dng)(why into x y:Int):Dng:={(d.tell x y 0 false).aj {d.t with why:=why,op:=d.i.op,into:=into } with out:={d.out with aU:=true } }
def Dng.dU(d:Dng)(n:Nat)(y:Int):Dng:={d with s:=d.s.cZ n y,ends:=d.ends++[(d.s.t n).dE y],out:={d.out with aC:=d.out.aC++[(n:Int)] } }
def Dng.free(d:Dng)(n:Nat):Dng:={d with s:=d.s.free n }
def Dng.ended(d:Dng):Dng:={d with out:={d.out with ended:=true } }
def Dng.fin(d:Dng)(v:Int):Dng :=
 if d.t.bq=true then d.ended.free d.n else
 if d.t.au = -1 then d.ended.aj {d.t with why:=9,value:=v } else (d.ended.dU d.t.au.toNat v).free d.n
def Dng.finish(d:Dng):fF×Spc:=(d.out,{d.s with av:=d.s.av++d.ends })
def Dng.aY(d:Dng)(g:Gates):Dng:={d with s:={d.s with ag:=g } }
def Dng.dK(d:Dng)(k:Nat)(u:Tub):Dng:={d with s:={d.s with bx:=d.s.bx.set k u } }
def Dng.du(d:Dng)(u:jy):Dng:={d with s:={d.s with aO:=u } }
def Dng.ru(d:Dng)(u:jS):Dng:={d with s:={d.s with ay:=u } }
def Dng.plain(d:Dng):Dng :=
 match gZ d.t.gb d.s.mem d.i with
 | some (f,m) =>
  let d1:=if d.i.op=18 then d.tell d.b (d.s.mem.getD d.b.toNat 0) 0 true else if d.i.op=19 then d.tell d.a d.b 0 true else d
  {d1 with s:={d1.s.aj d.n (d.t.lH f) with mem:=m } }
 | none=>(if d.i.op=18 then d.tell d.b 0 6 true else d.tell d.a d.b 6 true).fin 18446744073709551615
def Dng.spawn(d:Dng):Dng :=
 let r:=d.s.begin d.i.n d.b
 let h:=if r.2.1=0 then (r.2.2.t r.1.toNat).handle else 0
 let d1:Dng:={d with s:=r.2.2,out:=if r.2.1=0 then {d.out with aC:=d.out.aC++[r.1] } else d.out }
 (d1.aj (d1.t.put d.i.a h)).pass d.i.n h r.2.1
def Dng.other(d:Dng)(h:Int):Nat×Int :=
 match bj d.s.table h with
 | none=>(0,3)
 | some n=>if n=d.n∨(d.s.t n).bq=true then (0,3) else if (d.s.t n).au = -1 then (n,0) else (0,4)
def Dng.join(d:Dng):Dng :=
 let x:=d.b
 if (d.other x).2≠0 then d.pass x 0 (d.other x).2 else
 let n:=(d.other x).1
 if (d.s.t n).why=9 then ((d.aj (d.t.put d.i.a (d.s.t n).value)).free n).pass x (d.s.t n).value 0 else
 ({d with s:=d.s.aj n {d.s.t n with au:=d.n } }:Dng).block 4 d.i.a x 0
def Dng.cH(d:Dng):Dng :=
 let x:=d.a
 if (d.other x).2≠0 then d.pass x 0 (d.other x).2 else
 let n:=(d.other x).1
 (if (d.s.t n).why=9 then d.free n else ({d with s:=d.s.aj n {d.s.t n with bq:=true } }:Dng)).pass x 0 0
def Dng.dv(d:Dng):List Int→Dng
 | []=>d
 | n::l=>(d.dU n.toNat 0).dv l
def bX(s:Spc):List Int→Spc
 | []=>s
 | n::l=>bX (s.aj n.toNat {s.t n.toNat with why:=1 }) l
def Dng.waits(d:Dng):List Int:=((d.s.ag.aG.take d.s.di.aA.toNat).flatMap fun m=>m.wait.map (·.who))
def Dng.jT(d:Dng)(l:List Int):Dng:=({d with s:=bX d.s d.waits }:Dng).dv l
def Dng.given(d:Dng)(n:Int)(ok:Bool):Dng:=if ok=true then d.dU n.toNat 0 else d
def Dng.mutex(d:Dng):Dng :=
 let m:=d.i.n
 if d.i.op=25 then
  let r:=d.s.ag.lock d.n m
  if r.2.1=0∧r.1=false then (d.aY r.2.2).block 1 (-1) m 0 else (d.aY r.2.2).pass m 0 r.2.1
 else if d.i.op=26 then
  let r:=d.s.ag.unlock d.n m d.choice
  ((d.aY r.2.2.2).pass m 0 r.2.2.1).given r.1 r.2.1
 else
  let r:=d.s.ag.wait d.n m d.i.c d.choice
  if r.2.2.1≠0 then (d.aY r.2.2.2).pass m (gL d.i.c) r.2.2.1 else ((d.aY r.2.2.2).block 2 (-1) m (gL d.i.c)).given r.1 r.2.1
def Dng.cf(d:Dng):Dng :=
 if d.i.op=31 then
  let r:=d.s.ag.up d.i.n d.choice
  ((d.aY r.2.2.2).pass d.i.n 0 r.2.2.1).given r.1 r.2.1
 else
  let r:=d.s.ag.down d.n d.i.n
  if r.2.1=0∧r.1=false then (d.aY r.2.2).block 3 (-1) d.i.n 0 else (d.aY r.2.2).pass d.i.n 0 r.2.1
def Dng.ask(d:Dng)(block y into:Int):Dng :=
 if block<64 then
  let r:=d.s.aO.ask ⟨d.n,block,decide (d.i.op=34),y⟩
  if r.1≠0 then (d.du r.2).pass block y r.1 else (d.du r.2).block 5 into block y
 else d.pass block y 1
def Jt:Tub:=⟨0,[],[],[]⟩
def Dng.bb(d:Dng):Tub:=d.s.bx.getD d.i.n.toNat Jt
def Dng.put(d:Dng):Dng :=
 let x:=d.a
 let r:=d.bb.put d.n x
 let d1:=d.dK d.i.n.toNat r.2.2.2
 if r.1=false then d1.block 7 (-1) d.i.n x else
 if r.2.2.1=true then (d1.pass d.i.n x 0).dU r.2.1.toNat x else d1.pass d.i.n x 0
def Dng.get(d:Dng):Dng :=
 let r:=d.bb.get d.n
 let d1:=d.dK d.i.n.toNat r.2.2.2.2
 if r.2.1=false then d1.block 6 d.i.a d.i.n 0 else
 let d2:=(d1.aj (d1.t.put d.i.a r.1)).pass d.i.n r.1 0
 if r.2.2.2.1=true then d2.dU r.2.2.1.toNat 0 else d2
def Dng.sleep(d:Dng):Dng :=
 let x:=d.a
 if x=0 then d.pass x 0 0 else if 1099511627776<x then d.pass x 0 1 else (d.ru (d.s.ay.sleep d.n x).2).block 8 (-1) x 0
def Dng.kernel(d:Dng):Dng :=
 if d.i.op=33 then d.ask d.b 0 d.i.a else
 if d.i.op=34 then d.ask d.a d.b (-1) else
 if d.i.op=35 then d.put else
 if d.i.op=36 then d.get else
 if d.i.op=37 then d.sleep else d.pass d.a 0 0
def Dng.call(d:Dng):Dng :=
 if d.i.op=20 then d.spawn else
 if d.i.op=32 then (d.aj (d.t.put d.i.a d.t.handle)).pass 0 d.t.handle 0 else
 if d.i.op=24 then {d.pass 0 0 0 with out:={d.out with yielded:=true } } else
 if d.i.op=21 then d.join else
 if d.i.op=22 then d.cH else
 if d.i.op=23 then (d.tell d.a 0 0 true).fin d.a else
 if d.i.op=25∨d.i.op=26∨d.i.op=27 then d.mutex else
 if d.i.op=28∨d.i.op=29 then
  let r:=d.s.ag.signal d.i.n d.choice (decide (d.i.op=29))
  ((d.aY r.2.2).pass d.i.n 0 r.2.1).jT r.1
 else
 if d.i.op=30∨d.i.op=31 then d.cf else d.kernel
/-! a space's steps -/
def Spc.dF(s:Spc)(n:Nat)(i:Ins)(choice:Int):Dng:=⟨s,n,i,choice,fF.z,[]⟩
def Spc.run(s:Spc)(n choice:Int):fF×Int×Spc :=
 match s.at n with
 | none=>(fF.z,1,s)
 | some t =>
  if t.why≠0 then (fF.z,4,s) else
  match dD s.di t.gb with
  | none=>let r:=(((s.dF n.toNat ⟨23,0,0,0,0⟩ choice).tell 0 0 0 true).fin 0).finish;(r.1,0,r.2)
  | some i =>
   let d:=s.dF n.toNat i choice
   let r:=(if cls i.op=1 then d.plain else (d.aj {t with pc:=t.pc+1 }).call).finish
   (r.1,0,r.2)
def Spc.done(s:Spc)(k:Int):fF×Int×Spc :=
 let r:=s.aO.done k
 if r.2.2.1=false then (fF.z,3,s) else
 let s1:Spc:={s with aO:=r.2.2.2 }
 (⟨[r.1.who],false,false,false⟩,0,(s1.cZ r.1.who.toNat r.2.1).tell ((s1.t r.1.who.toNat).dE r.2.1))
def cW(s:Spc):List Int→Spc
 | []=>s
 | n::l=>cW ((s.cZ n.toNat 0).tell ((s.t n.toNat).dE 0)) l
def Spc.tick(s:Spc):fF×Spc:=(⟨s.ay.due,false,false,false⟩,cW {s with ay:=s.ay.tick.2 } s.ay.due)
def Spc.class(s:Spc)(n:Int):Int :=
 match s.at n with
 | none=>0
 | some t=>if t.why≠0 then 0 else match dD s.di t.gb with | none=>2 | some i=>cls i.op
end Go.SLYtefdijgllbkmfaaGreat
namespace Go.SLYtefdijgllbkmfaaGreat
open Go Go.RowKit
def Bw(P:Program)(W:World)(f:FuncId)(args:List Value)(pre:List aa)(X:Type)(en:X→Ending)(fact:X→Prop)(post:X→List aa):Prop :=
 ∀ (F:aa) (w:World),Sat W w (sep (seps pre) F)→Calls P f args.toArray w (fun e w'=>∃ x,e=en x∧fact x∧Sat W w' (sep (seps (post x)) F))
section
variable{P:Program}{W:World}{N:Nat}{Q:Exit→Act→World→Prop}{L:List (Nat×Option Value)}{H K R:List aa}{O:Array Oper}{T:TypeId}{rest:List Oper}
theorem Fn.b{f:FuncId}{args:List Value}{pre:List aa}{X:Type}{val:X→Value}{fact:X→Prop}{post:X→List aa}(h:Fn P W f args pre X val fact post):Bw P W f args pre X (fun x=>.returned (val x)) fact post:=h
theorem Bw.intro{f:FuncId}{fn:Func}{c:Code}{args:List Value}{pre:List aa}{X:Type}{en:X→Ending}{fact:X→Prop}{post:X→List aa}(hf:P.funcs[f]?=some fn)(hb:fn.body=some c)(hn:fn.ntmps=N)(ha:Nat.ble args.length N=true)
  (h:∀ F,ax P W N (bodyPost P fn (fun e w'=>∃ x,e=en x∧fact x∧Sat W w' (sep (seps (post x)) F))) c (enum 0 args) (pre++[F])):Bw P W f args pre X en fact post:=fun F w hs=>by
 have hle:args.length≤N:=Nat.ble_eq.mp ha
 refine calls_of_wp hf hb (h F _ w ⟨?_,fun k v hv=>?_,rfl⟩ ?_)
 ·simp[hn];omega
 ·obtain⟨_,h2⟩:=jQ args 0 k v hv
  have hk:k<args.length:=by
   have:=(List.getElem?_eq_some_iff.1 h2).1;simpa using this
  show(args.toArray++Array.replicate (fn.ntmps-args.toArray.size) undef)[k]?=some v
  rw[Array.getElem?_append_left (by simpa using hk)]
  simpa using h2
 ·rw[ah];simp only[seps];rw[aR];exact hs
theorem aP.Ju{f:FuncId}{xs:Array Operand}{ts:Array TypeId}{pos:String}{after:Array Edge}{d:Nat}{args:List Value}{pre:List aa}{X:Type}{en:X→Ending}{fact:X→Prop}{post:X→List aa}(hN:Nat.blt d N=true)
  (hc:∀ args w,(callFunc f args).run P w = .ok (.enter f args) w) (hx:evs L xs.toList=some args) (hfn:Bw P W f args pre X en fact post) (ht:aM H pre R) (hno:∀ x,en x≠.outgrown)
  (h1:∀ x v,en x = .returned v→fact x→aP P W N O Q rest ((d,some v)::L) (post x++R)) (h2:∀ x c,en x = .panicked c→fact x→cp W N Q (.panic c) L (post x++R)) :
  aP P W N O Q (⟨some d,.call ⟨.value (.func f),xs,ts⟩,T,pos,after,none⟩::rest) L H:=fun a w ha hs=>wpList_plain rfl fun Kp hK=>by
 have e:xs.map a.eval=args.toArray:=by
  rw[← ha.mI hx, ← List.map_toArray]
 have hs:=ht.sat hs
 rw[ah] at hs
 unfold Oper.wp
 have hr:(execOp a.eval ⟨some d,.call ⟨.value (.func f),xs,ts⟩,T,pos,after,none⟩).run P w = .ok (.enter f args.toArray) w:=by
  simp[execOp,resolve,Act.eval,Deferred.ofValue,invoke,e,hc]
 rw[hr]
 simp only[Oper.upon]
 refine(hfn _ w hs).mono fun en' w' ⟨x,he,hf,hs'⟩=>?_
 rw[← ah] at hs'
 subst he
 cases e2:en x with
 | returned v=>exact hK _ _ (h1 x v e2 hf _ _ (ha.put (Nat.blt_eq.mp hN) _) hs')
 | panicked c=>exact h2 x c e2 hf _ _ ha hs'
 | outgrown=>exact absurd e2 (hno x)
theorem cp.panics{fn:Func}{R:Ending→World→Prop}{c:List PanicEntry}(h:∀ w,Sat W w (seps H)→R (.panicked c) w):cp W N (bodyPost P fn R) (.panic c) L H:=fun a w ha hs=>by
 unfold bodyPost
 exact⟨ha.defers,h w hs⟩
theorem Y.FN{t:TypeId}{u:TypeDesc}{x:Operand}{v:Value}(hu:P.underlying t=some u)(hn:(match u with | .interface _=>true | _=>false)=false)(hx:ev L x=some v):Y P W N (.makeInterface t x) T L H (.iface t v):=fun dst pos after guard a w ha hs=>by
 simp only[execOp,ha.eval hx]
 refine bI ?_
 cases u <;> first | (simp at hn;done) | simp[Instr.makeInterface,run_underlying hu]
theorem aP.panic{t:TypeId}{x:Operand}{v:Value}{pos:String}{after:Array Edge}{d:Option Nat}(hx:ev L x=some (.iface t v))(h:cp W N Q (.panic [{v:=.iface t v,recovered:=false }]) L H) :
  aP P W N O Q (⟨d,.panic x,T,pos,after,none⟩::rest) L H:=fun a w ha hs=>wpList_plain rfl fun Kp hK=>by
 unfold Oper.wp
 have hr:(execOp a.eval ⟨d,.panic x,T,pos,after,none⟩).run P w = .halt (.panic (.iface t v)) w:=by
  simp only[execOp,ha.eval hx];rfl
 rw[hr]
 exact h a w ha hs
end
end Go.SLYtefdijgllbkmfaaGreat
namespace Go.SLYtefdijgllbkmfaaGreat
open Go Go.RowKit
/-! a part apart, and how it is laid back -/
def nS{X:Type}(B C:X→aa):aa:=fun h=>∀ x h',FA h' h→B x h'→C x (join h' h)
theorem mc{X:Type}{B C:X→aa}(x:X):∀ h,seps [B x,nS B C] h→C x h:=fun h a=>by
 simp only[seps,aR] at a
 obtain⟨h1,h2,b,c,d,rfl⟩:=a
 exact c x h1 d b
theorem nT{X:Type}{B C:X→aa}{R:aa}(f:∀ x h,sep (B x) R h→C x h):∀ h,R h→nS B C h:=fun h r x h' d b=>f x _ ⟨h',h,b,r,d,rfl⟩
theorem ic{A B:aa}{h:jq}:seps [A,B] h↔sep A B h:=by simp only[seps,aR]
section
variable{α:Type}{enc:α→List Value}{k:Nat}{v:Value}{xs:List α}
theorem rv{i:Nat}{x:α}(hx:xs[i]?=some x):∀ h,sl enc k v xs h→sep (arr (blk v) (cz v+i * k) (enc x)) (hole enc k v xs i) h:=fun h s=>by
 have hi:=(List.getElem?_eq_some_iff.1 hx).1
 rcases s with ⟨_,rfl,_⟩ | ⟨b,cap,sp,rfl,hle,hk,hsp,s⟩
 ·simp at hx
 ·have hl:(rows enc (xs.take i)).length=i * k:=by
   rw[bJ fun y hy=>hk y (List.mem_of_mem_take hy),List.length_take,Nat.min_eq_left (Nat.le_of_lt hi)]
  have hxk:=hk x (List.mem_of_getElem? hx)
  have e:rows enc xs++sp=rows enc (xs.take i)++(enc x++(rows enc (xs.drop (i+1))++sp)):=by
   conv=>lhs;rw[q6 hx]
   rw[dn,gO];simp
  rw[e,bQ,bQ,hl,hxk,aX] at s
  simp only[blk,cz]
  refine bo (fun _ h=>h) (fun h hh=>⟨b,cap,sp,rfl,hle,hk,hsp,?_⟩) h s
  rw[show(i+1) * k=0+i * k+k from by rw[Nat.succ_mul];omega];exact hh
theorem lI{i:Nat}{x':α}(hi:i<xs.length)(hx':(enc x').length=k):∀ h,sep (arr (blk v) (cz v+i * k) (enc x')) (hole enc k v xs i) h→sl enc k v (xs.set i x') h:=fun h s=>by
 obtain⟨x,hx⟩:∃ x,xs[i]?=some x:=⟨xs[i],by simp[hi]⟩
 obtain⟨h3,h4,a3,⟨b,cap,sp,hv,hle,hk,hsp,a4⟩,d',e'⟩:=s
 subst hv
 have s':sep (arr b (0+i * k) (enc x')) (sep (arr b 0 (rows enc (xs.take i))) (arr b ((i+1) * k) (rows enc (xs.drop (i+1))++sp))) h:=⟨h3,h4,a3,a4,d',e'⟩
 have hl:(rows enc (xs.take i)).length=i * k:=by
  rw[bJ fun y hy=>hk y (List.mem_of_mem_take hy),List.length_take,Nat.min_eq_left (Nat.le_of_lt hi)]
 have e2:rows enc (xs.set i x')++sp=rows enc (xs.take i)++(enc x'++(rows enc (xs.drop (i+1))++sp)):=by
  rw[C1 hx,dn,gO];simp
 have hk':∀ y∈xs.set i x',(enc y).length=k:=fun y hy=>by
  rcases List.mem_or_eq_of_mem_set hy with h | h
  ·exact hk y h
  ·subst h;exact hx'
 right
 refine⟨b,cap,sp,by simp,by simpa using hle,hk',by simpa using hsp,?_⟩
 rw[e2,bQ,bQ,hl,hx',aX]
 rwa [show(i+1) * k=0+i * k+k from by rw[Nat.succ_mul];omega] at s'
theorem jU(h0:xs≠[]):∀ h,sl enc k v xs h→ ∃ b cap,v = .slice (some ⟨b,0,none⟩) xs.length cap∧xs.length≤cap:=fun h s=>by
 rcases s with ⟨_,hx0,_⟩ | ⟨b,cap,_,hv,hle,_⟩
 ·exact absurd hx0 h0
 ·exact⟨b,cap,hv,hle⟩
end
theorem jV{α:Type}(xs:List α)(i:Nat):xs.take i++xs.drop (i+1)=xs.eraseIdx i:=(List.eraseIdx_eq_take_drop_succ ..).symm
theorem nU{b o:Nat}{u:Value}{cs:List Value}:∀ h,arr b o (u::cs) h→seps [arr b o [u],arr b (o+1) cs] h:=fun h a=>by
 rw[show u::cs=[u]++cs from rfl,bQ] at a
 exact ic.2 a
theorem s8{b o:Nat}{u:Value}{cs:List Value}:∀ h,seps [arr b o [u],arr b (o+1) cs] h→arr b o (u::cs) h:=fun h a=>by
 rw[show u::cs=[u]++cs from rfl,bQ]
 exact ic.1 a
/-! gates -/
def eo(b o:Nat)(m:dt):aa:=hZ (fun _:Value=>True) fun u=>[arr b o [u,.bool m.held,.int .i64 m.owner],sl cF 2 u m.wait]
def gM(b o:Nat)(m:jo):aa:=hZ (fun _:Value=>True) fun u=>[arr b o [u,.int .i64 m.count],sl cF 2 u m.wait]
theorem Dz{v:Value}{l:List dt}{i:Nat}{m:dt}(hm:l[i]?=some m):∀ h,ej v l h→seps [eo (blk v) (cz v+i * 3) m,nS (eo (blk v) (cz v+i * 3)) (fun m'=>ej v (l.set i m'))] h:=fun h ⟨xs,hxs,a⟩=>by
 obtain⟨x,hx⟩:=aB (show i<xs.length by rw[← List.length_map (f:=(·.2)),hxs];exact(List.getElem?_eq_some_iff.1 hm).1)
 have hxm:x.2=m:=by have:=nN hxs hx;rw[hm] at this;exact(Option.some.inj this).symm
 rw[ic] at a ⊢
 have a2:sep (sep (arr (blk v) (cz v+i * 3) (ln x)) (hole ln 3 v xs i)) (sep (sl cF 2 x.1 x.2.wait) (dH (fun x:Value×dt=>sl cF 2 x.1 x.2.wait) (xs.eraseIdx i))) h:=bo (rv hx) (fun g b=>by rw[iW _ hx] at b;exact b) h a
 rw[aN,aX (hole ln 3 v xs i), ← aN] at a2
 refine bo ?_ ?_ h a2
 ·intro g b;exact⟨x.1,trivial,by rw[ic, ← hxm];exact b⟩
 ·refine nT fun m' g b=>?_
  obtain⟨h1,h2,⟨u, -,b1⟩,b2,d,rfl⟩:=b
  refine⟨xs.set i (u,m'),by show(xs.set i (u,m')).map (·.2)=_;rw[List.map_set,show xs.map (·.2)=l from hxs],?_⟩
  rw[ic] at b1 ⊢
  have b3:sep (sep (arr (blk v) (cz v+i * 3) (ln (u,m'))) (sl cF 2 u m'.wait)) (sep (hole ln 3 v xs i) (dH (fun x:Value×dt=>sl cF 2 x.1 x.2.wait) (xs.eraseIdx i))) (join h1 h2):=⟨h1,h2,b1,b2,d,rfl⟩
  rw[aN,aX (sl cF 2 u m'.wait), ← aN] at b3
  refine bo (lI (List.getElem?_eq_some_iff.1 hx).1 rfl) (fun g c=>?_) _ b3
  rw[nF _ _ (List.getElem?_eq_some_iff.1 hx).1];exact c
theorem DA{v:Value}{l:List jo}{i:Nat}{m:jo}(hm:l[i]?=some m):∀ h,fo v l h→seps [gM (blk v) (cz v+i * 2) m,nS (gM (blk v) (cz v+i * 2)) (fun m'=>fo v (l.set i m'))] h:=fun h ⟨xs,hxs,a⟩=>by
 obtain⟨x,hx⟩:=aB (show i<xs.length by rw[← List.length_map (f:=(·.2)),hxs];exact(List.getElem?_eq_some_iff.1 hm).1)
 have hxm:x.2=m:=by have:=nN hxs hx;rw[hm] at this;exact(Option.some.inj this).symm
 rw[ic] at a ⊢
 have a2:sep (sep (arr (blk v) (cz v+i * 2) (lE x)) (hole lE 2 v xs i)) (sep (sl cF 2 x.1 x.2.wait) (dH (fun x:Value×jo=>sl cF 2 x.1 x.2.wait) (xs.eraseIdx i))) h:=bo (rv hx) (fun g b=>by rw[iW _ hx] at b;exact b) h a
 rw[aN,aX (hole lE 2 v xs i), ← aN] at a2
 refine bo ?_ ?_ h a2
 ·intro g b;exact⟨x.1,trivial,by rw[ic, ← hxm];exact b⟩
 ·refine nT fun m' g b=>?_
  obtain⟨h1,h2,⟨u, -,b1⟩,b2,d,rfl⟩:=b
  refine⟨xs.set i (u,m'),by show(xs.set i (u,m')).map (·.2)=_;rw[List.map_set,show xs.map (·.2)=l from hxs],?_⟩
  rw[ic] at b1 ⊢
  have b3:sep (sep (arr (blk v) (cz v+i * 2) (lE (u,m'))) (sl cF 2 u m'.wait)) (sep (hole lE 2 v xs i) (dH (fun x:Value×jo=>sl cF 2 x.1 x.2.wait) (xs.eraseIdx i))) (join h1 h2):=⟨h1,h2,b1,b2,d,rfl⟩
  rw[aN,aX (sl cF 2 u m'.wait), ← aN] at b3
  refine bo (lI (List.getElem?_eq_some_iff.1 hx).1 rfl) (fun g c=>?_) _ b3
  rw[nF _ _ (List.getElem?_eq_some_iff.1 hx).1];exact c
theorem DB{v:Value}{l:List (List cV)}{i:Nat}{m:List cV}(hm:l[i]?=some m):∀ h,ia v l h→seps [iv (blk v) (cz v+i * 1) m,nS (iv (blk v) (cz v+i * 1)) (fun m'=>ia v (l.set i m'))] h:=fun h ⟨xs,hxs,a⟩=>by
 obtain⟨x,hx⟩:=aB (show i<xs.length by rw[← List.length_map (f:=(·.2)),hxs];exact(List.getElem?_eq_some_iff.1 hm).1)
 have hxm:x.2=m:=by have:=nN hxs hx;rw[hm] at this;exact(Option.some.inj this).symm
 rw[ic] at a ⊢
 have a2:sep (sep (arr (blk v) (cz v+i * 1) (cj x)) (hole cj 1 v xs i)) (sep (sl cF 2 x.1 x.2) (dH (fun x:Value×List cV=>sl cF 2 x.1 x.2) (xs.eraseIdx i))) h:=bo (rv hx) (fun g b=>by rw[iW _ hx] at b;exact b) h a
 rw[aN,aX (hole cj 1 v xs i), ← aN] at a2
 refine bo ?_ ?_ h a2
 ·intro g b;exact⟨x.1,trivial,by rw[ic, ← hxm];exact b⟩
 ·refine nT fun m' g b=>?_
  obtain⟨h1,h2,⟨u, -,b1⟩,b2,d,rfl⟩:=b
  refine⟨xs.set i (u,m'),by show(xs.set i (u,m')).map (·.2)=_;rw[List.map_set,show xs.map (·.2)=l from hxs],?_⟩
  rw[ic] at b1 ⊢
  have b3:sep (sep (arr (blk v) (cz v+i * 1) (cj (u,m'))) (sl cF 2 u m')) (sep (hole cj 1 v xs i) (dH (fun x:Value×List cV=>sl cF 2 x.1 x.2) (xs.eraseIdx i))) (join h1 h2):=⟨h1,h2,b1,b2,d,rfl⟩
  rw[aN,aX (sl cF 2 u m'), ← aN] at b3
  refine bo (lI (List.getElem?_eq_some_iff.1 hx).1 rfl) (fun g c=>?_) _ b3
  rw[nF _ _ (List.getElem?_eq_some_iff.1 hx).1];exact c
theorem z6{b o:Nat}{m:dt}:∀ h,seps [iv b o m.wait,arr b (o+1) [.bool m.held,.int .i64 m.owner]] h→eo b o m h:=fun h a=>by
 rw[ic] at a
 obtain⟨h1,h2,⟨u, -,b1⟩,b2,d,rfl⟩:=a
 refine⟨u,trivial,?_⟩
 rw[ic] at b1 ⊢
 have b3:sep (sep (arr b o [u]) (sl cF 2 u m.wait)) (arr b (o+1) [.bool m.held,.int .i64 m.owner]) (join h1 h2):=⟨h1,h2,b1,b2,d,rfl⟩
 rw[aN,hJ (sl cF 2 u m.wait), ← aN] at b3
 exact bo (fun g c=>s8 g (ic.2 c)) (fun _ c=>c) _ b3
theorem qH{b o:Nat}{m:jo}:∀ h,seps [iv b o m.wait,arr b (o+1) [.int .i64 m.count]] h→gM b o m h:=fun h a=>by
 rw[ic] at a
 obtain⟨h1,h2,⟨u, -,b1⟩,b2,d,rfl⟩:=a
 refine⟨u,trivial,?_⟩
 rw[ic] at b1 ⊢
 have b3:sep (sep (arr b o [u]) (sl cF 2 u m.wait)) (arr b (o+1) [.int .i64 m.count]) (join h1 h2):=⟨h1,h2,b1,b2,d,rfl⟩
 rw[aN,hJ (sl cF 2 u m.wait), ← aN] at b3
 exact bo (fun g c=>s8 g (ic.2 c)) (fun _ c=>c) _ b3
def Hi(v:Value)(n k:Nat)(i:Int):Value:=.pointer (if 0≤i∧i<(n:Int) then some ⟨blk v,cz v+i.toNat * k,none⟩ else none)
/-! searches -/
def idxP{α:Type}(p:α→Bool):List α→Nat→Int
 | [],_ => -1
 | x::l,k=>if p x=true then (k:Int) else idxP p l (k+1)
theorem jW{α:Type}{p:α→Bool}{l:List α}{k:Nat}{x:α}(h:l[k]?=some x)(hp:p x=true):idxP p (l.drop k) k=(k:Int):=by rw[drop_cons h,idxP,if_pos hp]
theorem iQ{α:Type}{p:α→Bool}{l:List α}{k:Nat}{x:α}(h:l[k]?=some x)(hp:p x=false):idxP p (l.drop k) k=idxP p (l.drop (k+1)) (k+1):=by rw[drop_cons h,idxP,if_neg (by rw[hp];simp)]
theorem jX{α:Type}{p:α→Bool}{l:List α}{k:Nat}(h:l.length≤k):idxP p (l.drop k) k = -1:=by rw[List.drop_of_length_le h];rfl
theorem iZ{α:Type}{p:α→Bool}:∀ (l:List α) (k:Nat),decide (0≤idxP p l k)=l.any p
 | [],_=>rfl
 | x::l,k=>by
  rw[idxP,List.any_cons]
  cases h:p x with
  | true=>rw[if_pos rfl];simp
  | false=>rw[if_neg (by simp),iZ l (k+1),Bool.false_or]
theorem uU{α β:Type}{p:β→Bool}{xs:List (α×β)}{l:List β}(h:xs.map (·.2)=l):(xs.any fun x=>p x.2)=l.any p:=by rw[← h,List.any_map];rfl
end Go.SLYtefdijgllbkmfaaGreat
namespace Go.SLYtefdijgllbkmfaaGreat
open Go Go.RowKit
theorem getD_some{α:Type}{l:List α}{d:α}{n:Nat}(h:n<l.length):l[n]?=some (l.getD n d):=by
 rw[List.getD_eq_getElem?_getD,List.getElem?_eq_getElem h];rfl
section
variable{P:Program}{W:World}{N:Nat}{L:List (Nat×Option Value)}{H:List aa}{T:TypeId}
end
/-! slots -/
def hN(h:Int):Nat:=(h % 65536-1).toNat
def jJ(l:List (Bool×Int))(n:Nat):Bool×Int:=l.getD n (false,0)
theorem s9{l:List (Bool×Int)}{h:Int}(e:h % 65536=0):bj l h=none:=by unfold bj;rw[if_pos e]
theorem find_eq{l:List (Bool×Int)}{h:Int}(e:¬h % 65536=0):bj l h=if (decide ((l.length:Int)≤(hN h:Int)) || !(jJ l (hN h)).1 || decide (dh (jJ l (hN h)).2 (hN h)≠h))=true then none else some (hN h):=by
 unfold bj
 rw[if_neg e]
 have hb:0≤h % 65536-1:=by omega
 have hc:(hN h:Int)=h % 65536-1:=by unfold hN;omega
 rw[hc]
 by_cases hl:(l.length:Int)≤h % 65536-1
 ·rw[show l[(h % 65536-1).toNat]?=none from by rw[List.getElem?_eq_none];omega]
  simp[hl]
 ·rw[getD_some (d:=(false,0)) (show(h % 65536-1).toNat<l.length by omega)]
  unfold jJ hN
  simp only[hl,decide_false,Bool.false_or]
  generalize l.getD (h % 65536-1).toNat (false,0)=o
  obtain⟨u,t⟩:=o
  cases u <;> simp <;> rfl
theorem uV{l:List (Bool×Int)}{h:Int}{n:Nat}(e:bj l h=some n):n<l.length∧n=hN h∧(jJ l n).1=true∧dh (jJ l n).2 n=h:=by
 by_cases e0:h % 65536=0
 ·rw[s9 e0] at e;cases e
 ·rw[find_eq e0] at e
  split at e
  ·cases e
  ·rename_i hc
   cases e
   simp only[Bool.not_eq_true,Bool.or_eq_false_iff,decide_eq_false_iff_not,Bool.not_eq_false',ne_eq,Decidable.not_not] at hc
   exact⟨by omega,rfl,hc.1.2,hc.2⟩
theorem FO{h:Int}(e:¬h % 65536=0):h % 65536-1=(hN h:Int):=by unfold hN;omega
def Jv(o:Option Nat):Value:=.tuple #[.int .i64 ((o.getD 0:Nat):Int),.bool o.isSome]
theorem wP{h:Int}(a:0≤h):h.tmod 65536=h % 65536:=Int.tmod_eq_emod_of_nonneg a
theorem yH{l:List (Bool×Int)}{h:Int}(e:bj l h=none):slotFreed l h=l:=by unfold slotFreed;rw[e]
theorem ry{l:List (Bool×Int)}{h:Int}{n:Nat}(e:bj l h=some n):slotFreed l h=l.set n (false,(jJ l n).2):=by unfold slotFreed;rw[e];rfl
theorem z7{t:Int}{n:Nat}(hn:0<n)(hb:n≤1000000000) : -9223372036854775808≤t.tmod n+n∧t.tmod n+n≤9223372036854775807:=by
 have h1:=Int.lt_tmod_of_pos t (show(0:Int)<n by omega)
 have h2:=Int.tmod_lt_of_pos t (show(0:Int)<n by omega)
 omega
/-! gates -/
structure gE(g:Gates):Prop where
 m:g.aG.length≤1000000
 c:g.bm.length≤1000000
 s:g.cf.length≤1000000
 mw:∀ x∈g.aG,x.wait.length≤1000000
 cw:∀ x∈g.bm,x.length≤1000000
 sw:∀ x∈g.cf,x.wait.length≤1000000
section
variable{W:World}
theorem uW{α β:Type}{enc:α→List Value}{k:Nat}{f:β→Value}{g:β→List α}{xs:List β}{x:β}(hx:x∈xs){H:List aa}(t:At H (dH (fun x=>sl enc k (f x) (g x)) xs)):Rd W H enc k (f x) (g x):=by
 obtain⟨i,hi⟩:=List.getElem?_of_mem hx
 exact Rd.sub t fun h a=>⟨_,by rw[iW _ hi] at a;exact a⟩
end
theorem DC{g:Gates}{xm:List (Value×dt)}{xc:List (Value×List cV)}{xs:List (Value×jo)}{who:Int}(h1:xm.map (·.2)=g.aG)(h2:xc.map (·.2)=g.bm)(h3:xs.map (·.2)=g.cf) :
  ((xm.any fun x=>lj x.2.wait who) || (xc.any fun x=>lj x.2 who) || (xs.any fun x=>lj x.2.wait who))=g.waits who:=by
 unfold Gates.waits
 rw[uU (p:=fun m:dt=>lj m.wait who) h1,uU (p:=fun m:List cV=>lj m who) h2,uU (p:=fun m:jo=>lj m.wait who) h3]
theorem uX{l:List cV}{c:Int}(h:l.length=0):aK l c=(⟨0,0⟩,false,l):=by unfold aK;rw[if_pos h]
theorem qI{l:List cV}{c:Int}(h:¬l.length=0):aK l c=(l.getD (pick c l.length) ⟨0,0⟩,true,l.eraseIdx (pick c l.length)):=by unfold aK;rw[if_neg h]
theorem gR{α:Type}{l:List α}{i:Int}(h:¬(0≤i∧i<(l.length:Int))):eU l i=none:=by
 unfold eU
 split
 ·rfl
 ·rw[List.getElem?_eq_none];omega
theorem cq{α:Type}{l:List α}{i:Int}(h:0≤i∧i<(l.length:Int)):∃ x,l[i.toNat]?=some x∧eU l i=some x:=by
 obtain⟨x,hx⟩:=aB (show i.toNat<l.length by omega)
 exact⟨x,hx,by unfold eU;rw[if_neg (by omega),hx]⟩
theorem mf{α:Type}{l:List α}{i:Int}{x:α}(h:eU l i=some x):0≤i∧i<(l.length:Int)∧l[i.toNat]?=some x:=by
 unfold eU at h
 split at h
 ·cases h
 ·have:=(List.getElem?_eq_some_iff.1 h).1
  exact⟨by omega,by omega,h⟩
theorem qJ{v:Value}{n k:Nat}{i:Int}(h:¬(0≤i∧i<(n:Int))):Hi v n k i = .pointer none:=by unfold Hi;rw[if_neg h]
theorem fe{v:Value}{n k:Nat}{i:Int}(h:0≤i∧i<(n:Int)):Hi v n k i = .pointer (some ⟨blk v,cz v+i.toNat * k,none⟩):=by unfold Hi;rw[if_pos h]
def iJ:dt:=⟨[],false,0⟩
theorem uY{m:dt}{who:Int}(h:m.held=true):m.lock who=(false,{m with wait:=m.wait++[⟨who,0⟩] }):=by unfold dt.lock;rw[if_pos h]
theorem uZ{m:dt}{who:Int}(h:m.held=false):m.lock who=(true,{m with held:=true,owner:=who }):=by unfold dt.lock;rw[if_neg (by rw[h];simp)]
end Go.SLYtefdijgllbkmfaaGreat
namespace Go.SLYtefdijgllbkmfaaGreat
open Go Go.RowKit
structure pq(N:Nat)(L:List (Nat×Option Value))(D:List Deferred)(a:Act):Prop where
 size:a.tmps.size=N
 get:∀ k v,look L k=some v→a.tmps[k]?=some v
 defers:a.defers=D
theorem pq.env{N:Nat}{L:List (Nat×Option Value)}{D:List Deferred}{a:Act}(h:pq N L D a):Env N L (du a []):=⟨h.size,h.get,rfl⟩
theorem mW(a:Act)(ds:List Deferred):(du a ds).eval=a.eval:=by funext x;cases x <;> rfl
theorem pq.put{N:Nat}{L:List (Nat×Option Value)}{D:List Deferred}{a:Act}(h:pq N L D a){d:Nat}(hd:d<N)(v:Value):pq N ((d,some v)::L) D (a.put (some d) v) :=
 ⟨(h.env.put hd v).size,(h.env.put hd v).get,h.defers⟩
section
variable{P:Program}{W:World}{N:Nat}{Q:Exit→Act→World→Prop}{L:List (Nat×Option Value)}{H K R:List aa}{O:Array Oper}{T:TypeId}{rest:List Oper}{D:List Deferred}{ks:List Nat}
theorem DD{o:Oper}{a:Act}{w:World}{Kp Kp':Act→World→Prop}{Q':Exit→Act→World→Prop}(h:∀ ds u w',Kp ((du a ds).put o.dst u) w'→Kp' ((du a (ds++a.defers)).put o.dst u) w')(hh:o.wp P (du a []) w Kp QF):o.wp P a w Kp' Q':=by
 unfold Oper.wp at *
 rw[mW] at hh
 generalize (execOp a.eval o).run P w=r at *
 have h0:=h []
 rw[List.nil_append,show du a a.defers=a from rfl] at h0
 cases r with
 | ok n w' =>
  cases n <;> simp only[Oper.upon] at hh ⊢
  case value v=>exact h0 _ _ hh
  case skip=>exact h0 _ _ hh
  case enter f args =>
   refine Calls.mono hh (fun e w'' he=>?_)
   cases e with
   | returned v=>exact h0 _ _ he
   | panicked c=>exact he.elim
   | outgrown=>obtain⟨_,_,hf⟩:=he;exact hf.elim
  case row r' args=>exact Rows.mono hh (fun v w'' he=>h0 _ _ he)
  case defer d=>exact h [d] undef w' hh
 | halt x w'=>cases x <;> simp only[Oper.upon] at hh ⊢ <;> exact hh.elim
theorem af.d{o:Oper}{k:List (Nat×Option Value)→List aa→Prop}{a:Act}{w:World}{Kp:Act→World→Prop}{Q':Exit→Act→World→Prop}(hd:af P W N o L H k)(ha:pq N L D a)(hs:Sat W w (seps H))(h:∀ L' H',k L' H'→ ∀ a' w',pq N L' D a'→Sat W w' (seps H')→Kp a' w'):o.wp P a w Kp Q':=by
 refine DD (Kp:=fun a' w'=>∃ L' H',k L' H'∧Env N L' a'∧Sat W w' (seps H')) (fun ds u w' ⟨L',H',hk,he,hs'⟩=>?_) (hd _ w ha.env hs _ fun L' H' hk a' w' ha' hs'=>⟨L',H',hk,ha',hs'⟩)
 have e:((du a ds).put o.dst u).defers=ds:=by cases o.dst <;> rfl
 rw[he.defers] at e
 subst e
 refine h L' H' hk _ w' ⟨?_,fun k v hv=>?_,?_⟩ hs'
 ·have:=he.size;cases ho:o.dst <;> rw[ho] at this <;> exact this
 ·have:=he.get k v hv;cases ho:o.dst <;> rw[ho] at this <;> exact this
 ·rw[List.nil_append];cases o.dst <;> exact ha.defers
theorem Y.d{op:Op}{v:Value}(hy:Y P W N op T L H v)(dst:Option Tmp)(pos:String)(after:Array Edge)(guard:Option (Nat×Bool)){a:Act}{w:World}(ha:pq N L D a)(hs:Sat W w (seps H)):(execOp a.eval ⟨dst,op,T,pos,after,guard⟩).run P w = .ok (.value v) w:=by
 have:=hy dst pos after guard _ w ha.env hs
 rwa [mW] at this
def rz(W:World)(N:Nat)(D:List Deferred)(Q:Exit→Act→World→Prop)(e:Exit)(L:List (Nat×Option Value))(H:List aa):Prop:=∀ a w,pq N L D a→Sat W w (seps H)→Q e a w
def kJ(P:Program)(W:World)(N:Nat)(D:List Deferred)(Q:Exit→Act→World→Prop)(c:Code)(L:List (Nat×Option Value))(H:List aa):Prop:=∀ a w,pq N L D a→Sat W w (seps H)→c.wp P Q a w
def fH(P:Program)(W:World)(N:Nat)(D:List Deferred)(O:Array Oper)(Q:Exit→Act→World→Prop)(ops:List Oper)(L:List (Nat×Option Value))(H:List aa):Prop:=∀ a w,pq N L D a→Sat W w (seps H)→wpList P O Q ops a w
def fu(P:Program)(W:World)(N:Nat)(D:List Deferred)(K:List aa)(O:Array Oper)(Q:Exit→Act→World→Prop)(ks:List Nat)(ops:List Oper)(L:List (Nat×Option Value))(H:List aa):Prop:=∀ a w,pq N L D a→Sat W w (seps H)→wpKL P O (fun w=>Sat W w (seps K)) Q ks ops a w
theorem aP.HS{x:Operand}{f:FuncId}{us cap:Array Value}{ts:Array TypeId}{pos:String}{after:Array Edge}(hx:ev L x=some (.func (.func f) us cap))(k:fH P W N [⟨.fn (.func f) cap,us⟩] O Q rest L H):aP P W N O Q (⟨none,.defer ⟨.value x, #[],ts⟩,T,pos,after,none⟩::rest) L H:=fun a w ha hs=>wpList_plain rfl fun Kp hK=>by
 unfold Oper.wp
 have hr:(execOp a.eval ⟨none,.defer ⟨.value x, #[],ts⟩,T,pos,after,none⟩).run P w = .ok (.defer ⟨.fn (.func f) cap,us⟩) w:=by
  simp[execOp,resolve,ha.eval hx,Deferred.ofValue]
 rw[hr]
 simp only[Oper.upon]
 exact hK _ _ (k _ w ⟨ha.size,ha.get,by simp[Act.put,ha.defers]⟩ hs)
theorem rz.ig{c:Code}(k:kJ P W N D Q c L H):rz W N D (Exit.then (c.wp P Q) Q) .normal L H:=k
theorem kJ.seq{x y:Code}(k:kJ P W N D (Exit.then (y.wp P Q) Q) x L H):kJ P W N D Q (.seq x y) L H:=fun a w ha hs=>wp_seq (k a w ha hs)
theorem kJ.region{id:Nat}{l:List Oper}(k:fH P W N D l.toArray Q l L H):kJ P W N D Q (.region id l.toArray false) L H:=fun a w ha hs=>wp_region_lit (k a w ha hs)
theorem kJ.draw{id:Nat}{l:List Oper}(K:List aa)(ks:List Nat)(hm:P.follows .mixedOrders=true)(hB:qF l ks=true)(h:fu P W N D K l.toArray Q ks l L H):kJ P W N D Q (.region id l.toArray true) L H :=
 fun a w ha hs=>qa (C:=fun w=>Sat W w (seps K)) ks hm hB (h a _ ha hs.drew)
theorem kJ.ret(k:rz W N D Q .ret L H):kJ P W N D Q .ret L H:=fun a w ha hs=>wp_ret (k a w ha hs)
theorem fH.nil(k:rz W N D Q .normal L H):fH P W N D O Q [] L H:=fun a w ha hs=>wpList_nil (k a w ha hs)
theorem fH.y{op:Op}{pos:String}{after:Array Edge}{d:Nat}{v:Value}(hN:Nat.blt d N=true)(hy:Y P W N op T L H v)(k:fH P W N D O Q rest ((d,some v)::L) H) :
  fH P W N D O Q (⟨some d,op,T,pos,after,none⟩::rest) L H:=fun a w ha hs =>
 wpList_plain rfl fun Kp hK=>by
  unfold Oper.wp
  rw[hy.d _ _ _ _ ha hs]
  exact hK _ _ (k _ w (ha.put (Nat.blt_eq.mp hN) v) hs)
theorem fH.aw{o:Oper}{k:List (Nat×Option Value)→List aa→Prop}(hg:o.guard=none)(hd:af P W N o L H k)(h:∀ L' H',k L' H'→fH P W N D O Q rest L' H'):fH P W N D O Q (o::rest) L H:=fun a w ha hs =>
 wpList_plain hg fun Kp hK=>hd.d ha hs fun L' H' hk a' w' ha' hs'=>hK _ _ (h L' H' hk a' w' ha' hs')
theorem fu.nil(h:rz W N D Q .normal L H):fu P W N D K O Q ks [] L H:=fun a w ha hs=>by cases ks <;> exact h a w ha hs
theorem fu.k{op:Op}{pos:String}{after:Array Edge}{d:Nat}{v:Value}(hN:Nat.blt d N=true)(hK:∀ w,Sat W w (seps H)→Sat W w (seps K))(hy:Y P W N op T L K v)(h:fu P W N D K O Q ks rest ((d,some v)::L) H) :
  fu P W N D K O Q (0::ks) (⟨some d,op,T,pos,after,none⟩::rest) L H:=fun a w ha hs=>by
 simp only[wpKL]
 exact⟨hK w hs,v,.inl ⟨bf rfl,fun w' hs'=>hy.d _ _ _ _ ha hs'⟩,h _ w (ha.put (Nat.blt_eq.mp hN) v) hs⟩
theorem fu.s{op:Op}{pos:String}{after:Array Edge}{d:Nat}{v:Value}(hN:Nat.blt d N=true)(hy:Y P W N op T L H v)(h:fu P W N D K O Q ks rest ((d,some v)::L) H) :
  fu P W N D K O Q (1::ks) (⟨some d,op,T,pos,after,none⟩::rest) L H:=fun a w ha hs=>by
 simp only[wpKL]
 exact⟨v,.inl ⟨bf rfl,fun w' e=>by subst e;exact hy.d _ _ _ _ ha hs⟩,h _ w (ha.put (Nat.blt_eq.mp hN) v) hs⟩
theorem fu.d2{o:Oper}{k:List (Nat×Option Value)→List aa→Prop}(hg:o.guard=none)(hK:∀ w,Sat W w (seps H)→Sat W w (seps K))(hd:af P W N o L H k)(hK':∀ L' H',k L' H'→ ∀ w,Sat W w (seps H')→Sat W w (seps K))(h:∀ L' H',k L' H'→fu P W N D K O Q ks rest L' H') :
  fu P W N D K O Q (2::ks) (o::rest) L H:=fun a w ha hs=>by
 simp only[wpKL]
 refine⟨hK w hs,?_⟩
 rw[if_pos (bf hg)]
 exact hd.d ha hs fun L' H' hk a' w' ha' hs'=>⟨hK' L' H' hk w' hs',h L' H' hk a' w' ha' hs'⟩
theorem fu.d3{o:Oper}{k:List (Nat×Option Value)→List aa→Prop}(hg:o.guard=none)(hd:af P W N o L H k)(h:∀ L' H',k L' H'→fu P W N D K O Q ks rest L' H') :
  fu P W N D K O Q (3::ks) (o::rest) L H:=fun a w ha hs=>by
 simp only[wpKL]
 rw[if_pos (bf hg)]
 exact hd.d ha hs fun L' H' hk a' w' ha' hs'=>h L' H' hk a' w' ha' hs'
theorem fH.Kj{As:List aa}(t:aM H As R)(k:fH P W N D O Q rest L (As++R)):fH P W N D O Q rest L H:=fun a w ha hs=>k a w ha (t.sat hs)
theorem fH.mem{ops:List Oper}{H':List aa}(h:∀ w,Sat W w (seps H)→Sat W w (seps H'))(k:fH P W N D O Q ops L H'):fH P W N D O Q ops L H:=fun a w ha hs=>k a w ha (h w hs)
theorem fH.eS{ops:List Oper}{p:Prop}(h:∀ w,Sat W w (seps H)→p)(k:p→fH P W N D O Q ops L H):fH P W N D O Q ops L H:=fun a w ha hs=>k (h w hs) a w ha hs
theorem fH.HT{f:FuncId}{xs:Array Operand}{ts:Array TypeId}{pos:String}{after:Array Edge}{dst:Option Nat}{args:List Value}{pre:List aa}{X:Type}{en:X→Ending}{fact:X→Prop}{post:X→List aa}(hdst:∀ d,dst=some d→Nat.blt d N=true)
  (hc:∀ args w,(callFunc f args).run P w = .ok (.enter f args) w) (hx:evs L xs.toList=some args) (hfn:Bw P W f args pre X en fact post) (ht:aM H pre R) (hno:∀ x,en x≠.outgrown)
  (h1:∀ x v,en x = .returned v→fact x→fH P W N D O Q rest (match dst with | some d=>(d,some v)::L | none=>L) (post x++R)) (h2:∀ x c,en x = .panicked c→fact x→rz W N D Q (.panic c) L (post x++R)) :
  fH P W N D O Q (⟨dst,.call ⟨.value (.func f),xs,ts⟩,T,pos,after,none⟩::rest) L H:=fun a w ha hs=>wpList_plain rfl fun Kp hK=>by
 have e:xs.map a.eval=args.toArray:=by
  rw[← mW a [], ← ha.env.mI hx, ← List.map_toArray]
 have hs:=ht.sat hs
 rw[ah] at hs
 unfold Oper.wp
 have hr:(execOp a.eval ⟨dst,.call ⟨.value (.func f),xs,ts⟩,T,pos,after,none⟩).run P w = .ok (.enter f args.toArray) w:=by
  simp[execOp,resolve,Act.eval,Deferred.ofValue,invoke,e,hc]
 rw[hr]
 simp only[Oper.upon]
 refine(hfn _ w hs).mono fun en' w' ⟨x,he,hf,hs'⟩=>?_
 rw[← ah] at hs'
 subst he
 cases e2:en x with
 | returned v =>
  have h:=h1 x v e2 hf
  cases dst with
  | none=>exact hK _ _ (h _ _ ⟨ha.size,ha.get,ha.defers⟩ hs')
  | some d=>exact hK _ _ (h _ _ (ha.put (Nat.blt_eq.mp (hdst d rfl)) _) hs')
 | panicked c=>exact h2 x c e2 hf _ _ ha hs'
 | outgrown=>exact absurd e2 (hno x)
/-! a region in which a call panics: all that is read comes first -/
def Aa(P:Program)(W:World)(N:Nat)(K:List aa)(O:Array Oper)(Q:Exit→Act→World→Prop)(fuel:Nat)(li:Array Bool)(L:List (Nat×Option Value))(H:List aa):Prop :=
 ∀ a w,Env N L a→Sat W w (seps H)→wpAnyH P .any O Q (fun w=>Sat W w (seps K)) fuel li a w
theorem ax.held{id:Nat}{l:List Oper}(K:List aa)(hm:P.follows .mixedOrders=true)(h:Aa P W N K l.toArray Q l.toArray.size (Array.replicate l.toArray.size false) L H):ax P W N Q (.region id l.toArray true) L H:=fun a w ha hs=>wp_region_held hm (h a _ ha hs.drew)
def Jw(Q:Exit→Act→World→Prop):Prop:=∀ c d v a w,Q (.panic c) (a.put (some d) v) w→Q (.panic c) a w
theorem Aa.take(i:Nat){op:Op}{pos:String}{after:Array Edge}{d fuel:Nat}{li:Array Bool}{v:Value}(hi:O[i]?=some ⟨some d,op,T,pos,after,none⟩)(hs:Region.noSelect O=true)(hf:Region.free .any O li i=true)(hr:(Region.ready .any O li).contains i=true)(hQ:Jw Q)(hN:Nat.blt d N=true)
  (hK:∀ w,Sat W w (seps H)→Sat W w (seps K)) (hy:Y P W N op T L K v) (h:Aa P W N K O Q fuel (li.setIfInBounds i true) ((d,some v)::L) H):Aa P W N K O Q (fuel+1) li L H:=fun a w ha hs' =>
 wpAnyH_take hi hs hf hr (fun c a w=>hQ c d v a w) (.inl ⟨bf rfl,fun w' hw'=>hy _ _ _ _ a w' ha hw'⟩) (hK w hs') (h _ w (ha.put (Nat.blt_eq.mp hN) v) hs')
theorem Aa.Jx(i:Nat){f:FuncId}{xs:Array Operand}{ts:Array TypeId}{pos:String}{after:Array Edge}{d fuel:Nat}{li:Array Bool}{args:List Value}{pre:List aa}{X:Type}{en:X→Ending}{fact:X→Prop}{post:X→List aa}(hi:O[i]?=some ⟨some d,.call ⟨.value (.func f),xs,ts⟩,T,pos,after,none⟩)(hr:Region.ready .any O li=[i])
  (hc:∀ args w,(callFunc f args).run P w = .ok (.enter f args) w) (hx:evs L xs.toList=some args) (hfn:Bw P W f args pre X en fact post) (ht:aM H pre R) (hp:∀ x, ∃ c,en x = .panicked c)
  (h2:∀ x c,en x = .panicked c→fact x→cp W N Q (.panic c) L (post x++R)):Aa P W N K O Q (fuel+1) li L H:=fun a w ha hs=>by
 refine wpAnyH_all hr (by simp) fun j hj=>?_
 obtain rfl:j=i:=by simpa using hj
 have e:xs.map a.eval=args.toArray:=by
  rw[← ha.mI hx, ← List.map_toArray]
 have hs:=ht.sat hs
 rw[ah] at hs
 unfold wpOp
 rw[hi]
 simp only
 rw[if_pos (bf rfl)]
 left
 unfold Oper.wp
 have hr:(execOp a.eval ⟨some d,.call ⟨.value (.func f),xs,ts⟩,T,pos,after,none⟩).run P w = .ok (.enter f args.toArray) w:=by
  simp[execOp,resolve,Act.eval,Deferred.ofValue,invoke,e,hc]
 rw[hr]
 simp only[Oper.upon]
 refine(hfn _ w hs).mono fun en' w' ⟨x,he,hf,hs'⟩=>?_
 rw[← ah] at hs'
 subst he
 obtain⟨c,e2⟩:=hp x
 rw[e2]
 exact h2 x c e2 hf _ _ ha hs'
/-! what the model stands in for -/
theorem Y.ext {f : FuncId} {fn : Func} {e : Array Value → Sem Value} {xs : Array Operand} {ts : Array TypeId} {args : List Value} {v : Value} (hf : P.funcs[f]? = some fn) (hname : (fn.name == "runtime.NumGoroutine") = false) (hb : fn.body.isNone = true) (hn : Extern.findNext fn = none) (he : Extern.find fn = some e)
  (hx:evs L xs.toList=some args) (h:∀ w,(e args.toArray).run P w = .ok v w):Y P W N (.call ⟨.value (.func f),xs,ts⟩) T L H v:=fun dst pos after guard a w ha hs=>by
 have e2:xs.map a.eval=args.toArray:=by
  rw[← ha.mI hx, ← List.map_toArray]
 simp[execOp,resolve,Act.eval,Deferred.ofValue,invoke,e2,run_callFunc_extern hf hname hb hn he,h]
/-! numbers with a point -/
def jK(m n:Nat):Option Ordering:=Ieee.double.order m n
theorem Y.Jy{xT yT:TypeId}{x y:Operand}{m n:Nat}(hx:ev L x=some (.float .f64 m))(hy:ev L y=some (.float .f64 n)):Y P W N (.binOp .lss xT x y yT) T L H (.bool (jK m n == some .lt)):=Y.bin hx hy fun w=>rfl
theorem Y.KB{xT yT:TypeId}{x y:Operand}{m n:Nat}(hx:ev L x=some (.float .f64 m))(hy:ev L y=some (.float .f64 n)):Y P W N (.binOp .geq xT x y yT) T L H (.bool (jK m n == some .gt || jK m n == some .eq)):=Y.bin hx hy fun w=>rfl
theorem Y.KC{xT yT:TypeId}{x y:Operand}{m n:Nat}(hx:ev L x=some (.float .f64 m))(hy:ev L y=some (.float .f64 n))(hg:∀ w,(eqGuard .neq xT x y (.float .f64 m) (.float .f64 n)).run P w = .ok () w):Y P W N (.binOp .neq xT x y yT) T L H (.bool (jK m n != some .eq)):=Y.bin hx hy fun w=>by
 rw[Sem.run_bind,hg];rfl
def HU(o:Option Nat)(r:Nat):Prop:=match o with | some q=>r=q | none=>(jK r r == some .eq)=false
theorem Ab(t:Nat):(jK ((t % 2) * 2 ^ 63+0x7ff0000000000000+1+(t / 2) % (2 ^ 52-1)) ((t % 2) * 2 ^ 63+0x7ff0000000000000+1+(t / 2) % (2 ^ 52-1)) == some .eq)=false:=by
 have h1:t % 2<2:=Nat.mod_lt _ (by decide)
 have h2:(t / 2) % (2 ^ 52-1)<2 ^ 52-1:=Nat.mod_lt _ (by decide)
 generalize t % 2=s at *
 generalize (t / 2) % (2 ^ 52-1)=q at *
 have hr:(s * 2 ^ 63+0x7ff0000000000000+1+q) % Ieee.double.signWeight=0x7ff0000000000001+q:=by
  have:Ieee.double.signWeight=2 ^ 63:=by decide
  rw[this];omega
 have hread:∃ b f,Ieee.double.read (s * 2 ^ 63+0x7ff0000000000000+1+q) = .nan b f:=by
  unfold Ieee.Format.read
  simp only[hr]
  have e1:Ieee.double.binade=4503599627370496:=by decide
  have e2:Ieee.double.infRung=9218868437227405312:=by decide
  rw[e1,e2,if_neg (by omega),if_neg (by omega),if_neg (by omega)]
  exact⟨_,_,rfl⟩
 obtain⟨b,f,e⟩:=hread
 unfold jK Ieee.Format.order
 rw[e]
 rfl
theorem af.FP{op:BinOp}{xT yT:TypeId}{x y:Operand}{pos:String}{after:Array Edge}{guard:Option (Nat×Bool)}{d m n:Nat}(o:Option Nat)(hN:Nat.blt d N=true)(hx:ev L x=some (.float .f64 m))(hy:ev L y=some (.float .f64 n))
  (h:∀ w,(do eqGuard op xT x y (.float .f64 m) (.float .f64 n);binOp op xT (.float .f64 m) (.float .f64 n):Sem Value).run P w=(match o with | some r=>pure (.float .f64 r) | none=>do pure (.float .f64 (← choose (.nanBits .f64 m n))):Sem Value).run P w) :
  af P W N ⟨some d,.binOp op xT x y yT,T,pos,after,guard⟩ L H (fun L1 H1=>∃ r,HU o r∧L1=(d,some (.float .f64 r))::L∧H1=H):=fun a w ha hs Kp hK=>by
 have hrun:∀ v w',(match o with | some r=>pure (.float .f64 r) | none=>do pure (.float .f64 (← choose (.nanBits .f64 m n))):Sem Value).run P w = .ok v w'→(execOp a.eval ⟨some d,.binOp op xT x y yT,T,pos,after,guard⟩).run P w = .ok (.value v) w':=fun v w' hv=>by
  simp only[execOp,ha.eval hx,ha.eval hy]
  have h2:=(h w).trans hv
  show((do eqGuard op xT x y (.float .f64 m) (.float .f64 n);binOp op xT (.float .f64 m) (.float .f64 n):Sem Value) >>= fun v=>pure (Next.value v)).run P w=_
  rw[Sem.run_bind,h2]
  rfl
 unfold Oper.wp
 cases o with
 | some r =>
  rw[hrun (.float .f64 r) w rfl]
  simp only[Oper.upon]
  exact hK _ _ ⟨r,rfl,rfl,rfl⟩ _ _ (ha.put (Nat.blt_eq.mp hN) _) hs
 | none =>
  have hq:(choose (.nanBits .f64 m n)).run P w = .ok ((Question.nanBits .f64 m n).cut (w.tape w.drawn (.nanBits .f64 m n))) w.drew:=by
   rw[run_choose_drew];simp[Question.forced]
  rw[hrun (.float .f64 ((Question.nanBits .f64 m n).cut (w.tape w.drawn (.nanBits .f64 m n)))) w.drew (by simp only[Sem.run_bind,hq,Result.andThen_ok,Sem.run_pure])]
  simp only[Oper.upon]
  refine hK _ _ ⟨_,?_,rfl,rfl⟩ _ _ (ha.put (Nat.blt_eq.mp hN) _) hs.drew
  show(jK _ _ == some .eq)=false
  simp only[Question.cut]
  exact Ab _
theorem Y.toFloat{src dst':TypeId}{x:Operand}{j:IntKind}{n:Int}(h:∀ w,(convert src dst' (.int j n)).run P w = .ok (.float .f64 (FloatKind.f64.nearest n)) w)(hx:ev L x=some (.int j n)):Y P W N (.convert src dst' x) T L H (.float .f64 (FloatKind.f64.nearest n)):=fun dst pos after guard a w ha hs=>by
 simp only[execOp,ha.eval hx]
 exact bI (h w)
theorem Y.HV{src dst':TypeId}{x:Operand}{j:IntKind}{n:Nat}{k:Int}(h:∀ w,(convert src dst' (.float .f64 n)).run P w = .ok (.int j k) w)(hx:ev L x=some (.float .f64 n)):Y P W N (.convert src dst' x) T L H (.int j k):=fun dst pos after guard a w ha hs=>by
 simp only[execOp,ha.eval hx]
 exact bI (h w)
end
end Go.SLYtefdijgllbkmfaaGreat
namespace Go.SLYtefdijgllbkmfaaGreat
open Go Go.RowKit
theorem wQ(n:Nat):mF (n:Int)=(jK n n != some .eq):=by
 unfold mF Kz jK bne
 rw[Int.toNat_natCast]
theorem pt(n:Nat):ft (n:Int)=if (jK n n != some .eq)=true then mK else (n:Int):=by unfold ft;rw[wQ]
theorem jA{o:Option Nat}{r:Nat}(h:HU o r):ft (r:Int)=Bq o:=by
 cases o with
 | some q=>rw[show r=q from h];rfl
 | none =>
  have h:(jK r r == some .eq)=false:=h
  rw[pt]
  unfold bne
  rw[h];rfl
theorem gw{a:Int}(h:0≤a):(jK a.toNat a.toNat != some .eq)=mF a:=by
 rw[← wQ,Int.toNat_of_nonneg h]
/-! from a number to a whole one -/
theorem DE:Ieee.double.read nQ = .number false 4503599627370496 11:=by decide +kernel
theorem Bx:Ieee.double.read nR = .number true 4503599627370496 11:=by decide +kernel
open Ieee in
theorem DF(s:Bool)(n drop:Nat):Toward.zero.cut s n drop=n / 2 ^ min drop (n.log2+2):=by
 unfold Toward.cut
 simp[Nat.one_shiftLeft]
theorem HW{n drop b:Nat}(h:n≤b * 2 ^ drop):n / 2 ^ min drop (n.log2+2)≤b:=by
 rcases Nat.le_total drop (n.log2+2) with hd | hd
 ·rw[Nat.min_eq_left hd]
  exact Nat.div_le_of_le_mul (by rw[Nat.mul_comm];exact h)
 ·rw[Nat.min_eq_right hd]
  have:n<2 ^ (n.log2+2):=Nat.lt_of_lt_of_le Nat.lt_log2_self (Nat.pow_le_pow_right (by decide) (by omega))
  rw[Nat.div_eq_of_lt this]
  exact Nat.zero_le _
theorem HX{n drop b:Nat}(hb:0<b)(h:n<b * 2 ^ drop):n / 2 ^ min drop (n.log2+2)<b:=by
 rcases Nat.le_total drop (n.log2+2) with hd | hd
 ·rw[Nat.min_eq_left hd]
  exact Nat.div_lt_of_lt_mul (by rw[Nat.mul_comm];exact h)
 ·rw[Nat.min_eq_right hd]
  have:n<2 ^ (n.log2+2):=Nat.lt_of_lt_of_le Nat.lt_log2_self (Nat.pow_le_pow_right (by decide) (by omega))
  rw[Nat.div_eq_of_lt this]
  exact hb
open Ieee in
theorem FQ(m:Nat)(i:Int):let base:=min i 11
  (m <<< (i-base).toNat<4503599627370496 <<< (11-base).toNat→m <<< i.toNat<9223372036854775808 * 2 ^ (-i).toNat)∧(m <<< (i-base).toNat≤4503599627370496 <<< (11-base).toNat→m <<< i.toNat≤9223372036854775808 * 2 ^ (-i).toNat):=by
 intro base
 simp only[Nat.shiftLeft_eq]
 have key:∃ c:Nat,0<c∧(m * 2 ^ i.toNat)=(m * 2 ^ (i-base).toNat) * c∧9223372036854775808 * 2 ^ (-i).toNat=4503599627370496 * 2 ^ (11-base).toNat * c:=by
  rcases(show i<0∨0≤i by omega) with hi | hi
  ·refine⟨1,by decide,?_,?_⟩
   ·rw[show base=i from by show min i 11=i;omega,show i.toNat=0 from by omega,show(i-i).toNat=0 from by omega];simp
   ·rw[show base=i from by show min i 11=i;omega,show(11-i).toNat=11+(-i).toNat from by omega,Nat.pow_add,Nat.mul_one, ← Nat.mul_assoc]
  ·refine⟨2 ^ base.toNat,Nat.pow_pos (by decide),?_,?_⟩
   ·rw[Nat.mul_assoc, ← Nat.pow_add,show(i-base).toNat+base.toNat=i.toNat from by show(i-min i 11).toNat+(min i 11).toNat=_;omega]
   ·rw[Nat.mul_assoc, ← Nat.pow_add,show(11-base).toNat+base.toNat=11 from by show(11-min i 11).toNat+(min i 11).toNat=_;omega,show(-i).toNat=0 from by omega]
 obtain⟨c,hc,e1,e2⟩:=key
 rw[e1,e2]
 exact⟨fun h=>Nat.mul_lt_mul_of_pos_right h hc,fun h=>Nat.mul_le_mul_right c h⟩
theorem HY(x y:Int):compare x y=if x<y then .lt else if x=y then .eq else .gt:=rfl
theorem HZ{x y:Int}(h:y<x):compare x y = .gt:=by rw[HY,if_neg (by omega),if_neg (by omega)]
theorem H2{x y:Int}(h:x<y):compare x y = .lt:=by rw[HY,if_pos h]
theorem H3(x:Int):compare x x = .eq:=by rw[HY,if_neg (by omega),if_pos rfl]
theorem wR(m k:Nat):Ieee.signed false m k=((m <<< k:Nat):Int):=rfl
theorem DG(m k:Nat):Ieee.signed true m k = -((m <<< k:Nat):Int):=rfl
open Ieee in
theorem Bz{n:Nat}(h1:(jK n n != some .eq)=false)(h2:(jK n nQ == some .gt || jK n nQ == some .eq)=false)(h3:(jK n nR == some .lt)=false) :
  ∃ k,(FloatKind.f64.decode n).toInt .zero=some k∧IntKind.i64.min≤k∧k≤IntKind.i64.max:=by
 show ∃ k,(double.read n).toInt .zero=some k∧_
 unfold jK Format.order at h1 h2 h3
 rw[DE] at h2
 rw[Bx] at h3
 have hmin:IntKind.i64.min = -9223372036854775808:=by decide
 have hmax:IntKind.i64.max=9223372036854775807:=by decide
 rw[hmin,hmax]
 cases hd:double.read n with
 | nan b f=>rw[hd] at h1;simp[Datum.order] at h1
 | infinity s =>
  rw[hd] at h2 h3
  cases s <;> simp[Datum.order] at h2 h3
 | number s m i =>
  rw[hd] at h2 h3
  simp only[Datum.order,Bool.or_eq_false_iff] at h2 h3
  refine⟨signed s (Toward.zero.cut s (m <<< i.toNat) (-i).toNat) 0,rfl,?_⟩
  rw[DF]
  obtain⟨c1,c2⟩:=FQ m i
  cases s with
  | false =>
   have hlt:m <<< (i-min i 11).toNat<4503599627370496 <<< (11-min i 11).toNat:=by
    rcases Nat.lt_trichotomy (m <<< (i - min i 11).toNat) (4503599627370496 <<< (11 - min i 11).toNat) with h | h | h
    ·exact h
    ·exfalso
     rw[wR,wR,h,H3] at h2;simp at h2
    ·exfalso
     rw[wR,wR,HZ (by omega)] at h2;simp at h2
   have:=HX (by decide) (c1 hlt)
   generalize (m <<< i.toNat) / 2 ^ min (-i).toNat ((m <<< i.toNat).log2+2)=q at *
   rw[wR,Nat.shiftLeft_zero]
   omega
  | true =>
   have hle:m <<< (i-min i 11).toNat≤4503599627370496 <<< (11-min i 11).toNat:=by
    rcases Nat.lt_or_ge (4503599627370496 <<< (11 - min i 11).toNat) (m <<< (i - min i 11).toNat) with h | h
    ·exfalso
     rw[DG,DG,H2 (by omega)] at h3;simp at h3
    ·exact h
   have:=HW (c2 hle)
   generalize (m <<< i.toNat) / 2 ^ min (-i).toNat ((m <<< i.toNat).log2+2)=q at *
   rw[DG,Nat.shiftLeft_zero]
   omega
theorem BA{P:Program}{n:Nat}{w:World}{k:Int}(h:(FloatKind.f64.decode n).toInt .zero=some k)(h1:IntKind.i64.min≤k)(h2:k≤IntKind.i64.max):(Conv.floatToInt .f64 n .i64).run P w = .ok (.int .i64 k) w:=by
 unfold Conv.floatToInt
 rw[h]
 simp only
 rw[if_pos ⟨h1,h2⟩]
 rfl
theorem DH(k:Int):IntKind.u64.wrap k=gL k:=by
 unfold gL
 rfl
end Go.SLYtefdijgllbkmfaaGreat
namespace Go.SLYtefdijgllbkmfaaGreat
open Go Go.RowKit
def iy(f:iG):List Value:=[.int .i64 f.fn,.int .i64 f.pc,.int .u64 (f.aq.getD 0 0),.int .u64 (f.aq.getD 1 0),.int .u64 (f.aq.getD 2 0),.int .u64 (f.aq.getD 3 0),.int .u64 (f.aq.getD 4 0),.int .u64 (f.aq.getD 5 0),.int .u64 (f.aq.getD 6 0),.int .u64 (f.aq.getD 7 0)]
def tc(f:iG)(v:Value):List Value:=[.int .i64 f.fn,.int .i64 f.pc,.int .u64 (f.aq.getD 0 0),.int .u64 (f.aq.getD 1 0),.int .u64 (f.aq.getD 2 0),.int .u64 (f.aq.getD 3 0),.int .u64 (f.aq.getD 4 0),.int .u64 (f.aq.getD 5 0),.int .u64 (f.aq.getD 6 0),.int .u64 (f.aq.getD 7 0),v]
def DI(o:Option Ins):Value:=.tuple #[.agg (dq (o.getD Ins.z)).toArray,.bool o.isSome]
theorem FR{p:fE}{f:iG}{fs:List (Value×List Ins)}{z:Value×List Ins}(hp:fs.map (·.2)=p.funcs)
  (h:(decide (f.fn<0) || decide ((fs.length:Int)≤f.fn) || decide (f.pc<0) || decide (((fs.getD f.fn.toNat z).2.length:Int)≤f.pc))=true) (_hz:z.2=[]):dD p f=none:=by
 unfold dD
 split
 ·rfl
 ·rename_i hn
  rw[← hp,List.getElem?_eq_none]
  simp only[Bool.or_eq_true,decide_eq_true_eq] at h
  rw[List.getD_eq_getElem?_getD,List.getElem?_map]
  rw[List.getD_eq_getElem?_getD] at h
  cases e:fs[f.fn.toNat]? with
  | none=>exact Nat.zero_le _
  | some x =>
   rw[e] at h
   have:=(List.getElem?_eq_some_iff.1 e).1
   simp only[Option.getD_some,Option.map_some] at h ⊢
   omega
theorem DJ{p:fE}{f:iG}{fs:List (Value×List Ins)}{x:Value×List Ins}{i:Ins}(hp:fs.map (·.2)=p.funcs)(h1:¬f.fn<0)(h2:¬f.pc<0)(hx:fs[f.fn.toNat]?=some x)(hi:x.2[f.pc.toNat]?=some i):dD p f=some i:=by
 unfold dD
 rw[if_neg (by omega), ← hp,List.getD_eq_getElem?_getD,List.getElem?_map,hx]
 exact hi
theorem lJ{f:iG}{v:Value}:∀ {n:Nat} (_:n<8),(tc f v)[2+n]?=some (.int .u64 (f.aq.getD n 0))
 | 0,_=>rfl
 | 1,_=>rfl
 | 2,_=>rfl
 | 3,_=>rfl
 | 4,_=>rfl
 | 5,_=>rfl
 | 6,_=>rfl
 | 7,_=>rfl
 | n+8,h=>absurd h (by omega)
theorem FT{fn pc:Int}{a0 a1 a2 a3 a4 a5 a6 a7:Int}{v:Value}(x:Int):∀ {n:Nat} (_:n<8),(tc ⟨fn,pc,[a0,a1,a2,a3,a4,a5,a6,a7]⟩ v).set (2+n) (.int .u64 x)=tc ⟨fn,pc,[a0,a1,a2,a3,a4,a5,a6,a7].set n x⟩ v
 | 0,_=>rfl
 | 1,_=>rfl
 | 2,_=>rfl
 | 3,_=>rfl
 | 4,_=>rfl
 | 5,_=>rfl
 | 6,_=>rfl
 | 7,_=>rfl
 | n+8,h=>absurd h (by omega)
theorem yI{f:iG}{v:Value}{n:Nat}(x:Int)(hn:n<8)(hl:f.aq.length=8):(tc f v).set (2+n) (.int .u64 x)=tc {f with aq:=f.aq.set n x } v:=by
 obtain⟨fn,pc,aq⟩:=f
 match aq,hl with
 | [a0,a1,a2,a3,a4,a5,a6,a7],_=>exact FT x hn
def td(t:Nat)(e:Int):List PanicEntry:=[{v:=.iface t (.agg #[.int .i64 e]),recovered:=false }]
structure ja(i:Ins):Prop where
 a:0≤i.a∧i.a<8
 b:0≤i.b∧i.b<8
 c:0≤i.c∧i.c<8
 n:0≤i.n∧i.n≤18446744073709551615
 j:i.op=16∨i.op=17→i.n≤256
structure Ac(f:iG):Prop where
 l:f.aq.length=8
 pc:0≤f.pc∧f.pc≤1000000
 r:∀ n,0≤f.aq.getD n 0∧f.aq.getD n 0≤18446744073709551615
def doEnd(t:Nat)(o:Option (iG×List Int)):Ending:=match o with | some _=>.returned (.tuple #[]) | none=>.panicked (td t 6)
def KD(b:Nat)(v:Value)(o:Option (iG×List Int)):List aa:=match o with | some z=>[arr b 0 (tc z.1 v),sl bM 1 v z.2] | none=>[]
def fT(f:iG)(m:List Int)(i:Ins):iG×List Int×Int:=match gZ f m i with | some (f',m')=>(f',m',0) | none=>(iG.z,[],6)
section
variable{P:Program}{W:World}{N:Nat}{Q:Exit→Act→World→Prop}{L:List (Nat×Option Value)}{H K R:List aa}{O:Array Oper}{T:TypeId}{rest:List Oper}{D:List Deferred}{ks:List Nat}
theorem Y.FU{x:Operand}{v r:Value}{t u:TypeId}{c:Bool}(hx:ev L x=some v)(h:∀ w,(Instr.typeAssert v t u c).run P w = .ok r w):Y P W N (.typeAssert x t u c) T L H r:=fun dst pos after guard a w ha hs=>by
 simp only[execOp,ha.eval hx]
 exact bI (h w)
theorem Bw.ok{f:FuncId}{args:List Value}{pre:List aa}{X:Type}{en:X→Ending}{fact:X→Prop}{post:X→List aa}(val:X→Value)(h:Bw P W f args pre X en fact post)(he:∀ x,en x = .returned (val x)):Fn P W f args pre X val fact post:=fun F w hs =>
 (h F w hs).mono fun _ _ ⟨x,e1,e2,e3⟩=>⟨x,e1.trans (he x),e2,e3⟩
theorem Fn.H4{f:FuncId}{fn:Func}{c:Code}{args:List Value}{pre:List aa}{X:Type}{val:X→Value}{fact:X→Prop}{post:X→List aa}(hf:P.funcs[f]?=some fn)(hb:fn.body=some c)(hn:fn.ntmps=N)(ha:Nat.ble args.length N=true)
  (h:∀ F,ax P W N (bodyPostD P fn (fun e w'=>∃ x,e = .returned (val x)∧fact x∧Sat W w' (sep (seps (post x)) F))) c (enum 0 args) (pre++[F])):Fn P W f args pre X val fact post:=fun F w hs=>by
 have hle:args.length≤N:=Nat.ble_eq.mp ha
 refine calls_of_wp_defers hf hb (h F _ w ⟨?_,fun k v hv=>?_,rfl⟩ ?_)
 ·simp[hn];omega
 ·obtain⟨_,h2⟩:=jQ args 0 k v hv
  have hk:k<args.length:=by
   have:=(List.getElem?_eq_some_iff.1 h2).1;simpa using this
  show(args.toArray++Array.replicate (fn.ntmps-args.toArray.size) undef)[k]?=some v
  rw[Array.getElem?_append_left (by simpa using hk)]
  simpa using h2
 ·rw[ah];simp only[seps];rw[aR];exact hs
theorem af.FV{α:Type}{enc:α→List Value}{k b n c':Nat}{x y:Operand}{t t2 e ty:TypeId}{u:Value}{xs ys:List α}{pos:String}{after:Array Edge}{guard:Option (Nat×Bool)}{d:Nat}(hN:Nat.blt d N=true)(hu:P.underlying t=some (.slice e))(hz:∀ w,(sizeOf e).run P w = .ok k w)
  (hx:ev L x=some (.slice (some ⟨b,0,none⟩) n c')) (hy:ev L y=some u) (hr:Rd W H enc k u ys) (ht:Take H (sl enc k (.slice (some ⟨b,0,none⟩) n c') xs) R) (hl:xs.length=n) (hl2:ys.length=n) (hone:∀ y∈ys, ∀ c∈enc y,c.oneCell'=true) :
  af P W N ⟨some d,.call ⟨.builtin .copy, #[x,y], #[t,t2]⟩,ty,pos,after,guard⟩ L H (fun L1 H1=>L1=(d,some (.int .i64 (n:Int)))::L∧H1=sl enc k (.slice (some ⟨b,0,none⟩) n c') ys::R):=by
 rcases Nat.eq_zero_or_pos n with h0 | h0
 ·subst h0
  obtain rfl:=List.eq_nil_of_length_eq_zero hl
  obtain rfl:=List.eq_nil_of_length_eq_zero hl2
  intro a w ha hs Kp hK
  have hrd:=hr w hs
  have hf:=hrd.Dl (P:=P) (m:=0) (Nat.zero_le _)
  obtain⟨⟨ua,ucap,hue,_⟩,_⟩:=hrd
  have hln:(Builtin.lenOf u).run P w = .ok 0 w:=by rw[hue];simp[Builtin.lenOf]
  have hrun:(execOp a.eval ⟨some d,.call ⟨.builtin .copy, #[x,y], #[t,t2]⟩,ty,pos,after,guard⟩).run P w = .ok (.value (.int .i64 ((0:Nat):Int))) w:=by
   simp[execOp,resolve,invoke,builtin,ha.eval hx,ha.eval hy,Builtin.copy_,run_underlying hu,hz,hln,goInt,hf,rows,storeCells]
  unfold Oper.wp
  rw[hrun]
  simp only[Oper.upon]
  rw[ht.seps] at hs
  exact hK _ _ ⟨rfl,rfl⟩ _ _ (ha.put (Nat.blt_eq.mp hN) _) hs
 ·have:=af.HQ (P:=P) (W:=W) (N:=N) (L:=L) (H:=H) (R:=R) (ty:=ty) (pos:=pos) (after:=after) (guard:=guard) (t2:=t2) (d:=d) (x:=x) (y:=y) (t:=t) (i:=0) (b:=b) (len:=n) (cap:=c') (c':=c') (xs:=xs) (ys:=ys) hN hu hz (by simpa using hx) hy hr ht hl (Nat.zero_le _) h0 hone
  have e:min ys.length (n-0)=n:=by omega
  rw[e,List.take_zero,List.nil_append,Nat.zero_add,List.take_of_length_le (by omega),List.drop_of_length_le (by omega),List.append_nil] at this
  exact this
end
end Go.SLYtefdijgllbkmfaaGreat
namespace Go.SLYtefdijgllbkmfaaGreat
open Go Go.RowKit
def QC(R:Ending→FrameMode→World→Prop)(u:FrameMode):Exit→Act→World→Prop
 | .normal,a,w | .ret,a,w=>a.defers=[]∧R (.returned (.tuple #[])) u w
 | _,_,_=>False
section
variable{P:Program}{W:World}{N:Nat}{Q:Exit→Act→World→Prop}{L:List (Nat×Option Value)}{H K R:List aa}{O:Array Oper}{T:TypeId}{D:List Deferred}
theorem BB{args:List Value}(ha:Nat.ble args.length N=true):Env N (enum 0 args) {tmps:=args.toArray++Array.replicate (N-args.toArray.size) undef,defers:=[] }:=by
 have hle:args.length≤N:=Nat.ble_eq.mp ha
 refine⟨by simp;omega,fun k v hv=>?_,rfl⟩
 obtain⟨_,h2⟩:=jQ args 0 k v hv
 have hk:k<args.length:=by
  have:=(List.getElem?_eq_some_iff.1 h2).1;simpa using this
 show(args.toArray++Array.replicate (N-args.toArray.size) undef)[k]?=some v
 rw[Array.getElem?_append_left (by simpa using hk)]
 simpa using h2
theorem lK{f:FuncId}{fn:Func}{rest:Code}{id d:Nat}{pos:String}{after:Array Edge}{args:List Value}{Rc:Ending→FrameMode→World→Prop}{u u2:FrameMode}{v:Value}{w:World}(hf:P.funcs[f]?=some fn)
  (hb:fn.body=some (.seq (.region id #[⟨some d,.call ⟨.builtin .recover, #[], #[]⟩,T,pos,after,none⟩] false) rest)) (hn:fn.ntmps=N) (ha:Nat.ble args.length N=true) (hd:Nat.blt d N=true) (hr:fn.results = #[])
  (hu:∀ (c:Frame) (cs:List Frame),c.mode=u→(recoverD (c::cs)=some (v,{c with mode:=u2 }::cs))∨(recoverD (c::cs)=none∧v = .nilIface∧u2=u))
  (hs:Sat W w (seps H)) (h:ax P W N (QC Rc u2) rest ((d,some v)::enum 0 args) H):CallsD P f args.toArray u w Rc:=by
 refine callsD_of_wpS hf hb fun c cs hc=>wpS_seq (wpS_region ?_)
 have henv:Env N ((d,some v)::enum 0 args) (({tmps:=args.toArray++Array.replicate (fn.ntmps-args.toArray.size) undef,defers:=[] }:Act).put (some d) v):=by
  rw[hn];exact(BB ha).put (Nat.blt_eq.mp hd) v
 have hw:=h _ w henv hs
 have hfin:rest.wpS P (bodyPostS P fn c cs Rc) (({tmps:=args.toArray++Array.replicate (fn.ntmps-args.toArray.size) undef,defers:=[] }:Act).put (some d) v) ({c with mode:=u2 }::cs) w:=by
  refine wpS_of_wp (wp_mono hw fun e a' w' hq=>?_)
  cases e with
  | normal=>exact⟨hq.1,u2,rfl,_,results_none hr _ _ _,hq.2⟩
  | ret=>exact⟨hq.1,u2,rfl,_,results_none hr _ _ _,hq.2⟩
  | exit id=>exact hq.elim
  | goto l=>exact hq.elim
  | panic c=>exact hq.elim
  | outgrown=>exact hq.elim
 have hlist:List.range (#[(⟨some d,.call ⟨.builtin .recover, #[], #[]⟩,T,pos,after,none⟩:Oper)]).size=[0]:=rfl
 rw[hlist]
 simp only[wpOpsS,List.getElem?_toArray,List.getElem?_cons_zero]
 rw[if_pos (bf rfl)]
 have hx:(execOp ({tmps:=args.toArray++Array.replicate (fn.ntmps-args.toArray.size) undef,defers:=[] }:Act).eval ⟨some d,.call ⟨.builtin .recover, #[], #[]⟩,T,pos,after,none⟩).run P w = .ok .recover w:=by
  simp[execOp,resolve,invoke,builtin]
 rw[hx]
 simp only
 rcases hu c cs hc with e | ⟨e,rfl,rfl⟩
 ·rw[e];exact hfin
 ·rw[e]
  have:({c with mode:=u2 }:Frame)=c:=by subst hc;rfl
  rw[this] at hfin
  exact hfin
theorem u1{xT:TypeId}{ms:Array (String×TypeId)}(hu:P.underlying xT=some (.interface ms))(w:World):(Op.equal xT .nilIface .nilIface).run P w = .ok true w:=by
 show(Op.equalIn (9999+1) xT _ _).run P w=_
 unfold Op.equalIn
 simp[run_underlying hu]
theorem sO{xT:TypeId}{ms:Array (String×TypeId)}{t:TypeId}{u:Value}(hu:P.underlying xT=some (.interface ms))(w:World):(Op.equal xT (.iface t u) .nilIface).run P w = .ok false w:=by
 show(Op.equalIn (9999+1) xT _ _).run P w=_
 unfold Op.equalIn
 simp[run_underlying hu]
theorem Y.Jz{xT yT:TypeId}{x:Operand}{ms:Array (String×TypeId)}(hu:P.underlying xT=some (.interface ms))(hx:ev L x=some .nilIface):Y P W N (.binOp .eql xT x (.const .nilIface) yT) T L H (.bool true) :=
 Y.bin hx rfl fun w=>by simp[eqGuard,binOp,u1 hu]
theorem Y.JA{xT yT:TypeId}{x:Operand}{t:TypeId}{u:Value}{ms:Array (String×TypeId)}(hu:P.underlying xT=some (.interface ms))(hx:ev L x=some (.iface t u)):Y P W N (.binOp .eql xT x (.const .nilIface) yT) T L H (.bool false) :=
 Y.bin hx rfl fun w=>by simp[eqGuard,binOp,sO hu]
theorem cp.JB{Rc:Ending→FrameMode→World→Prop}{u:FrameMode}(h:∀ w,Sat W w (seps H)→Rc (.returned (.tuple #[])) u w):cp W N (QC Rc u) .normal L H:=fun _a w ha hs=>⟨ha.defers,h w hs⟩
theorem te{fn:Func}{a:Act}{w:World}{t1 t2 t3 T1 T2 T3 b1 b2 b3:Nat}{cs:List Value}{v2 v3:Value}(ha:pq N L D a)(hs:Sat W w (seps H))(hr:fn.results = #[.cell t1 T1,.cell t2 T2,.cell t3 T3])(h1:look L t1=some (ptr b1))(h2:look L t2=some (ptr b2))(h3:look L t3=some (ptr b3))
  (g1:∀ w,(isAgg T1).run P w = .ok true w) (z1:∀ w,(sizeOf T1).run P w = .ok cs.length w) (g2:∀ w,(isAgg T2).run P w = .ok false w) (g3:∀ w,(isAgg T3).run P w = .ok false w) (c1:Cells W H b1 0 cs) (c2:Cell W H b2 0 v2) (c3:Cell W H b3 0 v3) :
  (results fn a.tmps).run P w = .ok (.tuple #[.agg cs.toArray,v2,v3]) w:=by
 have hl:=hP (P:=P) (w:=w) g1 z1 fun i v hv=>c1 i v hv w hs
 have hl2:(loadVar T2 ⟨b2,0,none⟩).run P w = .ok v2 w:=by simp[loadVar,g2,c2 w hs]
 have hl3:(loadVar T3 ⟨b3,0,none⟩).run P w = .ok v3 w:=by simp[loadVar,g3,c3 w hs]
 simp[results,hr,ha.get _ _ h1,ha.get _ _ h2,ha.get _ _ h3,ptr,asAddr,hl,hl2,hl3]
end
end Go.SLYtefdijgllbkmfaaGreat
namespace Go.SLYtefdijgllbkmfaaGreat
open Go Go.RowKit
def qB(v:Value)(l:List dt)(i:Nat):aa:=nS (eo (blk v) (cz v+i * 3)) (fun m'=>ej v (l.set i m'))
def wS(v:Value)(l:List jo)(i:Nat):aa:=nS (gM (blk v) (cz v+i * 2)) (fun m'=>fo v (l.set i m'))
def BC(v:Value)(l:List (List cV))(i:Nat):aa:=nS (iv (blk v) (cz v+i * 1)) (fun m'=>ia v (l.set i m'))
theorem nV{v:Value}{l:List dt}{i:Nat}{m:dt}(hm:l[i]?=some m):∀ h,ej v l h→seps [eo (blk v) (cz v+i * 3) m,qB v l i] h:=Dz hm
theorem Ad{v:Value}{l:List jo}{i:Nat}{m:jo}(hm:l[i]?=some m):∀ h,fo v l h→seps [gM (blk v) (cz v+i * 2) m,wS v l i] h:=DA hm
theorem Ae{v:Value}{l:List (List cV)}{i:Nat}{m:List cV}(hm:l[i]?=some m):∀ h,ia v l h→seps [iv (blk v) (cz v+i * 1) m,BC v l i] h:=DB hm
theorem rA{v:Value}{l:List dt}{i:Nat}(m':dt):∀ h,seps [eo (blk v) (cz v+i * 3) m',qB v l i] h→ej v (l.set i m') h:=mc m'
theorem rB{v:Value}{l:List jo}{i:Nat}(m':jo):∀ h,seps [gM (blk v) (cz v+i * 2) m',wS v l i] h→fo v (l.set i m') h:=mc m'
theorem DK{v:Value}{l:List (List cV)}{i:Nat}(m':List cV):∀ h,seps [iv (blk v) (cz v+i * 1) m',BC v l i] h→ia v (l.set i m') h:=mc m'
theorem jY{α:Type}{l:List α}{i:Nat}{x:α}(h:l[i]?=some x):l.set i x=l:=by
 apply List.ext_getElem?
 intro j
 by_cases e:i=j
 ·subst e;rw[List.getElem?_set_self (List.getElem?_eq_some_iff.1 h).1,h]
 ·rw[List.getElem?_set_ne e]
theorem nW{v:Value}{l:List dt}{i:Nat}{m:dt}(hm:l[i]?=some m):∀ h,seps [eo (blk v) (cz v+i * 3) m,qB v l i] h→ej v l h:=fun h a=>by have:=rA m h a;rwa [jY hm] at this
theorem DL{v:Value}{l:List jo}{i:Nat}{m:jo}(hm:l[i]?=some m):∀ h,seps [gM (blk v) (cz v+i * 2) m,wS v l i] h→fo v l h:=fun h a=>by have:=rB m h a;rwa [jY hm] at this
theorem fw{p:Prop}[Decidable p]{α:Type}{a:α}(h:(if p then some a else none).isNone=false):p:=by
 by_cases hp:p
 ·exact hp
 ·rw[if_neg hp] at h;cases h
theorem fI{p:Prop}[Decidable p]{α:Type}{a:α}(h:(if p then some a else none).isNone=true):¬p:=by
 intro hp
 rw[if_pos hp] at h;cases h
theorem wT{p:Prop}[Decidable p]{α:Type}{a:α}(h:(!(if p then some a else none).isNone)=true):p:=fw (by simpa only[Bool.not_eq_true'] using h)
theorem yJ{p:Prop}[Decidable p]{α:Type}{a:α}(h:(!(if p then some a else none).isNone)=false):¬p:=fI (by simpa only[Bool.not_eq_false'] using h)
section
variable{g:Gates}{who m c choice s:Int}{x:dt}{r:List cV}{y:jo}
theorem tf(h:¬(0≤m∧m<(g.aG.length:Int))):g.lock who m=(false,1,g):=by unfold Gates.lock;rw[gR h]
theorem qg(h:eU g.aG m=some x)(hb:(g.waits who || x.is who)=true):g.lock who m=(false,4,g):=by unfold Gates.lock;rw[h];simp only;rw[if_pos (by simpa using hb)]
theorem tg(h:eU g.aG m=some x)(hb:(g.waits who || x.is who)=false):g.lock who m=((x.lock who).1,0,{g with aG:=g.aG.set m.toNat (x.lock who).2 }):=by unfold Gates.lock;rw[h];simp only;rw[if_neg (by simpa using hb)]
theorem qh(h:¬(0≤m∧m<(g.aG.length:Int))):g.unlock who m choice=(0,false,1,g):=by unfold Gates.unlock;rw[gR h]
theorem nX(h:eU g.aG m=some x)(hb:x.is who=false):g.unlock who m choice=(0,false,5,g):=by unfold Gates.unlock;rw[h];simp only;rw[if_neg (by simpa using hb)]
theorem qi(h:eU g.aG m=some x)(hb:x.is who=true):g.unlock who m choice=((x.unlock choice).1,(x.unlock choice).2.1,0,{g with aG:=g.aG.set m.toNat (x.unlock choice).2.2 }):=by unfold Gates.unlock;rw[h];simp only;rw[if_pos hb]
theorem mX(h:¬(0≤m∧m<(g.aG.length:Int))):g.wait who c m choice=(0,false,1,g):=by unfold Gates.wait;rw[gR h]
theorem mY(h:¬(0≤c∧c<(g.bm.length:Int))):g.wait who c m choice=(0,false,1,g):=by unfold Gates.wait;rw[gR h];cases eU g.aG m <;> rfl
theorem wU(h:eU g.aG m=some x)(h2:eU g.bm c=some r)(hb:g.waits who=true):g.wait who c m choice=(0,false,4,g):=by unfold Gates.wait;rw[h,h2];simp only;rw[if_pos hb]
theorem mZ(h:eU g.aG m=some x)(h2:eU g.bm c=some r)(hb:g.waits who=false)(ho:x.is who=false):g.wait who c m choice=(0,false,5,g):=by unfold Gates.wait;rw[h,h2];simp only;rw[if_neg (by rw[hb];simp),if_neg (by rw[ho];simp)]
theorem py(h:eU g.aG m=some x)(h2:eU g.bm c=some r)(hb:g.waits who=false)(ho:x.is who=true):g.wait who c m choice=((x.unlock choice).1,(x.unlock choice).2.1,0,{g with aG:=g.aG.set m.toNat (x.unlock choice).2.2,bm:=g.bm.set c.toNat (r++[⟨who,m⟩]) }):=by unfold Gates.wait;rw[h,h2];simp only;rw[if_neg (by rw[hb];simp),if_pos ho]
theorem qj{all:Bool}(h:¬(0≤c∧c<(g.bm.length:Int))):g.signal c choice all=([],1,g):=by unfold Gates.signal;rw[gR h]
theorem qk{all:Bool}{z:List cV×List dt×List Int}(h2:eU g.bm c=some r)(hz:sigLoop (if all=true then r.length else min r.length 1) (if all=true then 0 else choice) r g.aG []=z):g.signal c choice all=(z.2.2,0,{g with aG:=z.2.1,bm:=g.bm.set c.toNat z.1 }):=by unfold Gates.signal;rw[h2];simp only;rw[hz]
theorem tm(h:¬(0≤s∧s<(g.cf.length:Int))):g.down who s=(false,1,g):=by unfold Gates.down;rw[gR h]
theorem wV(h:eU g.cf s=some y)(hb:g.waits who=true):g.down who s=(false,4,g):=by unfold Gates.down;rw[h];simp only;rw[if_pos hb]
theorem tn(h:eU g.cf s=some y)(hb:g.waits who=false)(hc:0<y.count):g.down who s=(true,0,{g with cf:=g.cf.set s.toNat {y with count:=y.count-1 } }):=by unfold Gates.down;rw[h];simp only;rw[if_neg (by rw[hb];simp),if_pos hc]
theorem ql(h:eU g.cf s=some y)(hb:g.waits who=false)(hc:¬ 0<y.count):g.down who s=(false,0,{g with cf:=g.cf.set s.toNat {y with wait:=y.wait++[⟨who,0⟩] } }):=by unfold Gates.down;rw[h];simp only;rw[if_neg (by rw[hb];simp),if_neg hc]
theorem Af(h:¬(0≤s∧s<(g.cf.length:Int))):g.up s choice=(0,false,1,g):=by unfold Gates.up;rw[gR h]
theorem tq(h:eU g.cf s=some y)(hb:(aK y.wait choice).2.1=true):g.up s choice=((aK y.wait choice).1.who,true,0,{g with cf:=g.cf.set s.toNat {y with wait:=(aK y.wait choice).2.2 } }):=by unfold Gates.up;rw[h];simp only;rw[if_pos hb]
theorem tt(h:eU g.cf s=some y)(hb:(aK y.wait choice).2.1=false)(hc:1048576≤y.count):g.up s choice=(0,false,2,g):=by unfold Gates.up;rw[h];simp only;rw[if_neg (by rw[hb];simp),if_pos hc]
theorem Ag(h:eU g.cf s=some y)(hb:(aK y.wait choice).2.1=false)(hc:¬ 1048576≤y.count):g.up s choice=(0,false,0,{g with cf:=g.cf.set s.toNat {y with count:=y.count+1 } }):=by unfold Gates.up;rw[h];simp only;rw[if_neg (by rw[hb];simp),if_neg hc]
end
theorem BD{l:List cV}{c:Int}(h:(aK l c).2.1=false):(aK l c).2.2=l:=by
 unfold aK at *
 split
 ·rfl
 ·rename_i hl;rw[if_neg hl] at h;cases h
def yK(r:List cV)(c:Int)(ms:List dt):Bool×dt:=(ms.getD (aK r c).1.mutex.toNat iJ).lock (aK r c).1.who
theorem DM{n:Nat}{c:Int}{r:List cV}{ms:List dt}{out:List Int} :
  sigLoop (n+1) c r ms out=sigLoop n c (aK r c).2.2 (ms.set (aK r c).1.mutex.toNat (yK r c ms).2) (if (yK r c ms).1=true then out++[(aK r c).1.who] else out):=rfl
theorem jZ{l:List cV}{c:Int}(h:l.length≠0):(aK l c).1∈l∧(aK l c).2.2.length+1=l.length∧(∀ w∈(aK l c).2.2,w∈l):=by
 rw[qI h]
 have hp:pick c l.length<l.length:=eY (by omega)
 refine⟨List.mem_of_getElem? (getD_some hp),?_,fun w hw=>(List.eraseIdx_sublist _ _).mem hw⟩
 have:=List.length_eraseIdx_of_lt hp
 show(l.eraseIdx (pick c l.length)).length+1=_
 omega
theorem DN{m:dt}{who:Int}:(m.lock who).2.wait.length≤m.wait.length+1:=by
 unfold dt.lock
 split <;> simp
structure nY(r0:List cV)(ms0:List dt)(n0:Nat)(c:Int)(k:Nat)(r:List cV)(ms:List dt)(out:List Int):Prop where
 hk:k≤n0
 len:r.length+k=r0.length
 mem:∀ w∈r,w∈r0
 ml:ms.length=ms0.length
 mw:∀ m∈ms,m.wait.length≤1000000+k
 ol:out.length≤k
 eq:sigLoop n0 c r0 ms0 []=sigLoop (n0-k) c r ms out
theorem nY.zero{r0:List cV}{ms0:List dt}{n0:Nat}{c:Int}(h:∀ m∈ms0,m.wait.length≤1000000):nY r0 ms0 n0 c 0 r0 ms0 []:=⟨Nat.zero_le _,rfl,fun _ h=>h,rfl,h,Nat.le_refl _,rfl⟩
theorem nY.next{r0 r:List cV}{ms0 ms:List dt}{n0 k:Nat}{c:Int}{out:List Int}(h:nY r0 ms0 n0 c k r ms out)(hk:k<n0)(h0:n0≤r0.length) :
  nY r0 ms0 n0 c (k+1) (aK r c).2.2 (ms.set (aK r c).1.mutex.toNat (yK r c ms).2) (if (yK r c ms).1=true then out++[(aK r c).1.who] else out):=by
 have hl:=h.len
 obtain⟨h1,h2,h3⟩:=jZ (l:=r) (c:=c) (by omega)
 refine⟨by omega,by omega,fun w hw=>h.mem w (h3 w hw),by rw[List.length_set];exact h.ml,fun m hm=>?_,?_,?_⟩
 ·rcases List.mem_or_eq_of_mem_set hm with e | e
  ·have:=h.mw m e;omega
  ·subst e
   unfold yK
   have:=DN (m:=ms.getD (aK r c).1.mutex.toNat iJ) (who:=(aK r c).1.who)
   have h5:(ms.getD (aK r c).1.mutex.toNat iJ).wait.length≤1000000+k:=by
    rw[List.getD_eq_getElem?_getD]
    cases e:ms[(aK r c).1.mutex.toNat]? with
    | none=>exact Nat.zero_le _
    | some m=>exact h.mw m (List.mem_of_getElem? e)
   omega
 ·have:=h.ol
  split <;> simp <;> omega
 ·rw[h.eq,show n0-k=(n0-(k+1))+1 by omega,DM]
theorem nY.done{r0 r:List cV}{ms0 ms:List dt}{n0 k:Nat}{c:Int}{out:List Int}(h:nY r0 ms0 n0 c k r ms out)(hk:¬k<n0):sigLoop n0 c r0 ms0 []=(r,ms,out):=by
 rw[h.eq,show n0-k=0 by omega];rfl
end Go.SLYtefdijgllbkmfaaGreat
namespace Go.SLYtefdijgllbkmfaaGreat
open Go Go.RowKit
structure rC(t:Tub):Prop where
 w:t.words.length≤1000000
 p:t.bN.length≤1000000
 g:t.bC.length≤1000000
section
variable{t:Tub}{who x w:Int}{r:List Int}{p:Ptr}{q:List Ptr}
theorem tu(h:t.waits who=true):t.put who x=(false,0,false,t):=by unfold Tub.put;rw[if_pos h]
theorem nZ(h:t.waits who=false)(hg:t.bC=w::r):t.put who x=(true,w,true,{t with bC:=r }):=by unfold Tub.put;rw[if_neg (by rw[h];simp),hg]
theorem lL(h:t.waits who=false)(hg:t.bC=[])(hr:(t.words.length:Int)<t.room):t.put who x=(true,0,false,{t with words:=t.words++[x] }):=by unfold Tub.put;rw[if_neg (by rw[h];simp),hg];simp only;rw[if_pos hr]
theorem lM(h:t.waits who=false)(hg:t.bC=[])(hr:¬(t.words.length:Int)<t.room):t.put who x=(false,0,false,{t with bN:=t.bN++[⟨who,x⟩] }):=by unfold Tub.put;rw[if_neg (by rw[h];simp),hg];simp only;rw[if_neg hr]
theorem pz(h:t.waits who=true):t.get who=(0,false,0,false,t):=by unfold Tub.get;rw[if_pos h]
theorem get_none(h:t.waits who=false)(hg:t.words=[]):t.get who=(0,false,0,false,{t with bC:=t.bC++[who] }):=by unfold Tub.get;rw[if_neg (by rw[h];simp),hg]
theorem mg(h:t.waits who=false)(hg:t.words=x::r)(hp:t.bN=[]):t.get who=(x,true,0,false,{t with words:=r }):=by unfold Tub.get;rw[if_neg (by rw[h];simp),hg,hp]
theorem mh(h:t.waits who=false)(hg:t.words=x::r)(hp:t.bN=p::q):t.get who=(x,true,p.who,true,{t with words:=r++[p.x],bN:=q }):=by unfold Tub.get;rw[if_neg (by rw[h];simp),hg,hp]
end
theorem u3{α:Type}{l:List α}(h:¬l.length=0):∃ x r,l=x::r:=by
 cases l with
 | nil=>exact absurd rfl h
 | cons x r=>exact⟨x,r,rfl⟩
theorem yL{α:Type}{l:List α}(h:l.length=0):l=[]:=List.eq_nil_of_length_eq_zero h
section
variable{d:jy}{r:pe}{k:Int}
theorem Ah(h:(decide (r.block<0) || decide ((d.blocks.length:Int)≤r.block))=true):d.ask r=(1,d):=by unfold jy.ask;rw[if_pos (by simpa using h)]
theorem DO(h:(decide (r.block<0) || decide ((d.blocks.length:Int)≤r.block))=false)(h2:d.wait.any (fun x=>decide (x.who=r.who))=true):d.ask r=(4,d):=by unfold jy.ask;rw[if_neg (by simpa using h),if_pos h2]
theorem DP(h:(decide (r.block<0) || decide ((d.blocks.length:Int)≤r.block))=false)(h2:d.wait.any (fun x=>decide (x.who=r.who))=false):d.ask r=(0,{d with wait:=d.wait++[r] }):=by unfold jy.ask;rw[if_neg (by simpa using h),if_neg (by rw[h2];simp)]
def rD:pe:=⟨0,0,false,0⟩
theorem mi(h:d.wait.length=0):d.done k=(⟨0,0,false,0⟩,0,false,d):=by unfold jy.done;rw[if_pos h]
theorem kK(h:¬d.wait.length=0)(hr:d.wait.getD (pick k d.wait.length) rD=r)(hw:r.write=true):d.done k=(r,0,true,{d with wait:=d.wait.eraseIdx (pick k d.wait.length),blocks:=d.blocks.set r.block.toNat r.x }):=by
 subst hr;unfold rD at *;unfold jy.done;rw[if_neg h];simp only;rw[if_pos hw]
theorem mj(h:¬d.wait.length=0)(hr:d.wait.getD (pick k d.wait.length) rD=r)(hw:r.write=false):d.done k=(r,d.blocks.getD r.block.toNat 0,true,{d with wait:=d.wait.eraseIdx (pick k d.wait.length) }):=by
 subst hr;unfold rD at *;unfold jy.done;rw[if_neg h];simp only;rw[if_neg (by rw[hw];simp)]
end
end Go.SLYtefdijgllbkmfaaGreat
namespace Go.SLYtefdijgllbkmfaaGreat
open Go Go.RowKit
def ey(b p:Nat)(d:Dng)(vw ve:Value):List Value:=[ptr b,.int .i64 (d.n:Int),ptr p,.int .i64 d.i.op,.int .i64 d.i.a,.int .i64 d.i.b,.int .i64 d.i.c,.int .u64 d.i.n,.int .i64 d.choice,vw,.bool d.out.aU,.bool d.out.ended,.bool d.out.yielded,ve]
def bz(bd b p:Nat)(ps:List (Option Nat))(d:Dng):aa:=uI (fun _ _=>True) fun vw ve=>[arr bd 0 (ey b p d vw ve),sl aH 1 vw d.out.aC,sl dr 6 ve d.ends,cY b ps d.s]
def iK(v:Value)(e:fF):List Value:=[v,.bool e.aU,.bool e.ended,.bool e.yielded]
theorem bY{ps:List (Option Nat)}{ts:List (Option bc)}{n p:Nat}{t:bc}(hp:ps[n]?=some (some p))(ht:ts[n]?=some (some t)):∀ h,aD ps ts h→seps [arr p 0 (bn t),aD (ps.set n none) (ts.set n none)] h:=fun h a=>by
 obtain⟨q,hq,a'⟩:=lF ht h a
 rw[hp] at hq;cases hq
 exact ic.2 a'
theorem bS{ps:List (Option Nat)}{ts:List (Option bc)}{n p:Nat}{t:bc}(hp:ps[n]?=some (some p))(ht:ts[n]?=some (some t)):∀ h,seps [arr p 0 (bn t),aD (ps.set n none) (ts.set n none)] h→aD ps ts h:=fun h a=>by
 have:=cQ (List.getElem?_eq_some_iff.1 ht).1 hp h a
 rwa [jY ht] at this
theorem mm{t:bc}:∀ {n:Nat} (_:n<8),(bn t)[2+n * 1]?=some (.int .u64 (t.aq.getD n 0))
 | 0,_=>rfl
 | 1,_=>rfl
 | 2,_=>rfl
 | 3,_=>rfl
 | 4,_=>rfl
 | 5,_=>rfl
 | 6,_=>rfl
 | 7,_=>rfl
 | n+8,h=>absurd h (by omega)
theorem DQ{fn pc handle why value au op into:Int}{oX:Bool}{a0 a1 a2 a3 a4 a5 a6 a7:Int}(x:Int):∀ {n:Nat} (_:n<8),(bn ⟨fn,pc,[a0,a1,a2,a3,a4,a5,a6,a7],handle,why,value,oX,au,op,into⟩).set (2+n * 1) (.int .u64 x)=bn ⟨fn,pc,[a0,a1,a2,a3,a4,a5,a6,a7].set n x,handle,why,value,oX,au,op,into⟩
 | 0,_=>rfl
 | 1,_=>rfl
 | 2,_=>rfl
 | 3,_=>rfl
 | 4,_=>rfl
 | 5,_=>rfl
 | 6,_=>rfl
 | 7,_=>rfl
 | n+8,h=>absurd h (by omega)
theorem qK{t:bc}(x:Int){n:Nat}(hn:n<8)(hl:t.aq.length=8):(bn t).set (2+n * 1) (.int .u64 x)=bn (t.put (n:Int) x):=by
 obtain⟨fn,pc,aq,handle,why,value,oX,au,op,into⟩:=t
 match aq,hl with
 | [a0,a1,a2,a3,a4,a5,a6,a7],_=>exact DQ x hn
theorem jb{t:bc}(x:Int){i:Int}(h0:0≤i)(hn:i<8)(hl:t.aq.length=8):(bn t).set (2+i.toNat * 1) (.int .u64 x)=bn (t.put i x):=by
 rw[qK x (by omega) hl,show((i.toNat:Nat):Int)=i from by omega]
theorem n8(t:bc)(x:Int):(bn t).set 11 (.int .i64 x)=bn {t with why:=x }:=rfl
theorem BE(t:bc)(x:Int):(bn t).set 12 (.int .u64 x)=bn {t with value:=x }:=rfl
theorem FW(t:bc)(x:Bool):(bn t).set 13 (.bool x)=bn {t with bq:=x }:=rfl
theorem yM(t:bc)(x:Int):(bn t).set 14 (.int .i64 x)=bn {t with au:=x }:=rfl
theorem H5(t:bc)(x:Int):(bn t).set 15 (.int .i64 x)=bn {t with op:=x }:=rfl
theorem rE(t:bc)(x:Int):(bn t).set 16 (.int .i64 x)=bn {t with into:=x }:=rfl
theorem jB{t:bc}{i x:Int}:(t.put i x).aq.length=t.aq.length:=by unfold bc.put;simp
section
variable{fv sv pv:Value}{p:fE}{bt:Nat}{ps:List (Option Nat)}{vm:Value}{bg:Nat}{vt:Value}{bk bw:Nat}{vr u:Value}
theorem n9:(fi fv sv pv p bt ps vm bg vt bk bw vr).set 30 u=fi fv sv pv p bt ps vm bg vt bk bw u:=rfl
theorem u4:(fi fv sv pv p bt ps vm bg vt bk bw vr).set 25 u=fi fv sv pv p bt ps u bg vt bk bw vr:=rfl
end
structure gJ(t:bc):Prop where
 l:t.aq.length=8
 r:∀ n,0≤t.aq.getD n 0∧t.aq.getD n 0≤18446744073709551615
 i : -1≤t.into∧t.into<8
 v:0≤t.value∧t.value≤18446744073709551615
 h:0≤t.handle∧t.handle≤18446744073709551615
theorem cO{s:Spc}{n:Nat}{t:bc}(h:s.thr[n]?=some (some t)):s.t n=t:=by unfold Spc.t;rw[List.getD_eq_getElem?_getD,h];rfl
theorem ck{d:Dng}{t:bc}(h:d.s.thr[d.n]?=some (some t)):d.t=t:=cO h
def u6(ps:List (Option Nat))(n:Int):Option Nat:=if 0≤n∧n<16 then ps.getD n.toNat none else none
theorem Ai{t:bc}{y:Int}(t1:bc)(h:t1=if t.into = -1 then t else t.put t.into y):t.cE y = {t1.put 7 0 with why:=0,into := -1 }:=by unfold bc.cE;rw[h]
section
variable{P:Program}{W:World}{N:Nat}{T:TypeId}{L:List (Nat×Option Value)}{H:List aa}{α:Type}
theorem af.sP{E:TypeId}{x y:Operand}{pos:String}{after:Array Edge}{guard:Option (Nat×Bool)}{b o:Nat}{v:Value}{vs cs:List Value}{H':List aa}{enc:α→List Value}{k:Nat}{xs:List α}(hz:∀ w,(sizeOf E).run P w = .ok (vs.length+1) w)(hx:ev L x=some (.pointer (some ⟨b,o,none⟩)))(hy:ev L y=some (.agg (v::vs).toArray))[hv:aJ W H v enc k xs](hvs:vs.all (·.oneCell')=true)
  [_h0:aV H b o cs] [hr:bK H b o cs (v::vs) H'] (hi:cs.length=vs.length+1) :
  af P W N ⟨none,.store E x y,T,pos,after,guard⟩ L H (fun L1 H1=>L1=L∧H1=H'):=fun a w ha hs Kp hK=>af.storeAll hx hy hz (fun c hc=>by
   rcases List.mem_cons.1 hc with rfl | hc
   ·exact hv.rd.one w hs
   ·exact List.all_eq_true.1 hvs c hc) hr.mN hi a w ha hs Kp hK
end
end Go.SLYtefdijgllbkmfaaGreat
namespace Go.SLYtefdijgllbkmfaaGreat
open Go Go.RowKit
def bZ(ps:List (Option Nat))(s:Spc)(n:Nat):Prop:=n<16∧ ∃ q t,ps[n]?=some (some q)∧s.thr[n]?=some (some t)∧gJ t
theorem BF{b p:Nat}{d:Dng}{vw ve:Value}:(ey b p d vw ve).set 11 (.bool true)=ey b p d.ended vw ve:=rfl
theorem FX{b p:Nat}{d:Dng}{vw ve:Value}:(ey b p d vw ve).set 12 (.bool true)=ey b p {d with out:={d.out with yielded:=true } } vw ve:=rfl
theorem cn{s:Spc}{n m:Nat}{t t':bc}(h:s.thr[m]?=some (some t))(hne:n≠m):(s.aj n t').thr[m]?=some (some t):=by
 unfold Spc.aj;simp only;rw[List.getElem?_set_ne hne];exact h
theorem bV{s:Spc}{n:Nat}{t t':bc}(h:s.thr[n]?=some (some t)):(s.aj n t').thr[n]?=some (some t'):=by
 unfold Spc.aj;simp only;exact List.getElem?_set_self (List.getElem?_eq_some_iff.1 h).1
theorem DR{d:Dng}{n:Nat}{y:Int}{m:Nat}{t:bc}(h:d.s.thr[m]?=some (some t))(hne:n≠m):(d.dU n y).s.thr[m]?=some (some t):=cn h hne
theorem u7{d:Dng}{t:bc}{v:Int}(ht:d.s.thr[d.n]?=some (some t))(h:t.bq=true):d.fin v=d.ended.free d.n:=by
 unfold Dng.fin;rw[ck ht,if_pos h]
theorem rF{d:Dng}{t:bc}{v:Int}(ht:d.s.thr[d.n]?=some (some t))(h:t.bq=false)(hj:t.au = -1):d.fin v=d.ended.aj {t with why:=9,value:=v }:=by
 unfold Dng.fin;rw[ck ht,if_neg (by rw[h];simp),if_pos hj]
theorem rG{d:Dng}{t:bc}{v:Int}(ht:d.s.thr[d.n]?=some (some t))(h:t.bq=false)(hj:¬t.au = -1):d.fin v=(d.ended.dU t.au.toNat v).free d.n:=by
 unfold Dng.fin;rw[ck ht,if_neg (by rw[h];simp),if_neg hj]
theorem rH{t:bc}{f:iG}:setFrom (bn t) 0 (iy f)=bn (t.lH f):=rfl
theorem kL{f:iG}{m:List Int}{i:Ins}{z:iG×List Int}(h:gZ f m i=some z):fT f m i=(z.1,z.2,0):=by unfold fT;rw[h]
theorem rI{f:iG}{m:List Int}{i:Ins}(h:gZ f m i=none):fT f m i=(iG.z,[],6):=by unfold fT;rw[h]
theorem m0{f:iG}{m:List Int}{i:Ins}(h:(fT f m i).2.2=0):∃ z,gZ f m i=some z:=by
 unfold fT at h
 cases e:gZ f m i with
 | none=>rw[e] at h;cases h
 | some z=>exact⟨z,rfl⟩
theorem pA{f:iG}{m:List Int}{i:Ins}(h:¬(fT f m i).2.2=0):gZ f m i=none:=by
 cases e:gZ f m i with
 | none=>rfl
 | some z=>rw[kL e] at h;exact absurd rfl h
theorem DS{f:iG}{m:List Int}{i:Ins}(h:gZ f m i=none):i.op=18∨i.op=19:=by
 unfold gZ at h
 repeat' split at h
 all_goals first | (cases h;done) | omega
theorem DT{f:iG}{m:List Int}{i:Ins}{z:iG×List Int}(h:gZ f m i=some z)(ho:i.op=18):f.eR i.b<m.length:=by
 unfold gZ at h
 rw[if_neg (by omega),if_neg (by omega),if_neg (by omega),if_pos ho] at h
 split at h
 ·assumption
 ·cases h
def Dng.told(d:Dng):Dng:=if d.i.op=18 then d.tell d.b (d.s.mem.getD d.b.toNat 0) 0 true else if d.i.op=19 then d.tell d.a d.b 0 true else d
theorem jC{d:Dng}{t:bc}{z:iG×List Int}(ht:d.s.thr[d.n]?=some (some t))(h:gZ t.gb d.s.mem d.i=some z):d.plain = {d.told with s:={d.told.s.aj d.n (t.lH z.1) with mem:=z.2 } }:=by
 unfold Dng.plain;rw[ck ht,h];rfl
theorem lN{d:Dng}{t:bc}(ht:d.s.thr[d.n]?=some (some t))(h:gZ t.gb d.s.mem d.i=none):d.plain=(if d.i.op=18 then d.tell d.b 0 6 true else d.tell d.a d.b 6 true).fin 18446744073709551615:=by
 unfold Dng.plain;rw[ck ht,h]
theorem oa{d:Dng}{h:Int}(e:bj d.s.table h=none):d.other h=(0,3):=by unfold Dng.other;rw[e]
theorem jc{d:Dng}{h:Int}{n:Nat}{t:bc}(e:bj d.s.table h=some n)(ht:d.s.thr[n]?=some (some t))(hn:n=d.n∨t.bq=true):d.other h=(0,3):=by unfold Dng.other;rw[e];simp only;rw[cO ht,if_pos hn]
theorem ob{d:Dng}{h:Int}{n:Nat}{t:bc}(e:bj d.s.table h=some n)(ht:d.s.thr[n]?=some (some t))(hn:¬(n=d.n∨t.bq=true))(hj:t.au = -1):d.other h=(n,0):=by unfold Dng.other;rw[e];simp only;rw[cO ht,if_neg hn,if_pos hj]
theorem kM{d:Dng}{h:Int}{n:Nat}{t:bc}(e:bj d.s.table h=some n)(ht:d.s.thr[n]?=some (some t))(hn:¬(n=d.n∨t.bq=true))(hj:¬t.au = -1):d.other h=(0,4):=by unfold Dng.other;rw[e];simp only;rw[cO ht,if_neg hn,if_neg hj]
section
variable{P:Program}{W:World}{N:Nat}{Q:Exit→Act→World→Prop}{O:Array Oper}{L:List (Nat×Option Value)}{H K:List aa}
theorem bF.H6{ks rest:List Nat}{i:Nat}{E T:TypeId}{x y:Operand}{pos:String}{after:Array Edge}{b o:Nat}{vs cs:List Value}{H':List aa}(ho:O[i]?=some ⟨none,.store E x y,T,pos,after,none⟩)(hk:ks.getD i 1=2)
  (hz:∀ w,(sizeOf E).run P w = .ok vs.length w) (hx:ev L x=some (.pointer (some ⟨b,o,none⟩))) (hy:ev L y=some (.agg vs.toArray)) (hv:vs.all (·.oneCell')=true) [_h0:aV H b o cs] [hr:bK H b o cs vs H'] (hi:cs.length=vs.length)
  (hK:∀ w,Sat W w (seps H)→Sat W w (seps K)) (hK':∀ w,Sat W w (seps H')→Sat W w (seps K)) (h:bF P W N K O Q ks rest L H'):bF P W N K O Q ks (i::rest) L H :=
 bF.d (X:=Unit) (Lx:=fun _=>L) (Hx:=fun _=>H') ho rfl (.inl hk) (fun _=>hK) (fun E=>(by
  intro a w ha hs Kp hK
  exact af.storeAll hx hy hz (List.all_eq_true.1 hv) (gA.app E hr.mN) hi a w ha hs Kp (fun L1 H1 ⟨e1,e2⟩=>hK L1 H1 ⟨(),e1,e2⟩))) (fun _ _=>hK') (fun _=>h)
end
end Go.SLYtefdijgllbkmfaaGreat
namespace Go.SLYtefdijgllbkmfaaGreat
open Go Go.RowKit
theorem wW{α:Type}{f:α→aa}{xs:List α}{i:Nat}{x:α}(h:xs[i]?=some x):∀ g,dH f xs g→seps [f x,dH f (xs.eraseIdx i)] g:=fun g a=>by rw[iW f h] at a;exact ic.2 a
theorem vd{v:Value}{l:List Tub}{xs:List (Nat×Tub)}{i:Nat}{x:Nat×Tub}(hx:xs[i]?=some x)(hxs:xs.map (·.2)=l)(u:Tub):∀ h,seps [sl uJ 1 v xs,ib x.1 u,dH (fun x:Nat×Tub=>ib x.1 x.2) (xs.eraseIdx i)] h→nG v (l.set i u) h:=fun h a=>by
 refine⟨xs.set i (x.1,u),by show(xs.set i (x.1,u)).map (·.2)=_;rw[List.map_set,hxs],?_⟩
 have hi:=(List.getElem?_eq_some_iff.1 hx).1
 rw[ic,nF _ _ hi]
 exact bo (fun g b=>lI (x':=(x.1,u)) hi rfl g (rv hx g b)) (fun g b=>ic.1 b) h a
theorem bZ.aj{ps:List (Option Nat)}{s:Spc}{n m:Nat}{t:bc}(h:bZ ps s m)(ht:gJ t):bZ ps (s.aj n t) m:=by
 obtain⟨hm,q,u,hq,hu,hR⟩:=h
 rcases Decidable.em (n=m) with rfl | hne
 ·exact⟨hm,q,t,hq,bV hu,ht⟩
 ·exact⟨hm,q,u,hq,cn hu hne,hR⟩
theorem bZ.of{ps:List (Option Nat)}{s s':Spc}{m:Nat}(h:bZ ps s m)(e:s'.thr=s.thr):bZ ps s' m:=by
 obtain⟨hm,q,u,hq,hu,hR⟩:=h
 exact⟨hm,q,u,hq,by rw[e];exact hu,hR⟩
theorem oc{l:List Int}{i n:Nat}{x:Int}(hx:0≤x∧x≤18446744073709551615)(h:∀ n,0≤l.getD n 0∧l.getD n 0≤18446744073709551615):0≤(l.set i x).getD n 0∧(l.set i x).getD n 0≤18446744073709551615:=by
 have hn:=h n
 rw[List.getD_eq_getElem?_getD] at hn ⊢
 rw[List.getElem?_set]
 split
 ·split
  ·exact hx
  ·exact⟨Int.le_refl _,by decide⟩
 ·exact hn
theorem gJ.put{t:bc}(h:gJ t){i x:Int}(hx:0≤x∧x≤18446744073709551615):gJ (t.put i x):=⟨by rw[jB];exact h.l,fun n=>oc hx h.r,h.i,h.v,h.h⟩
theorem gJ.with{t:bc}(h:gJ t){a b c:Int}(hc : -1≤c∧c<8):gJ {t with why:=a,op:=b,into:=c }:=⟨h.l,h.r,hc,h.v,h.h⟩
def Gates.has(g:Gates)(w:Int):Prop:=(∃ x∈g.aG, ∃ y∈x.wait,y.who=w)∨(∃ r∈g.bm, ∃ y∈r,y.who=w)∨(∃ x∈g.cf, ∃ y∈x.wait,y.who=w)
structure iz(ps:List (Option Nat))(d:Dng)(t:bc):Prop where
 nb:d.n<16
 R:gJ t
 lt:d.s.thr.length=16
 lp:ps.length=16
 T:iX d.s.table
 slot:∀ h m,bj d.s.table h=some m→bZ ps d.s m
 free:∀ n,slotFree? d.s.table 0=some n→d.s.thr[n]?=some none
 join:¬t.au = -1→0≤t.au∧t.au.toNat≠d.n∧bZ ps d.s t.au.toNat
 I:ja d.i
 nn:d.i.n≤1099511627776
 av:d.s.av.length≤900000000
 ends:d.ends.length≤500000
 FY:d.out.aC.length≤500000
 mem:d.s.mem.length≤1000000
 gl:gE d.s.ag
 FZ:∀ x∈d.s.ag.cf,0≤x.count∧x.count≤1048576
 F0:∀ r∈d.s.ag.bm, ∀ w∈r,0≤w.mutex∧w.mutex<(d.s.ag.aG.length:Int)
 iH:∀ w,d.s.ag.has w→0≤w∧bZ ps d.s w.toNat
 F1:d.s.di.aA≤(d.s.ag.aG.length:Int)
 yP:(∀ x∈d.s.ag.aG,x.wait.length≤400000)∧ ∀ r∈d.s.ag.bm,r.length≤400000
 oe:(d.i.op=35∨d.i.op=36)→d.i.n<(d.s.bx.length:Int)
 tl:∀ u∈d.s.bx,rC u
 wZ:∀ u∈d.s.bx,(∀ w∈u.bC,0≤w∧bZ ps d.s w.toNat)∧(∀ x∈u.bN,0≤x.who∧bZ ps d.s x.who.toNat)
 tw:∀ u∈d.s.bx, ∀ w∈u.words,0≤w∧w≤18446744073709551615
 dw:d.s.aO.wait.length≤1000000
 wn:0≤d.s.ay.now∧d.s.ay.now≤1099511627776
theorem rJ{ps:List (Option Nat)}{d:Dng}{h:Int}(hs:∀ n,bj d.s.table h=some n→bZ ps d.s n)(e:(d.other h).2=0) :
  ∃ m q u,bj d.s.table h=some m∧(d.other h).1=m∧m≠d.n∧m<16∧ps[m]?=some (some q)∧d.s.thr[m]?=some (some u)∧gJ u∧u.bq=false∧u.au = -1:=by
 cases hf:bj d.s.table h with
 | none=>rw[oa hf] at e;cases e
 | some m =>
  obtain⟨hm,q,u,hq,hu,hR⟩:=hs m hf
  by_cases h1:m=d.n∨u.bq=true
  ·rw[jc hf hu h1] at e;cases e
  ·by_cases h2:u.au = -1
   ·exact⟨m,q,u,rfl,by rw[ob hf hu h1 h2],fun h=>h1 (.inl h),hm,hq,hu,hR,by cases hd:u.bq with | false=>rfl | true=>exact absurd (.inr hd) h1,h2⟩
   ·rw[kM hf hu h1 h2] at e;cases e
theorem j0{d:Dng}{h:Int}:0≤(d.other h).2∧(d.other h).2≤11:=by
 unfold Dng.other
 repeat' split
 all_goals (dsimp only;omega)
theorem DU{d:jy}{r:pe}:0≤(d.ask r).1∧(d.ask r).1≤11:=by
 unfold jy.ask
 repeat' split
 all_goals (dsimp only;omega)
theorem Aj{g:Gates}{w m:Int}:0≤(g.lock w m).2.1∧(g.lock w m).2.1≤11:=by
 unfold Gates.lock
 repeat' split
 all_goals (dsimp only;omega)
theorem pB{g:Gates}{w m c:Int}:0≤(g.unlock w m c).2.2.1∧(g.unlock w m c).2.2.1≤11:=by
 unfold Gates.unlock
 repeat' split
 all_goals (dsimp only;omega)
theorem Ak{g:Gates}{w c m ch:Int}:0≤(g.wait w c m ch).2.2.1∧(g.wait w c m ch).2.2.1≤11:=by
 unfold Gates.wait
 repeat' split
 all_goals (dsimp only;omega)
theorem DV{g:Gates}{s c:Int}:0≤(g.up s c).2.2.1∧(g.up s c).2.2.1≤11:=by
 unfold Gates.up
 repeat' split
 all_goals (dsimp only;omega)
theorem Al{g:Gates}{w s:Int}:0≤(g.down w s).2.1∧(g.down w s).2.1≤11:=by
 unfold Gates.down
 repeat' split
 all_goals (dsimp only;omega)
theorem gS{g:Gates}{c ch:Int}{a:Bool}:0≤(g.signal c ch a).2.1∧(g.signal c ch a).2.1≤11:=by
 unfold Gates.signal
 repeat' split
 all_goals (dsimp only;omega)
theorem pC{l:List cV}{c:Int}(h:(aK l c).2.1=true):(aK l c).1∈l:=by
 by_cases h0:l.length=0
 ·rw[uX h0] at h;cases h
 ·exact(jZ h0).1
theorem rK{g:Gates}{w m c:Int}(h:(g.unlock w m c).2.1=true):g.has (g.unlock w m c).1:=by
 unfold Gates.unlock at h ⊢
 split
 ·rename_i e;rw[e] at h;cases h
 ·rename_i x e
  rw[e] at h;simp only at h ⊢
  split
  ·rename_i hi;rw[if_pos hi] at h
   exact .inl ⟨x,List.mem_of_getElem? (mf e).2.2,_,pC h,rfl⟩
  ·rename_i hi;rw[if_neg hi] at h;cases h
theorem wX{g:Gates}{w c m ch:Int}(h:(g.wait w c m ch).2.1=true):g.has (g.wait w c m ch).1:=by
 unfold Gates.wait at h ⊢
 split
 ·rename_i x r e1 e2
  rw[e1,e2] at h;simp only at h ⊢
  repeat' split at h
  all_goals first | (cases h;done) | skip
  rename_i h1 h2
  rw[if_neg h1,if_pos h2]
  exact .inl ⟨x,List.mem_of_getElem? (mf e1).2.2,_,pC h,rfl⟩
 ·rename_i hn
  split at h
  ·rename_i x r e1 e2;exact absurd e2 (hn x r e1)
  ·cases h
theorem DW{g:Gates}{s c:Int}(h:(g.up s c).2.1=true):g.has (g.up s c).1:=by
 unfold Gates.up at h ⊢
 split
 ·rename_i e;rw[e] at h;cases h
 ·rename_i x e
  rw[e] at h;simp only at h ⊢
  split
  ·rename_i hi
   exact .inr (.inr ⟨x,List.mem_of_getElem? (mf e).2.2,_,pC hi,rfl⟩)
  ·rename_i hi;rw[if_neg hi] at h
   split at h <;> cases h
end Go.SLYtefdijgllbkmfaaGreat
namespace Go.SLYtefdijgllbkmfaaGreat
open Go Go.RowKit
theorem bZ.pass{ps:List (Option Nat)}{d:Dng}{t:bc}{m:Nat}{x y e:Int}(h:bZ ps d.s m)(ht:d.s.thr[d.n]?=some (some t))(hR:gJ t)(he:0≤e∧e≤11):bZ ps (d.pass x y e).s m:=by
 have:bZ ps (d.tell x y e true).s m:=h.of rfl
 have h2:=this.aj (n:=d.n) (hR.put (i:=7) (x:=e) (by omega))
 unfold Dng.pass;rw[ck ht];exact h2
theorem bZ.block{ps:List (Option Nat)}{d:Dng}{t:bc}{m:Nat}{w i x y:Int}(h:bZ ps d.s m)(ht:d.s.thr[d.n]?=some (some t))(hR:gJ t)(hi : -1≤i∧i<8):bZ ps (d.block w i x y).s m:=by
 have:bZ ps (d.tell x y 0 false).s m:=h.of rfl
 have h2:=this.aj (n:=d.n) (hR.with (a:=w) (b:=d.i.op) hi)
 unfold Dng.block;rw[ck ht];exact h2
theorem H7{c:Int}(h:0≤c∧c<8):gL c=c:=by unfold gL;omega
theorem DX{u:Tub}{who x:Int}(h:(u.put who x).2.2.1=true):(u.put who x).2.1∈u.bC:=by
 cases hw:u.waits who with
 | true=>rw[tu hw] at h;cases h
 | false =>
  cases hg:u.bC with
  | cons w r=>rw[nZ hw hg];exact List.mem_cons_self
  | nil =>
   by_cases hr:(u.words.length:Int)<u.room
   ·rw[lL hw hg hr] at h;cases h
   ·rw[lM hw hg hr] at h;cases h
theorem DY{u:Tub}{who:Int}(h:(u.get who).2.2.2.1=true):∃ x∈u.bN,x.who=(u.get who).2.2.1:=by
 cases hw:u.waits who with
 | true=>rw[pz hw] at h;cases h
 | false =>
  cases hg:u.words with
  | nil=>rw[get_none hw hg] at h;cases h
  | cons w r =>
   cases hp:u.bN with
   | nil=>rw[mg hw hg hp] at h;cases h
   | cons q r2=>rw[mh hw hg hp];exact⟨q,List.mem_cons_self,rfl⟩
theorem DZ{u:Tub}{who:Int}(h:∀ w∈u.words,0≤w∧w≤18446744073709551615):0≤(u.get who).1∧(u.get who).1≤18446744073709551615:=by
 have h0:(0:Int)≤0∧(0:Int)≤18446744073709551615:=by decide
 cases hw:u.waits who with
 | true=>rw[pz hw];exact h0
 | false =>
  cases hg:u.words with
  | nil=>rw[get_none hw hg];exact h0
  | cons w r =>
   have:=h w (by rw[hg];exact List.mem_cons_self)
   cases hp:u.bN with
   | nil=>rw[mg hw hg hp];exact this
   | cons q r2=>rw[mh hw hg hp];exact this
theorem Am{d:Dng}{xs:List (Nat×Tub)}(hxs:xs.map (·.2)=d.s.bx)(h0:0≤d.i.n)(h:d.i.n<(d.s.bx.length:Int)):∃ q,xs[d.i.n.toNat]?=some (q,d.bb)∧d.bb∈d.s.bx:=by
 have hl:xs.length=d.s.bx.length:=by rw[← hxs,List.length_map]
 obtain⟨⟨q,u⟩,hx⟩:=aB (show d.i.n.toNat<xs.length by omega)
 have hu:=nN hxs hx
 have:d.bb=u:=by unfold Dng.bb;rw[List.getD_eq_getElem?_getD,hu];rfl
 exact⟨q,by rw[this];exact hx,by rw[this];exact List.mem_of_getElem? hu⟩
theorem pD{s:Spc}{f arg:Int}{n:Nat}(h:slotFree? s.table 0=some n)(hl:n<s.thr.length):∃ t,(s.begin f arg).2.2.thr[n]?=some (some t)∧t=mD f arg (dh ((s.table.getD n (false,0)).2+1) n):=by
 rw[dS h]
 exact⟨_,List.getElem?_set_self hl,rfl⟩
end Go.SLYtefdijgllbkmfaaGreat
namespace Go.SLYtefdijgllbkmfaaGreat
open Go Go.RowKit
theorem yN(s:Spc)(a b:List Int):bX s (a++b)=bX (bX s a) b:=by
 induction a generalizing s with
 | nil=>rfl
 | cons x l ih=>exact ih _
theorem vf(s:Spc)(a:List Int):(bX s a).ag=s.ag:=by
 induction a generalizing s with
 | nil=>rfl
 | cons x l ih=>exact(ih _).trans rfl
theorem rL{ps:List (Option Nat)}{s:Spc}(m:Nat)(a:List Int)(h:bZ ps s m):bZ ps (bX s a) m:=by
 induction a generalizing s with
 | nil=>exact h
 | cons x l ih =>
  refine ih ?_
  by_cases hx:∃ t,s.thr[x.toNat]?=some (some t)
  ·obtain⟨t,ht⟩:=hx
   rw[show s.t x.toNat=t from cO ht]
   obtain⟨hm,q,u,hq,hu,hR⟩:=h
   rcases Decidable.em (x.toNat=m) with e | hne
   ·subst e
    rw[ht] at hu;cases hu
    exact⟨hm,q,_,hq,bV ht,⟨hR.l,hR.r,hR.i,hR.v,hR.h⟩⟩
   ·exact⟨hm,q,u,hq,cn hu hne,hR⟩
  ·obtain⟨hm,q,u,hq,hu,hR⟩:=h
   exact⟨hm,q,u,hq,cn hu (fun e=>hx ⟨u,by rw[e];exact hu⟩),hR⟩
theorem gJ.cE{t:bc}(h:gJ t){y:Int}(hy:0≤y∧y≤18446744073709551615):gJ (t.cE y):=by
 have h1:gJ (if t.into = -1 then t else t.put t.into y):=by split;exact h;exact h.put hy
 have h2:=h1.put (i:=7) (x:=0) (by decide)
 exact⟨h2.l,h2.r,by show(-1:Int)≤ -1∧(-1:Int)<8;decide,h2.v,h2.h⟩
theorem vh(d:Dng)(a:List Int)(n:Int):d.dv (a++[n])=(d.dv a).dU n.toNat 0:=by
 induction a generalizing d with
 | nil=>rfl
 | cons x l ih=>exact ih _
theorem qm(d:Dng)(a:List Int):(d.dv a).ends.length=d.ends.length+a.length∧(d.dv a).out.aC.length=d.out.aC.length+a.length:=by
 induction a generalizing d with
 | nil=>exact⟨rfl,rfl⟩
 | cons x l ih =>
  have:=ih (d.dU x.toNat 0)
  simp only[Dng.dU,List.length_append,List.length_cons,List.length_nil] at this
  show(Dng.dv (d.dU x.toNat 0) l).ends.length=_∧(Dng.dv (d.dU x.toNat 0) l).out.aC.length=_
  rw[List.length_cons]
  exact⟨by have:=this.1;simp only[Dng.dU] at this ⊢;omega,by have:=this.2;simp only[Dng.dU] at this ⊢;omega⟩
theorem tv{ps:List (Option Nat)}{d:Dng}{m n:Nat}(h:bZ ps d.s m)(hn:bZ ps d.s n):bZ ps (d.dU n 0).s m:=by
 obtain⟨hn16,q,u,hq,hu,hR⟩:=hn
 have:=h.aj (n:=n) (hR.cE (y:=0) (by decide))
 unfold Dng.dU Spc.cZ
 simp only
 rw[cO hu];exact this
theorem vi{ps:List (Option Nat)}(m:Nat)(a:List Int):∀ (d:Dng),bZ ps d.s m→(∀ w∈a,bZ ps d.s w.toNat)→bZ ps (d.dv a).s m:=by
 induction a with
 | nil=>intro d h _;exact h
 | cons x l ih =>
  intro d h ha
  have hx:=ha x List.mem_cons_self
  exact ih _ (tv h hx) (fun w hw=>tv (ha w (List.mem_cons_of_mem _ hw)) hx)
def eH(d:Dng)(k:Nat):List Int:=(d.s.ag.aG.take k).flatMap fun m=>m.wait.map (·.who)
theorem vj{d:Dng}{k:Nat}{x:dt}(h:d.s.ag.aG[k]?=some x):eH d (k+1)=eH d k++x.wait.map (·.who):=by
 unfold eH
 rw[dc h,List.flatMap_append];simp
theorem An:∀ (n:Nat) (c:Int) (r:List cV) (ms:List dt) (out:List Int),n≤r.length→ ∀ w∈(sigLoop n c r ms out).2.2,w∈out∨ ∃ y∈r,y.who=w
 | 0,_,_,_,_,_,_,h=>.inl h
 | n+1,c,r,ms,out,hn,w,h=>by
  unfold sigLoop at h
  simp only at h
  obtain⟨h1,h2,h3⟩:=jZ (l:=r) (c:=c) (by omega)
  rcases An n c _ _ _ (by omega) w h with h | ⟨y,hy,e⟩
  ·split at h
   ·rcases List.mem_append.1 h with h | h
    ·exact .inl h
    ·rw[List.mem_singleton] at h;exact .inr ⟨_,h1,h.symm⟩
   ·exact .inl h
  ·exact .inr ⟨y,h3 y hy,e⟩
theorem Ao:∀ (n:Nat) (c:Int) (r:List cV) (ms:List dt) (out:List Int),(sigLoop n c r ms out).2.2.length≤out.length+n
 | 0,_,_,_,_=>by simp[sigLoop]
 | n+1,c,r,ms,out=>by
  unfold sigLoop
  simp only
  refine Nat.le_trans (Ao n c _ _ _) ?_
  split
  ·rw[List.length_append];simp;omega
  ·omega
theorem kN{g:Gates}{c ch:Int}{all:Bool}:∀ w∈(g.signal c ch all).1,g.has w:=fun w h=>by
 unfold Gates.signal at h
 split at h
 ·cases h
 ·rename_i r e
  rcases An _ _ _ _ _ (by split <;> omega) w h with h | ⟨y,hy,e2⟩
  ·cases h
  ·exact .inr (.inl ⟨r,List.mem_of_getElem? (mf e).2.2,y,hy,e2⟩)
theorem m3{g:Gates}{c ch:Int}{all:Bool}(hg:∀ r∈g.bm,r.length≤400000):(g.signal c ch all).1.length≤400000:=by
 unfold Gates.signal
 split
 ·simp
 ·rename_i r e
  have:=hg r (List.mem_of_getElem? (mf e).2.2)
  refine Nat.le_trans (Ao _ _ _ _ _) ?_
  simp only[List.length_nil]
  split <;> omega
theorem od:∀ (n:Nat) (c:Int) (r:List cV) (ms:List dt) (out:List Int),(sigLoop n c r ms out).2.1.length=ms.length
 | 0,_,_,_,_=>rfl
 | n+1,c,r,ms,out=>by unfold sigLoop;simp only;rw[od n,List.length_set]
theorem jD{g:Gates}{c ch:Int}{all:Bool}:(g.signal c ch all).2.2.aG.length=g.aG.length:=by
 unfold Gates.signal
 split
 ·rfl
 ·exact od _ _ _ _ _
theorem tA:∀ (n:Nat) (c:Int) (r:List cV) (ms:List dt) (out:List Int) (N:Nat),n≤r.length→(∀ x∈ms,x.wait.length≤N)→ ∀ x∈(sigLoop n c r ms out).2.1,x.wait.length≤N+n∧ ∀ y∈x.wait,(∃ x'∈ms,y∈x'.wait)∨ ∃ z∈r,z.who=y.who
 | 0,_,_,_,_,_,_,hN,x,h=>⟨hN x h,fun y hy=>.inl ⟨x,h,hy⟩⟩
 | n+1,c,r,ms,out,N,hn,hN,x,h=>by
  unfold sigLoop at h
  simp only at h
  obtain⟨h1,h2,h3⟩:=jZ (l:=r) (c:=c) (by omega)
  have hl:∀ x∈ms.set (aK r c).1.mutex.toNat ((ms.getD (aK r c).1.mutex.toNat ⟨[],false,0⟩).lock (aK r c).1.who).2,x.wait.length≤N+1∧ ∀ y∈x.wait,(∃ x'∈ms,y∈x'.wait)∨y.who=(aK r c).1.who:=by
   intro x hx
   rcases List.mem_or_eq_of_mem_set hx with hx | rfl
   ·exact⟨by have:=hN x hx;omega,fun y hy=>.inl ⟨x,hx,hy⟩⟩
   ·have hg:∀ (z:dt),(z∈ms∨z=⟨[],false,0⟩)→(z.lock (aK r c).1.who).2.wait.length≤N+1∧ ∀ y∈(z.lock (aK r c).1.who).2.wait,(∃ x'∈ms,y∈x'.wait)∨y.who=(aK r c).1.who:=by
     intro z hz
     have hzl:z.wait.length≤N:=by
      rcases hz with hz | rfl
      ·exact hN z hz
      ·exact Nat.zero_le _
     unfold dt.lock
     split
     ·refine⟨by rw[List.length_append];simp;omega,fun y hy=>?_⟩
      rcases List.mem_append.1 hy with hy | hy
      ·rcases hz with hz | rfl
       ·exact .inl ⟨z,hz,hy⟩
       ·cases hy
      ·rw[List.mem_singleton] at hy;exact .inr (by rw[hy])
     ·refine⟨by show z.wait.length≤_;omega,fun y hy=>?_⟩
      rcases hz with hz | rfl
      ·exact .inl ⟨z,hz,hy⟩
      ·cases hy
    refine hg _ ?_
    rw[List.getD_eq_getElem?_getD]
    cases e:ms[(aK r c).1.mutex.toNat]? with
    | none=>exact .inr rfl
    | some z=>exact .inl (List.mem_of_getElem? e)
  obtain⟨g1,g2⟩:=tA n c _ _ _ (N+1) (by omega) (fun x hx=>(hl x hx).1) x h
  refine⟨by omega,fun y hy=>?_⟩
  rcases g2 y hy with ⟨x',hx',hy'⟩ | ⟨z,hz,e⟩
  ·rcases(hl x' hx').2 y hy' with hh | hh
   ·exact .inl hh
   ·exact .inr ⟨_,h1,hh.symm⟩
  ·exact .inr ⟨z,h3 z hz,e⟩
theorem kO{g:Gates}{c ch:Int}{all:Bool}(h1:∀ x∈g.aG,x.wait.length≤400000)(h2:∀ r∈g.bm,r.length≤400000):∀ x∈(g.signal c ch all).2.2.aG,x.wait.length≤1000000∧ ∀ y∈x.wait,g.has y.who:=by
 intro x hx
 unfold Gates.signal at hx
 split at hx
 ·exact⟨Nat.le_trans (h1 x hx) (by decide),fun y hy=>.inl ⟨x,hx,y,hy,rfl⟩⟩
 ·rename_i r e
  have hr:=List.mem_of_getElem? (mf e).2.2
  have hrl:=h2 r hr
  obtain⟨a,b⟩:=tA _ _ _ _ _ 400000 (by split <;> omega) h1 x hx
  have hif:(if all=true then r.length else min r.length 1)≤r.length:=by split <;> omega
  refine⟨by omega,fun y hy=>?_⟩
  rcases b y hy with ⟨x',hx',hy'⟩ | ⟨z,hz,e2⟩
  ·exact .inl ⟨x',hx',y,hy',rfl⟩
  ·exact .inr (.inl ⟨r,hr,z,hz,e2⟩)
end Go.SLYtefdijgllbkmfaaGreat
namespace Go.SLYtefdijgllbkmfaaGreat
open Go Go.RowKit
structure jd(s:Spc):Prop where
 lt:s.thr.length=16
 T:iX s.table
 R:∀ (n:Nat) (t:bc),s.thr[n]?=some (some t)→gJ t∧0≤t.pc∧t.pc≤257
 slot:∀ (h:Int) (m:Nat),bj s.table h=some m→ ∃ t,s.thr[m]?=some (some t)
 free:∀ n:Nat,slotFree? s.table 0=some n→s.thr[n]?=some none
 join:∀ (n:Nat) (t:bc),s.thr[n]?=some (some t)→t.why=0→¬t.au = -1→0≤t.au∧t.au.toNat≠n∧ ∃ u,s.thr[t.au.toNat]?=some (some u)
 av:s.av.length≤800000000
 mem:s.mem.length≤1000000
 gl:gE s.ag
 FZ:∀ x∈s.ag.cf,0≤x.count∧x.count≤1048576
 F0:∀ r∈s.ag.bm, ∀ w∈r,0≤w.mutex∧w.mutex<(s.ag.aG.length:Int)
 iH:∀ w,s.ag.has w→0≤w∧ ∃ u,s.thr[w.toNat]?=some (some u)
 F1:s.di.aA≤(s.ag.aG.length:Int)
 yP:(∀ x∈s.ag.aG,x.wait.length≤400000)∧ ∀ r∈s.ag.bm,r.length≤400000
 code:∀ f∈s.di.funcs, ∀ i∈f,ja i∧(cls i.op≠1→i.n≤1099511627776)∧(i.op=35∨i.op=36→i.n<(s.bx.length:Int))
 w8:s.di.funcs.length≤1000000∧ ∀ f∈s.di.funcs,f.length≤256
 tl:∀ u∈s.bx,rC u
 wZ:∀ u∈s.bx,(∀ w∈u.bC,0≤w∧ ∃ v,s.thr[w.toNat]?=some (some v))∧(∀ x∈u.bN,0≤x.who∧ ∃ v,s.thr[x.who.toNat]?=some (some v))
 tw:∀ u∈s.bx, ∀ w∈u.words,0≤w∧w≤18446744073709551615
 dw:s.aO.wait.length≤1000000
 db:∀ r∈s.aO.wait,0≤r.block∧r.block<(s.aO.blocks.length:Int)
 JC:∀ r∈s.aO.wait,0≤r.who∧ ∃ v,s.thr[r.who.toNat]?=some (some v)
 wn:0≤s.ay.now∧s.ay.now≤1099511627776
 wl:s.ay.dT.length≤1000000
 JE:∀ x∈s.ay.dT,0≤x.1∧ ∃ v,s.thr[x.1.toNat]?=some (some v)
theorem jd.live{s:Spc}(h:jd s){ps:List (Option Nat)}(hs:uT ps s.thr){m:Nat}{t:bc}(e:s.thr[m]?=some (some t)):bZ ps s m:=by
 obtain⟨q,hq⟩:=hs.2.1 m t e
 exact⟨h.lt ▸ (List.getElem?_eq_some_iff.1 e).1,q,t,hq,e,(h.R m t e).1⟩
theorem gJ.gb{t:bc}(h:gJ t)(hp:0≤t.pc∧t.pc≤257):Ac t.gb:=⟨h.l,by show 0≤t.pc∧t.pc≤_;omega,h.r⟩
theorem jd.call{s:Spc}(h:jd s){ps:List (Option Nat)}(hs:uT ps s.thr){k:Nat}{t:bc}{i:Ins}{choice:Int}(ht:s.thr[k]?=some (some t))(hw:t.why=0)(hI:ja i)(hn:i.n≤1099511627776)(htub:i.op=35∨i.op=36→i.n<(s.bx.length:Int)) :
  iz ps ((s.dF k i choice).aj {t with pc:=t.pc+1 }) {t with pc:=t.pc+1 }:=by
 have hk16:k<16:=h.lt ▸ (List.getElem?_eq_some_iff.1 ht).1
 have hR:=(h.R k t ht).1
 have hR2:gJ {t with pc:=t.pc+1 }:=⟨hR.l,hR.r,hR.i,hR.v,hR.h⟩
 have lv:∀ {m:Nat} {u:bc},s.thr[m]?=some (some u)→bZ ps (s.aj k {t with pc:=t.pc+1 }) m:=fun e=>(h.live hs e).aj hR2
 refine⟨hk16,hR2,?_,hs.1.trans h.lt,h.T,fun x m e=>?_,fun n e=>?_,fun hj=>?_,hI,hn,Nat.le_trans h.av (by decide),Nat.zero_le _,Nat.zero_le _,h.mem,h.gl,h.FZ,h.F0,fun w hw=>?_,h.F1,h.yP,htub,h.tl,fun u hu=>⟨fun w hw=>?_,fun x hx=>?_⟩,h.tw,h.dw,h.wn⟩
 ·show(s.thr.set k _).length=16
  rw[List.length_set];exact h.lt
 ·obtain⟨u,hu⟩:=h.slot x m e;exact lv hu
 ·have:=h.free n e
  show(s.thr.set k _)[n]?=_
  rw[List.getElem?_set_ne (fun e=>by rw[e,this] at ht;cases ht)];exact this
 ·obtain⟨a,b,u,hu⟩:=h.join k t ht hw hj
  exact⟨a,b,lv hu⟩
 ·obtain⟨a,u,hu⟩:=h.iH w hw;exact⟨a,lv hu⟩
 ·obtain⟨a,u,hu⟩:=(h.wZ u hu).1 w hw;exact⟨a,lv hu⟩
 ·obtain⟨a,u,hu⟩:=(h.wZ u hu).2 x hx;exact⟨a,lv hu⟩
theorem jd.Hj{s:Spc}(h:jd s){ps:List (Option Nat)}(hs:uT ps s.thr){k:Nat}{t:bc}(ht:s.thr[k]?=some (some t))(hw:t.why=0):¬t.au = -1→0≤t.au∧t.au.toNat≠k∧bZ ps s t.au.toNat:=fun hj=>by
 obtain⟨a,b,u,hu⟩:=h.join k t ht hw hj
 exact⟨a,b,h.live hs hu⟩
theorem j6{s:Spc}(h:jd s){f:iG}{i:Ins}(e:dD s.di f=some i):ja i∧(cls i.op≠1→i.n≤1099511627776)∧(i.op=35∨i.op=36→i.n<(s.bx.length:Int)):=by
 unfold dD at e
 split at e
 ·cases e
 ·have hi:=List.mem_of_getElem? e
  cases hf:s.di.funcs[f.fn.toNat]? with
  | none=>rw[List.getD_eq_getElem?_getD,hf] at hi;cases hi
  | some g=>rw[List.getD_eq_getElem?_getD,hf] at hi;exact h.code g (List.mem_of_getElem? hf) i hi
theorem D0{s:Spc}{ps:List (Option Nat)}(hs:uT ps s.thr){n:Int}(h:u6 ps n=none)(hl:s.thr.length=16):s.at n=none:=by
 unfold u6 at h
 unfold Spc.at eU
 split
 ·rfl
 ·rename_i h0
  by_cases hn:n<16
  ·rw[if_pos ⟨by omega,hn⟩] at h
   obtain⟨x,hx⟩:=aB (show n.toNat<s.thr.length by omega)
   rw[hx]
   cases x with
   | none=>rfl
   | some t=>obtain⟨q,hq⟩:=hs.2.1 _ t hx;rw[eG hq] at h;cases h
  ·rw[List.getElem?_eq_none (by omega)];rfl
theorem yO{s:Spc}{ps:List (Option Nat)}(hs:uT ps s.thr){n:Int}{p:Nat}(h:u6 ps n=some p)(hl:s.thr.length=16):∃ k:Nat, ∃ t,n=(k:Int)∧k<16∧ps[k]?=some (some p)∧s.thr[k]?=some (some t)∧s.at n=some t:=by
 unfold u6 at h
 split at h
 ·rename_i h0
  have hp:ps[n.toNat]?=some (some p):=by
   rw[List.getD_eq_getElem?_getD] at h
   cases e:ps[n.toNat]? with
   | none=>rw[e] at h;cases h
   | some x=>rw[e] at h;simp only[Option.getD_some] at h;rw[h]
  obtain⟨x,hx⟩:=aB (show n.toNat<s.thr.length by omega)
  cases x with
  | none=>have:=hs.2.2 _ hx;rw[hp] at this;cases this
  | some t=>exact⟨n.toNat,t,by omega,by omega,hp,hx,by unfold Spc.at eU;rw[if_neg (by omega),hx];rfl⟩
 ·cases h
section
variable{P:Program}{W:World}
theorem Fn.KE{f:FuncId}{args:List Value}{X X1:Type}{val:X→Value}{fact:X→Prop}{p:X1→Prop}{A:X1→List aa}(h:∀ x,p x→Fn P W f args [seps (A x)] X val fact (fun _=>[seps (A x)])):Fn P W f args [hZ p A] X val fact (fun _=>[hZ p A]):=fun F w hs=>by
 have h1:Sat W w (sep (ex fun x:{x // p x }=>seps (A x.1)) F):=hs.mono (bo (fun g b=>by
  obtain⟨x,hx,b⟩:hZ p A g:=by simpa only[seps,aR] using b
  exact⟨⟨x,hx⟩,b⟩) (fun g b=>b))
 obtain⟨x,h2⟩:=h1.exists
 refine(h x.1 x.2 F w (by simpa only[seps,aR] using h2)).mono ?_
 rintro e w' ⟨y,e1,e2,s⟩
 exact⟨y,e1,e2,s.mono (bo (fun g b=>by
  have b':seps (A x.1) g:=by simpa only[seps,aR] using b
  show seps [hZ p A] g
  simp only[seps,aR]
  exact⟨x.1,x.2,b'⟩) (fun g b=>b))⟩
end
theorem lO{s:Spc}{n c:Int}(h:s.at n=none):s.run n c=(fF.z,1,s):=by unfold Spc.run;rw[h]
theorem lP{s:Spc}{n c:Int}{t:bc}(h:s.at n=some t)(hw:t.why≠0):s.run n c=(fF.z,4,s):=by unfold Spc.run;rw[h];simp only;rw[if_pos hw]
theorem vk{s:Spc}{k:Nat}{c:Int}{t:bc}(h:s.at (k:Int)=some t)(hw:¬t.why≠0)(hn:dD s.di t.gb=none){z:Dng}(hz:z=((s.dF k ⟨23,0,0,0,0⟩ c).tell 0 0 0 true).fin 0):s.run (k:Int) c=(z.finish.1,0,z.finish.2):=by
 unfold Spc.run;rw[h];simp only;rw[if_neg hw,hn];subst hz;rfl
theorem pE{s:Spc}{k:Nat}{c:Int}{t:bc}{i:Ins}(h:s.at (k:Int)=some t)(hw:¬t.why≠0)(hn:dD s.di t.gb=some i)(hc:cls i.op=1){z:Dng}(hz:z=(s.dF k i c).plain):s.run (k:Int) c=(z.finish.1,0,z.finish.2):=by
 unfold Spc.run;rw[h];simp only;rw[if_neg hw,hn];simp only;rw[if_pos hc];subst hz;rfl
theorem rM{s:Spc}{k:Nat}{c:Int}{t:bc}{i:Ins}(h:s.at (k:Int)=some t)(hw:¬t.why≠0)(hn:dD s.di t.gb=some i)(hc:¬cls i.op=1){z:Dng}(hz:z=((s.dF k i c).aj {t with pc:=t.pc+1 }).call):s.run (k:Int) c=(z.finish.1,0,z.finish.2):=by
 unfold Spc.run;rw[h];simp only;rw[if_neg hw,hn];simp only;rw[if_neg hc];subst hz;rfl
theorem H8(t:bc)(x:Int):(bn t).set 1 (.int .i64 x)=bn {t with pc:=x }:=rfl
def wY(fv sv pv:Value)(p:fE):List Value:=[fv,.int .i64 p.words,.int .i64 p.aA,.int .i64 p.conds,sv,pv,.int .i64 p.blocks,.int .i64 p.prio]
end Go.SLYtefdijgllbkmfaaGreat
