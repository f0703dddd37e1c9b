/- Walks of functions, and what they compute. Conditions: none, this text proves no statement. -/
import Derived.Test.YtefdijgllbkmfaaGreatH02
import Derived.Recover
import Derived.OrdersHeld
import Derived.Laws.Externs
import Derived.Laws.NewFold
namespace Go.SLYtefdijgllbkmfaaGreat
structure iZ where
 aM:List Int
 bE:Bool
 ended:Bool
 yielded:Bool
deriving DecidableEq
def iZ.z:iZ:=⟨[],false,false,false⟩
/-! words as numbers with a point -/
def D5(a b:Int):Bool:=Ieee.double.order a.toNat b.toNat == some .lt
def LD(a b:Int):Bool:=Ieee.double.order a.toNat b.toNat == some .eq
def mR(a:Int):Bool := !LD a a
def fA(a:Int):Int:=if mR a=true then mW else a
def B8:Option Nat→Int
 | some r=>fA r
 | none=>mW
def B9(a b:Int):Int:=B8 (Ieee.double.add a.toNat b.toNat)
def Ca(a b:Int):Int:=B8 (Ieee.double.sub a.toNat b.toNat)
def Cb(a b:Int):Int:=B8 (Ieee.double.mul a.toNat b.toNat)
def Cc(a b:Int):Int:=B8 (Ieee.double.div a.toNat b.toNat)
def fj(a:Int):Int:=fA (Go.FloatKind.f64.nearest (Go.IntKind.i64.wrap a))
def rV(b:Bool):Int:=if b=true then 1 else 0
def eD(neg:Bool)(win:Ordering)(x y:Nat):Nat :=
 let a:=Go.FloatKind.f64.decode x
 let b:=Go.FloatKind.f64.decode y
 if a == .infinity neg || b == .infinity neg then Go.FloatKind.f64.encode (.infinity neg)
 else if a.isNaN || b.isNaN then 0x7FF8000000000001
 else if a.isZero && b.isZero then (if a.neg == neg then x else y)
 else if a.order b == some win then x else y
def n8(a b:Int):Int:=if (mR a || mR b)=true then mW else fA (eD true .lt a.toNat b.toNat:Nat)
def n9(a b:Int):Int:=if (mR a || mR b)=true then mW else fA (eD false .gt a.toNat b.toNat:Nat)
def oa:Nat:=4890909195324358656
def ob:Nat:=14114281232179134464
def fe(a:Int):Int :=
 if mR a=true then 0 else
 if (Ieee.double.order a.toNat oa == some .gt || Ieee.double.order a.toNat oa == some .eq)=true then 9223372036854775807 else
 if (Ieee.double.order a.toNat ob == some .lt)=true then 9223372036854775808 else gU (((Go.FloatKind.f64.decode a.toNat).toInt .zero).getD 0)
def aH(op a b:Int):Int :=
 if op=2 then a else if op=3 then gU (a+b) else if op=4 then gU (a-b) else if op=5 then gU (a * b) else if op=6 then rV (decide (a<b)) else
 if op=7 then B9 a b else if op=8 then Ca a b else if op=9 then Cb a b else if op=10 then Cc a b else
 if op=11 then n8 a b else if op=12 then n9 a b else if op=13 then rV (D5 a b) else
 if op=14 then fe a else if op=15 then fj a else 0
/-! plain instructions -/
structure iG where
 fn:Int
 pc:Int
 aq:List Int
def iG.z:iG:=⟨0,0,[0,0,0,0,0,0,0,0]⟩
def iG.eX(f:iG)(a:Int):Int:=f.aq.getD a.toNat 0
def iG.put(f:iG)(a v:Int):iG:={f with aq:=f.aq.set a.toNat v }
def lQ(op:Int):Bool:=decide (op=2) || decide (op=14) || decide (op=15)
def hY(f:iG)(m:List Int)(i:Ins):Option (iG×List Int) :=
 if i.op=16 then some ({f with pc:=i.n },m) else
 if i.op=17 then some ({f with pc:=if f.eX i.a=0 then i.n else f.pc+1 },m) else
 if i.op=1 then some ({f.put i.a i.n with pc:=f.pc+1 },m) else
 if i.op=18 then (if f.eX i.b<m.length then some ({f.put i.a (m.getD (f.eX i.b).toNat 0) with pc:=f.pc+1 },m) else none) else
 if i.op=19 then (if f.eX i.a<m.length then some ({f with pc:=f.pc+1 },m.set (f.eX i.a).toNat (f.eX i.b)) else none) else
 some ({f.put i.a (aH i.op (f.eX i.b) (if lQ i.op=true then 0 else f.eX i.c)) with pc:=f.pc+1 },m)
/-! threads -/
def LF:bo:=⟨0,0,[0,0,0,0,0,0,0,0],0,0,0,false, -1,0, -1⟩
def bo.hZ(t:bo):iG:=⟨t.fn,t.pc,t.aq⟩
def bo.lR(t:bo)(f:iG):bo:={t with fn:=f.fn,pc:=f.pc,aq:=f.aq }
def bo.eX(t:bo)(a:Int):Int:=t.aq.getD a.toNat 0
def bo.put(t:bo)(a:Int)(v:Int):bo:={t with aq:=t.aq.set a.toNat v }
def Spc.t(s:Spc)(n:Nat):bo:=(s.thr.getD n none).getD LF
def Spc.aj(s:Spc)(n:Nat)(t:bo):Spc:={s with thr:=s.thr.set n (some t) }
def Spc.at(s:Spc)(n:Int):Option bo:=(cE s.thr n).getD none
def Spc.free(s:Spc)(n:Nat):Spc:={s with table:=slotFreed s.table (s.t n).handle,thr:=s.thr.set n none }
def Spc.tell(s:Spc)(r:Rec):Spc:={s with au:=s.au++[r] }
def eE(p:eZ)(f:iG):Option Ins:=if f.fn<0∨f.pc<0 then none else (p.funcs.getD f.fn.toNat [])[f.pc.toNat]?
def bo.cV(t:bo)(y:Int):bo:={(if t.into = -1 then t else t.put t.into y).put 7 0 with why:=0,into := -1 }
def bo.dL(t:bo)(y:Int):Rec:=⟨t.handle,t.op,0,if t.into = -1 then 0 else y,0,true⟩
def Spc.dn(s:Spc)(n:Nat)(y:Int):Spc:=s.aj n ((s.t n).cV y)
/-! an instruction that a thread does -/
structure Dng where
 s:Spc
 n:Nat
 i:Ins
 choice:Int
 out:iZ
 ends:List Rec
def Dng.t(d:Dng):bo:=d.s.t d.n
def Dng.aj(d:Dng)(t:bo):Dng:={d with s:=d.s.aj d.n t }
def Dng.a(d:Dng):Int:=d.t.eX d.i.a
def Dng.b(d:Dng):Int:=d.t.eX d.i.b
def Dng.tell(d:Dng)(x y e:Int)(fin:Bool):Dng:={d with s:=d.s.tell ⟨d.t.handle,d.i.op,x,y,e,fin⟩ }
def Dng.pass(d:Dng)(x y e:Int):Dng:=(d.tell x y e true).aj (d.t.put 7 e)
def Dng.block(d:Dng)(why into x y:Int):Dng:={(d.tell x y 0 false).aj {d.t with why:=why,op:=d.i.op,into:=into } with out:={d.out with bE:=true } }
def Dng.dZ(d:Dng)(n:Nat)(y:Int):Dng:={d with s:=d.s.dn n y,ends:=d.ends++[(d.s.t n).dL y],out:={d.out with aM:=d.out.aM++[(n:Int)] } }
def Dng.free(d:Dng)(n:Nat):Dng:={d with s:=d.s.free n }
def Dng.ended(d:Dng):Dng:={d with out:={d.out with ended:=true } }
def Dng.fin(d:Dng)(v:Int):Dng :=
 if d.t.bq=true then d.ended.free d.n else
 if d.t.av = -1 then d.ended.aj {d.t with why:=9,value:=v } else (d.ended.dZ d.t.av.toNat v).free d.n
def Dng.finish(d:Dng):iZ×Spc:=(d.out,{d.s with au:=d.s.au++d.ends })
def Dng.aZ(d:Dng)(g:Gates):Dng:={d with s:={d.s with ag:=g } }
def Dng.dP(d:Dng)(k:Nat)(u:Tub):Dng:={d with s:={d.s with bA:=d.s.bA.set k u } }
def Dng.dC(d:Dng)(u:jC):Dng:={d with s:={d.s with aO:=u } }
def Dng.rW(d:Dng)(u:j6):Dng:={d with s:={d.s with aA:=u } }
def Dng.plain(d:Dng):Dng :=
 match hY d.t.hZ d.s.mem d.i with
 | some (f,m) =>
  let d1:=if d.i.op=18 then d.tell d.b (d.s.mem.getD d.b.toNat 0) 0 true else if d.i.op=19 then d.tell d.a d.b 0 true else d
  {d1 with s:={d1.s.aj d.n (d.t.lR f) with mem:=m } }
 | none=>(if d.i.op=18 then d.tell d.b 0 6 true else d.tell d.a d.b 6 true).fin 18446744073709551615
def Dng.spawn(d:Dng):Dng :=
 let r:=d.s.begin d.i.n d.b
 let h:=if r.2.1=0 then (r.2.2.t r.1.toNat).handle else 0
 let d1:Dng:={d with s:=r.2.2,out:=if r.2.1=0 then {d.out with aM:=d.out.aM++[r.1] } else d.out }
 (d1.aj (d1.t.put d.i.a h)).pass d.i.n h r.2.1
def Dng.other(d:Dng)(h:Int):Nat×Int :=
 match bm d.s.table h with
 | none=>(0,3)
 | some n=>if n=d.n∨(d.s.t n).bq=true then (0,3) else if (d.s.t n).av = -1 then (n,0) else (0,4)
def Dng.join(d:Dng):Dng :=
 let x:=d.b
 if (d.other x).2≠0 then d.pass x 0 (d.other x).2 else
 let n:=(d.other x).1
 if (d.s.t n).why=9 then ((d.aj (d.t.put d.i.a (d.s.t n).value)).free n).pass x (d.s.t n).value 0 else
 ({d with s:=d.s.aj n {d.s.t n with av:=d.n } }:Dng).block 4 d.i.a x 0
def Dng.cO(d:Dng):Dng :=
 let x:=d.a
 if (d.other x).2≠0 then d.pass x 0 (d.other x).2 else
 let n:=(d.other x).1
 (if (d.s.t n).why=9 then d.free n else ({d with s:=d.s.aj n {d.s.t n with bq:=true } }:Dng)).pass x 0 0
def Dng.dE(d:Dng):List Int→Dng
 | []=>d
 | n::l=>(d.dZ n.toNat 0).dE l
def bY(s:Spc):List Int→Spc
 | []=>s
 | n::l=>bY (s.aj n.toNat {s.t n.toNat with why:=1 }) l
def Dng.waits(d:Dng):List Int:=((d.s.ag.aF.take d.s.dK.aB.toNat).flatMap fun m=>m.wait.map (·.who))
def Dng.j8(d:Dng)(l:List Int):Dng:=({d with s:=bY d.s d.waits }:Dng).dE l
def Dng.given(d:Dng)(n:Int)(ok:Bool):Dng:=if ok=true then d.dZ n.toNat 0 else d
def Dng.mutex(d:Dng):Dng :=
 let m:=d.i.n
 if d.i.op=25 then
  let r:=d.s.ag.lock d.n m
  if r.2.1=0∧r.1=false then (d.aZ r.2.2).block 1 (-1) m 0 else (d.aZ r.2.2).pass m 0 r.2.1
 else if d.i.op=26 then
  let r:=d.s.ag.unlock d.n m d.choice
  ((d.aZ r.2.2.2).pass m 0 r.2.2.1).given r.1 r.2.1
 else
  let r:=d.s.ag.wait d.n m d.i.c d.choice
  if r.2.2.1≠0 then (d.aZ r.2.2.2).pass m (gU d.i.c) r.2.2.1 else ((d.aZ r.2.2.2).block 2 (-1) m (gU d.i.c)).given r.1 r.2.1
def Dng.cf(d:Dng):Dng :=
 if d.i.op=31 then
  let r:=d.s.ag.up d.i.n d.choice
  ((d.aZ r.2.2.2).pass d.i.n 0 r.2.2.1).given r.1 r.2.1
 else
  let r:=d.s.ag.down d.n d.i.n
  if r.2.1=0∧r.1=false then (d.aZ r.2.2).block 3 (-1) d.i.n 0 else (d.aZ r.2.2).pass d.i.n 0 r.2.1
def Dng.ask(d:Dng)(block y into:Int):Dng :=
 if block<64 then
  let r:=d.s.aO.ask ⟨d.n,block,decide (d.i.op=34),y⟩
  if r.1≠0 then (d.dC r.2).pass block y r.1 else (d.dC r.2).block 5 into block y
 else d.pass block y 1
def Kx:Tub:=⟨0,[],[],[]⟩
def Dng.bc(d:Dng):Tub:=d.s.bA.getD d.i.n.toNat Kx
def Dng.put(d:Dng):Dng :=
 let x:=d.a
 let r:=d.bc.put d.n x
 let d1:=d.dP d.i.n.toNat r.2.2.2
 if r.1=false then d1.block 7 (-1) d.i.n x else
 if r.2.2.1=true then (d1.pass d.i.n x 0).dZ r.2.1.toNat x else d1.pass d.i.n x 0
def Dng.get(d:Dng):Dng :=
 let r:=d.bc.get d.n
 let d1:=d.dP d.i.n.toNat r.2.2.2.2
 if r.2.1=false then d1.block 6 d.i.a d.i.n 0 else
 let d2:=(d1.aj (d1.t.put d.i.a r.1)).pass d.i.n r.1 0
 if r.2.2.2.1=true then d2.dZ r.2.2.1.toNat 0 else d2
def Dng.sleep(d:Dng):Dng :=
 let x:=d.a
 if x=0 then d.pass x 0 0 else if 1099511627776<x then d.pass x 0 1 else (d.rW (d.s.aA.sleep d.n x).2).block 8 (-1) x 0
def Dng.kernel(d:Dng):Dng :=
 if d.i.op=33 then d.ask d.b 0 d.i.a else
 if d.i.op=34 then d.ask d.a d.b (-1) else
 if d.i.op=35 then d.put else
 if d.i.op=36 then d.get else
 if d.i.op=37 then d.sleep else d.pass d.a 0 0
def Dng.call(d:Dng):Dng :=
 if d.i.op=20 then d.spawn else
 if d.i.op=32 then (d.aj (d.t.put d.i.a d.t.handle)).pass 0 d.t.handle 0 else
 if d.i.op=24 then {d.pass 0 0 0 with out:={d.out with yielded:=true } } else
 if d.i.op=21 then d.join else
 if d.i.op=22 then d.cO else
 if d.i.op=23 then (d.tell d.a 0 0 true).fin d.a else
 if d.i.op=25∨d.i.op=26∨d.i.op=27 then d.mutex else
 if d.i.op=28∨d.i.op=29 then
  let r:=d.s.ag.signal d.i.n d.choice (decide (d.i.op=29))
  ((d.aZ r.2.2).pass d.i.n 0 r.2.1).j8 r.1
 else
 if d.i.op=30∨d.i.op=31 then d.cf else d.kernel
/-! a space's steps -/
def Spc.dM(s:Spc)(n:Nat)(i:Ins)(choice:Int):Dng:=⟨s,n,i,choice,iZ.z,[]⟩
def Spc.run(s:Spc)(n choice:Int):iZ×Int×Spc :=
 match s.at n with
 | none=>(iZ.z,1,s)
 | some t =>
  if t.why≠0 then (iZ.z,4,s) else
  match eE s.dK t.hZ with
  | none=>let r:=(((s.dM n.toNat ⟨23,0,0,0,0⟩ choice).tell 0 0 0 true).fin 0).finish;(r.1,0,r.2)
  | some i =>
   let d:=s.dM n.toNat i choice
   let r:=(if cls i.op=1 then d.plain else (d.aj {t with pc:=t.pc+1 }).call).finish
   (r.1,0,r.2)
def Spc.done(s:Spc)(k:Int):iZ×Int×Spc :=
 let r:=s.aO.done k
 if r.2.2.1=false then (iZ.z,3,s) else
 let s1:Spc:={s with aO:=r.2.2.2 }
 (⟨[r.1.who],false,false,false⟩,0,(s1.dn r.1.who.toNat r.2.1).tell ((s1.t r.1.who.toNat).dL r.2.1))
def di(s:Spc):List Int→Spc
 | []=>s
 | n::l=>di ((s.dn n.toNat 0).tell ((s.t n.toNat).dL 0)) l
def Spc.tick(s:Spc):iZ×Spc:=(⟨s.aA.due,false,false,false⟩,di {s with aA:=s.aA.tick.2 } s.aA.due)
end Go.SLYtefdijgllbkmfaaGreat
namespace Go.SLYtefdijgllbkmfaaGreat
open Go Go.RowKit
def Cd(P:Program)(W:World)(f:FuncId)(args:List Value)(pre:List aa)(X:Type)(en:X→Ending)(fact:X→Prop)(post:X→List aa):Prop :=
 ∀ (F:aa) (w:World),Sat W w (sep (seps pre) F)→Calls P f args.toArray w (fun e w'=>∃ x,e=en x∧fact x∧Sat W w' (sep (seps (post x)) F))
section
variable{P:Program}{W:World}{N:Nat}{Q:Exit→Act→World→Prop}{L:List (Nat×Option Value)}{H K R:List aa}{O:Array Oper}{T:TypeId}{rest:List Oper}
theorem Fn.b{f:FuncId}{args:List Value}{pre:List aa}{X:Type}{val:X→Value}{fact:X→Prop}{post:X→List aa}(h:Fn P W f args pre X val fact post):Cd P W f args pre X (fun x=>.returned (val x)) fact post:=h
theorem Cd.intro{f:FuncId}{fn:Func}{c:Code}{args:List Value}{pre:List aa}{X:Type}{en:X→Ending}{fact:X→Prop}{post:X→List aa}(hf:P.funcs[f]?=some fn)(hb:fn.body=some c)(hn:fn.ntmps=N)(ha:Nat.ble args.length N=true)
  (h:∀ F,ax P W N (bodyPost P fn (fun e w'=>∃ x,e=en x∧fact x∧Sat W w' (sep (seps (post x)) F))) c (enum 0 args) (pre++[F])):Cd P W f args pre X en fact post:=fun F w hs=>by
 have hle:args.length≤N:=Nat.ble_eq.mp ha
 refine calls_of_wp hf hb (h F _ w ⟨?_,fun k v hv=>?_,rfl⟩ ?_)
 ·simp[hn];omega
 ·obtain⟨_,h2⟩:=jZ args 0 k v hv
  have hk:k<args.length:=by
   have:=(List.getElem?_eq_some_iff.1 h2).1;simpa using this
  show(args.toArray++Array.replicate (fn.ntmps-args.toArray.size) undef)[k]?=some v
  rw[Array.getElem?_append_left (by simpa using hk)]
  simpa using h2
 ·rw[ah];simp only[seps];rw[aP];exact hs
theorem aQ.Ky{f:FuncId}{xs:Array Operand}{ts:Array TypeId}{pos:String}{after:Array Edge}{d:Nat}{args:List Value}{pre:List aa}{X:Type}{en:X→Ending}{fact:X→Prop}{post:X→List aa}(hN:Nat.blt d N=true)
  (hc:∀ args w,(callFunc f args).run P w = .ok (.enter f args) w) (hx:evs L xs.toList=some args) (hfn:Cd P W f args pre X en fact post) (ht:aK H pre R) (hno:∀ x,en x≠.outgrown)
  (h1:∀ x v,en x = .returned v→fact x→aQ P W N O Q rest ((d,some v)::L) (post x++R)) (h2:∀ x c,en x = .panicked c→fact x→cj W N Q (.panic c) L (post x++R)) :
  aQ P W N O Q (⟨some d,.call ⟨.value (.func f),xs,ts⟩,T,pos,after,none⟩::rest) L H:=fun a w ha hs=>wpList_plain rfl fun Kp hK=>by
 have e:xs.map a.eval=args.toArray:=by
  rw[← ha.mV hx, ← List.map_toArray]
 have hs:=ht.sat hs
 rw[ah] at hs
 unfold Oper.wp
 have hr:(execOp a.eval ⟨some d,.call ⟨.value (.func f),xs,ts⟩,T,pos,after,none⟩).run P w = .ok (.enter f args.toArray) w:=by
  simp[execOp,resolve,Act.eval,Deferred.ofValue,invoke,e,hc]
 rw[hr]
 simp only[Oper.upon]
 refine(hfn _ w hs).mono fun en' w' ⟨x,he,hf,hs'⟩=>?_
 rw[← ah] at hs'
 subst he
 cases e2:en x with
 | returned v=>exact hK _ _ (h1 x v e2 hf _ _ (ha.put (Nat.blt_eq.mp hN) _) hs')
 | panicked c=>exact h2 x c e2 hf _ _ ha hs'
 | outgrown=>exact absurd e2 (hno x)
theorem cj.panics{fn:Func}{R:Ending→World→Prop}{c:List PanicEntry}(h:∀ w,Sat W w (seps H)→R (.panicked c) w):cj W N (bodyPost P fn R) (.panic c) L H:=fun a w ha hs=>by
 unfold bodyPost
 exact⟨ha.defers,h w hs⟩
theorem Y.GF{t:TypeId}{u:TypeDesc}{x:Operand}{v:Value}(hu:P.underlying t=some u)(hn:(match u with | .interface _=>true | _=>false)=false)(hx:ev L x=some v):Y P W N (.makeInterface t x) T L H (.iface t v):=fun dst pos after guard a w ha hs=>by
 simp only[execOp,ha.eval hx]
 refine bJ ?_
 cases u <;> first | (simp at hn;done) | simp[Instr.makeInterface,run_underlying hu]
theorem aQ.panic{t:TypeId}{x:Operand}{v:Value}{pos:String}{after:Array Edge}{d:Option Nat}(hx:ev L x=some (.iface t v))(h:cj W N Q (.panic [{v:=.iface t v,recovered:=false }]) L H) :
  aQ P W N O Q (⟨d,.panic x,T,pos,after,none⟩::rest) L H:=fun a w ha hs=>wpList_plain rfl fun Kp hK=>by
 unfold Oper.wp
 have hr:(execOp a.eval ⟨d,.panic x,T,pos,after,none⟩).run P w = .halt (.panic (.iface t v)) w:=by
  simp only[execOp,ha.eval hx];rfl
 rw[hr]
 exact h a w ha hs
end
end Go.SLYtefdijgllbkmfaaGreat
namespace Go.SLYtefdijgllbkmfaaGreat
open Go Go.RowKit
/-! a part apart, and how it is laid back -/
def oc{X:Type}(B C:X→aa):aa:=fun h=>∀ x h',Gp h' h→B x h'→C x (join h' h)
theorem mv{X:Type}{B C:X→aa}(x:X):∀ h,seps [B x,oc B C] h→C x h:=fun h a=>by
 simp only[seps,aP] at a
 obtain⟨h1,h2,b,c,d,rfl⟩:=a
 exact c x h1 d b
theorem od{X:Type}{B C:X→aa}{R:aa}(f:∀ x h,sep (B x) R h→C x h):∀ h,R h→oc B C h:=fun h r x h' d b=>f x _ ⟨h',h,b,r,d,rfl⟩
theorem gX{A B:aa}{h:js}:seps [A,B] h↔sep A B h:=by simp only[seps,aP]
section
variable{α:Type}{enc:α→List Value}{k:Nat}{v:Value}{xs:List α}
theorem rX{i:Nat}{x:α}(hx:xs[i]?=some x):∀ h,sl enc k v xs h→sep (arr (blk v) (cC v+i * k) (enc x)) (hole enc k v xs i) h:=fun h s=>by
 have hi:=(List.getElem?_eq_some_iff.1 hx).1
 rcases s with ⟨_,rfl,_⟩ | ⟨b,cap,sp,rfl,hle,hk,hsp,s⟩
 ·simp at hx
 ·have hl:(rows enc (xs.take i)).length=i * k:=by
   rw[bK fun y hy=>hk y (List.mem_of_mem_take hy),List.length_take,Nat.min_eq_left (Nat.le_of_lt hi)]
  have hxk:=hk x (List.mem_of_getElem? hx)
  have e:rows enc xs++sp=rows enc (xs.take i)++(enc x++(rows enc (xs.drop (i+1))++sp)):=by
   conv=>lhs;rw[rD hx]
   rw[dz,fL];simp
  rw[e,bR,bR,hl,hxk,aY] at s
  simp only[blk,cC]
  refine aS (fun _ h=>h) (fun h hh=>⟨b,cap,sp,rfl,hle,hk,hsp,?_⟩) h s
  rw[show(i+1) * k=0+i * k+k from by rw[Nat.succ_mul];omega];exact hh
theorem lS{i:Nat}{x':α}(hi:i<xs.length)(hx':(enc x').length=k):∀ h,sep (arr (blk v) (cC v+i * k) (enc x')) (hole enc k v xs i) h→sl enc k v (xs.set i x') h:=fun h s=>by
 obtain⟨x,hx⟩:∃ x,xs[i]?=some x:=⟨xs[i],by simp[hi]⟩
 obtain⟨h3,h4,a3,⟨b,cap,sp,hv,hle,hk,hsp,a4⟩,d',e'⟩:=s
 subst hv
 have s':sep (arr b (0+i * k) (enc x')) (sep (arr b 0 (rows enc (xs.take i))) (arr b ((i+1) * k) (rows enc (xs.drop (i+1))++sp))) h:=⟨h3,h4,a3,a4,d',e'⟩
 have hl:(rows enc (xs.take i)).length=i * k:=by
  rw[bK fun y hy=>hk y (List.mem_of_mem_take hy),List.length_take,Nat.min_eq_left (Nat.le_of_lt hi)]
 have e2:rows enc (xs.set i x')++sp=rows enc (xs.take i)++(enc x'++(rows enc (xs.drop (i+1))++sp)):=by
  rw[DB hx,dz,fL];simp
 have hk':∀ y∈xs.set i x',(enc y).length=k:=fun y hy=>by
  rcases List.mem_or_eq_of_mem_set hy with h | h
  ·exact hk y h
  ·subst h;exact hx'
 right
 refine⟨b,cap,sp,by simp,by simpa using hle,hk',by simpa using hsp,?_⟩
 rw[e2,bR,bR,hl,hx',aY]
 rwa [show(i+1) * k=0+i * k+k from by rw[Nat.succ_mul];omega] at s'
theorem j9(h0:xs≠[]):∀ h,sl enc k v xs h→ ∃ b cap,v = .slice (some ⟨b,0,none⟩) xs.length cap∧xs.length≤cap:=fun h s=>by
 rcases s with ⟨_,hx0,_⟩ | ⟨b,cap,_,hv,hle,_⟩
 ·exact absurd hx0 h0
 ·exact⟨b,cap,hv,hle⟩
end
theorem kc{α:Type}(xs:List α)(i:Nat):xs.take i++xs.drop (i+1)=xs.eraseIdx i:=(List.eraseIdx_eq_take_drop_succ ..).symm
theorem oe{b o:Nat}{u:Value}{cs:List Value}:∀ h,arr b o (u::cs) h→seps [arr b o [u],arr b (o+1) cs] h:=fun h a=>by
 rw[show u::cs=[u]++cs from rfl,bR] at a
 exact gX.2 a
theorem tU{b o:Nat}{u:Value}{cs:List Value}:∀ h,seps [arr b o [u],arr b (o+1) cs] h→arr b o (u::cs) h:=fun h a=>by
 rw[show u::cs=[u]++cs from rfl,bR]
 exact gX.1 a
/-! gates -/
def ey(b o:Nat)(m:dB):aa:=ij (fun _:Value=>True) fun u=>[arr b o [u,.bool m.held,.int .i64 m.owner],sl cN 2 u m.wait]
def gV(b o:Nat)(m:jr):aa:=ij (fun _:Value=>True) fun u=>[arr b o [u,.int .i64 m.count],sl cN 2 u m.wait]
theorem D6{v:Value}{l:List dB}{i:Nat}{m:dB}(hm:l[i]?=some m):∀ h,ep v l h→seps [ey (blk v) (cC v+i * 3) m,oc (ey (blk v) (cC v+i * 3)) (fun m'=>ep v (l.set i m'))] h:=fun h ⟨xs,hxs,a⟩=>by
 obtain⟨x,hx⟩:=ay (show i<xs.length by rw[← List.length_map (f:=(·.2)),hxs];exact(List.getElem?_eq_some_iff.1 hm).1)
 have hxm:x.2=m:=by have:=nZ hxs hx;rw[hm] at this;exact(Option.some.inj this).symm
 rw[gX] at a ⊢
 have a2:sep (sep (arr (blk v) (cC v+i * 3) (lD x)) (hole lD 3 v xs i)) (sep (sl cN 2 x.1 x.2.wait) (aT (fun x:Value×dB=>sl cN 2 x.1 x.2.wait) (xs.eraseIdx i))) h:=aS (rX hx) (fun g b=>by rw[iV _ hx] at b;exact b) h a
 rw[aN,aY (hole lD 3 v xs i), ← aN] at a2
 refine aS ?_ ?_ h a2
 ·intro g b;exact⟨x.1,trivial,by rw[gX, ← hxm];exact b⟩
 ·refine od fun m' g b=>?_
  obtain⟨h1,h2,⟨u, -,b1⟩,b2,d,rfl⟩:=b
  refine⟨xs.set i (u,m'),by show(xs.set i (u,m')).map (·.2)=_;rw[List.map_set,show xs.map (·.2)=l from hxs],?_⟩
  rw[gX] at b1 ⊢
  have b3:sep (sep (arr (blk v) (cC v+i * 3) (lD (u,m'))) (sl cN 2 u m'.wait)) (sep (hole lD 3 v xs i) (aT (fun x:Value×dB=>sl cN 2 x.1 x.2.wait) (xs.eraseIdx i))) (join h1 h2):=⟨h1,h2,b1,b2,d,rfl⟩
  rw[aN,aY (sl cN 2 u m'.wait), ← aN] at b3
  refine aS (lS (List.getElem?_eq_some_iff.1 hx).1 rfl) (fun g c=>?_) _ b3
  rw[iW _ _ (List.getElem?_eq_some_iff.1 hx).1];exact c
theorem D7{v:Value}{l:List jr}{i:Nat}{m:jr}(hm:l[i]?=some m):∀ h,fy v l h→seps [gV (blk v) (cC v+i * 2) m,oc (gV (blk v) (cC v+i * 2)) (fun m'=>fy v (l.set i m'))] h:=fun h ⟨xs,hxs,a⟩=>by
 obtain⟨x,hx⟩:=ay (show i<xs.length by rw[← List.length_map (f:=(·.2)),hxs];exact(List.getElem?_eq_some_iff.1 hm).1)
 have hxm:x.2=m:=by have:=nZ hxs hx;rw[hm] at this;exact(Option.some.inj this).symm
 rw[gX] at a ⊢
 have a2:sep (sep (arr (blk v) (cC v+i * 2) (lN x)) (hole lN 2 v xs i)) (sep (sl cN 2 x.1 x.2.wait) (aT (fun x:Value×jr=>sl cN 2 x.1 x.2.wait) (xs.eraseIdx i))) h:=aS (rX hx) (fun g b=>by rw[iV _ hx] at b;exact b) h a
 rw[aN,aY (hole lN 2 v xs i), ← aN] at a2
 refine aS ?_ ?_ h a2
 ·intro g b;exact⟨x.1,trivial,by rw[gX, ← hxm];exact b⟩
 ·refine od fun m' g b=>?_
  obtain⟨h1,h2,⟨u, -,b1⟩,b2,d,rfl⟩:=b
  refine⟨xs.set i (u,m'),by show(xs.set i (u,m')).map (·.2)=_;rw[List.map_set,show xs.map (·.2)=l from hxs],?_⟩
  rw[gX] at b1 ⊢
  have b3:sep (sep (arr (blk v) (cC v+i * 2) (lN (u,m'))) (sl cN 2 u m'.wait)) (sep (hole lN 2 v xs i) (aT (fun x:Value×jr=>sl cN 2 x.1 x.2.wait) (xs.eraseIdx i))) (join h1 h2):=⟨h1,h2,b1,b2,d,rfl⟩
  rw[aN,aY (sl cN 2 u m'.wait), ← aN] at b3
  refine aS (lS (List.getElem?_eq_some_iff.1 hx).1 rfl) (fun g c=>?_) _ b3
  rw[iW _ _ (List.getElem?_eq_some_iff.1 hx).1];exact c
theorem D8{v:Value}{l:List (List dh)}{i:Nat}{m:List dh}(hm:l[i]?=some m):∀ h,ik v l h→seps [iB (blk v) (cC v+i * 1) m,oc (iB (blk v) (cC v+i * 1)) (fun m'=>ik v (l.set i m'))] h:=fun h ⟨xs,hxs,a⟩=>by
 obtain⟨x,hx⟩:=ay (show i<xs.length by rw[← List.length_map (f:=(·.2)),hxs];exact(List.getElem?_eq_some_iff.1 hm).1)
 have hxm:x.2=m:=by have:=nZ hxs hx;rw[hm] at this;exact(Option.some.inj this).symm
 rw[gX] at a ⊢
 have a2:sep (sep (arr (blk v) (cC v+i * 1) (cn x)) (hole cn 1 v xs i)) (sep (sl cN 2 x.1 x.2) (aT (fun x:Value×List dh=>sl cN 2 x.1 x.2) (xs.eraseIdx i))) h:=aS (rX hx) (fun g b=>by rw[iV _ hx] at b;exact b) h a
 rw[aN,aY (hole cn 1 v xs i), ← aN] at a2
 refine aS ?_ ?_ h a2
 ·intro g b;exact⟨x.1,trivial,by rw[gX, ← hxm];exact b⟩
 ·refine od fun m' g b=>?_
  obtain⟨h1,h2,⟨u, -,b1⟩,b2,d,rfl⟩:=b
  refine⟨xs.set i (u,m'),by show(xs.set i (u,m')).map (·.2)=_;rw[List.map_set,show xs.map (·.2)=l from hxs],?_⟩
  rw[gX] at b1 ⊢
  have b3:sep (sep (arr (blk v) (cC v+i * 1) (cn (u,m'))) (sl cN 2 u m')) (sep (hole cn 1 v xs i) (aT (fun x:Value×List dh=>sl cN 2 x.1 x.2) (xs.eraseIdx i))) (join h1 h2):=⟨h1,h2,b1,b2,d,rfl⟩
  rw[aN,aY (sl cN 2 u m'), ← aN] at b3
  refine aS (lS (List.getElem?_eq_some_iff.1 hx).1 rfl) (fun g c=>?_) _ b3
  rw[iW _ _ (List.getElem?_eq_some_iff.1 hx).1];exact c
theorem AO{b o:Nat}{m:dB}:∀ h,seps [iB b o m.wait,arr b (o+1) [.bool m.held,.int .i64 m.owner]] h→ey b o m h:=fun h a=>by
 rw[gX] at a
 obtain⟨h1,h2,⟨u, -,b1⟩,b2,d,rfl⟩:=a
 refine⟨u,trivial,?_⟩
 rw[gX] at b1 ⊢
 have b3:sep (sep (arr b o [u]) (sl cN 2 u m.wait)) (arr b (o+1) [.bool m.held,.int .i64 m.owner]) (join h1 h2):=⟨h1,h2,b1,b2,d,rfl⟩
 rw[aN,ib (sl cN 2 u m.wait), ← aN] at b3
 exact aS (fun g c=>tU g (gX.2 c)) (fun _ c=>c) _ b3
theorem qX{b o:Nat}{m:jr}:∀ h,seps [iB b o m.wait,arr b (o+1) [.int .i64 m.count]] h→gV b o m h:=fun h a=>by
 rw[gX] at a
 obtain⟨h1,h2,⟨u, -,b1⟩,b2,d,rfl⟩:=a
 refine⟨u,trivial,?_⟩
 rw[gX] at b1 ⊢
 have b3:sep (sep (arr b o [u]) (sl cN 2 u m.wait)) (arr b (o+1) [.int .i64 m.count]) (join h1 h2):=⟨h1,h2,b1,b2,d,rfl⟩
 rw[aN,ib (sl cN 2 u m.wait), ← aN] at b3
 exact aS (fun g c=>tU g (gX.2 c)) (fun _ c=>c) _ b3
def Im(v:Value)(n k:Nat)(i:Int):Value:=.pointer (if 0≤i∧i<(n:Int) then some ⟨blk v,cC v+i.toNat * k,none⟩ else none)
/-! searches -/
def idxP{α:Type}(p:α→Bool):List α→Nat→Int
 | [],_ => -1
 | x::l,k=>if p x=true then (k:Int) else idxP p l (k+1)
theorem ke{α:Type}{p:α→Bool}{l:List α}{k:Nat}{x:α}(h:l[k]?=some x)(hp:p x=true):idxP p (l.drop k) k=(k:Int):=by rw[drop_cons h,idxP,if_pos hp]
theorem iP{α:Type}{p:α→Bool}{l:List α}{k:Nat}{x:α}(h:l[k]?=some x)(hp:p x=false):idxP p (l.drop k) k=idxP p (l.drop (k+1)) (k+1):=by rw[drop_cons h,idxP,if_neg (by rw[hp];simp)]
theorem kh{α:Type}{p:α→Bool}{l:List α}{k:Nat}(h:l.length≤k):idxP p (l.drop k) k = -1:=by rw[List.drop_of_length_le h];rfl
theorem ja{α:Type}{p:α→Bool}:∀ (l:List α) (k:Nat),decide (0≤idxP p l k)=l.any p
 | [],_=>rfl
 | x::l,k=>by
  rw[idxP,List.any_cons]
  cases h:p x with
  | true=>rw[if_pos rfl];simp
  | false=>rw[if_neg (by simp),ja l (k+1),Bool.false_or]
theorem vJ{α β:Type}{p:β→Bool}{xs:List (α×β)}{l:List β}(h:xs.map (·.2)=l):(xs.any fun x=>p x.2)=l.any p:=by rw[← h,List.any_map];rfl
end Go.SLYtefdijgllbkmfaaGreat
namespace Go.SLYtefdijgllbkmfaaGreat
open Go Go.RowKit
theorem getD_some{α:Type}{l:List α}{d:α}{n:Nat}(h:n<l.length):l[n]?=some (l.getD n d):=by
 rw[List.getD_eq_getElem?_getD,List.getElem?_eq_getElem h];rfl
section
variable{P:Program}{W:World}{N:Nat}{L:List (Nat×Option Value)}{H:List aa}{T:TypeId}
end
/-! slots -/
def hN(h:Int):Nat:=(h % 65536-1).toNat
def jN(l:List (Bool×Int))(n:Nat):Bool×Int:=l.getD n (false,0)
theorem tV{l:List (Bool×Int)}{h:Int}(e:h % 65536=0):bm l h=none:=by unfold bm;rw[if_pos e]
theorem find_eq{l:List (Bool×Int)}{h:Int}(e:¬h % 65536=0):bm l h=if (decide ((l.length:Int)≤(hN h:Int)) || !(jN l (hN h)).1 || decide (dq (jN l (hN h)).2 (hN h)≠h))=true then none else some (hN h):=by
 unfold bm
 rw[if_neg e]
 have hb:0≤h % 65536-1:=by omega
 have hc:(hN h:Int)=h % 65536-1:=by unfold hN;omega
 rw[hc]
 by_cases hl:(l.length:Int)≤h % 65536-1
 ·rw[show l[(h % 65536-1).toNat]?=none from by rw[List.getElem?_eq_none];omega]
  simp[hl]
 ·rw[getD_some (d:=(false,0)) (show(h % 65536-1).toNat<l.length by omega)]
  unfold jN hN
  simp only[hl,decide_false,Bool.false_or]
  generalize l.getD (h % 65536-1).toNat (false,0)=o
  obtain⟨u,t⟩:=o
  cases u <;> simp <;> rfl
theorem vK{l:List (Bool×Int)}{h:Int}{n:Nat}(e:bm l h=some n):n<l.length∧n=hN h∧(jN l n).1=true∧dq (jN l n).2 n=h:=by
 by_cases e0:h % 65536=0
 ·rw[tV e0] at e;cases e
 ·rw[find_eq e0] at e
  split at e
  ·cases e
  ·rename_i hc
   cases e
   simp only[Bool.not_eq_true,Bool.or_eq_false_iff,decide_eq_false_iff_not,Bool.not_eq_false',ne_eq,Decidable.not_not] at hc
   exact⟨by omega,rfl,hc.1.2,hc.2⟩
theorem GG{h:Int}(e:¬h % 65536=0):h % 65536-1=(hN h:Int):=by unfold hN;omega
def Kz(o:Option Nat):Value:=.tuple #[.int .i64 ((o.getD 0:Nat):Int),.bool o.isSome]
theorem xA{h:Int}(a:0≤h):h.tmod 65536=h % 65536:=Int.tmod_eq_emod_of_nonneg a
theorem zt{l:List (Bool×Int)}{h:Int}(e:bm l h=none):slotFreed l h=l:=by unfold slotFreed;rw[e]
theorem rY{l:List (Bool×Int)}{h:Int}{n:Nat}(e:bm l h=some n):slotFreed l h=l.set n (false,(jN l n).2):=by unfold slotFreed;rw[e];rfl
theorem AP{t:Int}{n:Nat}(hn:0<n)(hb:n≤1000000000) : -9223372036854775808≤t.tmod n+n∧t.tmod n+n≤9223372036854775807:=by
 have h1:=Int.lt_tmod_of_pos t (show(0:Int)<n by omega)
 have h2:=Int.tmod_lt_of_pos t (show(0:Int)<n by omega)
 omega
/-! gates -/
structure gM(g:Gates):Prop where
 m:g.aF.length≤1000000
 c:g.bn.length≤1000000
 s:g.cf.length≤1000000
 mw:∀ x∈g.aF,x.wait.length≤1000000
 cw:∀ x∈g.bn,x.length≤1000000
 sw:∀ x∈g.cf,x.wait.length≤1000000
section
variable{W:World}
theorem vL{α β:Type}{enc:α→List Value}{k:Nat}{f:β→Value}{g:β→List α}{xs:List β}{x:β}(hx:x∈xs){H:List aa}(t:At H (aT (fun x=>sl enc k (f x) (g x)) xs)):Rd W H enc k (f x) (g x):=by
 obtain⟨i,hi⟩:=List.getElem?_of_mem hx
 exact Rd.sub t fun h a=>⟨_,by rw[iV _ hi] at a;exact a⟩
end
theorem D9{g:Gates}{xm:List (Value×dB)}{xc:List (Value×List dh)}{xs:List (Value×jr)}{who:Int}(h1:xm.map (·.2)=g.aF)(h2:xc.map (·.2)=g.bn)(h3:xs.map (·.2)=g.cf) :
  ((xm.any fun x=>lB x.2.wait who) || (xc.any fun x=>lB x.2 who) || (xs.any fun x=>lB x.2.wait who))=g.waits who:=by
 unfold Gates.waits
 rw[vJ (p:=fun m:dB=>lB m.wait who) h1,vJ (p:=fun m:List dh=>lB m who) h2,vJ (p:=fun m:jr=>lB m.wait who) h3]
theorem vN{l:List dh}{c:Int}(h:l.length=0):aJ l c=(⟨0,0⟩,false,l):=by unfold aJ;rw[if_pos h]
theorem qY{l:List dh}{c:Int}(h:¬l.length=0):aJ l c=(l.getD (pick c l.length) ⟨0,0⟩,true,l.eraseIdx (pick c l.length)):=by unfold aJ;rw[if_neg h]
theorem ei{α:Type}{l:List α}{i:Int}(h:¬(0≤i∧i<(l.length:Int))):cE l i=none:=by
 unfold cE
 split
 ·rfl
 ·rw[List.getElem?_eq_none];omega
theorem cp{α:Type}{l:List α}{i:Int}(h:0≤i∧i<(l.length:Int)):∃ x,l[i.toNat]?=some x∧cE l i=some x:=by
 obtain⟨x,hx⟩:=ay (show i.toNat<l.length by omega)
 exact⟨x,hx,by unfold cE;rw[if_neg (by omega),hx]⟩
theorem fN{α:Type}{l:List α}{i:Int}{x:α}(h:cE l i=some x):0≤i∧i<(l.length:Int)∧l[i.toNat]?=some x:=by
 unfold cE at h
 split at h
 ·cases h
 ·have:=(List.getElem?_eq_some_iff.1 h).1
  exact⟨by omega,by omega,h⟩
theorem qZ{v:Value}{n k:Nat}{i:Int}(h:¬(0≤i∧i<(n:Int))):Im v n k i = .pointer none:=by unfold Im;rw[if_neg h]
theorem fk{v:Value}{n k:Nat}{i:Int}(h:0≤i∧i<(n:Int)):Im v n k i = .pointer (some ⟨blk v,cC v+i.toNat * k,none⟩):=by unfold Im;rw[if_pos h]
def iI:dB:=⟨[],false,0⟩
theorem vO{m:dB}{who:Int}(h:m.held=true):m.lock who=(false,{m with wait:=m.wait++[⟨who,0⟩] }):=by unfold dB.lock;rw[if_pos h]
theorem vP{m:dB}{who:Int}(h:m.held=false):m.lock who=(true,{m with held:=true,owner:=who }):=by unfold dB.lock;rw[if_neg (by rw[h];simp)]
end Go.SLYtefdijgllbkmfaaGreat
namespace Go.SLYtefdijgllbkmfaaGreat
open Go Go.RowKit
structure pI(N:Nat)(L:List (Nat×Option Value))(D:List Deferred)(a:Act):Prop where
 size:a.tmps.size=N
 get:∀ k v,look L k=some v→a.tmps[k]?=some v
 defers:a.defers=D
theorem pI.env{N:Nat}{L:List (Nat×Option Value)}{D:List Deferred}{a:Act}(h:pI N L D a):Env N L (dC a []):=⟨h.size,h.get,rfl⟩
theorem nh(a:Act)(ds:List Deferred):(dC a ds).eval=a.eval:=by funext x;cases x <;> rfl
theorem pI.put{N:Nat}{L:List (Nat×Option Value)}{D:List Deferred}{a:Act}(h:pI N L D a){d:Nat}(hd:d<N)(v:Value):pI N ((d,some v)::L) D (a.put (some d) v) :=
 ⟨(h.env.put hd v).size,(h.env.put hd v).get,h.defers⟩
section
variable{P:Program}{W:World}{N:Nat}{Q:Exit→Act→World→Prop}{L:List (Nat×Option Value)}{H K R:List aa}{O:Array Oper}{T:TypeId}{rest:List Oper}{D:List Deferred}{ks:List Nat}
theorem Ea{o:Oper}{a:Act}{w:World}{Kp Kp':Act→World→Prop}{Q':Exit→Act→World→Prop}(h:∀ ds u w',Kp ((dC a ds).put o.dst u) w'→Kp' ((dC a (ds++a.defers)).put o.dst u) w')(hh:o.wp P (dC a []) w Kp QF):o.wp P a w Kp' Q':=by
 unfold Oper.wp at *
 rw[nh] at hh
 generalize (execOp a.eval o).run P w=r at *
 have h0:=h []
 rw[List.nil_append,show dC a a.defers=a from rfl] at h0
 cases r with
 | ok n w' =>
  cases n <;> simp only[Oper.upon] at hh ⊢
  case value v=>exact h0 _ _ hh
  case skip=>exact h0 _ _ hh
  case enter f args =>
   refine Calls.mono hh (fun e w'' he=>?_)
   cases e with
   | returned v=>exact h0 _ _ he
   | panicked c=>exact he.elim
   | outgrown=>obtain⟨_,_,hf⟩:=he;exact hf.elim
  case row r' args=>exact Rows.mono hh (fun v w'' he=>h0 _ _ he)
  case defer d=>exact h [d] undef w' hh
 | halt x w'=>cases x <;> simp only[Oper.upon] at hh ⊢ <;> exact hh.elim
theorem af.d{o:Oper}{k:List (Nat×Option Value)→List aa→Prop}{a:Act}{w:World}{Kp:Act→World→Prop}{Q':Exit→Act→World→Prop}(hd:af P W N o L H k)(ha:pI N L D a)(hs:Sat W w (seps H))(h:∀ L' H',k L' H'→ ∀ a' w',pI N L' D a'→Sat W w' (seps H')→Kp a' w'):o.wp P a w Kp Q':=by
 refine Ea (Kp:=fun a' w'=>∃ L' H',k L' H'∧Env N L' a'∧Sat W w' (seps H')) (fun ds u w' ⟨L',H',hk,he,hs'⟩=>?_) (hd _ w ha.env hs _ fun L' H' hk a' w' ha' hs'=>⟨L',H',hk,ha',hs'⟩)
 have e:((dC a ds).put o.dst u).defers=ds:=by cases o.dst <;> rfl
 rw[he.defers] at e
 subst e
 refine h L' H' hk _ w' ⟨?_,fun k v hv=>?_,?_⟩ hs'
 ·have:=he.size;cases ho:o.dst <;> rw[ho] at this <;> exact this
 ·have:=he.get k v hv;cases ho:o.dst <;> rw[ho] at this <;> exact this
 ·rw[List.nil_append];cases o.dst <;> exact ha.defers
theorem Y.d{op:Op}{v:Value}(hy:Y P W N op T L H v)(dst:Option Tmp)(pos:String)(after:Array Edge)(guard:Option (Nat×Bool)){a:Act}{w:World}(ha:pI N L D a)(hs:Sat W w (seps H)):(execOp a.eval ⟨dst,op,T,pos,after,guard⟩).run P w = .ok (.value v) w:=by
 have:=hy dst pos after guard _ w ha.env hs
 rwa [nh] at this
def rZ(W:World)(N:Nat)(D:List Deferred)(Q:Exit→Act→World→Prop)(e:Exit)(L:List (Nat×Option Value))(H:List aa):Prop:=∀ a w,pI N L D a→Sat W w (seps H)→Q e a w
def kT(P:Program)(W:World)(N:Nat)(D:List Deferred)(Q:Exit→Act→World→Prop)(c:Code)(L:List (Nat×Option Value))(H:List aa):Prop:=∀ a w,pI N L D a→Sat W w (seps H)→c.wp P Q a w
def fO(P:Program)(W:World)(N:Nat)(D:List Deferred)(O:Array Oper)(Q:Exit→Act→World→Prop)(ops:List Oper)(L:List (Nat×Option Value))(H:List aa):Prop:=∀ a w,pI N L D a→Sat W w (seps H)→wpList P O Q ops a w
def fB(P:Program)(W:World)(N:Nat)(D:List Deferred)(K:List aa)(O:Array Oper)(Q:Exit→Act→World→Prop)(ks:List Nat)(ops:List Oper)(L:List (Nat×Option Value))(H:List aa):Prop:=∀ a w,pI N L D a→Sat W w (seps H)→wpKL P O (fun w=>Sat W w (seps K)) Q ks ops a w
theorem aQ.I2{x:Operand}{f:FuncId}{us cap:Array Value}{ts:Array TypeId}{pos:String}{after:Array Edge}(hx:ev L x=some (.func (.func f) us cap))(k:fO P W N [⟨.fn (.func f) cap,us⟩] O Q rest L H):aQ P W N O Q (⟨none,.defer ⟨.value x, #[],ts⟩,T,pos,after,none⟩::rest) L H:=fun a w ha hs=>wpList_plain rfl fun Kp hK=>by
 unfold Oper.wp
 have hr:(execOp a.eval ⟨none,.defer ⟨.value x, #[],ts⟩,T,pos,after,none⟩).run P w = .ok (.defer ⟨.fn (.func f) cap,us⟩) w:=by
  simp[execOp,resolve,ha.eval hx,Deferred.ofValue]
 rw[hr]
 simp only[Oper.upon]
 exact hK _ _ (k _ w ⟨ha.size,ha.get,by simp[Act.put,ha.defers]⟩ hs)
theorem rZ.im{c:Code}(k:kT P W N D Q c L H):rZ W N D (Exit.then (c.wp P Q) Q) .normal L H:=k
theorem kT.seq{x y:Code}(k:kT P W N D (Exit.then (y.wp P Q) Q) x L H):kT P W N D Q (.seq x y) L H:=fun a w ha hs=>wp_seq (k a w ha hs)
theorem kT.region{id:Nat}{l:List Oper}(k:fO P W N D l.toArray Q l L H):kT P W N D Q (.region id l.toArray false) L H:=fun a w ha hs=>wp_region_lit (k a w ha hs)
theorem kT.draw{id:Nat}{l:List Oper}(K:List aa)(ks:List Nat)(hm:P.follows .mixedOrders=true)(hB:qV l ks=true)(h:fB P W N D K l.toArray Q ks l L H):kT P W N D Q (.region id l.toArray true) L H :=
 fun a _w ha hs=>qo (C:=fun w=>Sat W w (seps K)) ks hm hB (h a _ ha hs.drew)
theorem kT.ret(k:rZ W N D Q .ret L H):kT P W N D Q .ret L H:=fun a w ha hs=>wp_ret (k a w ha hs)
theorem fO.nil(k:rZ W N D Q .normal L H):fO P W N D O Q [] L H:=fun a w ha hs=>wpList_nil (k a w ha hs)
theorem fO.y{op:Op}{pos:String}{after:Array Edge}{d:Nat}{v:Value}(hN:Nat.blt d N=true)(hy:Y P W N op T L H v)(k:fO P W N D O Q rest ((d,some v)::L) H) :
  fO P W N D O Q (⟨some d,op,T,pos,after,none⟩::rest) L H:=fun a w ha hs =>
 wpList_plain rfl fun Kp hK=>by
  unfold Oper.wp
  rw[hy.d _ _ _ _ ha hs]
  exact hK _ _ (k _ w (ha.put (Nat.blt_eq.mp hN) v) hs)
theorem fO.aw{o:Oper}{k:List (Nat×Option Value)→List aa→Prop}(hg:o.guard=none)(hd:af P W N o L H k)(h:∀ L' H',k L' H'→fO P W N D O Q rest L' H'):fO P W N D O Q (o::rest) L H:=fun _a _w ha hs =>
 wpList_plain hg fun _Kp hK=>hd.d ha hs fun L' H' hk a' w' ha' hs'=>hK _ _ (h L' H' hk a' w' ha' hs')
theorem fB.nil(h:rZ W N D Q .normal L H):fB P W N D K O Q ks [] L H:=fun a w ha hs=>by cases ks <;> exact h a w ha hs
theorem fB.k{op:Op}{pos:String}{after:Array Edge}{d:Nat}{v:Value}(hN:Nat.blt d N=true)(hK:∀ w,Sat W w (seps H)→Sat W w (seps K))(hy:Y P W N op T L K v)(h:fB P W N D K O Q ks rest ((d,some v)::L) H) :
  fB P W N D K O Q (0::ks) (⟨some d,op,T,pos,after,none⟩::rest) L H:=fun a w ha hs=>by
 simp only[wpKL]
 exact⟨hK w hs,v,.inl ⟨bj rfl,fun w' hs'=>hy.d _ _ _ _ ha hs'⟩,h _ w (ha.put (Nat.blt_eq.mp hN) v) hs⟩
theorem fB.s{op:Op}{pos:String}{after:Array Edge}{d:Nat}{v:Value}(hN:Nat.blt d N=true)(hy:Y P W N op T L H v)(h:fB P W N D K O Q ks rest ((d,some v)::L) H) :
  fB P W N D K O Q (1::ks) (⟨some d,op,T,pos,after,none⟩::rest) L H:=fun a w ha hs=>by
 simp only[wpKL]
 exact⟨v,.inl ⟨bj rfl,fun w' e=>by subst e;exact hy.d _ _ _ _ ha hs⟩,h _ w (ha.put (Nat.blt_eq.mp hN) v) hs⟩
theorem fB.d2{o:Oper}{k:List (Nat×Option Value)→List aa→Prop}(hg:o.guard=none)(hK:∀ w,Sat W w (seps H)→Sat W w (seps K))(hd:af P W N o L H k)(hK':∀ L' H',k L' H'→ ∀ w,Sat W w (seps H')→Sat W w (seps K))(h:∀ L' H',k L' H'→fB P W N D K O Q ks rest L' H') :
  fB P W N D K O Q (2::ks) (o::rest) L H:=fun a w ha hs=>by
 simp only[wpKL]
 refine⟨hK w hs,?_⟩
 rw[if_pos (bj hg)]
 exact hd.d ha hs fun L' H' hk a' w' ha' hs'=>⟨hK' L' H' hk w' hs',h L' H' hk a' w' ha' hs'⟩
theorem fB.d3{o:Oper}{k:List (Nat×Option Value)→List aa→Prop}(hg:o.guard=none)(hd:af P W N o L H k)(h:∀ L' H',k L' H'→fB P W N D K O Q ks rest L' H') :
  fB P W N D K O Q (3::ks) (o::rest) L H:=fun a w ha hs=>by
 simp only[wpKL]
 rw[if_pos (bj hg)]
 exact hd.d ha hs fun L' H' hk a' w' ha' hs'=>h L' H' hk a' w' ha' hs'
theorem fO.Lk{As:List aa}(t:aK H As R)(k:fO P W N D O Q rest L (As++R)):fO P W N D O Q rest L H:=fun a w ha hs=>k a w ha (t.sat hs)
theorem fO.mem{ops:List Oper}{H':List aa}(h:∀ w,Sat W w (seps H)→Sat W w (seps H'))(k:fO P W N D O Q ops L H'):fO P W N D O Q ops L H:=fun a w ha hs=>k a w ha (h w hs)
theorem fO.fb{ops:List Oper}{p:Prop}(h:∀ w,Sat W w (seps H)→p)(k:p→fO P W N D O Q ops L H):fO P W N D O Q ops L H:=fun a w ha hs=>k (h w hs) a w ha hs
theorem fO.I3{f:FuncId}{xs:Array Operand}{ts:Array TypeId}{pos:String}{after:Array Edge}{dst:Option Nat}{args:List Value}{pre:List aa}{X:Type}{en:X→Ending}{fact:X→Prop}{post:X→List aa}(hdst:∀ d,dst=some d→Nat.blt d N=true)
  (hc:∀ args w,(callFunc f args).run P w = .ok (.enter f args) w) (hx:evs L xs.toList=some args) (hfn:Cd P W f args pre X en fact post) (ht:aK H pre R) (hno:∀ x,en x≠.outgrown)
  (h1:∀ x v,en x = .returned v→fact x→fO P W N D O Q rest (match dst with | some d=>(d,some v)::L | none=>L) (post x++R)) (h2:∀ x c,en x = .panicked c→fact x→rZ W N D Q (.panic c) L (post x++R)) :
  fO P W N D O Q (⟨dst,.call ⟨.value (.func f),xs,ts⟩,T,pos,after,none⟩::rest) L H:=fun a w ha hs=>wpList_plain rfl fun Kp hK=>by
 have e:xs.map a.eval=args.toArray:=by
  rw[← nh a [], ← ha.env.mV hx, ← List.map_toArray]
 have hs:=ht.sat hs
 rw[ah] at hs
 unfold Oper.wp
 have hr:(execOp a.eval ⟨dst,.call ⟨.value (.func f),xs,ts⟩,T,pos,after,none⟩).run P w = .ok (.enter f args.toArray) w:=by
  simp[execOp,resolve,Act.eval,Deferred.ofValue,invoke,e,hc]
 rw[hr]
 simp only[Oper.upon]
 refine(hfn _ w hs).mono fun en' w' ⟨x,he,hf,hs'⟩=>?_
 rw[← ah] at hs'
 subst he
 cases e2:en x with
 | returned v =>
  have h:=h1 x v e2 hf
  cases dst with
  | none=>exact hK _ _ (h _ _ ⟨ha.size,ha.get,ha.defers⟩ hs')
  | some d=>exact hK _ _ (h _ _ (ha.put (Nat.blt_eq.mp (hdst d rfl)) _) hs')
 | panicked c=>exact h2 x c e2 hf _ _ ha hs'
 | outgrown=>exact absurd e2 (hno x)
/-! a region in which a call panics: all that is read comes first -/
def AQ(P:Program)(W:World)(N:Nat)(K:List aa)(O:Array Oper)(Q:Exit→Act→World→Prop)(fuel:Nat)(li:Array Bool)(L:List (Nat×Option Value))(H:List aa):Prop :=
 ∀ a w,Env N L a→Sat W w (seps H)→wpAnyH P .any O Q (fun w=>Sat W w (seps K)) fuel li a w
theorem ax.held{id:Nat}{l:List Oper}(K:List aa)(hm:P.follows .mixedOrders=true)(h:AQ P W N K l.toArray Q l.toArray.size (Array.replicate l.toArray.size false) L H):ax P W N Q (.region id l.toArray true) L H:=fun a _w ha hs=>wp_region_held hm (h a _ ha hs.drew)
def KA(Q:Exit→Act→World→Prop):Prop:=∀ c d v a w,Q (.panic c) (a.put (some d) v) w→Q (.panic c) a w
theorem AQ.take(i:Nat){op:Op}{pos:String}{after:Array Edge}{d fuel:Nat}{li:Array Bool}{v:Value}(hi:O[i]?=some ⟨some d,op,T,pos,after,none⟩)(hs:Region.noSelect O=true)(hf:Region.free .any O li i=true)(hr:(Region.ready .any O li).contains i=true)(hQ:KA Q)(hN:Nat.blt d N=true)
  (hK:∀ w,Sat W w (seps H)→Sat W w (seps K)) (hy:Y P W N op T L K v) (h:AQ P W N K O Q fuel (li.setIfInBounds i true) ((d,some v)::L) H):AQ P W N K O Q (fuel+1) li L H:=fun a w ha hs' =>
 wpAnyH_take hi hs hf hr (fun c a w=>hQ c d v a w) (.inl ⟨bj rfl,fun w' hw'=>hy _ _ _ _ a w' ha hw'⟩) (hK w hs') (h _ w (ha.put (Nat.blt_eq.mp hN) v) hs')
theorem AQ.KB(i:Nat){f:FuncId}{xs:Array Operand}{ts:Array TypeId}{pos:String}{after:Array Edge}{d fuel:Nat}{li:Array Bool}{args:List Value}{pre:List aa}{X:Type}{en:X→Ending}{fact:X→Prop}{post:X→List aa}(hi:O[i]?=some ⟨some d,.call ⟨.value (.func f),xs,ts⟩,T,pos,after,none⟩)(hr:Region.ready .any O li=[i])
  (hc:∀ args w,(callFunc f args).run P w = .ok (.enter f args) w) (hx:evs L xs.toList=some args) (hfn:Cd P W f args pre X en fact post) (ht:aK H pre R) (hp:∀ x, ∃ c,en x = .panicked c)
  (h2:∀ x c,en x = .panicked c→fact x→cj W N Q (.panic c) L (post x++R)):AQ P W N K O Q (fuel+1) li L H:=fun a w ha hs=>by
 refine wpAnyH_all hr (by simp) fun j hj=>?_
 obtain rfl:j=i:=by simpa using hj
 have e:xs.map a.eval=args.toArray:=by
  rw[← ha.mV hx, ← List.map_toArray]
 have hs:=ht.sat hs
 rw[ah] at hs
 unfold wpOp
 rw[hi]
 simp only
 rw[if_pos (bj rfl)]
 left
 unfold Oper.wp
 have hr:(execOp a.eval ⟨some d,.call ⟨.value (.func f),xs,ts⟩,T,pos,after,none⟩).run P w = .ok (.enter f args.toArray) w:=by
  simp[execOp,resolve,Act.eval,Deferred.ofValue,invoke,e,hc]
 rw[hr]
 simp only[Oper.upon]
 refine(hfn _ w hs).mono fun en' w' ⟨x,he,hf,hs'⟩=>?_
 rw[← ah] at hs'
 subst he
 obtain⟨c,e2⟩:=hp x
 rw[e2]
 exact h2 x c e2 hf _ _ ha hs'
/-! what the model stands in for -/
theorem Y.ext {f : FuncId} {fn : Func} {e : Array Value → Sem Value} {xs : Array Operand} {ts : Array TypeId} {args : List Value} {v : Value} (hf : P.funcs[f]? = some fn) (hname : (fn.name == "runtime.NumGoroutine") = false) (hb : fn.body.isNone = true) (hn : Extern.findNext fn = none) (he : Extern.find fn = some e)
  (hx:evs L xs.toList=some args) (h:∀ w,(e args.toArray).run P w = .ok v w):Y P W N (.call ⟨.value (.func f),xs,ts⟩) T L H v:=fun dst pos after guard a w ha hs=>by
 have e2:xs.map a.eval=args.toArray:=by
  rw[← ha.mV hx, ← List.map_toArray]
 simp[execOp,resolve,Act.eval,Deferred.ofValue,invoke,e2,run_callFunc_extern hf hname hb hn he,h]
/-! numbers with a point -/
def jO(m n:Nat):Option Ordering:=Ieee.double.order m n
theorem Y.KC{xT yT:TypeId}{x y:Operand}{m n:Nat}(hx:ev L x=some (.float .f64 m))(hy:ev L y=some (.float .f64 n)):Y P W N (.binOp .lss xT x y yT) T L H (.bool (jO m n == some .lt)):=Y.bin hx hy fun _w=>rfl
theorem Y.LG{xT yT:TypeId}{x y:Operand}{m n:Nat}(hx:ev L x=some (.float .f64 m))(hy:ev L y=some (.float .f64 n)):Y P W N (.binOp .geq xT x y yT) T L H (.bool (jO m n == some .gt || jO m n == some .eq)):=Y.bin hx hy fun _w=>rfl
theorem Y.LH{xT yT:TypeId}{x y:Operand}{m n:Nat}(hx:ev L x=some (.float .f64 m))(hy:ev L y=some (.float .f64 n))(hg:∀ w,(eqGuard .neq xT x y (.float .f64 m) (.float .f64 n)).run P w = .ok () w):Y P W N (.binOp .neq xT x y yT) T L H (.bool (jO m n != some .eq)):=Y.bin hx hy fun w=>by
 rw[Sem.run_bind,hg];rfl
def I4(o:Option Nat)(r:Nat):Prop:=match o with | some q=>r=q | none=>(jO r r == some .eq)=false
theorem AR(t:Nat):(jO ((t % 2) * 2 ^ 63+0x7ff0000000000000+1+(t / 2) % (2 ^ 52-1)) ((t % 2) * 2 ^ 63+0x7ff0000000000000+1+(t / 2) % (2 ^ 52-1)) == some .eq)=false:=by
 have h1:t % 2<2:=Nat.mod_lt _ (by decide)
 have h2:(t / 2) % (2 ^ 52-1)<2 ^ 52-1:=Nat.mod_lt _ (by decide)
 generalize t % 2=s at *
 generalize (t / 2) % (2 ^ 52-1)=q at *
 have hr:(s * 2 ^ 63+0x7ff0000000000000+1+q) % Ieee.double.signWeight=0x7ff0000000000001+q:=by
  have:Ieee.double.signWeight=2 ^ 63:=by decide
  rw[this];omega
 have hread:∃ b f,Ieee.double.read (s * 2 ^ 63+0x7ff0000000000000+1+q) = .nan b f:=by
  unfold Ieee.Format.read
  simp only[hr]
  have e1:Ieee.double.binade=4503599627370496:=by decide
  have e2:Ieee.double.infRung=9218868437227405312:=by decide
  rw[e1,e2,if_neg (by omega),if_neg (by omega),if_neg (by omega)]
  exact⟨_,_,rfl⟩
 obtain⟨b,f,e⟩:=hread
 unfold jO Ieee.Format.order
 rw[e]
 rfl
theorem af.GH{op:BinOp}{xT yT:TypeId}{x y:Operand}{pos:String}{after:Array Edge}{guard:Option (Nat×Bool)}{d m n:Nat}(o:Option Nat)(hN:Nat.blt d N=true)(hx:ev L x=some (.float .f64 m))(hy:ev L y=some (.float .f64 n))
  (h:∀ w,(do eqGuard op xT x y (.float .f64 m) (.float .f64 n);binOp op xT (.float .f64 m) (.float .f64 n):Sem Value).run P w=(match o with | some r=>pure (.float .f64 r) | none=>do pure (.float .f64 (← choose (.nanBits .f64 m n))):Sem Value).run P w) :
  af P W N ⟨some d,.binOp op xT x y yT,T,pos,after,guard⟩ L H (fun L1 H1=>∃ r,I4 o r∧L1=(d,some (.float .f64 r))::L∧H1=H):=fun a w ha hs Kp hK=>by
 have hrun:∀ v w',(match o with | some r=>pure (.float .f64 r) | none=>do pure (.float .f64 (← choose (.nanBits .f64 m n))):Sem Value).run P w = .ok v w'→(execOp a.eval ⟨some d,.binOp op xT x y yT,T,pos,after,guard⟩).run P w = .ok (.value v) w':=fun v w' hv=>by
  simp only[execOp,ha.eval hx,ha.eval hy]
  have h2:=(h w).trans hv
  show((do eqGuard op xT x y (.float .f64 m) (.float .f64 n);binOp op xT (.float .f64 m) (.float .f64 n):Sem Value) >>= fun v=>pure (Next.value v)).run P w=_
  rw[Sem.run_bind,h2]
  rfl
 unfold Oper.wp
 cases o with
 | some r =>
  rw[hrun (.float .f64 r) w rfl]
  simp only[Oper.upon]
  exact hK _ _ ⟨r,rfl,rfl,rfl⟩ _ _ (ha.put (Nat.blt_eq.mp hN) _) hs
 | none =>
  have hq:(choose (.nanBits .f64 m n)).run P w = .ok ((Question.nanBits .f64 m n).cut (w.tape w.drawn (.nanBits .f64 m n))) w.drew:=by
   rw[run_choose_drew];simp[Question.forced]
  rw[hrun (.float .f64 ((Question.nanBits .f64 m n).cut (w.tape w.drawn (.nanBits .f64 m n)))) w.drew (by simp only[Sem.run_bind,hq,Result.andThen_ok,Sem.run_pure])]
  simp only[Oper.upon]
  refine hK _ _ ⟨_,?_,rfl,rfl⟩ _ _ (ha.put (Nat.blt_eq.mp hN) _) hs.drew
  show(jO _ _ == some .eq)=false
  simp only[Question.cut]
  exact AR _
theorem Y.toFloat{src dst':TypeId}{x:Operand}{j:IntKind}{n:Int}(h:∀ w,(convert src dst' (.int j n)).run P w = .ok (.float .f64 (FloatKind.f64.nearest n)) w)(hx:ev L x=some (.int j n)):Y P W N (.convert src dst' x) T L H (.float .f64 (FloatKind.f64.nearest n)):=fun dst pos after guard a w ha hs=>by
 simp only[execOp,ha.eval hx]
 exact bJ (h w)
theorem Y.I5{src dst':TypeId}{x:Operand}{j:IntKind}{n:Nat}{k:Int}(h:∀ w,(convert src dst' (.float .f64 n)).run P w = .ok (.int j k) w)(hx:ev L x=some (.float .f64 n)):Y P W N (.convert src dst' x) T L H (.int j k):=fun dst pos after guard a w ha hs=>by
 simp only[execOp,ha.eval hx]
 exact bJ (h w)
end
end Go.SLYtefdijgllbkmfaaGreat
namespace Go.SLYtefdijgllbkmfaaGreat
open Go Go.RowKit
theorem xB(n:Nat):mR (n:Int)=(jO n n != some .eq):=by
 unfold mR LD jO bne
 rw[Int.toNat_natCast]
theorem pJ(n:Nat):fA (n:Int)=if (jO n n != some .eq)=true then mW else (n:Int):=by unfold fA;rw[xB]
theorem jE{o:Option Nat}{r:Nat}(h:I4 o r):fA (r:Int)=B8 o:=by
 cases o with
 | some q=>rw[show r=q from h];rfl
 | none =>
  have h:(jO r r == some .eq)=false:=h
  rw[pJ]
  unfold bne
  rw[h];rfl
theorem gA{a:Int}(h:0≤a):(jO a.toNat a.toNat != some .eq)=mR a:=by
 rw[← xB,Int.toNat_of_nonneg h]
/-! from a number to a whole one -/
theorem Eb:Ieee.double.read oa = .number false 4503599627370496 11:=by decide +kernel
theorem Ce:Ieee.double.read ob = .number true 4503599627370496 11:=by decide +kernel
open Ieee in
theorem Ec(s:Bool)(n drop:Nat):Toward.zero.cut s n drop=n / 2 ^ min drop (n.log2+2):=by
 unfold Toward.cut
 simp[Nat.one_shiftLeft]
theorem I6{n drop b:Nat}(h:n≤b * 2 ^ drop):n / 2 ^ min drop (n.log2+2)≤b:=by
 rcases Nat.le_total drop (n.log2+2) with hd | hd
 ·rw[Nat.min_eq_left hd]
  exact Nat.div_le_of_le_mul (by rw[Nat.mul_comm];exact h)
 ·rw[Nat.min_eq_right hd]
  have:n<2 ^ (n.log2+2):=Nat.lt_of_lt_of_le Nat.lt_log2_self (Nat.pow_le_pow_right (by decide) (by omega))
  rw[Nat.div_eq_of_lt this]
  exact Nat.zero_le _
theorem I7{n drop b:Nat}(hb:0<b)(h:n<b * 2 ^ drop):n / 2 ^ min drop (n.log2+2)<b:=by
 rcases Nat.le_total drop (n.log2+2) with hd | hd
 ·rw[Nat.min_eq_left hd]
  exact Nat.div_lt_of_lt_mul (by rw[Nat.mul_comm];exact h)
 ·rw[Nat.min_eq_right hd]
  have:n<2 ^ (n.log2+2):=Nat.lt_of_lt_of_le Nat.lt_log2_self (Nat.pow_le_pow_right (by decide) (by omega))
  rw[Nat.div_eq_of_lt this]
  exact hb
open Ieee in
theorem GI(m:Nat)(i:Int):let base:=min i 11
  (m <<< (i-base).toNat<4503599627370496 <<< (11-base).toNat→m <<< i.toNat<9223372036854775808 * 2 ^ (-i).toNat)∧(m <<< (i-base).toNat≤4503599627370496 <<< (11-base).toNat→m <<< i.toNat≤9223372036854775808 * 2 ^ (-i).toNat):=by
 intro base
 simp only[Nat.shiftLeft_eq]
 have key:∃ c:Nat,0<c∧(m * 2 ^ i.toNat)=(m * 2 ^ (i-base).toNat) * c∧9223372036854775808 * 2 ^ (-i).toNat=4503599627370496 * 2 ^ (11-base).toNat * c:=by
  rcases(show i<0∨0≤i by omega) with hi | hi
  ·refine⟨1,by decide,?_,?_⟩
   ·rw[show base=i from by show min i 11=i;omega,show i.toNat=0 from by omega,show(i-i).toNat=0 from by omega];simp
   ·rw[show base=i from by show min i 11=i;omega,show(11-i).toNat=11+(-i).toNat from by omega,Nat.pow_add,Nat.mul_one, ← Nat.mul_assoc]
  ·refine⟨2 ^ base.toNat,Nat.pow_pos (by decide),?_,?_⟩
   ·rw[Nat.mul_assoc, ← Nat.pow_add,show(i-base).toNat+base.toNat=i.toNat from by show(i-min i 11).toNat+(min i 11).toNat=_;omega]
   ·rw[Nat.mul_assoc, ← Nat.pow_add,show(11-base).toNat+base.toNat=11 from by show(11-min i 11).toNat+(min i 11).toNat=_;omega,show(-i).toNat=0 from by omega]
 obtain⟨c,hc,e1,e2⟩:=key
 rw[e1,e2]
 exact⟨fun h=>Nat.mul_lt_mul_of_pos_right h hc,fun h=>Nat.mul_le_mul_right c h⟩
theorem I8(x y:Int):compare x y=if x<y then .lt else if x=y then .eq else .gt:=rfl
theorem I9{x y:Int}(h:y<x):compare x y = .gt:=by rw[I8,if_neg (by omega),if_neg (by omega)]
theorem Ja{x y:Int}(h:x<y):compare x y = .lt:=by rw[I8,if_pos h]
theorem Jb(x:Int):compare x x = .eq:=by rw[I8,if_neg (by omega),if_pos rfl]
theorem xC(m k:Nat):Ieee.signed false m k=((m <<< k:Nat):Int):=rfl
theorem Ed(m k:Nat):Ieee.signed true m k = -((m <<< k:Nat):Int):=rfl
open Ieee in
theorem Cf{n:Nat}(h1:(jO n n != some .eq)=false)(h2:(jO n oa == some .gt || jO n oa == some .eq)=false)(h3:(jO n ob == some .lt)=false) :
  ∃ k,(FloatKind.f64.decode n).toInt .zero=some k∧IntKind.i64.min≤k∧k≤IntKind.i64.max:=by
 show ∃ k,(double.read n).toInt .zero=some k∧_
 unfold jO Format.order at h1 h2 h3
 rw[Eb] at h2
 rw[Ce] at h3
 have hmin:IntKind.i64.min = -9223372036854775808:=by decide
 have hmax:IntKind.i64.max=9223372036854775807:=by decide
 rw[hmin,hmax]
 cases hd:double.read n with
 | nan b f=>rw[hd] at h1;simp[Datum.order] at h1
 | infinity s =>
  rw[hd] at h2 h3
  cases s <;> simp[Datum.order] at h2 h3
 | number s m i =>
  rw[hd] at h2 h3
  simp only[Datum.order,Bool.or_eq_false_iff] at h2 h3
  refine⟨signed s (Toward.zero.cut s (m <<< i.toNat) (-i).toNat) 0,rfl,?_⟩
  rw[Ec]
  obtain⟨c1,c2⟩:=GI m i
  cases s with
  | false =>
   have hlt:m <<< (i-min i 11).toNat<4503599627370496 <<< (11-min i 11).toNat:=by
    rcases Nat.lt_trichotomy (m <<< (i - min i 11).toNat) (4503599627370496 <<< (11 - min i 11).toNat) with h | h | h
    ·exact h
    ·exfalso
     rw[xC,xC,h,Jb] at h2;simp at h2
    ·exfalso
     rw[xC,xC,I9 (by omega)] at h2;simp at h2
   have:=I7 (by decide) (c1 hlt)
   generalize (m <<< i.toNat) / 2 ^ min (-i).toNat ((m <<< i.toNat).log2+2)=q at *
   rw[xC,Nat.shiftLeft_zero]
   omega
  | true =>
   have hle:m <<< (i-min i 11).toNat≤4503599627370496 <<< (11-min i 11).toNat:=by
    rcases Nat.lt_or_ge (4503599627370496 <<< (11 - min i 11).toNat) (m <<< (i - min i 11).toNat) with h | h
    ·exfalso
     rw[Ed,Ed,Ja (by omega)] at h3;simp at h3
    ·exact h
   have:=I6 (c2 hle)
   generalize (m <<< i.toNat) / 2 ^ min (-i).toNat ((m <<< i.toNat).log2+2)=q at *
   rw[Ed,Nat.shiftLeft_zero]
   omega
theorem Cg{P:Program}{n:Nat}{w:World}{k:Int}(h:(FloatKind.f64.decode n).toInt .zero=some k)(h1:IntKind.i64.min≤k)(h2:k≤IntKind.i64.max):(Conv.floatToInt .f64 n .i64).run P w = .ok (.int .i64 k) w:=by
 unfold Conv.floatToInt
 rw[h]
 simp only
 rw[if_pos ⟨h1,h2⟩]
 rfl
theorem Ee(k:Int):IntKind.u64.wrap k=gU k:=by
 unfold gU
 rfl
end Go.SLYtefdijgllbkmfaaGreat
namespace Go.SLYtefdijgllbkmfaaGreat
open Go Go.RowKit
def iJ(f:iG):List Value:=[.int .i64 f.fn,.int .i64 f.pc,.int .u64 (f.aq.getD 0 0),.int .u64 (f.aq.getD 1 0),.int .u64 (f.aq.getD 2 0),.int .u64 (f.aq.getD 3 0),.int .u64 (f.aq.getD 4 0),.int .u64 (f.aq.getD 5 0),.int .u64 (f.aq.getD 6 0),.int .u64 (f.aq.getD 7 0)]
def tW(f:iG)(v:Value):List Value:=[.int .i64 f.fn,.int .i64 f.pc,.int .u64 (f.aq.getD 0 0),.int .u64 (f.aq.getD 1 0),.int .u64 (f.aq.getD 2 0),.int .u64 (f.aq.getD 3 0),.int .u64 (f.aq.getD 4 0),.int .u64 (f.aq.getD 5 0),.int .u64 (f.aq.getD 6 0),.int .u64 (f.aq.getD 7 0),v]
def Ef(o:Option Ins):Value:=.tuple #[.agg (dI (o.getD Ins.z)).toArray,.bool o.isSome]
theorem GJ{p:eZ}{f:iG}{fs:List (Value×List Ins)}{z:Value×List Ins}(hp:fs.map (·.2)=p.funcs)
  (h:(decide (f.fn<0) || decide ((fs.length:Int)≤f.fn) || decide (f.pc<0) || decide (((fs.getD f.fn.toNat z).2.length:Int)≤f.pc))=true) (_hz:z.2=[]):eE p f=none:=by
 unfold eE
 split
 ·rfl
 ·rename_i hn
  rw[← hp,List.getElem?_eq_none]
  simp only[Bool.or_eq_true,decide_eq_true_eq] at h
  rw[List.getD_eq_getElem?_getD,List.getElem?_map]
  rw[List.getD_eq_getElem?_getD] at h
  cases e:fs[f.fn.toNat]? with
  | none=>exact Nat.zero_le _
  | some x =>
   rw[e] at h
   have:=(List.getElem?_eq_some_iff.1 e).1
   simp only[Option.getD_some,Option.map_some] at h ⊢
   omega
theorem Eg{p:eZ}{f:iG}{fs:List (Value×List Ins)}{x:Value×List Ins}{i:Ins}(hp:fs.map (·.2)=p.funcs)(h1:¬f.fn<0)(h2:¬f.pc<0)(hx:fs[f.fn.toNat]?=some x)(hi:x.2[f.pc.toNat]?=some i):eE p f=some i:=by
 unfold eE
 rw[if_neg (by omega), ← hp,List.getD_eq_getElem?_getD,List.getElem?_map,hx]
 exact hi
theorem lT{f:iG}{v:Value}:∀ {n:Nat} (_:n<8),(tW f v)[2+n]?=some (.int .u64 (f.aq.getD n 0))
 | 0,_=>rfl
 | 1,_=>rfl
 | 2,_=>rfl
 | 3,_=>rfl
 | 4,_=>rfl
 | 5,_=>rfl
 | 6,_=>rfl
 | 7,_=>rfl
 | n+8,h=>absurd h (by omega)
theorem GK{fn pc:Int}{a0 a1 a2 a3 a4 a5 a6 a7:Int}{v:Value}(x:Int):∀ {n:Nat} (_:n<8),(tW ⟨fn,pc,[a0,a1,a2,a3,a4,a5,a6,a7]⟩ v).set (2+n) (.int .u64 x)=tW ⟨fn,pc,[a0,a1,a2,a3,a4,a5,a6,a7].set n x⟩ v
 | 0,_=>rfl
 | 1,_=>rfl
 | 2,_=>rfl
 | 3,_=>rfl
 | 4,_=>rfl
 | 5,_=>rfl
 | 6,_=>rfl
 | 7,_=>rfl
 | n+8,h=>absurd h (by omega)
theorem zu{f:iG}{v:Value}{n:Nat}(x:Int)(hn:n<8)(hl:f.aq.length=8):(tW f v).set (2+n) (.int .u64 x)=tW {f with aq:=f.aq.set n x } v:=by
 obtain⟨fn,pc,aq⟩:=f
 match aq,hl with
 | [a0,a1,a2,a3,a4,a5,a6,a7],_=>exact GK x hn
def tX(t:Nat)(e:Int):List PanicEntry:=[{v:=.iface t (.agg #[.int .i64 e]),recovered:=false }]
structure jb(i:Ins):Prop where
 a:0≤i.a∧i.a<8
 b:0≤i.b∧i.b<8
 c:0≤i.c∧i.c<8
 n:0≤i.n∧i.n≤18446744073709551615
 j:i.op=16∨i.op=17→i.n≤256
structure AS(f:iG):Prop where
 l:f.aq.length=8
 pc:0≤f.pc∧f.pc≤1000000
 r:∀ n,0≤f.aq.getD n 0∧f.aq.getD n 0≤18446744073709551615
def doEnd(t:Nat)(o:Option (iG×List Int)):Ending:=match o with | some _=>.returned (.tuple #[]) | none=>.panicked (tX t 6)
def LI(b:Nat)(v:Value)(o:Option (iG×List Int)):List aa:=match o with | some z=>[arr b 0 (tW z.1 v),sl bF 1 v z.2] | none=>[]
def gd(f:iG)(m:List Int)(i:Ins):iG×List Int×Int:=match hY f m i with | some (f',m')=>(f',m',0) | none=>(iG.z,[],6)
section
variable{P:Program}{W:World}{N:Nat}{Q:Exit→Act→World→Prop}{L:List (Nat×Option Value)}{H K R:List aa}{O:Array Oper}{T:TypeId}{rest:List Oper}{D:List Deferred}{ks:List Nat}
theorem Y.GL{x:Operand}{v r:Value}{t u:TypeId}{c:Bool}(hx:ev L x=some v)(h:∀ w,(Instr.typeAssert v t u c).run P w = .ok r w):Y P W N (.typeAssert x t u c) T L H r:=fun dst pos after guard a w ha hs=>by
 simp only[execOp,ha.eval hx]
 exact bJ (h w)
theorem Cd.ok{f:FuncId}{args:List Value}{pre:List aa}{X:Type}{en:X→Ending}{fact:X→Prop}{post:X→List aa}(val:X→Value)(h:Cd P W f args pre X en fact post)(he:∀ x,en x = .returned (val x)):Fn P W f args pre X val fact post:=fun F w hs =>
 (h F w hs).mono fun _ _ ⟨x,e1,e2,e3⟩=>⟨x,e1.trans (he x),e2,e3⟩
theorem Fn.Jc{f:FuncId}{fn:Func}{c:Code}{args:List Value}{pre:List aa}{X:Type}{val:X→Value}{fact:X→Prop}{post:X→List aa}(hf:P.funcs[f]?=some fn)(hb:fn.body=some c)(hn:fn.ntmps=N)(ha:Nat.ble args.length N=true)
  (h:∀ F,ax P W N (bodyPostD P fn (fun e w'=>∃ x,e = .returned (val x)∧fact x∧Sat W w' (sep (seps (post x)) F))) c (enum 0 args) (pre++[F])):Fn P W f args pre X val fact post:=fun F w hs=>by
 have hle:args.length≤N:=Nat.ble_eq.mp ha
 refine calls_of_wp_defers hf hb (h F _ w ⟨?_,fun k v hv=>?_,rfl⟩ ?_)
 ·simp[hn];omega
 ·obtain⟨_,h2⟩:=jZ args 0 k v hv
  have hk:k<args.length:=by
   have:=(List.getElem?_eq_some_iff.1 h2).1;simpa using this
  show(args.toArray++Array.replicate (fn.ntmps-args.toArray.size) undef)[k]?=some v
  rw[Array.getElem?_append_left (by simpa using hk)]
  simpa using h2
 ·rw[ah];simp only[seps];rw[aP];exact hs
theorem af.GM{α:Type}{enc:α→List Value}{k b n c':Nat}{x y:Operand}{t t2 e ty:TypeId}{u:Value}{xs ys:List α}{pos:String}{after:Array Edge}{guard:Option (Nat×Bool)}{d:Nat}(hN:Nat.blt d N=true)(hu:P.underlying t=some (.slice e))(hz:∀ w,(sizeOf e).run P w = .ok k w)
  (hx:ev L x=some (.slice (some ⟨b,0,none⟩) n c')) (hy:ev L y=some u) (hr:Rd W H enc k u ys) (ht:Take H (sl enc k (.slice (some ⟨b,0,none⟩) n c') xs) R) (hl:xs.length=n) (hl2:ys.length=n) (hone:∀ y∈ys, ∀ c∈enc y,c.oneCell'=true) :
  af P W N ⟨some d,.call ⟨.builtin .copy, #[x,y], #[t,t2]⟩,ty,pos,after,guard⟩ L H (fun L1 H1=>L1=(d,some (.int .i64 (n:Int)))::L∧H1=sl enc k (.slice (some ⟨b,0,none⟩) n c') ys::R):=by
 rcases Nat.eq_zero_or_pos n with h0 | h0
 ·subst h0
  obtain rfl:=List.eq_nil_of_length_eq_zero hl
  obtain rfl:=List.eq_nil_of_length_eq_zero hl2
  intro a w ha hs Kp hK
  have hrd:=hr w hs
  have hf:=hrd.DV (P:=P) (m:=0) (Nat.zero_le _)
  obtain⟨⟨ua,ucap,hue,_⟩,_⟩:=hrd
  have hln:(Builtin.lenOf u).run P w = .ok 0 w:=by rw[hue];simp[Builtin.lenOf]
  have hrun:(execOp a.eval ⟨some d,.call ⟨.builtin .copy, #[x,y], #[t,t2]⟩,ty,pos,after,guard⟩).run P w = .ok (.value (.int .i64 ((0:Nat):Int))) w:=by
   simp[execOp,resolve,invoke,builtin,ha.eval hx,ha.eval hy,Builtin.copy_,run_underlying hu,hz,hln,goInt,hf,rows,storeCells]
  unfold Oper.wp
  rw[hrun]
  simp only[Oper.upon]
  rw[ht.seps] at hs
  exact hK _ _ ⟨rfl,rfl⟩ _ _ (ha.put (Nat.blt_eq.mp hN) _) hs
 ·have:=af.I0 (P:=P) (W:=W) (N:=N) (L:=L) (H:=H) (R:=R) (ty:=ty) (pos:=pos) (after:=after) (guard:=guard) (t2:=t2) (d:=d) (x:=x) (y:=y) (t:=t) (i:=0) (b:=b) (len:=n) (cap:=c') (c':=c') (xs:=xs) (ys:=ys) hN hu hz (by simpa using hx) hy hr ht hl (Nat.zero_le _) h0 hone
  have e:min ys.length (n-0)=n:=by omega
  rw[e,List.take_zero,List.nil_append,Nat.zero_add,List.take_of_length_le (by omega),List.drop_of_length_le (by omega),List.append_nil] at this
  exact this
end
end Go.SLYtefdijgllbkmfaaGreat
namespace Go.SLYtefdijgllbkmfaaGreat
open Go Go.RowKit
def QC(R:Ending→FrameMode→World→Prop)(u:FrameMode):Exit→Act→World→Prop
 | .normal,a,w | .ret,a,w=>a.defers=[]∧R (.returned (.tuple #[])) u w
 | _,_,_=>False
section
variable{P:Program}{W:World}{N:Nat}{Q:Exit→Act→World→Prop}{L:List (Nat×Option Value)}{H K R:List aa}{O:Array Oper}{T:TypeId}{D:List Deferred}
theorem Ch{args:List Value}(ha:Nat.ble args.length N=true):Env N (enum 0 args) {tmps:=args.toArray++Array.replicate (N-args.toArray.size) undef,defers:=[] }:=by
 have hle:args.length≤N:=Nat.ble_eq.mp ha
 refine⟨by simp;omega,fun k v hv=>?_,rfl⟩
 obtain⟨_,h2⟩:=jZ args 0 k v hv
 have hk:k<args.length:=by
  have:=(List.getElem?_eq_some_iff.1 h2).1;simpa using this
 show(args.toArray++Array.replicate (N-args.toArray.size) undef)[k]?=some v
 rw[Array.getElem?_append_left (by simpa using hk)]
 simpa using h2
theorem lU{f:FuncId}{fn:Func}{rest:Code}{id d:Nat}{pos:String}{after:Array Edge}{args:List Value}{Rc:Ending→FrameMode→World→Prop}{u u2:FrameMode}{v:Value}{w:World}(hf:P.funcs[f]?=some fn)
  (hb:fn.body=some (.seq (.region id #[⟨some d,.call ⟨.builtin .recover, #[], #[]⟩,T,pos,after,none⟩] false) rest)) (hn:fn.ntmps=N) (ha:Nat.ble args.length N=true) (hd:Nat.blt d N=true) (hr:fn.results = #[])
  (hu:∀ (c:Frame) (cs:List Frame),c.mode=u→(recoverD (c::cs)=some (v,{c with mode:=u2 }::cs))∨(recoverD (c::cs)=none∧v = .nilIface∧u2=u))
  (hs:Sat W w (seps H)) (h:ax P W N (QC Rc u2) rest ((d,some v)::enum 0 args) H):CallsD P f args.toArray u w Rc:=by
 refine callsD_of_wpS hf hb fun c cs hc=>wpS_seq (wpS_region ?_)
 have henv:Env N ((d,some v)::enum 0 args) (({tmps:=args.toArray++Array.replicate (fn.ntmps-args.toArray.size) undef,defers:=[] }:Act).put (some d) v):=by
  rw[hn];exact(Ch ha).put (Nat.blt_eq.mp hd) v
 have hw:=h _ w henv hs
 have hfin:rest.wpS P (bodyPostS P fn c cs Rc) (({tmps:=args.toArray++Array.replicate (fn.ntmps-args.toArray.size) undef,defers:=[] }:Act).put (some d) v) ({c with mode:=u2 }::cs) w:=by
  refine wpS_of_wp (wp_mono hw fun e a' w' hq=>?_)
  cases e with
  | normal=>exact⟨hq.1,u2,rfl,_,results_none hr _ _ _,hq.2⟩
  | ret=>exact⟨hq.1,u2,rfl,_,results_none hr _ _ _,hq.2⟩
  | exit id=>exact hq.elim
  | goto l=>exact hq.elim
  | panic c=>exact hq.elim
  | outgrown=>exact hq.elim
 have hlist:List.range (#[(⟨some d,.call ⟨.builtin .recover, #[], #[]⟩,T,pos,after,none⟩:Oper)]).size=[0]:=rfl
 rw[hlist]
 simp only[wpOpsS,List.getElem?_toArray,List.getElem?_cons_zero]
 rw[if_pos (bj rfl)]
 have hx:(execOp ({tmps:=args.toArray++Array.replicate (fn.ntmps-args.toArray.size) undef,defers:=[] }:Act).eval ⟨some d,.call ⟨.builtin .recover, #[], #[]⟩,T,pos,after,none⟩).run P w = .ok .recover w:=by
  simp[execOp,resolve,invoke,builtin]
 rw[hx]
 simp only
 rcases hu c cs hc with e | ⟨e,rfl,rfl⟩
 ·rw[e];exact hfin
 ·rw[e]
  have:({c with mode:=u2 }:Frame)=c:=by subst hc;rfl
  rw[this] at hfin
  exact hfin
theorem vQ{xT:TypeId}{ms:Array (String×TypeId)}(hu:P.underlying xT=some (.interface ms))(w:World):(Op.equal xT .nilIface .nilIface).run P w = .ok true w:=by
 show(Op.equalIn (9999+1) xT _ _).run P w=_
 unfold Op.equalIn
 simp[run_underlying hu]
theorem tC{xT:TypeId}{ms:Array (String×TypeId)}{t:TypeId}{u:Value}(hu:P.underlying xT=some (.interface ms))(w:World):(Op.equal xT (.iface t u) .nilIface).run P w = .ok false w:=by
 show(Op.equalIn (9999+1) xT _ _).run P w=_
 unfold Op.equalIn
 simp[run_underlying hu]
theorem Y.KD{xT yT:TypeId}{x:Operand}{ms:Array (String×TypeId)}(hu:P.underlying xT=some (.interface ms))(hx:ev L x=some .nilIface):Y P W N (.binOp .eql xT x (.const .nilIface) yT) T L H (.bool true) :=
 Y.bin hx rfl fun w=>by simp[eqGuard,binOp,vQ hu]
theorem Y.KE{xT yT:TypeId}{x:Operand}{t:TypeId}{u:Value}{ms:Array (String×TypeId)}(hu:P.underlying xT=some (.interface ms))(hx:ev L x=some (.iface t u)):Y P W N (.binOp .eql xT x (.const .nilIface) yT) T L H (.bool false) :=
 Y.bin hx rfl fun w=>by simp[eqGuard,binOp,tC hu]
theorem cj.KF{Rc:Ending→FrameMode→World→Prop}{u:FrameMode}(h:∀ w,Sat W w (seps H)→Rc (.returned (.tuple #[])) u w):cj W N (QC Rc u) .normal L H:=fun _a w ha hs=>⟨ha.defers,h w hs⟩
theorem tY{fn:Func}{a:Act}{w:World}{t1 t2 t3 T1 T2 T3 b1 b2 b3:Nat}{cs:List Value}{v2 v3:Value}(ha:pI N L D a)(hs:Sat W w (seps H))(hr:fn.results = #[.cell t1 T1,.cell t2 T2,.cell t3 T3])(h1:look L t1=some (ptr b1))(h2:look L t2=some (ptr b2))(h3:look L t3=some (ptr b3))
  (g1:∀ w,(isAgg T1).run P w = .ok true w) (z1:∀ w,(sizeOf T1).run P w = .ok cs.length w) (g2:∀ w,(isAgg T2).run P w = .ok false w) (g3:∀ w,(isAgg T3).run P w = .ok false w) (c1:Cells W H b1 0 cs) (c2:Cell W H b2 0 v2) (c3:Cell W H b3 0 v3) :
  (results fn a.tmps).run P w = .ok (.tuple #[.agg cs.toArray,v2,v3]) w:=by
 have hl:=ic (P:=P) (w:=w) g1 z1 fun i v hv=>c1 i v hv w hs
 have hl2:(loadVar T2 ⟨b2,0,none⟩).run P w = .ok v2 w:=by simp[loadVar,g2,c2 w hs]
 have hl3:(loadVar T3 ⟨b3,0,none⟩).run P w = .ok v3 w:=by simp[loadVar,g3,c3 w hs]
 simp[results,hr,ha.get _ _ h1,ha.get _ _ h2,ha.get _ _ h3,ptr,asAddr,hl,hl2,hl3]
end
end Go.SLYtefdijgllbkmfaaGreat
namespace Go.SLYtefdijgllbkmfaaGreat
open Go Go.RowKit
def qQ(v:Value)(l:List dB)(i:Nat):aa:=oc (ey (blk v) (cC v+i * 3)) (fun m'=>ep v (l.set i m'))
def xD(v:Value)(l:List jr)(i:Nat):aa:=oc (gV (blk v) (cC v+i * 2)) (fun m'=>fy v (l.set i m'))
def Ci(v:Value)(l:List (List dh))(i:Nat):aa:=oc (iB (blk v) (cC v+i * 1)) (fun m'=>ik v (l.set i m'))
theorem og{v:Value}{l:List dB}{i:Nat}{m:dB}(hm:l[i]?=some m):∀ h,ep v l h→seps [ey (blk v) (cC v+i * 3) m,qQ v l i] h:=D6 hm
theorem AU{v:Value}{l:List jr}{i:Nat}{m:jr}(hm:l[i]?=some m):∀ h,fy v l h→seps [gV (blk v) (cC v+i * 2) m,xD v l i] h:=D7 hm
theorem AV{v:Value}{l:List (List dh)}{i:Nat}{m:List dh}(hm:l[i]?=some m):∀ h,ik v l h→seps [iB (blk v) (cC v+i * 1) m,Ci v l i] h:=D8 hm
theorem r8{v:Value}{l:List dB}{i:Nat}(m':dB):∀ h,seps [ey (blk v) (cC v+i * 3) m',qQ v l i] h→ep v (l.set i m') h:=mv m'
theorem sa{v:Value}{l:List jr}{i:Nat}(m':jr):∀ h,seps [gV (blk v) (cC v+i * 2) m',xD v l i] h→fy v (l.set i m') h:=mv m'
theorem Eh{v:Value}{l:List (List dh)}{i:Nat}(m':List dh):∀ h,seps [iB (blk v) (cC v+i * 1) m',Ci v l i] h→ik v (l.set i m') h:=mv m'
theorem eF{α:Type}{l:List α}{i:Nat}{x:α}(h:l[i]?=some x):l.set i x=l:=by
 apply List.ext_getElem?
 intro j
 by_cases e:i=j
 ·subst e;rw[List.getElem?_set_self (List.getElem?_eq_some_iff.1 h).1,h]
 ·rw[List.getElem?_set_ne e]
theorem oh{v:Value}{l:List dB}{i:Nat}{m:dB}(hm:l[i]?=some m):∀ h,seps [ey (blk v) (cC v+i * 3) m,qQ v l i] h→ep v l h:=fun h a=>by have:=r8 m h a;rwa [eF hm] at this
theorem Ei{v:Value}{l:List jr}{i:Nat}{m:jr}(hm:l[i]?=some m):∀ h,seps [gV (blk v) (cC v+i * 2) m,xD v l i] h→fy v l h:=fun h a=>by have:=sa m h a;rwa [eF hm] at this
theorem fC{p:Prop}[Decidable p]{α:Type}{a:α}(h:(if p then some a else none).isNone=false):p:=by
 by_cases hp:p
 ·exact hp
 ·rw[if_neg hp] at h;cases h
theorem fP{p:Prop}[Decidable p]{α:Type}{a:α}(h:(if p then some a else none).isNone=true):¬p:=by
 intro hp
 rw[if_pos hp] at h;cases h
theorem xE{p:Prop}[Decidable p]{α:Type}{a:α}(h:(!(if p then some a else none).isNone)=true):p:=fC (by simpa only[Bool.not_eq_true'] using h)
theorem zv{p:Prop}[Decidable p]{α:Type}{a:α}(h:(!(if p then some a else none).isNone)=false):¬p:=fP (by simpa only[Bool.not_eq_false'] using h)
section
variable{g:Gates}{who m c choice s:Int}{x:dB}{r:List dh}{y:jr}
theorem tZ(h:¬(0≤m∧m<(g.aF.length:Int))):g.lock who m=(false,1,g):=by unfold Gates.lock;rw[ei h]
theorem qw(h:cE g.aF m=some x)(hb:(g.waits who || x.is who)=true):g.lock who m=(false,4,g):=by unfold Gates.lock;rw[h];simp only;rw[if_pos (by simpa using hb)]
theorem ub(h:cE g.aF m=some x)(hb:(g.waits who || x.is who)=false):g.lock who m=((x.lock who).1,0,{g with aF:=g.aF.set m.toNat (x.lock who).2 }):=by unfold Gates.lock;rw[h];simp only;rw[if_neg (by simpa using hb)]
theorem qx(h:¬(0≤m∧m<(g.aF.length:Int))):g.unlock who m choice=(0,false,1,g):=by unfold Gates.unlock;rw[ei h]
theorem oq(h:cE g.aF m=some x)(hb:x.is who=false):g.unlock who m choice=(0,false,5,g):=by unfold Gates.unlock;rw[h];simp only;rw[if_neg (by simpa using hb)]
theorem qy(h:cE g.aF m=some x)(hb:x.is who=true):g.unlock who m choice=((x.unlock choice).1,(x.unlock choice).2.1,0,{g with aF:=g.aF.set m.toNat (x.unlock choice).2.2 }):=by unfold Gates.unlock;rw[h];simp only;rw[if_pos hb]
theorem ni(h:¬(0≤m∧m<(g.aF.length:Int))):g.wait who c m choice=(0,false,1,g):=by unfold Gates.wait;rw[ei h]
theorem nj(h:¬(0≤c∧c<(g.bn.length:Int))):g.wait who c m choice=(0,false,1,g):=by unfold Gates.wait;rw[ei h];cases cE g.aF m <;> rfl
theorem xF(h:cE g.aF m=some x)(h2:cE g.bn c=some r)(hb:g.waits who=true):g.wait who c m choice=(0,false,4,g):=by unfold Gates.wait;rw[h,h2];simp only;rw[if_pos hb]
theorem nk(h:cE g.aF m=some x)(h2:cE g.bn c=some r)(hb:g.waits who=false)(ho:x.is who=false):g.wait who c m choice=(0,false,5,g):=by unfold Gates.wait;rw[h,h2];simp only;rw[if_neg (by rw[hb];simp),if_neg (by rw[ho];simp)]
theorem pK(h:cE g.aF m=some x)(h2:cE g.bn c=some r)(hb:g.waits who=false)(ho:x.is who=true):g.wait who c m choice=((x.unlock choice).1,(x.unlock choice).2.1,0,{g with aF:=g.aF.set m.toNat (x.unlock choice).2.2,bn:=g.bn.set c.toNat (r++[⟨who,m⟩]) }):=by unfold Gates.wait;rw[h,h2];simp only;rw[if_neg (by rw[hb];simp),if_pos ho]
theorem qz{all:Bool}(h:¬(0≤c∧c<(g.bn.length:Int))):g.signal c choice all=([],1,g):=by unfold Gates.signal;rw[ei h]
theorem qA{all:Bool}{z:List dh×List dB×List Int}(h2:cE g.bn c=some r)(hz:sigLoop (if all=true then r.length else min r.length 1) (if all=true then 0 else choice) r g.aF []=z):g.signal c choice all=(z.2.2,0,{g with aF:=z.2.1,bn:=g.bn.set c.toNat z.1 }):=by unfold Gates.signal;rw[h2];simp only;rw[hz]
theorem uc(h:¬(0≤s∧s<(g.cf.length:Int))):g.down who s=(false,1,g):=by unfold Gates.down;rw[ei h]
theorem xG(h:cE g.cf s=some y)(hb:g.waits who=true):g.down who s=(false,4,g):=by unfold Gates.down;rw[h];simp only;rw[if_pos hb]
theorem ud(h:cE g.cf s=some y)(hb:g.waits who=false)(hc:0<y.count):g.down who s=(true,0,{g with cf:=g.cf.set s.toNat {y with count:=y.count-1 } }):=by unfold Gates.down;rw[h];simp only;rw[if_neg (by rw[hb];simp),if_pos hc]
theorem qB(h:cE g.cf s=some y)(hb:g.waits who=false)(hc:¬ 0<y.count):g.down who s=(false,0,{g with cf:=g.cf.set s.toNat {y with wait:=y.wait++[⟨who,0⟩] } }):=by unfold Gates.down;rw[h];simp only;rw[if_neg (by rw[hb];simp),if_neg hc]
theorem AW(h:¬(0≤s∧s<(g.cf.length:Int))):g.up s choice=(0,false,1,g):=by unfold Gates.up;rw[ei h]
theorem ue(h:cE g.cf s=some y)(hb:(aJ y.wait choice).2.1=true):g.up s choice=((aJ y.wait choice).1.who,true,0,{g with cf:=g.cf.set s.toNat {y with wait:=(aJ y.wait choice).2.2 } }):=by unfold Gates.up;rw[h];simp only;rw[if_pos hb]
theorem uf(h:cE g.cf s=some y)(hb:(aJ y.wait choice).2.1=false)(hc:1048576≤y.count):g.up s choice=(0,false,2,g):=by unfold Gates.up;rw[h];simp only;rw[if_neg (by rw[hb];simp),if_pos hc]
theorem AX(h:cE g.cf s=some y)(hb:(aJ y.wait choice).2.1=false)(hc:¬ 1048576≤y.count):g.up s choice=(0,false,0,{g with cf:=g.cf.set s.toNat {y with count:=y.count+1 } }):=by unfold Gates.up;rw[h];simp only;rw[if_neg (by rw[hb];simp),if_neg hc]
end
theorem Cj{l:List dh}{c:Int}(h:(aJ l c).2.1=false):(aJ l c).2.2=l:=by
 unfold aJ at *
 split
 ·rfl
 ·rename_i hl;rw[if_neg hl] at h;cases h
def zw(r:List dh)(c:Int)(ms:List dB):Bool×dB:=(ms.getD (aJ r c).1.mutex.toNat iI).lock (aJ r c).1.who
theorem Ej{n:Nat}{c:Int}{r:List dh}{ms:List dB}{out:List Int} :
  sigLoop (n+1) c r ms out=sigLoop n c (aJ r c).2.2 (ms.set (aJ r c).1.mutex.toNat (zw r c ms).2) (if (zw r c ms).1=true then out++[(aJ r c).1.who] else out):=rfl
theorem kk{l:List dh}{c:Int}(h:l.length≠0):(aJ l c).1∈l∧(aJ l c).2.2.length+1=l.length∧(∀ w∈(aJ l c).2.2,w∈l):=by
 rw[qY h]
 have hp:pick c l.length<l.length:=fc (by omega)
 refine⟨List.mem_of_getElem? (getD_some hp),?_,fun w hw=>(List.eraseIdx_sublist _ _).mem hw⟩
 have:=List.length_eraseIdx_of_lt hp
 show(l.eraseIdx (pick c l.length)).length+1=_
 omega
theorem Ek{m:dB}{who:Int}:(m.lock who).2.wait.length≤m.wait.length+1:=by
 unfold dB.lock
 split <;> simp
structure ot(r0:List dh)(ms0:List dB)(n0:Nat)(c:Int)(k:Nat)(r:List dh)(ms:List dB)(out:List Int):Prop where
 hk:k≤n0
 len:r.length+k=r0.length
 mem:∀ w∈r,w∈r0
 ml:ms.length=ms0.length
 mw:∀ m∈ms,m.wait.length≤1000000+k
 ol:out.length≤k
 eq:sigLoop n0 c r0 ms0 []=sigLoop (n0-k) c r ms out
theorem ot.zero{r0:List dh}{ms0:List dB}{n0:Nat}{c:Int}(h:∀ m∈ms0,m.wait.length≤1000000):ot r0 ms0 n0 c 0 r0 ms0 []:=⟨Nat.zero_le _,rfl,fun _ h=>h,rfl,h,Nat.le_refl _,rfl⟩
theorem ot.next{r0 r:List dh}{ms0 ms:List dB}{n0 k:Nat}{c:Int}{out:List Int}(h:ot r0 ms0 n0 c k r ms out)(hk:k<n0)(h0:n0≤r0.length) :
  ot r0 ms0 n0 c (k+1) (aJ r c).2.2 (ms.set (aJ r c).1.mutex.toNat (zw r c ms).2) (if (zw r c ms).1=true then out++[(aJ r c).1.who] else out):=by
 have hl:=h.len
 obtain⟨h1,h2,h3⟩:=kk (l:=r) (c:=c) (by omega)
 refine⟨by omega,by omega,fun w hw=>h.mem w (h3 w hw),by rw[List.length_set];exact h.ml,fun m hm=>?_,?_,?_⟩
 ·rcases List.mem_or_eq_of_mem_set hm with e | e
  ·have:=h.mw m e;omega
  ·subst e
   unfold zw
   have:=Ek (m:=ms.getD (aJ r c).1.mutex.toNat iI) (who:=(aJ r c).1.who)
   have h5:(ms.getD (aJ r c).1.mutex.toNat iI).wait.length≤1000000+k:=by
    rw[List.getD_eq_getElem?_getD]
    cases e:ms[(aJ r c).1.mutex.toNat]? with
    | none=>exact Nat.zero_le _
    | some m=>exact h.mw m (List.mem_of_getElem? e)
   omega
 ·have:=h.ol
  split <;> simp <;> omega
 ·rw[h.eq,show n0-k=(n0-(k+1))+1 by omega,Ej]
theorem ot.done{r0 r:List dh}{ms0 ms:List dB}{n0 k:Nat}{c:Int}{out:List Int}(h:ot r0 ms0 n0 c k r ms out)(hk:¬k<n0):sigLoop n0 c r0 ms0 []=(r,ms,out):=by
 rw[h.eq,show n0-k=0 by omega];rfl
end Go.SLYtefdijgllbkmfaaGreat
namespace Go.SLYtefdijgllbkmfaaGreat
open Go Go.RowKit
structure sb(t:Tub):Prop where
 w:t.words.length≤1000000
 p:t.bP.length≤1000000
 g:t.bC.length≤1000000
section
variable{t:Tub}{who x w:Int}{r:List Int}{p:Ptr}{q:List Ptr}
theorem ug(h:t.waits who=true):t.put who x=(false,0,false,t):=by unfold Tub.put;rw[if_pos h]
theorem ou(h:t.waits who=false)(hg:t.bC=w::r):t.put who x=(true,w,true,{t with bC:=r }):=by unfold Tub.put;rw[if_neg (by rw[h];simp),hg]
theorem lV(h:t.waits who=false)(hg:t.bC=[])(hr:(t.words.length:Int)<t.room):t.put who x=(true,0,false,{t with words:=t.words++[x] }):=by unfold Tub.put;rw[if_neg (by rw[h];simp),hg];simp only;rw[if_pos hr]
theorem lW(h:t.waits who=false)(hg:t.bC=[])(hr:¬(t.words.length:Int)<t.room):t.put who x=(false,0,false,{t with bP:=t.bP++[⟨who,x⟩] }):=by unfold Tub.put;rw[if_neg (by rw[h];simp),hg];simp only;rw[if_neg hr]
theorem pL(h:t.waits who=true):t.get who=(0,false,0,false,t):=by unfold Tub.get;rw[if_pos h]
theorem get_none(h:t.waits who=false)(hg:t.words=[]):t.get who=(0,false,0,false,{t with bC:=t.bC++[who] }):=by unfold Tub.get;rw[if_neg (by rw[h];simp),hg]
theorem my(h:t.waits who=false)(hg:t.words=x::r)(hp:t.bP=[]):t.get who=(x,true,0,false,{t with words:=r }):=by unfold Tub.get;rw[if_neg (by rw[h];simp),hg,hp]
theorem mz(h:t.waits who=false)(hg:t.words=x::r)(hp:t.bP=p::q):t.get who=(x,true,p.who,true,{t with words:=r++[p.x],bP:=q }):=by unfold Tub.get;rw[if_neg (by rw[h];simp),hg,hp]
end
theorem vR{α:Type}{l:List α}(h:¬l.length=0):∃ x r,l=x::r:=by
 cases l with
 | nil=>exact absurd rfl h
 | cons x r=>exact⟨x,r,rfl⟩
theorem zx{α:Type}{l:List α}(h:l.length=0):l=[]:=List.eq_nil_of_length_eq_zero h
section
variable{d:jC}{r:pE}{k:Int}
theorem AY(h:(decide (r.block<0) || decide ((d.blocks.length:Int)≤r.block))=true):d.ask r=(1,d):=by unfold jC.ask;rw[if_pos (by simpa using h)]
theorem El(h:(decide (r.block<0) || decide ((d.blocks.length:Int)≤r.block))=false)(h2:d.wait.any (fun x=>decide (x.who=r.who))=true):d.ask r=(4,d):=by unfold jC.ask;rw[if_neg (by simpa using h),if_pos h2]
theorem Em(h:(decide (r.block<0) || decide ((d.blocks.length:Int)≤r.block))=false)(h2:d.wait.any (fun x=>decide (x.who=r.who))=false):d.ask r=(0,{d with wait:=d.wait++[r] }):=by unfold jC.ask;rw[if_neg (by simpa using h),if_neg (by rw[h2];simp)]
def sd:pE:=⟨0,0,false,0⟩
theorem mA(h:d.wait.length=0):d.done k=(⟨0,0,false,0⟩,0,false,d):=by unfold jC.done;rw[if_pos h]
theorem kU(h:¬d.wait.length=0)(hr:d.wait.getD (pick k d.wait.length) sd=r)(hw:r.write=true):d.done k=(r,0,true,{d with wait:=d.wait.eraseIdx (pick k d.wait.length),blocks:=d.blocks.set r.block.toNat r.x }):=by
 subst hr;unfold sd at *;unfold jC.done;rw[if_neg h];simp only;rw[if_pos hw]
theorem mB(h:¬d.wait.length=0)(hr:d.wait.getD (pick k d.wait.length) sd=r)(hw:r.write=false):d.done k=(r,d.blocks.getD r.block.toNat 0,true,{d with wait:=d.wait.eraseIdx (pick k d.wait.length) }):=by
 subst hr;unfold sd at *;unfold jC.done;rw[if_neg h];simp only;rw[if_neg (by rw[hw];simp)]
end
end Go.SLYtefdijgllbkmfaaGreat
namespace Go.SLYtefdijgllbkmfaaGreat
open Go Go.RowKit
def eA(b p:Nat)(d:Dng)(vw ve:Value):List Value:=[ptr b,.int .i64 (d.n:Int),ptr p,.int .i64 d.i.op,.int .i64 d.i.a,.int .i64 d.i.b,.int .i64 d.i.c,.int .u64 d.i.n,.int .i64 d.choice,vw,.bool d.out.bE,.bool d.out.ended,.bool d.out.yielded,ve]
def bB(bd b p:Nat)(ps:List (Option Nat))(d:Dng):aa:=rM (fun _ _=>True) fun vw ve=>[arr bd 0 (eA b p d vw ve),sl aL 1 vw d.out.aM,sl dr 6 ve d.ends,dt b ps d.s]
def xH(v:Value)(e:iZ):List Value:=[v,.bool e.bE,.bool e.ended,.bool e.yielded]
theorem cq{ps:List (Option Nat)}{ts:List (Option bo)}{n p:Nat}{t:bo}(hp:ps[n]?=some (some p))(ht:ts[n]?=some (some t)):∀ h,aE ps ts h→seps [arr p 0 (bz t),aE (ps.set n none) (ts.set n none)] h:=fun h a=>by
 obtain⟨q,hq,a'⟩:=lO ht h a
 rw[hp] at hq;cases hq
 exact gX.2 a'
theorem cz{ps:List (Option Nat)}{ts:List (Option bo)}{n p:Nat}{t:bo}(hp:ps[n]?=some (some p))(ht:ts[n]?=some (some t)):∀ h,seps [arr p 0 (bz t),aE (ps.set n none) (ts.set n none)] h→aE ps ts h:=fun h a=>by
 have:=cY (List.getElem?_eq_some_iff.1 ht).1 hp h a
 rwa [eF ht] at this
theorem mC{t:bo}:∀ {n:Nat} (_:n<8),(bz t)[2+n * 1]?=some (.int .u64 (t.aq.getD n 0))
 | 0,_=>rfl
 | 1,_=>rfl
 | 2,_=>rfl
 | 3,_=>rfl
 | 4,_=>rfl
 | 5,_=>rfl
 | 6,_=>rfl
 | 7,_=>rfl
 | n+8,h=>absurd h (by omega)
theorem En{fn pc handle why value av op into:Int}{pA:Bool}{a0 a1 a2 a3 a4 a5 a6 a7:Int}(x:Int):∀ {n:Nat} (_:n<8),(bz ⟨fn,pc,[a0,a1,a2,a3,a4,a5,a6,a7],handle,why,value,pA,av,op,into⟩).set (2+n * 1) (.int .u64 x)=bz ⟨fn,pc,[a0,a1,a2,a3,a4,a5,a6,a7].set n x,handle,why,value,pA,av,op,into⟩
 | 0,_=>rfl
 | 1,_=>rfl
 | 2,_=>rfl
 | 3,_=>rfl
 | 4,_=>rfl
 | 5,_=>rfl
 | 6,_=>rfl
 | 7,_=>rfl
 | n+8,h=>absurd h (by omega)
theorem q3{t:bo}(x:Int){n:Nat}(hn:n<8)(hl:t.aq.length=8):(bz t).set (2+n * 1) (.int .u64 x)=bz (t.put (n:Int) x):=by
 obtain⟨fn,pc,aq,handle,why,value,pA,av,op,into⟩:=t
 match aq,hl with
 | [a0,a1,a2,a3,a4,a5,a6,a7],_=>exact En x hn
theorem jc{t:bo}(x:Int){i:Int}(h0:0≤i)(hn:i<8)(hl:t.aq.length=8):(bz t).set (2+i.toNat * 1) (.int .u64 x)=bz (t.put i x):=by
 rw[q3 x (by omega) hl,show((i.toNat:Nat):Int)=i from by omega]
theorem ov(t:bo)(x:Int):(bz t).set 11 (.int .i64 x)=bz {t with why:=x }:=rfl
theorem Ck(t:bo)(x:Int):(bz t).set 12 (.int .u64 x)=bz {t with value:=x }:=rfl
theorem GN(t:bo)(x:Bool):(bz t).set 13 (.bool x)=bz {t with bq:=x }:=rfl
theorem zy(t:bo)(x:Int):(bz t).set 14 (.int .i64 x)=bz {t with av:=x }:=rfl
theorem Jd(t:bo)(x:Int):(bz t).set 15 (.int .i64 x)=bz {t with op:=x }:=rfl
theorem se(t:bo)(x:Int):(bz t).set 16 (.int .i64 x)=bz {t with into:=x }:=rfl
theorem jF{t:bo}{i x:Int}:(t.put i x).aq.length=t.aq.length:=by unfold bo.put;simp
section
variable{fv sv pv:Value}{p:eZ}{bt:Nat}{ps:List (Option Nat)}{vm:Value}{bg:Nat}{vt:Value}{bk bw:Nat}{vr u:Value}
theorem ox:(fM fv sv pv p bt ps vm bg vt bk bw vr).set 30 u=fM fv sv pv p bt ps vm bg vt bk bw u:=rfl
theorem vT:(fM fv sv pv p bt ps vm bg vt bk bw vr).set 25 u=fM fv sv pv p bt ps u bg vt bk bw vr:=rfl
end
structure gR(t:bo):Prop where
 l:t.aq.length=8
 r:∀ n,0≤t.aq.getD n 0∧t.aq.getD n 0≤18446744073709551615
 i : -1≤t.into∧t.into<8
 v:0≤t.value∧t.value≤18446744073709551615
 h:0≤t.handle∧t.handle≤18446744073709551615
theorem cW{s:Spc}{n:Nat}{t:bo}(h:s.thr[n]?=some (some t)):s.t n=t:=by unfold Spc.t;rw[List.getD_eq_getElem?_getD,h];rfl
theorem ck{d:Dng}{t:bo}(h:d.s.thr[d.n]?=some (some t)):d.t=t:=cW h
def zz(ps:List (Option Nat))(n:Int):Option Nat:=if 0≤n∧n<16 then ps.getD n.toNat none else none
theorem AZ{t:bo}{y:Int}(t1:bo)(h:t1=if t.into = -1 then t else t.put t.into y):t.cV y = {t1.put 7 0 with why:=0,into := -1 }:=by unfold bo.cV;rw[h]
section
variable{P:Program}{W:World}{N:Nat}{T:TypeId}{L:List (Nat×Option Value)}{H:List aa}{α:Type}
theorem af.Eo{E:TypeId}{x y:Operand}{pos:String}{after:Array Edge}{guard:Option (Nat×Bool)}{b o:Nat}{v:Value}{vs cs:List Value}{H':List aa}{enc:α→List Value}{k:Nat}{xs:List α}(hz:∀ w,(sizeOf E).run P w = .ok (vs.length+1) w)(hx:ev L x=some (.pointer (some ⟨b,o,none⟩)))(hy:ev L y=some (.agg (v::vs).toArray))[hv:aI W H v enc k xs](hvs:vs.all (·.oneCell')=true)
  [_h0:aX H b o cs] [hr:bM H b o cs (v::vs) H'] (hi:cs.length=vs.length+1) :
  af P W N ⟨none,.store E x y,T,pos,after,guard⟩ L H (fun L1 H1=>L1=L∧H1=H'):=fun a w ha hs Kp hK=>af.storeAll hx hy hz (fun c hc=>by
   rcases List.mem_cons.1 hc with rfl | hc
   ·exact hv.rd.one w hs
   ·exact List.all_eq_true.1 hvs c hc) hr.m3 hi a w ha hs Kp hK
end
end Go.SLYtefdijgllbkmfaaGreat
namespace Go.SLYtefdijgllbkmfaaGreat
open Go Go.RowKit
def bZ(ps:List (Option Nat))(s:Spc)(n:Nat):Prop:=n<16∧ ∃ q t,ps[n]?=some (some q)∧s.thr[n]?=some (some t)∧gR t
theorem Cl{b p:Nat}{d:Dng}{vw ve:Value}:(eA b p d vw ve).set 11 (.bool true)=eA b p d.ended vw ve:=rfl
theorem GO{b p:Nat}{d:Dng}{vw ve:Value}:(eA b p d vw ve).set 12 (.bool true)=eA b p {d with out:={d.out with yielded:=true } } vw ve:=rfl
theorem cr{s:Spc}{n m:Nat}{t t':bo}(h:s.thr[m]?=some (some t))(hne:n≠m):(s.aj n t').thr[m]?=some (some t):=by
 unfold Spc.aj;simp only;rw[List.getElem?_set_ne hne];exact h
theorem bW{s:Spc}{n:Nat}{t t':bo}(h:s.thr[n]?=some (some t)):(s.aj n t').thr[n]?=some (some t'):=by
 unfold Spc.aj;simp only;exact List.getElem?_set_self (List.getElem?_eq_some_iff.1 h).1
theorem Ep{d:Dng}{n:Nat}{y:Int}{m:Nat}{t:bo}(h:d.s.thr[m]?=some (some t))(hne:n≠m):(d.dZ n y).s.thr[m]?=some (some t):=cr h hne
theorem vU{d:Dng}{t:bo}{v:Int}(ht:d.s.thr[d.n]?=some (some t))(h:t.bq=true):d.fin v=d.ended.free d.n:=by
 unfold Dng.fin;rw[ck ht,if_pos h]
theorem sf{d:Dng}{t:bo}{v:Int}(ht:d.s.thr[d.n]?=some (some t))(h:t.bq=false)(hj:t.av = -1):d.fin v=d.ended.aj {t with why:=9,value:=v }:=by
 unfold Dng.fin;rw[ck ht,if_neg (by rw[h];simp),if_pos hj]
theorem si{d:Dng}{t:bo}{v:Int}(ht:d.s.thr[d.n]?=some (some t))(h:t.bq=false)(hj:¬t.av = -1):d.fin v=(d.ended.dZ t.av.toNat v).free d.n:=by
 unfold Dng.fin;rw[ck ht,if_neg (by rw[h];simp),if_neg hj]
theorem sj{t:bo}{f:iG}:setFrom (bz t) 0 (iJ f)=bz (t.lR f):=rfl
theorem kV{f:iG}{m:List Int}{i:Ins}{z:iG×List Int}(h:hY f m i=some z):gd f m i=(z.1,z.2,0):=by unfold gd;rw[h]
theorem sk{f:iG}{m:List Int}{i:Ins}(h:hY f m i=none):gd f m i=(iG.z,[],6):=by unfold gd;rw[h]
theorem nm{f:iG}{m:List Int}{i:Ins}(h:(gd f m i).2.2=0):∃ z,hY f m i=some z:=by
 unfold gd at h
 cases e:hY f m i with
 | none=>rw[e] at h;cases h
 | some z=>exact⟨z,rfl⟩
theorem pM{f:iG}{m:List Int}{i:Ins}(h:¬(gd f m i).2.2=0):hY f m i=none:=by
 cases e:hY f m i with
 | none=>rfl
 | some z=>rw[kV e] at h;exact absurd rfl h
theorem Er{f:iG}{m:List Int}{i:Ins}(h:hY f m i=none):i.op=18∨i.op=19:=by
 unfold hY at h
 repeat' split at h
 all_goals first | (cases h;done) | omega
theorem Es{f:iG}{m:List Int}{i:Ins}{z:iG×List Int}(h:hY f m i=some z)(ho:i.op=18):f.eX i.b<m.length:=by
 unfold hY at h
 rw[if_neg (by omega),if_neg (by omega),if_neg (by omega),if_pos ho] at h
 split at h
 ·assumption
 ·cases h
def Dng.told(d:Dng):Dng:=if d.i.op=18 then d.tell d.b (d.s.mem.getD d.b.toNat 0) 0 true else if d.i.op=19 then d.tell d.a d.b 0 true else d
theorem jG{d:Dng}{t:bo}{z:iG×List Int}(ht:d.s.thr[d.n]?=some (some t))(h:hY t.hZ d.s.mem d.i=some z):d.plain = {d.told with s:={d.told.s.aj d.n (t.lR z.1) with mem:=z.2 } }:=by
 unfold Dng.plain;rw[ck ht,h];rfl
theorem lX{d:Dng}{t:bo}(ht:d.s.thr[d.n]?=some (some t))(h:hY t.hZ d.s.mem d.i=none):d.plain=(if d.i.op=18 then d.tell d.b 0 6 true else d.tell d.a d.b 6 true).fin 18446744073709551615:=by
 unfold Dng.plain;rw[ck ht,h]
theorem oy{d:Dng}{h:Int}(e:bm d.s.table h=none):d.other h=(0,3):=by unfold Dng.other;rw[e]
theorem jd{d:Dng}{h:Int}{n:Nat}{t:bo}(e:bm d.s.table h=some n)(ht:d.s.thr[n]?=some (some t))(hn:n=d.n∨t.bq=true):d.other h=(0,3):=by unfold Dng.other;rw[e];simp only;rw[cW ht,if_pos hn]
theorem oz{d:Dng}{h:Int}{n:Nat}{t:bo}(e:bm d.s.table h=some n)(ht:d.s.thr[n]?=some (some t))(hn:¬(n=d.n∨t.bq=true))(hj:t.av = -1):d.other h=(n,0):=by unfold Dng.other;rw[e];simp only;rw[cW ht,if_neg hn,if_pos hj]
theorem kW{d:Dng}{h:Int}{n:Nat}{t:bo}(e:bm d.s.table h=some n)(ht:d.s.thr[n]?=some (some t))(hn:¬(n=d.n∨t.bq=true))(hj:¬t.av = -1):d.other h=(0,4):=by unfold Dng.other;rw[e];simp only;rw[cW ht,if_neg hn,if_neg hj]
section
variable{P:Program}{W:World}{N:Nat}{Q:Exit→Act→World→Prop}{O:Array Oper}{L:List (Nat×Option Value)}{H K:List aa}
theorem bQ.KG{ks rest:List Nat}{i:Nat}{E T:TypeId}{x y:Operand}{pos:String}{after:Array Edge}{b o:Nat}{vs cs:List Value}{H':List aa}(ho:O[i]?=some ⟨none,.store E x y,T,pos,after,none⟩)(hk:ks.getD i 1=2)
  (hz:∀ w,(sizeOf E).run P w = .ok vs.length w) (hx:ev L x=some (.pointer (some ⟨b,o,none⟩))) (hy:ev L y=some (.agg vs.toArray)) (hv:vs.all (·.oneCell')=true) [_h0:aX H b o cs] [hr:bM H b o cs vs H'] (hi:cs.length=vs.length)
  (hK:∀ w,Sat W w (seps H)→Sat W w (seps K)) (hK':∀ w,Sat W w (seps H')→Sat W w (seps K)) (h:bQ P W N K O Q ks rest L H'):bQ P W N K O Q ks (i::rest) L H :=
 bQ.d (X:=Unit) (Lx:=fun _=>L) (Hx:=fun _=>H') ho rfl (.inl hk) (fun _=>hK) (fun E=>(by
  intro a w ha hs Kp hK
  exact af.storeAll hx hy hz (List.all_eq_true.1 hv) (gG.app E hr.m3) hi a w ha hs Kp (fun L1 H1 ⟨e1,e2⟩=>hK L1 H1 ⟨(),e1,e2⟩))) (fun _ _=>hK') (fun _=>h)
end
end Go.SLYtefdijgllbkmfaaGreat
namespace Go.SLYtefdijgllbkmfaaGreat
open Go Go.RowKit
theorem lY{α:Type}{f:α→aa}{xs:List α}{i:Nat}{x:α}(h:xs[i]?=some x):∀ g,aT f xs g→seps [f x,aT f (xs.eraseIdx i)] g:=fun g a=>by rw[iV f h] at a;exact gX.2 a
theorem vV{v:Value}{l:List Tub}{xs:List (Nat×Tub)}{i:Nat}{x:Nat×Tub}(hx:xs[i]?=some x)(hxs:xs.map (·.2)=l)(u:Tub):∀ h,seps [sl df 1 v xs,il x.1 u,aT (fun x:Nat×Tub=>il x.1 x.2) (xs.eraseIdx i)] h→nR v (l.set i u) h:=fun h a=>by
 refine⟨xs.set i (x.1,u),by show(xs.set i (x.1,u)).map (·.2)=_;rw[List.map_set,hxs],?_⟩
 have hi:=(List.getElem?_eq_some_iff.1 hx).1
 rw[gX,iW _ _ hi]
 exact aS (fun g b=>lS (x':=(x.1,u)) hi rfl g (rX hx g b)) (fun g b=>gX.1 b) h a
theorem bZ.aj{ps:List (Option Nat)}{s:Spc}{n m:Nat}{t:bo}(h:bZ ps s m)(ht:gR t):bZ ps (s.aj n t) m:=by
 obtain⟨hm,q,u,hq,hu,hR⟩:=h
 rcases Decidable.em (n=m) with rfl | hne
 ·exact⟨hm,q,t,hq,bW hu,ht⟩
 ·exact⟨hm,q,u,hq,cr hu hne,hR⟩
theorem bZ.of{ps:List (Option Nat)}{s s':Spc}{m:Nat}(h:bZ ps s m)(e:s'.thr=s.thr):bZ ps s' m:=by
 obtain⟨hm,q,u,hq,hu,hR⟩:=h
 exact⟨hm,q,u,hq,by rw[e];exact hu,hR⟩
theorem oA{l:List Int}{i n:Nat}{x:Int}(hx:0≤x∧x≤18446744073709551615)(h:∀ n,0≤l.getD n 0∧l.getD n 0≤18446744073709551615):0≤(l.set i x).getD n 0∧(l.set i x).getD n 0≤18446744073709551615:=by
 have hn:=h n
 rw[List.getD_eq_getElem?_getD] at hn ⊢
 rw[List.getElem?_set]
 split
 ·split
  ·exact hx
  ·exact⟨Int.le_refl _,by decide⟩
 ·exact hn
theorem gR.put{t:bo}(h:gR t){i x:Int}(hx:0≤x∧x≤18446744073709551615):gR (t.put i x):=⟨by rw[jF];exact h.l,fun n=>oA hx h.r,h.i,h.v,h.h⟩
theorem gR.with{t:bo}(h:gR t){a b c:Int}(hc : -1≤c∧c<8):gR {t with why:=a,op:=b,into:=c }:=⟨h.l,h.r,hc,h.v,h.h⟩
def Gates.has(g:Gates)(w:Int):Prop:=(∃ x∈g.aF, ∃ y∈x.wait,y.who=w)∨(∃ r∈g.bn, ∃ y∈r,y.who=w)∨(∃ x∈g.cf, ∃ y∈x.wait,y.who=w)
structure iD(ps:List (Option Nat))(d:Dng)(t:bo):Prop where
 nb:d.n<16
 R:gR t
 lt:d.s.thr.length=16
 lp:ps.length=16
 T:iX d.s.table
 slot:∀ h m,bm d.s.table h=some m→bZ ps d.s m
 free:∀ n,slotFree? d.s.table 0=some n→d.s.thr[n]?=some none
 join:¬t.av = -1→0≤t.av∧t.av.toNat≠d.n∧bZ ps d.s t.av.toNat
 I:jb d.i
 nn:d.i.n≤1099511627776
 au:d.s.au.length≤900000000
 ends:d.ends.length≤500000
 GP:d.out.aM.length≤500000
 mem:d.s.mem.length≤1000000
 gl:gM d.s.ag
 GQ:∀ x∈d.s.ag.cf,0≤x.count∧x.count≤1048576
 GR:∀ r∈d.s.ag.bn, ∀ w∈r,0≤w.mutex∧w.mutex<(d.s.ag.aF.length:Int)
 iH:∀ w,d.s.ag.has w→0≤w∧bZ ps d.s w.toNat
 GS:d.s.dK.aB≤(d.s.ag.aF.length:Int)
 zB:(∀ x∈d.s.ag.aF,x.wait.length≤400000)∧ ∀ r∈d.s.ag.bn,r.length≤400000
 oC:(d.i.op=35∨d.i.op=36)→d.i.n<(d.s.bA.length:Int)
 tl:∀ u∈d.s.bA,sb u
 xJ:∀ u∈d.s.bA,(∀ w∈u.bC,0≤w∧bZ ps d.s w.toNat)∧(∀ x∈u.bP,0≤x.who∧bZ ps d.s x.who.toNat)
 tw:∀ u∈d.s.bA, ∀ w∈u.words,0≤w∧w≤18446744073709551615
 dw:d.s.aO.wait.length≤1000000
 wn:0≤d.s.aA.now∧d.s.aA.now≤1099511627776
theorem so{ps:List (Option Nat)}{d:Dng}{h:Int}(hs:∀ n,bm d.s.table h=some n→bZ ps d.s n)(e:(d.other h).2=0) :
  ∃ m q u,bm d.s.table h=some m∧(d.other h).1=m∧m≠d.n∧m<16∧ps[m]?=some (some q)∧d.s.thr[m]?=some (some u)∧gR u∧u.bq=false∧u.av = -1:=by
 cases hf:bm d.s.table h with
 | none=>rw[oy hf] at e;cases e
 | some m =>
  obtain⟨hm,q,u,hq,hu,hR⟩:=hs m hf
  by_cases h1:m=d.n∨u.bq=true
  ·rw[jd hf hu h1] at e;cases e
  ·by_cases h2:u.av = -1
   ·exact⟨m,q,u,rfl,by rw[oz hf hu h1 h2],fun h=>h1 (.inl h),hm,hq,hu,hR,by cases hd:u.bq with | false=>rfl | true=>exact absurd (.inr hd) h1,h2⟩
   ·rw[kW hf hu h1 h2] at e;cases e
theorem km{d:Dng}{h:Int}:0≤(d.other h).2∧(d.other h).2≤11:=by
 unfold Dng.other
 repeat' split
 all_goals (dsimp only;omega)
theorem Et{d:jC}{r:pE}:0≤(d.ask r).1∧(d.ask r).1≤11:=by
 unfold jC.ask
 repeat' split
 all_goals (dsimp only;omega)
theorem A0{g:Gates}{w m:Int}:0≤(g.lock w m).2.1∧(g.lock w m).2.1≤11:=by
 unfold Gates.lock
 repeat' split
 all_goals (dsimp only;omega)
theorem pN{g:Gates}{w m c:Int}:0≤(g.unlock w m c).2.2.1∧(g.unlock w m c).2.2.1≤11:=by
 unfold Gates.unlock
 repeat' split
 all_goals (dsimp only;omega)
theorem A1{g:Gates}{w c m ch:Int}:0≤(g.wait w c m ch).2.2.1∧(g.wait w c m ch).2.2.1≤11:=by
 unfold Gates.wait
 repeat' split
 all_goals (dsimp only;omega)
theorem Eu{g:Gates}{s c:Int}:0≤(g.up s c).2.2.1∧(g.up s c).2.2.1≤11:=by
 unfold Gates.up
 repeat' split
 all_goals (dsimp only;omega)
theorem A2{g:Gates}{w s:Int}:0≤(g.down w s).2.1∧(g.down w s).2.1≤11:=by
 unfold Gates.down
 repeat' split
 all_goals (dsimp only;omega)
theorem gY{g:Gates}{c ch:Int}{a:Bool}:0≤(g.signal c ch a).2.1∧(g.signal c ch a).2.1≤11:=by
 unfold Gates.signal
 repeat' split
 all_goals (dsimp only;omega)
theorem pO{l:List dh}{c:Int}(h:(aJ l c).2.1=true):(aJ l c).1∈l:=by
 by_cases h0:l.length=0
 ·rw[vN h0] at h;cases h
 ·exact(kk h0).1
theorem sq{g:Gates}{w m c:Int}(h:(g.unlock w m c).2.1=true):g.has (g.unlock w m c).1:=by
 unfold Gates.unlock at h ⊢
 split
 ·rename_i e;rw[e] at h;cases h
 ·rename_i x e
  rw[e] at h;simp only at h ⊢
  split
  ·rename_i hi;rw[if_pos hi] at h
   exact .inl ⟨x,List.mem_of_getElem? (fN e).2.2,_,pO h,rfl⟩
  ·rename_i hi;rw[if_neg hi] at h;cases h
theorem xI{g:Gates}{w c m ch:Int}(h:(g.wait w c m ch).2.1=true):g.has (g.wait w c m ch).1:=by
 unfold Gates.wait at h ⊢
 split
 ·rename_i x r e1 e2
  rw[e1,e2] at h;simp only at h ⊢
  repeat' split at h
  all_goals first | (cases h;done) | skip
  rename_i h1 h2
  rw[if_neg h1,if_pos h2]
  exact .inl ⟨x,List.mem_of_getElem? (fN e1).2.2,_,pO h,rfl⟩
 ·rename_i hn
  split at h
  ·rename_i x r e1 e2;exact absurd e2 (hn x r e1)
  ·cases h
theorem Ew{g:Gates}{s c:Int}(h:(g.up s c).2.1=true):g.has (g.up s c).1:=by
 unfold Gates.up at h ⊢
 split
 ·rename_i e;rw[e] at h;cases h
 ·rename_i x e
  rw[e] at h;simp only at h ⊢
  split
  ·rename_i hi
   exact .inr (.inr ⟨x,List.mem_of_getElem? (fN e).2.2,_,pO hi,rfl⟩)
  ·rename_i hi;rw[if_neg hi] at h
   split at h <;> cases h
end Go.SLYtefdijgllbkmfaaGreat
namespace Go.SLYtefdijgllbkmfaaGreat
open Go Go.RowKit
theorem bZ.pass{ps:List (Option Nat)}{d:Dng}{t:bo}{m:Nat}{x y e:Int}(h:bZ ps d.s m)(ht:d.s.thr[d.n]?=some (some t))(hR:gR t)(he:0≤e∧e≤11):bZ ps (d.pass x y e).s m:=by
 have:bZ ps (d.tell x y e true).s m:=h.of rfl
 have h2:=this.aj (n:=d.n) (hR.put (i:=7) (x:=e) (by omega))
 unfold Dng.pass;rw[ck ht];exact h2
theorem bZ.block{ps:List (Option Nat)}{d:Dng}{t:bo}{m:Nat}{w i x y:Int}(h:bZ ps d.s m)(ht:d.s.thr[d.n]?=some (some t))(hR:gR t)(hi : -1≤i∧i<8):bZ ps (d.block w i x y).s m:=by
 have:bZ ps (d.tell x y 0 false).s m:=h.of rfl
 have h2:=this.aj (n:=d.n) (hR.with (a:=w) (b:=d.i.op) hi)
 unfold Dng.block;rw[ck ht];exact h2
theorem Je{c:Int}(h:0≤c∧c<8):gU c=c:=by unfold gU;omega
theorem Ex{u:Tub}{who x:Int}(h:(u.put who x).2.2.1=true):(u.put who x).2.1∈u.bC:=by
 cases hw:u.waits who with
 | true=>rw[ug hw] at h;cases h
 | false =>
  cases hg:u.bC with
  | cons w r=>rw[ou hw hg];exact List.mem_cons_self
  | nil =>
   by_cases hr:(u.words.length:Int)<u.room
   ·rw[lV hw hg hr] at h;cases h
   ·rw[lW hw hg hr] at h;cases h
theorem Ey{u:Tub}{who:Int}(h:(u.get who).2.2.2.1=true):∃ x∈u.bP,x.who=(u.get who).2.2.1:=by
 cases hw:u.waits who with
 | true=>rw[pL hw] at h;cases h
 | false =>
  cases hg:u.words with
  | nil=>rw[get_none hw hg] at h;cases h
  | cons w r =>
   cases hp:u.bP with
   | nil=>rw[my hw hg hp] at h;cases h
   | cons q r2=>rw[mz hw hg hp];exact⟨q,List.mem_cons_self,rfl⟩
theorem Ez{u:Tub}{who:Int}(h:∀ w∈u.words,0≤w∧w≤18446744073709551615):0≤(u.get who).1∧(u.get who).1≤18446744073709551615:=by
 have h0:(0:Int)≤0∧(0:Int)≤18446744073709551615:=by decide
 cases hw:u.waits who with
 | true=>rw[pL hw];exact h0
 | false =>
  cases hg:u.words with
  | nil=>rw[get_none hw hg];exact h0
  | cons w r =>
   have:=h w (by rw[hg];exact List.mem_cons_self)
   cases hp:u.bP with
   | nil=>rw[my hw hg hp];exact this
   | cons q r2=>rw[mz hw hg hp];exact this
theorem A3{d:Dng}{xs:List (Nat×Tub)}(hxs:xs.map (·.2)=d.s.bA)(h0:0≤d.i.n)(h:d.i.n<(d.s.bA.length:Int)):∃ q,xs[d.i.n.toNat]?=some (q,d.bc)∧d.bc∈d.s.bA:=by
 have hl:xs.length=d.s.bA.length:=by rw[← hxs,List.length_map]
 obtain⟨⟨q,u⟩,hx⟩:=ay (show d.i.n.toNat<xs.length by omega)
 have hu:=nZ hxs hx
 have:d.bc=u:=by unfold Dng.bc;rw[List.getD_eq_getElem?_getD,hu];rfl
 exact⟨q,by rw[this];exact hx,by rw[this];exact List.mem_of_getElem? hu⟩
theorem pP{s:Spc}{f arg:Int}{n:Nat}(h:slotFree? s.table 0=some n)(hl:n<s.thr.length):∃ t,(s.begin f arg).2.2.thr[n]?=some (some t)∧t=mP f arg (dq ((s.table.getD n (false,0)).2+1) n):=by
 rw[dX h]
 exact⟨_,List.getElem?_set_self hl,rfl⟩
end Go.SLYtefdijgllbkmfaaGreat
namespace Go.SLYtefdijgllbkmfaaGreat
open Go Go.RowKit
theorem zA(s:Spc)(a b:List Int):bY s (a++b)=bY (bY s a) b:=by
 induction a generalizing s with
 | nil=>rfl
 | cons x l ih=>exact ih _
theorem vX(s:Spc)(a:List Int):(bY s a).ag=s.ag:=by
 induction a generalizing s with
 | nil=>rfl
 | cons x l ih=>exact(ih _).trans rfl
theorem sr{ps:List (Option Nat)}{s:Spc}(m:Nat)(a:List Int)(h:bZ ps s m):bZ ps (bY s a) m:=by
 induction a generalizing s with
 | nil=>exact h
 | cons x l ih =>
  refine ih ?_
  by_cases hx:∃ t,s.thr[x.toNat]?=some (some t)
  ·obtain⟨t,ht⟩:=hx
   rw[show s.t x.toNat=t from cW ht]
   obtain⟨hm,q,u,hq,hu,hR⟩:=h
   rcases Decidable.em (x.toNat=m) with e | hne
   ·subst e
    rw[ht] at hu;cases hu
    exact⟨hm,q,_,hq,bW ht,⟨hR.l,hR.r,hR.i,hR.v,hR.h⟩⟩
   ·exact⟨hm,q,u,hq,cr hu hne,hR⟩
  ·obtain⟨hm,q,u,hq,hu,hR⟩:=h
   exact⟨hm,q,u,hq,cr hu (fun e=>hx ⟨u,by rw[e];exact hu⟩),hR⟩
theorem gR.cV{t:bo}(h:gR t){y:Int}(hy:0≤y∧y≤18446744073709551615):gR (t.cV y):=by
 have h1:gR (if t.into = -1 then t else t.put t.into y):=by split;exact h;exact h.put hy
 have h2:=h1.put (i:=7) (x:=0) (by decide)
 exact⟨h2.l,h2.r,by show(-1:Int)≤ -1∧(-1:Int)<8;decide,h2.v,h2.h⟩
theorem vY(d:Dng)(a:List Int)(n:Int):d.dE (a++[n])=(d.dE a).dZ n.toNat 0:=by
 induction a generalizing d with
 | nil=>rfl
 | cons x l ih=>exact ih _
theorem qC(d:Dng)(a:List Int):(d.dE a).ends.length=d.ends.length+a.length∧(d.dE a).out.aM.length=d.out.aM.length+a.length:=by
 induction a generalizing d with
 | nil=>exact⟨rfl,rfl⟩
 | cons x l ih =>
  have:=ih (d.dZ x.toNat 0)
  simp only[Dng.dZ,List.length_append,List.length_cons,List.length_nil] at this
  show(Dng.dE (d.dZ x.toNat 0) l).ends.length=_∧(Dng.dE (d.dZ x.toNat 0) l).out.aM.length=_
  rw[List.length_cons]
  exact⟨by have:=this.1;simp only[Dng.dZ] at this ⊢;omega,by have:=this.2;simp only[Dng.dZ] at this ⊢;omega⟩
theorem uh{ps:List (Option Nat)}{d:Dng}{m n:Nat}(h:bZ ps d.s m)(hn:bZ ps d.s n):bZ ps (d.dZ n 0).s m:=by
 obtain⟨hn16,q,u,hq,hu,hR⟩:=hn
 have:=h.aj (n:=n) (hR.cV (y:=0) (by decide))
 unfold Dng.dZ Spc.dn
 simp only
 rw[cW hu];exact this
theorem vZ{ps:List (Option Nat)}(m:Nat)(a:List Int):∀ (d:Dng),bZ ps d.s m→(∀ w∈a,bZ ps d.s w.toNat)→bZ ps (d.dE a).s m:=by
 induction a with
 | nil=>intro d h _;exact h
 | cons x l ih =>
  intro d h ha
  have hx:=ha x List.mem_cons_self
  exact ih _ (uh h hx) (fun w hw=>uh (ha w (List.mem_cons_of_mem _ hw)) hx)
def eM(d:Dng)(k:Nat):List Int:=(d.s.ag.aF.take k).flatMap fun m=>m.wait.map (·.who)
theorem v8{d:Dng}{k:Nat}{x:dB}(h:d.s.ag.aF[k]?=some x):eM d (k+1)=eM d k++x.wait.map (·.who):=by
 unfold eM
 rw[cy h,List.flatMap_append];simp
theorem A4:∀ (n:Nat) (c:Int) (r:List dh) (ms:List dB) (out:List Int),n≤r.length→ ∀ w∈(sigLoop n c r ms out).2.2,w∈out∨ ∃ y∈r,y.who=w
 | 0,_,_,_,_,_,_,h=>.inl h
 | n+1,c,r,ms,out,hn,w,h=>by
  unfold sigLoop at h
  simp only at h
  obtain⟨h1,h2,h3⟩:=kk (l:=r) (c:=c) (by omega)
  rcases A4 n c _ _ _ (by omega) w h with h | ⟨y,hy,e⟩
  ·split at h
   ·rcases List.mem_append.1 h with h | h
    ·exact .inl h
    ·rw[List.mem_singleton] at h;exact .inr ⟨_,h1,h.symm⟩
   ·exact .inl h
  ·exact .inr ⟨y,h3 y hy,e⟩
theorem A5:∀ (n:Nat) (c:Int) (r:List dh) (ms:List dB) (out:List Int),(sigLoop n c r ms out).2.2.length≤out.length+n
 | 0,_,_,_,_=>by simp[sigLoop]
 | n+1,c,r,ms,out=>by
  unfold sigLoop
  simp only
  refine Nat.le_trans (A5 n c _ _ _) ?_
  split
  ·rw[List.length_append];simp;omega
  ·omega
theorem kX{g:Gates}{c ch:Int}{all:Bool}:∀ w∈(g.signal c ch all).1,g.has w:=fun w h=>by
 unfold Gates.signal at h
 split at h
 ·cases h
 ·rename_i r e
  rcases A4 _ _ _ _ _ (by split <;> omega) w h with h | ⟨y,hy,e2⟩
  ·cases h
  ·exact .inr (.inl ⟨r,List.mem_of_getElem? (fN e).2.2,y,hy,e2⟩)
theorem np{g:Gates}{c ch:Int}{all:Bool}(hg:∀ r∈g.bn,r.length≤400000):(g.signal c ch all).1.length≤400000:=by
 unfold Gates.signal
 split
 ·simp
 ·rename_i r e
  have:=hg r (List.mem_of_getElem? (fN e).2.2)
  refine Nat.le_trans (A5 _ _ _ _ _) ?_
  simp only[List.length_nil]
  split <;> omega
theorem oB:∀ (n:Nat) (c:Int) (r:List dh) (ms:List dB) (out:List Int),(sigLoop n c r ms out).2.1.length=ms.length
 | 0,_,_,_,_=>rfl
 | n+1,c,r,ms,out=>by unfold sigLoop;simp only;rw[oB n,List.length_set]
theorem jH{g:Gates}{c ch:Int}{all:Bool}:(g.signal c ch all).2.2.aF.length=g.aF.length:=by
 unfold Gates.signal
 split
 ·rfl
 ·exact oB _ _ _ _ _
theorem ui:∀ (n:Nat) (c:Int) (r:List dh) (ms:List dB) (out:List Int) (N:Nat),n≤r.length→(∀ x∈ms,x.wait.length≤N)→ ∀ x∈(sigLoop n c r ms out).2.1,x.wait.length≤N+n∧ ∀ y∈x.wait,(∃ x'∈ms,y∈x'.wait)∨ ∃ z∈r,z.who=y.who
 | 0,_,_,_,_,_,_,hN,x,h=>⟨hN x h,fun y hy=>.inl ⟨x,h,hy⟩⟩
 | n+1,c,r,ms,out,N,hn,hN,x,h=>by
  unfold sigLoop at h
  simp only at h
  obtain⟨h1,h2,h3⟩:=kk (l:=r) (c:=c) (by omega)
  have hl:∀ x∈ms.set (aJ r c).1.mutex.toNat ((ms.getD (aJ r c).1.mutex.toNat ⟨[],false,0⟩).lock (aJ r c).1.who).2,x.wait.length≤N+1∧ ∀ y∈x.wait,(∃ x'∈ms,y∈x'.wait)∨y.who=(aJ r c).1.who:=by
   intro x hx
   rcases List.mem_or_eq_of_mem_set hx with hx | rfl
   ·exact⟨by have:=hN x hx;omega,fun y hy=>.inl ⟨x,hx,hy⟩⟩
   ·have hg:∀ (z:dB),(z∈ms∨z=⟨[],false,0⟩)→(z.lock (aJ r c).1.who).2.wait.length≤N+1∧ ∀ y∈(z.lock (aJ r c).1.who).2.wait,(∃ x'∈ms,y∈x'.wait)∨y.who=(aJ r c).1.who:=by
     intro z hz
     have hzl:z.wait.length≤N:=by
      rcases hz with hz | rfl
      ·exact hN z hz
      ·exact Nat.zero_le _
     unfold dB.lock
     split
     ·refine⟨by rw[List.length_append];simp;omega,fun y hy=>?_⟩
      rcases List.mem_append.1 hy with hy | hy
      ·rcases hz with hz | rfl
       ·exact .inl ⟨z,hz,hy⟩
       ·cases hy
      ·rw[List.mem_singleton] at hy;exact .inr (by rw[hy])
     ·refine⟨by show z.wait.length≤_;omega,fun y hy=>?_⟩
      rcases hz with hz | rfl
      ·exact .inl ⟨z,hz,hy⟩
      ·cases hy
    refine hg _ ?_
    rw[List.getD_eq_getElem?_getD]
    cases e:ms[(aJ r c).1.mutex.toNat]? with
    | none=>exact .inr rfl
    | some z=>exact .inl (List.mem_of_getElem? e)
  obtain⟨g1,g2⟩:=ui n c _ _ _ (N+1) (by omega) (fun x hx=>(hl x hx).1) x h
  refine⟨by omega,fun y hy=>?_⟩
  rcases g2 y hy with ⟨x',hx',hy'⟩ | ⟨z,hz,e⟩
  ·rcases(hl x' hx').2 y hy' with hh | hh
   ·exact .inl hh
   ·exact .inr ⟨_,h1,hh.symm⟩
  ·exact .inr ⟨z,h3 z hz,e⟩
theorem kY{g:Gates}{c ch:Int}{all:Bool}(h1:∀ x∈g.aF,x.wait.length≤400000)(h2:∀ r∈g.bn,r.length≤400000):∀ x∈(g.signal c ch all).2.2.aF,x.wait.length≤1000000∧ ∀ y∈x.wait,g.has y.who:=by
 intro x hx
 unfold Gates.signal at hx
 split at hx
 ·exact⟨Nat.le_trans (h1 x hx) (by decide),fun y hy=>.inl ⟨x,hx,y,hy,rfl⟩⟩
 ·rename_i r e
  have hr:=List.mem_of_getElem? (fN e).2.2
  have hrl:=h2 r hr
  obtain⟨a,b⟩:=ui _ _ _ _ _ 400000 (by split <;> omega) h1 x hx
  have hif:(if all=true then r.length else min r.length 1)≤r.length:=by split <;> omega
  refine⟨by omega,fun y hy=>?_⟩
  rcases b y hy with ⟨x',hx',hy'⟩ | ⟨z,hz,e2⟩
  ·exact .inl ⟨x',hx',y,hy',rfl⟩
  ·exact .inr (.inl ⟨r,hr,z,hz,e2⟩)
end Go.SLYtefdijgllbkmfaaGreat
namespace Go.SLYtefdijgllbkmfaaGreat
open Go Go.RowKit
structure fE(s:Spc):Prop where
 lt:s.thr.length=16
 T:iX s.table
 R:∀ (n:Nat) (t:bo),s.thr[n]?=some (some t)→gR t∧0≤t.pc∧t.pc≤257
 slot:∀ (h:Int) (m:Nat),bm s.table h=some m→ ∃ t,s.thr[m]?=some (some t)
 free:∀ n:Nat,slotFree? s.table 0=some n→s.thr[n]?=some none
 join:∀ (n:Nat) (t:bo),s.thr[n]?=some (some t)→t.why=0→¬t.av = -1→0≤t.av∧t.av.toNat≠n∧ ∃ u,s.thr[t.av.toNat]?=some (some u)
 au:s.au.length≤800000000
 mem:s.mem.length≤1000000
 gl:gM s.ag
 GQ:∀ x∈s.ag.cf,0≤x.count∧x.count≤1048576
 GR:∀ r∈s.ag.bn, ∀ w∈r,0≤w.mutex∧w.mutex<(s.ag.aF.length:Int)
 iH:∀ w,s.ag.has w→0≤w∧ ∃ u,s.thr[w.toNat]?=some (some u)
 GS:s.dK.aB≤(s.ag.aF.length:Int)
 zB:(∀ x∈s.ag.aF,x.wait.length≤400000)∧ ∀ r∈s.ag.bn,r.length≤400000
 code:∀ f∈s.dK.funcs, ∀ i∈f,jb i∧(cls i.op≠1→i.n≤1099511627776)∧(i.op=35∨i.op=36→i.n<(s.bA.length:Int))
 EC:s.dK.funcs.length≤1000000∧ ∀ f∈s.dK.funcs,f.length≤256
 tl:∀ u∈s.bA,sb u
 xJ:∀ u∈s.bA,(∀ w∈u.bC,0≤w∧ ∃ v,s.thr[w.toNat]?=some (some v))∧(∀ x∈u.bP,0≤x.who∧ ∃ v,s.thr[x.who.toNat]?=some (some v))
 tw:∀ u∈s.bA, ∀ w∈u.words,0≤w∧w≤18446744073709551615
 dw:s.aO.wait.length≤1000000
 db:∀ r∈s.aO.wait,0≤r.block∧r.block<(s.aO.blocks.length:Int)
 KH:∀ r∈s.aO.wait,0≤r.who∧ ∃ v,s.thr[r.who.toNat]?=some (some v)
 wn:0≤s.aA.now∧s.aA.now≤1099511627776
 wl:s.aA.dY.length≤1000000
 KI:∀ x∈s.aA.dY,0≤x.1∧ ∃ v,s.thr[x.1.toNat]?=some (some v)
theorem fE.live{s:Spc}(h:fE s){ps:List (Option Nat)}(hs:vI ps s.thr){m:Nat}{t:bo}(e:s.thr[m]?=some (some t)):bZ ps s m:=by
 obtain⟨q,hq⟩:=hs.2.1 m t e
 exact⟨h.lt ▸ (List.getElem?_eq_some_iff.1 e).1,q,t,hq,e,(h.R m t e).1⟩
theorem gR.hZ{t:bo}(h:gR t)(hp:0≤t.pc∧t.pc≤257):AS t.hZ:=⟨h.l,by show 0≤t.pc∧t.pc≤_;omega,h.r⟩
theorem fE.call{s:Spc}(h:fE s){ps:List (Option Nat)}(hs:vI ps s.thr){k:Nat}{t:bo}{i:Ins}{choice:Int}(ht:s.thr[k]?=some (some t))(hw:t.why=0)(hI:jb i)(hn:i.n≤1099511627776)(htub:i.op=35∨i.op=36→i.n<(s.bA.length:Int)) :
  iD ps ((s.dM k i choice).aj {t with pc:=t.pc+1 }) {t with pc:=t.pc+1 }:=by
 have hk16:k<16:=h.lt ▸ (List.getElem?_eq_some_iff.1 ht).1
 have hR:=(h.R k t ht).1
 have hR2:gR {t with pc:=t.pc+1 }:=⟨hR.l,hR.r,hR.i,hR.v,hR.h⟩
 have lv:∀ {m:Nat} {u:bo},s.thr[m]?=some (some u)→bZ ps (s.aj k {t with pc:=t.pc+1 }) m:=fun e=>(h.live hs e).aj hR2
 refine⟨hk16,hR2,?_,hs.1.trans h.lt,h.T,fun x m e=>?_,fun n e=>?_,fun hj=>?_,hI,hn,Nat.le_trans h.au (by decide),Nat.zero_le _,Nat.zero_le _,h.mem,h.gl,h.GQ,h.GR,fun w hw=>?_,h.GS,h.zB,htub,h.tl,fun u hu=>⟨fun w hw=>?_,fun x hx=>?_⟩,h.tw,h.dw,h.wn⟩
 ·show(s.thr.set k _).length=16
  rw[List.length_set];exact h.lt
 ·obtain⟨u,hu⟩:=h.slot x m e;exact lv hu
 ·have:=h.free n e
  show(s.thr.set k _)[n]?=_
  rw[List.getElem?_set_ne (fun e=>by rw[e,this] at ht;cases ht)];exact this
 ·obtain⟨a,b,u,hu⟩:=h.join k t ht hw hj
  exact⟨a,b,lv hu⟩
 ·obtain⟨a,u,hu⟩:=h.iH w hw;exact⟨a,lv hu⟩
 ·obtain⟨a,u,hu⟩:=(h.xJ u hu).1 w hw;exact⟨a,lv hu⟩
 ·obtain⟨a,u,hu⟩:=(h.xJ u hu).2 x hx;exact⟨a,lv hu⟩
theorem fE.Io{s:Spc}(h:fE s){ps:List (Option Nat)}(hs:vI ps s.thr){k:Nat}{t:bo}(ht:s.thr[k]?=some (some t))(hw:t.why=0):¬t.av = -1→0≤t.av∧t.av.toNat≠k∧bZ ps s t.av.toNat:=fun hj=>by
 obtain⟨a,b,u,hu⟩:=h.join k t ht hw hj
 exact⟨a,b,h.live hs hu⟩
theorem kn{s:Spc}(h:fE s){f:iG}{i:Ins}(e:eE s.dK f=some i):jb i∧(cls i.op≠1→i.n≤1099511627776)∧(i.op=35∨i.op=36→i.n<(s.bA.length:Int)):=by
 unfold eE at e
 split at e
 ·cases e
 ·have hi:=List.mem_of_getElem? e
  cases hf:s.dK.funcs[f.fn.toNat]? with
  | none=>rw[List.getD_eq_getElem?_getD,hf] at hi;cases hi
  | some g=>rw[List.getD_eq_getElem?_getD,hf] at hi;exact h.code g (List.mem_of_getElem? hf) i hi
theorem Ip{s:Spc}{ps:List (Option Nat)}(hs:vI ps s.thr){n:Int}(h:zz ps n=none)(hl:s.thr.length=16):s.at n=none:=by
 unfold zz at h
 unfold Spc.at cE
 split
 ·rfl
 ·rename_i h0
  by_cases hn:n<16
  ·rw[if_pos ⟨by omega,hn⟩] at h
   obtain⟨x,hx⟩:=ay (show n.toNat<s.thr.length by omega)
   rw[hx]
   cases x with
   | none=>rfl
   | some t=>obtain⟨q,hq⟩:=hs.2.1 _ t hx;rw[eL hq] at h;cases h
  ·rw[List.getElem?_eq_none (by omega)];rfl
theorem EA{s:Spc}{ps:List (Option Nat)}(hs:vI ps s.thr){n:Int}{p:Nat}(h:zz ps n=some p)(hl:s.thr.length=16):∃ k:Nat, ∃ t,n=(k:Int)∧k<16∧ps[k]?=some (some p)∧s.thr[k]?=some (some t)∧s.at n=some t:=by
 unfold zz at h
 split at h
 ·rename_i h0
  have hp:ps[n.toNat]?=some (some p):=by
   rw[List.getD_eq_getElem?_getD] at h
   cases e:ps[n.toNat]? with
   | none=>rw[e] at h;cases h
   | some x=>rw[e] at h;simp only[Option.getD_some] at h;rw[h]
  obtain⟨x,hx⟩:=ay (show n.toNat<s.thr.length by omega)
  cases x with
  | none=>have:=hs.2.2 _ hx;rw[hp] at this;cases this
  | some t=>exact⟨n.toNat,t,by omega,by omega,hp,hx,by unfold Spc.at cE;rw[if_neg (by omega),hx];rfl⟩
 ·cases h
section
variable{P:Program}{W:World}
theorem Fn.LJ{f:FuncId}{args:List Value}{X X1:Type}{val:X→Value}{fact:X→Prop}{p:X1→Prop}{A:X1→List aa}(h:∀ x,p x→Fn P W f args [seps (A x)] X val fact (fun _=>[seps (A x)])):Fn P W f args [ij p A] X val fact (fun _=>[ij p A]):=fun F w hs=>by
 have h1:Sat W w (sep (ex fun x:{x // p x }=>seps (A x.1)) F):=hs.mono (aS (fun g b=>by
  obtain⟨x,hx,b⟩:ij p A g:=by simpa only[seps,aP] using b
  exact⟨⟨x,hx⟩,b⟩) (fun g b=>b))
 obtain⟨x,h2⟩:=h1.exists
 refine(h x.1 x.2 F w (by simpa only[seps,aP] using h2)).mono ?_
 rintro e w' ⟨y,e1,e2,s⟩
 exact⟨y,e1,e2,s.mono (aS (fun g b=>by
  have b':seps (A x.1) g:=by simpa only[seps,aP] using b
  show seps [ij p A] g
  simp only[seps,aP]
  exact⟨x.1,x.2,b'⟩) (fun g b=>b))⟩
end
theorem ss{s:Spc}{n c:Int}(h:s.at n=none):s.run n c=(iZ.z,1,s):=by unfold Spc.run;rw[h]
theorem su{s:Spc}{n c:Int}{t:bo}(h:s.at n=some t)(hw:t.why≠0):s.run n c=(iZ.z,4,s):=by unfold Spc.run;rw[h];simp only;rw[if_pos hw]
theorem wa{s:Spc}{k:Nat}{c:Int}{t:bo}(h:s.at (k:Int)=some t)(hw:¬t.why≠0)(hn:eE s.dK t.hZ=none){z:Dng}(hz:z=((s.dM k ⟨23,0,0,0,0⟩ c).tell 0 0 0 true).fin 0):s.run (k:Int) c=(z.finish.1,0,z.finish.2):=by
 unfold Spc.run;rw[h];simp only;rw[if_neg hw,hn];subst hz;rfl
theorem pQ{s:Spc}{k:Nat}{c:Int}{t:bo}{i:Ins}(h:s.at (k:Int)=some t)(hw:¬t.why≠0)(hn:eE s.dK t.hZ=some i)(hc:cls i.op=1){z:Dng}(hz:z=(s.dM k i c).plain):s.run (k:Int) c=(z.finish.1,0,z.finish.2):=by
 unfold Spc.run;rw[h];simp only;rw[if_neg hw,hn];simp only;rw[if_pos hc];subst hz;rfl
theorem sz{s:Spc}{k:Nat}{c:Int}{t:bo}{i:Ins}(h:s.at (k:Int)=some t)(hw:¬t.why≠0)(hn:eE s.dK t.hZ=some i)(hc:¬cls i.op=1){z:Dng}(hz:z=((s.dM k i c).aj {t with pc:=t.pc+1 }).call):s.run (k:Int) c=(z.finish.1,0,z.finish.2):=by
 unfold Spc.run;rw[h];simp only;rw[if_neg hw,hn];simp only;rw[if_neg hc];subst hz;rfl
theorem Jf(t:bo)(x:Int):(bz t).set 1 (.int .i64 x)=bz {t with pc:=x }:=rfl
def EB(fv sv pv:Value)(p:eZ):List Value:=[fv,.int .i64 p.words,.int .i64 p.aB,.int .i64 p.conds,sv,pv,.int .i64 p.blocks,.int .i64 p.prio]
end Go.SLYtefdijgllbkmfaaGreat
