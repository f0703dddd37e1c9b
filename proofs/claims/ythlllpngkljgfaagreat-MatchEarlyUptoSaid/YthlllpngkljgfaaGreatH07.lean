/- Walks of functions, and what they compute. Conditions: none, this text proves no statement. -/
import Derived.Test.YthlllpngkljgfaaGreatH06
import Derived.Test.YthlllpngkljgfaaGreatProg
import Derived.KernelRfl
set_option maxRecDepth 20000
set_option maxHeartbeats 4000000
namespace Go.SLYthlllpngkljgfaaGreat
open Go Go.RowKit
inductive FK:Nat→Prop where
 | mk (n:Nat):FK n
theorem FK.s{n:Nat}(_:FK (n+1)):FK n:=.mk n
structure Hid(G:Prop):Prop where
 go:G
inductive Mv{X:Type}:X→Prop where
 | mk (x:X):Mv x
section
variable{P:Program}{W:World}{N:Nat}{Q:Exit→Act→World→Prop}{L:List (Nat×Option Value)}{H:List aa}{O:Array Oper}{T:TypeId}{K:List aa}{ks:List Nat}{rest:List Oper}
theorem Y.y{op:Op}{v:Value}(h:Y P W N op T L H v:=by first | exact .m rfl | exact .a rfl | exact .n rfl | exact .l rfl | exact .z rfl | exact .f rfl | exact .o rfl | exact .eql rfl rfl | exact .t rfl rfl | exact .u rfl rfl | exact .lr rfl ‹_› | exact .lA rfl | exact .len rfl | exact .lss rfl rfl | exact .extract rfl rfl | exact .Oo rfl rfl | exact .neq rfl rfl | exact .No rfl | exact .not rfl | exact .geq rfl rfl | exact .gtr rfl rfl | exact .leq rfl rfl | exact .NV rfl rfl | exact .lo rfl | exact .lz rfl | exact .lens rfl | exact .la rfl (Cells.rd Rd.s ‹_›) | exact .ix _ rfl rfl rfl (by first | omega | decide) | exact .inc rfl rfl (by omega) | exact .sub rfl rfl (by omega)):Y P W N op T L H v:=h
theorem aS.c{f:FuncId}{xs:Array Operand}{ts:Array TypeId}{pos:String}{after:Array Edge}{d:Nat}{args:List Value}{pre R:List aa}{X:Type}{val:X→Value}{fact:X→Prop}{post:X→List aa}
  (hc:∀ args w,(callFunc f args).run P w = .ok (.enter f args) w) (hx:evs L xs.toList=some args) (hfn:Fn P W f args pre X val fact post) (h:∀ x,fact x→aS P W N O Q rest ((d,some (val x))::L) (post x++R)) (ht:ax H pre R:=by exact ax.auto) (hN:Nat.blt d N=true:=by rfl):aS P W N O Q (⟨some d,.call ⟨.value (.func f),xs,ts⟩,T,pos,after,none⟩::rest) L H :=
 .aj rfl (af.eH hN hc hx hfn ht) fun _ _ e=>by obtain⟨y,hy,rfl,rfl⟩:=e;exact h y hy
theorem aS.cg{f:FuncId}{xs:Array Operand}{ts:Array TypeId}{pos:String}{after:Array Edge}{d j t:Nat}{want:Bool}{args:List Value}{pre R:List aa}{X:Type}{val:X→Value}{fact:X→Prop}{post:X→List aa}
  (hc:∀ args w,(callFunc f args).run P w = .ok (.enter f args) w) (hx:evs L xs.toList=some args) (hfn:Fn P W f args pre X val fact post) (h:∀ x,fact x→aS P W N O Q rest ((d,some (val x))::L) (post x++R)) (ht:ax H pre R:=by exact ax.auto) (hj:(O[j]?).bind (·.dst)=some t:=by rfl) (hb:look L t=some (.bool want):=by rfl) (hN:Nat.blt d N=true:=by rfl):aS P W N O Q (⟨some d,.call ⟨.value (.func f),xs,ts⟩,T,pos,after,some (j,want)⟩::rest) L H :=
 .dg rfl hj hb (af.eH hN hc hx hfn ht) fun _ _ e=>by obtain⟨y,hy,rfl,rfl⟩:=e;exact h y hy
theorem bc.c{f:FuncId}{xs:Array Operand}{ts:Array TypeId}{pos:String}{after:Array Edge}{d:Nat}{args:List Value}{pre R:List aa}{X:Type}{val:X→Value}{fact:X→Prop}{post:X→List aa}
  (hc:∀ args w,(callFunc f args).run P w = .ok (.enter f args) w) (hx:evs L xs.toList=some args) (hfn:Fn P W f args pre X val fact post) (h:∀ x,fact x→bc P W N K O Q ks rest ((d,some (val x))::L) (post x++R)) (ht:ax H pre R:=by exact ax.auto) (hN:Nat.blt d N=true:=by rfl):bc P W N K O Q (3::ks) (⟨some d,.call ⟨.value (.func f),xs,ts⟩,T,pos,after,none⟩::rest) L H :=
 .d3 rfl (af.eH hN hc hx hfn ht) fun _ _ e=>by obtain⟨y,hy,rfl,rfl⟩:=e;exact h y hy
theorem bc.c2{f:FuncId}{xs:Array Operand}{ts:Array TypeId}{pos:String}{after:Array Edge}{d:Nat}{args:List Value}{pre R:List aa}{X:Type}{val:X→Value}{fact:X→Prop}{post:X→List aa}
  (hc:∀ args w,(callFunc f args).run P w = .ok (.enter f args) w) (hx:evs L xs.toList=some args) (hfn:Fn P W f args pre X val fact post) (h:∀ x,fact x→bc P W N K O Q ks rest ((d,some (val x))::L) (post x++R)) (ht:ax H pre R:=by exact ax.auto) (hN:Nat.blt d N=true:=by rfl) (hK:∀ w,Sat W w (seps H)→Sat W w (seps K):=by exact Kept.auto) (hK2:∀ x,fact x→ ∀ w,Sat W w (seps (post x++R))→Sat W w (seps K):=by intro _ _;exact Kept.auto):bc P W N K O Q (2::ks) (⟨some d,.call ⟨.value (.func f),xs,ts⟩,T,pos,after,none⟩::rest) L H :=
 .d2 rfl hK (af.eH hN hc hx hfn ht) (fun _ _ e=>by obtain⟨y,hy,rfl,rfl⟩:=e;exact hK2 y hy) fun _ _ e=>by obtain⟨y,hy,rfl,rfl⟩:=e;exact h y hy
section
variable{fn:Func}{X:Type}{val:X→Value}{fact:X→Prop}{post:X→List aa}{F:aa}{R:List aa}{x:X}
theorem bx.w1{t:Nat}{v:Value}(_:Mv x)(hf:fact x:=by exact trivial)(hr:fn.results = #[.tmp t]:=by rfl)(ht:look L t=some v:=by rfl)(hv:v=val x:=by rfl)(he:ax H (post x++[F]) R:=by exact ax.auto):bx W N (bodyPost P fn (fun e w'=>∃ x,e = .returned (val x)∧fact x∧Sat W w' (sep (seps (post x)) F))) .ret L H :=
 .aG hr ht fun _ s=>⟨x,by rw[hv],hf,ai he s⟩
theorem bx.w2{t1 t2:Nat}{v1 v2:Value}(_:Mv x)(hf:fact x:=by exact trivial)(hr:fn.results = #[.tmp t1,.tmp t2]:=by rfl)(h1:look L t1=some v1:=by rfl)(h2:look L t2=some v2:=by rfl)(hv:Value.tuple #[v1,v2]=val x:=by rfl)(he:ax H (post x++[F]) R:=by exact ax.auto):bx W N (bodyPost P fn (fun e w'=>∃ x,e = .returned (val x)∧fact x∧Sat W w' (sep (seps (post x)) F))) .ret L H :=
 .ey hr h1 h2 fun _ s=>⟨x,by rw[hv],hf,ai he s⟩
theorem bx.w0(_:Mv x)(hf:fact x:=by exact trivial)(hr:fn.results = #[]:=by rfl)(hv:Value.tuple #[]=val x:=by rfl)(he:ax H (post x++[F]) R:=by exact ax.auto):bx W N (bodyPost P fn (fun e w'=>∃ x,e = .returned (val x)∧fact x∧Sat W w' (sep (seps (post x)) F))) .normal L H :=
 .DW hr fun _ s=>⟨x,by rw[hv],hf,ai he s⟩
theorem bx.wr(_:Mv x)(hf:fact x:=by exact trivial)(hr:fn.results = #[]:=by rfl)(hv:Value.tuple #[]=val x:=by rfl)(he:ax H (post x++[F]) R:=by exact ax.auto):bx W N (bodyPost P fn (fun e w'=>∃ x,e = .returned (val x)∧fact x∧Sat W w' (sep (seps (post x)) F))) .ret L H :=
 .K5 hr fun _ s=>⟨x,by rw[hv],hf,ai he s⟩
end
end
theorem J{G G':Prop}(n:Nat)(k:G')(f:FK n→Hid G'→G:=by intro c h;(repeat (replace c:=FK.s c;first | refine .p .y ?_ | refine .n ?_ | refine .s ?_ | refine .r ?_ | refine .b ?_ | refine .t ?_ | refine .e ?_ | refine .u ?_ | refine .g .y ?_ | refine .v ?_ | refine .br ?_ | refine .tr ?_ | refine .q .y ?_ | refine .w ?_ | refine .h .y ?_ | refine .x ?_ | refine .bh ?_ | refine .bp rfl ?_ | refine .tx ?_ | (refine .aj rfl (af.st iH.ok rfl rfl rfl rfl) ?_;rintro _ _ ⟨rfl,rfl⟩) | (refine .d3 rfl (af.st iH.ok rfl rfl rfl rfl) ?_;rintro _ _ ⟨rfl,rfl⟩) | (refine .d2 rfl Kept.auto (af.st iH.ok rfl rfl rfl rfl) (by rintro _ _ ⟨rfl,rfl⟩;exact Kept.auto) ?_;rintro _ _ ⟨rfl,rfl⟩) | (refine .aj rfl (af.iJ (by exact iH.ok) rfl rfl rfl (by rfl)) ?_;rintro _ _ ⟨rfl,rfl⟩)));exact h.go):G:=f (.mk n) ⟨k⟩
theorem JD{G p q G1 G2:Prop}(n:Nat)(k1:p→G1)(k2:q→G2)(f:FK n→Hid (p→G1)→Hid (q→G2)→G:=by intro c h1 h2;(repeat (replace c:=FK.s c;first | refine .p .y ?_ | refine .n ?_ | refine .s ?_ | refine .r ?_ | refine .b ?_ | refine .t ?_ | refine .e ?_ | refine .u ?_ | refine .g .y ?_ | refine .v ?_ | refine .br ?_ | refine .tr ?_ | refine .q .y ?_ | refine .w ?_ | refine .h .y ?_ | refine .x ?_ | refine .bh ?_ | refine .bp rfl ?_ | refine .tx ?_ | (refine .aj rfl (af.st iH.ok rfl rfl rfl rfl) ?_;rintro _ _ ⟨rfl,rfl⟩) | (refine .d3 rfl (af.st iH.ok rfl rfl rfl rfl) ?_;rintro _ _ ⟨rfl,rfl⟩) | (refine .d2 rfl Kept.auto (af.st iH.ok rfl rfl rfl rfl) (by rintro _ _ ⟨rfl,rfl⟩;exact Kept.auto) ?_;rintro _ _ ⟨rfl,rfl⟩) | (refine .aj rfl (af.iJ (by exact iH.ok) rfl rfl rfl (by rfl)) ?_;rintro _ _ ⟨rfl,rfl⟩)));first | exact .dX rfl h1.go h2.go | exact .cond rfl h1.go h2.go):G:=f (.mk n) ⟨k1⟩ ⟨k2⟩
theorem JR{G:Prop}{X:Type}(n:Nat)(x:X)(f:FK n→Mv x→G:=by intro c h;(repeat (replace c:=FK.s c;first | refine .p .y ?_ | refine .n ?_ | refine .s ?_ | refine .r ?_ | refine .b ?_ | refine .t ?_ | refine .e ?_ | refine .u ?_ | refine .g .y ?_ | refine .v ?_ | refine .br ?_ | refine .tr ?_ | refine .q .y ?_ | refine .w ?_ | refine .h .y ?_ | refine .x ?_ | refine .bh ?_ | refine .bp rfl ?_ | refine .tx ?_ | (refine .aj rfl (af.st iH.ok rfl rfl rfl rfl) ?_;rintro _ _ ⟨rfl,rfl⟩) | (refine .d3 rfl (af.st iH.ok rfl rfl rfl rfl) ?_;rintro _ _ ⟨rfl,rfl⟩) | (refine .d2 rfl Kept.auto (af.st iH.ok rfl rfl rfl rfl) (by rintro _ _ ⟨rfl,rfl⟩;exact Kept.auto) ?_;rintro _ _ ⟨rfl,rfl⟩) | (refine .aj rfl (af.iJ (by exact iH.ok) rfl rfl rfl (by rfl)) ?_;rintro _ _ ⟨rfl,rfl⟩)));first | exact .w1 h | exact .w2 h | exact .w0 h | exact .wr h):G:=f (.mk n) (.mk x)
theorem JS{G:Prop}(n:Nat)(f:FK n→G:=by intro c;(repeat (replace c:=FK.s c;first | refine .p .y ?_ | refine .n ?_ | refine .s ?_ | refine .r ?_ | refine .b ?_ | refine .t ?_ | refine .e ?_ | refine .u ?_ | refine .g .y ?_ | refine .v ?_ | refine .br ?_ | refine .tr ?_ | refine .q .y ?_ | refine .w ?_ | refine .h .y ?_ | refine .x ?_ | refine .bh ?_ | refine .bp rfl ?_ | refine .tx ?_ | (refine .aj rfl (af.st iH.ok rfl rfl rfl rfl) ?_;rintro _ _ ⟨rfl,rfl⟩) | (refine .d3 rfl (af.st iH.ok rfl rfl rfl rfl) ?_;rintro _ _ ⟨rfl,rfl⟩) | (refine .d2 rfl Kept.auto (af.st iH.ok rfl rfl rfl rfl) (by rintro _ _ ⟨rfl,rfl⟩;exact Kept.auto) ?_;rintro _ _ ⟨rfl,rfl⟩) | (refine .aj rfl (af.iJ (by exact iH.ok) rfl rfl rfl (by rfl)) ?_;rintro _ _ ⟨rfl,rfl⟩)));first | exact .oy .auto rfl (fun _ h=>h) | exact .oy .auto rfl (ax.kept .auto)):G:=f (.mk n)
end Go.SLYthlllpngkljgfaaGreat
namespace Go.SLYthlllpngkljgfaaGreat
open Go Go.RowKit Go.Proofs Go.Proofs.Tryz
instance:jB Tryz.prog 22 (.slice 56):=⟨underlying22⟩
instance:jB Tryz.prog 23 (.slice 34):=⟨underlying23⟩
instance:jB Tryz.prog 24 (.pointer 108):=⟨underlying24⟩
instance:jB Tryz.prog 30 (.slice 42):=⟨underlying30⟩
instance:jB Tryz.prog 38 (.pointer 121):=⟨underlying38⟩
instance:jB Tryz.prog 44 (.slice 115):=⟨underlying44⟩
instance:jB Tryz.prog 47 (.slice 110):=⟨underlying47⟩
instance:jB Tryz.prog 50 (.slice 3):=⟨underlying50⟩
instance:jB Tryz.prog 54 (.slice 113):=⟨underlying54⟩
instance:jB Tryz.prog 57 (.slice 64):=⟨underlying57⟩
instance:jB Tryz.prog 58 (.pointer 137):=⟨underlying58⟩
instance:jB Tryz.prog 61 (.pointer 147):=⟨underlying61⟩
instance:jB Tryz.prog 75 (.slice 87):=⟨underlying75⟩
instance:jB Tryz.prog 83 (.pointer 220):=⟨underlying83⟩
instance:jB Tryz.prog 93 (.slice 97):=⟨underlying93⟩
instance:jB Tryz.prog 95 (.slice 93):=⟨underlying95⟩
instance:jB Tryz.prog 101 (.pointer 243):=⟨underlying101⟩
instance:jB Tryz.prog 113 (.slice 112):=⟨underlying113⟩
instance:jB Tryz.prog 119 (.slice 61):=⟨underlying119⟩
instance:jB Tryz.prog 125 (.pointer 195):=⟨underlying125⟩
instance:jB Tryz.prog 127 (.pointer 201):=⟨underlying127⟩
instance:jB Tryz.prog 129 (.pointer 209):=⟨underlying129⟩
instance:jB Tryz.prog 131 (.pointer 212):=⟨underlying131⟩
instance:jB Tryz.prog 133 (.pointer 167):=⟨underlying133⟩
instance:jB Tryz.prog 135 (.slice 140):=⟨underlying135⟩
instance:jB Tryz.prog 140 (.pointer 215):=⟨underlying140⟩
instance:jB Tryz.prog 145 (.slice 80):=⟨underlying145⟩
instance:jB Tryz.prog 161 (.pointer 236):=⟨underlying161⟩
instance:jB Tryz.prog 193 (.slice 257):=⟨underlying193⟩
instance:jB Tryz.prog 196 (.slice 328):=⟨underlying196⟩
instance:jB Tryz.prog 198 (.slice 204):=⟨underlying198⟩
instance:jB Tryz.prog 199 (.slice 206):=⟨underlying199⟩
instance:jB Tryz.prog 202 (.slice 324):=⟨underlying202⟩
instance:jB Tryz.prog 207 (.slice 156):=⟨underlying207⟩
instance:jB Tryz.prog 213 (.slice 368):=⟨underlying213⟩
instance:jB Tryz.prog 218 (.slice 161):=⟨underlying218⟩
instance:jB Tryz.prog 241 (.slice 58):=⟨underlying241⟩
instance:jB Tryz.prog 266 (.slice 75):=⟨underlying266⟩
instance:jB Tryz.prog 321 (.pointer 204):=⟨underlying321⟩
instance:jB Tryz.prog 341 (.pointer 328):=⟨underlying341⟩
instance:jB Tryz.prog 346 (.pointer 206):=⟨underlying346⟩
instance:iH Tryz.prog 3 1:=⟨sizeOf3⟩
instance:iH Tryz.prog 4 1:=⟨sizeOf4⟩
instance:iH Tryz.prog 25 1:=⟨sizeOf25⟩
instance:iH Tryz.prog 34 3:=⟨sizeOf34⟩
instance:iH Tryz.prog 42 4:=⟨sizeOf42⟩
instance:iH Tryz.prog 47 1:=⟨sizeOf47⟩
instance:iH Tryz.prog 56 8:=⟨sizeOf56⟩
instance:iH Tryz.prog 58 1:=⟨sizeOf58⟩
instance:iH Tryz.prog 61 1:=⟨sizeOf61⟩
instance:iH Tryz.prog 64 3:=⟨sizeOf64⟩
instance:iH Tryz.prog 66 4:=⟨sizeOf66⟩
instance:iH Tryz.prog 68 6:=⟨sizeOf68⟩
instance:iH Tryz.prog 75 1:=⟨sizeOf75⟩
instance:iH Tryz.prog 80 3:=⟨sizeOf80⟩
instance:iH Tryz.prog 87 3:=⟨sizeOf87⟩
instance:iH Tryz.prog 93 1:=⟨sizeOf93⟩
instance:iH Tryz.prog 97 2:=⟨sizeOf97⟩
instance:iH Tryz.prog 110 1:=⟨sizeOf110⟩
instance:iH Tryz.prog 112 5:=⟨sizeOf112⟩
instance:iH Tryz.prog 113 1:=⟨sizeOf113⟩
instance:iH Tryz.prog 115 6:=⟨sizeOf115⟩
instance:iH Tryz.prog 134 16:=⟨sizeOf134⟩
instance:iH Tryz.prog 140 1:=⟨sizeOf140⟩
instance:iH Tryz.prog 156 4:=⟨sizeOf156⟩
instance:iH Tryz.prog 161 1:=⟨sizeOf161⟩
instance:iH Tryz.prog 165 10:=⟨sizeOf165⟩
instance:iH Tryz.prog 204 1:=⟨sizeOf204⟩
instance:iH Tryz.prog 206 2:=⟨sizeOf206⟩
instance:iH Tryz.prog 251 4:=⟨sizeOf251⟩
instance:iH Tryz.prog 257 2:=⟨sizeOf257⟩
instance:iH Tryz.prog 308 1:=⟨sizeOf308⟩
instance:iH Tryz.prog 324 2:=⟨sizeOf324⟩
instance:iH Tryz.prog 328 3:=⟨sizeOf328⟩
instance:iH Tryz.prog 368 2:=⟨sizeOf368⟩
instance:One Tryz.prog 3:=⟨isAgg3⟩
instance:One Tryz.prog 4:=⟨isAgg4⟩
instance:One Tryz.prog 25:=⟨isAgg25⟩
instance:One Tryz.prog 30:=⟨isAgg30⟩
instance:One Tryz.prog 38:=⟨isAgg38⟩
instance:One Tryz.prog 44:=⟨isAgg44⟩
instance:One Tryz.prog 47:=⟨isAgg47⟩
instance:One Tryz.prog 50:=⟨isAgg50⟩
instance:One Tryz.prog 54:=⟨isAgg54⟩
instance:One Tryz.prog 58:=⟨isAgg58⟩
instance:One Tryz.prog 61:=⟨isAgg61⟩
instance:One Tryz.prog 75:=⟨isAgg75⟩
instance:One Tryz.prog 83:=⟨isAgg83⟩
instance:One Tryz.prog 93:=⟨isAgg93⟩
instance:One Tryz.prog 110:=⟨isAgg110⟩
instance:One Tryz.prog 113:=⟨isAgg113⟩
instance:One Tryz.prog 119:=⟨isAgg119⟩
instance:One Tryz.prog 125:=⟨isAgg125⟩
instance:One Tryz.prog 127:=⟨isAgg127⟩
instance:One Tryz.prog 129:=⟨isAgg129⟩
instance:One Tryz.prog 131:=⟨isAgg131⟩
instance:One Tryz.prog 133:=⟨isAgg133⟩
instance:One Tryz.prog 135:=⟨isAgg135⟩
instance:One Tryz.prog 140:=⟨isAgg140⟩
instance:One Tryz.prog 145:=⟨isAgg145⟩
instance:One Tryz.prog 161:=⟨isAgg161⟩
instance:One Tryz.prog 193:=⟨isAgg193⟩
instance:One Tryz.prog 196:=⟨isAgg196⟩
instance:One Tryz.prog 198:=⟨isAgg198⟩
instance:One Tryz.prog 199:=⟨isAgg199⟩
instance:One Tryz.prog 202:=⟨isAgg202⟩
instance:One Tryz.prog 207:=⟨isAgg207⟩
instance:One Tryz.prog 210:=⟨isAgg210⟩
instance:One Tryz.prog 213:=⟨isAgg213⟩
instance:One Tryz.prog 218:=⟨isAgg218⟩
instance:One Tryz.prog 241:=⟨isAgg241⟩
instance:jx Tryz.prog 34:=⟨isAgg34⟩
instance:jx Tryz.prog 42:=⟨isAgg42⟩
instance:jx Tryz.prog 56:=⟨isAgg56⟩
instance:jx Tryz.prog 64:=⟨isAgg64⟩
instance:jx Tryz.prog 66:=⟨isAgg66⟩
instance:jx Tryz.prog 68:=⟨isAgg68⟩
instance:jx Tryz.prog 80:=⟨isAgg80⟩
instance:jx Tryz.prog 87:=⟨isAgg87⟩
instance:jx Tryz.prog 97:=⟨isAgg97⟩
instance:jx Tryz.prog 112:=⟨isAgg112⟩
instance:jx Tryz.prog 115:=⟨isAgg115⟩
instance:jx Tryz.prog 134:=⟨isAgg134⟩
instance:jx Tryz.prog 156:=⟨isAgg156⟩
instance:jx Tryz.prog 165:=⟨isAgg165⟩
instance:jx Tryz.prog 204:=⟨isAgg204⟩
instance:jx Tryz.prog 206:=⟨isAgg206⟩
instance:jx Tryz.prog 251:=⟨isAgg251⟩
instance:jx Tryz.prog 257:=⟨isAgg257⟩
instance:jx Tryz.prog 324:=⟨isAgg324⟩
instance:jx Tryz.prog 328:=⟨isAgg328⟩
instance:jx Tryz.prog 368:=⟨isAgg368⟩
instance:cN Tryz.prog 34 0 0:=⟨ae (t:=3) underlying34 rfl sizeOf3⟩
instance:cN Tryz.prog 34 1 1:=⟨ae (t:=3) underlying34 rfl sizeOf3⟩
instance:cN Tryz.prog 34 2 2:=⟨ae (t:=3) underlying34 rfl sizeOf3⟩
instance:cN Tryz.prog 42 0 0:=⟨ae (t:=3) underlying42 rfl sizeOf3⟩
instance:cN Tryz.prog 42 1 1:=⟨ae (t:=3) underlying42 rfl sizeOf3⟩
instance:cN Tryz.prog 42 2 2:=⟨ae (t:=3) underlying42 rfl sizeOf3⟩
instance:cN Tryz.prog 42 3 3:=⟨ae (t:=3) underlying42 rfl sizeOf3⟩
instance:cN Tryz.prog 56 0 0:=⟨ae (t:=54) underlying56 rfl sizeOf54⟩
instance:cN Tryz.prog 56 1 1:=⟨ae (t:=3) underlying56 rfl sizeOf3⟩
instance:cN Tryz.prog 56 2 2:=⟨ae (t:=3) underlying56 rfl sizeOf3⟩
instance:cN Tryz.prog 56 3 3:=⟨ae (t:=3) underlying56 rfl sizeOf3⟩
instance:cN Tryz.prog 56 4 4:=⟨ae (t:=50) underlying56 rfl sizeOf50⟩
instance:cN Tryz.prog 56 5 5:=⟨ae (t:=50) underlying56 rfl sizeOf50⟩
instance:cN Tryz.prog 56 6 6:=⟨ae (t:=3) underlying56 rfl sizeOf3⟩
instance:cN Tryz.prog 56 7 7:=⟨ae (t:=3) underlying56 rfl sizeOf3⟩
instance:cN Tryz.prog 64 0 0:=⟨ae (t:=3) underlying64 rfl sizeOf3⟩
instance:cN Tryz.prog 64 1 1:=⟨ae (t:=3) underlying64 rfl sizeOf3⟩
instance:cN Tryz.prog 64 2 2:=⟨ae (t:=3) underlying64 rfl sizeOf3⟩
instance:cN Tryz.prog 66 0 0:=⟨ae (t:=50) underlying66 rfl sizeOf50⟩
instance:cN Tryz.prog 66 1 1:=⟨ae (t:=4) underlying66 rfl sizeOf4⟩
instance:cN Tryz.prog 66 2 2:=⟨ae (t:=4) underlying66 rfl sizeOf4⟩
instance:cN Tryz.prog 66 3 3:=⟨ae (t:=4) underlying66 rfl sizeOf4⟩
instance:cN Tryz.prog 68 0 0:=⟨ae (t:=4) underlying68 rfl sizeOf4⟩
instance:cN Tryz.prog 68 1 1:=⟨ae (t:=3) underlying68 rfl sizeOf3⟩
instance:cN Tryz.prog 68 2 2:=⟨ae (t:=66) underlying68 rfl sizeOf66⟩
instance:cN Tryz.prog 80 0 0:=⟨ae (t:=3) underlying80 rfl sizeOf3⟩
instance:cN Tryz.prog 80 1 1:=⟨ae (t:=3) underlying80 rfl sizeOf3⟩
instance:cN Tryz.prog 80 2 2:=⟨ae (t:=75) underlying80 rfl sizeOf75⟩
instance:cN Tryz.prog 87 0 0:=⟨ae (t:=3) underlying87 rfl sizeOf3⟩
instance:cN Tryz.prog 87 1 1:=⟨ae (t:=3) underlying87 rfl sizeOf3⟩
instance:cN Tryz.prog 87 2 2:=⟨ae (t:=3) underlying87 rfl sizeOf3⟩
instance:cN Tryz.prog 97 0 0:=⟨ae (t:=3) underlying97 rfl sizeOf3⟩
instance:cN Tryz.prog 97 1 1:=⟨ae (t:=3) underlying97 rfl sizeOf3⟩
instance:cN Tryz.prog 108 0 0:=⟨ae (t:=38) underlying108 rfl sizeOf38⟩
instance:cN Tryz.prog 108 1 1:=⟨ae (t:=50) underlying108 rfl sizeOf50⟩
instance:cN Tryz.prog 108 2 2:=⟨ae (t:=3) underlying108 rfl sizeOf3⟩
instance:cN Tryz.prog 108 3 3:=⟨ae (t:=30) underlying108 rfl sizeOf30⟩
instance:cN Tryz.prog 112 0 0:=⟨ae (t:=3) underlying112 rfl sizeOf3⟩
instance:cN Tryz.prog 112 1 1:=⟨ae (t:=3) underlying112 rfl sizeOf3⟩
instance:cN Tryz.prog 112 2 2:=⟨ae (t:=3) underlying112 rfl sizeOf3⟩
instance:cN Tryz.prog 112 3 3:=⟨ae (t:=3) underlying112 rfl sizeOf3⟩
instance:cN Tryz.prog 112 4 4:=⟨ae (t:=110) underlying112 rfl sizeOf110⟩
instance:cN Tryz.prog 115 2 2:=⟨ae (t:=110) underlying115 rfl sizeOf110⟩
instance:cN Tryz.prog 121 0 0:=⟨ae (t:=50) underlying121 rfl sizeOf50⟩
instance:cN Tryz.prog 121 1 1:=⟨ae (t:=119) underlying121 rfl sizeOf119⟩
instance:cN Tryz.prog 137 0 0:=⟨ae (t:=56) underlying137 rfl sizeOf56⟩
instance:cN Tryz.prog 137 1 8:=⟨ae (t:=125) underlying137 rfl sizeOf125⟩
instance:cN Tryz.prog 137 2 9:=⟨ae (t:=134) underlying137 rfl sizeOf134⟩
instance:cN Tryz.prog 137 3 25:=⟨ae (t:=47) underlying137 rfl sizeOf47⟩
instance:cN Tryz.prog 137 4 26:=⟨ae (t:=127) underlying137 rfl sizeOf127⟩
instance:cN Tryz.prog 137 5 27:=⟨ae (t:=135) underlying137 rfl sizeOf135⟩
instance:cN Tryz.prog 137 6 28:=⟨ae (t:=129) underlying137 rfl sizeOf129⟩
instance:cN Tryz.prog 137 7 29:=⟨ae (t:=131) underlying137 rfl sizeOf131⟩
instance:cN Tryz.prog 137 8 30:=⟨ae (t:=44) underlying137 rfl sizeOf44⟩
instance:cN Tryz.prog 147 0 0:=⟨ae (t:=58) underlying147 rfl sizeOf58⟩
instance:cN Tryz.prog 147 1 1:=⟨ae (t:=83) underlying147 rfl sizeOf83⟩
instance:cN Tryz.prog 147 2 2:=⟨ae (t:=145) underlying147 rfl sizeOf145⟩
instance:cN Tryz.prog 147 3 3:=⟨ae (t:=75) underlying147 rfl sizeOf75⟩
instance:cN Tryz.prog 147 4 4:=⟨ae (t:=4) underlying147 rfl sizeOf4⟩
instance:cN Tryz.prog 156 0 0:=⟨ae (t:=3) underlying156 rfl sizeOf3⟩
instance:cN Tryz.prog 156 1 1:=⟨ae (t:=3) underlying156 rfl sizeOf3⟩
instance:cN Tryz.prog 156 2 2:=⟨ae (t:=4) underlying156 rfl sizeOf4⟩
instance:cN Tryz.prog 156 3 3:=⟨ae (t:=110) underlying156 rfl sizeOf110⟩
instance:cN Tryz.prog 165 0 0:=⟨ae (t:=3) underlying165 rfl sizeOf3⟩
instance:cN Tryz.prog 165 1 1:=⟨ae (t:=3) underlying165 rfl sizeOf3⟩
instance:cN Tryz.prog 165 2 2:=⟨ae (t:=163) underlying165 rfl sizeOf163⟩
instance:cN Tryz.prog 167 0 0:=⟨ae (t:=165) underlying167 rfl sizeOf165⟩
instance:cN Tryz.prog 167 1 10:=⟨ae (t:=110) underlying167 rfl sizeOf110⟩
instance:cN Tryz.prog 167 2 11:=⟨ae (t:=3) underlying167 rfl sizeOf3⟩
instance:cN Tryz.prog 167 3 12:=⟨ae (t:=110) underlying167 rfl sizeOf110⟩
instance:cN Tryz.prog 167 4 13:=⟨ae (t:=4) underlying167 rfl sizeOf4⟩
instance:cN Tryz.prog 167 5 14:=⟨ae (t:=3) underlying167 rfl sizeOf3⟩
instance:cN Tryz.prog 167 6 15:=⟨ae (t:=3) underlying167 rfl sizeOf3⟩
instance:cN Tryz.prog 167 7 16:=⟨ae (t:=3) underlying167 rfl sizeOf3⟩
instance:cN Tryz.prog 170 0 0:=⟨ae (t:=3) underlying170 rfl sizeOf3⟩
instance:cN Tryz.prog 170 1 1:=⟨ae (t:=93) underlying170 rfl sizeOf93⟩
instance:cN Tryz.prog 195 0 0:=⟨ae (t:=193) underlying195 rfl sizeOf193⟩
instance:cN Tryz.prog 201 0 0:=⟨ae (t:=196) underlying201 rfl sizeOf196⟩
instance:cN Tryz.prog 201 1 1:=⟨ae (t:=198) underlying201 rfl sizeOf198⟩
instance:cN Tryz.prog 201 2 2:=⟨ae (t:=199) underlying201 rfl sizeOf199⟩
instance:cN Tryz.prog 204 0 0:=⟨ae (t:=202) underlying204 rfl sizeOf202⟩
instance:cN Tryz.prog 206 0 0:=⟨ae (t:=204) underlying206 rfl sizeOf204⟩
instance:cN Tryz.prog 206 1 1:=⟨ae (t:=3) underlying206 rfl sizeOf3⟩
instance:cN Tryz.prog 209 0 0:=⟨ae (t:=47) underlying209 rfl sizeOf47⟩
instance:cN Tryz.prog 209 1 1:=⟨ae (t:=207) underlying209 rfl sizeOf207⟩
instance:cN Tryz.prog 212 0 0:=⟨ae (t:=3) underlying212 rfl sizeOf3⟩
instance:cN Tryz.prog 212 1 1:=⟨ae (t:=210) underlying212 rfl sizeOf210⟩
instance:cN Tryz.prog 215 0 0:=⟨ae (t:=3) underlying215 rfl sizeOf3⟩
instance:cN Tryz.prog 215 1 1:=⟨ae (t:=47) underlying215 rfl sizeOf47⟩
instance:cN Tryz.prog 215 2 2:=⟨ae (t:=213) underlying215 rfl sizeOf213⟩
instance:cN Tryz.prog 215 3 3:=⟨ae (t:=50) underlying215 rfl sizeOf50⟩
instance:cN Tryz.prog 220 0 0:=⟨ae (t:=218) underlying220 rfl sizeOf218⟩
instance:cN Tryz.prog 236 0 0:=⟨ae (t:=50) underlying236 rfl sizeOf50⟩
instance:cN Tryz.prog 243 0 0:=⟨ae (t:=241) underlying243 rfl sizeOf241⟩
instance:cN Tryz.prog 251 0 0:=⟨ae (t:=3) underlying251 rfl sizeOf3⟩
instance:cN Tryz.prog 251 1 1:=⟨ae (t:=4) underlying251 rfl sizeOf4⟩
instance:cN Tryz.prog 251 2 2:=⟨ae (t:=3) underlying251 rfl sizeOf3⟩
instance:cN Tryz.prog 251 3 3:=⟨ae (t:=4) underlying251 rfl sizeOf4⟩
instance:cN Tryz.prog 257 0 0:=⟨ae (t:=4) underlying257 rfl sizeOf4⟩
instance:cN Tryz.prog 257 1 1:=⟨ae (t:=110) underlying257 rfl sizeOf110⟩
instance:cN Tryz.prog 273 0 0:=⟨ae (t:=58) underlying273 rfl sizeOf58⟩
instance:cN Tryz.prog 273 1 1:=⟨ae (t:=3) underlying273 rfl sizeOf3⟩
instance:cN Tryz.prog 273 2 2:=⟨ae (t:=133) underlying273 rfl sizeOf133⟩
instance:cN Tryz.prog 273 3 3:=⟨ae (t:=112) underlying273 rfl sizeOf112⟩
instance:cN Tryz.prog 273 4 8:=⟨ae (t:=3) underlying273 rfl sizeOf3⟩
instance:cN Tryz.prog 273 5 9:=⟨ae (t:=66) underlying273 rfl sizeOf66⟩
instance:cN Tryz.prog 273 6 13:=⟨ae (t:=44) underlying273 rfl sizeOf44⟩
instance:cN Tryz.prog 283 0 0:=⟨ae (t:=3) underlying283 rfl sizeOf3⟩
instance:cN Tryz.prog 283 1 1:=⟨ae (t:=50) underlying283 rfl sizeOf50⟩
instance:cN Tryz.prog 283 2 2:=⟨ae (t:=50) underlying283 rfl sizeOf50⟩
instance:cN Tryz.prog 283 3 3:=⟨ae (t:=50) underlying283 rfl sizeOf50⟩
instance:cN Tryz.prog 308 0 0:=⟨ae (t:=25) underlying308 rfl sizeOf25⟩
instance:cN Tryz.prog 311 0 0:=⟨ae (t:=165) underlying311 rfl sizeOf165⟩
instance:cN Tryz.prog 311 1 10:=⟨ae (t:=47) underlying311 rfl sizeOf47⟩
instance:cN Tryz.prog 324 0 0:=⟨ae (t:=3) underlying324 rfl sizeOf3⟩
instance:cN Tryz.prog 324 1 1:=⟨ae (t:=3) underlying324 rfl sizeOf3⟩
instance:cN Tryz.prog 328 0 0:=⟨ae (t:=204) underlying328 rfl sizeOf204⟩
instance:cN Tryz.prog 328 1 1:=⟨ae (t:=4) underlying328 rfl sizeOf4⟩
instance:cN Tryz.prog 328 2 2:=⟨ae (t:=3) underlying328 rfl sizeOf3⟩
instance:cN Tryz.prog 368 0 0:=⟨ae (t:=3) underlying368 rfl sizeOf3⟩
instance:cN Tryz.prog 368 1 1:=⟨ae (t:=110) underlying368 rfl sizeOf110⟩
end Go.SLYthlllpngkljgfaaGreat
namespace Go.SLYthlllpngkljgfaaGreat
open Go Go.RowKit Go.Proofs Go.Proofs.Tryz
attribute [local irreducible] aq aS bc bx bC Y
theorem LZ{W:World}{A:aa}{v:Value}{xs:List Int}(hr:Rd W [A] au 1 v xs)(hl:xs.length≤1000000000):Fn Tryz.prog W 154 [v] [A] Value (fun u=>u) (fun _=>True) (fun u=>[sl au 1 u xs,A]):=by
 refine Fn.intro (N:=8) func154 rfl ntmps154 rfl fun F=>?_
 haveI hRI:∀ (H:List aa) [bf H A],aw W H v au 1 xs:=fun H h=>⟨hr.at h.has⟩
 show aq _ _ _ _ _ _ [A,F]
 refine J 9 ?_
 refine .p (.sV underlying50 rfl rfl Rd.s) ?_
 refine JD 2 (fun h4=>?_) fun h4=>?_
 ·refine J 7 ?_
  refine .cK (fun w s=>Rd.sZ Rd.s h4 w s) fun hn=>?_
  subst hn
  refine .to (A:=sl au 1 (.slice none 0 0) ([]:List Int)) (Bs:=[]) .nil (fun h e=>.inl ⟨⟨_,rfl⟩,rfl,e⟩) ?_
  refine .aG rfl rfl fun w s=>⟨_,?_,trivial,ai .auto s⟩
  rfl
 ·refine J 4 ?_
  refine .aj rfl (af.gI 3 rfl rfl (by kernel_rfl)) ?_
  rintro _ _ ⟨b5,rfl,rfl⟩
  refine J 1 ?_
  refine .to (A:=sl au 1 (.slice (some ⟨b5,0,none⟩) 0 0) ([]:List Int)) (Bs:=[]) .nil (fun h e=>.inl ⟨⟨_,rfl⟩,rfl,e⟩) ?_
  refine .aj rfl (af.append rfl underlying50 underlying50 typeInfo3 rfl rfl rfl (by decide) rfl rfl .auto Rd.s (by simp;omega) (oJ _)) ?_
  rintro _ _ ⟨v7,rfl,rfl⟩
  refine J 4 ?_
  refine .aG rfl rfl fun w s=>⟨_,?_,trivial,ai .auto s⟩
  rfl
theorem M6{W:World}{v:Value}{xs:List Int}:Fn Tryz.prog W 153 [v] [sl au 1 v xs] Value (fun u=>u) (fun _=>True) (fun u=>[sl au 1 u xs]):=by
 refine Fn.intro (N:=9) func153 rfl ntmps153 rfl fun F=>?_
 show aq _ _ _ _ _ _ [sl au 1 v xs,F]
 refine .cK (fun w s=>(Rd.sl (W:=W) .here w s).1) fun hr=>?_
 obtain⟨a,cap,rfl,hle, -⟩:=hr
 refine J 12 ?_
 refine .p (.rN xs.length xs.length underlying50 sizeOf3 rfl rfl rfl rfl rfl (Nat.le_refl _) hle) ?_
 refine J 4 ?_
 refine .fx .auto rQ ?_
 rintro J -
 refine .aG rfl rfl fun w s=>⟨_,?_,trivial,ai .auto s⟩
 rfl
theorem L2{W:World}{A:aa}{v:Value}{xs:List Int}(hr:Rd W [A] cO 1 v xs)(hl:xs.length≤1000000000):Fn Tryz.prog W 131 [v] [A] Value (fun u=>u) (fun _=>True) (fun u=>[sl cO 1 u xs,A]):=by
 refine Fn.intro (N:=8) func131 rfl ntmps131 rfl fun F=>?_
 haveI hRI:∀ (H:List aa) [bf H A],aw W H v cO 1 xs:=fun H h=>⟨hr.at h.has⟩
 show aq _ _ _ _ _ _ [A,F]
 refine J 9 ?_
 refine .p (.sV underlying47 rfl rfl Rd.s) ?_
 refine JD 2 (fun h4=>?_) fun h4=>?_
 ·refine J 7 ?_
  refine .cK (fun w s=>Rd.sZ Rd.s h4 w s) fun hn=>?_
  subst hn
  refine .to (A:=sl cO 1 (.slice none 0 0) ([]:List Int)) (Bs:=[]) .nil (fun h e=>.inl ⟨⟨_,rfl⟩,rfl,e⟩) ?_
  refine .aG rfl rfl fun w s=>⟨_,?_,trivial,ai .auto s⟩
  rfl
 ·refine J 4 ?_
  refine .aj rfl (af.gI 110 rfl rfl (by kernel_rfl)) ?_
  rintro _ _ ⟨b5,rfl,rfl⟩
  refine J 1 ?_
  refine .to (A:=sl cO 1 (.slice (some ⟨b5,0,none⟩) 0 0) ([]:List Int)) (Bs:=[]) .nil (fun h e=>.inl ⟨⟨_,rfl⟩,rfl,e⟩) ?_
  refine .aj rfl (af.append rfl underlying47 underlying47 typeInfo110 rfl rfl rfl (by decide) rfl rfl .auto Rd.s (by simp;omega) (sY _)) ?_
  rintro _ _ ⟨v7,rfl,rfl⟩
  refine J 4 ?_
  refine .aG rfl rfl fun w s=>⟨_,?_,trivial,ai .auto s⟩
  rfl
theorem M7{W:World}{v:Value}{xs:List Int}:Fn Tryz.prog W 130 [v] [sl cO 1 v xs] Value (fun u=>u) (fun _=>True) (fun u=>[sl cO 1 u xs]):=by
 refine Fn.intro (N:=9) func130 rfl ntmps130 rfl fun F=>?_
 show aq _ _ _ _ _ _ [sl cO 1 v xs,F]
 refine .cK (fun w s=>(Rd.sl (W:=W) .here w s).1) fun hr=>?_
 obtain⟨a,cap,rfl,hle, -⟩:=hr
 refine J 12 ?_
 refine .p (.rN xs.length xs.length underlying47 sizeOf110 rfl rfl rfl rfl rfl (Nat.le_refl _) hle) ?_
 refine J 4 ?_
 refine .fx .auto rQ ?_
 rintro J -
 refine .aG rfl rfl fun w s=>⟨_,?_,trivial,ai .auto s⟩
 rfl
theorem yn{W:World}{A:aa}{v:Value}{xs:List Ev}(hr:Rd W [A] cr 3 v xs)(hl:xs.length≤1000000000):Fn Tryz.prog W 102 [v] [A] Value (fun u=>u) (fun _=>True) (fun u=>[sl cr 3 u xs,A]):=by
 refine Fn.intro (N:=8) func102 rfl ntmps102 rfl fun F=>?_
 haveI hRI:∀ (H:List aa) [bf H A],aw W H v cr 3 xs:=fun H h=>⟨hr.at h.has⟩
 show aq _ _ _ _ _ _ [A,F]
 refine J 9 ?_
 refine .p (.sV underlying75 rfl rfl Rd.s) ?_
 refine JD 2 (fun h4=>?_) fun h4=>?_
 ·refine J 7 ?_
  refine .cK (fun w s=>Rd.sZ Rd.s h4 w s) fun hn=>?_
  subst hn
  refine .to (A:=sl cr 3 (.slice none 0 0) ([]:List Ev)) (Bs:=[]) .nil (fun h e=>.inl ⟨⟨_,rfl⟩,rfl,e⟩) ?_
  refine .aG rfl rfl fun w s=>⟨_,?_,trivial,ai .auto s⟩
  rfl
 ·refine J 4 ?_
  refine .aj rfl (af.gI 87 rfl rfl (by kernel_rfl)) ?_
  rintro _ _ ⟨b5,rfl,rfl⟩
  refine J 1 ?_
  refine .to (A:=sl cr 3 (.slice (some ⟨b5,0,none⟩) 0 0) ([]:List Ev)) (Bs:=[]) .nil (fun h e=>.inl ⟨⟨_,rfl⟩,rfl,e⟩) ?_
  refine .aj rfl (af.append rfl underlying75 underlying75 typeInfo87 rfl rfl rfl (by decide) rfl rfl .auto Rd.s (by simp;omega) (CL _)) ?_
  rintro _ _ ⟨v7,rfl,rfl⟩
  refine J 4 ?_
  refine .aG rfl rfl fun w s=>⟨_,?_,trivial,ai .auto s⟩
  rfl
theorem L3{W:World}{A:aa}{v:Value}{xs:List Rec}(hr:Rd W [A] cP 6 v xs)(hl:xs.length≤1000000000):Fn Tryz.prog W 129 [v] [A] Value (fun u=>u) (fun _=>True) (fun u=>[sl cP 6 u xs,A]):=by
 refine Fn.intro (N:=8) func129 rfl ntmps129 rfl fun F=>?_
 haveI hRI:∀ (H:List aa) [bf H A],aw W H v cP 6 xs:=fun H h=>⟨hr.at h.has⟩
 show aq _ _ _ _ _ _ [A,F]
 refine J 9 ?_
 refine .p (.sV underlying44 rfl rfl Rd.s) ?_
 refine JD 2 (fun h4=>?_) fun h4=>?_
 ·refine J 7 ?_
  refine .cK (fun w s=>Rd.sZ Rd.s h4 w s) fun hn=>?_
  subst hn
  refine .to (A:=sl cP 6 (.slice none 0 0) ([]:List Rec)) (Bs:=[]) .nil (fun h e=>.inl ⟨⟨_,rfl⟩,rfl,e⟩) ?_
  refine .aG rfl rfl fun w s=>⟨_,?_,trivial,ai .auto s⟩
  rfl
 ·refine J 4 ?_
  refine .aj rfl (af.gI 115 rfl rfl (by kernel_rfl)) ?_
  rintro _ _ ⟨b5,rfl,rfl⟩
  refine J 1 ?_
  refine .to (A:=sl cP 6 (.slice (some ⟨b5,0,none⟩) 0 0) ([]:List Rec)) (Bs:=[]) .nil (fun h e=>.inl ⟨⟨_,rfl⟩,rfl,e⟩) ?_
  refine .aj rfl (af.append rfl underlying44 underlying44 typeInfo115 rfl rfl rfl (by decide) rfl rfl .auto Rd.s (by simp;omega) (y9 _)) ?_
  rintro _ _ ⟨v7,rfl,rfl⟩
  refine J 4 ?_
  refine .aG rfl rfl fun w s=>⟨_,?_,trivial,ai .auto s⟩
  rfl
theorem M8{W:World}{v:Value}{xs:List Rec}:Fn Tryz.prog W 128 [v] [sl cP 6 v xs] Value (fun u=>u) (fun _=>True) (fun u=>[sl cP 6 u xs]):=by
 refine Fn.intro (N:=9) func128 rfl ntmps128 rfl fun F=>?_
 show aq _ _ _ _ _ _ [sl cP 6 v xs,F]
 refine .cK (fun w s=>(Rd.sl (W:=W) .here w s).1) fun hr=>?_
 obtain⟨a,cap,rfl,hle, -⟩:=hr
 refine J 12 ?_
 refine .p (.rN xs.length xs.length underlying44 sizeOf115 rfl rfl rfl rfl rfl (Nat.le_refl _) hle) ?_
 refine J 4 ?_
 refine .fx .auto rQ ?_
 rintro J -
 refine .aG rfl rfl fun w s=>⟨_,?_,trivial,ai .auto s⟩
 rfl
theorem L4{W:World}{A:aa}{v:Value}{xs:List Ins}(hr:Rd W [A] dH 5 v xs)(hl:xs.length≤1000000000):Fn Tryz.prog W 78 [v] [A] Value (fun u=>u) (fun _=>True) (fun u=>[sl dH 5 u xs,A]):=by
 refine Fn.intro (N:=8) func78 rfl ntmps78 rfl fun F=>?_
 haveI hRI:∀ (H:List aa) [bf H A],aw W H v dH 5 xs:=fun H h=>⟨hr.at h.has⟩
 show aq _ _ _ _ _ _ [A,F]
 refine J 9 ?_
 refine .p (.sV underlying113 rfl rfl Rd.s) ?_
 refine JD 2 (fun h4=>?_) fun h4=>?_
 ·refine J 7 ?_
  refine .cK (fun w s=>Rd.sZ Rd.s h4 w s) fun hn=>?_
  subst hn
  refine .to (A:=sl dH 5 (.slice none 0 0) ([]:List Ins)) (Bs:=[]) .nil (fun h e=>.inl ⟨⟨_,rfl⟩,rfl,e⟩) ?_
  refine .aG rfl rfl fun w s=>⟨_,?_,trivial,ai .auto s⟩
  rfl
 ·refine J 4 ?_
  refine .aj rfl (af.gI 112 rfl rfl (by kernel_rfl)) ?_
  rintro _ _ ⟨b5,rfl,rfl⟩
  refine J 1 ?_
  refine .to (A:=sl dH 5 (.slice (some ⟨b5,0,none⟩) 0 0) ([]:List Ins)) (Bs:=[]) .nil (fun h e=>.inl ⟨⟨_,rfl⟩,rfl,e⟩) ?_
  refine .aj rfl (af.append rfl underlying113 underlying113 typeInfo112 rfl rfl rfl (by decide) rfl rfl .auto Rd.s (by simp;omega) (Gh _)) ?_
  rintro _ _ ⟨v7,rfl,rfl⟩
  refine J 4 ?_
  refine .aG rfl rfl fun w s=>⟨_,?_,trivial,ai .auto s⟩
  rfl
theorem J6{W:World}{A:aa}{v:Value}{xs:List (Value×List Ins)}(hr:Rd W [A] ej 1 v xs)(hl:xs.length≤1000000000)(hone:∀ y∈xs, ∀ c∈ej y,c.oneCell'=true):Fn Tryz.prog W 77 [v] [A] Value (fun u=>u) (fun _=>True) (fun u=>[sl ej 1 u xs,A]):=by
 refine Fn.intro (N:=8) func77 rfl ntmps77 rfl fun F=>?_
 haveI hRI:∀ (H:List aa) [bf H A],aw W H v ej 1 xs:=fun H h=>⟨hr.at h.has⟩
 show aq _ _ _ _ _ _ [A,F]
 refine J 9 ?_
 refine .p (.sV underlying54 rfl rfl Rd.s) ?_
 refine JD 2 (fun h4=>?_) fun h4=>?_
 ·refine J 7 ?_
  refine .cK (fun w s=>Rd.sZ Rd.s h4 w s) fun hn=>?_
  subst hn
  refine .to (A:=sl ej 1 (.slice none 0 0) ([]:List (Value×List Ins))) (Bs:=[]) .nil (fun h e=>.inl ⟨⟨_,rfl⟩,rfl,e⟩) ?_
  refine .aG rfl rfl fun w s=>⟨_,?_,trivial,ai .auto s⟩
  rfl
 ·refine J 4 ?_
  refine .aj rfl (af.gI 113 rfl rfl (by kernel_rfl)) ?_
  rintro _ _ ⟨b5,rfl,rfl⟩
  refine J 1 ?_
  refine .to (A:=sl ej 1 (.slice (some ⟨b5,0,none⟩) 0 0) ([]:List (Value×List Ins))) (Bs:=[]) .nil (fun h e=>.inl ⟨⟨_,rfl⟩,rfl,e⟩) ?_
  refine .aj rfl (af.append rfl underlying54 underlying54 typeInfo113 rfl rfl rfl (by decide) rfl rfl .auto Rd.s (by simp;omega) hone) ?_
  rintro _ _ ⟨v7,rfl,rfl⟩
  refine J 4 ?_
  refine .aG rfl rfl fun w s=>⟨_,?_,trivial,ai .auto s⟩
  rfl
theorem Ie{W:World}{A:aa}{v:Value}{xs:List gw}(hr:Rd W [A] fG 4 v xs)(hl:xs.length≤1000000000):Fn Tryz.prog W 63 [v] [A] Value (fun u=>u) (fun _=>True) (fun u=>[sl fG 4 u xs,A]):=by
 refine Fn.intro (N:=8) func63 rfl ntmps63 rfl fun F=>?_
 haveI hRI:∀ (H:List aa) [bf H A],aw W H v fG 4 xs:=fun H h=>⟨hr.at h.has⟩
 show aq _ _ _ _ _ _ [A,F]
 refine J 9 ?_
 refine .p (.sV underlying30 rfl rfl Rd.s) ?_
 refine JD 2 (fun h4=>?_) fun h4=>?_
 ·refine J 7 ?_
  refine .cK (fun w s=>Rd.sZ Rd.s h4 w s) fun hn=>?_
  subst hn
  refine .to (A:=sl fG 4 (.slice none 0 0) ([]:List gw)) (Bs:=[]) .nil (fun h e=>.inl ⟨⟨_,rfl⟩,rfl,e⟩) ?_
  refine .aG rfl rfl fun w s=>⟨_,?_,trivial,ai .auto s⟩
  rfl
 ·refine J 4 ?_
  refine .aj rfl (af.gI 42 rfl rfl (by kernel_rfl)) ?_
  rintro _ _ ⟨b5,rfl,rfl⟩
  refine J 1 ?_
  refine .to (A:=sl fG 4 (.slice (some ⟨b5,0,none⟩) 0 0) ([]:List gw)) (Bs:=[]) .nil (fun h e=>.inl ⟨⟨_,rfl⟩,rfl,e⟩) ?_
  refine .aj rfl (af.append rfl underlying30 underlying30 typeInfo42 rfl rfl rfl (by decide) rfl rfl .auto Rd.s (by simp;omega) (HL _)) ?_
  rintro _ _ ⟨v7,rfl,rfl⟩
  refine J 4 ?_
  refine .aG rfl rfl fun w s=>⟨_,?_,trivial,ai .auto s⟩
  rfl
theorem KS{W:World}{v:Value}{xs:List gw}:Fn Tryz.prog W 62 [v] [sl fG 4 v xs] Value (fun u=>u) (fun _=>True) (fun u=>[sl fG 4 u xs]):=by
 refine Fn.intro (N:=9) func62 rfl ntmps62 rfl fun F=>?_
 show aq _ _ _ _ _ _ [sl fG 4 v xs,F]
 refine .cK (fun w s=>(Rd.sl (W:=W) .here w s).1) fun hr=>?_
 obtain⟨a,cap,rfl,hle, -⟩:=hr
 refine J 12 ?_
 refine .p (.rN xs.length xs.length underlying30 sizeOf42 rfl rfl rfl rfl rfl (Nat.le_refl _) hle) ?_
 refine J 4 ?_
 refine .fx .auto rQ ?_
 rintro J -
 refine .aG rfl rfl fun w s=>⟨_,?_,trivial,ai .auto s⟩
 rfl
theorem L5{W:World}{A:aa}{v:Value}{xs:List Int}{x:Int}(hr:Rd W [A] au 1 v xs)(hl:xs.length≤1000000000):Fn Tryz.prog W 155 [v,.int .i64 x] [A] Unit (fun _=>.int .i64 (idxOf x xs)) (fun _=>True) (fun _=>[A]):=by
 refine Fn.intro (N:=19) func155 rfl ntmps155 rfl fun F=>?_
 haveI hRI:∀ (H:List aa) [bf H A],aw W H v au 1 xs:=fun H h=>⟨hr.at h.has⟩
 show aq _ _ _ _ _ _ [A,F]
 refine J 14 ?_
 refine .bn (X:=Nat) [4,5,8,9,10,11,12,13,14,15,16,17,18] (fun k=>xs.length-k) (fun k=>k≤xs.length∧idxOf x xs=idxFrom x (xs.drop k) k) (fun k=>[(8,some (.int .i64 (k:Int)))]) (fun k=>[A,F]) 0 ?_ ?_ ?_ ?_
 ·exact⟨Nat.zero_le _,by simp[idxOf]⟩
 ·exact⟨rfl,trivial⟩
 ·exact fun w s=>ax.kept .auto w s
 rintro k ⟨hk,hn⟩
 refine JD 6 (fun h9=>?_) fun h9=>?_
 ·refine J 15 ?_
  obtain⟨y,hy⟩:=ak (show k<xs.length by omega)
  refine JD 5 (fun h=>?_) fun h=>?_
  ·refine J 12 ?_
   refine .aG rfl rfl fun w s=>⟨(),?_,trivial,ai .auto s⟩
   rw[hn,Ji hy h]
  ·refine J 7 ?_
   refine .aL (k+1) .auto rfl ?_ ?_ ?_ ?_
   ·first | omega | (dsimp only;omega)
   ·exact⟨by omega,hn.trans (Gm hy h)⟩
   ·exact⟨rfl,trivial⟩
   ·exact fun w s=>ax.kept .auto w s
 ·refine J 11 ?_
  refine .aG rfl rfl fun w s=>⟨(),?_,trivial,ai .auto s⟩
  rw[hn,Jj (by omega)]
theorem wL{W:World}{A:aa}{v:Value}{xs:List Int}{x:Int}(hr:Rd W [A] au 1 v xs)(hl:xs.length≤1000000000):Fn Tryz.prog W 106 [v,.int .i64 x] [A] Unit (fun _=>.bool (xs.contains x)) (fun _=>True) (fun _=>[A]):=by
 refine Fn.intro (N:=9) func106 rfl ntmps106 rfl fun F=>?_
 show aq _ _ _ _ _ _ [A,F]
 refine J 9 ?_
 refine .c call155 rfl (L5 hr hl) fun _ _=>?_
 refine J 5 ?_
 refine .aG rfl rfl fun w s=>⟨(),?_,trivial,ai .auto s⟩
 rw[idxOf,xv]
theorem NW{W:World}{A:aa}{v:Value}{xs:List Int}(hr:Rd W [A] au 1 v xs)(hl:xs.length≤1000000000)(h0:0<xs.length):Fn Tryz.prog W 124 [v] [A] Unit (fun _=>.int .i64 (minOf xs)) (fun _=>True) (fun _=>[A]):=by
 refine Fn.intro (N:=25) func124 rfl ntmps124 rfl fun F=>?_
 haveI hRI:∀ (H:List aa) [bf H A],aw W H v au 1 xs:=fun H h=>⟨hr.at h.has⟩
 obtain⟨y0,ys,rfl⟩:∃ y ys,xs=y::ys:=by cases xs with | nil=>simp at h0 | cons y ys=>exact⟨y,ys,rfl⟩
 show aq _ _ _ _ _ _ [A,F]
 refine JD 13 (fun h7=>?_) fun h7=>?_
 ·exact absurd h7 (by simp;omega)
 ·refine J 5 ?_
  have hy0:(y0::ys)[0]?=some y0:=rfl
  refine .p (.ix 0 rfl rfl rfl (by simp)) ?_
  refine J 11 ?_
  refine .bn (X:=Nat) [3,4,12,13,14,15,16,17,18,19,20,21,22,23] (fun k=>ys.length-k) (fun k=>k≤ys.length) (fun k=>[(4,some (.int .i64 ((k+1:Nat):Int))),(3,some (.int .i64 ((ys.take k).foldl min y0)))]) (fun k=>[A,F]) 0 ?_ ?_ ?_ ?_
  ·exact Nat.zero_le _
  ·exact⟨rfl,rfl,trivial⟩
  ·exact fun w s=>ax.kept .auto w s
  rintro k hk
  refine JD 9 (fun h15=>?_) fun h15=>?_
  ·refine J 8 ?_
   obtain⟨y,hy⟩:=ak (show k+1<(y0::ys).length by omega)
   refine J 2 ?_
   refine .p (.jK rfl rfl) ?_
   refine J 9 ?_
   refine .aL (k+1) .auto rfl ?_ ?_ ?_ ?_
   ·simp only[List.length_cons] at h15;omega
   ·simp only[List.length_cons] at h15;omega
   ·refine⟨rfl,?_,trivial⟩
    have:ys[k]?=some y:=by simpa using hy
    rw[aX this,List.foldl_append];rfl
   ·exact fun w s=>ax.kept .auto w s
  ·refine J 12 ?_
   obtain rfl:k=ys.length:=by simp only[List.length_cons] at h15;omega
   refine .aG rfl rfl fun w s=>⟨(),?_,trivial,ai .auto s⟩
   rw[List.take_length];rfl
theorem M9{W:World}{n:Nat}(hn:n≤1000000000):Fn Tryz.prog W 180 [.slice none 0 0,.int .i64 (n:Int)] [] Value (fun u=>u) (fun _=>True) (fun u=>[sl cr 3 u ([]:List Ev)]):=by
 refine Fn.intro (N:=27) func180 rfl ntmps180 rfl fun F=>?_
 show aq _ _ _ _ _ _ [F]
 refine JD 12 (fun h6=>?_) fun h6=>?_
 ·omega
 ·refine J 7 ?_
  refine .p (.yW underlying75 rfl) ?_
  refine JD 13 (fun h16=>?_) fun h16=>?_
  ·refine J 3 ?_
   refine .p (.yW underlying75 rfl) ?_
   refine .p (.jJ 0 underlying75 sizeOf87 rfl rfl rfl (Nat.le_refl _)) ?_
   refine J 1 ?_
   refine .aj rfl (af.Bc (enc:=cr) (k:=3) ⟨0,0,0⟩ n rfl underlying75 underlying3 typeInfo87 rfl rfl rfl rfl (by decide) (by decide) rfl rfl (by omega) (by omega)) ?_
   rintro _ _ ⟨⟨b22,c22⟩,hc22,rfl,rfl⟩
   refine J 2 ?_
   refine .p (.jJ 0 underlying75 sizeOf87 rfl rfl rfl (Nat.zero_le _)) ?_
   refine J 10 ?_
   refine .fr .auto (D3 0 (Nat.zero_le _)) ?_
   refine .aG rfl rfl fun w s=>⟨_,?_,trivial,ai .auto s⟩
   rfl
  ·refine J 9 ?_
   refine .to (A:=sl cr 3 (.slice none 0 0) ([]:List Ev)) (Bs:=[]) .nil (fun h e=>.inl ⟨⟨_,rfl⟩,rfl,e⟩) ?_
   refine .aG rfl rfl fun w s=>⟨_,?_,trivial,ai .auto s⟩
   rfl
theorem DA{W:World}{A:aa}{v:Value}{qs:List (Value×List Ev)}(hr:Rd W [A] ej 1 v qs)(hq:∀ q∈qs,Rd W [A] cr 3 q.1 q.2)(hl:qs.length≤1000000)(hs:(qs.flatMap (·.2)).length≤1000000000):Fn Tryz.prog W 146 [v] [A] Value (fun u=>u) (fun _=>True) (fun u=>[sl cr 3 u (qs.flatMap (·.2)),A]):=by
 refine Fn.intro (N:=36) func146 rfl ntmps146 rfl fun F=>?_
 haveI hRI:∀ (H:List aa) [bf H A],aw W H v ej 1 qs:=fun H h=>⟨hr.at h.has⟩
 show aq _ _ _ _ _ _ [A,F]
 refine J 19 ?_
 refine .bn (X:=Nat) [3,5,11,12,13,14,15,16,17,18,19,20,21,22] (fun k=>qs.length-k) (fun k=>k≤qs.length) (fun k=>[(11,some (.int .i64 (k:Int))),(3,some (.int .i64 ((((qs.take k).flatMap (·.2)).length:Nat):Int)))]) (fun k=>[A,F]) 0 ?_ ?_ ?_ ?_
 ·exact Nat.zero_le _
 ·exact⟨rfl,rfl,trivial⟩
 ·exact fun w s=>ax.kept .auto w s
 rintro k hk
 refine JD 6 (fun h12=>?_) fun h12=>?_
 ·refine J 6 ?_
  obtain⟨q,hx⟩:=ak (show k<qs.length by omega)
  have hqr:=hq q (List.mem_of_getElem? hx)
  have hRq:∀ (H:List aa) [bf H A],aw W H q.1 cr 3 q.2:=fun H h=>⟨hqr.at h.has⟩
  have hle:=CM (f:=fun q:Value×List Ev=>q.2) qs (k+1)
  rw[mR hx,List.length_append] at hle
  refine J 10 ?_
  refine .p (.add rfl rfl (by omega)) ?_
  refine JD 9 (fun h20=>?_) fun h20=>?_
  ·omega
  ·refine J 7 ?_
   refine .aL (k+1) .auto rfl ?_ ?_ ?_ ?_
   ·first | omega | (dsimp only;omega)
   ·omega
   ·refine⟨rfl,?_,trivial⟩
    rw[mR hx,List.length_append,Int.natCast_add];rfl
   ·exact fun w s=>ax.kept .auto w s
 ·refine J 8 ?_
  obtain rfl:k=qs.length:=by omega
  rw[List.take_length]
  refine .c call180 rfl (M9 hs) fun u _=>?_
  refine J 12 ?_
  refine .bn (X:=Nat×Value) [6,8,27,28,29,30,31,32,33,34] (fun z=>qs.length-z.1) (fun z=>z.1≤qs.length) (fun z=>[(27,some (.int .i64 (z.1:Int))),(6,some z.2)]) (fun z=>[sl cr 3 z.2 ((qs.take z.1).flatMap (·.2)),A,F]) (0,u) ?_ ?_ ?_ ?_
  ·exact Nat.zero_le _
  ·exact⟨rfl,rfl,trivial⟩
  ·exact fun w s=>ax.kept .auto w s
  rintro⟨k,u⟩ hk
  simp only at hk
  refine JD 6 (fun h28=>?_) fun h28=>?_
  ·refine J 6 ?_
   obtain⟨q,hx⟩:=ak (show k<qs.length by omega)
   have hqr:=hq q (List.mem_of_getElem? hx)
   have hRq:∀ (H:List aa) [bf H A],aw W H q.1 cr 3 q.2:=fun H h=>⟨hqr.at h.has⟩
   have hle:=CM (f:=fun q:Value×List Ev=>q.2) qs (k+1)
   rw[mR hx,List.length_append] at hle
   refine J 8 ?_
   refine .aj rfl (af.append rfl underlying75 underlying75 typeInfo87 rfl rfl rfl (by decide) rfl rfl .auto Rd.s (by dsimp only;omega) (CL _)) ?_
   rintro _ _ ⟨v33,rfl,rfl⟩
   refine J 8 ?_
   refine .aL (k+1,v33) .auto rfl ?_ ?_ ?_ ?_
   ·show qs.length-(k+1)<qs.length-k;omega
   ·show k+1≤qs.length;omega
   ·exact⟨rfl,rfl,trivial⟩
   ·show ∀ w,Sat _ w _→Sat _ w (seps [sl cr 3 v33 ((qs.take (k+1)).flatMap (·.2)),A,F])
    rw[mR hx]
    exact fun w s=>ax.kept .auto w s
  ·refine J 12 ?_
   obtain rfl:k=qs.length:=by omega
   rw[List.take_length]
   refine .aG rfl rfl fun w s=>⟨_,?_,trivial,ai .auto s⟩
   rfl
theorem ug{W:World}{A:aa}{va vb:Value}{xs ys:List Ev}(ha:Rd W [A] cr 3 va xs)(hb:Rd W [A] cr 3 vb ys)(hl:xs.length+ys.length≤1000000000):Fn Tryz.prog W 95 [va,vb] [A] Value (fun u=>u) (fun _=>True) (fun u=>[sl cr 3 u (xs++ys),A]):=by
 refine Fn.intro (N:=9) func95 rfl ntmps95 rfl fun F=>?_
 show aq _ _ _ _ _ _ [A,F]
 refine .cK (fun w s=>Rd.shape (ha.at .here) w s) fun e=>?_
 obtain⟨a1,c1,rfl⟩:=e
 refine .cK (fun w s=>Rd.shape (hb.at .here) w s) fun e=>?_
 obtain⟨a2,c2,rfl⟩:=e
 refine J 9 ?_
 refine .aj rfl (af.gI 75 rfl rfl (by kernel_rfl)) ?_
 rintro _ _ ⟨b7,rfl,rfl⟩
 refine .aj rfl (af.eH rfl call146 rfl (DA (A:=seps [arr b7 0 [.slice a1 xs.length c1,.slice a2 ys.length c2],A]) (qs:=[(.slice a1 xs.length c1,xs),(.slice a2 ys.length c2,ys)]) (Rd.ez (Rd.lit .here rfl (fun _ _=>rfl) rfl)) (by
   intro q hq
   simp only[List.mem_cons,List.not_mem_nil,or_false] at hq
   rcases hq with rfl | rfl
   ·exact Rd.ez (Rd.at ha (.there .here))
   ·exact Rd.ez (Rd.at hb (.there .here))) (by simp) (by simpa using hl)) .auto) ?_
 rintro _ _ ⟨u, -,rfl,rfl⟩
 rw[show[(Value.slice a1 xs.length c1,xs),(.slice a2 ys.length c2,ys)].flatMap (fun q:Value×List Ev=>q.2)=xs++ys from by simp]
 refine .dq (by repeat (first | exact Take.here | apply Take.there)) ?_
 refine J 4 ?_
 refine .aG rfl rfl fun w s=>⟨_,?_,trivial,ai .auto s⟩
 rfl
theorem Na{W:World}{n:Int}(hn:0≤n∧n≤64):Fn Tryz.prog W 190 [.int .u64 1,.int .u64 n] [] Unit (fun _=>.tuple #[.int .u64 0,.int .u64 n]) (fun _=>True) (fun _=>[]):=by
 refine Fn.intro (N:=51) func190 rfl ntmps190 rfl fun F=>?_
 show aq _ _ _ _ _ _ [F]
 refine J 9 ?_
 refine .p (.fq (Y.La rfl rfl) (qf (by omega))) ?_
 refine J 6 ?_
 refine .p (.fq (Y.Gf rfl rfl (by omega)) (jm (by omega))) ?_
 refine J 6 ?_
 refine .p (.fq (Y.La rfl rfl) (qf (by omega))) ?_
 refine J 6 ?_
 refine .p (.fq (Y.Gf rfl rfl (by omega)) (jm (by omega))) ?_
 refine J 7 ?_
 refine .p (.DZ rfl rfl (by omega)) ?_
 refine J 7 ?_
 refine .p (.DZ rfl rfl (by omega)) ?_
 refine J 1 ?_
 refine .p (.fq (Y.Gf rfl rfl (by omega)) (jm (by omega))) ?_
 refine .p (.AZ rfl rfl (by omega)) ?_
 refine J 6 ?_
 refine .p (.fq (Y.La rfl rfl) (qf (by omega))) ?_
 refine J 6 ?_
 refine .p (.fq (Y.Gf rfl rfl (by omega)) (jm (by omega))) ?_
 refine J 8 ?_
 refine .p (.DZ rfl rfl (by omega)) ?_
 refine .p (.AZ rfl rfl (by omega)) ?_
 refine J 7 ?_
 refine .p (.DZ rfl rfl (by omega)) ?_
 refine J 1 ?_
 refine .p (.AZ rfl rfl (by omega)) ?_
 refine J 1 ?_
 refine .p (.fq (Y.Gf rfl rfl (by omega)) (jm (by omega))) ?_
 refine .p (.AZ rfl rfl (by omega)) ?_
 refine J 7 ?_
 refine .p (.DZ rfl rfl (by omega)) ?_
 refine J 4 ?_
 refine .ey rfl rfl rfl fun w s=>⟨(),?_,trivial,ai .auto s⟩
 simp
theorem NX{W:World}{n:Int}(hn:0≤n∧n≤64):Fn Tryz.prog W 164 [.int .u64 1,.int .u64 n] [] Unit (fun _=>.tuple #[.int .u64 0,.int .u64 n]) (fun _=>True) (fun _=>[]):=by
 refine Fn.intro (N:=30) func164 rfl ntmps164 rfl fun F=>?_
 show aq _ _ _ _ _ _ [F]
 refine J 7 ?_
 refine .ew rfl ?_
 refine J 6 ?_
 refine .c call190 rfl (Na hn) fun _ _=>?_
 exact JR 16 ()
theorem J7{W:World}{A:aa}{v:Value}{a:Int}{n:Nat}(hr:Rd W [A] au 1 v [a])(hn:1≤n∧n≤64):Fn Tryz.prog W 120 [v,.int .i64 (n:Int)] [A] Value (fun u=>u) (fun _=>True) (fun u=>[sl au 1 u (List.replicate n a),A]):=by
 refine Fn.intro (N:=48) func120 rfl ntmps120 rfl fun F=>?_
 haveI hRI:∀ (H:List aa) [bf H A],aw W H v au 1 [a]:=fun H h=>⟨hr.at h.has⟩
 show aq _ _ _ _ _ _ [A,F]
 refine .s (.r (.p (.a rfl) (.n (.t (.s (.s (.r (.p (.m rfl) (.p (.lss rfl rfl) (.n (.t (.dX rfl (fun h10=>?_) (fun h10=>?_)))))))))))))
 ·omega
 ·refine .v (.t (.s (.r (.p (.m rfl) (.p (.len rfl) ?_)))))
  refine .p (.conv underlying3 underlying245 rfl) ?_
  refine .p (.m rfl) ?_
  refine .p (.sP underlying3 underlying245 rfl (by omega)) ?_
  refine .aj rfl (af.eH rfl call164 rfl (NX (n:=(n:Int)) (by omega)) .auto) ?_
  rintro _ _ ⟨⟨⟩, -,rfl,rfl⟩
  refine .p (.m rfl) (.p (.extract rfl rfl) (.p (.extract rfl rfl) (.p (.a rfl) (.p (.a rfl) (.n (.t (.s (.s (.r (.p (.m rfl) (.p (.gtr rfl rfl) (.p (.m rfl) ?_))))))))))))
  refine .ns (t:=23) rfl (fun h22=>?_) (fun h22=>?_)
  ·omega
  ·refine .g (.m rfl) (.g (.gtr rfl rfl) (.p (.u rfl rfl) (.n (.t (.dX rfl (fun h26=>?_) (fun h26=>?_))))))
   ·omega
   ·refine .v (.t (.s (.r (.p (.m rfl) ?_))))
    refine .p (.gW underlying245 underlying3 rfl (by omega)) ?_
    refine .aj rfl (af.F5 (enc:=au) (k:=1) 0 n rfl underlying50 typeInfo3 rfl rfl rfl rfl (by decide) (by decide) rfl rfl rfl rfl (by omega)) ?_
    rintro _ _ ⟨b30,rfl,rfl⟩
    refine .p (.a rfl) (.n (.t (.s (.r (.p (.m rfl) (.p (.m rfl) ?_))))))
    refine .aj rfl (af.Bd (i:=0) rfl underlying50 sizeOf3 rfl rfl Rd.s .auto (by simp) (Nat.zero_le _) (by omega) (oJ _)) ?_
    rintro _ _ ⟨rfl,rfl⟩
    rw[show min [a].length (n-0)=1 from by simp;omega,show(List.replicate n (0:Int)).take 0++([a].take 1++(List.replicate n 0).drop (0+1))=List.replicate 1 a++List.replicate (n-1) 0 from by simp]
    refine .p (.a rfl) (.n (.t (.s (.b ?_))))
    refine .bn (X:=Nat) [8,34,35,36,37,38,39,40,41,42,43,44,45,46] (fun j=>n-j) (fun j=>1≤j∧j≤n) (fun j=>[(8,some (.int .i64 (j:Int)))]) (fun j=>[sl au 1 (.slice (some ⟨b30,0,none⟩) n n) (List.replicate j a++List.replicate (n-j) 0),A,F]) 1 ?_ ?_ ?_ ?_
    ·exact⟨Nat.le_refl _,hn.1⟩
    ·exact⟨rfl,trivial⟩
    ·exact fun w s=>ax.kept .auto w s
    rintro j hj
    refine .s (.s (.r (.p (.m rfl) (.p (.m rfl) (.p (.lens rfl) (.p (.lss rfl rfl) (.n (.t (.dX rfl (fun h37=>?_) (fun h37=>?_))))))))))
    ·refine .v (.t (.b ?_))
     refine .draw [] [0,1,1,1,1,1,1,2,1,1] rfl (by kernel_rfl) ?_
     refine .q (.m rfl) (.p (.m rfl) (.p (.m rfl) ?_))
     refine .p (.Ge j underlying50 sizeOf3 rfl rfl rfl (by omega) (by omega)) ?_
     refine .p (.m rfl) (.p (.m rfl) ?_)
     refine .p (.jJ j underlying50 sizeOf3 rfl rfl rfl (by omega)) ?_
     refine .d2 rfl Kept.auto (af.Bd (enc:=au) (i:=j) (ys:=List.replicate j a) rfl underlying50 sizeOf3 rfl rfl (Rd.rep hj.2 Rd.s) .auto (by simp;omega) (by omega) (by omega) (oJ _)) (by rintro _ _ ⟨rfl,rfl⟩;exact Kept.auto) ?_
     rintro _ _ ⟨rfl,rfl⟩
     refine .p (.add rfl rfl (by omega)) ?_
     refine .p (.a rfl) (.n (.b ?_))
     refine .aL (j+min j (n-j)) .auto rfl ?_ ?_ ?_ ?_
     ·omega
     ·omega
     ·refine⟨?_,trivial⟩
      rw[show(List.replicate j a).length=j from by simp];rfl
     ·show ∀ w,Sat _ w _→Sat _ w (seps [sl au 1 _ (List.replicate (j+min j (n-j)) a++List.replicate (n-(j+min j (n-j))) 0),A,F])
      rw[← Gl j n a hj.2]
      exact fun w s=>ax.kept .auto w s
    ·refine .x (.tx (.tx (.bh (.t (.s (.r (.p (.m rfl) (.p (.a rfl) (.n (.t (.e ?_)))))))))))
     obtain rfl:j=n:=by omega
     rw[Nat.sub_self,List.replicate_zero,List.append_nil]
     refine .aG rfl rfl fun w s=>⟨_,?_,trivial,ai .auto s⟩
     rfl
end Go.SLYthlllpngkljgfaaGreat
namespace Go.SLYthlllpngkljgfaaGreat
open Go Go.RowKit Go.Proofs Go.Proofs.Tryz
attribute [local irreducible] aq aS bc bx bC Y
theorem fJ{W:World}{n m:Int}:Fn Tryz.prog W 167 [.int .i64 n,.int .i64 m] [] Unit (fun _=>.bool (within n m)) (fun _=>True) (fun _=>[]):=by
 refine Fn.intro (N:=12) func167 rfl ntmps167 rfl fun F=>?_
 show aq _ _ _ _ _ _ [F]
 refine J 10 ?_
 apply aS.gz 4 11 7 [7,8,9,10,11] rfl
 ·intro h7
  exact JS 5
 ·intro h7
  exact JS 5
 exact JR 4 ()
theorem pQ{W:World}{n m:Int}:Fn Tryz.prog W 191 [.int .i64 n,.int .i64 m] [] Unit (fun _=>.bool (within n m)) (fun _=>True) (fun _=>[]):=by
 refine Fn.intro (N:=12) func191 rfl ntmps191 rfl fun F=>?_
 show aq _ _ _ _ _ _ [F]
 refine J 10 ?_
 apply aS.gz 4 11 7 [7,8,9,10,11] rfl
 ·intro h7
  exact JS 5
 ·intro h7
  exact JS 5
 exact JR 4 ()
theorem mC{W:World}{n:Int}{b:Bool}:Fn Tryz.prog W 170 [.int .i64 n,.bool b] [] Unit (fun _=>.bool (vB n b)) (fun _=>True) (fun _=>[]):=by
 refine Fn.intro (N:=18) func170 rfl ntmps170 rfl fun F=>?_
 show aq _ _ _ _ _ _ [F]
 refine J 10 ?_
 apply aS.gf 10 17 7 [7,8,9,10,11,12,13,14,15,16,17] rfl
 ·intro h7
  refine J 2 ?_
  apply aS.gd 3 12 9 [9,10,11,12] rfl
  ·intro h9
   refine J 4 ?_
   refine .oy .auto rfl (by first | exact fun _ h=>h | exact ax.kept .auto)
  ·intro h9
   refine J 4 ?_
   refine .oy .auto rfl (by first | exact fun _ h=>h | exact ax.kept .auto)
  refine J 1 ?_
  apply aS.gd 3 16 13 [13,14,15,16] rfl
  ·intro h13
   refine J 4 ?_
   refine .oy .auto rfl (by first | exact fun _ h=>h | exact ax.kept .auto)
  ·intro h13
   refine J 4 ?_
   refine .oy .auto rfl (by first | exact fun _ h=>h | exact ax.kept .auto)
  refine J 2 ?_
  refine .oy .auto rfl (by first | exact fun _ h=>h | exact ax.kept .auto)
 ·intro h7
  refine J 11 ?_
  refine .oy .auto rfl (by first | exact fun _ h=>h | exact ax.kept .auto)
 exact JR 4 ()
theorem lg{W:World}{op:Int}:Fn Tryz.prog W 168 [.int .i64 op] [] Unit (fun _=>.int .i64 (cls op)) (fun _=>True) (fun _=>[]):=by
 refine Fn.intro (N:=24) func168 rfl ntmps168 rfl fun F=>?_
 show aq _ _ _ _ _ _ [F]
 refine J 12 ?_
 apply aS.gz 3 9 6 [6,7,8,9] rfl
 ·intro h6
  exact JS 4
 ·intro h6
  exact JS 4
 refine JD 3 (fun h3=>?_) fun h3=>?_
 ·simp only[Bool.and_eq_true,decide_eq_true_eq] at h3
  refine J 8 ?_
  refine .aG rfl rfl fun w s=>⟨(),?_,trivial,ai .auto s⟩
  refine ze ?_;unfold cls;repeat (first | rw[if_pos (by omega)] | rw[if_neg (by omega)])
 ·simp only[Bool.and_eq_false_iff,decide_eq_false_iff_not] at h3
  refine J 5 ?_
  apply aS.gz 3 16 13 [13,14,15,16] rfl
  ·intro h13
   exact JS 4
  ·intro h13
   exact JS 4
  refine JD 3 (fun h10=>?_) fun h10=>?_
  ·simp only[Bool.and_eq_true,decide_eq_true_eq] at h10
   refine J 8 ?_
   refine .aG rfl rfl fun w s=>⟨(),?_,trivial,ai .auto s⟩
   refine ze ?_;unfold cls;repeat (first | rw[if_pos (by omega)] | rw[if_neg (by omega)])
  ·simp only[Bool.and_eq_false_iff,decide_eq_false_iff_not] at h10
   refine J 5 ?_
   apply aS.gz 3 23 20 [20,21,22,23] rfl
   ·intro h20
    exact JS 4
   ·intro h20
    exact JS 4
   refine JD 3 (fun h17=>?_) fun h17=>?_
   ·simp only[Bool.and_eq_true,decide_eq_true_eq] at h17
    refine J 8 ?_
    refine .aG rfl rfl fun w s=>⟨(),?_,trivial,ai .auto s⟩
    refine ze ?_;unfold cls;repeat (first | rw[if_pos (by omega)] | rw[if_neg (by omega)])
   ·simp only[Bool.and_eq_false_iff,decide_eq_false_iff_not] at h17
    refine J 9 ?_
    refine .aG rfl rfl fun w s=>⟨(),?_,trivial,ai .auto s⟩
    refine ze ?_;unfold cls;repeat (first | rw[if_pos (by omega)] | rw[if_neg (by omega)])
theorem uh{W:World}{f:Form}{n:Int}(hf:f.n≤9223372036854775807):Fn Tryz.prog W 171 [.agg (dZ f).toArray,.int .u64 n] [] Unit (fun _=>.bool (f.below n)) (fun _=>True) (fun _=>[]):=by
 refine Fn.intro (N:=24) func171 rfl ntmps171 rfl fun F=>?_
 show aq _ _ _ _ _ _ [F]
 refine J 2 ?_
 refine .aj rfl (af.box rfl rfl rfl) ?_
 rintro _ _ ⟨b2,rfl,rfl⟩
 refine JD 12 (fun h5=>?_) fun h5=>?_
 ·refine J 8 ?_
  refine .aG rfl rfl fun w s=>⟨(),?_,trivial,ai .auto s⟩
  rw[Form.below,if_pos h5]
 ·refine JD 8 (fun h8=>?_) fun h8=>?_
  ·refine J 10 ?_
   refine .aG rfl rfl fun w s=>⟨(),?_,trivial,ai .auto s⟩
   rw[Form.below,if_neg (by simp[h5]),if_pos h8]
  ·refine J 9 ?_
   apply aS.gz 6 23 17 [17,18,19,20,21,22,23] rfl
   ·intro h17
    refine J 3 ?_
    refine .g (.sP underlying3 underlying110 rfl (by omega)) ?_
    exact JS 3
   ·intro h17
    exact JS 7
   refine J 4 ?_
   refine .aG rfl rfl fun w s=>⟨(),?_,trivial,ai .auto s⟩
   rw[Form.below,if_neg (by simp[h5]),if_neg h8]
theorem J8{W:World}{A:aa}{v:aN}(hp:eM W [A] v){op:Int}:Fn Tryz.prog W 169 [.agg (ed v).toArray,.int .i64 op] [A] Unit (fun _=>.agg (dZ (bR v.p op)).toArray) (fun _=>True) (fun _=>[A]):=by
 refine Fn.intro (N:=73) func169 rfl ntmps169 rfl fun F=>?_
 haveI hI1:∀ (H:List aa) [bf H A],aw W H v.fv ej 1 v.fs:=fun H h=>⟨hp.fs.at h.has⟩
 haveI hI2:∀ (H:List aa) [bf H A],aw W H v.sv au 1 v.bI:=fun H h=>⟨hp.bI.at h.has⟩
 haveI hI3:∀ (H:List aa) [bf H A],aw W H v.pv au 1 v.aZ:=fun H h=>⟨hp.aZ.at h.has⟩
 show aq _ _ _ _ _ _ [A,F]
 refine J 2 ?_
 refine .aj rfl (af.box rfl rfl rfl) ?_
 rintro _ _ ⟨b2,rfl,rfl⟩
 refine .aj rfl (af.alloc rfl zeroValue251 rfl) ?_
 rintro _ _ ⟨b4,rfl,rfl⟩
 refine JD 15 (fun h6=>?_) fun h6=>?_
 ·refine J 2 ?_
  refine .p (.gr (fun v1 v2=>[v1,(.bool false),(.int .i64 0),v2]) rfl rfl (by kernel_rfl)) ?_
  refine J 6 ?_
  refine .dN rfl rfl isAgg251 (by exact sizeOf251) Cells.a fun w s=>⟨(),?_,trivial,ai .auto s⟩
  simp[bR,dZ, *]
 ·refine JD 7 (fun h9=>?_) fun h9=>?_
  ·refine J 2 ?_
   first | refine aq.dX rfl (fun _=>?_) (fun hc=>absurd h9 hc) | refine aq.cond rfl (fun _=>?_) (fun hc=>by rw[h9] at hc;cases hc)
   refine J 2 ?_
   refine .p (.gr (fun v1 v2=>[v1,(.bool false),v2,(.bool false)]) rfl rfl (by kernel_rfl)) ?_
   refine J 6 ?_
   refine .dN rfl rfl isAgg251 (by exact sizeOf251) Cells.a fun w s=>⟨(),?_,trivial,ai .auto s⟩
   simp[bR,dZ, *]
  ·refine JD 6 (fun h9=>?_) fun h9=>?_
   ·refine J 2 ?_
    first | refine aq.dX rfl (fun _=>?_) (fun hc=>absurd h9 hc) | refine aq.cond rfl (fun _=>?_) (fun hc=>by rw[h9] at hc;cases hc)
    refine J 2 ?_
    refine .p (.gr (fun v1 v2=>[v1,(.bool false),v2,(.bool false)]) rfl rfl (by kernel_rfl)) ?_
    refine J 6 ?_
    refine .dN rfl rfl isAgg251 (by exact sizeOf251) Cells.a fun w s=>⟨(),?_,trivial,ai .auto s⟩
    simp[bR,dZ, *]
   ·refine JD 6 (fun h9=>?_) fun h9=>?_
    ·refine J 2 ?_
     first | refine aq.dX rfl (fun _=>?_) (fun hc=>absurd h9 hc) | refine aq.cond rfl (fun _=>?_) (fun hc=>by rw[h9] at hc;cases hc)
     refine J 2 ?_
     refine .p (.gr (fun v1 v2=>[v1,(.bool false),v2,(.bool false)]) rfl rfl (by kernel_rfl)) ?_
     refine J 6 ?_
     refine .dN rfl rfl isAgg251 (by exact sizeOf251) Cells.a fun w s=>⟨(),?_,trivial,ai .auto s⟩
     simp[bR,dZ, *]
    ·refine JD 6 (fun h9=>?_) fun h9=>?_
     ·refine J 2 ?_
      first | refine aq.dX rfl (fun _=>?_) (fun hc=>absurd h9 hc) | refine aq.cond rfl (fun _=>?_) (fun hc=>by rw[h9] at hc;cases hc)
      refine J 2 ?_
      refine .p (.gr (fun v1 v2=>[v1,(.bool false),v2,(.bool false)]) rfl rfl (by kernel_rfl)) ?_
      refine J 6 ?_
      refine .dN rfl rfl isAgg251 (by exact sizeOf251) Cells.a fun w s=>⟨(),?_,trivial,ai .auto s⟩
      simp[bR,dZ, *]
     ·refine JD 6 (fun h9=>?_) fun h9=>?_
      ·refine J 2 ?_
       first | refine aq.dX rfl (fun _=>?_) (fun hc=>absurd h9 hc) | refine aq.cond rfl (fun _=>?_) (fun hc=>by rw[h9] at hc;cases hc)
       refine J 2 ?_
       refine .p (.gr (fun v1 v2=>[v1,(.bool false),v2,(.bool false)]) rfl rfl (by kernel_rfl)) ?_
       refine J 6 ?_
       refine .dN rfl rfl isAgg251 (by exact sizeOf251) Cells.a fun w s=>⟨(),?_,trivial,ai .auto s⟩
       simp[bR,dZ, *]
      ·refine JD 6 (fun h9=>?_) fun h9=>?_
       ·refine J 2 ?_
        first | refine aq.dX rfl (fun _=>?_) (fun hc=>absurd h9 hc) | refine aq.cond rfl (fun _=>?_) (fun hc=>by rw[h9] at hc;cases hc)
        refine J 2 ?_
        refine .p (.gr (fun v1 v2=>[v1,(.bool false),v2,(.bool false)]) rfl rfl (by kernel_rfl)) ?_
        refine J 6 ?_
        refine .dN rfl rfl isAgg251 (by exact sizeOf251) Cells.a fun w s=>⟨(),?_,trivial,ai .auto s⟩
        simp[bR,dZ, *]
       ·refine JD 6 (fun h9=>?_) fun h9=>?_
        ·refine J 2 ?_
         first | refine aq.dX rfl (fun _=>?_) (fun hc=>absurd h9 hc) | refine aq.cond rfl (fun _=>?_) (fun hc=>by rw[h9] at hc;cases hc)
         refine J 2 ?_
         refine .p (.gr (fun v1 v2=>[v1,(.bool false),v2,(.bool false)]) rfl rfl (by kernel_rfl)) ?_
         refine J 6 ?_
         refine .dN rfl rfl isAgg251 (by exact sizeOf251) Cells.a fun w s=>⟨(),?_,trivial,ai .auto s⟩
         simp[bR,dZ, *]
        ·refine JD 5 (fun h9=>?_) fun h9=>?_
         ·refine J 2 ?_
          refine .p (.gr (fun v1 v2=>[v1,(.bool false),v2,(.bool false)]) rfl rfl (by kernel_rfl)) ?_
          refine J 6 ?_
          refine .dN rfl rfl isAgg251 (by exact sizeOf251) Cells.a fun w s=>⟨(),?_,trivial,ai .auto s⟩
          simp[bR,dZ, *]
         ·refine JD 6 (fun h19=>?_) fun h19=>?_
          ·refine J 2 ?_
           refine .p (.hG (fun v1=>[(.int .i64 0),(.bool false),v1,(.bool false)]) rfl (by kernel_rfl)) ?_
           refine J 6 ?_
           refine .dN rfl rfl isAgg251 (by exact sizeOf251) Cells.a fun w s=>⟨(),?_,trivial,ai .auto s⟩
           simp[bR,dZ, *]
          ·refine JD 6 (fun h22=>?_) fun h22=>?_
           ·refine J 2 ?_
            refine .p (.gr (fun v1 v2=>[v1,(.bool false),v2,(.bool false)]) rfl rfl (by kernel_rfl)) ?_
            refine J 6 ?_
            refine .dN rfl rfl isAgg251 (by exact sizeOf251) Cells.a fun w s=>⟨(),?_,trivial,ai .auto s⟩
            simp[bR,dZ, *]
           ·refine JD 6 (fun h25=>?_) fun h25=>?_
            ·refine J 5 ?_
             refine .p (.gr (fun v1 v2=>[v1,(.bool false),v2,(.bool false)]) rfl rfl (by kernel_rfl)) ?_
             refine J 6 ?_
             refine .dN rfl rfl isAgg251 (by exact sizeOf251) Cells.a fun w s=>⟨(),?_,trivial,ai .auto s⟩
             simp[bR,dZ,aN.p, *]
            ·refine JD 7 (fun h31=>?_) fun h31=>?_
             ·refine J 2 ?_
              first | refine aq.dX rfl (fun _=>?_) (fun hc=>absurd h31 hc) | refine aq.cond rfl (fun _=>?_) (fun hc=>by rw[h31] at hc;cases hc)
              refine J 2 ?_
              refine .p (.gr (fun v1 v2=>[v1,(.bool false),v2,(.bool false)]) rfl rfl (by kernel_rfl)) ?_
              refine J 6 ?_
              refine .dN rfl rfl isAgg251 (by exact sizeOf251) Cells.a fun w s=>⟨(),?_,trivial,ai .auto s⟩
              simp[bR,dZ, *]
             ·refine JD 6 (fun h31=>?_) fun h31=>?_
              ·refine J 2 ?_
               first | refine aq.dX rfl (fun _=>?_) (fun hc=>absurd h31 hc) | refine aq.cond rfl (fun _=>?_) (fun hc=>by rw[h31] at hc;cases hc)
               refine J 2 ?_
               refine .p (.gr (fun v1 v2=>[v1,(.bool false),v2,(.bool false)]) rfl rfl (by kernel_rfl)) ?_
               refine J 6 ?_
               refine .dN rfl rfl isAgg251 (by exact sizeOf251) Cells.a fun w s=>⟨(),?_,trivial,ai .auto s⟩
               simp[bR,dZ, *]
              ·refine JD 6 (fun h31=>?_) fun h31=>?_
               ·refine J 2 ?_
                first | refine aq.dX rfl (fun _=>?_) (fun hc=>absurd h31 hc) | refine aq.cond rfl (fun _=>?_) (fun hc=>by rw[h31] at hc;cases hc)
                refine J 2 ?_
                refine .p (.gr (fun v1 v2=>[v1,(.bool false),v2,(.bool false)]) rfl rfl (by kernel_rfl)) ?_
                refine J 6 ?_
                refine .dN rfl rfl isAgg251 (by exact sizeOf251) Cells.a fun w s=>⟨(),?_,trivial,ai .auto s⟩
                simp[bR,dZ, *]
               ·refine JD 6 (fun h31=>?_) fun h31=>?_
                ·refine J 2 ?_
                 first | refine aq.dX rfl (fun _=>?_) (fun hc=>absurd h31 hc) | refine aq.cond rfl (fun _=>?_) (fun hc=>by rw[h31] at hc;cases hc)
                 refine J 2 ?_
                 refine .p (.gr (fun v1 v2=>[v1,(.bool false),v2,(.bool false)]) rfl rfl (by kernel_rfl)) ?_
                 refine J 6 ?_
                 refine .dN rfl rfl isAgg251 (by exact sizeOf251) Cells.a fun w s=>⟨(),?_,trivial,ai .auto s⟩
                 simp[bR,dZ, *]
                ·refine JD 5 (fun h31=>?_) fun h31=>?_
                 ·refine J 2 ?_
                  refine .p (.gr (fun v1 v2=>[v1,(.bool false),v2,(.bool false)]) rfl rfl (by kernel_rfl)) ?_
                  refine J 6 ?_
                  refine .dN rfl rfl isAgg251 (by exact sizeOf251) Cells.a fun w s=>⟨(),?_,trivial,ai .auto s⟩
                  simp[bR,dZ, *]
                 ·refine JD 6 (fun h38=>?_) fun h38=>?_
                  ·refine J 2 ?_
                   refine .p (.hG (fun v1=>[(.int .i64 0),(.bool false),v1,(.bool false)]) rfl (by kernel_rfl)) ?_
                   refine J 6 ?_
                   refine .dN rfl rfl isAgg251 (by exact sizeOf251) Cells.a fun w s=>⟨(),?_,trivial,ai .auto s⟩
                   simp[bR,dZ, *]
                  ·refine JD 7 (fun h41=>?_) fun h41=>?_
                   ·refine J 2 ?_
                    first | refine aq.dX rfl (fun _=>?_) (fun hc=>absurd h41 hc) | refine aq.cond rfl (fun _=>?_) (fun hc=>by rw[h41] at hc;cases hc)
                    refine J 4 ?_
                    refine .p (.hG (fun v1=>[(.int .i64 0),(.bool false),v1,(.bool false)]) rfl (by kernel_rfl)) ?_
                    refine J 6 ?_
                    refine .dN rfl rfl isAgg251 (by exact sizeOf251) Cells.a fun w s=>⟨(),?_,trivial,ai .auto s⟩
                    simp[bR,dZ,aN.p, *]
                   ·refine JD 5 (fun h41=>?_) fun h41=>?_
                    ·refine J 4 ?_
                     refine .p (.hG (fun v1=>[(.int .i64 0),(.bool false),v1,(.bool false)]) rfl (by kernel_rfl)) ?_
                     refine J 6 ?_
                     refine .dN rfl rfl isAgg251 (by exact sizeOf251) Cells.a fun w s=>⟨(),?_,trivial,ai .auto s⟩
                     simp[bR,dZ,aN.p, *]
                    ·refine JD 6 (fun h47=>?_) fun h47=>?_
                     ·refine J 4 ?_
                      refine .p (.gr (fun v1 v2=>[(.int .i64 0),v2,v1,(.bool false)]) rfl rfl (by kernel_rfl)) ?_
                      refine J 6 ?_
                      refine .dN rfl rfl isAgg251 (by exact sizeOf251) Cells.a fun w s=>⟨(),?_,trivial,ai .auto s⟩
                      simp[bR,dZ,aN.p, *]
                     ·refine JD 7 (fun h52=>?_) fun h52=>?_
                      ·refine J 2 ?_
                       first | refine aq.dX rfl (fun _=>?_) (fun hc=>absurd h52 hc) | refine aq.cond rfl (fun _=>?_) (fun hc=>by rw[h52] at hc;cases hc)
                       refine J 4 ?_
                       refine .p (.hG (fun v1=>[(.int .i64 0),(.bool false),v1,(.bool false)]) rfl (by kernel_rfl)) ?_
                       refine J 6 ?_
                       refine .dN rfl rfl isAgg251 (by exact sizeOf251) Cells.a fun w s=>⟨(),?_,trivial,ai .auto s⟩
                       simp[bR,dZ,aN.p, *]
                      ·refine JD 5 (fun h52=>?_) fun h52=>?_
                       ·refine J 4 ?_
                        refine .p (.hG (fun v1=>[(.int .i64 0),(.bool false),v1,(.bool false)]) rfl (by kernel_rfl)) ?_
                        refine J 6 ?_
                        refine .dN rfl rfl isAgg251 (by exact sizeOf251) Cells.a fun w s=>⟨(),?_,trivial,ai .auto s⟩
                        simp[bR,dZ,aN.p, *]
                       ·refine JD 7 (fun h58=>?_) fun h58=>?_
                        ·refine J 2 ?_
                         first | refine aq.dX rfl (fun _=>?_) (fun hc=>absurd h58 hc) | refine aq.cond rfl (fun _=>?_) (fun hc=>by rw[h58] at hc;cases hc)
                         refine J 5 ?_
                         refine .p (.hG (fun v1=>[(.int .i64 0),(.bool false),v1,(.bool false)]) rfl (by kernel_rfl)) ?_
                         refine J 6 ?_
                         refine .dN rfl rfl isAgg251 (by exact sizeOf251) Cells.a fun w s=>⟨(),?_,trivial,ai .auto s⟩
                         simp[bR,dZ,aN.p, *]
                        ·refine JD 5 (fun h58=>?_) fun h58=>?_
                         ·refine J 5 ?_
                          refine .p (.hG (fun v1=>[(.int .i64 0),(.bool false),v1,(.bool false)]) rfl (by kernel_rfl)) ?_
                          refine J 6 ?_
                          refine .dN rfl rfl isAgg251 (by exact sizeOf251) Cells.a fun w s=>⟨(),?_,trivial,ai .auto s⟩
                          simp[bR,dZ,aN.p, *]
                         ·refine JD 7 (fun h65=>?_) fun h65=>?_
                          ·refine J 2 ?_
                           first | refine aq.dX rfl (fun _=>?_) (fun hc=>absurd h65 hc) | refine aq.cond rfl (fun _=>?_) (fun hc=>by rw[h65] at hc;cases hc)
                           refine J 5 ?_
                           refine .p (.gr (fun v1 v2=>[v1,(.bool false),v2,(.bool false)]) rfl rfl (by kernel_rfl)) ?_
                           refine J 6 ?_
                           refine .dN rfl rfl isAgg251 (by exact sizeOf251) Cells.a fun w s=>⟨(),?_,trivial,ai .auto s⟩
                           simp[bR,dZ,aN.p, *]
                          ·refine JD 5 (fun h65=>?_) fun h65=>?_
                           ·refine J 5 ?_
                            refine .p (.gr (fun v1 v2=>[v1,(.bool false),v2,(.bool false)]) rfl rfl (by kernel_rfl)) ?_
                            refine J 6 ?_
                            refine .dN rfl rfl isAgg251 (by exact sizeOf251) Cells.a fun w s=>⟨(),?_,trivial,ai .auto s⟩
                            simp[bR,dZ,aN.p, *]
                           ·refine J 5 ?_
                            refine .p (.gr (fun v1 v2=>[v1,(.bool false),v2,(.bool false)]) rfl rfl (by kernel_rfl)) ?_
                            refine J 4 ?_
                            refine .dN rfl rfl isAgg251 (by exact sizeOf251) Cells.a fun w s=>⟨(),?_,trivial,ai .auto s⟩
                            simp[bR,dZ, *]
theorem BX{W:World}{A:aa}{v:aN}(hp:eM W [A] v){i:Ins}(hb:(bR v.p i.op).n≤9223372036854775807):Fn Tryz.prog W 133 [.agg (ed v).toArray,.agg (dH i).toArray] [A] Unit (fun _=>.bool (iK v.p i)) (fun _=>True) (fun _=>[A]):=by
 refine Fn.intro (N:=56) func133 rfl ntmps133 rfl fun F=>?_
 haveI hI1:∀ (H:List aa) [bf H A],aw W H v.fv ej 1 v.fs:=fun H h=>⟨hp.fs.at h.has⟩
 haveI hI2:∀ (H:List aa) [bf H A],aw W H v.sv au 1 v.bI:=fun H h=>⟨hp.bI.at h.has⟩
 haveI hI3:∀ (H:List aa) [bf H A],aw W H v.pv au 1 v.aZ:=fun H h=>⟨hp.aZ.at h.has⟩
 show aq _ _ _ _ _ _ [A,F]
 refine J 2 ?_
 refine .aj rfl (af.box rfl rfl rfl) ?_
 rintro _ _ ⟨b2,rfl,rfl⟩
 refine .aj rfl (af.box rfl rfl rfl) ?_
 rintro _ _ ⟨b3,rfl,rfl⟩
 refine J 8 ?_
 refine .c call168 rfl lg fun _ _=>?_
 refine JD 3 (fun h10=>?_) fun h10=>?_
 ·refine J 7 ?_
  refine .aG rfl rfl fun w s=>⟨(),?_,trivial,ai .auto s⟩
  rw[iK,if_pos h10]
 ·refine J 7 ?_
  refine .c call169 rfl (J8 hp) fun _ _=>?_
  refine .aj rfl (af.alloc rfl zeroValue251 rfl) ?_
  rintro _ _ ⟨b5,rfl,rfl⟩
  refine J 10 ?_
  refine .c call170 rfl mC fun _ _=>?_
  refine JD 10 (fun h22=>?_) fun h22=>?_
  ·refine J 5 ?_
   apply aS.gz 6 32 26 [26,27,28,29,30,31,32] rfl
   ·intro h26
    exact JS 7
   ·intro h26
    exact JS 7
   refine J 10 ?_
   refine .c call170 rfl mC fun _ _=>?_
   refine J 1 ?_
   apply aS.gd 7 46 39 [39,40,41,42,43,44,45,46] rfl
   ·intro h39
    refine J 5 ?_
    refine .cg call170 rfl mC fun _ _=>?_
    exact JS 2
   ·intro h39
    exact JS 8
   refine J 1 ?_
   apply aS.gd 2 49 47 [47,48,49] rfl
   ·intro h47
    exact JS 3
   ·intro h47
    exact JS 3
   refine J 1 ?_
   apply aS.gd 5 55 50 [50,51,52,53,54,55] rfl
   ·intro h50
    refine J 3 ?_
    refine .cg call171 rfl (uh hb) fun _ _=>?_
    exact JS 2
   ·intro h50
    exact JS 6
   refine J 4 ?_
   refine .aG rfl rfl fun w s=>⟨(),?_,trivial,ai .auto s⟩
   refine Lb ?_;rw[iK,if_neg h10];simp only[h22,if_true];try rfl
  ·refine J 9 ?_
   refine .c call170 rfl mC fun _ _=>?_
   refine J 1 ?_
   apply aS.gd 7 46 39 [39,40,41,42,43,44,45,46] rfl
   ·intro h39
    refine J 5 ?_
    refine .cg call170 rfl mC fun _ _=>?_
    exact JS 2
   ·intro h39
    exact JS 8
   refine J 1 ?_
   apply aS.gd 2 49 47 [47,48,49] rfl
   ·intro h47
    exact JS 3
   ·intro h47
    exact JS 3
   refine J 1 ?_
   apply aS.gd 5 55 50 [50,51,52,53,54,55] rfl
   ·intro h50
    refine J 3 ?_
    refine .cg call171 rfl (uh hb) fun _ _=>?_
    exact JS 2
   ·intro h50
    exact JS 6
   refine J 4 ?_
   refine .aG rfl rfl fun w s=>⟨(),?_,trivial,ai .auto s⟩
   refine Lb ?_;rw[iK,if_neg h10];simp only[h22,if_false,Bool.false_eq_true];try rfl
theorem E5{W:World}{A:aa}{v:aN}(hp:eM W [A] v)(hl:v.fs.length≤1000000000∧v.bI.length≤1000000000∧v.aZ.length≤1000000000):Fn Tryz.prog W 132 [.agg (ed v).toArray] [A] Unit (fun _=>.bool (gX v.p)) (fun _=>True) (fun _=>[A]):=by
 refine Fn.intro (N:=102) func132 rfl ntmps132 rfl fun F=>?_
 haveI hI1:∀ (H:List aa) [bf H A],aw W H v.fv ej 1 v.fs:=fun H h=>⟨hp.fs.at h.has⟩
 haveI hI2:∀ (H:List aa) [bf H A],aw W H v.sv au 1 v.bI:=fun H h=>⟨hp.bI.at h.has⟩
 haveI hI3:∀ (H:List aa) [bf H A],aw W H v.pv au 1 v.aZ:=fun H h=>⟨hp.aZ.at h.has⟩
 show aq _ _ _ _ _ _ [A,F]
 refine J 2 ?_
 refine .aj rfl (af.box rfl rfl rfl) ?_
 rintro _ _ ⟨b1,rfl,rfl⟩
 refine J 10 ?_
 apply aS.gz 5 19 14 [14,15,16,17,18,19] rfl
 ·intro h14
  exact JS 6
 ·intro h14
  exact JS 6
 refine J 1 ?_
 apply aS.gd 4 24 20 [20,21,22,23,24] rfl
 ·intro h20
  refine J 2 ?_
  refine .cg call167 rfl fJ fun _ _=>?_
  exact JS 2
 ·intro h20
  exact JS 5
 refine J 1 ?_
 apply aS.gd 4 29 25 [25,26,27,28,29] rfl
 ·intro h25
  refine J 2 ?_
  refine .cg call167 rfl fJ fun _ _=>?_
  exact JS 2
 ·intro h25
  exact JS 5
 refine J 1 ?_
 apply aS.gd 4 34 30 [30,31,32,33,34] rfl
 ·intro h30
  refine J 2 ?_
  refine .cg call167 rfl fJ fun _ _=>?_
  exact JS 2
 ·intro h30
  exact JS 5
 refine J 1 ?_
 apply aS.gd 4 39 35 [35,36,37,38,39] rfl
 ·intro h35
  refine J 2 ?_
  refine .cg call167 rfl fJ fun _ _=>?_
  exact JS 2
 ·intro h35
  exact JS 5
 refine J 1 ?_
 apply aS.gd 4 44 40 [40,41,42,43,44] rfl
 ·intro h40
  refine J 2 ?_
  refine .cg call167 rfl fJ fun _ _=>?_
  exact JS 2
 ·intro h40
  exact JS 5
 refine J 1 ?_
 apply aS.gd 5 50 45 [45,46,47,48,49,50] rfl
 ·intro h45
  exact JS 6
 ·intro h45
  exact JS 6
 refine J 1 ?_
 apply aS.gd 5 56 51 [51,52,53,54,55,56] rfl
 ·intro h51
  exact JS 6
 ·intro h51
  exact JS 6
 refine J 13 ?_
 refine .bn (X:=Nat×Bool) [3,5,60,61,62,63,64,65,66,67,68,69,70] (fun z=>v.fs.length-z.1) (fun z=>z.1≤v.fs.length∧z.2=qg v z.1) (fun z=>[(60,some (.int .i64 (z.1:Int))),(3,some (.bool z.2))]) (fun z=>[arr b1 0 (ed v),A,F]) (0,Be v) ?_ ?_ ?_ ?_
 ·exact⟨Nat.zero_le _,by simp[qg]⟩
 ·exact⟨rfl,rfl,trivial⟩
 ·exact fun w s=>ax.kept .auto w s
 rintro⟨k,y⟩ ⟨hk,hy⟩
 simp only at hk hy
 refine JD 6 (fun h61=>?_) fun h61=>?_
 ·refine J 6 ?_
  obtain⟨x,hx⟩:=ak (show k<v.fs.length by omega)
  have hi:=hp.ins x (List.mem_of_getElem? hx)
  haveI hI4:∀ (H:List aa) [bf H A],aw W H x.1 dH 5 x.2:=fun H h=>⟨hi.at h.has⟩
  refine J 8 ?_
  apply aS.gd 4 69 65 [65,66,67,68,69] rfl
  ·intro h65
   exact JS 5
  ·intro h65
   exact JS 5
  refine J 8 ?_
  refine .aL (k+1,(y && decide ((x.2.length:Int)≤256))) .auto rfl ?_ ?_ ?_ ?_
  ·show v.fs.length-(k+1)<v.fs.length-k;omega
  ·refine⟨by show k+1≤_;omega,?_⟩
   rw[qg,j8 hx,hy,qg]
   simp only[Bool.and_assoc]
  ·exact⟨rfl,rfl,trivial⟩
  ·exact fun w s=>ax.kept .auto w s
 ·refine J 15 ?_
  obtain rfl:k=v.fs.length:=by omega
  refine .bn (X:=Nat×Bool) [3,7,74,75,76,77,78,79,80,81,82,83] (fun z=>v.bI.length-z.1) (fun z=>z.1≤v.bI.length∧z.2=qh v z.1) (fun z=>[(74,some (.int .i64 (z.1:Int))),(3,some (.bool z.2))]) (fun z=>[arr b1 0 (ed v),A,F]) (0,y) ?_ ?_ ?_ ?_
  ·exact⟨Nat.zero_le _,by rw[qh,hy];simp⟩
  ·exact⟨rfl,rfl,trivial⟩
  ·exact fun w s=>ax.kept .auto w s
  rintro⟨k,y⟩ ⟨hk,hy⟩
  simp only at hk hy
  refine JD 6 (fun h75=>?_) fun h75=>?_
  ·refine J 6 ?_
   obtain⟨x,hx⟩:=ak (show k<v.bI.length by omega)
   refine J 8 ?_
   apply aS.gd 3 82 79 [79,80,81,82] rfl
   ·intro h79
    refine J 1 ?_
    refine .cg call167 rfl fJ fun _ _=>?_
    exact JS 2
   ·intro h79
    exact JS 4
   refine J 8 ?_
   refine .aL (k+1,(y && within x 1048576)) .auto rfl ?_ ?_ ?_ ?_
   ·show v.bI.length-(k+1)<v.bI.length-k;omega
   ·refine⟨by show k+1≤_;omega,?_⟩
    rw[qh,j8 hx,hy,qh]
    simp only[Bool.and_assoc]
   ·exact⟨rfl,rfl,trivial⟩
   ·exact fun w s=>ax.kept .auto w s
  ·refine J 15 ?_
   obtain rfl:k=v.bI.length:=by omega
   refine .bn (X:=Nat×Bool) [3,9,87,88,89,90,91,92,93,94,95,96,97,98,99,100] (fun z=>v.aZ.length-z.1) (fun z=>z.1≤v.aZ.length∧z.2=qi v z.1) (fun z=>[(87,some (.int .i64 (z.1:Int))),(3,some (.bool z.2))]) (fun z=>[arr b1 0 (ed v),A,F]) (0,y) ?_ ?_ ?_ ?_
   ·exact⟨Nat.zero_le _,by rw[qi,hy];simp⟩
   ·exact⟨rfl,rfl,trivial⟩
   ·exact fun w s=>ax.kept .auto w s
   rintro⟨k,y⟩ ⟨hk,hy⟩
   simp only at hk hy
   refine JD 6 (fun h88=>?_) fun h88=>?_
   ·refine J 6 ?_
    obtain⟨x,hx⟩:=ak (show k<v.aZ.length by omega)
    refine J 8 ?_
    apply aS.gd 3 95 92 [92,93,94,95] rfl
    ·intro h92
     exact JS 4
    ·intro h92
     exact JS 4
    refine J 1 ?_
    apply aS.gd 3 99 96 [96,97,98,99] rfl
    ·intro h96
     refine J 1 ?_
     refine .cg call167 rfl fJ fun _ _=>?_
     exact JS 2
    ·intro h96
     exact JS 4
    refine J 8 ?_
    refine .aL (k+1,((y && decide (0<x)) && within x 8)) .auto rfl ?_ ?_ ?_ ?_
    ·show v.aZ.length-(k+1)<v.aZ.length-k;omega
    ·refine⟨by show k+1≤_;omega,?_⟩
     rw[qi,j8 hx,hy,qi]
     simp only[Bool.and_assoc]
    ·exact⟨rfl,rfl,trivial⟩
    ·exact fun w s=>ax.kept .auto w s
   ·refine J 12 ?_
    obtain rfl:k=v.aZ.length:=by omega
    refine .aG rfl rfl fun w s=>⟨(),?_,trivial,ai .auto s⟩
    rw[hy,Gn]
theorem BY{W:World}{A:aa}{v:aN}(hp:eM W [A] v)(hl:v.fs.length≤1000000000∧v.bI.length≤1000000000∧v.aZ.length≤1000000000):Fn Tryz.prog W 72 [.agg (ed v).toArray] [A] Unit (fun _=>.int .i64 (de v.p)) (fun _=>True) (fun _=>[A]):=by
 refine Fn.intro (N:=29) func72 rfl ntmps72 rfl fun F=>?_
 haveI hI1:∀ (H:List aa) [bf H A],aw W H v.fv ej 1 v.fs:=fun H h=>⟨hp.fs.at h.has⟩
 haveI hI2:∀ (H:List aa) [bf H A],aw W H v.sv au 1 v.bI:=fun H h=>⟨hp.bI.at h.has⟩
 haveI hI3:∀ (H:List aa) [bf H A],aw W H v.pv au 1 v.aZ:=fun H h=>⟨hp.aZ.at h.has⟩
 show aq _ _ _ _ _ _ [A,F]
 refine J 2 ?_
 refine .aj rfl (af.box rfl rfl rfl) ?_
 rintro _ _ ⟨b1,rfl,rfl⟩
 refine J 7 ?_
 refine .c call132 rfl (E5 hp hl) fun _ _=>?_
 refine JD 3 (fun h9=>?_) fun h9=>?_
 ·refine J 7 ?_
  rw[Bool.not_eq_true'] at h9
  refine .aG rfl rfl fun w s=>⟨(),?_,trivial,ai .auto s⟩
  refine ze ?_;unfold de;rw[if_neg (by rw[h9];simp)]
 ·refine J 12 ?_
  rw[Bool.not_eq_false'] at h9
  refine .bn (X:=Nat) [2,4,6,13,14,15,16,17,18,19,20,21,22,23,24,25,26,27,28] (fun k=>v.fs.length-k) (fun k=>k≤v.fs.length∧(v.fs.take k).all (fun f:Value×List Ins=>f.2.all (iK v.p))=true) (fun k=>[(13,some (.int .i64 (k:Int)))]) (fun k=>[arr b1 0 (ed v),A,F]) 0 ?_ ?_ ?_ ?_
  ·exact⟨Nat.zero_le _,rfl⟩
  ·exact⟨rfl,trivial⟩
  ·exact fun w s=>ax.kept .auto w s
  rintro k ⟨hk,hs⟩
  refine JD 6 (fun h14=>?_) fun h14=>?_
  ·refine J 6 ?_
   obtain⟨x,hx⟩:=ak (show k<v.fs.length by omega)
   have hi:=hp.ins x (List.mem_of_getElem? hx)
   haveI hI4:∀ (H:List aa) [bf H A],aw W H x.1 dH 5 x.2:=fun H h=>⟨hi.at h.has⟩
   have hx256:x.2.length≤256:=CO h9 (List.mem_of_getElem? hx)
   refine J 13 ?_
   refine .bn (X:=Nat) [2,6,19,20,21,22,23,24,25,26,27] (fun j=>x.2.length-j) (fun j=>j≤x.2.length∧(x.2.take j).all (iK v.p)=true) (fun j=>[(19,some (.int .i64 (j:Int)))]) (fun j=>[arr b1 0 (ed v),A,F]) 0 ?_ ?_ ?_ ?_
   ·exact⟨Nat.zero_le _,rfl⟩
   ·exact⟨rfl,trivial⟩
   ·exact fun w s=>ax.kept .auto w s
   rintro j ⟨hj0,hsj⟩
   refine JD 6 (fun h20=>?_) fun h20=>?_
   ·refine J 6 ?_
    obtain⟨i,hj⟩:=ak (show j<x.2.length by omega)
    refine J 2 ?_
    refine .aj rfl (af.alloc rfl zeroValue112 rfl) ?_
    rintro _ _ ⟨b6,rfl,rfl⟩
    refine J 7 ?_
    refine .c call133 rfl (BX hp (D4 h9 _)) fun _ _=>?_
    refine JD 3 (fun h26=>?_) fun h26=>?_
    ·refine J 15 ?_
     rw[Bool.not_eq_true'] at h26
     refine .aG rfl rfl fun w s=>⟨(),?_,trivial,ai .auto s⟩
     exact ze (D5 h9 hx hj h26).symm
    ·refine J 7 ?_
     rw[Bool.not_eq_false'] at h26
     refine .aL (j+1) .auto rfl ?_ ?_ ?_ ?_
     ·first | omega | (dsimp only;omega)
     ·exact⟨by omega,by rw[j8 hj,hsj,h26];rfl⟩
     ·exact⟨rfl,trivial⟩
     ·exact fun w s=>ax.kept .auto w s
   ·refine J 10 ?_
    obtain rfl:j=x.2.length:=by omega
    rw[List.take_length] at hsj
    refine .aL (k+1) .auto rfl ?_ ?_ ?_ ?_
    ·first | omega | (dsimp only;omega)
    ·exact⟨by omega,by rw[j8 hx,hs,hsj];rfl⟩
    ·exact⟨rfl,trivial⟩
    ·exact fun w s=>ax.kept .auto w s
  ·refine J 11 ?_
   obtain rfl:k=v.fs.length:=by omega
   rw[List.take_length] at hs
   refine .aG rfl rfl fun w s=>⟨(),?_,trivial,ai .auto s⟩
   exact ze (Gp h9 hs).symm
end Go.SLYthlllpngkljgfaaGreat
namespace Go.SLYthlllpngkljgfaaGreat
open Go Go.RowKit Go.Proofs Go.Proofs.Tryz
attribute [local irreducible] aq aS bc bx bC Y
theorem oe{W:World}{n m:Int}:Fn Tryz.prog W 134 [.int .i64 n,.int .i64 m] [] Unit (fun _=>.int .i64 (aQ n m)) (fun _=>True) (fun _=>[]):=by
 refine Fn.intro (N:=9) func134 rfl ntmps134 rfl fun F=>?_
 show aq _ _ _ _ _ _ [F]
 refine J 8 ?_
 refine .p (.oK rfl rfl) ?_
 refine J 1 ?_
 refine .p (.jK rfl rfl) ?_
 exact JR 4 ()
theorem Ig{W:World}{n:Int}:Fn Tryz.prog W 73 [.int .i64 n] [] Nat (fun b=>ptr b) (fun _=>True) (fun b=>[lL b (List.replicate (aQ n 1024).toNat (false,0))]):=by
 refine Fn.intro (N:=9) func73 rfl ntmps73 rfl fun F=>?_
 show aq _ _ _ _ _ _ [F]
 refine J 8 ?_
 refine .p (.oK rfl rfl) ?_
 refine .p (.jK rfl rfl) ?_
 have hc:(aQ n 1024).toNat≤1024:=by unfold aQ;omega
 refine .aj rfl (af.F5 (enc:=Jf) (k:=2) (false,0) (aQ n 1024).toNat rfl underlying193 typeInfo257 rfl rfl rfl rfl (by decide) (by decide) rfl rfl (by unfold aQ;omega) (by unfold aQ;omega) (by omega)) ?_
 rintro _ _ ⟨b6,rfl,rfl⟩
 refine .p (.hG (fun v1=>[v1]) rfl (by kernel_rfl)) ?_
 refine .aj rfl (af.box rfl rfl rfl) ?_
 rintro _ _ ⟨b8,rfl,rfl⟩
 exact JR 4 b8
theorem Ih{W:World}{n:Int}:Fn Tryz.prog W 75 [.int .i64 n] [] Nat (fun b=>ptr b) (fun _=>True) (fun b=>[oH b (kF.new n)]):=by
 refine Fn.intro (N:=9) func75 rfl ntmps75 rfl fun F=>?_
 show aq _ _ _ _ _ _ [F]
 refine J 8 ?_
 refine .p (.oK rfl rfl) ?_
 refine .p (.jK rfl rfl) ?_
 have hc:(aQ n 64).toNat≤64:=by unfold aQ;omega
 refine .aj rfl (af.F5 (enc:=cO) (k:=1) (0:Int) (aQ n 64).toNat rfl underlying47 typeInfo110 rfl rfl rfl rfl (by decide) (by decide) rfl rfl (by unfold aQ;omega) (by unfold aQ;omega) (by omega)) ?_
 rintro _ _ ⟨b6,rfl,rfl⟩
 refine .p (.hG (fun v1=>[v1,(.slice none 0 0)]) rfl (by kernel_rfl)) ?_
 refine .aj rfl (af.box rfl rfl rfl) ?_
 rintro _ _ ⟨b8,rfl,rfl⟩
 exact JR 4 b8
theorem Ii{W:World}{n:Int}:Fn Tryz.prog W 79 [.int .i64 n] [] Nat (fun b=>ptr b) (fun _=>True) (fun b=>[iv b (Tub.new n)]):=by
 refine Fn.intro (N:=8) func79 rfl ntmps79 rfl fun F=>?_
 show aq _ _ _ _ _ _ [F]
 refine J 8 ?_
 refine .p (.oK rfl rfl) ?_
 refine .p (.jK rfl rfl) ?_
 refine .p (.hG (fun v1=>[v1,(.slice none 0 0),(.slice none 0 0),(.slice none 0 0)]) rfl (by kernel_rfl)) ?_
 refine .aj rfl (af.box rfl rfl rfl) ?_
 rintro _ _ ⟨b7,rfl,rfl⟩
 exact JR 4 b7
theorem E6{W:World}  : Fn Tryz.prog W 136 [] [] Nat (fun b=>ptr b) (fun _=>True) (fun b=>[fp b []]):=by
 refine Fn.intro (N:=3) func136 rfl ntmps136 rfl fun F=>?_
 show aq _ _ _ _ _ _ [F]
 refine J 7 ?_
 refine .p (.lR ([(.slice none 0 0)]) (by kernel_rfl)) ?_
 refine .aj rfl (af.box rfl rfl rfl) ?_
 rintro _ _ ⟨b2,rfl,rfl⟩
 exact JR 4 b2
theorem E7{W:World}  : Fn Tryz.prog W 76 [] [] Nat (fun b=>ptr b) (fun _=>True) (fun b=>[nK b lJ.new]):=by
 refine Fn.intro (N:=4) func76 rfl ntmps76 rfl fun F=>?_
 show aq _ _ _ _ _ _ [F]
 refine J 7 ?_
 refine .aj rfl (af.makeMap rfl) ?_
 rintro _ _ ⟨m1,rfl,rfl⟩
 refine .p (.hG (fun v1=>[(.int .i64 0),v1]) rfl (by kernel_rfl)) ?_
 refine .aj rfl (af.box rfl rfl rfl) ?_
 rintro _ _ ⟨b3,rfl,rfl⟩
 refine J 4 ?_
 refine .to (A:=nJ m1 []) (Bs:=[jk m1 (.map #[] 0)]) .auto (fun h a=>⟨[],0,⟨rfl,List.nodup_nil,fun e he=>(by cases he),List.nodup_nil⟩,a⟩) ?_
 exact JR 0 b3
theorem rz{W:World}{o:Bool×Int}{n:Nat}(ho:0≤o.2∧o.2<2199023255552)(hn:n<65536):Fn Tryz.prog W 172 [.agg (Jf o).toArray,.int .i64 (n:Int)] [] Unit (fun _=>.int .u64 (ei o.2 n)) (fun _=>True) (fun _=>[]):=by
 refine Fn.intro (N:=12) func172 rfl ntmps172 rfl fun F=>?_
 show aq _ _ _ _ _ _ [F]
 refine J 2 ?_
 refine .aj rfl (af.box rfl rfl rfl) ?_
 rintro _ _ ⟨b2,rfl,rfl⟩
 refine J 7 ?_
 refine .p (.DZ rfl rfl (by omega)) ?_
 refine J 1 ?_
 refine .p (.sP underlying3 underlying110 rfl (by omega)) ?_
 refine .p (.AZ rfl rfl (by omega)) ?_
 refine .p (.AZ rfl rfl (by omega)) ?_
 exact JR 4 ()
theorem E8{W:World}{b:Nat}{l:List (Bool×Int)}(hl:jo l):Fn Tryz.prog W 135 [ptr b] [lL b l] Unit (fun _=>.tuple #[.int .i64 (ek l).1,.int .u64 (ek l).2.1,.int .i64 (ek l).2.2.1]) (fun _=>True) (fun _=>[lL b (ek l).2.2.2]):=by
 refine Fn.intro (N:=45) func135 rfl ntmps135 rfl fun F=>?_
 show aq _ _ _ _ _ _ [lL b l,F]
 refine .o1 (C:=lL b l) .auto rfl ?_
 rintro v -
 obtain⟨hl1,hl2⟩:=hl
 refine J 14 ?_
 refine .ew rfl ?_
 refine J 14 ?_
 refine .bn (X:=Nat) [2,3,4,5,6,14,15,16,17,18,19,20,21,22,23,24,25,26,27,28,29,30,31,32,33,34,35,36,37,38,39,40,41,42,43,44] (fun k=>l.length-k) (fun k=>k≤l.length∧slotFree? l 0=slotFree? (l.drop k) k) (fun k=>[(14,some (.int .i64 (k:Int)))]) (fun k=>[arr b 0 [v],sl Jf 2 v l,F]) 0 ?_ ?_ ?_ ?_
 ·exact⟨Nat.zero_le _,by simp⟩
 ·exact⟨rfl,trivial⟩
 ·exact fun w s=>ax.kept .auto w s
 rintro k ⟨hk,hn⟩
 refine JD 6 (fun h15=>?_) fun h15=>?_
 ·refine J 17 ?_
  obtain⟨o,hx⟩:=ak (show k<l.length by omega)
  have ho:=hl2 o (List.mem_of_getElem? hx)
  refine JD 13 (fun h27=>?_) fun h27=>?_
  ·refine J 2 ?_
   have hu:o.1=false:=by simpa using h27
   obtain⟨o1,o2⟩:=o
   have hu:o1=false:=hu
   subst hu
   have hx2:(l.set k (true,o2))[k]?=some (true,o2):=za hx
   have hx3:((l.set k (true,o2)).set k (true,o2+1))[k]?=some (true,o2+1):=za hx2
   refine J 3 ?_
   refine .aj rfl (af.eG (x':=(true,o2)) rfl rfl sizeOf4 rfl hx (by decide) rfl (by repeat (first | exact gp.here | apply gp.there))) ?_
   rintro _ _ ⟨rfl,rfl⟩
   refine J 7 ?_
   refine .p (.ld rfl (Cell.rd Rd.s ‹_› (by rfl))) ?_
   refine .p (.AZ rfl rfl (by simp only at ho;omega)) ?_
   refine J 2 ?_
   refine .aj rfl (af.kD (c:=1) (x':=(true,o2+1)) rfl rfl sizeOf110 rfl hx2 (by decide) rfl (by repeat (first | exact gp.here | apply gp.there))) ?_
   rintro _ _ ⟨rfl,rfl⟩
   refine J 9 ?_
   refine .c call172 rfl (rz (o:=(true,o2+1)) (n:=k) (by simp only at ho ⊢;omega) (by omega)) fun _ _=>?_
   refine J 11 ?_
   have e:ek l=((k:Int),ei (o2+1) k,0,(l.set k (true,o2)).set k (true,o2+1)):=by
    unfold ek;rw[hn,Gs hx rfl];simp only[List.getD_eq_getElem?_getD,hx,List.set_set];rfl
   rw[e]
   refine .j5 rfl rfl rfl rfl fun w s=>⟨(),?_,trivial,ai .auto s⟩
   rfl
  ·refine J 7 ?_
   refine .aL (k+1) .auto rfl ?_ ?_ ?_ ?_
   ·first | omega | (dsimp only;omega)
   ·exact⟨by omega,hn.trans (D9 hx (by simpa using h27))⟩
   ·exact⟨rfl,trivial⟩
   ·exact fun w s=>ax.kept .auto w s
 ·refine J 13 ?_
  rw[show ek l=(0,0,2,l) from by unfold ek;rw[hn,Gt (by omega)]]
  refine .j5 rfl rfl rfl rfl fun w s=>⟨(),?_,trivial,ai .auto s⟩
  rfl
theorem ui{W:World}{b:Nat}{ps:List (Option Nat)}{s:Spc}{f arg:Int}(hT:jo s.table)(hl:s.aF.length=16)(hf:∀ n,slotFree? s.table 0=some n→s.aF[n]?=some none):Fn Tryz.prog W 80 [ptr b,.int .i64 f,.int .u64 arg] [cB b ps s] (List (Option Nat)) (fun _=>.tuple #[.int .i64 (s.begin f arg).1,.int .i64 (s.begin f arg).2.1]) (fun qs=>∃ p,qs=mS s.table ps p) (fun qs=>[cB b qs (s.begin f arg).2.2]):=by
 refine Fn.intro (N:=45) func80 rfl ntmps80 rfl fun F=>?_
 show aq _ _ _ _ _ _ [cB b ps s,F]
 refine .jA (C:=cB b ps s) .auto rfl ?_
 rintro fv sv pv bt vm bg vt bd bw vr -
 refine .cK (fun w s=>s.fact .auto jb) fun hs=>?_
 refine J 12 ?_
 refine .c call135 rfl (E8 hT) fun _ _=>?_
 refine JD 16 (fun h22=>?_) fun h22=>?_
 ·refine J 9 ?_
  obtain⟨hn,e⟩:=zh h22
  rw[e,j9 hn]
  refine .ey rfl rfl rfl fun w s=>⟨ps,?_,⟨0,by unfold mS;rw[hn]⟩,ai .auto s⟩
  rfl
 ·refine J 4 ?_
  obtain⟨n,hn,e⟩:=zg (Decidable.of_not_not h22)
  have hfn:=hf n hn
  have hn16:n<16:=hl ▸ (List.getElem?_eq_some_iff.1 hfn).1
  rw[e,eU hn]
  refine J 1 ?_
  refine .p (.xk (fun v1 v2 v3=>[(.int .i64 0),(.int .i64 0),(.int .u64 0),(.int .u64 0),(.int .u64 0),(.int .u64 0),(.int .u64 0),(.int .u64 0),(.int .u64 0),(.int .u64 0),v1,(.int .i64 0),(.int .u64 0),(.bool false),v2,(.int .i64 0),v3,(.int .u64 0)]) rfl rfl rfl (by kernel_rfl)) ?_
  refine .aj rfl (af.box rfl rfl rfl) ?_
  rintro _ _ ⟨b26,rfl,rfl⟩
  refine J 20 ?_
  refine .p (.dF _ underlying163 sizeOf110 rfl rfl rfl (by first | omega | decide)) ?_
  refine J 10 ?_
  refine .p (.dF n underlying134 sizeOf133 rfl rfl rfl (by omega)) ?_
  refine .aj rfl (af.st sizeOf133 rfl rfl rfl (Nat.blt_eq.mpr (by show 9+n * 1<31;omega))) ?_
  rintro _ _ ⟨rfl,rfl⟩
  rw[Nat.mul_one]
  have e9:=@zf fv sv pv s.eT bt ps vm bg vt bd bw vr n (by omega) (hs.1.trans hl) (some b26)
  rw[show dO (some b26)=Value.pointer (some ⟨b26,0,none⟩) from rfl] at e9
  rw[e9]
  refine J 10 ?_
  refine .to (A:=aA (ps.set n (some b26)) (s.aF.set n (some (rG f arg (ei ((s.table.getD n (false,0)).2+1) n))))) (Bs:=[arr b26 0 (bj (rG f arg (ei ((s.table.getD n (false,0)).2+1) n))),aA ps s.aF]) .auto (Gv hfn) ?_
  refine .ey rfl rfl rfl fun w s=>⟨ps.set n (some b26),?_,⟨b26,by unfold mS;rw[hn]⟩,ai .auto s⟩
  rfl
theorem lh{W:World}{b:Nat}{ps:List (Option Nat)}{s:Spc}(hl:s.aF.length=16):Fn Tryz.prog W 44 [ptr b] [cB b ps s] Value (fun u=>u) (fun _=>True) (fun u=>[sl au 1 u s.ready,cB b ps s]):=by
 refine Fn.intro (N:=31) func44 rfl ntmps44 rfl fun F=>?_
 show aq _ _ _ _ _ _ [cB b ps s,F]
 refine .jA (C:=cB b ps s) .auto rfl ?_
 rintro fv sv pv bt vm bg vt bd bw vr -
 refine .cK (fun w s=>s.fact .auto jb) fun hs=>?_
 refine J 12 ?_
 refine .ew rfl ?_
 refine J 13 ?_
 refine .p (.la rfl (Cells.lQ (ds:=MF ps) Cells.a rfl)) ?_
 refine J 4 ?_
 refine .bn (X:=Nat×Value×List Int) [3,4,5,12,13,14,15,16,17,18,19,20,21,22,23,24,25,26,27,28,29] (fun z=>16-z.1) (fun z=>z.1≤16∧z.2.2.length≤z.1∧s.ready=z.2.2++readyFrom (s.aF.drop z.1) z.1) (fun z=>[(12,some (.int .i64 (z.1:Int))),(3,some z.2.1)]) (fun z=>[sl au 1 z.2.1 z.2.2,arr b 0 (fo fv sv pv s.eT bt ps vm bg vt bd bw vr),y8 fv s.eT.funcs,lL bt s.table,aA ps s.aF,sl cO 1 vm s.mem,cv bg s.al,oG vt s.cc,oH bd s.bZ,nK bw s.aT,sl cP 6 vr s.av,F]) (0,.slice none 0 0,[]) ?_ ?_ ?_ ?_
 ·exact⟨Nat.zero_le _,Nat.le_refl _,rfl⟩
 ·exact⟨rfl,rfl,trivial⟩
 ·exact fun w s=>ax.kept .auto w s
 rintro⟨k,u,xs⟩ ⟨hk,hxl,hn⟩
 simp only at hk hxl hn
 refine JD 6 (fun h13=>?_) fun h13=>?_
 ·refine J 7 ?_
  have hk16:k<16:=by omega
  refine .p (.index k underlying134 isAgg133 sizeOf133 rfl rfl rfl hk16 (by rw[List.getElem?_toArray];exact Gr ps hk16)) ?_
  refine J 9 ?_
  apply aS.gd 6 24 18 [18,19,20,21,22,23,24] rfl
  ·intro h18
   refine J 1 ?_
   have h18':((ps.getD k none).map fun b=>(⟨b,0,none⟩:Addr)).isNone=false:=by simpa using h18
   obtain⟨p,t,hp,ht⟩:=vD hs (by omega) h18'
   rw[bA hp]
   refine J 2 ?_
   refine .g (.fq (Y.load isAgg3 rfl (Cell.Nu (by repeat (first | exact At.here | refine At.there ?_)) (D7 hp ht) rfl)) (Bg ht)) ?_
   exact JS 3
  ·intro h18
   exact JS 7
  refine JD 2 (fun h24=>?_) fun h24=>?_
  ·simp only[Bool.and_eq_true,decide_eq_true_eq,Bool.not_eq_true'] at h24
   refine J 3 ?_
   refine .aj rfl (af.gI 3 rfl rfl (by kernel_rfl)) ?_
   rintro _ _ ⟨b27,rfl,rfl⟩
   refine .aj rfl (af.gg (enc:=au) (k:=1) (k:Int) rfl underlying50 underlying50 typeInfo3 rfl rfl rfl (by decide) rfl rfl rfl .auto rfl .auto (by first | omega | (dsimp only;omega)) rfl) ?_
   rintro _ _ ⟨v28,rfl,rfl⟩
   refine J 8 ?_
   refine .aL (k+1,v28,xs++[(k:Int)]) .auto rfl ?_ ?_ ?_ ?_
   ·show 16-(k+1)<16-k;omega
   ·exact⟨by show k+1≤16;omega,by simp;omega,by rw[hn,Jl hs (by omega) h24];simp⟩
   ·exact⟨rfl,rfl,trivial⟩
   ·exact fun w s=>ax.kept .auto w s
  ·simp only[Bool.and_eq_false_iff,decide_eq_false_iff_not,Bool.not_eq_false'] at h24
   refine J 7 ?_
   refine .aL (k+1,u,xs) .auto rfl ?_ ?_ ?_ ?_
   ·show 16-(k+1)<16-k;omega
   ·exact⟨by show k+1≤16;omega,by show xs.length≤k+1;omega,by rw[hn,Lc hs (by omega) h24]⟩
   ·exact⟨rfl,rfl,trivial⟩
   ·exact fun w s=>ax.kept .auto w s
 ·refine J 12 ?_
  obtain rfl:k=16:=by omega
  rw[Eb (by omega),List.append_nil] at hn
  subst hn
  refine .aG rfl rfl fun w s=>⟨_,?_,trivial,ai .auto s⟩
  rfl
theorem Ij{W:World}{A:aa}{m c:Int}{v:Value}{bI:List Int}(hr:Rd W [A] au 1 v bI):Fn Tryz.prog W 74 [.int .i64 m,.int .i64 c,v] [A] Nat (fun b=>ptr b) (fun _=>True) (fun b=>[cv b (Gates.new m c bI),A]):=by
 refine Fn.intro (N:=42) func74 rfl ntmps74 rfl fun F=>?_
 haveI hRI:∀ (H:List aa) [bf H A],aw W H v au 1 bI:=fun H h=>⟨hr.at h.has⟩
 show aq _ _ _ _ _ _ [A,F]
 refine J 6 ?_
 refine .vz [] [0,2,4,0,2,4,0,4,0] [0,1,3,4,2,5,6,7,8] rfl (by kernel_rfl) ?_
 refine bC.q rfl rfl rfl Kept.auto (Y.m rfl) ?_
 refine bC.eH rfl (.inl rfl) rfl (fun _=>Kept.auto) call134 rfl oe .auto (fun _ _=>Kept.auto) ?_
 rintro⟨⟩ -
 refine bC.q rfl rfl rfl Kept.auto (Y.m rfl) ?_
 refine bC.eH rfl (.inl rfl) rfl (fun _=>Kept.auto) call134 rfl oe .auto (fun _ _=>Kept.auto) ?_
 rintro⟨⟩ -
 refine bC.fresh rfl rfl rfl (by decide) Kept.auto (kG (enc:=lM) (k:=3) ((Value.slice none 0 0:Value),(⟨[],false,0⟩:eI)) (aQ m 4).toNat underlying196 typeInfo328 rfl rfl rfl rfl (by decide) (by decide) rfl rfl (by unfold aQ;omega) (by unfold aQ;omega) (by unfold aQ;omega)) ?_
 rintro b12
 refine bC.fresh rfl rfl rfl (by decide) Kept.auto (kG (enc:=ej) (k:=1) ((Value.slice none 0 0:Value),([]:List eS)) (aQ c 4).toNat underlying198 typeInfo204 rfl rfl rfl rfl (by decide) (by decide) rfl rfl (by unfold aQ;omega) (by unfold aQ;omega) (by unfold aQ;omega)) ?_
 rintro b15
 refine bC.q rfl rfl rfl Kept.auto (Y.gr (fun v1 v2=>[v1,v2,(.slice none 0 0)]) rfl rfl (by kernel_rfl)) ?_
 refine bC.fresh rfl rfl rfl (by decide) Kept.auto (qj rfl rfl) ?_
 rintro b17
 refine bC.q rfl rfl rfl Kept.auto (Y.a rfl) ?_
 refine bC.nil ?_
 refine J 4 ?_
 refine .to (A:=sl lM 3 (.slice (some ⟨b12,0,none⟩) (aQ m 4).toNat (aQ m 4).toNat) (List.replicate (aQ m 4).toNat ((Value.slice none 0 0:Value),(⟨[],false,0⟩:eI)))) .auto (rP rfl) ?_
 refine .to (A:=sl ej 1 (.slice (some ⟨b15,0,none⟩) (aQ c 4).toNat (aQ c 4).toNat) (List.replicate (aQ c 4).toNat ((Value.slice none 0 0:Value),([]:List eS)))) .auto (rP rfl) ?_
 have hr4:=hr.cut (lo:=0) (hi:=min bI.length 4) (Nat.zero_le _) (by omega)
 rw[List.drop_zero,show bI.take (min bI.length 4)=bI.take 4 from by rw[List.take_eq_take_iff];omega] at hr4
 haveI hI4:∀ (H:List aa) [bf H A],aw W H (cut 1 0 (min bI.length 4) v) au 1 (bI.take 4):=fun H h=>⟨hr4.at h.has⟩
 refine J 3 ?_
 refine .p (.jK rfl rfl) ?_
 refine .p (.sliceTo (min bI.length 4) underlying50 sizeOf3 rfl rfl Rd.s (by omega) (by omega)) ?_
 refine J 5 ?_
 refine .bn (X:=Nat×Value) [9,24,25,26,27,28,29,30,31,32,33,34,35,36,37,38,39,40] (fun z=>(bI.take 4).length-z.1) (fun z=>z.1≤(bI.take 4).length) (fun z=>[(24,some (.int .i64 (z.1:Int)))]) (fun z=>[arr b17 0 [.slice (some ⟨b12,0,none⟩) (aQ m 4).toNat (aQ m 4).toNat,.slice (some ⟨b15,0,none⟩) (aQ c 4).toNat (aQ c 4).toNat,z.2],sl lV 2 z.2 (((bI.take 4).take z.1).map (fun n=>((Value.slice none 0 0:Value),(⟨[],aQ n 1048576⟩:kz)))),sl lM 3 (.slice (some ⟨b12,0,none⟩) (aQ m 4).toNat (aQ m 4).toNat) (List.replicate (aQ m 4).toNat ((Value.slice none 0 0:Value),(⟨[],false,0⟩:eI))),sl ej 1 (.slice (some ⟨b15,0,none⟩) (aQ c 4).toNat (aQ c 4).toNat) (List.replicate (aQ c 4).toNat ((Value.slice none 0 0:Value),([]:List eS))),A,F]) (0,.slice none 0 0) ?_ ?_ ?_ ?_
 ·exact Nat.zero_le _
 ·exact⟨rfl,trivial⟩
 ·exact fun w s=>ax.kept .auto w s
 rintro⟨k,u⟩ hk
 simp only at hk
 have h4:(bI.take 4).length≤4:=by simp;omega
 have h44:((bI.take 4).take k).length≤4:=by simp;omega
 refine JD 6 (fun h25=>?_) fun h25=>?_
 ·refine J 6 ?_
  obtain⟨x,hx⟩:=ak (show k<(bI.take 4).length by omega)
  refine J 5 ?_
  refine .draw [arr b17 0 [.slice (some ⟨b12,0,none⟩) (aQ m 4).toNat (aQ m 4).toNat,.slice (some ⟨b15,0,none⟩) (aQ c 4).toNat (aQ c 4).toNat,u]] [0,0,0,0,0,1,2,1,2,2,1,1,3] rfl (by kernel_rfl) ?_
  refine J 6 ?_
  refine .c2 call134 rfl oe fun _ _=>?_
  refine .p (.hG (fun v1=>[(.slice none 0 0),v1]) rfl (by kernel_rfl)) ?_
  refine .d2 rfl Kept.auto (af.gI 206 rfl rfl (by kernel_rfl)) (by rintro _ _ ⟨b36,rfl,rfl⟩;exact Kept.auto) ?_
  rintro _ _ ⟨b36,rfl,rfl⟩
  refine .d2 rfl Kept.auto (af.gg (enc:=lV) (k:=2) ((Value.slice none 0 0:Value),(⟨[],aQ x 1048576⟩:kz)) rfl underlying199 underlying199 typeInfo206 rfl rfl rfl (by decide) rfl rfl rfl .auto rfl .auto (by rw[List.length_map];dsimp only;omega) rfl) (by rintro _ _ ⟨v37,rfl,rfl⟩;exact Kept.auto) ?_
  rintro _ _ ⟨v37,rfl,rfl⟩
  refine J 2 ?_
  refine .d3 rfl (af.lY sizeOf199 rfl rfl rfl) ?_
  rintro _ _ ⟨rfl,rfl⟩
  refine J 7 ?_
  refine .aL (k+1,v37) .auto rfl ?_ ?_ ?_ ?_
  ·show(bI.take 4).length-(k+1)<(bI.take 4).length-k;omega
  ·show k+1≤_;omega
  ·exact⟨rfl,trivial⟩
  ·show ∀ w,Sat _ w _→Sat _ w (seps [_,sl lV 2 v37 (((bI.take 4).take (k+1)).map (fun n=>((Value.slice none 0 0:Value),(⟨[],aQ n 1048576⟩:kz)))),_,_,A,F])
   rw[Bh hx]
   exact fun w s=>ax.kept .auto w s
 ·refine J 12 ?_
  obtain rfl:k=(bI.take 4).length:=by omega
  rw[List.take_length]
  refine .aG rfl rfl fun w s=>⟨b17,?_,trivial,ai (by repeat (first | exact ax.nil | (apply ax.cons; · repeat (first | exact Take.here | apply Take.there)) | apply ax.Jm | apply ax.Jn | apply ax.void | apply ax.Jk | apply ax.two | (apply ax.Gq; · exact ij) | (apply ax.allM; · exact fun _=>ij) | apply ax.f1 rfl | apply ax.f2 rfl | apply ax.f3 rfl | apply ax.f4 rfl | apply ax.f10 rfl | apply ax.ez | assumption | exact trivial | rfl | omega | (focus (simp[Gates.new];done)) | (unfold Gates.new;simp only[List.map_map];rfl))) s⟩
  rfl
theorem Ai{W:World}{A:aa}{v:aN}(hp:eM W [A] v)(hl:v.fs.length≤1000000000∧v.bI.length≤1000000000∧v.aZ.length≤1000000000):Fn Tryz.prog W 29 [.agg (ed v).toArray] [A] (Option Nat) (fun o=>.tuple #[dO o,.int .i64 (de v.p)]) (fun o=>o.isSome=decide (de v.p=0)) (fun o=>[optH (fun b=>ca b (Spc.new v.p)) o,A]):=by
 refine Fn.intro (N:=83) func29 rfl ntmps29 rfl fun F=>?_
 haveI hI1:∀ (H:List aa) [bf H A],aw W H v.fv ej 1 v.fs:=fun H h=>⟨hp.fs.at h.has⟩
 haveI hI2:∀ (H:List aa) [bf H A],aw W H v.sv au 1 v.bI:=fun H h=>⟨hp.bI.at h.has⟩
 haveI hI3:∀ (H:List aa) [bf H A],aw W H v.pv au 1 v.aZ:=fun H h=>⟨hp.aZ.at h.has⟩
 show aq _ _ _ _ _ _ [A,F]
 refine .cK (fun w s=>Jo hp .here w s) fun hone=>?_
 refine J 2 ?_
 refine .aj rfl (af.box rfl rfl rfl) ?_
 rintro _ _ ⟨b1,rfl,rfl⟩
 refine J 8 ?_
 refine .c call72 rfl (BY hp hl) fun _ _=>?_
 refine JD 9 (fun h13=>?_) fun h13=>?_
 ·refine J 9 ?_
  refine .ey rfl rfl rfl fun w s=>⟨none,?_,(decide_eq_false h13).symm,ai .auto s⟩
  rfl
 ·refine J 3 ?_
  refine .vz [arr b1 0 (ed v)] [0,2,0,0,4,0,0,0,0,0,0,2,0,0,2,2,0,4,0] [0,1,2,3,5,6,7,8,9,10,11,12,13,14,15,4,16,17,18] rfl (by kernel_rfl) ?_
  have hcs:=s5 (s6 (Decidable.of_not_not h13))
  have hw:0≤v.words∧v.words≤64:=hcs.2.2.1
  have hf8:v.fs.length≤8:=by simpa [aN.p] using hcs.2.1
  have hp4:v.aZ.length≤4:=hcs.2.2.2.2.2.2.2.2.1
  refine bC.q rfl rfl rfl Kept.auto (Y.FZ isAgg56 rfl Cells.a (by exact sizeOf56)) ?_
  refine bC.eH rfl (.inl rfl) rfl (fun _=>Kept.auto) call73 rfl Ig .auto (fun _ _=>Kept.auto) ?_
  rintro x16 -
  refine bC.q rfl rfl rfl Kept.auto (Y.et 1 3 underlying56 rfl sizeOf3 rfl) ?_
  refine bC.q rfl rfl rfl Kept.auto (Y.load isAgg3 rfl (Cell.a (by rfl))) ?_
  refine bC.q rfl rfl rfl Kept.auto (Y.et 2 3 underlying56 rfl sizeOf3 rfl) ?_
  refine bC.q rfl rfl rfl Kept.auto (Y.load isAgg3 rfl (Cell.a (by rfl))) ?_
  refine bC.q rfl rfl rfl Kept.auto (Y.et 3 3 underlying56 rfl sizeOf3 rfl) ?_
  refine bC.q rfl rfl rfl Kept.auto (Y.load isAgg3 rfl (Cell.a (by rfl))) ?_
  refine bC.q rfl rfl rfl Kept.auto (Y.et 4 50 underlying56 rfl sizeOf50 rfl) ?_
  refine bC.q rfl rfl rfl Kept.auto (Y.load isAgg50 rfl (Cell.a (by rfl))) ?_
  refine bC.eH rfl (.inl rfl) rfl (fun _=>Kept.auto) call74 rfl (Ij hp.bI) .auto (fun _ _=>Kept.auto) ?_
  rintro x26 -
  refine bC.q rfl rfl rfl Kept.auto (Y.et 6 3 underlying56 rfl sizeOf3 rfl) ?_
  refine bC.q rfl rfl rfl Kept.auto (Y.load isAgg3 rfl (Cell.a (by rfl))) ?_
  refine bC.eH rfl (.inl rfl) rfl (fun _=>Kept.auto) call75 rfl Ih .auto (fun _ _=>Kept.auto) ?_
  rintro x29 -
  refine bC.eH rfl (.inl rfl) rfl (fun _=>Kept.auto) call76 rfl E7 .auto (fun _ _=>Kept.auto) ?_
  rintro x30 -
  refine bC.fresh rfl rfl rfl (by decide) Kept.auto (kG (enc:=cO) (k:=1) 0 v.words.toNat underlying47 typeInfo110 rfl rfl rfl rfl (by decide) (by decide) rfl rfl (by omega) (by omega) (by omega)) ?_
  rintro b19
  refine bC.q rfl rfl rfl Kept.auto (Y.MB (fun _ v2 v3 v4 v5 v6=>[v.fv,.int .i64 v.words,.int .i64 v.bu,.int .i64 v.conds,v.sv,v.pv,.int .i64 v.blocks,.int .i64 v.prio,v2,.pointer none,.pointer none,.pointer none,.pointer none,.pointer none,.pointer none,.pointer none,.pointer none,.pointer none,.pointer none,.pointer none,.pointer none,.pointer none,.pointer none,.pointer none,.pointer none,v3,v4,.slice none 0 0,v5,v6,.slice none 0 0]) rfl rfl rfl rfl rfl rfl (by kernel_rfl)) ?_
  refine bC.fresh rfl rfl rfl (by decide) Kept.auto (qj rfl rfl) ?_
  rintro b32
  refine bC.q rfl rfl rfl Kept.auto (Y.a rfl) ?_
  refine bC.nil ?_
  refine J 3 ?_
  refine .to (A:=sl cO 1 (.slice (some ⟨b19,0,none⟩) v.words.toNat v.words.toNat) (List.replicate v.words.toNat 0)) .auto (rP rfl) ?_
  refine J 3 ?_
  refine .c call77 rfl (J6 hp.fs hl.1 hone) fun u36 _=>?_
  refine J 3 ?_
  refine .aj rfl (af.lY sizeOf54 rfl rfl rfl) ?_
  rintro _ _ ⟨rfl,rfl⟩
  refine J 15 ?_
  refine .bn (X:=Nat×List (Value×List Ins)) [6,7,46,47,48,49,50,51,52,53,54,55,56,57,58,59,60] (fun z=>v.fs.length-z.1) (fun z=>z.1≤v.fs.length∧z.2.length=z.1∧z.2.map (·.2)=(v.fs.take z.1).map (·.2)) (fun z=>[(46,some (.int .i64 (z.1:Int)))]) (fun z=>[arr b32 0 [u36,.int .i64 v.words,.int .i64 v.bu,.int .i64 v.conds,v.sv,v.pv,.int .i64 v.blocks,.int .i64 v.prio,ptr x16,.pointer none,.pointer none,.pointer none,.pointer none,.pointer none,.pointer none,.pointer none,.pointer none,.pointer none,.pointer none,.pointer none,.pointer none,.pointer none,.pointer none,.pointer none,.pointer none,.slice (some ⟨b19,0,none⟩) v.words.toNat v.words.toNat,ptr x26,.slice none 0 0,ptr x29,ptr x30,.slice none 0 0],sl ej 1 u36 (z.2++v.fs.drop z.1),aD (fun x=>sl dH 5 x.1 x.2) z.2,sl cO 1 (.slice (some ⟨b19,0,none⟩) v.words.toNat v.words.toNat) (List.replicate v.words.toNat 0),lL x16 (List.replicate (aQ 16 1024).toNat (false,0)),cv x26 (Gates.new v.bu v.conds v.bI),oH x29 (kF.new v.blocks),nK x30 lJ.new,arr b1 0 (ed v),A,F]) (0,[]) ?_ ?_ ?_ ?_
  ·exact⟨Nat.zero_le _,rfl,by simp⟩
  ·exact⟨rfl,trivial⟩
  ·exact fun w s=>ax.kept .auto w s
  rintro⟨k,cl⟩ ⟨hk,hcl,hcm⟩
  simp only at hk hcl hcm
  refine JD 6 (fun h47=>?_) fun h47=>?_
  ·refine J 7 ?_
   obtain⟨x,hx⟩:=ak (show k<v.fs.length by omega)
   have hx2:=Gw hcl hx
   have hi:=hp.ins x (List.mem_of_getElem? hx)
   have hx256:x.2.length≤256:=CO (s6 (Decidable.of_not_not h13)) (List.mem_of_getElem? hx)
   refine .p (.ix k rfl rfl rfl (by simp;omega)) ?_
   refine J 5 ?_
   refine .draw [arr b32 0 [u36,.int .i64 v.words,.int .i64 v.bu,.int .i64 v.conds,v.sv,v.pv,.int .i64 v.blocks,.int .i64 v.prio,ptr x16,.pointer none,.pointer none,.pointer none,.pointer none,.pointer none,.pointer none,.pointer none,.pointer none,.pointer none,.pointer none,.pointer none,.pointer none,.pointer none,.pointer none,.pointer none,.pointer none,.slice (some ⟨b19,0,none⟩) v.words.toNat v.words.toNat,ptr x26,.slice none 0 0,ptr x29,ptr x30,.slice none 0 0],sl ej 1 u36 (cl++v.fs.drop k)] [0,0,0,0,0,0,1,2,1,3] rfl (by kernel_rfl) ?_
   refine J 7 ?_
   refine .c2 call78 rfl (L4 hi (by omega)) fun u58 _=>?_
   refine .cK (fun w s=>Rd.isSl (Rd.sl .here) w s) fun hu58=>?_
   refine .p (.ix k rfl rfl rfl (by simp;omega)) ?_
   refine .d3 rfl (af.eG (x':=(u58,x.2)) rfl rfl sizeOf113 (gb hu58) (Gw hcl hx) (by decide) rfl (by repeat (first | exact gp.here | apply gp.there))) ?_
   rintro _ _ ⟨rfl,rfl⟩
   refine J 7 ?_
   refine .aL (k+1,cl++[(u58,x.2)]) .auto rfl ?_ ?_ ?_ ?_
   ·show v.fs.length-(k+1)<v.fs.length-k;omega
   ·exact⟨by show k+1≤_;omega,by simp[hcl],by rw[aX hx];simp[hcm]⟩
   ·exact⟨rfl,trivial⟩
   ·show ∀ w,Sat _ w _→Sat _ w (seps [_,sl ej 1 u36 ((cl++[(u58,x.2)])++v.fs.drop (k+1)),aD (fun x=>sl dH 5 x.1 x.2) (cl++[(u58,x.2)]),_,_,_,_,_,_,A,F])
    rw[← Jp hcl hx,j7]
    exact fun w s=>ax.kept .auto w s
  ·refine J 15 ?_
   obtain rfl:k=v.fs.length:=by omega
   rw[List.drop_length,List.append_nil]
   refine .bn (X:=Nat×Value×List (Nat×Tub)) [9,64,65,66,67,68,69,70,71,72,73,74,75,76,77,78,79] (fun z=>v.aZ.length-z.1) (fun z=>z.1≤v.aZ.length∧z.2.2.length=z.1∧z.2.2.map (·.2)=(v.aZ.take z.1).map Tub.new) (fun z=>[(64,some (.int .i64 (z.1:Int)))]) (fun z=>[arr b32 0 [u36,.int .i64 v.words,.int .i64 v.bu,.int .i64 v.conds,v.sv,v.pv,.int .i64 v.blocks,.int .i64 v.prio,ptr x16,.pointer none,.pointer none,.pointer none,.pointer none,.pointer none,.pointer none,.pointer none,.pointer none,.pointer none,.pointer none,.pointer none,.pointer none,.pointer none,.pointer none,.pointer none,.pointer none,.slice (some ⟨b19,0,none⟩) v.words.toNat v.words.toNat,ptr x26,z.2.1,ptr x29,ptr x30,.slice none 0 0],sl bH 1 z.2.1 z.2.2,aD (fun x=>iv x.1 x.2) z.2.2,sl ej 1 u36 cl,aD (fun x=>sl dH 5 x.1 x.2) cl,sl cO 1 (.slice (some ⟨b19,0,none⟩) v.words.toNat v.words.toNat) (List.replicate v.words.toNat 0),lL x16 (List.replicate (aQ 16 1024).toNat (false,0)),cv x26 (Gates.new v.bu v.conds v.bI),oH x29 (kF.new v.blocks),nK x30 lJ.new,arr b1 0 (ed v),A,F]) (0,.slice none 0 0,[]) ?_ ?_ ?_ ?_
   ·exact⟨Nat.zero_le _,rfl,by simp⟩
   ·exact⟨rfl,trivial⟩
   ·exact fun w s=>ax.kept .auto w s
   rintro⟨k,vt,ts⟩ ⟨hk,htl,htm⟩
   simp only at hk htl htm
   refine JD 6 (fun h65=>?_) fun h65=>?_
   ·refine J 6 ?_
    obtain⟨x,hx⟩:=ak (show k<v.aZ.length by omega)
    refine J 5 ?_
    refine .draw [arr b32 0 [u36,.int .i64 v.words,.int .i64 v.bu,.int .i64 v.conds,v.sv,v.pv,.int .i64 v.blocks,.int .i64 v.prio,ptr x16,.pointer none,.pointer none,.pointer none,.pointer none,.pointer none,.pointer none,.pointer none,.pointer none,.pointer none,.pointer none,.pointer none,.pointer none,.pointer none,.pointer none,.pointer none,.pointer none,.slice (some ⟨b19,0,none⟩) v.words.toNat v.words.toNat,ptr x26,vt,ptr x29,ptr x30,.slice none 0 0]] [0,0,0,0,0,1,2,2,2,1,1,3] rfl (by kernel_rfl) ?_
    refine J 6 ?_
    refine .c2 call79 rfl Ii fun x74 _=>?_
    refine .d2 rfl Kept.auto (af.gI 140 rfl rfl (by kernel_rfl)) (by rintro _ _ ⟨b75,rfl,rfl⟩;exact Kept.auto) ?_
    rintro _ _ ⟨b75,rfl,rfl⟩
    refine .d2 rfl Kept.auto (af.gg (enc:=bH) (k:=1) ((x74,Tub.new x):Nat×Tub) rfl underlying135 underlying135 typeInfo140 rfl rfl rfl (by decide) rfl rfl rfl .auto rfl .auto (by first | omega | (dsimp only;omega)) rfl) (by rintro _ _ ⟨v76,rfl,rfl⟩;exact Kept.auto) ?_
    rintro _ _ ⟨v76,rfl,rfl⟩
    refine J 2 ?_
    refine .d3 rfl (af.lY sizeOf135 rfl rfl rfl) ?_
    rintro _ _ ⟨rfl,rfl⟩
    refine J 7 ?_
    refine .aL (k+1,v76,ts++[(x74,Tub.new x)]) .auto rfl ?_ ?_ ?_ ?_
    ·show v.aZ.length-(k+1)<v.aZ.length-k;omega
    ·exact⟨by show k+1≤_;omega,by simp[htl],by rw[aX hx];simp[htm]⟩
    ·exact⟨rfl,trivial⟩
    ·show ∀ w,Sat _ w _→Sat _ w (seps [_,sl bH 1 v76 (ts++[(x74,Tub.new x)]),aD (fun x=>iv x.1 x.2) (ts++[(x74,Tub.new x)]),_,_,_,_,_,_,_,_,A,F])
     rw[j7]
     exact fun w s=>ax.kept .auto w s
   ·refine J 8 ?_
    obtain rfl:k=v.aZ.length:=by omega
    have htm2:ts.map (·.2)=(xy v.p).cc:=by rw[htm,List.take_length];rfl
    have hcm2:cl.map (·.2)=(xy v.p).eT.funcs:=by rw[hcm,List.take_length];rfl
    refine .c call80 rfl (ui (ps:=List.replicate 16 none) (s:=xy v.p) (Ec _) rfl (Ed _)) fun qs _=>?_
    refine J 10 ?_
    refine .ey rfl rfl rfl fun w s=>⟨some b32,?_,(decide_eq_true (Decidable.of_not_not h13)).symm,ai .auto s⟩
    rw[Decidable.of_not_not h13];rfl
end Go.SLYthlllpngkljgfaaGreat
