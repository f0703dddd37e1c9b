/- Walks of functions, and what they compute. Conditions: none, this text proves no statement. -/
import Derived.Test.YtpbjdoplfgeliaaGreatG06
import Derived.Test.YtpbjdoplfgeliaaGreatProg
import Derived.KernelRfl
set_option maxRecDepth 20000
set_option maxHeartbeats 4000000
namespace Go.SLYtpbjdoplfgeliaaGreat
open Go Go.RowKit
inductive FD:Nat→Prop where
 | mk (n:Nat):FD n
theorem FD.s{n:Nat}(_:FD (n+1)):FD n:=.mk n
structure Hid(G:Prop):Prop where
 go:G
inductive MB{X:Type}:X→Prop where
 | mk (x:X):MB x
section
variable{P:Program}{W:World}{N:Nat}{Q:Exit→Act→World→Prop}{L:List (Nat×Option Value)}{H:List aa}{O:Array Oper}{T:TypeId}{K:List aa}{ks:List Nat}{rest:List Oper}
theorem Y.y{op:Op}{v:Value}(h:Y P W N op T L H v:=by first | exact .m rfl | exact .a rfl | exact .n rfl | exact .l rfl | exact .z rfl | exact .f rfl | exact .o rfl | exact .eql rfl rfl | exact .t rfl rfl | exact .u rfl rfl | exact .lr rfl ‹_› | exact .lA rfl | exact .len rfl | exact .lss rfl rfl | exact .extract rfl rfl | exact .OD rfl rfl | exact .neq rfl rfl | exact .NF rfl | exact .not rfl | exact .geq rfl rfl | exact .gtr rfl rfl | exact .leq rfl rfl | exact .N8 rfl rfl | exact .lo rfl | exact .lz rfl | exact .lens rfl | exact .la rfl (Cells.rd Rd.s ‹_›) | exact .ix _ rfl rfl rfl (by first | omega | decide) | exact .inc rfl rfl (by omega) | exact .sub rfl rfl (by omega)):Y P W N op T L H v:=h
theorem aR.c{f:FuncId}{xs:Array Operand}{ts:Array TypeId}{pos:String}{after:Array Edge}{d:Nat}{args:List Value}{pre R:List aa}{X:Type}{val:X→Value}{fact:X→Prop}{post:X→List aa}
  (hc:∀ args w,(callFunc f args).run P w = .ok (.enter f args) w) (hx:evs L xs.toList=some args) (hfn:Fn P W f args pre X val fact post) (h:∀ x,fact x→aR P W N O Q rest ((d,some (val x))::L) (post x++R)) (ht:aw H pre R:=by exact aw.auto) (hN:Nat.blt d N=true:=by rfl):aR P W N O Q (⟨some d,.call ⟨.value (.func f),xs,ts⟩,T,pos,after,none⟩::rest) L H :=
 .ai rfl (af.eH hN hc hx hfn ht) fun _ _ e=>by obtain⟨y,hy,rfl,rfl⟩:=e;exact h y hy
theorem aR.cg{f:FuncId}{xs:Array Operand}{ts:Array TypeId}{pos:String}{after:Array Edge}{d j t:Nat}{want:Bool}{args:List Value}{pre R:List aa}{X:Type}{val:X→Value}{fact:X→Prop}{post:X→List aa}
  (hc:∀ args w,(callFunc f args).run P w = .ok (.enter f args) w) (hx:evs L xs.toList=some args) (hfn:Fn P W f args pre X val fact post) (h:∀ x,fact x→aR P W N O Q rest ((d,some (val x))::L) (post x++R)) (ht:aw H pre R:=by exact aw.auto) (hj:(O[j]?).bind (·.dst)=some t:=by rfl) (hb:look L t=some (.bool want):=by rfl) (hN:Nat.blt d N=true:=by rfl):aR P W N O Q (⟨some d,.call ⟨.value (.func f),xs,ts⟩,T,pos,after,some (j,want)⟩::rest) L H :=
 .dg rfl hj hb (af.eH hN hc hx hfn ht) fun _ _ e=>by obtain⟨y,hy,rfl,rfl⟩:=e;exact h y hy
theorem bf.c{f:FuncId}{xs:Array Operand}{ts:Array TypeId}{pos:String}{after:Array Edge}{d:Nat}{args:List Value}{pre R:List aa}{X:Type}{val:X→Value}{fact:X→Prop}{post:X→List aa}
  (hc:∀ args w,(callFunc f args).run P w = .ok (.enter f args) w) (hx:evs L xs.toList=some args) (hfn:Fn P W f args pre X val fact post) (h:∀ x,fact x→bf P W N K O Q ks rest ((d,some (val x))::L) (post x++R)) (ht:aw H pre R:=by exact aw.auto) (hN:Nat.blt d N=true:=by rfl):bf P W N K O Q (3::ks) (⟨some d,.call ⟨.value (.func f),xs,ts⟩,T,pos,after,none⟩::rest) L H :=
 .d3 rfl (af.eH hN hc hx hfn ht) fun _ _ e=>by obtain⟨y,hy,rfl,rfl⟩:=e;exact h y hy
theorem bf.c2{f:FuncId}{xs:Array Operand}{ts:Array TypeId}{pos:String}{after:Array Edge}{d:Nat}{args:List Value}{pre R:List aa}{X:Type}{val:X→Value}{fact:X→Prop}{post:X→List aa}
  (hc:∀ args w,(callFunc f args).run P w = .ok (.enter f args) w) (hx:evs L xs.toList=some args) (hfn:Fn P W f args pre X val fact post) (h:∀ x,fact x→bf P W N K O Q ks rest ((d,some (val x))::L) (post x++R)) (ht:aw H pre R:=by exact aw.auto) (hN:Nat.blt d N=true:=by rfl) (hK:∀ w,Sat W w (seps H)→Sat W w (seps K):=by exact Kept.auto) (hK2:∀ x,fact x→ ∀ w,Sat W w (seps (post x++R))→Sat W w (seps K):=by intro _ _;exact Kept.auto):bf P W N K O Q (2::ks) (⟨some d,.call ⟨.value (.func f),xs,ts⟩,T,pos,after,none⟩::rest) L H :=
 .d2 rfl hK (af.eH hN hc hx hfn ht) (fun _ _ e=>by obtain⟨y,hy,rfl,rfl⟩:=e;exact hK2 y hy) fun _ _ e=>by obtain⟨y,hy,rfl,rfl⟩:=e;exact h y hy
section
variable{fn:Func}{X:Type}{val:X→Value}{fact:X→Prop}{post:X→List aa}{F:aa}{R:List aa}{x:X}
theorem bq.w1{t:Nat}{v:Value}(_:MB x)(hf:fact x:=by exact trivial)(hr:fn.results = #[.tmp t]:=by rfl)(ht:look L t=some v:=by rfl)(hv:v=val x:=by rfl)(he:aw H (post x++[F]) R:=by exact aw.auto):bq W N (bodyPost P fn (fun e w'=>∃ x,e = .returned (val x)∧fact x∧Sat W w' (sep (seps (post x)) F))) .ret L H :=
 .aP hr ht fun _ s=>⟨x,by rw[hv],hf,aj he s⟩
theorem bq.w2{t1 t2:Nat}{v1 v2:Value}(_:MB x)(hf:fact x:=by exact trivial)(hr:fn.results = #[.tmp t1,.tmp t2]:=by rfl)(h1:look L t1=some v1:=by rfl)(h2:look L t2=some v2:=by rfl)(hv:Value.tuple #[v1,v2]=val x:=by rfl)(he:aw H (post x++[F]) R:=by exact aw.auto):bq W N (bodyPost P fn (fun e w'=>∃ x,e = .returned (val x)∧fact x∧Sat W w' (sep (seps (post x)) F))) .ret L H :=
 .ez hr h1 h2 fun _ s=>⟨x,by rw[hv],hf,aj he s⟩
theorem bq.w0(_:MB x)(hf:fact x:=by exact trivial)(hr:fn.results = #[]:=by rfl)(hv:Value.tuple #[]=val x:=by rfl)(he:aw H (post x++[F]) R:=by exact aw.auto):bq W N (bodyPost P fn (fun e w'=>∃ x,e = .returned (val x)∧fact x∧Sat W w' (sep (seps (post x)) F))) .normal L H :=
 .DJ hr fun _ s=>⟨x,by rw[hv],hf,aj he s⟩
theorem bq.wr(_:MB x)(hf:fact x:=by exact trivial)(hr:fn.results = #[]:=by rfl)(hv:Value.tuple #[]=val x:=by rfl)(he:aw H (post x++[F]) R:=by exact aw.auto):bq W N (bodyPost P fn (fun e w'=>∃ x,e = .returned (val x)∧fact x∧Sat W w' (sep (seps (post x)) F))) .ret L H :=
 .K3 hr fun _ s=>⟨x,by rw[hv],hf,aj he s⟩
end
end
theorem J{G G':Prop}(n:Nat)(k:G')(f:FD n→Hid G'→G:=by intro c h;(repeat (replace c:=FD.s c;first | refine .p .y ?_ | refine .n ?_ | refine .s ?_ | refine .r ?_ | refine .b ?_ | refine .t ?_ | refine .e ?_ | refine .u ?_ | refine .g .y ?_ | refine .v ?_ | refine .br ?_ | refine .tr ?_ | refine .q .y ?_ | refine .w ?_ | refine .h .y ?_ | refine .x ?_ | refine .bh ?_ | refine .bp rfl ?_ | refine .tx ?_ | (refine .ai rfl (af.st iG.ok rfl rfl rfl rfl) ?_;rintro _ _ ⟨rfl,rfl⟩) | (refine .d3 rfl (af.st iG.ok rfl rfl rfl rfl) ?_;rintro _ _ ⟨rfl,rfl⟩) | (refine .d2 rfl Kept.auto (af.st iG.ok rfl rfl rfl rfl) (by rintro _ _ ⟨rfl,rfl⟩;exact Kept.auto) ?_;rintro _ _ ⟨rfl,rfl⟩) | (refine .ai rfl (af.gW (by exact iG.ok) rfl rfl rfl (by rfl)) ?_;rintro _ _ ⟨rfl,rfl⟩)));exact h.go):G:=f (.mk n) ⟨k⟩
theorem JD{G p q G1 G2:Prop}(n:Nat)(k1:p→G1)(k2:q→G2)(f:FD n→Hid (p→G1)→Hid (q→G2)→G:=by intro c h1 h2;(repeat (replace c:=FD.s c;first | refine .p .y ?_ | refine .n ?_ | refine .s ?_ | refine .r ?_ | refine .b ?_ | refine .t ?_ | refine .e ?_ | refine .u ?_ | refine .g .y ?_ | refine .v ?_ | refine .br ?_ | refine .tr ?_ | refine .q .y ?_ | refine .w ?_ | refine .h .y ?_ | refine .x ?_ | refine .bh ?_ | refine .bp rfl ?_ | refine .tx ?_ | (refine .ai rfl (af.st iG.ok rfl rfl rfl rfl) ?_;rintro _ _ ⟨rfl,rfl⟩) | (refine .d3 rfl (af.st iG.ok rfl rfl rfl rfl) ?_;rintro _ _ ⟨rfl,rfl⟩) | (refine .d2 rfl Kept.auto (af.st iG.ok rfl rfl rfl rfl) (by rintro _ _ ⟨rfl,rfl⟩;exact Kept.auto) ?_;rintro _ _ ⟨rfl,rfl⟩) | (refine .ai rfl (af.gW (by exact iG.ok) rfl rfl rfl (by rfl)) ?_;rintro _ _ ⟨rfl,rfl⟩)));first | exact .dY rfl h1.go h2.go | exact .cond rfl h1.go h2.go):G:=f (.mk n) ⟨k1⟩ ⟨k2⟩
theorem JR{G:Prop}{X:Type}(n:Nat)(x:X)(f:FD n→MB x→G:=by intro c h;(repeat (replace c:=FD.s c;first | refine .p .y ?_ | refine .n ?_ | refine .s ?_ | refine .r ?_ | refine .b ?_ | refine .t ?_ | refine .e ?_ | refine .u ?_ | refine .g .y ?_ | refine .v ?_ | refine .br ?_ | refine .tr ?_ | refine .q .y ?_ | refine .w ?_ | refine .h .y ?_ | refine .x ?_ | refine .bh ?_ | refine .bp rfl ?_ | refine .tx ?_ | (refine .ai rfl (af.st iG.ok rfl rfl rfl rfl) ?_;rintro _ _ ⟨rfl,rfl⟩) | (refine .d3 rfl (af.st iG.ok rfl rfl rfl rfl) ?_;rintro _ _ ⟨rfl,rfl⟩) | (refine .d2 rfl Kept.auto (af.st iG.ok rfl rfl rfl rfl) (by rintro _ _ ⟨rfl,rfl⟩;exact Kept.auto) ?_;rintro _ _ ⟨rfl,rfl⟩) | (refine .ai rfl (af.gW (by exact iG.ok) rfl rfl rfl (by rfl)) ?_;rintro _ _ ⟨rfl,rfl⟩)));first | exact .w1 h | exact .w2 h | exact .w0 h | exact .wr h):G:=f (.mk n) (.mk x)
theorem JS{G:Prop}(n:Nat)(f:FD n→G:=by intro c;(repeat (replace c:=FD.s c;first | refine .p .y ?_ | refine .n ?_ | refine .s ?_ | refine .r ?_ | refine .b ?_ | refine .t ?_ | refine .e ?_ | refine .u ?_ | refine .g .y ?_ | refine .v ?_ | refine .br ?_ | refine .tr ?_ | refine .q .y ?_ | refine .w ?_ | refine .h .y ?_ | refine .x ?_ | refine .bh ?_ | refine .bp rfl ?_ | refine .tx ?_ | (refine .ai rfl (af.st iG.ok rfl rfl rfl rfl) ?_;rintro _ _ ⟨rfl,rfl⟩) | (refine .d3 rfl (af.st iG.ok rfl rfl rfl rfl) ?_;rintro _ _ ⟨rfl,rfl⟩) | (refine .d2 rfl Kept.auto (af.st iG.ok rfl rfl rfl rfl) (by rintro _ _ ⟨rfl,rfl⟩;exact Kept.auto) ?_;rintro _ _ ⟨rfl,rfl⟩) | (refine .ai rfl (af.gW (by exact iG.ok) rfl rfl rfl (by rfl)) ?_;rintro _ _ ⟨rfl,rfl⟩)));first | exact .vR .auto rfl (fun _ h=>h) | exact .vR .auto rfl (aw.kept .auto)):G:=f (.mk n)
end Go.SLYtpbjdoplfgeliaaGreat
namespace Go.SLYtpbjdoplfgeliaaGreat
open Go Go.RowKit Go.Proofs Go.Proofs.Tryz
instance:jE Tryz.prog 22 (.slice 52):=⟨underlying22⟩
instance:jE Tryz.prog 23 (.slice 32):=⟨underlying23⟩
instance:jE Tryz.prog 24 (.pointer 91):=⟨underlying24⟩
instance:jE Tryz.prog 33 (.slice 102):=⟨underlying33⟩
instance:jE Tryz.prog 36 (.slice 55):=⟨underlying36⟩
instance:jE Tryz.prog 42 (.pointer 154):=⟨underlying42⟩
instance:jE Tryz.prog 46 (.pointer 123):=⟨underlying46⟩
instance:jE Tryz.prog 49 (.slice 95):=⟨underlying49⟩
instance:jE Tryz.prog 50 (.slice 3):=⟨underlying50⟩
instance:jE Tryz.prog 64 (.slice 92):=⟨underlying64⟩
instance:jE Tryz.prog 67 (.slice 71):=⟨underlying67⟩
instance:jE Tryz.prog 85 (.pointer 167):=⟨underlying85⟩
instance:jE Tryz.prog 95 (.slice 94):=⟨underlying95⟩
instance:jE Tryz.prog 96 (.pointer 171):=⟨underlying96⟩
instance:jE Tryz.prog 108 (.slice 254):=⟨underlying108⟩
instance:jE Tryz.prog 111 (.pointer 189):=⟨underlying111⟩
instance:jE Tryz.prog 113 (.pointer 195):=⟨underlying113⟩
instance:jE Tryz.prog 115 (.pointer 203):=⟨underlying115⟩
instance:jE Tryz.prog 117 (.pointer 206):=⟨underlying117⟩
instance:jE Tryz.prog 119 (.pointer 135):=⟨underlying119⟩
instance:jE Tryz.prog 121 (.slice 126):=⟨underlying121⟩
instance:jE Tryz.prog 126 (.pointer 209):=⟨underlying126⟩
instance:jE Tryz.prog 152 (.slice 85):=⟨underlying152⟩
instance:jE Tryz.prog 163 (.pointer 251):=⟨underlying163⟩
instance:jE Tryz.prog 164 (.slice 228):=⟨underlying164⟩
instance:jE Tryz.prog 165 (.slice 232):=⟨underlying165⟩
instance:jE Tryz.prog 169 (.slice 46):=⟨underlying169⟩
instance:jE Tryz.prog 187 (.slice 264):=⟨underlying187⟩
instance:jE Tryz.prog 190 (.slice 288):=⟨underlying190⟩
instance:jE Tryz.prog 192 (.slice 198):=⟨underlying192⟩
instance:jE Tryz.prog 193 (.slice 200):=⟨underlying193⟩
instance:jE Tryz.prog 196 (.slice 284):=⟨underlying196⟩
instance:jE Tryz.prog 201 (.slice 145):=⟨underlying201⟩
instance:jE Tryz.prog 207 (.slice 360):=⟨underlying207⟩
instance:jE Tryz.prog 249 (.slice 252):=⟨underlying249⟩
instance:jE Tryz.prog 252 (.pointer 310):=⟨underlying252⟩
instance:jE Tryz.prog 281 (.pointer 198):=⟨underlying281⟩
instance:jE Tryz.prog 317 (.pointer 288):=⟨underlying317⟩
instance:jE Tryz.prog 322 (.pointer 200):=⟨underlying322⟩
instance:jE Tryz.prog 338 (.slice 165):=⟨underlying338⟩
instance:iG Tryz.prog 3 1:=⟨sizeOf3⟩
instance:iG Tryz.prog 4 1:=⟨sizeOf4⟩
instance:iG Tryz.prog 25 1:=⟨sizeOf25⟩
instance:iG Tryz.prog 32 3:=⟨sizeOf32⟩
instance:iG Tryz.prog 46 1:=⟨sizeOf46⟩
instance:iG Tryz.prog 52 8:=⟨sizeOf52⟩
instance:iG Tryz.prog 55 4:=⟨sizeOf55⟩
instance:iG Tryz.prog 57 4:=⟨sizeOf57⟩
instance:iG Tryz.prog 64 1:=⟨sizeOf64⟩
instance:iG Tryz.prog 71 3:=⟨sizeOf71⟩
instance:iG Tryz.prog 75 6:=⟨sizeOf75⟩
instance:iG Tryz.prog 85 1:=⟨sizeOf85⟩
instance:iG Tryz.prog 92 1:=⟨sizeOf92⟩
instance:iG Tryz.prog 94 5:=⟨sizeOf94⟩
instance:iG Tryz.prog 95 1:=⟨sizeOf95⟩
instance:iG Tryz.prog 102 6:=⟨sizeOf102⟩
instance:iG Tryz.prog 120 16:=⟨sizeOf120⟩
instance:iG Tryz.prog 126 1:=⟨sizeOf126⟩
instance:iG Tryz.prog 131 8:=⟨sizeOf131⟩
instance:iG Tryz.prog 133 10:=⟨sizeOf133⟩
instance:iG Tryz.prog 145 4:=⟨sizeOf145⟩
instance:iG Tryz.prog 165 1:=⟨sizeOf165⟩
instance:iG Tryz.prog 198 1:=⟨sizeOf198⟩
instance:iG Tryz.prog 200 2:=⟨sizeOf200⟩
instance:iG Tryz.prog 228 3:=⟨sizeOf228⟩
instance:iG Tryz.prog 232 3:=⟨sizeOf232⟩
instance:iG Tryz.prog 243 13:=⟨sizeOf243⟩
instance:iG Tryz.prog 252 1:=⟨sizeOf252⟩
instance:iG Tryz.prog 258 4:=⟨sizeOf258⟩
instance:iG Tryz.prog 264 2:=⟨sizeOf264⟩
instance:iG Tryz.prog 268 1:=⟨sizeOf268⟩
instance:iG Tryz.prog 284 2:=⟨sizeOf284⟩
instance:iG Tryz.prog 288 3:=⟨sizeOf288⟩
instance:iG Tryz.prog 360 2:=⟨sizeOf360⟩
instance:One Tryz.prog 3:=⟨isAgg3⟩
instance:One Tryz.prog 4:=⟨isAgg4⟩
instance:One Tryz.prog 25:=⟨isAgg25⟩
instance:One Tryz.prog 33:=⟨isAgg33⟩
instance:One Tryz.prog 36:=⟨isAgg36⟩
instance:One Tryz.prog 42:=⟨isAgg42⟩
instance:One Tryz.prog 46:=⟨isAgg46⟩
instance:One Tryz.prog 49:=⟨isAgg49⟩
instance:One Tryz.prog 50:=⟨isAgg50⟩
instance:One Tryz.prog 64:=⟨isAgg64⟩
instance:One Tryz.prog 85:=⟨isAgg85⟩
instance:One Tryz.prog 92:=⟨isAgg92⟩
instance:One Tryz.prog 95:=⟨isAgg95⟩
instance:One Tryz.prog 108:=⟨isAgg108⟩
instance:One Tryz.prog 111:=⟨isAgg111⟩
instance:One Tryz.prog 113:=⟨isAgg113⟩
instance:One Tryz.prog 115:=⟨isAgg115⟩
instance:One Tryz.prog 117:=⟨isAgg117⟩
instance:One Tryz.prog 119:=⟨isAgg119⟩
instance:One Tryz.prog 121:=⟨isAgg121⟩
instance:One Tryz.prog 126:=⟨isAgg126⟩
instance:One Tryz.prog 152:=⟨isAgg152⟩
instance:One Tryz.prog 163:=⟨isAgg163⟩
instance:One Tryz.prog 164:=⟨isAgg164⟩
instance:One Tryz.prog 165:=⟨isAgg165⟩
instance:One Tryz.prog 169:=⟨isAgg169⟩
instance:One Tryz.prog 187:=⟨isAgg187⟩
instance:One Tryz.prog 190:=⟨isAgg190⟩
instance:One Tryz.prog 192:=⟨isAgg192⟩
instance:One Tryz.prog 193:=⟨isAgg193⟩
instance:One Tryz.prog 196:=⟨isAgg196⟩
instance:One Tryz.prog 201:=⟨isAgg201⟩
instance:One Tryz.prog 204:=⟨isAgg204⟩
instance:One Tryz.prog 207:=⟨isAgg207⟩
instance:One Tryz.prog 249:=⟨isAgg249⟩
instance:One Tryz.prog 252:=⟨isAgg252⟩
instance:jF Tryz.prog 32:=⟨isAgg32⟩
instance:jF Tryz.prog 52:=⟨isAgg52⟩
instance:jF Tryz.prog 55:=⟨isAgg55⟩
instance:jF Tryz.prog 57:=⟨isAgg57⟩
instance:jF Tryz.prog 75:=⟨isAgg75⟩
instance:jF Tryz.prog 94:=⟨isAgg94⟩
instance:jF Tryz.prog 102:=⟨isAgg102⟩
instance:jF Tryz.prog 120:=⟨isAgg120⟩
instance:jF Tryz.prog 131:=⟨isAgg131⟩
instance:jF Tryz.prog 133:=⟨isAgg133⟩
instance:jF Tryz.prog 145:=⟨isAgg145⟩
instance:jF Tryz.prog 198:=⟨isAgg198⟩
instance:jF Tryz.prog 200:=⟨isAgg200⟩
instance:jF Tryz.prog 228:=⟨isAgg228⟩
instance:jF Tryz.prog 232:=⟨isAgg232⟩
instance:jF Tryz.prog 258:=⟨isAgg258⟩
instance:jF Tryz.prog 264:=⟨isAgg264⟩
instance:jF Tryz.prog 284:=⟨isAgg284⟩
instance:jF Tryz.prog 288:=⟨isAgg288⟩
instance:jF Tryz.prog 360:=⟨isAgg360⟩
instance:cP Tryz.prog 32 0 0:=⟨ae (t:=3) underlying32 rfl sizeOf3⟩
instance:cP Tryz.prog 32 1 1:=⟨ae (t:=3) underlying32 rfl sizeOf3⟩
instance:cP Tryz.prog 32 2 2:=⟨ae (t:=3) underlying32 rfl sizeOf3⟩
instance:cP Tryz.prog 52 0 0:=⟨ae (t:=49) underlying52 rfl sizeOf49⟩
instance:cP Tryz.prog 52 1 1:=⟨ae (t:=3) underlying52 rfl sizeOf3⟩
instance:cP Tryz.prog 52 2 2:=⟨ae (t:=3) underlying52 rfl sizeOf3⟩
instance:cP Tryz.prog 52 3 3:=⟨ae (t:=3) underlying52 rfl sizeOf3⟩
instance:cP Tryz.prog 52 4 4:=⟨ae (t:=50) underlying52 rfl sizeOf50⟩
instance:cP Tryz.prog 52 5 5:=⟨ae (t:=50) underlying52 rfl sizeOf50⟩
instance:cP Tryz.prog 52 6 6:=⟨ae (t:=3) underlying52 rfl sizeOf3⟩
instance:cP Tryz.prog 52 7 7:=⟨ae (t:=3) underlying52 rfl sizeOf3⟩
instance:cP Tryz.prog 55 0 0:=⟨ae (t:=3) underlying55 rfl sizeOf3⟩
instance:cP Tryz.prog 55 1 1:=⟨ae (t:=3) underlying55 rfl sizeOf3⟩
instance:cP Tryz.prog 55 2 2:=⟨ae (t:=3) underlying55 rfl sizeOf3⟩
instance:cP Tryz.prog 55 3 3:=⟨ae (t:=3) underlying55 rfl sizeOf3⟩
instance:cP Tryz.prog 57 0 0:=⟨ae (t:=50) underlying57 rfl sizeOf50⟩
instance:cP Tryz.prog 57 1 1:=⟨ae (t:=4) underlying57 rfl sizeOf4⟩
instance:cP Tryz.prog 57 2 2:=⟨ae (t:=4) underlying57 rfl sizeOf4⟩
instance:cP Tryz.prog 57 3 3:=⟨ae (t:=4) underlying57 rfl sizeOf4⟩
instance:cP Tryz.prog 71 0 0:=⟨ae (t:=3) underlying71 rfl sizeOf3⟩
instance:cP Tryz.prog 71 1 1:=⟨ae (t:=3) underlying71 rfl sizeOf3⟩
instance:cP Tryz.prog 71 2 2:=⟨ae (t:=3) underlying71 rfl sizeOf3⟩
instance:cP Tryz.prog 75 0 0:=⟨ae (t:=4) underlying75 rfl sizeOf4⟩
instance:cP Tryz.prog 75 1 1:=⟨ae (t:=3) underlying75 rfl sizeOf3⟩
instance:cP Tryz.prog 75 2 2:=⟨ae (t:=57) underlying75 rfl sizeOf57⟩
instance:cP Tryz.prog 91 0 0:=⟨ae (t:=42) underlying91 rfl sizeOf42⟩
instance:cP Tryz.prog 91 1 1:=⟨ae (t:=50) underlying91 rfl sizeOf50⟩
instance:cP Tryz.prog 91 2 2:=⟨ae (t:=3) underlying91 rfl sizeOf3⟩
instance:cP Tryz.prog 91 3 3:=⟨ae (t:=36) underlying91 rfl sizeOf36⟩
instance:cP Tryz.prog 94 0 0:=⟨ae (t:=3) underlying94 rfl sizeOf3⟩
instance:cP Tryz.prog 94 1 1:=⟨ae (t:=3) underlying94 rfl sizeOf3⟩
instance:cP Tryz.prog 94 2 2:=⟨ae (t:=3) underlying94 rfl sizeOf3⟩
instance:cP Tryz.prog 94 3 3:=⟨ae (t:=3) underlying94 rfl sizeOf3⟩
instance:cP Tryz.prog 94 4 4:=⟨ae (t:=92) underlying94 rfl sizeOf92⟩
instance:cP Tryz.prog 102 2 2:=⟨ae (t:=92) underlying102 rfl sizeOf92⟩
instance:cP Tryz.prog 123 0 0:=⟨ae (t:=52) underlying123 rfl sizeOf52⟩
instance:cP Tryz.prog 123 1 8:=⟨ae (t:=111) underlying123 rfl sizeOf111⟩
instance:cP Tryz.prog 123 2 9:=⟨ae (t:=120) underlying123 rfl sizeOf120⟩
instance:cP Tryz.prog 123 3 25:=⟨ae (t:=64) underlying123 rfl sizeOf64⟩
instance:cP Tryz.prog 123 4 26:=⟨ae (t:=113) underlying123 rfl sizeOf113⟩
instance:cP Tryz.prog 123 5 27:=⟨ae (t:=121) underlying123 rfl sizeOf121⟩
instance:cP Tryz.prog 123 6 28:=⟨ae (t:=115) underlying123 rfl sizeOf115⟩
instance:cP Tryz.prog 123 7 29:=⟨ae (t:=117) underlying123 rfl sizeOf117⟩
instance:cP Tryz.prog 123 8 30:=⟨ae (t:=33) underlying123 rfl sizeOf33⟩
instance:cP Tryz.prog 133 0 0:=⟨ae (t:=3) underlying133 rfl sizeOf3⟩
instance:cP Tryz.prog 133 1 1:=⟨ae (t:=3) underlying133 rfl sizeOf3⟩
instance:cP Tryz.prog 133 2 2:=⟨ae (t:=131) underlying133 rfl sizeOf131⟩
instance:cP Tryz.prog 135 0 0:=⟨ae (t:=133) underlying135 rfl sizeOf133⟩
instance:cP Tryz.prog 135 1 10:=⟨ae (t:=92) underlying135 rfl sizeOf92⟩
instance:cP Tryz.prog 135 2 11:=⟨ae (t:=3) underlying135 rfl sizeOf3⟩
instance:cP Tryz.prog 135 3 12:=⟨ae (t:=92) underlying135 rfl sizeOf92⟩
instance:cP Tryz.prog 135 4 13:=⟨ae (t:=4) underlying135 rfl sizeOf4⟩
instance:cP Tryz.prog 135 5 14:=⟨ae (t:=3) underlying135 rfl sizeOf3⟩
instance:cP Tryz.prog 135 6 15:=⟨ae (t:=3) underlying135 rfl sizeOf3⟩
instance:cP Tryz.prog 135 7 16:=⟨ae (t:=3) underlying135 rfl sizeOf3⟩
instance:cP Tryz.prog 140 0 0:=⟨ae (t:=46) underlying140 rfl sizeOf46⟩
instance:cP Tryz.prog 140 1 1:=⟨ae (t:=3) underlying140 rfl sizeOf3⟩
instance:cP Tryz.prog 140 2 2:=⟨ae (t:=119) underlying140 rfl sizeOf119⟩
instance:cP Tryz.prog 140 3 3:=⟨ae (t:=94) underlying140 rfl sizeOf94⟩
instance:cP Tryz.prog 140 4 8:=⟨ae (t:=3) underlying140 rfl sizeOf3⟩
instance:cP Tryz.prog 140 5 9:=⟨ae (t:=57) underlying140 rfl sizeOf57⟩
instance:cP Tryz.prog 140 6 13:=⟨ae (t:=33) underlying140 rfl sizeOf33⟩
instance:cP Tryz.prog 145 0 0:=⟨ae (t:=3) underlying145 rfl sizeOf3⟩
instance:cP Tryz.prog 145 1 1:=⟨ae (t:=3) underlying145 rfl sizeOf3⟩
instance:cP Tryz.prog 145 2 2:=⟨ae (t:=4) underlying145 rfl sizeOf4⟩
instance:cP Tryz.prog 145 3 3:=⟨ae (t:=92) underlying145 rfl sizeOf92⟩
instance:cP Tryz.prog 154 0 0:=⟨ae (t:=50) underlying154 rfl sizeOf50⟩
instance:cP Tryz.prog 154 1 1:=⟨ae (t:=152) underlying154 rfl sizeOf152⟩
instance:cP Tryz.prog 167 0 0:=⟨ae (t:=46) underlying167 rfl sizeOf46⟩
instance:cP Tryz.prog 167 1 1:=⟨ae (t:=163) underlying167 rfl sizeOf163⟩
instance:cP Tryz.prog 167 2 2:=⟨ae (t:=164) underlying167 rfl sizeOf164⟩
instance:cP Tryz.prog 167 3 3:=⟨ae (t:=165) underlying167 rfl sizeOf165⟩
instance:cP Tryz.prog 167 4 4:=⟨ae (t:=4) underlying167 rfl sizeOf4⟩
instance:cP Tryz.prog 171 0 0:=⟨ae (t:=169) underlying171 rfl sizeOf169⟩
instance:cP Tryz.prog 177 0 0:=⟨ae (t:=3) underlying177 rfl sizeOf3⟩
instance:cP Tryz.prog 177 1 1:=⟨ae (t:=108) underlying177 rfl sizeOf108⟩
instance:cP Tryz.prog 189 0 0:=⟨ae (t:=187) underlying189 rfl sizeOf187⟩
instance:cP Tryz.prog 195 0 0:=⟨ae (t:=190) underlying195 rfl sizeOf190⟩
instance:cP Tryz.prog 195 1 1:=⟨ae (t:=192) underlying195 rfl sizeOf192⟩
instance:cP Tryz.prog 195 2 2:=⟨ae (t:=193) underlying195 rfl sizeOf193⟩
instance:cP Tryz.prog 198 0 0:=⟨ae (t:=196) underlying198 rfl sizeOf196⟩
instance:cP Tryz.prog 200 0 0:=⟨ae (t:=198) underlying200 rfl sizeOf198⟩
instance:cP Tryz.prog 200 1 1:=⟨ae (t:=3) underlying200 rfl sizeOf3⟩
instance:cP Tryz.prog 203 0 0:=⟨ae (t:=64) underlying203 rfl sizeOf64⟩
instance:cP Tryz.prog 203 1 1:=⟨ae (t:=201) underlying203 rfl sizeOf201⟩
instance:cP Tryz.prog 206 0 0:=⟨ae (t:=3) underlying206 rfl sizeOf3⟩
instance:cP Tryz.prog 206 1 1:=⟨ae (t:=204) underlying206 rfl sizeOf204⟩
instance:cP Tryz.prog 209 0 0:=⟨ae (t:=3) underlying209 rfl sizeOf3⟩
instance:cP Tryz.prog 209 1 1:=⟨ae (t:=64) underlying209 rfl sizeOf64⟩
instance:cP Tryz.prog 209 2 2:=⟨ae (t:=207) underlying209 rfl sizeOf207⟩
instance:cP Tryz.prog 209 3 3:=⟨ae (t:=50) underlying209 rfl sizeOf50⟩
instance:cP Tryz.prog 228 0 0:=⟨ae (t:=3) underlying228 rfl sizeOf3⟩
instance:cP Tryz.prog 228 1 1:=⟨ae (t:=3) underlying228 rfl sizeOf3⟩
instance:cP Tryz.prog 228 2 2:=⟨ae (t:=165) underlying228 rfl sizeOf165⟩
instance:cP Tryz.prog 232 0 0:=⟨ae (t:=3) underlying232 rfl sizeOf3⟩
instance:cP Tryz.prog 232 1 1:=⟨ae (t:=3) underlying232 rfl sizeOf3⟩
instance:cP Tryz.prog 232 2 2:=⟨ae (t:=3) underlying232 rfl sizeOf3⟩
instance:cP Tryz.prog 240 0 0:=⟨ae (t:=3) underlying240 rfl sizeOf3⟩
instance:cP Tryz.prog 240 1 1:=⟨ae (t:=50) underlying240 rfl sizeOf50⟩
instance:cP Tryz.prog 240 2 2:=⟨ae (t:=50) underlying240 rfl sizeOf50⟩
instance:cP Tryz.prog 240 3 3:=⟨ae (t:=50) underlying240 rfl sizeOf50⟩
instance:cP Tryz.prog 243 1 1:=⟨ae (t:=3) underlying243 rfl sizeOf3⟩
instance:cP Tryz.prog 251 0 0:=⟨ae (t:=249) underlying251 rfl sizeOf249⟩
instance:cP Tryz.prog 258 0 0:=⟨ae (t:=3) underlying258 rfl sizeOf3⟩
instance:cP Tryz.prog 258 1 1:=⟨ae (t:=4) underlying258 rfl sizeOf4⟩
instance:cP Tryz.prog 258 2 2:=⟨ae (t:=3) underlying258 rfl sizeOf3⟩
instance:cP Tryz.prog 258 3 3:=⟨ae (t:=4) underlying258 rfl sizeOf4⟩
instance:cP Tryz.prog 264 0 0:=⟨ae (t:=4) underlying264 rfl sizeOf4⟩
instance:cP Tryz.prog 264 1 1:=⟨ae (t:=92) underlying264 rfl sizeOf92⟩
instance:cP Tryz.prog 268 0 0:=⟨ae (t:=25) underlying268 rfl sizeOf25⟩
instance:cP Tryz.prog 271 0 0:=⟨ae (t:=133) underlying271 rfl sizeOf133⟩
instance:cP Tryz.prog 271 1 10:=⟨ae (t:=64) underlying271 rfl sizeOf64⟩
instance:cP Tryz.prog 284 0 0:=⟨ae (t:=3) underlying284 rfl sizeOf3⟩
instance:cP Tryz.prog 284 1 1:=⟨ae (t:=3) underlying284 rfl sizeOf3⟩
instance:cP Tryz.prog 288 0 0:=⟨ae (t:=198) underlying288 rfl sizeOf198⟩
instance:cP Tryz.prog 288 1 1:=⟨ae (t:=4) underlying288 rfl sizeOf4⟩
instance:cP Tryz.prog 288 2 2:=⟨ae (t:=3) underlying288 rfl sizeOf3⟩
instance:cP Tryz.prog 310 0 0:=⟨ae (t:=50) underlying310 rfl sizeOf50⟩
instance:cP Tryz.prog 360 0 0:=⟨ae (t:=3) underlying360 rfl sizeOf3⟩
instance:cP Tryz.prog 360 1 1:=⟨ae (t:=92) underlying360 rfl sizeOf92⟩
end Go.SLYtpbjdoplfgeliaaGreat
namespace Go.SLYtpbjdoplfgeliaaGreat
open Go Go.RowKit Go.Proofs Go.Proofs.Tryz
attribute [local irreducible] aq aR bf bq bB Y
theorem L4{W:World}{A:aa}{v:Value}{xs:List Int}(hr:Rd W [A] av 1 v xs)(hl:xs.length≤1000000000):Fn Tryz.prog W 197 [v] [A] Value (fun u=>u) (fun _=>True) (fun u=>[sl av 1 u xs,A]):=by
 refine Fn.intro (N:=8) func197 rfl ntmps197 rfl fun F=>?_
 haveI hRI:∀ (H:List aa) [bx H A],aA W H v av 1 xs:=fun H h=>⟨hr.at h.has⟩
 show aq _ _ _ _ _ _ [A,F]
 refine J 9 ?_
 refine .p (.sW underlying50 rfl rfl Rd.s) ?_
 refine JD 2 (fun h4=>?_) fun h4=>?_
 ·refine J 7 ?_
  refine .cM (fun w s=>Rd.s4 Rd.s h4 w s) fun hn=>?_
  subst hn
  refine .to (A:=sl av 1 (.slice none 0 0) ([]:List Int)) (Bs:=[]) .nil (fun h e=>.inl ⟨⟨_,rfl⟩,rfl,e⟩) ?_
  refine .aP rfl rfl fun w s=>⟨_,?_,trivial,aj .auto s⟩
  rfl
 ·refine J 4 ?_
  refine .ai rfl (af.gF 3 rfl rfl (by kernel_rfl)) ?_
  rintro _ _ ⟨b5,rfl,rfl⟩
  refine J 1 ?_
  refine .to (A:=sl av 1 (.slice (some ⟨b5,0,none⟩) 0 0) ([]:List Int)) (Bs:=[]) .nil (fun h e=>.inl ⟨⟨_,rfl⟩,rfl,e⟩) ?_
  refine .ai rfl (af.append rfl underlying50 underlying50 typeInfo3 rfl rfl rfl (by decide) rfl rfl .auto Rd.s (by simp;omega) (oM _)) ?_
  rintro _ _ ⟨v7,rfl,rfl⟩
  refine J 4 ?_
  refine .aP rfl rfl fun w s=>⟨_,?_,trivial,aj .auto s⟩
  rfl
theorem Nd{W:World}{v:Value}{xs:List Int}:Fn Tryz.prog W 196 [v] [sl av 1 v xs] Value (fun u=>u) (fun _=>True) (fun u=>[sl av 1 u xs]):=by
 refine Fn.intro (N:=9) func196 rfl ntmps196 rfl fun F=>?_
 show aq _ _ _ _ _ _ [sl av 1 v xs,F]
 refine .cM (fun w s=>(Rd.sl (W:=W) .here w s).1) fun hr=>?_
 obtain⟨a,cap,rfl,hle, -⟩:=hr
 refine J 12 ?_
 refine .p (.rM xs.length xs.length underlying50 sizeOf3 rfl rfl rfl rfl rfl (Nat.le_refl _) hle) ?_
 refine J 4 ?_
 refine .fx .auto rP ?_
 rintro J -
 refine .aP rfl rfl fun w s=>⟨_,?_,trivial,aj .auto s⟩
 rfl
theorem L5{W:World}{A:aa}{v:Value}{xs:List Int}(hr:Rd W [A] de 1 v xs)(hl:xs.length≤1000000000):Fn Tryz.prog W 86 [v] [A] Value (fun u=>u) (fun _=>True) (fun u=>[sl de 1 u xs,A]):=by
 refine Fn.intro (N:=8) func86 rfl ntmps86 rfl fun F=>?_
 haveI hRI:∀ (H:List aa) [bx H A],aA W H v de 1 xs:=fun H h=>⟨hr.at h.has⟩
 show aq _ _ _ _ _ _ [A,F]
 refine J 9 ?_
 refine .p (.sW underlying64 rfl rfl Rd.s) ?_
 refine JD 2 (fun h4=>?_) fun h4=>?_
 ·refine J 7 ?_
  refine .cM (fun w s=>Rd.s4 Rd.s h4 w s) fun hn=>?_
  subst hn
  refine .to (A:=sl de 1 (.slice none 0 0) ([]:List Int)) (Bs:=[]) .nil (fun h e=>.inl ⟨⟨_,rfl⟩,rfl,e⟩) ?_
  refine .aP rfl rfl fun w s=>⟨_,?_,trivial,aj .auto s⟩
  rfl
 ·refine J 4 ?_
  refine .ai rfl (af.gF 92 rfl rfl (by kernel_rfl)) ?_
  rintro _ _ ⟨b5,rfl,rfl⟩
  refine J 1 ?_
  refine .to (A:=sl de 1 (.slice (some ⟨b5,0,none⟩) 0 0) ([]:List Int)) (Bs:=[]) .nil (fun h e=>.inl ⟨⟨_,rfl⟩,rfl,e⟩) ?_
  refine .ai rfl (af.append rfl underlying64 underlying64 typeInfo92 rfl rfl rfl (by decide) rfl rfl .auto Rd.s (by simp;omega) (sZ _)) ?_
  rintro _ _ ⟨v7,rfl,rfl⟩
  refine J 4 ?_
  refine .aP rfl rfl fun w s=>⟨_,?_,trivial,aj .auto s⟩
  rfl
theorem Nf{W:World}{v:Value}{xs:List Int}:Fn Tryz.prog W 85 [v] [sl de 1 v xs] Value (fun u=>u) (fun _=>True) (fun u=>[sl de 1 u xs]):=by
 refine Fn.intro (N:=9) func85 rfl ntmps85 rfl fun F=>?_
 show aq _ _ _ _ _ _ [sl de 1 v xs,F]
 refine .cM (fun w s=>(Rd.sl (W:=W) .here w s).1) fun hr=>?_
 obtain⟨a,cap,rfl,hle, -⟩:=hr
 refine J 12 ?_
 refine .p (.rM xs.length xs.length underlying64 sizeOf92 rfl rfl rfl rfl rfl (Nat.le_refl _) hle) ?_
 refine J 4 ?_
 refine .fx .auto rP ?_
 rintro J -
 refine .aP rfl rfl fun w s=>⟨_,?_,trivial,aj .auto s⟩
 rfl
theorem yA{W:World}{A:aa}{v:Value}{xs:List Ev}(hr:Rd W [A] cv 3 v xs)(hl:xs.length≤1000000000):Fn Tryz.prog W 153 [v] [A] Value (fun u=>u) (fun _=>True) (fun u=>[sl cv 3 u xs,A]):=by
 refine Fn.intro (N:=8) func153 rfl ntmps153 rfl fun F=>?_
 haveI hRI:∀ (H:List aa) [bx H A],aA W H v cv 3 xs:=fun H h=>⟨hr.at h.has⟩
 show aq _ _ _ _ _ _ [A,F]
 refine J 9 ?_
 refine .p (.sW underlying165 rfl rfl Rd.s) ?_
 refine JD 2 (fun h4=>?_) fun h4=>?_
 ·refine J 7 ?_
  refine .cM (fun w s=>Rd.s4 Rd.s h4 w s) fun hn=>?_
  subst hn
  refine .to (A:=sl cv 3 (.slice none 0 0) ([]:List Ev)) (Bs:=[]) .nil (fun h e=>.inl ⟨⟨_,rfl⟩,rfl,e⟩) ?_
  refine .aP rfl rfl fun w s=>⟨_,?_,trivial,aj .auto s⟩
  rfl
 ·refine J 4 ?_
  refine .ai rfl (af.gF 232 rfl rfl (by kernel_rfl)) ?_
  rintro _ _ ⟨b5,rfl,rfl⟩
  refine J 1 ?_
  refine .to (A:=sl cv 3 (.slice (some ⟨b5,0,none⟩) 0 0) ([]:List Ev)) (Bs:=[]) .nil (fun h e=>.inl ⟨⟨_,rfl⟩,rfl,e⟩) ?_
  refine .ai rfl (af.append rfl underlying165 underlying165 typeInfo232 rfl rfl rfl (by decide) rfl rfl .auto Rd.s (by simp;omega) (Cz _)) ?_
  rintro _ _ ⟨v7,rfl,rfl⟩
  refine J 4 ?_
  refine .aP rfl rfl fun w s=>⟨_,?_,trivial,aj .auto s⟩
  rfl
theorem L6{W:World}{A:aa}{v:Value}{xs:List Rec}(hr:Rd W [A] cW 6 v xs)(hl:xs.length≤1000000000):Fn Tryz.prog W 84 [v] [A] Value (fun u=>u) (fun _=>True) (fun u=>[sl cW 6 u xs,A]):=by
 refine Fn.intro (N:=8) func84 rfl ntmps84 rfl fun F=>?_
 haveI hRI:∀ (H:List aa) [bx H A],aA W H v cW 6 xs:=fun H h=>⟨hr.at h.has⟩
 show aq _ _ _ _ _ _ [A,F]
 refine J 9 ?_
 refine .p (.sW underlying33 rfl rfl Rd.s) ?_
 refine JD 2 (fun h4=>?_) fun h4=>?_
 ·refine J 7 ?_
  refine .cM (fun w s=>Rd.s4 Rd.s h4 w s) fun hn=>?_
  subst hn
  refine .to (A:=sl cW 6 (.slice none 0 0) ([]:List Rec)) (Bs:=[]) .nil (fun h e=>.inl ⟨⟨_,rfl⟩,rfl,e⟩) ?_
  refine .aP rfl rfl fun w s=>⟨_,?_,trivial,aj .auto s⟩
  rfl
 ·refine J 4 ?_
  refine .ai rfl (af.gF 102 rfl rfl (by kernel_rfl)) ?_
  rintro _ _ ⟨b5,rfl,rfl⟩
  refine J 1 ?_
  refine .to (A:=sl cW 6 (.slice (some ⟨b5,0,none⟩) 0 0) ([]:List Rec)) (Bs:=[]) .nil (fun h e=>.inl ⟨⟨_,rfl⟩,rfl,e⟩) ?_
  refine .ai rfl (af.append rfl underlying33 underlying33 typeInfo102 rfl rfl rfl (by decide) rfl rfl .auto Rd.s (by simp;omega) (zh _)) ?_
  rintro _ _ ⟨v7,rfl,rfl⟩
  refine J 4 ?_
  refine .aP rfl rfl fun w s=>⟨_,?_,trivial,aj .auto s⟩
  rfl
theorem Ng{W:World}{v:Value}{xs:List Rec}:Fn Tryz.prog W 83 [v] [sl cW 6 v xs] Value (fun u=>u) (fun _=>True) (fun u=>[sl cW 6 u xs]):=by
 refine Fn.intro (N:=9) func83 rfl ntmps83 rfl fun F=>?_
 show aq _ _ _ _ _ _ [sl cW 6 v xs,F]
 refine .cM (fun w s=>(Rd.sl (W:=W) .here w s).1) fun hr=>?_
 obtain⟨a,cap,rfl,hle, -⟩:=hr
 refine J 12 ?_
 refine .p (.rM xs.length xs.length underlying33 sizeOf102 rfl rfl rfl rfl rfl (Nat.le_refl _) hle) ?_
 refine J 4 ?_
 refine .fx .auto rP ?_
 rintro J -
 refine .aP rfl rfl fun w s=>⟨_,?_,trivial,aj .auto s⟩
 rfl
theorem L7{W:World}{A:aa}{v:Value}{xs:List Ins}(hr:Rd W [A] dM 5 v xs)(hl:xs.length≤1000000000):Fn Tryz.prog W 69 [v] [A] Value (fun u=>u) (fun _=>True) (fun u=>[sl dM 5 u xs,A]):=by
 refine Fn.intro (N:=8) func69 rfl ntmps69 rfl fun F=>?_
 haveI hRI:∀ (H:List aa) [bx H A],aA W H v dM 5 xs:=fun H h=>⟨hr.at h.has⟩
 show aq _ _ _ _ _ _ [A,F]
 refine J 9 ?_
 refine .p (.sW underlying95 rfl rfl Rd.s) ?_
 refine JD 2 (fun h4=>?_) fun h4=>?_
 ·refine J 7 ?_
  refine .cM (fun w s=>Rd.s4 Rd.s h4 w s) fun hn=>?_
  subst hn
  refine .to (A:=sl dM 5 (.slice none 0 0) ([]:List Ins)) (Bs:=[]) .nil (fun h e=>.inl ⟨⟨_,rfl⟩,rfl,e⟩) ?_
  refine .aP rfl rfl fun w s=>⟨_,?_,trivial,aj .auto s⟩
  rfl
 ·refine J 4 ?_
  refine .ai rfl (af.gF 94 rfl rfl (by kernel_rfl)) ?_
  rintro _ _ ⟨b5,rfl,rfl⟩
  refine J 1 ?_
  refine .to (A:=sl dM 5 (.slice (some ⟨b5,0,none⟩) 0 0) ([]:List Ins)) (Bs:=[]) .nil (fun h e=>.inl ⟨⟨_,rfl⟩,rfl,e⟩) ?_
  refine .ai rfl (af.append rfl underlying95 underlying95 typeInfo94 rfl rfl rfl (by decide) rfl rfl .auto Rd.s (by simp;omega) (F9 _)) ?_
  rintro _ _ ⟨v7,rfl,rfl⟩
  refine J 4 ?_
  refine .aP rfl rfl fun w s=>⟨_,?_,trivial,aj .auto s⟩
  rfl
theorem J2{W:World}{A:aa}{v:Value}{xs:List (Value×List Ins)}(hr:Rd W [A] ek 1 v xs)(hl:xs.length≤1000000000)(hone:∀ y∈xs, ∀ c∈ek y,c.oneCell'=true):Fn Tryz.prog W 68 [v] [A] Value (fun u=>u) (fun _=>True) (fun u=>[sl ek 1 u xs,A]):=by
 refine Fn.intro (N:=8) func68 rfl ntmps68 rfl fun F=>?_
 haveI hRI:∀ (H:List aa) [bx H A],aA W H v ek 1 xs:=fun H h=>⟨hr.at h.has⟩
 show aq _ _ _ _ _ _ [A,F]
 refine J 9 ?_
 refine .p (.sW underlying49 rfl rfl Rd.s) ?_
 refine JD 2 (fun h4=>?_) fun h4=>?_
 ·refine J 7 ?_
  refine .cM (fun w s=>Rd.s4 Rd.s h4 w s) fun hn=>?_
  subst hn
  refine .to (A:=sl ek 1 (.slice none 0 0) ([]:List (Value×List Ins))) (Bs:=[]) .nil (fun h e=>.inl ⟨⟨_,rfl⟩,rfl,e⟩) ?_
  refine .aP rfl rfl fun w s=>⟨_,?_,trivial,aj .auto s⟩
  rfl
 ·refine J 4 ?_
  refine .ai rfl (af.gF 95 rfl rfl (by kernel_rfl)) ?_
  rintro _ _ ⟨b5,rfl,rfl⟩
  refine J 1 ?_
  refine .to (A:=sl ek 1 (.slice (some ⟨b5,0,none⟩) 0 0) ([]:List (Value×List Ins))) (Bs:=[]) .nil (fun h e=>.inl ⟨⟨_,rfl⟩,rfl,e⟩) ?_
  refine .ai rfl (af.append rfl underlying49 underlying49 typeInfo95 rfl rfl rfl (by decide) rfl rfl .auto Rd.s (by simp;omega) hone) ?_
  rintro _ _ ⟨v7,rfl,rfl⟩
  refine J 4 ?_
  refine .aP rfl rfl fun w s=>⟨_,?_,trivial,aj .auto s⟩
  rfl
theorem L8{W:World}{A:aa}{v:Value}{xs:List eN}(hr:Rd W [A] cR 4 v xs)(hl:xs.length≤1000000000):Fn Tryz.prog W 52 [v] [A] Value (fun u=>u) (fun _=>True) (fun u=>[sl cR 4 u xs,A]):=by
 refine Fn.intro (N:=8) func52 rfl ntmps52 rfl fun F=>?_
 haveI hRI:∀ (H:List aa) [bx H A],aA W H v cR 4 xs:=fun H h=>⟨hr.at h.has⟩
 show aq _ _ _ _ _ _ [A,F]
 refine J 9 ?_
 refine .p (.sW underlying36 rfl rfl Rd.s) ?_
 refine JD 2 (fun h4=>?_) fun h4=>?_
 ·refine J 7 ?_
  refine .cM (fun w s=>Rd.s4 Rd.s h4 w s) fun hn=>?_
  subst hn
  refine .to (A:=sl cR 4 (.slice none 0 0) ([]:List eN)) (Bs:=[]) .nil (fun h e=>.inl ⟨⟨_,rfl⟩,rfl,e⟩) ?_
  refine .aP rfl rfl fun w s=>⟨_,?_,trivial,aj .auto s⟩
  rfl
 ·refine J 4 ?_
  refine .ai rfl (af.gF 55 rfl rfl (by kernel_rfl)) ?_
  rintro _ _ ⟨b5,rfl,rfl⟩
  refine J 1 ?_
  refine .to (A:=sl cR 4 (.slice (some ⟨b5,0,none⟩) 0 0) ([]:List eN)) (Bs:=[]) .nil (fun h e=>.inl ⟨⟨_,rfl⟩,rfl,e⟩) ?_
  refine .ai rfl (af.append rfl underlying36 underlying36 typeInfo55 rfl rfl rfl (by decide) rfl rfl .auto Rd.s (by simp;omega) (HD _)) ?_
  rintro _ _ ⟨v7,rfl,rfl⟩
  refine J 4 ?_
  refine .aP rfl rfl fun w s=>⟨_,?_,trivial,aj .auto s⟩
  rfl
theorem Nh{W:World}{v:Value}{xs:List eN}:Fn Tryz.prog W 51 [v] [sl cR 4 v xs] Value (fun u=>u) (fun _=>True) (fun u=>[sl cR 4 u xs]):=by
 refine Fn.intro (N:=9) func51 rfl ntmps51 rfl fun F=>?_
 show aq _ _ _ _ _ _ [sl cR 4 v xs,F]
 refine .cM (fun w s=>(Rd.sl (W:=W) .here w s).1) fun hr=>?_
 obtain⟨a,cap,rfl,hle, -⟩:=hr
 refine J 12 ?_
 refine .p (.rM xs.length xs.length underlying36 sizeOf55 rfl rfl rfl rfl rfl (Nat.le_refl _) hle) ?_
 refine J 4 ?_
 refine .fx .auto rP ?_
 rintro J -
 refine .aP rfl rfl fun w s=>⟨_,?_,trivial,aj .auto s⟩
 rfl
theorem L9{W:World}{A:aa}{v:Value}{xs:List Int}{x:Int}(hr:Rd W [A] av 1 v xs)(hl:xs.length≤1000000000):Fn Tryz.prog W 101 [v,.int .i64 x] [A] Unit (fun _=>.int .i64 (idxOf x xs)) (fun _=>True) (fun _=>[A]):=by
 refine Fn.intro (N:=19) func101 rfl ntmps101 rfl fun F=>?_
 haveI hRI:∀ (H:List aa) [bx H A],aA W H v av 1 xs:=fun H h=>⟨hr.at h.has⟩
 show aq _ _ _ _ _ _ [A,F]
 refine J 14 ?_
 refine .bm (X:=Nat) [4,5,8,9,10,11,12,13,14,15,16,17,18] (fun k=>xs.length-k) (fun k=>k≤xs.length∧idxOf x xs=idxFrom x (xs.drop k) k) (fun k=>[(8,some (.int .i64 (k:Int)))]) (fun k=>[A,F]) 0 ?_ ?_ ?_ ?_
 ·exact⟨Nat.zero_le _,by simp[idxOf]⟩
 ·exact⟨rfl,trivial⟩
 ·exact fun w s=>aw.kept .auto w s
 rintro k ⟨hk,hn⟩
 refine JD 6 (fun h9=>?_) fun h9=>?_
 ·refine J 15 ?_
  obtain⟨y,hy⟩:=ak (show k<xs.length by omega)
  refine JD 5 (fun h=>?_) fun h=>?_
  ·refine J 12 ?_
   refine .aP rfl rfl fun w s=>⟨(),?_,trivial,aj .auto s⟩
   rw[hn,Jc hy h]
  ·refine J 7 ?_
   refine .aH (k+1) .auto rfl ?_ ?_ ?_ ?_
   ·first | omega | (dsimp only;omega)
   ·exact⟨by omega,hn.trans (Ge hy h)⟩
   ·exact⟨rfl,trivial⟩
   ·exact fun w s=>aw.kept .auto w s
 ·refine J 11 ?_
  refine .aP rfl rfl fun w s=>⟨(),?_,trivial,aj .auto s⟩
  rw[hn,Jd (by omega)]
theorem wX{W:World}{A:aa}{v:Value}{xs:List Int}{x:Int}(hr:Rd W [A] av 1 v xs)(hl:xs.length≤1000000000):Fn Tryz.prog W 59 [v,.int .i64 x] [A] Unit (fun _=>.bool (xs.contains x)) (fun _=>True) (fun _=>[A]):=by
 refine Fn.intro (N:=9) func59 rfl ntmps59 rfl fun F=>?_
 show aq _ _ _ _ _ _ [A,F]
 refine J 9 ?_
 refine .c call101 rfl (L9 hr hl) fun _ _=>?_
 refine J 5 ?_
 refine .aP rfl rfl fun w s=>⟨(),?_,trivial,aj .auto s⟩
 rw[idxOf,xE]
theorem N9{W:World}{A:aa}{v:Value}{xs:List Int}(hr:Rd W [A] av 1 v xs)(hl:xs.length≤1000000000)(h0:0<xs.length):Fn Tryz.prog W 95 [v] [A] Unit (fun _=>.int .i64 (minOf xs)) (fun _=>True) (fun _=>[A]):=by
 refine Fn.intro (N:=25) func95 rfl ntmps95 rfl fun F=>?_
 haveI hRI:∀ (H:List aa) [bx H A],aA W H v av 1 xs:=fun H h=>⟨hr.at h.has⟩
 obtain⟨y0,ys,rfl⟩:∃ y ys,xs=y::ys:=by cases xs with | nil=>simp at h0 | cons y ys=>exact⟨y,ys,rfl⟩
 show aq _ _ _ _ _ _ [A,F]
 refine JD 13 (fun h7=>?_) fun h7=>?_
 ·exact absurd h7 (by simp;omega)
 ·refine J 5 ?_
  have hy0:(y0::ys)[0]?=some y0:=rfl
  refine .p (.ix 0 rfl rfl rfl (by simp)) ?_
  refine J 11 ?_
  refine .bm (X:=Nat) [3,4,12,13,14,15,16,17,18,19,20,21,22,23] (fun k=>ys.length-k) (fun k=>k≤ys.length) (fun k=>[(4,some (.int .i64 ((k+1:Nat):Int))),(3,some (.int .i64 ((ys.take k).foldl min y0)))]) (fun k=>[A,F]) 0 ?_ ?_ ?_ ?_
  ·exact Nat.zero_le _
  ·exact⟨rfl,rfl,trivial⟩
  ·exact fun w s=>aw.kept .auto w s
  rintro k hk
  refine JD 9 (fun h15=>?_) fun h15=>?_
  ·refine J 8 ?_
   obtain⟨y,hy⟩:=ak (show k+1<(y0::ys).length by omega)
   refine J 2 ?_
   refine .p (.lK rfl rfl) ?_
   refine J 9 ?_
   refine .aH (k+1) .auto rfl ?_ ?_ ?_ ?_
   ·simp only[List.length_cons] at h15;omega
   ·simp only[List.length_cons] at h15;omega
   ·refine⟨rfl,?_,trivial⟩
    have:ys[k]?=some y:=by simpa using hy
    rw[aU this,List.foldl_append];rfl
   ·exact fun w s=>aw.kept .auto w s
  ·refine J 12 ?_
   obtain rfl:k=ys.length:=by simp only[List.length_cons] at h15;omega
   refine .aP rfl rfl fun w s=>⟨(),?_,trivial,aj .auto s⟩
   rw[List.take_length];rfl
theorem Ni{W:World}{n:Nat}(hn:n≤1000000000):Fn Tryz.prog W 226 [.slice none 0 0,.int .i64 (n:Int)] [] Value (fun u=>u) (fun _=>True) (fun u=>[sl cv 3 u ([]:List Ev)]):=by
 refine Fn.intro (N:=27) func226 rfl ntmps226 rfl fun F=>?_
 show aq _ _ _ _ _ _ [F]
 refine JD 12 (fun h6=>?_) fun h6=>?_
 ·omega
 ·refine J 7 ?_
  refine .p (.zb underlying165 rfl) ?_
  refine JD 13 (fun h16=>?_) fun h16=>?_
  ·refine J 3 ?_
   refine .p (.zb underlying165 rfl) ?_
   refine .p (.jK 0 underlying165 sizeOf232 rfl rfl rfl (Nat.le_refl _)) ?_
   refine J 1 ?_
   refine .ai rfl (af.Be (enc:=cv) (k:=3) ⟨0,0,0⟩ n rfl underlying165 underlying3 typeInfo232 rfl rfl rfl rfl (by decide) (by decide) rfl rfl (by omega) (by omega)) ?_
   rintro _ _ ⟨⟨b22,c22⟩,hc22,rfl,rfl⟩
   refine J 2 ?_
   refine .p (.jK 0 underlying165 sizeOf232 rfl rfl rfl (Nat.zero_le _)) ?_
   refine J 10 ?_
   refine .fr .auto (DQ 0 (Nat.zero_le _)) ?_
   refine .aP rfl rfl fun w s=>⟨_,?_,trivial,aj .auto s⟩
   rfl
  ·refine J 9 ?_
   refine .to (A:=sl cv 3 (.slice none 0 0) ([]:List Ev)) (Bs:=[]) .nil (fun h e=>.inl ⟨⟨_,rfl⟩,rfl,e⟩) ?_
   refine .aP rfl rfl fun w s=>⟨_,?_,trivial,aj .auto s⟩
   rfl
theorem Dn{W:World}{A:aa}{v:Value}{qs:List (Value×List Ev)}(hr:Rd W [A] ek 1 v qs)(hq:∀ q∈qs,Rd W [A] cv 3 q.1 q.2)(hl:qs.length≤1000000)(hs:(qs.flatMap (·.2)).length≤1000000000):Fn Tryz.prog W 184 [v] [A] Value (fun u=>u) (fun _=>True) (fun u=>[sl cv 3 u (qs.flatMap (·.2)),A]):=by
 refine Fn.intro (N:=36) func184 rfl ntmps184 rfl fun F=>?_
 haveI hRI:∀ (H:List aa) [bx H A],aA W H v ek 1 qs:=fun H h=>⟨hr.at h.has⟩
 show aq _ _ _ _ _ _ [A,F]
 refine J 19 ?_
 refine .bm (X:=Nat) [3,5,11,12,13,14,15,16,17,18,19,20,21,22] (fun k=>qs.length-k) (fun k=>k≤qs.length) (fun k=>[(11,some (.int .i64 (k:Int))),(3,some (.int .i64 ((((qs.take k).flatMap (·.2)).length:Nat):Int)))]) (fun k=>[A,F]) 0 ?_ ?_ ?_ ?_
 ·exact Nat.zero_le _
 ·exact⟨rfl,rfl,trivial⟩
 ·exact fun w s=>aw.kept .auto w s
 rintro k hk
 refine JD 6 (fun h12=>?_) fun h12=>?_
 ·refine J 6 ?_
  obtain⟨q,hx⟩:=ak (show k<qs.length by omega)
  have hqr:=hq q (List.mem_of_getElem? hx)
  have hRq:∀ (H:List aa) [bx H A],aA W H q.1 cv 3 q.2:=fun H h=>⟨hqr.at h.has⟩
  have hle:=CA (f:=fun q:Value×List Ev=>q.2) qs (k+1)
  rw[mV hx,List.length_append] at hle
  refine J 10 ?_
  refine .p (.add rfl rfl (by omega)) ?_
  refine JD 9 (fun h20=>?_) fun h20=>?_
  ·omega
  ·refine J 7 ?_
   refine .aH (k+1) .auto rfl ?_ ?_ ?_ ?_
   ·first | omega | (dsimp only;omega)
   ·omega
   ·refine⟨rfl,?_,trivial⟩
    rw[mV hx,List.length_append,Int.natCast_add];rfl
   ·exact fun w s=>aw.kept .auto w s
 ·refine J 8 ?_
  obtain rfl:k=qs.length:=by omega
  rw[List.take_length]
  refine .c call226 rfl (Ni hs) fun u _=>?_
  refine J 12 ?_
  refine .bm (X:=Nat×Value) [6,8,27,28,29,30,31,32,33,34] (fun z=>qs.length-z.1) (fun z=>z.1≤qs.length) (fun z=>[(27,some (.int .i64 (z.1:Int))),(6,some z.2)]) (fun z=>[sl cv 3 z.2 ((qs.take z.1).flatMap (·.2)),A,F]) (0,u) ?_ ?_ ?_ ?_
  ·exact Nat.zero_le _
  ·exact⟨rfl,rfl,trivial⟩
  ·exact fun w s=>aw.kept .auto w s
  rintro⟨k,u⟩ hk
  simp only at hk
  refine JD 6 (fun h28=>?_) fun h28=>?_
  ·refine J 6 ?_
   obtain⟨q,hx⟩:=ak (show k<qs.length by omega)
   have hqr:=hq q (List.mem_of_getElem? hx)
   have hRq:∀ (H:List aa) [bx H A],aA W H q.1 cv 3 q.2:=fun H h=>⟨hqr.at h.has⟩
   have hle:=CA (f:=fun q:Value×List Ev=>q.2) qs (k+1)
   rw[mV hx,List.length_append] at hle
   refine J 8 ?_
   refine .ai rfl (af.append rfl underlying165 underlying165 typeInfo232 rfl rfl rfl (by decide) rfl rfl .auto Rd.s (by dsimp only;omega) (Cz _)) ?_
   rintro _ _ ⟨v33,rfl,rfl⟩
   refine J 8 ?_
   refine .aH (k+1,v33) .auto rfl ?_ ?_ ?_ ?_
   ·show qs.length-(k+1)<qs.length-k;omega
   ·show k+1≤qs.length;omega
   ·exact⟨rfl,rfl,trivial⟩
   ·show ∀ w,Sat _ w _→Sat _ w (seps [sl cv 3 v33 ((qs.take (k+1)).flatMap (·.2)),A,F])
    rw[mV hx]
    exact fun w s=>aw.kept .auto w s
  ·refine J 12 ?_
   obtain rfl:k=qs.length:=by omega
   rw[List.take_length]
   refine .aP rfl rfl fun w s=>⟨_,?_,trivial,aj .auto s⟩
   rfl
theorem uk{W:World}{A:aa}{va vb:Value}{xs ys:List Ev}(ha:Rd W [A] cv 3 va xs)(hb:Rd W [A] cv 3 vb ys)(hl:xs.length+ys.length≤1000000000):Fn Tryz.prog W 134 [va,vb] [A] Value (fun u=>u) (fun _=>True) (fun u=>[sl cv 3 u (xs++ys),A]):=by
 refine Fn.intro (N:=9) func134 rfl ntmps134 rfl fun F=>?_
 show aq _ _ _ _ _ _ [A,F]
 refine .cM (fun w s=>Rd.shape (ha.at .here) w s) fun e=>?_
 obtain⟨a1,c1,rfl⟩:=e
 refine .cM (fun w s=>Rd.shape (hb.at .here) w s) fun e=>?_
 obtain⟨a2,c2,rfl⟩:=e
 refine J 9 ?_
 refine .ai rfl (af.gF 165 rfl rfl (by kernel_rfl)) ?_
 rintro _ _ ⟨b7,rfl,rfl⟩
 refine .ai rfl (af.eH rfl call184 rfl (Dn (A:=seps [arr b7 0 [.slice a1 xs.length c1,.slice a2 ys.length c2],A]) (qs:=[(.slice a1 xs.length c1,xs),(.slice a2 ys.length c2,ys)]) (Rd.eO (Rd.lit .here rfl (fun _ _=>rfl) rfl)) (by
   intro q hq
   simp only[List.mem_cons,List.not_mem_nil,or_false] at hq
   rcases hq with rfl | rfl
   ·exact Rd.eO (Rd.at ha (.there .here))
   ·exact Rd.eO (Rd.at hb (.there .here))) (by simp) (by simpa using hl)) .auto) ?_
 rintro _ _ ⟨u, -,rfl,rfl⟩
 rw[show[(Value.slice a1 xs.length c1,xs),(.slice a2 ys.length c2,ys)].flatMap (fun q:Value×List Ev=>q.2)=xs++ys from by simp]
 refine .dO (by repeat (first | exact Take.here | apply Take.there)) ?_
 refine J 4 ?_
 refine .aP rfl rfl fun w s=>⟨_,?_,trivial,aj .auto s⟩
 rfl
theorem Nj{W:World}{n:Int}(hn:0≤n∧n≤64):Fn Tryz.prog W 182 [.int .u64 1,.int .u64 n] [] Unit (fun _=>.tuple #[.int .u64 0,.int .u64 n]) (fun _=>True) (fun _=>[]):=by
 refine Fn.intro (N:=51) func182 rfl ntmps182 rfl fun F=>?_
 show aq _ _ _ _ _ _ [F]
 refine J 9 ?_
 refine .p (.fY (Y.K9 rfl rfl) (p4 (by omega))) ?_
 refine J 6 ?_
 refine .p (.fY (Y.F7 rfl rfl (by omega)) (jl (by omega))) ?_
 refine J 6 ?_
 refine .p (.fY (Y.K9 rfl rfl) (p4 (by omega))) ?_
 refine J 6 ?_
 refine .p (.fY (Y.F7 rfl rfl (by omega)) (jl (by omega))) ?_
 refine J 7 ?_
 refine .p (.DM rfl rfl (by omega)) ?_
 refine J 7 ?_
 refine .p (.DM rfl rfl (by omega)) ?_
 refine J 1 ?_
 refine .p (.fY (Y.F7 rfl rfl (by omega)) (jl (by omega))) ?_
 refine .p (.A1 rfl rfl (by omega)) ?_
 refine J 6 ?_
 refine .p (.fY (Y.K9 rfl rfl) (p4 (by omega))) ?_
 refine J 6 ?_
 refine .p (.fY (Y.F7 rfl rfl (by omega)) (jl (by omega))) ?_
 refine J 8 ?_
 refine .p (.DM rfl rfl (by omega)) ?_
 refine .p (.A1 rfl rfl (by omega)) ?_
 refine J 7 ?_
 refine .p (.DM rfl rfl (by omega)) ?_
 refine J 1 ?_
 refine .p (.A1 rfl rfl (by omega)) ?_
 refine J 1 ?_
 refine .p (.fY (Y.F7 rfl rfl (by omega)) (jl (by omega))) ?_
 refine .p (.A1 rfl rfl (by omega)) ?_
 refine J 7 ?_
 refine .p (.DM rfl rfl (by omega)) ?_
 refine J 4 ?_
 refine .ez rfl rfl rfl fun w s=>⟨(),?_,trivial,aj .auto s⟩
 simp
theorem Oa{W:World}{n:Int}(hn:0≤n∧n≤64):Fn Tryz.prog W 129 [.int .u64 1,.int .u64 n] [] Unit (fun _=>.tuple #[.int .u64 0,.int .u64 n]) (fun _=>True) (fun _=>[]):=by
 refine Fn.intro (N:=30) func129 rfl ntmps129 rfl fun F=>?_
 show aq _ _ _ _ _ _ [F]
 refine J 7 ?_
 refine .eQ rfl ?_
 refine J 6 ?_
 refine .c call182 rfl (Nj hn) fun _ _=>?_
 exact JR 16 ()
theorem J3{W:World}{A:aa}{v:Value}{a:Int}{n:Nat}(hr:Rd W [A] av 1 v [a])(hn:1≤n∧n≤64):Fn Tryz.prog W 87 [v,.int .i64 (n:Int)] [A] Value (fun u=>u) (fun _=>True) (fun u=>[sl av 1 u (List.replicate n a),A]):=by
 refine Fn.intro (N:=48) func87 rfl ntmps87 rfl fun F=>?_
 haveI hRI:∀ (H:List aa) [bx H A],aA W H v av 1 [a]:=fun H h=>⟨hr.at h.has⟩
 show aq _ _ _ _ _ _ [A,F]
 refine .s (.r (.p (.a rfl) (.n (.t (.s (.s (.r (.p (.m rfl) (.p (.lss rfl rfl) (.n (.t (.dY rfl (fun h10=>?_) (fun h10=>?_)))))))))))))
 ·omega
 ·refine .v (.t (.s (.r (.p (.m rfl) (.p (.len rfl) ?_)))))
  refine .p (.conv underlying3 underlying222 rfl) ?_
  refine .p (.m rfl) ?_
  refine .p (.sP underlying3 underlying222 rfl (by omega)) ?_
  refine .ai rfl (af.eH rfl call129 rfl (Oa (n:=(n:Int)) (by omega)) .auto) ?_
  rintro _ _ ⟨⟨⟩, -,rfl,rfl⟩
  refine .p (.m rfl) (.p (.extract rfl rfl) (.p (.extract rfl rfl) (.p (.a rfl) (.p (.a rfl) (.n (.t (.s (.s (.r (.p (.m rfl) (.p (.gtr rfl rfl) (.p (.m rfl) ?_))))))))))))
  refine .sB (t:=23) rfl (fun h22=>?_) (fun h22=>?_)
  ·omega
  ·refine .g (.m rfl) (.g (.gtr rfl rfl) (.p (.u rfl rfl) (.n (.t (.dY rfl (fun h26=>?_) (fun h26=>?_))))))
   ·omega
   ·refine .v (.t (.s (.r (.p (.m rfl) ?_))))
    refine .p (.jj underlying222 underlying3 rfl (by omega)) ?_
    refine .ai rfl (af.FX (enc:=av) (k:=1) 0 n rfl underlying50 typeInfo3 rfl rfl rfl rfl (by decide) (by decide) rfl rfl rfl rfl (by omega)) ?_
    rintro _ _ ⟨b30,rfl,rfl⟩
    refine .p (.a rfl) (.n (.t (.s (.r (.p (.m rfl) (.p (.m rfl) ?_))))))
    refine .ai rfl (af.Bf (i:=0) rfl underlying50 sizeOf3 rfl rfl Rd.s .auto (by simp) (Nat.zero_le _) (by omega) (oM _)) ?_
    rintro _ _ ⟨rfl,rfl⟩
    rw[show min [a].length (n-0)=1 from by simp;omega,show(List.replicate n (0:Int)).take 0++([a].take 1++(List.replicate n 0).drop (0+1))=List.replicate 1 a++List.replicate (n-1) 0 from by simp]
    refine .p (.a rfl) (.n (.t (.s (.b ?_))))
    refine .bm (X:=Nat) [8,34,35,36,37,38,39,40,41,42,43,44,45,46] (fun j=>n-j) (fun j=>1≤j∧j≤n) (fun j=>[(8,some (.int .i64 (j:Int)))]) (fun j=>[sl av 1 (.slice (some ⟨b30,0,none⟩) n n) (List.replicate j a++List.replicate (n-j) 0),A,F]) 1 ?_ ?_ ?_ ?_
    ·exact⟨Nat.le_refl _,hn.1⟩
    ·exact⟨rfl,trivial⟩
    ·exact fun w s=>aw.kept .auto w s
    rintro j hj
    refine .s (.s (.r (.p (.m rfl) (.p (.m rfl) (.p (.lens rfl) (.p (.lss rfl rfl) (.n (.t (.dY rfl (fun h37=>?_) (fun h37=>?_))))))))))
    ·refine .v (.t (.b ?_))
     refine .draw [] [0,1,1,1,1,1,1,2,1,1] rfl (by kernel_rfl) ?_
     refine .q (.m rfl) (.p (.m rfl) (.p (.m rfl) ?_))
     refine .p (.F6 j underlying50 sizeOf3 rfl rfl rfl (by omega) (by omega)) ?_
     refine .p (.m rfl) (.p (.m rfl) ?_)
     refine .p (.jK j underlying50 sizeOf3 rfl rfl rfl (by omega)) ?_
     refine .d2 rfl Kept.auto (af.Bf (enc:=av) (i:=j) (ys:=List.replicate j a) rfl underlying50 sizeOf3 rfl rfl (Rd.rep hj.2 Rd.s) .auto (by simp;omega) (by omega) (by omega) (oM _)) (by rintro _ _ ⟨rfl,rfl⟩;exact Kept.auto) ?_
     rintro _ _ ⟨rfl,rfl⟩
     refine .p (.add rfl rfl (by omega)) ?_
     refine .p (.a rfl) (.n (.b ?_))
     refine .aH (j+min j (n-j)) .auto rfl ?_ ?_ ?_ ?_
     ·omega
     ·omega
     ·refine⟨?_,trivial⟩
      rw[show(List.replicate j a).length=j from by simp];rfl
     ·show ∀ w,Sat _ w _→Sat _ w (seps [sl av 1 _ (List.replicate (j+min j (n-j)) a++List.replicate (n-(j+min j (n-j))) 0),A,F])
      rw[← Gd j n a hj.2]
      exact fun w s=>aw.kept .auto w s
    ·refine .x (.tx (.tx (.bh (.t (.s (.r (.p (.m rfl) (.p (.a rfl) (.n (.t (.e ?_)))))))))))
     obtain rfl:j=n:=by omega
     rw[Nat.sub_self,List.replicate_zero,List.append_nil]
     refine .aP rfl rfl fun w s=>⟨_,?_,trivial,aj .auto s⟩
     rfl
end Go.SLYtpbjdoplfgeliaaGreat
namespace Go.SLYtpbjdoplfgeliaaGreat
open Go Go.RowKit Go.Proofs Go.Proofs.Tryz
attribute [local irreducible] aq aR bf bq bB Y
theorem fF{W:World}{n m:Int}:Fn Tryz.prog W 154 [.int .i64 n,.int .i64 m] [] Unit (fun _=>.bool (within n m)) (fun _=>True) (fun _=>[]):=by
 refine Fn.intro (N:=12) func154 rfl ntmps154 rfl fun F=>?_
 show aq _ _ _ _ _ _ [F]
 refine J 10 ?_
 apply aR.gZ 4 11 7 [7,8,9,10,11] rfl
 ·intro h7
  exact JS 5
 ·intro h7
  exact JS 5
 exact JR 4 ()
theorem pP{W:World}{n m:Int}:Fn Tryz.prog W 144 [.int .i64 n,.int .i64 m] [] Unit (fun _=>.bool (within n m)) (fun _=>True) (fun _=>[]):=by
 refine Fn.intro (N:=12) func144 rfl ntmps144 rfl fun F=>?_
 show aq _ _ _ _ _ _ [F]
 refine J 10 ?_
 apply aR.gZ 4 11 7 [7,8,9,10,11] rfl
 ·intro h7
  exact JS 5
 ·intro h7
  exact JS 5
 exact JR 4 ()
theorem mK{W:World}{n:Int}{b:Bool}:Fn Tryz.prog W 156 [.int .i64 n,.bool b] [] Unit (fun _=>.bool (vP n b)) (fun _=>True) (fun _=>[]):=by
 refine Fn.intro (N:=18) func156 rfl ntmps156 rfl fun F=>?_
 show aq _ _ _ _ _ _ [F]
 refine J 10 ?_
 apply aR.ga 10 17 7 [7,8,9,10,11,12,13,14,15,16,17] rfl
 ·intro h7
  refine J 2 ?_
  apply aR.gL 3 12 9 [9,10,11,12] rfl
  ·intro h9
   refine J 4 ?_
   refine .vR .auto rfl (by first | exact fun _ h=>h | exact aw.kept .auto)
  ·intro h9
   refine J 4 ?_
   refine .vR .auto rfl (by first | exact fun _ h=>h | exact aw.kept .auto)
  refine J 1 ?_
  apply aR.gL 3 16 13 [13,14,15,16] rfl
  ·intro h13
   refine J 4 ?_
   refine .vR .auto rfl (by first | exact fun _ h=>h | exact aw.kept .auto)
  ·intro h13
   refine J 4 ?_
   refine .vR .auto rfl (by first | exact fun _ h=>h | exact aw.kept .auto)
  refine J 2 ?_
  refine .vR .auto rfl (by first | exact fun _ h=>h | exact aw.kept .auto)
 ·intro h7
  refine J 11 ?_
  refine .vR .auto rfl (by first | exact fun _ h=>h | exact aw.kept .auto)
 exact JR 4 ()
theorem lq{W:World}{op:Int}:Fn Tryz.prog W 76 [.int .i64 op] [] Unit (fun _=>.int .i64 (cls op)) (fun _=>True) (fun _=>[]):=by
 refine Fn.intro (N:=24) func76 rfl ntmps76 rfl fun F=>?_
 show aq _ _ _ _ _ _ [F]
 refine J 12 ?_
 apply aR.gZ 3 9 6 [6,7,8,9] rfl
 ·intro h6
  exact JS 4
 ·intro h6
  exact JS 4
 refine JD 3 (fun h3=>?_) fun h3=>?_
 ·simp only[Bool.and_eq_true,decide_eq_true_eq] at h3
  refine J 8 ?_
  refine .aP rfl rfl fun w s=>⟨(),?_,trivial,aj .auto s⟩
  refine zl ?_;unfold cls;repeat (first | rw[if_pos (by omega)] | rw[if_neg (by omega)])
 ·simp only[Bool.and_eq_false_iff,decide_eq_false_iff_not] at h3
  refine J 5 ?_
  apply aR.gZ 3 16 13 [13,14,15,16] rfl
  ·intro h13
   exact JS 4
  ·intro h13
   exact JS 4
  refine JD 3 (fun h10=>?_) fun h10=>?_
  ·simp only[Bool.and_eq_true,decide_eq_true_eq] at h10
   refine J 8 ?_
   refine .aP rfl rfl fun w s=>⟨(),?_,trivial,aj .auto s⟩
   refine zl ?_;unfold cls;repeat (first | rw[if_pos (by omega)] | rw[if_neg (by omega)])
  ·simp only[Bool.and_eq_false_iff,decide_eq_false_iff_not] at h10
   refine J 5 ?_
   apply aR.gZ 3 23 20 [20,21,22,23] rfl
   ·intro h20
    exact JS 4
   ·intro h20
    exact JS 4
   refine JD 3 (fun h17=>?_) fun h17=>?_
   ·simp only[Bool.and_eq_true,decide_eq_true_eq] at h17
    refine J 8 ?_
    refine .aP rfl rfl fun w s=>⟨(),?_,trivial,aj .auto s⟩
    refine zl ?_;unfold cls;repeat (first | rw[if_pos (by omega)] | rw[if_neg (by omega)])
   ·simp only[Bool.and_eq_false_iff,decide_eq_false_iff_not] at h17
    refine J 9 ?_
    refine .aP rfl rfl fun w s=>⟨(),?_,trivial,aj .auto s⟩
    refine zl ?_;unfold cls;repeat (first | rw[if_pos (by omega)] | rw[if_neg (by omega)])
theorem um{W:World}{f:Form}{n:Int}(hf:f.n≤9223372036854775807):Fn Tryz.prog W 157 [.agg (eb f).toArray,.int .u64 n] [] Unit (fun _=>.bool (f.below n)) (fun _=>True) (fun _=>[]):=by
 refine Fn.intro (N:=24) func157 rfl ntmps157 rfl fun F=>?_
 show aq _ _ _ _ _ _ [F]
 refine J 2 ?_
 refine .ai rfl (af.box rfl rfl rfl) ?_
 rintro _ _ ⟨b2,rfl,rfl⟩
 refine JD 12 (fun h5=>?_) fun h5=>?_
 ·refine J 8 ?_
  refine .aP rfl rfl fun w s=>⟨(),?_,trivial,aj .auto s⟩
  rw[Form.below,if_pos h5]
 ·refine JD 8 (fun h8=>?_) fun h8=>?_
  ·refine J 10 ?_
   refine .aP rfl rfl fun w s=>⟨(),?_,trivial,aj .auto s⟩
   rw[Form.below,if_neg (by simp[h5]),if_pos h8]
  ·refine J 9 ?_
   apply aR.gZ 6 23 17 [17,18,19,20,21,22,23] rfl
   ·intro h17
    refine J 3 ?_
    refine .g (.sP underlying3 underlying92 rfl (by omega)) ?_
    exact JS 3
   ·intro h17
    exact JS 7
   refine J 4 ?_
   refine .aP rfl rfl fun w s=>⟨(),?_,trivial,aj .auto s⟩
   rw[Form.below,if_neg (by simp[h5]),if_neg h8]
theorem J4{W:World}{A:aa}{v:aX}(hp:fi W [A] v){op:Int}:Fn Tryz.prog W 155 [.agg (ej v).toArray,.int .i64 op] [A] Unit (fun _=>.agg (eb (bS v.p op)).toArray) (fun _=>True) (fun _=>[A]):=by
 refine Fn.intro (N:=73) func155 rfl ntmps155 rfl fun F=>?_
 haveI hI1:∀ (H:List aa) [bx H A],aA W H v.fv ek 1 v.fs:=fun H h=>⟨hp.fs.at h.has⟩
 haveI hI2:∀ (H:List aa) [bx H A],aA W H v.sv av 1 v.bJ:=fun H h=>⟨hp.bJ.at h.has⟩
 haveI hI3:∀ (H:List aa) [bx H A],aA W H v.pv av 1 v.bb:=fun H h=>⟨hp.bb.at h.has⟩
 show aq _ _ _ _ _ _ [A,F]
 refine J 2 ?_
 refine .ai rfl (af.box rfl rfl rfl) ?_
 rintro _ _ ⟨b2,rfl,rfl⟩
 refine .ai rfl (af.alloc rfl zeroValue258 rfl) ?_
 rintro _ _ ⟨b4,rfl,rfl⟩
 refine JD 15 (fun h6=>?_) fun h6=>?_
 ·refine J 2 ?_
  refine .p (.fH (fun v1 v2=>[v1,(.bool false),(.int .i64 0),v2]) rfl rfl (by kernel_rfl)) ?_
  refine J 6 ?_
  refine .dG rfl rfl isAgg258 (by exact sizeOf258) Cells.a fun w s=>⟨(),?_,trivial,aj .auto s⟩
  simp[bS,eb, *]
 ·refine JD 7 (fun h9=>?_) fun h9=>?_
  ·refine J 2 ?_
   first | refine aq.dY rfl (fun _=>?_) (fun hc=>absurd h9 hc) | refine aq.cond rfl (fun _=>?_) (fun hc=>by rw[h9] at hc;cases hc)
   refine J 2 ?_
   refine .p (.fH (fun v1 v2=>[v1,(.bool false),v2,(.bool false)]) rfl rfl (by kernel_rfl)) ?_
   refine J 6 ?_
   refine .dG rfl rfl isAgg258 (by exact sizeOf258) Cells.a fun w s=>⟨(),?_,trivial,aj .auto s⟩
   simp[bS,eb, *]
  ·refine JD 6 (fun h9=>?_) fun h9=>?_
   ·refine J 2 ?_
    first | refine aq.dY rfl (fun _=>?_) (fun hc=>absurd h9 hc) | refine aq.cond rfl (fun _=>?_) (fun hc=>by rw[h9] at hc;cases hc)
    refine J 2 ?_
    refine .p (.fH (fun v1 v2=>[v1,(.bool false),v2,(.bool false)]) rfl rfl (by kernel_rfl)) ?_
    refine J 6 ?_
    refine .dG rfl rfl isAgg258 (by exact sizeOf258) Cells.a fun w s=>⟨(),?_,trivial,aj .auto s⟩
    simp[bS,eb, *]
   ·refine JD 6 (fun h9=>?_) fun h9=>?_
    ·refine J 2 ?_
     first | refine aq.dY rfl (fun _=>?_) (fun hc=>absurd h9 hc) | refine aq.cond rfl (fun _=>?_) (fun hc=>by rw[h9] at hc;cases hc)
     refine J 2 ?_
     refine .p (.fH (fun v1 v2=>[v1,(.bool false),v2,(.bool false)]) rfl rfl (by kernel_rfl)) ?_
     refine J 6 ?_
     refine .dG rfl rfl isAgg258 (by exact sizeOf258) Cells.a fun w s=>⟨(),?_,trivial,aj .auto s⟩
     simp[bS,eb, *]
    ·refine JD 6 (fun h9=>?_) fun h9=>?_
     ·refine J 2 ?_
      first | refine aq.dY rfl (fun _=>?_) (fun hc=>absurd h9 hc) | refine aq.cond rfl (fun _=>?_) (fun hc=>by rw[h9] at hc;cases hc)
      refine J 2 ?_
      refine .p (.fH (fun v1 v2=>[v1,(.bool false),v2,(.bool false)]) rfl rfl (by kernel_rfl)) ?_
      refine J 6 ?_
      refine .dG rfl rfl isAgg258 (by exact sizeOf258) Cells.a fun w s=>⟨(),?_,trivial,aj .auto s⟩
      simp[bS,eb, *]
     ·refine JD 6 (fun h9=>?_) fun h9=>?_
      ·refine J 2 ?_
       first | refine aq.dY rfl (fun _=>?_) (fun hc=>absurd h9 hc) | refine aq.cond rfl (fun _=>?_) (fun hc=>by rw[h9] at hc;cases hc)
       refine J 2 ?_
       refine .p (.fH (fun v1 v2=>[v1,(.bool false),v2,(.bool false)]) rfl rfl (by kernel_rfl)) ?_
       refine J 6 ?_
       refine .dG rfl rfl isAgg258 (by exact sizeOf258) Cells.a fun w s=>⟨(),?_,trivial,aj .auto s⟩
       simp[bS,eb, *]
      ·refine JD 6 (fun h9=>?_) fun h9=>?_
       ·refine J 2 ?_
        first | refine aq.dY rfl (fun _=>?_) (fun hc=>absurd h9 hc) | refine aq.cond rfl (fun _=>?_) (fun hc=>by rw[h9] at hc;cases hc)
        refine J 2 ?_
        refine .p (.fH (fun v1 v2=>[v1,(.bool false),v2,(.bool false)]) rfl rfl (by kernel_rfl)) ?_
        refine J 6 ?_
        refine .dG rfl rfl isAgg258 (by exact sizeOf258) Cells.a fun w s=>⟨(),?_,trivial,aj .auto s⟩
        simp[bS,eb, *]
       ·refine JD 6 (fun h9=>?_) fun h9=>?_
        ·refine J 2 ?_
         first | refine aq.dY rfl (fun _=>?_) (fun hc=>absurd h9 hc) | refine aq.cond rfl (fun _=>?_) (fun hc=>by rw[h9] at hc;cases hc)
         refine J 2 ?_
         refine .p (.fH (fun v1 v2=>[v1,(.bool false),v2,(.bool false)]) rfl rfl (by kernel_rfl)) ?_
         refine J 6 ?_
         refine .dG rfl rfl isAgg258 (by exact sizeOf258) Cells.a fun w s=>⟨(),?_,trivial,aj .auto s⟩
         simp[bS,eb, *]
        ·refine JD 5 (fun h9=>?_) fun h9=>?_
         ·refine J 2 ?_
          refine .p (.fH (fun v1 v2=>[v1,(.bool false),v2,(.bool false)]) rfl rfl (by kernel_rfl)) ?_
          refine J 6 ?_
          refine .dG rfl rfl isAgg258 (by exact sizeOf258) Cells.a fun w s=>⟨(),?_,trivial,aj .auto s⟩
          simp[bS,eb, *]
         ·refine JD 6 (fun h19=>?_) fun h19=>?_
          ·refine J 2 ?_
           refine .p (.gJ (fun v1=>[(.int .i64 0),(.bool false),v1,(.bool false)]) rfl (by kernel_rfl)) ?_
           refine J 6 ?_
           refine .dG rfl rfl isAgg258 (by exact sizeOf258) Cells.a fun w s=>⟨(),?_,trivial,aj .auto s⟩
           simp[bS,eb, *]
          ·refine JD 6 (fun h22=>?_) fun h22=>?_
           ·refine J 2 ?_
            refine .p (.fH (fun v1 v2=>[v1,(.bool false),v2,(.bool false)]) rfl rfl (by kernel_rfl)) ?_
            refine J 6 ?_
            refine .dG rfl rfl isAgg258 (by exact sizeOf258) Cells.a fun w s=>⟨(),?_,trivial,aj .auto s⟩
            simp[bS,eb, *]
           ·refine JD 6 (fun h25=>?_) fun h25=>?_
            ·refine J 5 ?_
             refine .p (.fH (fun v1 v2=>[v1,(.bool false),v2,(.bool false)]) rfl rfl (by kernel_rfl)) ?_
             refine J 6 ?_
             refine .dG rfl rfl isAgg258 (by exact sizeOf258) Cells.a fun w s=>⟨(),?_,trivial,aj .auto s⟩
             simp[bS,eb,aX.p, *]
            ·refine JD 7 (fun h31=>?_) fun h31=>?_
             ·refine J 2 ?_
              first | refine aq.dY rfl (fun _=>?_) (fun hc=>absurd h31 hc) | refine aq.cond rfl (fun _=>?_) (fun hc=>by rw[h31] at hc;cases hc)
              refine J 2 ?_
              refine .p (.fH (fun v1 v2=>[v1,(.bool false),v2,(.bool false)]) rfl rfl (by kernel_rfl)) ?_
              refine J 6 ?_
              refine .dG rfl rfl isAgg258 (by exact sizeOf258) Cells.a fun w s=>⟨(),?_,trivial,aj .auto s⟩
              simp[bS,eb, *]
             ·refine JD 6 (fun h31=>?_) fun h31=>?_
              ·refine J 2 ?_
               first | refine aq.dY rfl (fun _=>?_) (fun hc=>absurd h31 hc) | refine aq.cond rfl (fun _=>?_) (fun hc=>by rw[h31] at hc;cases hc)
               refine J 2 ?_
               refine .p (.fH (fun v1 v2=>[v1,(.bool false),v2,(.bool false)]) rfl rfl (by kernel_rfl)) ?_
               refine J 6 ?_
               refine .dG rfl rfl isAgg258 (by exact sizeOf258) Cells.a fun w s=>⟨(),?_,trivial,aj .auto s⟩
               simp[bS,eb, *]
              ·refine JD 6 (fun h31=>?_) fun h31=>?_
               ·refine J 2 ?_
                first | refine aq.dY rfl (fun _=>?_) (fun hc=>absurd h31 hc) | refine aq.cond rfl (fun _=>?_) (fun hc=>by rw[h31] at hc;cases hc)
                refine J 2 ?_
                refine .p (.fH (fun v1 v2=>[v1,(.bool false),v2,(.bool false)]) rfl rfl (by kernel_rfl)) ?_
                refine J 6 ?_
                refine .dG rfl rfl isAgg258 (by exact sizeOf258) Cells.a fun w s=>⟨(),?_,trivial,aj .auto s⟩
                simp[bS,eb, *]
               ·refine JD 6 (fun h31=>?_) fun h31=>?_
                ·refine J 2 ?_
                 first | refine aq.dY rfl (fun _=>?_) (fun hc=>absurd h31 hc) | refine aq.cond rfl (fun _=>?_) (fun hc=>by rw[h31] at hc;cases hc)
                 refine J 2 ?_
                 refine .p (.fH (fun v1 v2=>[v1,(.bool false),v2,(.bool false)]) rfl rfl (by kernel_rfl)) ?_
                 refine J 6 ?_
                 refine .dG rfl rfl isAgg258 (by exact sizeOf258) Cells.a fun w s=>⟨(),?_,trivial,aj .auto s⟩
                 simp[bS,eb, *]
                ·refine JD 5 (fun h31=>?_) fun h31=>?_
                 ·refine J 2 ?_
                  refine .p (.fH (fun v1 v2=>[v1,(.bool false),v2,(.bool false)]) rfl rfl (by kernel_rfl)) ?_
                  refine J 6 ?_
                  refine .dG rfl rfl isAgg258 (by exact sizeOf258) Cells.a fun w s=>⟨(),?_,trivial,aj .auto s⟩
                  simp[bS,eb, *]
                 ·refine JD 6 (fun h38=>?_) fun h38=>?_
                  ·refine J 2 ?_
                   refine .p (.gJ (fun v1=>[(.int .i64 0),(.bool false),v1,(.bool false)]) rfl (by kernel_rfl)) ?_
                   refine J 6 ?_
                   refine .dG rfl rfl isAgg258 (by exact sizeOf258) Cells.a fun w s=>⟨(),?_,trivial,aj .auto s⟩
                   simp[bS,eb, *]
                  ·refine JD 7 (fun h41=>?_) fun h41=>?_
                   ·refine J 2 ?_
                    first | refine aq.dY rfl (fun _=>?_) (fun hc=>absurd h41 hc) | refine aq.cond rfl (fun _=>?_) (fun hc=>by rw[h41] at hc;cases hc)
                    refine J 4 ?_
                    refine .p (.gJ (fun v1=>[(.int .i64 0),(.bool false),v1,(.bool false)]) rfl (by kernel_rfl)) ?_
                    refine J 6 ?_
                    refine .dG rfl rfl isAgg258 (by exact sizeOf258) Cells.a fun w s=>⟨(),?_,trivial,aj .auto s⟩
                    simp[bS,eb,aX.p, *]
                   ·refine JD 5 (fun h41=>?_) fun h41=>?_
                    ·refine J 4 ?_
                     refine .p (.gJ (fun v1=>[(.int .i64 0),(.bool false),v1,(.bool false)]) rfl (by kernel_rfl)) ?_
                     refine J 6 ?_
                     refine .dG rfl rfl isAgg258 (by exact sizeOf258) Cells.a fun w s=>⟨(),?_,trivial,aj .auto s⟩
                     simp[bS,eb,aX.p, *]
                    ·refine JD 6 (fun h47=>?_) fun h47=>?_
                     ·refine J 4 ?_
                      refine .p (.fH (fun v1 v2=>[(.int .i64 0),v2,v1,(.bool false)]) rfl rfl (by kernel_rfl)) ?_
                      refine J 6 ?_
                      refine .dG rfl rfl isAgg258 (by exact sizeOf258) Cells.a fun w s=>⟨(),?_,trivial,aj .auto s⟩
                      simp[bS,eb,aX.p, *]
                     ·refine JD 7 (fun h52=>?_) fun h52=>?_
                      ·refine J 2 ?_
                       first | refine aq.dY rfl (fun _=>?_) (fun hc=>absurd h52 hc) | refine aq.cond rfl (fun _=>?_) (fun hc=>by rw[h52] at hc;cases hc)
                       refine J 4 ?_
                       refine .p (.gJ (fun v1=>[(.int .i64 0),(.bool false),v1,(.bool false)]) rfl (by kernel_rfl)) ?_
                       refine J 6 ?_
                       refine .dG rfl rfl isAgg258 (by exact sizeOf258) Cells.a fun w s=>⟨(),?_,trivial,aj .auto s⟩
                       simp[bS,eb,aX.p, *]
                      ·refine JD 5 (fun h52=>?_) fun h52=>?_
                       ·refine J 4 ?_
                        refine .p (.gJ (fun v1=>[(.int .i64 0),(.bool false),v1,(.bool false)]) rfl (by kernel_rfl)) ?_
                        refine J 6 ?_
                        refine .dG rfl rfl isAgg258 (by exact sizeOf258) Cells.a fun w s=>⟨(),?_,trivial,aj .auto s⟩
                        simp[bS,eb,aX.p, *]
                       ·refine JD 7 (fun h58=>?_) fun h58=>?_
                        ·refine J 2 ?_
                         first | refine aq.dY rfl (fun _=>?_) (fun hc=>absurd h58 hc) | refine aq.cond rfl (fun _=>?_) (fun hc=>by rw[h58] at hc;cases hc)
                         refine J 5 ?_
                         refine .p (.gJ (fun v1=>[(.int .i64 0),(.bool false),v1,(.bool false)]) rfl (by kernel_rfl)) ?_
                         refine J 6 ?_
                         refine .dG rfl rfl isAgg258 (by exact sizeOf258) Cells.a fun w s=>⟨(),?_,trivial,aj .auto s⟩
                         simp[bS,eb,aX.p, *]
                        ·refine JD 5 (fun h58=>?_) fun h58=>?_
                         ·refine J 5 ?_
                          refine .p (.gJ (fun v1=>[(.int .i64 0),(.bool false),v1,(.bool false)]) rfl (by kernel_rfl)) ?_
                          refine J 6 ?_
                          refine .dG rfl rfl isAgg258 (by exact sizeOf258) Cells.a fun w s=>⟨(),?_,trivial,aj .auto s⟩
                          simp[bS,eb,aX.p, *]
                         ·refine JD 7 (fun h65=>?_) fun h65=>?_
                          ·refine J 2 ?_
                           first | refine aq.dY rfl (fun _=>?_) (fun hc=>absurd h65 hc) | refine aq.cond rfl (fun _=>?_) (fun hc=>by rw[h65] at hc;cases hc)
                           refine J 5 ?_
                           refine .p (.fH (fun v1 v2=>[v1,(.bool false),v2,(.bool false)]) rfl rfl (by kernel_rfl)) ?_
                           refine J 6 ?_
                           refine .dG rfl rfl isAgg258 (by exact sizeOf258) Cells.a fun w s=>⟨(),?_,trivial,aj .auto s⟩
                           simp[bS,eb,aX.p, *]
                          ·refine JD 5 (fun h65=>?_) fun h65=>?_
                           ·refine J 5 ?_
                            refine .p (.fH (fun v1 v2=>[v1,(.bool false),v2,(.bool false)]) rfl rfl (by kernel_rfl)) ?_
                            refine J 6 ?_
                            refine .dG rfl rfl isAgg258 (by exact sizeOf258) Cells.a fun w s=>⟨(),?_,trivial,aj .auto s⟩
                            simp[bS,eb,aX.p, *]
                           ·refine J 5 ?_
                            refine .p (.fH (fun v1 v2=>[v1,(.bool false),v2,(.bool false)]) rfl rfl (by kernel_rfl)) ?_
                            refine J 4 ?_
                            refine .dG rfl rfl isAgg258 (by exact sizeOf258) Cells.a fun w s=>⟨(),?_,trivial,aj .auto s⟩
                            simp[bS,eb, *]
theorem BX{W:World}{A:aa}{v:aX}(hp:fi W [A] v){i:Ins}(hb:(bS v.p i.op).n≤9223372036854775807):Fn Tryz.prog W 110 [.agg (ej v).toArray,.agg (dM i).toArray] [A] Unit (fun _=>.bool (iJ v.p i)) (fun _=>True) (fun _=>[A]):=by
 refine Fn.intro (N:=56) func110 rfl ntmps110 rfl fun F=>?_
 haveI hI1:∀ (H:List aa) [bx H A],aA W H v.fv ek 1 v.fs:=fun H h=>⟨hp.fs.at h.has⟩
 haveI hI2:∀ (H:List aa) [bx H A],aA W H v.sv av 1 v.bJ:=fun H h=>⟨hp.bJ.at h.has⟩
 haveI hI3:∀ (H:List aa) [bx H A],aA W H v.pv av 1 v.bb:=fun H h=>⟨hp.bb.at h.has⟩
 show aq _ _ _ _ _ _ [A,F]
 refine J 2 ?_
 refine .ai rfl (af.box rfl rfl rfl) ?_
 rintro _ _ ⟨b2,rfl,rfl⟩
 refine .ai rfl (af.box rfl rfl rfl) ?_
 rintro _ _ ⟨b3,rfl,rfl⟩
 refine J 8 ?_
 refine .c call76 rfl lq fun _ _=>?_
 refine JD 3 (fun h10=>?_) fun h10=>?_
 ·refine J 7 ?_
  refine .aP rfl rfl fun w s=>⟨(),?_,trivial,aj .auto s⟩
  rw[iJ,if_pos h10]
 ·refine J 7 ?_
  refine .c call155 rfl (J4 hp) fun _ _=>?_
  refine .ai rfl (af.alloc rfl zeroValue258 rfl) ?_
  rintro _ _ ⟨b5,rfl,rfl⟩
  refine J 10 ?_
  refine .c call156 rfl mK fun _ _=>?_
  refine JD 10 (fun h22=>?_) fun h22=>?_
  ·refine J 5 ?_
   apply aR.gZ 6 32 26 [26,27,28,29,30,31,32] rfl
   ·intro h26
    exact JS 7
   ·intro h26
    exact JS 7
   refine J 10 ?_
   refine .c call156 rfl mK fun _ _=>?_
   refine J 1 ?_
   apply aR.gL 7 46 39 [39,40,41,42,43,44,45,46] rfl
   ·intro h39
    refine J 5 ?_
    refine .cg call156 rfl mK fun _ _=>?_
    exact JS 2
   ·intro h39
    exact JS 8
   refine J 1 ?_
   apply aR.gL 2 49 47 [47,48,49] rfl
   ·intro h47
    exact JS 3
   ·intro h47
    exact JS 3
   refine J 1 ?_
   apply aR.gL 5 55 50 [50,51,52,53,54,55] rfl
   ·intro h50
    refine J 3 ?_
    refine .cg call157 rfl (um hb) fun _ _=>?_
    exact JS 2
   ·intro h50
    exact JS 6
   refine J 4 ?_
   refine .aP rfl rfl fun w s=>⟨(),?_,trivial,aj .auto s⟩
   refine La ?_;rw[iJ,if_neg h10];simp only[h22,if_true];try rfl
  ·refine J 9 ?_
   refine .c call156 rfl mK fun _ _=>?_
   refine J 1 ?_
   apply aR.gL 7 46 39 [39,40,41,42,43,44,45,46] rfl
   ·intro h39
    refine J 5 ?_
    refine .cg call156 rfl mK fun _ _=>?_
    exact JS 2
   ·intro h39
    exact JS 8
   refine J 1 ?_
   apply aR.gL 2 49 47 [47,48,49] rfl
   ·intro h47
    exact JS 3
   ·intro h47
    exact JS 3
   refine J 1 ?_
   apply aR.gL 5 55 50 [50,51,52,53,54,55] rfl
   ·intro h50
    refine J 3 ?_
    refine .cg call157 rfl (um hb) fun _ _=>?_
    exact JS 2
   ·intro h50
    exact JS 6
   refine J 4 ?_
   refine .aP rfl rfl fun w s=>⟨(),?_,trivial,aj .auto s⟩
   refine La ?_;rw[iJ,if_neg h10];simp only[h22,if_false,Bool.false_eq_true];try rfl
theorem ER{W:World}{A:aa}{v:aX}(hp:fi W [A] v)(hl:v.fs.length≤1000000000∧v.bJ.length≤1000000000∧v.bb.length≤1000000000):Fn Tryz.prog W 109 [.agg (ej v).toArray] [A] Unit (fun _=>.bool (gX v.p)) (fun _=>True) (fun _=>[A]):=by
 refine Fn.intro (N:=102) func109 rfl ntmps109 rfl fun F=>?_
 haveI hI1:∀ (H:List aa) [bx H A],aA W H v.fv ek 1 v.fs:=fun H h=>⟨hp.fs.at h.has⟩
 haveI hI2:∀ (H:List aa) [bx H A],aA W H v.sv av 1 v.bJ:=fun H h=>⟨hp.bJ.at h.has⟩
 haveI hI3:∀ (H:List aa) [bx H A],aA W H v.pv av 1 v.bb:=fun H h=>⟨hp.bb.at h.has⟩
 show aq _ _ _ _ _ _ [A,F]
 refine J 2 ?_
 refine .ai rfl (af.box rfl rfl rfl) ?_
 rintro _ _ ⟨b1,rfl,rfl⟩
 refine J 10 ?_
 apply aR.gZ 5 19 14 [14,15,16,17,18,19] rfl
 ·intro h14
  exact JS 6
 ·intro h14
  exact JS 6
 refine J 1 ?_
 apply aR.gL 4 24 20 [20,21,22,23,24] rfl
 ·intro h20
  refine J 2 ?_
  refine .cg call154 rfl fF fun _ _=>?_
  exact JS 2
 ·intro h20
  exact JS 5
 refine J 1 ?_
 apply aR.gL 4 29 25 [25,26,27,28,29] rfl
 ·intro h25
  refine J 2 ?_
  refine .cg call154 rfl fF fun _ _=>?_
  exact JS 2
 ·intro h25
  exact JS 5
 refine J 1 ?_
 apply aR.gL 4 34 30 [30,31,32,33,34] rfl
 ·intro h30
  refine J 2 ?_
  refine .cg call154 rfl fF fun _ _=>?_
  exact JS 2
 ·intro h30
  exact JS 5
 refine J 1 ?_
 apply aR.gL 4 39 35 [35,36,37,38,39] rfl
 ·intro h35
  refine J 2 ?_
  refine .cg call154 rfl fF fun _ _=>?_
  exact JS 2
 ·intro h35
  exact JS 5
 refine J 1 ?_
 apply aR.gL 4 44 40 [40,41,42,43,44] rfl
 ·intro h40
  refine J 2 ?_
  refine .cg call154 rfl fF fun _ _=>?_
  exact JS 2
 ·intro h40
  exact JS 5
 refine J 1 ?_
 apply aR.gL 5 50 45 [45,46,47,48,49,50] rfl
 ·intro h45
  exact JS 6
 ·intro h45
  exact JS 6
 refine J 1 ?_
 apply aR.gL 5 56 51 [51,52,53,54,55,56] rfl
 ·intro h51
  exact JS 6
 ·intro h51
  exact JS 6
 refine J 13 ?_
 refine .bm (X:=Nat×Bool) [3,5,60,61,62,63,64,65,66,67,68,69,70] (fun z=>v.fs.length-z.1) (fun z=>z.1≤v.fs.length∧z.2=p5 v z.1) (fun z=>[(60,some (.int .i64 (z.1:Int))),(3,some (.bool z.2))]) (fun z=>[arr b1 0 (ej v),A,F]) (0,Bg v) ?_ ?_ ?_ ?_
 ·exact⟨Nat.zero_le _,by simp[p5]⟩
 ·exact⟨rfl,rfl,trivial⟩
 ·exact fun w s=>aw.kept .auto w s
 rintro⟨k,y⟩ ⟨hk,hy⟩
 simp only at hk hy
 refine JD 6 (fun h61=>?_) fun h61=>?_
 ·refine J 6 ?_
  obtain⟨x,hx⟩:=ak (show k<v.fs.length by omega)
  have hi:=hp.ins x (List.mem_of_getElem? hx)
  haveI hI4:∀ (H:List aa) [bx H A],aA W H x.1 dM 5 x.2:=fun H h=>⟨hi.at h.has⟩
  refine J 8 ?_
  apply aR.gL 4 69 65 [65,66,67,68,69] rfl
  ·intro h65
   exact JS 5
  ·intro h65
   exact JS 5
  refine J 8 ?_
  refine .aH (k+1,(y && decide ((x.2.length:Int)≤256))) .auto rfl ?_ ?_ ?_ ?_
  ·show v.fs.length-(k+1)<v.fs.length-k;omega
  ·refine⟨by show k+1≤_;omega,?_⟩
   rw[p5,j0 hx,hy,p5]
   simp only[Bool.and_assoc]
  ·exact⟨rfl,rfl,trivial⟩
  ·exact fun w s=>aw.kept .auto w s
 ·refine J 15 ?_
  obtain rfl:k=v.fs.length:=by omega
  refine .bm (X:=Nat×Bool) [3,7,74,75,76,77,78,79,80,81,82,83] (fun z=>v.bJ.length-z.1) (fun z=>z.1≤v.bJ.length∧z.2=p9 v z.1) (fun z=>[(74,some (.int .i64 (z.1:Int))),(3,some (.bool z.2))]) (fun z=>[arr b1 0 (ej v),A,F]) (0,y) ?_ ?_ ?_ ?_
  ·exact⟨Nat.zero_le _,by rw[p9,hy];simp⟩
  ·exact⟨rfl,rfl,trivial⟩
  ·exact fun w s=>aw.kept .auto w s
  rintro⟨k,y⟩ ⟨hk,hy⟩
  simp only at hk hy
  refine JD 6 (fun h75=>?_) fun h75=>?_
  ·refine J 6 ?_
   obtain⟨x,hx⟩:=ak (show k<v.bJ.length by omega)
   refine J 8 ?_
   apply aR.gL 3 82 79 [79,80,81,82] rfl
   ·intro h79
    refine J 1 ?_
    refine .cg call154 rfl fF fun _ _=>?_
    exact JS 2
   ·intro h79
    exact JS 4
   refine J 8 ?_
   refine .aH (k+1,(y && within x 1048576)) .auto rfl ?_ ?_ ?_ ?_
   ·show v.bJ.length-(k+1)<v.bJ.length-k;omega
   ·refine⟨by show k+1≤_;omega,?_⟩
    rw[p9,j0 hx,hy,p9]
    simp only[Bool.and_assoc]
   ·exact⟨rfl,rfl,trivial⟩
   ·exact fun w s=>aw.kept .auto w s
  ·refine J 15 ?_
   obtain rfl:k=v.bJ.length:=by omega
   refine .bm (X:=Nat×Bool) [3,9,87,88,89,90,91,92,93,94,95,96,97,98,99,100] (fun z=>v.bb.length-z.1) (fun z=>z.1≤v.bb.length∧z.2=qa v z.1) (fun z=>[(87,some (.int .i64 (z.1:Int))),(3,some (.bool z.2))]) (fun z=>[arr b1 0 (ej v),A,F]) (0,y) ?_ ?_ ?_ ?_
   ·exact⟨Nat.zero_le _,by rw[qa,hy];simp⟩
   ·exact⟨rfl,rfl,trivial⟩
   ·exact fun w s=>aw.kept .auto w s
   rintro⟨k,y⟩ ⟨hk,hy⟩
   simp only at hk hy
   refine JD 6 (fun h88=>?_) fun h88=>?_
   ·refine J 6 ?_
    obtain⟨x,hx⟩:=ak (show k<v.bb.length by omega)
    refine J 8 ?_
    apply aR.gL 3 95 92 [92,93,94,95] rfl
    ·intro h92
     exact JS 4
    ·intro h92
     exact JS 4
    refine J 1 ?_
    apply aR.gL 3 99 96 [96,97,98,99] rfl
    ·intro h96
     refine J 1 ?_
     refine .cg call154 rfl fF fun _ _=>?_
     exact JS 2
    ·intro h96
     exact JS 4
    refine J 8 ?_
    refine .aH (k+1,((y && decide (0<x)) && within x 8)) .auto rfl ?_ ?_ ?_ ?_
    ·show v.bb.length-(k+1)<v.bb.length-k;omega
    ·refine⟨by show k+1≤_;omega,?_⟩
     rw[qa,j0 hx,hy,qa]
     simp only[Bool.and_assoc]
    ·exact⟨rfl,rfl,trivial⟩
    ·exact fun w s=>aw.kept .auto w s
   ·refine J 12 ?_
    obtain rfl:k=v.bb.length:=by omega
    refine .aP rfl rfl fun w s=>⟨(),?_,trivial,aj .auto s⟩
    rw[hy,Gf]
theorem BY{W:World}{A:aa}{v:aX}(hp:fi W [A] v)(hl:v.fs.length≤1000000000∧v.bJ.length≤1000000000∧v.bb.length≤1000000000):Fn Tryz.prog W 63 [.agg (ej v).toArray] [A] Unit (fun _=>.int .i64 (cy v.p)) (fun _=>True) (fun _=>[A]):=by
 refine Fn.intro (N:=29) func63 rfl ntmps63 rfl fun F=>?_
 haveI hI1:∀ (H:List aa) [bx H A],aA W H v.fv ek 1 v.fs:=fun H h=>⟨hp.fs.at h.has⟩
 haveI hI2:∀ (H:List aa) [bx H A],aA W H v.sv av 1 v.bJ:=fun H h=>⟨hp.bJ.at h.has⟩
 haveI hI3:∀ (H:List aa) [bx H A],aA W H v.pv av 1 v.bb:=fun H h=>⟨hp.bb.at h.has⟩
 show aq _ _ _ _ _ _ [A,F]
 refine J 2 ?_
 refine .ai rfl (af.box rfl rfl rfl) ?_
 rintro _ _ ⟨b1,rfl,rfl⟩
 refine J 7 ?_
 refine .c call109 rfl (ER hp hl) fun _ _=>?_
 refine JD 3 (fun h9=>?_) fun h9=>?_
 ·refine J 7 ?_
  rw[Bool.not_eq_true'] at h9
  refine .aP rfl rfl fun w s=>⟨(),?_,trivial,aj .auto s⟩
  refine zl ?_;unfold cy;rw[if_neg (by rw[h9];simp)]
 ·refine J 12 ?_
  rw[Bool.not_eq_false'] at h9
  refine .bm (X:=Nat) [2,4,6,13,14,15,16,17,18,19,20,21,22,23,24,25,26,27,28] (fun k=>v.fs.length-k) (fun k=>k≤v.fs.length∧(v.fs.take k).all (fun f:Value×List Ins=>f.2.all (iJ v.p))=true) (fun k=>[(13,some (.int .i64 (k:Int)))]) (fun k=>[arr b1 0 (ej v),A,F]) 0 ?_ ?_ ?_ ?_
  ·exact⟨Nat.zero_le _,rfl⟩
  ·exact⟨rfl,trivial⟩
  ·exact fun w s=>aw.kept .auto w s
  rintro k ⟨hk,hs⟩
  refine JD 6 (fun h14=>?_) fun h14=>?_
  ·refine J 6 ?_
   obtain⟨x,hx⟩:=ak (show k<v.fs.length by omega)
   have hi:=hp.ins x (List.mem_of_getElem? hx)
   haveI hI4:∀ (H:List aa) [bx H A],aA W H x.1 dM 5 x.2:=fun H h=>⟨hi.at h.has⟩
   have hx256:x.2.length≤256:=CC h9 (List.mem_of_getElem? hx)
   refine J 13 ?_
   refine .bm (X:=Nat) [2,6,19,20,21,22,23,24,25,26,27] (fun j=>x.2.length-j) (fun j=>j≤x.2.length∧(x.2.take j).all (iJ v.p)=true) (fun j=>[(19,some (.int .i64 (j:Int)))]) (fun j=>[arr b1 0 (ej v),A,F]) 0 ?_ ?_ ?_ ?_
   ·exact⟨Nat.zero_le _,rfl⟩
   ·exact⟨rfl,trivial⟩
   ·exact fun w s=>aw.kept .auto w s
   rintro j ⟨hj0,hsj⟩
   refine JD 6 (fun h20=>?_) fun h20=>?_
   ·refine J 6 ?_
    obtain⟨i,hj⟩:=ak (show j<x.2.length by omega)
    refine J 2 ?_
    refine .ai rfl (af.alloc rfl zeroValue94 rfl) ?_
    rintro _ _ ⟨b6,rfl,rfl⟩
    refine J 7 ?_
    refine .c call110 rfl (BX hp (DR h9 _)) fun _ _=>?_
    refine JD 3 (fun h26=>?_) fun h26=>?_
    ·refine J 15 ?_
     rw[Bool.not_eq_true'] at h26
     refine .aP rfl rfl fun w s=>⟨(),?_,trivial,aj .auto s⟩
     exact zl (DS h9 hx hj h26).symm
    ·refine J 7 ?_
     rw[Bool.not_eq_false'] at h26
     refine .aH (j+1) .auto rfl ?_ ?_ ?_ ?_
     ·first | omega | (dsimp only;omega)
     ·exact⟨by omega,by rw[j0 hj,hsj,h26];rfl⟩
     ·exact⟨rfl,trivial⟩
     ·exact fun w s=>aw.kept .auto w s
   ·refine J 10 ?_
    obtain rfl:j=x.2.length:=by omega
    rw[List.take_length] at hsj
    refine .aH (k+1) .auto rfl ?_ ?_ ?_ ?_
    ·first | omega | (dsimp only;omega)
    ·exact⟨by omega,by rw[j0 hx,hs,hsj];rfl⟩
    ·exact⟨rfl,trivial⟩
    ·exact fun w s=>aw.kept .auto w s
  ·refine J 11 ?_
   obtain rfl:k=v.fs.length:=by omega
   rw[List.take_length] at hs
   refine .aP rfl rfl fun w s=>⟨(),?_,trivial,aj .auto s⟩
   exact zl (Gg h9 hs).symm
end Go.SLYtpbjdoplfgeliaaGreat
namespace Go.SLYtpbjdoplfgeliaaGreat
open Go Go.RowKit Go.Proofs Go.Proofs.Tryz
attribute [local irreducible] aq aR bf bq bB Y
theorem oh{W:World}{n m:Int}:Fn Tryz.prog W 111 [.int .i64 n,.int .i64 m] [] Unit (fun _=>.int .i64 (aO n m)) (fun _=>True) (fun _=>[]):=by
 refine Fn.intro (N:=9) func111 rfl ntmps111 rfl fun F=>?_
 show aq _ _ _ _ _ _ [F]
 refine J 8 ?_
 refine .p (.vS rfl rfl) ?_
 refine J 1 ?_
 refine .p (.lK rfl rfl) ?_
 exact JR 4 ()
theorem H6{W:World}{n:Int}:Fn Tryz.prog W 64 [.int .i64 n] [] Nat (fun b=>ptr b) (fun _=>True) (fun b=>[lT b (List.replicate (aO n 1024).toNat (false,0))]):=by
 refine Fn.intro (N:=9) func64 rfl ntmps64 rfl fun F=>?_
 show aq _ _ _ _ _ _ [F]
 refine J 8 ?_
 refine .p (.vS rfl rfl) ?_
 refine .p (.lK rfl rfl) ?_
 have hc:(aO n 1024).toNat≤1024:=by unfold aO;omega
 refine .ai rfl (af.FX (enc:=I9) (k:=2) (false,0) (aO n 1024).toNat rfl underlying187 typeInfo264 rfl rfl rfl rfl (by decide) (by decide) rfl rfl (by unfold aO;omega) (by unfold aO;omega) (by omega)) ?_
 rintro _ _ ⟨b6,rfl,rfl⟩
 refine .p (.gJ (fun v1=>[v1]) rfl (by kernel_rfl)) ?_
 refine .ai rfl (af.box rfl rfl rfl) ?_
 rintro _ _ ⟨b8,rfl,rfl⟩
 exact JR 4 b8
theorem H7{W:World}{n:Int}:Fn Tryz.prog W 66 [.int .i64 n] [] Nat (fun b=>ptr b) (fun _=>True) (fun b=>[oK b (kG.new n)]):=by
 refine Fn.intro (N:=9) func66 rfl ntmps66 rfl fun F=>?_
 show aq _ _ _ _ _ _ [F]
 refine J 8 ?_
 refine .p (.vS rfl rfl) ?_
 refine .p (.lK rfl rfl) ?_
 have hc:(aO n 64).toNat≤64:=by unfold aO;omega
 refine .ai rfl (af.FX (enc:=de) (k:=1) (0:Int) (aO n 64).toNat rfl underlying64 typeInfo92 rfl rfl rfl rfl (by decide) (by decide) rfl rfl (by unfold aO;omega) (by unfold aO;omega) (by omega)) ?_
 rintro _ _ ⟨b6,rfl,rfl⟩
 refine .p (.gJ (fun v1=>[v1,(.slice none 0 0)]) rfl (by kernel_rfl)) ?_
 refine .ai rfl (af.box rfl rfl rfl) ?_
 rintro _ _ ⟨b8,rfl,rfl⟩
 exact JR 4 b8
theorem H8{W:World}{n:Int}:Fn Tryz.prog W 70 [.int .i64 n] [] Nat (fun b=>ptr b) (fun _=>True) (fun b=>[iz b (Tub.new n)]):=by
 refine Fn.intro (N:=8) func70 rfl ntmps70 rfl fun F=>?_
 show aq _ _ _ _ _ _ [F]
 refine J 8 ?_
 refine .p (.vS rfl rfl) ?_
 refine .p (.lK rfl rfl) ?_
 refine .p (.gJ (fun v1=>[v1,(.slice none 0 0),(.slice none 0 0),(.slice none 0 0)]) rfl (by kernel_rfl)) ?_
 refine .ai rfl (af.box rfl rfl rfl) ?_
 rintro _ _ ⟨b7,rfl,rfl⟩
 exact JR 4 b7
theorem ES{W:World}  : Fn Tryz.prog W 183 [] [] Nat (fun b=>ptr b) (fun _=>True) (fun b=>[fp b []]):=by
 refine Fn.intro (N:=3) func183 rfl ntmps183 rfl fun F=>?_
 show aq _ _ _ _ _ _ [F]
 refine J 7 ?_
 refine .p (.lP ([(.slice none 0 0)]) (by kernel_rfl)) ?_
 refine .ai rfl (af.box rfl rfl rfl) ?_
 rintro _ _ ⟨b2,rfl,rfl⟩
 exact JR 4 b2
theorem ET{W:World}  : Fn Tryz.prog W 67 [] [] Nat (fun b=>ptr b) (fun _=>True) (fun b=>[nM b lR.new]):=by
 refine Fn.intro (N:=4) func67 rfl ntmps67 rfl fun F=>?_
 show aq _ _ _ _ _ _ [F]
 refine J 7 ?_
 refine .ai rfl (af.makeMap rfl) ?_
 rintro _ _ ⟨m1,rfl,rfl⟩
 refine .p (.gJ (fun v1=>[(.int .i64 0),v1]) rfl (by kernel_rfl)) ?_
 refine .ai rfl (af.box rfl rfl rfl) ?_
 rintro _ _ ⟨b3,rfl,rfl⟩
 refine J 4 ?_
 refine .to (A:=nL m1 []) (Bs:=[ji m1 (.map #[] 0)]) .auto (fun h a=>⟨[],0,⟨rfl,List.nodup_nil,fun e he=>(by cases he),List.nodup_nil⟩,a⟩) ?_
 exact JR 0 b3
theorem ru{W:World}{o:Bool×Int}{n:Nat}(ho:0≤o.2∧o.2<2199023255552)(hn:n<65536):Fn Tryz.prog W 158 [.agg (I9 o).toArray,.int .i64 (n:Int)] [] Unit (fun _=>.int .u64 (ei o.2 n)) (fun _=>True) (fun _=>[]):=by
 refine Fn.intro (N:=12) func158 rfl ntmps158 rfl fun F=>?_
 show aq _ _ _ _ _ _ [F]
 refine J 2 ?_
 refine .ai rfl (af.box rfl rfl rfl) ?_
 rintro _ _ ⟨b2,rfl,rfl⟩
 refine J 7 ?_
 refine .p (.DM rfl rfl (by omega)) ?_
 refine J 1 ?_
 refine .p (.sP underlying3 underlying92 rfl (by omega)) ?_
 refine .p (.A1 rfl rfl (by omega)) ?_
 refine .p (.A1 rfl rfl (by omega)) ?_
 exact JR 4 ()
theorem EU{W:World}{b:Nat}{l:List (Bool×Int)}(hl:jm l):Fn Tryz.prog W 112 [ptr b] [lT b l] Unit (fun _=>.tuple #[.int .i64 (ep l).1,.int .u64 (ep l).2.1,.int .i64 (ep l).2.2.1]) (fun _=>True) (fun _=>[lT b (ep l).2.2.2]):=by
 refine Fn.intro (N:=45) func112 rfl ntmps112 rfl fun F=>?_
 show aq _ _ _ _ _ _ [lT b l,F]
 refine .o1 (C:=lT b l) .auto rfl ?_
 rintro v -
 obtain⟨hl1,hl2⟩:=hl
 refine J 14 ?_
 refine .eQ rfl ?_
 refine J 14 ?_
 refine .bm (X:=Nat) [2,3,4,5,6,14,15,16,17,18,19,20,21,22,23,24,25,26,27,28,29,30,31,32,33,34,35,36,37,38,39,40,41,42,43,44] (fun k=>l.length-k) (fun k=>k≤l.length∧slotFree? l 0=slotFree? (l.drop k) k) (fun k=>[(14,some (.int .i64 (k:Int)))]) (fun k=>[arr b 0 [v],sl I9 2 v l,F]) 0 ?_ ?_ ?_ ?_
 ·exact⟨Nat.zero_le _,by simp⟩
 ·exact⟨rfl,trivial⟩
 ·exact fun w s=>aw.kept .auto w s
 rintro k ⟨hk,hn⟩
 refine JD 6 (fun h15=>?_) fun h15=>?_
 ·refine J 17 ?_
  obtain⟨o,hx⟩:=ak (show k<l.length by omega)
  have ho:=hl2 o (List.mem_of_getElem? hx)
  refine JD 13 (fun h27=>?_) fun h27=>?_
  ·refine J 2 ?_
   have hu:o.1=false:=by simpa using h27
   obtain⟨o1,o2⟩:=o
   have hu:o1=false:=hu
   subst hu
   have hx2:(l.set k (true,o2))[k]?=some (true,o2):=zi hx
   have hx3:((l.set k (true,o2)).set k (true,o2+1))[k]?=some (true,o2+1):=zi hx2
   refine J 3 ?_
   refine .ai rfl (af.eG (x':=(true,o2)) rfl rfl sizeOf4 rfl hx (by decide) rfl (by repeat (first | exact gp.here | apply gp.there))) ?_
   rintro _ _ ⟨rfl,rfl⟩
   refine J 7 ?_
   refine .p (.ld rfl (Cell.rd Rd.s ‹_› (by rfl))) ?_
   refine .p (.A1 rfl rfl (by simp only at ho;omega)) ?_
   refine J 2 ?_
   refine .ai rfl (af.kD (c:=1) (x':=(true,o2+1)) rfl rfl sizeOf92 rfl hx2 (by decide) rfl (by repeat (first | exact gp.here | apply gp.there))) ?_
   rintro _ _ ⟨rfl,rfl⟩
   refine J 9 ?_
   refine .c call158 rfl (ru (o:=(true,o2+1)) (n:=k) (by simp only at ho ⊢;omega) (by omega)) fun _ _=>?_
   refine J 11 ?_
   have e:ep l=((k:Int),ei (o2+1) k,0,(l.set k (true,o2)).set k (true,o2+1)):=by
    unfold ep;rw[hn,Gj hx rfl];simp only[List.getD_eq_getElem?_getD,hx,List.set_set];rfl
   rw[e]
   refine .lZ rfl rfl rfl rfl fun w s=>⟨(),?_,trivial,aj .auto s⟩
   rfl
  ·refine J 7 ?_
   refine .aH (k+1) .auto rfl ?_ ?_ ?_ ?_
   ·first | omega | (dsimp only;omega)
   ·exact⟨by omega,hn.trans (DW hx (by simpa using h27))⟩
   ·exact⟨rfl,trivial⟩
   ·exact fun w s=>aw.kept .auto w s
 ·refine J 13 ?_
  rw[show ep l=(0,0,2,l) from by unfold ep;rw[hn,Gk (by omega)]]
  refine .lZ rfl rfl rfl rfl fun w s=>⟨(),?_,trivial,aj .auto s⟩
  rfl
theorem uo{W:World}{b:Nat}{ps:List (Option Nat)}{s:Spc}{f arg:Int}(hT:jm s.table)(hl:s.aG.length=16)(hf:∀ n,slotFree? s.table 0=some n→s.aG[n]?=some none):Fn Tryz.prog W 71 [ptr b,.int .i64 f,.int .u64 arg] [cE b ps s] (List (Option Nat)) (fun _=>.tuple #[.int .i64 (s.begin f arg).1,.int .i64 (s.begin f arg).2.1]) (fun qs=>∃ p,qs=mW s.table ps p) (fun qs=>[cE b qs (s.begin f arg).2.2]):=by
 refine Fn.intro (N:=45) func71 rfl ntmps71 rfl fun F=>?_
 show aq _ _ _ _ _ _ [cE b ps s,F]
 refine .ja (C:=cE b ps s) .auto rfl ?_
 rintro fv sv pv bt vm bg vt bd bw vr -
 refine .cM (fun w s=>s.fact .auto hY) fun hs=>?_
 refine J 12 ?_
 refine .c call112 rfl (EU hT) fun _ _=>?_
 refine JD 16 (fun h22=>?_) fun h22=>?_
 ·refine J 9 ?_
  obtain⟨hn,e⟩:=zo h22
  rw[e,j4 hn]
  refine .ez rfl rfl rfl fun w s=>⟨ps,?_,⟨0,by unfold mW;rw[hn]⟩,aj .auto s⟩
  rfl
 ·refine J 4 ?_
  obtain⟨n,hn,e⟩:=zn (Decidable.of_not_not h22)
  have hfn:=hf n hn
  have hn16:n<16:=hl ▸ (List.getElem?_eq_some_iff.1 hfn).1
  rw[e,eX hn]
  refine J 1 ?_
  refine .p (.vk (fun v1 v2 v3=>[(.int .i64 0),(.int .i64 0),(.int .u64 0),(.int .u64 0),(.int .u64 0),(.int .u64 0),(.int .u64 0),(.int .u64 0),(.int .u64 0),(.int .u64 0),v1,(.int .i64 0),(.int .u64 0),(.bool false),v2,(.int .i64 0),v3,(.int .u64 0)]) rfl rfl rfl (by kernel_rfl)) ?_
  refine .ai rfl (af.box rfl rfl rfl) ?_
  rintro _ _ ⟨b26,rfl,rfl⟩
  refine J 20 ?_
  refine .p (.dH _ underlying131 sizeOf92 rfl rfl rfl (by first | omega | decide)) ?_
  refine J 10 ?_
  refine .p (.dH n underlying120 sizeOf119 rfl rfl rfl (by omega)) ?_
  refine .ai rfl (af.st sizeOf119 rfl rfl rfl (Nat.blt_eq.mpr (by show 9+n * 1<31;omega))) ?_
  rintro _ _ ⟨rfl,rfl⟩
  rw[Nat.mul_one]
  have e9:=@zm fv sv pv s.eW bt ps vm bg vt bd bw vr n (by omega) (hs.1.trans hl) (some b26)
  rw[show dR (some b26)=Value.pointer (some ⟨b26,0,none⟩) from rfl] at e9
  rw[e9]
  refine J 10 ?_
  refine .to (A:=ay (ps.set n (some b26)) (s.aG.set n (some (rF f arg (ei ((s.table.getD n (false,0)).2+1) n))))) (Bs:=[arr b26 0 (bc (rF f arg (ei ((s.table.getD n (false,0)).2+1) n))),ay ps s.aG]) .auto (Gm hfn) ?_
  refine .ez rfl rfl rfl fun w s=>⟨ps.set n (some b26),?_,⟨b26,by unfold mW;rw[hn]⟩,aj .auto s⟩
  rfl
theorem oo{W:World}{b:Nat}{ps:List (Option Nat)}{s:Spc}(hl:s.aG.length=16):Fn Tryz.prog W 58 [ptr b] [cE b ps s] Value (fun u=>u) (fun _=>True) (fun u=>[sl av 1 u s.ready,cE b ps s]):=by
 refine Fn.intro (N:=31) func58 rfl ntmps58 rfl fun F=>?_
 show aq _ _ _ _ _ _ [cE b ps s,F]
 refine .ja (C:=cE b ps s) .auto rfl ?_
 rintro fv sv pv bt vm bg vt bd bw vr -
 refine .cM (fun w s=>s.fact .auto hY) fun hs=>?_
 refine J 12 ?_
 refine .eQ rfl ?_
 refine J 13 ?_
 refine .p (.la rfl (Cells.lG (ds:=MN ps) Cells.a rfl)) ?_
 refine J 4 ?_
 refine .bm (X:=Nat×Value×List Int) [3,4,5,12,13,14,15,16,17,18,19,20,21,22,23,24,25,26,27,28,29] (fun z=>16-z.1) (fun z=>z.1≤16∧z.2.2.length≤z.1∧s.ready=z.2.2++readyFrom (s.aG.drop z.1) z.1) (fun z=>[(12,some (.int .i64 (z.1:Int))),(3,some z.2.1)]) (fun z=>[sl av 1 z.2.1 z.2.2,arr b 0 (fo fv sv pv s.eW bt ps vm bg vt bd bw vr),zg fv s.eW.funcs,lT bt s.table,ay ps s.aG,sl de 1 vm s.mem,cz bg s.al,oJ vt s.cf,oK bd s.ca,nM bw s.aS,sl cW 6 vr s.au,F]) (0,.slice none 0 0,[]) ?_ ?_ ?_ ?_
 ·exact⟨Nat.zero_le _,Nat.le_refl _,rfl⟩
 ·exact⟨rfl,rfl,trivial⟩
 ·exact fun w s=>aw.kept .auto w s
 rintro⟨k,u,xs⟩ ⟨hk,hxl,hn⟩
 simp only at hk hxl hn
 refine JD 6 (fun h13=>?_) fun h13=>?_
 ·refine J 7 ?_
  have hk16:k<16:=by omega
  refine .p (.index k underlying120 isAgg119 sizeOf119 rfl rfl rfl hk16 (by rw[List.getElem?_toArray];exact Gi ps hk16)) ?_
  refine J 9 ?_
  apply aR.gL 6 24 18 [18,19,20,21,22,23,24] rfl
  ·intro h18
   refine J 1 ?_
   have h18':((ps.getD k none).map fun b=>(⟨b,0,none⟩:Addr)).isNone=false:=by simpa using h18
   obtain⟨p,t,hp,ht⟩:=vT hs (by omega) h18'
   rw[bA hp]
   refine J 2 ?_
   refine .g (.fY (Y.load isAgg3 rfl (Cell.NK (by repeat (first | exact At.here | refine At.there ?_)) (DU hp ht) rfl)) (Bi ht)) ?_
   exact JS 3
  ·intro h18
   exact JS 7
  refine JD 2 (fun h24=>?_) fun h24=>?_
  ·simp only[Bool.and_eq_true,decide_eq_true_eq,Bool.not_eq_true'] at h24
   refine J 3 ?_
   refine .ai rfl (af.gF 3 rfl rfl (by kernel_rfl)) ?_
   rintro _ _ ⟨b27,rfl,rfl⟩
   refine .ai rfl (af.fJ (enc:=av) (k:=1) (k:Int) rfl underlying50 underlying50 typeInfo3 rfl rfl rfl (by decide) rfl rfl rfl .auto rfl .auto (by first | omega | (dsimp only;omega)) rfl) ?_
   rintro _ _ ⟨v28,rfl,rfl⟩
   refine J 8 ?_
   refine .aH (k+1,v28,xs++[(k:Int)]) .auto rfl ?_ ?_ ?_ ?_
   ·show 16-(k+1)<16-k;omega
   ·exact⟨by show k+1≤16;omega,by simp;omega,by rw[hn,Jf hs (by omega) h24];simp⟩
   ·exact⟨rfl,rfl,trivial⟩
   ·exact fun w s=>aw.kept .auto w s
  ·simp only[Bool.and_eq_false_iff,decide_eq_false_iff_not,Bool.not_eq_false'] at h24
   refine J 7 ?_
   refine .aH (k+1,u,xs) .auto rfl ?_ ?_ ?_ ?_
   ·show 16-(k+1)<16-k;omega
   ·exact⟨by show k+1≤16;omega,by show xs.length≤k+1;omega,by rw[hn,Lb hs (by omega) h24]⟩
   ·exact⟨rfl,rfl,trivial⟩
   ·exact fun w s=>aw.kept .auto w s
 ·refine J 12 ?_
  obtain rfl:k=16:=by omega
  rw[DY (by omega),List.append_nil] at hn
  subst hn
  refine .aP rfl rfl fun w s=>⟨_,?_,trivial,aj .auto s⟩
  rfl
theorem H9{W:World}{A:aa}{m c:Int}{v:Value}{bJ:List Int}(hr:Rd W [A] av 1 v bJ):Fn Tryz.prog W 65 [.int .i64 m,.int .i64 c,v] [A] Nat (fun b=>ptr b) (fun _=>True) (fun b=>[cz b (Gates.new m c bJ),A]):=by
 refine Fn.intro (N:=42) func65 rfl ntmps65 rfl fun F=>?_
 haveI hRI:∀ (H:List aa) [bx H A],aA W H v av 1 bJ:=fun H h=>⟨hr.at h.has⟩
 show aq _ _ _ _ _ _ [A,F]
 refine J 6 ?_
 refine .vN [] [0,2,4,0,2,4,0,4,0] [0,1,3,4,2,5,6,7,8] rfl (by kernel_rfl) ?_
 refine bB.q rfl rfl rfl Kept.auto (Y.m rfl) ?_
 refine bB.eH rfl (.inl rfl) rfl (fun _=>Kept.auto) call111 rfl oh .auto (fun _ _=>Kept.auto) ?_
 rintro⟨⟩ -
 refine bB.q rfl rfl rfl Kept.auto (Y.m rfl) ?_
 refine bB.eH rfl (.inl rfl) rfl (fun _=>Kept.auto) call111 rfl oh .auto (fun _ _=>Kept.auto) ?_
 rintro⟨⟩ -
 refine bB.fresh rfl rfl rfl (by decide) Kept.auto (kH (enc:=lU) (k:=3) ((Value.slice none 0 0:Value),(⟨[],false,0⟩:eI)) (aO m 4).toNat underlying190 typeInfo288 rfl rfl rfl rfl (by decide) (by decide) rfl rfl (by unfold aO;omega) (by unfold aO;omega) (by unfold aO;omega)) ?_
 rintro b12
 refine bB.fresh rfl rfl rfl (by decide) Kept.auto (kH (enc:=ek) (k:=1) ((Value.slice none 0 0:Value),([]:List eV)) (aO c 4).toNat underlying192 typeInfo198 rfl rfl rfl rfl (by decide) (by decide) rfl rfl (by unfold aO;omega) (by unfold aO;omega) (by unfold aO;omega)) ?_
 rintro b15
 refine bB.q rfl rfl rfl Kept.auto (Y.fH (fun v1 v2=>[v1,v2,(.slice none 0 0)]) rfl rfl (by kernel_rfl)) ?_
 refine bB.fresh rfl rfl rfl (by decide) Kept.auto (qb rfl rfl) ?_
 rintro b17
 refine bB.q rfl rfl rfl Kept.auto (Y.a rfl) ?_
 refine bB.nil ?_
 refine J 4 ?_
 refine .to (A:=sl lU 3 (.slice (some ⟨b12,0,none⟩) (aO m 4).toNat (aO m 4).toNat) (List.replicate (aO m 4).toNat ((Value.slice none 0 0:Value),(⟨[],false,0⟩:eI)))) .auto (rN rfl) ?_
 refine .to (A:=sl ek 1 (.slice (some ⟨b15,0,none⟩) (aO c 4).toNat (aO c 4).toNat) (List.replicate (aO c 4).toNat ((Value.slice none 0 0:Value),([]:List eV)))) .auto (rN rfl) ?_
 have hr4:=hr.cut (lo:=0) (hi:=min bJ.length 4) (Nat.zero_le _) (by omega)
 rw[List.drop_zero,show bJ.take (min bJ.length 4)=bJ.take 4 from by rw[List.take_eq_take_iff];omega] at hr4
 haveI hI4:∀ (H:List aa) [bx H A],aA W H (cut 1 0 (min bJ.length 4) v) av 1 (bJ.take 4):=fun H h=>⟨hr4.at h.has⟩
 refine J 3 ?_
 refine .p (.lK rfl rfl) ?_
 refine .p (.sliceTo (min bJ.length 4) underlying50 sizeOf3 rfl rfl Rd.s (by omega) (by omega)) ?_
 refine J 5 ?_
 refine .bm (X:=Nat×Value) [9,24,25,26,27,28,29,30,31,32,33,34,35,36,37,38,39,40] (fun z=>(bJ.take 4).length-z.1) (fun z=>z.1≤(bJ.take 4).length) (fun z=>[(24,some (.int .i64 (z.1:Int)))]) (fun z=>[arr b17 0 [.slice (some ⟨b12,0,none⟩) (aO m 4).toNat (aO m 4).toNat,.slice (some ⟨b15,0,none⟩) (aO c 4).toNat (aO c 4).toNat,z.2],sl l6 2 z.2 (((bJ.take 4).take z.1).map (fun n=>((Value.slice none 0 0:Value),(⟨[],aO n 1048576⟩:kz)))),sl lU 3 (.slice (some ⟨b12,0,none⟩) (aO m 4).toNat (aO m 4).toNat) (List.replicate (aO m 4).toNat ((Value.slice none 0 0:Value),(⟨[],false,0⟩:eI))),sl ek 1 (.slice (some ⟨b15,0,none⟩) (aO c 4).toNat (aO c 4).toNat) (List.replicate (aO c 4).toNat ((Value.slice none 0 0:Value),([]:List eV))),A,F]) (0,.slice none 0 0) ?_ ?_ ?_ ?_
 ·exact Nat.zero_le _
 ·exact⟨rfl,trivial⟩
 ·exact fun w s=>aw.kept .auto w s
 rintro⟨k,u⟩ hk
 simp only at hk
 have h4:(bJ.take 4).length≤4:=by simp;omega
 have h44:((bJ.take 4).take k).length≤4:=by simp;omega
 refine JD 6 (fun h25=>?_) fun h25=>?_
 ·refine J 6 ?_
  obtain⟨x,hx⟩:=ak (show k<(bJ.take 4).length by omega)
  refine J 5 ?_
  refine .draw [arr b17 0 [.slice (some ⟨b12,0,none⟩) (aO m 4).toNat (aO m 4).toNat,.slice (some ⟨b15,0,none⟩) (aO c 4).toNat (aO c 4).toNat,u]] [0,0,0,0,0,1,2,1,2,2,1,1,3] rfl (by kernel_rfl) ?_
  refine J 6 ?_
  refine .c2 call111 rfl oh fun _ _=>?_
  refine .p (.gJ (fun v1=>[(.slice none 0 0),v1]) rfl (by kernel_rfl)) ?_
  refine .d2 rfl Kept.auto (af.gF 200 rfl rfl (by kernel_rfl)) (by rintro _ _ ⟨b36,rfl,rfl⟩;exact Kept.auto) ?_
  rintro _ _ ⟨b36,rfl,rfl⟩
  refine .d2 rfl Kept.auto (af.fJ (enc:=l6) (k:=2) ((Value.slice none 0 0:Value),(⟨[],aO x 1048576⟩:kz)) rfl underlying193 underlying193 typeInfo200 rfl rfl rfl (by decide) rfl rfl rfl .auto rfl .auto (by rw[List.length_map];dsimp only;omega) rfl) (by rintro _ _ ⟨v37,rfl,rfl⟩;exact Kept.auto) ?_
  rintro _ _ ⟨v37,rfl,rfl⟩
  refine J 2 ?_
  refine .d3 rfl (af.l9 sizeOf193 rfl rfl rfl) ?_
  rintro _ _ ⟨rfl,rfl⟩
  refine J 7 ?_
  refine .aH (k+1,v37) .auto rfl ?_ ?_ ?_ ?_
  ·show(bJ.take 4).length-(k+1)<(bJ.take 4).length-k;omega
  ·show k+1≤_;omega
  ·exact⟨rfl,trivial⟩
  ·show ∀ w,Sat _ w _→Sat _ w (seps [_,sl l6 2 v37 (((bJ.take 4).take (k+1)).map (fun n=>((Value.slice none 0 0:Value),(⟨[],aO n 1048576⟩:kz)))),_,_,A,F])
   rw[Bj hx]
   exact fun w s=>aw.kept .auto w s
 ·refine J 12 ?_
  obtain rfl:k=(bJ.take 4).length:=by omega
  rw[List.take_length]
  refine .aP rfl rfl fun w s=>⟨b17,?_,trivial,aj (by repeat (first | exact aw.nil | (apply aw.cons; · repeat (first | exact Take.here | apply Take.there)) | apply aw.Jg | apply aw.Jh | apply aw.void | apply aw.Je | apply aw.two | (apply aw.Gh; · exact iq) | (apply aw.allM; · exact fun _=>iq) | apply aw.f1 rfl | apply aw.f2 rfl | apply aw.f3 rfl | apply aw.f4 rfl | apply aw.f10 rfl | apply aw.eO | assumption | exact trivial | rfl | omega | (focus (simp[Gates.new];done)) | (unfold Gates.new;simp only[List.map_map];rfl))) s⟩
  rfl
theorem uq{W:World}{A:aa}{v:aX}(hp:fi W [A] v)(hl:v.fs.length≤1000000000∧v.bJ.length≤1000000000∧v.bb.length≤1000000000):Fn Tryz.prog W 20 [.agg (ej v).toArray] [A] (Option Nat) (fun o=>.tuple #[dR o,.int .i64 (cy v.p)]) (fun o=>o.isSome=decide (cy v.p=0)) (fun o=>[optH (fun b=>bV b (Spc.new v.p)) o,A]):=by
 refine Fn.intro (N:=83) func20 rfl ntmps20 rfl fun F=>?_
 haveI hI1:∀ (H:List aa) [bx H A],aA W H v.fv ek 1 v.fs:=fun H h=>⟨hp.fs.at h.has⟩
 haveI hI2:∀ (H:List aa) [bx H A],aA W H v.sv av 1 v.bJ:=fun H h=>⟨hp.bJ.at h.has⟩
 haveI hI3:∀ (H:List aa) [bx H A],aA W H v.pv av 1 v.bb:=fun H h=>⟨hp.bb.at h.has⟩
 show aq _ _ _ _ _ _ [A,F]
 refine .cM (fun w s=>Ji hp .here w s) fun hone=>?_
 refine J 2 ?_
 refine .ai rfl (af.box rfl rfl rfl) ?_
 rintro _ _ ⟨b1,rfl,rfl⟩
 refine J 8 ?_
 refine .c call63 rfl (BY hp hl) fun _ _=>?_
 refine JD 9 (fun h13=>?_) fun h13=>?_
 ·refine J 9 ?_
  refine .ez rfl rfl rfl fun w s=>⟨none,?_,(decide_eq_false h13).symm,aj .auto s⟩
  rfl
 ·refine J 3 ?_
  refine .vN [arr b1 0 (ej v)] [0,2,0,0,4,0,0,0,0,0,0,2,0,0,2,2,0,4,0] [0,1,2,3,5,6,7,8,9,10,11,12,13,14,15,4,16,17,18] rfl (by kernel_rfl) ?_
  have hcs:=s6 (s7 (Decidable.of_not_not h13))
  have hw:0≤v.words∧v.words≤64:=hcs.2.2.1
  have hf8:v.fs.length≤8:=by simpa [aX.p] using hcs.2.1
  have hp4:v.bb.length≤4:=hcs.2.2.2.2.2.2.2.2.1
  refine bB.q rfl rfl rfl Kept.auto (Y.FR isAgg52 rfl Cells.a (by exact sizeOf52)) ?_
  refine bB.eH rfl (.inl rfl) rfl (fun _=>Kept.auto) call64 rfl H6 .auto (fun _ _=>Kept.auto) ?_
  rintro x16 -
  refine bB.q rfl rfl rfl Kept.auto (Y.eu 1 3 underlying52 rfl sizeOf3 rfl) ?_
  refine bB.q rfl rfl rfl Kept.auto (Y.load isAgg3 rfl (Cell.a (by rfl))) ?_
  refine bB.q rfl rfl rfl Kept.auto (Y.eu 2 3 underlying52 rfl sizeOf3 rfl) ?_
  refine bB.q rfl rfl rfl Kept.auto (Y.load isAgg3 rfl (Cell.a (by rfl))) ?_
  refine bB.q rfl rfl rfl Kept.auto (Y.eu 3 3 underlying52 rfl sizeOf3 rfl) ?_
  refine bB.q rfl rfl rfl Kept.auto (Y.load isAgg3 rfl (Cell.a (by rfl))) ?_
  refine bB.q rfl rfl rfl Kept.auto (Y.eu 4 50 underlying52 rfl sizeOf50 rfl) ?_
  refine bB.q rfl rfl rfl Kept.auto (Y.load isAgg50 rfl (Cell.a (by rfl))) ?_
  refine bB.eH rfl (.inl rfl) rfl (fun _=>Kept.auto) call65 rfl (H9 hp.bJ) .auto (fun _ _=>Kept.auto) ?_
  rintro x26 -
  refine bB.q rfl rfl rfl Kept.auto (Y.eu 6 3 underlying52 rfl sizeOf3 rfl) ?_
  refine bB.q rfl rfl rfl Kept.auto (Y.load isAgg3 rfl (Cell.a (by rfl))) ?_
  refine bB.eH rfl (.inl rfl) rfl (fun _=>Kept.auto) call66 rfl H7 .auto (fun _ _=>Kept.auto) ?_
  rintro x29 -
  refine bB.eH rfl (.inl rfl) rfl (fun _=>Kept.auto) call67 rfl ET .auto (fun _ _=>Kept.auto) ?_
  rintro x30 -
  refine bB.fresh rfl rfl rfl (by decide) Kept.auto (kH (enc:=de) (k:=1) 0 v.words.toNat underlying64 typeInfo92 rfl rfl rfl rfl (by decide) (by decide) rfl rfl (by omega) (by omega) (by omega)) ?_
  rintro b19
  refine bB.q rfl rfl rfl Kept.auto (Y.K7 (fun _ v2 v3 v4 v5 v6=>[v.fv,.int .i64 v.words,.int .i64 v.bu,.int .i64 v.conds,v.sv,v.pv,.int .i64 v.blocks,.int .i64 v.prio,v2,.pointer none,.pointer none,.pointer none,.pointer none,.pointer none,.pointer none,.pointer none,.pointer none,.pointer none,.pointer none,.pointer none,.pointer none,.pointer none,.pointer none,.pointer none,.pointer none,v3,v4,.slice none 0 0,v5,v6,.slice none 0 0]) rfl rfl rfl rfl rfl rfl (by kernel_rfl)) ?_
  refine bB.fresh rfl rfl rfl (by decide) Kept.auto (qb rfl rfl) ?_
  rintro b32
  refine bB.q rfl rfl rfl Kept.auto (Y.a rfl) ?_
  refine bB.nil ?_
  refine J 3 ?_
  refine .to (A:=sl de 1 (.slice (some ⟨b19,0,none⟩) v.words.toNat v.words.toNat) (List.replicate v.words.toNat 0)) .auto (rN rfl) ?_
  refine J 3 ?_
  refine .c call68 rfl (J2 hp.fs hl.1 hone) fun u36 _=>?_
  refine J 3 ?_
  refine .ai rfl (af.l9 sizeOf49 rfl rfl rfl) ?_
  rintro _ _ ⟨rfl,rfl⟩
  refine J 15 ?_
  refine .bm (X:=Nat×List (Value×List Ins)) [6,7,46,47,48,49,50,51,52,53,54,55,56,57,58,59,60] (fun z=>v.fs.length-z.1) (fun z=>z.1≤v.fs.length∧z.2.length=z.1∧z.2.map (·.2)=(v.fs.take z.1).map (·.2)) (fun z=>[(46,some (.int .i64 (z.1:Int)))]) (fun z=>[arr b32 0 [u36,.int .i64 v.words,.int .i64 v.bu,.int .i64 v.conds,v.sv,v.pv,.int .i64 v.blocks,.int .i64 v.prio,ptr x16,.pointer none,.pointer none,.pointer none,.pointer none,.pointer none,.pointer none,.pointer none,.pointer none,.pointer none,.pointer none,.pointer none,.pointer none,.pointer none,.pointer none,.pointer none,.pointer none,.slice (some ⟨b19,0,none⟩) v.words.toNat v.words.toNat,ptr x26,.slice none 0 0,ptr x29,ptr x30,.slice none 0 0],sl ek 1 u36 (z.2++v.fs.drop z.1),aF (fun x=>sl dM 5 x.1 x.2) z.2,sl de 1 (.slice (some ⟨b19,0,none⟩) v.words.toNat v.words.toNat) (List.replicate v.words.toNat 0),lT x16 (List.replicate (aO 16 1024).toNat (false,0)),cz x26 (Gates.new v.bu v.conds v.bJ),oK x29 (kG.new v.blocks),nM x30 lR.new,arr b1 0 (ej v),A,F]) (0,[]) ?_ ?_ ?_ ?_
  ·exact⟨Nat.zero_le _,rfl,by simp⟩
  ·exact⟨rfl,trivial⟩
  ·exact fun w s=>aw.kept .auto w s
  rintro⟨k,cl⟩ ⟨hk,hcl,hcm⟩
  simp only at hk hcl hcm
  refine JD 6 (fun h47=>?_) fun h47=>?_
  ·refine J 7 ?_
   obtain⟨x,hx⟩:=ak (show k<v.fs.length by omega)
   have hx2:=Gn hcl hx
   have hi:=hp.ins x (List.mem_of_getElem? hx)
   have hx256:x.2.length≤256:=CC (s7 (Decidable.of_not_not h13)) (List.mem_of_getElem? hx)
   refine .p (.ix k rfl rfl rfl (by simp;omega)) ?_
   refine J 5 ?_
   refine .draw [arr b32 0 [u36,.int .i64 v.words,.int .i64 v.bu,.int .i64 v.conds,v.sv,v.pv,.int .i64 v.blocks,.int .i64 v.prio,ptr x16,.pointer none,.pointer none,.pointer none,.pointer none,.pointer none,.pointer none,.pointer none,.pointer none,.pointer none,.pointer none,.pointer none,.pointer none,.pointer none,.pointer none,.pointer none,.pointer none,.slice (some ⟨b19,0,none⟩) v.words.toNat v.words.toNat,ptr x26,.slice none 0 0,ptr x29,ptr x30,.slice none 0 0],sl ek 1 u36 (cl++v.fs.drop k)] [0,0,0,0,0,0,1,2,1,3] rfl (by kernel_rfl) ?_
   refine J 7 ?_
   refine .c2 call69 rfl (L7 hi (by omega)) fun u58 _=>?_
   refine .cM (fun w s=>Rd.isSl (Rd.sl .here) w s) fun hu58=>?_
   refine .p (.ix k rfl rfl rfl (by simp;omega)) ?_
   refine .d3 rfl (af.eG (x':=(u58,x.2)) rfl rfl sizeOf95 (fZ hu58) (Gn hcl hx) (by decide) rfl (by repeat (first | exact gp.here | apply gp.there))) ?_
   rintro _ _ ⟨rfl,rfl⟩
   refine J 7 ?_
   refine .aH (k+1,cl++[(u58,x.2)]) .auto rfl ?_ ?_ ?_ ?_
   ·show v.fs.length-(k+1)<v.fs.length-k;omega
   ·exact⟨by show k+1≤_;omega,by simp[hcl],by rw[aU hx];simp[hcm]⟩
   ·exact⟨rfl,trivial⟩
   ·show ∀ w,Sat _ w _→Sat _ w (seps [_,sl ek 1 u36 ((cl++[(u58,x.2)])++v.fs.drop (k+1)),aF (fun x=>sl dM 5 x.1 x.2) (cl++[(u58,x.2)]),_,_,_,_,_,_,A,F])
    rw[← Jj hcl hx,jZ]
    exact fun w s=>aw.kept .auto w s
  ·refine J 15 ?_
   obtain rfl:k=v.fs.length:=by omega
   rw[List.drop_length,List.append_nil]
   refine .bm (X:=Nat×Value×List (Nat×Tub)) [9,64,65,66,67,68,69,70,71,72,73,74,75,76,77,78,79] (fun z=>v.bb.length-z.1) (fun z=>z.1≤v.bb.length∧z.2.2.length=z.1∧z.2.2.map (·.2)=(v.bb.take z.1).map Tub.new) (fun z=>[(64,some (.int .i64 (z.1:Int)))]) (fun z=>[arr b32 0 [u36,.int .i64 v.words,.int .i64 v.bu,.int .i64 v.conds,v.sv,v.pv,.int .i64 v.blocks,.int .i64 v.prio,ptr x16,.pointer none,.pointer none,.pointer none,.pointer none,.pointer none,.pointer none,.pointer none,.pointer none,.pointer none,.pointer none,.pointer none,.pointer none,.pointer none,.pointer none,.pointer none,.pointer none,.slice (some ⟨b19,0,none⟩) v.words.toNat v.words.toNat,ptr x26,z.2.1,ptr x29,ptr x30,.slice none 0 0],sl bP 1 z.2.1 z.2.2,aF (fun x=>iz x.1 x.2) z.2.2,sl ek 1 u36 cl,aF (fun x=>sl dM 5 x.1 x.2) cl,sl de 1 (.slice (some ⟨b19,0,none⟩) v.words.toNat v.words.toNat) (List.replicate v.words.toNat 0),lT x16 (List.replicate (aO 16 1024).toNat (false,0)),cz x26 (Gates.new v.bu v.conds v.bJ),oK x29 (kG.new v.blocks),nM x30 lR.new,arr b1 0 (ej v),A,F]) (0,.slice none 0 0,[]) ?_ ?_ ?_ ?_
   ·exact⟨Nat.zero_le _,rfl,by simp⟩
   ·exact⟨rfl,trivial⟩
   ·exact fun w s=>aw.kept .auto w s
   rintro⟨k,vt,ts⟩ ⟨hk,htl,htm⟩
   simp only at hk htl htm
   refine JD 6 (fun h65=>?_) fun h65=>?_
   ·refine J 6 ?_
    obtain⟨x,hx⟩:=ak (show k<v.bb.length by omega)
    refine J 5 ?_
    refine .draw [arr b32 0 [u36,.int .i64 v.words,.int .i64 v.bu,.int .i64 v.conds,v.sv,v.pv,.int .i64 v.blocks,.int .i64 v.prio,ptr x16,.pointer none,.pointer none,.pointer none,.pointer none,.pointer none,.pointer none,.pointer none,.pointer none,.pointer none,.pointer none,.pointer none,.pointer none,.pointer none,.pointer none,.pointer none,.pointer none,.slice (some ⟨b19,0,none⟩) v.words.toNat v.words.toNat,ptr x26,vt,ptr x29,ptr x30,.slice none 0 0]] [0,0,0,0,0,1,2,2,2,1,1,3] rfl (by kernel_rfl) ?_
    refine J 6 ?_
    refine .c2 call70 rfl H8 fun x74 _=>?_
    refine .d2 rfl Kept.auto (af.gF 126 rfl rfl (by kernel_rfl)) (by rintro _ _ ⟨b75,rfl,rfl⟩;exact Kept.auto) ?_
    rintro _ _ ⟨b75,rfl,rfl⟩
    refine .d2 rfl Kept.auto (af.fJ (enc:=bP) (k:=1) ((x74,Tub.new x):Nat×Tub) rfl underlying121 underlying121 typeInfo126 rfl rfl rfl (by decide) rfl rfl rfl .auto rfl .auto (by first | omega | (dsimp only;omega)) rfl) (by rintro _ _ ⟨v76,rfl,rfl⟩;exact Kept.auto) ?_
    rintro _ _ ⟨v76,rfl,rfl⟩
    refine J 2 ?_
    refine .d3 rfl (af.l9 sizeOf121 rfl rfl rfl) ?_
    rintro _ _ ⟨rfl,rfl⟩
    refine J 7 ?_
    refine .aH (k+1,v76,ts++[(x74,Tub.new x)]) .auto rfl ?_ ?_ ?_ ?_
    ·show v.bb.length-(k+1)<v.bb.length-k;omega
    ·exact⟨by show k+1≤_;omega,by simp[htl],by rw[aU hx];simp[htm]⟩
    ·exact⟨rfl,trivial⟩
    ·show ∀ w,Sat _ w _→Sat _ w (seps [_,sl bP 1 v76 (ts++[(x74,Tub.new x)]),aF (fun x=>iz x.1 x.2) (ts++[(x74,Tub.new x)]),_,_,_,_,_,_,_,_,A,F])
     rw[jZ]
     exact fun w s=>aw.kept .auto w s
   ·refine J 8 ?_
    obtain rfl:k=v.bb.length:=by omega
    have htm2:ts.map (·.2)=(xH v.p).cf:=by rw[htm,List.take_length];rfl
    have hcm2:cl.map (·.2)=(xH v.p).eW.funcs:=by rw[hcm,List.take_length];rfl
    refine .c call71 rfl (uo (ps:=List.replicate 16 none) (s:=xH v.p) (DZ _) rfl (D0 _)) fun qs _=>?_
    refine J 10 ?_
    refine .ez rfl rfl rfl fun w s=>⟨some b32,?_,(decide_eq_true (Decidable.of_not_not h13)).symm,aj .auto s⟩
    rw[Decidable.of_not_not h13];rfl
end Go.SLYtpbjdoplfgeliaaGreat
