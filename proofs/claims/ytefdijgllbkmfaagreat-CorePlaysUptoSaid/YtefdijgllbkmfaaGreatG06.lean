/- Walks of functions, and what they compute. Conditions: none, this text proves no statement. -/
import Derived.Test.YtefdijgllbkmfaaGreatG05
import Derived.Test.YtefdijgllbkmfaaGreatProg
import Derived.KernelRfl
import Derived.Test.YtefdijgllbkmfaaGreatG02
import Derived.Test.YtefdijgllbkmfaaGreatG03
set_option maxRecDepth 20000
set_option maxHeartbeats 4000000
namespace Go.SLYtefdijgllbkmfaaGreat
open Go Go.RowKit
inductive CP:Nat→Prop where
 | mk (n:Nat):CP n
theorem CP.s{n:Nat}(_:CP (n+1)):CP n:=.mk n
structure Hid(G:Prop):Prop where
 go:G
inductive Jh{X:Type}:X→Prop where
 | mk (x:X):Jh x
section
variable{P:Program}{W:World}{N:Nat}{Q:Exit→Act→World→Prop}{L:List (Nat×Option Value)}{H:List aa}{O:Array Oper}{T:TypeId}{K:List aa}{ks:List Nat}{rest:List Oper}
theorem Y.y{op:Op}{v:Value}(h:Y P W N op T L H v:=by first | exact .m rfl | exact .a rfl | exact .n rfl | exact .l rfl | exact .z rfl | exact .f rfl | exact .o rfl | exact .eql rfl rfl | exact .t rfl rfl | exact .u rfl rfl | exact .lr rfl ‹_› | exact .lA rfl | exact .len rfl | exact .lss rfl rfl | exact .extract rfl rfl | exact .Lg rfl rfl | exact .neq rfl rfl | exact .Ko rfl | exact .not rfl | exact .geq rfl rfl | exact .gtr rfl rfl | exact .leq rfl rfl | exact .KL rfl rfl | exact .lo rfl | exact .lz rfl | exact .lens rfl | exact .la rfl (Cells.rd Rd.s ‹_›) | exact .ix _ rfl rfl rfl (by first | omega | decide) | exact .inc rfl rfl (by omega) | exact .sub rfl rfl (by omega)):Y P W N op T L H v:=h
theorem aP.c{f:FuncId}{xs:Array Operand}{ts:Array TypeId}{pos:String}{after:Array Edge}{d:Nat}{args:List Value}{pre R:List aa}{X:Type}{val:X→Value}{fact:X→Prop}{post:X→List aa}
  (hc:∀ args w,(callFunc f args).run P w = .ok (.enter f args) w) (hx:evs L xs.toList=some args) (hfn:Fn P W f args pre X val fact post) (h:∀ x,fact x→aP P W N O Q rest ((d,some (val x))::L) (post x++R)) (ht:aM H pre R:=by exact aM.auto) (hN:Nat.blt d N=true:=by rfl):aP P W N O Q (⟨some d,.call ⟨.value (.func f),xs,ts⟩,T,pos,after,none⟩::rest) L H :=
 .aw rfl (af.ed hN hc hx hfn ht) fun _ _ e=>by obtain⟨y,hy,rfl,rfl⟩:=e;exact h y hy
theorem aP.cg{f:FuncId}{xs:Array Operand}{ts:Array TypeId}{pos:String}{after:Array Edge}{d j t:Nat}{want:Bool}{args:List Value}{pre R:List aa}{X:Type}{val:X→Value}{fact:X→Prop}{post:X→List aa}
  (hc:∀ args w,(callFunc f args).run P w = .ok (.enter f args) w) (hx:evs L xs.toList=some args) (hfn:Fn P W f args pre X val fact post) (h:∀ x,fact x→aP P W N O Q rest ((d,some (val x))::L) (post x++R)) (ht:aM H pre R:=by exact aM.auto) (hj:(O[j]?).bind (·.dst)=some t:=by rfl) (hb:look L t=some (.bool want):=by rfl) (hN:Nat.blt d N=true:=by rfl):aP P W N O Q (⟨some d,.call ⟨.value (.func f),xs,ts⟩,T,pos,after,some (j,want)⟩::rest) L H :=
 .dg rfl hj hb (af.ed hN hc hx hfn ht) fun _ _ e=>by obtain⟨y,hy,rfl,rfl⟩:=e;exact h y hy
theorem bA.c{f:FuncId}{xs:Array Operand}{ts:Array TypeId}{pos:String}{after:Array Edge}{d:Nat}{args:List Value}{pre R:List aa}{X:Type}{val:X→Value}{fact:X→Prop}{post:X→List aa}
  (hc:∀ args w,(callFunc f args).run P w = .ok (.enter f args) w) (hx:evs L xs.toList=some args) (hfn:Fn P W f args pre X val fact post) (h:∀ x,fact x→bA P W N K O Q ks rest ((d,some (val x))::L) (post x++R)) (ht:aM H pre R:=by exact aM.auto) (hN:Nat.blt d N=true:=by rfl):bA P W N K O Q (3::ks) (⟨some d,.call ⟨.value (.func f),xs,ts⟩,T,pos,after,none⟩::rest) L H :=
 .d3 rfl (af.ed hN hc hx hfn ht) fun _ _ e=>by obtain⟨y,hy,rfl,rfl⟩:=e;exact h y hy
theorem bA.c2{f:FuncId}{xs:Array Operand}{ts:Array TypeId}{pos:String}{after:Array Edge}{d:Nat}{args:List Value}{pre R:List aa}{X:Type}{val:X→Value}{fact:X→Prop}{post:X→List aa}
  (hc:∀ args w,(callFunc f args).run P w = .ok (.enter f args) w) (hx:evs L xs.toList=some args) (hfn:Fn P W f args pre X val fact post) (h:∀ x,fact x→bA P W N K O Q ks rest ((d,some (val x))::L) (post x++R)) (ht:aM H pre R:=by exact aM.auto) (hN:Nat.blt d N=true:=by rfl) (hK:∀ w,Sat W w (seps H)→Sat W w (seps K):=by exact Kept.auto) (hK2:∀ x,fact x→ ∀ w,Sat W w (seps (post x++R))→Sat W w (seps K):=by intro _ _;exact Kept.auto):bA P W N K O Q (2::ks) (⟨some d,.call ⟨.value (.func f),xs,ts⟩,T,pos,after,none⟩::rest) L H :=
 .d2 rfl hK (af.ed hN hc hx hfn ht) (fun _ _ e=>by obtain⟨y,hy,rfl,rfl⟩:=e;exact hK2 y hy) fun _ _ e=>by obtain⟨y,hy,rfl,rfl⟩:=e;exact h y hy
section
variable{fn:Func}{X:Type}{val:X→Value}{fact:X→Prop}{post:X→List aa}{F:aa}{R:List aa}{x:X}
theorem cp.w1{t:Nat}{v:Value}(_:Jh x)(hf:fact x:=by exact trivial)(hr:fn.results = #[.tmp t]:=by rfl)(ht:look L t=some v:=by rfl)(hv:v=val x:=by rfl)(he:aM H (post x++[F]) R:=by exact aM.auto):cp W N (bodyPost P fn (fun e w'=>∃ x,e = .returned (val x)∧fact x∧Sat W w' (sep (seps (post x)) F))) .ret L H :=
 .aF hr ht fun _ s=>⟨x,by rw[hv],hf,ar he s⟩
theorem cp.w2{t1 t2:Nat}{v1 v2:Value}(_:Jh x)(hf:fact x:=by exact trivial)(hr:fn.results = #[.tmp t1,.tmp t2]:=by rfl)(h1:look L t1=some v1:=by rfl)(h2:look L t2=some v2:=by rfl)(hv:Value.tuple #[v1,v2]=val x:=by rfl)(he:aM H (post x++[F]) R:=by exact aM.auto):cp W N (bodyPost P fn (fun e w'=>∃ x,e = .returned (val x)∧fact x∧Sat W w' (sep (seps (post x)) F))) .ret L H :=
 .eE hr h1 h2 fun _ s=>⟨x,by rw[hv],hf,ar he s⟩
theorem cp.w0(_:Jh x)(hf:fact x:=by exact trivial)(hr:fn.results = #[]:=by rfl)(hv:Value.tuple #[]=val x:=by rfl)(he:aM H (post x++[F]) R:=by exact aM.auto):cp W N (bodyPost P fn (fun e w'=>∃ x,e = .returned (val x)∧fact x∧Sat W w' (sep (seps (post x)) F))) .normal L H :=
 .CY hr fun _ s=>⟨x,by rw[hv],hf,ar he s⟩
theorem cp.wr(_:Jh x)(hf:fact x:=by exact trivial)(hr:fn.results = #[]:=by rfl)(hv:Value.tuple #[]=val x:=by rfl)(he:aM H (post x++[F]) R:=by exact aM.auto):cp W N (bodyPost P fn (fun e w'=>∃ x,e = .returned (val x)∧fact x∧Sat W w' (sep (seps (post x)) F))) .ret L H :=
 .Kq hr fun _ s=>⟨x,by rw[hv],hf,ar he s⟩
end
end
theorem J{G G':Prop}(n:Nat)(k:G')(f:CP n→Hid G'→G:=by intro c h;(repeat (replace c:=CP.s c;first | refine .p .y ?_ | refine .n ?_ | refine .s ?_ | refine .r ?_ | refine .b ?_ | refine .t ?_ | refine .e ?_ | refine .u ?_ | refine .g .y ?_ | refine .v ?_ | refine .br ?_ | refine .tr ?_ | refine .q .y ?_ | refine .w ?_ | refine .h .y ?_ | refine .x ?_ | refine .bh ?_ | refine .bp rfl ?_ | refine .tx ?_ | (refine .aw rfl (af.st ij.ok rfl rfl rfl rfl) ?_;rintro _ _ ⟨rfl,rfl⟩) | (refine .d3 rfl (af.st ij.ok rfl rfl rfl rfl) ?_;rintro _ _ ⟨rfl,rfl⟩) | (refine .d2 rfl Kept.auto (af.st ij.ok rfl rfl rfl rfl) (by rintro _ _ ⟨rfl,rfl⟩;exact Kept.auto) ?_;rintro _ _ ⟨rfl,rfl⟩) | (refine .aw rfl (af.sY (by exact ij.ok) rfl rfl rfl (by rfl)) ?_;rintro _ _ ⟨rfl,rfl⟩)));exact h.go):G:=f (.mk n) ⟨k⟩
theorem JD{G p q G1 G2:Prop}(n:Nat)(k1:p→G1)(k2:q→G2)(f:CP n→Hid (p→G1)→Hid (q→G2)→G:=by intro c h1 h2;(repeat (replace c:=CP.s c;first | refine .p .y ?_ | refine .n ?_ | refine .s ?_ | refine .r ?_ | refine .b ?_ | refine .t ?_ | refine .e ?_ | refine .u ?_ | refine .g .y ?_ | refine .v ?_ | refine .br ?_ | refine .tr ?_ | refine .q .y ?_ | refine .w ?_ | refine .h .y ?_ | refine .x ?_ | refine .bh ?_ | refine .bp rfl ?_ | refine .tx ?_ | (refine .aw rfl (af.st ij.ok rfl rfl rfl rfl) ?_;rintro _ _ ⟨rfl,rfl⟩) | (refine .d3 rfl (af.st ij.ok rfl rfl rfl rfl) ?_;rintro _ _ ⟨rfl,rfl⟩) | (refine .d2 rfl Kept.auto (af.st ij.ok rfl rfl rfl rfl) (by rintro _ _ ⟨rfl,rfl⟩;exact Kept.auto) ?_;rintro _ _ ⟨rfl,rfl⟩) | (refine .aw rfl (af.sY (by exact ij.ok) rfl rfl rfl (by rfl)) ?_;rintro _ _ ⟨rfl,rfl⟩)));first | exact .dG rfl h1.go h2.go | exact .cond rfl h1.go h2.go):G:=f (.mk n) ⟨k1⟩ ⟨k2⟩
theorem JR{G:Prop}{X:Type}(n:Nat)(x:X)(f:CP n→Jh x→G:=by intro c h;(repeat (replace c:=CP.s c;first | refine .p .y ?_ | refine .n ?_ | refine .s ?_ | refine .r ?_ | refine .b ?_ | refine .t ?_ | refine .e ?_ | refine .u ?_ | refine .g .y ?_ | refine .v ?_ | refine .br ?_ | refine .tr ?_ | refine .q .y ?_ | refine .w ?_ | refine .h .y ?_ | refine .x ?_ | refine .bh ?_ | refine .bp rfl ?_ | refine .tx ?_ | (refine .aw rfl (af.st ij.ok rfl rfl rfl rfl) ?_;rintro _ _ ⟨rfl,rfl⟩) | (refine .d3 rfl (af.st ij.ok rfl rfl rfl rfl) ?_;rintro _ _ ⟨rfl,rfl⟩) | (refine .d2 rfl Kept.auto (af.st ij.ok rfl rfl rfl rfl) (by rintro _ _ ⟨rfl,rfl⟩;exact Kept.auto) ?_;rintro _ _ ⟨rfl,rfl⟩) | (refine .aw rfl (af.sY (by exact ij.ok) rfl rfl rfl (by rfl)) ?_;rintro _ _ ⟨rfl,rfl⟩)));first | exact .w1 h | exact .w2 h | exact .w0 h | exact .wr h):G:=f (.mk n) (.mk x)
theorem JS{G:Prop}(n:Nat)(f:CP n→G:=by intro c;(repeat (replace c:=CP.s c;first | refine .p .y ?_ | refine .n ?_ | refine .s ?_ | refine .r ?_ | refine .b ?_ | refine .t ?_ | refine .e ?_ | refine .u ?_ | refine .g .y ?_ | refine .v ?_ | refine .br ?_ | refine .tr ?_ | refine .q .y ?_ | refine .w ?_ | refine .h .y ?_ | refine .x ?_ | refine .bh ?_ | refine .bp rfl ?_ | refine .tx ?_ | (refine .aw rfl (af.st ij.ok rfl rfl rfl rfl) ?_;rintro _ _ ⟨rfl,rfl⟩) | (refine .d3 rfl (af.st ij.ok rfl rfl rfl rfl) ?_;rintro _ _ ⟨rfl,rfl⟩) | (refine .d2 rfl Kept.auto (af.st ij.ok rfl rfl rfl rfl) (by rintro _ _ ⟨rfl,rfl⟩;exact Kept.auto) ?_;rintro _ _ ⟨rfl,rfl⟩) | (refine .aw rfl (af.sY (by exact ij.ok) rfl rfl rfl (by rfl)) ?_;rintro _ _ ⟨rfl,rfl⟩)));first | exact .CO .auto rfl (fun _ h=>h) | exact .CO .auto rfl (aM.kept .auto)):G:=f (.mk n)
end Go.SLYtefdijgllbkmfaaGreat
namespace Go.SLYtefdijgllbkmfaaGreat
open Go Go.RowKit Go.Proofs Go.Proofs.Tryz
instance:kA Tryz.prog 22 (.slice 128):=⟨underlying22⟩
instance:kA Tryz.prog 23 (.slice 3):=⟨underlying23⟩
instance:kA Tryz.prog 26 (.slice 37):=⟨underlying26⟩
instance:kA Tryz.prog 27 (.pointer 126):=⟨underlying27⟩
instance:kA Tryz.prog 49 (.slice 101):=⟨underlying49⟩
instance:kA Tryz.prog 55 (.slice 38):=⟨underlying55⟩
instance:kA Tryz.prog 60 (.slice 175):=⟨underlying60⟩
instance:kA Tryz.prog 67 (.slice 25):=⟨underlying67⟩
instance:kA Tryz.prog 68 (.slice 74):=⟨underlying68⟩
instance:kA Tryz.prog 76 (.slice 33):=⟨underlying76⟩
instance:kA Tryz.prog 80 (.pointer 155):=⟨underlying80⟩
instance:kA Tryz.prog 114 (.pointer 190):=⟨underlying114⟩
instance:kA Tryz.prog 116 (.pointer 195):=⟨underlying116⟩
instance:kA Tryz.prog 118 (.pointer 203):=⟨underlying118⟩
instance:kA Tryz.prog 120 (.pointer 206):=⟨underlying120⟩
instance:kA Tryz.prog 122 (.pointer 147):=⟨underlying122⟩
instance:kA Tryz.prog 124 (.slice 132):=⟨underlying124⟩
instance:kA Tryz.prog 128 (.slice 131):=⟨underlying128⟩
instance:kA Tryz.prog 132 (.pointer 209):=⟨underlying132⟩
instance:kA Tryz.prog 138 (.slice 295):=⟨underlying138⟩
instance:kA Tryz.prog 153 (.slice 27):=⟨underlying153⟩
instance:kA Tryz.prog 188 (.slice 255):=⟨underlying188⟩
instance:kA Tryz.prog 191 (.slice 278):=⟨underlying191⟩
instance:kA Tryz.prog 192 (.slice 198):=⟨underlying192⟩
instance:kA Tryz.prog 193 (.slice 200):=⟨underlying193⟩
instance:kA Tryz.prog 196 (.slice 274):=⟨underlying196⟩
instance:kA Tryz.prog 201 (.slice 170):=⟨underlying201⟩
instance:kA Tryz.prog 207 (.slice 363):=⟨underlying207⟩
instance:kA Tryz.prog 257 (.slice 9):=⟨underlying257⟩
instance:kA Tryz.prog 271 (.pointer 198):=⟨underlying271⟩
instance:kA Tryz.prog 288 (.slice 290):=⟨underlying288⟩
instance:kA Tryz.prog 310 (.slice 383):=⟨underlying310⟩
instance:kA Tryz.prog 318 (.pointer 278):=⟨underlying318⟩
instance:kA Tryz.prog 324 (.pointer 200):=⟨underlying324⟩
instance:kA Tryz.prog 423 (.slice 310):=⟨underlying423⟩
instance:ij Tryz.prog 3 1:=⟨sizeOf3⟩
instance:ij Tryz.prog 4 1:=⟨sizeOf4⟩
instance:ij Tryz.prog 25 8:=⟨sizeOf25⟩
instance:ij Tryz.prog 27 1:=⟨sizeOf27⟩
instance:ij Tryz.prog 28 1:=⟨sizeOf28⟩
instance:ij Tryz.prog 33 1:=⟨sizeOf33⟩
instance:ij Tryz.prog 37 3:=⟨sizeOf37⟩
instance:ij Tryz.prog 38 1:=⟨sizeOf38⟩
instance:ij Tryz.prog 39 8:=⟨sizeOf39⟩
instance:ij Tryz.prog 41 13:=⟨sizeOf41⟩
instance:ij Tryz.prog 53 18:=⟨sizeOf53⟩
instance:ij Tryz.prog 55 1:=⟨sizeOf55⟩
instance:ij Tryz.prog 74 4:=⟨sizeOf74⟩
instance:ij Tryz.prog 93 4:=⟨sizeOf93⟩
instance:ij Tryz.prog 96 4:=⟨sizeOf96⟩
instance:ij Tryz.prog 101 6:=⟨sizeOf101⟩
instance:ij Tryz.prog 123 16:=⟨sizeOf123⟩
instance:ij Tryz.prog 128 1:=⟨sizeOf128⟩
instance:ij Tryz.prog 131 5:=⟨sizeOf131⟩
instance:ij Tryz.prog 132 1:=⟨sizeOf132⟩
instance:ij Tryz.prog 145 10:=⟨sizeOf145⟩
instance:ij Tryz.prog 170 4:=⟨sizeOf170⟩
instance:ij Tryz.prog 175 4:=⟨sizeOf175⟩
instance:ij Tryz.prog 198 1:=⟨sizeOf198⟩
instance:ij Tryz.prog 200 2:=⟨sizeOf200⟩
instance:ij Tryz.prog 249 4:=⟨sizeOf249⟩
instance:ij Tryz.prog 255 2:=⟨sizeOf255⟩
instance:ij Tryz.prog 260 1:=⟨sizeOf260⟩
instance:ij Tryz.prog 274 2:=⟨sizeOf274⟩
instance:ij Tryz.prog 278 3:=⟨sizeOf278⟩
instance:ij Tryz.prog 290 2:=⟨sizeOf290⟩
instance:ij Tryz.prog 295 2:=⟨sizeOf295⟩
instance:ij Tryz.prog 310 1:=⟨sizeOf310⟩
instance:ij Tryz.prog 363 2:=⟨sizeOf363⟩
instance:One Tryz.prog 3:=⟨isAgg3⟩
instance:One Tryz.prog 4:=⟨isAgg4⟩
instance:One Tryz.prog 9:=⟨isAgg9⟩
instance:One Tryz.prog 22:=⟨isAgg22⟩
instance:One Tryz.prog 23:=⟨isAgg23⟩
instance:One Tryz.prog 27:=⟨isAgg27⟩
instance:One Tryz.prog 28:=⟨isAgg28⟩
instance:One Tryz.prog 33:=⟨isAgg33⟩
instance:One Tryz.prog 38:=⟨isAgg38⟩
instance:One Tryz.prog 49:=⟨isAgg49⟩
instance:One Tryz.prog 55:=⟨isAgg55⟩
instance:One Tryz.prog 56:=⟨isAgg56⟩
instance:One Tryz.prog 57:=⟨isAgg57⟩
instance:One Tryz.prog 58:=⟨isAgg58⟩
instance:One Tryz.prog 59:=⟨isAgg59⟩
instance:One Tryz.prog 60:=⟨isAgg60⟩
instance:One Tryz.prog 76:=⟨isAgg76⟩
instance:One Tryz.prog 114:=⟨isAgg114⟩
instance:One Tryz.prog 116:=⟨isAgg116⟩
instance:One Tryz.prog 118:=⟨isAgg118⟩
instance:One Tryz.prog 120:=⟨isAgg120⟩
instance:One Tryz.prog 122:=⟨isAgg122⟩
instance:One Tryz.prog 124:=⟨isAgg124⟩
instance:One Tryz.prog 128:=⟨isAgg128⟩
instance:One Tryz.prog 132:=⟨isAgg132⟩
instance:One Tryz.prog 138:=⟨isAgg138⟩
instance:One Tryz.prog 153:=⟨isAgg153⟩
instance:One Tryz.prog 188:=⟨isAgg188⟩
instance:One Tryz.prog 191:=⟨isAgg191⟩
instance:One Tryz.prog 192:=⟨isAgg192⟩
instance:One Tryz.prog 193:=⟨isAgg193⟩
instance:One Tryz.prog 196:=⟨isAgg196⟩
instance:One Tryz.prog 201:=⟨isAgg201⟩
instance:One Tryz.prog 204:=⟨isAgg204⟩
instance:One Tryz.prog 207:=⟨isAgg207⟩
instance:One Tryz.prog 288:=⟨isAgg288⟩
instance:One Tryz.prog 310:=⟨isAgg310⟩
instance:iB Tryz.prog 25:=⟨isAgg25⟩
instance:iB Tryz.prog 37:=⟨isAgg37⟩
instance:iB Tryz.prog 39:=⟨isAgg39⟩
instance:iB Tryz.prog 41:=⟨isAgg41⟩
instance:iB Tryz.prog 53:=⟨isAgg53⟩
instance:iB Tryz.prog 74:=⟨isAgg74⟩
instance:iB Tryz.prog 93:=⟨isAgg93⟩
instance:iB Tryz.prog 96:=⟨isAgg96⟩
instance:iB Tryz.prog 101:=⟨isAgg101⟩
instance:iB Tryz.prog 123:=⟨isAgg123⟩
instance:iB Tryz.prog 131:=⟨isAgg131⟩
instance:iB Tryz.prog 145:=⟨isAgg145⟩
instance:iB Tryz.prog 170:=⟨isAgg170⟩
instance:iB Tryz.prog 175:=⟨isAgg175⟩
instance:iB Tryz.prog 198:=⟨isAgg198⟩
instance:iB Tryz.prog 200:=⟨isAgg200⟩
instance:iB Tryz.prog 249:=⟨isAgg249⟩
instance:iB Tryz.prog 255:=⟨isAgg255⟩
instance:iB Tryz.prog 274:=⟨isAgg274⟩
instance:iB Tryz.prog 278:=⟨isAgg278⟩
instance:iB Tryz.prog 290:=⟨isAgg290⟩
instance:iB Tryz.prog 295:=⟨isAgg295⟩
instance:iB Tryz.prog 363:=⟨isAgg363⟩
instance:cI Tryz.prog 25 0 0:=⟨ab (t:=22) underlying25 rfl sizeOf22⟩
instance:cI Tryz.prog 25 1 1:=⟨ab (t:=3) underlying25 rfl sizeOf3⟩
instance:cI Tryz.prog 25 2 2:=⟨ab (t:=3) underlying25 rfl sizeOf3⟩
instance:cI Tryz.prog 25 3 3:=⟨ab (t:=3) underlying25 rfl sizeOf3⟩
instance:cI Tryz.prog 25 4 4:=⟨ab (t:=23) underlying25 rfl sizeOf23⟩
instance:cI Tryz.prog 25 5 5:=⟨ab (t:=23) underlying25 rfl sizeOf23⟩
instance:cI Tryz.prog 25 6 6:=⟨ab (t:=3) underlying25 rfl sizeOf3⟩
instance:cI Tryz.prog 25 7 7:=⟨ab (t:=3) underlying25 rfl sizeOf3⟩
instance:cI Tryz.prog 37 0 0:=⟨ab (t:=3) underlying37 rfl sizeOf3⟩
instance:cI Tryz.prog 37 1 1:=⟨ab (t:=3) underlying37 rfl sizeOf3⟩
instance:cI Tryz.prog 37 2 2:=⟨ab (t:=3) underlying37 rfl sizeOf3⟩
instance:cI Tryz.prog 41 1 1:=⟨ab (t:=3) underlying41 rfl sizeOf3⟩
instance:cI Tryz.prog 41 4 4:=⟨ab (t:=39) underlying41 rfl sizeOf39⟩
instance:cI Tryz.prog 53 0 0:=⟨ab (t:=4) underlying53 rfl sizeOf4⟩
instance:cI Tryz.prog 53 1 1:=⟨ab (t:=38) underlying53 rfl sizeOf38⟩
instance:cI Tryz.prog 53 2 2:=⟨ab (t:=3) underlying53 rfl sizeOf3⟩
instance:cI Tryz.prog 53 3 3:=⟨ab (t:=3) underlying53 rfl sizeOf3⟩
instance:cI Tryz.prog 53 4 4:=⟨ab (t:=3) underlying53 rfl sizeOf3⟩
instance:cI Tryz.prog 53 5 5:=⟨ab (t:=39) underlying53 rfl sizeOf39⟩
instance:cI Tryz.prog 53 6 13:=⟨ab (t:=38) underlying53 rfl sizeOf38⟩
instance:cI Tryz.prog 53 7 14:=⟨ab (t:=4) underlying53 rfl sizeOf4⟩
instance:cI Tryz.prog 53 8 15:=⟨ab (t:=3) underlying53 rfl sizeOf3⟩
instance:cI Tryz.prog 53 9 16:=⟨ab (t:=3) underlying53 rfl sizeOf3⟩
instance:cI Tryz.prog 53 10 17:=⟨ab (t:=3) underlying53 rfl sizeOf3⟩
instance:cI Tryz.prog 63 0 0:=⟨ab (t:=25) underlying63 rfl sizeOf25⟩
instance:cI Tryz.prog 63 1 8:=⟨ab (t:=51) underlying63 rfl sizeOf51⟩
instance:cI Tryz.prog 63 2 24:=⟨ab (t:=54) underlying63 rfl sizeOf54⟩
instance:cI Tryz.prog 63 3 312:=⟨ab (t:=55) underlying63 rfl sizeOf55⟩
instance:cI Tryz.prog 63 4 313:=⟨ab (t:=56) underlying63 rfl sizeOf56⟩
instance:cI Tryz.prog 63 5 314:=⟨ab (t:=57) underlying63 rfl sizeOf57⟩
instance:cI Tryz.prog 63 6 315:=⟨ab (t:=23) underlying63 rfl sizeOf23⟩
instance:cI Tryz.prog 63 7 316:=⟨ab (t:=58) underlying63 rfl sizeOf58⟩
instance:cI Tryz.prog 63 8 317:=⟨ab (t:=59) underlying63 rfl sizeOf59⟩
instance:cI Tryz.prog 63 9 318:=⟨ab (t:=55) underlying63 rfl sizeOf55⟩
instance:cI Tryz.prog 63 10 319:=⟨ab (t:=60) underlying63 rfl sizeOf60⟩
instance:cI Tryz.prog 63 11 320:=⟨ab (t:=3) underlying63 rfl sizeOf3⟩
instance:cI Tryz.prog 63 12 321:=⟨ab (t:=61) underlying63 rfl sizeOf61⟩
instance:cI Tryz.prog 63 13 337:=⟨ab (t:=49) underlying63 rfl sizeOf49⟩
instance:cI Tryz.prog 74 0 0:=⟨ab (t:=3) underlying74 rfl sizeOf3⟩
instance:cI Tryz.prog 74 1 1:=⟨ab (t:=3) underlying74 rfl sizeOf3⟩
instance:cI Tryz.prog 74 2 2:=⟨ab (t:=3) underlying74 rfl sizeOf3⟩
instance:cI Tryz.prog 74 3 3:=⟨ab (t:=3) underlying74 rfl sizeOf3⟩
instance:cI Tryz.prog 78 0 0:=⟨ab (t:=76) underlying78 rfl sizeOf76⟩
instance:cI Tryz.prog 93 0 0:=⟨ab (t:=23) underlying93 rfl sizeOf23⟩
instance:cI Tryz.prog 93 1 1:=⟨ab (t:=4) underlying93 rfl sizeOf4⟩
instance:cI Tryz.prog 93 2 2:=⟨ab (t:=4) underlying93 rfl sizeOf4⟩
instance:cI Tryz.prog 93 3 3:=⟨ab (t:=4) underlying93 rfl sizeOf4⟩
instance:cI Tryz.prog 96 0 0:=⟨ab (t:=23) underlying96 rfl sizeOf23⟩
instance:cI Tryz.prog 96 1 1:=⟨ab (t:=4) underlying96 rfl sizeOf4⟩
instance:cI Tryz.prog 96 2 2:=⟨ab (t:=4) underlying96 rfl sizeOf4⟩
instance:cI Tryz.prog 96 3 3:=⟨ab (t:=4) underlying96 rfl sizeOf4⟩
instance:cI Tryz.prog 101 3 3:=⟨ab (t:=38) underlying101 rfl sizeOf38⟩
instance:cI Tryz.prog 101 5 5:=⟨ab (t:=4) underlying101 rfl sizeOf4⟩
instance:cI Tryz.prog 126 0 0:=⟨ab (t:=25) underlying126 rfl sizeOf25⟩
instance:cI Tryz.prog 126 1 8:=⟨ab (t:=114) underlying126 rfl sizeOf114⟩
instance:cI Tryz.prog 126 2 9:=⟨ab (t:=123) underlying126 rfl sizeOf123⟩
instance:cI Tryz.prog 126 3 25:=⟨ab (t:=55) underlying126 rfl sizeOf55⟩
instance:cI Tryz.prog 126 4 26:=⟨ab (t:=116) underlying126 rfl sizeOf116⟩
instance:cI Tryz.prog 126 5 27:=⟨ab (t:=124) underlying126 rfl sizeOf124⟩
instance:cI Tryz.prog 126 6 28:=⟨ab (t:=118) underlying126 rfl sizeOf118⟩
instance:cI Tryz.prog 126 7 29:=⟨ab (t:=120) underlying126 rfl sizeOf120⟩
instance:cI Tryz.prog 126 8 30:=⟨ab (t:=49) underlying126 rfl sizeOf49⟩
instance:cI Tryz.prog 131 0 0:=⟨ab (t:=3) underlying131 rfl sizeOf3⟩
instance:cI Tryz.prog 131 1 1:=⟨ab (t:=3) underlying131 rfl sizeOf3⟩
instance:cI Tryz.prog 131 2 2:=⟨ab (t:=3) underlying131 rfl sizeOf3⟩
instance:cI Tryz.prog 131 3 3:=⟨ab (t:=3) underlying131 rfl sizeOf3⟩
instance:cI Tryz.prog 131 4 4:=⟨ab (t:=38) underlying131 rfl sizeOf38⟩
instance:cI Tryz.prog 140 0 0:=⟨ab (t:=3) underlying140 rfl sizeOf3⟩
instance:cI Tryz.prog 140 1 1:=⟨ab (t:=55) underlying140 rfl sizeOf55⟩
instance:cI Tryz.prog 140 2 2:=⟨ab (t:=138) underlying140 rfl sizeOf138⟩
instance:cI Tryz.prog 140 3 3:=⟨ab (t:=23) underlying140 rfl sizeOf23⟩
instance:cI Tryz.prog 145 0 0:=⟨ab (t:=3) underlying145 rfl sizeOf3⟩
instance:cI Tryz.prog 145 1 1:=⟨ab (t:=3) underlying145 rfl sizeOf3⟩
instance:cI Tryz.prog 145 2 2:=⟨ab (t:=39) underlying145 rfl sizeOf39⟩
instance:cI Tryz.prog 147 0 0:=⟨ab (t:=145) underlying147 rfl sizeOf145⟩
instance:cI Tryz.prog 147 1 10:=⟨ab (t:=38) underlying147 rfl sizeOf38⟩
instance:cI Tryz.prog 147 2 11:=⟨ab (t:=3) underlying147 rfl sizeOf3⟩
instance:cI Tryz.prog 147 3 12:=⟨ab (t:=38) underlying147 rfl sizeOf38⟩
instance:cI Tryz.prog 147 4 13:=⟨ab (t:=4) underlying147 rfl sizeOf4⟩
instance:cI Tryz.prog 147 5 14:=⟨ab (t:=3) underlying147 rfl sizeOf3⟩
instance:cI Tryz.prog 147 6 15:=⟨ab (t:=3) underlying147 rfl sizeOf3⟩
instance:cI Tryz.prog 147 7 16:=⟨ab (t:=3) underlying147 rfl sizeOf3⟩
instance:cI Tryz.prog 155 0 0:=⟨ab (t:=153) underlying155 rfl sizeOf153⟩
instance:cI Tryz.prog 161 0 0:=⟨ab (t:=27) underlying161 rfl sizeOf27⟩
instance:cI Tryz.prog 161 1 1:=⟨ab (t:=3) underlying161 rfl sizeOf3⟩
instance:cI Tryz.prog 161 2 2:=⟨ab (t:=122) underlying161 rfl sizeOf122⟩
instance:cI Tryz.prog 161 3 3:=⟨ab (t:=131) underlying161 rfl sizeOf131⟩
instance:cI Tryz.prog 161 4 8:=⟨ab (t:=3) underlying161 rfl sizeOf3⟩
instance:cI Tryz.prog 161 5 9:=⟨ab (t:=93) underlying161 rfl sizeOf93⟩
instance:cI Tryz.prog 161 6 13:=⟨ab (t:=49) underlying161 rfl sizeOf49⟩
instance:cI Tryz.prog 167 0 0:=⟨ab (t:=33) underlying167 rfl sizeOf33⟩
instance:cI Tryz.prog 167 1 1:=⟨ab (t:=3) underlying167 rfl sizeOf3⟩
instance:cI Tryz.prog 167 2 2:=⟨ab (t:=131) underlying167 rfl sizeOf131⟩
instance:cI Tryz.prog 167 3 7:=⟨ab (t:=96) underlying167 rfl sizeOf96⟩
instance:cI Tryz.prog 167 4 11:=⟨ab (t:=49) underlying167 rfl sizeOf49⟩
instance:cI Tryz.prog 170 0 0:=⟨ab (t:=3) underlying170 rfl sizeOf3⟩
instance:cI Tryz.prog 170 1 1:=⟨ab (t:=3) underlying170 rfl sizeOf3⟩
instance:cI Tryz.prog 170 2 2:=⟨ab (t:=4) underlying170 rfl sizeOf4⟩
instance:cI Tryz.prog 170 3 3:=⟨ab (t:=38) underlying170 rfl sizeOf38⟩
instance:cI Tryz.prog 175 0 0:=⟨ab (t:=3) underlying175 rfl sizeOf3⟩
instance:cI Tryz.prog 175 1 1:=⟨ab (t:=3) underlying175 rfl sizeOf3⟩
instance:cI Tryz.prog 175 2 2:=⟨ab (t:=4) underlying175 rfl sizeOf4⟩
instance:cI Tryz.prog 175 3 3:=⟨ab (t:=38) underlying175 rfl sizeOf38⟩
instance:cI Tryz.prog 190 0 0:=⟨ab (t:=188) underlying190 rfl sizeOf188⟩
instance:cI Tryz.prog 195 0 0:=⟨ab (t:=191) underlying195 rfl sizeOf191⟩
instance:cI Tryz.prog 195 1 1:=⟨ab (t:=192) underlying195 rfl sizeOf192⟩
instance:cI Tryz.prog 195 2 2:=⟨ab (t:=193) underlying195 rfl sizeOf193⟩
instance:cI Tryz.prog 198 0 0:=⟨ab (t:=196) underlying198 rfl sizeOf196⟩
instance:cI Tryz.prog 200 0 0:=⟨ab (t:=198) underlying200 rfl sizeOf198⟩
instance:cI Tryz.prog 200 1 1:=⟨ab (t:=3) underlying200 rfl sizeOf3⟩
instance:cI Tryz.prog 203 0 0:=⟨ab (t:=55) underlying203 rfl sizeOf55⟩
instance:cI Tryz.prog 203 1 1:=⟨ab (t:=201) underlying203 rfl sizeOf201⟩
instance:cI Tryz.prog 206 0 0:=⟨ab (t:=3) underlying206 rfl sizeOf3⟩
instance:cI Tryz.prog 206 1 1:=⟨ab (t:=204) underlying206 rfl sizeOf204⟩
instance:cI Tryz.prog 209 0 0:=⟨ab (t:=3) underlying209 rfl sizeOf3⟩
instance:cI Tryz.prog 209 1 1:=⟨ab (t:=55) underlying209 rfl sizeOf55⟩
instance:cI Tryz.prog 209 2 2:=⟨ab (t:=207) underlying209 rfl sizeOf207⟩
instance:cI Tryz.prog 209 3 3:=⟨ab (t:=23) underlying209 rfl sizeOf23⟩
instance:cI Tryz.prog 249 0 0:=⟨ab (t:=3) underlying249 rfl sizeOf3⟩
instance:cI Tryz.prog 249 1 1:=⟨ab (t:=4) underlying249 rfl sizeOf4⟩
instance:cI Tryz.prog 249 2 2:=⟨ab (t:=3) underlying249 rfl sizeOf3⟩
instance:cI Tryz.prog 249 3 3:=⟨ab (t:=4) underlying249 rfl sizeOf4⟩
instance:cI Tryz.prog 255 0 0:=⟨ab (t:=4) underlying255 rfl sizeOf4⟩
instance:cI Tryz.prog 255 1 1:=⟨ab (t:=38) underlying255 rfl sizeOf38⟩
instance:cI Tryz.prog 260 0 0:=⟨ab (t:=28) underlying260 rfl sizeOf28⟩
instance:cI Tryz.prog 263 0 0:=⟨ab (t:=145) underlying263 rfl sizeOf145⟩
instance:cI Tryz.prog 263 1 10:=⟨ab (t:=55) underlying263 rfl sizeOf55⟩
instance:cI Tryz.prog 274 0 0:=⟨ab (t:=3) underlying274 rfl sizeOf3⟩
instance:cI Tryz.prog 274 1 1:=⟨ab (t:=3) underlying274 rfl sizeOf3⟩
instance:cI Tryz.prog 278 0 0:=⟨ab (t:=198) underlying278 rfl sizeOf198⟩
instance:cI Tryz.prog 278 1 1:=⟨ab (t:=4) underlying278 rfl sizeOf4⟩
instance:cI Tryz.prog 278 2 2:=⟨ab (t:=3) underlying278 rfl sizeOf3⟩
instance:cI Tryz.prog 287 0 0:=⟨ab (t:=3) underlying287 rfl sizeOf3⟩
instance:cI Tryz.prog 287 1 1:=⟨ab (t:=23) underlying287 rfl sizeOf23⟩
instance:cI Tryz.prog 290 0 0:=⟨ab (t:=3) underlying290 rfl sizeOf3⟩
instance:cI Tryz.prog 290 1 1:=⟨ab (t:=3) underlying290 rfl sizeOf3⟩
instance:cI Tryz.prog 295 0 0:=⟨ab (t:=3) underlying295 rfl sizeOf3⟩
instance:cI Tryz.prog 295 1 1:=⟨ab (t:=38) underlying295 rfl sizeOf38⟩
instance:cI Tryz.prog 363 0 0:=⟨ab (t:=3) underlying363 rfl sizeOf3⟩
instance:cI Tryz.prog 363 1 1:=⟨ab (t:=38) underlying363 rfl sizeOf38⟩
end Go.SLYtefdijgllbkmfaaGreat
namespace Go.SLYtefdijgllbkmfaaGreat
open Go Go.RowKit Go.Proofs Go.Proofs.Tryz
attribute [local irreducible] ax aP bA cp bF Y
theorem fz{W:World}{a:Int}(ha:0≤a∧a<18446744073709551616):Fn Tryz.prog W 222 [.int .u64 a] [] Unit (fun _=>.int .i64 (bE a)) (fun _=>True) (fun _=>[]):=by
 refine Fn.intro (N:=15) func222 rfl ntmps222 rfl fun F=>?_
 show ax _ _ _ _ _ _ [F]
 refine J 8 ?_
 refine .p (.dC (Y.yB rfl rfl) (xr ha)) ?_
 refine JD 12 (fun h6=>?_) fun h6=>?_
 ·refine J 8 ?_
  refine .aF rfl rfl fun w s=>⟨(),?_,trivial,ar .auto s⟩
  exact jr (Iv h6).symm
 ·refine JD 7 (fun h9=>?_) fun h9=>?_
  ·refine J 8 ?_
   refine .aF rfl rfl fun w s=>⟨(),?_,trivial,ar .auto s⟩
   exact jr (Iw h6 h9).symm
  ·refine JD 7 (fun h12=>?_) fun h12=>?_
   ·refine J 8 ?_
    refine .aF rfl rfl fun w s=>⟨(),?_,trivial,ar .auto s⟩
    exact jr (Ix h6 h9 h12).symm
   ·refine J 9 ?_
    refine .aF rfl rfl fun w s=>⟨(),?_,trivial,ar .auto s⟩
    exact jr (Iy h6 h9 h12).symm
theorem mq{W:World}{a:Int}(ha:0≤a∧a<18446744073709551616):Fn Tryz.prog W 220 [.int .u64 a] [] Unit (fun _=>.int .u64 (ft a)) (fun _=>True) (fun _=>[]):=by
 refine Fn.intro (N:=7) func220 rfl ntmps220 rfl fun F=>?_
 show ax _ _ _ _ _ _ [F]
 refine J 9 ?_
 refine .c call222 rfl (fz ha) fun _ _=>?_
 refine JD 3 (fun h5=>?_) fun h5=>?_
 ·refine J 7 ?_
  refine .aF rfl rfl fun w s=>⟨(),?_,trivial,ar .auto s⟩
  exact jr (F9 h5).symm
 ·refine J 9 ?_
  refine .aF rfl rfl fun w s=>⟨(),?_,trivial,ar .auto s⟩
  exact jr (Ga h5).symm
theorem il{W:World}{a:Int}(ha:0≤a∧a<18446744073709551616):Fn Tryz.prog W 223 [.int .u64 a] [] Unit (fun _=>.int .i64 (fR a)) (fun _=>True) (fun _=>[]):=by
 refine Fn.intro (N:=13) func223 rfl ntmps223 rfl fun F=>?_
 show ax _ _ _ _ _ _ [F]
 refine J 9 ?_
 refine .p (.dC (Y.yC (n:=63) rfl rfl (by decide)) (oF ha 63 (by decide))) ?_
 refine JD 3 (fun h5=>?_) fun h5=>?_
 ·refine J 3 ?_
  refine .p (.dC (Y.yB rfl rfl) (xr ha)) ?_
  refine .p (.dC (Y.gq underlying38 underlying3 rfl (by have:=Ez a;omega)) rfl) ?_
  refine .p (.dC (Y.neg rfl) (Gp (n:=((a.toNat % fS:Nat):Int)) (Ez a))) ?_
  refine .p (.sub rfl rfl (by have:=Ez a;omega)) ?_
  refine J 5 ?_
  refine .aF rfl rfl fun w s=>⟨(),?_,trivial,ar .auto s⟩
  exact jr (Gb ha h5).symm
 ·refine J 5 ?_
  refine .p (.dC (Y.gq underlying38 underlying3 rfl (by have:=AF ha h5;omega)) rfl) ?_
  refine J 4 ?_
  refine .aF rfl rfl fun w s=>⟨(),?_,trivial,ar .auto s⟩
  exact jr (AF ha h5).2.symm
theorem Gq{W:World}{a b:Int}(ha:0≤a∧a<18446744073709551616)(hb:0≤b∧b<18446744073709551616):Fn Tryz.prog W 180 [.int .u64 a,.int .u64 b] [] Unit (fun _=>.int .u64 (nO a b)) (fun _=>True) (fun _=>[]):=by
 refine Fn.intro (N:=20) func180 rfl ntmps180 rfl fun F=>?_
 show ax _ _ _ _ _ _ [F]
 refine J 9 ?_
 refine .c call222 rfl (fz ha) fun _ _=>?_
 refine J 2 ?_
 refine .mJ (t:=8) rfl (fun h3=>?_) (fun h3=>?_)
 ·refine J 6 ?_
  refine .iD rfl ?_
  refine J 7 ?_
  refine .aF rfl rfl fun w s=>⟨(),?_,trivial,ar .auto s⟩
  rw[← oz ha hb];unfold BX;rw[if_pos (.inl h3)];rfl
 ·refine J 1 ?_
  refine .cg call222 rfl (fz hb) fun _ _=>?_
  refine JD 4 (fun h4=>?_) fun h4=>?_
  ·refine J 7 ?_
   refine .aF rfl rfl fun w s=>⟨(),?_,trivial,ar .auto s⟩
   rw[← oz ha hb];unfold BX;rw[if_pos (.inr h4)];rfl
  ·have hno:¬(bE a=3∨bE b=3):=fun e=>e.elim h3 h4
   refine J 6 ?_
   refine .c call223 rfl (il ha) fun _ _=>?_
   refine J 1 ?_
   refine .c call223 rfl (il hb) fun _ _=>?_
   refine JD 3 (fun h17=>?_) fun h17=>?_
   ·refine J 8 ?_
    refine .aF rfl rfl fun w s=>⟨(),?_,trivial,ar .auto s⟩
    rw[← oz ha hb];unfold BX;rw[if_neg hno,if_pos (by omega)]
   ·refine J 9 ?_
    refine .aF rfl rfl fun w s=>⟨(),?_,trivial,ar .auto s⟩
    rw[← oz ha hb];unfold BX;rw[if_neg hno,if_neg (by omega)]
theorem Gr{W:World}{a b:Int}(ha:0≤a∧a<18446744073709551616)(hb:0≤b∧b<18446744073709551616):Fn Tryz.prog W 181 [.int .u64 a,.int .u64 b] [] Unit (fun _=>.int .u64 (nP a b)) (fun _=>True) (fun _=>[]):=by
 refine Fn.intro (N:=20) func181 rfl ntmps181 rfl fun F=>?_
 show ax _ _ _ _ _ _ [F]
 refine J 9 ?_
 refine .c call222 rfl (fz ha) fun _ _=>?_
 refine J 2 ?_
 refine .mJ (t:=8) rfl (fun h3=>?_) (fun h3=>?_)
 ·refine J 6 ?_
  refine .iD rfl ?_
  refine J 7 ?_
  refine .aF rfl rfl fun w s=>⟨(),?_,trivial,ar .auto s⟩
  rw[← oA ha hb];unfold BZ;rw[if_pos (.inl h3)];rfl
 ·refine J 1 ?_
  refine .cg call222 rfl (fz hb) fun _ _=>?_
  refine JD 4 (fun h4=>?_) fun h4=>?_
  ·refine J 7 ?_
   refine .aF rfl rfl fun w s=>⟨(),?_,trivial,ar .auto s⟩
   rw[← oA ha hb];unfold BZ;rw[if_pos (.inr h4)];rfl
  ·have hno:¬(bE a=3∨bE b=3):=fun e=>e.elim h3 h4
   refine J 6 ?_
   refine .c call223 rfl (il ha) fun _ _=>?_
   refine J 1 ?_
   refine .c call223 rfl (il hb) fun _ _=>?_
   refine JD 3 (fun h17=>?_) fun h17=>?_
   ·refine J 8 ?_
    refine .aF rfl rfl fun w s=>⟨(),?_,trivial,ar .auto s⟩
    rw[← oA ha hb];unfold BZ;rw[if_neg hno,if_pos (by omega)]
   ·refine J 9 ?_
    refine .aF rfl rfl fun w s=>⟨(),?_,trivial,ar .auto s⟩
    rw[← oA ha hb];unfold BZ;rw[if_neg hno,if_neg (by omega)]
theorem EA{W:World}{a b:Int}(ha:0≤a∧a<18446744073709551616)(hb:0≤b∧b<18446744073709551616):Fn Tryz.prog W 182 [.int .u64 a,.int .u64 b] [] Unit (fun _=>.bool (Dy a b)) (fun _=>True) (fun _=>[]):=by
 refine Fn.intro (N:=28) func182 rfl ntmps182 rfl fun F=>?_
 show ax _ _ _ _ _ _ [F]
 refine J 9 ?_
 refine .c call222 rfl (fz ha) fun _ _=>?_
 refine J 2 ?_
 refine .mJ (t:=8) rfl (fun h3=>?_) (fun h3=>?_)
 ·refine J 16 ?_
  refine .iD rfl ?_
  refine J 7 ?_
  refine .aF rfl rfl fun w s=>⟨(),?_,trivial,ar .auto s⟩
  rw[← kh ha hb];unfold qo;rw[if_pos (.inl h3)]
 ·refine J 1 ?_
  refine .cg call222 rfl (fz hb) fun _ _=>?_
  refine J 3 ?_
  refine .mJ (t:=13) rfl (fun h4=>?_) (fun h4=>?_)
  ·refine J 11 ?_
   refine .iD rfl ?_
   refine J 7 ?_
   refine .aF rfl rfl fun w s=>⟨(),?_,trivial,ar .auto s⟩
   rw[← kh ha hb];unfold qo;rw[if_pos (.inr (.inl h4))]
  ·refine J 1 ?_
   refine .cg call222 rfl (fz ha) fun _ _=>?_
   refine J 2 ?_
   refine .mJ (t:=17) rfl (fun h5=>?_) (fun h5=>?_)
   ·refine J 1 ?_
    refine .cg call222 rfl (fz hb) fun _ _=>?_
    refine JD 5 (fun h6=>?_) fun h6=>?_
    ·refine J 7 ?_
     refine .aF rfl rfl fun w s=>⟨(),?_,trivial,ar .auto s⟩
     rw[← kh ha hb];unfold qo;rw[if_pos (.inr (.inr ⟨h5,h6⟩))]
    ·refine J 4 ?_
     have hno:¬(bE a=3∨bE b=3∨(bE a=1∧bE b=1)):=by omega
     refine J 1 ?_
     refine .c call223 rfl (il ha) fun _ _=>?_
     refine J 1 ?_
     refine .c call223 rfl (il hb) fun _ _=>?_
     refine J 5 ?_
     refine .aF rfl rfl fun w s=>⟨(),?_,trivial,ar .auto s⟩
     rw[← kh ha hb];unfold qo;rw[if_neg hno]
   ·refine J 7 ?_
    refine .lf rfl ?_
    refine J 4 ?_
    have hno:¬(bE a=3∨bE b=3∨(bE a=1∧bE b=1)):=by omega
    refine J 1 ?_
    refine .c call223 rfl (il ha) fun _ _=>?_
    refine J 1 ?_
    refine .c call223 rfl (il hb) fun _ _=>?_
    refine J 5 ?_
    refine .aF rfl rfl fun w s=>⟨(),?_,trivial,ar .auto s⟩
    rw[← kh ha hb];unfold qo;rw[if_neg hno]
theorem qP{W:World}{op a b:Int}(ho:1≤op∧op≤4)(_ha:0≤a∧a<18446744073709551616)(_hb:0≤b∧b<18446744073709551616):Fn Tryz.prog W 179 [.int .i64 op,.int .u64 a,.int .u64 b] [] Unit (fun _=>.int .u64 (vO op a b)) (fun _=>True) (fun _=>[]):=by
 refine Fn.intro (N:=38) func179 rfl ntmps179 rfl fun F=>?_
 show ax _ _ _ _ _ _ [F]
 refine J 8 ?_
 refine .p (.ext (e:=Extern.MathFloatBits.float64frombits) func219 rfl rfl rfl (by kernel_rfl) rfl (fun w=>rfl)) ?_
 refine J 1 ?_
 refine .p (.ext (e:=Extern.MathFloatBits.float64frombits) func219 rfl rfl rfl (by kernel_rfl) rfl (fun w=>rfl)) ?_
 refine JD 22 (fun h15=>?_) fun h15=>?_
 ·refine J 3 ?_
  refine .aw rfl (af.AK (Ieee.double.add _ _) rfl rfl rfl (fun w=>rfl)) ?_
  rintro _ _ ⟨r19,hr19,rfl,rfl⟩
  refine J 7 ?_
  refine .p (.ext (e:=Extern.MathFloatBits.float64bits) func221 rfl rfl rfl (by kernel_rfl) rfl (fun w=>rfl)) ?_
  refine .c call220 rfl (mq (vN hr19 (fun q e=>JP e))) fun _ _=>?_
  refine J 4 ?_
  refine .aF rfl rfl fun w s=>⟨(),?_,trivial,ar .auto s⟩
  rw[jA hr19.1];exact jr (show Br a b=vO op a b by unfold vO;rw[if_pos h15])
 ·refine JD 6 (fun h20=>?_) fun h20=>?_
  ·refine J 3 ?_
   refine .aw rfl (af.AK (Ieee.double.sub _ _) rfl rfl rfl (fun w=>rfl)) ?_
   rintro _ _ ⟨r24,hr24,rfl,rfl⟩
   refine J 7 ?_
   refine .p (.ext (e:=Extern.MathFloatBits.float64bits) func221 rfl rfl rfl (by kernel_rfl) rfl (fun w=>rfl)) ?_
   refine .c call220 rfl (mq (vN hr24 (fun q e=>JQ e))) fun _ _=>?_
   refine J 4 ?_
   refine .aF rfl rfl fun w s=>⟨(),?_,trivial,ar .auto s⟩
   rw[jA hr24.1];exact jr (show Bt a b=vO op a b by unfold vO;rw[if_neg h15,if_pos h20])
  ·refine JD 6 (fun h25=>?_) fun h25=>?_
   ·refine J 3 ?_
    refine .aw rfl (af.AK (Ieee.double.mul _ _) rfl rfl rfl (fun w=>rfl)) ?_
    rintro _ _ ⟨r29,hr29,rfl,rfl⟩
    refine J 7 ?_
    refine .p (.ext (e:=Extern.MathFloatBits.float64bits) func221 rfl rfl rfl (by kernel_rfl) rfl (fun w=>rfl)) ?_
    refine .c call220 rfl (mq (vN hr29 (fun q e=>JT e))) fun _ _=>?_
    refine J 4 ?_
    refine .aF rfl rfl fun w s=>⟨(),?_,trivial,ar .auto s⟩
    rw[jA hr29.1];exact jr (show Bu a b=vO op a b by unfold vO;rw[if_neg h15,if_neg h20,if_pos h25])
   ·refine JD 6 (fun h30=>?_) fun h30=>?_
    ·refine J 3 ?_
     refine .aw rfl (af.AK (Ieee.double.div _ _) rfl rfl rfl (fun w=>rfl)) ?_
     rintro _ _ ⟨r34,hr34,rfl,rfl⟩
     refine J 7 ?_
     refine .p (.ext (e:=Extern.MathFloatBits.float64bits) func221 rfl rfl rfl (by kernel_rfl) rfl (fun w=>rfl)) ?_
     refine .c call220 rfl (mq (vN hr34 (fun q e=>JU e))) fun _ _=>?_
     refine J 4 ?_
     refine .aF rfl rfl fun w s=>⟨(),?_,trivial,ar .auto s⟩
     rw[jA hr34.1];exact jr (show Bv a b=vO op a b by unfold vO;rw[if_neg h15,if_neg h20,if_neg h25])
    ·omega
theorem B5{W:World}{a:Int}(ha:0≤a∧a<18446744073709551616):Fn Tryz.prog W 183 [.int .u64 a] [] Unit (fun _=>.int .u64 (eZ a)) (fun _=>True) (fun _=>[]):=by
 refine Fn.intro (N:=46) func183 rfl ntmps183 rfl fun F=>?_
 show ax _ _ _ _ _ _ [F]
 have hexp:=Gn a
 refine J 9 ?_
 refine .c call222 rfl (fz ha) fun _ _=>?_
 refine J 2 ?_
 refine .mJ (t:=9) rfl (fun h3=>?_) (fun h3=>?_)
 ·refine J 6 ?_
  refine .iD rfl ?_
  refine J 7 ?_
  refine .aF rfl rfl fun w s=>⟨(),?_,trivial,ar .auto s⟩
  rw[JO ha (.inl h3)]
 ·refine J 1 ?_
  refine .cg call222 rfl (fz ha) fun _ _=>?_
  refine JD 4 (fun h4=>?_) fun h4=>?_
  ·refine J 7 ?_
   refine .aF rfl rfl fun w s=>⟨(),?_,trivial,ar .auto s⟩
   rw[JO ha (.inr h4)]
  ·have hno:¬(bE a=3∨bE a=1):=fun e=>e.elim h3 h4
   refine J 5 ?_
   refine .p (.dC (Y.yC (n:=63) rfl rfl (by decide)) (oF ha 63 (by decide))) ?_
   refine J 7 ?_
   refine .p (.dC (Y.yC (n:=52) rfl rfl (by decide)) (oF ha 52 (by decide))) ?_
   refine .p (.dC (Y.yB rfl rfl) (B4 ha)) ?_
   refine .p (.dC (Y.gq underlying38 underlying3 rfl (by omega)) rfl) ?_
   refine .p (.dC (Y.sub rfl rfl (by omega)) (show(Ey a:Int)-1023=fK a from rfl)) ?_
   refine J 6 ?_
   refine .p (.dC (Y.yB rfl rfl) (B3 ha)) ?_
   refine .p (.dC (Y.Kl rfl rfl) (zf a)) ?_
   refine J 6 ?_
   have hpw:fK a=(Ey a:Int)-1023:=rfl
   refine JD 4 (fun h26=>?_) fun h26=>?_
   ·refine J 7 ?_
    refine .aF rfl rfl fun w s=>⟨(),?_,trivial,ar .auto s⟩
    rw[KM ha hno h26]
   ·refine JD 9 (fun h28=>?_) fun h28=>?_
    ·refine JD 6 (fun h29=>?_) fun h29=>?_
     ·refine J 8 ?_
      refine .aF rfl rfl fun w s=>⟨(),?_,trivial,ar .auto s⟩
      rw[KN ha hno h26 h28 h29]
     ·refine J 9 ?_
      refine .aF rfl rfl fun w s=>⟨(),?_,trivial,ar .auto s⟩
      rw[KO ha hno h26 h28 h29]
    ·refine J 2 ?_
     refine .nv (X:=Unit) [5,30,31,32,33,34,35,36,37,38,39,40,41] (fun _=>True) (fun _=>[(5,some (.int .u64 (gp a:Int)))]) (fun _=>[F]) ?_ ?_
     ·refine JD 6 (fun h31=>?_) fun h31=>?_
      ·refine J 4 ?_
       refine .p (.fW underlying3 underlying299 rfl (by omega)) ?_
       refine .p (.dC (Y.Bg rfl rfl (by omega)) (Gc h31 h28)) ?_
       refine J 2 ?_
       refine .eT () .auto ?_ ?_ ?_
       ·trivial
       ·exact⟨rfl,trivial⟩
       ·exact fun w s=>aM.kept .auto w s
      ·refine J 4 ?_
       refine .p (.fW underlying3 underlying299 rfl (by omega)) ?_
       refine .p (.dC (Y.yC rfl rfl (by omega)) (Gd h31 h26)) ?_
       refine J 2 ?_
       refine .eT () .auto ?_ ?_ ?_
       ·trivial
       ·exact⟨rfl,trivial⟩
       ·exact fun w s=>aM.kept .auto w s
     ·rintro⟨⟩ -
      refine JD 6 (fun h42=>?_) fun h42=>?_
      ·refine J 3 ?_
       refine .p (.dC (Y.neg rfl) (AG _)) ?_
       refine J 5 ?_
       refine .aF rfl rfl fun w s=>⟨(),?_,trivial,ar .auto s⟩
       rw[KP ha hno h26 h28 h42]
      ·refine J 9 ?_
       refine .aF rfl rfl fun w s=>⟨(),?_,trivial,ar .auto s⟩
       rw[KQ ha hno h26 h28 h42]
theorem xt{W:World}{a:Int}(ha:0≤a∧a<18446744073709551616):Fn Tryz.prog W 184 [.int .u64 a] [] Unit (fun _=>.int .u64 (fc a)) (fun _=>True) (fun _=>[]):=by
 refine Fn.intro (N:=76) func184 rfl ntmps184 rfl fun F=>?_
 show ax _ _ _ _ _ _ [F]
 have hml:=vK ha
 refine J 10 ?_
 refine .nv (X:=Unit) [0,3,10,11,12,13,14] (fun _=>True) (fun _=>[(3,some (.int .u64 (lq a:Int))),(0,some (.int .u64 ((dL a):Int)))]) (fun _=>[F]) ?_ ?_
 ·refine J 3 ?_
  refine .p (.dC (Y.yC (n:=63) rfl rfl (by decide)) (oF ha 63 (by decide))) ?_
  refine JD 3 (fun h12=>?_) fun h12=>?_
  ·refine J 7 ?_
   refine .p (.dC (Y.neg rfl) (AH ha h12).1) ?_
   refine J 2 ?_
   refine .eT () .auto ?_ ?_ ?_
   ·trivial
   ·exact⟨congrArg (fun z=>some (Value.int .u64 z)) (AH ha h12).2,rfl,trivial⟩
   ·exact fun w s=>aM.kept .auto w s
  ·refine J 1 ?_
   refine .eT () .auto ?_ ?_ ?_
   ·trivial
   ·exact⟨congrArg (fun z=>some (Value.int .u64 z)) (AJ ha h12).2,congrArg (fun z=>some (Value.int .u64 z)) (AJ ha h12).1,trivial⟩
   ·exact fun w s=>aM.kept .auto w s
 ·rintro⟨⟩ -
  refine JD 7 (fun h16=>?_) fun h16=>?_
  ·have h16:dL a=0:=by omega
   refine J 7 ?_
   refine .aF rfl rfl fun w s=>⟨(),?_,trivial,ar .auto s⟩
   rw[KR ha h16]
  ·have h16:¬dL a=0:=by omega
   refine J 9 ?_
   refine .df (X:=Nat) [4,17,18,19,20,21,22,23] (fun top=>top) (fun top=>top≤63∧(dL a)<2 ^ (top+1)) (fun top=>[(4,some (.int .i64 (top:Int)))]) (fun _=>[F]) 63 ?_ ?_ ?_ ?_
   ·exact⟨Nat.le_refl _,Nat.lt_of_le_of_lt hml (by decide)⟩
   ·exact⟨rfl,trivial⟩
   ·exact fun w s=>aM.kept .auto w s
   rintro top ⟨ht63,htm⟩
   refine J 5 ?_
   refine .p (.fW underlying3 underlying299 rfl (by omega)) ?_
   refine .p (.dC (Y.yC (n:=(top:Int)) rfl rfl (by omega)) (oE (by omega))) ?_
   refine JD 3 (fun h21=>?_) fun h21=>?_
   ·have htn:=Ew (m:=(dL a)) (t:=top) (by omega) h16
    refine J 9 ?_
    refine .bB (top-1) .auto rfl ?_ ?_ ?_ ?_
    ·show top-1<top;omega
    ·exact⟨by omega,htn.2⟩
    ·exact⟨congrArg (fun z=>some (Value.int .i64 z)) (show(top:Int)-1=((top-1:Nat):Int) by omega),trivial⟩
    ·exact fun w s=>aM.kept .auto w s
   ·have htop:top=(dL a).log2:=Ge h16 htm (by omega)
    refine J 8 ?_
    refine .p (.add rfl rfl (by omega)) ?_
    refine .p (.fW underlying3 underlying38 rfl (by omega)) ?_
    refine JD 10 (fun h28=>?_) fun h28=>?_
    ·have h28:top≤52:=by omega
     refine J 4 ?_
     refine .p (.Bg rfl rfl (by decide)) ?_
     refine .p (.Kl rfl rfl) ?_
     refine J 3 ?_
     refine .p (.fW underlying3 underlying299 rfl (by omega)) ?_
     refine .p (.Bg rfl rfl (by omega)) ?_
     refine .p (.yB rfl rfl) ?_
     refine .p (.dC (Y.Kl rfl rfl) (Iz ha h16 htop h28)) ?_
     exact JR 5 ()
    ·have h28:¬top≤52:=by omega
     obtain⟨ct,hct⟩:∃ ct,top=ct+53:=⟨top - 53,by omega⟩
     have hct1:(top:Int)-52=((ct+1:Nat):Int):=by omega
     have hp1:2 ^ (ct+1)=2 * 2 ^ ct:=by rw[Nat.pow_succ,Nat.mul_comm]
     have hp2:2 ^ ct≤2 ^ 10:=Nat.pow_le_pow_right (by decide) (by omega)
     have hp0:0<2 ^ ct:=Nat.two_pow_pos _
     have hp10:(2:Nat) ^ 10=1024:=by decide
     have hmu:(dL a)<18446744073709551616:=by omega
     have hwh:yA .u64 ((dL a):Int) ((top:Int)-52)=(((dL a) / 2 ^ (ct+1):Nat):Int):=by rw[hct1];exact oE (by omega)
     have hon:mE .u64 1 ((top:Int)-52)=((2 ^ (ct+1):Nat):Int):=by rw[hct1];have:=kn (x:=1) (n:=ct+1) (by omega) (by omega);rw[Nat.one_mul] at this;exact this
     have hon1:((2 ^ (ct+1):Nat):Int)-1=((2 ^ (ct+1)-1:Nat):Int):=by omega
     have hre:pj .u64 ((dL a):Int) ((2 ^ (ct+1)-1:Nat):Int)=(((dL a) % 2 ^ (ct+1):Nat):Int):=km hmu (by omega)
     have hha:mE .u64 1 ((top:Int)-52-1)=((2 ^ ct:Nat):Int):=by rw[show(top:Int)-52-1=((ct:Nat):Int) by omega];have:=kn (x:=1) (n:=ct) (by omega) (by omega);rw[Nat.one_mul] at this;exact this
     have hwb:(dL a) / 2 ^ (ct+1)≤9223372036854775808:=Nat.le_trans (Nat.div_le_self _ _) hml
     have hw0:(0:Int)≤(((dL a) / 2 ^ (ct+1):Nat):Int):=Int.natCast_nonneg _
     have hod:pj .u64 (((dL a) / 2 ^ (ct+1):Nat):Int) 1=(((dL a) / 2 ^ (ct+1) % 2:Nat):Int):=km (k:=1) (by omega) (by decide)
     have hpw:=Gl (t:=top) ht63
     have hkb:=Gm htop h28 ht63
     have hpb:=IB ht63
     refine J 6 ?_
     refine .p (.fW underlying3 underlying299 rfl (by omega)) ?_
     refine J 7 ?_
     refine .p (.dC (Y.yC rfl rfl (by omega)) hwh) ?_
     refine J 7 ?_
     refine .p (.dC (Y.Bg rfl rfl (by omega)) hon) ?_
     refine .p (.dC (Y.HN rfl rfl (by omega)) hon1) ?_
     refine .p (.dC (Y.yB rfl rfl) hre) ?_
     refine J 6 ?_
     refine .p (.HN rfl rfl (by omega)) ?_
     refine .p (.dC (Y.Bg rfl rfl (by omega)) hha) ?_
     refine J 3 ?_
     refine .nv (X:=Unit) [7,54,55,56,57,58,59,60,61,62,63,64,65,66,67,68] (fun _=>True) (fun _=>[(7,some (.int .u64 (jh (dL a):Int)))]) (fun _=>[F]) ?_ ?_
     ·refine J 6 ?_
      apply aP.gv 9 66 57 [57,58,59,60,61,62,63,64,65,66] rfl
      ·intro h57
       refine J 4 ?_
       apply aP.fq 4 65 61 [61,62,63,64,65] rfl
       ·intro h61
        refine J 1 ?_
        refine .g (.dC (Y.yB rfl rfl) hod) ?_
        refine J 3 ?_
        refine .CO .auto rfl (by first | exact fun _ h=>h | exact aM.kept .auto)
       ·intro h61
        refine J 5 ?_
        refine .CO .auto rfl (by first | exact fun _ h=>h | exact aM.kept .auto)
       refine J 2 ?_
       refine .CO .auto rfl (by first | exact fun _ h=>h | exact aM.kept .auto)
      ·intro h57
       refine J 10 ?_
       refine .CO .auto rfl (by first | exact fun _ h=>h | exact aM.kept .auto)
      refine JD 2 (fun h66=>?_) fun h66=>?_
      ·simp only[Bool.and_eq_true,Bool.or_eq_true,decide_eq_true_eq] at h66
       refine J 2 ?_
       refine .p (.CV rfl rfl (by omega)) ?_
       refine J 2 ?_
       refine .eT () .auto ?_ ?_ ?_
       ·trivial
       ·exact⟨congrArg (fun z=>some (Value.int .u64 z)) (Gj htop h28 (by omega)),trivial⟩
       ·exact fun w s=>aM.kept .auto w s
      ·simp only[Bool.and_eq_false_iff,Bool.or_eq_false_iff,decide_eq_false_iff_not] at h66
       refine J 1 ?_
       refine .eT () .auto ?_ ?_ ?_
       ·trivial
       ·exact⟨congrArg (fun z=>some (Value.int .u64 z)) (Gk htop h28 (by omega)),trivial⟩
       ·exact fun w s=>aM.kept .auto w s
     ·rintro⟨⟩ -
      refine J 4 ?_
      refine .p (.dC (Y.Bg rfl rfl (by decide)) hpw) ?_
      refine J 1 ?_
      refine .p (.CV rfl rfl (by omega)) ?_
      refine .p (.dC (Y.HN rfl rfl (by omega)) Ex) ?_
      refine .p (.dC (Y.Kl rfl rfl) (Gi ha h16 htop h28)) ?_
      exact JR 4 ()
end Go.SLYtefdijgllbkmfaaGreat
namespace Go.SLYtefdijgllbkmfaaGreat
open Go Go.RowKit Go.Proofs Go.Proofs.Tryz
attribute [local irreducible] ax aP bA cp bF Y
theorem B6{W:World}{op a b:Int}(ha:0≤a∧a<18446744073709551616)(hb:0≤b∧b<18446744073709551616):Fn Tryz.prog W 128 [.int .i64 op,.int .u64 a,.int .u64 b] [] Bool (fun y=>.tuple #[.int .u64 (aI op a b),.bool y]) (fun _=>True) (fun _=>[]):=by
 refine Fn.intro (N:=68) func128 rfl ntmps128 rfl fun F=>?_
 show ax _ _ _ _ _ _ [F]
 refine JD 24 (fun h10=>?_) fun h10=>?_
 ·refine J 10 ?_
  refine .eE rfl rfl rfl fun w s=>⟨true,?_,trivial,ar .auto s⟩
  rw[show aI op a b=a from by unfold aI;rw[if_pos h10]]
 ·refine JD 6 (fun h13=>?_) fun h13=>?_
  ·refine J 4 ?_
   refine .p (.yj rfl rfl) ?_
   refine J 7 ?_
   refine .eE rfl rfl rfl fun w s=>⟨true,?_,trivial,ar .auto s⟩
   rw[show aI op a b=gL (a+b) from by unfold aI;rw[if_neg h10,if_pos h13]]
   rfl
  ·refine JD 6 (fun h18=>?_) fun h18=>?_
   ·refine J 4 ?_
    refine .p (.FD rfl rfl) ?_
    refine J 7 ?_
    refine .eE rfl rfl rfl fun w s=>⟨true,?_,trivial,ar .auto s⟩
    rw[show aI op a b=gL (a-b) from by unfold aI;rw[if_neg h10,if_neg h13,if_pos h18]]
    rfl
   ·refine JD 6 (fun h23=>?_) fun h23=>?_
    ·refine J 4 ?_
     refine .p (.CU rfl rfl) ?_
     refine J 7 ?_
     refine .eE rfl rfl rfl fun w s=>⟨true,?_,trivial,ar .auto s⟩
     rw[show aI op a b=gL (a * b) from by unfold aI;rw[if_neg h10,if_neg h13,if_neg h18,if_pos h23]]
     rfl
    ·refine JD 6 (fun h28=>?_) fun h28=>?_
     ·refine JD 14 (fun h67=>?_) fun h67=>?_
      ·refine J 8 ?_
       refine .eE rfl rfl rfl fun w s=>⟨true,?_,trivial,ar .auto s⟩
       rw[show aI op a b=rr (decide (a<b)) from by unfold aI;rw[if_neg h10,if_neg h13,if_neg h18,if_neg h23,if_pos h28]]
       rw[decide_eq_true h67];rfl
      ·refine J 9 ?_
       refine .eE rfl rfl rfl fun w s=>⟨true,?_,trivial,ar .auto s⟩
       rw[show aI op a b=rr (decide (a<b)) from by unfold aI;rw[if_neg h10,if_neg h13,if_neg h18,if_neg h23,if_pos h28]]
       rw[decide_eq_false h67];rfl
     ·refine JD 7 (fun h33=>?_) fun h33=>?_
      ·refine J 2 ?_
       first | refine ax.dG rfl (fun _=>?_) (fun hc=>absurd h33 hc) | refine ax.cond rfl (fun _=>?_) (fun hc=>by rw[h33] at hc;cases hc)
       refine J 4 ?_
       refine .p (.add rfl rfl (by omega)) ?_
       refine J 2 ?_
       refine .c call179 rfl (qP (op:=op-7+1) (by omega) ha hb) fun _ _=>?_
       refine J 7 ?_
       refine .eE rfl rfl rfl fun w s=>⟨true,?_,trivial,ar .auto s⟩
       rw[show aI op a b=Br a b from by unfold aI;rw[if_neg h10,if_neg h13,if_neg h18,if_neg h23,if_neg h28,if_pos h33]]
       subst h33;rfl
      ·refine JD 6 (fun h35=>?_) fun h35=>?_
       ·refine J 2 ?_
        first | refine ax.dG rfl (fun _=>?_) (fun hc=>absurd h35 hc) | refine ax.cond rfl (fun _=>?_) (fun hc=>by rw[h35] at hc;cases hc)
        refine J 4 ?_
        refine .p (.add rfl rfl (by omega)) ?_
        refine J 2 ?_
        refine .c call179 rfl (qP (op:=op-7+1) (by omega) ha hb) fun _ _=>?_
        refine J 7 ?_
        refine .eE rfl rfl rfl fun w s=>⟨true,?_,trivial,ar .auto s⟩
        rw[show aI op a b=Bt a b from by unfold aI;rw[if_neg h10,if_neg h13,if_neg h18,if_neg h23,if_neg h28,if_neg h33,if_pos h35]]
        subst h35;rfl
       ·refine JD 6 (fun h36=>?_) fun h36=>?_
        ·refine J 2 ?_
         first | refine ax.dG rfl (fun _=>?_) (fun hc=>absurd h36 hc) | refine ax.cond rfl (fun _=>?_) (fun hc=>by rw[h36] at hc;cases hc)
         refine J 4 ?_
         refine .p (.add rfl rfl (by omega)) ?_
         refine J 2 ?_
         refine .c call179 rfl (qP (op:=op-7+1) (by omega) ha hb) fun _ _=>?_
         refine J 7 ?_
         refine .eE rfl rfl rfl fun w s=>⟨true,?_,trivial,ar .auto s⟩
         rw[show aI op a b=Bu a b from by unfold aI;rw[if_neg h10,if_neg h13,if_neg h18,if_neg h23,if_neg h28,if_neg h33,if_neg h35,if_pos h36]]
         subst h36;rfl
        ·refine JD 5 (fun h37=>?_) fun h37=>?_
         ·refine J 4 ?_
          refine .p (.add rfl rfl (by omega)) ?_
          refine J 2 ?_
          refine .c call179 rfl (qP (op:=op-7+1) (by omega) ha hb) fun _ _=>?_
          refine J 7 ?_
          refine .eE rfl rfl rfl fun w s=>⟨true,?_,trivial,ar .auto s⟩
          rw[show aI op a b=Bv a b from by unfold aI;rw[if_neg h10,if_neg h13,if_neg h18,if_neg h23,if_neg h28,if_neg h33,if_neg h35,if_neg h36,if_pos h37]]
          subst h37;rfl
         ·refine JD 6 (fun h44=>?_) fun h44=>?_
          ·refine J 4 ?_
           refine .c call180 rfl (Gq ha hb) fun _ _=>?_
           refine J 7 ?_
           refine .eE rfl rfl rfl fun w s=>⟨true,?_,trivial,ar .auto s⟩
           rw[show aI op a b=nO a b from by unfold aI;rw[if_neg h10,if_neg h13,if_neg h18,if_neg h23,if_neg h28,if_neg h33,if_neg h35,if_neg h36,if_neg h37,if_pos h44]]
          ·refine JD 6 (fun h49=>?_) fun h49=>?_
           ·refine J 4 ?_
            refine .c call181 rfl (Gr ha hb) fun _ _=>?_
            refine J 7 ?_
            refine .eE rfl rfl rfl fun w s=>⟨true,?_,trivial,ar .auto s⟩
            rw[show aI op a b=nP a b from by unfold aI;rw[if_neg h10,if_neg h13,if_neg h18,if_neg h23,if_neg h28,if_neg h33,if_neg h35,if_neg h36,if_neg h37,if_neg h44,if_pos h49]]
           ·refine JD 6 (fun h54=>?_) fun h54=>?_
            ·refine J 3 ?_
             refine .c call182 rfl (EA ha hb) fun _ _=>?_
             refine JD 10 (fun h67=>?_) fun h67=>?_
             ·refine J 8 ?_
              refine .eE rfl rfl rfl fun w s=>⟨true,?_,trivial,ar .auto s⟩
              rw[show aI op a b=rr (Dy a b) from by unfold aI;rw[if_neg h10,if_neg h13,if_neg h18,if_neg h23,if_neg h28,if_neg h33,if_neg h35,if_neg h36,if_neg h37,if_neg h44,if_neg h49,if_pos h54]]
              rw[h67];rfl
             ·refine J 9 ?_
              refine .eE rfl rfl rfl fun w s=>⟨true,?_,trivial,ar .auto s⟩
              rw[show aI op a b=rr (Dy a b) from by unfold aI;rw[if_neg h10,if_neg h13,if_neg h18,if_neg h23,if_neg h28,if_neg h33,if_neg h35,if_neg h36,if_neg h37,if_neg h44,if_neg h49,if_pos h54]]
              rw[h67];rfl
            ·refine JD 6 (fun h59=>?_) fun h59=>?_
             ·refine J 3 ?_
              refine .c call183 rfl (B5 ha) fun _ _=>?_
              refine J 7 ?_
              refine .eE rfl rfl rfl fun w s=>⟨true,?_,trivial,ar .auto s⟩
              rw[show aI op a b=eZ a from by unfold aI;rw[if_neg h10,if_neg h13,if_neg h18,if_neg h23,if_neg h28,if_neg h33,if_neg h35,if_neg h36,if_neg h37,if_neg h44,if_neg h49,if_neg h54,if_pos h59]]
             ·refine JD 6 (fun h63=>?_) fun h63=>?_
              ·refine J 3 ?_
               refine .c call184 rfl (xt ha) fun _ _=>?_
               refine J 7 ?_
               refine .eE rfl rfl rfl fun w s=>⟨true,?_,trivial,ar .auto s⟩
               rw[show aI op a b=fc a from by unfold aI;rw[if_neg h10,if_neg h13,if_neg h18,if_neg h23,if_neg h28,if_neg h33,if_neg h35,if_neg h36,if_neg h37,if_neg h44,if_neg h49,if_neg h54,if_neg h59,if_pos h63]]
              ·refine J 9 ?_
               refine .eE rfl rfl rfl fun w s=>⟨false,?_,trivial,ar .auto s⟩
               rw[show aI op a b=0 from by unfold aI;rw[if_neg h10,if_neg h13,if_neg h18,if_neg h23,if_neg h28,if_neg h33,if_neg h35,if_neg h36,if_neg h37,if_neg h44,if_neg h49,if_neg h54,if_neg h59,if_neg h63]]
end Go.SLYtefdijgllbkmfaaGreat
namespace Go.SLYtefdijgllbkmfaaGreat
open Go Go.RowKit
end Go.SLYtefdijgllbkmfaaGreat
namespace Go.SLYtefdijgllbkmfaaGreat
open Go Go.RowKit
end Go.SLYtefdijgllbkmfaaGreat
namespace Go.SLYtefdijgllbkmfaaGreat
open Go Go.RowKit
/-! the laws' own fact -/
end Go.SLYtefdijgllbkmfaaGreat
namespace Go.SLYtefdijgllbkmfaaGreat
open Go Go.RowKit
theorem Y.KS{P:Program}{W:World}{N:Nat}{L:List (Nat×Option Value)}{H:List aa}{T:TypeId}{op:Op}{m n:Bool}(h:Y P W N op T L H (.bool m))(e:m=n):Y P W N op T L H (.bool n):=e ▸ h
theorem gu.at{W:World}{H:List aa}{A:aa}{v:ee}(h:gu W [A] v)(ha:At H A):gu W H v:=⟨h.fs.at ha,fun x hx=>(h.ins x hx).at ha,h.aW.at ha,h.aL.at ha⟩
/-! the laws' own fact -/
end Go.SLYtefdijgllbkmfaaGreat
namespace Go.SLYtefdijgllbkmfaaGreat
open Go Go.RowKit
section
variable{P:Program}{W:World}{N:Nat}{L:List (Nat×Option Value)}{H:List aa}{T:TypeId}
theorem Y.eqStr{xT yT:TypeId}{x y:Operand}{a b:ByteArray}(hx:ev L x=some (.string a))(hy:ev L y=some (.string b)):Y P W N (.binOp .eql xT x y yT) T L H (.bool (a.toList == b.toList)) :=
 Y.bin hx hy fun w=>by
  simp[eqGuard,binOp,Op.stringOp]
theorem Y.EB{x:Operand}{t:TypeId}{a:ByteArray}(hu:P.underlying t=some .string)(hx:ev L x=some (.string a)):Y P W N (.call ⟨.builtin .len, #[x], #[t]⟩) T L H (.int .i64 a.size) :=
 Y.builtin (vs:=[.string a]) (by simp[evs,hx]) fun w cs=>by simp[Go.builtin,Builtin.len_,run_underlying hu,goInt]
theorem Y.Hw{x y:Operand}{t:Nat}{a:ByteArray}{kd:IntKind}{j:Int}{c:UInt8}(i:Nat)(hu:P.underlying t=some .string)(hx:ev L x=some (.string a))(hy:ev L y=some (.int kd j))(hj:j=(i:Int))(hv:a[i]?=some c):Y P W N (.index t x y) T L H (.int .u8 c.toNat):=fun dst pos after guard w0 w he hs=>by
 subst hj
 simp only[execOp,he.eval hx,he.eval hy]
 refine bI ?_
 simp[Instr.index,asIntOf,run_underlying hu,hv]
end
theorem tJ(bs:ByteArray):∀ (n i:Nat) (r:List UInt8),n=bs.size-i→r.length≤(ByteArray.toList.loop bs i r).length
 | 0,i,r,hn=>by
  unfold ByteArray.toList.loop
  rw[if_neg (by omega)];simp
 | n+1,i,r,hn=>by
  unfold ByteArray.toList.loop
  rw[if_pos (by omega)]
  have:=tJ bs n (i+1) (bs.get! i::r) (by omega)
  simp only[List.length_cons] at this
  omega
theorem AL{a:ByteArray}(h:a.size=0):a.toList=[]:=by
 unfold ByteArray.toList ByteArray.toList.loop
 rw[if_neg (by omega)];rfl
theorem EC(a:ByteArray):(a.toList == (⟨#[]⟩:ByteArray).toList)=decide (a.data.toList=[]):=by
 rw[AL (a:=⟨#[]⟩) rfl]
 have hs:a.size=a.data.toList.length:=by cases a;rfl
 by_cases h:a.size=0
 ·rw[AL h,decide_eq_true (List.length_eq_zero_iff.1 (by omega))];rfl
 ·have h1:1≤a.toList.length:=by
   unfold ByteArray.toList ByteArray.toList.loop
   rw[if_pos (by omega)]
   exact tJ a _ _ [a.get! 0] rfl
  rw[decide_eq_false (fun e=>h (by rw[hs,e];rfl))]
  cases e:a.toList with
  | nil=>rw[e] at h1;simp at h1
  | cons x r=>rfl
/-! what an instruction has -/
def vP:List ByteArray:=[⟨#[]⟩,⟨#[65,120]⟩,⟨#[65,66,110]⟩,⟨#[65,66,67,110]⟩,⟨#[65,66,67,110]⟩,⟨#[65,66,67,110]⟩,⟨#[65,66,67,110]⟩,⟨#[65,66,67,110]⟩,⟨#[65,66,67,110]⟩,⟨#[65,66,67,110]⟩,⟨#[65,66,67,110]⟩,⟨#[65,66,67,110]⟩,⟨#[65,66,67,110]⟩,⟨#[65,66,67,110]⟩,⟨#[65,66,110]⟩,⟨#[65,66,110]⟩,⟨#[99]⟩,⟨#[65,99]⟩,⟨#[65,66,110]⟩,⟨#[65,66,110]⟩,⟨#[65,66,102]⟩,⟨#[65,66,110]⟩,⟨#[65,110]⟩,⟨#[65,110]⟩,⟨#[110]⟩,⟨#[109]⟩,⟨#[109]⟩,⟨#[77,107]⟩,⟨#[107]⟩,⟨#[107]⟩,⟨#[115]⟩,⟨#[115]⟩,⟨#[65,110]⟩,⟨#[65,66,110]⟩,⟨#[65,66,110]⟩,⟨#[65,112]⟩,⟨#[65,112]⟩,⟨#[65,110]⟩,⟨#[65,110]⟩]
def im(op:Int):ByteArray:=if op<0∨39≤op then ⟨#[]⟩ else vP.getD op.toNat ⟨#[]⟩
def AM(s:ByteArray)(c:Int):Bool:=s.data.toList.any fun b=>decide ((b.toNat:Int)=c)
def gH(n:Int)(is:Bool)(below:Int):Bool:=if is=false then decide (n=0) else decide (0≤n) && decide (n<below)
def oI(s:ByteArray):Int:=((s.data.toList.getLast?).map fun b=>(b.toNat:Int)).getD 0
def lZ(p:fE)(c:Int):Int:=if c=99 then 257 else if c=102 then p.funcs.length else if c=109 then p.aA else if c=107 then p.conds else if c=115 then p.aW.length else if c=112 then p.aL.length else 0
def mL(p:fE)(i:Ins)(c:Int):Bool:=if c=120 then true else if c=110 then decide (i.n=0) else decide (0<lZ p c) && decide (i.n<lZ p c)
def jN(p:fE)(i:Ins):Bool:=if AM (im i.op) 77=true then gH i.c true p.aA else gH i.c (AM (im i.op) 67) 8
def nh(p:fE)(i:Ins):Bool:=if (im i.op).data.toList=[] then false else gH i.a (AM (im i.op) 65) 8 && gH i.b (AM (im i.op) 66) 8 && jN p i && mL p i (oI (im i.op))
theorem qQ{n:Nat}(h:n<39):im (n:Int)=vP.getD n ⟨#[]⟩:=by unfold im;rw[if_neg (by omega),Int.toNat_natCast]
theorem rX{op:Int}(h:op<0∨39≤op):im op=⟨#[]⟩:=if_pos h
theorem pM(n:Int)(b:Bool):gH n b 8=lD n b:=by
 unfold gH lD
 cases b
 ·simp
 ·simp only[Bool.true_and,Bool.true_eq_false,if_false]
  by_cases h0:n=0
  ·subst h0;rfl
  ·rw[decide_eq_false h0,Bool.false_or]
   by_cases h1:0<n
   ·rw[decide_eq_true h1,decide_eq_true (show 0≤n by omega)]
   ·rw[decide_eq_false h1,decide_eq_false (show ¬ 0≤n by omega)]
def Hy(n:Nat):Bool :=
 let s:=vP.getD n ⟨#[]⟩
 decide ((s.data.toList=[])=(cls (n:Int)=0)) &&
 (decide (cls (n:Int)=0) || (
  let f:=aQ ⟨[],0,0,0,[],[],0,0⟩ (n:Int)
  (AM s 65 == decide (0<f.aq)) && (AM s 66 == decide (1<f.aq)) && (AM s 77 == f.mutex) && (f.mutex || (AM s 67 == decide (2<f.aq)))))
theorem zg:∀ n:Nat,n<39→Hy n=true:=by decide +kernel
theorem zh(p:fE)(op:Int):(aQ p op).aq=(aQ ⟨[],0,0,0,[],[],0,0⟩ op).aq∧(aQ p op).mutex=(aQ ⟨[],0,0,0,[],[],0,0⟩ op).mutex:=by
 unfold aQ
 simp only[apply_ite Form.aq,apply_ite Form.mutex]
 exact⟨trivial,trivial⟩
theorem zi(p:fE)(i:Ins)(hm:0≤p.aA)(hk:0≤p.conds){n:Nat}(hn:n<39)(ho:i.op=(n:Int))(hc:¬cls i.op=0):mL p i (oI (im i.op))=(aQ p i.op).below i.n:=by
 have h:n=1∨n=2∨n=3∨n=4∨n=5∨n=6∨n=7∨n=8∨n=9∨n=10∨n=11∨n=12∨n=13∨n=14∨n=15∨n=16∨n=17∨n=18∨n=19∨n=20∨n=21∨n=22∨n=23∨n=24∨n=25∨n=26∨n=27∨n=28∨n=29∨n=30∨n=31∨n=32∨n=33∨n=34∨n=35∨n=36∨n=37∨n=38:=by
  have:n≠0:=fun e=>hc (by rw[ho,e];decide)
  omega
 rw[ho,qQ hn]
 rcases h with rfl | rfl | rfl | rfl | rfl | rfl | rfl | rfl | rfl | rfl | rfl | rfl | rfl | rfl | rfl | rfl | rfl | rfl | rfl | rfl | rfl | rfl | rfl | rfl | rfl | rfl | rfl | rfl | rfl | rfl | rfl | rfl | rfl | rfl | rfl | rfl | rfl | rfl <;> simp[mL,lZ,vP,oI,aQ,Form.below] <;> (intro h;omega)
theorem fA(p:fE)(i:Ins)(hm:0≤p.aA)(hk:0≤p.conds):nh p i=ep p i:=by
 by_cases ho:i.op<0∨39≤i.op
 ·have hc:cls i.op=0:=by unfold cls;rw[if_neg (by omega),if_neg (by omega),if_neg (by omega)]
  unfold nh ep
  rw[rX ho,if_pos hc];rfl
 ·obtain⟨n,hn⟩:∃ n:Nat,i.op=(n:Int):=⟨i.op.toNat,by omega⟩
  have hn39:n<39:=by omega
  have hr:=zg n hn39
  unfold Hy at hr
  simp only[Bool.and_eq_true,decide_eq_true_eq,Bool.or_eq_true,beq_iff_eq] at hr
  have hs:=qQ hn39
  rw[← hn] at hs hr
  by_cases hc:cls i.op=0
  ·unfold nh ep
   rw[if_pos hc,if_pos (by rw[hs];exact hr.1.mpr hc)]
  ·obtain⟨⟨⟨h1,h2⟩,h3⟩,h4⟩:=hr.2.resolve_left hc
   have hf:=zh p i.op
   rw[← hs] at h1 h2 h3 h4
   unfold nh ep
   rw[if_neg hc,if_neg (fun e=>hc (hr.1.mp (by rw[← hs];exact e)))]
   show _=(lD i.a (decide (0<(aQ p i.op).aq)) && lD i.b (decide (1<(aQ p i.op).aq)) && (if (aQ p i.op).mutex=true then decide (0≤i.c) && decide (i.c<p.aA) else lD i.c (decide (2<(aQ p i.op).aq))) && (aQ p i.op).below i.n)
   rw[pM,pM,zi p i hm hk hn39 hn hc,h1,h2,hf.1]
   congr 2
   unfold jN
   rw[h3,hf.2]
   by_cases hmx:(aQ ⟨[],0,0,0,[],[],0,0⟩ i.op).mutex=true
   ·rw[if_pos hmx,if_pos hmx];unfold gH;rw[if_neg (by decide)]
   ·rw[if_neg hmx,if_neg hmx,pM,h4.resolve_left hmx]
end Go.SLYtefdijgllbkmfaaGreat
namespace Go.SLYtefdijgllbkmfaaGreat
open Go Go.RowKit
/-! what the libraries' steps do to the modes, to the events, to the space -/
/-! what giving and taking do -/
end Go.SLYtefdijgllbkmfaaGreat
namespace Go.SLYtefdijgllbkmfaaGreat
open Go Go.RowKit
/-! counting -/
def IC(l:List Int):Nat:=(l.map Int.toNat).sum
structure Room(want:List Int)(k:K8):Prop where
 len:want.length=k.libs.length
 sum:IC want≤k.owner.length
 gF:∀ (i:Nat) (w:Int),want[i]?=some w→k.owner.count (i:Int)≤w.toNat
/-! what is taken -/
end Go.SLYtefdijgllbkmfaaGreat
namespace Go.SLYtefdijgllbkmfaaGreat
open Go Go.RowKit
/-! what is dealt out is there -/
end Go.SLYtefdijgllbkmfaaGreat
namespace Go.SLYtefdijgllbkmfaaGreat
open Go Go.RowKit
/-! what New makes -/
end Go.SLYtefdijgllbkmfaaGreat
namespace Go.SLYtefdijgllbkmfaaGreat
open Go Go.RowKit
def Deal.pk(d:Deal)(i:Nat)(b:Int):Int :=
 if d.iw.getD i 0≤d.out.getD i 0 then b
 else if b<0∨d.prio.getD b.toNat 0<d.prio.getD i 0∨(d.prio.getD i 0=d.prio.getD b.toNat 0∧d.out.getD i 0<d.out.getD b.toNat 0) then (i:Int) else b
def Deal.bst(d:Deal)(first:Nat):Nat→Nat→Int→Int
 | 0,_,b=>b
 | m+1,k,b=>Deal.bst d first m (k+1) (d.pk ((first+k) % d.iw.length) b)
def Deal.next(d:Deal)(first:Nat):Int:=d.bst first d.iw.length 0 (-1)
def Deal.Wt(d:Deal)(i:Nat):Prop:=d.out.getD i 0<d.iw.getD i 0
structure Rn(dem pri:List Int)(f:Nat)(p:Int)(k:Nat)(r:Int)(d:Deal):Prop where
 de:d.iw=dem
 pr:d.prio=pri
 ol:d.out.length=dem.length
 hi:0<d.left→ ∀ i,d.Wt i→pri.getD i 0≤p
 eq:0<d.left→ ∀ j,j<dem.length→d.Wt ((f+j) % dem.length)→pri.getD ((f+j) % dem.length) 0=p→d.out.getD ((f+j) % dem.length) 0=if j<k then r+1 else r
 lo:∀ i,pri.getD i 0<p→d.out.getD i 0=0
end Go.SLYtefdijgllbkmfaaGreat
namespace Go.SLYtefdijgllbkmfaaGreat
open Go Go.RowKit
theorem tK{x n:Int}(h0:0≤x)(h1:x≤n):within x n=true:=by unfold within;rw[decide_eq_true h0,decide_eq_true h1];rfl
theorem zj{x n:Int}(h:¬(0≤x∧x≤n)):within x n=false:=by
 refine Bool.eq_false_iff.2 fun e=>h ?_
 unfold within at e
 simpa using e
structure Lh(d:Deal)(f k:Nat)(b:Int):Prop where
 kl:k≤d.iw.length
 n:d.bst f (d.iw.length-k) k b=d.next f
 b:b = -1∨ ∃ i:Nat,b=(i:Int)∧i<d.iw.length∧d.Wt i
end Go.SLYtefdijgllbkmfaaGreat
namespace Go.SLYtefdijgllbkmfaaGreat
open Go Go.RowKit
def JV(s:ByteArray):List Value:=[.string s]
theorem xu{s:ByteArray}{k:Nat}(h:k<s.size):∃ x:UInt8,s[k]?=some x∧s.data.toList[k]?=some x:=by
 have h2:k<s.data.toList.length:=by cases s;exact h
 refine⟨s.data.toList[k],?_,List.getElem?_eq_getElem h2⟩
 have:s[k]?=some (s[k]'h):=getElem?_pos s k h
 rw[this];rfl
theorem rY{s:ByteArray}{c:Int}{k:Nat}{x:UInt8}(hx:s.data.toList[k]?=some x)(h:((s.data.toList.take k).any fun b=>decide ((b.toNat:Int)=c))=false)(hn:¬(x.toNat:Int)=c):((s.data.toList.take (k+1)).any fun b=>decide ((b.toNat:Int)=c))=false:=by
 rw[dc hx,List.any_append,h];simp[hn]
theorem Gs{s:ByteArray}{c:Int}{k:Nat}{x:UInt8}(hx:s.data.toList[k]?=some x)(h:(x.toNat:Int)=c):AM s c=true:=by
 unfold AM
 exact List.any_eq_true.2 ⟨x,List.mem_of_getElem? hx,decide_eq_true h⟩
theorem ED{s:ByteArray}{c:Int}{k:Nat}(hk:k=s.size)(h:((s.data.toList.take k).any fun b=>decide ((b.toNat:Int)=c))=false):AM s c=false:=by
 rw[List.take_of_length_le (by cases s;exact Nat.le_of_eq hk.symm)] at h
 exact h
theorem EE{s:ByteArray}(h:¬s.data.toList=[]):1≤s.size∧ ∃ c:UInt8,s[s.size-1]?=some c∧oI s=(c.toNat:Int):=by
 have hs:s.size=s.data.toList.length:=by cases s;rfl
 have h1:1≤s.size:=by
  rw[hs]
  exact List.length_pos_iff.2 h
 obtain⟨c,h2,h3⟩:=xu (s:=s) (k:=s.size - 1) (by omega)
 refine⟨h1,c,h2,?_⟩
 unfold oI
 rw[List.getLast?_eq_getElem?, ← hs,h3];rfl
theorem ko(op:Int):(im op).size≤4:=by
 by_cases h:op<0∨39≤op
 ·rw[rX h];decide
 ·obtain⟨n,rfl⟩:∃ n:Nat,op=(n:Int):=⟨op.toNat,by omega⟩
  rw[qQ (by omega)]
  have:∀ n:Nat,n<39→(vP.getD n ⟨#[]⟩).size≤4:=by decide +kernel
  exact this n (by omega)
theorem EF{n:Nat}{x:ByteArray}(h:vP[n]?=some x):im (n:Int)=x:=by
 have hn:=(List.getElem?_eq_some_iff.1 h).1
 rw[qQ hn,List.getD_eq_getElem?_getD,h];rfl
theorem Gt{p:fE}{i:Ins}{c:Int}(h:c=120):mL p i c=true:=if_pos h
theorem Gu{p:fE}{i:Ins}{c:Int}(h1:¬c=120)(h:c=110):mL p i c=decide (i.n=0):=by unfold mL;rw[if_neg h1,if_pos h]
theorem kU{p:fE}{i:Ins}{c m:Int}(h1:¬c=120)(h2:¬c=110)(h:lZ p c=m):mL p i c=(decide (0<m) && decide (i.n<m)):=by unfold mL;rw[if_neg h1,if_neg h2,h]
theorem kV{p:fE}{i:Ins}{x y z w:Bool}(h0:¬(im i.op).data.toList=[])(hx:gH i.a (AM (im i.op) 65) 8=x)(hy:gH i.b (AM (im i.op) 66) 8=y)(hz:jN p i=z)(hw:mL p i (oI (im i.op))=w):nh p i=(x && y && z && w):=by
 unfold nh;rw[if_neg h0,hx,hy,hz,hw]
theorem B7{p:fE}(h:ei p=true):(0≤p.aA∧p.aA≤4)∧(0≤p.conds∧p.conds≤4)∧p.funcs.length≤8∧p.aW.length≤4∧p.aL.length≤4:=by
 unfold ei at h
 simp only[Bool.and_eq_true,decide_eq_true_eq,within] at h
 obtain⟨⟨⟨⟨⟨⟨⟨⟨⟨⟨⟨h1,h2⟩,h3⟩,h4⟩,h5⟩,h6⟩,h7⟩,h8⟩,h9⟩, -⟩, -⟩, -⟩:=h
 exact⟨h4,h5,h2,h8,h9⟩
theorem ji{v:ee}:ei v.p=true↔((0<v.fs.length∧v.fs.length≤8)∧(0≤v.words∧v.words≤64)∧(0≤v.aA∧v.aA≤4)∧(0≤v.conds∧v.conds≤4)∧(0≤v.blocks∧v.blocks≤64)∧(0≤v.prio∧v.prio≤7)∧v.aW.length≤4∧v.aL.length≤4)∧(v.fs.all fun f=>decide (f.2.length≤256))=true∧(v.aW.all fun n=>within n 1048576)=true∧(v.aL.all fun n=>decide (0<n) && within n 8)=true:=by
 rw[← wJ]
 unfold mT mS mR uP within
 simp only[Bool.and_eq_true,decide_eq_true_eq,List.take_length,List.all_eq_true]
 constructor
 ·rintro⟨⟨⟨⟨⟨⟨⟨⟨⟨⟨⟨h1,h2⟩,h3⟩,h4⟩,h5⟩,h6⟩,h7⟩,h8⟩,h9⟩,a1⟩,a2⟩,a3⟩
  exact⟨⟨⟨by omega,by omega⟩,h3,h4,h5,h6,h7,by omega,by omega⟩,fun x hx=>by have:=a1 x hx;omega,a2,a3⟩
 ·rintro⟨⟨⟨h1,h2⟩,h3,h4,h5,h6,h7,h8,h9⟩,a1,a2,a3⟩
  exact⟨⟨⟨⟨⟨⟨⟨⟨⟨⟨⟨by omega,by omega⟩,h3⟩,h4⟩,h5⟩,h6⟩,h7⟩,by omega⟩,by omega⟩,fun x hx=>by have:=a1 x hx;omega⟩,a2⟩,a3⟩
theorem mr{v:ee}(h:¬ei v.p=true):ew v.p=9:=by unfold ew;rw[if_neg h]
end Go.SLYtefdijgllbkmfaaGreat
namespace Go.SLYtefdijgllbkmfaaGreat
open Go Go.RowKit
def dP{α:Type}(f:Nat→α)(n:Nat)(x:α):Nat→α:=fun m=>if m=n then x else f m
structure RT where
 used:Bool
 handle:Int
 why:Int
 fn:Int
 pc:Int
 aq:Nat→Int
 value:Int
 oX:Bool
 au:Int
 op:Int
 into:Int
def Gv:RT:=⟨false,0,0,0,0,fun _=>0,0,false,0,0,0⟩
structure gh where
 owner:Int
 wait:List Int
structure RSp where
 taken:Nat→Int
 thr:Nat→RT
 mem:List Int
 aG:List gh
 bm:List (List cV)
 cf:List Int
 sw:List (List Int)
 js:List Tub
 blk:List Int
 ask:List pe
 now:Int
 til:Nat→Int
 av:List Rec
def RT.put(t:RT)(a v:Int):RT:={t with aq:=dP t.aq a.toNat v }
def RT.eR(t:RT)(a:Int):Int:=t.aq a.toNat
def RSp.t(s:RSp)(n:Nat):RT:=s.thr n
def RSp.aj(s:RSp)(n:Nat)(t:RT):RSp:={s with thr:=dP s.thr n t }
def rFree?(thr:Nat→RT):Nat→Nat→Option Nat
 | 0,_=>none
 | f+1,n=>if (thr n).used=true then rFree? thr f (n+1) else some n
def EG(h f arg:Int):RT:={Gv with used:=true,handle:=h,fn:=f,aq:=dP (fun _=>0) 0 arg }
def kW(tk:Int)(n:Nat):Int:=gL (gL (gL (tk * 65536)+n)+1)
def RSp.begun(s:RSp)(n:Nat)(f arg:Int):RSp:={s with taken:=dP s.taken n (gL (s.taken n+1)),thr:=dP s.thr n (EG (kW (gL (s.taken n+1)) n) f arg) }
def RSp.begin(s:RSp)(f arg:Int):Int×RSp :=
 match rFree? s.thr 16 0 with
 | none=>(-1,s)
 | some n=>((n:Int),s.begun n f arg)
def RSp.runs(s:RSp)(n:Int):Bool:=decide (0≤n) && decide (n<16) && (s.t n.toNat).used && decide ((s.t n.toNat).why=0)
def eX(p:fE)(t:RT):Option Ins:=(p.funcs.getD t.fn.toNat [])[t.pc.toNat]?
/-! an instruction on its way -/
structure RA where
 s:RSp
 n:Nat
 i:Ins
 e:fF
 late:List Rec
def RA.t(a:RA):RT:=a.s.t a.n
def RA.aj(a:RA)(t:RT):RA:={a with s:=a.s.aj a.n t }
def RA.say(a:RA)(x y e:Int)(fin:Bool):RA:={a with s:={a.s with av:=a.s.av++[⟨a.t.handle,a.i.op,x,y,e,fin⟩] } }
def RA.done(a:RA)(x y e:Int):RA:=(a.say x y e true).aj (a.t.put 7 e)
def RA.stop(a:RA)(why into x y:Int):RA:={(a.say x y 0 false).aj {a.t with why:=why,op:=a.i.op,into:=into } with e:={a.e with aU:=true } }
def RT.cE(t:RT)(y:Int):RT:={(if t.into=0 then t else t.put (t.into-1) y).put 7 0 with why:=0,into:=0 }
def RT.dE(t:RT)(y:Int):Rec:=⟨t.handle,t.op,0,if t.into=0 then 0 else y,0,true⟩
def RSp.cZ(s:RSp)(n:Nat)(y:Int):RSp:=s.aj n ((s.t n).cE y)
def RA.free(a:RA)(n:Nat)(y:Int):RA:={a with s:=a.s.cZ n y,late:=a.late++[(a.s.t n).dE y],e:={a.e with aC:=a.e.aC++[(n:Int)] } }
def RA.rZ(a:RA):RA:=a.aj {a.t with used:=false }
def RA.ending(a:RA):RA:={a with e:={a.e with ended:=true } }
def RA.fin(a:RA)(v:Int):RA :=
 if a.t.oX=false∧a.t.au=0 then a.ending.aj {a.t with why:=9,value:=v } else
 (if a.t.oX=false then a.ending.free (a.t.au-1).toNat v else a.ending).rZ
def RSp.open(s:RSp)(m:Nat)(choice:Int):Int×RSp :=
 let x:=s.aG.getD m ⟨0,[]⟩
 if x.wait.length=0 then (0,{s with aG:=s.aG.set m {x with owner:=0 } }) else
 let k:=pick choice x.wait.length
 (x.wait.getD k 0+1,{s with aG:=s.aG.set m ⟨x.wait.getD k 0+1,x.wait.eraseIdx k⟩ })
def RSp.want(s:RSp)(m:Nat)(who:Int):Bool×RSp :=
 let x:=s.aG.getD m ⟨0,[]⟩
 if x.owner≠0 then (false,{s with aG:=s.aG.set m {x with wait:=x.wait++[who] } }) else (true,{s with aG:=s.aG.set m {x with owner:=who+1 } })
def RA.fault(a:RA)(x y:Int):RA:=((a.aj {a.t with pc:=a.t.pc-1 }).say x y 6 true).fin 18446744073709551615
def RA.plain(a0:RA):RA :=
 let x:=a0.t.eR a0.i.a
 let y:=a0.t.eR a0.i.b
 let a:=a0.aj {a0.t with pc:=a0.t.pc+1 }
 if a.i.op=1 then a.aj (a.t.put a.i.a a.i.n) else
 if a.i.op=16 then a.aj {a.t with pc:=a.i.n } else
 if a.i.op=17 then (if x=0 then a.aj {a.t with pc:=a.i.n } else a) else
 if a.i.op=18 then (if (a.s.mem.length:Int)≤y then a.fault y 0 else (a.aj (a.t.put a.i.a (a.s.mem.getD y.toNat 0))).say y (a.s.mem.getD y.toNat 0) 0 true) else
 if a.i.op=19 then (if (a.s.mem.length:Int)≤x then a.fault x y else ({a with s:={a.s with mem:=a.s.mem.set x.toNat y } }:RA).say x y 0 true) else
 a.aj (a.t.put a.i.a (aI a.i.op y (a.t.eR a.i.c)))
def cx(thr:Nat→RT)(self:Nat)(h:Int):Nat→Nat→Int×Int
 | 0,_=>(0,3)
 | f+1,n =>
  let t:=thr n
  if t.used=false∨¬t.handle=h∨n=self∨t.oX=true then cx thr self h f (n+1) else
  if ¬t.au=0 then (0,4) else ((n:Int),0)
def RA.other(a:RA)(h:Int):Int×Int:=cx a.s.thr a.n h 16 0
def RA.spawn(a:RA)(y:Int):RA :=
 let r:=a.s.begin a.i.n y
 let b:RA:={a with s:=r.2 }
 if r.1<0 then (b.aj (b.t.put a.i.a 0)).done a.i.n 0 2 else
 let c:=b.aj (b.t.put a.i.a (b.s.t r.1.toNat).handle)
 ({c with e:={c.e with aC:=[r.1] } }:RA).done a.i.n (b.s.t r.1.toNat).handle 0
def RA.join(a:RA)(h:Int):RA :=
 let r:=a.other h
 if ¬r.2=0 then a.done h 0 r.2 else
 let n:=r.1.toNat
 if (a.s.t n).why=9 then
  let v:=(a.s.t n).value
  let b:=a.aj (a.t.put a.i.a v)
  ({b with s:=b.s.aj n {b.s.t n with used:=false } }:RA).done h v 0
 else ({a with s:=a.s.aj n {a.s.t n with au:=(a.n:Int)+1 } }:RA).stop 4 (a.i.a+1) h 0
def RA.cH(a:RA)(x:Int):RA :=
 let r:=a.other x
 let n:=r.1.toNat
 (if r.2=0∧(a.s.t n).why=9 then {a with s:=a.s.aj n {a.s.t n with used:=false } } else
  if r.2=0 then {a with s:=a.s.aj n {a.s.t n with oX:=true } } else a).done x 0 r.2
def RA.mM(a:RA)(w:Int):RA:=if 0<w then a.free (w-1).toNat 0 else a
def rSignal(a:RA):List cV→RA
 | []=>a
 | w::l =>
  let r:=a.s.want w.mutex.toNat w.who
  if r.1=true then rSignal (({a with s:=r.2 }:RA).free w.who.toNat 0) l else rSignal {a with s:=r.2.aj w.who.toNat {r.2.t w.who.toNat with why:=1 } } l
def RA.signal(a:RA)(c:Nat)(choice:Int):RA :=
 let b:=a.done a.i.n 0 0
 let l:=b.s.bm.getD c []
 if a.i.op=28∧0<l.length then rSignal {b with s:={b.s with bm:=b.s.bm.set c (l.eraseIdx (pick choice l.length)) } } [l.getD (pick choice l.length) ⟨0,0⟩]
 else rSignal {b with s:={b.s with bm:=b.s.bm.set c [] } } l
def RA.gate(a:RA)(choice:Int):RA :=
 let m:=a.i.n.toNat
 if a.i.op=25 then
  if (a.s.aG.getD m ⟨0,[]⟩).owner=(a.n:Int)+1 then a.done a.i.n 0 4 else
  let r:=a.s.want m a.n
  if r.1=true then ({a with s:=r.2 }:RA).done a.i.n 0 0 else ({a with s:=r.2 }:RA).stop 1 0 a.i.n 0
 else if a.i.op=26 then
  if ¬(a.s.aG.getD m ⟨0,[]⟩).owner=(a.n:Int)+1 then a.done a.i.n 0 5 else
  let r:=a.s.open m choice
  (({a with s:=r.2 }:RA).done a.i.n 0 0).mM r.1
 else if a.i.op=27 then
  if ¬(a.s.aG.getD a.i.c.toNat ⟨0,[]⟩).owner=(a.n:Int)+1 then a.done a.i.n (gL a.i.c) 5 else
  let r:=a.s.open a.i.c.toNat choice
  (({a with s:={r.2 with bm:=r.2.bm.set m (r.2.bm.getD m []++[⟨a.n,a.i.c⟩]) } }:RA).stop 2 0 a.i.n (gL a.i.c)).mM r.1
 else a.signal m choice
def RA.up(a:RA)(choice:Int):RA :=
 let n:=a.i.n.toNat
 let l:=a.s.sw.getD n []
 if 0<l.length then
  (({a with s:={a.s with sw:=a.s.sw.set n (l.eraseIdx (pick choice l.length)) } }:RA).done a.i.n 0 0).free (l.getD (pick choice l.length) 0).toNat 0
 else if a.s.cf.getD n 0=1048576 then a.done a.i.n 0 2
 else ({a with s:={a.s with cf:=a.s.cf.set n (a.s.cf.getD n 0+1) } }:RA).done a.i.n 0 0
def RA.down(a:RA):RA :=
 let n:=a.i.n.toNat
 if 0<a.s.cf.getD n 0 then ({a with s:={a.s with cf:=a.s.cf.set n (a.s.cf.getD n 0-1) } }:RA).done a.i.n 0 0
 else ({a with s:={a.s with sw:=a.s.sw.set n (a.s.sw.getD n []++[(a.n:Int)]) } }:RA).stop 3 0 a.i.n 0
def RA.pipe(a:RA):Tub:=a.s.js.getD a.i.n.toNat Jt
def RA.B8(a:RA)(u:Tub):RA:={a with s:={a.s with js:=a.s.js.set a.i.n.toNat u } }
def RA.putP(a:RA)(x:Int):RA :=
 let p:=a.pipe
 if p.bC.length=0∧(p.words.length:Int)=p.room then (a.B8 {p with bN:=p.bN++[⟨a.n,x⟩] }).stop 7 0 a.i.n x else
 let b:=a.done a.i.n x 0
 match p.bC with
 | w::r=>(b.B8 {p with bC:=r }).free w.toNat x
 | []=>b.B8 {p with words:=p.words++[x] }
def RA.getP(a:RA):RA :=
 let p:=a.pipe
 match p.words with
 | []=>(a.B8 {p with bC:=p.bC++[(a.n:Int)] }).stop 6 (a.i.a+1) a.i.n 0
 | x::r =>
  let b:=(a.B8 {p with words:=r }).aj (a.t.put a.i.a x)
  let c:=b.done a.i.n x 0
  match p.bN with
  | []=>c
  | w::q=>(c.B8 {p with words:=r++[w.x],bN:=q }).free w.who.toNat 0
def RA.aO(a:RA)(block word into:Int):RA :=
 if (a.s.blk.length:Int)≤block then a.done block word 1 else
 ({a with s:={a.s with ask:=a.s.ask++[⟨a.n,block,decide (a.i.op=34),word⟩] } }:RA).stop 5 into block word
def RA.sleep(a:RA)(x:Int):RA :=
 if x=0 then a.done x 0 0 else if 1099511627776<x then a.done x 0 1 else
 ({a with s:={a.s with til:=dP a.s.til a.n (min (a.s.now+x) 1099511627776+1) } }:RA).stop 8 0 x 0
def RA.kernel(a:RA)(x y:Int):RA :=
 if a.i.op=33 then a.aO y 0 (a.i.a+1) else if a.i.op=34 then a.aO x y 0 else
 if a.i.op=35 then a.putP x else if a.i.op=36 then a.getP else if a.i.op=37 then a.sleep x else a.done x 0 0
def RA.call(a:RA)(choice:Int):RA :=
 let x:=a.t.eR a.i.a
 let y:=a.t.eR a.i.b
 if a.i.op=20 then a.spawn y else
 if a.i.op=32 then (a.aj (a.t.put a.i.a a.t.handle)).done 0 a.t.handle 0 else
 if a.i.op=24 then {a.done 0 0 0 with e:={a.e with yielded:=true } } else
 if a.i.op=21 then a.join y else if a.i.op=22 then a.cH x else
 if a.i.op=23 then (a.say x 0 0 true).fin x else
 if a.i.op=25∨a.i.op=26∨a.i.op=27∨a.i.op=28∨a.i.op=29 then a.gate choice else
 if a.i.op=30 then a.down else if a.i.op=31 then a.up choice else a.kernel x y
def RSp.run(p:fE)(s:RSp)(n:Nat)(choice:Int):fF×RSp :=
 let r:RA:=match eX p (s.t n) with
  | none=>((⟨s,n,⟨23,0,0,0,0⟩,fF.z,[]⟩:RA).say 0 0 0 true).fin 0
  | some i=>if i.op≤19 then (⟨s,n,i,fF.z,[]⟩:RA).plain else ((⟨s,n,i,fF.z,[]⟩:RA).aj {s.t n with pc:=(s.t n).pc+1 }).call choice
 (r.e,{r.s with av:=r.s.av++r.late })
def RSp.done(s:RSp)(k:Int):Int×RSp :=
 if s.ask.length=0 then (0,s) else
 let r:=s.ask.getD (pick k s.ask.length) ⟨0,0,false,0⟩
 let y:=s.blk.getD r.block.toNat 0
 let s1:={s with ask:=s.ask.eraseIdx (pick k s.ask.length) }
 let s2:=if r.write=true then {s1 with blk:=s1.blk.set r.block.toNat r.x } else s1
 let z:=if r.write=true then 0 else y
 (r.who+1,{s2.cZ r.who.toNat z with av:=s2.av++[(s2.t r.who.toNat).dE z] })
def rTick(s:RSp):Nat→Nat→List Int→List Int×RSp
 | 0,_,out=>(out,s)
 | f+1,n,out =>
  if 0<s.til n∧s.til n-1≤s.now then
   let s1:={s with til:=dP s.til n 0 }
   rTick {s1.cZ n 0 with av:=s1.av++[(s1.t n).dE 0] } f (n+1) (out++[(n:Int)])
  else rTick s f (n+1) out
def RSp.tick(s:RSp):List Int×RSp:=rTick {s with now:=if s.now<1099511627776 then s.now+1 else s.now } 16 0 []
def RSp.new(p:fE):RSp :=
 (RSp.begin ⟨fun _=>0,fun _=>Gv,List.replicate p.words.toNat 0,List.replicate p.aA.toNat ⟨0,[]⟩,List.replicate p.conds.toNat [],p.aW,List.replicate p.aW.length [],p.aL.map fun r=>⟨r,[],[],[]⟩,List.replicate p.blocks.toNat 0,[],0,fun _=>0,[]⟩ 0 0).2
end Go.SLYtefdijgllbkmfaaGreat
namespace Go.SLYtefdijgllbkmfaaGreat
open Go Go.RowKit
def AN(t:RT):List Value:=[.bool t.used,.int .u64 t.handle,.int .i64 t.why,.int .i64 t.fn,.int .i64 t.pc,.int .u64 (t.aq 0),.int .u64 (t.aq 1),.int .u64 (t.aq 2),.int .u64 (t.aq 3),.int .u64 (t.aq 4),.int .u64 (t.aq 5),.int .u64 (t.aq 6),.int .u64 (t.aq 7),
 .int .u64 t.value,.bool t.oX,.int .i64 t.au,.int .i64 t.op,.int .i64 t.into]
def flatN{α:Type}(enc:α→List Value)(f:Nat→α):Nat→List Value
 | 0=>[]
 | n+1=>flatN enc f n++enc (f n)
def dj(f:Nat→RT):List Value:=flatN AN f 16
def ni(f:Nat→Int):List Value:=flatN bM f 16
def pN(f:Nat→Int):List Value:=flatN aH f 16
section
variable{α:Type}{enc:α→List Value}{k:Nat}
theorem dp(hk:∀ x,(enc x).length=k)(f:Nat→α):∀ n,(flatN enc f n).length=n * k
 | 0=>by simp[flatN]
 | n+1=>by rw[flatN,List.length_append,dp hk f n,hk,Nat.succ_mul]
theorem mu(hk:∀ x,(enc x).length=k)(f:Nat→α){i j:Nat}(hj:j<k):∀ n,i<n→(flatN enc f n)[i * k+j]?=(enc (f i))[j]?
 | 0,h=>absurd h (Nat.not_lt_zero _)
 | n+1,h=>by
  rw[flatN]
  by_cases e:i=n
  ·subst e;rw[List.getElem?_append_right (by rw[dp hk];omega),dp hk];congr 1;omega
  ·have h2:(i+1) * k≤n * k:=Nat.mul_le_mul_right k (by omega)
   rw[Nat.succ_mul] at h2
   rw[List.getElem?_append_left (by rw[dp hk];omega)];exact mu hk f hj n (by omega)
theorem l1{f g:Nat→α}:∀ n,(∀ m<n,f m=g m)→flatN enc f n=flatN enc g n
 | 0,_=>rfl
 | n+1,h=>by rw[flatN,flatN,l1 n (fun m hm=>h m (by omega)),h n (by omega)]
theorem mv(hk:∀ x,(enc x).length=k){f:Nat→α}{i j:Nat}{v:Value}{x:α}(hj:j<k)(he:(enc (f i)).set j v=enc x):∀ n,i<n→(flatN enc f n).set (i * k+j) v=flatN enc (dP f i x) n
 | 0,h=>absurd h (Nat.not_lt_zero _)
 | n+1,h=>by
  rw[flatN,flatN]
  by_cases e:i=n
  ·subst e
   rw[List.set_append_right _ _ (by rw[dp hk];omega),dp hk,show i * k+j-i * k=j from by omega,he,l1 i (g:=dP f i x) (fun m hm=>by unfold dP;rw[if_neg (by omega)])]
   unfold dP;rw[if_pos rfl]
  ·have h2:(i+1) * k≤n * k:=Nat.mul_le_mul_right k (by omega)
   rw[Nat.succ_mul] at h2
   rw[List.set_append_left _ _ (by rw[dp hk];omega),mv hk hj he n (by omega)]
   unfold dP;rw[if_neg (by omega)]
theorem qp:∀ (a b vs:List Value) (i:Nat),a.length≤i→setFrom (a++b) i vs=a++setFrom b (i-a.length) vs
 | a,b,[],i,_=>rfl
 | a,b,v::vs,i,h=>by
  show setFrom ((a++b).set i v) (i+1) vs=a++setFrom (b.set (i-a.length) v) (i-a.length+1) vs
  rw[List.set_append_right _ _ h,qp a _ vs (i+1) (by omega),show i+1-a.length=i-a.length+1 from by omega]
theorem oJ:∀ (vs a b:List Value) (i:Nat),i+vs.length≤a.length→setFrom (a++b) i vs=setFrom a i vs++b
 | [],_,_,_,_=>rfl
 | v::vs,a,b,i,h=>by
  rw[List.length_cons] at h
  show setFrom ((a++b).set i v) (i+1) vs=setFrom (a.set i v) (i+1) vs++b
  rw[List.set_append_left _ _ (by omega),oJ vs _ b (i+1) (by rw[List.length_set];omega)]
theorem tL(hk:∀ x,(enc x).length=k){f:Nat→α}{i:Nat}{x:α}:∀ n,i<n→setFrom (flatN enc f n) (i * k) (enc x)=flatN enc (dP f i x) n
 | 0,h=>absurd h (Nat.not_lt_zero _)
 | n+1,h=>by
  rw[flatN,flatN]
  by_cases e:i=n
  ·subst e
   rw[qp _ _ _ _ (by rw[dp hk];exact Nat.le_refl _),dp hk,Nat.sub_self,qb (by rw[hk,hk]),l1 i (g:=dP f i x) (fun m hm=>by unfold dP;rw[if_neg (by omega)])]
   unfold dP;rw[if_pos rfl]
  ·have h2:(i+1) * k≤n * k:=Nat.mul_le_mul_right k (by omega)
   rw[Nat.succ_mul] at h2
   rw[oJ _ _ _ _ (by rw[dp hk,hk];omega),tL hk n (by omega)]
   unfold dP;rw[if_neg (by omega)]
end
theorem nj(t:RT):(AN t).length=18:=rfl
theorem dz{α:Type}{f:Nat→α}{n:Nat}{x:α}:dP f n x n=x:=by unfold dP;rw[if_pos rfl]
theorem jj{α:Type}{f:Nat→α}{n m:Nat}{x:α}(h:¬m=n):dP f n x m=f m:=by unfold dP;rw[if_neg h]
theorem EH{α:Type}{f:Nat→α}{n:Nat}:dP f n (f n)=f:=by funext m;unfold dP;split <;> simp_all
theorem oK{α:Type}{f:Nat→α}{n:Nat}{x y:α}:dP (dP f n x) n y=dP f n y:=by funext m;unfold dP;split <;> rfl
theorem ID{t:RT}{j:Nat}(hj:j<8):(AN t)[5+j]?=some (.int .u64 (t.aq j)):=by
 rcases j with _ | _ | _ | _ | _ | _ | _ | _ | j
 all_goals first | rfl | omega
theorem IE{t:RT}{j:Nat}{v:Int}(hj:j<8):(AN t).set (5+j) (.int .u64 v)=AN {t with aq:=dP t.aq j v }:=by
 rcases j with _ | _ | _ | _ | _ | _ | _ | _ | j
 all_goals first | rfl | omega
section
variable{P:Program}{W:World}{N:Nat}{L:List (Nat×Option Value)}{H:List aa}{T:TypeId}
theorem Cell.t{b n j:Nat}{f:Nat→RT}{v:Value}[h:aV H b 24 (dj f)](hn:n<16)(hv:(AN (f n))[j]?=some v):Cell W H b (24+n * 18+j) v:=by
 rw[Nat.add_assoc]
 exact Cell.ao (o:=24) (i:=n * 18+j) ((mu nj f (List.getElem?_eq_some_iff.1 hv).1 16 hn).trans hv)
theorem Cell.tz{b n:Nat}{f:Nat→RT}[h:aV H b 24 (dj f)](hn:n<16):Cell W H b (24+n * 18) (.bool (f n).used):=Cell.t (j:=0) hn rfl
theorem Cell.tr{b n j:Nat}{f:Nat→RT}[h:aV H b 24 (dj f)](hn:n<16)(hj:j<8):Cell W H b (24+n * 18+5+j * 1) (.int .u64 ((f n).aq j)):=by
 rw[Nat.add_assoc (24+n * 18),Nat.mul_one];exact Cell.t hn (ID hj)
theorem Cells.t{b n:Nat}{f:Nat→RT}[h:aV H b 24 (dj f)](hn:n<16):Cells W H b (24+n * 18) (AN (f n)):=fun _ _ hv=>Cell.t hn hv
theorem Cell.tk{b n:Nat}{f:Nat→Int}[h:aV H b 8 (ni f)](hn:n<16):Cell W H b (8+n * 1) (.int .u64 (f n)) :=
 Cell.ao (o:=8) (i:=n * 1) ((mu (enc:=bM) (k:=1) (fun _=>rfl) f (j:=0) (by decide) 16 hn).trans rfl)
theorem Cell.tl{b n:Nat}{f:Nat→Int}[h:aV H b 321 (pN f)](hn:n<16):Cell W H b (321+n * 1) (.int .i64 (f n)) :=
 Cell.ao (o:=321) (i:=n * 1) ((mu (enc:=aH) (k:=1) (fun _=>rfl) f (j:=0) (by decide) 16 hn).trans rfl)
section
variable{E:TypeId}{x y:Operand}{pos:String}{after:Array Edge}{guard:Option (Nat×Bool)}{b n:Nat}{H':List aa}
theorem af.t{j:Nat}{v:Value}{f:Nat→RT}{t:RT}(hz:∀ w,(sizeOf E).run P w = .ok 1 w)(hx:ev L x=some (.pointer (some ⟨b,24+n * 18+j,none⟩)))(hy:ev L y=some v)(hv:v.oneCell'=true)(hn:n<16)(hj:j<18)(he:(AN (f n)).set j v=AN t)
  [h0:aV H b 24 (dj f)] [hr:bK H b 24 (dj f) (dj (dP f n t)) H']:af P W N ⟨none,.store E x y,T,pos,after,guard⟩ L H (fun L1 H1=>L1=L∧H1=H'):=by
 rw[Nat.add_assoc] at hx
 have e:(dj f).set (n * 18+j) v=dj (dP f n t):=mv nj hj he 16 hn
 exact af.Hf (o:=24) (cs:=dj f) (i:=n * 18+j) hz hx hy hv (h0:=h0) (hr:=by rw[e];exact hr) (Nat.blt_eq.mpr (by rw[show(dj f).length=288 from dp nj f 16];omega))
theorem af.AO{u:Bool}{f:Nat→RT}(hz:∀ w,(sizeOf E).run P w = .ok 1 w)(hx:ev L x=some (.pointer (some ⟨b,24+n * 18,none⟩)))(hy:ev L y=some (.bool u))(hn:n<16)
  [h0:aV H b 24 (dj f)] [hr:bK H b 24 (dj f) (dj (dP f n {f n with used:=u })) H']:af P W N ⟨none,.store E x y,T,pos,after,guard⟩ L H (fun L1 H1=>L1=L∧H1=H'):=af.t (j:=0) (t:={f n with used:=u }) hz hx hy rfl hn (by decide) rfl
theorem af.Gw{u:Int}{f:Nat→RT}(hz:∀ w,(sizeOf E).run P w = .ok 1 w)(hx:ev L x=some (.pointer (some ⟨b,24+n * 18+2,none⟩)))(hy:ev L y=some (.int .i64 u))(hn:n<16)
  [h0:aV H b 24 (dj f)] [hr:bK H b 24 (dj f) (dj (dP f n {f n with why:=u })) H']:af P W N ⟨none,.store E x y,T,pos,after,guard⟩ L H (fun L1 H1=>L1=L∧H1=H'):=af.t (t:={f n with why:=u }) hz hx hy rfl hn (by decide) rfl
theorem af.JW{u:Int}{f:Nat→RT}(hz:∀ w,(sizeOf E).run P w = .ok 1 w)(hx:ev L x=some (.pointer (some ⟨b,24+n * 18+4,none⟩)))(hy:ev L y=some (.int .i64 u))(hn:n<16)
  [h0:aV H b 24 (dj f)] [hr:bK H b 24 (dj f) (dj (dP f n {f n with pc:=u })) H']:af P W N ⟨none,.store E x y,T,pos,after,guard⟩ L H (fun L1 H1=>L1=L∧H1=H'):=af.t (t:={f n with pc:=u }) hz hx hy rfl hn (by decide) rfl
theorem af.qC{j:Nat}{u:Int}{f:Nat→RT}(hz:∀ w,(sizeOf E).run P w = .ok 1 w)(hx:ev L x=some (.pointer (some ⟨b,24+n * 18+5+j * 1,none⟩)))(hy:ev L y=some (.int .u64 u))(hn:n<16)(hj:j<8)
  [h0:aV H b 24 (dj f)] [hr:bK H b 24 (dj f) (dj (dP f n {f n with aq:=dP (f n).aq j u })) H']:af P W N ⟨none,.store E x y,T,pos,after,guard⟩ L H (fun L1 H1=>L1=L∧H1=H'):=by
 rw[Nat.add_assoc (24+n * 18),Nat.mul_one] at hx;exact af.t hz hx hy rfl hn (by omega) (IE hj)
theorem af.KT{u:Int}{f:Nat→RT}(hz:∀ w,(sizeOf E).run P w = .ok 1 w)(hx:ev L x=some (.pointer (some ⟨b,24+n * 18+13,none⟩)))(hy:ev L y=some (.int .u64 u))(hn:n<16)
  [h0:aV H b 24 (dj f)] [hr:bK H b 24 (dj f) (dj (dP f n {f n with value:=u })) H']:af P W N ⟨none,.store E x y,T,pos,after,guard⟩ L H (fun L1 H1=>L1=L∧H1=H'):=af.t (t:={f n with value:=u }) hz hx hy rfl hn (by decide) rfl
theorem af.KU{u:Bool}{f:Nat→RT}(hz:∀ w,(sizeOf E).run P w = .ok 1 w)(hx:ev L x=some (.pointer (some ⟨b,24+n * 18+14,none⟩)))(hy:ev L y=some (.bool u))(hn:n<16)
  [h0:aV H b 24 (dj f)] [hr:bK H b 24 (dj f) (dj (dP f n {f n with oX:=u })) H']:af P W N ⟨none,.store E x y,T,pos,after,guard⟩ L H (fun L1 H1=>L1=L∧H1=H'):=af.t (t:={f n with oX:=u }) hz hx hy rfl hn (by decide) rfl
theorem af.JX{u:Int}{f:Nat→RT}(hz:∀ w,(sizeOf E).run P w = .ok 1 w)(hx:ev L x=some (.pointer (some ⟨b,24+n * 18+15,none⟩)))(hy:ev L y=some (.int .i64 u))(hn:n<16)
  [h0:aV H b 24 (dj f)] [hr:bK H b 24 (dj f) (dj (dP f n {f n with au:=u })) H']:af P W N ⟨none,.store E x y,T,pos,after,guard⟩ L H (fun L1 H1=>L1=L∧H1=H'):=af.t (t:={f n with au:=u }) hz hx hy rfl hn (by decide) rfl
theorem af.Li{u:Int}{f:Nat→RT}(hz:∀ w,(sizeOf E).run P w = .ok 1 w)(hx:ev L x=some (.pointer (some ⟨b,24+n * 18+16,none⟩)))(hy:ev L y=some (.int .i64 u))(hn:n<16)
  [h0:aV H b 24 (dj f)] [hr:bK H b 24 (dj f) (dj (dP f n {f n with op:=u })) H']:af P W N ⟨none,.store E x y,T,pos,after,guard⟩ L H (fun L1 H1=>L1=L∧H1=H'):=af.t (t:={f n with op:=u }) hz hx hy rfl hn (by decide) rfl
theorem af.Hz{u:Int}{f:Nat→RT}(hz:∀ w,(sizeOf E).run P w = .ok 1 w)(hx:ev L x=some (.pointer (some ⟨b,24+n * 18+17,none⟩)))(hy:ev L y=some (.int .i64 u))(hn:n<16)
  [h0:aV H b 24 (dj f)] [hr:bK H b 24 (dj f) (dj (dP f n {f n with into:=u })) H']:af P W N ⟨none,.store E x y,T,pos,after,guard⟩ L H (fun L1 H1=>L1=L∧H1=H'):=af.t (t:={f n with into:=u }) hz hx hy rfl hn (by decide) rfl
theorem af.KV{f:Nat→RT}{t:RT}(hz:∀ w,(sizeOf E).run P w = .ok 18 w)(hx:ev L x=some (.pointer (some ⟨b,24+n * 18,none⟩)))(hy:ev L y=some (.agg (AN t).toArray))(hn:n<16)
  [_h0:aV H b 24 (dj f)] [hr:bK H b 24 (dj f) (dj (dP f n t)) H']:af P W N ⟨none,.store E x y,T,pos,after,guard⟩ L H (fun L1 H1=>L1=L∧H1=H') :=
 af.q5 (o:=24) (cs:=dj f) (i:=n * 18) hx hy hz (List.all_eq_true.1 rfl) (by rw[show setFrom (dj f) (n * 18) (AN t)=dj (dP f n t) from tL nj 16 hn];exact hr.mN) (by rw[show(dj f).length=288 from dp nj f 16,nj];omega)
theorem af.KW{u:Int}{f:Nat→Int}(hz:∀ w,(sizeOf E).run P w = .ok 1 w)(hx:ev L x=some (.pointer (some ⟨b,8+n * 1,none⟩)))(hy:ev L y=some (.int .u64 u))(hn:n<16)
  [h0:aV H b 8 (ni f)] [hr:bK H b 8 (ni f) (ni (dP f n u)) H']:af P W N ⟨none,.store E x y,T,pos,after,guard⟩ L H (fun L1 H1=>L1=L∧H1=H'):=by
 have e:(ni f).set (n * 1) (.int .u64 u)=ni (dP f n u):=mv (enc:=bM) (k:=1) (fun _=>rfl) (j:=0) (by decide) rfl 16 hn
 exact af.Hf (o:=8) (cs:=ni f) (i:=n * 1) hz hx hy rfl (h0:=h0) (hr:=by rw[e];exact hr) (Nat.blt_eq.mpr (by rw[show(ni f).length=16 from dp (k:=1) (fun _=>rfl) f 16];omega))
theorem af.IF{u:Int}{f:Nat→Int}(hz:∀ w,(sizeOf E).run P w = .ok 1 w)(hx:ev L x=some (.pointer (some ⟨b,321+n * 1,none⟩)))(hy:ev L y=some (.int .i64 u))(hn:n<16)
  [h0:aV H b 321 (pN f)] [hr:bK H b 321 (pN f) (pN (dP f n u)) H']:af P W N ⟨none,.store E x y,T,pos,after,guard⟩ L H (fun L1 H1=>L1=L∧H1=H'):=by
 have e:(pN f).set (n * 1) (.int .i64 u)=pN (dP f n u):=mv (enc:=aH) (k:=1) (fun _=>rfl) (j:=0) (by decide) rfl 16 hn
 exact af.Hf (o:=321) (cs:=pN f) (i:=n * 1) hz hx hy rfl (h0:=h0) (hr:=by rw[e];exact hr) (Nat.blt_eq.mpr (by rw[show(pN f).length=16 from dp (k:=1) (fun _=>rfl) f 16];omega))
end
end
/-! the space's parts -/
def iM{α:Type}(enc:α→List Value)(k b o:Nat)(l:List α):aa:=hZ (fun _:Value=>True) fun v=>[arr b o [v],sl enc k v l]
def eD{β γ:Type}(enc:γ×β→List Value)(k:Nat)(inner:γ×β→aa)(v:Value)(l:List β):aa:=hZ (fun xs:List (γ×β)=>xs.map (·.2)=l) fun xs=>[sl enc k v xs,dH inner xs]
def cB{β γ:Type}(enc:γ×β→List Value)(inner:γ×β→aa)(b o:Nat)(m:β):aa:=hZ (fun _:γ=>True) fun u=>[arr b o (enc (u,m)),inner (u,m)]
def gK{β γ:Type}(enc:γ×β→List Value)(k:Nat)(inner:γ×β→aa)(v:Value)(l:List β)(i:Nat):aa:=nS (cB enc inner (blk v) (cz v+i * k)) (fun m'=>eD enc k inner v (l.set i m'))
section
variable{β γ:Type}{enc:γ×β→List Value}{k:Nat}{inner:γ×β→aa}{v:Value}{l:List β}{i:Nat}{m:β}
theorem fL(hk:∀ x,(enc x).length=k)(hm:l[i]?=some m):∀ h,eD enc k inner v l h→seps [cB enc inner (blk v) (cz v+i * k) m,gK enc k inner v l i] h:=fun h ⟨xs,hxs,a⟩=>by
 obtain⟨x,hx⟩:=aB (show i<xs.length by rw[← List.length_map (f:=(·.2)),hxs];exact(List.getElem?_eq_some_iff.1 hm).1)
 have hxm:x.2=m:=by have:=nN hxs hx;rw[hm] at this;exact(Option.some.inj this).symm
 have hxe:x=(x.1,m):=by rw[← hxm]
 rw[ic] at a ⊢
 have a2:sep (sep (arr (blk v) (cz v+i * k) (enc x)) (hole enc k v xs i)) (sep (inner x) (dH inner (xs.eraseIdx i))) h:=bo (rv hx) (fun g b=>by rw[iW _ hx] at b;exact b) h a
 rw[aN,aX (hole enc k v xs i), ← aN] at a2
 refine bo ?_ ?_ h a2
 ·intro g b;exact⟨x.1,trivial,by rw[ic, ← hxe];exact b⟩
 ·refine nT fun m' g b=>?_
  obtain⟨h1,h2,⟨u, -,b1⟩,b2,d,rfl⟩:=b
  refine⟨xs.set i (u,m'),by show(xs.set i (u,m')).map (·.2)=_;rw[List.map_set,show xs.map (·.2)=l from hxs],?_⟩
  rw[ic] at b1 ⊢
  have b3:sep (sep (arr (blk v) (cz v+i * k) (enc (u,m'))) (inner (u,m'))) (sep (hole enc k v xs i) (dH inner (xs.eraseIdx i))) (join h1 h2):=⟨h1,h2,b1,b2,d,rfl⟩
  rw[aN,aX (inner (u,m')), ← aN] at b3
  refine bo (lI (List.getElem?_eq_some_iff.1 hx).1 (hk _)) (fun g c=>?_) _ b3
  rw[iW _ (List.getElem?_set_self (List.getElem?_eq_some_iff.1 hx).1),List.eraseIdx_set_eq];exact c
theorem fV(m':β):∀ h,seps [cB enc inner (blk v) (cz v+i * k) m',gK enc k inner v l i] h→eD enc k inner v (l.set i m') h:=mc m'
theorem gi(hm:l[i]?=some m):∀ h,seps [cB enc inner (blk v) (cz v+i * k) m,gK enc k inner v l i] h→eD enc k inner v l h:=fun h a=>by have:=fV m h a;rwa [jY hm] at this
end
def dY(x:Value×gh):List Value:=[.int .i64 x.2.owner,x.1]
def ec(x:Value×gh):aa:=sl aH 1 x.1 x.2.wait
def jO(x:Value×List Int):aa:=sl aH 1 x.1 x.2
def lu(x:Value×List cV):aa:=sl cF 2 x.1 x.2
def dM(x:(Value×Value×Value)×Tub):List Value:=[.int .i64 x.2.room,x.1.1,x.1.2.1,x.1.2.2]
def dN(x:(Value×Value×Value)×Tub):aa:=seps [sl bM 1 x.1.1 x.2.words,sl eJ 2 x.1.2.1 x.2.bN,sl aH 1 x.1.2.2 x.2.bC]
def zk(b:Nat)(l:List gh):aa:=hZ (fun _:Value=>True) fun v=>[arr b 313 [v],eD dY 2 ec v l]
def Gx(b:Nat)(l:List (List cV)):aa:=hZ (fun _:Value=>True) fun v=>[arr b 314 [v],eD cj 1 lu v l]
def Km(b:Nat)(l:List (List Int)):aa:=hZ (fun _:Value=>True) fun v=>[arr b 316 [v],eD cj 1 jO v l]
structure RV where
 p:ee
 u:Value
def bP(b:Nat)(v:RV)(s:RSp):aa:=seps [arr b 0 (ff v.p),arr b 8 (ni s.taken),arr b 24 (dj s.thr),iM bM 1 b 312 s.mem,zk b s.aG,Gx b s.bm,iM aH 1 b 315 s.cf,Km b s.sw,arr b 317 [v.u],eD dM 4 dN v.u s.js,iM bM 1 b 318 s.blk,iM dW 4 b 319 s.ask,arr b 320 [.int .i64 s.now],arr b 321 (pN s.til),iM dr 6 b 337 s.av]
theorem bu{b:Nat}{v:RV}{s:RSp}:∀ h,bP b v s h→seps [arr b 0 (ff v.p),arr b 8 (ni s.taken),arr b 24 (dj s.thr),iM bM 1 b 312 s.mem,zk b s.aG,Gx b s.bm,iM aH 1 b 315 s.cf,Km b s.sw,arr b 317 [v.u],eD dM 4 dN v.u s.js,iM bM 1 b 318 s.blk,iM dW 4 b 319 s.ask,arr b 320 [.int .i64 s.now],arr b 321 (pN s.til),iM dr 6 b 337 s.av] h:=fun _ a=>a
def kX(b:Nat)(a:RA)(vw vl:Value):List Value:=[ptr b,.int .i64 (a.n:Int)]++dq a.i++[vw,.bool a.e.aU,.bool a.e.ended,.bool a.e.yielded,vl]
def cy(ba b:Nat)(v:RV)(a:RA):aa:=uI (fun _ _:Value=>True) fun vw vl=>[arr ba 0 (kX b a vw vl),sl aH 1 vw a.e.aC,sl dr 6 vl a.late,bP b v a.s]
end Go.SLYtefdijgllbkmfaaGreat
namespace Go.SLYtefdijgllbkmfaaGreat
open Go Go.RowKit
theorem EI{c:Int}{n:Nat}(hn:0<n):(pick c n:Int)=if c.tmod n<0 then c.tmod n+n else c.tmod n:=by
 have h1:=Int.lt_tmod_of_pos c (show(0:Int)<n by omega)
 have h2:=Int.tmod_lt_of_pos c (show(0:Int)<n by omega)
 unfold pick
 split
 ·rw[Int.tmod_eq_of_lt (by omega) (by omega)];omega
 ·rw[show c.tmod n+n=c.tmod n+n * 1 from by omega,Int.tmod_eq_emod_of_nonneg (by omega),Int.add_mul_emod_self_left,Int.emod_eq_of_lt (by omega) h2];omega
structure wh(t:RT):Prop where
 r:∀ k,0≤t.aq k∧t.aq k≤18446744073709551615
 i:0≤t.into∧t.into≤8
 j:0≤t.au∧t.au≤16
 p:0≤t.pc∧t.pc≤1000000
 v:0≤t.value∧t.value≤18446744073709551615
def fM(s:RSp):Prop:=∀ m,wh (s.thr m)
theorem fM.dP{s s':RSp}(h:fM s){n:Nat}{t:RT}(e:s'.thr=dP s.thr n t)(ht:wh t):fM s':=fun m=>by
 rw[e];unfold SLYtefdijgllbkmfaaGreat.dP;split;exact ht;exact h m
theorem B9{b:Nat}{a:RA}{vw vl:Value}:(kX b a vw vl).set (7+2) (.bool true)=kX b a.ending vw vl:=rfl
theorem EJ{b:Nat}{a:RA}{vw vl:Value}:(kX b a vw vl).set (7+3) (.bool true)=kX b {a with e:={a.e with yielded:=true } } vw vl:=rfl
theorem pO{thr:Nat→RT}{self:Nat}{h:Int}:∀ {f n:Nat},(cx thr self h f n).2=0→ ∃ m:Nat,(cx thr self h f n).1=(m:Int)∧n≤m∧m<n+f∧¬m=self∧(thr m).used=true∧(thr m).handle=h∧(thr m).oX=false∧(thr m).au=0
 | 0,n,e=>by simp[cx] at e
 | f+1,n,e=>by
  rw[cx] at e ⊢
  try simp only at e ⊢
  split at e
  ·rename_i hc
   rw[if_pos hc]
   obtain⟨m,h1,h2,h3,h4⟩:=pO e
   exact⟨m,h1,by omega,by omega,h4⟩
  ·rename_i hc
   rw[if_neg hc]
   split at e
   ·simp at e
   ·rename_i hj
    rw[if_neg hj]
    simp only[not_or,Bool.not_eq_true,Bool.not_eq_false,Decidable.not_not] at hc hj
    exact⟨n,rfl,Nat.le_refl _,by omega,hc.2.2.1,hc.1,hc.2.1,hc.2.2.2,hj⟩
theorem jk{thr:Nat→RT}{self:Nat}{h:Int}:∀ {f n:Nat},(cx thr self h f n).2=0∨(cx thr self h f n).2=3∨(cx thr self h f n).2=4
 | 0,n=>by simp[cx]
 | f+1,n=>by
  rw[cx]
  try simp only
  split
  ·exact jk
  ·split
   ·simp
   ·simp
section
variable{a:RA}{x:Int}{m:Nat}
theorem xv(h:¬(a.other x).2=0):a.join x=a.done x 0 (a.other x).2:=by unfold RA.join;exact if_pos h
theorem xw(h1:¬¬(a.other x).2=0)(h2:(a.other x).1=(m:Int))(h3:(a.s.thr m).why=9):a.join x=({a.aj (a.t.put a.i.a (a.s.thr m).value) with s:=(a.aj (a.t.put a.i.a (a.s.thr m).value)).s.aj m {(a.aj (a.t.put a.i.a (a.s.thr m).value)).s.t m with used:=false } }:RA).done x (a.s.thr m).value 0:=by
 have e:(a.other x).1.toNat=m:=by rw[h2,Int.toNat_natCast]
 unfold RA.join;simp only[e];exact(if_neg h1).trans (if_pos h3)
theorem tM(h1:¬¬(a.other x).2=0)(h2:(a.other x).1=(m:Int))(h3:¬(a.s.thr m).why=9):a.join x=({a with s:=a.s.aj m {a.s.t m with au:=(a.n:Int)+1 } }:RA).stop 4 (a.i.a+1) x 0:=by
 have e:(a.other x).1.toNat=m:=by rw[h2,Int.toNat_natCast]
 unfold RA.join;simp only[e];exact(if_neg h1).trans (if_neg h3)
theorem Gy(h1:(a.other x).2=0)(h2:(a.other x).1=(m:Int))(h3:(a.s.thr m).why=9):a.cH x=({a with s:=a.s.aj m {a.s.t m with used:=false } }:RA).done x 0 (a.other x).2:=by
 have e:(a.other x).1.toNat=m:=by rw[h2,Int.toNat_natCast]
 unfold RA.cH;simp only[e];rw[if_pos ⟨h1,h3⟩]
theorem IG(h1:(a.other x).2=0)(h2:(a.other x).1=(m:Int))(h3:¬(a.s.thr m).why=9):a.cH x=({a with s:=a.s.aj m {a.s.t m with oX:=true } }:RA).done x 0 (a.other x).2:=by
 have e:(a.other x).1.toNat=m:=by rw[h2,Int.toNat_natCast]
 unfold RA.cH;simp only[e];rw[if_neg (fun h=>h3 h.2),if_pos h1]
theorem Gz(h1:¬(a.other x).2=0):a.cH x=a.done x 0 (a.other x).2:=by
 unfold RA.cH;simp only;rw[if_neg (fun h=>h1 h.1),if_neg h1]
end
end Go.SLYtefdijgllbkmfaaGreat
namespace Go.SLYtefdijgllbkmfaaGreat
open Go Go.RowKit Go.Proofs Go.Proofs.Tryz
attribute [local irreducible] ax aP bA cp bF Y
theorem EK{W:World}{b:Nat}{v:RV}{s:RSp}{n:Int}:Fn Tryz.prog W 39 [ptr b,.int .i64 n] [bP b v s] Unit (fun _=>.bool (s.runs n)) (fun _=>True) (fun _=>[bP b v s]):=by
 refine Fn.intro (N:=30) func39 rfl ntmps39 rfl fun F=>?_
 show ax _ _ _ _ _ _ [bP b v s,F]
 refine .fr (A:=bP b v s) .auto bu ?_
 refine J 10 ?_
 apply aP.fq 3 10 7 [7,8,9,10] rfl
 ·intro h7
  exact JS 4
 ·intro h7
  exact JS 4
 refine J 1 ?_
 apply aP.fY 8 19 11 [11,12,13,14,15,16,17,18,19] rfl
 ·intro h11
  simp only[Bool.and_eq_true,decide_eq_true_eq] at h11
  refine J 4 ?_
  refine .g (.aE n.toNat underlying54 sizeOf53 rfl rfl (by omega) (by omega)) ?_
  refine J 1 ?_
  refine .g (.ld rfl (Cell.tz (by first | omega | exact hn))) ?_
  exact JS 2
 ·intro h11
  exact JS 9
 refine J 1 ?_
 apply aP.fY 9 29 20 [20,21,22,23,24,25,26,27,28,29] rfl
 ·intro h20
  simp only[Bool.and_eq_true,decide_eq_true_eq] at h20
  refine J 4 ?_
  refine .g (.aE n.toNat underlying54 sizeOf53 rfl rfl (by omega) (by omega)) ?_
  refine J 1 ?_
  refine .g (.ld rfl (Cell.t (by first | omega | exact hn) rfl)) ?_
  exact JS 3
 ·intro h20
  exact JS 10
 exact JR 4 ()
theorem oL{W:World}{c:Int}{n:Nat}(hn:0<n)(hb:n≤1000000000):Fn Tryz.prog W 94 [.int .i64 c,.int .i64 (n:Int)] [] Unit (fun _=>.int .i64 (pick c n:Int)) (fun _=>True) (fun _=>[]):=by
 refine Fn.intro (N:=15) func94 rfl ntmps94 rfl fun F=>?_
 show ax _ _ _ _ _ _ [F]
 have hpk:=EI (c:=c) hn
 refine J 9 ?_
 refine .p (.rem rfl rfl (by omega)) ?_
 refine JD 10 (fun h10=>?_) fun h10=>?_
 ·refine J 3 ?_
  refine .p (.add rfl rfl (by omega)) ?_
  refine J 10 ?_
  refine .aF rfl rfl fun w s=>⟨(),?_,trivial,ar .auto s⟩
  rw[hpk,if_pos h10]
 ·refine J 9 ?_
  refine .aF rfl rfl fun w s=>⟨(),?_,trivial,ar .auto s⟩
  rw[hpk,if_neg h10]
theorem tN{W:World}{b:Nat}{v:RV}{s:RSp}{f arg:Int}:Fn Tryz.prog W 68 [ptr b,.int .i64 f,.int .u64 arg] [bP b v s] Unit (fun _=>.int .i64 (s.begin f arg).1) (fun _=>True) (fun _=>[bP b v (s.begin f arg).2]):=by
 refine Fn.intro (N:=56) func68 rfl ntmps68 rfl fun F=>?_
 show ax _ _ _ _ _ _ [bP b v s,F]
 refine .fr (A:=bP b v s) .auto bu ?_
 refine J 12 ?_
 refine .df (X:=Nat) [6,7,8,9,10,11,12,13,14,15,16,17,18,19,20,21,22,23,24,25,26,27,28,29,30,31,32,33,34,35,36,37,38,39,40,41,42,43,44,45,46,47,48,49,50,51,52,53,54,55] (fun n=>16-n) (fun n=>n≤16∧rFree? s.thr (16-n) n=rFree? s.thr 16 0) (fun n=>[(7,some (.int .i64 (n:Int)))]) (fun n=>[bP b v s,F]) 0 ?_ ?_ ?_ ?_
 ·exact⟨Nat.zero_le _,rfl⟩
 ·exact⟨rfl,trivial⟩
 ·exact fun w s=>aM.kept .auto w s
 rintro n ⟨hn,hf⟩
 refine .fr (A:=bP b v s) .auto bu ?_
 refine JD 7 (fun h9=>?_) fun h9=>?_
 ·refine J 11 ?_
  refine .p (.aE _ underlying54 sizeOf53 rfl rfl rfl (by first | omega | exact hn | decide)) ?_
  refine J 1 ?_
  refine .p (.ld rfl (Cell.tz (by first | omega | exact hn))) ?_
  refine JD 2 (fun h18=>?_) fun h18=>?_
  ·refine J 9 ?_
   refine .bB (n+1) .auto rfl ?_ ?_ ?_ ?_
   ·omega
   ·refine⟨by show n+1≤_;omega,?_⟩
    rw[← hf,show 16-n=(16-(n+1))+1 from by omega]
    show _=rFree? s.thr ((16-(n+1))+1) n
    rw[rFree?,if_pos h18]
   ·exact⟨rfl,trivial⟩
   ·exact fun w s=>aM.kept .auto w s
  ·have hb:s.begin f arg=((n:Int),s.begun n f arg):=by
    unfold RSp.begin
    rw[← hf,show 16-n=(16-(n+1))+1 from by omega,rFree?,if_neg (by rw[h18];simp)]
   refine J 3 ?_
   refine .draw [arr b 8 (ni s.taken)] [1,1,1,1,1,1,1,1,1,1,3] rfl (by kernel_rfl) ?_
   refine J 4 ?_
   refine .p (.aE _ underlying51 sizeOf38 rfl rfl rfl (by first | omega | exact hn | decide)) ?_
   refine .p (.ld rfl (Cell.tk (by omega))) ?_
   refine .p (.yj rfl rfl) ?_
   refine J 2 ?_
   refine .p (.aE _ underlying51 sizeOf38 rfl rfl rfl (by first | omega | exact hn | decide)) ?_
   refine .d3 rfl (af.KW sizeOf38 rfl rfl (by omega)) ?_
   rintro _ _ ⟨rfl,rfl⟩
   refine J 3 ?_
   refine .draw [arr b 8 (ni (dP s.taken n (gL (s.taken n+1))))] [1,1,1,1,1,1,1,1,1,1,1,1,1,1,1,1,1,1,3] rfl (by kernel_rfl) ?_
   refine J 6 ?_
   refine .p (.aE _ underlying51 sizeOf38 rfl rfl rfl (by first | omega | exact hn | decide)) ?_
   refine .p (.dC (Y.load isAgg38 rfl (Cell.tk (f:=dP s.taken n (gL (s.taken n+1))) (by omega))) (show _=gL (s.taken n+1) from dz)) ?_
   refine .p (.CU rfl rfl) ?_
   refine J 1 ?_
   refine .p (.fW underlying3 underlying38 rfl (by omega)) ?_
   refine .p (.yj rfl rfl) ?_
   refine .p (.yj rfl rfl) ?_
   refine J 1 ?_
   refine .p (.Ba (fun v1 v2 v3=>[v1,v2,(.int .i64 0),v3,(.int .i64 0),(.int .u64 0),(.int .u64 0),(.int .u64 0),(.int .u64 0),(.int .u64 0),(.int .u64 0),(.int .u64 0),(.int .u64 0),(.int .u64 0),(.bool false),(.int .i64 0),(.int .i64 0),(.int .i64 0)]) rfl rfl rfl (by kernel_rfl)) ?_
   refine J 2 ?_
   refine .p (.aE _ underlying54 sizeOf53 rfl rfl rfl (by first | omega | exact hn | decide)) ?_
   refine .d3 rfl (af.KV (t:=⟨true,kW (gL (s.taken n+1)) n,0,f,0,fun _=>0,0,false,0,0,0⟩) (by exact sizeOf53) rfl rfl (by omega)) ?_
   rintro _ _ ⟨rfl,rfl⟩
   refine J 9 ?_
   refine .p (.aE _ underlying54 sizeOf53 rfl rfl rfl (by first | omega | exact hn | decide)) ?_
   refine J 1 ?_
   refine .p (.aE 0 underlying39 sizeOf38 rfl rfl rfl (by first | omega | exact hn | decide)) ?_
   refine .aw rfl (af.qC sizeOf38 rfl rfl (by first | omega | exact hn) (by first | omega | decide)) ?_
   rintro _ _ ⟨rfl,rfl⟩
   refine J 14 ?_
   rw[hb]
   simp only[dz,oK]
   exact JR 0 ()
 ·refine J 11 ?_
  have hb:s.begin f arg=(-1,s):=by
   unfold RSp.begin
   rw[← hf,show 16-n=0 from by omega,rFree?]
  rw[hb]
  exact JR 0 ()
theorem oM{W:World}{b n:Nat}{f:Nat→RT}{y:Int}(hn:n<16)(hi:0≤(f n).into∧(f n).into≤8):Fn Tryz.prog W 95 [ptr b,.int .i64 (n:Int),.int .u64 y] [arr b 24 (dj f)] Unit (fun _=>.agg (dr ((f n).dE y)).toArray) (fun _=>True) (fun _=>[arr b 24 (dj (dP f n ((f n).cE y)))]):=by
 refine Fn.intro (N:=53) func95 rfl ntmps95 rfl fun F=>?_
 show ax _ _ _ _ _ _ [arr b 24 (dj f),F]
 refine J 2 ?_
 refine .aw rfl (af.alloc rfl zeroValue101 rfl) ?_
 rintro _ _ ⟨b6,rfl,rfl⟩
 refine J 8 ?_
 refine .p (.aE _ underlying54 sizeOf53 rfl rfl rfl (by first | omega | exact hn | decide)) ?_
 refine .p (.la rfl (Cells.t (by first | omega | exact hn))) ?_
 refine .aw rfl (af.alloc rfl zeroValue53 rfl) ?_
 rintro _ _ ⟨b7,rfl,rfl⟩
 refine J 3 ?_
 refine .nv (X:=Unit) [2,14,15,16,17,18,19,20,21,22,23,24,25,26,27] (fun _=>True) (fun _=>[(2,some (.int .u64 (if (f n).into=0 then 0 else y)))]) (fun _=>[arr b 24 (dj (dP f n (if (f n).into=0 then f n else (f n).put ((f n).into-1) y))),arr b6 0 [.int .u64 0,.int .i64 0,.int .u64 0,.int .u64 0,.int .i64 0,.bool false],arr b7 0 (AN (f n)),F]) ?_ ?_
 ·refine JD 7 (fun h16=>?_) fun h16=>?_
  ·refine J 3 ?_
   refine .eT () .auto ?_ ?_ ?_
   ·trivial
   ·rw[if_pos h16];exact⟨rfl,trivial⟩
   ·rw[if_pos h16,EH];exact fun w s=>aM.kept .auto w s
  ·refine .draw [arr b7 0 (AN (f n)),arr b 24 (dj f)] [1,1,1,1,1,1,1,1,1,1,1,3] rfl (by kernel_rfl) ?_
   refine J 8 ?_
   refine .p (.aE _ underlying54 sizeOf53 rfl rfl rfl (by first | omega | exact hn | decide)) ?_
   refine J 1 ?_
   refine .p (.aE ((f n).into-1).toNat underlying39 sizeOf38 rfl rfl (by omega) (by omega)) ?_
   refine .d3 rfl (af.qC sizeOf38 rfl rfl (by first | omega | exact hn) (by first | omega | decide)) ?_
   rintro _ _ ⟨rfl,rfl⟩
   refine J 1 ?_
   refine .eT () .auto ?_ ?_ ?_
   ·trivial
   ·rw[if_neg h16];exact⟨rfl,trivial⟩
   ·rw[if_neg h16];exact fun w s=>aM.kept .auto w s
 ·rintro⟨⟩ -
  obtain⟨y1,hy1⟩:∃ y1,y1=(if (f n).into=0 then 0 else y):=⟨_,rfl⟩
  obtain⟨t1,h1⟩:∃ t1,t1=(if (f n).into=0 then f n else (f n).put ((f n).into - 1) y):=⟨_,rfl⟩
  have hrec:dr ((f n).dE y)=[.int .u64 (f n).handle,.int .i64 (f n).op,.int .u64 0,.int .u64 y1,.int .i64 0,.bool true]:=by rw[hy1];rfl
  rw[← hy1, ← h1]
  refine J 6 ?_
  refine .p (.aE _ underlying54 sizeOf53 rfl rfl rfl (by first | omega | exact hn | decide)) ?_
  refine J 1 ?_
  refine .p (.aE 7 underlying39 sizeOf38 rfl rfl rfl (by first | omega | exact hn | decide)) ?_
  refine .aw rfl (af.qC sizeOf38 rfl rfl (by first | omega | exact hn) (by first | omega | decide)) ?_
  rintro _ _ ⟨rfl,rfl⟩
  refine J 8 ?_
  refine .p (.aE _ underlying54 sizeOf53 rfl rfl rfl (by first | omega | exact hn | decide)) ?_
  refine J 1 ?_
  refine .aw rfl (af.Gw sizeOf3 rfl rfl (by first | omega | exact hn)) ?_
  rintro _ _ ⟨rfl,rfl⟩
  refine J 8 ?_
  refine .p (.aE _ underlying54 sizeOf53 rfl rfl rfl (by first | omega | exact hn | decide)) ?_
  refine J 1 ?_
  refine .aw rfl (af.Hz sizeOf3 rfl rfl (by first | omega | exact hn)) ?_
  rintro _ _ ⟨rfl,rfl⟩
  refine J 9 ?_
  refine .p (.Bb (fun v1 v2 v3 v4=>[v1,v2,(.int .u64 0),v3,(.int .i64 0),v4]) rfl rfl rfl rfl (by kernel_rfl)) ?_
  refine J 4 ?_
  rw[show(f n).cE y = {t1.put 7 0 with why:=0,into:=0 } from by unfold RT.cE;rw[← h1]]
  simp only[dz,oK]
  refine .fh rfl rfl isAgg101 (by exact sizeOf101) Cells.a fun w s=>⟨(),?_,trivial,ar .auto s⟩
  rw[hrec]
theorem kY{W:World}{ba b:Nat}{v:RV}{a:RA}{x y e:Int}{fin:Bool}(hn:a.n<16)(hr:a.s.av.length≤1000000000):Fn Tryz.prog W 88 [ptr ba,.int .u64 x,.int .u64 y,.int .i64 e,.bool fin] [cy ba b v a] Unit (fun _=>.tuple #[]) (fun _=>True) (fun _=>[cy ba b v (a.say x y e fin)]):=by
 refine Fn.intro (N:=48) func88 rfl ntmps88 rfl fun F=>?_
 show ax _ _ _ _ _ _ [cy ba b v a,F]
 refine .o2 (C:=cy ba b v (a)) .auto rfl ?_
 rintro vw vl -
 refine .fr (A:=bP b v (a).s) .auto bu ?_
 refine .o1 (C:=iM dr 6 b 337 (a.s).av) .auto rfl ?_
 rintro vr -
 refine .draw [arr ba 0 (kX b (a) vw vl),arr b 24 (dj (a.s).thr),arr b 337 [vr]] [0,0,0,0,0,0,0,0,0,0,0,1,1,1,1,1,1,1,1,1,1,1,1,1,1,1,1,1,1,1,1,1,1,1,2,2,1,1,3] rfl (by kernel_rfl) ?_
 refine J 21 ?_
 refine .p (.aE _ underlying54 sizeOf53 rfl rfl rfl (by first | omega | exact hn | decide)) ?_
 refine J 1 ?_
 refine .p (.ld rfl (Cell.t (by first | omega | exact hn) rfl)) ?_
 refine J 9 ?_
 refine .p (.C8 (fun v1 v2 v3 v4 v5 v6=>[v1,v2,v3,v4,v5,v6]) rfl rfl rfl rfl rfl rfl (by kernel_rfl)) ?_
 refine .d2 rfl Kept.auto (af.gD 101 rfl rfl (by kernel_rfl)) (by rintro _ _ ⟨b44,rfl,rfl⟩;exact Kept.auto) ?_
 rintro _ _ ⟨b44,rfl,rfl⟩
 refine .d2 rfl Kept.auto (af.fj (enc:=dr) (k:=6) (⟨(a.s.thr a.n).handle,a.i.op,x,y,e,fin⟩:Rec) rfl underlying49 underlying49 typeInfo101 rfl rfl rfl (by decide) rfl rfl rfl .auto rfl .auto (by omega) rfl) (by rintro _ _ ⟨v45,rfl,rfl⟩;exact Kept.auto) ?_
 rintro _ _ ⟨v45,rfl,rfl⟩
 refine J 2 ?_
 refine .d3 rfl (af.mU sizeOf49 rfl rfl rfl) ?_
 rintro _ _ ⟨rfl,rfl⟩
 exact JR 1 ()
theorem cv{W:World}{ba b:Nat}{v:RV}{a:RA}{x y e:Int}(hn:a.n<16)(hr:a.s.av.length≤1000000000)(he:0≤e∧e≤11):Fn Tryz.prog W 129 [ptr ba,.int .u64 x,.int .u64 y,.int .i64 e] [cy ba b v a] Unit (fun _=>.tuple #[]) (fun _=>True) (fun _=>[cy ba b v (a.done x y e)]):=by
 refine Fn.intro (N:=28) func129 rfl ntmps129 rfl fun F=>?_
 show ax _ _ _ _ _ _ [cy ba b v a,F]
 refine J 6 ?_
 refine .c call88 rfl (kY hn hr) fun _ _=>?_
 refine .o2 (C:=cy ba b v (a.say x y e true)) .auto rfl ?_
 rintro vw vl -
 refine .fr (A:=bP b v (a.say x y e true).s) .auto bu ?_
 refine J 2 ?_
 refine .draw [arr ba 0 (kX b (a.say x y e true) vw vl)] [1,1,1,1,1,1,1,1,1,1,1,1,1,1,1,3] rfl (by kernel_rfl) ?_
 refine J 9 ?_
 refine .p (.fW underlying28 underlying38 rfl (by omega)) ?_
 refine J 2 ?_
 refine .p (.aE _ underlying54 sizeOf53 rfl rfl rfl (by first | omega | exact hn | decide)) ?_
 refine J 1 ?_
 refine .p (.aE 7 underlying39 sizeOf38 rfl rfl rfl (by first | omega | exact hn | decide)) ?_
 refine .d3 rfl (af.qC sizeOf38 rfl rfl (by first | omega | exact hn) (by first | omega | decide)) ?_
 rintro _ _ ⟨rfl,rfl⟩
 exact JR 1 ()
theorem gj{W:World}{ba b:Nat}{v:RV}{a:RA}{why into x y:Int}(hn:a.n<16)(hr:a.s.av.length≤1000000000):Fn Tryz.prog W 133 [ptr ba,.int .i64 why,.int .i64 into,.int .u64 x,.int .u64 y] [cy ba b v a] Unit (fun _=>.tuple #[]) (fun _=>True) (fun _=>[cy ba b v (a.stop why into x y)]):=by
 refine Fn.intro (N:=61) func133 rfl ntmps133 rfl fun F=>?_
 show ax _ _ _ _ _ _ [cy ba b v a,F]
 refine J 5 ?_
 refine .c call88 rfl (kY hn hr) fun _ _=>?_
 refine .o2 (C:=cy ba b v (a.say x y 0 false)) .auto rfl ?_
 rintro vw vl -
 refine .fr (A:=bP b v (a.say x y 0 false).s) .auto bu ?_
 refine J 3 ?_
 refine .draw [arr ba 0 (kX b (a.say x y 0 false) vw vl)] [1,1,1,1,1,1,1,1,1,1,1,1,1,3] rfl (by kernel_rfl) ?_
 refine J 11 ?_
 refine .p (.aE _ underlying54 sizeOf53 rfl rfl rfl (by first | omega | exact hn | decide)) ?_
 refine J 1 ?_
 refine .d3 rfl (af.Gw sizeOf3 rfl rfl (by first | omega | exact hn)) ?_
 rintro _ _ ⟨rfl,rfl⟩
 refine J 3 ?_
 refine .draw [arr ba 0 (kX b (a.say x y 0 false) vw vl)] [1,1,1,1,1,1,1,1,1,1,1,1,1,1,1,1,1,3] rfl (by kernel_rfl) ?_
 refine J 15 ?_
 refine .p (.aE _ underlying54 sizeOf53 rfl rfl rfl (by first | omega | exact hn | decide)) ?_
 refine J 1 ?_
 refine .d3 rfl (af.Li sizeOf3 rfl rfl (by first | omega | exact hn)) ?_
 rintro _ _ ⟨rfl,rfl⟩
 refine J 3 ?_
 refine .draw [arr ba 0 (kX b (a.say x y 0 false) vw vl)] [1,1,1,1,1,1,1,1,1,1,1,1,1,3] rfl (by kernel_rfl) ?_
 refine J 11 ?_
 refine .p (.aE _ underlying54 sizeOf53 rfl rfl rfl (by first | omega | exact hn | decide)) ?_
 refine J 1 ?_
 refine .d3 rfl (af.Hz sizeOf3 rfl rfl (by first | omega | exact hn)) ?_
 rintro _ _ ⟨rfl,rfl⟩
 refine J 9 ?_
 simp only[dz,oK]
 exact JR 0 ()
theorem jl{W:World}{ba b:Nat}{v:RV}{a:RA}{n:Nat}{y:Int}(hn:n<16)(hi:0≤(a.s.thr n).into∧(a.s.thr n).into≤8)(hl:a.late.length≤1000000)(hw:a.e.aC.length≤1000000):Fn Tryz.prog W 126 [ptr ba,.int .i64 (n:Int),.int .u64 y] [cy ba b v a] Unit (fun _=>.tuple #[]) (fun _=>True) (fun _=>[cy ba b v (a.free n y)]):=by
 refine Fn.intro (N:=34) func126 rfl ntmps126 rfl fun F=>?_
 show ax _ _ _ _ _ _ [cy ba b v a,F]
 refine .o2 (C:=cy ba b v (a)) .auto rfl ?_
 rintro vw vl -
 refine .fr (A:=bP b v (a).s) .auto bu ?_
 refine J 1 ?_
 refine .draw [arr ba 0 (kX b (a) vw vl)] [0,0,0,0,0,1,1,1,1,1,1,2,2,2,1,1,3] rfl (by kernel_rfl) ?_
 refine J 11 ?_
 refine .c2 call95 rfl (oM hn hi) fun _ _=>?_
 refine .d2 rfl Kept.auto (af.gD 101 rfl rfl (by kernel_rfl)) (by rintro _ _ ⟨b18,rfl,rfl⟩;exact Kept.auto) ?_
 rintro _ _ ⟨b18,rfl,rfl⟩
 refine .d2 rfl Kept.auto (af.fj (enc:=dr) (k:=6) ((a.s.t n).dE y) rfl underlying49 underlying49 typeInfo101 rfl rfl rfl (by decide) rfl rfl rfl .auto rfl .auto (by omega) rfl) (by rintro _ _ ⟨v19,rfl,rfl⟩;exact Kept.auto) ?_
 rintro _ _ ⟨v19,rfl,rfl⟩
 refine J 2 ?_
 refine .d3 rfl (af.qf sizeOf49 rfl rfl rfl) ?_
 rintro _ _ ⟨rfl,rfl⟩
 refine J 10 ?_
 refine .aw rfl (af.gD 3 rfl rfl (by kernel_rfl)) ?_
 rintro _ _ ⟨b29,rfl,rfl⟩
 refine .aw rfl (af.fj (enc:=aH) (k:=1) (n:Int) rfl underlying23 underlying23 typeInfo3 rfl rfl rfl (by decide) rfl rfl rfl .auto rfl .auto (by omega) rfl) ?_
 rintro _ _ ⟨v30,rfl,rfl⟩
 refine J 3 ?_
 refine .aw rfl (af.qf sizeOf23 rfl rfl rfl) ?_
 rintro _ _ ⟨rfl,rfl⟩
 exact JR 1 ()
end Go.SLYtefdijgllbkmfaaGreat
