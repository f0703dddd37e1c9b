/- Walks of functions, and what they compute. Conditions: none, this text proves no statement. -/
import Derived.Test.YthncobnjdhjnoaaGreatG05
import Derived.Test.YthncobnjdhjnoaaGreatProg
import Derived.Shelf.Sort.Plain
import Derived.Shelf.Slices.In.SortNone
import Derived.Lib.SortBridge
import Derived.Test.YthncobnjdhjnoaaGreatG08
import Derived.KernelRfl
import Derived.Test.YthncobnjdhjnoaaGreatG04
import Derived.Test.YthncobnjdhjnoaaGreatG03
import Derived.Test.YthncobnjdhjnoaaGreatG07
set_option maxRecDepth 20000
set_option maxHeartbeats 4000000
namespace Go.SLYthncobnjdhjnoaaGreat
open Go Go.RowKit Go.Proofs
end Go.SLYthncobnjdhjnoaaGreat
namespace Go.Proofs
open Go.Shelf
def Tryz.lays189_ren:Go.Shelf.Ren:=⟨fun | 189=>102 | 125=>128 | 257=>127 | 128=>147 | 129=>148 | 294=>138 | 295=>139 | 296=>140 | 297=>141 | 298=>142 | 299=>143 | 216=>144 | 300=>145 | 301=>146 | 328=>164 | 329=>165 | 330=>166 | 331=>167 | 332=>168 | 215=>169 | 343=>191 | n=>n,fun | 28=>33 | 3=>3 | 46=>136 | 0=>0 | 51=>194 | 53=>86 | 4=>4 | 183=>235 | 182=>234 | 131=>44 | 5=>5 | 9=>9 | 218=>250 | 222=>253 | 228=>282 | 229=>283 | n=>n,fun | n=>n⟩
theorem Tryz.lays189:Go.Proofs.Lays.n189 Tryz.prog Tryz.lays189_ren:={
 mixed:=by kernel_rfl
 f125:=Tryz.func128.trans (congrArg some (by kernel_rfl))
 f128:=Tryz.func147.trans (congrArg some (by kernel_rfl))
 f129:=Tryz.func148.trans (congrArg some (by kernel_rfl))
 f189:=Tryz.func102.trans (congrArg some (by kernel_rfl))
 f215:=Tryz.func169.trans (congrArg some (by kernel_rfl))
 f216:=Tryz.func144.trans (congrArg some (by kernel_rfl))
 f257:=Tryz.func127.trans (congrArg some (by kernel_rfl))
 f294:=Tryz.func138.trans (congrArg some (by kernel_rfl))
 f295:=Tryz.func139.trans (congrArg some (by kernel_rfl))
 f296:=Tryz.func140.trans (congrArg some (by kernel_rfl))
 f297:=Tryz.func141.trans (congrArg some (by kernel_rfl))
 f298:=Tryz.func142.trans (congrArg some (by kernel_rfl))
 f299:=Tryz.func143.trans (congrArg some (by kernel_rfl))
 f300:=Tryz.func145.trans (congrArg some (by kernel_rfl))
 f301:=Tryz.func146.trans (congrArg some (by kernel_rfl))
 f328:=Tryz.func164.trans (congrArg some (by kernel_rfl))
 f329:=Tryz.func165.trans (congrArg some (by kernel_rfl))
 f330:=Tryz.func166.trans (congrArg some (by kernel_rfl))
 f331:=Tryz.func167.trans (congrArg some (by kernel_rfl))
 f332:=Tryz.func168.trans (congrArg some (by kernel_rfl))
 f343:=Tryz.func191.trans (congrArg some (by kernel_rfl))
 t0:=Tryz.underlying0
 a0:=Tryz.isAgg0
 z0:=Tryz.sizeOf0
 v0:=Tryz.zeroValue0
 t3:=Tryz.underlying3
 a3:=Tryz.isAgg3
 z3:=Tryz.sizeOf3
 v3:=Tryz.zeroValue3
 t4:=Tryz.underlying4
 a4:=Tryz.isAgg4
 z4:=Tryz.sizeOf4
 v4:=Tryz.zeroValue4
 t5:=Tryz.underlying5
 a5:=Tryz.isAgg5
 z5:=Tryz.sizeOf5
 v5:=Tryz.zeroValue5
 t9:=Tryz.underlying9
 a9:=Tryz.isAgg9
 z9:=Tryz.sizeOf9
 v9:=Tryz.zeroValue9
 t28:=Tryz.underlying33
 a28:=Tryz.isAgg33
 z28:=Tryz.sizeOf33
 v28:=Tryz.zeroValue33
 t46:=Tryz.underlying136
 a46:=Tryz.isAgg136
 z46:=Tryz.sizeOf136
 v46:=Tryz.zeroValue136
 t51:=Tryz.underlying194
 a51:=Tryz.isAgg194
 z51:=Tryz.sizeOf194
 v51:=Tryz.zeroValue194
 t53:=Tryz.underlying86
 a53:=Tryz.isAgg86
 z53:=Tryz.sizeOf86
 v53:=Tryz.zeroValue86
 t131:=Tryz.underlying44
 a131:=Tryz.isAgg44
 z131:=Tryz.sizeOf44
 v131:=Tryz.zeroValue44
 t182:=Tryz.underlying234
 a182:=Tryz.isAgg234
 z182:=Tryz.sizeOf234
 v182:=Tryz.zeroValue234
 t183:=Tryz.underlying235
 a183:=Tryz.isAgg235
 z183:=Tryz.sizeOf235
 v183:=Tryz.zeroValue235
 t218:=Tryz.underlying250
 a218:=Tryz.isAgg250
 z218:=Tryz.sizeOf250
 v218:=Tryz.zeroValue250
 t222:=Tryz.underlying253
 a222:=Tryz.isAgg253
 z222:=Tryz.sizeOf253
 v222:=Tryz.zeroValue253
 t228:=Tryz.underlying282
 a228:=Tryz.isAgg282
 z228:=Tryz.sizeOf282
 v228:=Tryz.zeroValue282
 t229:=Tryz.underlying283
 a229:=Tryz.isAgg283
 z229:=Tryz.sizeOf283
 v229:=Tryz.zeroValue283 }
open Go.Sort Go.RowKit in
theorem Tryz.slices_Sort_int(blk off cap:Nat)(zs:List Int)(w:World)(hH:Holds (Value.int .i64) w blk off zs.toArray)(hblk:blk<w.heap.size)(hsz:zs.length<4611686018427387904) :
  Calls Tryz.prog 102 #[.slice (some ⟨blk,off,none⟩) zs.length cap] w fun e w' =>
   e = .returned (.tuple #[])∧ ∃ n os,w'=grow (putRow (Value.int .i64) (Sort.ahead w n) blk off (zs.mergeSort fun x y=>decide (x≤y)).toArray) os:=Any.slices_Sort_int Tryz.lays189 blk off cap zs w hH hblk hsz
open Go.RowKit Go.Sort in
theorem Tryz.slices_Sort_int_none(p:Option Addr)(cap:Nat)(w:World) :
  Calls Tryz.prog 102 #[.slice p 0 cap] w fun e w'=>e = .returned (.tuple #[])∧w'=w:=Any.slices_Sort_int_none Tryz.lays189 p cap w
end Go.Proofs
namespace Go.SLYthncobnjdhjnoaaGreat
open Go Go.RowKit Go.Sort Go.Proofs
theorem lD:∀ l:List Int,rows ar l=l.map (Value.int .i64)
 | []=>rfl
 | x::l=>by rw[eD,lD l];rfl
theorem Sat.setCells{W:World}{R:aa}{b:Nat}:∀ (vs:List Value) {off:Nat} {w:World} {pre post:List Value} (cs:List Value),cs.length=vs.length→pre.length=off→Sat W w (sep (arr b 0 (pre++cs++post)) R)→Sat W (w.setCells b off vs) (sep (arr b 0 (pre++vs++post)) R)
 | [],off,w,pre,post,cs,hl,hp,s=>by
  obtain rfl:=List.eq_nil_of_length_eq_zero hl
  exact s
 | v::vs,off,w,pre,post,cs,hl,hp,s=>by
  obtain⟨c,cs,rfl⟩:∃ c r,cs=c::r:=by
   cases cs with
   | nil=>cases hl
   | cons c r=>exact⟨c,r,rfl⟩
  have h1:=Sat.setCell (off:=0) s (i:=off) v (by simp;omega)
  rw[Nat.zero_add] at h1
  have e:(pre++(c::cs)++post).set off v=(pre++[v])++cs++post:=by
   subst hp
   simp
  rw[e] at h1
  have:=Sat.setCells vs (off:=off+1) (pre:=pre++[v]) (post:=post) cs (by simpa using hl) (by simp[hp]) h1
  show Sat W ((w.setCell ⟨b,off,none⟩ v).setCells b (off+1) vs) _
  simpa using this
theorem Jt{W:World}{v:Value}{xs:List Int}(hl:xs.length≤1000000000):Fn Tryz.prog W 102 [v] [sl ar 1 v xs] Unit (fun _=>.tuple #[]) (fun _=>True) (fun _=>[sl ar 1 v (fK xs)]):=fun F w hs=>by
 simp only[seps,aH] at hs ⊢
 rcases hs.pF with ⟨⟨a,rfl⟩,rfl,s⟩ | ⟨b,cap,sp,rfl,hle,hk,hsp,s⟩
 ·refine(Go.Proofs.Tryz.slices_Sort_int_none a 0 w).mono fun e w' ⟨he,hw⟩=>⟨(),he,trivial,?_⟩
  rw[hw];exact hs
 ·have hrow:∀ j,j<xs.length→(rows ar xs++sp)[j]?=some (.int .i64 (xs.getD j 0)):=fun j hj=>by
   rw[lD,List.getElem?_append_left (by simpa using hj),List.getElem?_map,getD_some (d:=0) hj];rfl
  have hH:Holds (Value.int .i64) w b 0 xs.toArray:=fun j hj=>by
   have hj':j<xs.length:=by simpa using hj
   obtain⟨h1,h2⟩:=eL s (hrow j hj')
   refine⟨?_,qw s (i:=j) (List.getElem?_eq_some_iff.1 (hrow j hj')).1⟩
   rw[h2]
   congr 1
   congr 1
   rw[getElem!_pos xs.toArray j hj]
   simp[List.getD_eq_getElem?_getD,hj']
  by_cases hx0:xs=[]
  ·subst hx0
   refine(Go.Proofs.Tryz.slices_Sort_int_none (some ⟨b,0,none⟩) cap w).mono fun e w' ⟨he,hw⟩=>⟨(),he,trivial,?_⟩
   rw[hw];exact hs
  ·have hb:b<w.heap.size:=by
    have hpos:0<xs.length:=by
     rcases Nat.eq_zero_or_pos xs.length with h | h
     ·exact absurd (List.eq_nil_of_length_eq_zero h) hx0
     ·exact h
    exact ur (eL s (hrow 0 hpos)).2
   refine(Go.Proofs.Tryz.slices_Sort_int b 0 cap xs w hH hb (by omega)).mono fun e w' ⟨he,q,os,hw⟩=>⟨(),he,trivial,?_⟩
   rw[hw,zO,Lib.sorted_world (Value.int .i64) w b 0 q xs.toArray (fK xs) os hH (by rw[jM];simp)]
   have s1:Sat W (w.drewN q) (sep (arr b 0 ([]++rows ar xs++sp)) F):=s.below ⟨rfl,rfl,rfl,Nat.le_refl _,fun _ _=>rfl⟩
   have s2:=Sat.setCells ((fK xs).map (Value.int .i64)) (off:=0) (pre:=[]) (post:=sp) (rows ar xs) (by rw[lD];simp[jM]) rfl s1
   have s3:Sat W (grow ((w.drewN q).setCells b 0 ((fK xs).map (Value.int .i64))) os) (sep (arr b 0 ([]++(fK xs).map (Value.int .i64)++sp)) F):=s2.below ⟨rfl,rfl,rfl,by simp[grow],fun k hk=>by simp[grow,Array.getElem?_append_left hk]⟩
   rw[List.nil_append, ← lD] at s3
   have:=Sat.mf (enc:=ar) (k:=1) (xs:=fK xs) (cap:=cap) (by rw[jM];exact hle) (fun _ _=>rfl) (by rw[jM];exact hsp) s3
   rwa [jM,lD] at this
end Go.SLYthncobnjdhjnoaaGreat
namespace Go.SLYthncobnjdhjnoaaGreat
open Go Go.RowKit Go.Proofs Go.Proofs.Tryz
attribute [local irreducible] aq aJ ba bq bu Y
theorem xW{W:World}{b:Nat}{w:kK}{who n:Int}(hn:0≤w.now∧w.now≤1099511627776):Fn Tryz.prog W 209 [ptr b,.int .i64 who,.int .i64 n] [my b w] Unit (fun _=>.int .i64 (w.sleep who n).1) (fun _=>True) (fun _=>[my b (w.sleep who n).2]):=by
 refine Fn.intro (N:=38) func209 rfl ntmps209 rfl fun F=>?_
 show aq _ _ _ _ _ _ [my b w,F]
 refine .o1 (C:=my b w) .auto rfl ?_
 rintro m -
 refine J 16 ?_
 apply aJ.fY 3 17 14 [14,15,16,17] rfl
 ·intro h14
  exact JS 4
 ·intro h14
  exact JS 4
 refine JD 3 (fun h7=>?_) fun h7=>?_
 ·refine J 8 ?_
  rw[show w.sleep who n=(1,w) from by unfold kK.sleep;rw[if_pos (by simpa using h7)]]
  exact JR 0 ()
 ·refine J 7 ?_
  refine .p (.Js underlying168 underlying3 zeroValue3 rfl rfl .auto) ?_
  refine JD 4 (fun h18=>?_) fun h18=>?_
  ·refine J 8 ?_
   rw[show w.sleep who n=(4,w) from by unfold kK.sleep;rw[if_neg (by simpa using h7),if_pos h18]]
   exact JR 0 ()
  ·refine J 4 ?_
   refine .draw [] [1,1,1,1,1,1,1,1,1,1,1,1,3] rfl (by kernel_rfl) ?_
   simp only[Bool.or_eq_false_iff,decide_eq_false_iff_not] at h7
   refine J 10 ?_
   refine .p (.add rfl rfl (by omega)) ?_
   refine .p (.jq rfl rfl) ?_
   refine .d3 rfl (ab.mapSet underlying168 underlying3 rfl rfl rfl .auto) ?_
   rintro _ _ ⟨rfl,rfl⟩
   refine J 8 ?_
   rw[show w.sleep who n=(0,{w with gx:=mapSet w.gx who (min (w.now+n) 1099511627776) }) from by unfold kK.sleep;rw[if_neg (by omega),if_neg h18]]
   exact JR 0 ()
theorem zP{W:World}{b:Nat}{w:kK}(hn:0≤w.now∧w.now≤1099511627776)(hl:w.gx.length≤1000000):Fn Tryz.prog W 76 [ptr b] [my b w] Value (fun u=>u) (fun _=>True) (fun u=>[sl ar 1 u w.due,my b w.tick.2]):=by
 refine Fn.intro (N:=54) func76 rfl ntmps76 rfl fun F=>?_
 show aq _ _ _ _ _ _ [my b w,F]
 refine .o1 (C:=my b w) .auto rfl ?_
 rintro m -
 refine J 12 ?_
 refine .eN rfl ?_
 refine J 9 ?_
 refine .p (.add rfl rfl (by omega)) ?_
 refine .p (.jq rfl rfl) ?_
 refine J 17 ?_
 refine .o2 (C:=mu m w.gx) .auto rfl ?_
 rintro es c ho
 have hel:es.length=w.gx.length:=by have:=congrArg List.length ho.1;simpa using this
 refine .ai rfl (ab.IB rfl underlying168 rfl .auto) ?_
 rintro _ _ ⟨it,rfl,rfl⟩
 refine J 3 ?_
 refine .bf (X:=List MapEntry×Value) [3,4,5,24,25,26,27,28,29,30,31,32,33,34,35,36,37,38] (fun z=>es.length+1-z.1.length) (fun z=>gW es z.1) (fun z=>[(3,some z.2)]) (fun z=>[Hl it m c z.1,sl ar 1 z.2 (jN (min (w.now+1) 1099511627776) z.1),ig m (.map es.toArray c),arr b 0 [.int .i64 (min (w.now+1) 1099511627776),.map (some m)],F]) ([],.slice none 0 0) ?_ ?_ ?_ ?_
 ·exact gW.zero es
 ·exact⟨rfl,trivial⟩
 ·exact fun w s=>au.kept .auto w s
 rintro⟨seen,u⟩ hS
 simp only at hS
 have hSl:=hS.len
 have hdl:=GN (min (w.now+1) 1099511627776) seen
 refine J 2 ?_
 refine .ai rfl (ab.dB rfl rfl .auto .auto ho.2.2.1) ?_
 rintro _ _ ⟨o,ho2,rfl,rfl⟩
 refine .p (.extract (vs:=nextA o) rfl (IA o)) ?_
 refine JD 3 (fun h25=>?_) fun h25=>?_
 ·refine J 5 ?_
  obtain⟨e,rfl⟩:∃ e,o=some e:=Option.isSome_iff_exists.1 h25
  obtain⟨he,hne⟩:=ho2.2 e rfl
  have hkv:=(E8 ho).2 e he
  have hS2:=hS.next he hne
  have hS3:=hS2.len
  rw[List.length_append] at hS3
  simp only[List.length_cons,List.length_nil] at hS3
  refine .p (.IC rfl .auto .auto he ho.2.2.2) ?_
  rw[hkv.1,hkv.2]
  refine JD 16 (fun h34=>?_) fun h34=>?_
  ·refine J 3 ?_
   refine .ai rfl (ab.fG 3 rfl rfl (by kernel_rfl)) ?_
   rintro _ _ ⟨b37,rfl,rfl⟩
   refine .ai rfl (ab.gv (enc:=ar) (k:=1) (rX e).1 rfl underlying33 underlying33 typeInfo3 rfl rfl rfl (by decide) rfl rfl rfl .auto rfl .auto (by dsimp only;omega) rfl) ?_
   rintro _ _ ⟨v38,rfl,rfl⟩
   refine J 3 ?_
   refine .aF (seen++[e],v38) .auto rfl ?_ ?_ ?_ ?_
   ·show es.length+1-(seen++[e]).length<es.length+1-seen.length;rw[List.length_append];simp only[List.length_cons,List.length_nil];omega
   ·exact hS2
   ·exact⟨rfl,trivial⟩
   ·show ∀ w,Sat _ w _→Sat _ w (seps [_,sl ar 1 v38 (jN _ (seen++[e])),_,_,F])
    rw[GM h34]
    exact fun w s=>au.kept .auto w s
  ·refine J 2 ?_
   refine .aF (seen++[e],u) .auto rfl ?_ ?_ ?_ ?_
   ·show es.length+1-(seen++[e]).length<es.length+1-seen.length;rw[List.length_append];simp only[List.length_cons,List.length_nil];omega
   ·exact hS2
   ·exact⟨rfl,trivial⟩
   ·show ∀ w,Sat _ w _→Sat _ w (seps [_,sl ar 1 u (jN _ (seen++[e])),_,_,F])
    rw[ID h34]
    exact fun w s=>au.kept .auto w s
 ·have hall:=ho2.1 (by cases o with
   | none=>rfl
   | some e=>cases h25)
  refine J 8 ?_
  refine .to (A:=mu m w.gx) (Bs:=[ig m (.map es.toArray c)]) .auto (fun h a=>⟨es,c,ho,a⟩) ?_
  refine .c call102 rfl (Jt (xs:=jN (min (w.now+1) 1099511627776) seen) (by omega)) fun _ _=>?_
  rw[Be ho hS hall]
  have hdw:w.due.length≤1000000:=by rw[← Be ho hS hall,jM];omega
  refine J 11 ?_
  refine .bf (X:=Nat) [7,43,44,45,46,47,48,49,50,51,52] (fun k=>w.due.length-k) (fun k=>k≤w.due.length) (fun k=>[(43,some (.int .i64 (k:Int)))]) (fun k=>[mu m ((w.due.take k).foldl fH w.gx),sl ar 1 u w.due,arr b 0 [.int .i64 (min (w.now+1) 1099511627776),.map (some m)],F]) 0 ?_ ?_ ?_ ?_
  ·exact Nat.zero_le _
  ·exact⟨rfl,trivial⟩
  ·exact fun w s=>au.kept .auto w s
  rintro k hk
  refine JD 6 (fun h44=>?_) fun h44=>?_
  ·obtain⟨x,hx⟩:=al (show k<w.due.length by omega)
   refine J 7 ?_
   refine .p (.lr rfl hx) ?_
   refine J 9 ?_
   refine .ai rfl (ab.fH underlying168 underlying3 rfl rfl .auto rfl) ?_
   rintro _ _ ⟨rfl,rfl⟩
   refine J 7 ?_
   refine .aF (k+1) .auto rfl ?_ ?_ ?_ ?_
   ·omega
   ·omega
   ·exact⟨rfl,trivial⟩
   ·show ∀ w2,Sat _ w2 _→Sat _ w2 (seps [mu m ((w.due.take (k+1)).foldl fH w.gx),_,_,F])
    rw[bj hx,List.foldl_append]
    exact fun w s=>au.kept .auto w s
  ·obtain rfl:k=w.due.length:=by omega
   rw[List.take_length]
   refine J 12 ?_
   show bq W 54 (bodyPost _ _ (fun e w2=>∃ u,e=_∧True∧Sat W w2 (sep (seps [sl ar 1 u w.due,my b ⟨min (w.now+1) 1099511627776,w.due.foldl fH w.gx⟩]) F))) _ _ _
   exact JR 0 u
end Go.SLYthncobnjdhjnoaaGreat
namespace Go.SLYthncobnjdhjnoaaGreat
open Go Go.RowKit Go.Proofs Go.Proofs.Tryz
attribute [local irreducible] aq aJ ba bq bu Y
theorem ud{W:World}{bd b p:Nat}{ps:List (Option Nat)}{d:Dng}{h:Int}(h0:0≤h)(hT:iq d.s.table)(hs:∀ n,bo d.s.table h=some n→bC ps d.s n):Fn Tryz.prog W 175 [ptr bd,.int .u64 h] [bc bd b p ps d] Unit (fun _=>.tuple #[.int .i64 (((d.other h).1:Nat):Int),.int .i64 (d.other h).2]) (fun _=>True) (fun _=>[bc bd b p ps d]):=by
 refine Fn.intro (N:=60) func175 rfl ntmps175 rfl fun F=>?_
 show aq _ _ _ _ _ _ [bc bd b p ps d,F]
 refine .o2 (C:=bc bd b p ps d) .auto rfl ?_
 rintro vw ve -
 refine .iQ (C:=cn b ps d.s) .auto rfl ?_
 rintro fv sv pv bt vm bg vt bk bw vr -
 refine J 16 ?_
 refine .c call193 rfl (tU hT h0) fun _ _=>?_
 refine J 1 ?_
 refine .p (.extract (v:=.int .i64 (((bo d.s.table h).getD 0:Nat):Int)) rfl rfl) ?_
 refine .p (.extract (v:=.bool (bo d.s.table h).isSome) rfl rfl) ?_
 refine J 8 ?_
 obtain⟨m,hm⟩:∃ m,m=(bo d.s.table h).getD 0:=⟨_,rfl⟩
 rw[← hm]
 refine J 3 ?_
 refine .part (t:=23) rfl (fun h23=>?_) (fun h23=>?_)
 ·refine J 24 ?_
  refine .eM rfl ?_
  refine J 9 ?_
  rw[rp (Option.isNone_iff_eq_none.mp (by simpa using h23))]
  exact JR 0 ()
 ·obtain⟨n,hf⟩:∃ n,bo d.s.table h=some n:=Option.isSome_iff_exists.mp (by simpa using h23)
  obtain rfl:m=n:=by rw[hm,hf];rfl
  obtain⟨hm16,q,u,hq,hu,hR⟩:=hs m hf
  refine .fr .auto (bN hq hu) ?_
  refine J 8 ?_
  refine .wc (t:=31) rfl (fun h31=>?_) (fun h31=>?_)
  ·refine J 16 ?_
   refine .eM rfl ?_
   refine J 9 ?_
   refine .to (A:=ax ps d.s.aA) (Bs:=[arr q 0 (bb u),ax (ps.set m none) (d.s.aA.set m none)]) .auto (bH hq hu) ?_
   rw[ke hf hu (.inl (Int.ofNat_inj.mp h31))]
   exact JR 0 ()
  ·refine J 7 ?_
   refine .g (.dh m underlying107 sizeOf106 rfl rfl rfl hm16) ?_
   refine .g (.ld rfl (Cell.a (by rw[Nat.mul_one,ej hm16,bx hq]))) ?_
   refine JD 7 (fun h20=>?_) fun h20=>?_
   ·refine J 9 ?_
    refine .to (A:=ax ps d.s.aA) (Bs:=[arr q 0 (bb u),ax (ps.set m none) (d.s.aA.set m none)]) .auto (bH hq hu) ?_
    rw[ke hf hu (.inr h20)]
    exact JR 0 ()
   ·have hno:¬(m=d.n∨u.bB=true):=fun hh=>hh.elim (fun e=>h31 (Int.ofNat_inj.mpr e)) (fun e=>by rw[h20] at e;cases e)
    refine J 9 ?_
    refine .p (.dh m underlying107 sizeOf106 rfl rfl rfl hm16) ?_
    refine .p (.ld rfl (Cell.a (by rw[Nat.mul_one,ej hm16,bx hq]))) ?_
    refine JD 7 (fun h45=>?_) fun h45=>?_
    ·refine J 9 ?_
     refine .to (A:=ax ps d.s.aA) (Bs:=[arr q 0 (bb u),ax (ps.set m none) (d.s.aA.set m none)]) .auto (bH hq hu) ?_
     rw[mH hf hu hno h45]
     exact JR 0 ()
    ·refine J 11 ?_
     refine .to (A:=ax ps d.s.aA) (Bs:=[arr q 0 (bb u),ax (ps.set m none) (d.s.aA.set m none)]) .auto (bH hq hu) ?_
     rw[rq hf hu hno (Decidable.byContradiction h45)]
     exact JR 0 ()
theorem zQ{W:World}{bd b p:Nat}{ps:List (Option Nat)}{d:Dng}{t:bA}(hp:ps[d.n]?=some (some p))(ht:d.s.aA[d.n]?=some (some t))(hk:gV ps d t):Fn Tryz.prog W 157 [ptr bd] [bc bd b p ps d] (List (Option Nat)) (fun _=>.tuple #[]) (fun _=>True) (fun qs=>[bc bd b p qs d.fq]):=by
 refine Fn.intro (N:=51) func157 rfl ntmps157 rfl fun F=>?_
 show aq _ _ _ _ _ _ [bc bd b p ps d,F]
 refine J 3 ?_
 refine .c call158 rfl (tW hp ht hk.I.a) fun _ _=>?_
 have hx0:0≤d.a:=by
  unfold Dng.a;rw[cP ht];exact(hk.R.r _).1
 obtain⟨x,hx⟩:∃ x,x=d.a:=⟨_,rfl⟩
 rw[← hx]
 rw[← hx] at hx0
 refine J 7 ?_
 refine .c call175 rfl (ud hx0 hk.T (hk.slot x)) fun _ _=>?_
 refine J 1 ?_
 refine .p (.extract (v:=.int .i64 (((d.other x).1:Nat):Int)) rfl rfl) ?_
 refine .p (.extract (v:=.int .i64 (d.other x).2) rfl rfl) ?_
 refine JD 13 (fun h24=>?_) fun h24=>?_
 ·refine J 7 ?_
  refine .c call155 rfl (cc hp ht (Nat.le_trans hk.aB (by decide)) nQ hk.R.l) fun _ _=>?_
  refine J 1 ?_
  rw[show d.fq=d.pass x 0 (d.other x).2 from by unfold Dng.fq;rw[← hx];simp only;rw[if_pos h24]]
  exact JR 0 ps
 ·have hz:(d.other x).2=0:=Decidable.byContradiction h24
  obtain⟨m,q,u,hf,ho1,hmn,hm16,hq,hu,hRu,hdt,hjo⟩:=rr (hk.slot x) hz
  rw[ho1,hz]
  refine J 2 ?_
  refine .o2 (C:=bc bd b p ps (d)) .auto rfl ?_
  rintro vw ve -
  refine .iQ (C:=cn b ps (d).s) .auto rfl ?_
  rintro fv sv pv bt vm bg vt bk bw vr -
  refine .fr .auto (bN hq hu) ?_
  refine J 7 ?_
  refine .p (.dh m underlying107 sizeOf106 rfl rfl rfl hm16) ?_
  refine .p (.ld rfl (Cell.a (by rw[Nat.mul_one,ej hm16,bx hq]))) ?_
  refine JD 7 (fun h27=>?_) fun h27=>?_
  ·refine J 1 ?_
   refine .to (A:=ax ps d.s.aA) (Bs:=[arr q 0 (bb u),ax (ps.set m none) (d.s.aA.set m none)]) .auto (bH hq hu) ?_
   refine J 5 ?_
   refine .c call151 rfl (lZ (s:=d.s) hq hu hk.lt hk.lp hk.T hRu.h.1) fun _ _=>?_
   refine J 7 ?_
   refine .c call155 rfl (cc (d:=d.free m) (ps:=ps.set m none) (p:=p) (t:=t) (by show(ps.set m none)[d.n]?=_;rw[List.getElem?_set_ne hmn];exact hp) (by show(d.s.aA.set m none)[d.n]?=_;rw[List.getElem?_set_ne hmn];exact ht) (Nat.le_trans hk.aB (by decide)) (by decide) hk.R.l) fun _ _=>?_
   refine J 1 ?_
   rw[show d.fq=(d.free m).pass x 0 0 from by unfold Dng.fq;rw[← hx];simp only;rw[if_neg (by rw[hz];simp),ho1,dC hu,if_pos h27]]
   refine .Bn rfl fun w s=>⟨ps.set m none,?_,trivial,aj .auto s⟩
   rfl
  ·refine J 8 ?_
   refine .p (.dh m underlying107 sizeOf106 rfl rfl rfl hm16) ?_
   refine .p (.ld rfl (Cell.a (by rw[Nat.mul_one,ej hm16,bx hq]))) ?_
   refine J 3 ?_
   rw[Gc]
   refine J 7 ?_
   refine .to (A:=ax ps (d.s.aA.set m (some ({u with bB:=true })))) (Bs:=[arr q 0 (bb ({u with bB:=true })),ax (ps.set m none) (d.s.aA.set m none)]) .auto (cq (List.getElem?_eq_some_iff.1 hu).1 hq) ?_
   refine .c call155 rfl (cc (d:={d with s:=d.s.aT m {u with bB:=true } }) (ps:=ps) (p:=p) (t:=t) hp (eW ht hmn) (Nat.le_trans hk.aB (by decide)) (by decide) hk.R.l) fun _ _=>?_
   refine J 1 ?_
   rw[show d.fq=({d with s:=d.s.aT m {u with bB:=true } }:Dng).pass x 0 0 from by unfold Dng.fq;rw[← hx];simp only;rw[if_neg (by rw[hz];simp),ho1,dC hu,if_neg h27]]
   exact JR 0 ps
theorem Fe{W:World}{bd b p:Nat}{ps:List (Option Nat)}{d:Dng}{t:bA}(hp:ps[d.n]?=some (some p))(ht:d.s.aA[d.n]?=some (some t))(hk:gV ps d t):Fn Tryz.prog W 156 [ptr bd] [bc bd b p ps d] (List (Option Nat)) (fun _=>.tuple #[]) (fun _=>True) (fun qs=>[bc bd b p qs d.join]):=by
 refine Fn.intro (N:=94) func156 rfl ntmps156 rfl fun F=>?_
 show aq _ _ _ _ _ _ [bc bd b p ps d,F]
 have hIa:=hk.I.a
 have hRl:=hk.R.l
 refine J 3 ?_
 refine .c call174 rfl (Hj hp ht hk.I.b) fun _ _=>?_
 have hx0:0≤d.b:=by
  unfold Dng.b;rw[cP ht];exact(hk.R.r _).1
 obtain⟨x,hx⟩:∃ x,x=d.b:=⟨_,rfl⟩
 rw[← hx]
 rw[← hx] at hx0
 refine J 7 ?_
 refine .c call175 rfl (ud hx0 hk.T (hk.slot x)) fun _ _=>?_
 refine J 1 ?_
 refine .p (.extract (v:=.int .i64 (((d.other x).1:Nat):Int)) rfl rfl) ?_
 refine .p (.extract (v:=.int .i64 (d.other x).2) rfl rfl) ?_
 refine JD 12 (fun h37=>?_) fun h37=>?_
 ·refine J 4 ?_
  refine .c call155 rfl (cc hp ht (Nat.le_trans hk.aB (by decide)) nQ hk.R.l) fun _ _=>?_
  refine J 2 ?_
  rw[show d.join=d.pass x 0 (d.other x).2 from by unfold Dng.join;rw[← hx];simp only;rw[if_pos h37]]
  exact JR 0 ps
 ·have hz:(d.other x).2=0:=Decidable.byContradiction h37
  obtain⟨m,q,u,hf,ho1,hmn,hm16,hq,hu,hRu,hdt,hjo⟩:=rr (hk.slot x) hz
  rw[ho1,hz]
  refine J 2 ?_
  refine .o2 (C:=bc bd b p ps (d)) .auto rfl ?_
  rintro vw ve -
  refine .iQ (C:=cn b ps (d).s) .auto rfl ?_
  rintro fv sv pv bt vm bg vt bk bw vr -
  refine .fr .auto (bN hq hu) ?_
  refine J 7 ?_
  refine .p (.dh m underlying107 sizeOf106 rfl rfl rfl hm16) ?_
  refine .p (.ld rfl (Cell.a (by rw[Nat.mul_one,ej hm16,bx hq]))) ?_
  refine JD 7 (fun h44=>?_) fun h44=>?_
  ·refine J 9 ?_
   refine .p (.dh m underlying107 sizeOf106 rfl rfl rfl hm16) ?_
   refine .p (.ld rfl (Cell.a (by rw[Nat.mul_one,ej hm16,bx hq]))) ?_
   refine J 7 ?_
   refine .to (A:=ax ps d.s.aA) (Bs:=[arr q 0 (bb u),ax (ps.set m none) (d.s.aA.set m none)]) .auto (bH hq hu) ?_
   refine .fr .auto (bN hp ht) ?_
   refine .draw [arr bd 0 (dH b p d vw ve)] [1,1,1,1,1,1,1,1,1,1,1,1,1,1,3] rfl (by kernel_rfl) ?_
   refine J 13 ?_
   refine .p (.dh d.i.a.toNat underlying139 sizeOf86 rfl rfl (by omega) (by omega)) ?_
   refine .d3 rfl (ab.st sizeOf86 rfl rfl rfl (Nat.blt_eq.mpr (by show 2+d.i.a.toNat * 1<18;omega))) ?_
   rintro _ _ ⟨rfl,rfl⟩
   rw[iB _ (by omega) (by omega) hRl]
   refine .to (A:=ax ps (d.s.aA.set d.n (some (t.put d.i.a u.value)))) (Bs:=[arr p 0 (bb (t.put d.i.a u.value)),ax (ps.set d.n none) (d.s.aA.set d.n none)]) .auto (cq (List.getElem?_eq_some_iff.1 ht).1 hp) ?_
   refine J 9 ?_
   refine .c call151 rfl (lZ (s:=(d.aT (t.put d.i.a u.value)).s) hq (eW hu (Ne.symm hmn)) (by simp[Dng.aT,Spc.aT,hk.lt]) hk.lp hk.T hRu.h.1) fun _ _=>?_
   refine J 6 ?_
   refine .c call155 rfl (cc (d:=(d.aT (t.put d.i.a u.value)).free m) (ps:=ps.set m none) (p:=p) (t:=t.put d.i.a u.value) (by show(ps.set m none)[d.n]?=_;rw[List.getElem?_set_ne hmn];exact hp) (by show((d.aT (t.put d.i.a u.value)).s.aA.set m none)[d.n]?=_;rw[List.getElem?_set_ne hmn];exact cS ht) (Nat.le_trans hk.aB (by decide)) (by decide) (by rw[iR];exact hRl)) fun _ _=>?_
   refine J 2 ?_
   rw[show d.join=((d.aT (t.put d.i.a u.value)).free m).pass x u.value 0 from by unfold Dng.join;rw[← hx];simp only;rw[if_neg (by rw[hz];simp),ho1,dC hu,if_pos h44,cP ht]]
   refine .Bn rfl fun w s=>⟨ps.set m none,?_,trivial,aj .auto s⟩
   rfl
  ·refine J 1 ?_
   refine .draw [arr bd 0 (dH b p d vw ve)] [1,1,1,1,1,1,1,1,1,1,1,1,1,1,1,3] rfl (by kernel_rfl) ?_
   refine J 7 ?_
   refine .p (.dh m underlying107 sizeOf106 rfl rfl rfl hm16) ?_
   refine .p (.ld rfl (Cell.a (by rw[Nat.mul_one,ej hm16,bx hq]))) ?_
   refine J 7 ?_
   rw[ze]
   refine .to (A:=ax ps (d.s.aA.set m (some ({u with av:=d.n })))) (Bs:=[arr q 0 (bb ({u with av:=d.n })),ax (ps.set m none) (d.s.aA.set m none)]) .auto (cq (List.getElem?_eq_some_iff.1 hu).1 hq) ?_
   refine J 10 ?_
   refine .c call176 rfl (fP (d:={d with s:=d.s.aT m {u with av:=d.n } }) (ps:=ps) (p:=p) (t:=t) hp (eW ht hmn) (Nat.le_trans hk.aB (by decide))) fun _ _=>?_
   refine J 2 ?_
   rw[show d.join=({d with s:=d.s.aT m {u with av:=d.n } }:Dng).block 4 d.i.a x 0 from by unfold Dng.join;rw[← hx];simp only;rw[if_neg (by rw[hz];simp),ho1,dC hu,if_neg h44]]
   exact JR 0 ps
theorem Cx{W:World}{bd b p:Nat}{ps:List (Option Nat)}{d:Dng}{t:bA}(hp:ps[d.n]?=some (some p))(ht:d.s.aA[d.n]?=some (some t))(hk:gV ps d t):Fn Tryz.prog W 190 [ptr bd] [bc bd b p ps d] Unit (fun _=>.tuple #[]) (fun _=>True) (fun _=>[bc bd b p ps (d.sleep)]):=by
 refine Fn.intro (N:=34) func190 rfl ntmps190 rfl fun F=>?_
 show aq _ _ _ _ _ _ [bc bd b p ps d,F]
 refine J 3 ?_
 refine .c call158 rfl (tW hp ht hk.I.a) fun _ _=>?_
 have hx0:0≤d.a:=by
  unfold Dng.a;rw[cP ht];exact(hk.R.r _).1
 obtain⟨x,hx⟩:∃ x,x=d.a:=⟨_,rfl⟩
 rw[← hx]
 rw[← hx] at hx0
 refine JD 11 (fun h22=>?_) fun h22=>?_
 ·refine J 3 ?_
  refine .c call155 rfl (cc hp ht (Nat.le_trans hk.aB (by decide)) (by decide) hk.R.l) fun _ _=>?_
  refine J 2 ?_
  rw[show d.sleep=d.pass x 0 0 from by unfold Dng.sleep;rw[← hx];simp only;rw[if_pos h22]]
  exact JR 0 ()
 ·refine JD 7 (fun h28=>?_) fun h28=>?_
  ·refine J 3 ?_
   refine .c call155 rfl (cc hp ht (Nat.le_trans hk.aB (by decide)) (by decide) hk.R.l) fun _ _=>?_
   refine J 2 ?_
   rw[show d.sleep=d.pass x 0 1 from by unfold Dng.sleep;rw[← hx];simp only;rw[if_neg h22,if_pos h28]]
   exact JR 0 ()
  ·refine J 1 ?_
   refine .o2 (C:=bc bd b p ps (d)) .auto rfl ?_
   rintro vw ve -
   refine .iQ (C:=cn b ps (d).s) .auto rfl ?_
   rintro fv sv pv bt vm bg vt bk bw vr -
   refine .draw [arr bd 0 (dH b p d vw ve),arr b 0 (eR fv sv pv d.s.eE bt ps vm bg vt bk bw vr)] [1,1,1,1,1,1,1,1,1,1,1,1,1,3] rfl (by kernel_rfl) ?_
   refine J 12 ?_
   refine .p (.gm underlying86 underlying3 rfl (by omega)) ?_
   refine .c call209 rfl (xW hk.wn) fun _ _=>?_
   refine J 5 ?_
   refine .c call176 rfl (fP (d:=d.td (d.s.aM.sleep d.n x).2) hp ht (Nat.le_trans hk.aB (by decide))) fun _ _=>?_
   refine J 2 ?_
   rw[show d.sleep=(d.td (d.s.aM.sleep d.n x).2).block 8 (-1) x 0 from by unfold Dng.sleep;rw[← hx];simp only;rw[if_neg h22,if_neg h28]]
   exact JR 0 ()
theorem Bf{W:World}{bd b p:Nat}{ps:List (Option Nat)}{d:Dng}{t:bA}(hp:ps[d.n]?=some (some p))(ht:d.s.aA[d.n]?=some (some t))(hk:gV ps d t){block y bR:Int}(hb:0≤block):Fn Tryz.prog W 187 [ptr bd,.int .u64 block,.int .u64 y,.int .i64 bR] [bc bd b p ps d] Unit (fun _=>.tuple #[]) (fun _=>True) (fun _=>[bc bd b p ps (d.ask block y bR)]):=by
 refine Fn.intro (N:=45) func187 rfl ntmps187 rfl fun F=>?_
 show aq _ _ _ _ _ _ [bc bd b p ps d,F]
 refine JD 12 (fun h10=>?_) fun h10=>?_
 ·refine .o2 (C:=bc bd b p ps (d)) .auto rfl ?_
  rintro vw ve -
  refine .iQ (C:=cn b ps (d).s) .auto rfl ?_
  rintro fv sv pv bt vm bg vt bk bw vr -
  refine .draw [arr bd 0 (dH b p d vw ve),arr b 0 (eR fv sv pv d.s.eE bt ps vm bg vt bk bw vr)] [1,1,1,1,1,1,1,1,1,1,1,1,1,1,1,1,1,1,1,1,1,3,1] rfl (by kernel_rfl) ?_
  refine J 12 ?_
  refine .p (.gm underlying86 underlying3 rfl (by omega)) ?_
  refine J 7 ?_
  refine .p (.FJ (fun v1 v2 v3 v4=>[v1,v2,v3,v4]) rfl rfl rfl rfl (by kernel_rfl)) ?_
  refine .c call206 rfl (E7 (r:=(⟨d.n,block,decide (d.i.op=34),y⟩:vZ)) hk.dw) fun _ _=>?_
  refine JD 10 (fun h34=>?_) fun h34=>?_
  ·refine J 6 ?_
   refine .c call155 rfl (cc (d:=d.cN (d.s.cu.ask ⟨d.n,block,decide (d.i.op=34),y⟩).2) hp ht (Nat.le_trans hk.aB (by decide)) D7 hk.R.l) fun _ _=>?_
   refine J 4 ?_
   rw[show d.ask block y bR=(d.cN (d.s.cu.ask ⟨d.n,block,decide (d.i.op=34),y⟩).2).pass block y (d.s.cu.ask ⟨d.n,block,decide (d.i.op=34),y⟩).1 from by unfold Dng.ask;rw[if_pos h10];simp only;rw[if_pos h34]]
   exact JR 0 ()
  ·refine J 7 ?_
   refine .c call176 rfl (fP (d:=d.cN (d.s.cu.ask ⟨d.n,block,decide (d.i.op=34),y⟩).2) hp ht (Nat.le_trans hk.aB (by decide))) fun _ _=>?_
   refine J 1 ?_
   rw[show d.ask block y bR=(d.cN (d.s.cu.ask ⟨d.n,block,decide (d.i.op=34),y⟩).2).block 5 bR block y from by unfold Dng.ask;rw[if_pos h10];simp only;rw[if_neg h34]]
   exact JR 0 ()
 ·refine J 9 ?_
  refine .eM rfl ?_
  refine J 6 ?_
  refine .c call155 rfl (cc hp ht (Nat.le_trans hk.aB (by decide)) (by decide) hk.R.l) fun _ _=>?_
  refine J 4 ?_
  rw[show d.ask block y bR=d.pass block y 1 from by unfold Dng.ask;rw[if_neg h10]]
  exact JR 0 ()
end Go.SLYthncobnjdhjnoaaGreat
namespace Go.SLYthncobnjdhjnoaaGreat
open Go Go.RowKit Go.Proofs Go.Proofs.Tryz
attribute [local irreducible] aq aJ ba bq bu Y
theorem IE{W:World}{bd b p:Nat}{d:Dng}{t:bA}{vw ve:Value}(ht:d.s.aA[d.n]?=some (some t))(hI:0≤d.i.a∧d.i.a<8):Fn Tryz.prog W 158 [ptr bd] [arr bd 0 (dH b p d vw ve),arr p 0 (bb t)] Unit (fun _=>.int .u64 d.a) (fun _=>True) (fun _=>[arr bd 0 (dH b p d vw ve),arr p 0 (bb t)]):=by
 refine Fn.intro (N:=17) func158 rfl ntmps158 rfl fun F=>?_
 show aq _ _ _ _ _ _ [arr bd 0 (dH b p d vw ve),arr p 0 (bb t),F]
 refine J 6 ?_
 refine .draw [] [1,1,1,1,1,1,1,1,1,1,1,1,1,1,1] rfl (by kernel_rfl) ?_
 refine J 12 ?_
 refine .p (.dh d.i.a.toNat underlying139 sizeOf86 rfl rfl (by omega) (by omega)) ?_
 refine .p (.ld rfl (Cell.a (lV (by omega)))) ?_
 refine J 4 ?_
 refine .aP rfl rfl fun w s=>⟨(),?_,trivial,aj .auto s⟩
 rw[show d.a=t.aD.getD d.i.a.toNat 0 from by unfold Dng.a;rw[cP ht];rfl]
theorem Ff{W:World}{bd b p:Nat}{d:Dng}{t:bA}{vw ve:Value}(ht:d.s.aA[d.n]?=some (some t))(hI:0≤d.i.b∧d.i.b<8):Fn Tryz.prog W 174 [ptr bd] [arr bd 0 (dH b p d vw ve),arr p 0 (bb t)] Unit (fun _=>.int .u64 d.b) (fun _=>True) (fun _=>[arr bd 0 (dH b p d vw ve),arr p 0 (bb t)]):=by
 refine Fn.intro (N:=17) func174 rfl ntmps174 rfl fun F=>?_
 show aq _ _ _ _ _ _ [arr bd 0 (dH b p d vw ve),arr p 0 (bb t),F]
 refine J 6 ?_
 refine .draw [] [1,1,1,1,1,1,1,1,1,1,1,1,1,1,1] rfl (by kernel_rfl) ?_
 refine J 12 ?_
 refine .p (.dh d.i.b.toNat underlying139 sizeOf86 rfl rfl (by omega) (by omega)) ?_
 refine .p (.ld rfl (Cell.a (lV (by omega)))) ?_
 refine J 4 ?_
 refine .aP rfl rfl fun w s=>⟨(),?_,trivial,aj .auto s⟩
 rw[show d.b=t.aD.getD d.i.b.toNat 0 from by unfold Dng.b;rw[cP ht];rfl]
theorem Bg{W:World}{bd b p:Nat}{ps:List (Option Nat)}{d:Dng}{t:bA}(hp:ps[d.n]?=some (some p))(ht:d.s.aA[d.n]?=some (some t))(hk:gV ps d t):Fn Tryz.prog W 162 [ptr bd] [bc bd b p ps d] Unit (fun _=>.tuple #[]) (fun _=>True) (fun _=>[bc bd b p ps (d.dU)]):=by
 refine Fn.intro (N:=86) func162 rfl ntmps162 rfl fun F=>?_
 show aq _ _ _ _ _ _ [bc bd b p ps d,F]
 refine .o2 (C:=bc bd b p ps (d)) .auto rfl ?_
 rintro vw ve -
 refine .iQ (C:=cn b ps (d).s) .auto rfl ?_
 rintro fv sv pv bt vm bg vt bk bw vr -
 have hnn:=hk.nn
 have hn0:=hk.I.n
 refine J 7 ?_
 refine .p (.gm underlying86 underlying3 rfl (by omega)) ?_
 refine JD 14 (fun h19=>?_) fun h19=>?_
 ·refine J 1 ?_
  refine .draw [arr bd 0 (dH b p d vw ve),arr b 0 (eR fv sv pv d.s.eE bt ps vm bg vt bk bw vr)] [1,1,1,1,1,1,1,1,1,1,1,1,3,1,1,1,1,1,1,1] rfl (by kernel_rfl) ?_
  refine J 12 ?_
  refine .c call185 rfl (GI hk.gl hk.Gh) fun _ _=>?_
  refine J 1 ?_
  refine .p (.extract (v:=.int .i64 (d.s.ak.up d.i.n d.choice).1) rfl rfl) ?_
  refine .p (.extract (v:=.bool (d.s.ak.up d.i.n d.choice).2.1) rfl rfl) ?_
  refine .p (.extract (v:=.int .i64 (d.s.ak.up d.i.n d.choice).2.2.1) rfl rfl) ?_
  refine J 14 ?_
  refine .c call155 rfl (cc (d:=d.bz (d.s.ak.up d.i.n d.choice).2.2.2) hp ht (Nat.le_trans hk.aB (by decide)) D8 hk.R.l) fun _ _=>?_
  refine J 7 ?_
  refine .c call179 rfl (oY (n:=(d.s.ak.up d.i.n d.choice).1) (ok:=(d.s.ak.up d.i.n d.choice).2.1) (d:=((d.bz (d.s.ak.up d.i.n d.choice).2.2.2).pass d.i.n 0 (d.s.ak.up d.i.n d.choice).2.2.1)) (fun h=>⟨(hk.hJ _ (D9 h)).1,((hk.hJ _ (D9 h)).2.of (s':=(d.bz (d.s.ak.up d.i.n d.choice).2.2.2).s) rfl).pass (d:=d.bz (d.s.ak.up d.i.n d.choice).2.2.2) ht hk.R D8⟩) (Nat.le_trans hk.ends (by decide)) (Nat.le_trans hk.yz (by decide))) fun _ _=>?_
  refine J 4 ?_
  rw[show d.dU=((d.bz (d.s.ak.up d.i.n d.choice).2.2.2).pass d.i.n 0 (d.s.ak.up d.i.n d.choice).2.2.1).given (d.s.ak.up d.i.n d.choice).1 (d.s.ak.up d.i.n d.choice).2.1 from by unfold Dng.dU;rw[if_pos h19]]
  exact JR 0 ()
 ·refine J 3 ?_
  refine .draw [arr bd 0 (dH b p d vw ve),arr b 0 (eR fv sv pv d.s.eE bt ps vm bg vt bk bw vr)] [1,1,1,1,1,1,1,1,1,1,1,1,3,1,1,1,1,1] rfl (by kernel_rfl) ?_
  refine J 12 ?_
  refine .c call186 rfl (Cu hk.gl hk.Gh) fun _ _=>?_
  refine J 1 ?_
  refine .p (.extract (v:=.bool (d.s.ak.down d.n d.i.n).1) rfl rfl) ?_
  refine .p (.extract (v:=.int .i64 (d.s.ak.down d.n d.i.n).2.1) rfl rfl) ?_
  refine J 10 ?_
  apply aJ.eT 3 70 67 [67,68,69,70] rfl
  ·intro h67
   exact JS 4
  ·intro h67
   exact JS 4
  refine JD 2 (fun h70=>?_) fun h70=>?_
  ·simp only[Bool.and_eq_true,decide_eq_true_eq,Bool.not_eq_true'] at h70
   refine J 8 ?_
   refine .c call176 rfl (fP (d:=d.bz (d.s.ak.down d.n d.i.n).2.2) hp ht (Nat.le_trans hk.aB (by decide))) fun _ _=>?_
   refine J 4 ?_
   rw[show d.dU=(d.bz (d.s.ak.down d.n d.i.n).2.2).block 3 (-1) d.i.n 0 from by unfold Dng.dU;rw[if_neg h19];simp only;rw[if_pos h70]]
   exact JR 0 ()
  ·simp only[Bool.and_eq_false_iff,decide_eq_false_iff_not,Bool.not_eq_false'] at h70
   refine J 10 ?_
   refine .c call155 rfl (cc (d:=d.bz (d.s.ak.down d.n d.i.n).2.2) hp ht (Nat.le_trans hk.aB (by decide)) AS hk.R.l) fun _ _=>?_
   refine J 1 ?_
   rw[show d.dU=(d.bz (d.s.ak.down d.n d.i.n).2.2).pass d.i.n 0 (d.s.ak.down d.n d.i.n).2.1 from by unfold Dng.dU;rw[if_neg h19];simp only;rw[if_neg (by rintro⟨a,b⟩;rcases h70 with h | h;exact h a;rw[b] at h;cases h)]]
   exact JR 0 ()
theorem oZ{W:World}{bd b p:Nat}{ps:List (Option Nat)}{d:Dng}{t:bA}(hp:ps[d.n]?=some (some p))(ht:d.s.aA[d.n]?=some (some t))(hk:gV ps d t):Fn Tryz.prog W 159 [ptr bd] [bc bd b p ps d] Unit (fun _=>.tuple #[]) (fun _=>True) (fun _=>[bc bd b p ps (d.mutex)]):=by
 refine Fn.intro (N:=155) func159 rfl ntmps159 rfl fun F=>?_
 show aq _ _ _ _ _ _ [bc bd b p ps d,F]
 refine .o2 (C:=bc bd b p ps (d)) .auto rfl ?_
 rintro vw ve -
 refine .iQ (C:=cn b ps (d).s) .auto rfl ?_
 rintro fv sv pv bt vm bg vt bk bw vr -
 have hnn:=hk.nn
 have hn0:=hk.I.n
 have hIc:=hk.I.c
 have hwc:=HX hIc
 refine J 7 ?_
 refine .p (.gm underlying86 underlying3 rfl (by omega)) ?_
 refine JD 19 (fun h81=>?_) fun h81=>?_
 ·refine J 1 ?_
  refine .draw [arr bd 0 (dH b p d vw ve),arr b 0 (eR fv sv pv d.s.eE bt ps vm bg vt bk bw vr)] [1,1,1,1,1,1,1,1,1,1,1,1,3,1,1,1,1,1] rfl (by kernel_rfl) ?_
  refine J 12 ?_
  refine .c call177 rfl (Cs hk.gl) fun _ _=>?_
  refine J 1 ?_
  refine .p (.extract (v:=.bool (d.s.ak.lock d.n d.i.n).1) rfl rfl) ?_
  refine .p (.extract (v:=.int .i64 (d.s.ak.lock d.n d.i.n).2.1) rfl rfl) ?_
  refine J 10 ?_
  apply aJ.eT 3 104 101 [101,102,103,104] rfl
  ·intro h101
   exact JS 4
  ·intro h101
   exact JS 4
  refine JD 2 (fun h104=>?_) fun h104=>?_
  ·simp only[Bool.and_eq_true,decide_eq_true_eq,Bool.not_eq_true'] at h104
   refine J 8 ?_
   refine .c call176 rfl (fP (d:=d.bz (d.s.ak.lock d.n d.i.n).2.2) hp ht (Nat.le_trans hk.aB (by decide))) fun _ _=>?_
   refine J 5 ?_
   rw[show d.mutex=(d.bz (d.s.ak.lock d.n d.i.n).2.2).block 1 (-1) d.i.n 0 from by unfold Dng.mutex;simp only;rw[if_pos h81,if_pos h104]]
   exact JR 0 ()
  ·simp only[Bool.and_eq_false_iff,decide_eq_false_iff_not,Bool.not_eq_false'] at h104
   refine J 10 ?_
   refine .c call155 rfl (cc (d:=d.bz (d.s.ak.lock d.n d.i.n).2.2) hp ht (Nat.le_trans hk.aB (by decide)) AQ hk.R.l) fun _ _=>?_
   refine J 2 ?_
   rw[show d.mutex=(d.bz (d.s.ak.lock d.n d.i.n).2.2).pass d.i.n 0 (d.s.ak.lock d.n d.i.n).2.1 from by unfold Dng.mutex;simp only;rw[if_pos h81,if_neg (by rintro⟨a,b⟩;rcases h104 with h | h;exact h a;rw[b] at h;cases h)]]
   exact JR 0 ()
 ·refine JD 6 (fun h120=>?_) fun h120=>?_
  ·refine J 1 ?_
   refine .draw [arr bd 0 (dH b p d vw ve),arr b 0 (eR fv sv pv d.s.eE bt ps vm bg vt bk bw vr)] [1,1,1,1,1,1,1,1,1,1,1,1,1,1,1,1,3,1,1,1,1,1,1,1] rfl (by kernel_rfl) ?_
   refine J 16 ?_
   refine .c call178 rfl (xV hk.gl) fun _ _=>?_
   refine J 1 ?_
   refine .p (.extract (v:=.int .i64 (d.s.ak.unlock d.n d.i.n d.choice).1) rfl rfl) ?_
   refine .p (.extract (v:=.bool (d.s.ak.unlock d.n d.i.n d.choice).2.1) rfl rfl) ?_
   refine .p (.extract (v:=.int .i64 (d.s.ak.unlock d.n d.i.n d.choice).2.2.1) rfl rfl) ?_
   refine J 14 ?_
   refine .c call155 rfl (cc (d:=d.bz (d.s.ak.unlock d.n d.i.n d.choice).2.2.2) hp ht (Nat.le_trans hk.aB (by decide)) oQ hk.R.l) fun _ _=>?_
   refine J 6 ?_
   refine .c call179 rfl (oY (n:=(d.s.ak.unlock d.n d.i.n d.choice).1) (ok:=(d.s.ak.unlock d.n d.i.n d.choice).2.1) (d:=((d.bz (d.s.ak.unlock d.n d.i.n d.choice).2.2.2).pass d.i.n 0 (d.s.ak.unlock d.n d.i.n d.choice).2.2.1)) (fun h=>⟨(hk.hJ _ (ru h)).1,((hk.hJ _ (ru h)).2.of (s':=(d.bz (d.s.ak.unlock d.n d.i.n d.choice).2.2.2).s) rfl).pass (d:=d.bz (d.s.ak.unlock d.n d.i.n d.choice).2.2.2) ht hk.R oQ⟩) (Nat.le_trans hk.ends (by decide)) (Nat.le_trans hk.yz (by decide))) fun _ _=>?_
   refine J 2 ?_
   rw[show d.mutex=((d.bz (d.s.ak.unlock d.n d.i.n d.choice).2.2.2).pass d.i.n 0 (d.s.ak.unlock d.n d.i.n d.choice).2.2.1).given (d.s.ak.unlock d.n d.i.n d.choice).1 (d.s.ak.unlock d.n d.i.n d.choice).2.1 from by unfold Dng.mutex;simp only;rw[if_neg h81,if_pos h120]]
   exact JR 0 ()
  ·refine J 1 ?_
   refine .draw [arr bd 0 (dH b p d vw ve),arr b 0 (eR fv sv pv d.s.eE bt ps vm bg vt bk bw vr)] [1,1,1,1,1,1,1,1,1,1,1,1,1,1,1,1,1,1,1,1,1,3,1,1,1,1,1,1,1] rfl (by kernel_rfl) ?_
   refine J 21 ?_
   refine .c call180 rfl (Ct hk.gl) fun _ _=>?_
   refine J 1 ?_
   refine .p (.extract (v:=.int .i64 (d.s.ak.wait d.n d.i.n d.i.c d.choice).1) rfl rfl) ?_
   refine .p (.extract (v:=.bool (d.s.ak.wait d.n d.i.n d.i.c d.choice).2.1) rfl rfl) ?_
   refine .p (.extract (v:=.int .i64 (d.s.ak.wait d.n d.i.n d.i.c d.choice).2.2.1) rfl rfl) ?_
   refine JD 12 (fun h48=>?_) fun h48=>?_
   ·refine J 1 ?_
    refine .draw [] [1,1,1,1,1,1,1,1,1,1,1,1,1,3] rfl (by kernel_rfl) ?_
    refine J 11 ?_
    refine .p (.qJ underlying3 underlying86 rfl (by omega)) ?_
    refine J 1 ?_
    refine .c call155 rfl (cc (d:=d.bz (d.s.ak.wait d.n d.i.n d.i.c d.choice).2.2.2) hp ht (Nat.le_trans hk.aB (by decide)) AR hk.R.l) fun _ _=>?_
    refine J 5 ?_
    rw[show d.mutex=(d.bz (d.s.ak.wait d.n d.i.n d.i.c d.choice).2.2.2).pass d.i.n d.i.c (d.s.ak.wait d.n d.i.n d.i.c d.choice).2.2.1 from by unfold Dng.mutex;simp only;rw[if_neg h81,if_neg h120,if_pos h48,hwc]]
    exact JR 0 ()
   ·refine J 3 ?_
    refine .draw [] [1,1,1,1,1,1,1,1,1,1,1,1,3] rfl (by kernel_rfl) ?_
    refine J 11 ?_
    refine .p (.qJ underlying3 underlying86 rfl (by omega)) ?_
    refine .c call176 rfl (fP (d:=d.bz (d.s.ak.wait d.n d.i.n d.i.c d.choice).2.2.2) hp ht (Nat.le_trans hk.aB (by decide))) fun _ _=>?_
    refine J 6 ?_
    refine .c call179 rfl (oY (n:=(d.s.ak.wait d.n d.i.n d.i.c d.choice).1) (ok:=(d.s.ak.wait d.n d.i.n d.i.c d.choice).2.1) (d:=((d.bz (d.s.ak.wait d.n d.i.n d.i.c d.choice).2.2.2).block 2 (-1) d.i.n d.i.c)) (fun h=>⟨(hk.hJ _ (xk h)).1,((hk.hJ _ (xk h)).2.of (s':=(d.bz (d.s.ak.wait d.n d.i.n d.i.c d.choice).2.2.2).s) rfl).block (d:=d.bz (d.s.ak.wait d.n d.i.n d.i.c d.choice).2.2.2) ht hk.R (by decide)⟩) (Nat.le_trans hk.ends (by decide)) (Nat.le_trans hk.yz (by decide))) fun _ _=>?_
    refine J 2 ?_
    rw[show d.mutex=((d.bz (d.s.ak.wait d.n d.i.n d.i.c d.choice).2.2.2).block 2 (-1) d.i.n d.i.c).given (d.s.ak.wait d.n d.i.n d.i.c d.choice).1 (d.s.ak.wait d.n d.i.n d.i.c d.choice).2.1 from by unfold Dng.mutex;simp only;rw[if_neg h81,if_neg h120,if_neg h48,hwc]]
    exact JR 0 ()
end Go.SLYthncobnjdhjnoaaGreat
namespace Go.SLYthncobnjdhjnoaaGreat
open Go Go.RowKit Go.Proofs Go.Proofs.Tryz
attribute [local irreducible] aq aJ ba bq bu Y
theorem GO{W:World}{bd b p:Nat}{ps:List (Option Nat)}{d:Dng}{t:bA}(hp:ps[d.n]?=some (some p))(ht:d.s.aA[d.n]?=some (some t))(hk:gV ps d t)(hop:d.i.op=35∨d.i.op=36):Fn Tryz.prog W 188 [ptr bd] [bc bd b p ps d] Unit (fun _=>.tuple #[]) (fun _=>True) (fun _=>[bc bd b p ps (d.put)]):=by
 refine Fn.intro (N:=57) func188 rfl ntmps188 rfl fun F=>?_
 show aq _ _ _ _ _ _ [bc bd b p ps d,F]
 refine .o2 (C:=bc bd b p ps (d)) .auto rfl ?_
 rintro vw ve -
 refine .iQ (C:=cn b ps (d).s) .auto rfl ?_
 rintro fv sv pv bt vm bg vt bk bw vr -
 have hnn:=hk.nn
 have hn0:=hk.I.n
 refine .o1 (C:=ns vt d.s.bV) .auto rfl ?_
 rintro xs hxs
 obtain⟨xq,hx,hmem⟩:=AT hxs hn0.1 (hk.JF hop)
 have hxl:xs.length=d.s.bV.length:=by rw[← hxs,List.length_map]
 have hti:=hk.JF hop
 refine .fr .auto (bN hp ht) ?_
 refine J 1 ?_
 refine .draw [] [1,1,1,1,1,1,1,1,1,1,1,1,1,1,1] rfl (by kernel_rfl) ?_
 refine J 12 ?_
 refine .p (.ix d.i.n.toNat rfl rfl (by omega) (by omega)) ?_
 refine .p (.lr rfl hx) ?_
 refine J 6 ?_
 refine .c call158 rfl (IE ht hk.I.a) fun _ _=>?_
 refine J 5 ?_
 obtain⟨x,hx0⟩:∃ x,x=d.a:=⟨_,rfl⟩
 rw[← hx0]
 refine J 6 ?_
 refine .fr .auto (xj (f:=fun x:Nat×Tub=>gL x.1 x.2) hx) ?_
 refine .c call207 rfl (E5 (hk.tl _ hmem)) fun _ _=>?_
 refine .to (A:=ns vt (d.s.bV.set d.i.n.toNat (d.bM.put d.n x).2.2.2)) (Bs:=[sl cX 1 vt xs,gL xq (d.bM.put d.n x).2.2.2,aO (fun x:Nat×Tub=>gL x.1 x.2) (xs.eraseIdx d.i.n.toNat)]) .auto (uY hx hxs (d.bM.put d.n x).2.2.2) ?_
 refine .to (A:=ax ps d.s.aA) (Bs:=[arr p 0 (bb t),ax (ps.set d.n none) (d.s.aA.set d.n none)]) .auto (bH hp ht) ?_
 refine J 1 ?_
 refine .p (.extract (v:=.bool (d.bM.put d.n x).1) rfl rfl) ?_
 refine .p (.extract (v:=.int .i64 (d.bM.put d.n x).2.1) rfl rfl) ?_
 refine .p (.extract (v:=.bool (d.bM.put d.n x).2.2.1) rfl rfl) ?_
 refine JD 12 (fun h35=>?_) fun h35=>?_
 ·refine J 9 ?_
  refine .c call176 rfl (fP (d:=(d.ek d.i.n.toNat (d.bM.put d.n x).2.2.2)) hp ht (Nat.le_trans hk.aB (by decide))) fun _ _=>?_
  refine J 4 ?_
  rw[show d.put=(d.ek d.i.n.toNat (d.bM.put d.n x).2.2.2).block 7 (-1) d.i.n x from by unfold Dng.put;rw[← hx0];simp only;rw[if_pos (by simpa using h35)]]
  exact JR 0 ()
 ·refine J 11 ?_
  refine .c call155 rfl (cc (d:=(d.ek d.i.n.toNat (d.bM.put d.n x).2.2.2)) hp ht (Nat.le_trans hk.aB (by decide)) (by decide) hk.R.l) fun _ _=>?_
  refine JD 7 (fun h52=>?_) fun h52=>?_
  ·have hlv:=(hk.xB _ hmem).1 _ (Ea h52)
   obtain⟨hw16,q,u,hq,hu,hRu⟩:=(hlv.2.of (s':=(d.ek d.i.n.toNat (d.bM.put d.n x).2.2.2).s) rfl).pass (x:=d.i.n) (y:=x) (e:=0) (d:=(d.ek d.i.n.toNat (d.bM.put d.n x).2.2.2)) ht hk.R (by decide)
   refine J 4 ?_
   refine .c call152 rfl (jJ (d:=(d.ek d.i.n.toNat (d.bM.put d.n x).2.2.2).pass d.i.n x 0) hlv.1 hq hu hw16 hRu (Nat.le_trans hk.ends (by decide)) (Nat.le_trans hk.yz (by decide))) fun _ _=>?_
   refine J 1 ?_
   rw[show d.put=((d.ek d.i.n.toNat (d.bM.put d.n x).2.2.2).pass d.i.n x 0).cB (d.bM.put d.n x).2.1.toNat x from by unfold Dng.put;rw[← hx0];simp only;rw[if_neg (by simpa using h35),if_pos h52]]
   exact JR 0 ()
  ·refine J 1 ?_
   rw[show d.put=(d.ek d.i.n.toNat (d.bM.put d.n x).2.2.2).pass d.i.n x 0 from by unfold Dng.put;rw[← hx0];simp only;rw[if_neg (by simpa using h35),if_neg (by rw[h52];simp)]]
   exact JR 0 ()
theorem GP{W:World}{bd b p:Nat}{ps:List (Option Nat)}{d:Dng}{t:bA}(hp:ps[d.n]?=some (some p))(ht:d.s.aA[d.n]?=some (some t))(hk:gV ps d t)(hop:d.i.op=35∨d.i.op=36):Fn Tryz.prog W 189 [ptr bd] [bc bd b p ps d] Unit (fun _=>.tuple #[]) (fun _=>True) (fun _=>[bc bd b p ps (d.get)]):=by
 refine Fn.intro (N:=70) func189 rfl ntmps189 rfl fun F=>?_
 show aq _ _ _ _ _ _ [bc bd b p ps d,F]
 refine .o2 (C:=bc bd b p ps (d)) .auto rfl ?_
 rintro vw ve -
 refine .iQ (C:=cn b ps (d).s) .auto rfl ?_
 rintro fv sv pv bt vm bg vt bk bw vr -
 have hnn:=hk.nn
 have hn0:=hk.I.n
 refine .o1 (C:=ns vt d.s.bV) .auto rfl ?_
 rintro xs hxs
 obtain⟨xq,hx,hmem⟩:=AT hxs hn0.1 (hk.JF hop)
 have hxl:xs.length=d.s.bV.length:=by rw[← hxs,List.length_map]
 have hti:=hk.JF hop
 have hIa:=hk.I.a
 have hRl:=hk.R.l
 refine J 1 ?_
 refine .fr .auto (xj (f:=fun x:Nat×Tub=>gL x.1 x.2) hx) ?_
 refine .draw [arr bd 0 (dH b p d vw ve),arr b 0 (eR fv sv pv d.s.eE bt ps vm bg vt bk bw vr),sl cX 1 vt xs] [1,1,1,1,1,1,1,1,1,1,1,1,1,1,1,1,1,1,3,1,1,1,1,1,1,1,1,1] rfl (by kernel_rfl) ?_
 refine J 12 ?_
 refine .p (.ix d.i.n.toNat rfl rfl (by omega) (by omega)) ?_
 refine .p (.lr rfl hx) ?_
 refine J 4 ?_
 refine .c call208 rfl (E6 (hk.tl _ hmem)) fun _ _=>?_
 refine J 1 ?_
 refine .p (.extract (v:=.int .u64 (d.bM.get d.n).1) rfl rfl) ?_
 refine .p (.extract (v:=.bool (d.bM.get d.n).2.1) rfl rfl) ?_
 refine .p (.extract (v:=.int .i64 (d.bM.get d.n).2.2.1) rfl rfl) ?_
 refine .p (.extract (v:=.bool (d.bM.get d.n).2.2.2.1) rfl rfl) ?_
 refine JD 13 (fun h31=>?_) fun h31=>?_
 ·refine J 1 ?_
  refine .to (A:=ns vt (d.s.bV.set d.i.n.toNat (d.bM.get d.n).2.2.2.2)) (Bs:=[sl cX 1 vt xs,gL xq (d.bM.get d.n).2.2.2.2,aO (fun x:Nat×Tub=>gL x.1 x.2) (xs.eraseIdx d.i.n.toNat)]) .auto (uY hx hxs (d.bM.get d.n).2.2.2.2) ?_
  refine .draw [] [1,1,1,1,1,1,1,1,1,1,1,3] rfl (by kernel_rfl) ?_
  refine J 11 ?_
  refine .c call176 rfl (fP (d:=(d.ek d.i.n.toNat (d.bM.get d.n).2.2.2.2)) hp ht (Nat.le_trans hk.aB (by decide))) fun _ _=>?_
  refine J 4 ?_
  rw[show d.get=(d.ek d.i.n.toNat (d.bM.get d.n).2.2.2.2).block 6 d.i.a d.i.n 0 from by unfold Dng.get;simp only;rw[if_pos (by simpa using h31)]]
  exact JR 0 ()
 ·refine J 3 ?_
  refine .to (A:=ns vt (d.s.bV.set d.i.n.toNat (d.bM.get d.n).2.2.2.2)) (Bs:=[sl cX 1 vt xs,gL xq (d.bM.get d.n).2.2.2.2,aO (fun x:Nat×Tub=>gL x.1 x.2) (xs.eraseIdx d.i.n.toNat)]) .auto (uY hx hxs (d.bM.get d.n).2.2.2.2) ?_
  refine .fr .auto (bN hp ht) ?_
  refine .draw [arr bd 0 (dH b p d vw ve)] [1,1,1,1,1,1,1,1,1,1,1,1,1,1,3] rfl (by kernel_rfl) ?_
  refine J 13 ?_
  refine .p (.dh d.i.a.toNat underlying139 sizeOf86 rfl rfl (by omega) (by omega)) ?_
  refine .d3 rfl (ab.st sizeOf86 rfl rfl rfl (Nat.blt_eq.mpr (by show 2+d.i.a.toNat * 1<18;omega))) ?_
  rintro _ _ ⟨rfl,rfl⟩
  rw[iB _ (by omega) (by omega) hRl]
  refine .to (A:=ax ps (d.s.aA.set d.n (some (t.put d.i.a (d.bM.get d.n).1)))) (Bs:=[arr p 0 (bb (t.put d.i.a (d.bM.get d.n).1)),ax (ps.set d.n none) (d.s.aA.set d.n none)]) .auto (cq (List.getElem?_eq_some_iff.1 ht).1 hp) ?_
  refine J 11 ?_
  refine .c call155 rfl (cc (d:=((d.ek d.i.n.toNat (d.bM.get d.n).2.2.2.2).aT (t.put d.i.a (d.bM.get d.n).1))) (t:=t.put d.i.a (d.bM.get d.n).1) hp (cS ht) (Nat.le_trans hk.aB (by decide)) (by decide) (by rw[iR];exact hRl)) fun _ _=>?_
  refine JD 7 (fun h66=>?_) fun h66=>?_
  ·obtain⟨z,hz,hzw⟩:=Eb h66
   have hlv:=(hk.xB _ hmem).2 z hz
   rw[hzw] at hlv
   have hRg:=hk.R.put (i:=d.i.a) (Ec (who:=d.n) (hk.tw _ hmem))
   obtain⟨hw16,q,u,hq,hu,hRu⟩:=((hlv.2.of (s':=(d.ek d.i.n.toNat (d.bM.get d.n).2.2.2.2).s) rfl).aT (n:=d.n) hRg).pass (x:=d.i.n) (y:=(d.bM.get d.n).1) (e:=0) (d:=((d.ek d.i.n.toNat (d.bM.get d.n).2.2.2.2).aT (t.put d.i.a (d.bM.get d.n).1))) (cS ht) hRg (by decide)
   refine J 3 ?_
   refine .c call152 rfl (jJ (d:=((d.ek d.i.n.toNat (d.bM.get d.n).2.2.2.2).aT (t.put d.i.a (d.bM.get d.n).1)).pass d.i.n (d.bM.get d.n).1 0) hlv.1 hq hu hw16 hRu (Nat.le_trans hk.ends (by decide)) (Nat.le_trans hk.yz (by decide))) fun _ _=>?_
   refine J 1 ?_
   rw[show d.get=(((d.ek d.i.n.toNat (d.bM.get d.n).2.2.2.2).aT (t.put d.i.a (d.bM.get d.n).1)).pass d.i.n (d.bM.get d.n).1 0).cB (d.bM.get d.n).2.2.1.toNat 0 from by unfold Dng.get;simp only;rw[if_neg (by simpa using h31),if_pos h66,show(d.ek d.i.n.toNat (d.bM.get d.n).2.2.2.2).t=t from cP ht]]
   exact JR 0 ()
  ·refine J 1 ?_
   rw[show d.get=((d.ek d.i.n.toNat (d.bM.get d.n).2.2.2.2).aT (t.put d.i.a (d.bM.get d.n).1)).pass d.i.n (d.bM.get d.n).1 0 from by unfold Dng.get;simp only;rw[if_neg (by simpa using h31),if_neg (by rw[h66];simp),show(d.ek d.i.n.toNat (d.bM.get d.n).2.2.2.2).t=t from cP ht]]
   exact JR 0 ()
end Go.SLYthncobnjdhjnoaaGreat
namespace Go.SLYthncobnjdhjnoaaGreat
open Go Go.RowKit Go.Proofs Go.Proofs.Tryz
attribute [local irreducible] aq aJ ba bq bu Y
theorem Cy{W:World}{bd b p:Nat}{ps:List (Option Nat)}{d:Dng}{t:bA}(hp:ps[d.n]?=some (some p))(ht:d.s.aA[d.n]?=some (some t))(hk:gV ps d t):Fn Tryz.prog W 154 [ptr bd] [bc bd b p ps d] (List (Option Nat)) (fun _=>.tuple #[]) (fun _=>True) (fun qs=>[bc bd b p qs d.spawn]):=by
 refine Fn.intro (N:=70) func154 rfl ntmps154 rfl fun F=>?_
 show aq _ _ _ _ _ _ [bc bd b p ps d,F]
 refine .o2 (C:=bc bd b p ps (d)) .auto rfl ?_
 rintro vw ve -
 refine .iQ (C:=cn b ps (d).s) .auto rfl ?_
 rintro fv sv pv bt vm bg vt bk bw vr -
 have hnn:=hk.nn
 have hn0:=hk.I.n
 refine .fr .auto (bN hp ht) ?_
 have hIa:=hk.I.a
 have hRl:=hk.R.l
 have hlt:=hk.lt
 refine J 1 ?_
 refine .draw [arr bd 0 (dH b p d vw ve)] [0,0,0,0,0,0,0,0,0,0,1,2,3,1,1,1,1,1] rfl (by kernel_rfl) ?_
 refine J 9 ?_
 refine .q (.gm underlying86 underlying3 rfl (by omega)) ?_
 refine J 1 ?_
 refine .c2 call174 rfl (Ff ht hk.I.b) fun _ _=>?_
 refine .to (A:=ax ps d.s.aA) (Bs:=[arr p 0 (bb t),ax (ps.set d.n none) (d.s.aA.set d.n none)]) .auto (bH hp ht) ?_
 refine .d3 rfl (ab.dX rfl call61 rfl (rH hk.T hk.lt hk.free) .auto) ?_
 rintro _ _ ⟨qs,⟨q,hqs⟩,rfl,rfl⟩
 refine J 1 ?_
 refine .p (.extract (v:=.int .i64 (d.s.begin d.i.n d.b).1) rfl rfl) ?_
 refine .p (.extract (v:=.int .i64 (d.s.begin d.i.n d.b).2.1) rfl rfl) ?_
 refine JD 16 (fun h22=>?_) fun h22=>?_
 ·obtain⟨n,hfr⟩:∃ n,slotFree? d.s.table 0=some n:=by
   cases hh:slotFree? d.s.table 0 with
   | none=>rw[js hh] at h22;cases h22
   | some n=>exact⟨n,rfl⟩
  have hb1:(d.s.begin d.i.n d.b).1=(n:Int):=by rw[eA hfr]
  have hn0e:=hk.free n hfr
  have hn16:n<16:=hlt ▸ (List.getElem?_eq_some_iff.1 hn0e).1
  obtain⟨t1,ht1,ht1e⟩:=tB (f:=d.i.n) (arg:=d.b) hfr (by omega)
  have hqn:qs[n]?=some (some q):=by
   rw[hqs];unfold lQ;rw[hfr];exact List.getElem?_set_self (by rw[hk.lp];exact hn16)
  have hne:n≠d.n:=fun e=>by rw[e,ht] at hn0e;cases hn0e
  have hp2:qs[d.n]?=some (some p):=by
   rw[hqs];unfold lQ;rw[hfr];exact(List.getElem?_set_ne hne).trans hp
  have ht2:(d.s.begin d.i.n d.b).2.2.aA[d.n]?=some (some t):=by
   rw[eA hfr];exact(List.getElem?_set_ne hne).trans ht
  rw[hb1]
  refine J 2 ?_
  refine .iQ (C:=cn b qs (d.s.begin d.i.n d.b).2.2) .auto rfl ?_
  rintro fv sv pv bt vm bg vt bk bw vr -
  refine .fr .auto (bN hqn ht1) ?_
  refine J 7 ?_
  refine .p (.dh n underlying107 sizeOf106 rfl rfl rfl hn16) ?_
  refine .p (.ld rfl (Cell.a (by rw[Nat.mul_one,ej hn16,bx hqn]))) ?_
  refine J 14 ?_
  refine .ai rfl (ab.fG 3 rfl rfl (by kernel_rfl)) ?_
  rintro _ _ ⟨b42,rfl,rfl⟩
  refine .ai rfl (ab.gv (enc:=ar) (k:=1) (n:Int) rfl underlying33 underlying33 typeInfo3 rfl rfl rfl (by decide) rfl rfl rfl .auto rfl .auto (by have:=hk.yz;omega) rfl) ?_
  rintro _ _ ⟨v43,rfl,rfl⟩
  refine J 3 ?_
  refine .ai rfl (ab.ng sizeOf33 rfl rfl rfl) ?_
  rintro _ _ ⟨rfl,rfl⟩
  refine J 3 ?_
  refine .to (A:=ax qs (d.s.begin d.i.n d.b).2.2.aA) (Bs:=[arr q 0 (bb t1),ax (qs.set n none) ((d.s.begin d.i.n d.b).2.2.aA.set n none)]) .auto (bH hqn ht1) ?_
  refine .fr .auto (bN hp2 ht2) ?_
  refine .draw [arr bd 0 (dH b p d v43 ve)] [1,1,1,1,1,1,1,1,1,1,1,1,1,1,3] rfl (by kernel_rfl) ?_
  refine J 13 ?_
  refine .p (.dh d.i.a.toNat underlying139 sizeOf86 rfl rfl (by omega) (by omega)) ?_
  refine .d3 rfl (ab.st sizeOf86 rfl rfl rfl (Nat.blt_eq.mpr (by show 2+d.i.a.toNat * 1<18;omega))) ?_
  rintro _ _ ⟨rfl,rfl⟩
  rw[iB _ (by omega) (by omega) hRl]
  refine .to (A:=ax qs ((d.s.begin d.i.n d.b).2.2.aA.set d.n (some (t.put d.i.a t1.handle)))) (Bs:=[arr p 0 (bb (t.put d.i.a t1.handle)),ax (qs.set d.n none) ((d.s.begin d.i.n d.b).2.2.aA.set d.n none)]) .auto (cq (List.getElem?_eq_some_iff.1 ht2).1 hp2) ?_
  refine J 11 ?_
  refine .c call155 rfl (cc (d:=({d with s:=(d.s.begin d.i.n d.b).2.2,out:={d.out with aw:=d.out.aw++[(n:Int)] } }:Dng).aT (t.put d.i.a t1.handle)) (ps:=qs) (p:=p) (t:=t.put d.i.a t1.handle) hp2 (cS ht2) (by show(d.s.begin d.i.n d.b).2.2.aB.length≤_;rw[eA hfr];exact(Nat.le_trans hk.aB (by decide))) (by rw[h22];decide) (by rw[iR];exact hRl)) fun _ _=>?_
  refine J 1 ?_
  rw[show d.spawn=(({d with s:=(d.s.begin d.i.n d.b).2.2,out:={d.out with aw:=d.out.aw++[(n:Int)] } }:Dng).aT (t.put d.i.a t1.handle)).pass d.i.n t1.handle (d.s.begin d.i.n d.b).2.1 from by unfold Dng.spawn;simp only;rw[if_pos h22,if_pos h22,hb1,Int.toNat_natCast,dC ht1,show({d with s:=(d.s.begin d.i.n d.b).2.2,out:={d.out with aw:=d.out.aw++[(n:Int)] } }:Dng).t=t from dC ht2]]
  exact JR 0 qs
 ·have hfr:slotFree? d.s.table 0=none:=by
   cases hh:slotFree? d.s.table 0 with
   | none=>rfl
   | some n=>exact absurd (by rw[eA hh]) h22
  have hb:(d.s.begin d.i.n d.b)=(0,2,d.s):=js hfr
  obtain rfl:qs=ps:=by rw[hqs];unfold lQ;rw[hfr]
  rw[hb]
  have hp2:=hp
  have ht2:=ht
  refine .to (A:=cn b qs d.s) (Bs:=[cn b qs d.s]) .auto (fun h a=>by simpa only[seps,aH] using a) ?_
  refine .iQ (C:=cn b qs d.s) .auto rfl ?_
  rintro fv sv pv bt vm bg vt bk bw vr -
  refine .fr .auto (bN hp2 ht2) ?_
  refine J 3 ?_
  refine .draw [arr bd 0 (dH b p d vw ve)] [1,1,1,1,1,1,1,1,1,1,1,1,1,1,3] rfl (by kernel_rfl) ?_
  refine J 13 ?_
  refine .p (.dh d.i.a.toNat underlying139 sizeOf86 rfl rfl (by omega) (by omega)) ?_
  refine .d3 rfl (ab.st sizeOf86 rfl rfl rfl (Nat.blt_eq.mpr (by show 2+d.i.a.toNat * 1<18;omega))) ?_
  rintro _ _ ⟨rfl,rfl⟩
  rw[iB _ (by omega) (by omega) hRl]
  refine .to (A:=ax qs (d.s.aA.set d.n (some (t.put d.i.a 0)))) (Bs:=[arr p 0 (bb (t.put d.i.a 0)),ax (qs.set d.n none) (d.s.aA.set d.n none)]) .auto (cq (List.getElem?_eq_some_iff.1 ht2).1 hp2) ?_
  refine J 11 ?_
  refine .c call155 rfl (cc (d:=d.aT (t.put d.i.a 0)) (ps:=qs) (p:=p) (t:=t.put d.i.a 0) (e:=2) hp2 (cS ht2) (Nat.le_trans hk.aB (by decide)) (by decide) (by rw[iR];exact hRl)) fun _ _=>?_
  refine J 1 ?_
  rw[show d.spawn=(d.aT (t.put d.i.a 0)).pass d.i.n 0 2 from by unfold Dng.spawn;rw[hb];simp only;rw[if_neg (by decide),if_neg (by decide),cP ht]]
  exact JR 0 qs
theorem zR{W:World}{bd b p:Nat}{ps:List (Option Nat)}{d:Dng}{t:bA}(hp:ps[d.n]?=some (some p))(ht:d.s.aA[d.n]?=some (some t))(hk:gV ps d t):Fn Tryz.prog W 163 [ptr bd] [bc bd b p ps d] Unit (fun _=>.tuple #[]) (fun _=>True) (fun _=>[bc bd b p ps (d.kernel)]):=by
 refine Fn.intro (N:=42) func163 rfl ntmps163 rfl fun F=>?_
 show aq _ _ _ _ _ _ [bc bd b p ps d,F]
 refine .o2 (C:=bc bd b p ps (d)) .auto rfl ?_
 rintro vw ve -
 have ha0:0≤d.a:=by
  unfold Dng.a;rw[cP ht];exact(hk.R.r _).1
 have hb0:0≤d.b:=by
  unfold Dng.b;rw[cP ht];exact(hk.R.r _).1
 refine JD 16 (fun h11=>?_) fun h11=>?_
 ·refine .iQ (C:=cn b ps (d).s) .auto rfl ?_
  rintro fv sv pv bt vm bg vt bk bw vr -
  refine .fr .auto (bN hp ht) ?_
  refine .draw [arr bd 0 (dH b p d vw ve)] [0,1,2,0,0,0,0,0,3] rfl (by kernel_rfl) ?_
  refine J 2 ?_
  refine .c2 call174 rfl (Ff ht hk.I.b) fun _ _=>?_
  refine J 5 ?_
  refine .to (A:=ax ps d.s.aA) (Bs:=[arr p 0 (bb t),ax (ps.set d.n none) (d.s.aA.set d.n none)]) .auto (bH hp ht) ?_
  refine .c call187 rfl (Bf hp ht hk hb0) fun _ _=>?_
  refine J 2 ?_
  rw[show d.kernel=d.ask d.b 0 d.i.a from by unfold Dng.kernel;repeat (first | rw[if_neg (by omega)] | rw[if_pos (by omega)])]
  exact JR 0 ()
 ·refine JD 6 (fun h22=>?_) fun h22=>?_
  ·refine J 3 ?_
   refine .c call158 rfl (tW hp ht hk.I.a) fun _ _=>?_
   refine J 1 ?_
   refine .c call174 rfl (Hj hp ht hk.I.b) fun _ _=>?_
   refine .c call187 rfl (Bf hp ht hk ha0) fun _ _=>?_
   refine J 2 ?_
   rw[show d.kernel=d.ask d.a d.b (-1) from by unfold Dng.kernel;repeat (first | rw[if_neg (by omega)] | rw[if_pos (by omega)])]
   exact JR 0 ()
  ·refine JD 6 (fun h30=>?_) fun h30=>?_
   ·refine J 2 ?_
    refine .c call188 rfl (GO hp ht hk (.inl h30)) fun _ _=>?_
    refine J 2 ?_
    rw[show d.kernel=d.put from by unfold Dng.kernel;repeat (first | rw[if_neg (by omega)] | rw[if_pos (by omega)])]
    exact JR 0 ()
   ·refine JD 6 (fun h34=>?_) fun h34=>?_
    ·refine J 2 ?_
     refine .c call189 rfl (GP hp ht hk (.inr h34)) fun _ _=>?_
     refine J 2 ?_
     rw[show d.kernel=d.get from by unfold Dng.kernel;repeat (first | rw[if_neg (by omega)] | rw[if_pos (by omega)])]
     exact JR 0 ()
    ·refine JD 6 (fun h38=>?_) fun h38=>?_
     ·refine J 2 ?_
      refine .c call190 rfl (Cx hp ht hk) fun _ _=>?_
      refine J 2 ?_
      rw[show d.kernel=d.sleep from by unfold Dng.kernel;repeat (first | rw[if_neg (by omega)] | rw[if_pos (by omega)])]
      exact JR 0 ()
     ·refine J 3 ?_
      refine .c call158 rfl (tW hp ht hk.I.a) fun _ _=>?_
      refine .c call155 rfl (cc hp ht (Nat.le_trans hk.aB (by decide)) (by decide) hk.R.l) fun _ _=>?_
      refine J 2 ?_
      rw[show d.kernel=d.pass d.a 0 0 from by unfold Dng.kernel;repeat (first | rw[if_neg (by omega)] | rw[if_pos (by omega)])]
      exact JR 0 ()
end Go.SLYthncobnjdhjnoaaGreat
namespace Go.SLYthncobnjdhjnoaaGreat
open Go Go.RowKit Go.Proofs Go.Proofs.Tryz
attribute [local irreducible] aq aJ ba bq bu Y
theorem ue{W:World}{bd b p:Nat}{ps:List (Option Nat)}{d:Dng}{l:List Int}{u:Value}(hl:∀ w∈l,0≤w∧bC ps d.s w.toNat)(hw:∀ w∈d.waits,0≤w∧bC ps d.s w.toNat)(hm:d.s.eE.bm≤(d.s.ak.cR.length:Int))(hgm:d.s.ak.cR.length≤1000000)(hmw:∀ x∈d.s.ak.cR,x.wait.length≤1000000)(hb:d.ends.length+l.length≤1000000∧d.out.aw.length+l.length≤1000000):Fn Tryz.prog W 161 [ptr bd,u] [bc bd b p ps d,sl ar 1 u l] Unit (fun _=>.tuple #[]) (fun _=>True) (fun _=>[bc bd b p ps (d.kG l),sl ar 1 u l]):=by
 refine Fn.intro (N:=57) func161 rfl ntmps161 rfl fun F=>?_
 show aq _ _ _ _ _ _ [bc bd b p ps d,sl ar 1 u l,F]
 refine .o2 (C:=bc bd b p ps d) .auto rfl ?_
 rintro vw ve -
 refine .iQ (C:=cn b ps d.s) .auto rfl ?_
 rintro fv sv pv bt vm bg vt bk bw vr -
 have hww:ed d d.s.eE.bm.toNat=d.waits:=rfl
 refine J 15 ?_
 refine .bf (X:=Nat) [4,6,17,18,19,20,21,22,23,24,25,26,27,28,29,30,31,32,33,34,35,36,37,38,39,40,41,42,43,44,45,46] (fun k=>d.s.eE.bm.toNat-k) (fun k=>k≤d.s.eE.bm.toNat) (fun k=>[(17,some (.int .i64 (k:Int)))]) (fun k=>[bc bd b p ps ({d with s:=cv d.s (ed d k) }:Dng),sl ar 1 u l,F]) 0 ?_ ?_ ?_ ?_
 ·exact Nat.zero_le _
 ·exact⟨rfl,trivial⟩
 ·exact fun w s=>au.kept .auto w s
 rintro k hk
 refine JD 6 (fun h18=>?_) fun h18=>?_
 ·refine J 12 ?_
  obtain⟨x,hx⟩:=al (show k<d.s.ak.cR.length by omega)
  refine .o2 (C:=bc bd b p ps (({d with s:=cv d.s (ed d k) }:Dng))) .auto rfl ?_
  rintro vw ve -
  refine .iQ (C:=cn b ps (({d with s:=cv d.s (ed d k) }:Dng)).s) .auto rfl ?_
  rintro fv sv pv bt vm bg vt bk bw vr -
  refine J 8 ?_
  have hxg:(cv d.s (ed d k)).ak.cR[k]?=some x:=by rw[uZ];exact hx
  have hxl:=hmw x (List.mem_of_getElem? hx)
  refine .c call184 rfl (sV hxg hxl) fun u28 _=>?_
  refine J 5 ?_
  refine .bf (X:=Nat) [6,30,31,32,33,34,35,36,37,38,39,40,41,42,43,44,45] (fun j=>(x.wait.map (·.who)).length-j) (fun j=>j≤(x.wait.map (·.who)).length) (fun j=>[(30,some (.int .i64 (j:Int)))]) (fun j=>[bc bd b p ps ({d with s:=cv d.s (ed d k++(x.wait.map (·.who)).take j) }:Dng),sl ar 1 u28 (x.wait.map (·.who)),sl ar 1 u l,F]) 0 ?_ ?_ ?_ ?_
  ·exact Nat.zero_le _
  ·exact⟨rfl,trivial⟩
  ·rw[List.take_zero,List.append_nil];exact fun w s=>au.kept .auto w s
  rintro j hj
  refine JD 6 (fun h31=>?_) fun h31=>?_
  ·refine J 6 ?_
   have hxl2:(x.wait.map (·.who)).length≤1000000:=by rw[List.length_map];exact hxl
   obtain⟨w,hwj⟩:=al (show j<(x.wait.map (·.who)).length by omega)
   have hwm:w∈d.waits:=List.mem_flatMap.2 ⟨x,List.mem_of_getElem? (i:=k) (by rw[List.getElem?_take_of_lt (by omega)];exact hx),List.mem_of_getElem? hwj⟩
   obtain⟨hw0,hwl⟩:=hw w hwm
   obtain⟨hw16,q,v,hq,hv,hRv⟩:=rv w.toNat (ed d k++(x.wait.map (·.who)).take j) hwl
   refine J 6 ?_
   refine .o2 (C:=bc bd b p ps (({d with s:=cv d.s (ed d k++(x.wait.map (·.who)).take j) }:Dng))) .auto rfl ?_
   rintro vw ve -
   refine .iQ (C:=cn b ps (({d with s:=cv d.s (ed d k++(x.wait.map (·.who)).take j) }:Dng)).s) .auto rfl ?_
   rintro fv sv pv bt vm bg vt bk bw vr -
   refine .fr .auto (bN hq hv) ?_
   refine J 7 ?_
   refine .p (.dh w.toNat underlying107 sizeOf106 rfl rfl (by omega) hw16) ?_
   refine .p (.ld rfl (Cell.a (by rw[Nat.mul_one,ej hw16,bx hq]))) ?_
   refine J 3 ?_
   rw[nO]
   refine J 7 ?_
   refine .to (A:=ax ps (({d with s:=cv d.s (ed d k++(x.wait.map (·.who)).take j) }:Dng).s.aA.set w.toNat (some ({v with cE:=1 })))) (Bs:=[arr q 0 (bb ({v with cE:=1 })),ax (ps.set w.toNat none) (({d with s:=cv d.s (ed d k++(x.wait.map (·.who)).take j) }:Dng).s.aA.set w.toNat none)]) .auto (cq (List.getElem?_eq_some_iff.1 hv).1 hq) ?_
   refine .aF (j+1) .auto rfl ?_ ?_ ?_ ?_
   ·omega
   ·show j+1≤_;omega
   ·exact⟨rfl,trivial⟩
   ·rw[bj hwj, ← List.append_assoc,zg _ _ [w],show cv (cv d.s (ed d k++(x.wait.map (·.who)).take j)) [w]=(cv d.s (ed d k++(x.wait.map (·.who)).take j)).aT w.toNat {v with cE:=1 } from by show Spc.aT _ _ _=_;rw[dC hv]];exact fun w s=>au.kept .auto w s
  ·refine J 10 ?_
   rw[List.take_of_length_le (by omega), ← vd hx]
   refine .aF (k+1) .auto rfl ?_ ?_ ?_ ?_
   ·omega
   ·show k+1≤_;omega
   ·exact⟨rfl,trivial⟩
   ·exact fun w s=>au.kept .auto w s
 ·refine J 13 ?_
  rw[show k=d.s.eE.bm.toNat from by omega,hww]
  refine .bf (X:=Nat) [8,49,50,51,52,53,54,55,56] (fun k=>l.length-k) (fun k=>k≤l.length) (fun k=>[(49,some (.int .i64 (k:Int)))]) (fun k=>[bc bd b p ps (({d with s:=cv d.s d.waits }:Dng).dc (l.take k)),sl ar 1 u l,F]) 0 ?_ ?_ ?_ ?_
  ·exact Nat.zero_le _
  ·exact⟨rfl,trivial⟩
  ·exact fun w s=>au.kept .auto w s
  rintro k hk
  refine JD 6 (fun h50=>?_) fun h50=>?_
  ·refine J 6 ?_
   obtain⟨w,hwj⟩:=al (show k<l.length by omega)
   have hwl:=hl w (List.mem_of_getElem? hwj)
   obtain⟨hw16,q,v,hq,hv,hRv⟩:=u7 w.toNat (l.take k) ({d with s:=cv d.s d.waits }:Dng) (rv _ _ hwl.2) (fun z hz=>rv _ _ (hl z (List.mem_of_mem_take hz)).2)
   have hgl2:=pO ({d with s:=cv d.s d.waits }:Dng) (l.take k)
   rw[List.length_take] at hgl2
   refine J 8 ?_
   refine .c call152 rfl (jJ (d:=({d with s:=cv d.s d.waits }:Dng).dc (l.take k)) hwl.1 hq hv hw16 hRv (by show(Dng.dc _ _).ends.length≤_;simp only at hgl2;omega) (by show(Dng.dc _ _).out.aw.length≤_;simp only at hgl2;omega)) fun _ _=>?_
   refine J 7 ?_
   refine .aF (k+1) .auto rfl ?_ ?_ ?_ ?_
   ·omega
   ·show k+1≤_;omega
   ·exact⟨rfl,trivial⟩
   ·rw[bj hwj,u3];exact fun w s=>au.kept .auto w s
  ·refine J 4 ?_
   rw[show d.kG l=({d with s:=cv d.s d.waits }:Dng).dc (l.take k) from by rw[List.take_of_length_le (by omega)];rfl]
   exact JR 0 ()
theorem Fg{W:World}{bd b p:Nat}{ps:List (Option Nat)}{d:Dng}{t:bA}(hp:ps[d.n]?=some (some p))(ht:d.s.aA[d.n]?=some (some t))(hk:gV ps d t):Fn Tryz.prog W 136 [ptr bd] [bc bd b p ps d] (List (Option Nat)) (fun _=>.tuple #[]) (fun _=>True) (fun qs=>[bc bd b p qs d.call]):=by
 refine Fn.intro (N:=124) func136 rfl ntmps136 rfl fun F=>?_
 show aq _ _ _ _ _ _ [bc bd b p ps d,F]
 refine .o2 (C:=bc bd b p ps (d)) .auto rfl ?_
 rintro vw ve -
 have hnn:=hk.nn
 have hn0:=hk.I.n
 have hIa:=hk.I.a
 have hRl:=hk.R.l
 refine JD 16 (fun h11=>?_) fun h11=>?_
 ·refine J 2 ?_
  refine .c call154 rfl (Cy hp ht hk) fun qs _=>?_
  refine J 2 ?_
  rw[show d.call=d.spawn from by unfold Dng.call;repeat (first | rw[if_neg (by omega)] | rw[if_pos (by omega)])]
  exact JR 0 qs
 ·refine JD 6 (fun h15=>?_) fun h15=>?_
  ·refine J 1 ?_
   refine .iQ (C:=cn b ps (d).s) .auto rfl ?_
   rintro fv sv pv bt vm bg vt bk bw vr -
   refine .fr .auto (bN hp ht) ?_
   refine .draw [arr bd 0 (dH b p d vw ve)] [1,1,1,1,1,1,1,1,1,1,1,1,1,1,1,1,1,1,1,1,3] rfl (by kernel_rfl) ?_
   refine J 19 ?_
   refine .p (.dh d.i.a.toNat underlying139 sizeOf86 rfl rfl (by omega) (by omega)) ?_
   refine .d3 rfl (ab.st sizeOf86 rfl rfl rfl (Nat.blt_eq.mpr (by show 2+d.i.a.toNat * 1<18;omega))) ?_
   rintro _ _ ⟨rfl,rfl⟩
   rw[iB _ (by omega) (by omega) hRl]
   refine J 10 ?_
   refine .p (.ld rfl (Cell.a (cs:=bb (t.put d.i.a t.handle)) rfl)) ?_
   refine .to (A:=ax ps (d.s.aA.set d.n (some (t.put d.i.a t.handle)))) (Bs:=[arr p 0 (bb (t.put d.i.a t.handle)),ax (ps.set d.n none) (d.s.aA.set d.n none)]) .auto (cq (List.getElem?_eq_some_iff.1 ht).1 hp) ?_
   refine .c call155 rfl (cc (d:=d.aT (t.put d.i.a t.handle)) (t:=t.put d.i.a t.handle) hp (cS ht) (Nat.le_trans hk.aB (by decide)) (by decide) (by rw[iR];exact hRl)) fun _ _=>?_
   refine J 2 ?_
   rw[show d.call=(d.aT (t.put d.i.a t.handle)).pass 0 t.handle 0 from by unfold Dng.call;rw[if_neg h11,if_pos h15,cP ht]]
   exact JR 0 ps
  ·refine JD 6 (fun h46=>?_) fun h46=>?_
   ·refine J 3 ?_
    refine .c call155 rfl (cc hp ht (Nat.le_trans hk.aB (by decide)) (by decide) hk.R.l) fun _ _=>?_
    refine J 3 ?_
    refine .o2 (C:=bc bd b p ps (d.pass 0 0 0)) .auto rfl ?_
    rintro vw ve -
    refine J 5 ?_
    rw[Ge]
    refine J 2 ?_
    rw[show d.call = {d.pass 0 0 0 with out:={d.out with yielded:=true } } from by unfold Dng.call;repeat (first | rw[if_neg (by omega)] | rw[if_pos (by omega)])]
    exact JR 0 ps
   ·refine JD 6 (fun h54=>?_) fun h54=>?_
    ·refine J 2 ?_
     refine .c call156 rfl (Fe hp ht hk) fun qs _=>?_
     refine J 2 ?_
     rw[show d.call=d.join from by unfold Dng.call;repeat (first | rw[if_neg (by omega)] | rw[if_pos (by omega)])]
     exact JR 0 qs
    ·refine JD 6 (fun h58=>?_) fun h58=>?_
     ·refine J 2 ?_
      refine .c call157 rfl (zQ hp ht hk) fun qs _=>?_
      refine J 2 ?_
      rw[show d.call=d.fq from by unfold Dng.call;repeat (first | rw[if_neg (by omega)] | rw[if_pos (by omega)])]
      exact JR 0 qs
     ·refine JD 6 (fun h62=>?_) fun h62=>?_
      ·refine J 4 ?_
       refine .c call158 rfl (tW hp ht hk.I.a) fun _ _=>?_
       refine .c call133 rfl (iD hp ht (Nat.le_trans hk.aB (by decide))) fun _ _=>?_
       refine J 5 ?_
       refine .c call158 rfl (tW (d:=d.tell d.a 0 0 true) hp ht hk.I.a) fun _ _=>?_
       rw[show(d.tell d.a 0 0 true).a=d.a from rfl]
       refine .c call134 rfl (qv (d:=d.tell d.a 0 0 true) hp ht hk.lt hk.lp hk.T hk.R (Nat.le_trans hk.ends (by decide)) (Nat.le_trans hk.yz (by decide)) hk.join) fun qs _=>?_
       refine J 2 ?_
       rw[show d.call=(d.tell d.a 0 0 true).fin d.a from by unfold Dng.call;repeat (first | rw[if_neg (by omega)] | rw[if_pos (by omega)])]
       exact JR 0 qs
      ·refine JD 7 (fun h72=>?_) fun h72=>?_
       ·refine J 2 ?_
        first | refine aq.dK rfl (fun _=>?_) (fun hc=>absurd h72 hc) | refine aq.cond rfl (fun _=>?_) (fun hc=>by rw[h72] at hc;cases hc)
        refine J 2 ?_
        refine .c call159 rfl (oZ hp ht hk) fun _ _=>?_
        refine J 2 ?_
        rw[show d.call=d.mutex from by unfold Dng.call;repeat (first | rw[if_neg (by omega)] | rw[if_pos (by omega)])]
        exact JR 0 ps
       ·refine JD 6 (fun h72=>?_) fun h72=>?_
        ·refine J 2 ?_
         first | refine aq.dK rfl (fun _=>?_) (fun hc=>absurd h72 hc) | refine aq.cond rfl (fun _=>?_) (fun hc=>by rw[h72] at hc;cases hc)
         refine J 2 ?_
         refine .c call159 rfl (oZ hp ht hk) fun _ _=>?_
         refine J 2 ?_
         rw[show d.call=d.mutex from by unfold Dng.call;repeat (first | rw[if_neg (by omega)] | rw[if_pos (by omega)])]
         exact JR 0 ps
        ·refine JD 5 (fun h72c=>?_) fun h72c=>?_
         ·refine J 2 ?_
          refine .c call159 rfl (oZ hp ht hk) fun _ _=>?_
          refine J 2 ?_
          rw[show d.call=d.mutex from by unfold Dng.call;repeat (first | rw[if_neg (by omega)] | rw[if_pos (by omega)])]
          exact JR 0 ps
         ·refine JD 7 (fun h78=>?_) fun h78=>?_
          ·refine J 2 ?_
           first | refine aq.dK rfl (fun _=>?_) (fun hc=>absurd h78 hc) | refine aq.cond rfl (fun _=>?_) (fun hc=>by rw[h78] at hc;cases hc)
           refine J 1 ?_
           refine .iQ (C:=cn b ps (d).s) .auto rfl ?_
           rintro fv sv pv bt vm bg vt bk bw vr -
           refine .draw [arr bd 0 (dH b p d vw ve),arr b 0 (eR fv sv pv d.s.eE bt ps vm bg vt bk bw vr)] [1,1,1,1,1,1,1,1,1,1,1,1,1,1,1,1,1,1,1,1,1,1,1,3,1,1,1,1,1] rfl (by kernel_rfl) ?_
           refine J 12 ?_
           refine .p (.gm underlying86 underlying3 rfl (by omega)) ?_
           refine J 10 ?_
           refine .c call160 rfl (pV hk.gl hk.Gi) fun u105 _=>?_
           refine J 1 ?_
           refine .p (.extract (v:=u105) rfl rfl) ?_
           refine .p (.extract (v:=.int .i64 (d.s.ak.signal d.i.n d.choice (decide (d.i.op=29))).2.1) rfl rfl) ?_
           refine J 13 ?_
           refine .c call155 rfl (cc (d:=(d.bz (d.s.ak.signal d.i.n d.choice (decide (d.i.op=29))).2.2)) hp ht (Nat.le_trans hk.aB (by decide)) gA hk.R.l) fun _ _=>?_
           have sigw:∀ w∈((d.bz (d.s.ak.signal d.i.n d.choice (decide (d.i.op=29))).2.2).pass d.i.n 0 (d.s.ak.signal d.i.n d.choice (decide (d.i.op=29))).2.1).waits,d.s.ak.has w:=fun w h=>by
            obtain⟨x,hx,hw⟩:=List.mem_flatMap.1 h
            obtain⟨y,hy,rfl⟩:=List.mem_map.1 hw
            exact(kk hk.zt.1 hk.zt.2 x (List.mem_of_mem_take hx)).2 y hy
           refine J 5 ?_
           refine .c call161 rfl (ue (d:=((d.bz (d.s.ak.signal d.i.n d.choice (decide (d.i.op=29))).2.2).pass d.i.n 0 (d.s.ak.signal d.i.n d.choice (decide (d.i.op=29))).2.1)) (l:=(d.s.ak.signal d.i.n d.choice (decide (d.i.op=29))).1) (fun w h=>⟨(hk.hJ w (kh w h)).1,((hk.hJ w (kh w h)).2.of (s':=(d.bz (d.s.ak.signal d.i.n d.choice (decide (d.i.op=29))).2.2).s) rfl).pass (d:=(d.bz (d.s.ak.signal d.i.n d.choice (decide (d.i.op=29))).2.2)) ht hk.R gA⟩) (fun w h=>⟨(hk.hJ w (sigw w h)).1,((hk.hJ w (sigw w h)).2.of (s':=(d.bz (d.s.ak.signal d.i.n d.choice (decide (d.i.op=29))).2.2).s) rfl).pass (d:=(d.bz (d.s.ak.signal d.i.n d.choice (decide (d.i.op=29))).2.2)) ht hk.R gA⟩) (by show d.s.eE.bm≤((d.s.ak.signal d.i.n d.choice (decide (d.i.op=29))).2.2.cR.length:Int);rw[iT];exact hk.Gj) (by show((d.s.ak.signal d.i.n d.choice (decide (d.i.op=29))).2.2.cR.length)≤_;rw[iT];exact hk.gl.m) (fun x h=>(kk hk.zt.1 hk.zt.2 x h).1) (by have:=mI (c:=d.i.n) (ch:=d.choice) (all:=decide (d.i.op=29)) hk.zt.2;have:=hk.ends;have:=hk.yz;exact⟨by show d.ends.length+_≤_;omega,by show d.out.aw.length+_≤_;omega⟩)) fun _ _=>?_
           refine J 2 ?_
           rw[show d.call=((d.bz (d.s.ak.signal d.i.n d.choice (decide (d.i.op=29))).2.2).pass d.i.n 0 (d.s.ak.signal d.i.n d.choice (decide (d.i.op=29))).2.1).kG (d.s.ak.signal d.i.n d.choice (decide (d.i.op=29))).1 from by unfold Dng.call;repeat (first | rw[if_neg (by omega)] | rw[if_pos (by omega)])]
           exact JR 0 ps
          ·refine JD 5 (fun h78=>?_) fun h78=>?_
           ·refine J 1 ?_
            refine .iQ (C:=cn b ps (d).s) .auto rfl ?_
            rintro fv sv pv bt vm bg vt bk bw vr -
            refine .draw [arr bd 0 (dH b p d vw ve),arr b 0 (eR fv sv pv d.s.eE bt ps vm bg vt bk bw vr)] [1,1,1,1,1,1,1,1,1,1,1,1,1,1,1,1,1,1,1,1,1,1,1,3,1,1,1,1,1] rfl (by kernel_rfl) ?_
            refine J 12 ?_
            refine .p (.gm underlying86 underlying3 rfl (by omega)) ?_
            refine J 10 ?_
            refine .c call160 rfl (pV hk.gl hk.Gi) fun u105 _=>?_
            refine J 1 ?_
            refine .p (.extract (v:=u105) rfl rfl) ?_
            refine .p (.extract (v:=.int .i64 (d.s.ak.signal d.i.n d.choice (decide (d.i.op=29))).2.1) rfl rfl) ?_
            refine J 13 ?_
            refine .c call155 rfl (cc (d:=(d.bz (d.s.ak.signal d.i.n d.choice (decide (d.i.op=29))).2.2)) hp ht (Nat.le_trans hk.aB (by decide)) gA hk.R.l) fun _ _=>?_
            have sigw:∀ w∈((d.bz (d.s.ak.signal d.i.n d.choice (decide (d.i.op=29))).2.2).pass d.i.n 0 (d.s.ak.signal d.i.n d.choice (decide (d.i.op=29))).2.1).waits,d.s.ak.has w:=fun w h=>by
             obtain⟨x,hx,hw⟩:=List.mem_flatMap.1 h
             obtain⟨y,hy,rfl⟩:=List.mem_map.1 hw
             exact(kk hk.zt.1 hk.zt.2 x (List.mem_of_mem_take hx)).2 y hy
            refine J 5 ?_
            refine .c call161 rfl (ue (d:=((d.bz (d.s.ak.signal d.i.n d.choice (decide (d.i.op=29))).2.2).pass d.i.n 0 (d.s.ak.signal d.i.n d.choice (decide (d.i.op=29))).2.1)) (l:=(d.s.ak.signal d.i.n d.choice (decide (d.i.op=29))).1) (fun w h=>⟨(hk.hJ w (kh w h)).1,((hk.hJ w (kh w h)).2.of (s':=(d.bz (d.s.ak.signal d.i.n d.choice (decide (d.i.op=29))).2.2).s) rfl).pass (d:=(d.bz (d.s.ak.signal d.i.n d.choice (decide (d.i.op=29))).2.2)) ht hk.R gA⟩) (fun w h=>⟨(hk.hJ w (sigw w h)).1,((hk.hJ w (sigw w h)).2.of (s':=(d.bz (d.s.ak.signal d.i.n d.choice (decide (d.i.op=29))).2.2).s) rfl).pass (d:=(d.bz (d.s.ak.signal d.i.n d.choice (decide (d.i.op=29))).2.2)) ht hk.R gA⟩) (by show d.s.eE.bm≤((d.s.ak.signal d.i.n d.choice (decide (d.i.op=29))).2.2.cR.length:Int);rw[iT];exact hk.Gj) (by show((d.s.ak.signal d.i.n d.choice (decide (d.i.op=29))).2.2.cR.length)≤_;rw[iT];exact hk.gl.m) (fun x h=>(kk hk.zt.1 hk.zt.2 x h).1) (by have:=mI (c:=d.i.n) (ch:=d.choice) (all:=decide (d.i.op=29)) hk.zt.2;have:=hk.ends;have:=hk.yz;exact⟨by show d.ends.length+_≤_;omega,by show d.out.aw.length+_≤_;omega⟩)) fun _ _=>?_
            refine J 2 ?_
            rw[show d.call=((d.bz (d.s.ak.signal d.i.n d.choice (decide (d.i.op=29))).2.2).pass d.i.n 0 (d.s.ak.signal d.i.n d.choice (decide (d.i.op=29))).2.1).kG (d.s.ak.signal d.i.n d.choice (decide (d.i.op=29))).1 from by unfold Dng.call;repeat (first | rw[if_neg (by omega)] | rw[if_pos (by omega)])]
            exact JR 0 ps
           ·refine JD 7 (fun h119=>?_) fun h119=>?_
            ·refine J 2 ?_
             first | refine aq.dK rfl (fun _=>?_) (fun hc=>absurd h119 hc) | refine aq.cond rfl (fun _=>?_) (fun hc=>by rw[h119] at hc;cases hc)
             refine J 2 ?_
             refine .c call162 rfl (Bg hp ht hk) fun _ _=>?_
             refine J 2 ?_
             rw[show d.call=d.dU from by unfold Dng.call;repeat (first | rw[if_neg (by omega)] | rw[if_pos (by omega)])]
             exact JR 0 ps
            ·refine JD 5 (fun h119=>?_) fun h119=>?_
             ·refine J 2 ?_
              refine .c call162 rfl (Bg hp ht hk) fun _ _=>?_
              refine J 2 ?_
              rw[show d.call=d.dU from by unfold Dng.call;repeat (first | rw[if_neg (by omega)] | rw[if_pos (by omega)])]
              exact JR 0 ps
             ·refine J 2 ?_
              refine .c call163 rfl (zR hp ht hk) fun _ _=>?_
              refine J 2 ?_
              rw[show d.call=d.kernel from by unfold Dng.call;repeat (first | rw[if_neg (by omega)] | rw[if_pos (by omega)])]
              exact JR 0 ps
end Go.SLYthncobnjdhjnoaaGreat
namespace Go.SLYthncobnjdhjnoaaGreat
open Go Go.RowKit Go.Proofs Go.Proofs.Tryz
attribute [local irreducible] aq aJ ba bq bu Y
theorem sd{W:World}{fv c1 c2 c3 c4 c5 c6 c7:Value}{p:gD}{f:gZ}(hl:p.funcs.length≤1000000)(hl2:∀ g∈p.funcs,g.length≤256):Fn Tryz.prog W 122 [.agg #[fv,c1,c2,c3,c4,c5,c6,c7],.agg (gU f).toArray] [wC fv p.funcs] Unit (fun _=>G5 (dB p f)) (fun _=>True) (fun _=>[wC fv p.funcs]) :=
 Fn.JX fun fs hfs=>zK (A:=seps [sl dP 1 fv fs,aO (fun x=>sl dO 5 x.1 x.2) fs]) (Rd.et (Rd.sl .here)) (fun x hx=>Rd.et (uR (f:=fun x:Value×List Ins=>x.1) (g:=fun x=>x.2) hx (.there .here))) hfs (by rw[← List.length_map (f:=(·.2)),hfs];exact hl) (fun x hx=>Nat.le_trans (hl2 _ (by rw[← hfs];exact List.mem_map_of_mem hx)) (by decide))
theorem Fh{W:World}{b:Nat}{s:Spc}{n choice:Int}(hO:hD s):Fn Tryz.prog W 123 [ptr b,.int .i64 n,.int .i64 choice] [fX b s] Value (fun u=>.tuple #[.agg (qd u (s.run n choice).1).toArray,.int .i64 (s.run n choice).2.1]) (fun _=>True) (fun u=>[sl ar 1 u (s.run n choice).1.aw,fX b (s.run n choice).2.2]):=by
 refine Fn.intro (N:=76) func123 rfl ntmps123 rfl fun F=>?_
 show aq _ _ _ _ _ _ [fX b s,F]
 refine .o1 (C:=fX b s) .auto rfl ?_
 rintro ps -
 refine .iQ (C:=cn b ps s) .auto rfl ?_
 rintro fv sv pv bt vm bg vt bk bw vr -
 refine .cA (fun w st=>st.fact .auto jr) fun hs=>?_
 refine J 2 ?_
 refine .ai rfl (ab.alloc rfl zeroValue35 rfl) ?_
 rintro _ _ ⟨b6,rfl,rfl⟩
 refine J 7 ?_
 refine .c call121 rfl Bb fun _ _=>?_
 refine JD 12 (fun h15=>?_) fun h15=>?_
 ·have hap:zf ps n=none:=by
   cases hh:zf ps n with
   | none=>rfl
   | some p=>rw[hh] at h15;cases h15
  refine J 2 ?_
  refine .p (.l9 ([(.slice none 0 0),(.bool false),(.bool false),(.bool false)]) (by kernel_rfl)) ?_
  refine J 7 ?_
  rw[xl (G7 hs hap hO.lt)]
  refine .fk rfl rfl isAgg35 (by exact sizeOf35) Cells.a rfl fun w s=>⟨(.slice none 0 0),?_,trivial,aj .auto s⟩
  rfl
 ·obtain⟨p,hap⟩:∃ p,zf ps n=some p:=by
   cases hh:zf ps n with
   | none=>rw[hh] at h15;cases h15
   | some p=>exact⟨p,rfl⟩
  rw[hap]
  obtain⟨k,t,rfl,hk16,hp,ht,hat⟩:=Ed hs hap hO.lt
  have hR:=(hO.R k t ht).1
  have hpc:=(hO.R k t ht).2
  refine J 2 ?_
  refine .iQ (C:=cn b ps s) .auto rfl ?_
  rintro fv sv pv bt vm bg vt bk bw vr -
  refine .fr .auto (bN hp ht) ?_
  refine JD 8 (fun h19=>?_) fun h19=>?_
  ·refine J 2 ?_
   refine .p (.l9 ([(.slice none 0 0),(.bool false),(.bool false),(.bool false)]) (by kernel_rfl)) ?_
   refine J 7 ?_
   refine .to (A:=ax ps s.aA) (Bs:=[arr p 0 (bb t),ax (ps.set k none) (s.aA.set k none)]) .auto (bH hp ht) ?_
   rw[xn hat h19]
   refine .fk rfl rfl isAgg35 (by exact sizeOf35) Cells.a rfl fun w s=>⟨(.slice none 0 0),?_,trivial,aj .auto s⟩
   rfl
  ·have hw0:t.cE=0:=Decidable.not_not.mp h19
   refine J 4 ?_
   refine .qM [arr b 0 (eR fv sv pv s.eE bt ps vm bg vt bk bw vr),arr p 0 (bb t)] [0,0,0,0,0,0,0,0,2,0,0,0,4,2,0] [0,1,2,3,4,5,6,7,8,9,10,11,12,13,14] rfl (by kernel_rfl) ?_
   refine bu.q rfl rfl rfl Kept.auto (Y.m rfl) ?_
   refine bu.q rfl rfl rfl Kept.auto (Y.n rfl) ?_
   refine bu.q rfl rfl rfl Kept.auto (Y.fF 60 underlying114 rfl sizeOf60 rfl) ?_
   refine bu.q rfl rfl rfl Kept.auto (Y.Db isAgg60 rfl (Cells.kT (ds:=xp fv sv pv s.eE) (Cells.a (cs:=eR fv sv pv s.eE bt ps vm bg vt bk bw vr)) rfl) (by exact sizeOf60)) ?_
   refine bu.q rfl rfl rfl Kept.auto (Y.m rfl) ?_
   refine bu.q rfl rfl rfl Kept.auto (Y.n rfl) ?_
   refine bu.q rfl rfl rfl Kept.auto (Y.fF 141 underlying143 rfl sizeOf141 rfl) ?_
   refine bu.q rfl rfl rfl Kept.auto (Y.Db isAgg141 rfl (Cells.kT (ds:=gU t.lU) (Cells.a (cs:=bb t)) rfl) (by exact sizeOf141)) ?_
   refine bu.dX rfl (.inl rfl) rfl (fun _=>Kept.auto) call122 rfl (sd (p:=s.eE) (f:=t.lU) hO.xC.1 hO.xC.2) .auto (fun _ _=>Kept.auto) ?_
   rintro⟨⟩ -
   refine bu.q rfl rfl rfl Kept.auto (Y.m rfl) ?_
   refine bu.q rfl rfl rfl Kept.auto (Y.extract (v:=.agg (dO ((dB s.eE t.lU).getD Ins.z)).toArray) rfl rfl) ?_
   refine bu.q rfl rfl rfl Kept.auto (Y.extract (v:=.bool (dB s.eE t.lU).isSome) rfl rfl) ?_
   refine bu.fresh rfl rfl rfl (by decide) Kept.auto (kV zeroValue88 rfl) ?_
   rintro b9
   refine bu.HW rfl rfl (by exact sizeOf88) rfl rfl rfl (by rfl) Kept.auto Kept.auto ?_
   refine bu.q rfl rfl rfl Kept.auto (Y.a rfl) ?_
   refine bu.nil ?_
   refine J 8 ?_
   refine .p (.JL (fun _ _ _ _ _=>dH b p (s.dp k ((dB s.eE t.lU).getD Ins.z) choice) (.slice none 0 0) (.slice none 0 0)) rfl rfl rfl rfl rfl (by kernel_rfl)) ?_
   refine .ai rfl (ab.box rfl rfl rfl) ?_
   rintro _ _ ⟨b44,rfl,rfl⟩
   refine JD 12 (fun h56=>?_) fun h56=>?_
   ·have hn:(dB s.eE t.lU)=none:=Option.isNone_iff_eq_none.mp (by simpa using h56)
    refine J 3 ?_
    refine .p (.iK (fun v1=>[v1,(.int .i64 0),(.int .i64 0),(.int .i64 0),(.int .u64 0)]) rfl (by kernel_rfl)) ?_
    refine J 2 ?_
    refine .ai rfl (ab.G3 (vs:=dO ⟨23,0,0,0,0⟩) (by exact sizeOf88) rfl rfl rfl rfl) ?_
    rintro _ _ ⟨rfl,rfl⟩
    rw[show setFrom (dH b p (s.dp k ((dB s.eE t.lU).getD Ins.z) choice) (.slice none 0 0) (.slice none 0 0)) 3 (dO ⟨23,0,0,0,0⟩)=dH b p (s.dp k ⟨23,0,0,0,0⟩ choice) (.slice none 0 0) (.slice none 0 0) from rfl]
    refine J 5 ?_
    refine .to (A:=ax ps s.aA) (Bs:=[arr p 0 (bb t),ax (ps.set k none) (s.aA.set k none)]) .auto (bH hp ht) ?_
    refine .c call133 rfl (iD (d:=(s.dp k ⟨23,0,0,0,0⟩ choice)) hp ht (Nat.le_trans hO.aB (by decide))) fun _ _=>?_
    refine J 4 ?_
    refine .c call134 rfl (qv (d:=(s.dp k ⟨23,0,0,0,0⟩ choice).tell 0 0 0 true) hp ht hO.lt (hs.1.trans hO.lt) hO.T hR (Nat.zero_le _) (Nat.zero_le _) (hO.G6 hs ht hw0)) fun qs _=>?_
    refine J 6 ?_
    refine .c call137 rfl (mU (d:=(((s.dp k ⟨23,0,0,0,0⟩ choice).tell 0 0 0 true).fin 0)) (Nat.le_trans (fN.trans jE).1 (by have:=hO.aB;show s.aB.length+_≤_;omega)) (Nat.le_trans (fN.trans jE).2 (by show 0+_≤_;decide))) fun u75 _=>?_
    refine .ai rfl (ab.Gd (vs:=[.bool (((s.dp k ⟨23,0,0,0,0⟩ choice).tell 0 0 0 true).fin 0).finish.1.aK,.bool (((s.dp k ⟨23,0,0,0,0⟩ choice).tell 0 0 0 true).fin 0).finish.1.ended,.bool (((s.dp k ⟨23,0,0,0,0⟩ choice).tell 0 0 0 true).fin 0).finish.1.yielded]) (by exact sizeOf35) rfl rfl rfl rfl) ?_
    rintro _ _ ⟨rfl,rfl⟩
    refine J 4 ?_
    rw[AW hat h19 hn rfl]
    refine .fk rfl rfl isAgg35 (by exact sizeOf35) Cells.a rfl fun w s=>⟨u75,?_,trivial,aj .auto s⟩
    rfl
   ·obtain⟨i,hn⟩:∃ i,(dB s.eE t.lU)=some i:=Option.isSome_iff_exists.mp (by simpa using h56)
    rw[show((dB s.eE t.lU).getD Ins.z)=i from by rw[hn];rfl]
    obtain⟨hI,hIn,hIt⟩:=tE hO hn
    refine J 4 ?_
    refine .c call110 rfl ko fun _ _=>?_
    refine JD 4 (fun h67=>?_) fun h67=>?_
    ·refine J 2 ?_
     refine .to (A:=ax ps s.aA) (Bs:=[arr p 0 (bb t),ax (ps.set k none) (s.aA.set k none)]) .auto (bH hp ht) ?_
     refine .c call135 rfl (Cr (d:=(s.dp k i choice)) hp ht hI (hR.lU hpc) h67 hO.mem (Nat.le_trans hO.aB (by decide)) hO.lt (hs.1.trans hO.lt) hO.T hR (Nat.zero_le _) (Nat.zero_le _) (hO.G6 hs ht hw0)) fun qs _=>?_
     refine J 6 ?_
     refine .c call137 rfl (mU (d:=(s.dp k i choice).plain) (Nat.le_trans (mJ).1 (by have:=hO.aB;show s.aB.length+_≤_;omega)) (Nat.le_trans (mJ).2 (by show 0+_≤_;decide))) fun u75 _=>?_
     refine .ai rfl (ab.Gd (vs:=[.bool (s.dp k i choice).plain.finish.1.aK,.bool (s.dp k i choice).plain.finish.1.ended,.bool (s.dp k i choice).plain.finish.1.yielded]) (by exact sizeOf35) rfl rfl rfl rfl) ?_
     rintro _ _ ⟨rfl,rfl⟩
     refine J 4 ?_
     rw[tF hat h19 hn h67 rfl]
     refine .fk rfl rfl isAgg35 (by exact sizeOf35) Cells.a rfl fun w s=>⟨u75,?_,trivial,aj .auto s⟩
     rfl
    ·refine J 7 ?_
     refine .p (.add rfl rfl (by omega)) ?_
     refine J 4 ?_
     rw[HY]
     refine J 4 ?_
     refine .to (A:=ax ps (s.aA.set k (some ({t with pc:=t.pc+1 })))) (Bs:=[arr p 0 (bb ({t with pc:=t.pc+1 })),ax (ps.set k none) (s.aA.set k none)]) .auto (cq (List.getElem?_eq_some_iff.1 ht).1 hp) ?_
     refine .c call136 rfl (Fg (d:=((s.dp k i choice).aT {t with pc:=t.pc+1 })) hp (cS ht) (hO.call hs ht hw0 hI (hIn h67) hIt)) fun qs _=>?_
     refine J 6 ?_
     refine .c call137 rfl (mU (d:=((s.dp k i choice).aT {t with pc:=t.pc+1 }).call) (Nat.le_trans (oS hO.zt.2).1 (by have:=hO.aB;show s.aB.length+_≤_;omega)) (Nat.le_trans (oS hO.zt.2).2 (by show 0+_≤_;decide))) fun u75 _=>?_
     refine .ai rfl (ab.Gd (vs:=[.bool ((s.dp k i choice).aT {t with pc:=t.pc+1 }).call.finish.1.aK,.bool ((s.dp k i choice).aT {t with pc:=t.pc+1 }).call.finish.1.ended,.bool ((s.dp k i choice).aT {t with pc:=t.pc+1 }).call.finish.1.yielded]) (by exact sizeOf35) rfl rfl rfl rfl) ?_
     rintro _ _ ⟨rfl,rfl⟩
     refine J 4 ?_
     rw[xo hat h19 hn h67 rfl]
     refine .fk rfl rfl isAgg35 (by exact sizeOf35) Cells.a rfl fun w s=>⟨u75,?_,trivial,aj .auto s⟩
     rfl
end Go.SLYthncobnjdhjnoaaGreat
namespace Go.SLYthncobnjdhjnoaaGreat
open Go Go.RowKit Go.Proofs Go.Proofs.Tryz
attribute [local irreducible] aq aJ ba bq bu Y
theorem Cz{W:World}{b p:Nat}{ps:List (Option Nat)}{pr:gD}{n:Nat}{t:bA}{fv sv pv:Value}{bt:Nat}{vm:Value}{bg:Nat}{vt:Value}{bk bw:Nat}{vr:Value}(hp:ps[n]?=some (some p))(hn16:n<16)(hR:gk t){y:Int}:Fn Tryz.prog W 77 [ptr b,.int .i64 (n:Int),.int .u64 y] [arr b 0 (eR fv sv pv pr bt ps vm bg vt bk bw vr),arr p 0 (bb t)] Unit (fun _=>.agg (jm (t.jA y)).toArray) (fun _=>True) (fun _=>[arr b 0 (eR fv sv pv pr bt ps vm bg vt bk bw vr),arr p 0 (bb (t.fL y))]):=by
 refine Fn.intro (N:=50) func77 rfl ntmps77 rfl fun F=>?_
 show aq _ _ _ _ _ _ [arr b 0 (eR fv sv pv pr bt ps vm bg vt bk bw vr),arr p 0 (bb t),F]
 have hRl:=hR.l
 have hRi:=hR.i
 refine J 2 ?_
 refine .ai rfl (ab.alloc rfl zeroValue104 rfl) ?_
 rintro _ _ ⟨b6,rfl,rfl⟩
 refine J 8 ?_
 refine .p (.dh n underlying107 sizeOf106 rfl rfl rfl hn16) ?_
 refine .p (.ld rfl (Cell.a (by rw[Nat.mul_one,ej hn16,bx hp]))) ?_
 refine J 3 ?_
 refine .yD (X:=Unit) [2,14,15,16,17,18,19,20,21,22,23,24,25,26,27,28] (fun _=>True) (fun _=>[(2,some (.int .u64 (if t.bR = -1 then 0 else y)))]) (fun _=>[arr p 0 (bb (if t.bR = -1 then t else t.put t.bR y)),arr b6 0 [.int .u64 0,.int .i64 0,.int .u64 0,.int .u64 0,.int .i64 0,.bool false],arr b 0 (eR fv sv pv pr bt ps vm bg vt bk bw vr),F]) ?_ ?_
 ·refine JD 9 (fun h18=>?_) fun h18=>?_
  ·refine .draw [arr p 0 (bb t)] [1,1,1,1,1,1,1,1,1,1,3] rfl (by kernel_rfl) ?_
   refine J 9 ?_
   refine .p (.dh t.bR.toNat underlying139 sizeOf86 rfl rfl (by omega) (by omega)) ?_
   refine .d3 rfl (ab.st sizeOf86 rfl rfl rfl (Nat.blt_eq.mpr (by show 2+t.bR.toNat * 1<18;omega))) ?_
   rintro _ _ ⟨rfl,rfl⟩
   rw[iB y (by omega) (by omega) hRl]
   refine J 1 ?_
   refine .hP () .auto ?_ ?_ ?_
   ·trivial
   ·rw[if_neg (by omega)];exact⟨rfl,trivial⟩
   ·rw[if_neg (by omega)];exact fun w s=>au.kept .auto w s
  ·refine J 3 ?_
   refine .hP () .auto ?_ ?_ ?_
   ·trivial
   ·rw[if_pos (by omega)];exact⟨rfl,trivial⟩
   ·rw[if_pos (by omega)];exact fun w s=>au.kept .auto w s
 ·rintro⟨⟩ -
  obtain⟨y1,hy1⟩:∃ y1,y1=(if t.bR = -1 then 0 else y):=⟨_,rfl⟩
  obtain⟨t1,h1⟩:∃ t1,t1=(if t.bR = -1 then t else t.put t.bR y):=⟨_,rfl⟩
  have h1l:t1.aD.length=8:=by
   rw[h1]
   split
   ·exact hRl
   ·rw[iR];exact hRl
  have h1h:t1.handle=t.handle∧t1.op=t.op:=by
   rw[h1]
   split <;> exact⟨rfl,rfl⟩
  rw[← hy1, ← h1]
  refine J 6 ?_
  refine .p (.dh 7 underlying139 sizeOf86 rfl rfl (by omega) (by omega)) ?_
  refine J 1 ?_
  rw[qp (n:=7) 0 (by decide) h1l]
  refine J 9 ?_
  rw[nO]
  refine J 3 ?_
  rw[rj]
  refine J 3 ?_
  refine .draw [arr p 0 (bb {t1.put 7 0 with cE:=0,bR := -1 })] [1,1,1,1,1,1,1,1,1,1,3] rfl (by kernel_rfl) ?_
  refine J 9 ?_
  refine .p (.FJ (fun v1 v2 v3 v4=>[v1,v2,(.int .u64 0),v3,(.int .i64 0),v4]) rfl rfl rfl rfl (by kernel_rfl)) ?_
  refine .d3 rfl (ab.gC (by exact sizeOf104) rfl rfl rfl (by rfl)) ?_
  rintro _ _ ⟨rfl,rfl⟩
  refine J 3 ?_
  rw[AO t1 h1]
  refine .dt rfl rfl isAgg104 (by exact sizeOf104) Cells.a fun w s=>⟨(),?_,trivial,aj .auto s⟩
  show Ending.returned (Value.agg #[.int .u64 t1.handle,.int .i64 t1.op,.int .u64 0,.int .u64 y1,.int .i64 0,.bool true])=_;rw[h1h.1,h1h.2,hy1];rfl
end Go.SLYthncobnjdhjnoaaGreat
namespace Go.SLYthncobnjdhjnoaaGreat
open Go Go.RowKit Go.Proofs Go.Proofs.Tryz
attribute [local irreducible] aq aJ ba bq bu Y
theorem CA{W:World}{b:Nat}{s:Spc}(hO:hD s):Fn Tryz.prog W 37 [ptr b] [fX b s] Value (fun u=>.agg (qd u s.tick.1).toArray) (fun _=>True) (fun u=>[sl ar 1 u s.aM.due,fX b s.tick.2]):=by
 refine Fn.intro (N:=35) func37 rfl ntmps37 rfl fun F=>?_
 show aq _ _ _ _ _ _ [fX b s,F]
 refine .o1 (C:=fX b s) .auto rfl ?_
 rintro ps -
 refine .iQ (C:=cn b ps s) .auto rfl ?_
 rintro fv sv pv bt vm bg vt bk bw vr -
 refine .cA (fun w st=>st.fact .auto jr) fun hs=>?_
 have hdl:=Nat.le_trans (ry s.aM) hO.wl
 have hrl:=hO.aB
 refine J 2 ?_
 refine .ai rfl (ab.alloc rfl zeroValue35 rfl) ?_
 rintro _ _ ⟨b2,rfl,rfl⟩
 refine J 9 ?_
 refine .eN rfl ?_
 refine J 8 ?_
 refine .c call76 rfl (zP hO.wn hO.wl) fun u13 _=>?_
 refine J 12 ?_
 refine .bf (X:=Nat) [5,16,17,18,19,20,21,22,23,24,25,26,27,28,29,30,31,32] (fun k=>s.aM.due.length-k) (fun k=>k≤s.aM.due.length) (fun k=>[(16,some (.int .i64 (k:Int)))]) (fun k=>[cn b ps (ct ({s with aM:=s.aM.tick.2 }:Spc) (s.aM.due.take k)),sl ar 1 u13 s.aM.due,arr b2 0 [.slice none 0 0,.bool false,.bool false,.bool false],F]) 0 ?_ ?_ ?_ ?_
 ·exact Nat.zero_le _
 ·exact⟨rfl,trivial⟩
 ·exact fun w s=>au.kept .auto w s
 rintro k hk
 refine JD 6 (fun h17=>?_) fun h17=>?_
 ·refine J 7 ?_
  obtain⟨x,hx⟩:=al (show k<s.aM.due.length by omega)
  have hdl2:∀ x∈s.aM.due,0≤x∧bC ps s x.toNat:=fun x hx=>by
   obtain⟨y,hy,e⟩:=Gf hx
   obtain⟨h0,u,hu⟩:=hO.I8 y hy
   rw[e] at h0 hu
   exact⟨h0,hO.live hs hu⟩
  obtain⟨hx0,hxl⟩:=hdl2 x (List.mem_of_getElem? hx)
  obtain⟨hn16,q,t,hq,ht,hR⟩:=vi x.toNat (s.aM.due.take k) ({s with aM:=s.aM.tick.2 }:Spc) (hxl.of rfl) (fun z hz=>(hdl2 z (List.mem_of_mem_take hz)).2.of rfl)
  have hwr:=nS ({s with aM:=s.aM.tick.2 }:Spc) (s.aM.due.take k)
  rw[List.length_take] at hwr
  simp only at hwr
  have hxc:x=((x.toNat:Nat):Int):=by omega
  refine J 4 ?_
  refine .iQ (C:=cn b ps (ct ({s with aM:=s.aM.tick.2 }:Spc) (s.aM.due.take k))) .auto rfl ?_
  rintro fv sv pv bt vm bg vt bk bw vr -
  refine .fr .auto (bN hq ht) ?_
  refine .draw [arr b 0 (eR fv sv pv (ct ({s with aM:=s.aM.tick.2 }:Spc) (s.aM.due.take k)).eE bt ps vm bg vt bk bw vr)] [0,0,0,0,0,1,1,2,2,2,1,1,3] rfl (by kernel_rfl) ?_
  rw[hxc]
  refine J 7 ?_
  refine .c2 call77 rfl (Cz (n:=x.toNat) hq hn16 hR) fun _ _=>?_
  refine .d2 rfl Kept.auto (ab.fG 104 rfl rfl (by kernel_rfl)) (by rintro _ _ ⟨b28,rfl,rfl⟩;exact Kept.auto) ?_
  rintro _ _ ⟨b28,rfl,rfl⟩
  refine .d2 rfl Kept.auto (ab.gv (enc:=jm) (k:=6) (t.jA 0) rfl underlying53 underlying53 typeInfo104 rfl rfl rfl (by decide) rfl rfl rfl .auto rfl .auto (by have e:(ct ({s with aM:=s.aM.tick.2 }:Spc) (s.aM.due.take k)).aB.length=s.aB.length+min k s.aM.due.length:=hwr;omega) rfl) (by rintro _ _ ⟨v29,rfl,rfl⟩;exact Kept.auto) ?_
  rintro _ _ ⟨v29,rfl,rfl⟩
  refine J 2 ?_
  refine .d3 rfl (ab.ng sizeOf53 rfl rfl rfl) ?_
  rintro _ _ ⟨rfl,rfl⟩
  rw[rk]
  refine .to (A:=ax ps ((ct ({s with aM:=s.aM.tick.2 }:Spc) (s.aM.due.take k)).aA.set x.toNat (some (t.fL 0)))) (Bs:=[arr q 0 (bb (t.fL 0)),ax (ps.set x.toNat none) ((ct ({s with aM:=s.aM.tick.2 }:Spc) (s.aM.due.take k)).aA.set x.toNat none)]) .auto (cq (List.getElem?_eq_some_iff.1 ht).1 hq) ?_
  refine J 7 ?_
  refine .aF (k+1) .auto rfl ?_ ?_ ?_ ?_
  ·omega
  ·show k+1≤_;omega
  ·exact⟨rfl,trivial⟩
  ·rw[bj hx,vh,show(ct ({s with aM:=s.aM.tick.2 }:Spc) (s.aM.due.take k)).dx x.toNat 0=(ct ({s with aM:=s.aM.tick.2 }:Spc) (s.aM.due.take k)).aT x.toNat (t.fL 0) from by unfold Spc.dx;rw[dC ht],dC ht];exact fun w s=>au.kept .auto w s
 ·refine J 7 ?_
  refine .cA (fun w st=>(Rd.s (v:=u13) (enc:=ar) (k:=1) (xs:=s.aM.due) w st).1) fun hr=>?_
  obtain⟨a13,c13,rfl, -, -⟩:=hr
  refine J 1 ?_
  refine .p (.iK (fun v1=>[v1,(.bool false),(.bool false),(.bool false)]) rfl (by kernel_rfl)) ?_
  refine .ai rfl (ab.gC (vs:=[.slice a13 s.aM.due.length c13,.bool false,.bool false,.bool false]) (by exact sizeOf35) rfl rfl rfl (by rfl)) ?_
  rintro _ _ ⟨rfl,rfl⟩
  refine J 3 ?_
  have hkk:k=s.aM.due.length:=by omega
  rw[hkk,List.take_length]
  refine .dt rfl rfl isAgg35 (by exact sizeOf35) Cells.a fun w s=>⟨_,?_,trivial,aj .auto s⟩
  rfl
theorem zS{W:World}{b:Nat}{s:Spc}{n:Int}(hO:hD s):Fn Tryz.prog W 94 [ptr b,.int .i64 n] [fX b s] Unit (fun _=>.int .i64 (s.class n)) (fun _=>True) (fun _=>[fX b s]):=by
 refine Fn.intro (N:=37) func94 rfl ntmps94 rfl fun F=>?_
 show aq _ _ _ _ _ _ [fX b s,F]
 refine .o1 (C:=fX b s) .auto rfl ?_
 rintro ps -
 refine .iQ (C:=cn b ps s) .auto rfl ?_
 rintro fv sv pv bt vm bg vt bk bw vr -
 refine .cA (fun w st=>st.fact .auto jr) fun hs=>?_
 refine J 9 ?_
 refine .c call121 rfl Bb fun _ _=>?_
 refine J 9 ?_
 refine .part (t:=13) rfl (fun h13=>?_) (fun h13=>?_)
 ·refine J 8 ?_
  refine .eM rfl ?_
  refine J 7 ?_
  have hap:zf ps n=none:=by
   cases hh:zf ps n with
   | none=>rfl
   | some p=>rw[hh] at h13;cases h13
  rw[zl (G7 hs hap hO.lt)]
  exact JR 0 ()
 ·obtain⟨p,hap⟩:∃ p,zf ps n=some p:=by
   cases hh:zf ps n with
   | none=>rw[hh] at h13;cases h13
   | some p=>exact⟨p,rfl⟩
  rw[hap]
  obtain⟨k,t,rfl,hk16,hp,ht,hat⟩:=Ed hs hap hO.lt
  refine .iQ (C:=cn b ps s) .auto rfl ?_
  rintro fv sv pv bt vm bg vt bk bw vr -
  refine .fr .auto (bN hp ht) ?_
  refine JD 8 (fun h19=>?_) fun h19=>?_
  ·refine J 7 ?_
   refine .to (A:=ax ps s.aA) (Bs:=[arr p 0 (bb t),ax (ps.set k none) (s.aA.set k none)]) .auto (bH hp ht) ?_
   rw[zm hat h19]
   exact JR 0 ()
  ·refine J 3 ?_
   refine .qM [arr b 0 (eR fv sv pv s.eE bt ps vm bg vt bk bw vr),arr p 0 (bb t)] [0,0,0,0,0,0,0,0,2,0,0,0,4,2,0] [0,1,2,3,4,5,6,7,8,9,10,11,12,13,14] rfl (by kernel_rfl) ?_
   refine bu.q rfl rfl rfl Kept.auto (Y.m rfl) ?_
   refine bu.q rfl rfl rfl Kept.auto (Y.n rfl) ?_
   refine bu.q rfl rfl rfl Kept.auto (Y.fF 60 underlying114 rfl sizeOf60 rfl) ?_
   refine bu.q rfl rfl rfl Kept.auto (Y.Db isAgg60 rfl (Cells.kT (ds:=xp fv sv pv s.eE) (Cells.a (cs:=eR fv sv pv s.eE bt ps vm bg vt bk bw vr)) rfl) (by exact sizeOf60)) ?_
   refine bu.q rfl rfl rfl Kept.auto (Y.m rfl) ?_
   refine bu.q rfl rfl rfl Kept.auto (Y.n rfl) ?_
   refine bu.q rfl rfl rfl Kept.auto (Y.fF 141 underlying143 rfl sizeOf141 rfl) ?_
   refine bu.q rfl rfl rfl Kept.auto (Y.Db isAgg141 rfl (Cells.kT (ds:=gU t.lU) (Cells.a (cs:=bb t)) rfl) (by exact sizeOf141)) ?_
   refine bu.dX rfl (.inl rfl) rfl (fun _=>Kept.auto) call122 rfl (sd (p:=s.eE) (f:=t.lU) hO.xC.1 hO.xC.2) .auto (fun _ _=>Kept.auto) ?_
   rintro⟨⟩ -
   refine bu.q rfl rfl rfl Kept.auto (Y.m rfl) ?_
   refine bu.q rfl rfl rfl Kept.auto (Y.extract (v:=.agg (dO ((dB s.eE t.lU).getD Ins.z)).toArray) rfl rfl) ?_
   refine bu.q rfl rfl rfl Kept.auto (Y.extract (v:=.bool (dB s.eE t.lU).isSome) rfl rfl) ?_
   refine bu.fresh rfl rfl rfl (by decide) Kept.auto (kV zeroValue88 rfl) ?_
   rintro b6
   refine bu.HW rfl rfl (by exact sizeOf88) rfl rfl rfl (by rfl) Kept.auto Kept.auto ?_
   refine bu.q rfl rfl rfl Kept.auto (Y.a rfl) ?_
   refine bu.nil ?_
   refine JD 8 (fun h33=>?_) fun h33=>?_
   ·refine J 7 ?_
    refine .to (A:=ax ps s.aA) (Bs:=[arr p 0 (bb t),ax (ps.set k none) (s.aA.set k none)]) .auto (bH hp ht) ?_
    rw[B3 hat h19 (Option.isNone_iff_eq_none.mp (by simpa using h33))]
    exact JR 0 ()
   ·obtain⟨i,hn⟩:∃ i,(dB s.eE t.lU)=some i:=Option.isSome_iff_exists.mp (by simpa using h33)
    rw[show((dB s.eE t.lU).getD Ins.z)=i from by rw[hn];rfl]
    refine J 6 ?_
    refine .c call110 rfl ko fun _ _=>?_
    refine J 4 ?_
    refine .to (A:=ax ps s.aA) (Bs:=[arr p 0 (bb t),ax (ps.set k none) (s.aA.set k none)]) .auto (bH hp ht) ?_
    rw[zn hat h19 hn]
    exact JR 0 ()
theorem og{W:World}{b:Nat}{s:Spc}(hl:s.aB.length≤1000000000):Fn Tryz.prog W 27 [ptr b] [fX b s] Value (fun u=>u) (fun _=>True) (fun u=>[sl jm 6 u s.aB,fX b s]):=by
 refine Fn.intro (N:=11) func27 rfl ntmps27 rfl fun F=>?_
 show aq _ _ _ _ _ _ [fX b s,F]
 refine .o1 (C:=fX b s) .auto rfl ?_
 rintro ps -
 refine .iQ (C:=cn b ps s) .auto rfl ?_
 rintro fv sv pv bt vm bg vt bk bw vr -
 refine J 12 ?_
 refine .eN rfl ?_
 refine J 8 ?_
 refine .c call52 rfl (Il (A:=sl jm 6 vr s.aB) (Rd.sl .here) hl) fun u9 _=>?_
 refine .c call51 rfl Jg fun u10 _=>?_
 exact JR 4 u10
end Go.SLYthncobnjdhjnoaaGreat
namespace Go.SLYthncobnjdhjnoaaGreat
open Go Go.RowKit Go.Proofs Go.Proofs.Tryz
attribute [local irreducible] aq aJ ba bq bu Y
theorem iE{W:World}{A:aa}{v u:Value}{xs ys:List Int}(hv:Rd W [A] ar 1 v xs)(hu:Rd W [A] ar 1 u ys)(hl:xs.length≤1000000000):Fn Tryz.prog W 20 [v,u] [A] Unit (fun _=>.bool (decide (xs=ys))) (fun _=>True) (fun _=>[A]):=by
 refine Fn.intro (N:=26) func20 rfl ntmps20 rfl fun F=>?_
 haveI hRI:∀ (H:List aa) [bE H A],aG W H v ar 1 xs:=fun H h=>⟨hv.at h.has⟩
 haveI hRJ:∀ (H:List aa) [bE H A],aG W H u ar 1 ys:=fun H h=>⟨hu.at h.has⟩
 show aq _ _ _ _ _ _ [A,F]
 refine JD 15 (fun h10=>?_) fun h10=>?_
 ·refine J 7 ?_
  refine .aP rfl rfl fun w s=>⟨(),?_,trivial,aj .auto s⟩
  rw[decide_eq_false (fun e=>h10 (by rw[e]))]
 ·refine J 9 ?_
  refine .bf (X:=Nat) [4,5,11,12,13,14,15,16,17,18,19,20,21,22,23,24,25] (fun k=>xs.length-k) (fun k=>k≤xs.length∧xs.take k=ys.take k) (fun k=>[(5,some (.int .i64 (k:Int)))]) (fun k=>[A,F]) 0 ?_ ?_ ?_ ?_
  ·exact⟨Nat.zero_le _,rfl⟩
  ·exact⟨rfl,trivial⟩
  ·exact fun w s=>au.kept .auto w s
  rintro k ⟨hk,hn⟩
  refine JD 9 (fun h14=>?_) fun h14=>?_
  ·refine J 5 ?_
   refine .draw [] [1,1,1,1,1,1,1,1,1] rfl (by kernel_rfl) ?_
   obtain⟨x,hx⟩:=al (show k<xs.length by omega)
   obtain⟨y,hy⟩:=al (show k<ys.length by omega)
   refine J 3 ?_
   refine .p (.lr rfl hx) ?_
   refine J 3 ?_
   refine .p (.lr rfl hy) ?_
   refine JD 3 (fun h25=>?_) fun h25=>?_
   ·refine J 11 ?_
    refine .aP rfl rfl fun w s=>⟨(),?_,trivial,aj .auto s⟩
    rw[decide_eq_false (fun e=>h25 (by rw[e] at hx;exact Option.some.inj (hx.symm.trans hy)))]
   ·refine J 8 ?_
    refine .aF (k+1) .auto rfl ?_ ?_ ?_ ?_
    ·first | omega | (dsimp only;omega)
    ·exact⟨by omega,by rw[bj hx,bj hy,hn,Decidable.of_not_not h25]⟩
    ·exact⟨rfl,trivial⟩
    ·exact fun w s=>au.kept .auto w s
  ·refine J 11 ?_
   obtain rfl:k=xs.length:=by omega
   rw[List.take_length,List.take_of_length_le (by omega)] at hn
   refine .aP rfl rfl fun w s=>⟨(),?_,trivial,aj .auto s⟩
   rw[decide_eq_true hn]
end Go.SLYthncobnjdhjnoaaGreat
namespace Go.SLYthncobnjdhjnoaaGreat
open Go Go.RowKit Go.Proofs Go.Proofs.Tryz
attribute [local irreducible] aq aJ ba bq bu Y
end Go.SLYthncobnjdhjnoaaGreat
namespace Go.SLYthncobnjdhjnoaaGreat
open Go Go.RowKit
/-! rows of threads -/
def GQ(rows:List (List Int))(t:Int):Bool:=rows.any fun r=>r.contains t
def rAdd(rows:List (List Int))(p t:Int):List (List Int) :=
 if GQ rows t=true then rows else match aV rows p with | none=>rows | some r=>rows.set p.toNat (r++[t])
def fQ(rows:List (List Int))(p:Int)(ts:List Int):List (List Int):=ts.foldl (fun r t=>rAdd r p t) rows
def rSteal:List (List Int)→Option (Int×List (List Int))
 | []=>none
 | r::rows=>match r.getLast? with
  | some t=>some (t,r.dropLast::rows)
  | none=>match rSteal rows with
   | none=>none
   | some (t,rows')=>some (t,r::rows')
def rPick(rows:List (List Int))(p:Int):Option (Int×List (List Int)) :=
 match aV rows p with
 | none=>none
 | some (t::r)=>some (t,rows.set p.toNat r)
 | some []=>rSteal rows
def gX(rows:List (List Int)):Bool:=rows.all fun r=>decide (r=[])
/-! what a step did -/
structure fo where
 aL:Bool
 slot:Int
 ug:mh
def fo.z:fo:=⟨false,0,mh.z⟩
def cC(u:Value)(d:fo):List Value:=[.bool d.aL,.int .i64 d.slot]++qd u d.ug
def mh.cB(e:mh):Bool := !e.aK && !e.ended
def Lib.v(l:Lib)(p:Int):aR:=l.vs.getD p.toNat aR.z
def Lib.iF(l:Lib)(p:Int)(v:aR):Lib:={l with vs:=l.vs.set p.toNat v }
def Lib.fI(l:Lib)(p:Int)(ts:List Int):Lib:={l with rows:=fQ l.rows p ts }
def Lib.aL(l:Lib)(t c:Int):fo×Lib:=(⟨true,t,(l.bI.run t c).1⟩,{l with bI:=(l.bI.run t c).2.2 })
def Lib.enter(l:Lib)(p mode:Int):Lib:=if l.locked=true then l else ({l with locked:=true }:Lib).iF p {l.v p with mode:=mode }
def Lib.leave(l:Lib)(p mode af:Int):Lib:=({l with locked:=false }:Lib).iF p {l.v p with mode:=mode,af:=af }
def gr(e:Ev):Bool:=decide (0<e.mode)
def evWithin(l:List Ev):Option (Ev×List Ev) :=
 if idxP gr l 0<0 then none else
 match l[(idxP gr l 0).toNat]? with
 | none=>none
 | some e=>some (e,l.take (idxP gr l 0).toNat++l.drop ((idxP gr l 0).toNat+1))
def Lib.recover(l:Lib)(p:Int)(x:Ev)(rest:List Ev)(c:Int):fo×Lib :=
 let l1:Lib:=({l with locked:=false }:Lib).iF p {l.v p with evs:=rest }
 if x.mode=7 then
  let r:=l1.aL x.af c
  let l2:=r.2.fI p r.1.ug.aw
  (r.1,if r.1.ug.cB=true then l2.fI p [x.af] else l2)
 else (fo.z,l1)
def Lib.upcall(l:Lib)(p c:Int):fo×Lib:=match evWithin (l.v p).evs with
 | some (x,rest)=>l.recover p x rest c
 | none=>(fo.z,l.enter p 2)
def Lib.handle(l:Lib)(p:Int):Lib:=match (l.v p).evs with
 | []=>l.leave p 3 (-1)
 | e::r=>let l1:=if eP e=true then l.fI p [e.af] else l
  l1.iF p {l.v p with evs:=r }
def Lib.pick(l:Lib)(p:Int):Lib:=match rPick l.rows p with
 | some (t,rows)=>({l with rows:=rows }:Lib).leave p 5 t
 | none=>l.leave p 8 (-1)
def Lib.gY(l:Lib)(p c:Int):fo×Lib :=
 let t:=(l.v p).af
 if l.bI.class t=2 then (fo.z,l.iF p {l.v p with mode:=6 }) else
 let r:=l.aL t c
 let l1:=if r.1.ug.aK=true then r.2.iF p (aR.new [⟨2,t,0⟩]) else if r.1.ug.ended=true then r.2.iF p {r.2.v p with mode:=3,af := -1 } else r.2
 (r.1,l1.tell (aQ r.1.ug.aw))
def Lib.inside(l:Lib)(p c:Int):fo×Lib :=
 let t:=(l.v p).af
 let r:=l.aL t c
 let l1:=r.2.fI p r.1.ug.aw
 (r.1,if r.1.ug.cB=true then (if r.1.ug.yielded=true then (l1.fI p [t]).leave p 3 (-1) else l1.leave p 5 t) else l1.leave p 3 (-1))
def Lib.step(l:Lib)(p c:Int):fo×Int×Lib :=
 if l.has p=true then
  let m:=(l.v p).mode
  if m=1 then ((l.upcall p c).1,0,(l.upcall p c).2) else
  if m=2 then (fo.z,0,l.handle p) else
  if m=3 then (fo.z,0,l.enter p 4) else
  if m=4 then (fo.z,0,l.pick p) else
  if m=5 then ((l.gY p c).1,0,(l.gY p c).2) else
  if m=6 then (fo.z,0,l.enter p 7) else
  if m=7 then ((l.inside p c).1,0,(l.inside p c).2) else
  if m=8 then (fo.z,0,if gX l.rows=true then l else l.iF p {l.v p with mode:=3 }) else (fo.z,0,l)
 else (fo.z,11,l)
def Lib.look(l:Lib)(p:Int):Option aR:=if l.has p=true then some (l.v p) else none
end Go.SLYthncobnjdhjnoaaGreat
namespace Go.SLYthncobnjdhjnoaaGreat
open Go Go.RowKit
structure aC(a b:Nat)(l l':Lib):Prop where
 vs:l'.vs.length=l.vs.length
 rs:l'.rows.length=l.rows.length
 ev:fA l'≤fA l+a
 rw:∀ m,(∀ r∈l.rows,r.length≤m)→ ∀ r∈l'.rows,r.length≤m+b
theorem aC.refl(l:Lib):aC 0 0 l l:=⟨rfl,rfl,Nat.le_refl _,fun _ h=>h⟩
theorem aC.trans{a b c d:Nat}{l l1 l2:Lib}(h1:aC a b l l1)(h2:aC c d l1 l2):aC (a+c) (b+d) l l2:=by
 have e1:=h1.ev
 have e2:=h2.ev
 exact⟨h2.vs.trans h1.vs,h2.rs.trans h1.rs,by omega,fun m h r hr=>by have:=h2.rw (m+b) (h1.rw m h) r hr;omega⟩
theorem aC.le{a b c d:Nat}{l l':Lib}(h:aC a b l l')(h1:a≤c)(h2:b≤d):aC c d l l':=by
 have e:=h.ev
 exact⟨h.vs,h.rs,by omega,fun m hm r hr=>by have:=h.rw m hm r hr;omega⟩
theorem Fi{rows:List (List Int)}{p t:Int}:(rAdd rows p t).length=rows.length:=by
 unfold rAdd;split
 ·rfl
 ·split
  ·rfl
  ·exact List.length_set ..
theorem CB{rows:List (List Int)}{p t:Int}{m:Nat}(h:∀ r∈rows,r.length≤m):∀ r∈rAdd rows p t,r.length≤m+1:=fun r hr=>by
 unfold rAdd at hr
 split at hr
 ·exact Nat.le_succ_of_le (h r hr)
 ·split at hr
  ·exact Nat.le_succ_of_le (h r hr)
  ·rename_i x e
   rcases List.mem_or_eq_of_mem_set hr with hr | rfl
   ·exact Nat.le_succ_of_le (h r hr)
   ·have:=h x (List.mem_of_getElem? (dj e).2.2)
    simp;omega
theorem l0:∀ {ts:List Int} {rows:List (List Int)} {p:Int},(fQ rows p ts).length=rows.length
 | [],_,_=>rfl
 | t::ts,rows,p=>(l0 (ts:=ts) (rows:=rAdd rows p t)).trans Fi
theorem kz:∀ {ts:List Int} {rows:List (List Int)} {p:Int} {m:Nat},(∀ r∈rows,r.length≤m)→ ∀ r∈fQ rows p ts,r.length≤m+ts.length
 | [],_,_,_,h,r,hr=>h r hr
 | t::ts,rows,p,m,h,r,hr=>by
  have:=kz (ts:=ts) (rows:=rAdd rows p t) (CB h) r hr
  simp only[List.length_cons];omega
theorem aC.fI(l:Lib)(p:Int)(ts:List Int):aC 0 ts.length l (l.fI p ts):=⟨rfl,l0,Nat.le_refl _,fun _ h=>kz h⟩
theorem aC.aL(l:Lib)(t c:Int):aC 0 0 l (l.aL t c).2:=⟨rfl,rfl,Nat.le_refl _,fun _ h=>h⟩
theorem eC{l:Lib}{i:Nat}{v:aR}(h:l.vs[i]?=some v):l.v (i:Int)=v:=by unfold Lib.v;rw[Int.toNat_natCast,bx h]
theorem aC.iF{l:Lib}{i:Nat}{v x:aR}(h:l.vs[i]?=some v){a:Nat}(hx:x.evs.length≤v.evs.length+a):aC a 0 l (l.iF (i:Int) x):=by
 refine⟨List.length_set ..,rfl,?_,fun _ h=>h⟩
 have:=qu h x
 unfold fA Lib.iF
 simp only[Int.toNat_natCast]
 omega
theorem aC.uf{l:Lib}{i:Nat}{v:aR}(h:l.vs[i]?=some v){x:aR}(hx:x.evs.length≤v.evs.length):aC 0 0 l (l.iF (i:Int) x):=aC.iF (a:=0) h hx
theorem aC.unlock(l:Lib)(b:Bool):aC 0 0 l {l with locked:=b }:=⟨rfl,rfl,Nat.le_refl _,fun _ h=>h⟩
theorem aC.enter{l:Lib}{i:Nat}{v:aR}(h:l.vs[i]?=some v)(m:Int):aC 0 0 l (l.enter (i:Int) m):=by
 unfold Lib.enter
 split
 ·exact aC.refl _
 ·exact(aC.unlock l true).trans (aC.uf (l:={l with locked:=true }) (x:={l.v (i:Int) with mode:=m }) h (by rw[eC h];exact Nat.le_refl _))
theorem aC.leave{l:Lib}{i:Nat}{v:aR}(h:l.vs[i]?=some v)(m t:Int):aC 0 0 l (l.leave (i:Int) m t) :=
 (aC.unlock l false).trans (aC.uf (l:={l with locked:=false }) (x:={l.v (i:Int) with mode:=m,af:=t }) h (by rw[eC h];exact Nat.le_refl _))
theorem aC.tell(l:Lib)(ys:List Ev):aC (1+ys.length) 0 l (l.tell ys):=by
 have h:=(ib l ys).1
 exact⟨h.len,congrArg _ h.rows,by have:=A7 l ys;omega,fun m hm=>by rw[h.rows];exact hm⟩
theorem se:∀ {rows rows':List (List Int)} {t:Int},rSteal rows=some (t,rows')→rows'.length=rows.length∧ ∀ m,(∀ r∈rows,r.length≤m)→ ∀ r∈rows',r.length≤m
 | [],_,_,h=>by cases h
 | r::rows,rows',t,h=>by
  unfold rSteal at h
  split at h
  ·cases h
   exact⟨rfl,fun m hm x hx=>by
    rcases List.mem_cons.1 hx with rfl | hx
    ·have:=hm r (List.mem_cons_self ..);rw[List.length_dropLast];omega
    ·exact hm x (List.mem_cons_of_mem _ hx)⟩
  ·split at h
   ·cases h
   ·rename_i t' r' e
    cases h
    obtain⟨h1,h2⟩:=se e
    exact⟨by rw[List.length_cons,List.length_cons,h1],fun m hm x hx=>by
     rcases List.mem_cons.1 hx with rfl | hx
     ·exact hm _ (List.mem_cons_self ..)
     ·exact h2 m (fun y hy=>hm y (List.mem_cons_of_mem _ hy)) x hx⟩
theorem CC{rows rows':List (List Int)}{p t:Int}(h:rPick rows p=some (t,rows')):rows'.length=rows.length∧ ∀ m,(∀ r∈rows,r.length≤m)→ ∀ r∈rows',r.length≤m:=by
 unfold rPick at h
 split at h
 ·cases h
 ·rename_i u r e
  cases h
  refine⟨List.length_set ..,fun m hm x hx=>?_⟩
  rcases List.mem_or_eq_of_mem_set hx with hx | rfl
  ·exact hm x hx
  ·have:=hm _ (List.mem_of_getElem? (dj e).2.2);simp only[List.length_cons] at this;omega
 ·exact se h
theorem sf{l:List Ev}{x:Ev}{r:List Ev}(h:evWithin l=some (x,r)):r.length+1=l.length:=by
 unfold evWithin at h
 split at h
 ·cases h
 ·split at h
  ·cases h
  ·rename_i y e2
   cases h
   have:=(List.getElem?_eq_some_iff.1 e2).1
   rw[List.length_append,List.length_take,List.length_drop];omega
theorem xX{k:Nat}{s:Spc}(h:jj k s)(hk:k≤190)(n c:Int):(s.run n c).1.aw.length≤17:=by
 have h1:=(h.fL hk n c).l
 have h2:=fC (s.run n c).2.2.aA 0
 have h3:(s.run n c).2.2.ready.length=(readyFrom (s.run n c).2.2.aA 0).length:=rfl
 rw[(h.run hk n c).lt] at h2
 split at h1 <;> omega
theorem aC.recover{l:Lib}{i:Nat}{v:aR}(h:l.vs[i]?=some v){x:Ev}{rest:List Ev}(hr:rest.length≤v.evs.length)(c:Int)(hw:(l.bI.run x.af c).1.aw.length≤17):aC 0 18 l (l.recover (i:Int) x rest c).2:=by
 have h0:aC 0 0 l (({l with locked:=false }:Lib).iF (i:Int) {l.v (i:Int) with evs:=rest }):=(aC.unlock l false).trans (aC.uf (l:={l with locked:=false }) (x:={l.v (i:Int) with evs:=rest }) h hr)
 unfold Lib.recover
 simp only
 split
 ·have h1:=(h0.trans (aC.aL _ x.af c)).trans (aC.fI _ (i:Int) (l.bI.run x.af c).1.aw)
  show aC 0 18 l (if _ then _ else _)
  split
  ·exact(h1.trans (aC.fI _ (i:Int) [x.af])).le (by omega) (by simp only[List.length_cons,List.length_nil];omega)
  ·exact h1.le (by omega) (by omega)
 ·exact h0.le (by omega) (by omega)
theorem aC.gY{l:Lib}{i:Nat}{v:aR}(h:l.vs[i]?=some v)(c:Int)(hw:(l.bI.run v.af c).1.aw.length≤17):aC 19 0 l (l.gY (i:Int) c).2:=by
 unfold Lib.gY
 rw[eC h]
 simp only
 split
 ·exact(aC.uf (x:={v with mode:=6 }) h (Nat.le_refl _)).le (by omega) (by omega)
 ·have h1:=aC.aL l v.af c
  have hv:(l.aL v.af c).2.vs[i]?=some v:=h
  have hv2:(l.aL v.af c).2.v (i:Int)=v:=eC hv
  have hu:(aQ (l.bI.run v.af c).1.aw).length≤17:=by unfold aQ;rw[List.length_map];exact hw
  have key:∀ l1,aC 1 0 l l1→aC 19 0 l (l1.tell (aQ (l.aL v.af c).1.ug.aw)):=fun l1 hl=>(hl.trans (aC.tell l1 _)).le (by have:(aQ (l.aL v.af c).1.ug.aw).length≤17:=hu;omega) (by omega)
  refine key _ ?_
  split
  ·exact(h1.trans (aC.iF (x:=aR.new [⟨2,v.af,0⟩]) (a:=1) hv (by show 1≤_;omega))).le (by omega) (by omega)
  ·split
   ·rw[hv2];exact(h1.trans (aC.iF (x:={v with mode:=3,af := -1 }) (a:=0) hv (Nat.le_refl _))).le (by omega) (by omega)
   ·exact h1.le (by omega) (by omega)
theorem aC.inside{l:Lib}{i:Nat}{v:aR}(h:l.vs[i]?=some v)(c:Int)(hw:(l.bI.run v.af c).1.aw.length≤17):aC 0 18 l (l.inside (i:Int) c).2:=by
 unfold Lib.inside
 rw[eC h]
 simp only
 have h1:=(aC.aL l v.af c).trans (aC.fI (l.aL v.af c).2 (i:Int) (l.bI.run v.af c).1.aw)
 have hv:((l.aL v.af c).2.fI (i:Int) (l.bI.run v.af c).1.aw).vs[i]?=some v:=h
 show aC 0 18 l (if _ then (if _ then _ else _) else _)
 split
 ·split
  ·have h2:=h1.trans (aC.fI _ (i:Int) [v.af])
   exact(h2.trans (aC.leave (l:=(l.aL v.af c).2.fI (i:Int) (l.bI.run v.af c).1.aw |>.fI (i:Int) [v.af]) (v:=v) h 3 (-1))).le (by omega) (by simp only[List.length_cons,List.length_nil];omega)
  ·exact(h1.trans (aC.leave (v:=v) hv 5 v.af)).le (by omega) (by omega)
 ·exact(h1.trans (aC.leave (v:=v) hv 3 (-1))).le (by omega) (by omega)
theorem aC.handle{l:Lib}{i:Nat}{v:aR}(h:l.vs[i]?=some v):aC 0 1 l (l.handle (i:Int)):=by
 unfold Lib.handle
 rw[eC h]
 split
 ·exact(aC.leave h 3 (-1)).le (by omega) (by omega)
 ·rename_i e r he
  have hl:r.length≤v.evs.length:=by rw[he];simp
  simp only
  split
  ·exact((aC.fI l (i:Int) [e.af]).trans (aC.uf (l:=l.fI (i:Int) [e.af]) (v:=v) (x:={v with evs:=r }) h hl)).le (by omega) (by simp)
  ·exact(aC.uf (x:={v with evs:=r }) h hl).le (by omega) (by omega)
theorem aC.pick{l:Lib}{i:Nat}{v:aR}(h:l.vs[i]?=some v):aC 0 0 l (l.pick (i:Int)):=by
 unfold Lib.pick
 split
 ·rename_i t rows e
  obtain⟨h1,h2⟩:=CC e
  have h3:aC 0 0 l {l with rows:=rows }:=⟨rfl,h1,Nat.le_refl _,h2⟩
  exact h3.trans (aC.leave (l:={l with rows:=rows }) (v:=v) h 5 t)
 ·exact aC.leave h 8 (-1)
structure er(k:Nat)(l:Lib):Prop where
 sp:jj (k+1) l.bI
 vl:l.vs.length≤64
 rl:l.rows.length≤64
 ev:fA l≤40 * (k+1)
 rw:∀ r∈l.rows,r.length≤40 * (k+1)
theorem er.of{k:Nat}{l l':Lib}(h:er k l)(g:aC 40 40 l l')(hs:jj (k+2) l'.bI):er (k+1) l':=by
 have e:=g.ev
 have e2:=h.ev
 exact⟨hs,g.vs ▸ h.vl,g.rs ▸ h.rl,by omega,fun r hr=>by have:=g.rw _ h.rw r hr;omega⟩
theorem jf{l:Lib}{p:Int}(h:l.has p=true):∃ (i:Nat) (v:aR),p=(i:Int)∧l.vs[i]?=some v∧¬v.mode=0:=by
 unfold Lib.has at h
 split at h
 ·cases h
 ·rename_i v e
  obtain⟨h0,h1,h2⟩:=dj e
  exact⟨p.toNat,v,by omega,h2,by simpa using h⟩
theorem er.step{k:Nat}{l:Lib}(h:er k l)(hk:k≤180)(p c:Int):er (k+1) (l.step p c).2.2:=by
 have hm:jj (k+2) l.bI:=h.sp.more (by omega)
 unfold Lib.step
 split
 ·rename_i hh
  obtain⟨i,v,rfl,hv, -⟩:=jf hh
  have hr:=fun t=>h.sp.run (show k+1≤190 by omega) t c
  have hw:=fun t=>xX h.sp (show k+1≤190 by omega) t c
  simp only
  split
  ·unfold Lib.upcall
   split
   ·rename_i x rest e
    rw[eC hv] at e
    have hl:=sf e
    refine h.of ((aC.recover hv (by omega) c (hw x.af)).le (by omega) (by omega)) ?_
    unfold Lib.recover
    simp only
    split
    ·show jj (k+2) (Lib.bI (if _ then _ else _))
     split <;> exact hr x.af
    ·exact hm
   ·refine h.of ((aC.enter hv 2).le (by omega) (by omega)) ?_
    unfold Lib.enter;split <;> exact hm
  ·split
   ·refine h.of ((aC.handle hv).le (by omega) (by omega)) ?_
    unfold Lib.handle
    split
    ·exact hm
    ·show jj (k+2) (Lib.bI (if _ then _ else _))
     split <;> exact hm
   ·split
    ·refine h.of ((aC.enter hv 4).le (by omega) (by omega)) ?_
     unfold Lib.enter;split <;> exact hm
    ·split
     ·refine h.of ((aC.pick hv).le (by omega) (by omega)) ?_
      unfold Lib.pick;split <;> exact hm
     ·split
      ·refine h.of ((aC.gY hv c (hw _)).le (by omega) (by omega)) ?_
       unfold Lib.gY
       simp only
       split
       ·exact hm
       ·rw[(ib _ _).1.bI]
        split
        ·exact hr _
        ·split <;> exact hr _
      ·split
       ·refine h.of ((aC.enter hv 7).le (by omega) (by omega)) ?_
        unfold Lib.enter;split <;> exact hm
       ·split
        ·refine h.of ((aC.inside hv c (hw _)).le (by omega) (by omega)) ?_
         unfold Lib.inside
         simp only
         split
         ·split <;> exact hr _
         ·exact hr _
        ·split
         ·split
          ·exact h.of ((aC.refl _).le (by omega) (by omega)) hm
          ·refine h.of ((aC.iF (x:={l.v (i:Int) with mode:=3 }) (a:=0) hv (by rw[eC hv];exact Nat.le_refl _)).le (by omega) (by omega)) hm
         ·exact h.of ((aC.refl _).le (by omega) (by omega)) hm
 ·exact h.of ((aC.refl _).le (by omega) (by omega)) hm
end Go.SLYthncobnjdhjnoaaGreat
