/- Walks. Conditions: none. -/
import Derived.Test.YtpbjdoplfgeliaaGreatU07
import Derived.Test.YtpbjdoplfgeliaaGreatProg
import Derived.Test.YtpbjdoplfgeliaaGreatU08
import Derived.Test.YtpbjdoplfgeliaaGreatU03
import Derived.KernelRfl
import Derived.Test.YtpbjdoplfgeliaaGreatU04
set_option maxRecDepth 20000
set_option maxHeartbeats 4000000
namespace Go.SLYtpbjdoplfgeliaaGreat
open Go Go.RowKit Go.Proofs Go.Proofs.Tryz
attribute [local irreducible] ar aR bm bA bH Y
theorem Kz{W:World}{v:Value}{xs:List eW}{i:Nat}(hi:i<xs.length)(_hl:xs.length≤1000000000):Fn Tryz.prog W 208 [v,.int .i64 (i:Int),.int .i64 ((i+1:Nat):Int)] [sl dt 2 v xs] Value (fun u=>u) (fun _=>True) (fun u=>[sl dt 2 u (xs.eraseIdx i)]):=by
 refine Fn.intro (N:=33) func208 rfl ntmps208 rfl fun F=>?_
 show ar _ _ _ _ _ _ [sl dt 2 v xs,F]
 have h0:xs≠[]:=by intro e;rw[e] at hi;simp at hi
 refine .cM (fun w s=>s.fact .auto (mS h0)) fun e=>?_
 obtain⟨b,cap,rfl,hc⟩:=e
 refine .s (.r (.p (.a rfl) (.n (.t (.s (.r (.p (.m rfl) (.p (.m rfl) (.p (.m rfl) (.p (.m rfl) (.p (.len rfl) ?_)))))))))))
 refine .p (.slice3 i (i+1) xs.length underlying196 sizeOf284 rfl rfl rfl rfl rfl rfl rfl (by omega) (by omega) hc) ?_
 refine .n (.t (.s (.s (.r (.p (.m rfl) (.p (.m rfl) (.p (.eql rfl rfl) (.n (.t (.da rfl (fun h16=>?_) (fun h16=>?_)))))))))))
 ·exact absurd h16 (by omega)
 ·refine .v (.t (.s (.r (.p (.m rfl) (.p (.len rfl) (.p (.a rfl) (.n (.t (.s ?_)))))))))
  refine .draw [] [1,1,1,1,1,1,3,1] rfl (by kernel_rfl) ?_
  refine .p (.m rfl) (.p (.m rfl) ?_)
  refine .p (.j5 i underlying196 sizeOf284 rfl rfl rfl (by omega)) ?_
  refine .p (.m rfl) (.p (.m rfl) ?_)
  refine .p (.nv (i+1) underlying196 sizeOf284 rfl rfl rfl (by omega)) ?_
  refine .d3 rfl (af.kG rfl underlying196 underlying196 typeInfo284 rfl rfl rfl .auto (by omega) (by omega) (Gx _) h0) ?_
  rintro _ _ ⟨rfl,rfl⟩
  refine .p (.a rfl) (.n (.t (.s (.r (.p (.m rfl) (.p (.m rfl) (.p (.lens rfl) (.p (.m rfl) ?_))))))))
  refine .p (.tA (i+(xs.length-(i+1))) xs.length underlying196 sizeOf284 rfl rfl rfl rfl rfl (by omega) hc) ?_
  refine .aj rfl (af.ph (xs:=xs.take i++xs.drop (i+1)) underlying196 zeroValue284 rfl rfl rfl rfl (by rw[List.length_append,List.length_take,List.length_drop];omega) (by omega) .auto) ?_
  rintro _ _ ⟨rfl,rfl⟩
  refine .n (.t (.s (.r (.p (.m rfl) (.p (.a rfl) (.n (.t (.e ?_))))))))
  rw[mT]
  refine .aS rfl rfl fun w s=>⟨_,?_,trivial,ak .auto s⟩
  rfl
theorem KA{W:World}{v:Value}{xs:List wh}{i:Nat}(hi:i<xs.length)(_hl:xs.length≤1000000000):Fn Tryz.prog W 127 [v,.int .i64 (i:Int),.int .i64 ((i+1:Nat):Int)] [sl gJ 4 v xs] Value (fun u=>u) (fun _=>True) (fun u=>[sl gJ 4 u (xs.eraseIdx i)]):=by
 refine Fn.intro (N:=33) func127 rfl ntmps127 rfl fun F=>?_
 show ar _ _ _ _ _ _ [sl gJ 4 v xs,F]
 have h0:xs≠[]:=by intro e;rw[e] at hi;simp at hi
 refine .cM (fun w s=>s.fact .auto (mS h0)) fun e=>?_
 obtain⟨b,cap,rfl,hc⟩:=e
 refine .s (.r (.p (.a rfl) (.n (.t (.s (.r (.p (.m rfl) (.p (.m rfl) (.p (.m rfl) (.p (.m rfl) (.p (.len rfl) ?_)))))))))))
 refine .p (.slice3 i (i+1) xs.length underlying201 sizeOf145 rfl rfl rfl rfl rfl rfl rfl (by omega) (by omega) hc) ?_
 refine .n (.t (.s (.s (.r (.p (.m rfl) (.p (.m rfl) (.p (.eql rfl rfl) (.n (.t (.da rfl (fun h16=>?_) (fun h16=>?_)))))))))))
 ·exact absurd h16 (by omega)
 ·refine .v (.t (.s (.r (.p (.m rfl) (.p (.len rfl) (.p (.a rfl) (.n (.t (.s ?_)))))))))
  refine .draw [] [1,1,1,1,1,1,3,1] rfl (by kernel_rfl) ?_
  refine .p (.m rfl) (.p (.m rfl) ?_)
  refine .p (.j5 i underlying201 sizeOf145 rfl rfl rfl (by omega)) ?_
  refine .p (.m rfl) (.p (.m rfl) ?_)
  refine .p (.nv (i+1) underlying201 sizeOf145 rfl rfl rfl (by omega)) ?_
  refine .d3 rfl (af.kG rfl underlying201 underlying201 typeInfo145 rfl rfl rfl .auto (by omega) (by omega) (Gw _) h0) ?_
  rintro _ _ ⟨rfl,rfl⟩
  refine .p (.a rfl) (.n (.t (.s (.r (.p (.m rfl) (.p (.m rfl) (.p (.lens rfl) (.p (.m rfl) ?_))))))))
  refine .p (.tA (i+(xs.length-(i+1))) xs.length underlying201 sizeOf145 rfl rfl rfl rfl rfl (by omega) hc) ?_
  refine .aj rfl (af.ph (xs:=xs.take i++xs.drop (i+1)) underlying201 zeroValue145 rfl rfl rfl rfl (by rw[List.length_append,List.length_take,List.length_drop];omega) (by omega) .auto) ?_
  rintro _ _ ⟨rfl,rfl⟩
  refine .n (.t (.s (.r (.p (.m rfl) (.p (.a rfl) (.n (.t (.e ?_))))))))
  rw[mT]
  refine .aS rfl rfl fun w s=>⟨_,?_,trivial,ak .auto s⟩
  rfl
theorem KB{W:World}{v:Value}{xs:List Ptr}{i:Nat}(hi:i<xs.length)(_hl:xs.length≤1000000000):Fn Tryz.prog W 280 [v,.int .i64 (i:Int),.int .i64 ((i+1:Nat):Int)] [sl my 2 v xs] Value (fun u=>u) (fun _=>True) (fun u=>[sl my 2 u (xs.eraseIdx i)]):=by
 refine Fn.intro (N:=33) func280 rfl ntmps280 rfl fun F=>?_
 show ar _ _ _ _ _ _ [sl my 2 v xs,F]
 have h0:xs≠[]:=by intro e;rw[e] at hi;simp at hi
 refine .cM (fun w s=>s.fact .auto (mS h0)) fun e=>?_
 obtain⟨b,cap,rfl,hc⟩:=e
 refine .s (.r (.p (.a rfl) (.n (.t (.s (.r (.p (.m rfl) (.p (.m rfl) (.p (.m rfl) (.p (.m rfl) (.p (.len rfl) ?_)))))))))))
 refine .p (.slice3 i (i+1) xs.length underlying207 sizeOf360 rfl rfl rfl rfl rfl rfl rfl (by omega) (by omega) hc) ?_
 refine .n (.t (.s (.s (.r (.p (.m rfl) (.p (.m rfl) (.p (.eql rfl rfl) (.n (.t (.da rfl (fun h16=>?_) (fun h16=>?_)))))))))))
 ·exact absurd h16 (by omega)
 ·refine .v (.t (.s (.r (.p (.m rfl) (.p (.len rfl) (.p (.a rfl) (.n (.t (.s ?_)))))))))
  refine .draw [] [1,1,1,1,1,1,3,1] rfl (by kernel_rfl) ?_
  refine .p (.m rfl) (.p (.m rfl) ?_)
  refine .p (.j5 i underlying207 sizeOf360 rfl rfl rfl (by omega)) ?_
  refine .p (.m rfl) (.p (.m rfl) ?_)
  refine .p (.nv (i+1) underlying207 sizeOf360 rfl rfl rfl (by omega)) ?_
  refine .d3 rfl (af.kG rfl underlying207 underlying207 typeInfo360 rfl rfl rfl .auto (by omega) (by omega) (Gy _) h0) ?_
  rintro _ _ ⟨rfl,rfl⟩
  refine .p (.a rfl) (.n (.t (.s (.r (.p (.m rfl) (.p (.m rfl) (.p (.lens rfl) (.p (.m rfl) ?_))))))))
  refine .p (.tA (i+(xs.length-(i+1))) xs.length underlying207 sizeOf360 rfl rfl rfl rfl rfl (by omega) hc) ?_
  refine .aj rfl (af.ph (xs:=xs.take i++xs.drop (i+1)) underlying207 zeroValue360 rfl rfl rfl rfl (by rw[List.length_append,List.length_take,List.length_drop];omega) (by omega) .auto) ?_
  rintro _ _ ⟨rfl,rfl⟩
  refine .n (.t (.s (.r (.p (.m rfl) (.p (.a rfl) (.n (.t (.e ?_))))))))
  rw[mT]
  refine .aS rfl rfl fun w s=>⟨_,?_,trivial,ak .auto s⟩
  rfl
theorem yY{W:World}{v:Value}{xs:List Int}{i:Nat}(hi:i<xs.length)(_hl:xs.length≤1000000000):Fn Tryz.prog W 278 [v,.int .i64 (i:Int),.int .i64 ((i+1:Nat):Int)] [sl aq 1 v xs] Value (fun u=>u) (fun _=>True) (fun u=>[sl aq 1 u (xs.eraseIdx i)]):=by
 refine Fn.intro (N:=33) func278 rfl ntmps278 rfl fun F=>?_
 show ar _ _ _ _ _ _ [sl aq 1 v xs,F]
 have h0:xs≠[]:=by intro e;rw[e] at hi;simp at hi
 refine .cM (fun w s=>s.fact .auto (mS h0)) fun e=>?_
 obtain⟨b,cap,rfl,hc⟩:=e
 refine .s (.r (.p (.a rfl) (.n (.t (.s (.r (.p (.m rfl) (.p (.m rfl) (.p (.m rfl) (.p (.m rfl) (.p (.len rfl) ?_)))))))))))
 refine .p (.slice3 i (i+1) xs.length underlying50 sizeOf3 rfl rfl rfl rfl rfl rfl rfl (by omega) (by omega) hc) ?_
 refine .n (.t (.s (.s (.r (.p (.m rfl) (.p (.m rfl) (.p (.eql rfl rfl) (.n (.t (.da rfl (fun h16=>?_) (fun h16=>?_)))))))))))
 ·exact absurd h16 (by omega)
 ·refine .v (.t (.s (.r (.p (.m rfl) (.p (.len rfl) (.p (.a rfl) (.n (.t (.s ?_)))))))))
  refine .draw [] [1,1,1,1,1,1,3,1] rfl (by kernel_rfl) ?_
  refine .p (.m rfl) (.p (.m rfl) ?_)
  refine .p (.j5 i underlying50 sizeOf3 rfl rfl rfl (by omega)) ?_
  refine .p (.m rfl) (.p (.m rfl) ?_)
  refine .p (.nv (i+1) underlying50 sizeOf3 rfl rfl rfl (by omega)) ?_
  refine .d3 rfl (af.kG rfl underlying50 underlying50 typeInfo3 rfl rfl rfl .auto (by omega) (by omega) (py _) h0) ?_
  rintro _ _ ⟨rfl,rfl⟩
  refine .p (.a rfl) (.n (.t (.s (.r (.p (.m rfl) (.p (.m rfl) (.p (.lens rfl) (.p (.m rfl) ?_))))))))
  refine .p (.tA (i+(xs.length-(i+1))) xs.length underlying50 sizeOf3 rfl rfl rfl rfl rfl (by omega) hc) ?_
  refine .aj rfl (af.ph (xs:=xs.take i++xs.drop (i+1)) underlying50 zeroValue3 rfl rfl rfl rfl (by rw[List.length_append,List.length_take,List.length_drop];omega) (by omega) .auto) ?_
  rintro _ _ ⟨rfl,rfl⟩
  refine .n (.t (.s (.r (.p (.m rfl) (.p (.a rfl) (.n (.t (.e ?_))))))))
  rw[mT]
  refine .aS rfl rfl fun w s=>⟨_,?_,trivial,ak .auto s⟩
  rfl
theorem KC{W:World}{v:Value}{xs:List Int}{i:Nat}(hi:i<xs.length)(_hl:xs.length≤1000000000):Fn Tryz.prog W 279 [v,.int .i64 (i:Int),.int .i64 ((i+1:Nat):Int)] [sl eS 1 v xs] Value (fun u=>u) (fun _=>True) (fun u=>[sl eS 1 u (xs.eraseIdx i)]):=by
 refine Fn.intro (N:=33) func279 rfl ntmps279 rfl fun F=>?_
 show ar _ _ _ _ _ _ [sl eS 1 v xs,F]
 have h0:xs≠[]:=by intro e;rw[e] at hi;simp at hi
 refine .cM (fun w s=>s.fact .auto (mS h0)) fun e=>?_
 obtain⟨b,cap,rfl,hc⟩:=e
 refine .s (.r (.p (.a rfl) (.n (.t (.s (.r (.p (.m rfl) (.p (.m rfl) (.p (.m rfl) (.p (.m rfl) (.p (.len rfl) ?_)))))))))))
 refine .p (.slice3 i (i+1) xs.length underlying64 sizeOf92 rfl rfl rfl rfl rfl rfl rfl (by omega) (by omega) hc) ?_
 refine .n (.t (.s (.s (.r (.p (.m rfl) (.p (.m rfl) (.p (.eql rfl rfl) (.n (.t (.da rfl (fun h16=>?_) (fun h16=>?_)))))))))))
 ·exact absurd h16 (by omega)
 ·refine .v (.t (.s (.r (.p (.m rfl) (.p (.len rfl) (.p (.a rfl) (.n (.t (.s ?_)))))))))
  refine .draw [] [1,1,1,1,1,1,3,1] rfl (by kernel_rfl) ?_
  refine .p (.m rfl) (.p (.m rfl) ?_)
  refine .p (.j5 i underlying64 sizeOf92 rfl rfl rfl (by omega)) ?_
  refine .p (.m rfl) (.p (.m rfl) ?_)
  refine .p (.nv (i+1) underlying64 sizeOf92 rfl rfl rfl (by omega)) ?_
  refine .d3 rfl (af.kG rfl underlying64 underlying64 typeInfo92 rfl rfl rfl .auto (by omega) (by omega) (zJ _) h0) ?_
  rintro _ _ ⟨rfl,rfl⟩
  refine .p (.a rfl) (.n (.t (.s (.r (.p (.m rfl) (.p (.m rfl) (.p (.lens rfl) (.p (.m rfl) ?_))))))))
  refine .p (.tA (i+(xs.length-(i+1))) xs.length underlying64 sizeOf92 rfl rfl rfl rfl rfl (by omega) hc) ?_
  refine .aj rfl (af.ph (xs:=xs.take i++xs.drop (i+1)) underlying64 zeroValue92 rfl rfl rfl rfl (by rw[List.length_append,List.length_take,List.length_drop];omega) (by omega) .auto) ?_
  rintro _ _ ⟨rfl,rfl⟩
  refine .n (.t (.s (.r (.p (.m rfl) (.p (.a rfl) (.n (.t (.e ?_))))))))
  rw[mT]
  refine .aS rfl rfl fun w s=>⟨_,?_,trivial,ak .auto s⟩
  rfl
theorem Cw{W:World}{A:aa}{v:Value}{xs:List eW}{p:eW→Bool}{g:Nat}{c:Value}(hr:Rd W [A] dt 2 v xs)(hl:xs.length≤1000000000)(hg:∀ args w,(callFunc g args).run Tryz.prog w = .ok (.enter g args) w)(hf:∀ x∈xs,Fn Tryz.prog W g [.agg (dt x).toArray,c] [A] Unit (fun _=>.bool (p x)) (fun _=>True) (fun _=>[A])):Fn Tryz.prog W 290 [v,.func (.func g) #[] #[c]] [A] Unit (fun _=>.int .i64 (idxP p xs 0)) (fun _=>True) (fun _=>[A]):=by
 refine Fn.intro (N:=19) func290 rfl ntmps290 rfl fun F=>?_
 haveI hRI:∀ (H:List aa) [bE H A],aC W H v dt 2 xs:=fun H h=>⟨hr.at h.has⟩
 show ar _ _ _ _ _ _ [A,F]
 refine J 14 ?_
 refine .aZ (X:=Nat) [4,5,8,9,10,11,12,13,14,15,16,17,18] (fun k=>xs.length-k) (fun k=>k≤xs.length∧idxP p xs 0=idxP p (xs.drop k) k) (fun k=>[(8,some (.int .i64 (k:Int)))]) (fun k=>[A,F]) 0 ?_ ?_ ?_ ?_
 ·exact⟨Nat.zero_le _,by simp⟩
 ·exact⟨rfl,trivial⟩
 ·exact fun w s=>aw.kept .auto w s
 rintro k ⟨hk,hn⟩
 refine JD 6 (fun h9=>?_) fun h9=>?_
 ·refine J 15 ?_
  obtain⟨x,hx⟩:=ai (show k<xs.length by omega)
  refine J 2 ?_
  refine .aj rfl (af.lh rfl rfl hg rfl (hf x (List.mem_of_getElem? hx)) .auto) ?_
  rintro _ _ ⟨⟨⟩, -,rfl,rfl⟩
  refine JD 2 (fun h16=>?_) fun h16=>?_
  ·refine J 12 ?_
   refine .aS rfl rfl fun w s=>⟨(),?_,trivial,ak .auto s⟩
   rw[hn,jG hx h16]
  ·refine J 7 ?_
   refine .ax (k+1) .auto rfl ?_ ?_ ?_ ?_
   ·first | omega | (dsimp only;omega)
   ·exact⟨by omega,hn.trans (ik hx h16)⟩
   ·exact⟨rfl,trivial⟩
   ·exact fun w s=>aw.kept .auto w s
 ·refine J 11 ?_
  refine .aS rfl rfl fun w s=>⟨(),?_,trivial,ak .auto s⟩
  rw[hn,jH (by omega)]
theorem vQ{W:World}{A:aa}{v:Value}{xs:List eW}{p:eW→Bool}{g:Nat}{c:Value}(hr:Rd W [A] dt 2 v xs)(hl:xs.length≤1000000000)(hg:∀ args w,(callFunc g args).run Tryz.prog w = .ok (.enter g args) w)(hf:∀ x∈xs,Fn Tryz.prog W g [.agg (dt x).toArray,c] [A] Unit (fun _=>.bool (p x)) (fun _=>True) (fun _=>[A])):Fn Tryz.prog W 271 [v,.func (.func g) #[] #[c]] [A] Unit (fun _=>.bool (xs.any p)) (fun _=>True) (fun _=>[A]):=by
 refine Fn.intro (N:=9) func271 rfl ntmps271 rfl fun F=>?_
 show ar _ _ _ _ _ _ [A,F]
 refine J 9 ?_
 refine .c call290 rfl (Cw hr hl hg hf) fun _ _=>?_
 refine J 5 ?_
 refine .aS rfl rfl fun w s=>⟨(),?_,trivial,ak .auto s⟩
 rw[← jI xs 0]
theorem Cx{W:World}{A:aa}{v:Value}{xs:List wh}{p:wh→Bool}{g:Nat}{c:Value}(hr:Rd W [A] gJ 4 v xs)(hl:xs.length≤1000000000)(hg:∀ args w,(callFunc g args).run Tryz.prog w = .ok (.enter g args) w)(hf:∀ x∈xs,Fn Tryz.prog W g [.agg (gJ x).toArray,c] [A] Unit (fun _=>.bool (p x)) (fun _=>True) (fun _=>[A])):Fn Tryz.prog W 275 [v,.func (.func g) #[] #[c]] [A] Unit (fun _=>.int .i64 (idxP p xs 0)) (fun _=>True) (fun _=>[A]):=by
 refine Fn.intro (N:=19) func275 rfl ntmps275 rfl fun F=>?_
 haveI hRI:∀ (H:List aa) [bE H A],aC W H v gJ 4 xs:=fun H h=>⟨hr.at h.has⟩
 show ar _ _ _ _ _ _ [A,F]
 refine J 14 ?_
 refine .aZ (X:=Nat) [4,5,8,9,10,11,12,13,14,15,16,17,18] (fun k=>xs.length-k) (fun k=>k≤xs.length∧idxP p xs 0=idxP p (xs.drop k) k) (fun k=>[(8,some (.int .i64 (k:Int)))]) (fun k=>[A,F]) 0 ?_ ?_ ?_ ?_
 ·exact⟨Nat.zero_le _,by simp⟩
 ·exact⟨rfl,trivial⟩
 ·exact fun w s=>aw.kept .auto w s
 rintro k ⟨hk,hn⟩
 refine JD 6 (fun h9=>?_) fun h9=>?_
 ·refine J 15 ?_
  obtain⟨x,hx⟩:=ai (show k<xs.length by omega)
  refine J 2 ?_
  refine .aj rfl (af.lh rfl rfl hg rfl (hf x (List.mem_of_getElem? hx)) .auto) ?_
  rintro _ _ ⟨⟨⟩, -,rfl,rfl⟩
  refine JD 2 (fun h16=>?_) fun h16=>?_
  ·refine J 12 ?_
   refine .aS rfl rfl fun w s=>⟨(),?_,trivial,ak .auto s⟩
   rw[hn,jG hx h16]
  ·refine J 7 ?_
   refine .ax (k+1) .auto rfl ?_ ?_ ?_ ?_
   ·first | omega | (dsimp only;omega)
   ·exact⟨by omega,hn.trans (ik hx h16)⟩
   ·exact⟨rfl,trivial⟩
   ·exact fun w s=>aw.kept .auto w s
 ·refine J 11 ?_
  refine .aS rfl rfl fun w s=>⟨(),?_,trivial,ak .auto s⟩
  rw[hn,jH (by omega)]
theorem vR{W:World}{A:aa}{v:Value}{xs:List wh}{p:wh→Bool}{g:Nat}{c:Value}(hr:Rd W [A] gJ 4 v xs)(hl:xs.length≤1000000000)(hg:∀ args w,(callFunc g args).run Tryz.prog w = .ok (.enter g args) w)(hf:∀ x∈xs,Fn Tryz.prog W g [.agg (gJ x).toArray,c] [A] Unit (fun _=>.bool (p x)) (fun _=>True) (fun _=>[A])):Fn Tryz.prog W 250 [v,.func (.func g) #[] #[c]] [A] Unit (fun _=>.bool (xs.any p)) (fun _=>True) (fun _=>[A]):=by
 refine Fn.intro (N:=9) func250 rfl ntmps250 rfl fun F=>?_
 show ar _ _ _ _ _ _ [A,F]
 refine J 9 ?_
 refine .c call275 rfl (Cx hr hl hg hf) fun _ _=>?_
 refine J 5 ?_
 refine .aS rfl rfl fun w s=>⟨(),?_,trivial,ak .auto s⟩
 rw[← jI xs 0]
theorem Cy{W:World}{A:aa}{v:Value}{xs:List Ptr}{p:Ptr→Bool}{g:Nat}{c:Value}(hr:Rd W [A] my 2 v xs)(hl:xs.length≤1000000000)(hg:∀ args w,(callFunc g args).run Tryz.prog w = .ok (.enter g args) w)(hf:∀ x∈xs,Fn Tryz.prog W g [.agg (my x).toArray,c] [A] Unit (fun _=>.bool (p x)) (fun _=>True) (fun _=>[A])):Fn Tryz.prog W 291 [v,.func (.func g) #[] #[c]] [A] Unit (fun _=>.int .i64 (idxP p xs 0)) (fun _=>True) (fun _=>[A]):=by
 refine Fn.intro (N:=19) func291 rfl ntmps291 rfl fun F=>?_
 haveI hRI:∀ (H:List aa) [bE H A],aC W H v my 2 xs:=fun H h=>⟨hr.at h.has⟩
 show ar _ _ _ _ _ _ [A,F]
 refine J 14 ?_
 refine .aZ (X:=Nat) [4,5,8,9,10,11,12,13,14,15,16,17,18] (fun k=>xs.length-k) (fun k=>k≤xs.length∧idxP p xs 0=idxP p (xs.drop k) k) (fun k=>[(8,some (.int .i64 (k:Int)))]) (fun k=>[A,F]) 0 ?_ ?_ ?_ ?_
 ·exact⟨Nat.zero_le _,by simp⟩
 ·exact⟨rfl,trivial⟩
 ·exact fun w s=>aw.kept .auto w s
 rintro k ⟨hk,hn⟩
 refine JD 6 (fun h9=>?_) fun h9=>?_
 ·refine J 15 ?_
  obtain⟨x,hx⟩:=ai (show k<xs.length by omega)
  refine J 2 ?_
  refine .aj rfl (af.lh rfl rfl hg rfl (hf x (List.mem_of_getElem? hx)) .auto) ?_
  rintro _ _ ⟨⟨⟩, -,rfl,rfl⟩
  refine JD 2 (fun h16=>?_) fun h16=>?_
  ·refine J 12 ?_
   refine .aS rfl rfl fun w s=>⟨(),?_,trivial,ak .auto s⟩
   rw[hn,jG hx h16]
  ·refine J 7 ?_
   refine .ax (k+1) .auto rfl ?_ ?_ ?_ ?_
   ·first | omega | (dsimp only;omega)
   ·exact⟨by omega,hn.trans (ik hx h16)⟩
   ·exact⟨rfl,trivial⟩
   ·exact fun w s=>aw.kept .auto w s
 ·refine J 11 ?_
  refine .aS rfl rfl fun w s=>⟨(),?_,trivial,ak .auto s⟩
  rw[hn,jH (by omega)]
theorem vS{W:World}{A:aa}{v:Value}{xs:List Ptr}{p:Ptr→Bool}{g:Nat}{c:Value}(hr:Rd W [A] my 2 v xs)(hl:xs.length≤1000000000)(hg:∀ args w,(callFunc g args).run Tryz.prog w = .ok (.enter g args) w)(hf:∀ x∈xs,Fn Tryz.prog W g [.agg (my x).toArray,c] [A] Unit (fun _=>.bool (p x)) (fun _=>True) (fun _=>[A])):Fn Tryz.prog W 276 [v,.func (.func g) #[] #[c]] [A] Unit (fun _=>.bool (xs.any p)) (fun _=>True) (fun _=>[A]):=by
 refine Fn.intro (N:=9) func276 rfl ntmps276 rfl fun F=>?_
 show ar _ _ _ _ _ _ [A,F]
 refine J 9 ?_
 refine .c call291 rfl (Cy hr hl hg hf) fun _ _=>?_
 refine J 5 ?_
 refine .aS rfl rfl fun w s=>⟨(),?_,trivial,ak .auto s⟩
 rw[← jI xs 0]
theorem Cz{W:World}{A:aa}{v:Value}{xs:List (Value×eK)}{p:(Value×eK)→Bool}{g:Nat}{c:Value}(hr:Rd W [A] mA 3 v xs)(hl:xs.length≤1000000000)(hg:∀ args w,(callFunc g args).run Tryz.prog w = .ok (.enter g args) w)(hf:∀ x∈xs,Fn Tryz.prog W g [.agg (mA x).toArray,c] [A] Unit (fun _=>.bool (p x)) (fun _=>True) (fun _=>[A])):Fn Tryz.prog W 270 [v,.func (.func g) #[] #[c]] [A] Unit (fun _=>.int .i64 (idxP p xs 0)) (fun _=>True) (fun _=>[A]):=by
 refine Fn.intro (N:=19) func270 rfl ntmps270 rfl fun F=>?_
 haveI hRI:∀ (H:List aa) [bE H A],aC W H v mA 3 xs:=fun H h=>⟨hr.at h.has⟩
 show ar _ _ _ _ _ _ [A,F]
 refine J 14 ?_
 refine .aZ (X:=Nat) [4,5,8,9,10,11,12,13,14,15,16,17,18] (fun k=>xs.length-k) (fun k=>k≤xs.length∧idxP p xs 0=idxP p (xs.drop k) k) (fun k=>[(8,some (.int .i64 (k:Int)))]) (fun k=>[A,F]) 0 ?_ ?_ ?_ ?_
 ·exact⟨Nat.zero_le _,by simp⟩
 ·exact⟨rfl,trivial⟩
 ·exact fun w s=>aw.kept .auto w s
 rintro k ⟨hk,hn⟩
 refine JD 6 (fun h9=>?_) fun h9=>?_
 ·refine J 15 ?_
  obtain⟨x,hx⟩:=ai (show k<xs.length by omega)
  refine J 2 ?_
  refine .aj rfl (af.lh rfl rfl hg rfl (hf x (List.mem_of_getElem? hx)) .auto) ?_
  rintro _ _ ⟨⟨⟩, -,rfl,rfl⟩
  refine JD 2 (fun h16=>?_) fun h16=>?_
  ·refine J 12 ?_
   refine .aS rfl rfl fun w s=>⟨(),?_,trivial,ak .auto s⟩
   rw[hn,jG hx h16]
  ·refine J 7 ?_
   refine .ax (k+1) .auto rfl ?_ ?_ ?_ ?_
   ·first | omega | (dsimp only;omega)
   ·exact⟨by omega,hn.trans (ik hx h16)⟩
   ·exact⟨rfl,trivial⟩
   ·exact fun w s=>aw.kept .auto w s
 ·refine J 11 ?_
  refine .aS rfl rfl fun w s=>⟨(),?_,trivial,ak .auto s⟩
  rw[hn,jH (by omega)]
theorem vT{W:World}{A:aa}{v:Value}{xs:List (Value×eK)}{p:(Value×eK)→Bool}{g:Nat}{c:Value}(hr:Rd W [A] mA 3 v xs)(hl:xs.length≤1000000000)(hg:∀ args w,(callFunc g args).run Tryz.prog w = .ok (.enter g args) w)(hf:∀ x∈xs,Fn Tryz.prog W g [.agg (mA x).toArray,c] [A] Unit (fun _=>.bool (p x)) (fun _=>True) (fun _=>[A])):Fn Tryz.prog W 243 [v,.func (.func g) #[] #[c]] [A] Unit (fun _=>.bool (xs.any p)) (fun _=>True) (fun _=>[A]):=by
 refine Fn.intro (N:=9) func243 rfl ntmps243 rfl fun F=>?_
 show ar _ _ _ _ _ _ [A,F]
 refine J 9 ?_
 refine .c call270 rfl (Cz hr hl hg hf) fun _ _=>?_
 refine J 5 ?_
 refine .aS rfl rfl fun w s=>⟨(),?_,trivial,ak .auto s⟩
 rw[← jI xs 0]
theorem CA{W:World}{A:aa}{v:Value}{xs:List (Value×List eW)}{p:(Value×List eW)→Bool}{g:Nat}{c:Value}(hr:Rd W [A] eu 1 v xs)(hl:xs.length≤1000000000)(hg:∀ args w,(callFunc g args).run Tryz.prog w = .ok (.enter g args) w)(hf:∀ x∈xs,Fn Tryz.prog W g [.agg (eu x).toArray,c] [A] Unit (fun _=>.bool (p x)) (fun _=>True) (fun _=>[A])):Fn Tryz.prog W 273 [v,.func (.func g) #[] #[c]] [A] Unit (fun _=>.int .i64 (idxP p xs 0)) (fun _=>True) (fun _=>[A]):=by
 refine Fn.intro (N:=19) func273 rfl ntmps273 rfl fun F=>?_
 haveI hRI:∀ (H:List aa) [bE H A],aC W H v eu 1 xs:=fun H h=>⟨hr.at h.has⟩
 show ar _ _ _ _ _ _ [A,F]
 refine J 14 ?_
 refine .aZ (X:=Nat) [4,5,8,9,10,11,12,13,14,15,16,17,18] (fun k=>xs.length-k) (fun k=>k≤xs.length∧idxP p xs 0=idxP p (xs.drop k) k) (fun k=>[(8,some (.int .i64 (k:Int)))]) (fun k=>[A,F]) 0 ?_ ?_ ?_ ?_
 ·exact⟨Nat.zero_le _,by simp⟩
 ·exact⟨rfl,trivial⟩
 ·exact fun w s=>aw.kept .auto w s
 rintro k ⟨hk,hn⟩
 refine JD 6 (fun h9=>?_) fun h9=>?_
 ·refine J 15 ?_
  obtain⟨x,hx⟩:=ai (show k<xs.length by omega)
  refine J 2 ?_
  refine .aj rfl (af.lh rfl rfl hg rfl (hf x (List.mem_of_getElem? hx)) .auto) ?_
  rintro _ _ ⟨⟨⟩, -,rfl,rfl⟩
  refine JD 2 (fun h16=>?_) fun h16=>?_
  ·refine J 12 ?_
   refine .aS rfl rfl fun w s=>⟨(),?_,trivial,ak .auto s⟩
   rw[hn,jG hx h16]
  ·refine J 7 ?_
   refine .ax (k+1) .auto rfl ?_ ?_ ?_ ?_
   ·first | omega | (dsimp only;omega)
   ·exact⟨by omega,hn.trans (ik hx h16)⟩
   ·exact⟨rfl,trivial⟩
   ·exact fun w s=>aw.kept .auto w s
 ·refine J 11 ?_
  refine .aS rfl rfl fun w s=>⟨(),?_,trivial,ak .auto s⟩
  rw[hn,jH (by omega)]
theorem vU{W:World}{A:aa}{v:Value}{xs:List (Value×List eW)}{p:(Value×List eW)→Bool}{g:Nat}{c:Value}(hr:Rd W [A] eu 1 v xs)(hl:xs.length≤1000000000)(hg:∀ args w,(callFunc g args).run Tryz.prog w = .ok (.enter g args) w)(hf:∀ x∈xs,Fn Tryz.prog W g [.agg (eu x).toArray,c] [A] Unit (fun _=>.bool (p x)) (fun _=>True) (fun _=>[A])):Fn Tryz.prog W 246 [v,.func (.func g) #[] #[c]] [A] Unit (fun _=>.bool (xs.any p)) (fun _=>True) (fun _=>[A]):=by
 refine Fn.intro (N:=9) func246 rfl ntmps246 rfl fun F=>?_
 show ar _ _ _ _ _ _ [A,F]
 refine J 9 ?_
 refine .c call273 rfl (CA hr hl hg hf) fun _ _=>?_
 refine J 5 ?_
 refine .aS rfl rfl fun w s=>⟨(),?_,trivial,ak .auto s⟩
 rw[← jI xs 0]
theorem CB{W:World}{A:aa}{v:Value}{xs:List (Value×k6)}{p:(Value×k6)→Bool}{g:Nat}{c:Value}(hr:Rd W [A] mK 2 v xs)(hl:xs.length≤1000000000)(hg:∀ args w,(callFunc g args).run Tryz.prog w = .ok (.enter g args) w)(hf:∀ x∈xs,Fn Tryz.prog W g [.agg (mK x).toArray,c] [A] Unit (fun _=>.bool (p x)) (fun _=>True) (fun _=>[A])):Fn Tryz.prog W 274 [v,.func (.func g) #[] #[c]] [A] Unit (fun _=>.int .i64 (idxP p xs 0)) (fun _=>True) (fun _=>[A]):=by
 refine Fn.intro (N:=19) func274 rfl ntmps274 rfl fun F=>?_
 haveI hRI:∀ (H:List aa) [bE H A],aC W H v mK 2 xs:=fun H h=>⟨hr.at h.has⟩
 show ar _ _ _ _ _ _ [A,F]
 refine J 14 ?_
 refine .aZ (X:=Nat) [4,5,8,9,10,11,12,13,14,15,16,17,18] (fun k=>xs.length-k) (fun k=>k≤xs.length∧idxP p xs 0=idxP p (xs.drop k) k) (fun k=>[(8,some (.int .i64 (k:Int)))]) (fun k=>[A,F]) 0 ?_ ?_ ?_ ?_
 ·exact⟨Nat.zero_le _,by simp⟩
 ·exact⟨rfl,trivial⟩
 ·exact fun w s=>aw.kept .auto w s
 rintro k ⟨hk,hn⟩
 refine JD 6 (fun h9=>?_) fun h9=>?_
 ·refine J 15 ?_
  obtain⟨x,hx⟩:=ai (show k<xs.length by omega)
  refine J 2 ?_
  refine .aj rfl (af.lh rfl rfl hg rfl (hf x (List.mem_of_getElem? hx)) .auto) ?_
  rintro _ _ ⟨⟨⟩, -,rfl,rfl⟩
  refine JD 2 (fun h16=>?_) fun h16=>?_
  ·refine J 12 ?_
   refine .aS rfl rfl fun w s=>⟨(),?_,trivial,ak .auto s⟩
   rw[hn,jG hx h16]
  ·refine J 7 ?_
   refine .ax (k+1) .auto rfl ?_ ?_ ?_ ?_
   ·first | omega | (dsimp only;omega)
   ·exact⟨by omega,hn.trans (ik hx h16)⟩
   ·exact⟨rfl,trivial⟩
   ·exact fun w s=>aw.kept .auto w s
 ·refine J 11 ?_
  refine .aS rfl rfl fun w s=>⟨(),?_,trivial,ak .auto s⟩
  rw[hn,jH (by omega)]
theorem vV{W:World}{A:aa}{v:Value}{xs:List (Value×k6)}{p:(Value×k6)→Bool}{g:Nat}{c:Value}(hr:Rd W [A] mK 2 v xs)(hl:xs.length≤1000000000)(hg:∀ args w,(callFunc g args).run Tryz.prog w = .ok (.enter g args) w)(hf:∀ x∈xs,Fn Tryz.prog W g [.agg (mK x).toArray,c] [A] Unit (fun _=>.bool (p x)) (fun _=>True) (fun _=>[A])):Fn Tryz.prog W 248 [v,.func (.func g) #[] #[c]] [A] Unit (fun _=>.bool (xs.any p)) (fun _=>True) (fun _=>[A]):=by
 refine Fn.intro (N:=9) func248 rfl ntmps248 rfl fun F=>?_
 show ar _ _ _ _ _ _ [A,F]
 refine J 9 ?_
 refine .c call274 rfl (CB hr hl hg hf) fun _ _=>?_
 refine J 5 ?_
 refine .aS rfl rfl fun w s=>⟨(),?_,trivial,ak .auto s⟩
 rw[← jI xs 0]
end Go.SLYtpbjdoplfgeliaaGreat
namespace Go.SLYtpbjdoplfgeliaaGreat
open Go Go.RowKit Go.Proofs Go.Proofs.Tryz
attribute [local irreducible] ar aR bm bA bH Y
theorem xr{W:World}{b:Nat}{l:List (Bool×Int)}{h:Int}(hl:jB l)(h0:0≤h):Fn Tryz.prog W 198 [ptr b,.int .u64 h] [mz b l] Unit (fun _=>Nf (bC l h)) (fun _=>True) (fun _=>[mz b l]):=by
 refine Fn.intro (N:=50) func198 rfl ntmps198 rfl fun F=>?_
 show ar _ _ _ _ _ _ [mz b l,F]
 refine J 13 ?_
 refine .g (.fa (Y.rem rfl rfl (by omega)) (z6 h0)) ?_
 refine JD 4 (fun h13=>?_) fun h13=>?_
 ·refine J 8 ?_
  refine .eE rfl rfl rfl fun w s=>⟨(),?_,trivial,ak .auto s⟩
  rw[wx h13];rfl
 ·refine J 4 ?_
  refine .o1 (C:=mz b l) .auto rfl ?_
  rintro v -
  obtain⟨hl1,hl2⟩:=hl
  have hm:h % 65536<65536:=by omega
  have ho:(hh:hN h<l.length)→l[hN h]?=some (kz l (hN h)):=getD_some
  refine J 1 ?_
  refine .p (.fa (Y.rem rfl rfl (by omega)) (z6 h0)) ?_
  refine .p (.jZ underlying92 underlying3 rfl (by omega)) ?_
  refine .p (.fa (Y.sub rfl rfl (by omega)) (JT h13)) ?_
  refine J 14 ?_
  apply aR.gA 10 35 25 [25,26,27,28,29,30,31,32,33,34,35] rfl
  ·intro h25
   have hlt:hN h<l.length:=by omega
   refine J 5 ?_
   refine .g (.tm (hN h) underlying187 sizeOf264 rfl rfl Rd.s rfl hlt) ?_
   refine J 1 ?_
   refine .g (.ld rfl (Cell.Lb Rd.s (ho (by omega)) (by rfl))) ?_
   exact JS 3
  ·intro h25
   exact JS 11
  refine J 1 ?_
  apply aR.gY 12 48 36 [36,37,38,39,40,41,42,43,44,45,46,47,48] rfl
  ·intro h36
   simp only[Bool.or_eq_false_iff,decide_eq_false_iff_not] at h36
   have hlt:hN h<l.length:=by omega
   have hob:=hl2 _ (List.mem_of_getElem? (ho hlt))
   refine J 5 ?_
   refine .g (.tm (hN h) underlying187 sizeOf264 rfl rfl Rd.s rfl hlt) ?_
   refine .g (.la rfl (Cells.rd Rd.s (ho (by omega)))) ?_
   refine J 1 ?_
   refine .cg call158 rfl (rZ (o:=kz l (hN h)) (n:=hN h) (by omega) (by omega)) fun _ _=>?_
   exact JS 4
  ·intro h36
   exact JS 13
  refine JD 2 (fun h48=>?_) fun h48=>?_
  ·refine J 8 ?_
   refine .eE rfl rfl rfl fun w s=>⟨(),?_,trivial,ak .auto s⟩
   rw[find_eq h13,if_pos (by simpa using h48)];rfl
  ·refine J 10 ?_
   refine .eE rfl rfl rfl fun w s=>⟨(),?_,trivial,ak .auto s⟩
   rw[find_eq h13,if_neg (by simpa using h48)];rfl
theorem Ft{W:World}{b:Nat}{l:List (Bool×Int)}{h:Int}(hl:jB l)(h0:0≤h):Fn Tryz.prog W 159 [ptr b,.int .u64 h] [mz b l] Int (fun e=>.int .i64 e) (fun _=>True) (fun _=>[mz b (slotFreed l h)]):=by
 refine Fn.intro (N:=22) func159 rfl ntmps159 rfl fun F=>?_
 show ar _ _ _ _ _ _ [mz b l,F]
 refine J 9 ?_
 refine .c call198 rfl (xr hl h0) fun _ _=>?_
 refine JD 14 (fun h14=>?_) fun h14=>?_
 ·refine J 7 ?_
  rw[BT (show bC l h=none from by cases e:bC l h with
   | none=>rfl
   | some n=>rw[e] at h14;cases h14)]
  refine .aS rfl rfl fun w s=>⟨3,?_,trivial,ak .auto s⟩
  rfl
 ·refine J 4 ?_
  refine .o1 (C:=mz b l) .auto rfl ?_
  rintro v -
  obtain⟨n,hn⟩:∃ n,bC l h=some n:=by cases e:bC l h with
   | none=>rw[e] at h14;cases h14
   | some n=>exact⟨n,rfl⟩
  obtain⟨hlt, -⟩:=Dl hn
  have ho:l[n]?=some (kz l n):=getD_some hlt
  obtain⟨u,tk,hut⟩:∃ u tk,kz l n=(u,tk):=⟨_,_,rfl⟩
  rw[hut] at ho
  refine J 5 ?_
  refine .p (.tm n underlying187 sizeOf264 rfl (by rw[hn];rfl) Rd.s rfl hlt) ?_
  refine J 1 ?_
  refine .aj rfl (af.er (x':=(false,tk)) rfl rfl sizeOf4 rfl ho (by decide) rfl .auto) ?_
  rintro _ _ ⟨rfl,rfl⟩
  refine J 8 ?_
  rw[tU hn,hut]
  refine .aS rfl rfl fun w s=>⟨0,?_,trivial,ak .auto s⟩
  rfl
theorem NO{W:World}{A:aa}{x:eW}{c:Nat}{who:Int}:Fn Tryz.prog W 272 [.agg (dt x).toArray,ptr c] [seps [arr c 0 [.int .i64 who],A]] Unit (fun _=>.bool (decide (x.who=who))) (fun _=>True) (fun _=>[seps [arr c 0 [.int .i64 who],A]]):=by
 refine Fn.intro (N:=8) func272 rfl ntmps272 rfl fun F=>?_
 show ar _ _ _ _ _ _ [seps [arr c 0 [.int .i64 who],A],F]
 refine .dL .auto ?_
 refine J 2 ?_
 refine .aj rfl (af.box rfl rfl rfl) ?_
 rintro _ _ ⟨b2,rfl,rfl⟩
 exact JR 13 ()
theorem yZ{W:World}{A:aa}{b:Nat}{u:Value}{cs:List Value}{l:List eW}{who:Int}(hr:Rd W [A] dt 2 u l)(hl:l.length≤1000000):Fn Tryz.prog W 245 [ptr b,.int .i64 who] [arr b 0 (u::cs),A] Unit (fun _=>.bool (mr l who)) (fun _=>True) (fun _=>[arr b 0 (u::cs),A]):=by
 refine Fn.intro (N:=11) func245 rfl ntmps245 rfl fun F=>?_
 show ar _ _ _ _ _ _ [arr b 0 (u::cs),A,F]
 refine J 2 ?_
 refine .aj rfl (af.box rfl rfl rfl) ?_
 rintro _ _ ⟨b3,rfl,rfl⟩
 refine J 9 ?_
 refine .p (.makeFunc rfl rfl) ?_
 refine .c call271 rfl (vQ (A:=seps [arr b3 0 [.int .i64 who],A]) (p:=fun w=>decide (w.who=who)) (Rd.eX (Rd.at hr (.there .here))) (by omega) call272 (fun x _=>NO)) fun _ _=>?_
 refine .dL .auto ?_
 exact JR 4 ()
theorem Iz{W:World}{A:aa}{x:Value×eK}{c:Nat}{who:Int}(hr:Rd W [A] dt 2 x.1 x.2.wait)(hl:x.2.wait.length≤1000000):Fn Tryz.prog W 244 [.agg (mA x).toArray,ptr c] [seps [arr c 0 [.int .i64 who],A]] Unit (fun _=>.bool (mr x.2.wait who)) (fun _=>True) (fun _=>[seps [arr c 0 [.int .i64 who],A]]):=by
 refine Fn.intro (N:=7) func244 rfl ntmps244 rfl fun F=>?_
 show ar _ _ _ _ _ _ [seps [arr c 0 [.int .i64 who],A],F]
 refine .dL .auto ?_
 refine J 2 ?_
 refine .aj rfl (af.box rfl rfl rfl) ?_
 rintro _ _ ⟨b2,rfl,rfl⟩
 refine .mem (H':=[arr b2 0 (mA x),arr c 0 [.int .i64 who],A,F]) (fun w s=>s) ?_
 refine J 7 ?_
 refine .c call245 rfl (yZ hr hl) fun _ _=>?_
 exact JR 4 ()
theorem IA{W:World}{A:aa}{x:Value×List eW}{c:Nat}{who:Int}(hr:Rd W [A] dt 2 x.1 x.2)(hl:x.2.length≤1000000):Fn Tryz.prog W 247 [.agg (eu x).toArray,ptr c] [seps [arr c 0 [.int .i64 who],A]] Unit (fun _=>.bool (mr x.2 who)) (fun _=>True) (fun _=>[seps [arr c 0 [.int .i64 who],A]]):=by
 refine Fn.intro (N:=6) func247 rfl ntmps247 rfl fun F=>?_
 show ar _ _ _ _ _ _ [seps [arr c 0 [.int .i64 who],A],F]
 refine .dL .auto ?_
 refine J 2 ?_
 refine .aj rfl (af.box rfl rfl rfl) ?_
 rintro _ _ ⟨b2,rfl,rfl⟩
 refine .mem (H':=[arr b2 0 (eu x),arr c 0 [.int .i64 who],A,F]) (fun w s=>s) ?_
 refine J 6 ?_
 refine .c call245 rfl (yZ hr hl) fun _ _=>?_
 exact JR 4 ()
theorem IB{W:World}{A:aa}{x:Value×k6}{c:Nat}{who:Int}(hr:Rd W [A] dt 2 x.1 x.2.wait)(hl:x.2.wait.length≤1000000):Fn Tryz.prog W 249 [.agg (mK x).toArray,ptr c] [seps [arr c 0 [.int .i64 who],A]] Unit (fun _=>.bool (mr x.2.wait who)) (fun _=>True) (fun _=>[seps [arr c 0 [.int .i64 who],A]]):=by
 refine Fn.intro (N:=7) func249 rfl ntmps249 rfl fun F=>?_
 show ar _ _ _ _ _ _ [seps [arr c 0 [.int .i64 who],A],F]
 refine .dL .auto ?_
 refine J 2 ?_
 refine .aj rfl (af.box rfl rfl rfl) ?_
 rintro _ _ ⟨b2,rfl,rfl⟩
 refine .mem (H':=[arr b2 0 (mK x),arr c 0 [.int .i64 who],A,F]) (fun w s=>s) ?_
 refine J 7 ?_
 refine .c call245 rfl (yZ hr hl) fun _ _=>?_
 exact JR 4 ()
theorem oU{W:World}{b:Nat}{g:Gates}{who:Int}{vm vc vs:Value}(hg:gO g):Fn Tryz.prog W 204 [ptr b,.int .i64 who] [arr b 0 [vm,vc,vs],ef vm g.dn,iH vc g.hJ,fy vs g.ez] Unit (fun _=>.bool (g.waits who)) (fun _=>True) (fun _=>[arr b 0 [vm,vc,vs],ef vm g.dn,iH vc g.hJ,fy vs g.ez]):=by
 refine Fn.intro (N:=27) func204 rfl ntmps204 rfl fun F=>?_
 show ar _ _ _ _ _ _ [arr b 0 [vm,vc,vs],ef vm g.dn,iH vc g.hJ,fy vs g.ez,F]
 refine .o1 (C:=ef vm g.dn) .auto rfl ?_
 rintro xm hxm
 refine .o1 (C:=iH vc g.hJ) .auto rfl ?_
 rintro xc hxc
 refine .o1 (C:=fy vs g.ez) .auto rfl ?_
 rintro xs hxs
 have hlm:=au hxm
 have hlc:=au hxc
 have hls:=au hxs
 have hm2:∀ x∈xm,x.2.wait.length≤1000000:=fun x hx=>hg.mw _ (hxm ▸ List.mem_map_of_mem hx)
 have hc2:∀ x∈xc,x.2.length≤1000000:=fun x hx=>hg.cw _ (hxc ▸ List.mem_map_of_mem hx)
 have hs2:∀ x∈xs,x.2.wait.length≤1000000:=fun x hx=>hg.sw _ (hxs ▸ List.mem_map_of_mem hx)
 obtain⟨hg1,hg2,hg3, -, -, -⟩:=hg
 refine J 2 ?_
 refine .aj rfl (af.box rfl rfl rfl) ?_
 rintro _ _ ⟨b3,rfl,rfl⟩
 refine J 9 ?_
 refine .p (.makeFunc rfl rfl) ?_
 refine .c call243 rfl (vT (A:=seps [arr b3 0 [.int .i64 who],seps [sl mA 3 vm xm,aO (fun x=>sl dt 2 x.1 x.2.wait) xm]]) (p:=fun x=>mr x.2.wait who) (Rd.eX (Rd.at (Rd.eX (Rd.sl .here)) (.there .here))) (by omega) call244 (fun x hx=>Iz (Rd.eX (yp (f:=fun x:Value×eK=>x.1) (g:=fun x=>x.2.wait) hx (.there .here))) (hm2 x hx))) fun _ _=>?_
 refine .dL .auto ?_
 refine .dL .auto ?_
 refine J 1 ?_
 apply aR.gY 7 18 11 [11,12,13,14,15,16,17,18] rfl
 ·intro h11
  refine J 4 ?_
  refine .g (.makeFunc rfl rfl) ?_
  refine .cg call246 rfl (vU (A:=seps [arr b3 0 [.int .i64 who],seps [sl eu 1 vc xc,aO (fun x=>sl dt 2 x.1 x.2) xc]]) (p:=fun x=>mr x.2 who) (Rd.eX (Rd.at (Rd.eX (Rd.sl .here)) (.there .here))) (by omega) call247 (fun x hx=>IA (Rd.eX (yp (f:=fun x:Value×List eW=>x.1) (g:=fun x=>x.2) hx (.there .here))) (hc2 x hx))) fun _ _=>?_
  refine .dL .auto ?_
  refine .dL .auto ?_
  exact JS 2
 ·intro h11
  exact JS 8
 refine J 1 ?_
 apply aR.gY 7 26 19 [19,20,21,22,23,24,25,26] rfl
 ·intro h19
  refine J 4 ?_
  refine .g (.makeFunc rfl rfl) ?_
  refine .cg call248 rfl (vV (A:=seps [arr b3 0 [.int .i64 who],seps [sl mK 2 vs xs,aO (fun x=>sl dt 2 x.1 x.2.wait) xs]]) (p:=fun x=>mr x.2.wait who) (Rd.eX (Rd.at (Rd.eX (Rd.sl .here)) (.there .here))) (by omega) call249 (fun x hx=>IB (Rd.eX (yp (f:=fun x:Value×k6=>x.1) (g:=fun x=>x.2.wait) hx (.there .here))) (hs2 x hx))) fun _ _=>?_
  refine .dL .auto ?_
  refine .dL .auto ?_
  exact JS 2
 ·intro h19
  exact JS 8
 refine J 4 ?_
 refine .aS rfl rfl fun w s=>⟨(),?_,trivial,ak .auto s⟩
 exact LM (GV hxm hxc hxs)
theorem l9{W:World}{b:Nat}{l:List (eK)}{m:Int}{vm vc vs:Value}:Fn Tryz.prog W 203 [ptr b,.int .i64 m] [arr b 0 [vm,vc,vs],ef vm l] Unit (fun _=>Lc vm l.length 3 m) (fun _=>True) (fun _=>[arr b 0 [vm,vc,vs],ef vm l]):=by
 refine Fn.intro (N:=26) func203 rfl ntmps203 rfl fun F=>?_
 show ar _ _ _ _ _ _ [arr b 0 [vm,vc,vs],ef vm l,F]
 refine .o1 (C:=ef vm l) .auto rfl ?_
 rintro xs hxs
 have hl:=au hxs
 refine J 15 ?_
 apply aR.gA 8 19 11 [11,12,13,14,15,16,17,18,19] rfl
 ·intro h11
  exact JS 9
 ·intro h11
  exact JS 9
 refine JD 2 (fun h19=>?_) fun h19=>?_
 ·simp only[Bool.or_eq_true,decide_eq_true_eq] at h19
  refine J 7 ?_
  refine .aS rfl rfl fun w s=>⟨(),?_,trivial,ak .auto s⟩
  rw[sI (by omega)]
 ·simp only[Bool.or_eq_false_iff,decide_eq_false_iff_not] at h19
  refine J 9 ?_
  refine .p (.ix m.toNat rfl rfl (by omega) (by omega)) ?_
  refine J 4 ?_
  refine .aS rfl rfl fun w s=>⟨(),?_,trivial,ak .auto s⟩
  rw[fe (by omega)]
theorem xt{W:World}{b:Nat}{l:List (List eW)}{m:Int}{vm vc vs:Value}:Fn Tryz.prog W 169 [ptr b,.int .i64 m] [arr b 0 [vm,vc,vs],iH vc l] Unit (fun _=>Lc vc l.length 1 m) (fun _=>True) (fun _=>[arr b 0 [vm,vc,vs],iH vc l]):=by
 refine Fn.intro (N:=26) func169 rfl ntmps169 rfl fun F=>?_
 show ar _ _ _ _ _ _ [arr b 0 [vm,vc,vs],iH vc l,F]
 refine .o1 (C:=iH vc l) .auto rfl ?_
 rintro xs hxs
 have hl:=au hxs
 refine J 15 ?_
 apply aR.gA 8 19 11 [11,12,13,14,15,16,17,18,19] rfl
 ·intro h11
  exact JS 9
 ·intro h11
  exact JS 9
 refine JD 2 (fun h19=>?_) fun h19=>?_
 ·simp only[Bool.or_eq_true,decide_eq_true_eq] at h19
  refine J 7 ?_
  refine .aS rfl rfl fun w s=>⟨(),?_,trivial,ak .auto s⟩
  rw[sI (by omega)]
 ·simp only[Bool.or_eq_false_iff,decide_eq_false_iff_not] at h19
  refine J 9 ?_
  refine .p (.ix m.toNat rfl rfl (by omega) (by omega)) ?_
  refine J 4 ?_
  refine .aS rfl rfl fun w s=>⟨(),?_,trivial,ak .auto s⟩
  rw[fe (by omega)]
theorem AS{W:World}{b:Nat}{l:List (k6)}{m:Int}{vm vc vs:Value}:Fn Tryz.prog W 210 [ptr b,.int .i64 m] [arr b 0 [vm,vc,vs],fy vs l] Unit (fun _=>Lc vs l.length 2 m) (fun _=>True) (fun _=>[arr b 0 [vm,vc,vs],fy vs l]):=by
 refine Fn.intro (N:=26) func210 rfl ntmps210 rfl fun F=>?_
 show ar _ _ _ _ _ _ [arr b 0 [vm,vc,vs],fy vs l,F]
 refine .o1 (C:=fy vs l) .auto rfl ?_
 rintro xs hxs
 have hl:=au hxs
 refine J 15 ?_
 apply aR.gA 8 19 11 [11,12,13,14,15,16,17,18,19] rfl
 ·intro h11
  exact JS 9
 ·intro h11
  exact JS 9
 refine JD 2 (fun h19=>?_) fun h19=>?_
 ·simp only[Bool.or_eq_true,decide_eq_true_eq] at h19
  refine J 7 ?_
  refine .aS rfl rfl fun w s=>⟨(),?_,trivial,ak .auto s⟩
  rw[sI (by omega)]
 ·simp only[Bool.or_eq_false_iff,decide_eq_false_iff_not] at h19
  refine J 9 ?_
  refine .p (.ix m.toNat rfl rfl (by omega) (by omega)) ?_
  refine J 4 ?_
  refine .aS rfl rfl fun w s=>⟨(),?_,trivial,ak .auto s⟩
  rw[fe (by omega)]
theorem y8{W:World}{b o:Nat}{l:List eW}{x:eW}(hl:l.length≤100000000):Fn Tryz.prog W 207 [.pointer (some ⟨b,o,none⟩),.agg (dt x).toArray] [iV b o l] Unit (fun _=>.tuple #[]) (fun _=>True) (fun _=>[iV b o (l++[x])]):=by
 refine Fn.intro (N:=14) func207 rfl ntmps207 rfl fun F=>?_
 show ar _ _ _ _ _ _ [iV b o l,F]
 refine .o1 (C:=iV b o l) .auto rfl ?_
 rintro v -
 refine J 2 ?_
 refine .aj rfl (af.box rfl rfl rfl) ?_
 rintro _ _ ⟨b3,rfl,rfl⟩
 refine .mem (H':=[arr b3 0 (dt x),arr b o [v],sl dt 2 v l,F]) (fun w s=>s) ?_
 refine J 2 ?_
 refine .draw [arr b o [v]] [0,0,0,0,0,1,2,2,1,1,3] rfl (by kernel_rfl) ?_
 refine J 6 ?_
 refine .d2 rfl Kept.auto (af.gj 284 rfl rfl (by kernel_rfl)) (by rintro _ _ ⟨b10,rfl,rfl⟩;exact Kept.auto) ?_
 rintro _ _ ⟨b10,rfl,rfl⟩
 refine .mem (H':=[arr b10 0 (dt x),arr b3 0 (dt x),arr b o [v],sl dt 2 v l,F]) (fun w s=>s) ?_
 refine .d2 rfl Kept.auto (af.fV (enc:=dt) (k:=2) x rfl underlying196 underlying196 typeInfo284 rfl rfl rfl (by decide) rfl rfl rfl .auto rfl .auto (by omega) rfl) (by rintro _ _ ⟨v11,rfl,rfl⟩;exact Kept.auto) ?_
 rintro _ _ ⟨v11,rfl,rfl⟩
 refine J 2 ?_
 refine .d3 rfl (af.M9 sizeOf196 rfl rfl rfl) ?_
 rintro _ _ ⟨rfl,rfl⟩
 exact JR 1 ()
theorem uS{W:World}{b o:Nat}{l:List eW}{c:Int}(hl:l.length≤1000000):Fn Tryz.prog W 170 [.pointer (some ⟨b,o,none⟩),.int .i64 c] [iV b o l] Unit (fun _=>.tuple #[.agg (dt (aM l c).1).toArray,.bool (aM l c).2.1]) (fun _=>True) (fun _=>[iV b o (aM l c).2.2]):=by
 refine Fn.intro (N:=43) func170 rfl ntmps170 rfl fun F=>?_
 show ar _ _ _ _ _ _ [iV b o l,F]
 refine .o1 (C:=iV b o l) .auto rfl ?_
 rintro v -
 refine J 2 ?_
 refine .aj rfl (af.alloc rfl zeroValue284 rfl) ?_
 rintro _ _ ⟨b4,rfl,rfl⟩
 refine JD 20 (fun h15=>?_) fun h15=>?_
 ·refine J 2 ?_
  refine .p (.mq ([(.int .i64 0),(.int .i64 0)]) (by kernel_rfl)) ?_
  refine J 6 ?_
  rw[yq (show l.length=0 by omega)]
  refine .eQ rfl rfl isAgg284 (by exact sizeOf284) Cells.a rfl fun w s=>⟨(),?_,trivial,ak .auto s⟩
  rfl
 ·refine J 4 ?_
  have hpk:pick c l.length<l.length:=j7 (by omega)
  refine J 2 ?_
  refine .p (.rem rfl rfl (by omega)) ?_
  refine J 1 ?_
  refine .p (.add rfl rfl (Dm (by omega) (by omega))) ?_
  refine J 1 ?_
  refine .p (.fa (Y.rem rfl rfl (by omega)) (kM (by omega))) ?_
  refine J 10 ?_
  refine .p (.tm (pick c l.length) underlying196 sizeOf284 rfl rfl Rd.s rfl hpk) ?_
  refine .p (.la rfl (Cells.rd Rd.s (getD_some (d:=⟨0,0⟩) hpk))) ?_
  refine .aj rfl (af.alloc rfl zeroValue284 rfl) ?_
  rintro _ _ ⟨b8,rfl,rfl⟩
  refine J 13 ?_
  refine .c call208 rfl (Kz hpk (by omega)) fun u39 _=>?_
  refine J 2 ?_
  refine .aj rfl (af.M9 sizeOf196 rfl rfl rfl) ?_
  rintro _ _ ⟨rfl,rfl⟩
  refine J 10 ?_
  rw[sH (show ¬l.length=0 by omega)]
  refine .eQ rfl rfl isAgg284 (by exact sizeOf284) Cells.a rfl fun w s=>⟨(),?_,trivial,ak .auto s⟩
  rfl
theorem uT{W:World}{b o:Nat}{m:eK}{who:Int}:Fn Tryz.prog W 205 [.pointer (some ⟨b,o,none⟩),.int .i64 who] [eh b o m] Unit (fun _=>.bool (m.is who)) (fun _=>True) (fun _=>[eh b o m]):=by
 refine Fn.intro (N:=17) func205 rfl ntmps205 rfl fun F=>?_
 show ar _ _ _ _ _ _ [eh b o m,F]
 refine .o1 (C:=eh b o m) .auto rfl ?_
 rintro u -
 refine J 12 ?_
 apply aR.gq 7 16 9 [9,10,11,12,13,14,15,16] rfl
 ·intro h9
  exact JS 8
 ·intro h9
  exact JS 8
 exact JR 4 ()
theorem uU{W:World}{b o:Nat}{m:eK}{who:Int}(hl:m.wait.length≤100000000):Fn Tryz.prog W 171 [.pointer (some ⟨b,o,none⟩),.int .i64 who] [eh b o m] Unit (fun _=>.bool (m.lock who).1) (fun _=>True) (fun _=>[eh b o (m.lock who).2]):=by
 refine Fn.intro (N:=22) func171 rfl ntmps171 rfl fun F=>?_
 show ar _ _ _ _ _ _ [eh b o m,F]
 refine .o1 (C:=eh b o m) .auto rfl ?_
 rintro u -
 refine JD 14 (fun h8=>?_) fun h8=>?_
 ·refine J 6 ?_
  refine .p (.gX (fun v1=>[v1,(.int .i64 0)]) rfl (by kernel_rfl)) ?_
  refine .fr .auto (pC (b:=b) (o:=o) (u:=u)) ?_
  refine .c call207 rfl (y8 (x:=⟨who,0⟩) hl) fun _ _=>?_
  refine J 9 ?_
  rw[yr h8]
  refine .to (A:=eh b o {m with wait:=m.wait++[⟨who,0⟩] }) (Bs:=[iV b o (m.wait++[⟨who,0⟩]),arr b (o+1) [.bool m.held,.int .i64 m.owner]]) .auto (Dk (m:={m with wait:=m.wait++[⟨who,0⟩] })) ?_
  exact JR 0 ()
 ·refine J 9 ?_
  refine .aj rfl (af.N2 sizeOf4 rfl rfl rfl rfl) ?_
  rintro _ _ ⟨rfl,rfl⟩
  refine J 2 ?_
  refine .aj rfl (af.N2 sizeOf3 rfl rfl rfl rfl) ?_
  rintro _ _ ⟨rfl,rfl⟩
  refine J 8 ?_
  rw[yt h8]
  exact JR 0 ()
theorem qp{W:World}{b o:Nat}{m:eK}{c:Int}(hl:m.wait.length≤1000000):Fn Tryz.prog W 206 [.pointer (some ⟨b,o,none⟩),.int .i64 c] [eh b o m] Unit (fun _=>.tuple #[.int .i64 (m.unlock c).1,.bool (m.unlock c).2.1]) (fun _=>True) (fun _=>[eh b o (m.unlock c).2.2]):=by
 refine Fn.intro (N:=28) func206 rfl ntmps206 rfl fun F=>?_
 show ar _ _ _ _ _ _ [eh b o m,F]
 refine .o1 (C:=eh b o m) .auto rfl ?_
 rintro u -
 refine J 12 ?_
 refine .fr .auto (pC (b:=b) (o:=o) (u:=u)) ?_
 refine .c call170 rfl (uS hl) fun _ _=>?_
 refine J 3 ?_
 refine .aj rfl (af.alloc rfl zeroValue284 rfl) ?_
 rintro _ _ ⟨b6,rfl,rfl⟩
 refine J 5 ?_
 refine .draw [arr b6 0 (dt (aM m.wait c).1)] [1,0,1,0,0,1,1,2,1,1,3] rfl (by kernel_rfl) ?_
 refine J 7 ?_
 refine .d2 rfl Kept.auto (af.Oa sizeOf4 rfl rfl rfl rfl) (by rintro _ _ ⟨rfl,rfl⟩;exact Kept.auto) ?_
 rintro _ _ ⟨rfl,rfl⟩
 refine J 2 ?_
 refine .d3 rfl (af.N2 (i:=1) sizeOf3 rfl rfl rfl rfl) ?_
 rintro _ _ ⟨rfl,rfl⟩
 refine J 12 ?_
 refine .to (A:=eh b o (m.unlock c).2.2) (Bs:=[iV b o (aM m.wait c).2.2,arr b (o+1) [.bool (aM m.wait c).2.1,.int .i64 (aM m.wait c).1.who]]) .auto (Dk (m:=(m.unlock c).2.2)) ?_
 exact JR 0 ()
end Go.SLYtpbjdoplfgeliaaGreat
namespace Go.SLYtpbjdoplfgeliaaGreat
open Go Go.RowKit Go.Proofs Go.Proofs.Tryz
attribute [local irreducible] ar aR bm bA bH Y
theorem y9{W:World}{b:Nat}{ps:List (Option Nat)}{s:Spc}{n:Int}:Fn Tryz.prog W 72 [ptr b,.int .i64 n] [cE b ps s] Unit (fun _=>ed (yz ps n)) (fun _=>True) (fun _=>[cE b ps s]):=by
 refine Fn.intro (N:=21) func72 rfl ntmps72 rfl fun F=>?_
 show ar _ _ _ _ _ _ [cE b ps s,F]
 refine .jw (C:=cE b ps s) .auto rfl ?_
 rintro fv sv pv bt vm bg vt bk bw vr -
 refine J 15 ?_
 apply aR.gA 3 14 11 [11,12,13,14] rfl
 ·intro h11
  exact JS 4
 ·intro h11
  exact JS 4
 refine JD 2 (fun h14=>?_) fun h14=>?_
 ·simp only[Bool.or_eq_true,decide_eq_true_eq] at h14
  refine J 7 ?_
  refine .aS rfl rfl fun w s=>⟨(),?_,trivial,ak .auto s⟩
  rw[yz,if_neg (by omega)];rfl
 ·simp only[Bool.or_eq_false_iff,decide_eq_false_iff_not] at h14
  refine J 8 ?_
  refine .p (.dK n.toNat underlying120 sizeOf119 rfl rfl (by omega) (by omega)) ?_
  refine .p (.ld rfl (Cell.a (by rw[Nat.mul_one];exact eL (by omega)))) ?_
  refine J 4 ?_
  refine .aS rfl rfl fun w s=>⟨(),?_,trivial,ak .auto s⟩
  rw[yz,if_pos (by omega)]
theorem nS{W:World}{b p:Nat}{ps:List (Option Nat)}{s:Spc}{n:Nat}{t:bI}(hp:ps[n]?=some (some p))(ht:s.aF[n]?=some (some t))(hl:s.aF.length=16)(hpl:ps.length=16)(hT:jB s.table)(hh:0≤t.handle):Fn Tryz.prog W 113 [ptr b,.int .i64 (n:Int)] [cE b ps s] Unit (fun _=>.tuple #[]) (fun _=>True) (fun _=>[cE b (ps.set n none) (s.free n)]):=by
 refine Fn.intro (N:=23) func113 rfl ntmps113 rfl fun F=>?_
 show ar _ _ _ _ _ _ [cE b ps s,F]
 refine .jw (C:=cE b ps s) .auto rfl ?_
 rintro fv sv pv bt vm bg vt bk bw vr -
 have hn16:n<16:=hl ▸ (List.getElem?_eq_some_iff.1 ht).1
 refine .fr .auto (bP hp ht) ?_
 refine J 1 ?_
 refine .draw [arr b 0 (ft fv sv pv s.fb bt ps vm bg vt bk bw vr),arr p 0 (bn t)] [1,1,1,1,1,1,1,1,1,1,1,1,1,3] rfl (by kernel_rfl) ?_
 refine J 8 ?_
 refine .p (.dK n underlying120 sizeOf119 rfl rfl rfl hn16) ?_
 refine .p (.ld rfl (Cell.a (by rw[Nat.mul_one,eL hn16,aP hp]))) ?_
 refine J 3 ?_
 refine .c call159 rfl (Ft hT hh) fun e _=>?_
 refine J 7 ?_
 refine .p (.dK n underlying120 sizeOf119 rfl rfl rfl hn16) ?_
 refine .aj rfl (af.st sizeOf119 rfl rfl rfl (Nat.blt_eq.mpr (by show 9+n * 1<31;omega))) ?_
 rintro _ _ ⟨rfl,rfl⟩
 rw[Nat.mul_one,show Value.pointer none=ed none from rfl,zQ hn16 hpl]
 refine J 1 ?_
 rw[show s.free n = {s with table:=slotFreed s.table t.handle,aF:=s.aF.set n none } from by unfold Spc.free;rw[dS ht]]
 exact JR 0 ()
theorem jQ{W:World}{bd b p:Nat}{ps:List (Option Nat)}{d:Dng}{t:bI}(hp:ps[d.n]?=some (some p))(ht:d.s.aF[d.n]?=some (some t)){x y e:Int}{fin:Bool}(hr:d.s.aA.length≤1000000000):Fn Tryz.prog W 74 [ptr bd,.int .u64 x,.int .u64 y,.int .i64 e,.bool fin] [bu bd b p ps d] Unit (fun _=>.tuple #[]) (fun _=>True) (fun _=>[bu bd b p ps (d.tell x y e fin)]):=by
 refine Fn.intro (N:=42) func74 rfl ntmps74 rfl fun F=>?_
 show ar _ _ _ _ _ _ [bu bd b p ps d,F]
 refine .o2 (C:=bu bd b p ps d) .auto rfl ?_
 rintro vw ve -
 refine .jw (C:=cE b ps d.s) .auto rfl ?_
 rintro fv sv pv bt vm bg vt bk bw vr -
 refine .fr .auto (bP hp ht) ?_
 refine .draw [arr bd 0 (ei b p d vw ve),arr b 0 (ft fv sv pv d.s.fb bt ps vm bg vt bk bw vr),arr p 0 (bn t)] [0,0,0,0,0,0,0,0,0,0,0,1,1,1,1,1,1,1,1,1,1,1,1,1,1,1,1,1,2,2,1,1,3] rfl (by kernel_rfl) ?_
 refine J 27 ?_
 refine .p (.LH (fun v1 v2 v3 v4 v5 v6=>[v1,v2,v3,v4,v5,v6]) rfl rfl rfl rfl rfl rfl (by kernel_rfl)) ?_
 refine .d2 rfl Kept.auto (af.gj 102 rfl rfl (by kernel_rfl)) (by rintro _ _ ⟨b38,rfl,rfl⟩;exact Kept.auto) ?_
 rintro _ _ ⟨b38,rfl,rfl⟩
 refine .d2 rfl Kept.auto (af.fV (enc:=iU) (k:=6) (⟨t.handle,d.i.op,x,y,e,fin⟩:Rec) rfl underlying33 underlying33 typeInfo102 rfl rfl rfl (by decide) rfl rfl rfl .auto rfl .auto (by omega) rfl) (by rintro _ _ ⟨v39,rfl,rfl⟩;exact Kept.auto) ?_
 rintro _ _ ⟨v39,rfl,rfl⟩
 refine J 2 ?_
 refine .d3 rfl (af.mC sizeOf33 rfl rfl rfl) ?_
 rintro _ _ ⟨rfl,rfl⟩
 rw[pM]
 refine J 1 ?_
 refine .to (A:=aB ps d.s.aF) (Bs:=[arr p 0 (bn t),aB (ps.set d.n none) (d.s.aF.set d.n none)]) .auto (bM hp ht) ?_
 rw[show d.tell x y e fin = {d with s:=d.s.tell ⟨t.handle,d.i.op,x,y,e,fin⟩ } from by unfold Dng.tell;rw[dj ht]]
 exact JR 0 ()
theorem cx{W:World}{bd b p:Nat}{ps:List (Option Nat)}{d:Dng}{t:bI}(hp:ps[d.n]?=some (some p))(ht:d.s.aF[d.n]?=some (some t)){x y e:Int}(hr:d.s.aA.length≤1000000000)(he:0≤e∧e≤11)(hl:t.aE.length=8):Fn Tryz.prog W 117 [ptr bd,.int .u64 x,.int .u64 y,.int .i64 e] [bu bd b p ps d] Unit (fun _=>.tuple #[]) (fun _=>True) (fun _=>[bu bd b p ps (d.pass x y e)]):=by
 refine Fn.intro (N:=23) func117 rfl ntmps117 rfl fun F=>?_
 show ar _ _ _ _ _ _ [bu bd b p ps d,F]
 refine J 6 ?_
 refine .c call74 rfl (jQ hp ht hr) fun _ _=>?_
 refine J 3 ?_
 have ht2:(d.tell x y e true).s.aF[d.n]?=some (some t):=ht
 refine .o2 (C:=bu bd b p ps (d.tell x y e true)) .auto rfl ?_
 rintro vw ve -
 refine .jw (C:=cE b ps (d.tell x y e true).s) .auto rfl ?_
 rintro fv sv pv bt vm bg vt bk bw vr -
 refine .fr .auto (bP hp ht2) ?_
 refine J 3 ?_
 refine .p (.ld rfl (Cell.a (cs:=ei b p (d.tell x y e true) vw ve) rfl)) ?_
 refine J 1 ?_
 refine .p (.tq underlying25 underlying92 rfl (by omega)) ?_
 refine J 3 ?_
 refine .p (.dK 7 underlying131 sizeOf92 rfl rfl (by omega) (by omega)) ?_
 refine J 1 ?_
 rw[sL (n:=7) e (by decide) hl]
 refine J 1 ?_
 refine .to (A:=aB ps (d.s.aF.set d.n (some (t.put 7 e)))) (Bs:=[arr p 0 (bn (t.put 7 e)),aB (ps.set d.n none) ((d.tell x y e true).s.aF.set d.n none)]) .auto (cz (List.getElem?_eq_some_iff.1 ht).1 hp) ?_
 rw[show d.pass x y e=(d.tell x y e true).aX (t.put 7 e) from by unfold Dng.pass;rw[dj ht]]
 exact JR 0 ()
theorem gG{W:World}{bd b p:Nat}{ps:List (Option Nat)}{d:Dng}{t:bI}(hp:ps[d.n]?=some (some p))(ht:d.s.aF[d.n]?=some (some t)){cS bZ x y:Int}(hr:d.s.aA.length≤1000000000):Fn Tryz.prog W 164 [ptr bd,.int .i64 cS,.int .i64 bZ,.int .u64 x,.int .u64 y] [bu bd b p ps d] Unit (fun _=>.tuple #[]) (fun _=>True) (fun _=>[bu bd b p ps (d.block cS bZ x y)]):=by
 refine Fn.intro (N:=43) func164 rfl ntmps164 rfl fun F=>?_
 show ar _ _ _ _ _ _ [bu bd b p ps d,F]
 refine J 5 ?_
 refine .c call74 rfl (jQ hp ht hr) fun _ _=>?_
 refine J 3 ?_
 have ht2:(d.tell x y 0 false).s.aF[d.n]?=some (some t):=ht
 refine .o2 (C:=bu bd b p ps (d.tell x y 0 false)) .auto rfl ?_
 rintro vw ve -
 refine .jw (C:=cE b ps (d.tell x y 0 false).s) .auto rfl ?_
 rintro fv sv pv bt vm bg vt bk bw vr -
 refine .fr .auto (bP hp ht2) ?_
 refine .draw [arr bd 0 (ei b p (d.tell x y 0 false) vw ve)] [1,1,1,1,1,1,1,1,1,1,1,1,1,1,1,1,1,1,0,1,1,2,1,1,2,1,1,3] rfl (by kernel_rfl) ?_
 have ht2:(d.tell x y 0 false).s.aF[d.n]?=some (some t):=ht
 refine J 22 ?_
 rw[pL]
 refine J 3 ?_
 rw[L9]
 refine J 3 ?_
 rw[tZ]
 refine J 9 ?_
 refine .to (A:=aB ps (d.s.aF.set d.n (some {t with cS:=cS,op:=d.i.op,bZ:=bZ }))) (Bs:=[arr p 0 (bn {t with cS:=cS,op:=d.i.op,bZ:=bZ }),aB (ps.set d.n none) ((d.tell x y 0 false).s.aF.set d.n none)]) .auto (cz (List.getElem?_eq_some_iff.1 ht).1 hp) ?_
 rw[show d.block cS bZ x y = {(d.tell x y 0 false).aX {t with cS:=cS,op:=d.i.op,bZ:=bZ } with out:={d.out with aQ:=true } } from by unfold Dng.block;rw[dj ht]]
 exact JR 0 ()
theorem IC{W:World}{b p:Nat}{ps:List (Option Nat)}{s:Spc}{n:Nat}{t:bI}(hp:ps[n]?=some (some p))(ht:s.aF[n]?=some (some t))(hn16:n<16)(hR:gZ t){y:Int}:Fn Tryz.prog W 81 [ptr b,.int .i64 (n:Int),.int .u64 y] [cE b ps s] Unit (fun _=>.agg (iU (t.ku y)).toArray) (fun _=>True) (fun _=>[cE b ps (s.dN n y)]):=by
 refine Fn.intro (N:=50) func81 rfl ntmps81 rfl fun F=>?_
 show ar _ _ _ _ _ _ [cE b ps s,F]
 refine .jw (C:=cE b ps s) .auto rfl ?_
 rintro fv sv pv bt vm bg vt bk bw vr -
 refine .fr .auto (bP hp ht) ?_
 have hRl:=hR.l
 have hRi:=hR.i
 refine J 2 ?_
 refine .aj rfl (af.alloc rfl zeroValue102 rfl) ?_
 rintro _ _ ⟨b6,rfl,rfl⟩
 refine J 8 ?_
 refine .p (.dK n underlying120 sizeOf119 rfl rfl rfl hn16) ?_
 refine .p (.ld rfl (Cell.a (by rw[Nat.mul_one,eL hn16,aP hp]))) ?_
 refine J 3 ?_
 refine .Bx (X:=Unit) [2,14,15,16,17,18,19,20,21,22,23,24,25,26,27,28] (fun _=>True) (fun _=>[(2,some (.int .u64 (if t.bZ = -1 then 0 else y)))]) (fun _=>[arr p 0 (bn (if t.bZ = -1 then t else t.put t.bZ y)),aB (ps.set n none) (s.aF.set n none),arr b6 0 [.int .u64 0,.int .i64 0,.int .u64 0,.int .u64 0,.int .i64 0,.bool false],arr b 0 (ft fv sv pv s.fb bt ps vm bg vt bk bw vr),zI fv s.fb.funcs,mz bt s.table,sl eS 1 vm s.mem,cy bg s.al,pn vt s.cj,pq bk s.ca,ow bw s.aT,sl iU 6 vr s.aA,F]) ?_ ?_
 ·refine JD 9 (fun h18=>?_) fun h18=>?_
  ·refine .draw [arr p 0 (bn t)] [1,1,1,1,1,1,1,1,1,1,3] rfl (by kernel_rfl) ?_
   refine J 9 ?_
   refine .p (.dK t.bZ.toNat underlying131 sizeOf92 rfl rfl (by omega) (by omega)) ?_
   refine .d3 rfl (af.st sizeOf92 rfl rfl rfl (Nat.blt_eq.mpr (by show 2+t.bZ.toNat * 1<18;omega))) ?_
   rintro _ _ ⟨rfl,rfl⟩
   rw[jJ y (by omega) (by omega) hRl]
   refine J 1 ?_
   refine .kF () .auto ?_ ?_ ?_
   ·trivial
   ·rw[if_neg (by omega)];exact⟨rfl,trivial⟩
   ·rw[if_neg (by omega)];exact fun w s=>aw.kept .auto w s
  ·refine J 3 ?_
   refine .kF () .auto ?_ ?_ ?_
   ·trivial
   ·rw[if_pos (by omega)];exact⟨rfl,trivial⟩
   ·rw[if_pos (by omega)];exact fun w s=>aw.kept .auto w s
 ·rintro⟨⟩ -
  obtain⟨y1,hy1⟩:∃ y1,y1=(if t.bZ = -1 then 0 else y):=⟨_,rfl⟩
  obtain⟨t1,h1⟩:∃ t1,t1=(if t.bZ = -1 then t else t.put t.bZ y):=⟨_,rfl⟩
  have h1l:t1.aE.length=8:=by
   rw[h1]
   split
   ·exact hRl
   ·rw[j8];exact hRl
  have h1h:t1.handle=t.handle∧t1.op=t.op:=by
   rw[h1]
   split <;> exact⟨rfl,rfl⟩
  rw[← hy1, ← h1]
  refine J 6 ?_
  refine .p (.dK 7 underlying131 sizeOf92 rfl rfl (by omega) (by omega)) ?_
  refine J 1 ?_
  rw[sL (n:=7) 0 (by decide) h1l]
  refine J 9 ?_
  rw[pL]
  refine J 3 ?_
  rw[tZ]
  refine J 3 ?_
  refine .draw [arr p 0 (bn {t1.put 7 0 with cS:=0,bZ := -1 })] [1,1,1,1,1,1,1,1,1,1,3] rfl (by kernel_rfl) ?_
  refine J 9 ?_
  refine .p (.Gf (fun v1 v2 v3 v4=>[v1,v2,(.int .u64 0),v3,(.int .i64 0),v4]) rfl rfl rfl rfl (by kernel_rfl)) ?_
  refine .d3 rfl (af.iy (by exact sizeOf102) rfl rfl rfl (by rfl)) ?_
  rintro _ _ ⟨rfl,rfl⟩
  refine J 3 ?_
  refine .to (A:=aB ps (s.aF.set n (some ({t1.put 7 0 with cS:=0,bZ := -1 })))) (Bs:=[arr p 0 (bn ({t1.put 7 0 with cS:=0,bZ := -1 })),aB (ps.set n none) (s.aF.set n none)]) .auto (cz (List.getElem?_eq_some_iff.1 ht).1 hp) ?_
  rw[show s.dN n y=s.aX n {t1.put 7 0 with cS:=0,bZ := -1 } from by unfold Spc.dN;rw[dS ht,Dv t1 h1]]
  refine .dJ rfl rfl isAgg102 (by exact sizeOf102) Cells.a fun w s=>⟨(),?_,trivial,ak .auto s⟩
  show Ending.returned (Value.agg #[.int .u64 t1.handle,.int .i64 t1.op,.int .u64 0,.int .u64 y1,.int .i64 0,.bool true])=_;rw[h1h.1,h1h.2,hy1];rfl
theorem ID{W:World}{bd b p q:Nat}{ps:List (Option Nat)}{d:Dng}{t:bI}{n:Nat}(hp:ps[n]?=some (some q))(ht:d.s.aF[n]?=some (some t))(hn16:n<16)(hR:gZ t)(he:d.ends.length≤1000000)(hw:d.out.av.length≤1000000){y:Int}:Fn Tryz.prog W 114 [ptr bd,.int .i64 (n:Int),.int .u64 y] [bu bd b p ps d] Unit (fun _=>.tuple #[]) (fun _=>True) (fun _=>[bu bd b p ps (d.cq n y)]):=by
 refine Fn.intro (N:=34) func114 rfl ntmps114 rfl fun F=>?_
 show ar _ _ _ _ _ _ [bu bd b p ps d,F]
 refine .o2 (C:=bu bd b p ps d) .auto rfl ?_
 rintro vw ve -
 refine J 1 ?_
 refine .draw [arr bd 0 (ei b p d vw ve)] [0,0,0,0,0,1,1,1,1,1,1,2,2,2,1,1,3] rfl (by kernel_rfl) ?_
 refine J 11 ?_
 refine .c2 call81 rfl (IC hp ht hn16 hR) fun _ _=>?_
 refine .d2 rfl Kept.auto (af.gj 102 rfl rfl (by kernel_rfl)) (by rintro _ _ ⟨b18,rfl,rfl⟩;exact Kept.auto) ?_
 rintro _ _ ⟨b18,rfl,rfl⟩
 refine .d2 rfl Kept.auto (af.fV (enc:=iU) (k:=6) (t.ku y) rfl underlying33 underlying33 typeInfo102 rfl rfl rfl (by decide) rfl rfl rfl .auto rfl .auto (by omega) rfl) (by rintro _ _ ⟨v19,rfl,rfl⟩;exact Kept.auto) ?_
 rintro _ _ ⟨v19,rfl,rfl⟩
 refine J 2 ?_
 refine .d3 rfl (af.mC sizeOf33 rfl rfl rfl) ?_
 rintro _ _ ⟨rfl,rfl⟩
 refine J 10 ?_
 refine .aj rfl (af.gj 3 rfl rfl (by kernel_rfl)) ?_
 rintro _ _ ⟨b29,rfl,rfl⟩
 refine .aj rfl (af.fV (enc:=aq) (k:=1) (n:Int) rfl underlying50 underlying50 typeInfo3 rfl rfl rfl (by decide) rfl rfl rfl .auto rfl .auto (by omega) rfl) ?_
 rintro _ _ ⟨v30,rfl,rfl⟩
 refine J 3 ?_
 refine .aj rfl (af.mC sizeOf50 rfl rfl rfl) ?_
 rintro _ _ ⟨rfl,rfl⟩
 refine J 1 ?_
 rw[show d.cq n y = {d with s:=d.s.dN n y,ends:=d.ends++[t.ku y],out:={d.out with av:=d.out.av++[(n:Int)] } } from by unfold Dng.cq;rw[dS ht]]
 exact JR 0 ()
theorem xu{W:World}{bd b p:Nat}{ps:List (Option Nat)}{d:Dng}{t:bI}(hp:ps[d.n]?=some (some p))(ht:d.s.aF[d.n]?=some (some t))(hI:0≤d.i.a∧d.i.a<8):Fn Tryz.prog W 120 [ptr bd] [bu bd b p ps d] Unit (fun _=>.int .u64 d.a) (fun _=>True) (fun _=>[bu bd b p ps d]):=by
 refine Fn.intro (N:=17) func120 rfl ntmps120 rfl fun F=>?_
 show ar _ _ _ _ _ _ [bu bd b p ps d,F]
 refine .o2 (C:=bu bd b p ps d) .auto rfl ?_
 rintro vw ve -
 refine .jw (C:=cE b ps d.s) .auto rfl ?_
 rintro fv sv pv bt vm bg vt bk bw vr -
 refine .fr .auto (bP hp ht) ?_
 refine J 6 ?_
 refine .draw [] [1,1,1,1,1,1,1,1,1,1,1,1,1,1,1] rfl (by kernel_rfl) ?_
 refine J 12 ?_
 refine .p (.dK d.i.a.toNat underlying131 sizeOf92 rfl rfl (by omega) (by omega)) ?_
 refine .p (.ld rfl (Cell.a (nF (by omega)))) ?_
 refine J 4 ?_
 refine .to (A:=aB ps d.s.aF) (Bs:=[arr p 0 (bn t),aB (ps.set d.n none) (d.s.aF.set d.n none)]) .auto (bM hp ht) ?_
 refine .aS rfl rfl fun w s=>⟨(),?_,trivial,ak .auto s⟩
 rw[show d.a=t.aE.getD d.i.a.toNat 0 from by unfold Dng.a;rw[dj ht];rfl]
theorem Ln{W:World}{bd b p:Nat}{ps:List (Option Nat)}{d:Dng}{t:bI}(hp:ps[d.n]?=some (some p))(ht:d.s.aF[d.n]?=some (some t))(hI:0≤d.i.b∧d.i.b<8):Fn Tryz.prog W 162 [ptr bd] [bu bd b p ps d] Unit (fun _=>.int .u64 d.b) (fun _=>True) (fun _=>[bu bd b p ps d]):=by
 refine Fn.intro (N:=17) func162 rfl ntmps162 rfl fun F=>?_
 show ar _ _ _ _ _ _ [bu bd b p ps d,F]
 refine .o2 (C:=bu bd b p ps d) .auto rfl ?_
 rintro vw ve -
 refine .jw (C:=cE b ps d.s) .auto rfl ?_
 rintro fv sv pv bt vm bg vt bk bw vr -
 refine .fr .auto (bP hp ht) ?_
 refine J 6 ?_
 refine .draw [] [1,1,1,1,1,1,1,1,1,1,1,1,1,1,1] rfl (by kernel_rfl) ?_
 refine J 12 ?_
 refine .p (.dK d.i.b.toNat underlying131 sizeOf92 rfl rfl (by omega) (by omega)) ?_
 refine .p (.ld rfl (Cell.a (nF (by omega)))) ?_
 refine J 4 ?_
 refine .to (A:=aB ps d.s.aF) (Bs:=[arr p 0 (bn t),aB (ps.set d.n none) (d.s.aF.set d.n none)]) .auto (bM hp ht) ?_
 refine .aS rfl rfl fun w s=>⟨(),?_,trivial,ak .auto s⟩
 rw[show d.b=t.aE.getD d.i.b.toNat 0 from by unfold Dng.b;rw[dj ht];rfl]
theorem oV{W:World}{bd b p:Nat}{ps:List (Option Nat)}{d:Dng}(hr:d.s.aA.length≤1000000000)(he:d.ends.length≤1000000):Fn Tryz.prog W 79 [ptr bd] [bu bd b p ps d] Value (fun u=>.agg (oE u d.finish.1).toArray) (fun _=>True) (fun u=>[sl aq 1 u d.finish.1.av,cE b ps d.finish.2]):=by
 refine Fn.intro (N:=25) func79 rfl ntmps79 rfl fun F=>?_
 show ar _ _ _ _ _ _ [bu bd b p ps d,F]
 refine .o2 (C:=bu bd b p ps d) .auto rfl ?_
 rintro vw ve -
 refine .jw (C:=cE b ps d.s) .auto rfl ?_
 rintro fv sv pv bt vm bg vt bk bw vr -
 refine J 2 ?_
 refine .aj rfl (af.alloc rfl zeroValue57 rfl) ?_
 rintro _ _ ⟨b2,rfl,rfl⟩
 refine J 3 ?_
 refine .draw [arr bd 0 (ei b p d vw ve),arr b 0 (ft fv sv pv d.s.fb bt ps vm bg vt bk bw vr)] [0,0,0,0,1,1,1,1,1,1,1,1,1,1,1,2,1,1,3] rfl (by kernel_rfl) ?_
 refine J 15 ?_
 refine .d2 rfl Kept.auto (af.append rfl underlying33 underlying33 typeInfo102 rfl rfl rfl (by decide) rfl rfl .auto Rd.s (by omega) (zK _)) (by rintro _ _ ⟨v18,rfl,rfl⟩;exact Kept.auto) ?_
 rintro _ _ ⟨v18,rfl,rfl⟩
 refine J 2 ?_
 refine .d3 rfl (af.mC sizeOf33 rfl rfl rfl) ?_
 rintro _ _ ⟨rfl,rfl⟩
 rw[pM]
 refine J 7 ?_
 refine .p (.la rfl (Cells.mg (ds:=oE vw d.out) Cells.a rfl)) ?_
 refine .aj rfl (af.J3 (vs:=[.bool d.out.aQ,.bool d.out.ended,.bool d.out.yielded]) (by exact sizeOf57) rfl rfl rfl rfl) ?_
 rintro _ _ ⟨rfl,rfl⟩
 refine J 3 ?_
 refine .dJ rfl rfl isAgg57 (by exact sizeOf57) Cells.a fun w s=>⟨vw,?_,trivial,ak .auto s⟩
 rfl
end Go.SLYtpbjdoplfgeliaaGreat
namespace Go.SLYtpbjdoplfgeliaaGreat
open Go Go.RowKit Go.Proofs Go.Proofs.Tryz
attribute [local irreducible] ar aR bm bA bH Y
theorem fJ{W:World}{a:Int}:Fn Tryz.prog W 264 [.int .u64 a] [] Unit (fun _=>.float .f64 a.toNat) (fun _=>True) (fun _=>[]):=by
 refine Fn.intro (N:=5) func264 rfl ntmps264 rfl fun F=>?_
 show ar _ _ _ _ _ _ [F]
 refine J 8 ?_
 refine .p (.ext (e:=Extern.MathFloatBits.float64frombits) func283 rfl rfl rfl (by kernel_rfl) rfl (fun w=>rfl)) ?_
 exact JR 4 ()
theorem CC{W:World}{n:Nat}:Fn Tryz.prog W 289 [.float .f64 n] [] Unit (fun _=>.bool (kO n n != some .eq)) (fun _=>True) (fun _=>[]):=by
 refine Fn.intro (N:=6) func289 rfl ntmps289 rfl fun F=>?_
 show ar _ _ _ _ _ _ [F]
 refine J 9 ?_
 refine .p (.Oi rfl rfl (fun w=>rfl)) ?_
 exact JR 4 ()
theorem ma{W:World}{n:Nat}:Fn Tryz.prog W 269 [.float .f64 n] [] Unit (fun _=>.bool (kO n n != some .eq)) (fun _=>True) (fun _=>[]):=by
 refine Fn.intro (N:=5) func269 rfl ntmps269 rfl fun F=>?_
 show ar _ _ _ _ _ _ [F]
 refine J 8 ?_
 refine .c call289 rfl CC fun _ _=>?_
 exact JR 4 ()
theorem kX{W:World}{n:Nat}:Fn Tryz.prog W 265 [.float .f64 n] [] Unit (fun _=>.int .u64 (jF (n:Int))) (fun _=>True) (fun _=>[]):=by
 refine Fn.intro (N:=7) func265 rfl ntmps265 rfl fun F=>?_
 show ar _ _ _ _ _ _ [F]
 refine J 9 ?_
 refine .c call269 rfl ma fun _ _=>?_
 refine JD 2 (fun h4=>?_) fun h4=>?_
 ·refine J 7 ?_
  refine .aS rfl rfl fun w s=>⟨(),?_,trivial,ak .auto s⟩
  rw[qQ,if_pos h4];rfl
 ·refine J 5 ?_
  refine .p (.ext (e:=Extern.MathFloatBits.float64bits) func284 rfl rfl rfl (by kernel_rfl) rfl (fun w=>rfl)) ?_
  refine J 4 ?_
  refine .aS rfl rfl fun w s=>⟨(),?_,trivial,ak .auto s⟩
  rw[qQ,if_neg (by rw[h4];simp)]
theorem KD{W:World}{a b:Int}:Fn Tryz.prog W 234 [.int .u64 a,.int .u64 b] [] Unit (fun _=>.int .u64 (LS a b)) (fun _=>True) (fun _=>[]):=by
 refine Fn.intro (N:=11) func234 rfl ntmps234 rfl fun F=>?_
 show ar _ _ _ _ _ _ [F]
 refine J 8 ?_
 refine .c call264 rfl fJ fun _ _=>?_
 refine J 1 ?_
 refine .c call264 rfl fJ fun _ _=>?_
 refine .aj rfl (af.JW (Ieee.double.add _ _) rfl rfl rfl (fun w=>rfl)) ?_
 rintro _ _ ⟨r9,hr9,rfl,rfl⟩
 refine .c call265 rfl kX fun _ _=>?_
 refine J 4 ?_
 refine .aS rfl rfl fun w s=>⟨(),?_,trivial,ak .auto s⟩
 rw[sJ hr9];rfl
theorem KE{W:World}{a b:Int}:Fn Tryz.prog W 235 [.int .u64 a,.int .u64 b] [] Unit (fun _=>.int .u64 (LU a b)) (fun _=>True) (fun _=>[]):=by
 refine Fn.intro (N:=11) func235 rfl ntmps235 rfl fun F=>?_
 show ar _ _ _ _ _ _ [F]
 refine J 8 ?_
 refine .c call264 rfl fJ fun _ _=>?_
 refine J 1 ?_
 refine .c call264 rfl fJ fun _ _=>?_
 refine .aj rfl (af.JW (Ieee.double.sub _ _) rfl rfl rfl (fun w=>rfl)) ?_
 rintro _ _ ⟨r9,hr9,rfl,rfl⟩
 refine .c call265 rfl kX fun _ _=>?_
 refine J 4 ?_
 refine .aS rfl rfl fun w s=>⟨(),?_,trivial,ak .auto s⟩
 rw[sJ hr9];rfl
theorem KF{W:World}{a b:Int}:Fn Tryz.prog W 236 [.int .u64 a,.int .u64 b] [] Unit (fun _=>.int .u64 (LV a b)) (fun _=>True) (fun _=>[]):=by
 refine Fn.intro (N:=11) func236 rfl ntmps236 rfl fun F=>?_
 show ar _ _ _ _ _ _ [F]
 refine J 8 ?_
 refine .c call264 rfl fJ fun _ _=>?_
 refine J 1 ?_
 refine .c call264 rfl fJ fun _ _=>?_
 refine .aj rfl (af.JW (Ieee.double.mul _ _) rfl rfl rfl (fun w=>rfl)) ?_
 rintro _ _ ⟨r9,hr9,rfl,rfl⟩
 refine .c call265 rfl kX fun _ _=>?_
 refine J 4 ?_
 refine .aS rfl rfl fun w s=>⟨(),?_,trivial,ak .auto s⟩
 rw[sJ hr9];rfl
theorem KG{W:World}{a b:Int}:Fn Tryz.prog W 237 [.int .u64 a,.int .u64 b] [] Unit (fun _=>.int .u64 (LW a b)) (fun _=>True) (fun _=>[]):=by
 refine Fn.intro (N:=11) func237 rfl ntmps237 rfl fun F=>?_
 show ar _ _ _ _ _ _ [F]
 refine J 8 ?_
 refine .c call264 rfl fJ fun _ _=>?_
 refine J 1 ?_
 refine .c call264 rfl fJ fun _ _=>?_
 refine .aj rfl (af.JW (Ieee.double.div _ _) rfl rfl rfl (fun w=>rfl)) ?_
 rintro _ _ ⟨r9,hr9,rfl,rfl⟩
 refine .c call265 rfl kX fun _ _=>?_
 refine J 4 ?_
 refine .aS rfl rfl fun w s=>⟨(),?_,trivial,ak .auto s⟩
 rw[sJ hr9];rfl
theorem IE{W:World}{m n:Nat}:Fn Tryz.prog W 266 [.float .f64 m,.float .f64 n] [] Unit (fun _=>.float .f64 (kN true .lt m n)) (fun _=>True) (fun _=>[]):=by
 refine Fn.intro (N:=11) func266 rfl ntmps266 rfl fun F=>?_
 show ar _ _ _ _ _ _ [F]
 refine J 6 ?_
 refine .gu rfl ?_
 refine J 4 ?_
 refine .p (.ext (e := Extern.MathDim.pick "math.archMin" true .lt) func285 rfl rfl rfl (by kernel_rfl) rfl (fun w => rfl)) ?_
 exact JR 5 ()
theorem IF{W:World}{m n:Nat}:Fn Tryz.prog W 268 [.float .f64 m,.float .f64 n] [] Unit (fun _=>.float .f64 (kN false .gt m n)) (fun _=>True) (fun _=>[]):=by
 refine Fn.intro (N:=11) func268 rfl ntmps268 rfl fun F=>?_
 show ar _ _ _ _ _ _ [F]
 refine J 6 ?_
 refine .gu rfl ?_
 refine J 4 ?_
 refine .p (.ext (e := Extern.MathDim.pick "math.archMax" false .gt) func287 rfl rfl rfl (by kernel_rfl) rfl (fun w => rfl)) ?_
 exact JR 5 ()
theorem DX{W:World}{n:Nat}{a b:Int}(ha:0≤a)(hb:0≤b):Fn Tryz.prog W 267 [.float .f64 n,.int .u64 a,.int .u64 b] [] Unit (fun _=>.int .u64 (if (tQ a || tQ b)=true then n8 else jF (n:Int))) (fun _=>True) (fun _=>[]):=by
 refine Fn.intro (N:=17) func267 rfl ntmps267 rfl fun F=>?_
 show ar _ _ _ _ _ _ [F]
 refine J 9 ?_
 refine .c call264 rfl fJ fun _ _=>?_
 refine .c call269 rfl ma fun _ _=>?_
 refine J 1 ?_
 apply aR.gY 4 14 10 [10,11,12,13,14] rfl
 ·intro h10
  refine J 1 ?_
  refine .cg call264 rfl fJ fun _ _=>?_
  refine .cg call269 rfl ma fun _ _=>?_
  exact JS 2
 ·intro h10
  exact JS 5
 refine JD 2 (fun h14=>?_) fun h14=>?_
 ·rw[gB ha,gB hb] at h14
  refine J 7 ?_
  refine .aS rfl rfl fun w s=>⟨(),?_,trivial,ak .auto s⟩
  rw[if_pos h14];rfl
 ·rw[gB ha,gB hb] at h14
  refine J 5 ?_
  refine .c call265 rfl kX fun _ _=>?_
  refine J 4 ?_
  refine .aS rfl rfl fun w s=>⟨(),?_,trivial,ak .auto s⟩
  rw[if_neg (by rw[h14];simp)]
theorem KH{W:World}{a b:Int}(ha:0≤a)(hb:0≤b):Fn Tryz.prog W 238 [.int .u64 a,.int .u64 b] [] Unit (fun _=>.int .u64 (zX a b)) (fun _=>True) (fun _=>[]):=by
 refine Fn.intro (N:=13) func238 rfl ntmps238 rfl fun F=>?_
 show ar _ _ _ _ _ _ [F]
 refine J 8 ?_
 refine .c call264 rfl fJ fun _ _=>?_
 refine J 1 ?_
 refine .c call264 rfl fJ fun _ _=>?_
 refine .c call266 rfl IE fun _ _=>?_
 refine J 2 ?_
 refine .c call267 rfl (DX ha hb) fun _ _=>?_
 exact JR 4 ()
theorem KI{W:World}{a b:Int}(ha:0≤a)(hb:0≤b):Fn Tryz.prog W 239 [.int .u64 a,.int .u64 b] [] Unit (fun _=>.int .u64 (zY a b)) (fun _=>True) (fun _=>[]):=by
 refine Fn.intro (N:=13) func239 rfl ntmps239 rfl fun F=>?_
 show ar _ _ _ _ _ _ [F]
 refine J 8 ?_
 refine .c call264 rfl fJ fun _ _=>?_
 refine J 1 ?_
 refine .c call264 rfl fJ fun _ _=>?_
 refine .c call268 rfl IF fun _ _=>?_
 refine J 2 ?_
 refine .c call267 rfl (DX ha hb) fun _ _=>?_
 exact JR 4 ()
theorem IG{W:World}{a b:Int}:Fn Tryz.prog W 240 [.int .u64 a,.int .u64 b] [] Unit (fun _=>.bool (Oe a b)) (fun _=>True) (fun _=>[]):=by
 refine Fn.intro (N:=10) func240 rfl ntmps240 rfl fun F=>?_
 show ar _ _ _ _ _ _ [F]
 refine J 8 ?_
 refine .c call264 rfl fJ fun _ _=>?_
 refine J 1 ?_
 refine .c call264 rfl fJ fun _ _=>?_
 refine .p (.Ni rfl rfl) ?_
 exact JR 4 ()
theorem Fu{W:World}{a:Int}(ha:0≤a):Fn Tryz.prog W 241 [.int .u64 a] [] Unit (fun _=>.int .u64 (lH a)) (fun _=>True) (fun _=>[]):=by
 refine Fn.intro (N:=18) func241 rfl ntmps241 rfl fun F=>?_
 show ar _ _ _ _ _ _ [F]
 refine J 8 ?_
 refine .c call264 rfl fJ fun _ _=>?_
 refine J 7 ?_
 refine .c call269 rfl ma fun _ _=>?_
 refine JD 3 (fun h9=>?_) fun h9=>?_
 ·refine J 7 ?_
  refine .aS rfl rfl fun w s=>⟨(),?_,trivial,ak .auto s⟩
  rw[lH,if_pos (by rw[← gB ha];exact h9)]
 ·refine J 3 ?_
  refine .p (.Oh rfl rfl) ?_
  refine JD 3 (fun h12=>?_) fun h12=>?_
  ·have g12:(Ieee.double.order a.toNat ym == some .gt || Ieee.double.order a.toNat ym == some .eq)=true:=h12
   refine J 7 ?_
   refine .aS rfl rfl fun w s=>⟨(),?_,trivial,ak .auto s⟩
   rw[lH,if_neg (by rw[← gB ha,h9];simp),if_pos g12]
  ·have g12:(Ieee.double.order a.toNat ym == some .gt || Ieee.double.order a.toNat ym == some .eq)=false:=h12
   refine J 3 ?_
   refine .p (.Ni rfl rfl) ?_
   refine JD 3 (fun h15=>?_) fun h15=>?_
   ·have g15:(Ieee.double.order a.toNat zZ == some .lt)=true:=h15
    refine J 7 ?_
    refine .aS rfl rfl fun w s=>⟨(),?_,trivial,ak .auto s⟩
    rw[lH,if_neg (by rw[← gB ha,h9];simp),if_neg (by rw[g12];simp),if_pos g15]
   ·have g15:(Ieee.double.order a.toNat zZ == some .lt)=false:=h15
    refine J 3 ?_
    obtain⟨k,hk,hk1,hk2⟩:=EJ h9 g12 g15
    refine .p (.LZ (fun w=>EK hk hk1 hk2) rfl) ?_
    refine .p (.conv underlying2 underlying92 rfl) ?_
    refine J 5 ?_
    refine .aS rfl rfl fun w s=>⟨(),?_,trivial,ak .auto s⟩
    rw[lH,if_neg (by rw[← gB ha,h9];simp),if_neg (by rw[g12];simp),if_neg (by rw[g15];simp),hk];exact zP (G0 k)
theorem AT{W:World}{a:Int}:Fn Tryz.prog W 242 [.int .u64 a] [] Unit (fun _=>.int .u64 (mR a)) (fun _=>True) (fun _=>[]):=by
 refine Fn.intro (N:=7) func242 rfl ntmps242 rfl fun F=>?_
 show ar _ _ _ _ _ _ [F]
 refine J 8 ?_
 refine .p (.conv underlying92 underlying2 rfl) ?_
 refine .p (.toFloat (fun w=>rfl) rfl) ?_
 refine .c call265 rfl kX fun _ _=>?_
 exact JR 4 ()
end Go.SLYtpbjdoplfgeliaaGreat
namespace Go.SLYtpbjdoplfgeliaaGreat
open Go Go.RowKit Go.Proofs Go.Proofs.Tryz
theorem CD{W:World}{A:aa}{fv c1 c2 c3 c4 c5 c6 c7:Value}{fs:List (Value×List Ins)}{f:iZ}{p:gn}(hr:Rd W [A] eu 1 fv fs)(hi:∀ x∈fs,Rd W [A] dM 5 x.1 x.2)(hp:fs.map (·.2)=p.funcs)(_hl:fs.length≤1000000)(_hl2:∀ x∈fs,x.2.length≤1000000):Fn Tryz.prog W 73 [.agg #[fv,c1,c2,c3,c4,c5,c6,c7],.agg (iW f).toArray] [A] Unit (fun _=>Ld (dZ p f)) (fun _=>True) (fun _=>[A]):=by
 refine Fn.intro (N:=45) func73 rfl ntmps73 rfl fun F=>?_
 haveI hRI:∀ (H:List aa) [bE H A],aC W H fv eu 1 fs:=fun H h=>⟨hr.at h.has⟩
 show ar _ _ _ _ _ _ [A,F]
 obtain⟨x,hxd⟩:∃ x:Value×List Ins,fs.getD f.fn.toNat (.slice none 0 0,[])=x:=⟨_,rfl⟩
 have hx:f.fn.toNat<fs.length→fs[f.fn.toNat]?=some x:=fun h=>hxd ▸ getD_some h
 refine J 2 ?_
 refine .aj rfl (af.box rfl rfl rfl) ?_
 rintro _ _ ⟨b2,rfl,rfl⟩
 refine .mem (H':=[arr b2 0 [fv,c1,c2,c3,c4,c5,c6,c7],A,F]) (fun w s=>s) ?_
 refine .aj rfl (af.box rfl rfl rfl) ?_
 rintro _ _ ⟨b3,rfl,rfl⟩
 refine .mem (H':=[arr b3 0 (iW f),arr b2 0 [fv,c1,c2,c3,c4,c5,c6,c7],A,F]) (fun w s=>s) ?_
 refine .aj rfl (af.alloc rfl zeroValue94 rfl) ?_
 rintro _ _ ⟨b4,rfl,rfl⟩
 refine J 5 ?_
 refine .draw [] [1,1,1,1,1,1,1,1,1,1,1,1,1,1,1,1,1,1,1,1,1,1,1,1,1,1,1,1] rfl (by kernel_rfl) ?_
 refine J 4 ?_
 apply bm.gA 7 16 9 [9,10,11,12,13,14,15,16] rfl
 ·intro h9
  exact JS 8
 ·intro h9
  exact JS 8
 refine J 1 ?_
 apply bm.gY 4 21 17 [17,18,19,20,21] rfl
 ·intro h17
  exact JS 5
 ·intro h17
  exact JS 5
 refine J 1 ?_
 apply bm.gY 11 33 22 [22,23,24,25,26,27,28,29,30,31,32,33] rfl
 ·intro h22
  simp only[Bool.or_eq_false_iff,decide_eq_false_iff_not] at h22
  have hlt:f.fn.toNat<fs.length:=by omega
  have hix:=hi x (List.mem_of_getElem? (hx hlt))
  haveI hI4:∀ (H:List aa) [bE H A],aC W H x.1 dM 5 x.2:=fun H h=>⟨hix.at h.has⟩
  refine J 6 ?_
  refine .g (.ix f.fn.toNat rfl rfl (by omega) hlt) ?_
  refine .g (.ld rfl (Cell.Lb Rd.s (hx hlt) (by rfl))) ?_
  exact JS 4
 ·intro h22
  exact JS 12
 refine JD 2 (fun h33=>?_) fun h33=>?_
 ·refine J 2 ?_
  refine .p (.mq ([(.int .i64 0),(.int .i64 0),(.int .i64 0),(.int .i64 0),(.int .u64 0)]) (by kernel_rfl)) ?_
  refine J 6 ?_
  refine .eQ rfl rfl isAgg94 (by exact sizeOf94) Cells.a rfl fun w s=>⟨(),?_,trivial,ak .auto s⟩
  rw[JY (z:=(.slice none 0 0,[])) hp (by rw[hxd];exact h33) rfl];rfl
 ·refine J 3 ?_
  refine .draw [] [1,1,1,1,1,1,1,1,1,1,3,1] rfl (by kernel_rfl) ?_
  simp only[Bool.or_eq_false_iff,decide_eq_false_iff_not] at h33
  have hlt:f.fn.toNat<fs.length:=by omega
  have hix:=hi x (List.mem_of_getElem? (hx hlt))
  haveI hI4:∀ (H:List aa) [bE H A],aC W H x.1 dM 5 x.2:=fun H h=>⟨hix.at h.has⟩
  obtain⟨i,hin⟩:=ai (show f.pc.toNat<x.2.length by omega)
  refine J 4 ?_
  refine .p (.ix f.fn.toNat rfl rfl (by omega) hlt) ?_
  refine .p (.ld rfl (Cell.Lb Rd.s (hx hlt) (by rfl))) ?_
  refine J 2 ?_
  refine .p (.ix f.pc.toNat rfl rfl (by omega) (by omega)) ?_
  refine .p (.la rfl (Cells.rd Rd.s hin)) ?_
  refine .d3 rfl (af.iy (by exact sizeOf94) rfl rfl rfl (by rfl)) ?_
  rintro _ _ ⟨rfl,rfl⟩
  refine J 4 ?_
  refine .eQ rfl rfl isAgg94 (by exact sizeOf94) Cells.a rfl fun w s=>⟨(),?_,trivial,ak .auto s⟩
  rw[G3 hp (by omega) (by omega) (hx hlt) hin];rfl
theorem xv{W:World}{b:Bool}:Fn Tryz.prog W 233 [.bool b] [] Unit (fun _=>.int .u64 (BS b)) (fun _=>True) (fun _=>[]):=by
 refine Fn.intro (N:=4) func233 rfl ntmps233 rfl fun F=>?_
 show ar _ _ _ _ _ _ [F]
 refine JD 11 (fun h=>?_) fun h=>?_
 ·refine J 7 ?_
  refine .aS rfl rfl fun w s=>⟨(),?_,trivial,ak .auto s⟩
  subst h;rfl
 ·refine J 8 ?_
  refine .aS rfl rfl fun w s=>⟨(),?_,trivial,ak .auto s⟩
  subst h;rfl
theorem AU{W:World}{n:Int}:Fn Tryz.prog W 201 [.int .i64 n] [] Unit (fun _=>.bool (qN n)) (fun _=>True) (fun _=>[]):=by
 refine Fn.intro (N:=13) func201 rfl ntmps201 rfl fun F=>?_
 show ar _ _ _ _ _ _ [F]
 refine J 10 ?_
 apply aR.gA 3 8 5 [5,6,7,8] rfl
 ·intro h5
  exact JS 4
 ·intro h5
  exact JS 4
 refine J 1 ?_
 apply aR.gY 3 12 9 [9,10,11,12] rfl
 ·intro h9
  exact JS 4
 ·intro h9
  exact JS 4
 exact JR 4 ()
theorem AV{W:World}{op a b:Int}(ha:0≤a)(hb:0≤b):Fn Tryz.prog W 202 [.int .i64 op,.int .u64 a,.int .u64 b] [] Bool (fun t=>.tuple #[.int .u64 (cr op a b),.bool t]) (fun _=>True) (fun _=>[]):=by
 refine Fn.intro (N:=77) func202 rfl ntmps202 rfl fun F=>?_
 show ar _ _ _ _ _ _ [F]
 refine JD 19 (fun h9=>?_) fun h9=>?_
 ·refine J 10 ?_
  refine .eE rfl rfl rfl fun w s=>⟨true,?_,trivial,ak .auto s⟩
  rw[show cr op a b=a from by unfold cr;rw[if_pos h9]]
 ·refine JD 6 (fun h12=>?_) fun h12=>?_
  ·refine J 4 ?_
   refine .p (.LA rfl rfl) ?_
   refine J 7 ?_
   refine .eE rfl rfl rfl fun w s=>⟨true,?_,trivial,ak .auto s⟩
   rw[show cr op a b=BG (a+b) from by unfold cr;rw[if_neg h9,if_pos h12]]
   rfl
  ·refine JD 6 (fun h17=>?_) fun h17=>?_
   ·refine J 4 ?_
    refine .p (.M0 rfl rfl) ?_
    refine J 7 ?_
    refine .eE rfl rfl rfl fun w s=>⟨true,?_,trivial,ak .auto s⟩
    rw[show cr op a b=BG (a-b) from by unfold cr;rw[if_neg h9,if_neg h12,if_pos h17]]
    rfl
   ·refine JD 6 (fun h22=>?_) fun h22=>?_
    ·refine J 4 ?_
     refine .p (.LB rfl rfl) ?_
     refine J 7 ?_
     refine .eE rfl rfl rfl fun w s=>⟨true,?_,trivial,ak .auto s⟩
     rw[show cr op a b=BG (a * b) from by unfold cr;rw[if_neg h9,if_neg h12,if_neg h17,if_pos h22]]
     rfl
    ·refine JD 6 (fun h27=>?_) fun h27=>?_
     ·refine J 5 ?_
      refine .c call233 rfl xv fun _ _=>?_
      refine J 7 ?_
      refine .eE rfl rfl rfl fun w s=>⟨true,?_,trivial,ak .auto s⟩
      rw[show cr op a b=BS (decide (a<b)) from by unfold cr;rw[if_neg h9,if_neg h12,if_neg h17,if_neg h22,if_pos h27]]
     ·refine JD 6 (fun h33=>?_) fun h33=>?_
      ·refine J 4 ?_
       refine .c call234 rfl KD fun _ _=>?_
       refine J 7 ?_
       refine .eE rfl rfl rfl fun w s=>⟨true,?_,trivial,ak .auto s⟩
       rw[show cr op a b=LS a b from by unfold cr;rw[if_neg h9,if_neg h12,if_neg h17,if_neg h22,if_neg h27,if_pos h33]]
      ·refine JD 6 (fun h38=>?_) fun h38=>?_
       ·refine J 4 ?_
        refine .c call235 rfl KE fun _ _=>?_
        refine J 7 ?_
        refine .eE rfl rfl rfl fun w s=>⟨true,?_,trivial,ak .auto s⟩
        rw[show cr op a b=LU a b from by unfold cr;rw[if_neg h9,if_neg h12,if_neg h17,if_neg h22,if_neg h27,if_neg h33,if_pos h38]]
       ·refine JD 6 (fun h43=>?_) fun h43=>?_
        ·refine J 4 ?_
         refine .c call236 rfl KF fun _ _=>?_
         refine J 7 ?_
         refine .eE rfl rfl rfl fun w s=>⟨true,?_,trivial,ak .auto s⟩
         rw[show cr op a b=LV a b from by unfold cr;rw[if_neg h9,if_neg h12,if_neg h17,if_neg h22,if_neg h27,if_neg h33,if_neg h38,if_pos h43]]
        ·refine JD 6 (fun h48=>?_) fun h48=>?_
         ·refine J 4 ?_
          refine .c call237 rfl KG fun _ _=>?_
          refine J 7 ?_
          refine .eE rfl rfl rfl fun w s=>⟨true,?_,trivial,ak .auto s⟩
          rw[show cr op a b=LW a b from by unfold cr;rw[if_neg h9,if_neg h12,if_neg h17,if_neg h22,if_neg h27,if_neg h33,if_neg h38,if_neg h43,if_pos h48]]
         ·refine JD 6 (fun h53=>?_) fun h53=>?_
          ·refine J 4 ?_
           refine .c call238 rfl (KH ha hb) fun _ _=>?_
           refine J 7 ?_
           refine .eE rfl rfl rfl fun w s=>⟨true,?_,trivial,ak .auto s⟩
           rw[show cr op a b=zX a b from by unfold cr;rw[if_neg h9,if_neg h12,if_neg h17,if_neg h22,if_neg h27,if_neg h33,if_neg h38,if_neg h43,if_neg h48,if_pos h53]]
          ·refine JD 6 (fun h58=>?_) fun h58=>?_
           ·refine J 4 ?_
            refine .c call239 rfl (KI ha hb) fun _ _=>?_
            refine J 7 ?_
            refine .eE rfl rfl rfl fun w s=>⟨true,?_,trivial,ak .auto s⟩
            rw[show cr op a b=zY a b from by unfold cr;rw[if_neg h9,if_neg h12,if_neg h17,if_neg h22,if_neg h27,if_neg h33,if_neg h38,if_neg h43,if_neg h48,if_neg h53,if_pos h58]]
           ·refine JD 6 (fun h63=>?_) fun h63=>?_
            ·refine J 4 ?_
             refine .c call240 rfl IG fun _ _=>?_
             refine .c call233 rfl xv fun _ _=>?_
             refine J 7 ?_
             refine .eE rfl rfl rfl fun w s=>⟨true,?_,trivial,ak .auto s⟩
             rw[show cr op a b=BS (Oe a b) from by unfold cr;rw[if_neg h9,if_neg h12,if_neg h17,if_neg h22,if_neg h27,if_neg h33,if_neg h38,if_neg h43,if_neg h48,if_neg h53,if_neg h58,if_pos h63]]
            ·refine JD 6 (fun h69=>?_) fun h69=>?_
             ·refine J 3 ?_
              refine .c call241 rfl (Fu ha) fun _ _=>?_
              refine J 7 ?_
              refine .eE rfl rfl rfl fun w s=>⟨true,?_,trivial,ak .auto s⟩
              rw[show cr op a b=lH a from by unfold cr;rw[if_neg h9,if_neg h12,if_neg h17,if_neg h22,if_neg h27,if_neg h33,if_neg h38,if_neg h43,if_neg h48,if_neg h53,if_neg h58,if_neg h63,if_pos h69]]
             ·refine JD 6 (fun h73=>?_) fun h73=>?_
              ·refine J 3 ?_
               refine .c call242 rfl AT fun _ _=>?_
               refine J 7 ?_
               refine .eE rfl rfl rfl fun w s=>⟨true,?_,trivial,ak .auto s⟩
               rw[show cr op a b=mR a from by unfold cr;rw[if_neg h9,if_neg h12,if_neg h17,if_neg h22,if_neg h27,if_neg h33,if_neg h38,if_neg h43,if_neg h48,if_neg h53,if_neg h58,if_neg h63,if_neg h69,if_pos h73]]
              ·refine J 10 ?_
               refine .eE rfl rfl rfl fun w s=>⟨false,?_,trivial,ak .auto s⟩
               rw[show cr op a b=0 from by unfold cr;rw[if_neg h9,if_neg h12,if_neg h17,if_neg h22,if_neg h27,if_neg h33,if_neg h38,if_neg h43,if_neg h48,if_neg h53,if_neg h58,if_neg h63,if_neg h69,if_neg h73]]
theorem fS{W:World}{b:Nat}{n:Int}(hn:0≤n∧n<8):Fn Tryz.prog W 199 [ptr b,.int .i64 n] [] Unit (fun _=>.pointer (some ⟨b,2+n.toNat,none⟩)) (fun _=>True) (fun _=>[]):=by
 refine Fn.intro (N:=19) func199 rfl ntmps199 rfl fun F=>?_
 show ar _ _ _ _ _ _ [F]
 refine J 11 ?_
 apply aR.gA 3 10 7 [7,8,9,10] rfl
 ·intro h7
  exact JS 4
 ·intro h7
  exact JS 4
 refine JD 2 (fun h10=>?_) fun h10=>?_
 ·simp only[Bool.or_eq_true,decide_eq_true_eq] at h10
  exact absurd h10 (by omega)
 ·simp only[Bool.or_eq_false_iff,decide_eq_false_iff_not] at h10
  refine J 9 ?_
  refine .p (.dK n.toNat underlying131 sizeOf92 rfl rfl (by omega) (by omega)) ?_
  refine J 4 ?_
  refine .aS rfl rfl fun w s=>⟨(),?_,trivial,ak .auto s⟩
  rw[Nat.mul_one]
theorem oW{W:World}{b:Nat}{f:iZ}{v:Value}{m:List Int}{at_:Int}(h0:0≤at_)(hl:m.length≤1000000):EH Tryz.prog W 200 [ptr b,.int .u64 at_] [arr b 0 (wy f v),sl eS 1 v m] Unit (fun _=>if at_<m.length then .returned (.pointer (some ⟨blk v,ek v+at_.toNat * 1,none⟩)) else .panicked (wz 268 6)) (fun _=>True) (fun _=>[arr b 0 (wy f v),sl eS 1 v m]):=by
 refine EH.intro (N:=21) func200 rfl ntmps200 rfl fun F=>?_
 show ar _ _ _ _ _ _ [arr b 0 (wy f v),sl eS 1 v m,F]
 refine J 14 ?_
 refine .p (.tq underlying3 underlying92 rfl (by omega)) ?_
 refine JD 3 (fun h12=>?_) fun h12=>?_
 ·refine J 1 ?_
  refine .p (.gX (fun v1=>[v1]) rfl (by kernel_rfl)) ?_
  refine .p (.JQ underlying268 rfl rfl) ?_
  refine .panic rfl ?_
  refine fun a w ha s=>And.intro ha.defers (Exists.intro () (And.intro ?_ (And.intro trivial (ak .auto s))))
  rw[if_neg (by omega)];rfl
 ·refine J 9 ?_
  refine .p (.ix at_.toNat rfl rfl (by omega) (by omega)) ?_
  refine J 4 ?_
  refine .aS rfl rfl fun w s=>⟨(),?_,trivial,ak .auto s⟩
  rw[if_pos (by omega)]
end Go.SLYtpbjdoplfgeliaaGreat
namespace Go.SLYtpbjdoplfgeliaaGreat
open Go Go.RowKit Go.Proofs Go.Proofs.Tryz
theorem IH{W:World}{b:Nat}{f:iZ}{v:Value}{m:List Int}{i:Ins}(hI:oa i)(hF:Dp f)(hl:m.length≤1000000):EH Tryz.prog W 161 [ptr b,.agg (dM i).toArray] [arr b 0 (wy f v),sl eS 1 v m] Unit (fun _=>doEnd 268 (mB f m i)) (fun _=>True) (fun _=>Oj b v (mB f m i)):=by
 refine EH.intro (N:=127) func161 rfl ntmps161 rfl fun F=>?_
 show ar _ _ _ _ _ _ [arr b 0 (wy f v),sl eS 1 v m,F]
 have hia:=hI.a
 have hib:=hI.b
 have hic:=hI.c
 have hin:=hI.n
 have hpc:=hF.pc
 refine J 2 ?_
 refine .aj rfl (af.box rfl rfl rfl) ?_
 rintro _ _ ⟨b3,rfl,rfl⟩
 refine .mem (H':=[arr b3 0 (dM i),arr b 0 (wy f v),sl eS 1 v m,F]) (fun w s=>s) ?_
 refine J 9 ?_
 refine .p (.add rfl rfl (by omega)) ?_
 refine J 3 ?_
 refine .Bx (X:=List Int×Int×List Int) [4,5,6,7,8,9,10,11,18,19,20,21,22,23,24,25,26,27,28,29,30,31,32,33,34,35,36,37,38,39,40,41,42,43,44,45,46,47,48,49,50,51,52,53,54,55,56,57,58,59,60,61,62,63,64,65,66,67,68,69,70,71,72,73,74,75,76,77,78,79,80,81,82,83,84,85,86,87,88,89,90,91,92,93,94,95,96,97,98,99,100,101,102,103,104,105,106,107,108,109,110,111,112,113,114,115,116,117,118,119,120,121] (fun z=>mB f m i=some (⟨f.fn,z.2.1,z.1⟩,z.2.2)) (fun z=>[(4,some (.int .i64 z.2.1))]) (fun z=>[arr b 0 (wy ⟨f.fn,f.pc,z.1⟩ v),sl eS 1 v z.2.2,F]) ?_ ?_
 ·refine JD 9 (fun h48=>?_) fun h48=>?_
  ·refine J 3 ?_
   refine .p (.jZ underlying92 underlying3 rfl (by have:=hI.j (.inl h48);omega)) ?_
   refine J 3 ?_
   refine .kF (f.aE,i.n,m) .auto ?_ ?_ ?_
   ·unfold mB;rw[if_pos h48]
   ·exact⟨rfl,trivial⟩
   ·exact fun w s=>aw.kept .auto w s
  ·refine JD 8 (fun h55=>?_) fun h55=>?_
   ·refine J 5 ?_
    refine .c call199 rfl (fS hI.a) fun _ _=>?_
    refine J 1 ?_
    refine .p (.ld rfl (Cell.a (mU (by omega)))) ?_
    refine JD 3 (fun h65=>?_) fun h65=>?_
    ·refine J 3 ?_
     refine .p (.jZ underlying92 underlying3 rfl (by have:=hI.j (.inr h55);omega)) ?_
     refine J 3 ?_
     refine .kF (f.aE,i.n,m) .auto ?_ ?_ ?_
     ·unfold mB;rw[if_neg h48,if_pos h55,if_pos (show f.tR i.a=0 from h65)]
     ·exact⟨rfl,trivial⟩
     ·exact fun w s=>aw.kept .auto w s
    ·refine J 2 ?_
     refine .kF (f.aE,f.pc+1,m) .auto ?_ ?_ ?_
     ·unfold mB;rw[if_neg h48,if_pos h55,if_neg (show ¬f.tR i.a=0 from h65)]
     ·exact⟨rfl,trivial⟩
     ·exact fun w s=>aw.kept .auto w s
   ·refine JD 8 (fun h69=>?_) fun h69=>?_
    ·refine .draw [arr b3 0 (dM i)] [1,1,1,2,0,0,1,3] rfl (by kernel_rfl) ?_
     refine J 3 ?_
     refine .c2 call199 rfl (fS hI.a) fun _ _=>?_
     refine J 3 ?_
     refine .d3 rfl (af.st sizeOf92 rfl rfl rfl (Nat.blt_eq.mpr (by show 2+i.a.toNat<11;omega))) ?_
     rintro _ _ ⟨rfl,rfl⟩
     rw[BU _ (show i.a.toNat<8 by omega) hF.l]
     refine J 2 ?_
     refine .kF (f.aE.set i.a.toNat i.n,f.pc+1,m) .auto ?_ ?_ ?_
     ·unfold mB;rw[if_neg h48,if_neg h55,if_pos h69];rfl
     ·exact⟨rfl,trivial⟩
     ·exact fun w s=>aw.kept .auto w s
    ·refine JD 8 (fun h80=>?_) fun h80=>?_
     ·refine J 1 ?_
      refine .draw [arr b3 0 (dM i)] [1,1,1,2,0,0,0,3,1,1] rfl (by kernel_rfl) ?_
      refine J 3 ?_
      refine .c2 call199 rfl (fS hI.a) fun _ _=>?_
      refine J 3 ?_
      refine .c call199 rfl (fS hI.b) fun _ _=>?_
      refine J 9 ?_
      refine .p (.ld rfl (Cell.a (mU (by omega)))) ?_
      refine .Nd rfl call200 rfl (oW (f:=f) (m:=m) (at_:=f.aE.getD i.b.toNat 0) (hF.r _).1 hl) .auto (fun _ h=>by split at h <;> cases h) ?_ ?_
      ·rintro⟨⟩ u e -
       have hlt:f.aE.getD i.b.toNat 0<m.length:=Decidable.byContradiction fun hn=>by
        rw[if_neg hn] at e
        cases e
       rw[if_pos hlt] at e
       cases e
       have h0:=(hF.r i.b.toNat).1
       refine J 1 ?_
       refine .p (.ld rfl (Cell.Lb Rd.s (getD_some (d:=(0:Int)) (show(f.aE.getD i.b.toNat 0).toNat<m.length by omega)) (by rfl))) ?_
       refine J 1 ?_
       refine .aj rfl (af.st sizeOf92 rfl rfl rfl (Nat.blt_eq.mpr (by show 2+i.a.toNat<11;omega))) ?_
       rintro _ _ ⟨rfl,rfl⟩
       rw[BU _ (show i.a.toNat<8 by omega) hF.l]
       refine J 2 ?_
       refine .kF (f.aE.set i.a.toNat (m.getD (f.aE.getD i.b.toNat 0).toNat 0),f.pc+1,m) .auto ?_ ?_ ?_
       ·unfold mB;rw[if_neg h48,if_neg h55,if_neg h69,if_pos h80,if_pos (show f.tR i.b<m.length from hlt)];rfl
       ·exact⟨rfl,trivial⟩
       ·exact fun w s=>aw.kept .auto w s
      ·rintro⟨⟩ c e -
       have hge:¬f.aE.getD i.b.toNat 0<m.length:=fun h=>by
        rw[if_pos h] at e
        cases e
       rw[if_neg hge] at e
       cases e
       have hz:mB f m i=none:=by
        unfold mB;rw[if_neg h48,if_neg h55,if_neg h69,if_pos h80,if_neg (show ¬f.tR i.b<m.length from hge)]
       rw[hz]
       refine fun a w ha s=>And.intro ha.defers (Exists.intro () (And.intro ?_ (And.intro trivial (ak .auto s))))
       rfl
     ·refine JD 8 (fun h101=>?_) fun h101=>?_
      ·refine J 1 ?_
       refine .draw [arr b3 0 (dM i)] [1,1,1,2,0,0,0,3,1,1] rfl (by kernel_rfl) ?_
       refine J 3 ?_
       refine .c2 call199 rfl (fS hI.a) fun _ _=>?_
       refine J 3 ?_
       refine .c call199 rfl (fS hI.b) fun _ _=>?_
       refine J 4 ?_
       rcases Nat.lt_or_ge (f.aE.getD i.a.toNat 0).toNat m.length with hlt | hge
       ·have h0:=(hF.r i.a.toNat).1
        refine .draw [arr b 0 (wy f v)] [1,1,1,1,2,0,0,0,1,3] rfl (by kernel_rfl) ?_
        refine J 3 ?_
        refine .p (.ld rfl (Cell.a (mU (by omega)))) ?_
        refine .c2 call200 rfl (EH.ok (fun _=>.pointer (some ⟨blk v,ek v+(f.aE.getD i.a.toNat 0).toNat * 1,none⟩)) (oW (f:=f) (m:=m) (at_:=f.aE.getD i.a.toNat 0) (hF.r _).1 hl) (fun _=>if_pos (by omega))) fun _ _=>?_
        refine J 2 ?_
        refine .q (.ld rfl (Cell.a (mU (by omega)))) ?_
        refine J 1 ?_
        refine .d3 rfl (af.er (x':=f.aE.getD i.b.toNat 0) rfl rfl sizeOf92 rfl (getD_some (d:=(0:Int)) hlt) (by decide) rfl .auto) ?_
        rintro _ _ ⟨rfl,rfl⟩
        refine J 2 ?_
        refine .kF (f.aE,f.pc+1,m.set (f.aE.getD i.a.toNat 0).toNat (f.aE.getD i.b.toNat 0)) .auto ?_ ?_ ?_
        ·unfold mB;rw[if_neg h48,if_neg h55,if_neg h69,if_neg h80,if_pos h101,if_pos (show f.tR i.a<m.length by show f.aE.getD i.a.toNat 0<_;omega)];rfl
        ·exact⟨rfl,trivial⟩
        ·exact fun w s=>aw.kept .auto w s
       ·have h0:=(hF.r i.a.toNat).1
        refine .held [arr b 0 (wy f v)] rfl ?_
        refine Dn.take 0 rfl (by kernel_rfl) (by kernel_rfl) (by kernel_rfl) (fun _ _ _ _ _ h=>h) rfl Kept.auto (Y.m rfl) ?_
        refine Dn.take 1 rfl (by kernel_rfl) (by kernel_rfl) (by kernel_rfl) (fun _ _ _ _ _ h=>h) rfl Kept.auto (Y.m rfl) ?_
        refine Dn.take 2 rfl (by kernel_rfl) (by kernel_rfl) (by kernel_rfl) (fun _ _ _ _ _ h=>h) rfl Kept.auto (Y.n rfl) ?_
        refine Dn.take 3 rfl (by kernel_rfl) (by kernel_rfl) (by kernel_rfl) (fun _ _ _ _ _ h=>h) rfl Kept.auto (Y.load isAgg92 rfl (Cell.a (mU (by omega)))) ?_
        refine Dn.take 5 rfl (by kernel_rfl) (by kernel_rfl) (by kernel_rfl) (fun _ _ _ _ _ h=>h) rfl Kept.auto (Y.m rfl) ?_
        refine Dn.take 6 rfl (by kernel_rfl) (by kernel_rfl) (by kernel_rfl) (fun _ _ _ _ _ h=>h) rfl Kept.auto (Y.n rfl) ?_
        refine Dn.take 7 rfl (by kernel_rfl) (by kernel_rfl) (by kernel_rfl) (fun _ _ _ _ _ h=>h) rfl Kept.auto (Y.load isAgg92 rfl (Cell.a (mU (by omega)))) ?_
        refine Dn.Nh 4 rfl (by kernel_rfl) call200 rfl (oW (f:=f) (m:=m) (at_:=f.aE.getD i.a.toNat 0) (hF.r _).1 hl) .auto ?_ ?_
        ·exact fun _=>⟨_,if_neg (by omega)⟩
        rintro⟨⟩ c e -
        rw[if_neg (by omega)] at e
        cases e
        have hz:mB f m i=none:=by
         unfold mB;rw[if_neg h48,if_neg h55,if_neg h69,if_neg h80,if_pos h101,if_neg (show ¬f.tR i.a<m.length by show ¬f.aE.getD i.a.toNat 0<_;omega)]
        rw[hz]
        refine fun a w ha s=>And.intro ha.defers (Exists.intro () (And.intro ?_ (And.intro trivial (ak .auto s))))
        rfl
      ·refine J 1 ?_
       refine .draw [arr b3 0 (dM i),arr b 0 (wy f v)] [1,1,1,2,0,0,0,3,1,1,1,1,1] rfl (by kernel_rfl) ?_
       refine J 3 ?_
       refine .c2 call199 rfl (fS hI.a) fun _ _=>?_
       refine J 3 ?_
       refine .c call199 rfl (fS hI.b) fun _ _=>?_
       refine J 1 ?_
       refine .p (.ld rfl (Cell.a (mU (by omega)))) ?_
       refine J 5 ?_
       refine .Bx (X:=Unit) [11,28,29,30,31,32,33,34,35,36,37] (fun _=>True) (fun _=>[(11,some (.int .u64 (if qN i.op=true then 0 else f.tR i.c)))]) (fun _=>[arr b3 0 (dM i),arr b 0 (wy f v),sl eS 1 v m,F]) ?_ ?_
       ·refine J 4 ?_
        refine .c call201 rfl AU fun _ _=>?_
        refine JD 3 (fun h31=>?_) fun h31=>?_
        ·refine J 4 ?_
         refine .c call199 rfl (fS hI.c) fun _ _=>?_
         refine J 1 ?_
         refine .p (.ld rfl (Cell.a (mU (by omega)))) ?_
         refine J 2 ?_
         refine .kF () .auto ?_ ?_ ?_
         ·trivial
         ·rw[if_neg (show ¬qN i.op=true by rw[Bool.not_eq_true'] at h31;rw[h31];simp)];exact⟨rfl,trivial⟩
         ·exact fun w s=>aw.kept .auto w s
        ·refine J 1 ?_
         refine .kF () .auto ?_ ?_ ?_
         ·trivial
         ·rw[if_pos (show qN i.op=true by simpa using h31)];exact⟨rfl,trivial⟩
         ·exact fun w s=>aw.kept .auto w s
       ·rintro⟨⟩ -
        obtain⟨y,hy⟩:∃ y,y=(if qN i.op=true then 0 else f.tR i.c):=⟨_,rfl⟩
        have hy0:0≤y:=by
         subst hy
         split
         ·exact Int.le_refl _
         ·exact(hF.r _).1
        rw[← hy]
        refine J 6 ?_
        refine .c call202 rfl (AV (hF.r _).1 hy0) fun t38 _=>?_
        refine J 1 ?_
        refine .p (.extract (v:=.int .u64 (cr i.op (f.aE.getD i.b.toNat 0) y)) rfl rfl) ?_
        refine J 2 ?_
        refine .aj rfl (af.st sizeOf92 rfl rfl rfl (Nat.blt_eq.mpr (by show 2+i.a.toNat<11;omega))) ?_
        rintro _ _ ⟨rfl,rfl⟩
        rw[BU _ (show i.a.toNat<8 by omega) hF.l]
        refine J 2 ?_
        refine .kF (f.aE.set i.a.toNat (cr i.op (f.aE.getD i.b.toNat 0) y),f.pc+1,m) .auto ?_ ?_ ?_
        ·unfold mB;rw[if_neg h48,if_neg h55,if_neg h69,if_neg h80,if_neg h101];subst hy;rfl
        ·exact⟨rfl,trivial⟩
        ·exact fun w s=>aw.kept .auto w s
 ·rintro⟨rs,nx,m2⟩ hz
  simp only at hz
  refine J 8 ?_
  rw[hz]
  exact JR 0 ()
theorem Fv{W:World}{p6 p7 p8:Nat}{Hs:List aa}{w:World}(hs:Sat W w (seps Hs)):CallsD Tryz.prog 160 #[ptr p6,ptr p7,ptr p8] .returning w (fun e u2 w2=>u2 = .returning∧e = .returned (.tuple #[])∧Sat W w2 (seps Hs)):=by
 refine mV (d:=6) (N:=15) (v:=.nilIface) (u2:=.returning) (args:=[ptr p6,ptr p7,ptr p8]) func160 rfl ntmps160 rfl rfl rfl (fun c cs hc=>.inr ⟨by simp[recoverD,hc],rfl,rfl⟩) hs ?_
 refine J 3 ?_
 refine .p (.Nk underlying20 rfl) ?_
 refine J 2 ?_
 refine .gu rfl ?_
 refine J 4 ?_
 refine .Nn fun w s=>⟨rfl,rfl,?_⟩
 first | exact s | exact aw.kept .auto _ s
theorem Fw{W:World}{p6 p7 p8:Nat}{F:aa}{w:World}(hs:Sat W w (seps [arr p6 0 (iW iZ.z),arr p7 0 [.slice none 0 0],arr p8 0 [.int .i64 0],F])):CallsD Tryz.prog 160 #[ptr p6,ptr p7,ptr p8] (.panicking (wz 268 6)) w (fun e u2 w2=>u2 = .panicking [{v:=.iface 268 (.agg #[.int .i64 6]),recovered:=true }]∧e = .returned (.tuple #[])∧Sat W w2 (seps [arr p6 0 (iW iZ.z),arr p7 0 [.slice none 0 0],arr p8 0 [.int .i64 6],F])):=by
 refine mV (d:=6) (N:=15) (v:=.iface 268 (.agg #[.int .i64 6])) (u2:=.panicking [{v:=.iface 268 (.agg #[.int .i64 6]),recovered:=true }]) (args:=[ptr p6,ptr p7,ptr p8]) func160 rfl ntmps160 rfl rfl rfl (fun c cs hc=>.inl (by simp[recoverD,hc,wz])) hs ?_
 refine J 3 ?_
 refine .p (.Nl underlying20 rfl) ?_
 refine J 2 ?_
 refine .ep rfl ?_
 refine J 2 ?_
 refine .p (.J0 (r:=.tuple #[.agg #[.int .i64 6],.bool true]) rfl (fun w=>by simp[Instr.typeAssert,run_underlying underlying268])) ?_
 refine .p (.extract (v:=.bool true) rfl rfl) ?_
 refine .p (.extract (v:=.agg #[.int .i64 6]) rfl rfl) ?_
 refine J 2 ?_
 refine .gu rfl ?_
 refine J 2 ?_
 refine .aj rfl (af.alloc rfl zeroValue268 rfl) ?_
 rintro _ _ ⟨b4,rfl,rfl⟩
 refine J 3 ?_
 refine .draw [arr b4 0 [.int .i64 6]] [1,0,0,2,2,3] rfl (by kernel_rfl) ?_
 refine .p (.mq ([(.int .i64 0),(.int .i64 0),(.int .u64 0),(.int .u64 0),(.int .u64 0),(.int .u64 0),(.int .u64 0),(.int .u64 0),(.int .u64 0),(.int .u64 0)]) (by kernel_rfl)) ?_
 refine J 2 ?_
 refine .d2 rfl Kept.auto (af.iy (by exact sizeOf133) rfl rfl rfl (by rfl)) (by rintro _ _ ⟨rfl,rfl⟩;exact Kept.auto) ?_
 rintro _ _ ⟨rfl,rfl⟩
 refine J 4 ?_
 refine .Nn fun w s=>⟨rfl,rfl,?_⟩
 first | exact s | exact aw.kept .auto _ s
theorem CE{W:World}{p6 p7 p8:Nat}{R:List aa}{w:World}(hs:Sat W w (seps ([arr p6 0 (iW iZ.z),arr p7 0 [.slice none 0 0],arr p8 0 [.int .i64 0]]++R))):CallsD Tryz.prog 160 #[ptr p6,ptr p7,ptr p8] (.panicking (wz 268 6)) w (fun e u2 w2=>u2 = .panicking [{v:=.iface 268 (.agg #[.int .i64 6]),recovered:=true }]∧e = .returned (.tuple #[])∧Sat W w2 (seps ([arr p6 0 (iW iZ.z),arr p7 0 [.slice none 0 0],arr p8 0 [.int .i64 6]]++R))) :=
 (Fw (F:=seps R) (hs.eq (by rw[ah];simp only[seps,aK,aU]))).mono fun _ _ _ ⟨a,b,c⟩=>⟨a,b,c.eq (by rw[ah];simp only[seps,aK,aU])⟩
theorem AW{W:World}{A:aa}{f:iZ}{i:Ins}{v:Value}{m:List Int}(hr:Rd W [A] eS 1 v m)(hl:m.length≤1000000)(hI:oa i)(hF:Dp f)(hc:cls i.op=1):Fn Tryz.prog W 115 [.agg (iW f).toArray,.agg (dM i).toArray,v] [A] Value (fun u=>.tuple #[.agg (iW (fX f m i).1).toArray,u,.int .i64 (fX f m i).2.2]) (fun _=>True) (fun u=>[sl eS 1 u (fX f m i).2.1,A]):=by
 refine Fn.L8 (N:=39) func115 rfl ntmps115 rfl fun F=>?_
 haveI hRI:∀ (H:List aa) [bE H A],aC W H v eS 1 m:=fun H h=>⟨hr.at h.has⟩
 show ar _ _ _ _ _ _ [A,F]
 refine J 2 ?_
 refine .aj rfl (af.box rfl rfl rfl) ?_
 rintro _ _ ⟨b3,rfl,rfl⟩
 refine .mem (H':=[arr b3 0 (iW f),A,F]) (fun w s=>s) ?_
 refine .aj rfl (af.box rfl rfl rfl) ?_
 rintro _ _ ⟨b4,rfl,rfl⟩
 refine .mem (H':=[arr b4 0 (dM i),arr b3 0 (iW f),A,F]) (fun w s=>s) ?_
 refine .aj rfl (af.alloc rfl zeroValue133 rfl) ?_
 rintro _ _ ⟨b6,rfl,rfl⟩
 refine .aj rfl (af.alloc rfl zeroValue64 rfl) ?_
 rintro _ _ ⟨b7,rfl,rfl⟩
 refine .aj rfl (af.alloc rfl zeroValue25 rfl) ?_
 rintro _ _ ⟨b8,rfl,rfl⟩
 refine J 7 ?_
 refine .c call76 rfl l5 fun _ _=>?_
 refine JD 3 (fun h13=>?_) fun h13=>?_
 ·exact absurd hc h13
 ·refine J 4 ?_
  refine .p (.makeFunc rfl rfl) ?_
  refine .LX rfl ?_
  refine fO.nil ?_
  refine tV.iK ?_
  refine lI.seq ?_
  refine lI.draw [arr b3 0 (iW f),A] [0,1,1,2,1,3,1] rfl (by kernel_rfl) ?_
  refine fA.k rfl Kept.auto (Y.Ge isAgg133 rfl Cells.a (by exact sizeOf133)) ?_
  refine fA.s rfl (Y.m rfl) ?_
  refine fA.s rfl (Y.Da underlying64 rfl Rd.s) ?_
  refine fA.d2 rfl Kept.auto (af.Ek (enc:=eS) (k:=1) 0 m.length rfl underlying64 typeInfo92 rfl rfl rfl rfl (by decide) (by decide) rfl rfl rfl rfl (by omega)) (by rintro _ _ ⟨b19,rfl,rfl⟩;exact Kept.auto) ?_
  rintro _ _ ⟨b19,rfl,rfl⟩
  refine fA.s rfl (Y.fY (fun _ v2=>wy f v2) rfl rfl (by kernel_rfl)) ?_
  refine fA.d3 rfl (af.box rfl rfl rfl) ?_
  rintro _ _ ⟨b21,rfl,rfl⟩
  refine fA.s rfl (Y.a rfl) ?_
  refine fA.nil ?_
  refine tV.iK ?_
  refine lI.seq ?_
  refine lI.region ?_
  refine fO.y rfl (Y.m rfl) ?_
  refine fO.y rfl (Y.n rfl) ?_
  refine fO.y rfl (Y.eA 10 64 underlying271 rfl sizeOf64 rfl) ?_
  refine fO.y rfl (Y.load isAgg64 rfl (Cell.a (by rfl))) ?_
  refine fO.y rfl (Y.m rfl) ?_
  refine fO.aj rfl (af.J1 rfl underlying64 sizeOf92 rfl rfl Rd.s .auto (by simp) rfl (zJ _)) ?_
  rintro _ _ ⟨rfl,rfl⟩
  refine fO.nil ?_
  refine tV.iK ?_
  refine lI.seq ?_
  refine lI.region ?_
  refine fO.y rfl (Y.m rfl) ?_
  refine fO.y rfl (Y.Ge isAgg94 rfl Cells.a (by exact sizeOf94)) ?_
  refine fO.LY (fun d h=>by cases h;rfl) call161 rfl (IH (f:=f) (v:=.slice (some ⟨b19,0,none⟩) m.length m.length) (m:=m) (i:=i) hI hF hl) .auto (fun _ h=>by unfold doEnd at h;split at h <;> cases h) ?_ ?_
  ·rintro⟨⟩ u e -
   obtain⟨z,hz⟩:∃ z,mB f m i=some z:=by
    cases h:mB f m i with
    | none=>rw[h] at e;cases e
    | some z=>exact⟨z,rfl⟩
   rw[hz] at e
   cases e
   rw[show Oj b21 (.slice (some ⟨b19,0,none⟩) m.length m.length) (mB f m i)=[arr b21 0 (wy z.1 (.slice (some ⟨b19,0,none⟩) m.length m.length)),sl eS 1 (.slice (some ⟨b19,0,none⟩) m.length m.length) z.2] from by rw[hz];rfl]
   refine fO.nil ?_
   refine tV.iK ?_
   refine lI.seq ?_
   refine lI.draw [arr b21 0 (wy z.1 (.slice (some ⟨b19,0,none⟩) m.length m.length))] [1,1,1,1,0,0,0,0,2,3,3] rfl (by kernel_rfl) ?_
   refine fA.s rfl (Y.m rfl) ?_
   refine fA.s rfl (Y.n rfl) ?_
   refine fA.s rfl (Y.gm 133 underlying271 rfl sizeOf133 rfl) ?_
   refine fA.s rfl (Y.Ge isAgg133 rfl (Cells.mg (ds:=iW z.1) Cells.a rfl) (by exact sizeOf133)) ?_
   refine fA.k rfl Kept.auto (Y.m rfl) ?_
   refine fA.k rfl Kept.auto (Y.n rfl) ?_
   refine fA.k rfl Kept.auto (Y.eA 10 64 underlying271 rfl sizeOf64 rfl) ?_
   refine fA.k rfl Kept.auto (Y.load isAgg64 rfl (Cell.a (by rfl))) ?_
   refine fA.d2 rfl Kept.auto (af.iy (by exact sizeOf133) rfl rfl rfl (by rfl)) (by rintro _ _ ⟨rfl,rfl⟩;exact Kept.auto) ?_
   rintro _ _ ⟨rfl,rfl⟩
   refine fA.d3 rfl (af.mC sizeOf64 rfl rfl rfl) ?_
   rintro _ _ ⟨rfl,rfl⟩
   refine fA.d3 rfl (af.st sizeOf25 rfl rfl rfl rfl) ?_
   rintro _ _ ⟨rfl,rfl⟩
   refine fA.nil ?_
   refine tV.iK ?_
   refine lI.ret ?_
   refine fun a w ha s=>?_
   show Leaves Tryz.prog Tryz.f115 a.tmps _ a.defers .returning w
   rw[ha.defers]
   refine leaves_cons (by intro h;cases h) (by simp[invoke,call160]) ((Fv (p6:=b6) (p7:=b7) (p8:=b8) s).mono ?_)
   rintro e2 u2 w2 ⟨rfl,rfl,s2⟩
   exact⟨_,(wA ha s2 rfl rfl rfl rfl isAgg133 (by exact sizeOf133) isAgg64 isAgg25 Cells.a (Cell.a rfl) (Cell.a rfl)),.slice (some ⟨b19,0,none⟩) m.length m.length,by rw[fX,hz],trivial,by rw[fX,hz];exact ak .auto s2⟩
  ·rintro⟨⟩ c e -
   have hz:mB f m i=none:=by
    cases h:mB f m i with
    | none=>rfl
    | some z=>rw[h] at e;cases e
   rw[hz] at e
   cases e
   rw[show Oj b21 (.slice (some ⟨b19,0,none⟩) m.length m.length) (mB f m i)=[] from by rw[hz];rfl]
   refine fun a w ha s=>?_
   show Leaves Tryz.prog Tryz.f115 a.tmps _ a.defers (.panicking (wz 268 6)) w
   rw[ha.defers]
   have s1:=aw.sat (As:=[arr b6 0 (iW iZ.z),arr b7 0 [.slice none 0 0],arr b8 0 [.int .i64 0]]) .auto s
   refine leaves_cons (by intro h;cases h) (by simp[invoke,call160]) ((CE (p6:=b6) (p7:=b7) (p8:=b8) s1).mono ?_)
   rintro e2 u2 w2 ⟨rfl,rfl,s2⟩
   exact⟨_,(wA ha s2 rfl rfl rfl rfl isAgg133 (by exact sizeOf133) isAgg64 isAgg25 Cells.a (Cell.a rfl) (Cell.a rfl)),.slice none 0 0,by rw[fX,hz],trivial,by rw[fX,hz];exact ak .auto s2⟩
end Go.SLYtpbjdoplfgeliaaGreat
namespace Go.SLYtpbjdoplfgeliaaGreat
open Go Go.RowKit Go.Proofs Go.Proofs.Tryz
attribute [local irreducible] ar aR bm bA bH Y
theorem kY{W:World}{bd b p q:Nat}{ps:List (Option Nat)}{d:Dng}{t:bI}{n:Int}(h0:0≤n)(hp:ps[n.toNat]?=some (some q))(ht:d.s.aF[n.toNat]?=some (some t))(hn16:n.toNat<16)(hR:gZ t)(he:d.ends.length≤1000000)(hw:d.out.av.length≤1000000){y:Int}:Fn Tryz.prog W 114 [ptr bd,.int .i64 n,.int .u64 y] [bu bd b p ps d] Unit (fun _=>.tuple #[]) (fun _=>True) (fun _=>[bu bd b p ps (d.cq n.toNat y)]):=by
 have:=ID (W:=W) (bd:=bd) (b:=b) (p:=p) hp ht hn16 hR he hw (y:=y)
 rwa [show((n.toNat:Nat):Int)=n from by omega] at this
theorem sY{W:World}{bd b p:Nat}{ps:List (Option Nat)}{d:Dng}{t:bI}(hp:ps[d.n]?=some (some p))(ht:d.s.aF[d.n]?=some (some t)){v:Int}(hl:d.s.aF.length=16)(hpl:ps.length=16)(hT:jB d.s.table)(hR:gZ t)(he:d.ends.length≤1000000)(hw:d.out.av.length≤1000000)(hj:¬t.ay = -1→0≤t.ay∧t.ay.toNat≠d.n∧bQ ps d.s t.ay.toNat):Fn Tryz.prog W 75 [ptr bd,.int .u64 v] [bu bd b p ps d] (List (Option Nat)) (fun _=>.tuple #[]) (fun _=>True) (fun qs=>[bu bd b p qs (d.fin v)]):=by
 refine Fn.intro (N:=66) func75 rfl ntmps75 rfl fun F=>?_
 show ar _ _ _ _ _ _ [bu bd b p ps d,F]
 refine .o2 (C:=bu bd b p ps d) .auto rfl ?_
 rintro vw ve -
 refine .jw (C:=cE b ps d.s) .auto rfl ?_
 rintro fv sv pv bt vm bg vt bk bw vr -
 refine .fr .auto (bP hp ht) ?_
 refine J 7 ?_
 rw[EP]
 refine JD 15 (fun h21=>?_) fun h21=>?_
 ·refine .to (A:=aB ps d.s.aF) (Bs:=[arr p 0 (bn t),aB (ps.set d.n none) (d.s.aF.set d.n none)]) .auto (bM hp ht) ?_
  refine .draw [arr bd 0 (ei b p (d.ended) vw ve)] [1,1,1,1,1,1,1,1,3] rfl (by kernel_rfl) ?_
  refine J 8 ?_
  refine .c call113 rfl (nS hp ht hl hpl hT hR.h.1) fun _ _=>?_
  refine J 2 ?_
  rw[Dw ht h21]
  refine .xR rfl fun w s=>⟨ps.set d.n none,?_,trivial,ak .auto s⟩
  rfl
 ·refine JD 13 (fun h38=>?_) fun h38=>?_
  ·refine J 11 ?_
   obtain⟨hj0,hjn,hj16,q,tj,hq,htj,hRj⟩:=hj h38
   refine .to (A:=aB ps d.s.aF) (Bs:=[arr p 0 (bn t),aB (ps.set d.n none) (d.s.aF.set d.n none)]) .auto (bM hp ht) ?_
   refine .c call114 rfl (kY (d:=d.ended) hj0 hq htj hj16 hRj he hw) fun _ _=>?_
   refine .o2 (C:=bu bd b p ps (d.ended.cq t.ay.toNat v)) .auto rfl ?_
   rintro vw ve -
   have ht2:(d.ended.cq t.ay.toNat v).s.aF[d.n]?=some (some t):=Hb ht hjn
   refine J 2 ?_
   refine .draw [arr bd 0 (ei b p (d.ended.cq t.ay.toNat v) vw ve)] [1,1,1,1,1,1,1,1,3] rfl (by kernel_rfl) ?_
   refine J 8 ?_
   refine .c call113 rfl (nS (s:=(d.ended.cq t.ay.toNat v).s) hp ht2 (by simp[Dng.cq,Spc.dN,Spc.aX,Dng.ended,hl]) hpl hT hR.h.1) fun _ _=>?_
   refine J 2 ?_
   rw[Af ht h21 h38]
   refine .xR rfl fun w s=>⟨ps.set d.n none,?_,trivial,ak .auto s⟩
   rfl
  ·have h38:t.ay = -1:=Decidable.byContradiction h38
   refine .draw [arr bd 0 (ei b p (d.ended) vw ve)] [1,1,1,1,1,1,1,1,0,1,1,2,1,1,3] rfl (by kernel_rfl) ?_
   refine J 12 ?_
   rw[pL]
   refine J 3 ?_
   rw[EO]
   refine J 2 ?_
   rw[Ae ht h21 h38]
   refine .to (A:=aB ps (d.s.aF.set d.n (some ({t with cS:=9,value:=v })))) (Bs:=[arr p 0 (bn ({t with cS:=9,value:=v })),aB (ps.set d.n none) (d.s.aF.set d.n none)]) .auto (cz (List.getElem?_eq_some_iff.1 ht).1 hp) ?_
   exact JR 0 ps
theorem rq{W:World}{bd b p:Nat}{ps:List (Option Nat)}{d:Dng}{n:Int}{ok:Bool}(hg:ok=true→0≤n∧bQ ps d.s n.toNat)(he:d.ends.length≤1000000)(hw:d.out.av.length≤1000000):Fn Tryz.prog W 167 [ptr bd,.int .i64 n,.bool ok] [bu bd b p ps d] Unit (fun _=>.tuple #[]) (fun _=>True) (fun _=>[bu bd b p ps (d.given n ok)]):=by
 refine Fn.intro (N:=10) func167 rfl ntmps167 rfl fun F=>?_
 show ar _ _ _ _ _ _ [bu bd b p ps d,F]
 refine JD 5 (fun h6=>?_) fun h6=>?_
 ·refine J 1 ?_
  obtain⟨h0,hn16,q,t,hq,ht,hR⟩:=hg h6
  refine J 2 ?_
  refine .c call114 rfl (kY h0 hq ht hn16 hR he hw) fun _ _=>?_
  refine J 1 ?_
  rw[show d.given n ok=d.cq n.toNat 0 from by unfold Dng.given;rw[if_pos h6]]
  exact JR 0 ()
 ·refine J 1 ?_
  rw[show d.given n ok=d from by unfold Dng.given;rw[if_neg (by rw[h6];simp)]]
  exact JR 0 ()
theorem Fx{W:World}{bd b p:Nat}{ps:List (Option Nat)}{d:Dng}{t:bI}(hp:ps[d.n]?=some (some p))(ht:d.s.aF[d.n]?=some (some t))(hI:oa d.i)(hF:Dp t.nE)(hc:cls d.i.op=1)(hm:d.s.mem.length≤1000000)(hr:d.s.aA.length≤1000000000)(hl:d.s.aF.length=16)(hpl:ps.length=16)(hT:jB d.s.table)(hR:gZ t)(he:d.ends.length≤1000000)(hw:d.out.av.length≤1000000)(hj:¬t.ay = -1→0≤t.ay∧t.ay.toNat≠d.n∧bQ ps d.s t.ay.toNat):Fn Tryz.prog W 77 [ptr bd] [bu bd b p ps d] (List (Option Nat)) (fun _=>.tuple #[]) (fun _=>True) (fun qs=>[bu bd b p qs d.plain]):=by
 refine Fn.intro (N:=124) func77 rfl ntmps77 rfl fun F=>?_
 show ar _ _ _ _ _ _ [bu bd b p ps d,F]
 refine .o2 (C:=bu bd b p ps d) .auto rfl ?_
 rintro vw ve -
 refine .jw (C:=cE b ps d.s) .auto rfl ?_
 rintro fv sv pv bt vm bg vt bk bw vr -
 refine .fr .auto (bP hp ht) ?_
 have hIa:=hI.a
 have hIb:=hI.b
 have hb:d.b=t.aE.getD d.i.b.toNat 0:=by unfold Dng.b;rw[dj ht];rfl
 have ha:d.a=t.aE.getD d.i.a.toNat 0:=by unfold Dng.a;rw[dj ht];rfl
 have hbr:=hR.r d.i.b.toNat
 refine J 1 ?_
 refine .draw [] [1,1,1,1,1,1,1,1,1,1,1,1,1,1,1,1,1,1,1,1,1,1,1,1,1,1,1,1,1,1] rfl (by kernel_rfl) ?_
 refine J 12 ?_
 refine .p (.dK d.i.a.toNat underlying131 sizeOf92 rfl rfl (by omega) (by omega)) ?_
 refine .p (.ld rfl (Cell.a (nF (by omega)))) ?_
 refine J 12 ?_
 refine .p (.dK d.i.b.toNat underlying131 sizeOf92 rfl rfl (by omega) (by omega)) ?_
 refine .p (.ld rfl (Cell.a (nF (by omega)))) ?_
 refine J 5 ?_
 refine .wc [arr bd 0 (ei b p d vw ve),arr b 0 (ft fv sv pv d.s.fb bt ps vm bg vt bk bw vr),arr p 0 (bn t),sl eS 1 vm d.s.mem] [0,0,0,0,0,0,0,0,0,0,0,0,0,0,0,0,0,0,2,0,0,0,0,4,2,0,0] [0,1,2,3,4,5,6,7,8,9,10,11,12,13,14,15,16,17,18,19,20,21,22,23,24,25,26] rfl (by kernel_rfl) ?_
 refine bH.q rfl rfl rfl Kept.auto (Y.m rfl) ?_
 refine bH.q rfl rfl rfl Kept.auto (Y.n rfl) ?_
 refine bH.q rfl rfl rfl Kept.auto (Y.eA 2 119 underlying140 rfl sizeOf119 rfl) ?_
 refine bH.q rfl rfl rfl Kept.auto (Y.load isAgg119 rfl (Cell.a (by rfl))) ?_
 refine bH.q rfl rfl rfl Kept.auto (Y.n rfl) ?_
 refine bH.q rfl rfl rfl Kept.auto (Y.gm 133 underlying135 rfl sizeOf133 rfl) ?_
 refine bH.q rfl rfl rfl Kept.auto (Y.Ge isAgg133 rfl (Cells.mg (ds:=iW t.nE) (Cells.a (cs:=bn t)) rfl) (by exact sizeOf133)) ?_
 refine bH.q rfl rfl rfl Kept.auto (Y.m rfl) ?_
 refine bH.q rfl rfl rfl Kept.auto (Y.n rfl) ?_
 refine bH.q rfl rfl rfl Kept.auto (Y.eA 3 94 underlying140 rfl sizeOf94 rfl) ?_
 refine bH.q rfl rfl rfl Kept.auto (Y.Ge isAgg94 rfl (Cells.mg (ds:=dM d.i) (Cells.a (cs:=ei b p d vw ve)) rfl) (by exact sizeOf94)) ?_
 refine bH.q rfl rfl rfl Kept.auto (Y.m rfl) ?_
 refine bH.q rfl rfl rfl Kept.auto (Y.n rfl) ?_
 refine bH.q rfl rfl rfl Kept.auto (Y.gm 46 underlying140 rfl sizeOf46 rfl) ?_
 refine bH.q rfl rfl rfl Kept.auto (Y.load isAgg46 rfl (Cell.a (by rfl))) ?_
 refine bH.q rfl rfl rfl Kept.auto (Y.n rfl) ?_
 refine bH.q rfl rfl rfl Kept.auto (Y.eA 25 64 underlying123 rfl sizeOf64 rfl) ?_
 refine bH.q rfl rfl rfl Kept.auto (Y.load isAgg64 rfl (Cell.a (by rfl))) ?_
 refine bH.eD rfl (.inl rfl) rfl (fun _=>Kept.auto) call115 rfl (AW (A:=sl eS 1 vm d.s.mem) Rd.s hm hI hF hc) .auto (fun _ _=>Kept.auto) ?_
 rintro u5 -
 refine bH.q rfl rfl rfl Kept.auto (Y.m rfl) ?_
 refine bH.q rfl rfl rfl Kept.auto (Y.extract (v:=.agg (iW (fX t.nE d.s.mem d.i).1).toArray) rfl rfl) ?_
 refine bH.q rfl rfl rfl Kept.auto (Y.extract (v:=u5) rfl rfl) ?_
 refine bH.q rfl rfl rfl Kept.auto (Y.extract (v:=.int .i64 (fX t.nE d.s.mem d.i).2.2) rfl rfl) ?_
 refine bH.fresh rfl rfl rfl (by decide) Kept.auto (mI zeroValue133 rfl) ?_
 rintro b4
 refine bH.Ma rfl rfl (by exact sizeOf133) rfl rfl rfl (by rfl) Kept.auto Kept.auto ?_
 refine bH.q rfl rfl rfl Kept.auto (Y.a rfl) ?_
 refine bH.q rfl rfl rfl Kept.auto (Y.a rfl) ?_
 refine bH.nil ?_
 refine J 12 ?_
 apply aR.gz 3 68 65 [65,66,67,68] rfl
 ·intro h65
  exact JS 4
 ·intro h65
  exact JS 4
 refine JD 3 (fun h58=>?_) fun h58=>?_
 ·simp only[Bool.and_eq_true,decide_eq_true_eq] at h58
  obtain⟨h1,h0⟩:=h58
  obtain⟨z,hz⟩:=oF h0
  rw[lJ hz]
  have hlt:t.aE.getD d.i.b.toNat 0<d.s.mem.length:=Hd hz h1
  refine J 11 ?_
  refine .p (.tm (t.aE.getD d.i.b.toNat 0).toNat underlying64 sizeOf92 rfl rfl Rd.s (by omega) (by omega)) ?_
  refine .p (.ld rfl (Cell.Lb Rd.s (getD_some (d:=(0:Int)) (show(t.aE.getD d.i.b.toNat 0).toNat<d.s.mem.length by omega)) (by rfl))) ?_
  refine .to (A:=aB ps d.s.aF) (Bs:=[arr p 0 (bn t),aB (ps.set d.n none) (d.s.aF.set d.n none)]) .auto (bM hp ht) ?_
  refine J 1 ?_
  refine .c call74 rfl (jQ hp ht hr) fun _ _=>?_
  refine J 10 ?_
  refine .ep rfl ?_
  refine J 2 ?_
  refine .o2 (C:=bu bd b p ps (d.tell (t.aE.getD d.i.b.toNat 0) (d.s.mem.getD (t.aE.getD d.i.b.toNat 0).toNat 0) 0 true)) .auto rfl ?_
  rintro vw ve -
  refine .jw (C:=cE b ps (d.tell (t.aE.getD d.i.b.toNat 0) (d.s.mem.getD (t.aE.getD d.i.b.toNat 0).toNat 0) 0 true).s) .auto rfl ?_
  rintro fv sv pv bt vm bg vt bk bw vr -
  refine .fr .auto (bP hp (show(d.tell (t.aE.getD d.i.b.toNat 0) (d.s.mem.getD (t.aE.getD d.i.b.toNat 0).toNat 0) 0 true).s.aF[(d.tell (t.aE.getD d.i.b.toNat 0) (d.s.mem.getD (t.aE.getD d.i.b.toNat 0).toNat 0) 0 true).n]?=some (some t) from ht)) ?_
  refine .draw [arr bd 0 (ei b p (d.tell (t.aE.getD d.i.b.toNat 0) (d.s.mem.getD (t.aE.getD d.i.b.toNat 0).toNat 0) 0 true) vw ve),arr b4 0 (iW z.1)] [1,1,1,1,1,1,1,1,1,0,1,1,2,1,1,3] rfl (by kernel_rfl) ?_
  refine J 12 ?_
  refine .d2 rfl Kept.auto (af.Jr (vs:=iW z.1) (by exact sizeOf133) rfl rfl rfl rfl) (by rintro _ _ ⟨rfl,rfl⟩;exact Kept.auto) ?_
  rintro _ _ ⟨rfl,rfl⟩
  rw[uc]
  refine J 2 ?_
  refine .d3 rfl (af.mC sizeOf64 rfl rfl rfl) ?_
  rintro _ _ ⟨rfl,rfl⟩
  rw[yy]
  refine J 1 ?_
  refine .to (A:=aB ps ((d.tell (t.aE.getD d.i.b.toNat 0) (d.s.mem.getD (t.aE.getD d.i.b.toNat 0).toNat 0) 0 true).s.aF.set (d.tell (t.aE.getD d.i.b.toNat 0) (d.s.mem.getD (t.aE.getD d.i.b.toNat 0).toNat 0) 0 true).n (some (t.oy z.1)))) (Bs:=[arr p 0 (bn (t.oy z.1)),aB (ps.set (d.tell (t.aE.getD d.i.b.toNat 0) (d.s.mem.getD (t.aE.getD d.i.b.toNat 0).toNat 0) 0 true).n none) ((d.tell (t.aE.getD d.i.b.toNat 0) (d.s.mem.getD (t.aE.getD d.i.b.toNat 0).toNat 0) 0 true).s.aF.set (d.tell (t.aE.getD d.i.b.toNat 0) (d.s.mem.getD (t.aE.getD d.i.b.toNat 0).toNat 0) 0 true).n none)]) .auto (cz (List.getElem?_eq_some_iff.1 ht).1 hp) ?_
  rw[j9 ht hz,show d.told=d.tell (t.aE.getD d.i.b.toNat 0) (d.s.mem.getD (t.aE.getD d.i.b.toNat 0).toNat 0) 0 true from by unfold Dng.told;rw[if_pos h1,hb]]
  exact JR 0 ps
 ·simp only[Bool.and_eq_false_iff,decide_eq_false_iff_not] at h58
  refine JD 11 (fun h83=>?_) fun h83=>?_
  ·have hz:=qV (h58.resolve_left (fun h=>h h83))
   rw[ud hz]
   refine J 1 ?_
   refine .to (A:=aB ps d.s.aF) (Bs:=[arr p 0 (bn t),aB (ps.set d.n none) (d.s.aF.set d.n none)]) .auto (bM hp ht) ?_
   refine J 3 ?_
   refine .c call74 rfl (jQ hp ht hr) fun _ _=>?_
   refine J 10 ?_
   refine .gu rfl ?_
   refine J 3 ?_
   refine .c call75 rfl (sY (d:=(d.tell (t.aE.getD d.i.b.toNat 0) 0 6 true)) hp ht hl hpl hT hR he hw hj) fun qs _=>?_
   refine J 4 ?_
   rw[mW ht hz,if_pos h83,hb]
   exact JR 0 qs
  ·refine JD 11 (fun h94=>?_) fun h94=>?_
   ·refine J 1 ?_
    refine .to (A:=aB ps d.s.aF) (Bs:=[arr p 0 (bn t),aB (ps.set d.n none) (d.s.aF.set d.n none)]) .auto (bM hp ht) ?_
    refine J 4 ?_
    refine .c call74 rfl (jQ hp ht hr) fun _ _=>?_
    refine JD 10 (fun h107=>?_) fun h107=>?_
    ·have hz:=qV h107
     rw[ud hz]
     refine J 3 ?_
     refine .c call75 rfl (sY (d:=(d.tell (t.aE.getD d.i.a.toNat 0) (t.aE.getD d.i.b.toNat 0) 6 true)) hp ht hl hpl hT hR he hw hj) fun qs _=>?_
     refine J 4 ?_
     rw[mW ht hz,if_neg h83,ha,hb]
     exact JR 0 qs
    ·obtain⟨z,hz⟩:=oF (Decidable.not_not.mp h107)
     rw[lJ hz]
     refine J 2 ?_
     refine .o2 (C:=bu bd b p ps (d.tell (t.aE.getD d.i.a.toNat 0) (t.aE.getD d.i.b.toNat 0) 0 true)) .auto rfl ?_
     rintro vw ve -
     refine .jw (C:=cE b ps (d.tell (t.aE.getD d.i.a.toNat 0) (t.aE.getD d.i.b.toNat 0) 0 true).s) .auto rfl ?_
     rintro fv sv pv bt vm bg vt bk bw vr -
     refine .fr .auto (bP hp (show(d.tell (t.aE.getD d.i.a.toNat 0) (t.aE.getD d.i.b.toNat 0) 0 true).s.aF[(d.tell (t.aE.getD d.i.a.toNat 0) (t.aE.getD d.i.b.toNat 0) 0 true).n]?=some (some t) from ht)) ?_
     refine .draw [arr bd 0 (ei b p (d.tell (t.aE.getD d.i.a.toNat 0) (t.aE.getD d.i.b.toNat 0) 0 true) vw ve),arr b4 0 (iW z.1)] [1,1,1,1,1,1,1,1,1,0,1,1,2,1,1,3] rfl (by kernel_rfl) ?_
     refine J 12 ?_
     refine .d2 rfl Kept.auto (af.Jr (vs:=iW z.1) (by exact sizeOf133) rfl rfl rfl rfl) (by rintro _ _ ⟨rfl,rfl⟩;exact Kept.auto) ?_
     rintro _ _ ⟨rfl,rfl⟩
     rw[uc]
     refine J 2 ?_
     refine .d3 rfl (af.mC sizeOf64 rfl rfl rfl) ?_
     rintro _ _ ⟨rfl,rfl⟩
     rw[yy]
     refine J 1 ?_
     refine .to (A:=aB ps ((d.tell (t.aE.getD d.i.a.toNat 0) (t.aE.getD d.i.b.toNat 0) 0 true).s.aF.set (d.tell (t.aE.getD d.i.a.toNat 0) (t.aE.getD d.i.b.toNat 0) 0 true).n (some (t.oy z.1)))) (Bs:=[arr p 0 (bn (t.oy z.1)),aB (ps.set (d.tell (t.aE.getD d.i.a.toNat 0) (t.aE.getD d.i.b.toNat 0) 0 true).n none) ((d.tell (t.aE.getD d.i.a.toNat 0) (t.aE.getD d.i.b.toNat 0) 0 true).s.aF.set (d.tell (t.aE.getD d.i.a.toNat 0) (t.aE.getD d.i.b.toNat 0) 0 true).n none)]) .auto (cz (List.getElem?_eq_some_iff.1 ht).1 hp) ?_
     rw[j9 ht hz,show d.told=d.tell (t.aE.getD d.i.a.toNat 0) (t.aE.getD d.i.b.toNat 0) 0 true from by unfold Dng.told;rw[if_neg h83,if_pos h94,ha,hb]]
     exact JR 0 ps
   ·refine JD 10 (fun h107=>?_) fun h107=>?_
    ·exact absurd (Hc (qV h107)) (by omega)
    ·obtain⟨z,hz⟩:=oF (Decidable.not_not.mp h107)
     rw[lJ hz]
     refine J 2 ?_
     refine .draw [arr bd 0 (ei b p (d) vw ve),arr b4 0 (iW z.1)] [1,1,1,1,1,1,1,1,1,0,1,1,2,1,1,3] rfl (by kernel_rfl) ?_
     refine J 12 ?_
     refine .d2 rfl Kept.auto (af.Jr (vs:=iW z.1) (by exact sizeOf133) rfl rfl rfl rfl) (by rintro _ _ ⟨rfl,rfl⟩;exact Kept.auto) ?_
     rintro _ _ ⟨rfl,rfl⟩
     rw[uc]
     refine J 2 ?_
     refine .d3 rfl (af.mC sizeOf64 rfl rfl rfl) ?_
     rintro _ _ ⟨rfl,rfl⟩
     rw[yy]
     refine J 1 ?_
     refine .to (A:=aB ps ((d).s.aF.set (d).n (some (t.oy z.1)))) (Bs:=[arr p 0 (bn (t.oy z.1)),aB (ps.set (d).n none) ((d).s.aF.set (d).n none)]) .auto (cz (List.getElem?_eq_some_iff.1 ht).1 hp) ?_
     rw[j9 ht hz,show d.told=d from by unfold Dng.told;rw[if_neg h83,if_neg h94]]
     exact JR 0 ps
end Go.SLYtpbjdoplfgeliaaGreat
