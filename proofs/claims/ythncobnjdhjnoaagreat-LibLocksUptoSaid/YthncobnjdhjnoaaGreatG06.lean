/- Walks of functions, and what they compute. Conditions: none, this text proves no statement. -/
import Derived.Test.YthncobnjdhjnoaaGreatG05
import Derived.Test.YthncobnjdhjnoaaGreatProg
import Derived.KernelRfl
import Derived.Test.YthncobnjdhjnoaaGreatG03
set_option maxRecDepth 20000
set_option maxHeartbeats 4000000
namespace Go.SLYthncobnjdhjnoaaGreat
open Go Go.RowKit Go.Proofs Go.Proofs.Tryz
attribute [local irreducible] aq aJ ba bq bu Y
theorem Ik{W:World}{A:aa}{v:Value}{xs:List Int}(hr:Rd W [A] ar 1 v xs)(hl:xs.length≤1000000000):Fn Tryz.prog W 125 [v] [A] Value (fun u=>u) (fun _=>True) (fun u=>[sl ar 1 u xs,A]):=by
 refine Fn.intro (N:=8) func125 rfl ntmps125 rfl fun F=>?_
 haveI hRI:∀ (H:List aa) [bE H A],aG W H v ar 1 xs:=fun H h=>⟨hr.at h.has⟩
 show aq _ _ _ _ _ _ [A,F]
 refine J 9 ?_
 refine .p (.wy underlying33 rfl rfl Rd.s) ?_
 refine JD 2 (fun h4=>?_) fun h4=>?_
 ·refine J 7 ?_
  refine .cA (fun w s=>Rd.wG Rd.s h4 w s) fun hn=>?_
  subst hn
  refine .to (A:=sl ar 1 (.slice none 0 0) ([]:List Int)) (Bs:=[]) .nil (fun h e=>.inl ⟨⟨_,rfl⟩,rfl,e⟩) ?_
  refine .aP rfl rfl fun w s=>⟨_,?_,trivial,aj .auto s⟩
  rfl
 ·refine J 4 ?_
  refine .ai rfl (ab.fG 3 rfl rfl (by kernel_rfl)) ?_
  rintro _ _ ⟨b5,rfl,rfl⟩
  refine J 1 ?_
  refine .to (A:=sl ar 1 (.slice (some ⟨b5,0,none⟩) 0 0) ([]:List Int)) (Bs:=[]) .nil (fun h e=>.inl ⟨⟨_,rfl⟩,rfl,e⟩) ?_
  refine .ai rfl (ab.append rfl underlying33 underlying33 typeInfo3 rfl rfl rfl (by decide) rfl rfl .auto Rd.s (by simp;omega) (nv _)) ?_
  rintro _ _ ⟨v7,rfl,rfl⟩
  refine J 4 ?_
  refine .aP rfl rfl fun w s=>⟨_,?_,trivial,aj .auto s⟩
  rfl
theorem Jf{W:World}{v:Value}{xs:List Int}:Fn Tryz.prog W 124 [v] [sl ar 1 v xs] Value (fun u=>u) (fun _=>True) (fun u=>[sl ar 1 u xs]):=by
 refine Fn.intro (N:=9) func124 rfl ntmps124 rfl fun F=>?_
 show aq _ _ _ _ _ _ [sl ar 1 v xs,F]
 refine .cA (fun w s=>(Rd.sl (W:=W) .here w s).1) fun hr=>?_
 obtain⟨a,cap,rfl,hle, -⟩:=hr
 refine J 12 ?_
 refine .p (.uA xs.length xs.length underlying33 sizeOf3 rfl rfl rfl rfl rfl (Nat.le_refl _) hle) ?_
 refine J 4 ?_
 refine .fx .auto uF ?_
 rintro J -
 refine .aP rfl rfl fun w s=>⟨_,?_,trivial,aj .auto s⟩
 rfl
theorem oW{W:World}{A:aa}{v:Value}{xs:List Ev}(hr:Rd W [A] bW 3 v xs)(hl:xs.length≤1000000000):Fn Tryz.prog W 79 [v] [A] Value (fun u=>u) (fun _=>True) (fun u=>[sl bW 3 u xs,A]):=by
 refine Fn.intro (N:=8) func79 rfl ntmps79 rfl fun F=>?_
 haveI hRI:∀ (H:List aa) [bE H A],aG W H v bW 3 xs:=fun H h=>⟨hr.at h.has⟩
 show aq _ _ _ _ _ _ [A,F]
 refine J 9 ?_
 refine .p (.wy underlying71 rfl rfl Rd.s) ?_
 refine JD 2 (fun h4=>?_) fun h4=>?_
 ·refine J 7 ?_
  refine .cA (fun w s=>Rd.wG Rd.s h4 w s) fun hn=>?_
  subst hn
  refine .to (A:=sl bW 3 (.slice none 0 0) ([]:List Ev)) (Bs:=[]) .nil (fun h e=>.inl ⟨⟨_,rfl⟩,rfl,e⟩) ?_
  refine .aP rfl rfl fun w s=>⟨_,?_,trivial,aj .auto s⟩
  rfl
 ·refine J 4 ?_
  refine .ai rfl (ab.fG 80 rfl rfl (by kernel_rfl)) ?_
  rintro _ _ ⟨b5,rfl,rfl⟩
  refine J 1 ?_
  refine .to (A:=sl bW 3 (.slice (some ⟨b5,0,none⟩) 0 0) ([]:List Ev)) (Bs:=[]) .nil (fun h e=>.inl ⟨⟨_,rfl⟩,rfl,e⟩) ?_
  refine .ai rfl (ab.append rfl underlying71 underlying71 typeInfo80 rfl rfl rfl (by decide) rfl rfl .auto Rd.s (by simp;omega) (qj _)) ?_
  rintro _ _ ⟨v7,rfl,rfl⟩
  refine J 4 ?_
  refine .aP rfl rfl fun w s=>⟨_,?_,trivial,aj .auto s⟩
  rfl
theorem Hd{W:World}{v:Value}{xs:List Ev}:Fn Tryz.prog W 78 [v] [sl bW 3 v xs] Value (fun u=>u) (fun _=>True) (fun u=>[sl bW 3 u xs]):=by
 refine Fn.intro (N:=9) func78 rfl ntmps78 rfl fun F=>?_
 show aq _ _ _ _ _ _ [sl bW 3 v xs,F]
 refine .cA (fun w s=>(Rd.sl (W:=W) .here w s).1) fun hr=>?_
 obtain⟨a,cap,rfl,hle, -⟩:=hr
 refine J 12 ?_
 refine .p (.uA xs.length xs.length underlying71 sizeOf80 rfl rfl rfl rfl rfl (Nat.le_refl _) hle) ?_
 refine J 4 ?_
 refine .fx .auto uF ?_
 rintro J -
 refine .aP rfl rfl fun w s=>⟨_,?_,trivial,aj .auto s⟩
 rfl
theorem Il{W:World}{A:aa}{v:Value}{xs:List Rec}(hr:Rd W [A] jm 6 v xs)(hl:xs.length≤1000000000):Fn Tryz.prog W 52 [v] [A] Value (fun u=>u) (fun _=>True) (fun u=>[sl jm 6 u xs,A]):=by
 refine Fn.intro (N:=8) func52 rfl ntmps52 rfl fun F=>?_
 haveI hRI:∀ (H:List aa) [bE H A],aG W H v jm 6 xs:=fun H h=>⟨hr.at h.has⟩
 show aq _ _ _ _ _ _ [A,F]
 refine J 9 ?_
 refine .p (.wy underlying53 rfl rfl Rd.s) ?_
 refine JD 2 (fun h4=>?_) fun h4=>?_
 ·refine J 7 ?_
  refine .cA (fun w s=>Rd.wG Rd.s h4 w s) fun hn=>?_
  subst hn
  refine .to (A:=sl jm 6 (.slice none 0 0) ([]:List Rec)) (Bs:=[]) .nil (fun h e=>.inl ⟨⟨_,rfl⟩,rfl,e⟩) ?_
  refine .aP rfl rfl fun w s=>⟨_,?_,trivial,aj .auto s⟩
  rfl
 ·refine J 4 ?_
  refine .ai rfl (ab.fG 104 rfl rfl (by kernel_rfl)) ?_
  rintro _ _ ⟨b5,rfl,rfl⟩
  refine J 1 ?_
  refine .to (A:=sl jm 6 (.slice (some ⟨b5,0,none⟩) 0 0) ([]:List Rec)) (Bs:=[]) .nil (fun h e=>.inl ⟨⟨_,rfl⟩,rfl,e⟩) ?_
  refine .ai rfl (ab.append rfl underlying53 underlying53 typeInfo104 rfl rfl rfl (by decide) rfl rfl .auto Rd.s (by simp;omega) (wF _)) ?_
  rintro _ _ ⟨v7,rfl,rfl⟩
  refine J 4 ?_
  refine .aP rfl rfl fun w s=>⟨_,?_,trivial,aj .auto s⟩
  rfl
theorem Jg{W:World}{v:Value}{xs:List Rec}:Fn Tryz.prog W 51 [v] [sl jm 6 v xs] Value (fun u=>u) (fun _=>True) (fun u=>[sl jm 6 u xs]):=by
 refine Fn.intro (N:=9) func51 rfl ntmps51 rfl fun F=>?_
 show aq _ _ _ _ _ _ [sl jm 6 v xs,F]
 refine .cA (fun w s=>(Rd.sl (W:=W) .here w s).1) fun hr=>?_
 obtain⟨a,cap,rfl,hle, -⟩:=hr
 refine J 12 ?_
 refine .p (.uA xs.length xs.length underlying53 sizeOf104 rfl rfl rfl rfl rfl (Nat.le_refl _) hle) ?_
 refine J 4 ?_
 refine .fx .auto uF ?_
 rintro J -
 refine .aP rfl rfl fun w s=>⟨_,?_,trivial,aj .auto s⟩
 rfl
theorem Im{W:World}{A:aa}{v:Value}{xs:List Ins}(hr:Rd W [A] dO 5 v xs)(hl:xs.length≤1000000000):Fn Tryz.prog W 59 [v] [A] Value (fun u=>u) (fun _=>True) (fun u=>[sl dO 5 u xs,A]):=by
 refine Fn.intro (N:=8) func59 rfl ntmps59 rfl fun F=>?_
 haveI hRI:∀ (H:List aa) [bE H A],aG W H v dO 5 xs:=fun H h=>⟨hr.at h.has⟩
 show aq _ _ _ _ _ _ [A,F]
 refine J 9 ?_
 refine .p (.wy underlying89 rfl rfl Rd.s) ?_
 refine JD 2 (fun h4=>?_) fun h4=>?_
 ·refine J 7 ?_
  refine .cA (fun w s=>Rd.wG Rd.s h4 w s) fun hn=>?_
  subst hn
  refine .to (A:=sl dO 5 (.slice none 0 0) ([]:List Ins)) (Bs:=[]) .nil (fun h e=>.inl ⟨⟨_,rfl⟩,rfl,e⟩) ?_
  refine .aP rfl rfl fun w s=>⟨_,?_,trivial,aj .auto s⟩
  rfl
 ·refine J 4 ?_
  refine .ai rfl (ab.fG 88 rfl rfl (by kernel_rfl)) ?_
  rintro _ _ ⟨b5,rfl,rfl⟩
  refine J 1 ?_
  refine .to (A:=sl dO 5 (.slice (some ⟨b5,0,none⟩) 0 0) ([]:List Ins)) (Bs:=[]) .nil (fun h e=>.inl ⟨⟨_,rfl⟩,rfl,e⟩) ?_
  refine .ai rfl (ab.append rfl underlying89 underlying89 typeInfo88 rfl rfl rfl (by decide) rfl rfl .auto Rd.s (by simp;omega) (Ds _)) ?_
  rintro _ _ ⟨v7,rfl,rfl⟩
  refine J 4 ?_
  refine .aP rfl rfl fun w s=>⟨_,?_,trivial,aj .auto s⟩
  rfl
theorem Gq{W:World}{A:aa}{v:Value}{xs:List (Value×List Ins)}(hr:Rd W [A] dP 1 v xs)(hl:xs.length≤1000000000)(hone:∀ y∈xs, ∀ c∈dP y,c.oneCell'=true):Fn Tryz.prog W 58 [v] [A] Value (fun u=>u) (fun _=>True) (fun u=>[sl dP 1 u xs,A]):=by
 refine Fn.intro (N:=8) func58 rfl ntmps58 rfl fun F=>?_
 haveI hRI:∀ (H:List aa) [bE H A],aG W H v dP 1 xs:=fun H h=>⟨hr.at h.has⟩
 show aq _ _ _ _ _ _ [A,F]
 refine J 9 ?_
 refine .p (.wy underlying58 rfl rfl Rd.s) ?_
 refine JD 2 (fun h4=>?_) fun h4=>?_
 ·refine J 7 ?_
  refine .cA (fun w s=>Rd.wG Rd.s h4 w s) fun hn=>?_
  subst hn
  refine .to (A:=sl dP 1 (.slice none 0 0) ([]:List (Value×List Ins))) (Bs:=[]) .nil (fun h e=>.inl ⟨⟨_,rfl⟩,rfl,e⟩) ?_
  refine .aP rfl rfl fun w s=>⟨_,?_,trivial,aj .auto s⟩
  rfl
 ·refine J 4 ?_
  refine .ai rfl (ab.fG 89 rfl rfl (by kernel_rfl)) ?_
  rintro _ _ ⟨b5,rfl,rfl⟩
  refine J 1 ?_
  refine .to (A:=sl dP 1 (.slice (some ⟨b5,0,none⟩) 0 0) ([]:List (Value×List Ins))) (Bs:=[]) .nil (fun h e=>.inl ⟨⟨_,rfl⟩,rfl,e⟩) ?_
  refine .ai rfl (ab.append rfl underlying58 underlying58 typeInfo89 rfl rfl rfl (by decide) rfl rfl .auto Rd.s (by simp;omega) hone) ?_
  rintro _ _ ⟨v7,rfl,rfl⟩
  refine J 4 ?_
  refine .aP rfl rfl fun w s=>⟨_,?_,trivial,aj .auto s⟩
  rfl
theorem Io{W:World}{A:aa}{v:Value}{xs:List Int}{x:Int}(hr:Rd W [A] ar 1 v xs)(hl:xs.length≤1000000000):Fn Tryz.prog W 192 [v,.int .i64 x] [A] Unit (fun _=>.int .i64 (idxOf x xs)) (fun _=>True) (fun _=>[A]):=by
 refine Fn.intro (N:=19) func192 rfl ntmps192 rfl fun F=>?_
 haveI hRI:∀ (H:List aa) [bE H A],aG W H v ar 1 xs:=fun H h=>⟨hr.at h.has⟩
 show aq _ _ _ _ _ _ [A,F]
 refine J 14 ?_
 refine .bf (X:=Nat) [4,5,8,9,10,11,12,13,14,15,16,17,18] (fun k=>xs.length-k) (fun k=>k≤xs.length∧idxOf x xs=idxFrom x (xs.drop k) k) (fun k=>[(8,some (.int .i64 (k:Int)))]) (fun k=>[A,F]) 0 ?_ ?_ ?_ ?_
 ·exact⟨Nat.zero_le _,by simp[idxOf]⟩
 ·exact⟨rfl,trivial⟩
 ·exact fun w s=>au.kept .auto w s
 rintro k ⟨hk,hn⟩
 refine JD 6 (fun h9=>?_) fun h9=>?_
 ·refine J 15 ?_
  obtain⟨y,hy⟩:=al (show k<xs.length by omega)
  refine JD 5 (fun h=>?_) fun h=>?_
  ·refine J 12 ?_
   refine .aP rfl rfl fun w s=>⟨(),?_,trivial,aj .auto s⟩
   rw[hn,FO hy h]
  ·refine J 7 ?_
   refine .aF (k+1) .auto rfl ?_ ?_ ?_ ?_
   ·first | omega | (dsimp only;omega)
   ·exact⟨by omega,hn.trans (Dw hy h)⟩
   ·exact⟨rfl,trivial⟩
   ·exact fun w s=>au.kept .auto w s
 ·refine J 11 ?_
  refine .aP rfl rfl fun w s=>⟨(),?_,trivial,aj .auto s⟩
  rw[hn,FP (by omega)]
theorem tK{W:World}{A:aa}{v:Value}{xs:List Int}{x:Int}(hr:Rd W [A] ar 1 v xs)(hl:xs.length≤1000000000):Fn Tryz.prog W 170 [v,.int .i64 x] [A] Unit (fun _=>.bool (xs.contains x)) (fun _=>True) (fun _=>[A]):=by
 refine Fn.intro (N:=9) func170 rfl ntmps170 rfl fun F=>?_
 show aq _ _ _ _ _ _ [A,F]
 refine J 9 ?_
 refine .c call192 rfl (Io hr hl) fun _ _=>?_
 refine J 5 ?_
 refine .aP rfl rfl fun w s=>⟨(),?_,trivial,aj .auto s⟩
 rw[idxOf,uG]
theorem J6{W:World}{A:aa}{v:Value}{xs:List Int}(hr:Rd W [A] ar 1 v xs)(hl:xs.length≤1000000000)(h0:0<xs.length):Fn Tryz.prog W 50 [v] [A] Unit (fun _=>.int .i64 (minOf xs)) (fun _=>True) (fun _=>[A]):=by
 refine Fn.intro (N:=25) func50 rfl ntmps50 rfl fun F=>?_
 haveI hRI:∀ (H:List aa) [bE H A],aG W H v ar 1 xs:=fun H h=>⟨hr.at h.has⟩
 obtain⟨y0,ys,rfl⟩:∃ y ys,xs=y::ys:=by cases xs with | nil=>simp at h0 | cons y ys=>exact⟨y,ys,rfl⟩
 show aq _ _ _ _ _ _ [A,F]
 refine JD 13 (fun h7=>?_) fun h7=>?_
 ·exact absurd h7 (by simp;omega)
 ·refine J 5 ?_
  have hy0:(y0::ys)[0]?=some y0:=rfl
  refine .p (.ix 0 rfl rfl rfl (by simp)) ?_
  refine J 11 ?_
  refine .bf (X:=Nat) [3,4,12,13,14,15,16,17,18,19,20,21,22,23] (fun k=>ys.length-k) (fun k=>k≤ys.length) (fun k=>[(4,some (.int .i64 ((k+1:Nat):Int))),(3,some (.int .i64 ((ys.take k).foldl min y0)))]) (fun k=>[A,F]) 0 ?_ ?_ ?_ ?_
  ·exact Nat.zero_le _
  ·exact⟨rfl,rfl,trivial⟩
  ·exact fun w s=>au.kept .auto w s
  rintro k hk
  refine JD 9 (fun h15=>?_) fun h15=>?_
  ·refine J 8 ?_
   obtain⟨y,hy⟩:=al (show k+1<(y0::ys).length by omega)
   refine J 2 ?_
   refine .p (.jq rfl rfl) ?_
   refine J 9 ?_
   refine .aF (k+1) .auto rfl ?_ ?_ ?_ ?_
   ·simp only[List.length_cons] at h15;omega
   ·simp only[List.length_cons] at h15;omega
   ·refine⟨rfl,?_,trivial⟩
    have:ys[k]?=some y:=by simpa using hy
    rw[bj this,List.foldl_append];rfl
   ·exact fun w s=>au.kept .auto w s
  ·refine J 12 ?_
   obtain rfl:k=ys.length:=by simp only[List.length_cons] at h15;omega
   refine .aP rfl rfl fun w s=>⟨(),?_,trivial,aj .auto s⟩
   rw[List.take_length];rfl
theorem Jh{W:World}{n:Nat}(hn:n≤1000000000):Fn Tryz.prog W 126 [.slice none 0 0,.int .i64 (n:Int)] [] Value (fun u=>u) (fun _=>True) (fun u=>[sl bW 3 u ([]:List Ev)]):=by
 refine Fn.intro (N:=27) func126 rfl ntmps126 rfl fun F=>?_
 show aq _ _ _ _ _ _ [F]
 refine JD 12 (fun h6=>?_) fun h6=>?_
 ·omega
 ·refine J 7 ?_
  refine .p (.wx underlying71 rfl) ?_
  refine JD 13 (fun h16=>?_) fun h16=>?_
  ·refine J 3 ?_
   refine .p (.wx underlying71 rfl) ?_
   refine .p (.jY 0 underlying71 sizeOf80 rfl rfl rfl (Nat.le_refl _)) ?_
   refine J 1 ?_
   refine .ai rfl (ab.yO (enc:=bW) (k:=3) ⟨0,0,0⟩ n rfl underlying71 underlying3 typeInfo80 rfl rfl rfl rfl (by decide) (by decide) rfl rfl (by omega) (by omega)) ?_
   rintro _ _ ⟨⟨b22,c22⟩,hc22,rfl,rfl⟩
   refine J 2 ?_
   refine .p (.jY 0 underlying71 sizeOf80 rfl rfl rfl (Nat.zero_le _)) ?_
   refine J 10 ?_
   refine .fr .auto (Bw 0 (Nat.zero_le _)) ?_
   refine .aP rfl rfl fun w s=>⟨_,?_,trivial,aj .auto s⟩
   rfl
  ·refine J 9 ?_
   refine .to (A:=sl bW 3 (.slice none 0 0) ([]:List Ev)) (Bs:=[]) .nil (fun h e=>.inl ⟨⟨_,rfl⟩,rfl,e⟩) ?_
   refine .aP rfl rfl fun w s=>⟨_,?_,trivial,aj .auto s⟩
   rfl
theorem A5{W:World}{A:aa}{v:Value}{qs:List (Value×List Ev)}(hr:Rd W [A] dP 1 v qs)(hq:∀ q∈qs,Rd W [A] bW 3 q.1 q.2)(hl:qs.length≤1000000)(hs:(qs.flatMap (·.2)).length≤1000000000):Fn Tryz.prog W 98 [v] [A] Value (fun u=>u) (fun _=>True) (fun u=>[sl bW 3 u (qs.flatMap (·.2)),A]):=by
 refine Fn.intro (N:=36) func98 rfl ntmps98 rfl fun F=>?_
 haveI hRI:∀ (H:List aa) [bE H A],aG W H v dP 1 qs:=fun H h=>⟨hr.at h.has⟩
 show aq _ _ _ _ _ _ [A,F]
 refine J 19 ?_
 refine .bf (X:=Nat) [3,5,11,12,13,14,15,16,17,18,19,20,21,22] (fun k=>qs.length-k) (fun k=>k≤qs.length) (fun k=>[(11,some (.int .i64 (k:Int))),(3,some (.int .i64 ((((qs.take k).flatMap (·.2)).length:Nat):Int)))]) (fun k=>[A,F]) 0 ?_ ?_ ?_ ?_
 ·exact Nat.zero_le _
 ·exact⟨rfl,rfl,trivial⟩
 ·exact fun w s=>au.kept .auto w s
 rintro k hk
 refine JD 6 (fun h12=>?_) fun h12=>?_
 ·refine J 6 ?_
  obtain⟨q,hx⟩:=al (show k<qs.length by omega)
  have hqr:=hq q (List.mem_of_getElem? hx)
  have hRq:∀ (H:List aa) [bE H A],aG W H q.1 bW 3 q.2:=fun H h=>⟨hqr.at h.has⟩
  have hle:=Ay (f:=fun q:Value×List Ev=>q.2) qs (k+1)
  rw[lO hx,List.length_append] at hle
  refine J 10 ?_
  refine .p (.add rfl rfl (by omega)) ?_
  refine JD 9 (fun h20=>?_) fun h20=>?_
  ·omega
  ·refine J 7 ?_
   refine .aF (k+1) .auto rfl ?_ ?_ ?_ ?_
   ·first | omega | (dsimp only;omega)
   ·omega
   ·refine⟨rfl,?_,trivial⟩
    rw[lO hx,List.length_append,Int.natCast_add];rfl
   ·exact fun w s=>au.kept .auto w s
 ·refine J 8 ?_
  obtain rfl:k=qs.length:=by omega
  rw[List.take_length]
  refine .c call126 rfl (Jh hs) fun u _=>?_
  refine J 12 ?_
  refine .bf (X:=Nat×Value) [6,8,27,28,29,30,31,32,33,34] (fun z=>qs.length-z.1) (fun z=>z.1≤qs.length) (fun z=>[(27,some (.int .i64 (z.1:Int))),(6,some z.2)]) (fun z=>[sl bW 3 z.2 ((qs.take z.1).flatMap (·.2)),A,F]) (0,u) ?_ ?_ ?_ ?_
  ·exact Nat.zero_le _
  ·exact⟨rfl,rfl,trivial⟩
  ·exact fun w s=>au.kept .auto w s
  rintro⟨k,u⟩ hk
  simp only at hk
  refine JD 6 (fun h28=>?_) fun h28=>?_
  ·refine J 6 ?_
   obtain⟨q,hx⟩:=al (show k<qs.length by omega)
   have hqr:=hq q (List.mem_of_getElem? hx)
   have hRq:∀ (H:List aa) [bE H A],aG W H q.1 bW 3 q.2:=fun H h=>⟨hqr.at h.has⟩
   have hle:=Ay (f:=fun q:Value×List Ev=>q.2) qs (k+1)
   rw[lO hx,List.length_append] at hle
   refine J 8 ?_
   refine .ai rfl (ab.append rfl underlying71 underlying71 typeInfo80 rfl rfl rfl (by decide) rfl rfl .auto Rd.s (by dsimp only;omega) (qj _)) ?_
   rintro _ _ ⟨v33,rfl,rfl⟩
   refine J 8 ?_
   refine .aF (k+1,v33) .auto rfl ?_ ?_ ?_ ?_
   ·show qs.length-(k+1)<qs.length-k;omega
   ·show k+1≤qs.length;omega
   ·exact⟨rfl,rfl,trivial⟩
   ·show ∀ w,Sat _ w _→Sat _ w (seps [sl bW 3 v33 ((qs.take (k+1)).flatMap (·.2)),A,F])
    rw[lO hx]
    exact fun w s=>au.kept .auto w s
  ·refine J 12 ?_
   obtain rfl:k=qs.length:=by omega
   rw[List.take_length]
   refine .aP rfl rfl fun w s=>⟨_,?_,trivial,aj .auto s⟩
   rfl
theorem rF{W:World}{A:aa}{va vb:Value}{xs ys:List Ev}(ha:Rd W [A] bW 3 va xs)(hb:Rd W [A] bW 3 vb ys)(hl:xs.length+ys.length≤1000000000):Fn Tryz.prog W 73 [va,vb] [A] Value (fun u=>u) (fun _=>True) (fun u=>[sl bW 3 u (xs++ys),A]):=by
 refine Fn.intro (N:=9) func73 rfl ntmps73 rfl fun F=>?_
 show aq _ _ _ _ _ _ [A,F]
 refine .cA (fun w s=>Rd.shape (ha.at .here) w s) fun e=>?_
 obtain⟨a1,c1,rfl⟩:=e
 refine .cA (fun w s=>Rd.shape (hb.at .here) w s) fun e=>?_
 obtain⟨a2,c2,rfl⟩:=e
 refine J 9 ?_
 refine .ai rfl (ab.fG 71 rfl rfl (by kernel_rfl)) ?_
 rintro _ _ ⟨b7,rfl,rfl⟩
 refine .ai rfl (ab.dX rfl call98 rfl (A5 (A:=seps [arr b7 0 [.slice a1 xs.length c1,.slice a2 ys.length c2],A]) (qs:=[(.slice a1 xs.length c1,xs),(.slice a2 ys.length c2,ys)]) (Rd.et (Rd.lit .here rfl (fun _ _=>rfl) rfl)) (by
   intro q hq
   simp only[List.mem_cons,List.not_mem_nil,or_false] at hq
   rcases hq with rfl | rfl
   ·exact Rd.et (Rd.at ha (.there .here))
   ·exact Rd.et (Rd.at hb (.there .here))) (by simp) (by simpa using hl)) .auto) ?_
 rintro _ _ ⟨u, -,rfl,rfl⟩
 rw[show[(Value.slice a1 xs.length c1,xs),(.slice a2 ys.length c2,ys)].flatMap (fun q:Value×List Ev=>q.2)=xs++ys from by simp]
 refine .dL (by repeat (first | exact Take.here | apply Take.there)) ?_
 refine J 4 ?_
 refine .aP rfl rfl fun w s=>⟨_,?_,trivial,aj .auto s⟩
 rfl
theorem Ji{W:World}{n:Int}(hn:0≤n∧n≤64):Fn Tryz.prog W 104 [.int .u64 1,.int .u64 n] [] Unit (fun _=>.tuple #[.int .u64 0,.int .u64 n]) (fun _=>True) (fun _=>[]):=by
 refine Fn.intro (N:=51) func104 rfl ntmps104 rfl fun F=>?_
 show aq _ _ _ _ _ _ [F]
 refine J 9 ?_
 refine .p (.eS (Y.HA rfl rfl) (oB (by omega))) ?_
 refine J 6 ?_
 refine .p (.eS (Y.Dq rfl rfl (by omega)) (im (by omega))) ?_
 refine J 6 ?_
 refine .p (.eS (Y.HA rfl rfl) (oB (by omega))) ?_
 refine J 6 ?_
 refine .p (.eS (Y.Dq rfl rfl (by omega)) (im (by omega))) ?_
 refine J 7 ?_
 refine .p (.Bq rfl rfl (by omega)) ?_
 refine J 7 ?_
 refine .p (.Bq rfl rfl (by omega)) ?_
 refine J 1 ?_
 refine .p (.eS (Y.Dq rfl rfl (by omega)) (im (by omega))) ?_
 refine .p (.yB rfl rfl (by omega)) ?_
 refine J 6 ?_
 refine .p (.eS (Y.HA rfl rfl) (oB (by omega))) ?_
 refine J 6 ?_
 refine .p (.eS (Y.Dq rfl rfl (by omega)) (im (by omega))) ?_
 refine J 8 ?_
 refine .p (.Bq rfl rfl (by omega)) ?_
 refine .p (.yB rfl rfl (by omega)) ?_
 refine J 7 ?_
 refine .p (.Bq rfl rfl (by omega)) ?_
 refine J 1 ?_
 refine .p (.yB rfl rfl (by omega)) ?_
 refine J 1 ?_
 refine .p (.eS (Y.Dq rfl rfl (by omega)) (im (by omega))) ?_
 refine .p (.yB rfl rfl (by omega)) ?_
 refine J 7 ?_
 refine .p (.Bq rfl rfl (by omega)) ?_
 refine J 4 ?_
 refine .eO rfl rfl rfl fun w s=>⟨(),?_,trivial,aj .auto s⟩
 simp
theorem J7{W:World}{n:Int}(hn:0≤n∧n≤64):Fn Tryz.prog W 80 [.int .u64 1,.int .u64 n] [] Unit (fun _=>.tuple #[.int .u64 0,.int .u64 n]) (fun _=>True) (fun _=>[]):=by
 refine Fn.intro (N:=30) func80 rfl ntmps80 rfl fun F=>?_
 show aq _ _ _ _ _ _ [F]
 refine J 7 ?_
 refine .eN rfl ?_
 refine J 6 ?_
 refine .c call104 rfl (Ji hn) fun _ _=>?_
 exact JR 16 ()
theorem Gr{W:World}{A:aa}{v:Value}{a:Int}{n:Nat}(hr:Rd W [A] ar 1 v [a])(hn:1≤n∧n≤64):Fn Tryz.prog W 41 [v,.int .i64 (n:Int)] [A] Value (fun u=>u) (fun _=>True) (fun u=>[sl ar 1 u (List.replicate n a),A]):=by
 refine Fn.intro (N:=48) func41 rfl ntmps41 rfl fun F=>?_
 haveI hRI:∀ (H:List aa) [bE H A],aG W H v ar 1 [a]:=fun H h=>⟨hr.at h.has⟩
 show aq _ _ _ _ _ _ [A,F]
 refine .s (.r (.p (.a rfl) (.n (.t (.s (.s (.r (.p (.m rfl) (.p (.lss rfl rfl) (.n (.t (.dK rfl (fun h10=>?_) (fun h10=>?_)))))))))))))
 ·omega
 ·refine .v (.t (.s (.r (.p (.m rfl) (.p (.len rfl) ?_)))))
  refine .p (.conv underlying3 underlying136 rfl) ?_
  refine .p (.m rfl) ?_
  refine .p (.qJ underlying3 underlying136 rfl (by omega)) ?_
  refine .ai rfl (ab.dX rfl call80 rfl (J7 (n:=(n:Int)) (by omega)) .auto) ?_
  rintro _ _ ⟨⟨⟩, -,rfl,rfl⟩
  refine .p (.m rfl) (.p (.extract rfl rfl) (.p (.extract rfl rfl) (.p (.a rfl) (.p (.a rfl) (.n (.t (.s (.s (.r (.p (.m rfl) (.p (.gtr rfl rfl) (.p (.m rfl) ?_))))))))))))
  refine .wc (t:=23) rfl (fun h22=>?_) (fun h22=>?_)
  ·omega
  ·refine .g (.m rfl) (.g (.gtr rfl rfl) (.p (.u rfl rfl) (.n (.t (.dK rfl (fun h26=>?_) (fun h26=>?_))))))
   ·omega
   ·refine .v (.t (.s (.r (.p (.m rfl) ?_))))
    refine .p (.gm underlying136 underlying3 rfl (by omega)) ?_
    refine .ai rfl (ab.Bu (enc:=ar) (k:=1) 0 n rfl underlying33 typeInfo3 rfl rfl rfl rfl (by decide) (by decide) rfl rfl rfl rfl (by omega)) ?_
    rintro _ _ ⟨b30,rfl,rfl⟩
    refine .p (.a rfl) (.n (.t (.s (.r (.p (.m rfl) (.p (.m rfl) ?_))))))
    refine .ai rfl (ab.yP (i:=0) rfl underlying33 sizeOf3 rfl rfl Rd.s .auto (by simp) (Nat.zero_le _) (by omega) (nv _)) ?_
    rintro _ _ ⟨rfl,rfl⟩
    rw[show min [a].length (n-0)=1 from by simp;omega,show(List.replicate n (0:Int)).take 0++([a].take 1++(List.replicate n 0).drop (0+1))=List.replicate 1 a++List.replicate (n-1) 0 from by simp]
    refine .p (.a rfl) (.n (.t (.s (.b ?_))))
    refine .bf (X:=Nat) [8,34,35,36,37,38,39,40,41,42,43,44,45,46] (fun j=>n-j) (fun j=>1≤j∧j≤n) (fun j=>[(8,some (.int .i64 (j:Int)))]) (fun j=>[sl ar 1 (.slice (some ⟨b30,0,none⟩) n n) (List.replicate j a++List.replicate (n-j) 0),A,F]) 1 ?_ ?_ ?_ ?_
    ·exact⟨Nat.le_refl _,hn.1⟩
    ·exact⟨rfl,trivial⟩
    ·exact fun w s=>au.kept .auto w s
    rintro j hj
    refine .s (.s (.r (.p (.m rfl) (.p (.m rfl) (.p (.lens rfl) (.p (.lss rfl rfl) (.n (.t (.dK rfl (fun h37=>?_) (fun h37=>?_))))))))))
    ·refine .v (.t (.b ?_))
     refine .draw [] [0,1,1,1,1,1,1,2,1,1] rfl (by kernel_rfl) ?_
     refine .q (.m rfl) (.p (.m rfl) (.p (.m rfl) ?_))
     refine .p (.Dp j underlying33 sizeOf3 rfl rfl rfl (by omega) (by omega)) ?_
     refine .p (.m rfl) (.p (.m rfl) ?_)
     refine .p (.jY j underlying33 sizeOf3 rfl rfl rfl (by omega)) ?_
     refine .d2 rfl Kept.auto (ab.yP (enc:=ar) (i:=j) (ys:=List.replicate j a) rfl underlying33 sizeOf3 rfl rfl (Rd.rep hj.2 Rd.s) .auto (by simp;omega) (by omega) (by omega) (nv _)) (by rintro _ _ ⟨rfl,rfl⟩;exact Kept.auto) ?_
     rintro _ _ ⟨rfl,rfl⟩
     refine .p (.add rfl rfl (by omega)) ?_
     refine .p (.a rfl) (.n (.b ?_))
     refine .aF (j+min j (n-j)) .auto rfl ?_ ?_ ?_ ?_
     ·omega
     ·omega
     ·refine⟨?_,trivial⟩
      rw[show(List.replicate j a).length=j from by simp];rfl
     ·show ∀ w,Sat _ w _→Sat _ w (seps [sl ar 1 _ (List.replicate (j+min j (n-j)) a++List.replicate (n-(j+min j (n-j))) 0),A,F])
      rw[← Dv j n a hj.2]
      exact fun w s=>au.kept .auto w s
    ·refine .x (.tx (.tx (.bh (.t (.s (.r (.p (.m rfl) (.p (.a rfl) (.n (.t (.e ?_)))))))))))
     obtain rfl:j=n:=by omega
     rw[Nat.sub_self,List.replicate_zero,List.append_nil]
     refine .aP rfl rfl fun w s=>⟨_,?_,trivial,aj .auto s⟩
     rfl
end Go.SLYthncobnjdhjnoaaGreat
namespace Go.SLYthncobnjdhjnoaaGreat
open Go Go.RowKit Go.Proofs Go.Proofs.Tryz
attribute [local irreducible] aq aJ ba bq bu Y
theorem eZ{W:World}{n m:Int}:Fn Tryz.prog W 109 [.int .i64 n,.int .i64 m] [] Unit (fun _=>.bool (within n m)) (fun _=>True) (fun _=>[]):=by
 refine Fn.intro (N:=12) func109 rfl ntmps109 rfl fun F=>?_
 show aq _ _ _ _ _ _ [F]
 refine J 10 ?_
 apply aJ.eT 4 11 7 [7,8,9,10,11] rfl
 ·intro h7
  exact JS 5
 ·intro h7
  exact JS 5
 exact JR 4 ()
theorem nW{W:World}{n m:Int}:Fn Tryz.prog W 107 [.int .i64 n,.int .i64 m] [] Unit (fun _=>.bool (within n m)) (fun _=>True) (fun _=>[]):=by
 refine Fn.intro (N:=12) func107 rfl ntmps107 rfl fun F=>?_
 show aq _ _ _ _ _ _ [F]
 refine J 10 ?_
 apply aJ.eT 4 11 7 [7,8,9,10,11] rfl
 ·intro h7
  exact JS 5
 ·intro h7
  exact JS 5
 exact JR 4 ()
theorem lu{W:World}{n:Int}{b:Bool}:Fn Tryz.prog W 112 [.int .i64 n,.bool b] [] Unit (fun _=>.bool (s8 n b)) (fun _=>True) (fun _=>[]):=by
 refine Fn.intro (N:=18) func112 rfl ntmps112 rfl fun F=>?_
 show aq _ _ _ _ _ _ [F]
 refine .s (.r (.p (.a rfl) (.n (.t (.s (.r (.p (.m rfl) (.p (.eql rfl rfl) (.p (.m rfl) ?_)))))))))
 apply aJ.fY 10 17 7 [7,8,9,10,11,12,13,14,15,16,17] rfl
 ·intro h7
  refine .g (.m rfl) (.g (.m rfl) ?_)
  apply aJ.gj 3 12 9 [9,10,11,12] rfl
  ·intro h9
   refine .g (.m rfl) (.g (.gtr rfl rfl) (.g (.t rfl rfl) (.n ?_)))
   refine .yy .auto rfl (by first | exact fun _ h=>h | exact au.kept .auto)
  ·intro h9
   refine .u (.u (.g (.u rfl rfl) (.n ?_)))
   refine .yy .auto rfl (by first | exact fun _ h=>h | exact au.kept .auto)
  refine .g (.m rfl) ?_
  apply aJ.gj 3 16 13 [13,14,15,16] rfl
  ·intro h13
   refine .g (.m rfl) (.g (.lss rfl rfl) (.g (.t rfl rfl) (.n ?_)))
   refine .yy .auto rfl (by first | exact fun _ h=>h | exact au.kept .auto)
  ·intro h13
   refine .u (.u (.g (.u rfl rfl) (.n ?_)))
   refine .yy .auto rfl (by first | exact fun _ h=>h | exact au.kept .auto)
  refine .p (.u rfl rfl) (.n ?_)
  refine .yy .auto rfl (by first | exact fun _ h=>h | exact au.kept .auto)
 ·intro h7
  refine .u (.u (.u (.u (.u (.u (.u (.u (.u (.p (.t rfl rfl) (.n ?_))))))))))
  refine .yy .auto rfl (by first | exact fun _ h=>h | exact au.kept .auto)
 refine .p (.a rfl) (.n (.t (.e (.aP rfl rfl fun w s=>⟨(),?_,trivial,aj .auto s⟩))))
 rfl
theorem ko{W:World}{op:Int}:Fn Tryz.prog W 110 [.int .i64 op] [] Unit (fun _=>.int .i64 (cls op)) (fun _=>True) (fun _=>[]):=by
 refine Fn.intro (N:=24) func110 rfl ntmps110 rfl fun F=>?_
 show aq _ _ _ _ _ _ [F]
 refine J 12 ?_
 apply aJ.eT 3 9 6 [6,7,8,9] rfl
 ·intro h6
  exact JS 4
 ·intro h6
  exact JS 4
 refine JD 3 (fun h3=>?_) fun h3=>?_
 ·simp only[Bool.and_eq_true,decide_eq_true_eq] at h3
  refine J 8 ?_
  refine .aP rfl rfl fun w s=>⟨(),?_,trivial,aj .auto s⟩
  refine wK ?_;unfold cls;repeat (first | rw[if_pos (by omega)] | rw[if_neg (by omega)])
 ·simp only[Bool.and_eq_false_iff,decide_eq_false_iff_not] at h3
  refine J 5 ?_
  apply aJ.eT 3 16 13 [13,14,15,16] rfl
  ·intro h13
   exact JS 4
  ·intro h13
   exact JS 4
  refine JD 3 (fun h10=>?_) fun h10=>?_
  ·simp only[Bool.and_eq_true,decide_eq_true_eq] at h10
   refine J 8 ?_
   refine .aP rfl rfl fun w s=>⟨(),?_,trivial,aj .auto s⟩
   refine wK ?_;unfold cls;repeat (first | rw[if_pos (by omega)] | rw[if_neg (by omega)])
  ·simp only[Bool.and_eq_false_iff,decide_eq_false_iff_not] at h10
   refine J 5 ?_
   apply aJ.eT 3 23 20 [20,21,22,23] rfl
   ·intro h20
    exact JS 4
   ·intro h20
    exact JS 4
   refine JD 3 (fun h17=>?_) fun h17=>?_
   ·simp only[Bool.and_eq_true,decide_eq_true_eq] at h17
    refine J 8 ?_
    refine .aP rfl rfl fun w s=>⟨(),?_,trivial,aj .auto s⟩
    refine wK ?_;unfold cls;repeat (first | rw[if_pos (by omega)] | rw[if_neg (by omega)])
   ·simp only[Bool.and_eq_false_iff,decide_eq_false_iff_not] at h17
    refine J 9 ?_
    refine .aP rfl rfl fun w s=>⟨(),?_,trivial,aj .auto s⟩
    refine wK ?_;unfold cls;repeat (first | rw[if_pos (by omega)] | rw[if_neg (by omega)])
theorem rG{W:World}{f:Form}{n:Int}(hf:f.n≤9223372036854775807):Fn Tryz.prog W 113 [.agg (dF f).toArray,.int .u64 n] [] Unit (fun _=>.bool (f.below n)) (fun _=>True) (fun _=>[]):=by
 refine Fn.intro (N:=24) func113 rfl ntmps113 rfl fun F=>?_
 show aq _ _ _ _ _ _ [F]
 refine J 2 ?_
 refine .ai rfl (ab.box rfl rfl rfl) ?_
 rintro _ _ ⟨b2,rfl,rfl⟩
 refine JD 12 (fun h5=>?_) fun h5=>?_
 ·refine J 8 ?_
  refine .aP rfl rfl fun w s=>⟨(),?_,trivial,aj .auto s⟩
  rw[Form.below,if_pos h5]
 ·refine JD 8 (fun h8=>?_) fun h8=>?_
  ·refine J 10 ?_
   refine .aP rfl rfl fun w s=>⟨(),?_,trivial,aj .auto s⟩
   rw[Form.below,if_neg (by simp[h5]),if_pos h8]
  ·refine J 9 ?_
   apply aJ.eT 6 23 17 [17,18,19,20,21,22,23] rfl
   ·intro h17
    refine J 3 ?_
    refine .g (.qJ underlying3 underlying86 rfl (by omega)) ?_
    exact JS 3
   ·intro h17
    exact JS 7
   refine J 4 ?_
   refine .aP rfl rfl fun w s=>⟨(),?_,trivial,aj .auto s⟩
   rw[Form.below,if_neg (by simp[h5]),if_neg h8]
theorem Gs{W:World}{A:aa}{v:aW}(hp:ez W [A] v){op:Int}:Fn Tryz.prog W 111 [.agg (fe v).toArray,.int .i64 op] [A] Unit (fun _=>.agg (dF (bJ v.p op)).toArray) (fun _=>True) (fun _=>[A]):=by
 refine Fn.intro (N:=73) func111 rfl ntmps111 rfl fun F=>?_
 haveI hI1:∀ (H:List aa) [bE H A],aG W H v.fv dP 1 v.fs:=fun H h=>⟨hp.fs.at h.has⟩
 haveI hI2:∀ (H:List aa) [bE H A],aG W H v.sv ar 1 v.sems:=fun H h=>⟨hp.sems.at h.has⟩
 haveI hI3:∀ (H:List aa) [bE H A],aG W H v.pv ar 1 v.pipes:=fun H h=>⟨hp.pipes.at h.has⟩
 show aq _ _ _ _ _ _ [A,F]
 refine J 2 ?_
 refine .ai rfl (ab.box rfl rfl rfl) ?_
 rintro _ _ ⟨b2,rfl,rfl⟩
 refine .ai rfl (ab.alloc rfl zeroValue204 rfl) ?_
 rintro _ _ ⟨b4,rfl,rfl⟩
 refine JD 15 (fun h6=>?_) fun h6=>?_
 ·refine J 2 ?_
  refine .p (.fW (fun v1 v2=>[v1,(.bool false),(.int .i64 0),v2]) rfl rfl (by kernel_rfl)) ?_
  refine J 6 ?_
  refine .dt rfl rfl isAgg204 (by exact sizeOf204) Cells.a fun w s=>⟨(),?_,trivial,aj .auto s⟩
  simp[bJ,dF, *]
 ·refine JD 7 (fun h9=>?_) fun h9=>?_
  ·refine J 2 ?_
   first | refine aq.dK rfl (fun _=>?_) (fun hc=>absurd h9 hc) | refine aq.cond rfl (fun _=>?_) (fun hc=>by rw[h9] at hc;cases hc)
   refine J 2 ?_
   refine .p (.fW (fun v1 v2=>[v1,(.bool false),v2,(.bool false)]) rfl rfl (by kernel_rfl)) ?_
   refine J 6 ?_
   refine .dt rfl rfl isAgg204 (by exact sizeOf204) Cells.a fun w s=>⟨(),?_,trivial,aj .auto s⟩
   simp[bJ,dF, *]
  ·refine JD 6 (fun h9=>?_) fun h9=>?_
   ·refine J 2 ?_
    first | refine aq.dK rfl (fun _=>?_) (fun hc=>absurd h9 hc) | refine aq.cond rfl (fun _=>?_) (fun hc=>by rw[h9] at hc;cases hc)
    refine J 2 ?_
    refine .p (.fW (fun v1 v2=>[v1,(.bool false),v2,(.bool false)]) rfl rfl (by kernel_rfl)) ?_
    refine J 6 ?_
    refine .dt rfl rfl isAgg204 (by exact sizeOf204) Cells.a fun w s=>⟨(),?_,trivial,aj .auto s⟩
    simp[bJ,dF, *]
   ·refine JD 6 (fun h9=>?_) fun h9=>?_
    ·refine J 2 ?_
     first | refine aq.dK rfl (fun _=>?_) (fun hc=>absurd h9 hc) | refine aq.cond rfl (fun _=>?_) (fun hc=>by rw[h9] at hc;cases hc)
     refine J 2 ?_
     refine .p (.fW (fun v1 v2=>[v1,(.bool false),v2,(.bool false)]) rfl rfl (by kernel_rfl)) ?_
     refine J 6 ?_
     refine .dt rfl rfl isAgg204 (by exact sizeOf204) Cells.a fun w s=>⟨(),?_,trivial,aj .auto s⟩
     simp[bJ,dF, *]
    ·refine JD 6 (fun h9=>?_) fun h9=>?_
     ·refine J 2 ?_
      first | refine aq.dK rfl (fun _=>?_) (fun hc=>absurd h9 hc) | refine aq.cond rfl (fun _=>?_) (fun hc=>by rw[h9] at hc;cases hc)
      refine J 2 ?_
      refine .p (.fW (fun v1 v2=>[v1,(.bool false),v2,(.bool false)]) rfl rfl (by kernel_rfl)) ?_
      refine J 6 ?_
      refine .dt rfl rfl isAgg204 (by exact sizeOf204) Cells.a fun w s=>⟨(),?_,trivial,aj .auto s⟩
      simp[bJ,dF, *]
     ·refine JD 6 (fun h9=>?_) fun h9=>?_
      ·refine J 2 ?_
       first | refine aq.dK rfl (fun _=>?_) (fun hc=>absurd h9 hc) | refine aq.cond rfl (fun _=>?_) (fun hc=>by rw[h9] at hc;cases hc)
       refine J 2 ?_
       refine .p (.fW (fun v1 v2=>[v1,(.bool false),v2,(.bool false)]) rfl rfl (by kernel_rfl)) ?_
       refine J 6 ?_
       refine .dt rfl rfl isAgg204 (by exact sizeOf204) Cells.a fun w s=>⟨(),?_,trivial,aj .auto s⟩
       simp[bJ,dF, *]
      ·refine JD 6 (fun h9=>?_) fun h9=>?_
       ·refine J 2 ?_
        first | refine aq.dK rfl (fun _=>?_) (fun hc=>absurd h9 hc) | refine aq.cond rfl (fun _=>?_) (fun hc=>by rw[h9] at hc;cases hc)
        refine J 2 ?_
        refine .p (.fW (fun v1 v2=>[v1,(.bool false),v2,(.bool false)]) rfl rfl (by kernel_rfl)) ?_
        refine J 6 ?_
        refine .dt rfl rfl isAgg204 (by exact sizeOf204) Cells.a fun w s=>⟨(),?_,trivial,aj .auto s⟩
        simp[bJ,dF, *]
       ·refine JD 6 (fun h9=>?_) fun h9=>?_
        ·refine J 2 ?_
         first | refine aq.dK rfl (fun _=>?_) (fun hc=>absurd h9 hc) | refine aq.cond rfl (fun _=>?_) (fun hc=>by rw[h9] at hc;cases hc)
         refine J 2 ?_
         refine .p (.fW (fun v1 v2=>[v1,(.bool false),v2,(.bool false)]) rfl rfl (by kernel_rfl)) ?_
         refine J 6 ?_
         refine .dt rfl rfl isAgg204 (by exact sizeOf204) Cells.a fun w s=>⟨(),?_,trivial,aj .auto s⟩
         simp[bJ,dF, *]
        ·refine JD 5 (fun h9=>?_) fun h9=>?_
         ·refine J 2 ?_
          refine .p (.fW (fun v1 v2=>[v1,(.bool false),v2,(.bool false)]) rfl rfl (by kernel_rfl)) ?_
          refine J 6 ?_
          refine .dt rfl rfl isAgg204 (by exact sizeOf204) Cells.a fun w s=>⟨(),?_,trivial,aj .auto s⟩
          simp[bJ,dF, *]
         ·refine JD 6 (fun h19=>?_) fun h19=>?_
          ·refine J 2 ?_
           refine .p (.iK (fun v1=>[(.int .i64 0),(.bool false),v1,(.bool false)]) rfl (by kernel_rfl)) ?_
           refine J 6 ?_
           refine .dt rfl rfl isAgg204 (by exact sizeOf204) Cells.a fun w s=>⟨(),?_,trivial,aj .auto s⟩
           simp[bJ,dF, *]
          ·refine JD 6 (fun h22=>?_) fun h22=>?_
           ·refine J 2 ?_
            refine .p (.fW (fun v1 v2=>[v1,(.bool false),v2,(.bool false)]) rfl rfl (by kernel_rfl)) ?_
            refine J 6 ?_
            refine .dt rfl rfl isAgg204 (by exact sizeOf204) Cells.a fun w s=>⟨(),?_,trivial,aj .auto s⟩
            simp[bJ,dF, *]
           ·refine JD 6 (fun h25=>?_) fun h25=>?_
            ·refine J 5 ?_
             refine .p (.fW (fun v1 v2=>[v1,(.bool false),v2,(.bool false)]) rfl rfl (by kernel_rfl)) ?_
             refine J 6 ?_
             refine .dt rfl rfl isAgg204 (by exact sizeOf204) Cells.a fun w s=>⟨(),?_,trivial,aj .auto s⟩
             simp[bJ,dF,aW.p, *]
            ·refine JD 7 (fun h31=>?_) fun h31=>?_
             ·refine J 2 ?_
              first | refine aq.dK rfl (fun _=>?_) (fun hc=>absurd h31 hc) | refine aq.cond rfl (fun _=>?_) (fun hc=>by rw[h31] at hc;cases hc)
              refine J 2 ?_
              refine .p (.fW (fun v1 v2=>[v1,(.bool false),v2,(.bool false)]) rfl rfl (by kernel_rfl)) ?_
              refine J 6 ?_
              refine .dt rfl rfl isAgg204 (by exact sizeOf204) Cells.a fun w s=>⟨(),?_,trivial,aj .auto s⟩
              simp[bJ,dF, *]
             ·refine JD 6 (fun h31=>?_) fun h31=>?_
              ·refine J 2 ?_
               first | refine aq.dK rfl (fun _=>?_) (fun hc=>absurd h31 hc) | refine aq.cond rfl (fun _=>?_) (fun hc=>by rw[h31] at hc;cases hc)
               refine J 2 ?_
               refine .p (.fW (fun v1 v2=>[v1,(.bool false),v2,(.bool false)]) rfl rfl (by kernel_rfl)) ?_
               refine J 6 ?_
               refine .dt rfl rfl isAgg204 (by exact sizeOf204) Cells.a fun w s=>⟨(),?_,trivial,aj .auto s⟩
               simp[bJ,dF, *]
              ·refine JD 6 (fun h31=>?_) fun h31=>?_
               ·refine J 2 ?_
                first | refine aq.dK rfl (fun _=>?_) (fun hc=>absurd h31 hc) | refine aq.cond rfl (fun _=>?_) (fun hc=>by rw[h31] at hc;cases hc)
                refine J 2 ?_
                refine .p (.fW (fun v1 v2=>[v1,(.bool false),v2,(.bool false)]) rfl rfl (by kernel_rfl)) ?_
                refine J 6 ?_
                refine .dt rfl rfl isAgg204 (by exact sizeOf204) Cells.a fun w s=>⟨(),?_,trivial,aj .auto s⟩
                simp[bJ,dF, *]
               ·refine JD 6 (fun h31=>?_) fun h31=>?_
                ·refine J 2 ?_
                 first | refine aq.dK rfl (fun _=>?_) (fun hc=>absurd h31 hc) | refine aq.cond rfl (fun _=>?_) (fun hc=>by rw[h31] at hc;cases hc)
                 refine J 2 ?_
                 refine .p (.fW (fun v1 v2=>[v1,(.bool false),v2,(.bool false)]) rfl rfl (by kernel_rfl)) ?_
                 refine J 6 ?_
                 refine .dt rfl rfl isAgg204 (by exact sizeOf204) Cells.a fun w s=>⟨(),?_,trivial,aj .auto s⟩
                 simp[bJ,dF, *]
                ·refine JD 5 (fun h31=>?_) fun h31=>?_
                 ·refine J 2 ?_
                  refine .p (.fW (fun v1 v2=>[v1,(.bool false),v2,(.bool false)]) rfl rfl (by kernel_rfl)) ?_
                  refine J 6 ?_
                  refine .dt rfl rfl isAgg204 (by exact sizeOf204) Cells.a fun w s=>⟨(),?_,trivial,aj .auto s⟩
                  simp[bJ,dF, *]
                 ·refine JD 6 (fun h38=>?_) fun h38=>?_
                  ·refine J 2 ?_
                   refine .p (.iK (fun v1=>[(.int .i64 0),(.bool false),v1,(.bool false)]) rfl (by kernel_rfl)) ?_
                   refine J 6 ?_
                   refine .dt rfl rfl isAgg204 (by exact sizeOf204) Cells.a fun w s=>⟨(),?_,trivial,aj .auto s⟩
                   simp[bJ,dF, *]
                  ·refine JD 7 (fun h41=>?_) fun h41=>?_
                   ·refine J 2 ?_
                    first | refine aq.dK rfl (fun _=>?_) (fun hc=>absurd h41 hc) | refine aq.cond rfl (fun _=>?_) (fun hc=>by rw[h41] at hc;cases hc)
                    refine J 4 ?_
                    refine .p (.iK (fun v1=>[(.int .i64 0),(.bool false),v1,(.bool false)]) rfl (by kernel_rfl)) ?_
                    refine J 6 ?_
                    refine .dt rfl rfl isAgg204 (by exact sizeOf204) Cells.a fun w s=>⟨(),?_,trivial,aj .auto s⟩
                    simp[bJ,dF,aW.p, *]
                   ·refine JD 5 (fun h41=>?_) fun h41=>?_
                    ·refine J 4 ?_
                     refine .p (.iK (fun v1=>[(.int .i64 0),(.bool false),v1,(.bool false)]) rfl (by kernel_rfl)) ?_
                     refine J 6 ?_
                     refine .dt rfl rfl isAgg204 (by exact sizeOf204) Cells.a fun w s=>⟨(),?_,trivial,aj .auto s⟩
                     simp[bJ,dF,aW.p, *]
                    ·refine JD 6 (fun h47=>?_) fun h47=>?_
                     ·refine J 4 ?_
                      refine .p (.fW (fun v1 v2=>[(.int .i64 0),v2,v1,(.bool false)]) rfl rfl (by kernel_rfl)) ?_
                      refine J 6 ?_
                      refine .dt rfl rfl isAgg204 (by exact sizeOf204) Cells.a fun w s=>⟨(),?_,trivial,aj .auto s⟩
                      simp[bJ,dF,aW.p, *]
                     ·refine JD 7 (fun h52=>?_) fun h52=>?_
                      ·refine J 2 ?_
                       first | refine aq.dK rfl (fun _=>?_) (fun hc=>absurd h52 hc) | refine aq.cond rfl (fun _=>?_) (fun hc=>by rw[h52] at hc;cases hc)
                       refine J 4 ?_
                       refine .p (.iK (fun v1=>[(.int .i64 0),(.bool false),v1,(.bool false)]) rfl (by kernel_rfl)) ?_
                       refine J 6 ?_
                       refine .dt rfl rfl isAgg204 (by exact sizeOf204) Cells.a fun w s=>⟨(),?_,trivial,aj .auto s⟩
                       simp[bJ,dF,aW.p, *]
                      ·refine JD 5 (fun h52=>?_) fun h52=>?_
                       ·refine J 4 ?_
                        refine .p (.iK (fun v1=>[(.int .i64 0),(.bool false),v1,(.bool false)]) rfl (by kernel_rfl)) ?_
                        refine J 6 ?_
                        refine .dt rfl rfl isAgg204 (by exact sizeOf204) Cells.a fun w s=>⟨(),?_,trivial,aj .auto s⟩
                        simp[bJ,dF,aW.p, *]
                       ·refine JD 7 (fun h58=>?_) fun h58=>?_
                        ·refine J 2 ?_
                         first | refine aq.dK rfl (fun _=>?_) (fun hc=>absurd h58 hc) | refine aq.cond rfl (fun _=>?_) (fun hc=>by rw[h58] at hc;cases hc)
                         refine J 5 ?_
                         refine .p (.iK (fun v1=>[(.int .i64 0),(.bool false),v1,(.bool false)]) rfl (by kernel_rfl)) ?_
                         refine J 6 ?_
                         refine .dt rfl rfl isAgg204 (by exact sizeOf204) Cells.a fun w s=>⟨(),?_,trivial,aj .auto s⟩
                         simp[bJ,dF,aW.p, *]
                        ·refine JD 5 (fun h58=>?_) fun h58=>?_
                         ·refine J 5 ?_
                          refine .p (.iK (fun v1=>[(.int .i64 0),(.bool false),v1,(.bool false)]) rfl (by kernel_rfl)) ?_
                          refine J 6 ?_
                          refine .dt rfl rfl isAgg204 (by exact sizeOf204) Cells.a fun w s=>⟨(),?_,trivial,aj .auto s⟩
                          simp[bJ,dF,aW.p, *]
                         ·refine JD 7 (fun h65=>?_) fun h65=>?_
                          ·refine J 2 ?_
                           first | refine aq.dK rfl (fun _=>?_) (fun hc=>absurd h65 hc) | refine aq.cond rfl (fun _=>?_) (fun hc=>by rw[h65] at hc;cases hc)
                           refine J 5 ?_
                           refine .p (.fW (fun v1 v2=>[v1,(.bool false),v2,(.bool false)]) rfl rfl (by kernel_rfl)) ?_
                           refine J 6 ?_
                           refine .dt rfl rfl isAgg204 (by exact sizeOf204) Cells.a fun w s=>⟨(),?_,trivial,aj .auto s⟩
                           simp[bJ,dF,aW.p, *]
                          ·refine JD 5 (fun h65=>?_) fun h65=>?_
                           ·refine J 5 ?_
                            refine .p (.fW (fun v1 v2=>[v1,(.bool false),v2,(.bool false)]) rfl rfl (by kernel_rfl)) ?_
                            refine J 6 ?_
                            refine .dt rfl rfl isAgg204 (by exact sizeOf204) Cells.a fun w s=>⟨(),?_,trivial,aj .auto s⟩
                            simp[bJ,dF,aW.p, *]
                           ·refine J 5 ?_
                            refine .p (.fW (fun v1 v2=>[v1,(.bool false),v2,(.bool false)]) rfl rfl (by kernel_rfl)) ?_
                            refine J 4 ?_
                            refine .dt rfl rfl isAgg204 (by exact sizeOf204) Cells.a fun w s=>⟨(),?_,trivial,aj .auto s⟩
                            simp[bJ,dF, *]
theorem zu{W:World}{A:aa}{v:aW}(hp:ez W [A] v){i:Ins}(hb:(bJ v.p i.op).n≤9223372036854775807):Fn Tryz.prog W 84 [.agg (fe v).toArray,.agg (dO i).toArray] [A] Unit (fun _=>.bool (gS v.p i)) (fun _=>True) (fun _=>[A]):=by
 refine Fn.intro (N:=56) func84 rfl ntmps84 rfl fun F=>?_
 haveI hI1:∀ (H:List aa) [bE H A],aG W H v.fv dP 1 v.fs:=fun H h=>⟨hp.fs.at h.has⟩
 haveI hI2:∀ (H:List aa) [bE H A],aG W H v.sv ar 1 v.sems:=fun H h=>⟨hp.sems.at h.has⟩
 haveI hI3:∀ (H:List aa) [bE H A],aG W H v.pv ar 1 v.pipes:=fun H h=>⟨hp.pipes.at h.has⟩
 show aq _ _ _ _ _ _ [A,F]
 refine J 2 ?_
 refine .ai rfl (ab.box rfl rfl rfl) ?_
 rintro _ _ ⟨b2,rfl,rfl⟩
 refine .ai rfl (ab.box rfl rfl rfl) ?_
 rintro _ _ ⟨b3,rfl,rfl⟩
 refine J 8 ?_
 refine .c call110 rfl ko fun _ _=>?_
 refine JD 3 (fun h10=>?_) fun h10=>?_
 ·refine J 7 ?_
  refine .aP rfl rfl fun w s=>⟨(),?_,trivial,aj .auto s⟩
  rw[gS,if_pos h10]
 ·refine J 7 ?_
  refine .c call111 rfl (Gs hp) fun _ _=>?_
  refine .ai rfl (ab.alloc rfl zeroValue204 rfl) ?_
  rintro _ _ ⟨b5,rfl,rfl⟩
  refine J 10 ?_
  refine .c call112 rfl lu fun _ _=>?_
  refine JD 10 (fun h22=>?_) fun h22=>?_
  ·refine J 5 ?_
   apply aJ.eT 6 32 26 [26,27,28,29,30,31,32] rfl
   ·intro h26
    exact JS 7
   ·intro h26
    exact JS 7
   refine J 10 ?_
   refine .c call112 rfl lu fun _ _=>?_
   refine J 1 ?_
   apply aJ.gj 7 46 39 [39,40,41,42,43,44,45,46] rfl
   ·intro h39
    refine J 5 ?_
    refine .cg call112 rfl lu fun _ _=>?_
    exact JS 2
   ·intro h39
    exact JS 8
   refine J 1 ?_
   apply aJ.gj 2 49 47 [47,48,49] rfl
   ·intro h47
    exact JS 3
   ·intro h47
    exact JS 3
   refine J 1 ?_
   apply aJ.gj 5 55 50 [50,51,52,53,54,55] rfl
   ·intro h50
    refine J 3 ?_
    refine .cg call113 rfl (rG hb) fun _ _=>?_
    exact JS 2
   ·intro h50
    exact JS 6
   refine J 4 ?_
   refine .aP rfl rfl fun w s=>⟨(),?_,trivial,aj .auto s⟩
   refine HB ?_;rw[gS,if_neg h10];simp only[h22,if_true];try rfl
  ·refine J 9 ?_
   refine .c call112 rfl lu fun _ _=>?_
   refine J 1 ?_
   apply aJ.gj 7 46 39 [39,40,41,42,43,44,45,46] rfl
   ·intro h39
    refine J 5 ?_
    refine .cg call112 rfl lu fun _ _=>?_
    exact JS 2
   ·intro h39
    exact JS 8
   refine J 1 ?_
   apply aJ.gj 2 49 47 [47,48,49] rfl
   ·intro h47
    exact JS 3
   ·intro h47
    exact JS 3
   refine J 1 ?_
   apply aJ.gj 5 55 50 [50,51,52,53,54,55] rfl
   ·intro h50
    refine J 3 ?_
    refine .cg call113 rfl (rG hb) fun _ _=>?_
    exact JS 2
   ·intro h50
    exact JS 6
   refine J 4 ?_
   refine .aP rfl rfl fun w s=>⟨(),?_,trivial,aj .auto s⟩
   refine HB ?_;rw[gS,if_neg h10];simp only[h22,if_false,Bool.false_eq_true];try rfl
theorem Cc{W:World}{A:aa}{v:aW}(hp:ez W [A] v)(hl:v.fs.length≤1000000000∧v.sems.length≤1000000000∧v.pipes.length≤1000000000):Fn Tryz.prog W 83 [.agg (fe v).toArray] [A] Unit (fun _=>.bool (gn v.p)) (fun _=>True) (fun _=>[A]):=by
 refine Fn.intro (N:=102) func83 rfl ntmps83 rfl fun F=>?_
 haveI hI1:∀ (H:List aa) [bE H A],aG W H v.fv dP 1 v.fs:=fun H h=>⟨hp.fs.at h.has⟩
 haveI hI2:∀ (H:List aa) [bE H A],aG W H v.sv ar 1 v.sems:=fun H h=>⟨hp.sems.at h.has⟩
 haveI hI3:∀ (H:List aa) [bE H A],aG W H v.pv ar 1 v.pipes:=fun H h=>⟨hp.pipes.at h.has⟩
 show aq _ _ _ _ _ _ [A,F]
 refine J 2 ?_
 refine .ai rfl (ab.box rfl rfl rfl) ?_
 rintro _ _ ⟨b1,rfl,rfl⟩
 refine J 10 ?_
 apply aJ.eT 5 19 14 [14,15,16,17,18,19] rfl
 ·intro h14
  exact JS 6
 ·intro h14
  exact JS 6
 refine J 1 ?_
 apply aJ.gj 4 24 20 [20,21,22,23,24] rfl
 ·intro h20
  refine J 2 ?_
  refine .cg call109 rfl eZ fun _ _=>?_
  exact JS 2
 ·intro h20
  exact JS 5
 refine J 1 ?_
 apply aJ.gj 4 29 25 [25,26,27,28,29] rfl
 ·intro h25
  refine J 2 ?_
  refine .cg call109 rfl eZ fun _ _=>?_
  exact JS 2
 ·intro h25
  exact JS 5
 refine J 1 ?_
 apply aJ.gj 4 34 30 [30,31,32,33,34] rfl
 ·intro h30
  refine J 2 ?_
  refine .cg call109 rfl eZ fun _ _=>?_
  exact JS 2
 ·intro h30
  exact JS 5
 refine J 1 ?_
 apply aJ.gj 4 39 35 [35,36,37,38,39] rfl
 ·intro h35
  refine J 2 ?_
  refine .cg call109 rfl eZ fun _ _=>?_
  exact JS 2
 ·intro h35
  exact JS 5
 refine J 1 ?_
 apply aJ.gj 4 44 40 [40,41,42,43,44] rfl
 ·intro h40
  refine J 2 ?_
  refine .cg call109 rfl eZ fun _ _=>?_
  exact JS 2
 ·intro h40
  exact JS 5
 refine J 1 ?_
 apply aJ.gj 5 50 45 [45,46,47,48,49,50] rfl
 ·intro h45
  exact JS 6
 ·intro h45
  exact JS 6
 refine J 1 ?_
 apply aJ.gj 5 56 51 [51,52,53,54,55,56] rfl
 ·intro h51
  exact JS 6
 ·intro h51
  exact JS 6
 refine J 13 ?_
 refine .bf (X:=Nat×Bool) [3,5,60,61,62,63,64,65,66,67,68,69,70] (fun z=>v.fs.length-z.1) (fun z=>z.1≤v.fs.length∧z.2=oC v z.1) (fun z=>[(60,some (.int .i64 (z.1:Int))),(3,some (.bool z.2))]) (fun z=>[arr b1 0 (fe v),A,F]) (0,yQ v) ?_ ?_ ?_ ?_
 ·exact⟨Nat.zero_le _,by simp[oC]⟩
 ·exact⟨rfl,rfl,trivial⟩
 ·exact fun w s=>au.kept .auto w s
 rintro⟨k,y⟩ ⟨hk,hy⟩
 simp only at hk hy
 refine JD 6 (fun h61=>?_) fun h61=>?_
 ·refine J 6 ?_
  obtain⟨x,hx⟩:=al (show k<v.fs.length by omega)
  have hi:=hp.ins x (List.mem_of_getElem? hx)
  haveI hI4:∀ (H:List aa) [bE H A],aG W H x.1 dO 5 x.2:=fun H h=>⟨hi.at h.has⟩
  refine J 8 ?_
  apply aJ.gj 4 69 65 [65,66,67,68,69] rfl
  ·intro h65
   exact JS 5
  ·intro h65
   exact JS 5
  refine J 8 ?_
  refine .aF (k+1,(y && decide ((x.2.length:Int)≤256))) .auto rfl ?_ ?_ ?_ ?_
  ·show v.fs.length-(k+1)<v.fs.length-k;omega
  ·refine⟨by show k+1≤_;omega,?_⟩
   rw[oC,jo hx,hy,oC]
   simp only[Bool.and_assoc]
  ·exact⟨rfl,rfl,trivial⟩
  ·exact fun w s=>au.kept .auto w s
 ·refine J 15 ?_
  obtain rfl:k=v.fs.length:=by omega
  refine .bf (X:=Nat×Bool) [3,7,74,75,76,77,78,79,80,81,82,83] (fun z=>v.sems.length-z.1) (fun z=>z.1≤v.sems.length∧z.2=oD v z.1) (fun z=>[(74,some (.int .i64 (z.1:Int))),(3,some (.bool z.2))]) (fun z=>[arr b1 0 (fe v),A,F]) (0,y) ?_ ?_ ?_ ?_
  ·exact⟨Nat.zero_le _,by rw[oD,hy];simp⟩
  ·exact⟨rfl,rfl,trivial⟩
  ·exact fun w s=>au.kept .auto w s
  rintro⟨k,y⟩ ⟨hk,hy⟩
  simp only at hk hy
  refine JD 6 (fun h75=>?_) fun h75=>?_
  ·refine J 6 ?_
   obtain⟨x,hx⟩:=al (show k<v.sems.length by omega)
   refine J 8 ?_
   apply aJ.gj 3 82 79 [79,80,81,82] rfl
   ·intro h79
    refine J 1 ?_
    refine .cg call109 rfl eZ fun _ _=>?_
    exact JS 2
   ·intro h79
    exact JS 4
   refine J 8 ?_
   refine .aF (k+1,(y && within x 1048576)) .auto rfl ?_ ?_ ?_ ?_
   ·show v.sems.length-(k+1)<v.sems.length-k;omega
   ·refine⟨by show k+1≤_;omega,?_⟩
    rw[oD,jo hx,hy,oD]
    simp only[Bool.and_assoc]
   ·exact⟨rfl,rfl,trivial⟩
   ·exact fun w s=>au.kept .auto w s
  ·refine J 15 ?_
   obtain rfl:k=v.sems.length:=by omega
   refine .bf (X:=Nat×Bool) [3,9,87,88,89,90,91,92,93,94,95,96,97,98,99,100] (fun z=>v.pipes.length-z.1) (fun z=>z.1≤v.pipes.length∧z.2=oE v z.1) (fun z=>[(87,some (.int .i64 (z.1:Int))),(3,some (.bool z.2))]) (fun z=>[arr b1 0 (fe v),A,F]) (0,y) ?_ ?_ ?_ ?_
   ·exact⟨Nat.zero_le _,by rw[oE,hy];simp⟩
   ·exact⟨rfl,rfl,trivial⟩
   ·exact fun w s=>au.kept .auto w s
   rintro⟨k,y⟩ ⟨hk,hy⟩
   simp only at hk hy
   refine JD 6 (fun h88=>?_) fun h88=>?_
   ·refine J 6 ?_
    obtain⟨x,hx⟩:=al (show k<v.pipes.length by omega)
    refine J 8 ?_
    apply aJ.gj 3 95 92 [92,93,94,95] rfl
    ·intro h92
     exact JS 4
    ·intro h92
     exact JS 4
    refine J 1 ?_
    apply aJ.gj 3 99 96 [96,97,98,99] rfl
    ·intro h96
     refine J 1 ?_
     refine .cg call109 rfl eZ fun _ _=>?_
     exact JS 2
    ·intro h96
     exact JS 4
    refine J 8 ?_
    refine .aF (k+1,((y && decide (0<x)) && within x 8)) .auto rfl ?_ ?_ ?_ ?_
    ·show v.pipes.length-(k+1)<v.pipes.length-k;omega
    ·refine⟨by show k+1≤_;omega,?_⟩
     rw[oE,jo hx,hy,oE]
     simp only[Bool.and_assoc]
    ·exact⟨rfl,rfl,trivial⟩
    ·exact fun w s=>au.kept .auto w s
   ·refine J 12 ?_
    obtain rfl:k=v.pipes.length:=by omega
    refine .aP rfl rfl fun w s=>⟨(),?_,trivial,aj .auto s⟩
    rw[hy,Dx]
theorem zv{W:World}{A:aa}{v:aW}(hp:ez W [A] v)(hl:v.fs.length≤1000000000∧v.sems.length≤1000000000∧v.pipes.length≤1000000000):Fn Tryz.prog W 53 [.agg (fe v).toArray] [A] Unit (fun _=>.int .i64 (c0 v.p)) (fun _=>True) (fun _=>[A]):=by
 refine Fn.intro (N:=29) func53 rfl ntmps53 rfl fun F=>?_
 haveI hI1:∀ (H:List aa) [bE H A],aG W H v.fv dP 1 v.fs:=fun H h=>⟨hp.fs.at h.has⟩
 haveI hI2:∀ (H:List aa) [bE H A],aG W H v.sv ar 1 v.sems:=fun H h=>⟨hp.sems.at h.has⟩
 haveI hI3:∀ (H:List aa) [bE H A],aG W H v.pv ar 1 v.pipes:=fun H h=>⟨hp.pipes.at h.has⟩
 show aq _ _ _ _ _ _ [A,F]
 refine J 2 ?_
 refine .ai rfl (ab.box rfl rfl rfl) ?_
 rintro _ _ ⟨b1,rfl,rfl⟩
 refine J 7 ?_
 refine .c call83 rfl (Cc hp hl) fun _ _=>?_
 refine JD 3 (fun h9=>?_) fun h9=>?_
 ·refine J 7 ?_
  rw[Bool.not_eq_true'] at h9
  refine .aP rfl rfl fun w s=>⟨(),?_,trivial,aj .auto s⟩
  refine wK ?_;unfold c0;rw[if_neg (by rw[h9];simp)]
 ·refine J 12 ?_
  rw[Bool.not_eq_false'] at h9
  refine .bf (X:=Nat) [2,4,6,13,14,15,16,17,18,19,20,21,22,23,24,25,26,27,28] (fun k=>v.fs.length-k) (fun k=>k≤v.fs.length∧(v.fs.take k).all (fun f:Value×List Ins=>f.2.all (gS v.p))=true) (fun k=>[(13,some (.int .i64 (k:Int)))]) (fun k=>[arr b1 0 (fe v),A,F]) 0 ?_ ?_ ?_ ?_
  ·exact⟨Nat.zero_le _,rfl⟩
  ·exact⟨rfl,trivial⟩
  ·exact fun w s=>au.kept .auto w s
  rintro k ⟨hk,hs⟩
  refine JD 6 (fun h14=>?_) fun h14=>?_
  ·refine J 6 ?_
   obtain⟨x,hx⟩:=al (show k<v.fs.length by omega)
   have hi:=hp.ins x (List.mem_of_getElem? hx)
   haveI hI4:∀ (H:List aa) [bE H A],aG W H x.1 dO 5 x.2:=fun H h=>⟨hi.at h.has⟩
   have hx256:x.2.length≤256:=AA h9 (List.mem_of_getElem? hx)
   refine J 13 ?_
   refine .bf (X:=Nat) [2,6,19,20,21,22,23,24,25,26,27] (fun j=>x.2.length-j) (fun j=>j≤x.2.length∧(x.2.take j).all (gS v.p)=true) (fun j=>[(19,some (.int .i64 (j:Int)))]) (fun j=>[arr b1 0 (fe v),A,F]) 0 ?_ ?_ ?_ ?_
   ·exact⟨Nat.zero_le _,rfl⟩
   ·exact⟨rfl,trivial⟩
   ·exact fun w s=>au.kept .auto w s
   rintro j ⟨hj0,hsj⟩
   refine JD 6 (fun h20=>?_) fun h20=>?_
   ·refine J 6 ?_
    obtain⟨i,hj⟩:=al (show j<x.2.length by omega)
    refine J 2 ?_
    refine .ai rfl (ab.alloc rfl zeroValue88 rfl) ?_
    rintro _ _ ⟨b6,rfl,rfl⟩
    refine J 7 ?_
    refine .c call84 rfl (zu hp (Bx h9 _)) fun _ _=>?_
    refine JD 3 (fun h26=>?_) fun h26=>?_
    ·refine J 15 ?_
     rw[Bool.not_eq_true'] at h26
     refine .aP rfl rfl fun w s=>⟨(),?_,trivial,aj .auto s⟩
     exact wK (By h9 hx hj h26).symm
    ·refine J 7 ?_
     rw[Bool.not_eq_false'] at h26
     refine .aF (j+1) .auto rfl ?_ ?_ ?_ ?_
     ·first | omega | (dsimp only;omega)
     ·exact⟨by omega,by rw[jo hj,hsj,h26];rfl⟩
     ·exact⟨rfl,trivial⟩
     ·exact fun w s=>au.kept .auto w s
   ·refine J 10 ?_
    obtain rfl:j=x.2.length:=by omega
    rw[List.take_length] at hsj
    refine .aF (k+1) .auto rfl ?_ ?_ ?_ ?_
    ·first | omega | (dsimp only;omega)
    ·exact⟨by omega,by rw[jo hx,hs,hsj];rfl⟩
    ·exact⟨rfl,trivial⟩
    ·exact fun w s=>au.kept .auto w s
  ·refine J 11 ?_
   obtain rfl:k=v.fs.length:=by omega
   rw[List.take_length] at hs
   refine .aP rfl rfl fun w s=>⟨(),?_,trivial,aj .auto s⟩
   exact wK (Dy h9 hs).symm
end Go.SLYthncobnjdhjnoaaGreat
namespace Go.SLYthncobnjdhjnoaaGreat
open Go Go.RowKit Go.Proofs Go.Proofs.Tryz
attribute [local irreducible] aq aJ ba bq bu Y
theorem mQ{W:World}{n m:Int}:Fn Tryz.prog W 85 [.int .i64 n,.int .i64 m] [] Unit (fun _=>.int .i64 (ay n m)) (fun _=>True) (fun _=>[]):=by
 refine Fn.intro (N:=9) func85 rfl ntmps85 rfl fun F=>?_
 show aq _ _ _ _ _ _ [F]
 refine J 8 ?_
 refine .p (.qT rfl rfl) ?_
 refine J 1 ?_
 refine .p (.jq rfl rfl) ?_
 exact JR 4 ()
theorem Ey{W:World}{n:Int}:Fn Tryz.prog W 54 [.int .i64 n] [] Nat (fun b=>ptr b) (fun _=>True) (fun b=>[kM b (List.replicate (ay n 1024).toNat (false,0))]):=by
 refine Fn.intro (N:=9) func54 rfl ntmps54 rfl fun F=>?_
 show aq _ _ _ _ _ _ [F]
 refine J 8 ?_
 refine .p (.qT rfl rfl) ?_
 refine .p (.jq rfl rfl) ?_
 have hc:(ay n 1024).toNat≤1024:=by unfold ay;omega
 refine .ai rfl (ab.Bu (enc:=FL) (k:=2) (false,0) (ay n 1024).toNat rfl underlying151 typeInfo210 rfl rfl rfl rfl (by decide) (by decide) rfl rfl (by unfold ay;omega) (by unfold ay;omega) (by omega)) ?_
 rintro _ _ ⟨b6,rfl,rfl⟩
 refine .p (.iK (fun v1=>[v1]) rfl (by kernel_rfl)) ?_
 refine .ai rfl (ab.box rfl rfl rfl) ?_
 rintro _ _ ⟨b8,rfl,rfl⟩
 exact JR 4 b8
theorem Ez{W:World}{n:Int}:Fn Tryz.prog W 56 [.int .i64 n] [] Nat (fun b=>ptr b) (fun _=>True) (fun b=>[sL b (kW.new n)]):=by
 refine Fn.intro (N:=9) func56 rfl ntmps56 rfl fun F=>?_
 show aq _ _ _ _ _ _ [F]
 refine J 8 ?_
 refine .p (.qT rfl rfl) ?_
 refine .p (.jq rfl rfl) ?_
 have hc:(ay n 64).toNat≤64:=by unfold ay;omega
 refine .ai rfl (ab.Bu (enc:=ey) (k:=1) (0:Int) (ay n 64).toNat rfl underlying108 typeInfo86 rfl rfl rfl rfl (by decide) (by decide) rfl rfl (by unfold ay;omega) (by unfold ay;omega) (by omega)) ?_
 rintro _ _ ⟨b6,rfl,rfl⟩
 refine .p (.iK (fun v1=>[v1,(.slice none 0 0)]) rfl (by kernel_rfl)) ?_
 refine .ai rfl (ab.box rfl rfl rfl) ?_
 rintro _ _ ⟨b8,rfl,rfl⟩
 exact JR 4 b8
theorem EA{W:World}{n:Int}:Fn Tryz.prog W 60 [.int .i64 n] [] Nat (fun b=>ptr b) (fun _=>True) (fun b=>[gL b (Tub.new n)]):=by
 refine Fn.intro (N:=8) func60 rfl ntmps60 rfl fun F=>?_
 show aq _ _ _ _ _ _ [F]
 refine J 8 ?_
 refine .p (.qT rfl rfl) ?_
 refine .p (.jq rfl rfl) ?_
 refine .p (.iK (fun v1=>[v1,(.slice none 0 0),(.slice none 0 0),(.slice none 0 0)]) rfl (by kernel_rfl)) ?_
 refine .ai rfl (ab.box rfl rfl rfl) ?_
 rintro _ _ ⟨b7,rfl,rfl⟩
 exact JR 4 b7
theorem Cd{W:World}  : Fn Tryz.prog W 87 [] [] Nat (fun b=>ptr b) (fun _=>True) (fun b=>[eK b []]):=by
 refine Fn.intro (N:=3) func87 rfl ntmps87 rfl fun F=>?_
 show aq _ _ _ _ _ _ [F]
 refine J 7 ?_
 refine .p (.l9 ([(.slice none 0 0)]) (by kernel_rfl)) ?_
 refine .ai rfl (ab.box rfl rfl rfl) ?_
 rintro _ _ ⟨b2,rfl,rfl⟩
 exact JR 4 b2
theorem Ce{W:World}  : Fn Tryz.prog W 57 [] [] Nat (fun b=>ptr b) (fun _=>True) (fun b=>[my b kK.new]):=by
 refine Fn.intro (N:=4) func57 rfl ntmps57 rfl fun F=>?_
 show aq _ _ _ _ _ _ [F]
 refine J 7 ?_
 refine .ai rfl (ab.makeMap rfl) ?_
 rintro _ _ ⟨m1,rfl,rfl⟩
 refine .p (.iK (fun v1=>[(.int .i64 0),v1]) rfl (by kernel_rfl)) ?_
 refine .ai rfl (ab.box rfl rfl rfl) ?_
 rintro _ _ ⟨b3,rfl,rfl⟩
 refine J 4 ?_
 refine .to (A:=mu m1 []) (Bs:=[ig m1 (.map #[] 0)]) .auto (fun h a=>⟨[],0,⟨rfl,List.nodup_nil,fun e he=>(by cases he),List.nodup_nil⟩,a⟩) ?_
 exact JR 0 b3
theorem pR{W:World}{o:Bool×Int}{n:Nat}(ho:0≤o.2∧o.2<2199023255552)(hn:n<65536):Fn Tryz.prog W 114 [.agg (FL o).toArray,.int .i64 (n:Int)] [] Unit (fun _=>.int .u64 (dM o.2 n)) (fun _=>True) (fun _=>[]):=by
 refine Fn.intro (N:=12) func114 rfl ntmps114 rfl fun F=>?_
 show aq _ _ _ _ _ _ [F]
 refine J 2 ?_
 refine .ai rfl (ab.box rfl rfl rfl) ?_
 rintro _ _ ⟨b2,rfl,rfl⟩
 refine J 7 ?_
 refine .p (.Bq rfl rfl (by omega)) ?_
 refine J 1 ?_
 refine .p (.qJ underlying3 underlying86 rfl (by omega)) ?_
 refine .p (.yB rfl rfl (by omega)) ?_
 refine .p (.yB rfl rfl (by omega)) ?_
 exact JR 4 ()
theorem Cf{W:World}{b:Nat}{l:List (Bool×Int)}(hl:iq l):Fn Tryz.prog W 86 [ptr b] [kM b l] Unit (fun _=>.tuple #[.int .i64 (dQ l).1,.int .u64 (dQ l).2.1,.int .i64 (dQ l).2.2.1]) (fun _=>True) (fun _=>[kM b (dQ l).2.2.2]):=by
 refine Fn.intro (N:=45) func86 rfl ntmps86 rfl fun F=>?_
 show aq _ _ _ _ _ _ [kM b l,F]
 refine .o1 (C:=kM b l) .auto rfl ?_
 rintro v -
 obtain⟨hl1,hl2⟩:=hl
 refine J 14 ?_
 refine .eN rfl ?_
 refine J 14 ?_
 refine .bf (X:=Nat) [2,3,4,5,6,14,15,16,17,18,19,20,21,22,23,24,25,26,27,28,29,30,31,32,33,34,35,36,37,38,39,40,41,42,43,44] (fun k=>l.length-k) (fun k=>k≤l.length∧slotFree? l 0=slotFree? (l.drop k) k) (fun k=>[(14,some (.int .i64 (k:Int)))]) (fun k=>[arr b 0 [v],sl FL 2 v l,F]) 0 ?_ ?_ ?_ ?_
 ·exact⟨Nat.zero_le _,by simp⟩
 ·exact⟨rfl,trivial⟩
 ·exact fun w s=>au.kept .auto w s
 rintro k ⟨hk,hn⟩
 refine JD 6 (fun h15=>?_) fun h15=>?_
 ·refine J 17 ?_
  obtain⟨o,hx⟩:=al (show k<l.length by omega)
  have ho:=hl2 o (List.mem_of_getElem? hx)
  refine JD 13 (fun h27=>?_) fun h27=>?_
  ·refine J 2 ?_
   have hu:o.1=false:=by simpa using h27
   obtain⟨o1,o2⟩:=o
   have hu:o1=false:=hu
   subst hu
   have hx2:(l.set k (true,o2))[k]?=some (true,o2):=wH hx
   have hx3:((l.set k (true,o2)).set k (true,o2+1))[k]?=some (true,o2+1):=wH hx2
   refine J 3 ?_
   refine .ai rfl (ab.ew (x':=(true,o2)) rfl rfl sizeOf4 rfl hx (by decide) rfl (by repeat (first | exact fE.here | apply fE.there))) ?_
   rintro _ _ ⟨rfl,rfl⟩
   refine J 7 ?_
   refine .p (.ld rfl (Cell.rd Rd.s ‹_› (by rfl))) ?_
   refine .p (.yB rfl rfl (by simp only at ho;omega)) ?_
   refine J 2 ?_
   refine .ai rfl (ab.jW (c:=1) (x':=(true,o2+1)) rfl rfl sizeOf86 rfl hx2 (by decide) rfl (by repeat (first | exact fE.here | apply fE.there))) ?_
   rintro _ _ ⟨rfl,rfl⟩
   refine J 9 ?_
   refine .c call114 rfl (pR (o:=(true,o2+1)) (n:=k) (by simp only at ho ⊢;omega) (by omega)) fun _ _=>?_
   refine J 11 ?_
   have e:dQ l=((k:Int),dM (o2+1) k,0,(l.set k (true,o2)).set k (true,o2+1)):=by
    unfold dQ;rw[hn,DA hx rfl];simp only[List.getD_eq_getElem?_getD,hx,List.set_set];rfl
   rw[e]
   refine .kS rfl rfl rfl rfl fun w s=>⟨(),?_,trivial,aj .auto s⟩
   rfl
  ·refine J 7 ?_
   refine .aF (k+1) .auto rfl ?_ ?_ ?_ ?_
   ·first | omega | (dsimp only;omega)
   ·exact⟨by omega,hn.trans (BD hx (by simpa using h27))⟩
   ·exact⟨rfl,trivial⟩
   ·exact fun w s=>au.kept .auto w s
 ·refine J 13 ?_
  rw[show dQ l=(0,0,2,l) from by unfold dQ;rw[hn,DB (by omega)]]
  refine .kS rfl rfl rfl rfl fun w s=>⟨(),?_,trivial,aj .auto s⟩
  rfl
theorem rH{W:World}{b:Nat}{ps:List (Option Nat)}{s:Spc}{f arg:Int}(hT:iq s.table)(hl:s.aA.length=16)(hf:∀ n,slotFree? s.table 0=some n→s.aA[n]?=some none):Fn Tryz.prog W 61 [ptr b,.int .i64 f,.int .u64 arg] [cn b ps s] (List (Option Nat)) (fun _=>.tuple #[.int .i64 (s.begin f arg).1,.int .i64 (s.begin f arg).2.1]) (fun qs=>∃ p,qs=lQ s.table ps p) (fun qs=>[cn b qs (s.begin f arg).2.2]):=by
 refine Fn.intro (N:=45) func61 rfl ntmps61 rfl fun F=>?_
 show aq _ _ _ _ _ _ [cn b ps s,F]
 refine .iQ (C:=cn b ps s) .auto rfl ?_
 rintro fv sv pv bt vm bg vt bd bw vr -
 refine .cA (fun w s=>s.fact .auto jr) fun hs=>?_
 refine J 12 ?_
 refine .c call86 rfl (Cf hT) fun _ _=>?_
 refine JD 16 (fun h22=>?_) fun h22=>?_
 ·refine J 9 ?_
  obtain⟨hn,e⟩:=wN h22
  rw[e,js hn]
  refine .eO rfl rfl rfl fun w s=>⟨ps,?_,⟨0,by unfold lQ;rw[hn]⟩,aj .auto s⟩
  rfl
 ·refine J 4 ?_
  obtain⟨n,hn,e⟩:=wM (Decidable.of_not_not h22)
  have hfn:=hf n hn
  have hn16:n<16:=hl ▸ (List.getElem?_eq_some_iff.1 hfn).1
  rw[e,eA hn]
  refine J 1 ?_
  refine .p (.sK (fun v1 v2 v3=>[(.int .i64 0),(.int .i64 0),(.int .u64 0),(.int .u64 0),(.int .u64 0),(.int .u64 0),(.int .u64 0),(.int .u64 0),(.int .u64 0),(.int .u64 0),v1,(.int .i64 0),(.int .u64 0),(.bool false),v2,(.int .i64 0),v3,(.int .u64 0)]) rfl rfl rfl (by kernel_rfl)) ?_
  refine .ai rfl (ab.box rfl rfl rfl) ?_
  rintro _ _ ⟨b26,rfl,rfl⟩
  refine J 20 ?_
  refine .p (.dh _ underlying139 sizeOf86 rfl rfl rfl (by first | omega | decide)) ?_
  refine J 10 ?_
  refine .p (.dh n underlying107 sizeOf106 rfl rfl rfl (by omega)) ?_
  refine .ai rfl (ab.st sizeOf106 rfl rfl rfl (Nat.blt_eq.mpr (by show 9+n * 1<31;omega))) ?_
  rintro _ _ ⟨rfl,rfl⟩
  rw[Nat.mul_one]
  have e9:=@wL fv sv pv s.eE bt ps vm bg vt bd bw vr n (by omega) (hs.1.trans hl) (some b26)
  rw[show dN (some b26)=Value.pointer (some ⟨b26,0,none⟩) from rfl] at e9
  rw[e9]
  refine J 10 ?_
  refine .to (A:=ax (ps.set n (some b26)) (s.aA.set n (some (qb f arg (dM ((s.table.getD n (false,0)).2+1) n))))) (Bs:=[arr b26 0 (bb (qb f arg (dM ((s.table.getD n (false,0)).2+1) n))),ax ps s.aA]) .auto (DD hfn) ?_
  refine .eO rfl rfl rfl fun w s=>⟨ps.set n (some b26),?_,⟨b26,by unfold lQ;rw[hn]⟩,aj .auto s⟩
  rfl
theorem mR{W:World}{b:Nat}{ps:List (Option Nat)}{s:Spc}(hl:s.aA.length=16):Fn Tryz.prog W 45 [ptr b] [cn b ps s] Value (fun u=>u) (fun _=>True) (fun u=>[sl ar 1 u s.ready,cn b ps s]):=by
 refine Fn.intro (N:=31) func45 rfl ntmps45 rfl fun F=>?_
 show aq _ _ _ _ _ _ [cn b ps s,F]
 refine .iQ (C:=cn b ps s) .auto rfl ?_
 rintro fv sv pv bt vm bg vt bd bw vr -
 refine .cA (fun w s=>s.fact .auto jr) fun hs=>?_
 refine J 12 ?_
 refine .eN rfl ?_
 refine J 13 ?_
 refine .p (.la rfl (Cells.kT (ds:=IV ps) Cells.a rfl)) ?_
 refine J 4 ?_
 refine .bf (X:=Nat×Value×List Int) [3,4,5,12,13,14,15,16,17,18,19,20,21,22,23,24,25,26,27,28,29] (fun z=>16-z.1) (fun z=>z.1≤16∧z.2.2.length≤z.1∧s.ready=z.2.2++readyFrom (s.aA.drop z.1) z.1) (fun z=>[(12,some (.int .i64 (z.1:Int))),(3,some z.2.1)]) (fun z=>[sl ar 1 z.2.1 z.2.2,arr b 0 (eR fv sv pv s.eE bt ps vm bg vt bd bw vr),wC fv s.eE.funcs,kM bt s.table,ax ps s.aA,sl ey 1 vm s.mem,cf bg s.ak,ns vt s.bV,sL bd s.cu,my bw s.aM,sl jm 6 vr s.aB,F]) (0,.slice none 0 0,[]) ?_ ?_ ?_ ?_
 ·exact⟨Nat.zero_le _,Nat.le_refl _,rfl⟩
 ·exact⟨rfl,rfl,trivial⟩
 ·exact fun w s=>au.kept .auto w s
 rintro⟨k,u,xs⟩ ⟨hk,hxl,hn⟩
 simp only at hk hxl hn
 refine JD 6 (fun h13=>?_) fun h13=>?_
 ·refine J 7 ?_
  have hk16:k<16:=by omega
  refine .p (.index k underlying107 isAgg106 sizeOf106 rfl rfl rfl hk16 (by rw[List.getElem?_toArray];exact Dz ps hk16)) ?_
  refine J 9 ?_
  apply aJ.gj 6 24 18 [18,19,20,21,22,23,24] rfl
  ·intro h18
   refine J 1 ?_
   have h18':((ps.getD k none).map fun b=>(⟨b,0,none⟩:Addr)).isNone=false:=by simpa using h18
   obtain⟨p,t,hp,ht⟩:=s9 hs (by omega) h18'
   rw[bx hp]
   refine J 2 ?_
   refine .g (.eS (Y.load isAgg3 rfl (Cell.JO (by repeat (first | exact At.here | refine At.there ?_)) (BB hp ht) rfl)) (yS ht)) ?_
   exact JS 3
  ·intro h18
   exact JS 7
  refine JD 2 (fun h24=>?_) fun h24=>?_
  ·simp only[Bool.and_eq_true,decide_eq_true_eq,Bool.not_eq_true'] at h24
   refine J 3 ?_
   refine .ai rfl (ab.fG 3 rfl rfl (by kernel_rfl)) ?_
   rintro _ _ ⟨b27,rfl,rfl⟩
   refine .ai rfl (ab.gv (enc:=ar) (k:=1) (k:Int) rfl underlying33 underlying33 typeInfo3 rfl rfl rfl (by decide) rfl rfl rfl .auto rfl .auto (by first | omega | (dsimp only;omega)) rfl) ?_
   rintro _ _ ⟨v28,rfl,rfl⟩
   refine J 8 ?_
   refine .aF (k+1,v28,xs++[(k:Int)]) .auto rfl ?_ ?_ ?_ ?_
   ·show 16-(k+1)<16-k;omega
   ·exact⟨by show k+1≤16;omega,by simp;omega,by rw[hn,FR hs (by omega) h24];simp⟩
   ·exact⟨rfl,rfl,trivial⟩
   ·exact fun w s=>au.kept .auto w s
  ·simp only[Bool.and_eq_false_iff,decide_eq_false_iff_not,Bool.not_eq_false'] at h24
   refine J 7 ?_
   refine .aF (k+1,u,xs) .auto rfl ?_ ?_ ?_ ?_
   ·show 16-(k+1)<16-k;omega
   ·exact⟨by show k+1≤16;omega,by show xs.length≤k+1;omega,by rw[hn,HC hs (by omega) h24]⟩
   ·exact⟨rfl,rfl,trivial⟩
   ·exact fun w s=>au.kept .auto w s
 ·refine J 12 ?_
  obtain rfl:k=16:=by omega
  rw[BF (by omega),List.append_nil] at hn
  subst hn
  refine .aP rfl rfl fun w s=>⟨_,?_,trivial,aj .auto s⟩
  rfl
theorem EB{W:World}{A:aa}{m c:Int}{v:Value}{sems:List Int}(hr:Rd W [A] ar 1 v sems):Fn Tryz.prog W 55 [.int .i64 m,.int .i64 c,v] [A] Nat (fun b=>ptr b) (fun _=>True) (fun b=>[cf b (Gates.new m c sems),A]):=by
 refine Fn.intro (N:=42) func55 rfl ntmps55 rfl fun F=>?_
 haveI hRI:∀ (H:List aa) [bE H A],aG W H v ar 1 sems:=fun H h=>⟨hr.at h.has⟩
 show aq _ _ _ _ _ _ [A,F]
 refine J 6 ?_
 refine .qM [] [0,2,4,0,2,4,0,4,0] [0,1,3,4,2,5,6,7,8] rfl (by kernel_rfl) ?_
 refine bu.q rfl rfl rfl Kept.auto (Y.m rfl) ?_
 refine bu.dX rfl (.inl rfl) rfl (fun _=>Kept.auto) call85 rfl mQ .auto (fun _ _=>Kept.auto) ?_
 rintro⟨⟩ -
 refine bu.q rfl rfl rfl Kept.auto (Y.m rfl) ?_
 refine bu.dX rfl (.inl rfl) rfl (fun _=>Kept.auto) call85 rfl mQ .auto (fun _ _=>Kept.auto) ?_
 rintro⟨⟩ -
 refine bu.fresh rfl rfl rfl (by decide) Kept.auto (il (enc:=kN) (k:=3) ((Value.slice none 0 0:Value),(⟨[],false,0⟩:ei)) (ay m 4).toNat underlying154 typeInfo278 rfl rfl rfl rfl (by decide) (by decide) rfl rfl (by unfold ay;omega) (by unfold ay;omega) (by unfold ay;omega)) ?_
 rintro b12
 refine bu.fresh rfl rfl rfl (by decide) Kept.auto (il (enc:=dP) (k:=1) ((Value.slice none 0 0:Value),([]:List eu)) (ay c 4).toNat underlying156 typeInfo162 rfl rfl rfl rfl (by decide) (by decide) rfl rfl (by unfold ay;omega) (by unfold ay;omega) (by unfold ay;omega)) ?_
 rintro b15
 refine bu.q rfl rfl rfl Kept.auto (Y.fW (fun v1 v2=>[v1,v2,(.slice none 0 0)]) rfl rfl (by kernel_rfl)) ?_
 refine bu.fresh rfl rfl rfl (by decide) Kept.auto (lP rfl rfl) ?_
 rintro b17
 refine bu.q rfl rfl rfl Kept.auto (Y.a rfl) ?_
 refine bu.nil ?_
 refine J 4 ?_
 refine .to (A:=sl kN 3 (.slice (some ⟨b12,0,none⟩) (ay m 4).toNat (ay m 4).toNat) (List.replicate (ay m 4).toNat ((Value.slice none 0 0:Value),(⟨[],false,0⟩:ei)))) .auto (nu rfl) ?_
 refine .to (A:=sl dP 1 (.slice (some ⟨b15,0,none⟩) (ay c 4).toNat (ay c 4).toNat) (List.replicate (ay c 4).toNat ((Value.slice none 0 0:Value),([]:List eu)))) .auto (nu rfl) ?_
 have hr4:=hr.cut (lo:=0) (hi:=min sems.length 4) (Nat.zero_le _) (by omega)
 rw[List.drop_zero,show sems.take (min sems.length 4)=sems.take 4 from by rw[List.take_eq_take_iff];omega] at hr4
 haveI hI4:∀ (H:List aa) [bE H A],aG W H (cut 1 0 (min sems.length 4) v) ar 1 (sems.take 4):=fun H h=>⟨hr4.at h.has⟩
 refine J 3 ?_
 refine .p (.jq rfl rfl) ?_
 refine .p (.sliceTo (min sems.length 4) underlying33 sizeOf3 rfl rfl Rd.s (by omega) (by omega)) ?_
 refine J 5 ?_
 refine .bf (X:=Nat×Value) [9,24,25,26,27,28,29,30,31,32,33,34,35,36,37,38,39,40] (fun z=>(sems.take 4).length-z.1) (fun z=>z.1≤(sems.take 4).length) (fun z=>[(24,some (.int .i64 (z.1:Int)))]) (fun z=>[arr b17 0 [.slice (some ⟨b12,0,none⟩) (ay m 4).toNat (ay m 4).toNat,.slice (some ⟨b15,0,none⟩) (ay c 4).toNat (ay c 4).toNat,z.2],sl kY 2 z.2 (((sems.take 4).take z.1).map (fun n=>((Value.slice none 0 0:Value),(⟨[],ay n 1048576⟩:jR)))),sl kN 3 (.slice (some ⟨b12,0,none⟩) (ay m 4).toNat (ay m 4).toNat) (List.replicate (ay m 4).toNat ((Value.slice none 0 0:Value),(⟨[],false,0⟩:ei))),sl dP 1 (.slice (some ⟨b15,0,none⟩) (ay c 4).toNat (ay c 4).toNat) (List.replicate (ay c 4).toNat ((Value.slice none 0 0:Value),([]:List eu))),A,F]) (0,.slice none 0 0) ?_ ?_ ?_ ?_
 ·exact Nat.zero_le _
 ·exact⟨rfl,trivial⟩
 ·exact fun w s=>au.kept .auto w s
 rintro⟨k,u⟩ hk
 simp only at hk
 have h4:(sems.take 4).length≤4:=by simp;omega
 have h44:((sems.take 4).take k).length≤4:=by simp;omega
 refine JD 6 (fun h25=>?_) fun h25=>?_
 ·refine J 6 ?_
  obtain⟨x,hx⟩:=al (show k<(sems.take 4).length by omega)
  refine J 5 ?_
  refine .draw [arr b17 0 [.slice (some ⟨b12,0,none⟩) (ay m 4).toNat (ay m 4).toNat,.slice (some ⟨b15,0,none⟩) (ay c 4).toNat (ay c 4).toNat,u]] [0,0,0,0,0,1,2,1,2,2,1,1,3] rfl (by kernel_rfl) ?_
  refine J 6 ?_
  refine .c2 call85 rfl mQ fun _ _=>?_
  refine .p (.iK (fun v1=>[(.slice none 0 0),v1]) rfl (by kernel_rfl)) ?_
  refine .d2 rfl Kept.auto (ab.fG 164 rfl rfl (by kernel_rfl)) (by rintro _ _ ⟨b36,rfl,rfl⟩;exact Kept.auto) ?_
  rintro _ _ ⟨b36,rfl,rfl⟩
  refine .d2 rfl Kept.auto (ab.gv (enc:=kY) (k:=2) ((Value.slice none 0 0:Value),(⟨[],ay x 1048576⟩:jR)) rfl underlying157 underlying157 typeInfo164 rfl rfl rfl (by decide) rfl rfl rfl .auto rfl .auto (by rw[List.length_map];dsimp only;omega) rfl) (by rintro _ _ ⟨v37,rfl,rfl⟩;exact Kept.auto) ?_
  rintro _ _ ⟨v37,rfl,rfl⟩
  refine J 2 ?_
  refine .d3 rfl (ab.ng sizeOf157 rfl rfl rfl) ?_
  rintro _ _ ⟨rfl,rfl⟩
  refine J 7 ?_
  refine .aF (k+1,v37) .auto rfl ?_ ?_ ?_ ?_
  ·show(sems.take 4).length-(k+1)<(sems.take 4).length-k;omega
  ·show k+1≤_;omega
  ·exact⟨rfl,trivial⟩
  ·show ∀ w,Sat _ w _→Sat _ w (seps [_,sl kY 2 v37 (((sems.take 4).take (k+1)).map (fun n=>((Value.slice none 0 0:Value),(⟨[],ay n 1048576⟩:jR)))),_,_,A,F])
   rw[yU hx]
   exact fun w s=>au.kept .auto w s
 ·refine J 12 ?_
  obtain rfl:k=(sems.take 4).length:=by omega
  rw[List.take_length]
  refine .aP rfl rfl fun w s=>⟨b17,?_,trivial,aj (by repeat (first | exact au.nil | (apply au.cons; · repeat (first | exact Take.here | apply Take.there)) | apply au.FT | apply au.FU | apply au.void | apply au.FQ | apply au.two | (apply au.BA; · exact fV) | (apply au.allM; · exact fun _=>fV) | apply au.f1 rfl | apply au.f2 rfl | apply au.f3 rfl | apply au.f4 rfl | apply au.f10 rfl | apply au.et | assumption | exact trivial | rfl | omega | (focus (simp[Gates.new];done)) | (unfold Gates.new;simp only[List.map_map];rfl))) s⟩
  rfl
theorem rI{W:World}{A:aa}{v:aW}(hp:ez W [A] v)(hl:v.fs.length≤1000000000∧v.sems.length≤1000000000∧v.pipes.length≤1000000000):Fn Tryz.prog W 28 [.agg (fe v).toArray] [A] (Option Nat) (fun o=>.tuple #[dN o,.int .i64 (c0 v.p)]) (fun o=>o.isSome=decide (c0 v.p=0)) (fun o=>[optH (fun b=>fX b (Spc.new v.p)) o,A]):=by
 refine Fn.intro (N:=83) func28 rfl ntmps28 rfl fun F=>?_
 haveI hI1:∀ (H:List aa) [bE H A],aG W H v.fv dP 1 v.fs:=fun H h=>⟨hp.fs.at h.has⟩
 haveI hI2:∀ (H:List aa) [bE H A],aG W H v.sv ar 1 v.sems:=fun H h=>⟨hp.sems.at h.has⟩
 haveI hI3:∀ (H:List aa) [bE H A],aG W H v.pv ar 1 v.pipes:=fun H h=>⟨hp.pipes.at h.has⟩
 show aq _ _ _ _ _ _ [A,F]
 refine .cA (fun w s=>FV hp .here w s) fun hone=>?_
 refine J 2 ?_
 refine .ai rfl (ab.box rfl rfl rfl) ?_
 rintro _ _ ⟨b1,rfl,rfl⟩
 refine J 8 ?_
 refine .c call53 rfl (zv hp hl) fun _ _=>?_
 refine JD 9 (fun h13=>?_) fun h13=>?_
 ·refine J 9 ?_
  refine .eO rfl rfl rfl fun w s=>⟨none,?_,(decide_eq_false h13).symm,aj .auto s⟩
  rfl
 ·refine J 3 ?_
  refine .qM [arr b1 0 (fe v)] [0,2,0,0,4,0,0,0,0,0,0,2,0,0,2,2,0,4,0] [0,1,2,3,5,6,7,8,9,10,11,12,13,14,15,4,16,17,18] rfl (by kernel_rfl) ?_
  have hcs:=qS (qU (Decidable.of_not_not h13))
  have hw:0≤v.words∧v.words≤64:=hcs.2.2.1
  have hf8:v.fs.length≤8:=by simpa [aW.p] using hcs.2.1
  have hp4:v.pipes.length≤4:=hcs.2.2.2.2.2.2.2.2.1
  refine bu.q rfl rfl rfl Kept.auto (Y.Db isAgg60 rfl Cells.a (by exact sizeOf60)) ?_
  refine bu.dX rfl (.inl rfl) rfl (fun _=>Kept.auto) call54 rfl Ey .auto (fun _ _=>Kept.auto) ?_
  rintro x16 -
  refine bu.q rfl rfl rfl Kept.auto (Y.dV 1 3 underlying60 rfl sizeOf3 rfl) ?_
  refine bu.q rfl rfl rfl Kept.auto (Y.load isAgg3 rfl (Cell.a (by rfl))) ?_
  refine bu.q rfl rfl rfl Kept.auto (Y.dV 2 3 underlying60 rfl sizeOf3 rfl) ?_
  refine bu.q rfl rfl rfl Kept.auto (Y.load isAgg3 rfl (Cell.a (by rfl))) ?_
  refine bu.q rfl rfl rfl Kept.auto (Y.dV 3 3 underlying60 rfl sizeOf3 rfl) ?_
  refine bu.q rfl rfl rfl Kept.auto (Y.load isAgg3 rfl (Cell.a (by rfl))) ?_
  refine bu.q rfl rfl rfl Kept.auto (Y.dV 4 33 underlying60 rfl sizeOf33 rfl) ?_
  refine bu.q rfl rfl rfl Kept.auto (Y.load isAgg33 rfl (Cell.a (by rfl))) ?_
  refine bu.dX rfl (.inl rfl) rfl (fun _=>Kept.auto) call55 rfl (EB hp.sems) .auto (fun _ _=>Kept.auto) ?_
  rintro x26 -
  refine bu.q rfl rfl rfl Kept.auto (Y.dV 6 3 underlying60 rfl sizeOf3 rfl) ?_
  refine bu.q rfl rfl rfl Kept.auto (Y.load isAgg3 rfl (Cell.a (by rfl))) ?_
  refine bu.dX rfl (.inl rfl) rfl (fun _=>Kept.auto) call56 rfl Ez .auto (fun _ _=>Kept.auto) ?_
  rintro x29 -
  refine bu.dX rfl (.inl rfl) rfl (fun _=>Kept.auto) call57 rfl Ce .auto (fun _ _=>Kept.auto) ?_
  rintro x30 -
  refine bu.fresh rfl rfl rfl (by decide) Kept.auto (il (enc:=ey) (k:=1) 0 v.words.toNat underlying108 typeInfo86 rfl rfl rfl rfl (by decide) (by decide) rfl rfl (by omega) (by omega) (by omega)) ?_
  rintro b19
  refine bu.q rfl rfl rfl Kept.auto (Y.IQ (fun _ v2 v3 v4 v5 v6=>[v.fv,.int .i64 v.words,.int .i64 v.bm,.int .i64 v.conds,v.sv,v.pv,.int .i64 v.blocks,.int .i64 v.prio,v2,.pointer none,.pointer none,.pointer none,.pointer none,.pointer none,.pointer none,.pointer none,.pointer none,.pointer none,.pointer none,.pointer none,.pointer none,.pointer none,.pointer none,.pointer none,.pointer none,v3,v4,.slice none 0 0,v5,v6,.slice none 0 0]) rfl rfl rfl rfl rfl rfl (by kernel_rfl)) ?_
  refine bu.fresh rfl rfl rfl (by decide) Kept.auto (lP rfl rfl) ?_
  rintro b32
  refine bu.q rfl rfl rfl Kept.auto (Y.a rfl) ?_
  refine bu.nil ?_
  refine J 3 ?_
  refine .to (A:=sl ey 1 (.slice (some ⟨b19,0,none⟩) v.words.toNat v.words.toNat) (List.replicate v.words.toNat 0)) .auto (nu rfl) ?_
  refine J 3 ?_
  refine .c call58 rfl (Gq hp.fs hl.1 hone) fun u36 _=>?_
  refine J 3 ?_
  refine .ai rfl (ab.ng sizeOf58 rfl rfl rfl) ?_
  rintro _ _ ⟨rfl,rfl⟩
  refine J 15 ?_
  refine .bf (X:=Nat×List (Value×List Ins)) [6,7,46,47,48,49,50,51,52,53,54,55,56,57,58,59,60] (fun z=>v.fs.length-z.1) (fun z=>z.1≤v.fs.length∧z.2.length=z.1∧z.2.map (·.2)=(v.fs.take z.1).map (·.2)) (fun z=>[(46,some (.int .i64 (z.1:Int)))]) (fun z=>[arr b32 0 [u36,.int .i64 v.words,.int .i64 v.bm,.int .i64 v.conds,v.sv,v.pv,.int .i64 v.blocks,.int .i64 v.prio,ptr x16,.pointer none,.pointer none,.pointer none,.pointer none,.pointer none,.pointer none,.pointer none,.pointer none,.pointer none,.pointer none,.pointer none,.pointer none,.pointer none,.pointer none,.pointer none,.pointer none,.slice (some ⟨b19,0,none⟩) v.words.toNat v.words.toNat,ptr x26,.slice none 0 0,ptr x29,ptr x30,.slice none 0 0],sl dP 1 u36 (z.2++v.fs.drop z.1),aO (fun x=>sl dO 5 x.1 x.2) z.2,sl ey 1 (.slice (some ⟨b19,0,none⟩) v.words.toNat v.words.toNat) (List.replicate v.words.toNat 0),kM x16 (List.replicate (ay 16 1024).toNat (false,0)),cf x26 (Gates.new v.bm v.conds v.sems),sL x29 (kW.new v.blocks),my x30 kK.new,arr b1 0 (fe v),A,F]) (0,[]) ?_ ?_ ?_ ?_
  ·exact⟨Nat.zero_le _,rfl,by simp⟩
  ·exact⟨rfl,trivial⟩
  ·exact fun w s=>au.kept .auto w s
  rintro⟨k,cl⟩ ⟨hk,hcl,hcm⟩
  simp only at hk hcl hcm
  refine JD 6 (fun h47=>?_) fun h47=>?_
  ·refine J 7 ?_
   obtain⟨x,hx⟩:=al (show k<v.fs.length by omega)
   have hx2:=DE hcl hx
   have hi:=hp.ins x (List.mem_of_getElem? hx)
   have hx256:x.2.length≤256:=AA (qU (Decidable.of_not_not h13)) (List.mem_of_getElem? hx)
   refine .p (.ix k rfl rfl rfl (by simp;omega)) ?_
   refine J 5 ?_
   refine .draw [arr b32 0 [u36,.int .i64 v.words,.int .i64 v.bm,.int .i64 v.conds,v.sv,v.pv,.int .i64 v.blocks,.int .i64 v.prio,ptr x16,.pointer none,.pointer none,.pointer none,.pointer none,.pointer none,.pointer none,.pointer none,.pointer none,.pointer none,.pointer none,.pointer none,.pointer none,.pointer none,.pointer none,.pointer none,.pointer none,.slice (some ⟨b19,0,none⟩) v.words.toNat v.words.toNat,ptr x26,.slice none 0 0,ptr x29,ptr x30,.slice none 0 0],sl dP 1 u36 (cl++v.fs.drop k)] [0,0,0,0,0,0,1,2,1,3] rfl (by kernel_rfl) ?_
   refine J 7 ?_
   refine .c2 call59 rfl (Im hi (by omega)) fun u58 _=>?_
   refine .cA (fun w s=>Rd.isSl (Rd.sl .here) w s) fun hu58=>?_
   refine .p (.ix k rfl rfl rfl (by simp;omega)) ?_
   refine .d3 rfl (ab.ew (x':=(u58,x.2)) rfl rfl sizeOf89 (fz hu58) (DE hcl hx) (by decide) rfl (by repeat (first | exact fE.here | apply fE.there))) ?_
   rintro _ _ ⟨rfl,rfl⟩
   refine J 7 ?_
   refine .aF (k+1,cl++[(u58,x.2)]) .auto rfl ?_ ?_ ?_ ?_
   ·show v.fs.length-(k+1)<v.fs.length-k;omega
   ·exact⟨by show k+1≤_;omega,by simp[hcl],by rw[bj hx];simp[hcm]⟩
   ·exact⟨rfl,trivial⟩
   ·show ∀ w,Sat _ w _→Sat _ w (seps [_,sl dP 1 u36 ((cl++[(u58,x.2)])++v.fs.drop (k+1)),aO (fun x=>sl dO 5 x.1 x.2) (cl++[(u58,x.2)]),_,_,_,_,_,_,A,F])
    rw[← FW hcl hx,lN]
    exact fun w s=>au.kept .auto w s
  ·refine J 15 ?_
   obtain rfl:k=v.fs.length:=by omega
   rw[List.drop_length,List.append_nil]
   refine .bf (X:=Nat×Value×List (Nat×Tub)) [9,64,65,66,67,68,69,70,71,72,73,74,75,76,77,78,79] (fun z=>v.pipes.length-z.1) (fun z=>z.1≤v.pipes.length∧z.2.2.length=z.1∧z.2.2.map (·.2)=(v.pipes.take z.1).map Tub.new) (fun z=>[(64,some (.int .i64 (z.1:Int)))]) (fun z=>[arr b32 0 [u36,.int .i64 v.words,.int .i64 v.bm,.int .i64 v.conds,v.sv,v.pv,.int .i64 v.blocks,.int .i64 v.prio,ptr x16,.pointer none,.pointer none,.pointer none,.pointer none,.pointer none,.pointer none,.pointer none,.pointer none,.pointer none,.pointer none,.pointer none,.pointer none,.pointer none,.pointer none,.pointer none,.pointer none,.slice (some ⟨b19,0,none⟩) v.words.toNat v.words.toNat,ptr x26,z.2.1,ptr x29,ptr x30,.slice none 0 0],sl cX 1 z.2.1 z.2.2,aO (fun x=>gL x.1 x.2) z.2.2,sl dP 1 u36 cl,aO (fun x=>sl dO 5 x.1 x.2) cl,sl ey 1 (.slice (some ⟨b19,0,none⟩) v.words.toNat v.words.toNat) (List.replicate v.words.toNat 0),kM x16 (List.replicate (ay 16 1024).toNat (false,0)),cf x26 (Gates.new v.bm v.conds v.sems),sL x29 (kW.new v.blocks),my x30 kK.new,arr b1 0 (fe v),A,F]) (0,.slice none 0 0,[]) ?_ ?_ ?_ ?_
   ·exact⟨Nat.zero_le _,rfl,by simp⟩
   ·exact⟨rfl,trivial⟩
   ·exact fun w s=>au.kept .auto w s
   rintro⟨k,vt,ts⟩ ⟨hk,htl,htm⟩
   simp only at hk htl htm
   refine JD 6 (fun h65=>?_) fun h65=>?_
   ·refine J 6 ?_
    obtain⟨x,hx⟩:=al (show k<v.pipes.length by omega)
    refine J 5 ?_
    refine .draw [arr b32 0 [u36,.int .i64 v.words,.int .i64 v.bm,.int .i64 v.conds,v.sv,v.pv,.int .i64 v.blocks,.int .i64 v.prio,ptr x16,.pointer none,.pointer none,.pointer none,.pointer none,.pointer none,.pointer none,.pointer none,.pointer none,.pointer none,.pointer none,.pointer none,.pointer none,.pointer none,.pointer none,.pointer none,.pointer none,.slice (some ⟨b19,0,none⟩) v.words.toNat v.words.toNat,ptr x26,vt,ptr x29,ptr x30,.slice none 0 0]] [0,0,0,0,0,1,2,2,2,1,1,3] rfl (by kernel_rfl) ?_
    refine J 6 ?_
    refine .c2 call60 rfl EA fun x74 _=>?_
    refine .d2 rfl Kept.auto (ab.fG 122 rfl rfl (by kernel_rfl)) (by rintro _ _ ⟨b75,rfl,rfl⟩;exact Kept.auto) ?_
    rintro _ _ ⟨b75,rfl,rfl⟩
    refine .d2 rfl Kept.auto (ab.gv (enc:=cX) (k:=1) ((x74,Tub.new x):Nat×Tub) rfl underlying110 underlying110 typeInfo122 rfl rfl rfl (by decide) rfl rfl rfl .auto rfl .auto (by first | omega | (dsimp only;omega)) rfl) (by rintro _ _ ⟨v76,rfl,rfl⟩;exact Kept.auto) ?_
    rintro _ _ ⟨v76,rfl,rfl⟩
    refine J 2 ?_
    refine .d3 rfl (ab.ng sizeOf110 rfl rfl rfl) ?_
    rintro _ _ ⟨rfl,rfl⟩
    refine J 7 ?_
    refine .aF (k+1,v76,ts++[(x74,Tub.new x)]) .auto rfl ?_ ?_ ?_ ?_
    ·show v.pipes.length-(k+1)<v.pipes.length-k;omega
    ·exact⟨by show k+1≤_;omega,by simp[htl],by rw[bj hx];simp[htm]⟩
    ·exact⟨rfl,trivial⟩
    ·show ∀ w,Sat _ w _→Sat _ w (seps [_,sl cX 1 v76 (ts++[(x74,Tub.new x)]),aO (fun x=>gL x.1 x.2) (ts++[(x74,Tub.new x)]),_,_,_,_,_,_,_,_,A,F])
     rw[lN]
     exact fun w s=>au.kept .auto w s
   ·refine J 8 ?_
    obtain rfl:k=v.pipes.length:=by omega
    have htm2:ts.map (·.2)=(uJ v.p).bV:=by rw[htm,List.take_length];rfl
    have hcm2:cl.map (·.2)=(uJ v.p).eE.funcs:=by rw[hcm,List.take_length];rfl
    refine .c call61 rfl (rH (ps:=List.replicate 16 none) (s:=uJ v.p) (BG _) rfl (BH _)) fun qs _=>?_
    refine J 10 ?_
    refine .eO rfl rfl rfl fun w s=>⟨some b32,?_,(decide_eq_true (Decidable.of_not_not h13)).symm,aj .auto s⟩
    rw[Decidable.of_not_not h13];rfl
end Go.SLYthncobnjdhjnoaaGreat
namespace Go.SLYthncobnjdhjnoaaGreat
open Go Go.RowKit Go.Proofs Go.Proofs.Tryz
attribute [local irreducible] aq aJ ba bq bu Y
theorem nX{W:World}{u:Value}{x:aR}:Fn Tryz.prog W 100 [.agg (dY (u,x)).toArray] [] Unit (fun _=>.bool x.holds) (fun _=>True) (fun _=>[]):=by
 refine Fn.intro (N:=16) func100 rfl ntmps100 rfl fun F=>?_
 show aq _ _ _ _ _ _ [F]
 refine J 2 ?_
 refine .ai rfl (ab.box rfl rfl rfl) ?_
 rintro _ _ ⟨b1,rfl,rfl⟩
 refine J 9 ?_
 apply aJ.fY 4 10 6 [6,7,8,9,10] rfl
 ·intro h6
  exact JS 5
 ·intro h6
  exact JS 5
 refine J 1 ?_
 apply aJ.gM 4 15 11 [11,12,13,14,15] rfl
 ·intro h11
  exact JS 5
 ·intro h11
  exact JS 5
 exact JR 4 ()
theorem xF{W:World}{u:Value}{x:aR}(_hu:isSl u=true):Fn Tryz.prog W 99 [.agg (dY (u,x)).toArray] [] Unit (fun _=>.tuple #[.int .i64 (qV x),.bool x.runs]) (fun _=>True) (fun _=>[]):=by
 refine Fn.intro (N:=24) func99 rfl ntmps99 rfl fun F=>?_
 show aq _ _ _ _ _ _ [F]
 refine J 2 ?_
 refine .ai rfl (ab.box rfl rfl rfl) ?_
 rintro _ _ ⟨b1,rfl,rfl⟩
 refine J 11 ?_
 apply aJ.eT 4 11 7 [7,8,9,10,11] rfl
 ·intro h7
  exact JS 5
 ·intro h7
  exact JS 5
 refine J 1 ?_
 apply aJ.gj 4 16 12 [12,13,14,15,16] rfl
 ·intro h12
  exact JS 5
 ·intro h12
  exact JS 5
 refine J 1 ?_
 apply aJ.gM 4 21 17 [17,18,19,20,21] rfl
 ·intro h17
  exact JS 5
 ·intro h17
  exact JS 5
 refine JD 2 (fun h21=>?_) fun h21=>?_
 ·simp only[Bool.and_eq_true,Bool.or_eq_true,decide_eq_true_eq] at h21
  refine J 8 ?_
  refine .eO rfl rfl rfl fun w s=>⟨(),?_,trivial,aj .auto s⟩
  have e:x.runs=false:=by unfold aR.runs;simp;omega
  rw[qV,e];rfl
 ·simp only[Bool.and_eq_false_iff,Bool.or_eq_false_iff,decide_eq_false_iff_not] at h21
  refine J 11 ?_
  refine .eO rfl rfl rfl fun w s=>⟨(),?_,trivial,aj .auto s⟩
  have e:x.runs=true:=by unfold aR.runs;simp;omega
  rw[qV,e];rfl
theorem rJ{W:World}{e:Ev}:Fn Tryz.prog W 91 [.agg (bW e).toArray] [] Unit (fun _=>.tuple #[.int .i64 (IW e),.bool (eP e)]) (fun _=>True) (fun _=>[]):=by
 refine Fn.intro (N:=24) func91 rfl ntmps91 rfl fun F=>?_
 show aq _ _ _ _ _ _ [F]
 refine .s (.r ?_)
 refine .ai rfl (ab.box rfl rfl rfl) ?_
 rintro _ _ ⟨b1,rfl,rfl⟩
 refine .p (.a rfl) (.p (.a rfl) (.n (.t (.s (.s (.r (.p (.f rfl) (.p (.l rfl) (.p (.lss rfl rfl) (.p (.m rfl) ?_))))))))))
 apply aJ.fY 4 11 7 [7,8,9,10,11] rfl
 ·intro h7
  refine .g (.f rfl) (.g (.l rfl) (.g (.gtr rfl rfl) (.p (.u rfl rfl) (.n ?_))))
  refine .yy .auto rfl (by first | exact fun _ h=>h | exact au.kept .auto)
 ·intro h7
  refine .u (.u (.u (.p (.t rfl rfl) (.n ?_))))
  refine .yy .auto rfl (by first | exact fun _ h=>h | exact au.kept .auto)
 refine .p (.m rfl) ?_
 apply aJ.gM 9 21 12 [12,13,14,15,16,17,18,19,20,21] rfl
 ·intro h12
  refine .g (.z rfl) (.g (.l rfl) (.g (.neq rfl rfl) (.g (.m rfl) ?_)))
  apply aJ.eT 4 20 16 [16,17,18,19,20] rfl
  ·intro h16
   refine .g (.z rfl) (.g (.l rfl) (.g (.neq rfl rfl) (.g (.t rfl rfl) (.n ?_))))
   refine .yy .auto rfl (by first | exact fun _ h=>h | exact au.kept .auto)
  ·intro h16
   refine .u (.u (.u (.g (.u rfl rfl) (.n ?_))))
   refine .yy .auto rfl (by first | exact fun _ h=>h | exact au.kept .auto)
  refine .p (.u rfl rfl) (.n ?_)
  refine .yy .auto rfl (by first | exact fun _ h=>h | exact au.kept .auto)
 ·intro h12
  refine .u (.u (.u (.u (.u (.u (.u (.u (.p (.t rfl rfl) (.n ?_)))))))))
  refine .yy .auto rfl (by first | exact fun _ h=>h | exact au.kept .auto)
 refine .n (.t (.cond rfl (fun h21=>?_) (fun h21=>?_)))
 ·simp only[Bool.and_eq_true,Bool.or_eq_true,decide_eq_true_eq] at h21
  refine .s (.r (.p (.a rfl) (.p (.a rfl) (.n (.t (.e (.tr (.eO rfl rfl rfl fun w s=>⟨(),?_,trivial,aj .auto s⟩))))))))
  have h:eP e=false:=by unfold eP;simp;omega
  rw[IW,h];rfl
 ·simp only[Bool.and_eq_false_iff,Bool.or_eq_false_iff,decide_eq_false_iff_not] at h21
  refine .v (.t (.s (.r (.p (.f rfl) (.p (.l rfl) (.p (.a rfl) (.p (.a rfl) (.n (.t (.e (.eO rfl rfl rfl fun w s=>⟨(),?_,trivial,aj .auto s⟩)))))))))))
  have h:eP e=true:=by unfold eP;simp;omega
  rw[IW,h];rfl
theorem kp{W:World}{A:aa}{v:Value}{xs:List Ev}(hr:Rd W [A] bW 3 v xs)(hl:xs.length≤1000000000):Fn Tryz.prog W 101 [v] [A] Value (fun u=>u) (fun _=>True) (fun u=>[sl bW 3 u (cQ xs),A]):=by
 refine Fn.intro (N:=31) func101 rfl ntmps101 rfl fun F=>?_
 haveI hRI:∀ (H:List aa) [bE H A],aG W H v bW 3 xs:=fun H h=>⟨hr.at h.has⟩
 show aq _ _ _ _ _ _ [A,F]
 refine J 19 ?_
 refine .bf (X:=Nat×Value) [3,5,6,7,10,11,12,13,14,15,16,17,18,19,20,21,22,23,24,25,26,27,28,29] (fun z=>xs.length-z.1) (fun z=>z.1≤xs.length) (fun z=>[(10,some (.int .i64 (z.1:Int))),(3,some z.2)]) (fun z=>[sl bW 3 z.2 (cQ (xs.take z.1)),A,F]) (0,.slice none 0 0) ?_ ?_ ?_ ?_
 ·exact Nat.zero_le _
 ·exact⟨rfl,rfl,trivial⟩
 ·exact fun w s=>au.kept .auto w s
 rintro⟨k,u⟩ hk
 simp only at hk
 have hkl:=BI xs k
 refine JD 6 (fun h11=>?_) fun h11=>?_
 ·refine J 6 ?_
  obtain⟨e,hx⟩:=al (show k<xs.length by omega)
  refine J 2 ?_
  refine .ai rfl (ab.alloc rfl zeroValue80 rfl) ?_
  rintro _ _ ⟨b5,rfl,rfl⟩
  refine J 6 ?_
  refine .c call91 rfl rJ fun _ _=>?_
  refine J 11 ?_
  apply aJ.gM 4 24 20 [20,21,22,23,24] rfl
  ·intro h20
   exact JS 5
  ·intro h20
   exact JS 5
  refine JD 2 (fun h24=>?_) fun h24=>?_
  ·simp only[Bool.or_eq_true,decide_eq_true_eq] at h24
   refine J 3 ?_
   refine .ai rfl (ab.fG 80 rfl rfl (by kernel_rfl)) ?_
   rintro _ _ ⟨b27,rfl,rfl⟩
   refine .ai rfl (ab.gv (enc:=bW) (k:=3) e rfl underlying71 underlying71 typeInfo80 rfl rfl rfl (by decide) rfl rfl rfl .auto rfl .auto (by first | omega | (dsimp only;omega)) rfl) ?_
   rintro _ _ ⟨v28,rfl,rfl⟩
   refine J 8 ?_
   refine .aF (k+1,v28) .auto rfl ?_ ?_ ?_ ?_
   ·show xs.length-(k+1)<xs.length-k;omega
   ·show k+1≤_;omega
   ·exact⟨rfl,rfl,trivial⟩
   ·show ∀ w,Sat _ w _→Sat _ w (seps [sl bW 3 v28 (cQ (xs.take (k+1))),A,F])
    rw[DF hx h24]
    exact fun w s=>au.kept .auto w s
  ·simp only[Bool.or_eq_false_iff,decide_eq_false_iff_not] at h24
   refine J 7 ?_
   refine .aF (k+1,u) .auto rfl ?_ ?_ ?_ ?_
   ·show xs.length-(k+1)<xs.length-k;omega
   ·show k+1≤_;omega
   ·exact⟨rfl,rfl,trivial⟩
   ·show ∀ w,Sat _ w _→Sat _ w (seps [sl bW 3 u (cQ (xs.take (k+1))),A,F])
    rw[FX hx h24]
    exact fun w s=>au.kept .auto w s
 ·refine J 12 ?_
  obtain rfl:k=xs.length:=by omega
  rw[List.take_length]
  refine .aP rfl rfl fun w s=>⟨_,?_,trivial,aj .auto s⟩
  rfl
theorem nY{W:World}{A:aa}{u:Value}{x:aR}(hr:Rd W [A] bW 3 u x.evs)(hl:x.evs.length≤900000000):Fn Tryz.prog W 74 [.agg (dY (u,x)).toArray] [A] Value (fun u=>u) (fun _=>True) (fun w=>[sl bW 3 w x.strip,A]):=by
 refine Fn.intro (N:=31) func74 rfl ntmps74 rfl fun F=>?_
 haveI hRI:∀ (H:List aa) [bE H A],aG W H u bW 3 x.evs:=fun H h=>⟨hr.at h.has⟩
 show aq _ _ _ _ _ _ [A,F]
 refine .cA (fun w s=>Rd.isSl (hr.at .here) w s) fun hu=>?_
 refine J 2 ?_
 refine .ai rfl (ab.box rfl rfl rfl) ?_
 rintro _ _ ⟨b1,rfl,rfl⟩
 refine J 6 ?_
 refine .c call99 rfl (xF hu) fun _ _=>?_
 refine JD 14 (fun h12=>?_) fun h12=>?_
 ·refine J 14 ?_
  rw[Bool.not_eq_true'] at h12
  refine .c call100 rfl nX fun _ _=>?_
  refine JD 3 (fun h13=>?_) fun h13=>?_
  ·refine J 4 ?_
   refine .p (.sK (fun v1 v2 v3=>[v1,v2,v3]) rfl rfl rfl (by kernel_rfl)) ?_
   refine .ai rfl (ab.fG 80 rfl rfl (by kernel_rfl)) ?_
   rintro _ _ ⟨b20,rfl,rfl⟩
   refine J 9 ?_
   refine .c call101 rfl (kp hr (by omega)) fun k29 _=>?_
   refine .c call73 rfl (rF (A:=seps [arr b20 0 [.int .i64 4,.int .i64 (-1),.int .i64 x.mode],sl bW 3 k29 (cQ x.evs),A]) (xs:=[⟨4, -1,x.mode⟩]) (ys:=cQ x.evs) (Rd.et (Rd.lit .here rfl (fun _ _=>rfl) rfl)) (Rd.et (Rd.sl .auto)) (by have:=jt x.evs;simp;omega)) fun u30 _=>?_
   refine .dL .auto ?_
   rw[show[⟨4, -1,x.mode⟩]++cQ x.evs=x.strip from by unfold aR.strip;rw[if_pos h13,if_neg (by rw[h12];simp)]]
   refine J 4 ?_
   refine .aP rfl rfl fun w s=>⟨_,?_,trivial,aj .auto s⟩
   rfl
  ·refine JD 6 (fun h21=>?_) fun h21=>?_
   ·rw[h12] at h21;cases h21
   ·refine J 8 ?_
    refine .c call101 rfl (kp hr (by omega)) fun k29 _=>?_
    refine .c call73 rfl (rF (A:=seps [sl bW 3 k29 (cQ x.evs),A]) (xs:=([]:List Ev)) (ys:=cQ x.evs) (Rd.et Rd.nil) (Rd.et (Rd.sl .auto)) (by have:=jt x.evs;simp;omega)) fun u30 _=>?_
    refine .dL .auto ?_
    rw[show([]:List Ev)++cQ x.evs=x.strip from by unfold aR.strip;rw[if_neg (by rw[h13];simp),if_neg (by rw[h12];simp)]]
    refine J 4 ?_
    refine .aP rfl rfl fun w s=>⟨_,?_,trivial,aj .auto s⟩
    rfl
 ·refine J 12 ?_
  rw[Bool.not_eq_false'] at h12
  refine .c call100 rfl nX fun _ _=>?_
  refine JD 3 (fun h13=>?_) fun h13=>?_
  ·refine J 4 ?_
   refine .p (.sK (fun v1 v2 v3=>[v1,v2,v3]) rfl rfl rfl (by kernel_rfl)) ?_
   refine .ai rfl (ab.fG 80 rfl rfl (by kernel_rfl)) ?_
   rintro _ _ ⟨b20,rfl,rfl⟩
   refine J 9 ?_
   rw[show qV x=x.af from by unfold qV;rw[if_pos h12]]
   refine .c call101 rfl (kp hr (by omega)) fun k29 _=>?_
   refine .c call73 rfl (rF (A:=seps [arr b20 0 [.int .i64 4,.int .i64 x.af,.int .i64 x.mode],sl bW 3 k29 (cQ x.evs),A]) (xs:=[⟨4,x.af,x.mode⟩]) (ys:=cQ x.evs) (Rd.et (Rd.lit .here rfl (fun _ _=>rfl) rfl)) (Rd.et (Rd.sl .auto)) (by have:=jt x.evs;simp;omega)) fun u30 _=>?_
   refine .dL .auto ?_
   rw[show[⟨4,x.af,x.mode⟩]++cQ x.evs=x.strip from by unfold aR.strip;rw[if_pos h13,if_pos h12]]
   refine J 4 ?_
   refine .aP rfl rfl fun w s=>⟨_,?_,trivial,aj .auto s⟩
   rfl
  ·refine JD 6 (fun h21=>?_) fun h21=>?_
   ·refine J 2 ?_
    refine .p (.fW (fun v1 v2=>[v1,v2,(.int .i64 0)]) rfl rfl (by kernel_rfl)) ?_
    refine .ai rfl (ab.fG 80 rfl rfl (by kernel_rfl)) ?_
    rintro _ _ ⟨b25,rfl,rfl⟩
    refine J 9 ?_
    rw[show qV x=x.af from by unfold qV;rw[if_pos h12]]
    refine .c call101 rfl (kp hr (by omega)) fun k29 _=>?_
    refine .c call73 rfl (rF (A:=seps [arr b25 0 [.int .i64 4,.int .i64 x.af,.int .i64 0],sl bW 3 k29 (cQ x.evs),A]) (xs:=[⟨4,x.af,0⟩]) (ys:=cQ x.evs) (Rd.et (Rd.lit .here rfl (fun _ _=>rfl) rfl)) (Rd.et (Rd.sl .auto)) (by have:=jt x.evs;simp;omega)) fun u30 _=>?_
    refine .dL .auto ?_
    rw[show[⟨4,x.af,0⟩]++cQ x.evs=x.strip from by unfold aR.strip;rw[if_neg (by rw[h13];simp),if_pos h12]]
    refine J 4 ?_
    refine .aP rfl rfl fun w s=>⟨_,?_,trivial,aj .auto s⟩
    rfl
   ·rw[h12] at h21;cases h21
theorem mS{W:World}{A:aa}{v:Value}{xs:List Ev}(hr:Rd W [A] bW 3 v xs)(hl:xs.length≤1000000000):Fn Tryz.prog W 72 [v] [A] Value (fun u=>.agg (dY (u,aR.new xs)).toArray) (fun _=>True) (fun u=>[sl bW 3 u xs,A]):=by
 refine Fn.intro (N:=6) func72 rfl ntmps72 rfl fun F=>?_
 show aq _ _ _ _ _ _ [A,F]
 refine J 2 ?_
 refine .ai rfl (ab.alloc rfl zeroValue76 rfl) ?_
 rintro _ _ ⟨b2,rfl,rfl⟩
 refine J 5 ?_
 refine .c call79 rfl (oW hr hl) fun u4 _=>?_
 refine .cA (fun w s=>Rd.shape (Rd.sl .auto) w s) fun e=>?_
 obtain⟨a4,c4,rfl⟩:=e
 refine .p (.sK (fun v1 v2 v3=>[v1,v2,v3]) rfl rfl rfl (by kernel_rfl)) ?_
 refine J 4 ?_
 refine .dt rfl rfl isAgg76 (by exact sizeOf76) Cells.a fun w s=>⟨_,?_,trivial,aj .auto s⟩
 rfl
theorem pS{W:World}{A:aa}{u:Value}{x:aR}{m:Value}{ys:List Ev}(hr:Rd W [A] bW 3 u x.evs)(hm:Rd W [A] bW 3 m ys)(hl:x.evs.length≤400000000∧ys.length≤400000000):Fn Tryz.prog W 75 [.agg (dY (u,x)).toArray,m] [A] Value (fun w=>.agg (dY (w,x.told ys)).toArray) (fun _=>True) (fun w=>[sl bW 3 w (x.strip++ys),A]):=by
 refine Fn.intro (N:=10) func75 rfl ntmps75 rfl fun F=>?_
 show aq _ _ _ _ _ _ [A,F]
 have hsl:=lR x
 refine .cA (fun w s=>Rd.isSl (hr.at .here) w s) fun hu=>?_
 refine J 2 ?_
 refine .ai rfl (ab.box rfl rfl rfl) ?_
 rintro _ _ ⟨b2,rfl,rfl⟩
 refine .ai rfl (ab.alloc rfl zeroValue76 rfl) ?_
 rintro _ _ ⟨b4,rfl,rfl⟩
 refine J 5 ?_
 refine .c call74 rfl (nY hr (by omega)) fun u6 _=>?_
 refine J 1 ?_
 refine .c call73 rfl (rF (A:=seps [sl bW 3 u6 x.strip,A]) (xs:=x.strip) (ys:=ys) (Rd.et (Rd.sl .here)) (Rd.et (hm.at (.there .here))) (by omega)) fun u8 _=>?_
 refine .dL .auto ?_
 refine .c call72 rfl (mS (A:=sl bW 3 u8 (x.strip++ys)) (xs:=x.strip++ys) (Rd.sl .here) (by simp;omega)) fun u9 _=>?_
 refine .cA (fun w s=>Rd.shape (Rd.sl .auto) w s) fun e=>?_
 obtain⟨a9,c9,rfl⟩:=e
 refine J 4 ?_
 refine .dt rfl rfl isAgg76 (by exact sizeOf76) Cells.a fun w s=>⟨_,?_,trivial,aj .auto s⟩
 rfl
theorem EC{W:World}{b bs br:Nat}{l:Lib}{p:Int}:Fn Tryz.prog W 71 [ptr b,.int .i64 p] [aX b bs br l] Unit (fun _=>.bool (ga l p)) (fun _=>True) (fun _=>[aX b bs br l]):=by
 refine Fn.intro (N:=20) func71 rfl ntmps71 rfl fun F=>?_
 show aq _ _ _ _ _ _ [aX b bs br l,F]
 refine .o2 (C:=aX b bs br l) .auto rfl ?_
 rintro vv vw -
 refine .o1 (C:=cb vv l.vs) .auto rfl ?_
 rintro xs hxs
 have hxl:=aE hxs
 refine J 10 ?_
 apply aJ.gj 3 10 7 [7,8,9,10] rfl
 ·intro h7
  exact JS 4
 ·intro h7
  exact JS 4
 refine J 1 ?_
 apply aJ.eT 8 19 11 [11,12,13,14,15,16,17,18,19] rfl
 ·intro h11
  exact JS 9
 ·intro h11
  exact JS 9
 refine J 4 ?_
 refine .aP rfl rfl fun w s=>⟨(),?_,trivial,aj .auto s⟩
 unfold ga;rw[← hxl]
theorem jG{W:World}{b bs br:Nat}{l:Lib}{p:Int}:Fn Tryz.prog W 44 [ptr b,.int .i64 p] [aX b bs br l] Unit (fun _=>.bool (l.has p)) (fun _=>True) (fun _=>[aX b bs br l]):=by
 refine Fn.intro (N:=19) func44 rfl ntmps44 rfl fun F=>?_
 show aq _ _ _ _ _ _ [aX b bs br l,F]
 refine J 9 ?_
 refine .c call71 rfl EC fun _ _=>?_
 refine J 1 ?_
 apply aJ.gj 10 18 8 [8,9,10,11,12,13,14,15,16,17,18] rfl
 ·intro h8
  refine .o2 (C:=aX b bs br l) .auto rfl ?_
  rintro vv vw -
  refine .o1 (C:=cb vv l.vs) .auto rfl ?_
  rintro xs hxs
  have hxl:=aE hxs
  unfold ga at h8
  simp only[Bool.and_eq_true,decide_eq_true_eq] at h8
  obtain⟨i,hi⟩:∃ i:Nat,p=(i:Int):=⟨p.toNat,by omega⟩
  obtain⟨x,hx⟩:=al (show i<xs.length by omega)
  have hx2:=ff hxs hx
  refine J 5 ?_
  refine .g (.sJ i underlying93 sizeOf76 rfl (by rw[hi];rfl) Rd.s rfl (by omega)) ?_
  refine J 1 ?_
  refine .g (.eS (Y.load isAgg3 rfl (Cell.G0 Rd.s hx rfl)) ((j6 hx2).trans (congrArg _ hi.symm))) ?_
  exact JS 3
 ·intro h8
  exact JS 11
 refine J 4 ?_
 refine .aP rfl rfl fun w s=>⟨(),?_,trivial,aj .auto s⟩
 rw[j5]
theorem ia{W:World}{b bs br:Nat}{l:Lib}(hl:l.vs.length≤1000000000):Fn Tryz.prog W 16 [ptr b] [aX b bs br l] Value (fun u=>u) (fun _=>True) (fun u=>[sl ar 1 u l.procs,aX b bs br l]):=by
 refine Fn.intro (N:=24) func16 rfl ntmps16 rfl fun F=>?_
 show aq _ _ _ _ _ _ [aX b bs br l,F]
 refine J 12 ?_
 refine .eN rfl ?_
 refine J 10 ?_
 refine .o2 (C:=aX b bs br l) .auto rfl ?_
 rintro vv vw -
 refine .o1 (C:=cb vv l.vs) .auto rfl ?_
 rintro xs hxs
 have hxl:=aE hxs
 refine J 9 ?_
 refine .bf (X:=Nat×Value×List Int) [3,4,12,13,14,15,16,17,18,19,20,21,22] (fun z=>l.vs.length-z.1) (fun z=>z.1≤l.vs.length∧z.2.2.length≤z.1∧l.procs=z.2.2++procsFrom (l.vs.drop z.1) z.1) (fun z=>[(12,some (.int .i64 (z.1:Int))),(3,some z.2.1)]) (fun z=>[sl ar 1 z.2.1 z.2.2,aX b bs br l,F]) (0,.slice none 0 0,[]) ?_ ?_ ?_ ?_
 ·exact⟨Nat.zero_le _,Nat.le_refl _,rfl⟩
 ·exact⟨rfl,rfl,trivial⟩
 ·exact fun w s=>au.kept .auto w s
 rintro⟨k,u,ys⟩ ⟨hk,hyl,hn⟩
 simp only at hk hyl hn
 refine JD 6 (fun h13=>?_) fun h13=>?_
 ·refine J 14 ?_
  refine .c call44 rfl jG fun _ _=>?_
  refine JD 2 (fun h17=>?_) fun h17=>?_
  ·refine J 3 ?_
   refine .ai rfl (ab.fG 3 rfl rfl (by kernel_rfl)) ?_
   rintro _ _ ⟨b20,rfl,rfl⟩
   refine .ai rfl (ab.gv (enc:=ar) (k:=1) (k:Int) rfl underlying33 underlying33 typeInfo3 rfl rfl rfl (by decide) rfl rfl rfl .auto rfl .auto (by first | omega | (dsimp only;omega)) rfl) ?_
   rintro _ _ ⟨v21,rfl,rfl⟩
   refine J 8 ?_
   refine .aF (k+1,v21,ys++[(k:Int)]) .auto rfl ?_ ?_ ?_ ?_
   ·show l.vs.length-(k+1)<l.vs.length-k;omega
   ·exact⟨by show k+1≤_;omega,by simp;omega,by rw[hn,BJ (by omega) h17];simp⟩
   ·exact⟨rfl,rfl,trivial⟩
   ·exact fun w s=>au.kept .auto w s
  ·refine J 7 ?_
   refine .aF (k+1,u,ys) .auto rfl ?_ ?_ ?_ ?_
   ·show l.vs.length-(k+1)<l.vs.length-k;omega
   ·exact⟨by show k+1≤_;omega,by show ys.length≤k+1;omega,by rw[hn,DG (by omega) h17]⟩
   ·exact⟨rfl,rfl,trivial⟩
   ·exact fun w s=>au.kept .auto w s
 ·refine J 12 ?_
  obtain rfl:k=l.vs.length:=by omega
  rw[BK (Nat.le_refl _),List.append_nil] at hn
  subst hn
  refine .aP rfl rfl fun w s=>⟨_,?_,trivial,aj .auto s⟩
  rfl
end Go.SLYthncobnjdhjnoaaGreat
namespace Go.SLYthncobnjdhjnoaaGreat
open Go Go.RowKit Go.Proofs Go.Proofs.Tryz
attribute [local irreducible] aq aJ ba bq bu Y
theorem tL{W:World}{p:Int}:Fn Tryz.prog W 62 [.int .i64 p] [] Nat (fun b=>ptr b) (fun _=>True) (fun b=>[fy b (List.replicate (ay p 64).toNat [])]):=by
 refine Fn.intro (N:=23) func62 rfl ntmps62 rfl fun F=>?_
 show aq _ _ _ _ _ _ [F]
 have hc:0≤ay p 64∧ay p 64≤64:=by unfold ay;omega
 refine J 7 ?_
 refine .p (.l9 ([(.slice none 0 0)]) (by kernel_rfl)) ?_
 refine .ai rfl (ab.box rfl rfl rfl) ?_
 rintro _ _ ⟨b5,rfl,rfl⟩
 refine J 7 ?_
 refine .p (.qT rfl rfl) ?_
 refine .p (.eS (Y.jq rfl rfl) (show min (max p 0) 64=ay p 64 from rfl)) ?_
 refine J 4 ?_
 refine .bf (X:=Nat×Value×List (Nat×List Int)) [9,10,11,12,13,14,15,16,17,18,19,20,21] (fun z=>(ay p 64).toNat-z.1) (fun z=>z.1≤(ay p 64).toNat∧z.2.2.length=z.1∧z.2.2.map (·.2)=List.replicate z.1 []) (fun z=>[(9,some (.int .i64 (z.1:Int)))]) (fun z=>[arr b5 0 [z.2.1],sl cX 1 z.2.1 z.2.2,aO (fun x=>eK x.1 x.2) z.2.2,F]) (0,.slice none 0 0,[]) ?_ ?_ ?_ ?_
 ·exact⟨Nat.zero_le _,rfl,rfl⟩
 ·exact⟨rfl,trivial⟩
 ·exact fun w s=>au.kept .auto w s
 rintro⟨k,v,ts⟩ ⟨hk,htl,htm⟩
 simp only at hk htl htm
 refine JD 6 (fun h10=>?_) fun h10=>?_
 ·refine J 4 ?_
  refine .draw [arr b5 0 [v]] [0,0,0,0,0,2,2,2,1,1,3] rfl (by kernel_rfl) ?_
  refine J 5 ?_
  refine .c2 call87 rfl Cd fun x16 _=>?_
  refine .d2 rfl Kept.auto (ab.fG 179 rfl rfl (by kernel_rfl)) (by rintro _ _ ⟨b17,rfl,rfl⟩;exact Kept.auto) ?_
  rintro _ _ ⟨b17,rfl,rfl⟩
  refine .d2 rfl Kept.auto (ab.gv (enc:=cX) (k:=1) ((x16,[]):Nat×List Int) rfl underlying176 underlying176 typeInfo179 rfl rfl rfl (by decide) rfl rfl rfl .auto rfl .auto (by first | omega | (dsimp only;omega)) rfl) (by rintro _ _ ⟨v18,rfl,rfl⟩;exact Kept.auto) ?_
  rintro _ _ ⟨v18,rfl,rfl⟩
  refine J 2 ?_
  refine .d3 rfl (ab.ng sizeOf176 rfl rfl rfl) ?_
  rintro _ _ ⟨rfl,rfl⟩
  refine J 7 ?_
  refine .aF (k+1,v18,ts++[(x16,[])]) .auto rfl ?_ ?_ ?_ ?_
  ·show(ay p 64).toNat-(k+1)<(ay p 64).toNat-k;omega
  ·exact⟨by show k+1≤_;omega,by simp[htl],by simp[htm,List.replicate_succ']⟩
  ·exact⟨rfl,trivial⟩
  ·show ∀ w,Sat _ w _→Sat _ w (seps [_,sl cX 1 v18 (ts++[(x16,[])]),aO (fun x=>eK x.1 x.2) (ts++[(x16,[])]),F])
   rw[lN]
   exact fun w s=>au.kept .auto w s
 ·refine J 12 ?_
  obtain rfl:k=(ay p 64).toNat:=by omega
  exact JR 0 b5
theorem fD{W:World}{A:aa}{v:Value}{xs:List Int}(hr:Rd W [A] ar 1 v xs)(hl:xs.length≤1000000000):Fn Tryz.prog W 63 [v] [A] Value (fun u=>u) (fun _=>True) (fun u=>[sl bW 3 u (aQ xs),A]):=by
 refine Fn.intro (N:=19) func63 rfl ntmps63 rfl fun F=>?_
 haveI hRI:∀ (H:List aa) [bE H A],aG W H v ar 1 xs:=fun H h=>⟨hr.at h.has⟩
 show aq _ _ _ _ _ _ [A,F]
 refine J 19 ?_
 refine .bf (X:=Nat×Value) [3,5,8,9,10,11,12,13,14,15,16,17] (fun z=>xs.length-z.1) (fun z=>z.1≤xs.length) (fun z=>[(8,some (.int .i64 (z.1:Int))),(3,some z.2)]) (fun z=>[sl bW 3 z.2 (aQ (xs.take z.1)),A,F]) (0,.slice none 0 0) ?_ ?_ ?_ ?_
 ·exact Nat.zero_le _
 ·exact⟨rfl,rfl,trivial⟩
 ·exact fun w s=>au.kept .auto w s
 rintro⟨k,u⟩ hk
 simp only at hk
 refine JD 6 (fun h9=>?_) fun h9=>?_
 ·refine J 6 ?_
  obtain⟨n,hx⟩:=al (show k<xs.length by omega)
  refine J 8 ?_
  refine .p (.fW (fun v1 v2=>[v1,v2,(.int .i64 0)]) rfl rfl (by kernel_rfl)) ?_
  refine .ai rfl (ab.fG 80 rfl rfl (by kernel_rfl)) ?_
  rintro _ _ ⟨b15,rfl,rfl⟩
  refine .ai rfl (ab.gv (enc:=bW) (k:=3) (⟨3,n,0⟩:Ev) rfl underlying71 underlying71 typeInfo80 rfl rfl rfl (by decide) rfl rfl rfl .auto rfl .auto (by unfold aQ;rw[List.length_map,List.length_take];omega) rfl) ?_
  rintro _ _ ⟨v16,rfl,rfl⟩
  refine J 8 ?_
  refine .aF (k+1,v16) .auto rfl ?_ ?_ ?_ ?_
  ·show xs.length-(k+1)<xs.length-k;omega
  ·show k+1≤_;omega
  ·exact⟨rfl,rfl,trivial⟩
  ·show ∀ w,Sat _ w _→Sat _ w (seps [sl bW 3 v16 (aQ (xs.take (k+1))),A,F])
   rw[wO hx]
   exact fun w s=>au.kept .auto w s
 ·refine J 12 ?_
  obtain rfl:k=xs.length:=by omega
  rw[List.take_length]
  refine .aP rfl rfl fun w s=>⟨_,?_,trivial,aj .auto s⟩
  rfl
theorem A6{W:World}{bs:Nat}{ps:List (Option Nat)}{s:Spc}{p:Int}(hl:s.aA.length=16):Fn Tryz.prog W 30 [ptr bs,.int .i64 p] [cn bs ps s] Nat (fun b=>ptr b) (fun _=>True) (fun b=>[du b (Lib.new s p)]):=by
 refine Fn.intro (N:=24) func30 rfl ntmps30 rfl fun F=>?_
 show aq _ _ _ _ _ _ [cn bs ps s,F]
 have hc:0≤ay p 64∧ay p 64≤64:=by unfold ay;omega
 have hrl:s.ready.length≤1000000000:=by have:=gy s.aA 0;show(readyFrom s.aA 0).length≤_;omega
 refine J 8 ?_
 refine .p (.qT rfl rfl) ?_
 refine .p (.eS (Y.jq rfl rfl) (show min (max p 0) 64=ay p 64 from rfl)) ?_
 refine J 4 ?_
 refine .qM [] [0,0,2,0,4,0,4,0] [0,1,2,3,4,5,6,7] rfl (by kernel_rfl) ?_
 refine bu.q rfl rfl rfl Kept.auto (Y.m rfl) ?_
 refine bu.q rfl rfl rfl Kept.auto (Y.m rfl) ?_
 refine bu.dX rfl (.inl rfl) rfl (fun _=>Kept.auto) call62 rfl tL .auto (fun _ _=>Kept.auto) ?_
 rintro x12 -
 rw[show ay (ay p 64) 64=ay p 64 from by unfold ay;omega]
 refine bu.q rfl rfl rfl Kept.auto (Y.m rfl) ?_
 refine bu.fresh rfl rfl rfl (by decide) Kept.auto (il (enc:=dY) (k:=3) ((Value.slice none 0 0:Value),aR.z) (ay p 64).toNat underlying93 typeInfo76 rfl rfl rfl rfl (by decide) (by decide) rfl rfl (by omega) (by omega) (by omega)) ?_
 rintro b14
 refine bu.q rfl rfl rfl Kept.auto (Y.sK (fun v1 v2 v3=>[v1,v2,v3,(.slice none 0 0),(.bool false)]) rfl rfl rfl (by kernel_rfl)) ?_
 refine bu.fresh rfl rfl rfl (by decide) Kept.auto (lP rfl rfl) ?_
 rintro b16
 refine bu.q rfl rfl rfl Kept.auto (Y.a rfl) ?_
 refine bu.nil ?_
 refine J 3 ?_
 refine .to (A:=sl dY 3 (.slice (some ⟨b14,0,none⟩) (ay p 64).toNat (ay p 64).toNat) (List.replicate (ay p 64).toNat ((Value.slice none 0 0:Value),aR.z))) .auto (nu rfl) ?_
 refine J 2 ?_
 refine .c call45 rfl (mR hl) fun u19 _=>?_
 refine .c call63 rfl (fD (A:=sl ar 1 u19 s.ready) (Rd.sl .here) hrl) fun u20 _=>?_
 refine J 2 ?_
 refine .ai rfl (ab.ng sizeOf71 rfl rfl rfl) ?_
 rintro _ _ ⟨rfl,rfl⟩
 refine J 9 ?_
 refine .aP rfl rfl fun w s=>⟨b16,?_,trivial,aj (by repeat (first | exact au.nil | (apply au.cons; · repeat (first | exact Take.here | apply Take.there)) | apply au.FT | apply au.FU | apply au.void | apply au.FQ | apply au.two | (apply au.BA; · exact fV) | (apply au.allM; · exact fun _=>fV) | apply au.f1 rfl | apply au.f2 rfl | apply au.f3 rfl | apply au.f4 rfl | apply au.f10 rfl | apply au.et | assumption | exact trivial | rfl | omega | (apply au.BA; · exact fV) | (focus (simp[Lib.new];done)) | (unfold Lib.new;simp only;apply au.cons; · repeat (first | exact Take.here | apply Take.there)))) s⟩
 rfl
theorem lX{W:World}{b bs br:Nat}{l:Lib}{p:Int}(hw:l.waiting.length≤400000000):Fn Tryz.prog W 32 [ptr b,.int .i64 p] [aX b bs br l] Unit (fun _=>.bool (l.cO p).1) (fun _=>True) (fun _=>[aX b bs br (l.cO p).2]):=by
 refine Fn.intro (N:=31) func32 rfl ntmps32 rfl fun F=>?_
 show aq _ _ _ _ _ _ [aX b bs br l,F]
 refine J 10 ?_
 refine .c call71 rfl EC fun _ _=>?_
 refine J 2 ?_
 apply aJ.gM 4 13 9 [9,10,11,12,13] rfl
 ·intro h9
  refine J 2 ?_
  refine .cg call44 rfl jG fun _ _=>?_
  exact JS 2
 ·intro h9
  exact JS 5
 refine JD 2 (fun h13=>?_) fun h13=>?_
 ·simp only[Bool.or_eq_true,Bool.not_eq_true'] at h13
  refine J 7 ?_
  rw[ju h13]
  exact JR 0 ()
 ·simp only[Bool.or_eq_false_iff,Bool.not_eq_false'] at h13
  refine J 3 ?_
  obtain⟨i,v,rfl,hv,hg⟩:=lT h13.1 h13.2
  rw[hg]
  refine .o2 (C:=aX b bs br l) .auto rfl ?_
  rintro vv vw -
  refine .o1 (C:=cb vv l.vs) .auto rfl ?_
  rintro xs hxs
  have hxl:=aE hxs
  obtain⟨x,hx,rfl⟩:=da hxs hv
  have hil:=(List.getElem?_eq_some_iff.1 hx).1
  refine .draw [arr b 0 (k0 bs br vv vw l.locked)] [0,0,0,0,0,1,2,0,0,0,0,2,2,1,3] rfl (by kernel_rfl) ?_
  refine J 5 ?_
  refine .p (.fW (fun v1 v2=>[v1,v2,(.int .i64 0)]) rfl rfl (by kernel_rfl)) ?_
  refine .d2 rfl Kept.auto (ab.fG 80 rfl rfl (by kernel_rfl)) (by rintro _ _ ⟨b20,rfl,rfl⟩;exact Kept.auto) ?_
  rintro _ _ ⟨b20,rfl,rfl⟩
  refine J 4 ?_
  refine .c2 call73 rfl (rF (A:=seps [arr b20 0 [.int .i64 1,.int .i64 (-1),.int .i64 0],sl bW 3 vw l.waiting]) (xs:=[⟨1, -1,0⟩]) (ys:=l.waiting) (Rd.et (Rd.lit .here rfl (fun _ _=>rfl) rfl)) (Rd.et (Rd.sl .auto)) (by simp;omega)) fun u25 _=>?_
  refine .dL .auto ?_
  refine .c2 call72 rfl (mS (A:=sl bW 3 u25 (⟨1, -1,0⟩::l.waiting)) (xs:=⟨1, -1,0⟩::l.waiting) (Rd.sl .here) (by simp;omega)) fun u26 _=>?_
  refine .cA (fun w s=>Rd.isSl (Rd.sl .auto) w s) fun hu26=>?_
  refine .p (.ix i rfl rfl rfl (by omega)) ?_
  refine .d3 rfl (ab.k4 (x':=(u26,aR.new (⟨1, -1,0⟩::l.waiting))) rfl rfl sizeOf76 (j7 hu26) hx rfl rfl .auto) ?_
  rintro _ _ ⟨rfl,rfl⟩
  refine J 4 ?_
  refine .fr .auto (cY (f:=fun x:Value×aR=>sl bW 3 x.1 x.2.evs) hx) ?_
  refine .to (A:=aO (fun x:Value×aR=>sl bW 3 x.1 x.2.evs) (xs.set i (u26,aR.new (⟨1, -1,0⟩::l.waiting)))) .auto (oH (f:=fun x:Value×aR=>sl bW 3 x.1 x.2.evs) (u26,aR.new (⟨1, -1,0⟩::l.waiting)) hx) ?_
  have hms:=map_set hxs i (u26,aR.new (⟨1, -1,0⟩::l.waiting))
  exact JR 12 ()
theorem lx{W:World}{b bs br:Nat}{l:Lib}{A:aa}{m:Value}{ys:List Ev}(hm:Rd W [A] bW 3 m ys)(hl:ys.length≤400000000∧l.waiting.length≤400000000∧l.vs.length≤1000000000∧ ∀ v∈l.vs,v.evs.length≤400000000):Fn Tryz.prog W 35 [ptr b,m] [aX b bs br l,A] Unit (fun _=>.tuple #[]) (fun _=>True) (fun _=>[aX b bs br (l.tell ys),A]):=by
 refine Fn.intro (N:=45) func35 rfl ntmps35 rfl fun F=>?_
 haveI hRI:∀ (H:List aa) [bE H A],aG W H m bW 3 ys:=fun H h=>⟨hm.at h.has⟩
 show aq _ _ _ _ _ _ [aX b bs br l,A,F]
 refine .s (.s (.r (.p (.m rfl) (.p (.Ky rfl rfl) (.p (.m rfl) ?_)))))
 apply aJ.gM 4 11 7 [7,8,9,10,11] rfl
 ·intro h7
  refine .g (.m rfl) (.g (.len rfl) (.g (.eql rfl rfl) (.p (.u rfl rfl) (.n ?_))))
  refine .yy .auto rfl (by first | exact fun _ h=>h | exact au.kept .auto)
 ·intro h7
  refine .u (.u (.u (.p (.t rfl rfl) (.n ?_))))
  refine .yy .auto rfl (by first | exact fun _ h=>h | exact au.kept .auto)
 refine .n (.t (.cond rfl (fun h11=>?_) (fun h11=>?_)))
 ·simp only[Bool.or_eq_true,decide_eq_true_eq] at h11
  refine .e (.tr ?_)
  obtain rfl:ys=[]:=by simpa using h11
  rw[k5]
  refine .Hv rfl fun w s=>⟨(),?_,trivial,aj .auto s⟩
  rfl
 ·simp only[Bool.or_eq_false_iff,decide_eq_false_iff_not] at h11
  refine .v (.t (.s (.r (.p (.m rfl) ?_))))
  have hne:ys≠[]:=by simpa using h11
  refine .ai rfl (ab.dX rfl call16 rfl (ia hl.2.2.1) .auto) ?_
  rintro _ _ ⟨u13, -,rfl,rfl⟩
  refine .p (.a rfl) (.n (.t (.s (.s (.r (.p (.m rfl) (.p (.len rfl) (.p (.eql rfl rfl) (.n (.t (.dK rfl (fun h16=>?_) (fun h16=>?_))))))))))))
  ·refine .s (.r ?_)
   refine .o2 (C:=aX b bs br l) .auto rfl ?_
   rintro vv vw -
   refine .o1 (C:=cb vv l.vs) .auto rfl ?_
   rintro xs hxs
   have hxl:=aE hxs
   refine .p (.m rfl) (.p (.m rfl) (.p (.n rfl) (.p (.f rfl) (.p (.l rfl) (.p (.m rfl) ?_)))))
   rw[jv hne (by simpa using h16)]
   refine .ai rfl (ab.dX rfl call73 rfl (rF (A:=seps [sl bW 3 vw l.waiting,A]) (xs:=l.waiting) (ys:=ys) (Rd.et (Rd.sl .here)) (Rd.et (hm.at (.there .here))) (by omega)) .auto) ?_
   rintro _ _ ⟨u23, -,rfl,rfl⟩
   refine .dL .auto ?_
   refine .p (.n rfl) (.p (.f rfl) ?_)
   refine .ai rfl (ab.ng sizeOf71 rfl rfl rfl) ?_
   rintro _ _ ⟨rfl,rfl⟩
   refine .n (.t (.e (.tr (.Hv rfl fun w s=>⟨(),?_,trivial,aj .auto s⟩))))
   rfl
  ·refine .v (.t ?_)
   obtain⟨p,r,hp⟩:∃ p r,l.procs=p::r:=by
    cases e:l.procs with
    | nil=>rw[e] at h16;exact absurd rfl h16
    | cons p r=>exact⟨p,r,rfl⟩
   obtain⟨i,v,rfl,hv,hmd⟩:=ir hp
   have hp0:l.procs[0]?=some (i:Int):=by rw[hp];rfl
   rw[jw hne hp hv]
   refine .o2 (C:=aX b bs br l) .auto rfl ?_
   rintro vv vw -
   refine .o1 (C:=cb vv l.vs) .auto rfl ?_
   rintro xs hxs
   have hxl:=aE hxs
   obtain⟨x,hx,rfl⟩:=da hxs hv
   have hil:=(List.getElem?_eq_some_iff.1 hx).1
   refine .fr .auto (cY (f:=fun x:Value×aR=>sl bW 3 x.1 x.2.evs) hx) ?_
   have hel:=hl.2.2.2 x.2 (List.mem_of_getElem? hv)
   refine .draw [arr b 0 (k0 bs br vv vw l.locked),sl ar 1 u13 l.procs] [0,0,0,0,0,0,0,1,1,1,1,1,1,1,1,1,1,2,1,3] rfl (by kernel_rfl) ?_
   refine .q (.m rfl) (.q (.n rfl) (.q (.f rfl) (.q (.l rfl) (.q (.m rfl) ?_))))
   refine .q (.ix 0 rfl rfl rfl (by rw[hp];simp)) ?_
   refine .q (.lr rfl hp0) ?_
   refine .p (.m rfl) (.p (.n rfl) (.p (.f rfl) (.p (.l rfl) (.p (.m rfl) ?_))))
   refine .p (.ix 0 rfl rfl rfl (by rw[hp];simp)) ?_
   refine .p (.lr rfl hp0) ?_
   refine .p (.ix i rfl rfl rfl (by omega)) ?_
   refine .p (.la rfl (Cells.rd Rd.s ‹_›)) ?_
   refine .p (.m rfl) ?_
   refine .d2 rfl Kept.auto (ab.dX rfl call75 rfl (pS (A:=seps [sl bW 3 x.1 x.2.evs,A]) (u:=x.1) (x:=x.2) (m:=m) (ys:=ys) (Rd.et (Rd.sl .here)) (Rd.et (hm.at (.there .here))) (by omega)) .auto) (by rintro _ _ ⟨u43, -,rfl,rfl⟩;exact Kept.auto) ?_
   rintro _ _ ⟨u43, -,rfl,rfl⟩
   refine .cA (fun w s=>Rd.isSl (Rd.sl .auto) w s) fun hu43=>?_
   refine .dL .auto ?_
   refine .p (.ix i rfl rfl rfl (by omega)) ?_
   refine .d3 rfl (ab.k4 (x':=(u43,x.2.told ys)) rfl rfl sizeOf76 (j7 hu43) hx rfl rfl .auto) ?_
   rintro _ _ ⟨rfl,rfl⟩
   refine .n ?_
   refine .to (A:=aO (fun x:Value×aR=>sl bW 3 x.1 x.2.evs) (xs.set i (u43,x.2.told ys))) .auto (oH (f:=fun x:Value×aR=>sl bW 3 x.1 x.2.evs) (u43,x.2.told ys) hx) ?_
   have hms:=map_set hxs i (u43,x.2.told ys)
   refine .Bn rfl fun w s=>⟨(),?_,trivial,aj .auto s⟩
   rfl
theorem rK{W:World}{b bs br:Nat}{l:Lib}{p:Int}(hl:l.waiting.length≤400000000∧l.vs.length≤1000000000∧ ∀ v∈l.vs,v.evs.length≤300000000):Fn Tryz.prog W 33 [ptr b,.int .i64 p] [aX b bs br l] Unit (fun _=>.bool (l.cF p).1) (fun _=>True) (fun _=>[aX b bs br (l.cF p).2]):=by
 refine Fn.intro (N:=28) func33 rfl ntmps33 rfl fun F=>?_
 show aq _ _ _ _ _ _ [aX b bs br l,F]
 refine J 10 ?_
 refine .c call44 rfl jG fun _ _=>?_
 refine JD 3 (fun h9=>?_) fun h9=>?_
 ·refine J 7 ?_
  rw[Bool.not_eq_true'] at h9
  rw[jx h9]
  exact JR 0 ()
 ·refine J 4 ?_
  rw[Bool.not_eq_false'] at h9
  obtain⟨i,v,rfl,hv⟩:=lS (qW h9)
  rw[iu h9 hv]
  refine .o2 (C:=aX b bs br l) .auto rfl ?_
  rintro vv vw -
  refine .o1 (C:=cb vv l.vs) .auto rfl ?_
  rintro xs hxs
  have hxl:=aE hxs
  obtain⟨x,hx,rfl⟩:=da hxs hv
  have hil:=(List.getElem?_eq_some_iff.1 hx).1
  refine .fr .auto (cY (f:=fun x:Value×aR=>sl bW 3 x.1 x.2.evs) hx) ?_
  have hel:=hl.2.2 x.2 (List.mem_of_getElem? hv)
  have hsl:=lR x.2
  refine J 5 ?_
  refine .p (.ix i rfl rfl rfl (by omega)) ?_
  refine J 1 ?_
  refine .c call74 rfl (nY (A:=sl bW 3 x.1 x.2.evs) (u:=x.1) (x:=x.2) (Rd.sl .here) (by omega)) fun u17 _=>?_
  refine J 10 ?_
  refine .p (.l9 ([(.int .i64 0),(.int .i64 0),(.slice none 0 0)]) (by kernel_rfl)) ?_
  refine .p (.ix i rfl rfl rfl (by omega)) ?_
  refine .ai rfl (ab.k4 (x':=((Value.slice none 0 0:Value),aR.z)) rfl rfl sizeOf76 rfl hx rfl rfl .auto) ?_
  rintro _ _ ⟨rfl,rfl⟩
  refine J 4 ?_
  refine .to (A:=aO (fun x:Value×aR=>sl bW 3 x.1 x.2.evs) (xs.set i ((Value.slice none 0 0:Value),aR.z))) .auto (oH (f:=fun x:Value×aR=>sl bW 3 x.1 x.2.evs) ((Value.slice none 0 0:Value),aR.z) hx) ?_
  have hms:=map_set hxs i ((Value.slice none 0 0:Value),aR.z)
  refine J 2 ?_
  refine .ai rfl (ab.dX rfl call35 rfl (lx (l:={l with vs:=l.vs.set i aR.z }) (A:=sl bW 3 u17 x.2.strip) (Rd.sl .here) ⟨by omega,hl.1,by show(l.vs.set i aR.z).length≤_;rw[List.length_set];exact hl.2.1,fun v hv=>by
   rcases List.mem_or_eq_of_mem_set hv with h | h
   ·exact Nat.le_trans (hl.2.2 v h) (by omega)
   ·subst h;exact Nat.zero_le _⟩) .auto) ?_
  rintro _ _ ⟨⟨⟩, -,rfl,rfl⟩
  exact JR 8 ()
end Go.SLYthncobnjdhjnoaaGreat
