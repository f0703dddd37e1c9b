/- Walks of functions, and what they compute. Conditions: none, this text proves no statement. -/
import Derived.Test.YtpbjdoplfgeliaaGreatU15
import Derived.Test.YtpbjdoplfgeliaaGreatU06
namespace Go.SLYtpbjdoplfgeliaaGreat
open Go Go.RowKit
theorem Bb{c c':Nat→Nat}{want:List Int}:∀ n,(∀ j,j<n→(want.getD j 0).toNat-c j=(want.getD j 0).toNat-c' j)→Br c want n=Br c' want n
 | 0,_=>rfl
 | n+1,h=>by rw[Br,Br,Bb n (fun j hj=>h j (by omega)),h n (by omega)]
theorem D2{want:List Int}{c:Nat→Nat}:∀ (d n mv:Nat) {m:Nat} {k:Krn},d=want.length-n→n≤want.length→Inv m k→want.length≤k.libs.length→(∀ j:Nat,n≤j→k.owner.count (j:Int)=c j)→(takeFrom (want.drop n) n (k,mv)).2+mvT c want n=mv+mvT c want want.length
 | 0,n,mv,m,k,hd,hn,_,_,_=>by
  have:n=want.length:=by omega
  subst this
  rw[List.drop_of_length_le (Nat.le_refl _),takeFrom]
 | d+1,n,mv,m,k,hd,hn,hi,hl,hc=>by
  obtain⟨w,hw⟩:=ai (show n<want.length by omega)
  rw[drop_cons hw,takeFrom]
  obtain⟨h1,h2,h3⟩:=DM hi (n:=n) (by omega) w.toNat
  have ih:=D2 (want:=want) (c:=c) d (n+1) (mv+((cu k n).drop w.toNat).length) (by omega) (by omega) h1 (by omega) fun j hj=>by
   rw[h2,jL _ _ (by omega) (by omega),if_neg (by omega)]
   exact hc j (by omega)
  have hp:=lS hi (n:=n) (by omega)
  rw[mvT,mc hw, ← hc n (Nat.le_refl _)] at ih
  rw[List.length_drop,hp] at ih ⊢
  omega
theorem D3{want:List Int}{c:Nat→Nat}:∀ (d n mv:Nat) {m:Nat} {k:Krn},d=want.length-n→n≤want.length→Inv m k→Room want k→(∀ j:Nat,n≤j→k.owner.count (j:Int)=c j)→(cO (want.drop n) n (k,mv)).2+Br c want n=mv+Br c want want.length
 | 0,n,mv,m,k,hd,hn,_,_,_=>by
  have:n=want.length:=by omega
  subst this
  rw[List.drop_of_length_le (Nat.le_refl _),cO]
 | d+1,n,mv,m,k,hd,hn,hi,hr,hc=>by
  obtain⟨w,hw⟩:=ai (show n<want.length by omega)
  rw[ra hw hi (by have:=hr.len;omega)]
  obtain⟨h1,h2,h3⟩:=m5 hw _ hi hr rfl
  have ih:=D3 (want:=want) (c:=c) d (n+1) (mv+(w.toNat-k.owner.count (n:Int))) (by omega) (by omega) (km (n:Int) _ hi).1 h1 fun j hj=>by
   rw[h3 j (by omega)];exact hc j (by omega)
  rw[Br,mc hw] at ih
  rw[hc n (Nat.le_refl _)] at ih ⊢
  omega
theorem Bc{m:Nat}{k:Krn}(h:Inv m k)(prio:List Int)(turn:Int)(hne:k.targets prio turn≠[]):(k.share prio turn).2=mvT (fun j=>k.owner.count (j:Int)) (k.targets prio turn) (k.targets prio turn).length+Br (fun j=>k.owner.count (j:Int)) (k.targets prio turn) (k.targets prio turn).length:=by
 have htf:=dT h.ok prio turn
 obtain⟨h1,h2⟩:=iz (k.targets prio turn) 0 0 h (by omega)
 have hr:=q8 h (htf.2.2.2 hne) htf.2.2.1
 obtain⟨_,t2,t3⟩:=jM (k.targets prio turn) 0 0 h (by omega)
 have e1:=D2 (want:=k.targets prio turn) (c:=fun j=>k.owner.count (j:Int)) _ 0 0 rfl (Nat.zero_le _) h htf.1 (fun _ _=>rfl)
 rw[List.drop_zero] at e1
 unfold Krn.share
 rw[sP (takeFrom (k.targets prio turn) 0 (k,0))]
 have e2:=D3 (want:=k.targets prio turn) (c:=fun j=>(takeFrom (k.targets prio turn) 0 (k,0)).1.owner.count (j:Int)) _ 0 (takeFrom (k.targets prio turn) 0 (k,0)).2 rfl (Nat.zero_le _) h1 hr (fun _ _=>rfl)
 rw[List.drop_zero] at e2
 have e3:=Bb (c:=fun j=>(takeFrom (k.targets prio turn) 0 (k,0)).1.owner.count (j:Int)) (c':=fun j=>k.owner.count (j:Int)) (want:=k.targets prio turn) (k.targets prio turn).length fun j hj=>by
  obtain⟨w,hw⟩:=ai hj
  rw[t2,trims_count,if_neg (by omega),Nat.sub_zero,hw,mc hw]
  simp only
  omega
 rw[mvT] at e1
 rw[Br,e3] at e2
 omega
theorem xH{o want:List Int}(h:∀ (i:Nat) (w:Int),want[i]?=some w→o.count (i:Int)=w.toNat):∀ L,L≤want.length→cntTo o L=bR (want.take L)
 | 0,_=>rfl
 | L+1,hL=>by
  obtain⟨x,hx⟩:=ai (show L<want.length by omega)
  rw[cntTo,aW hx,kh,xH h L (by omega),h L x hx]
theorem FN{m:Nat}{k:Krn}(h:o0 m k){want:List Int}(hl:want.length=k.libs.length)(hc:∀ (i:Nat) (w:Int),want[i]?=some w→k.owner.count (i:Int)=w.toNat):k.free.length+bR want=k.owner.length:=by
 have h1:=yP h.own
 have h2:=xH hc want.length (Nat.le_refl _)
 rw[List.take_length,hl] at h2
 rw[show k.free=posFrom (-1) k.owner 0 from m3 _ _,gT]
 omega
theorem CW{k:Krn}{prio:List Int}{turn:Int}(h:k.targets prio turn=[]):k.share prio turn=(k,0):=by unfold Krn.share;rw[h];rfl
theorem FO{k:Krn}{prio:List Int}{turn:Int}(h:k.targets prio turn=[])(hl:k.libs.length≠0):k.fair prio turn=false:=by
 unfold Krn.fair
 rw[h,decide_eq_false (show ¬([]:List Int).length=k.libs.length from fun e=>hl e.symm)];rfl
def F2(k:Krn)(want:List Int)(n:Nat):Nat:=mvT (fun j=>k.owner.count (j:Int)) want n+Br (fun j=>k.owner.count (j:Int)) want n
theorem Bd{k:Krn}{want:List Int}{n:Nat}{w:Int}(h:want[n]?=some w):F2 k want (n+1)=F2 k want n+(k.owner.count (n:Int)-w.toNat)+(w.toNat-k.owner.count (n:Int)):=by
 unfold F2
 rw[mvT,Br,mc h]
 omega
theorem I7{k:Krn}{want:List Int}(hk:k.owner.length≤64)(hw:∀ w∈want,w≤64):∀ n,n≤want.length→F2 k want n≤128 * n
 | 0,_=>Nat.le_refl _
 | n+1,hn=>by
  obtain⟨w,hx⟩:=ai (show n<want.length by omega)
  rw[Bd hx]
  have:=I7 hk hw n (by omega)
  have:=hw w (List.mem_of_getElem? hx)
  have:k.owner.count (n:Int)≤k.owner.length:=List.count_le_length
  omega
end Go.SLYtpbjdoplfgeliaaGreat
