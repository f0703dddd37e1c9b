/- LibLocks: whatever program, processors and acts: the law's call returns true, and its arguments read as they did. Conditions: what is read is of bulk at most 1048576 (the statement's own). -/
import Derived.Test.YthncobnjdhjnoaaGreatG05
import Derived.Test.YthncobnjdhjnoaaGreatG11
namespace Go.Proofs.YthncobnjdhjnoaaGreat.libLocks
open Go Go.RowKit Go.ChangeShapes Go.WideShapes Go.ChangeAt Go.SLYthncobnjdhjnoaaGreat
section
variable{H:Type}{enc:TypeId×Value→H}{W:World}
theorem opensWha16:eY enc Tryz.prog W Rows.uptoBulk 66 rE (fun _ _=>True):=fun fuel cs x h=>by
 obtain⟨hl,hf⟩:=iV bulkOk Tryz.underlying66 (by kernel_rfl) (by
  intro i f hi
  match i,hi with
  | 0,hi=>cases hi;exact⟨rfl,by kernel_rfl⟩
  | 1,hi=>cases hi;exact⟨rfl,by kernel_rfl⟩
  | 2,hi=>cases hi;exact⟨rfl,by kernel_rfl⟩
  | n+3,hi=>simp at hi) h
 obtain⟨v0,n0,y0,e0,t0,_⟩:=hf 0 _ rfl
 obtain⟨v1,n1,y1,e1,t1,_⟩:=hf 1 _ rfl
 obtain⟨v2,n2,y2,e2,t2,_⟩:=hf 2 _ rfl
 obtain⟨a0,r0,_,_⟩:=DataW.trod_int Tryz.underlying3 t0
 obtain⟨a1,r1,_,_⟩:=DataW.trod_int Tryz.underlying3 t1
 obtain⟨a2,r2,_,_⟩:=DataW.trod_int Tryz.underlying3 t2
 cases r0;cases r1;cases r2
 refine⟨⟨a0,a1,a2⟩,?_,trivial⟩
 match cs,hl with
 | [w0,w1,w2],_ =>
  simp at e0 e1 e2
  subst e0 e1 e2
  rfl
theorem opensWhas16:eY enc Tryz.prog W Rows.uptoBulk 61 (fun p:Value×List Ij=>[p.1]) (fun p n=>gJ W rE 3 p.1 p.2∧p.2.length+1≤n∧ ∀ a∈p.2,True) :=
 eY.slice bulkOk Tryz.underlying61 (by kernel_rfl) (by decide) (fun _=>rfl) opensWha16 (fun _ _ _ _ _=>trivial)
end
set_option maxRecDepth 100000 in
theorem contract(H:Type)(enc:TypeId×Value→H)(W:World)(base:Nat)(args:Array Value)(ds gs:List (DataW H))(before:List MemPlace)
  (hval:∀ (j:Nat) t v,Tryz.f7.params[j]?=some t→args[j]?=some v→Value.okWide Tryz.prog W .any base t v)
  (hW:DataW.Whole enc Tryz.prog Tryz.f7.params.toList Rows.libLocksSpec.vars false W args.toList ds gs before) (hk:Rows.uptoSmall H (ds++gs)=true) :
  Calls Tryz.prog 7 args W fun e W'=>∃ v,e = .returned v∧Rows.libLocksSpec.post enc Tryz.prog Tryz.f7 false true false false W args v W':=by
 have hW':=hW
 obtain⟨p,q,hA0,hV,rfl,hfz,hnd⟩:=hW
 have hA:DataW.TrodAll enc Tryz.prog W 0 (fun _=>true) true Tryz.f7.params.toList args.toList ds p:=hA0
 rw[Tryz.params7] at hA hval
 obtain⟨v0,vs0,d0,ds0,p0,q0,hargs,rfl,rfl,h0,r0⟩:=trodAll_cons hA
 obtain⟨v1,vs1,d1,ds1,p1,q1,rfl,rfl,rfl,h1,r1⟩:=trodAll_cons r0
 obtain⟨v2,vs2,d2,ds2,p2,q2,rfl,rfl,rfl,h2,r2⟩:=trodAll_cons r1
 obtain⟨rfl,rfl,rfl⟩:=trodAll_nil r2
 obtain rfl:args = #[v0,v1,v2]:=by cases args;simp_all
 obtain⟨rfl,rfl⟩:=trodVars_none hV
 have hb:=bound hk
 obtain⟨cs0,rfl,_⟩:=okWide_struct Tryz.underlying60 (hval 0 60 v0 rfl rfl)
 obtain⟨n0,t0⟩:=h0
 obtain⟨x0,e0,hp0⟩:=opensPrg _ _ _ t0
 obtain rfl:cs0=(fe x0).toArray:=by
  have h:=e0
  simp only[Value.cells] at h
  rw[← h]
 obtain⟨x1,rfl,rfl,rfl,w1⟩:=open_int Tryz.underlying5 (hval 1 5 v1 rfl rfl) h1
 have hx1:0≤x1∧x1≤255:=bounds_u8 w1
 obtain⟨s2,len2,cap2,rfl⟩:=okWide_slice Tryz.underlying61 (hval 2 61 v2 rfl rfl)
 obtain⟨n2,t2⟩:=h2
 obtain⟨⟨u2,xs2⟩,e2,hr2,hl2,hp2⟩:=opensWhas16 _ _ _ t2
 obtain rfl:Value.slice s2 len2 cap2=u2:=by simpa [Value.cells] using e2
 have hll2:xs2.length+1≤Rows.uptoBulk d2:=hl2
 simp only[List.append_nil,List.map_cons,List.sum_cons] at hb
 have hle0:Rows.uptoBulk d0≤1000000000:=by omega
 have hlen2:xs2.length≤1000000000:=by omega
 refine(Fn.done (Fn.emp (yt (A:=emp) (hp0.rd _) ⟨Nat.le_trans hp0.fl hle0,Nat.le_trans hp0.sl hle0,Nat.le_trans hp0.pl hle0⟩ hp0.wo (Rd.old hr2) hlen2 hx1))).mono fun e W' ⟨he,hb⟩=>?_
 exact⟨_,he,lq laid (by kernel_rfl) rfl (by kernel_rfl) Tryz.underlying4 hW' rfl rfl rfl hb⟩
set_option maxRecDepth 100000 in
theorem lifted(os:Os)(started:os.Started)(H:Type)(enc:TypeId×Value→H)(F:Stop.Interp) :
  ReturnsInHanded {} Tryz.checked os 7 .any ((Rows.OpenSpec.upto Rows.libLocksSpec).pre6 enc Tryz.prog Tryz.f7 Rows.libLocksUptoRow.domain false) (((Rows.OpenSpec.upto Rows.libLocksSpec).at F).post enc Tryz.prog Tryz.f7 false true false false):=by
 refine returnsInHanded_of_cond (C:=Tryz.checked) (s:=Rows.OpenSpec.upto Rows.libLocksSpec) (k:=Rows.uptoSmall) rfl own started (by kernel_rfl) Tryz.func7
  (OpenSpec.witness (enc:=enc) (C:=Tryz.checked) (s:=Rows.OpenSpec.upto Rows.libLocksSpec) (k:=Rows.uptoSmall) rfl false ⟨#[], #[.agg #[.slice none 0 0,.int .i64 0,.int .i64 0,.int .i64 0,.slice none 0 0,.slice none 0 0,.int .i64 0,.int .i64 0],.int .u8 0,.slice none 0 0],[]⟩ 8 (by kernel_rfl) (by kernel_rfl) (by kernel_rfl)
   (x:=([.agg [.nil,.lit (.int .i64 0),.lit (.int .i64 0),.lit (.int .i64 0),.nil,.nil,.lit (.int .i64 0),.lit (.int .i64 0)],.lit (.int .u8 0),.nil],[],[])) (by kernel_rfl) rfl (by kernel_rfl)) ?_
 intro W base args ds gs before hval hW _ hk _
 exact contract H enc W base args ds gs before hval hW hk
theorem c1:(Rows.libLocksUptoRow.inPlace == Tryz.prog.inPlace 7)=true:=by kernel_rfl
theorem c2:(Rows.libLocksUptoRow.unfollowed == Tryz.prog.unfollowed 7)=true:=by kernel_rfl
theorem c3:(Rows.libLocksUptoRow.recurses == Tryz.prog.recurses 7)=true:=by kernel_rfl
theorem c4:(Rows.libLocksUptoRow.named == Tryz.prog.varsNamed 7)=true:=by kernel_rfl
theorem closed:joinedFacts Tryz.prog 7 Tryz.f7 (Rows.OpenSpec.upto Rows.libLocksSpec).bare Rows.libLocksUptoRow=true:=by
 unfold joinedFacts
 rw[c1,c2,c3,c4]
 kernel_rfl
theorem over:Rows.libLocksUptoRow.holds Tryz.pinned (Rows.OpenSpec.upto Rows.libLocksSpec) :=
 OpenClaim.holds_of_cond 7 Tryz.f7 rfl rfl rfl rfl rfl rfl rfl ⟨rfl,rfl,rfl,rfl,rfl⟩ rfl rfl rfl rfl rfl (by kernel_rfl) Tryz.func7 closed
  (of_decide_eq_true (by kernel_rfl)) (by unfold Func.isWrapper;first | (rw[if_pos (by decide +kernel)];kernel_rfl) | (rw[if_neg (by decide +kernel)];exact⟨rfl,rfl⟩))
  (fun os started H enc _ F=>lifted os started H enc F)
theorem proved:Rows.LibLocksUptoSaid:=over
end Go.Proofs.YthncobnjdhjnoaaGreat.libLocks
