/- WholeShares: whatever processors, programs, script and turn: the law's call returns true, and its arguments read as they did. Conditions: what is read is of bulk at most 1048576 (the statement's own). -/
import Derived.Test.YtpbjdoplfgeliaaGreatU07
import Derived.Test.YtpbjdoplfgeliaaGreatU24
namespace Go.Proofs.YtpbjdoplfgeliaaGreat.wholeShares
open Go Go.RowKit Go.ChangeShapes Go.WideShapes Go.ChangeAt Go.SLYtpbjdoplfgeliaaGreat
set_option maxRecDepth 100000 in
theorem contract(H:Type)(enc:TypeId×Value→H)(W:World)(base:Nat)(args:Array Value)(ds gs:List (DataW H))(before:List MemPlace)
  (hval:∀ (j:Nat) t v,Tryz.f7.params[j]?=some t→args[j]?=some v→Value.okWide Tryz.prog W .any base t v)
  (hW:DataW.Whole enc Tryz.prog Tryz.f7.params.toList Rows.wholeSharesSpec.vars false W args.toList ds gs before) (hk:Rows.uptoSmall H (ds++gs)=true) :
  Calls Tryz.prog 7 args W fun e W'=>∃ v,e = .returned v∧Rows.wholeSharesSpec.post enc Tryz.prog Tryz.f7 false true false false W args v W':=by
 have hW':=hW
 obtain⟨p,q,hA0,hV,rfl,hfz,hnd⟩:=hW
 have hA:DataW.TrodAll enc Tryz.prog W 0 (fun _=>true) true Tryz.f7.params.toList args.toList ds p:=hA0
 rw[Tryz.params7] at hA hval
 obtain⟨v0,vs0,d0,ds0,p0,q0,hargs,rfl,rfl,h0,r0⟩:=trodAll_cons hA
 obtain⟨v1,vs1,d1,ds1,p1,q1,rfl,rfl,rfl,h1,r1⟩:=trodAll_cons r0
 obtain⟨v2,vs2,d2,ds2,p2,q2,rfl,rfl,rfl,h2,r2⟩:=trodAll_cons r1
 obtain⟨v3,vs3,d3,ds3,p3,q3,rfl,rfl,rfl,h3,r3⟩:=trodAll_cons r2
 obtain⟨rfl,rfl,rfl⟩:=trodAll_nil r3
 obtain rfl:args = #[v0,v1,v2,v3]:=by cases args;simp_all
 obtain⟨rfl,rfl⟩:=trodVars_none hV
 have hb:=bound hk
 obtain⟨x0,rfl,rfl,rfl,w0⟩:=open_int Tryz.underlying5 (hval 0 5 v0 rfl rfl) h0
 have hx0:0≤x0∧x0≤255:=bounds_u8 w0
 obtain⟨s1,len1,cap1,rfl⟩:=okWide_slice Tryz.underlying22 (hval 1 22 v1 rfl rfl)
 obtain⟨n1,t1⟩:=h1
 obtain⟨⟨u1,xs1⟩,e1,hr1,hl1,hp1⟩:=rm _ _ _ t1
 obtain rfl:Value.slice s1 len1 cap1=u1:=by simpa [Value.cells] using e1
 have hll1:xs1.length+1≤Rows.uptoBulk d1:=hl1
 obtain⟨s2,len2,cap2,rfl⟩:=okWide_slice Tryz.underlying23 (hval 2 23 v2 rfl rfl)
 obtain⟨n2,t2⟩:=h2
 obtain⟨⟨u2,xs2⟩,e2,hr2,hl2,hp2⟩:=xo _ _ _ t2
 obtain rfl:Value.slice s2 len2 cap2=u2:=by simpa [Value.cells] using e2
 have hll2:xs2.length+1≤Rows.uptoBulk d2:=hl2
 obtain⟨x3,rfl,rfl,rfl,w3⟩:=open_int Tryz.underlying3 (hval 3 3 v3 rfl rfl) h3
 simp only[List.append_nil,List.map_cons,List.sum_cons] at hb
 have hlen1:xs1.length≤1000000000:=by omega
 have hle1:Rows.uptoBulk d1≤1000000000:=by omega
 have hbb1:xs1.length≤1000000000∧ ∀ p∈xs1,p.fs.length≤1000000000∧p.bK.length≤1000000000∧p.bf.length≤1000000000:=⟨hlen1,fun p hp=>⟨Nat.le_trans (hp1 p hp).fl hle1,Nat.le_trans (hp1 p hp).sl hle1,Nat.le_trans (hp1 p hp).pl hle1⟩⟩
 have hw1:∀ p∈xs1.map bc.p, ∀ f∈p.funcs, ∀ i∈f,fK i.n:=fun p hp=>by
  obtain⟨q,hq,rfl⟩:=List.mem_map.1 hp
  exact(hp1 q hq).wo
 have hlen2:xs2.length≤1000000000:=by omega
 refine(Fn.done (Fn.emp (C6 (A:=emp) (Rd.old hr1) (fun p hp=>(hp1 p hp).rd _) hbb1 hw1 (Rd.old hr2) hlen2 hx0 (turn:=x3)))).mono fun e W' ⟨he,hb⟩=>?_
 exact⟨_,he,uN laid (by kernel_rfl) rfl (by kernel_rfl) Tryz.underlying4 hW' rfl rfl rfl hb⟩
set_option maxRecDepth 100000 in
theorem lifted(os:Os)(started:os.Started)(H:Type)(enc:TypeId×Value→H)(F:Stop.Interp) :
  ReturnsInHanded {} Tryz.checked os 7 .any ((Rows.OpenSpec.upto Rows.wholeSharesSpec).pre6 enc Tryz.prog Tryz.f7 Rows.wholeSharesUptoRow.domain false) (((Rows.OpenSpec.upto Rows.wholeSharesSpec).at F).post enc Tryz.prog Tryz.f7 false true false false):=by
 refine returnsInHanded_of_cond (C:=Tryz.checked) (s:=Rows.OpenSpec.upto Rows.wholeSharesSpec) (k:=Rows.uptoSmall) rfl own started (by kernel_rfl) Tryz.func7
  (OpenSpec.witness (enc:=enc) (C:=Tryz.checked) (s:=Rows.OpenSpec.upto Rows.wholeSharesSpec) (k:=Rows.uptoSmall) rfl false ⟨#[], #[.int .u8 0,.slice none 0 0,.slice none 0 0,.int .i64 0],[]⟩ 8 (by kernel_rfl) (by kernel_rfl) (by kernel_rfl)
   (x:=([.lit (.int .u8 0),.nil,.nil,.lit (.int .i64 0)],[],[])) (by kernel_rfl) rfl (by kernel_rfl)) ?_
 intro W base args ds gs before hval hW _ hk _
 exact contract H enc W base args ds gs before hval hW hk
theorem c1:(Rows.wholeSharesUptoRow.inPlace == Tryz.prog.inPlace 7)=true:=by kernel_rfl
theorem c2:(Rows.wholeSharesUptoRow.unfollowed == Tryz.prog.unfollowed 7)=true:=by kernel_rfl
theorem c3:(Rows.wholeSharesUptoRow.recurses == Tryz.prog.recurses 7)=true:=by kernel_rfl
theorem c4:(Rows.wholeSharesUptoRow.named == Tryz.prog.varsNamed 7)=true:=by kernel_rfl
theorem closed:joinedFacts Tryz.prog 7 Tryz.f7 (Rows.OpenSpec.upto Rows.wholeSharesSpec).bare Rows.wholeSharesUptoRow=true:=by
 unfold joinedFacts
 rw[c1,c2,c3,c4]
 kernel_rfl
theorem over:Rows.wholeSharesUptoRow.holds Tryz.pinned (Rows.OpenSpec.upto Rows.wholeSharesSpec) :=
 OpenClaim.holds_of_cond 7 Tryz.f7 rfl rfl rfl rfl rfl rfl rfl ⟨rfl,rfl,rfl,rfl,rfl⟩ rfl rfl rfl rfl rfl (by kernel_rfl) Tryz.func7 closed
  (of_decide_eq_true (by kernel_rfl)) (by unfold Func.isWrapper;first | (rw[if_pos (by decide +kernel)];kernel_rfl) | (rw[if_neg (by decide +kernel)];exact⟨rfl,rfl⟩))
  (fun os started H enc _ F=>lifted os started H enc F)
theorem proved:Rows.WholeSharesUptoSaid:=over
end Go.Proofs.YtpbjdoplfgeliaaGreat.wholeShares
