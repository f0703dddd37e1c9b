/- LibKeeps: whatever program, processors and acts: the law's call returns true, and its arguments read as they did. Conditions: what is read is of bulk at most 1048576 (the statement's own). -/
import Derived.Test.YthlllpngkljgfaaGreatG06
import Derived.Test.YthlllpngkljgfaaGreatG15
namespace Go.Proofs.YthlllpngkljgfaaGreat.libKeeps
open Go Go.RowKit Go.ChangeShapes Go.WideShapes Go.ChangeAt Go.SLYthlllpngkljgfaaGreat
set_option maxRecDepth 100000 in
theorem contract(H:Type)(enc:TypeId×Value→H)(W:World)(base:Nat)(args:Array Value)(ds gs:List (DataW H))(before:List MemPlace)
  (hval:∀ (j:Nat) t v,Tryz.f7.params[j]?=some t→args[j]?=some v→Value.okWide Tryz.prog W .any base t v)
  (hW:DataW.Whole enc Tryz.prog Tryz.f7.params.toList Rows.libKeepsSpec.vars false W args.toList ds gs before) (hk:Rows.uptoSmall H (ds++gs)=true) :
  Calls Tryz.prog 7 args W fun e W'=>∃ v,e = .returned v∧Rows.libKeepsSpec.post enc Tryz.prog Tryz.f7 false true false false W args v W':=by
 have hW':=hW
 obtain⟨p,q,hA0,hV,rfl,hfz,hnd⟩:=hW
 have hA:DataW.TrodAll enc Tryz.prog W 0 (fun _=>true) true Tryz.f7.params.toList args.toList ds p:=hA0
 rw[Tryz.params7] at hA hval
 obtain⟨v0,vs0,d0,ds0,p0,q0,hargs,rfl,rfl,h0,r0⟩:=trodAll_cons hA
 obtain⟨v1,vs1,d1,ds1,p1,q1,rfl,rfl,rfl,h1,r1⟩:=trodAll_cons r0
 obtain⟨v2,vs2,d2,ds2,p2,q2,rfl,rfl,rfl,h2,r2⟩:=trodAll_cons r1
 obtain⟨rfl,rfl,rfl⟩:=trodAll_nil r2
 obtain rfl:args = #[v0,v1,v2]:=by cases args;simp_all
 obtain⟨rfl,rfl⟩:=trodVars_none hV
 have hb:=bound hk
 obtain⟨cs0,rfl,_⟩:=okWide_struct Tryz.underlying56 (hval 0 56 v0 rfl rfl)
 obtain⟨n0,t0⟩:=h0
 obtain⟨x0,e0,hp0⟩:=Aw _ _ _ t0
 obtain rfl:cs0=(ez x0).toArray:=by
  have h:=e0
  simp only[Value.cells] at h
  rw[← h]
 obtain⟨x1,rfl,rfl,rfl,w1⟩:=open_int Tryz.underlying5 (hval 1 5 v1 rfl rfl) h1
 have hx1:0≤x1∧x1≤255:=bounds_u8 w1
 obtain⟨s2,len2,cap2,rfl⟩:=okWide_slice Tryz.underlying57 (hval 2 57 v2 rfl rfl)
 obtain⟨n2,t2⟩:=h2
 obtain⟨⟨u2,xs2⟩,e2,hr2,hl2,hp2⟩:=EZ _ _ _ t2
 obtain rfl:Value.slice s2 len2 cap2=u2:=by simpa [Value.cells] using e2
 have hll2:xs2.length+1≤Rows.uptoBulk d2:=hl2
 simp only[List.append_nil,List.map_cons,List.sum_cons] at hb
 have hle0:Rows.uptoBulk d0≤1000000000:=by omega
 have hlen2:xs2.length≤1000000000:=by omega
 refine(Fn.done (Fn.emp (A1 (A:=emp) (hp0.rd _) ⟨Nat.le_trans hp0.fl hle0,Nat.le_trans hp0.sl hle0,Nat.le_trans hp0.pl hle0⟩ hp0.wo (Rd.old hr2) hlen2 hx1))).mono fun e W' ⟨he,hb⟩=>?_
 exact⟨_,he,jP laid (by kernel_rfl) rfl (by kernel_rfl) Tryz.underlying4 hW' rfl rfl rfl hb⟩
set_option maxRecDepth 100000 in
theorem lifted(os:Os)(started:os.Started)(H:Type)(enc:TypeId×Value→H)(F:Stop.Interp) :
  ReturnsInHanded {} Tryz.checked os 7 .any ((Rows.OpenSpec.upto Rows.libKeepsSpec).pre6 enc Tryz.prog Tryz.f7 Rows.libKeepsUptoRow.domain false) (((Rows.OpenSpec.upto Rows.libKeepsSpec).at F).post enc Tryz.prog Tryz.f7 false true false false):=by
 refine returnsInHanded_of_cond (C:=Tryz.checked) (s:=Rows.OpenSpec.upto Rows.libKeepsSpec) (k:=Rows.uptoSmall) rfl own started (by kernel_rfl) Tryz.func7
  (OpenSpec.witness (enc:=enc) (C:=Tryz.checked) (s:=Rows.OpenSpec.upto Rows.libKeepsSpec) (k:=Rows.uptoSmall) rfl false ⟨#[], #[.agg #[.slice none 0 0,.int .i64 0,.int .i64 0,.int .i64 0,.slice none 0 0,.slice none 0 0,.int .i64 0,.int .i64 0],.int .u8 0,.slice none 0 0],[]⟩ 8 (by kernel_rfl) (by kernel_rfl) (by kernel_rfl)
   (x:=([.agg [.nil,.lit (.int .i64 0),.lit (.int .i64 0),.lit (.int .i64 0),.nil,.nil,.lit (.int .i64 0),.lit (.int .i64 0)],.lit (.int .u8 0),.nil],[],[])) (by kernel_rfl) rfl (by kernel_rfl)) ?_
 intro W base args ds gs before hval hW _ hk _
 exact contract H enc W base args ds gs before hval hW hk
theorem c1:(Rows.libKeepsUptoRow.inPlace == Tryz.prog.inPlace 7)=true:=by kernel_rfl
theorem c2:(Rows.libKeepsUptoRow.unfollowed == Tryz.prog.unfollowed 7)=true:=by kernel_rfl
theorem c3:(Rows.libKeepsUptoRow.recurses == Tryz.prog.recurses 7)=true:=by kernel_rfl
theorem c4:(Rows.libKeepsUptoRow.named == Tryz.prog.varsNamed 7)=true:=by kernel_rfl
theorem closed:joinedFacts Tryz.prog 7 Tryz.f7 (Rows.OpenSpec.upto Rows.libKeepsSpec).bare Rows.libKeepsUptoRow=true:=by
 unfold joinedFacts
 rw[c1,c2,c3,c4]
 kernel_rfl
theorem over:Rows.libKeepsUptoRow.holds Tryz.pinned (Rows.OpenSpec.upto Rows.libKeepsSpec) :=
 OpenClaim.holds_of_cond 7 Tryz.f7 rfl rfl rfl rfl rfl rfl rfl ⟨rfl,rfl,rfl,rfl,rfl⟩ rfl rfl rfl rfl rfl (by kernel_rfl) Tryz.func7 closed
  (of_decide_eq_true (by kernel_rfl)) (by unfold Func.isWrapper;first | (rw[if_pos (by decide +kernel)];kernel_rfl) | (rw[if_neg (by decide +kernel)];exact⟨rfl,rfl⟩))
  (fun os started H enc _ F=>lifted os started H enc F)
theorem proved:Rows.LibKeepsUptoSaid:=over
end Go.Proofs.YthlllpngkljgfaaGreat.libKeeps
