/- CorePlays: whatever program and acts: the law's call returns true, and its arguments read as they did. Conditions: what is read is of bulk at most 1048576 (the statement's own). -/
import Derived.Test.YtefdijgllbkmfaaGreatG05
import Derived.Test.YtefdijgllbkmfaaGreatG13
namespace Go.Proofs.YtefdijgllbkmfaaGreat.corePlays
open Go Go.RowKit Go.ChangeShapes Go.WideShapes Go.ChangeAt Go.SLYtefdijgllbkmfaaGreat
set_option maxRecDepth 100000 in
theorem contract(H:Type)(enc:TypeId×Value→H)(W:World)(base:Nat)(args:Array Value)(ds gs:List (DataW H))(before:List MemPlace)
  (hval:∀ (j:Nat) t v,Tryz.f3.params[j]?=some t→args[j]?=some v→Value.okWide Tryz.prog W .any base t v)
  (hW:DataW.Whole enc Tryz.prog Tryz.f3.params.toList Rows.corePlaysSpec.vars false W args.toList ds gs before) (hk:Rows.uptoSmall H (ds++gs)=true) :
  Calls Tryz.prog 3 args W fun e W'=>∃ v,e = .returned v∧Rows.corePlaysSpec.post enc Tryz.prog Tryz.f3 false true false false W args v W':=by
 have hW':=hW
 obtain⟨p,q,hA0,hV,rfl,hfz,hnd⟩:=hW
 have hA:DataW.TrodAll enc Tryz.prog W 0 (fun _=>true) true Tryz.f3.params.toList args.toList ds p:=hA0
 rw[Tryz.params3] at hA hval
 obtain⟨v0,vs0,d0,ds0,p0,q0,hargs,rfl,rfl,h0,r0⟩:=trodAll_cons hA
 obtain⟨v1,vs1,d1,ds1,p1,q1,rfl,rfl,rfl,h1,r1⟩:=trodAll_cons r0
 obtain⟨rfl,rfl,rfl⟩:=trodAll_nil r1
 obtain rfl:args = #[v0,v1]:=by cases args;simp_all
 obtain⟨rfl,rfl⟩:=trodVars_none hV
 have hb:=bound hk
 obtain⟨cs0,rfl,_⟩:=okWide_struct Tryz.underlying25 (hval 0 25 v0 rfl rfl)
 obtain⟨s1,len1,cap1,rfl⟩:=okWide_slice Tryz.underlying26 (hval 1 26 v1 rfl rfl)
 obtain⟨n0,t0⟩:=h0
 obtain⟨n1,t1⟩:=h1
 obtain⟨v,e0,hp⟩:=Em _ _ _ t0
 obtain⟨⟨u,acts⟩,e1,hr,hl,_⟩:=BV _ _ _ t1
 obtain rfl:cs0=(ff v).toArray:=by
  have h:=e0
  simp only[Value.cells] at h
  rw[← h]
 obtain rfl:Value.slice s1 len1 cap1=u:=by simpa [Value.cells] using e1
 simp only[List.append_nil,List.map_cons,List.sum_cons] at hb
 have hlen:acts.length+1≤Rows.uptoBulk d1:=hl
 have hp1:acts.length≤1000000000:=by omega
 have hle:Rows.uptoBulk d0≤1000000000:=by omega
 refine(Fn.done (Fn.emp (yd (A:=emp) (hp.rd _) ⟨Nat.le_trans hp.fl hle,Nat.le_trans hp.sl hle,Nat.le_trans hp.pl hle⟩ hp.wo (Rd.old hr) hp1))).mono fun e W' ⟨he,hb⟩=>?_
 exact⟨_,he,Ej laid (by kernel_rfl) rfl (by kernel_rfl) Tryz.underlying4 hW' rfl rfl rfl hb⟩
set_option maxRecDepth 100000 in
theorem lifted(os:Os)(started:os.Started)(H:Type)(enc:TypeId×Value→H)(F:Stop.Interp) :
  ReturnsInHanded {} Tryz.checked os 3 .any ((Rows.OpenSpec.upto Rows.corePlaysSpec).pre6 enc Tryz.prog Tryz.f3 Rows.corePlaysUptoRow.domain false) (((Rows.OpenSpec.upto Rows.corePlaysSpec).at F).post enc Tryz.prog Tryz.f3 false true false false):=by
 refine returnsInHanded_of_cond (C:=Tryz.checked) (s:=Rows.OpenSpec.upto Rows.corePlaysSpec) (k:=Rows.uptoSmall) rfl own started (by kernel_rfl) Tryz.func3
  (OpenSpec.witness (enc:=enc) (C:=Tryz.checked) (s:=Rows.OpenSpec.upto Rows.corePlaysSpec) (k:=Rows.uptoSmall) rfl false ⟨#[], #[.agg #[.slice none 0 0,.int .i64 0,.int .i64 0,.int .i64 0,.slice none 0 0,.slice none 0 0,.int .i64 0,.int .i64 0],.slice none 0 0],[]⟩ 8 (by kernel_rfl) (by kernel_rfl) (by kernel_rfl)
   (x:=([.agg [.nil,.lit (.int .i64 0),.lit (.int .i64 0),.lit (.int .i64 0),.nil,.nil,.lit (.int .i64 0),.lit (.int .i64 0)],.nil],[],[])) (by kernel_rfl) rfl (by kernel_rfl)) ?_
 intro W base args ds gs before hval hW _ hk _
 exact contract H enc W base args ds gs before hval hW hk
theorem c1:(Rows.corePlaysUptoRow.inPlace == Tryz.prog.inPlace 3)=true:=by kernel_rfl
theorem c2:(Rows.corePlaysUptoRow.unfollowed == Tryz.prog.unfollowed 3)=true:=by kernel_rfl
theorem c3:(Rows.corePlaysUptoRow.recurses == Tryz.prog.recurses 3)=true:=by kernel_rfl
theorem c4:(Rows.corePlaysUptoRow.named == Tryz.prog.varsNamed 3)=true:=by kernel_rfl
theorem closed:joinedFacts Tryz.prog 3 Tryz.f3 (Rows.OpenSpec.upto Rows.corePlaysSpec).bare Rows.corePlaysUptoRow=true:=by
 unfold joinedFacts
 rw[c1,c2,c3,c4]
 kernel_rfl
theorem over:Rows.corePlaysUptoRow.holds Tryz.pinned (Rows.OpenSpec.upto Rows.corePlaysSpec) :=
 OpenClaim.holds_of_cond 3 Tryz.f3 rfl rfl rfl rfl rfl rfl rfl ⟨rfl,rfl,rfl,rfl,rfl⟩ rfl rfl rfl rfl rfl (by kernel_rfl) Tryz.func3 closed
  (of_decide_eq_true (by kernel_rfl)) (by unfold Func.isWrapper;first | (rw[if_pos (by decide +kernel)];kernel_rfl) | (rw[if_neg (by decide +kernel)];exact⟨rfl,rfl⟩))
  (fun os started H enc _ F=>lifted os started H enc F)
theorem proved:Rows.CorePlaysUptoSaid:=over
end Go.Proofs.YtefdijgllbkmfaaGreat.corePlays
