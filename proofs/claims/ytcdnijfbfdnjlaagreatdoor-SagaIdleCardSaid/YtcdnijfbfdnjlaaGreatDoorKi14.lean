/-
  Part 14 of the proof: rules and walks that the claim's last text uses.
-/
import Derived.Test.YtcdnijfbfdnjlaaGreatDoorKi13
set_option linter.unusedSimpArgs false
set_option linter.unusedVariables false
set_option maxRecDepth 100000
set_option maxHeartbeats 4000000
namespace Go.Proofs.YtcdnijfbfdnjlaaGreatDoor
open Go Go.Shelf Go.ChangeShapes Go.WideShapes Go.ChangeAt Go.RowKit Go.Lib Go.Ev
abbrev sagIdleSpec:OpenSpec:=OpenSpec.ofChange Rows.sagaIdleSpec
theorem PN (os:Os) {H:Type} (enc:TypeId × Value→H) :
  sagIdleSpec.preRow enc Tryz.prog Tryz.f6 Rows.sagaIdleRow.domain false Rows.sagaIdleRow.laid ((P4 os).forCall (fun _ _=>0) ⟨#[],#[Value.agg #[Value.string ⟨#[]⟩,Value.int .i64 0,Value.int .i64 0,Value.int .i64 0,Value.int .i64 0,Value.int .i64 0,Value.int .i64 0,Value.string ⟨#[]⟩,Value.int .i64 0,Value.int .i64 0,Value.int .i64 0,Value.int .i64 0,Value.slice none 0 0,Value.slice none 0 0,Value.slice none 0 0,Value.slice none 0 0,Value.slice none 0 0,Value.slice none 0 0,Value.slice none 0 0,Value.slice none 0 0],Value.agg #[Value.int .i64 0,Value.int .i64 0,Value.slice none 0 0],Value.agg #[Value.int .i64 0,Value.int .i64 0,Value.int .i64 0,Value.slice none 0 0,Value.int .i64 0,Value.slice none 0 0,Value.int .i64 0,Value.slice none 0 0,Value.int .i64 0,Value.int .i64 0,Value.int .i64 0,Value.string ⟨#[]⟩,Value.slice none 0 0,Value.slice none 0 0,Value.int .i64 0,Value.bool false,Value.bool false,Value.int .i64 0,Value.int .i64 0,Value.int .i64 0,Value.string ⟨#[]⟩,Value.slice none 0 0,Value.slice none 0 0]],[]⟩).memory #[Value.agg #[Value.string ⟨#[]⟩,Value.int .i64 0,Value.int .i64 0,Value.int .i64 0,Value.int .i64 0,Value.int .i64 0,Value.int .i64 0,Value.string ⟨#[]⟩,Value.int .i64 0,Value.int .i64 0,Value.int .i64 0,Value.int .i64 0,Value.slice none 0 0,Value.slice none 0 0,Value.slice none 0 0,Value.slice none 0 0,Value.slice none 0 0,Value.slice none 0 0,Value.slice none 0 0,Value.slice none 0 0],Value.agg #[Value.int .i64 0,Value.int .i64 0,Value.slice none 0 0],Value.agg #[Value.int .i64 0,Value.int .i64 0,Value.int .i64 0,Value.slice none 0 0,Value.int .i64 0,Value.slice none 0 0,Value.int .i64 0,Value.slice none 0 0,Value.int .i64 0,Value.int .i64 0,Value.int .i64 0,Value.string ⟨#[]⟩,Value.slice none 0 0,Value.slice none 0 0,Value.int .i64 0,Value.bool false,Value.bool false,Value.int .i64 0,Value.int .i64 0,Value.int .i64 0,Value.string ⟨#[]⟩,Value.slice none 0 0,Value.slice none 0 0]]:=by
 have c:(DataW.whole enc Tryz.prog ((P4 os).forCall (fun _ _=>0) ⟨#[],#[Value.agg #[Value.string ⟨#[]⟩,Value.int .i64 0,Value.int .i64 0,Value.int .i64 0,Value.int .i64 0,Value.int .i64 0,Value.int .i64 0,Value.string ⟨#[]⟩,Value.int .i64 0,Value.int .i64 0,Value.int .i64 0,Value.int .i64 0,Value.slice none 0 0,Value.slice none 0 0,Value.slice none 0 0,Value.slice none 0 0,Value.slice none 0 0,Value.slice none 0 0,Value.slice none 0 0,Value.slice none 0 0],Value.agg #[Value.int .i64 0,Value.int .i64 0,Value.slice none 0 0],Value.agg #[Value.int .i64 0,Value.int .i64 0,Value.int .i64 0,Value.slice none 0 0,Value.int .i64 0,Value.slice none 0 0,Value.int .i64 0,Value.slice none 0 0,Value.int .i64 0,Value.int .i64 0,Value.int .i64 0,Value.string ⟨#[]⟩,Value.slice none 0 0,Value.slice none 0 0,Value.int .i64 0,Value.bool false,Value.bool false,Value.int .i64 0,Value.int .i64 0,Value.int .i64 0,Value.string ⟨#[]⟩,Value.slice none 0 0,Value.slice none 0 0]],[]⟩).memory Tryz.f6.params.toList sagIdleSpec.vars false (#[Value.agg #[Value.string ⟨#[]⟩,Value.int .i64 0,Value.int .i64 0,Value.int .i64 0,Value.int .i64 0,Value.int .i64 0,Value.int .i64 0,Value.string ⟨#[]⟩,Value.int .i64 0,Value.int .i64 0,Value.int .i64 0,Value.int .i64 0,Value.slice none 0 0,Value.slice none 0 0,Value.slice none 0 0,Value.slice none 0 0,Value.slice none 0 0,Value.slice none 0 0,Value.slice none 0 0,Value.slice none 0 0],Value.agg #[Value.int .i64 0,Value.int .i64 0,Value.slice none 0 0],Value.agg #[Value.int .i64 0,Value.int .i64 0,Value.int .i64 0,Value.slice none 0 0,Value.int .i64 0,Value.slice none 0 0,Value.int .i64 0,Value.slice none 0 0,Value.int .i64 0,Value.int .i64 0,Value.int .i64 0,Value.string ⟨#[]⟩,Value.slice none 0 0,Value.slice none 0 0,Value.int .i64 0,Value.bool false,Value.bool false,Value.int .i64 0,Value.int .i64 0,Value.int .i64 0,Value.string ⟨#[]⟩,Value.slice none 0 0,Value.slice none 0 0]]).toList 8).map (fun x=>(x.1,x.2.1)) =
   some ([.agg [.lit (.string []),.lit (.int .i64 0),.lit (.int .i64 0),.lit (.int .i64 0),.lit (.int .i64 0),.lit (.int .i64 0),.lit (.int .i64 0),.lit (.string []),.agg [.lit (.int .i64 0),.lit (.int .i64 0),.lit (.int .i64 0),.lit (.int .i64 0),.nil,.nil,.nil],.nil,.nil,.agg [.nil],.nil,.nil],.agg [.lit (.int .i64 0),.lit (.int .i64 0),.nil],.agg [.lit (.int .i64 0),.lit (.int .i64 0),.agg [.lit (.int .i64 0),.nil],.agg [.agg [.lit (.int .i64 0),.nil],.lit (.int .i64 0),.nil,.agg [.lit (.int .i64 0),.lit (.int .i64 0),.lit (.int .i64 0),.lit (.string []),.nil,.nil]],.lit (.int .i64 0),.lit (.bool false),.lit (.bool false),.agg [.lit (.int .i64 0),.lit (.int .i64 0),.lit (.int .i64 0),.lit (.string []),.nil,.nil]]],[]):=by kernel_rfl
 obtain ⟨⟨f,d,e⟩,b,a⟩:=Option.map_eq_some_iff.1 c
 simp only [Prod.mk.injEq] at a
 obtain ⟨rfl,rfl⟩:=a
 exact OpenSpec.preRow_of_cond 8 b (by kernel_rfl) (fun k hk=>by cases hk) (by kernel_rfl) (W7 os _)
theorem Qk (os:Os) (started:os.Started) (H:Type) (enc:TypeId × Value→H) (F:Stop.Interp) :
  ReturnsInHanded {} Tryz.checked os 6 .any (sagIdleSpec.preRow enc Tryz.prog Tryz.f6 Rows.sagaIdleRow.domain false Rows.sagaIdleRow.laid) ((sagIdleSpec.at F).post enc Tryz.prog Tryz.f6 false true false false):=by
 refine returnsInHanded_of_row (C:=Tryz.checked) (s:=sagIdleSpec) Zgn started (by kernel_rfl) Tryz.func6
  (witness_row_atRef (enc:=enc) (C:=Tryz.checked) false (P4 os) #[Value.agg #[Value.string ⟨#[]⟩,Value.int .i64 0,Value.int .i64 0,Value.int .i64 0,Value.int .i64 0,Value.int .i64 0,Value.int .i64 0,Value.string ⟨#[]⟩,Value.int .i64 0,Value.int .i64 0,Value.int .i64 0,Value.int .i64 0,Value.slice none 0 0,Value.slice none 0 0,Value.slice none 0 0,Value.slice none 0 0,Value.slice none 0 0,Value.slice none 0 0,Value.slice none 0 0,Value.slice none 0 0],Value.agg #[Value.int .i64 0,Value.int .i64 0,Value.slice none 0 0],Value.agg #[Value.int .i64 0,Value.int .i64 0,Value.int .i64 0,Value.slice none 0 0,Value.int .i64 0,Value.slice none 0 0,Value.int .i64 0,Value.slice none 0 0,Value.int .i64 0,Value.int .i64 0,Value.int .i64 0,Value.string ⟨#[]⟩,Value.slice none 0 0,Value.slice none 0 0,Value.int .i64 0,Value.bool false,Value.bool false,Value.int .i64 0,Value.int .i64 0,Value.int .i64 0,Value.string ⟨#[]⟩,Value.slice none 0 0,Value.slice none 0 0]] rfl (by kernel_rfl) (by kernel_rfl) (by kernel_rfl) (PN os enc)) ?_
 intro W base args ds gs m b Q _ _ _ D hS _
 have a:∀ (j:Nat) t v,Tryz.f6.params[j]? = some t→args[j]? = some v→Value.okWide Tryz.prog W .any base t v:=b
 have y:=Q
 obtain ⟨p,q,f,i,rfl,_,_⟩:=Q
 have u:DataW.TrodAll enc Tryz.prog W 0 (fun _=>true) true Tryz.f6.params.toList args.toList ds p:=f
 rw [Tryz.params6] at u a
 obtain ⟨Z,v1,v2,G,U,O,p0,p1,Y,rfl,rfl,rfl,K,E,z⟩:=trodAll_three u
 obtain ⟨rfl,rfl⟩:=trodVars_none i
 have d:=u.lt
 obtain ⟨V,ab,w⟩:=Zi3 (a 0 _ Z rfl rfl) K
 obtain ⟨N,aa,r⟩:=ZiZ (a 1 _ v1 rfl rfl) E
 obtain ⟨J,n,o⟩:=ZiA (a 2 _ v2 rfl rfl) z
 clear f i b
 obtain ⟨l,k⟩:=Zfb D
 have hE:=Zf7 D
 have hM:=ZfW hS
 have hc:=Ev.PL (PP W hE hM k l 1000000 [] [] [] V N J true (Xi 1000000 (by omega) V N J n)) (Xy w r o)
 refine hc.mono ?_
 rintro e W' ⟨rfl,c⟩
 have e1:(sagIdleSpec.at F).fn H ([G,U,O]++[])={ results:=[.lit (.bool true)],args:=[G,U,O] }:=rfl
 refine ⟨_,rfl,_,_,_,[],(p0++(p1++Y)),[],y,?_,?_,?_,c.frame _,fun h=>by cases h⟩
 ·rw [e1];exact trodAll_mk1 (shut_bool Tryz.underlying4 _)
 ·rw [e1];exact trodAll_mk3 (Below.trod (by kernel_rfl) (by kernel_rfl) (of_decide_eq_true (by kernel_rfl)) K c (fun x g=>d x (by simp only [List.mem_append];exact Or.inl (Or.inl g)))) (Below.trod (by kernel_rfl) (by kernel_rfl) (of_decide_eq_true (by kernel_rfl)) E c (fun x g=>d x (by simp only [List.mem_append];exact Or.inl (Or.inr g)))) (Below.trod (by kernel_rfl) (by kernel_rfl) (of_decide_eq_true (by kernel_rfl)) z c (fun x g=>d x (by simp only [List.mem_append];exact Or.inr g)))
 ·rw [e1];rfl
end Go.Proofs.YtcdnijfbfdnjlaaGreatDoor
