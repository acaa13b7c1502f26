/-
  Part 13 of the proof: rules and walks that the claim's last text uses.
-/
import Derived.Test.YtcdnijfbfdnjlaaGreatDoorKo12
set_option linter.unusedSimpArgs false
set_option linter.unusedVariables false
set_option maxRecDepth 100000
set_option maxHeartbeats 4000000
namespace Go.Proofs.YtcdnijfbfdnjlaaGreatDoor
open Go Go.Shelf Go.ChangeShapes Go.WideShapes Go.ChangeAt Go.RowKit Go.Lib Go.Ev
abbrev sagOpenSpec:OpenSpec:=OpenSpec.ofChange Rows.sagaOpenSpec
theorem NP (os:Os) {H:Type} (enc:TypeId × Value→H) :
  sagOpenSpec.preRow enc Tryz.prog Tryz.f4 Rows.sagaOpenRow.domain false Rows.sagaOpenRow.laid ((N8 os).forCall (fun _ _=>0) ⟨#[],#[Value.agg #[Value.string ⟨#[]⟩,Value.int .i64 0,Value.int .i64 0,Value.int .i64 0,Value.int .i64 0,Value.int .i64 0,Value.int .i64 0,Value.string ⟨#[]⟩,Value.int .i64 0,Value.int .i64 0,Value.int .i64 0,Value.int .i64 0,Value.slice none 0 0,Value.slice none 0 0,Value.slice none 0 0,Value.slice none 0 0,Value.slice none 0 0,Value.slice none 0 0,Value.slice none 0 0,Value.slice none 0 0],Value.agg #[Value.int .i64 0,Value.int .i64 0,Value.slice none 0 0]],[]⟩).memory #[Value.agg #[Value.string ⟨#[]⟩,Value.int .i64 0,Value.int .i64 0,Value.int .i64 0,Value.int .i64 0,Value.int .i64 0,Value.int .i64 0,Value.string ⟨#[]⟩,Value.int .i64 0,Value.int .i64 0,Value.int .i64 0,Value.int .i64 0,Value.slice none 0 0,Value.slice none 0 0,Value.slice none 0 0,Value.slice none 0 0,Value.slice none 0 0,Value.slice none 0 0,Value.slice none 0 0,Value.slice none 0 0],Value.agg #[Value.int .i64 0,Value.int .i64 0,Value.slice none 0 0]]:=by
 have b:(DataW.whole enc Tryz.prog ((N8 os).forCall (fun _ _=>0) ⟨#[],#[Value.agg #[Value.string ⟨#[]⟩,Value.int .i64 0,Value.int .i64 0,Value.int .i64 0,Value.int .i64 0,Value.int .i64 0,Value.int .i64 0,Value.string ⟨#[]⟩,Value.int .i64 0,Value.int .i64 0,Value.int .i64 0,Value.int .i64 0,Value.slice none 0 0,Value.slice none 0 0,Value.slice none 0 0,Value.slice none 0 0,Value.slice none 0 0,Value.slice none 0 0,Value.slice none 0 0,Value.slice none 0 0],Value.agg #[Value.int .i64 0,Value.int .i64 0,Value.slice none 0 0]],[]⟩).memory Tryz.f4.params.toList sagOpenSpec.vars false (#[Value.agg #[Value.string ⟨#[]⟩,Value.int .i64 0,Value.int .i64 0,Value.int .i64 0,Value.int .i64 0,Value.int .i64 0,Value.int .i64 0,Value.string ⟨#[]⟩,Value.int .i64 0,Value.int .i64 0,Value.int .i64 0,Value.int .i64 0,Value.slice none 0 0,Value.slice none 0 0,Value.slice none 0 0,Value.slice none 0 0,Value.slice none 0 0,Value.slice none 0 0,Value.slice none 0 0,Value.slice none 0 0],Value.agg #[Value.int .i64 0,Value.int .i64 0,Value.slice none 0 0]]).toList 8).map (fun x=>(x.1,x.2.1)) =
   some ([.agg [.lit (.string []),.lit (.int .i64 0),.lit (.int .i64 0),.lit (.int .i64 0),.lit (.int .i64 0),.lit (.int .i64 0),.lit (.int .i64 0),.lit (.string []),.agg [.lit (.int .i64 0),.lit (.int .i64 0),.lit (.int .i64 0),.lit (.int .i64 0),.nil,.nil,.nil],.nil,.nil,.agg [.nil],.nil,.nil],.agg [.lit (.int .i64 0),.lit (.int .i64 0),.nil]],[]):=by kernel_rfl
 obtain ⟨⟨d,e,f⟩,c,a⟩:=Option.map_eq_some_iff.1 b
 simp only [Prod.mk.injEq] at a
 obtain ⟨rfl,rfl⟩:=a
 exact OpenSpec.preRow_of_cond 8 c (by kernel_rfl) (fun k hk=>by cases hk) (by kernel_rfl) (UG os _)
theorem ON (os:Os) (started:os.Started) (H:Type) (enc:TypeId × Value→H) (F:Stop.Interp) :
  ReturnsInHanded {} Tryz.checked os 4 .any (sagOpenSpec.preRow enc Tryz.prog Tryz.f4 Rows.sagaOpenRow.domain false Rows.sagaOpenRow.laid) ((sagOpenSpec.at F).post enc Tryz.prog Tryz.f4 false true false false):=by
 refine returnsInHanded_of_row (C:=Tryz.checked) (s:=sagOpenSpec) Zex started (by kernel_rfl) Tryz.func4
  (witness_row_atRef (enc:=enc) (C:=Tryz.checked) false (N8 os) #[Value.agg #[Value.string ⟨#[]⟩,Value.int .i64 0,Value.int .i64 0,Value.int .i64 0,Value.int .i64 0,Value.int .i64 0,Value.int .i64 0,Value.string ⟨#[]⟩,Value.int .i64 0,Value.int .i64 0,Value.int .i64 0,Value.int .i64 0,Value.slice none 0 0,Value.slice none 0 0,Value.slice none 0 0,Value.slice none 0 0,Value.slice none 0 0,Value.slice none 0 0,Value.slice none 0 0,Value.slice none 0 0],Value.agg #[Value.int .i64 0,Value.int .i64 0,Value.slice none 0 0]] rfl (by kernel_rfl) (by kernel_rfl) (by kernel_rfl) (NP os enc)) ?_
 intro W base args ds gs l a E _ _ _ J Y _
 have b:∀ (j:Nat) t v,Tryz.f4.params[j]? = some t→args[j]? = some v→Value.okWide Tryz.prog W .any base t v:=a
 have u:=E
 obtain ⟨p,q,d,k,rfl,_,_⟩:=E
 have m:DataW.TrodAll enc Tryz.prog W 0 (fun _=>true) true Tryz.f4.params.toList args.toList ds p:=d
 rw [Tryz.params4] at m b
 obtain ⟨v0,v1,K,z,Z,Q,rfl,rfl,rfl,D,y⟩:=trodAll_two m
 obtain ⟨rfl,rfl⟩:=trodVars_none k
 have f:=m.lt
 obtain ⟨w,N,n⟩:=Zha (b 0 _ v0 rfl rfl) D
 obtain ⟨G,U,o⟩:=Zf3 (b 1 _ v1 rfl rfl) y
 clear d k a
 obtain ⟨g,i⟩:=Zeq J
 have V:=Zc6 J
 have hM:=Zeg Y
 have O:=Ev.NJ (NM W V hM i g 1000000 [] [] [] w G true (V2 1000000 (by omega) w G)) (Zq n o)
 refine O.mono ?_
 rintro e W' ⟨rfl,c⟩
 have e1:(sagOpenSpec.at F).fn H ([K,z]++[])={ results:=[.lit (.bool true)],args:=[K,z] }:=rfl
 refine ⟨_,rfl,_,_,_,[],(Z++Q),[],u,?_,?_,?_,c.frame _,fun h=>by cases h⟩
 ·rw [e1];exact trodAll_mk1 (shut_bool Tryz.underlying4 _)
 ·rw [e1];exact trodAll_mk2 (Below.trod (by kernel_rfl) (by kernel_rfl) (of_decide_eq_true (by kernel_rfl)) D c (fun x r=>f x (by simp only [List.mem_append];exact Or.inl r))) (Below.trod (by kernel_rfl) (by kernel_rfl) (of_decide_eq_true (by kernel_rfl)) y c (fun x r=>f x (by simp only [List.mem_append];exact Or.inr r)))
 ·rw [e1];rfl
end Go.Proofs.YtcdnijfbfdnjlaaGreatDoor
