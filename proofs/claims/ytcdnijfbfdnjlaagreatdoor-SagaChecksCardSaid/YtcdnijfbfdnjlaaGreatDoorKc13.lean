/-
  Part 13 of the proof: rules and walks that the claim's last text uses.
-/
import Derived.Test.YtcdnijfbfdnjlaaGreatDoorKc12
set_option linter.unusedSimpArgs false
set_option linter.unusedVariables false
set_option maxRecDepth 100000
set_option maxHeartbeats 4000000
namespace Go.Proofs.YtcdnijfbfdnjlaaGreatDoor
open Go Go.Shelf Go.ChangeShapes Go.WideShapes Go.ChangeAt Go.RowKit Go.Lib Go.Ev
abbrev sagChecksSpec:OpenSpec:=OpenSpec.ofChange Rows.sagaChecksSpec
theorem LH (os:Os) {H:Type} (enc:TypeId × Value→H) :
  sagChecksSpec.preRow enc Tryz.prog Tryz.f3 Rows.sagaChecksRow.domain false Rows.sagaChecksRow.laid ((NG os).forCall (fun _ _=>0) ⟨#[],#[Value.agg #[Value.string ⟨#[]⟩,Value.int .i64 0,Value.int .i64 0,Value.int .i64 0,Value.int .i64 0,Value.int .i64 0,Value.int .i64 0,Value.string ⟨#[]⟩,Value.int .i64 0,Value.int .i64 0,Value.int .i64 0,Value.int .i64 0,Value.slice none 0 0,Value.slice none 0 0,Value.slice none 0 0,Value.slice none 0 0,Value.slice none 0 0,Value.slice none 0 0,Value.slice none 0 0,Value.slice none 0 0],Value.agg #[Value.int .i64 0,Value.int .i64 0,Value.slice none 0 0]],[]⟩).memory #[Value.agg #[Value.string ⟨#[]⟩,Value.int .i64 0,Value.int .i64 0,Value.int .i64 0,Value.int .i64 0,Value.int .i64 0,Value.int .i64 0,Value.string ⟨#[]⟩,Value.int .i64 0,Value.int .i64 0,Value.int .i64 0,Value.int .i64 0,Value.slice none 0 0,Value.slice none 0 0,Value.slice none 0 0,Value.slice none 0 0,Value.slice none 0 0,Value.slice none 0 0,Value.slice none 0 0,Value.slice none 0 0],Value.agg #[Value.int .i64 0,Value.int .i64 0,Value.slice none 0 0]]:=by
 have c:(DataW.whole enc Tryz.prog ((NG os).forCall (fun _ _=>0) ⟨#[],#[Value.agg #[Value.string ⟨#[]⟩,Value.int .i64 0,Value.int .i64 0,Value.int .i64 0,Value.int .i64 0,Value.int .i64 0,Value.int .i64 0,Value.string ⟨#[]⟩,Value.int .i64 0,Value.int .i64 0,Value.int .i64 0,Value.int .i64 0,Value.slice none 0 0,Value.slice none 0 0,Value.slice none 0 0,Value.slice none 0 0,Value.slice none 0 0,Value.slice none 0 0,Value.slice none 0 0,Value.slice none 0 0],Value.agg #[Value.int .i64 0,Value.int .i64 0,Value.slice none 0 0]],[]⟩).memory Tryz.f3.params.toList sagChecksSpec.vars false (#[Value.agg #[Value.string ⟨#[]⟩,Value.int .i64 0,Value.int .i64 0,Value.int .i64 0,Value.int .i64 0,Value.int .i64 0,Value.int .i64 0,Value.string ⟨#[]⟩,Value.int .i64 0,Value.int .i64 0,Value.int .i64 0,Value.int .i64 0,Value.slice none 0 0,Value.slice none 0 0,Value.slice none 0 0,Value.slice none 0 0,Value.slice none 0 0,Value.slice none 0 0,Value.slice none 0 0,Value.slice none 0 0],Value.agg #[Value.int .i64 0,Value.int .i64 0,Value.slice none 0 0]]).toList 8).map (fun x=>(x.1,x.2.1)) =
   some ([.agg [.lit (.string []),.lit (.int .i64 0),.lit (.int .i64 0),.lit (.int .i64 0),.lit (.int .i64 0),.lit (.int .i64 0),.lit (.int .i64 0),.lit (.string []),.agg [.lit (.int .i64 0),.lit (.int .i64 0),.lit (.int .i64 0),.lit (.int .i64 0),.nil,.nil,.nil],.nil,.nil,.agg [.nil],.nil,.nil],.agg [.lit (.int .i64 0),.lit (.int .i64 0),.nil]],[]):=by kernel_rfl
 obtain ⟨⟨f,d,e⟩,b,a⟩:=Option.map_eq_some_iff.1 c
 simp only [Prod.mk.injEq] at a
 obtain ⟨rfl,rfl⟩:=a
 exact OpenSpec.preRow_of_cond 8 b (by kernel_rfl) (fun k hk=>by cases hk) (by kernel_rfl) (SO os _)
theorem L0 (os:Os) (started:os.Started) (H:Type) (enc:TypeId × Value→H) (F:Stop.Interp) :
  ReturnsInHanded {} Tryz.checked os 3 .any (sagChecksSpec.preRow enc Tryz.prog Tryz.f3 Rows.sagaChecksRow.domain false Rows.sagaChecksRow.laid) ((sagChecksSpec.at F).post enc Tryz.prog Tryz.f3 false true false false):=by
 refine returnsInHanded_of_row (C:=Tryz.checked) (s:=sagChecksSpec) Zdo started (by kernel_rfl) Tryz.func3
  (witness_row_atRef (enc:=enc) (C:=Tryz.checked) false (NG os) #[Value.agg #[Value.string ⟨#[]⟩,Value.int .i64 0,Value.int .i64 0,Value.int .i64 0,Value.int .i64 0,Value.int .i64 0,Value.int .i64 0,Value.string ⟨#[]⟩,Value.int .i64 0,Value.int .i64 0,Value.int .i64 0,Value.int .i64 0,Value.slice none 0 0,Value.slice none 0 0,Value.slice none 0 0,Value.slice none 0 0,Value.slice none 0 0,Value.slice none 0 0,Value.slice none 0 0,Value.slice none 0 0],Value.agg #[Value.int .i64 0,Value.int .i64 0,Value.slice none 0 0]] rfl (by kernel_rfl) (by kernel_rfl) (by kernel_rfl) (LH os enc)) ?_
 intro W base args ds gs l b E _ _ _ J Z _
 have a:∀ (j:Nat) t v,Tryz.f3.params[j]? = some t→args[j]? = some v→Value.okWide Tryz.prog W .any base t v:=b
 have u:=E
 obtain ⟨p,q,k,i,rfl,_,_⟩:=E
 have o:DataW.TrodAll enc Tryz.prog W 0 (fun _=>true) true Tryz.f3.params.toList args.toList ds p:=k
 rw [Tryz.params3] at o a
 obtain ⟨N,Q,y,G,p0,V,rfl,rfl,rfl,w,D⟩:=trodAll_two o
 obtain ⟨rfl,rfl⟩:=trodVars_none i
 have f:=o.lt
 obtain ⟨K,O,r⟩:=Zgh (a 0 _ N rfl rfl) w
 obtain ⟨z,aa,n⟩:=ZgO (a 1 _ Q rfl rfl) D
 clear k i b
 obtain ⟨d,g⟩:=Zen J
 have hE:=ZdP J
 have U:=Zc3 Z
 have Y:=Ev.NA (LM W hE U g d 1000000 [] [] [] K z true (Sl 1000000 (by omega) K z)) (Z1 r n)
 refine Y.mono ?_
 rintro e W' ⟨rfl,c⟩
 have e1:(sagChecksSpec.at F).fn H ([y,G]++[])={ results:=[.lit (.bool true)],args:=[y,G] }:=rfl
 refine ⟨_,rfl,_,_,_,[],(p0++V),[],u,?_,?_,?_,c.frame _,fun h=>by cases h⟩
 ·rw [e1];exact trodAll_mk1 (shut_bool Tryz.underlying4 _)
 ·rw [e1];exact trodAll_mk2 (Below.trod (by kernel_rfl) (by kernel_rfl) (of_decide_eq_true (by kernel_rfl)) w c (fun x m=>f x (by simp only [List.mem_append];exact Or.inl m))) (Below.trod (by kernel_rfl) (by kernel_rfl) (of_decide_eq_true (by kernel_rfl)) D c (fun x m=>f x (by simp only [List.mem_append];exact Or.inr m)))
 ·rw [e1];rfl
end Go.Proofs.YtcdnijfbfdnjlaaGreatDoor
