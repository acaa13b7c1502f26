/-
  Part 9 of the proof: rules and walks that the claim's last text uses.
-/
import Derived.Test.YtmcnjijeocmkgaaGreatDoorLc8
set_option linter.unusedSimpArgs false
set_option linter.unusedVariables false
set_option maxRecDepth 100000
set_option maxHeartbeats 4000000
namespace Go.Proofs.YtmcnjijeocmkgaaGreatDoor
open Go Go.Shelf Go.ChangeShapes Go.WideShapes Go.ChangeAt Go.RowKit Go.Lib Go.Ev
abbrev losComposesSpec:OpenSpec:=OpenSpec.ofChange Rows.lossComposesSpec
theorem P2 (os:Os) {H:Type} (enc:TypeId × Value→H) :
  losComposesSpec.preRow enc Tryz.prog Tryz.f5 Rows.lossComposesRow.domain false Rows.lossComposesRow.laid ((PU os).forCall (fun _ _=>0) ⟨#[],#[Value.agg #[Value.slice none 0 0],Value.agg #[Value.slice none 0 0],Value.agg #[Value.int .i64 0,Value.int .i64 0,Value.int .i64 0,Value.int .i64 0,Value.slice none 0 0,Value.slice none 0 0,Value.slice none 0 0]],[]⟩).memory #[Value.agg #[Value.slice none 0 0],Value.agg #[Value.slice none 0 0],Value.agg #[Value.int .i64 0,Value.int .i64 0,Value.int .i64 0,Value.int .i64 0,Value.slice none 0 0,Value.slice none 0 0,Value.slice none 0 0]]:=by
 have c:(DataW.whole enc Tryz.prog ((PU os).forCall (fun _ _=>0) ⟨#[],#[Value.agg #[Value.slice none 0 0],Value.agg #[Value.slice none 0 0],Value.agg #[Value.int .i64 0,Value.int .i64 0,Value.int .i64 0,Value.int .i64 0,Value.slice none 0 0,Value.slice none 0 0,Value.slice none 0 0]],[]⟩).memory Tryz.f5.params.toList losComposesSpec.vars false (#[Value.agg #[Value.slice none 0 0],Value.agg #[Value.slice none 0 0],Value.agg #[Value.int .i64 0,Value.int .i64 0,Value.int .i64 0,Value.int .i64 0,Value.slice none 0 0,Value.slice none 0 0,Value.slice none 0 0]]).toList 8).map (fun x=>(x.1,x.2.1)) =
   some ([.agg [.nil],.agg [.nil],.agg [.lit (.int .i64 0),.lit (.int .i64 0),.lit (.int .i64 0),.lit (.int .i64 0),.nil,.nil,.nil]],[]):=by kernel_rfl
 obtain ⟨⟨f,e,d⟩,b,a⟩:=Option.map_eq_some_iff.1 c
 simp only [Prod.mk.injEq] at a
 obtain ⟨rfl,rfl⟩:=a
 exact OpenSpec.preRow_of_cond 8 b (by kernel_rfl) (fun k hk=>by cases hk) (by kernel_rfl) (We os _)
theorem QN (os:Os) (started:os.Started) (H:Type) (enc:TypeId × Value→H) (F:Stop.Interp) :
  ReturnsInHanded {} Tryz.checked os 5 .any (losComposesSpec.preRow enc Tryz.prog Tryz.f5 Rows.lossComposesRow.domain false Rows.lossComposesRow.laid) ((losComposesSpec.at F).post enc Tryz.prog Tryz.f5 false true false false):=by
 refine returnsInHanded_of_row (C:=Tryz.checked) (s:=losComposesSpec) ZgC started (by kernel_rfl) Tryz.func5
  (witness_row_atRef (enc:=enc) (C:=Tryz.checked) false (PU os) #[Value.agg #[Value.slice none 0 0],Value.agg #[Value.slice none 0 0],Value.agg #[Value.int .i64 0,Value.int .i64 0,Value.int .i64 0,Value.int .i64 0,Value.slice none 0 0,Value.slice none 0 0,Value.slice none 0 0]] rfl (by kernel_rfl) (by kernel_rfl) (by kernel_rfl) (P2 os enc)) ?_
 intro W base args ds gs m b E _ _ _ n hS _
 have a:∀ (j:Nat) t v,Tryz.f5.params[j]? = some t→args[j]? = some v→Value.okWide Tryz.prog W .any base t v:=b
 have z:=E
 obtain ⟨p,q,f,l,rfl,_,_⟩:=E
 have o:DataW.TrodAll enc Tryz.prog W 0 (fun _=>true) true Tryz.f5.params.toList args.toList ds p:=f
 rw [Tryz.params5] at o a
 obtain ⟨v0,v1,v2,U,Q,G,p0,Z,p2,rfl,rfl,rfl,D,N,K⟩:=trodAll_three o
 obtain ⟨rfl,rfl⟩:=trodVars_none l
 have d:=o.lt
 obtain ⟨V,aa,w⟩:=Zfu (a 0 _ v0 rfl rfl) D
 obtain ⟨J,ae,u⟩:=Zfu (a 1 _ v1 rfl rfl) N
 obtain ⟨O,ad,r,ab⟩:=ZiL (a 2 _ v2 rfl rfl) K
 clear f l b
 obtain ⟨i,g⟩:=ZcW n
 have hB:=Zc0 n
 have Y:=Zdf n
 have hM:=ZcI hS
 have hc:=Ev.TU (P3 W hB Y hM g i 3000000 [] [] [] V J O true (Vt 3000000 (by omega) V J O)) (Zbn w u r)
 refine hc.mono ?_
 rintro e W' ⟨rfl,c⟩
 have y:(losComposesSpec.at F).fn H ([U,Q,G]++[])={ results:=[.lit (.bool true)],args:=[U,Q,G] }:=rfl
 refine ⟨_,rfl,_,_,_,[],(p0++(Z++p2)),[],z,?_,?_,?_,c.frame _,fun h=>by cases h⟩
 ·rw [y];exact trodAll_mk1 (shut_bool Tryz.underlying4 _)
 ·rw [y];exact trodAll_mk3 (Below.trod (by kernel_rfl) (by kernel_rfl) (of_decide_eq_true (by kernel_rfl)) D c (fun x k=>d x (by simp only [List.mem_append];exact Or.inl (Or.inl k)))) (Below.trod (by kernel_rfl) (by kernel_rfl) (of_decide_eq_true (by kernel_rfl)) N c (fun x k=>d x (by simp only [List.mem_append];exact Or.inl (Or.inr k)))) (Below.trod (by kernel_rfl) (by kernel_rfl) (of_decide_eq_true (by kernel_rfl)) K c (fun x k=>d x (by simp only [List.mem_append];exact Or.inr k)))
 ·rw [y];rfl
end Go.Proofs.YtmcnjijeocmkgaaGreatDoor
