/-
  Part 10 of the proof: rules and walks that the claim's last text uses.
-/
import Derived.Test.YtmcnjijeocmkgaaGreatDoorSy9
set_option linter.unusedSimpArgs false
set_option linter.unusedVariables false
set_option maxRecDepth 100000
set_option maxHeartbeats 4000000
namespace Go.Proofs.YtmcnjijeocmkgaaGreatDoor
open Go Go.Shelf Go.ChangeShapes Go.WideShapes Go.ChangeAt Go.RowKit Go.Lib Go.Ev
abbrev evoWitnessUptoSpec:OpenSpec:=Rows.OpenSpec.upto Rows.evolveWitnessSpec
theorem PG (os:Os) {H:Type} (enc:TypeId × Value→H) :
  evoWitnessUptoSpec.preRow enc Tryz.prog Tryz.f3 Rows.evolveWitnessUptoRow.domain false Rows.evolveWitnessUptoRow.laid ((TV os).forCall (fun _ _=>0) ⟨#[],#[Value.agg #[Value.int .i64 0,Value.int .i64 0,Value.int .i64 0,Value.int .i64 0,Value.slice none 0 0,Value.slice none 0 0,Value.slice none 0 0,Value.int .i64 0,Value.int .i64 0,Value.int .i64 0,Value.int .i64 0,Value.slice none 0 0,Value.slice none 0 0,Value.slice none 0 0]],[]⟩).memory #[Value.agg #[Value.int .i64 0,Value.int .i64 0,Value.int .i64 0,Value.int .i64 0,Value.slice none 0 0,Value.slice none 0 0,Value.slice none 0 0,Value.int .i64 0,Value.int .i64 0,Value.int .i64 0,Value.int .i64 0,Value.slice none 0 0,Value.slice none 0 0,Value.slice none 0 0]]:=by
 have b:(DataW.whole enc Tryz.prog ((TV os).forCall (fun _ _=>0) ⟨#[],#[Value.agg #[Value.int .i64 0,Value.int .i64 0,Value.int .i64 0,Value.int .i64 0,Value.slice none 0 0,Value.slice none 0 0,Value.slice none 0 0,Value.int .i64 0,Value.int .i64 0,Value.int .i64 0,Value.int .i64 0,Value.slice none 0 0,Value.slice none 0 0,Value.slice none 0 0]],[]⟩).memory Tryz.f3.params.toList evoWitnessUptoSpec.vars false (#[Value.agg #[Value.int .i64 0,Value.int .i64 0,Value.int .i64 0,Value.int .i64 0,Value.slice none 0 0,Value.slice none 0 0,Value.slice none 0 0,Value.int .i64 0,Value.int .i64 0,Value.int .i64 0,Value.int .i64 0,Value.slice none 0 0,Value.slice none 0 0,Value.slice none 0 0]]).toList 8).map (fun x=>(x.1,x.2.1)) =
   some ([.agg [.agg [.lit (.int .i64 0),.lit (.int .i64 0),.lit (.int .i64 0),.lit (.int .i64 0),.nil,.nil,.nil],.agg [.lit (.int .i64 0),.lit (.int .i64 0),.lit (.int .i64 0),.lit (.int .i64 0),.nil,.nil,.nil]]],[]):=by kernel_rfl
 obtain ⟨⟨d,f,e⟩,c,a⟩:=Option.map_eq_some_iff.1 b
 simp only [Prod.mk.injEq] at a
 obtain ⟨rfl,rfl⟩:=a
 exact OpenSpec.preRow_of_cond 8 c (by kernel_rfl) (fun k hk=>by cases hk;kernel_rfl) (by kernel_rfl) (Zae os _)
theorem P9 (os:Os) (started:os.Started) (H:Type) (enc:TypeId × Value→H) (F:Stop.Interp) :
  ReturnsInHanded {} Tryz.checked os 3 .any (evoWitnessUptoSpec.preRow enc Tryz.prog Tryz.f3 Rows.evolveWitnessUptoRow.domain false Rows.evolveWitnessUptoRow.laid) ((evoWitnessUptoSpec.at F).post enc Tryz.prog Tryz.f3 false true false false):=by
 refine returnsInHanded_of_row (C:=Tryz.checked) (s:=evoWitnessUptoSpec) Zi2 started (by kernel_rfl) Tryz.func3
  (witness_row_atRef (enc:=enc) (C:=Tryz.checked) false (TV os) #[Value.agg #[Value.int .i64 0,Value.int .i64 0,Value.int .i64 0,Value.int .i64 0,Value.slice none 0 0,Value.slice none 0 0,Value.slice none 0 0,Value.int .i64 0,Value.int .i64 0,Value.int .i64 0,Value.int .i64 0,Value.slice none 0 0,Value.slice none 0 0,Value.slice none 0 0]] rfl (by kernel_rfl) (by kernel_rfl) (by kernel_rfl) (PG os enc)) ?_
 intro W base args O U m a z _ c _ J _ _
 have b:∀ (j:Nat) t v,Tryz.f3.params[j]? = some t→args[j]? = some v→Value.okWide Tryz.prog W .any base t v:=a
 have n:=z
 obtain ⟨p,q,g,i,rfl,_,_⟩:=z
 have w:DataW.TrodAll enc Tryz.prog W 0 (fun _=>true) true Tryz.f3.params.toList args.toList O p:=g
 rw [Tryz.params3] at w b
 obtain ⟨K,u,rfl,rfl,E⟩:=trodAll_one w
 obtain ⟨rfl,rfl⟩:=trodVars_none i
 have r:=w.lt
 obtain ⟨D,N,o⟩:=Zka (b 0 _ K rfl rfl) E
 clear g i a
 have d:Rows.uptoBulkAll ([u]++[])≤1048576:=of_decide_eq_true (c _ rfl)
 simp only [List.cons_append,List.append_nil,List.nil_append,Rows.uptoBulkAll] at d
 obtain ⟨f,l⟩:=Zgn J
 have G:=Ev.VW (Rx W l f 10000000000 [] [] [] D true (Yq 10000000000 (by omega) D (by omega) (by omega))) (Zf6 o)
 refine G.mono ?_
 rintro e W' ⟨rfl,k⟩
 have y:(evoWitnessUptoSpec.at F).fn H ([u]++[])={ results:=[.lit (.bool true)],args:=[u] }:=rfl
 refine ⟨_,rfl,_,_,_,[],p,[],n,?_,?_,?_,k.frame _,fun h=>by cases h⟩
 ·rw [y];exact trodAll_mk1 (shut_bool Tryz.underlying4 _)
 ·rw [y];exact trodAll_mk1 (Below.trod (by kernel_rfl) (by kernel_rfl) (of_decide_eq_true (by kernel_rfl)) E k (fun x Q=>r x (by exact Q)))
 ·rw [y];rfl
end Go.Proofs.YtmcnjijeocmkgaaGreatDoor
