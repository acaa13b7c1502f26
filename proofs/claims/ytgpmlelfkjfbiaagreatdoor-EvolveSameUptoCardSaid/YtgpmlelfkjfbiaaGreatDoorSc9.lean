/-
  Part 9 of the proof: rules and walks that the claim's last text uses.
-/
import Derived.Test.YtgpmlelfkjfbiaaGreatDoorSc8
set_option linter.unusedSimpArgs false
set_option linter.unusedVariables false
set_option maxRecDepth 100000
set_option maxHeartbeats 4000000
namespace Go.Proofs.YtgpmlelfkjfbiaaGreatDoor
open Go Go.Shelf Go.ChangeShapes Go.WideShapes Go.ChangeAt Go.RowKit Go.Lib Go.Ev
abbrev evoSameUptoSpec:OpenSpec:=Rows.OpenSpec.upto Rows.evolveSameSpec
theorem O1 (os:Os) {H:Type} (enc:TypeId × Value→H) :
  evoSameUptoSpec.preRow enc Tryz.prog Tryz.f9 Rows.evolveSameUptoRow.domain false Rows.evolveSameUptoRow.laid ((QC os).forCall (fun _ _=>0) ⟨#[],#[Value.agg #[Value.int .i64 0,Value.int .i64 0,Value.int .i64 0,Value.int .i64 0,Value.slice none 0 0,Value.slice none 0 0,Value.slice none 0 0],Value.agg #[Value.int .i64 0,Value.int .i64 0,Value.int .i64 0,Value.string ⟨#[]⟩,Value.slice none 0 0,Value.slice none 0 0]],[]⟩).memory #[Value.agg #[Value.int .i64 0,Value.int .i64 0,Value.int .i64 0,Value.int .i64 0,Value.slice none 0 0,Value.slice none 0 0,Value.slice none 0 0],Value.agg #[Value.int .i64 0,Value.int .i64 0,Value.int .i64 0,Value.string ⟨#[]⟩,Value.slice none 0 0,Value.slice none 0 0]]:=by
 have b:(DataW.whole enc Tryz.prog ((QC os).forCall (fun _ _=>0) ⟨#[],#[Value.agg #[Value.int .i64 0,Value.int .i64 0,Value.int .i64 0,Value.int .i64 0,Value.slice none 0 0,Value.slice none 0 0,Value.slice none 0 0],Value.agg #[Value.int .i64 0,Value.int .i64 0,Value.int .i64 0,Value.string ⟨#[]⟩,Value.slice none 0 0,Value.slice none 0 0]],[]⟩).memory Tryz.f9.params.toList evoSameUptoSpec.vars false (#[Value.agg #[Value.int .i64 0,Value.int .i64 0,Value.int .i64 0,Value.int .i64 0,Value.slice none 0 0,Value.slice none 0 0,Value.slice none 0 0],Value.agg #[Value.int .i64 0,Value.int .i64 0,Value.int .i64 0,Value.string ⟨#[]⟩,Value.slice none 0 0,Value.slice none 0 0]]).toList 8).map (fun x=>(x.1,x.2.1)) =
   some ([.agg [.lit (.int .i64 0),.lit (.int .i64 0),.lit (.int .i64 0),.lit (.int .i64 0),.nil,.nil,.nil],.agg [.lit (.int .i64 0),.lit (.int .i64 0),.lit (.int .i64 0),.lit (.string []),.nil,.nil]],[]):=by kernel_rfl
 obtain ⟨⟨d,e,f⟩,c,a⟩:=Option.map_eq_some_iff.1 b
 simp only [Prod.mk.injEq] at a
 obtain ⟨rfl,rfl⟩:=a
 exact OpenSpec.preRow_of_cond 8 c (by kernel_rfl) (fun k hk=>by cases hk;kernel_rfl) (by kernel_rfl) (Xj os _)
theorem PR (os:Os) (started:os.Started) (H:Type) (enc:TypeId × Value→H) (F:Stop.Interp) :
  ReturnsInHanded {} Tryz.checked os 9 .any (evoSameUptoSpec.preRow enc Tryz.prog Tryz.f9 Rows.evolveSameUptoRow.domain false Rows.evolveSameUptoRow.laid) ((evoSameUptoSpec.at F).post enc Tryz.prog Tryz.f9 false true false false):=by
 refine returnsInHanded_of_row (C:=Tryz.checked) (s:=evoSameUptoSpec) ZeT started (by kernel_rfl) Tryz.func9
  (witness_row_atRef (enc:=enc) (C:=Tryz.checked) false (QC os) #[Value.agg #[Value.int .i64 0,Value.int .i64 0,Value.int .i64 0,Value.int .i64 0,Value.slice none 0 0,Value.slice none 0 0,Value.slice none 0 0],Value.agg #[Value.int .i64 0,Value.int .i64 0,Value.int .i64 0,Value.string ⟨#[]⟩,Value.slice none 0 0,Value.slice none 0 0]] rfl (by kernel_rfl) (by kernel_rfl) (by kernel_rfl) (O1 os enc)) ?_
 intro W base args ds gs n a J _ d _ Y _ _
 have b:∀ (j:Nat) t v,Tryz.f9.params[j]? = some t→args[j]? = some v→Value.okWide Tryz.prog W .any base t v:=a
 have r:=J
 obtain ⟨p,q,l,k,rfl,_,_⟩:=J
 have o:DataW.TrodAll enc Tryz.prog W 0 (fun _=>true) true Tryz.f9.params.toList args.toList ds p:=l
 rw [Tryz.params9] at o b
 obtain ⟨v0,v1,y,z,p0,p1,rfl,rfl,rfl,O,N⟩:=trodAll_two o
 obtain ⟨rfl,rfl⟩:=trodVars_none k
 have m:=o.lt
 obtain ⟨K,V,D,Q⟩:=Zhs (b 0 _ v0 rfl rfl) O
 obtain ⟨G,Z,E,aa⟩:=ZgP (b 1 _ v1 rfl rfl) N
 clear l k a
 have c:Rows.uptoBulkAll ([y,z]++[])≤1048576:=of_decide_eq_true (d _ rfl)
 simp only [List.cons_append,List.append_nil,List.nil_append,Rows.uptoBulkAll] at c
 obtain ⟨g,i⟩:=Zdp Y
 have U:=Ev.SI (Rn W i g 10000000000 [] [] [] K G true (Y4 10000000000 (by omega) K G (by omega) (by omega))) (Zcf D E)
 refine U.mono ?_
 rintro e W' ⟨rfl,f⟩
 have w:(evoSameUptoSpec.at F).fn H ([y,z]++[])={ results:=[.lit (.bool true)],args:=[y,z] }:=rfl
 refine ⟨_,rfl,_,_,_,[],(p0++p1),[],r,?_,?_,?_,f.frame _,fun h=>by cases h⟩
 ·rw [w];exact trodAll_mk1 (shut_bool Tryz.underlying4 _)
 ·rw [w];exact trodAll_mk2 (Below.trod (by kernel_rfl) (by kernel_rfl) (of_decide_eq_true (by kernel_rfl)) O f (fun x u=>m x (by simp only [List.mem_append];exact Or.inl u))) (Below.trod (by kernel_rfl) (by kernel_rfl) (of_decide_eq_true (by kernel_rfl)) N f (fun x u=>m x (by simp only [List.mem_append];exact Or.inr u)))
 ·rw [w];rfl
end Go.Proofs.YtgpmlelfkjfbiaaGreatDoor
