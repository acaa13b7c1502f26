/-
  Part 9 of the proof: rules and walks that the claim's last text uses.
-/
import Derived.Test.YtgpmlelfkjfbiaaGreatDoorSl8
set_option linter.unusedSimpArgs false
set_option linter.unusedVariables false
set_option maxRecDepth 100000
set_option maxHeartbeats 4000000
namespace Go.Proofs.YtgpmlelfkjfbiaaGreatDoor
open Go Go.Shelf Go.ChangeShapes Go.WideShapes Go.ChangeAt Go.RowKit Go.Lib Go.Ev
abbrev evoLosslessUptoSpec:OpenSpec:=Rows.OpenSpec.upto Rows.evolveLosslessSpec
theorem Ni (os:Os) {H:Type} (enc:TypeId × Value→H) :
  evoLosslessUptoSpec.preRow enc Tryz.prog Tryz.f8 Rows.evolveLosslessUptoRow.domain false Rows.evolveLosslessUptoRow.laid ((Q3 os).forCall (fun _ _=>0) ⟨#[],#[Value.agg #[Value.int .i64 0,Value.int .i64 0,Value.int .i64 0,Value.int .i64 0,Value.slice none 0 0,Value.slice none 0 0,Value.slice none 0 0,Value.int .i64 0,Value.int .i64 0,Value.int .i64 0,Value.int .i64 0,Value.slice none 0 0,Value.slice none 0 0,Value.slice none 0 0],Value.agg #[Value.int .i64 0,Value.int .i64 0,Value.int .i64 0,Value.string ⟨#[]⟩,Value.slice none 0 0,Value.slice none 0 0]],[]⟩).memory #[Value.agg #[Value.int .i64 0,Value.int .i64 0,Value.int .i64 0,Value.int .i64 0,Value.slice none 0 0,Value.slice none 0 0,Value.slice none 0 0,Value.int .i64 0,Value.int .i64 0,Value.int .i64 0,Value.int .i64 0,Value.slice none 0 0,Value.slice none 0 0,Value.slice none 0 0],Value.agg #[Value.int .i64 0,Value.int .i64 0,Value.int .i64 0,Value.string ⟨#[]⟩,Value.slice none 0 0,Value.slice none 0 0]]:=by
 have b:(DataW.whole enc Tryz.prog ((Q3 os).forCall (fun _ _=>0) ⟨#[],#[Value.agg #[Value.int .i64 0,Value.int .i64 0,Value.int .i64 0,Value.int .i64 0,Value.slice none 0 0,Value.slice none 0 0,Value.slice none 0 0,Value.int .i64 0,Value.int .i64 0,Value.int .i64 0,Value.int .i64 0,Value.slice none 0 0,Value.slice none 0 0,Value.slice none 0 0],Value.agg #[Value.int .i64 0,Value.int .i64 0,Value.int .i64 0,Value.string ⟨#[]⟩,Value.slice none 0 0,Value.slice none 0 0]],[]⟩).memory Tryz.f8.params.toList evoLosslessUptoSpec.vars false (#[Value.agg #[Value.int .i64 0,Value.int .i64 0,Value.int .i64 0,Value.int .i64 0,Value.slice none 0 0,Value.slice none 0 0,Value.slice none 0 0,Value.int .i64 0,Value.int .i64 0,Value.int .i64 0,Value.int .i64 0,Value.slice none 0 0,Value.slice none 0 0,Value.slice none 0 0],Value.agg #[Value.int .i64 0,Value.int .i64 0,Value.int .i64 0,Value.string ⟨#[]⟩,Value.slice none 0 0,Value.slice none 0 0]]).toList 8).map (fun x=>(x.1,x.2.1)) =
   some ([.agg [.agg [.lit (.int .i64 0),.lit (.int .i64 0),.lit (.int .i64 0),.lit (.int .i64 0),.nil,.nil,.nil],.agg [.lit (.int .i64 0),.lit (.int .i64 0),.lit (.int .i64 0),.lit (.int .i64 0),.nil,.nil,.nil]],.agg [.lit (.int .i64 0),.lit (.int .i64 0),.lit (.int .i64 0),.lit (.string []),.nil,.nil]],[]):=by kernel_rfl
 obtain ⟨⟨e,f,d⟩,c,a⟩:=Option.map_eq_some_iff.1 b
 simp only [Prod.mk.injEq] at a
 obtain ⟨rfl,rfl⟩:=a
 exact OpenSpec.preRow_of_cond 8 c (by kernel_rfl) (fun k hk=>by cases hk;kernel_rfl) (by kernel_rfl) (X3 os _)
theorem N3 (os:Os) (started:os.Started) (H:Type) (enc:TypeId × Value→H) (F:Stop.Interp) :
  ReturnsInHanded {} Tryz.checked os 8 .any (evoLosslessUptoSpec.preRow enc Tryz.prog Tryz.f8 Rows.evolveLosslessUptoRow.domain false Rows.evolveLosslessUptoRow.laid) ((evoLosslessUptoSpec.at F).post enc Tryz.prog Tryz.f8 false true false false):=by
 refine returnsInHanded_of_row (C:=Tryz.checked) (s:=evoLosslessUptoSpec) Zgd started (by kernel_rfl) Tryz.func8
  (witness_row_atRef (enc:=enc) (C:=Tryz.checked) false (Q3 os) #[Value.agg #[Value.int .i64 0,Value.int .i64 0,Value.int .i64 0,Value.int .i64 0,Value.slice none 0 0,Value.slice none 0 0,Value.slice none 0 0,Value.int .i64 0,Value.int .i64 0,Value.int .i64 0,Value.int .i64 0,Value.slice none 0 0,Value.slice none 0 0,Value.slice none 0 0],Value.agg #[Value.int .i64 0,Value.int .i64 0,Value.int .i64 0,Value.string ⟨#[]⟩,Value.slice none 0 0,Value.slice none 0 0]] rfl (by kernel_rfl) (by kernel_rfl) (by kernel_rfl) (Ni os enc)) ?_
 intro W base args ds gs n b O _ d _ Q _ _
 have a:∀ (j:Nat) t v,Tryz.f8.params[j]? = some t→args[j]? = some v→Value.okWide Tryz.prog W .any base t v:=b
 have r:=O
 obtain ⟨p,q,i,k,rfl,_,_⟩:=O
 have o:DataW.TrodAll enc Tryz.prog W 0 (fun _=>true) true Tryz.f8.params.toList args.toList ds p:=i
 rw [Tryz.params8] at o a
 obtain ⟨v0,U,z,D,p0,Y,rfl,rfl,rfl,K,N⟩:=trodAll_two o
 obtain ⟨rfl,rfl⟩:=trodVars_none k
 have l:=o.lt
 obtain ⟨J,V,y⟩:=ZiL (a 0 _ v0 rfl rfl) K
 obtain ⟨G,aa,u,Z⟩:=Zib (a 1 _ U rfl rfl) N
 clear i k b
 have c:Rows.uptoBulkAll ([z,D]++[])≤1048576:=of_decide_eq_true (d _ rfl)
 simp only [List.cons_append,List.append_nil,List.nil_append,Rows.uptoBulkAll] at c
 obtain ⟨m,g⟩:=Zdy Q
 have hc:=Ev.TK (OK W g m 10000000000 [] [] [] J G true (UH 10000000000 (by omega) J G (by omega) (by omega) (by omega))) (Zd5 y u)
 refine hc.mono ?_
 rintro e W' ⟨rfl,f⟩
 have E:(evoLosslessUptoSpec.at F).fn H ([z,D]++[])={ results:=[.lit (.bool true)],args:=[z,D] }:=rfl
 refine ⟨_,rfl,_,_,_,[],(p0++Y),[],r,?_,?_,?_,f.frame _,fun h=>by cases h⟩
 ·rw [E];exact trodAll_mk1 (shut_bool Tryz.underlying4 _)
 ·rw [E];exact trodAll_mk2 (Below.trod (by kernel_rfl) (by kernel_rfl) (of_decide_eq_true (by kernel_rfl)) K f (fun x w=>l x (by simp only [List.mem_append];exact Or.inl w))) (Below.trod (by kernel_rfl) (by kernel_rfl) (of_decide_eq_true (by kernel_rfl)) N f (fun x w=>l x (by simp only [List.mem_append];exact Or.inr w)))
 ·rw [E];rfl
end Go.Proofs.YtgpmlelfkjfbiaaGreatDoor
