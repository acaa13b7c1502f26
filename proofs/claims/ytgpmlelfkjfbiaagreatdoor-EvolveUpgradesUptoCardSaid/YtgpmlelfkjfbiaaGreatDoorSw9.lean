/-
  Part 9 of the proof: rules and walks that the claim's last text uses.
-/
import Derived.Test.YtgpmlelfkjfbiaaGreatDoorSw8
set_option linter.unusedSimpArgs false
set_option linter.unusedVariables false
set_option maxRecDepth 100000
set_option maxHeartbeats 4000000
namespace Go.Proofs.YtgpmlelfkjfbiaaGreatDoor
open Go Go.Shelf Go.ChangeShapes Go.WideShapes Go.ChangeAt Go.RowKit Go.Lib Go.Ev
abbrev evoUpgradesUptoSpec:OpenSpec:=Rows.OpenSpec.upto Rows.evolveUpgradesSpec
theorem Zie (os:Os) {H:Type} (enc:TypeId × Value→H) :
  evoUpgradesUptoSpec.preRow enc Tryz.prog Tryz.f5 Rows.evolveUpgradesUptoRow.domain false Rows.evolveUpgradesUptoRow.laid ((ZmA os).forCall (fun _ _=>0) ⟨#[],#[Value.agg #[Value.int .i64 0,Value.int .i64 0,Value.int .i64 0,Value.int .i64 0,Value.slice none 0 0,Value.slice none 0 0,Value.slice none 0 0,Value.int .i64 0,Value.int .i64 0,Value.int .i64 0,Value.int .i64 0,Value.slice none 0 0,Value.slice none 0 0,Value.slice none 0 0],Value.agg #[Value.int .i64 0,Value.int .i64 0,Value.int .i64 0,Value.string ⟨#[]⟩,Value.slice none 0 0,Value.slice none 0 0]],[]⟩).memory #[Value.agg #[Value.int .i64 0,Value.int .i64 0,Value.int .i64 0,Value.int .i64 0,Value.slice none 0 0,Value.slice none 0 0,Value.slice none 0 0,Value.int .i64 0,Value.int .i64 0,Value.int .i64 0,Value.int .i64 0,Value.slice none 0 0,Value.slice none 0 0,Value.slice none 0 0],Value.agg #[Value.int .i64 0,Value.int .i64 0,Value.int .i64 0,Value.string ⟨#[]⟩,Value.slice none 0 0,Value.slice none 0 0]]:=by
 have hw:(DataW.whole enc Tryz.prog ((ZmA os).forCall (fun _ _=>0) ⟨#[],#[Value.agg #[Value.int .i64 0,Value.int .i64 0,Value.int .i64 0,Value.int .i64 0,Value.slice none 0 0,Value.slice none 0 0,Value.slice none 0 0,Value.int .i64 0,Value.int .i64 0,Value.int .i64 0,Value.int .i64 0,Value.slice none 0 0,Value.slice none 0 0,Value.slice none 0 0],Value.agg #[Value.int .i64 0,Value.int .i64 0,Value.int .i64 0,Value.string ⟨#[]⟩,Value.slice none 0 0,Value.slice none 0 0]],[]⟩).memory Tryz.f5.params.toList evoUpgradesUptoSpec.vars false (#[Value.agg #[Value.int .i64 0,Value.int .i64 0,Value.int .i64 0,Value.int .i64 0,Value.slice none 0 0,Value.slice none 0 0,Value.slice none 0 0,Value.int .i64 0,Value.int .i64 0,Value.int .i64 0,Value.int .i64 0,Value.slice none 0 0,Value.slice none 0 0,Value.slice none 0 0],Value.agg #[Value.int .i64 0,Value.int .i64 0,Value.int .i64 0,Value.string ⟨#[]⟩,Value.slice none 0 0,Value.slice none 0 0]]).toList 8).map (fun x=>(x.1,x.2.1)) =
   some ([.agg [.agg [.lit (.int .i64 0),.lit (.int .i64 0),.lit (.int .i64 0),.lit (.int .i64 0),.nil,.nil,.nil],.agg [.lit (.int .i64 0),.lit (.int .i64 0),.lit (.int .i64 0),.lit (.int .i64 0),.nil,.nil,.nil]],.agg [.lit (.int .i64 0),.lit (.int .i64 0),.lit (.int .i64 0),.lit (.string []),.nil,.nil]],[]):=by kernel_rfl
 obtain ⟨⟨x1,x2,x3⟩,hx,a⟩:=Option.map_eq_some_iff.1 hw
 simp only [Prod.mk.injEq] at a
 obtain ⟨rfl,rfl⟩:=a
 exact OpenSpec.preRow_of_cond 8 hx (by kernel_rfl) (fun k hk=>by cases hk;kernel_rfl) (by kernel_rfl) (ZqJ os _)
theorem ZiS (os:Os) (started:os.Started) (H:Type) (enc:TypeId × Value→H) (F:Stop.Interp) :
  ReturnsInHanded {} Tryz.checked os 5 .any (evoUpgradesUptoSpec.preRow enc Tryz.prog Tryz.f5 Rows.evolveUpgradesUptoRow.domain false Rows.evolveUpgradesUptoRow.laid) ((evoUpgradesUptoSpec.at F).post enc Tryz.prog Tryz.f5 false true false false):=by
 refine returnsInHanded_of_row (C:=Tryz.checked) (s:=evoUpgradesUptoSpec) ZAp started (by kernel_rfl) Tryz.func5
  (witness_row_atRef (enc:=enc) (C:=Tryz.checked) false (ZmA os) #[Value.agg #[Value.int .i64 0,Value.int .i64 0,Value.int .i64 0,Value.int .i64 0,Value.slice none 0 0,Value.slice none 0 0,Value.slice none 0 0,Value.int .i64 0,Value.int .i64 0,Value.int .i64 0,Value.int .i64 0,Value.slice none 0 0,Value.slice none 0 0,Value.slice none 0 0],Value.agg #[Value.int .i64 0,Value.int .i64 0,Value.int .i64 0,Value.string ⟨#[]⟩,Value.slice none 0 0,Value.slice none 0 0]] rfl (by kernel_rfl) (by kernel_rfl) (by kernel_rfl) (Zie os enc)) ?_
 intro W base args ds gs n a hW _ f _ hL _ _
 have b:∀ (j:Nat) t v,Tryz.f5.params[j]? = some t→args[j]? = some v→Value.okWide Tryz.prog W .any base t v:=a
 have r:=hW
 obtain ⟨p,q,g,i,rfl,_,_⟩:=hW
 have hA:DataW.TrodAll enc Tryz.prog W 0 (fun _=>true) true Tryz.f5.params.toList args.toList ds p:=g
 rw [Tryz.params5] at hA b
 obtain ⟨v0,v1,d0,d1,p0,p1,rfl,rfl,rfl,h0,h1⟩:=trodAll_two hA
 obtain ⟨rfl,rfl⟩:=trodVars_none i
 have m:=hA.lt
 obtain ⟨x0,w,u⟩:=ZBG (b 0 _ v0 rfl rfl) h0
 obtain ⟨x1,y,o,z⟩:=ZBv (b 1 _ v1 rfl rfl) h1
 clear g i a
 have d:Rows.uptoBulkAll ([d0,d1]++[])≤1048576:=of_decide_eq_true (f _ rfl)
 simp only [List.cons_append,List.append_nil,List.nil_append,Rows.uptoBulkAll] at d
 obtain ⟨k,l⟩:=ZwM hL
 have hc:=Ev.ZnN (Zj4 W l k 10000000000 [] [] [] x0 x1 true (ZnX 10000000000 (by omega) x0 x1 (by omega) (by omega) (by omega))) (Zyf u o)
 refine hc.mono ?_
 rintro e W' ⟨rfl,c⟩
 have e1:(evoUpgradesUptoSpec.at F).fn H ([d0,d1]++[])={ results:=[.lit (.bool true)],args:=[d0,d1] }:=rfl
 refine ⟨_,rfl,_,_,_,[],(p0++p1),[],r,?_,?_,?_,c.frame _,fun h=>by cases h⟩
 ·
  rw [e1];exact trodAll_mk1 (shut_bool Tryz.underlying4 _)
 ·
  rw [e1];exact trodAll_mk2 (Below.trod (by kernel_rfl) (by kernel_rfl) (of_decide_eq_true (by kernel_rfl)) h0 c (fun x hx=>m x (by simp only [List.mem_append];exact Or.inl hx))) (Below.trod (by kernel_rfl) (by kernel_rfl) (of_decide_eq_true (by kernel_rfl)) h1 c (fun x hx=>m x (by simp only [List.mem_append];exact Or.inr hx)))
 ·
  rw [e1];rfl
end Go.Proofs.YtgpmlelfkjfbiaaGreatDoor
