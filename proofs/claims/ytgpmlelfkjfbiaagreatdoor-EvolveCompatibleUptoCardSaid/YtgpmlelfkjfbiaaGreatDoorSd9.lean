/-
  Part 9 of the proof: rules and walks that the claim's last text uses.
-/
import Derived.Test.YtgpmlelfkjfbiaaGreatDoorSd8
set_option linter.unusedSimpArgs false
set_option linter.unusedVariables false
set_option maxRecDepth 100000
set_option maxHeartbeats 4000000
namespace Go.Proofs.YtgpmlelfkjfbiaaGreatDoor
open Go Go.Shelf Go.ChangeShapes Go.WideShapes Go.ChangeAt Go.RowKit Go.Lib Go.Ev
abbrev evoCompatibleUptoSpec:OpenSpec:=Rows.OpenSpec.upto Rows.evolveCompatibleSpec
theorem KO (os:Os) {H:Type} (enc:TypeId × Value→H) :
  evoCompatibleUptoSpec.preRow enc Tryz.prog Tryz.f7 Rows.evolveCompatibleUptoRow.domain false Rows.evolveCompatibleUptoRow.laid ((Qx os).forCall (fun _ _=>0) ⟨#[],#[Value.agg #[Value.int .i64 0,Value.int .i64 0,Value.int .i64 0,Value.int .i64 0,Value.slice none 0 0,Value.slice none 0 0,Value.slice none 0 0,Value.int .i64 0,Value.int .i64 0,Value.int .i64 0,Value.int .i64 0,Value.slice none 0 0,Value.slice none 0 0,Value.slice none 0 0],Value.agg #[Value.int .i64 0,Value.int .i64 0,Value.int .i64 0,Value.string ⟨#[]⟩,Value.slice none 0 0,Value.slice none 0 0]],[]⟩).memory #[Value.agg #[Value.int .i64 0,Value.int .i64 0,Value.int .i64 0,Value.int .i64 0,Value.slice none 0 0,Value.slice none 0 0,Value.slice none 0 0,Value.int .i64 0,Value.int .i64 0,Value.int .i64 0,Value.int .i64 0,Value.slice none 0 0,Value.slice none 0 0,Value.slice none 0 0],Value.agg #[Value.int .i64 0,Value.int .i64 0,Value.int .i64 0,Value.string ⟨#[]⟩,Value.slice none 0 0,Value.slice none 0 0]]:=by
 have c:(DataW.whole enc Tryz.prog ((Qx os).forCall (fun _ _=>0) ⟨#[],#[Value.agg #[Value.int .i64 0,Value.int .i64 0,Value.int .i64 0,Value.int .i64 0,Value.slice none 0 0,Value.slice none 0 0,Value.slice none 0 0,Value.int .i64 0,Value.int .i64 0,Value.int .i64 0,Value.int .i64 0,Value.slice none 0 0,Value.slice none 0 0,Value.slice none 0 0],Value.agg #[Value.int .i64 0,Value.int .i64 0,Value.int .i64 0,Value.string ⟨#[]⟩,Value.slice none 0 0,Value.slice none 0 0]],[]⟩).memory Tryz.f7.params.toList evoCompatibleUptoSpec.vars false (#[Value.agg #[Value.int .i64 0,Value.int .i64 0,Value.int .i64 0,Value.int .i64 0,Value.slice none 0 0,Value.slice none 0 0,Value.slice none 0 0,Value.int .i64 0,Value.int .i64 0,Value.int .i64 0,Value.int .i64 0,Value.slice none 0 0,Value.slice none 0 0,Value.slice none 0 0],Value.agg #[Value.int .i64 0,Value.int .i64 0,Value.int .i64 0,Value.string ⟨#[]⟩,Value.slice none 0 0,Value.slice none 0 0]]).toList 8).map (fun x=>(x.1,x.2.1)) =
   some ([.agg [.agg [.lit (.int .i64 0),.lit (.int .i64 0),.lit (.int .i64 0),.lit (.int .i64 0),.nil,.nil,.nil],.agg [.lit (.int .i64 0),.lit (.int .i64 0),.lit (.int .i64 0),.lit (.int .i64 0),.nil,.nil,.nil]],.agg [.lit (.int .i64 0),.lit (.int .i64 0),.lit (.int .i64 0),.lit (.string []),.nil,.nil]],[]):=by kernel_rfl
 obtain ⟨⟨f,e,d⟩,b,a⟩:=Option.map_eq_some_iff.1 c
 simp only [Prod.mk.injEq] at a
 obtain ⟨rfl,rfl⟩:=a
 exact OpenSpec.preRow_of_cond 8 b (by kernel_rfl) (fun k hk=>by cases hk;kernel_rfl) (by kernel_rfl) (WV os _)
theorem LR (os:Os) (started:os.Started) (H:Type) (enc:TypeId × Value→H) (F:Stop.Interp) :
  ReturnsInHanded {} Tryz.checked os 7 .any (evoCompatibleUptoSpec.preRow enc Tryz.prog Tryz.f7 Rows.evolveCompatibleUptoRow.domain false Rows.evolveCompatibleUptoRow.laid) ((evoCompatibleUptoSpec.at F).post enc Tryz.prog Tryz.f7 false true false false):=by
 refine returnsInHanded_of_row (C:=Tryz.checked) (s:=evoCompatibleUptoSpec) Zfg started (by kernel_rfl) Tryz.func7
  (witness_row_atRef (enc:=enc) (C:=Tryz.checked) false (Qx os) #[Value.agg #[Value.int .i64 0,Value.int .i64 0,Value.int .i64 0,Value.int .i64 0,Value.slice none 0 0,Value.slice none 0 0,Value.slice none 0 0,Value.int .i64 0,Value.int .i64 0,Value.int .i64 0,Value.int .i64 0,Value.slice none 0 0,Value.slice none 0 0,Value.slice none 0 0],Value.agg #[Value.int .i64 0,Value.int .i64 0,Value.int .i64 0,Value.string ⟨#[]⟩,Value.slice none 0 0,Value.slice none 0 0]] rfl (by kernel_rfl) (by kernel_rfl) (by kernel_rfl) (KO os enc)) ?_
 intro W base args V gs n a N _ f _ hL _ _
 have b:∀ (j:Nat) t v,Tryz.f7.params[j]? = some t→args[j]? = some v→Value.okWide Tryz.prog W .any base t v:=a
 have r:=N
 obtain ⟨p,q,l,m,rfl,_,_⟩:=N
 have u:DataW.TrodAll enc Tryz.prog W 0 (fun _=>true) true Tryz.f7.params.toList args.toList V p:=l
 rw [Tryz.params7] at u b
 obtain ⟨U,Y,D,y,Q,p1,rfl,rfl,rfl,J,G⟩:=trodAll_two u
 obtain ⟨rfl,rfl⟩:=trodVars_none m
 have k:=u.lt
 obtain ⟨O,ab,w⟩:=ZhT (b 0 _ U rfl rfl) J
 obtain ⟨K,ad,z,aa⟩:=Zhj (b 1 _ Y rfl rfl) G
 clear l m a
 have c:Rows.uptoBulkAll ([D,y]++[])≤1048576:=of_decide_eq_true (f _ rfl)
 simp only [List.cons_append,List.append_nil,List.nil_append,Rows.uptoBulkAll] at c
 obtain ⟨i,g⟩:=ZcB hL
 have Z:=Ev.SQ (Ns W g i 10000000000 [] [] [] O K true (RD 10000000000 (by omega) O K (by omega) (by omega) (by omega))) (Zc5 w z)
 refine Z.mono ?_
 rintro e W' ⟨rfl,d⟩
 have E:(evoCompatibleUptoSpec.at F).fn H ([D,y]++[])={ results:=[.lit (.bool true)],args:=[D,y] }:=rfl
 refine ⟨_,rfl,_,_,_,[],(Q++p1),[],r,?_,?_,?_,d.frame _,fun h=>by cases h⟩
 ·rw [E];exact trodAll_mk1 (shut_bool Tryz.underlying4 _)
 ·rw [E];exact trodAll_mk2 (Below.trod (by kernel_rfl) (by kernel_rfl) (of_decide_eq_true (by kernel_rfl)) J d (fun x o=>k x (by simp only [List.mem_append];exact Or.inl o))) (Below.trod (by kernel_rfl) (by kernel_rfl) (of_decide_eq_true (by kernel_rfl)) G d (fun x o=>k x (by simp only [List.mem_append];exact Or.inr o)))
 ·rw [E];rfl
end Go.Proofs.YtgpmlelfkjfbiaaGreatDoor
