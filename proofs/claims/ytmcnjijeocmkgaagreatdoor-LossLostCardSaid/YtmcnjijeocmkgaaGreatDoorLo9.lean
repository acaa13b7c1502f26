/-
  Part 9 of the proof: rules and walks that the claim's last text uses.
-/
import Derived.Test.YtmcnjijeocmkgaaGreatDoorLo8
set_option linter.unusedSimpArgs false
set_option linter.unusedVariables false
set_option maxRecDepth 100000
set_option maxHeartbeats 4000000
namespace Go.Proofs.YtmcnjijeocmkgaaGreatDoor
open Go Go.Shelf Go.ChangeShapes Go.WideShapes Go.ChangeAt Go.RowKit Go.Lib Go.Ev
abbrev losLostSpec:OpenSpec:=OpenSpec.ofChange Rows.lossLostSpec
theorem RU (os:Os) {H:Type} (enc:TypeId × Value→H) :
  losLostSpec.preRow enc Tryz.prog Tryz.f4 Rows.lossLostRow.domain false Rows.lossLostRow.laid ((Ov os).forCall (fun _ _=>0) ⟨#[],#[Value.agg #[Value.slice none 0 0],Value.agg #[Value.int .i64 0,Value.int .i64 0,Value.int .i64 0,Value.int .i64 0,Value.slice none 0 0,Value.slice none 0 0,Value.slice none 0 0],Value.string ⟨#[]⟩],[]⟩).memory #[Value.agg #[Value.slice none 0 0],Value.agg #[Value.int .i64 0,Value.int .i64 0,Value.int .i64 0,Value.int .i64 0,Value.slice none 0 0,Value.slice none 0 0,Value.slice none 0 0],Value.string ⟨#[]⟩]:=by
 have c:(DataW.whole enc Tryz.prog ((Ov os).forCall (fun _ _=>0) ⟨#[],#[Value.agg #[Value.slice none 0 0],Value.agg #[Value.int .i64 0,Value.int .i64 0,Value.int .i64 0,Value.int .i64 0,Value.slice none 0 0,Value.slice none 0 0,Value.slice none 0 0],Value.string ⟨#[]⟩],[]⟩).memory Tryz.f4.params.toList losLostSpec.vars false (#[Value.agg #[Value.slice none 0 0],Value.agg #[Value.int .i64 0,Value.int .i64 0,Value.int .i64 0,Value.int .i64 0,Value.slice none 0 0,Value.slice none 0 0,Value.slice none 0 0],Value.string ⟨#[]⟩]).toList 8).map (fun x=>(x.1,x.2.1)) =
   some ([.agg [.nil],.agg [.lit (.int .i64 0),.lit (.int .i64 0),.lit (.int .i64 0),.lit (.int .i64 0),.nil,.nil,.nil],.lit (.string [])],[]):=by kernel_rfl
 obtain ⟨⟨f,d,e⟩,b,a⟩:=Option.map_eq_some_iff.1 c
 simp only [Prod.mk.injEq] at a
 obtain ⟨rfl,rfl⟩:=a
 exact OpenSpec.preRow_of_cond 8 b (by kernel_rfl) (fun k hk=>by cases hk) (by kernel_rfl) (UU os _)
theorem Uf (os:Os) (started:os.Started) (H:Type) (enc:TypeId × Value→H) (F:Stop.Interp) :
  ReturnsInHanded {} Tryz.checked os 4 .any (losLostSpec.preRow enc Tryz.prog Tryz.f4 Rows.lossLostRow.domain false Rows.lossLostRow.laid) ((losLostSpec.at F).post enc Tryz.prog Tryz.f4 false true false false):=by
 refine returnsInHanded_of_row (C:=Tryz.checked) (s:=losLostSpec) ZfV started (by kernel_rfl) Tryz.func4
  (witness_row_atRef (enc:=enc) (C:=Tryz.checked) false (Ov os) #[Value.agg #[Value.slice none 0 0],Value.agg #[Value.int .i64 0,Value.int .i64 0,Value.int .i64 0,Value.int .i64 0,Value.slice none 0 0,Value.slice none 0 0,Value.slice none 0 0],Value.string ⟨#[]⟩] rfl (by kernel_rfl) (by kernel_rfl) (by kernel_rfl) (RU os enc)) ?_
 intro W base args Z gs m b Q _ _ _ n hS _
 have a:∀ (j:Nat) t v,Tryz.f4.params[j]? = some t→args[j]? = some v→Value.okWide Tryz.prog W .any base t v:=b
 have o:=Q
 obtain ⟨p,q,i,l,rfl,_,_⟩:=Q
 have w:DataW.TrodAll enc Tryz.prog W 0 (fun _=>true) true Tryz.f4.params.toList args.toList Z p:=i
 rw [Tryz.params4] at w a
 obtain ⟨v0,v1,v2,U,D,K,p0,p1,p2,rfl,rfl,rfl,N,G,V⟩:=trodAll_three w
 obtain ⟨rfl,rfl⟩:=trodVars_none l
 have d:=w.lt
 obtain ⟨E,ad,z⟩:=Zhf (a 0 _ v0 rfl rfl) N
 obtain ⟨J,ab,y,aa⟩:=Zhl (a 1 _ v1 rfl rfl) G
 obtain ⟨O,ae,u⟩:=Zhy (a 2 _ v2 rfl rfl) V
 clear i l b
 obtain ⟨f,k⟩:=ZbO n
 have Y:=Zbo n
 have hE:=Za9 n
 have hM:=Zbe hS
 have hc:=Ev.RS (RY W Y hE hM k f 3000000 [] [] [] E J O true (Z6 3000000 (by omega) E J O)) (Zab z y u)
 refine hc.mono ?_
 rintro e W' ⟨rfl,c⟩
 have r:(losLostSpec.at F).fn H ([U,D,K]++[])={ results:=[.lit (.bool true)],args:=[U,D,K] }:=rfl
 refine ⟨_,rfl,_,_,_,[],(p0++(p1++p2)),[],o,?_,?_,?_,c.frame _,fun h=>by cases h⟩
 ·rw [r];exact trodAll_mk1 (shut_bool Tryz.underlying4 _)
 ·rw [r];exact trodAll_mk3 (Below.trod (by kernel_rfl) (by kernel_rfl) (of_decide_eq_true (by kernel_rfl)) N c (fun x g=>d x (by simp only [List.mem_append];exact Or.inl (Or.inl g)))) (Below.trod (by kernel_rfl) (by kernel_rfl) (of_decide_eq_true (by kernel_rfl)) G c (fun x g=>d x (by simp only [List.mem_append];exact Or.inl (Or.inr g)))) (Below.trod (by kernel_rfl) (by kernel_rfl) (of_decide_eq_true (by kernel_rfl)) V c (fun x g=>d x (by simp only [List.mem_append];exact Or.inr g)))
 ·rw [r];rfl
end Go.Proofs.YtmcnjijeocmkgaaGreatDoor
