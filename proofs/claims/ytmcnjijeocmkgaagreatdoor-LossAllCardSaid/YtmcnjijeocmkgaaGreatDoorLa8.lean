/-
  Part 8 of the proof: rules and walks that the claim's last text uses.
-/
import Derived.Test.YtmcnjijeocmkgaaGreatDoorLa7
set_option linter.unusedSimpArgs false
set_option linter.unusedVariables false
set_option maxRecDepth 100000
set_option maxHeartbeats 4000000
namespace Go.Proofs.YtmcnjijeocmkgaaGreatDoor
open Go Go.Shelf Go.ChangeShapes Go.WideShapes Go.ChangeAt Go.RowKit Go.Lib Go.Ev
abbrev losAllSpec:OpenSpec:=OpenSpec.ofChange Rows.lossAllSpec
theorem SQ (os:Os) {H:Type} (enc:TypeId × Value→H) :
  losAllSpec.preRow enc Tryz.prog Tryz.f6 Rows.lossAllRow.domain false Rows.lossAllRow.laid ((N8 os).forCall (fun _ _=>0) ⟨#[],#[Value.agg #[Value.int .i64 0,Value.int .i64 0,Value.int .i64 0,Value.int .i64 0,Value.slice none 0 0,Value.slice none 0 0,Value.slice none 0 0]],[]⟩).memory #[Value.agg #[Value.int .i64 0,Value.int .i64 0,Value.int .i64 0,Value.int .i64 0,Value.slice none 0 0,Value.slice none 0 0,Value.slice none 0 0]]:=by
 have b:(DataW.whole enc Tryz.prog ((N8 os).forCall (fun _ _=>0) ⟨#[],#[Value.agg #[Value.int .i64 0,Value.int .i64 0,Value.int .i64 0,Value.int .i64 0,Value.slice none 0 0,Value.slice none 0 0,Value.slice none 0 0]],[]⟩).memory Tryz.f6.params.toList losAllSpec.vars false (#[Value.agg #[Value.int .i64 0,Value.int .i64 0,Value.int .i64 0,Value.int .i64 0,Value.slice none 0 0,Value.slice none 0 0,Value.slice none 0 0]]).toList 8).map (fun x=>(x.1,x.2.1)) =
   some ([.agg [.lit (.int .i64 0),.lit (.int .i64 0),.lit (.int .i64 0),.lit (.int .i64 0),.nil,.nil,.nil]],[]):=by kernel_rfl
 obtain ⟨⟨f,e,d⟩,c,a⟩:=Option.map_eq_some_iff.1 b
 simp only [Prod.mk.injEq] at a
 obtain ⟨rfl,rfl⟩:=a
 exact OpenSpec.preRow_of_cond 8 c (by kernel_rfl) (fun k hk=>by cases hk) (by kernel_rfl) (Uj os _)
theorem Ug (os:Os) (started:os.Started) (H:Type) (enc:TypeId × Value→H) (F:Stop.Interp) :
  ReturnsInHanded {} Tryz.checked os 6 .any (losAllSpec.preRow enc Tryz.prog Tryz.f6 Rows.lossAllRow.domain false Rows.lossAllRow.laid) ((losAllSpec.at F).post enc Tryz.prog Tryz.f6 false true false false):=by
 refine returnsInHanded_of_row (C:=Tryz.checked) (s:=losAllSpec) Zev started (by kernel_rfl) Tryz.func6
  (witness_row_atRef (enc:=enc) (C:=Tryz.checked) false (N8 os) #[Value.agg #[Value.int .i64 0,Value.int .i64 0,Value.int .i64 0,Value.int .i64 0,Value.slice none 0 0,Value.slice none 0 0,Value.slice none 0 0]] rfl (by kernel_rfl) (by kernel_rfl) (by kernel_rfl) (SQ os enc)) ?_
 intro W base args U Z k a D _ _ _ m Y _
 have b:∀ (j:Nat) t v,Tryz.f6.params[j]? = some t→args[j]? = some v→Value.okWide Tryz.prog W .any base t v:=a
 have r:=D
 obtain ⟨p,q,i,d,rfl,_,_⟩:=D
 have o:DataW.TrodAll enc Tryz.prog W 0 (fun _=>true) true Tryz.f6.params.toList args.toList U p:=i
 rw [Tryz.params6] at o b
 obtain ⟨J,w,rfl,rfl,y⟩:=trodAll_one o
 obtain ⟨rfl,rfl⟩:=trodVars_none d
 have n:=o.lt
 obtain ⟨z,G,u,V⟩:=ZgC (b 0 _ J rfl rfl) y
 clear i d a
 obtain ⟨f,g⟩:=Za4 m
 have N:=ZaP m
 have Q:=ZaM m
 have O:=ZaB Y
 have E:=Ev.QV (RY W N Q O g f 3000000 [] [] [] z true (Zaf 3000000 (by omega) z)) (Zcv u)
 refine E.mono ?_
 rintro e W' ⟨rfl,c⟩
 have l:(losAllSpec.at F).fn H ([w]++[])={ results:=[.lit (.bool true)],args:=[w] }:=rfl
 refine ⟨_,rfl,_,_,_,[],p,[],r,?_,?_,?_,c.frame _,fun h=>by cases h⟩
 ·rw [l];exact trodAll_mk1 (shut_bool Tryz.underlying4 _)
 ·rw [l];exact trodAll_mk1 (Below.trod (by kernel_rfl) (by kernel_rfl) (of_decide_eq_true (by kernel_rfl)) y c (fun x K=>n x (by exact K)))
 ·rw [l];rfl
end Go.Proofs.YtmcnjijeocmkgaaGreatDoor
