/-
  Part 9 of the proof: rules and walks that the claim's last text uses.
-/
import Derived.Test.YtmcnjijeocmkgaaGreatDoorLh8
set_option linter.unusedSimpArgs false
set_option linter.unusedVariables false
set_option maxRecDepth 100000
set_option maxHeartbeats 4000000
namespace Go.Proofs.YtmcnjijeocmkgaaGreatDoor
open Go Go.Shelf Go.ChangeShapes Go.WideShapes Go.ChangeAt Go.RowKit Go.Lib Go.Ev
abbrev losChainsSpec:OpenSpec:=OpenSpec.ofChange Rows.lossChainsSpec
theorem Rr (os:Os) {H:Type} (enc:TypeId × Value→H) :
  losChainsSpec.preRow enc Tryz.prog Tryz.f7 Rows.lossChainsRow.domain false Rows.lossChainsRow.laid ((Pm os).forCall (fun _ _=>0) ⟨#[],#[Value.agg #[Value.slice none 0 0,Value.slice none 0 0]],[]⟩).memory #[Value.agg #[Value.slice none 0 0,Value.slice none 0 0]]:=by
 have c:(DataW.whole enc Tryz.prog ((Pm os).forCall (fun _ _=>0) ⟨#[],#[Value.agg #[Value.slice none 0 0,Value.slice none 0 0]],[]⟩).memory Tryz.f7.params.toList losChainsSpec.vars false (#[Value.agg #[Value.slice none 0 0,Value.slice none 0 0]]).toList 8).map (fun x=>(x.1,x.2.1)) =
   some ([.agg [.nil,.nil]],[]):=by kernel_rfl
 obtain ⟨⟨f,e,d⟩,b,a⟩:=Option.map_eq_some_iff.1 c
 simp only [Prod.mk.injEq] at a
 obtain ⟨rfl,rfl⟩:=a
 exact OpenSpec.preRow_of_cond 8 b (by kernel_rfl) (fun k hk=>by cases hk) (by kernel_rfl) (Wy os _)
theorem RZ (os:Os) (started:os.Started) (H:Type) (enc:TypeId × Value→H) (F:Stop.Interp) :
  ReturnsInHanded {} Tryz.checked os 7 .any (losChainsSpec.preRow enc Tryz.prog Tryz.f7 Rows.lossChainsRow.domain false Rows.lossChainsRow.laid) ((losChainsSpec.at F).post enc Tryz.prog Tryz.f7 false true false false):=by
 refine returnsInHanded_of_row (C:=Tryz.checked) (s:=losChainsSpec) ZhW started (by kernel_rfl) Tryz.func7
  (witness_row_atRef (enc:=enc) (C:=Tryz.checked) false (Pm os) #[Value.agg #[Value.slice none 0 0,Value.slice none 0 0]] rfl (by kernel_rfl) (by kernel_rfl) (by kernel_rfl) (Rr os enc)) ?_
 intro W base args V Y k a y _ _ _ m G _
 have b:∀ (j:Nat) t v,Tryz.f7.params[j]? = some t→args[j]? = some v→Value.okWide Tryz.prog W .any base t v:=a
 have n:=y
 obtain ⟨p,q,i,c,rfl,_,_⟩:=y
 have l:DataW.TrodAll enc Tryz.prog W 0 (fun _=>true) true Tryz.f7.params.toList args.toList V p:=i
 rw [Tryz.params7] at l b
 obtain ⟨Q,z,rfl,rfl,D⟩:=trodAll_one l
 obtain ⟨rfl,rfl⟩:=trodVars_none c
 have u:=l.lt
 obtain ⟨w,K,o⟩:=ZjY (b 0 _ Q rfl rfl) D
 clear i c a
 obtain ⟨g,f⟩:=Zc5 m
 have N:=ZcA m
 have U:=ZcM m
 have O:=Zc3 G
 have E:=Ev.T9 (Rx W N U O f g 3000000 [] [] [] w true (YE 3000000 (by omega) w)) (Ze6 o)
 refine E.mono ?_
 rintro e W' ⟨rfl,d⟩
 have r:(losChainsSpec.at F).fn H ([z]++[])={ results:=[.lit (.bool true)],args:=[z] }:=rfl
 refine ⟨_,rfl,_,_,_,[],p,[],n,?_,?_,?_,d.frame _,fun h=>by cases h⟩
 ·rw [r];exact trodAll_mk1 (shut_bool Tryz.underlying4 _)
 ·rw [r];exact trodAll_mk1 (Below.trod (by kernel_rfl) (by kernel_rfl) (of_decide_eq_true (by kernel_rfl)) D d (fun x J=>u x (by exact J)))
 ·rw [r];rfl
end Go.Proofs.YtmcnjijeocmkgaaGreatDoor
