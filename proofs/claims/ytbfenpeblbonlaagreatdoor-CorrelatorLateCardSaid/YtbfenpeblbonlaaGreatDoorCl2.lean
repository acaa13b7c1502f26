/-
  Part 13 of the proof: rules and walks that the claim's last text uses.
-/
import Derived.Test.YtbfenpeblbonlaaGreatDoorCb1
import Derived.Test.YtbfenpeblbonlaaGreatDoorCb2
import Derived.Test.YtbfenpeblbonlaaGreatDoorCb3
import Derived.Test.YtbfenpeblbonlaaGreatDoorCb4
import Derived.Test.YtbfenpeblbonlaaGreatDoorCb5
import Derived.Test.YtbfenpeblbonlaaGreatDoorCb6
import Derived.Test.YtbfenpeblbonlaaGreatDoorCb7
import Derived.Test.YtbfenpeblbonlaaGreatDoorCb8
import Derived.Test.YtbfenpeblbonlaaGreatDoorCb9
import Derived.Test.YtbfenpeblbonlaaGreatDoorCb10
import Derived.Test.YtbfenpeblbonlaaGreatDoorCb11
import Derived.Test.YtbfenpeblbonlaaGreatDoorCl1
set_option linter.unusedSimpArgs false
set_option linter.unusedVariables false
set_option maxRecDepth 100000
set_option maxHeartbeats 4000000
namespace Go.Proofs.YtbfenpeblbonlaaGreatDoor
open Go Go.Shelf Go.ChangeShapes Go.WideShapes Go.ChangeAt Go.RowKit Go.Lib Go.Ev
abbrev corLateSpec:OpenSpec:=OpenSpec.ofChange Rows.correlatorLateSpec
theorem Zl0 (os:Os) {H:Type} (enc:TypeId × Value->H) :
  corLateSpec.preRow enc Tryz.prog Tryz.f8 Rows.correlatorLateRow.domain false Rows.correlatorLateRow.laid ((TA os).forCall (fun _ _=>0) ⟨#[],#[Value.agg #[Value.int .u8 0,Value.int .u8 0,Value.int .u8 0,Value.int .u8 0],Value.slice none 0 0,Value.agg #[Value.int .u8 0,Value.int .u8 0,Value.int .u8 0,Value.int .u8 0]],[]⟩).memory #[Value.agg #[Value.int .u8 0,Value.int .u8 0,Value.int .u8 0,Value.int .u8 0],Value.slice none 0 0,Value.agg #[Value.int .u8 0,Value.int .u8 0,Value.int .u8 0,Value.int .u8 0]]:=by
 have c:(DataW.whole enc Tryz.prog ((TA os).forCall (fun _ _=>0) ⟨#[],#[Value.agg #[Value.int .u8 0,Value.int .u8 0,Value.int .u8 0,Value.int .u8 0],Value.slice none 0 0,Value.agg #[Value.int .u8 0,Value.int .u8 0,Value.int .u8 0,Value.int .u8 0]],[]⟩).memory Tryz.f8.params.toList corLateSpec.vars false (#[Value.agg #[Value.int .u8 0,Value.int .u8 0,Value.int .u8 0,Value.int .u8 0],Value.slice none 0 0,Value.agg #[Value.int .u8 0,Value.int .u8 0,Value.int .u8 0,Value.int .u8 0]]).toList 8).map (fun x=>(x.1,x.2.1)) =
   some ([.agg [.lit (.int .u8 0),.lit (.int .u8 0),.lit (.int .u8 0),.lit (.int .u8 0)],.nil,.agg [.lit (.int .u8 0),.lit (.int .u8 0),.lit (.int .u8 0),.lit (.int .u8 0)]],[]):=by kernel_rfl
 obtain ⟨⟨f,d,e⟩,b,a⟩:=Option.map_eq_some_iff.1 c
 simp only [Prod.mk.injEq] at a
 obtain ⟨rfl,rfl⟩:=a
 exact OpenSpec.preRow_of_cond 8 b (by kernel_rfl) (fun k hk=>by cases hk) (by kernel_rfl) (Yq os _)
theorem Zmr (os:Os) (started:os.Started) (H:Type) (enc:TypeId × Value->H) (F:Stop.Interp) :
  ReturnsInHanded {} Tryz.checked os 8 .any (corLateSpec.preRow enc Tryz.prog Tryz.f8 Rows.correlatorLateRow.domain false Rows.correlatorLateRow.laid) ((corLateSpec.at F).post enc Tryz.prog Tryz.f8 false true false false):=by
 refine returnsInHanded_of_row (C:=Tryz.checked) (s:=corLateSpec) Zgx started (by kernel_rfl) Tryz.func8
  (witness_row_atRef (enc:=enc) (C:=Tryz.checked) false (TA os) #[Value.agg #[Value.int .u8 0,Value.int .u8 0,Value.int .u8 0,Value.int .u8 0],Value.slice none 0 0,Value.agg #[Value.int .u8 0,Value.int .u8 0,Value.int .u8 0,Value.int .u8 0]] rfl (by kernel_rfl) (by kernel_rfl) (by kernel_rfl) (Zl0 os enc)) ?_
 intro W base args ds gs m b J _ _ _ O hS _
 have a:∀ (j:Nat) t v,Tryz.f8.params[j]? = some t->args[j]? = some v->Value.okWide Tryz.prog W .any base t v:=b
 have D:=J
 obtain ⟨p,q,l,f,rfl,_,_⟩:=J
 have w:DataW.TrodAll enc Tryz.prog W 0 (fun _=>true) true Tryz.f8.params.toList args.toList ds p:=l
 rw [Tryz.params8] at w a
 obtain ⟨v0,v1,v2,G,d1,K,p0,p1,p2,rfl,rfl,rfl,V,U,Y⟩:=trodAll_three w
 obtain ⟨rfl,rfl⟩:=trodVars_none f
 have d:=w.lt
 obtain ⟨Q,r,o⟩:=ZiX (a 0 _ v0 rfl rfl) V
 obtain ⟨Z,u,E⟩:=Zjz (a 1 _ v1 rfl rfl) U
 obtain ⟨N,y,z⟩:=Zoe (a 2 _ v2 rfl rfl) Y
 clear l f b
 obtain ⟨i,g⟩:=Zhq O
 have hE:=Zhw O
 have hM:=ZgW hS
 have hc:=Ev.Tt (Zgj W hE hM g i 100000 [] [] [] Q Z N true (Zn3 100000 (by omega) Q Z N r u y)) (ZnR o E z)
 refine hc.mono ?_
 rintro e W' ⟨rfl,c⟩
 have n:(corLateSpec.at F).fn H ([G,d1,K]++[])={ results:=[.lit (.bool true)],args:=[G,d1,K] }:=rfl
 refine ⟨_,rfl,_,_,_,[],(p0++(p1++p2)),[],D,?_,?_,?_,c.frame _,fun h=>by cases h⟩
 ·rw [n];exact trodAll_mk1 (shut_bool Tryz.underlying4 _)
 ·rw [n];exact trodAll_mk3 (Below.trod (by kernel_rfl) (by kernel_rfl) (of_decide_eq_true (by kernel_rfl)) V c (fun x k=>d x (by simp only [List.mem_append];exact Or.inl (Or.inl k)))) (Below.trod (by kernel_rfl) (by kernel_rfl) (of_decide_eq_true (by kernel_rfl)) U c (fun x k=>d x (by simp only [List.mem_append];exact Or.inl (Or.inr k)))) (Below.trod (by kernel_rfl) (by kernel_rfl) (of_decide_eq_true (by kernel_rfl)) Y c (fun x k=>d x (by simp only [List.mem_append];exact Or.inr k)))
 ·rw [n];rfl
end Go.Proofs.YtbfenpeblbonlaaGreatDoor
