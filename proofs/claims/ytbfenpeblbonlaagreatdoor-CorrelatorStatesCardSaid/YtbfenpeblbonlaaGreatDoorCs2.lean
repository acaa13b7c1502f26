/-
  Part 13 of the proof: rules and walks that the claim's last text uses.
-/
import Derived.Test.YtbfenpeblbonlaaGreatDoorCb1
import Derived.Test.YtbfenpeblbonlaaGreatDoorCb2
import Derived.Test.YtbfenpeblbonlaaGreatDoorCb3
import Derived.Test.YtbfenpeblbonlaaGreatDoorCb4
import Derived.Test.YtbfenpeblbonlaaGreatDoorCb5
import Derived.Test.YtbfenpeblbonlaaGreatDoorCb6
import Derived.Test.YtbfenpeblbonlaaGreatDoorCb7
import Derived.Test.YtbfenpeblbonlaaGreatDoorCb8
import Derived.Test.YtbfenpeblbonlaaGreatDoorCb9
import Derived.Test.YtbfenpeblbonlaaGreatDoorCb10
import Derived.Test.YtbfenpeblbonlaaGreatDoorCb11
import Derived.Test.YtbfenpeblbonlaaGreatDoorCs1
set_option linter.unusedSimpArgs false
set_option linter.unusedVariables false
set_option maxRecDepth 100000
set_option maxHeartbeats 4000000
namespace Go.Proofs.YtbfenpeblbonlaaGreatDoor
open Go Go.Shelf Go.ChangeShapes Go.WideShapes Go.ChangeAt Go.RowKit Go.Lib Go.Ev
abbrev corStatesSpec:OpenSpec:=OpenSpec.ofChange Rows.correlatorStatesSpec
theorem Zoq (os:Os) {H:Type} (enc:TypeId × Value->H) :
  corStatesSpec.preRow enc Tryz.prog Tryz.f9 Rows.correlatorStatesRow.domain false Rows.correlatorStatesRow.laid ((TA os).forCall (fun _ _=>0) ⟨#[],#[Value.agg #[Value.int .u8 0,Value.int .u8 0,Value.int .u8 0,Value.int .u8 0],Value.slice none 0 0],[]⟩).memory #[Value.agg #[Value.int .u8 0,Value.int .u8 0,Value.int .u8 0,Value.int .u8 0],Value.slice none 0 0]:=by
 have b:(DataW.whole enc Tryz.prog ((TA os).forCall (fun _ _=>0) ⟨#[],#[Value.agg #[Value.int .u8 0,Value.int .u8 0,Value.int .u8 0,Value.int .u8 0],Value.slice none 0 0],[]⟩).memory Tryz.f9.params.toList corStatesSpec.vars false (#[Value.agg #[Value.int .u8 0,Value.int .u8 0,Value.int .u8 0,Value.int .u8 0],Value.slice none 0 0]).toList 8).map (fun x=>(x.1,x.2.1)) =
   some ([.agg [.lit (.int .u8 0),.lit (.int .u8 0),.lit (.int .u8 0),.lit (.int .u8 0)],.nil],[]):=by kernel_rfl
 obtain ⟨⟨e,d,f⟩,c,a⟩:=Option.map_eq_some_iff.1 b
 simp only [Prod.mk.injEq] at a
 obtain ⟨rfl,rfl⟩:=a
 exact OpenSpec.preRow_of_cond 8 c (by kernel_rfl) (fun k hk=>by cases hk) (by kernel_rfl) (Yq os _)
theorem Zow (os:Os) (started:os.Started) (H:Type) (enc:TypeId × Value->H) (F:Stop.Interp) :
  ReturnsInHanded {} Tryz.checked os 9 .any (corStatesSpec.preRow enc Tryz.prog Tryz.f9 Rows.correlatorStatesRow.domain false Rows.correlatorStatesRow.laid) ((corStatesSpec.at F).post enc Tryz.prog Tryz.f9 false true false false):=by
 refine returnsInHanded_of_row (C:=Tryz.checked) (s:=corStatesSpec) Zgx started (by kernel_rfl) Tryz.func9
  (witness_row_atRef (enc:=enc) (C:=Tryz.checked) false (TA os) #[Value.agg #[Value.int .u8 0,Value.int .u8 0,Value.int .u8 0,Value.int .u8 0],Value.slice none 0 0] rfl (by kernel_rfl) (by kernel_rfl) (by kernel_rfl) (Zoq os enc)) ?_
 intro W base args ds gs l b E _ _ _ K Z _
 have a:∀ (j:Nat) t v,Tryz.f9.params[j]? = some t->args[j]? = some v->Value.okWide Tryz.prog W .any base t v:=b
 have y:=E
 obtain ⟨p,q,f,g,rfl,_,_⟩:=E
 have u:DataW.TrodAll enc Tryz.prog W 0 (fun _=>true) true Tryz.f9.params.toList args.toList ds p:=f
 rw [Tryz.params9] at u a
 obtain ⟨V,v1,G,N,Y,p1,rfl,rfl,rfl,O,D⟩:=trodAll_two u
 obtain ⟨rfl,rfl⟩:=trodVars_none g
 have i:=u.lt
 obtain ⟨J,m,w⟩:=ZiX (a 0 _ V rfl rfl) O
 obtain ⟨Q,n,r⟩:=Zjz (a 1 _ v1 rfl rfl) D
 clear f g b
 obtain ⟨d,k⟩:=Zhq K
 have U:=Zhw K
 have hM:=ZgW Z
 have hc:=Ev.Tt (Zoh W U hM k d 100000 [] [] [] J Q true (ZoL 100000 (by omega) J Q m n)) (Zeu w r)
 refine hc.mono ?_
 rintro e W' ⟨rfl,c⟩
 have z:(corStatesSpec.at F).fn H ([G,N]++[])={ results:=[.lit (.bool true)],args:=[G,N] }:=rfl
 refine ⟨_,rfl,_,_,_,[],(Y++p1),[],y,?_,?_,?_,c.frame _,fun h=>by cases h⟩
 ·rw [z];exact trodAll_mk1 (shut_bool Tryz.underlying4 _)
 ·rw [z];exact trodAll_mk2 (Below.trod (by kernel_rfl) (by kernel_rfl) (of_decide_eq_true (by kernel_rfl)) O c (fun x o=>i x (by simp only [List.mem_append];exact Or.inl o))) (Below.trod (by kernel_rfl) (by kernel_rfl) (of_decide_eq_true (by kernel_rfl)) D c (fun x o=>i x (by simp only [List.mem_append];exact Or.inr o)))
 ·rw [z];rfl
end Go.Proofs.YtbfenpeblbonlaaGreatDoor
