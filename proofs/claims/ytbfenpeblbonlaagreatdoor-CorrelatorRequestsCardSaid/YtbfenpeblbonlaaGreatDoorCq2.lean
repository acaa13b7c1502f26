/-
  Part 13 of the proof: rules and walks that the claim's last text uses.
-/
import Derived.Test.YtbfenpeblbonlaaGreatDoorCb1
import Derived.Test.YtbfenpeblbonlaaGreatDoorCb2
import Derived.Test.YtbfenpeblbonlaaGreatDoorCb3
import Derived.Test.YtbfenpeblbonlaaGreatDoorCb4
import Derived.Test.YtbfenpeblbonlaaGreatDoorCb5
import Derived.Test.YtbfenpeblbonlaaGreatDoorCb6
import Derived.Test.YtbfenpeblbonlaaGreatDoorCb7
import Derived.Test.YtbfenpeblbonlaaGreatDoorCb8
import Derived.Test.YtbfenpeblbonlaaGreatDoorCb9
import Derived.Test.YtbfenpeblbonlaaGreatDoorCb10
import Derived.Test.YtbfenpeblbonlaaGreatDoorCb11
import Derived.Test.YtbfenpeblbonlaaGreatDoorCq1
set_option linter.unusedSimpArgs false
set_option linter.unusedVariables false
set_option maxRecDepth 100000
set_option maxHeartbeats 4000000
namespace Go.Proofs.YtbfenpeblbonlaaGreatDoor
open Go Go.Shelf Go.ChangeShapes Go.WideShapes Go.ChangeAt Go.RowKit Go.Lib Go.Ev
abbrev corRequestsSpec:OpenSpec:=OpenSpec.ofChange Rows.correlatorRequestsSpec
theorem Zgb (os:Os) {H:Type} (enc:TypeId × Value->H) :
  corRequestsSpec.preRow enc Tryz.prog Tryz.f3 Rows.correlatorRequestsRow.domain false Rows.correlatorRequestsRow.laid ((TA os).forCall (fun _ _=>0) ⟨#[],#[Value.agg #[Value.int .u8 0,Value.int .u8 0,Value.int .u8 0,Value.int .u8 0],Value.slice none 0 0],[]⟩).memory #[Value.agg #[Value.int .u8 0,Value.int .u8 0,Value.int .u8 0,Value.int .u8 0],Value.slice none 0 0]:=by
 have b:(DataW.whole enc Tryz.prog ((TA os).forCall (fun _ _=>0) ⟨#[],#[Value.agg #[Value.int .u8 0,Value.int .u8 0,Value.int .u8 0,Value.int .u8 0],Value.slice none 0 0],[]⟩).memory Tryz.f3.params.toList corRequestsSpec.vars false (#[Value.agg #[Value.int .u8 0,Value.int .u8 0,Value.int .u8 0,Value.int .u8 0],Value.slice none 0 0]).toList 8).map (fun x=>(x.1,x.2.1)) =
   some ([.agg [.lit (.int .u8 0),.lit (.int .u8 0),.lit (.int .u8 0),.lit (.int .u8 0)],.nil],[]):=by kernel_rfl
 obtain ⟨⟨f,d,e⟩,c,a⟩:=Option.map_eq_some_iff.1 b
 simp only [Prod.mk.injEq] at a
 obtain ⟨rfl,rfl⟩:=a
 exact OpenSpec.preRow_of_cond 8 c (by kernel_rfl) (fun k hk=>by cases hk) (by kernel_rfl) (Yq os _)
theorem Zgj (os:Os) (started:os.Started) (H:Type) (enc:TypeId × Value->H) (F:Stop.Interp) :
  ReturnsInHanded {} Tryz.checked os 3 .any (corRequestsSpec.preRow enc Tryz.prog Tryz.f3 Rows.correlatorRequestsRow.domain false Rows.correlatorRequestsRow.laid) ((corRequestsSpec.at F).post enc Tryz.prog Tryz.f3 false true false false):=by
 refine returnsInHanded_of_row (C:=Tryz.checked) (s:=corRequestsSpec) Zgx started (by kernel_rfl) Tryz.func3
  (witness_row_atRef (enc:=enc) (C:=Tryz.checked) false (TA os) #[Value.agg #[Value.int .u8 0,Value.int .u8 0,Value.int .u8 0,Value.int .u8 0],Value.slice none 0 0] rfl (by kernel_rfl) (by kernel_rfl) (by kernel_rfl) (Zgb os enc)) ?_
 intro W base args ds gs l b N _ _ _ D U _
 have a:∀ (j:Nat) t v,Tryz.f3.params[j]? = some t->args[j]? = some v->Value.okWide Tryz.prog W .any base t v:=b
 have u:=N
 obtain ⟨p,q,g,k,rfl,_,_⟩:=N
 have n:DataW.TrodAll enc Tryz.prog W 0 (fun _=>true) true Tryz.f3.params.toList args.toList ds p:=g
 rw [Tryz.params3] at n a
 obtain ⟨Z,v1,E,K,V,p1,rfl,rfl,rfl,J,Q⟩:=trodAll_two n
 obtain ⟨rfl,rfl⟩:=trodVars_none k
 have f:=n.lt
 obtain ⟨O,o,y⟩:=ZiX (a 0 _ Z rfl rfl) J
 obtain ⟨G,r,z⟩:=Zjz (a 1 _ v1 rfl rfl) Q
 clear g k b
 obtain ⟨d,i⟩:=Zhq D
 have Y:=Zhw D
 have hM:=ZgW U
 have hc:=Ev.Tt (Zfi W Y hM i d 100000 [] [] [] O G true (Zny 100000 (by omega) O G o r)) (Zeu y z)
 refine hc.mono ?_
 rintro e W' ⟨rfl,c⟩
 have m:(corRequestsSpec.at F).fn H ([E,K]++[])={ results:=[.lit (.bool true)],args:=[E,K] }:=rfl
 refine ⟨_,rfl,_,_,_,[],(V++p1),[],u,?_,?_,?_,c.frame _,fun h=>by cases h⟩
 ·rw [m];exact trodAll_mk1 (shut_bool Tryz.underlying4 _)
 ·rw [m];exact trodAll_mk2 (Below.trod (by kernel_rfl) (by kernel_rfl) (of_decide_eq_true (by kernel_rfl)) J c (fun x w=>f x (by simp only [List.mem_append];exact Or.inl w))) (Below.trod (by kernel_rfl) (by kernel_rfl) (of_decide_eq_true (by kernel_rfl)) Q c (fun x w=>f x (by simp only [List.mem_append];exact Or.inr w)))
 ·rw [m];rfl
end Go.Proofs.YtbfenpeblbonlaaGreatDoor
