/-
  Part 13 of the proof: rules and walks that the claim's last text uses.
-/
import Derived.Test.YtbfenpeblbonlaaGreatDoorCb1
import Derived.Test.YtbfenpeblbonlaaGreatDoorCb2
import Derived.Test.YtbfenpeblbonlaaGreatDoorCb3
import Derived.Test.YtbfenpeblbonlaaGreatDoorCb4
import Derived.Test.YtbfenpeblbonlaaGreatDoorCb5
import Derived.Test.YtbfenpeblbonlaaGreatDoorCb6
import Derived.Test.YtbfenpeblbonlaaGreatDoorCb7
import Derived.Test.YtbfenpeblbonlaaGreatDoorCb8
import Derived.Test.YtbfenpeblbonlaaGreatDoorCb9
import Derived.Test.YtbfenpeblbonlaaGreatDoorCb10
import Derived.Test.YtbfenpeblbonlaaGreatDoorCb11
import Derived.Test.YtbfenpeblbonlaaGreatDoorCp1
set_option linter.unusedSimpArgs false
set_option linter.unusedVariables false
set_option maxRecDepth 100000
set_option maxHeartbeats 4000000
namespace Go.Proofs.YtbfenpeblbonlaaGreatDoor
open Go Go.Shelf Go.ChangeShapes Go.WideShapes Go.ChangeAt Go.RowKit Go.Lib Go.Ev
abbrev corApartSpec:OpenSpec:=OpenSpec.ofChange Rows.correlatorApartSpec
theorem ZkM (os:Os) {H:Type} (enc:TypeId × Value->H) :
  corApartSpec.preRow enc Tryz.prog Tryz.f6 Rows.correlatorApartRow.domain false Rows.correlatorApartRow.laid ((TA os).forCall (fun _ _=>0) ⟨#[],#[Value.agg #[Value.int .u8 0,Value.int .u8 0,Value.int .u8 0,Value.int .u8 0],Value.slice none 0 0,Value.slice none 0 0],[]⟩).memory #[Value.agg #[Value.int .u8 0,Value.int .u8 0,Value.int .u8 0,Value.int .u8 0],Value.slice none 0 0,Value.slice none 0 0]:=by
 have b:(DataW.whole enc Tryz.prog ((TA os).forCall (fun _ _=>0) ⟨#[],#[Value.agg #[Value.int .u8 0,Value.int .u8 0,Value.int .u8 0,Value.int .u8 0],Value.slice none 0 0,Value.slice none 0 0],[]⟩).memory Tryz.f6.params.toList corApartSpec.vars false (#[Value.agg #[Value.int .u8 0,Value.int .u8 0,Value.int .u8 0,Value.int .u8 0],Value.slice none 0 0,Value.slice none 0 0]).toList 8).map (fun x=>(x.1,x.2.1)) =
   some ([.agg [.lit (.int .u8 0),.lit (.int .u8 0),.lit (.int .u8 0),.lit (.int .u8 0)],.nil,.nil],[]):=by kernel_rfl
 obtain ⟨⟨e,f,d⟩,c,a⟩:=Option.map_eq_some_iff.1 b
 simp only [Prod.mk.injEq] at a
 obtain ⟨rfl,rfl⟩:=a
 exact OpenSpec.preRow_of_cond 8 c (by kernel_rfl) (fun k hk=>by cases hk) (by kernel_rfl) (Yq os _)
theorem Zmr (os:Os) (started:os.Started) (H:Type) (enc:TypeId × Value->H) (F:Stop.Interp) :
  ReturnsInHanded {} Tryz.checked os 6 .any (corApartSpec.preRow enc Tryz.prog Tryz.f6 Rows.correlatorApartRow.domain false Rows.correlatorApartRow.laid) ((corApartSpec.at F).post enc Tryz.prog Tryz.f6 false true false false):=by
 refine returnsInHanded_of_row (C:=Tryz.checked) (s:=corApartSpec) Zgx started (by kernel_rfl) Tryz.func6
  (witness_row_atRef (enc:=enc) (C:=Tryz.checked) false (TA os) #[Value.agg #[Value.int .u8 0,Value.int .u8 0,Value.int .u8 0,Value.int .u8 0],Value.slice none 0 0,Value.slice none 0 0] rfl (by kernel_rfl) (by kernel_rfl) (by kernel_rfl) (ZkM os enc)) ?_
 intro W base args ds gs m b V _ _ _ N hS _
 have a:∀ (j:Nat) t v,Tryz.f6.params[j]? = some t->args[j]? = some v->Value.okWide Tryz.prog W .any base t v:=b
 have E:=V
 obtain ⟨p,q,g,k,rfl,_,_⟩:=V
 have z:DataW.TrodAll enc Tryz.prog W 0 (fun _=>true) true Tryz.f6.params.toList args.toList ds p:=g
 rw [Tryz.params6] at z a
 obtain ⟨v0,v1,v2,Q,K,Z,p0,p1,p2,rfl,rfl,rfl,J,h1,Y⟩:=trodAll_three z
 obtain ⟨rfl,rfl⟩:=trodVars_none k
 have d:=z.lt
 obtain ⟨G,u,w⟩:=ZiX (a 0 _ v0 rfl rfl) J
 obtain ⟨O,n,y⟩:=Zjz (a 1 _ v1 rfl rfl) h1
 obtain ⟨U,D,r⟩:=Zjz (a 2 _ v2 rfl rfl) Y
 clear g k b
 obtain ⟨f,l⟩:=Zhq N
 have hE:=Zhw N
 have hM:=ZgW hS
 have hc:=Ev.Tt (ZiK W hE hM l f 100000 [] [] [] G O U true (Zn3 100000 (by omega) G O U u n D)) (ZnX w y r)
 refine hc.mono ?_
 rintro e W' ⟨rfl,c⟩
 have o:(corApartSpec.at F).fn H ([Q,K,Z]++[])={ results:=[.lit (.bool true)],args:=[Q,K,Z] }:=rfl
 refine ⟨_,rfl,_,_,_,[],(p0++(p1++p2)),[],E,?_,?_,?_,c.frame _,fun h=>by cases h⟩
 ·rw [o];exact trodAll_mk1 (shut_bool Tryz.underlying4 _)
 ·rw [o];exact trodAll_mk3 (Below.trod (by kernel_rfl) (by kernel_rfl) (of_decide_eq_true (by kernel_rfl)) J c (fun x i=>d x (by simp only [List.mem_append];exact Or.inl (Or.inl i)))) (Below.trod (by kernel_rfl) (by kernel_rfl) (of_decide_eq_true (by kernel_rfl)) h1 c (fun x i=>d x (by simp only [List.mem_append];exact Or.inl (Or.inr i)))) (Below.trod (by kernel_rfl) (by kernel_rfl) (of_decide_eq_true (by kernel_rfl)) Y c (fun x i=>d x (by simp only [List.mem_append];exact Or.inr i)))
 ·rw [o];rfl
end Go.Proofs.YtbfenpeblbonlaaGreatDoor
