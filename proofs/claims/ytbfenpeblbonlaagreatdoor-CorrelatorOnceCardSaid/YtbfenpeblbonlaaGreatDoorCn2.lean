/-
  Part 13 of the proof: rules and walks that the claim's last text uses.
-/
import Derived.Test.YtbfenpeblbonlaaGreatDoorCb1
import Derived.Test.YtbfenpeblbonlaaGreatDoorCb2
import Derived.Test.YtbfenpeblbonlaaGreatDoorCb3
import Derived.Test.YtbfenpeblbonlaaGreatDoorCb4
import Derived.Test.YtbfenpeblbonlaaGreatDoorCb5
import Derived.Test.YtbfenpeblbonlaaGreatDoorCb6
import Derived.Test.YtbfenpeblbonlaaGreatDoorCb7
import Derived.Test.YtbfenpeblbonlaaGreatDoorCb8
import Derived.Test.YtbfenpeblbonlaaGreatDoorCb9
import Derived.Test.YtbfenpeblbonlaaGreatDoorCb10
import Derived.Test.YtbfenpeblbonlaaGreatDoorCb11
import Derived.Test.YtbfenpeblbonlaaGreatDoorCn1
set_option linter.unusedSimpArgs false
set_option linter.unusedVariables false
set_option maxRecDepth 100000
set_option maxHeartbeats 4000000
namespace Go.Proofs.YtbfenpeblbonlaaGreatDoor
open Go Go.Shelf Go.ChangeShapes Go.WideShapes Go.ChangeAt Go.RowKit Go.Lib Go.Ev
abbrev corOnceSpec:OpenSpec:=OpenSpec.ofChange Rows.correlatorOnceSpec
theorem ZnW (os:Os) {H:Type} (enc:TypeId × Value->H) :
  corOnceSpec.preRow enc Tryz.prog Tryz.f4 Rows.correlatorOnceRow.domain false Rows.correlatorOnceRow.laid ((TA os).forCall (fun _ _=>0) ⟨#[],#[Value.agg #[Value.int .u8 0,Value.int .u8 0,Value.int .u8 0,Value.int .u8 0],Value.slice none 0 0],[]⟩).memory #[Value.agg #[Value.int .u8 0,Value.int .u8 0,Value.int .u8 0,Value.int .u8 0],Value.slice none 0 0]:=by
 have b:(DataW.whole enc Tryz.prog ((TA os).forCall (fun _ _=>0) ⟨#[],#[Value.agg #[Value.int .u8 0,Value.int .u8 0,Value.int .u8 0,Value.int .u8 0],Value.slice none 0 0],[]⟩).memory Tryz.f4.params.toList corOnceSpec.vars false (#[Value.agg #[Value.int .u8 0,Value.int .u8 0,Value.int .u8 0,Value.int .u8 0],Value.slice none 0 0]).toList 8).map (fun x=>(x.1,x.2.1)) =
   some ([.agg [.lit (.int .u8 0),.lit (.int .u8 0),.lit (.int .u8 0),.lit (.int .u8 0)],.nil],[]):=by kernel_rfl
 obtain ⟨⟨d,f,e⟩,c,a⟩:=Option.map_eq_some_iff.1 b
 simp only [Prod.mk.injEq] at a
 obtain ⟨rfl,rfl⟩:=a
 exact OpenSpec.preRow_of_cond 8 c (by kernel_rfl) (fun k hk=>by cases hk) (by kernel_rfl) (Yq os _)
theorem ZnY (os:Os) (started:os.Started) (H:Type) (enc:TypeId × Value->H) (F:Stop.Interp) :
  ReturnsInHanded {} Tryz.checked os 4 .any (corOnceSpec.preRow enc Tryz.prog Tryz.f4 Rows.correlatorOnceRow.domain false Rows.correlatorOnceRow.laid) ((corOnceSpec.at F).post enc Tryz.prog Tryz.f4 false true false false):=by
 refine returnsInHanded_of_row (C:=Tryz.checked) (s:=corOnceSpec) Zgx started (by kernel_rfl) Tryz.func4
  (witness_row_atRef (enc:=enc) (C:=Tryz.checked) false (TA os) #[Value.agg #[Value.int .u8 0,Value.int .u8 0,Value.int .u8 0,Value.int .u8 0],Value.slice none 0 0] rfl (by kernel_rfl) (by kernel_rfl) (by kernel_rfl) (ZnW os enc)) ?_
 intro W base args ds gs l a J _ _ _ Q U _
 have b:∀ (j:Nat) t v,Tryz.f4.params[j]? = some t->args[j]? = some v->Value.okWide Tryz.prog W .any base t v:=a
 have r:=J
 obtain ⟨p,q,d,k,rfl,_,_⟩:=J
 have n:DataW.TrodAll enc Tryz.prog W 0 (fun _=>true) true Tryz.f4.params.toList args.toList ds p:=d
 rw [Tryz.params4] at n b
 obtain ⟨Z,v1,G,N,p0,p1,rfl,rfl,rfl,E,D⟩:=trodAll_two n
 obtain ⟨rfl,rfl⟩:=trodVars_none k
 have f:=n.lt
 obtain ⟨O,y,o⟩:=ZiX (b 0 _ Z rfl rfl) E
 obtain ⟨K,w,m⟩:=Zjz (b 1 _ v1 rfl rfl) D
 clear d k a
 obtain ⟨i,g⟩:=Zhq Q
 have hE:=Zhw Q
 have Y:=ZgW U
 have V:=Ev.Tt (ZnP W hE Y g i 100000 [] [] [] O K true (Zoy 100000 (by omega) O K y w)) (Zeu o m)
 refine V.mono ?_
 rintro e W' ⟨rfl,c⟩
 have u:(corOnceSpec.at F).fn H ([G,N]++[])={ results:=[.lit (.bool true)],args:=[G,N] }:=rfl
 refine ⟨_,rfl,_,_,_,[],(p0++p1),[],r,?_,?_,?_,c.frame _,fun h=>by cases h⟩
 ·rw [u];exact trodAll_mk1 (shut_bool Tryz.underlying4 _)
 ·rw [u];exact trodAll_mk2 (Below.trod (by kernel_rfl) (by kernel_rfl) (of_decide_eq_true (by kernel_rfl)) E c (fun x z=>f x (by simp only [List.mem_append];exact Or.inl z))) (Below.trod (by kernel_rfl) (by kernel_rfl) (of_decide_eq_true (by kernel_rfl)) D c (fun x z=>f x (by simp only [List.mem_append];exact Or.inr z)))
 ·rw [u];rfl
end Go.Proofs.YtbfenpeblbonlaaGreatDoor
