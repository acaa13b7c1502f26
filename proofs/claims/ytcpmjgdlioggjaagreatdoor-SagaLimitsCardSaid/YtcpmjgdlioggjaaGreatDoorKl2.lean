/-
  Part 10 of the proof: rules and walks that the claim's last text uses.
-/
import Derived.Test.YtcpmjgdlioggjaaGreatDoorKb1
import Derived.Test.YtcpmjgdlioggjaaGreatDoorKb2
import Derived.Test.YtcpmjgdlioggjaaGreatDoorKb3
import Derived.Test.YtcpmjgdlioggjaaGreatDoorKb4
import Derived.Test.YtcpmjgdlioggjaaGreatDoorKb5
import Derived.Test.YtcpmjgdlioggjaaGreatDoorKb6
import Derived.Test.YtcpmjgdlioggjaaGreatDoorKb7
import Derived.Test.YtcpmjgdlioggjaaGreatDoorKb8
import Derived.Test.YtcpmjgdlioggjaaGreatDoorKl1
set_option linter.unusedSimpArgs false
set_option linter.unusedVariables false
set_option maxRecDepth 100000
set_option maxHeartbeats 4000000
namespace Go.Proofs.YtcpmjgdlioggjaaGreatDoor
open Go Go.Shelf Go.ChangeShapes Go.WideShapes Go.ChangeAt Go.RowKit Go.Lib Go.Ev
abbrev sagLimitsSpec:OpenSpec:=OpenSpec.ofChange Rows.sagaLimitsSpec
theorem PW (os:Os) {H:Type} (enc:TypeId × Value->H) :
  sagLimitsSpec.preRow enc Tryz.prog Tryz.f4 Rows.sagaLimitsRow.domain false Rows.sagaLimitsRow.laid ((RU os).forCall (fun _ _=>0) ⟨#[],#[Value.int .u8 0,Value.int .u8 0,Value.int .u8 0],[]⟩).memory #[Value.int .u8 0,Value.int .u8 0,Value.int .u8 0]:=by
 have b:(DataW.whole enc Tryz.prog ((RU os).forCall (fun _ _=>0) ⟨#[],#[Value.int .u8 0,Value.int .u8 0,Value.int .u8 0],[]⟩).memory Tryz.f4.params.toList sagLimitsSpec.vars false (#[Value.int .u8 0,Value.int .u8 0,Value.int .u8 0]).toList 8).map (fun x=>(x.1,x.2.1)) =
   some ([.lit (.int .u8 0),.lit (.int .u8 0),.lit (.int .u8 0)],[]):=by kernel_rfl
 obtain ⟨⟨d,f,e⟩,c,a⟩:=Option.map_eq_some_iff.1 b
 simp only [Prod.mk.injEq] at a
 obtain ⟨rfl,rfl⟩:=a
 exact OpenSpec.preRow_of_cond 8 c (by kernel_rfl) (fun k hk=>by cases hk) (by kernel_rfl) (Xn os _)
theorem Ql (os:Os) (started:os.Started) (H:Type) (enc:TypeId × Value->H) (F:Stop.Interp) :
  ReturnsInHanded {} Tryz.checked os 4 .any (sagLimitsSpec.preRow enc Tryz.prog Tryz.f4 Rows.sagaLimitsRow.domain false Rows.sagaLimitsRow.laid) ((sagLimitsSpec.at F).post enc Tryz.prog Tryz.f4 false true false false):=by
 refine returnsInHanded_of_row (C:=Tryz.checked) (s:=sagLimitsSpec) ZeZ started (by kernel_rfl) Tryz.func4
  (witness_row_atRef (enc:=enc) (C:=Tryz.checked) false (RU os) #[Value.int .u8 0,Value.int .u8 0,Value.int .u8 0] rfl (by kernel_rfl) (by kernel_rfl) (by kernel_rfl) (PW os enc)) ?_
 intro W base args ds gs m b K _ _ _ Q hS _
 have a:∀ (j:Nat) t v,Tryz.f4.params[j]? = some t->args[j]? = some v->Value.okWide Tryz.prog W .any base t v:=b
 have E:=K
 obtain ⟨p,q,k,g,rfl,_,_⟩:=K
 have D:DataW.TrodAll enc Tryz.prog W 0 (fun _=>true) true Tryz.f4.params.toList args.toList ds p:=k
 rw [Tryz.params4] at D a
 obtain ⟨v0,v1,v2,N,Y,U,p0,p1,p2,rfl,rfl,rfl,Z,J,G⟩:=trodAll_three D
 obtain ⟨rfl,rfl⟩:=trodVars_none g
 have d:=D.lt
 obtain ⟨O,z,o⟩:=X0 (a 0 _ v0 rfl rfl) Z
 obtain ⟨x1,r,u⟩:=X0 (a 1 _ v1 rfl rfl) J
 obtain ⟨V,y,w⟩:=X0 (a 2 _ v2 rfl rfl) G
 clear k g b
 obtain ⟨f,i⟩:=ZeW Q
 have hE:=ZeL Q
 have hM:=Ze8 hS
 have hc:=Ev.RI (Qe W hE hM i f 100000 [] [] [] O x1 V true (XS 100000 (by omega) O x1 V z r y)) (YK o u w)
 refine hc.mono ?_
 rintro e W' ⟨rfl,c⟩
 have n:(sagLimitsSpec.at F).fn H ([N,Y,U]++[])={ results:=[.lit (.bool true)],args:=[N,Y,U] }:=rfl
 refine ⟨_,rfl,_,_,_,[],(p0++(p1++p2)),[],E,?_,?_,?_,c.frame _,fun h=>by cases h⟩
 ·rw [n];exact trodAll_mk1 (shut_bool Tryz.underlying4 _)
 ·rw [n];exact trodAll_mk3 (Below.trod (by kernel_rfl) (by kernel_rfl) (of_decide_eq_true (by kernel_rfl)) Z c (fun x l=>d x (by simp only [List.mem_append];exact Or.inl (Or.inl l)))) (Below.trod (by kernel_rfl) (by kernel_rfl) (of_decide_eq_true (by kernel_rfl)) J c (fun x l=>d x (by simp only [List.mem_append];exact Or.inl (Or.inr l)))) (Below.trod (by kernel_rfl) (by kernel_rfl) (of_decide_eq_true (by kernel_rfl)) G c (fun x l=>d x (by simp only [List.mem_append];exact Or.inr l)))
 ·rw [n];rfl
end Go.Proofs.YtcpmjgdlioggjaaGreatDoor
