/-
  Part 10 of the proof: rules and walks that the claim's last text uses.
-/
import Derived.Test.YtcpmjgdlioggjaaGreatDoorKb1
import Derived.Test.YtcpmjgdlioggjaaGreatDoorKb2
import Derived.Test.YtcpmjgdlioggjaaGreatDoorKb3
import Derived.Test.YtcpmjgdlioggjaaGreatDoorKb4
import Derived.Test.YtcpmjgdlioggjaaGreatDoorKb5
import Derived.Test.YtcpmjgdlioggjaaGreatDoorKb6
import Derived.Test.YtcpmjgdlioggjaaGreatDoorKb7
import Derived.Test.YtcpmjgdlioggjaaGreatDoorKb8
import Derived.Test.YtcpmjgdlioggjaaGreatDoorKa1
set_option linter.unusedSimpArgs false
set_option linter.unusedVariables false
set_option maxRecDepth 100000
set_option maxHeartbeats 4000000
namespace Go.Proofs.YtcpmjgdlioggjaaGreatDoor
open Go Go.Shelf Go.ChangeShapes Go.WideShapes Go.ChangeAt Go.RowKit Go.Lib Go.Ev
abbrev sagAtomicSpec:OpenSpec:=OpenSpec.ofChange Rows.sagaAtomicSpec
theorem ZlO (os:Os) {H:Type} (enc:TypeId × Value->H) :
  sagAtomicSpec.preRow enc Tryz.prog Tryz.f3 Rows.sagaAtomicRow.domain false Rows.sagaAtomicRow.laid ((RU os).forCall (fun _ _=>0) ⟨#[],#[Value.slice none 0 0,Value.int .u8 0,Value.int .u8 0],[]⟩).memory #[Value.slice none 0 0,Value.int .u8 0,Value.int .u8 0]:=by
 have c:(DataW.whole enc Tryz.prog ((RU os).forCall (fun _ _=>0) ⟨#[],#[Value.slice none 0 0,Value.int .u8 0,Value.int .u8 0],[]⟩).memory Tryz.f3.params.toList sagAtomicSpec.vars false (#[Value.slice none 0 0,Value.int .u8 0,Value.int .u8 0]).toList 8).map (fun x=>(x.1,x.2.1)) =
   some ([.nil,.lit (.int .u8 0),.lit (.int .u8 0)],[]):=by kernel_rfl
 obtain ⟨⟨f,d,e⟩,b,a⟩:=Option.map_eq_some_iff.1 c
 simp only [Prod.mk.injEq] at a
 obtain ⟨rfl,rfl⟩:=a
 exact OpenSpec.preRow_of_cond 8 b (by kernel_rfl) (fun k hk=>by cases hk) (by kernel_rfl) (Xn os _)
theorem ZlP (os:Os) (started:os.Started) (H:Type) (enc:TypeId × Value->H) (F:Stop.Interp) :
  ReturnsInHanded {} Tryz.checked os 3 .any (sagAtomicSpec.preRow enc Tryz.prog Tryz.f3 Rows.sagaAtomicRow.domain false Rows.sagaAtomicRow.laid) ((sagAtomicSpec.at F).post enc Tryz.prog Tryz.f3 false true false false):=by
 refine returnsInHanded_of_row (C:=Tryz.checked) (s:=sagAtomicSpec) ZeZ started (by kernel_rfl) Tryz.func3
  (witness_row_atRef (enc:=enc) (C:=Tryz.checked) false (RU os) #[Value.slice none 0 0,Value.int .u8 0,Value.int .u8 0] rfl (by kernel_rfl) (by kernel_rfl) (by kernel_rfl) (ZlO os enc)) ?_
 intro W base args ds gs m b O _ _ _ Z hS _
 have a:∀ (j:Nat) t v,Tryz.f3.params[j]? = some t->args[j]? = some v->Value.okWide Tryz.prog W .any base t v:=b
 have y:=O
 obtain ⟨p,q,l,i,rfl,_,_⟩:=O
 have r:DataW.TrodAll enc Tryz.prog W 0 (fun _=>true) true Tryz.f3.params.toList args.toList ds p:=l
 rw [Tryz.params3] at r a
 obtain ⟨v0,v1,v2,d0,Y,G,p0,p1,p2,rfl,rfl,rfl,Q,J,V⟩:=trodAll_three r
 obtain ⟨rfl,rfl⟩:=trodVars_none i
 have d:=r.lt
 obtain ⟨N,E,D⟩:=Znl (a 0 _ v0 rfl rfl) Q
 obtain ⟨K,n,u⟩:=X0 (a 1 _ v1 rfl rfl) J
 obtain ⟨U,o,z⟩:=X0 (a 2 _ v2 rfl rfl) V
 clear l i b
 obtain ⟨g,k⟩:=ZeW Z
 have hE:=ZeL Z
 have hM:=Ze8 hS
 have hc:=Ev.RI (ZlN W hE hM k g 100000 [] [] [] N K U true (Zmq 100000 (by omega) N K U E n o)) (YK D u z)
 refine hc.mono ?_
 rintro e W' ⟨rfl,c⟩
 have w:(sagAtomicSpec.at F).fn H ([d0,Y,G]++[])={ results:=[.lit (.bool true)],args:=[d0,Y,G] }:=rfl
 refine ⟨_,rfl,_,_,_,[],(p0++(p1++p2)),[],y,?_,?_,?_,c.frame _,fun h=>by cases h⟩
 ·rw [w];exact trodAll_mk1 (shut_bool Tryz.underlying4 _)
 ·rw [w];exact trodAll_mk3 (Below.trod (by kernel_rfl) (by kernel_rfl) (of_decide_eq_true (by kernel_rfl)) Q c (fun x f=>d x (by simp only [List.mem_append];exact Or.inl (Or.inl f)))) (Below.trod (by kernel_rfl) (by kernel_rfl) (of_decide_eq_true (by kernel_rfl)) J c (fun x f=>d x (by simp only [List.mem_append];exact Or.inl (Or.inr f)))) (Below.trod (by kernel_rfl) (by kernel_rfl) (of_decide_eq_true (by kernel_rfl)) V c (fun x f=>d x (by simp only [List.mem_append];exact Or.inr f)))
 ·rw [w];rfl
end Go.Proofs.YtcpmjgdlioggjaaGreatDoor
