/-
  Part 15 of the proof: rules and walks that the claim's last text uses.
-/
import Derived.Test.YtbfenpeblbonlaaGreatDoorCb1
import Derived.Test.YtbfenpeblbonlaaGreatDoorCb2
import Derived.Test.YtbfenpeblbonlaaGreatDoorCb3
import Derived.Test.YtbfenpeblbonlaaGreatDoorCb4
import Derived.Test.YtbfenpeblbonlaaGreatDoorCb5
import Derived.Test.YtbfenpeblbonlaaGreatDoorCb6
import Derived.Test.YtbfenpeblbonlaaGreatDoorCb7
import Derived.Test.YtbfenpeblbonlaaGreatDoorCb8
import Derived.Test.YtbfenpeblbonlaaGreatDoorCb9
import Derived.Test.YtbfenpeblbonlaaGreatDoorCb10
import Derived.Test.YtbfenpeblbonlaaGreatDoorCb11
import Derived.Test.YtbfenpeblbonlaaGreatDoorCa1
import Derived.Test.YtbfenpeblbonlaaGreatDoorCa2
import Derived.Test.YtbfenpeblbonlaaGreatDoorCa3
set_option linter.unusedSimpArgs false
set_option linter.unusedVariables false
set_option maxRecDepth 100000
set_option maxHeartbeats 4000000
namespace Go.Proofs.YtbfenpeblbonlaaGreatDoor
open Go Go.Shelf Go.ChangeShapes Go.WideShapes Go.ChangeAt Go.RowKit Go.Lib Go.Ev
abbrev corRunsSpec:OpenSpec:=OpenSpec.ofChange Rows.correlatorRunsSpec
theorem Tq (os:Os) {H:Type} (enc:TypeId × Value->H) :
  corRunsSpec.preRow enc Tryz.prog Tryz.f7 Rows.correlatorRunsRow.domain false Rows.correlatorRunsRow.laid ((TA os).forCall (fun _ _=>0) ⟨#[],#[Value.agg #[Value.int .u8 0,Value.int .u8 0,Value.int .u8 0,Value.int .u8 0],Value.slice none 0 0],[]⟩).memory #[Value.agg #[Value.int .u8 0,Value.int .u8 0,Value.int .u8 0,Value.int .u8 0],Value.slice none 0 0]:=by
 have c:(DataW.whole enc Tryz.prog ((TA os).forCall (fun _ _=>0) ⟨#[],#[Value.agg #[Value.int .u8 0,Value.int .u8 0,Value.int .u8 0,Value.int .u8 0],Value.slice none 0 0],[]⟩).memory Tryz.f7.params.toList corRunsSpec.vars false (#[Value.agg #[Value.int .u8 0,Value.int .u8 0,Value.int .u8 0,Value.int .u8 0],Value.slice none 0 0]).toList 8).map (fun x=>(x.1,x.2.1)) =
   some ([.agg [.lit (.int .u8 0),.lit (.int .u8 0),.lit (.int .u8 0),.lit (.int .u8 0)],.nil],[]):=by kernel_rfl
 obtain ⟨⟨d,e,f⟩,b,a⟩:=Option.map_eq_some_iff.1 c
 simp only [Prod.mk.injEq] at a
 obtain ⟨rfl,rfl⟩:=a
 exact OpenSpec.preRow_of_cond 8 b (by kernel_rfl) (fun k hk=>by cases hk) (by kernel_rfl) (Yq os _)
theorem Ug (os:Os) (started:os.Started) (H:Type) (enc:TypeId × Value->H) (F:Stop.Interp) :
  ReturnsInHanded {} Tryz.checked os 7 .any (corRunsSpec.preRow enc Tryz.prog Tryz.f7 Rows.correlatorRunsRow.domain false Rows.correlatorRunsRow.laid) ((corRunsSpec.at F).post enc Tryz.prog Tryz.f7 false true false false):=by
 refine returnsInHanded_of_row (C:=Tryz.checked) (s:=corRunsSpec) Zgx started (by kernel_rfl) Tryz.func7
  (witness_row_atRef (enc:=enc) (C:=Tryz.checked) false (TA os) #[Value.agg #[Value.int .u8 0,Value.int .u8 0,Value.int .u8 0,Value.int .u8 0],Value.slice none 0 0] rfl (by kernel_rfl) (by kernel_rfl) (by kernel_rfl) (Tq os enc)) ?_
 intro W base args ds gs l a Q _ _ _ J hS _
 have b:∀ (j:Nat) t v,Tryz.f7.params[j]? = some t->args[j]? = some v->Value.okWide Tryz.prog W .any base t v:=a
 have z:=Q
 obtain ⟨p,q,i,g,rfl,_,_⟩:=Q
 have o:DataW.TrodAll enc Tryz.prog W 0 (fun _=>true) true Tryz.f7.params.toList args.toList ds p:=i
 rw [Tryz.params7] at o b
 obtain ⟨U,Z,E,N,Y,p1,rfl,rfl,rfl,O,K⟩:=trodAll_two o
 obtain ⟨rfl,rfl⟩:=trodVars_none g
 have k:=o.lt
 obtain ⟨G,m,y⟩:=ZiX (b 0 _ U rfl rfl) O
 obtain ⟨D,r,n⟩:=Zjz (b 1 _ Z rfl rfl) K
 clear i g a
 obtain ⟨f,d⟩:=Zhq J
 have V:=Zhw J
 have hM:=ZgW hS
 have hc:=Ev.Tt (N4 W V hM d f 100000 [] [] [] G D true (Zd4 100000 (by omega) G D m r)) (Zeu y n)
 refine hc.mono ?_
 rintro e W' ⟨rfl,c⟩
 have w:(corRunsSpec.at F).fn H ([E,N]++[])={ results:=[.lit (.bool true)],args:=[E,N] }:=rfl
 refine ⟨_,rfl,_,_,_,[],(Y++p1),[],z,?_,?_,?_,c.frame _,fun h=>by cases h⟩
 ·rw [w];exact trodAll_mk1 (shut_bool Tryz.underlying4 _)
 ·rw [w];exact trodAll_mk2 (Below.trod (by kernel_rfl) (by kernel_rfl) (of_decide_eq_true (by kernel_rfl)) O c (fun x u=>k x (by simp only [List.mem_append];exact Or.inl u))) (Below.trod (by kernel_rfl) (by kernel_rfl) (of_decide_eq_true (by kernel_rfl)) K c (fun x u=>k x (by simp only [List.mem_append];exact Or.inr u)))
 ·rw [w];rfl
end Go.Proofs.YtbfenpeblbonlaaGreatDoor
