/-
  Part 13 of the proof: rules and walks that the claim's last text uses.
-/
import Derived.Test.YtbfenpeblbonlaaGreatDoorCb1
import Derived.Test.YtbfenpeblbonlaaGreatDoorCb2
import Derived.Test.YtbfenpeblbonlaaGreatDoorCb3
import Derived.Test.YtbfenpeblbonlaaGreatDoorCb4
import Derived.Test.YtbfenpeblbonlaaGreatDoorCb5
import Derived.Test.YtbfenpeblbonlaaGreatDoorCb6
import Derived.Test.YtbfenpeblbonlaaGreatDoorCb7
import Derived.Test.YtbfenpeblbonlaaGreatDoorCb8
import Derived.Test.YtbfenpeblbonlaaGreatDoorCb9
import Derived.Test.YtbfenpeblbonlaaGreatDoorCb10
import Derived.Test.YtbfenpeblbonlaaGreatDoorCb11
import Derived.Test.YtbfenpeblbonlaaGreatDoorCm1
set_option linter.unusedSimpArgs false
set_option linter.unusedVariables false
set_option maxRecDepth 100000
set_option maxHeartbeats 4000000
namespace Go.Proofs.YtbfenpeblbonlaaGreatDoor
open Go Go.Shelf Go.ChangeShapes Go.WideShapes Go.ChangeAt Go.RowKit Go.Lib Go.Ev
abbrev corBalancesSpec:OpenSpec:=OpenSpec.ofChange Rows.correlatorBalancesSpec
theorem ZnY (os:Os) {H:Type} (enc:TypeId × Value->H) :
  corBalancesSpec.preRow enc Tryz.prog Tryz.f5 Rows.correlatorBalancesRow.domain false Rows.correlatorBalancesRow.laid ((TA os).forCall (fun _ _=>0) ⟨#[],#[Value.agg #[Value.int .u8 0,Value.int .u8 0,Value.int .u8 0,Value.int .u8 0],Value.slice none 0 0],[]⟩).memory #[Value.agg #[Value.int .u8 0,Value.int .u8 0,Value.int .u8 0,Value.int .u8 0],Value.slice none 0 0]:=by
 have c:(DataW.whole enc Tryz.prog ((TA os).forCall (fun _ _=>0) ⟨#[],#[Value.agg #[Value.int .u8 0,Value.int .u8 0,Value.int .u8 0,Value.int .u8 0],Value.slice none 0 0],[]⟩).memory Tryz.f5.params.toList corBalancesSpec.vars false (#[Value.agg #[Value.int .u8 0,Value.int .u8 0,Value.int .u8 0,Value.int .u8 0],Value.slice none 0 0]).toList 8).map (fun x=>(x.1,x.2.1)) =
   some ([.agg [.lit (.int .u8 0),.lit (.int .u8 0),.lit (.int .u8 0),.lit (.int .u8 0)],.nil],[]):=by kernel_rfl
 obtain ⟨⟨d,f,e⟩,b,a⟩:=Option.map_eq_some_iff.1 c
 simp only [Prod.mk.injEq] at a
 obtain ⟨rfl,rfl⟩:=a
 exact OpenSpec.preRow_of_cond 8 b (by kernel_rfl) (fun k hk=>by cases hk) (by kernel_rfl) (Yq os _)
theorem Zn0 (os:Os) (started:os.Started) (H:Type) (enc:TypeId × Value->H) (F:Stop.Interp) :
  ReturnsInHanded {} Tryz.checked os 5 .any (corBalancesSpec.preRow enc Tryz.prog Tryz.f5 Rows.correlatorBalancesRow.domain false Rows.correlatorBalancesRow.laid) ((corBalancesSpec.at F).post enc Tryz.prog Tryz.f5 false true false false):=by
 refine returnsInHanded_of_row (C:=Tryz.checked) (s:=corBalancesSpec) Zgx started (by kernel_rfl) Tryz.func5
  (witness_row_atRef (enc:=enc) (C:=Tryz.checked) false (TA os) #[Value.agg #[Value.int .u8 0,Value.int .u8 0,Value.int .u8 0,Value.int .u8 0],Value.slice none 0 0] rfl (by kernel_rfl) (by kernel_rfl) (by kernel_rfl) (ZnY os enc)) ?_
 intro W base args ds gs l b Q _ _ _ E Y _
 have a:∀ (j:Nat) t v,Tryz.f5.params[j]? = some t->args[j]? = some v->Value.okWide Tryz.prog W .any base t v:=b
 have u:=Q
 obtain ⟨p,q,d,k,rfl,_,_⟩:=Q
 have z:DataW.TrodAll enc Tryz.prog W 0 (fun _=>true) true Tryz.f5.params.toList args.toList ds p:=d
 rw [Tryz.params5] at z a
 obtain ⟨U,v1,N,O,p0,p1,rfl,rfl,rfl,G,K⟩:=trodAll_two z
 obtain ⟨rfl,rfl⟩:=trodVars_none k
 have i:=z.lt
 obtain ⟨D,m,y⟩:=ZiX (a 0 _ U rfl rfl) G
 obtain ⟨J,w,n⟩:=Zjz (a 1 _ v1 rfl rfl) K
 clear d k b
 obtain ⟨g,f⟩:=Zhq E
 have Z:=Zhw E
 have V:=ZgW Y
 have hc:=Ev.Tt (ZnS W Z V f g 100000 [] [] [] D J true (Zoi 100000 (by omega) D J m w)) (Zeu y n)
 refine hc.mono ?_
 rintro e W' ⟨rfl,c⟩
 have o:(corBalancesSpec.at F).fn H ([N,O]++[])={ results:=[.lit (.bool true)],args:=[N,O] }:=rfl
 refine ⟨_,rfl,_,_,_,[],(p0++p1),[],u,?_,?_,?_,c.frame _,fun h=>by cases h⟩
 ·rw [o];exact trodAll_mk1 (shut_bool Tryz.underlying4 _)
 ·rw [o];exact trodAll_mk2 (Below.trod (by kernel_rfl) (by kernel_rfl) (of_decide_eq_true (by kernel_rfl)) G c (fun x r=>i x (by simp only [List.mem_append];exact Or.inl r))) (Below.trod (by kernel_rfl) (by kernel_rfl) (of_decide_eq_true (by kernel_rfl)) K c (fun x r=>i x (by simp only [List.mem_append];exact Or.inr r)))
 ·rw [o];rfl
end Go.Proofs.YtbfenpeblbonlaaGreatDoor
