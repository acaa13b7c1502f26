/-
  Part 9 of the proof: rules and walks that the claim's last text uses.
-/
import Derived.Test.YtgpmlelfkjfbiaaGreatDoorSr8
set_option linter.unusedSimpArgs false
set_option linter.unusedVariables false
set_option maxRecDepth 100000
set_option maxHeartbeats 4000000
namespace Go.Proofs.YtgpmlelfkjfbiaaGreatDoor
open Go Go.Shelf Go.ChangeShapes Go.WideShapes Go.ChangeAt Go.RowKit Go.Lib Go.Ev
abbrev evoDropsUptoSpec:OpenSpec:=Rows.OpenSpec.upto Rows.evolveDropsSpec
theorem OU (os:Os) {H:Type} (enc:TypeId × Value→H) :
  evoDropsUptoSpec.preRow enc Tryz.prog Tryz.f10 Rows.evolveDropsUptoRow.domain false Rows.evolveDropsUptoRow.laid ((QZ os).forCall (fun _ _=>0) ⟨#[],#[Value.agg #[Value.int .i64 0,Value.int .i64 0,Value.int .i64 0,Value.int .i64 0,Value.slice none 0 0,Value.slice none 0 0,Value.slice none 0 0],Value.int .u8 0,Value.agg #[Value.int .i64 0,Value.int .i64 0,Value.int .i64 0,Value.string ⟨#[]⟩,Value.slice none 0 0,Value.slice none 0 0]],[]⟩).memory #[Value.agg #[Value.int .i64 0,Value.int .i64 0,Value.int .i64 0,Value.int .i64 0,Value.slice none 0 0,Value.slice none 0 0,Value.slice none 0 0],Value.int .u8 0,Value.agg #[Value.int .i64 0,Value.int .i64 0,Value.int .i64 0,Value.string ⟨#[]⟩,Value.slice none 0 0,Value.slice none 0 0]]:=by
 have b:(DataW.whole enc Tryz.prog ((QZ os).forCall (fun _ _=>0) ⟨#[],#[Value.agg #[Value.int .i64 0,Value.int .i64 0,Value.int .i64 0,Value.int .i64 0,Value.slice none 0 0,Value.slice none 0 0,Value.slice none 0 0],Value.int .u8 0,Value.agg #[Value.int .i64 0,Value.int .i64 0,Value.int .i64 0,Value.string ⟨#[]⟩,Value.slice none 0 0,Value.slice none 0 0]],[]⟩).memory Tryz.f10.params.toList evoDropsUptoSpec.vars false (#[Value.agg #[Value.int .i64 0,Value.int .i64 0,Value.int .i64 0,Value.int .i64 0,Value.slice none 0 0,Value.slice none 0 0,Value.slice none 0 0],Value.int .u8 0,Value.agg #[Value.int .i64 0,Value.int .i64 0,Value.int .i64 0,Value.string ⟨#[]⟩,Value.slice none 0 0,Value.slice none 0 0]]).toList 8).map (fun x=>(x.1,x.2.1)) =
   some ([.agg [.lit (.int .i64 0),.lit (.int .i64 0),.lit (.int .i64 0),.lit (.int .i64 0),.nil,.nil,.nil],.lit (.int .u8 0),.agg [.lit (.int .i64 0),.lit (.int .i64 0),.lit (.int .i64 0),.lit (.string []),.nil,.nil]],[]):=by kernel_rfl
 obtain ⟨⟨f,e,d⟩,c,a⟩:=Option.map_eq_some_iff.1 b
 simp only [Prod.mk.injEq] at a
 obtain ⟨rfl,rfl⟩:=a
 exact OpenSpec.preRow_of_cond 8 c (by kernel_rfl) (fun k hk=>by cases hk;kernel_rfl) (by kernel_rfl) (Xo os _)
theorem PD (os:Os) (started:os.Started) (H:Type) (enc:TypeId × Value→H) (F:Stop.Interp) :
  ReturnsInHanded {} Tryz.checked os 10 .any (evoDropsUptoSpec.preRow enc Tryz.prog Tryz.f10 Rows.evolveDropsUptoRow.domain false Rows.evolveDropsUptoRow.laid) ((evoDropsUptoSpec.at F).post enc Tryz.prog Tryz.f10 false true false false):=by
 refine returnsInHanded_of_row (C:=Tryz.checked) (s:=evoDropsUptoSpec) Zgr started (by kernel_rfl) Tryz.func10
  (witness_row_atRef (enc:=enc) (C:=Tryz.checked) false (QZ os) #[Value.agg #[Value.int .i64 0,Value.int .i64 0,Value.int .i64 0,Value.int .i64 0,Value.slice none 0 0,Value.slice none 0 0,Value.slice none 0 0],Value.int .u8 0,Value.agg #[Value.int .i64 0,Value.int .i64 0,Value.int .i64 0,Value.string ⟨#[]⟩,Value.slice none 0 0,Value.slice none 0 0]] rfl (by kernel_rfl) (by kernel_rfl) (by kernel_rfl) (OU os enc)) ?_
 intro W base args ds gs o b Y _ d _ hL _ _
 have a:∀ (j:Nat) t v,Tryz.f10.params[j]? = some t→args[j]? = some v→Value.okWide Tryz.prog W .any base t v:=b
 have G:=Y
 obtain ⟨p,q,i,n,rfl,_,_⟩:=Y
 have J:DataW.TrodAll enc Tryz.prog W 0 (fun _=>true) true Tryz.f10.params.toList args.toList ds p:=i
 rw [Tryz.params10] at J a
 obtain ⟨v0,v1,v2,u,w,K,p0,p1,p2,rfl,rfl,rfl,N,U,V⟩:=trodAll_three J
 obtain ⟨rfl,rfl⟩:=trodVars_none n
 have g:=J.lt
 obtain ⟨Q,ad,r,ae⟩:=Zhn (a 0 _ v0 rfl rfl) N
 obtain ⟨O,y,z⟩:=Zic (a 1 _ v1 rfl rfl) U
 obtain ⟨Z,ab,E,aa⟩:=Zh9 (a 2 _ v2 rfl rfl) V
 clear i n b
 have f:Rows.uptoBulkAll ([u,w,K]++[])≤1048576:=of_decide_eq_true (d _ rfl)
 simp only [List.cons_append,List.append_nil,List.nil_append,Rows.uptoBulkAll] at f
 obtain ⟨k,l⟩:=ZdT hL
 have hc:=Ev.Tn (QT W l k 10000000000 [] [] [] Q O Z true (Zi 10000000000 (by omega) Q O Z y (by omega) (by omega))) (ZaH r z E)
 refine hc.mono ?_
 rintro e W' ⟨rfl,c⟩
 have D:(evoDropsUptoSpec.at F).fn H ([u,w,K]++[])={ results:=[.lit (.bool true)],args:=[u,w,K] }:=rfl
 refine ⟨_,rfl,_,_,_,[],(p0++(p1++p2)),[],G,?_,?_,?_,c.frame _,fun h=>by cases h⟩
 ·rw [D];exact trodAll_mk1 (shut_bool Tryz.underlying4 _)
 ·rw [D];exact trodAll_mk3 (Below.trod (by kernel_rfl) (by kernel_rfl) (of_decide_eq_true (by kernel_rfl)) N c (fun x m=>g x (by simp only [List.mem_append];exact Or.inl (Or.inl m)))) (Below.trod (by kernel_rfl) (by kernel_rfl) (of_decide_eq_true (by kernel_rfl)) U c (fun x m=>g x (by simp only [List.mem_append];exact Or.inl (Or.inr m)))) (Below.trod (by kernel_rfl) (by kernel_rfl) (of_decide_eq_true (by kernel_rfl)) V c (fun x m=>g x (by simp only [List.mem_append];exact Or.inr m)))
 ·rw [D];rfl
end Go.Proofs.YtgpmlelfkjfbiaaGreatDoor
