/-
  Part 12 of the proof: rules and walks that the claim's last text uses.
-/
import Derived.Test.YtkpooohjodojoaaGreatDoorSg11
set_option linter.unusedSimpArgs false
set_option linter.unusedVariables false
set_option maxRecDepth 100000
set_option maxHeartbeats 4000000
namespace Go.Proofs.YtkpooohjodojoaaGreatDoor
open Go Go.Shelf Go.ChangeShapes Go.WideShapes Go.ChangeAt Go.RowKit Go.Lib Go.Ev
abbrev sagEnvsSpec : OpenSpec := OpenSpec.ofChange Rows.sagaEnvsSpec
theorem sagEnvs_witness (os : Os) {H : Type} (enc : TypeId × Value → H) :
  sagEnvsSpec.preRow enc Tryz.prog Tryz.f5 Rows.sagaEnvsRow.domain false Rows.sagaEnvsRow.laid ((sgWorld os).forCall (fun _ _ => 0) ⟨#[], #[Value.agg #[Value.int .i64 0, Value.int .i64 0, Value.int .i64 0, Value.string ⟨#[]⟩, Value.slice none 0 0, Value.slice none 0 0], Value.slice none 0 0], []⟩).memory #[Value.agg #[Value.int .i64 0, Value.int .i64 0, Value.int .i64 0, Value.string ⟨#[]⟩, Value.slice none 0 0, Value.slice none 0 0], Value.slice none 0 0] := by
 have hw : (DataW.whole enc Tryz.prog ((sgWorld os).forCall (fun _ _ => 0) ⟨#[], #[Value.agg #[Value.int .i64 0, Value.int .i64 0, Value.int .i64 0, Value.string ⟨#[]⟩, Value.slice none 0 0, Value.slice none 0 0], Value.slice none 0 0], []⟩).memory Tryz.f5.params.toList sagEnvsSpec.vars false (#[Value.agg #[Value.int .i64 0, Value.int .i64 0, Value.int .i64 0, Value.string ⟨#[]⟩, Value.slice none 0 0, Value.slice none 0 0], Value.slice none 0 0]).toList 8).map (fun x => (x.1, x.2.1)) =
   some ([.agg [.lit (.int .i64 0), .lit (.int .i64 0), .lit (.int .i64 0), .lit (.string []), .nil, .nil], .nil], []) := by kernel_rfl
 obtain ⟨⟨x1, x2, x3⟩, hx, hx1⟩ := Option.map_eq_some_iff.1 hw
 simp only [Prod.mk.injEq] at hx1
 obtain ⟨rfl, rfl⟩ := hx1
 exact OpenSpec.preRow_of_cond 8 hx (by kernel_rfl) (fun k hk => by cases hk) (by kernel_rfl) (sg_laid_met os _)
theorem sagEnvs_lifted (os : Os) (started : os.Started) (H : Type) (enc : TypeId × Value → H) (F : Stop.Interp) :
  ReturnsInHanded {} Tryz.checked os 5 .any (sagEnvsSpec.preRow enc Tryz.prog Tryz.f5 Rows.sagaEnvsRow.domain false Rows.sagaEnvsRow.laid) ((sagEnvsSpec.at F).post enc Tryz.prog Tryz.f5 false true false false) := by
 refine returnsInHanded_of_row (C := Tryz.checked) (s := sagEnvsSpec) law_own started (by kernel_rfl) Tryz.func5
  (witness_row_atRef (enc := enc) (C := Tryz.checked) false (sgWorld os) #[Value.agg #[Value.int .i64 0, Value.int .i64 0, Value.int .i64 0, Value.string ⟨#[]⟩, Value.slice none 0 0, Value.slice none 0 0], Value.slice none 0 0] rfl (by kernel_rfl) (by kernel_rfl) (by kernel_rfl) (sagEnvs_witness os enc)) ?_
 intro W base args ds gs before hval0 hW _ _ _ hL hS _
 have hval : ∀ (j : Nat) t v, Tryz.f5.params[j]? = some t → args[j]? = some v → Value.okWide Tryz.prog W .any base t v := hval0
 have hW' := hW
 obtain ⟨p, q, hA0, hV0, rfl, _, _⟩ := hW
 have hA : DataW.TrodAll enc Tryz.prog W 0 (fun _ => true) true Tryz.f5.params.toList args.toList ds p := hA0
 rw [Tryz.params5] at hA hval
 obtain ⟨v0, v1, d0, d1, p0, p1, rfl, rfl, rfl, h0, h1⟩ := trodAll_two hA
 obtain ⟨rfl, rfl⟩ := trodVars_none hV0
 have hwt := hA.lt
 obtain ⟨x0, hx0, hR0, hb0⟩ := open_v (hval 0 _ v0 rfl rfl) h0
 obtain ⟨x1, hx1, hR1⟩ := open_l (hval 1 _ v1 rfl rfl) h1
 clear hA0 hV0 hval0
 obtain ⟨htab, hpow⟩ := sg_tabs hL
 have hE := sg_errs hL
 have hM := sg_maxl hS
 have hc := Ev.calls_of_acalls (l38_SagaEnvs_at W hE hM hpow htab 1000000 [] [] [] x0 x1 true (envs_plain 1000000 (by omega) x0 x1)) (rowR_two hR0 hR1)
 refine hc.mono ?_
 rintro e W' ⟨rfl, bel⟩
 have e1 : (sagEnvsSpec.at F).fn H ([d0, d1] ++ []) = { results := [.lit (.bool true)], args := [d0, d1] } := rfl
 refine ⟨_, rfl, _, _, _, [], (p0 ++ p1), [], hW', ?_, ?_, ?_, bel.frame _, fun h => by cases h⟩
 ·
  rw [e1]; exact trodAll_mk1 (shut_bool Tryz.underlying4 _)
 ·
  rw [e1]; exact trodAll_mk2 (Below.trod (by kernel_rfl) (by kernel_rfl) (of_decide_eq_true (by kernel_rfl)) h0 bel (fun x hx => hwt x (by simp only [List.mem_append]; exact Or.inl hx))) (Below.trod (by kernel_rfl) (by kernel_rfl) (of_decide_eq_true (by kernel_rfl)) h1 bel (fun x hx => hwt x (by simp only [List.mem_append]; exact Or.inr hx)))
 ·
  rw [e1]; rfl
end Go.Proofs.YtkpooohjodojoaaGreatDoor
