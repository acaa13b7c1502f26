/-
  Part 8 of the proof: rules and walks that the claim's last text uses.
-/
import Derived.Test.YtgpmlelfkjfbiaaGreatDoorSx7
set_option linter.unusedSimpArgs false
set_option linter.unusedVariables false
set_option maxRecDepth 100000
set_option maxHeartbeats 4000000
namespace Go.Proofs.YtgpmlelfkjfbiaaGreatDoor
open Go Go.Shelf Go.ChangeShapes Go.WideShapes Go.ChangeAt Go.RowKit Go.Lib Go.Ev
abbrev schLeavesSpec : OpenSpec := OpenSpec.ofChange Rows.schemaLeavesSpec
theorem Ziy (os : Os) {H : Type} (enc : TypeId × Value → H) :
  schLeavesSpec.preRow enc Tryz.prog Tryz.f3 Rows.schemaLeavesRow.domain false Rows.schemaLeavesRow.laid ((Zi4 os).forCall (fun _ _ => 0) ⟨#[], #[Value.agg #[Value.int .i64 0, Value.int .i64 0, Value.int .i64 0, Value.int .i64 0, Value.slice none 0 0, Value.slice none 0 0, Value.slice none 0 0]], []⟩).memory #[Value.agg #[Value.int .i64 0, Value.int .i64 0, Value.int .i64 0, Value.int .i64 0, Value.slice none 0 0, Value.slice none 0 0, Value.slice none 0 0]] := by
 have hw : (DataW.whole enc Tryz.prog ((Zi4 os).forCall (fun _ _ => 0) ⟨#[], #[Value.agg #[Value.int .i64 0, Value.int .i64 0, Value.int .i64 0, Value.int .i64 0, Value.slice none 0 0, Value.slice none 0 0, Value.slice none 0 0]], []⟩).memory Tryz.f3.params.toList schLeavesSpec.vars false (#[Value.agg #[Value.int .i64 0, Value.int .i64 0, Value.int .i64 0, Value.int .i64 0, Value.slice none 0 0, Value.slice none 0 0, Value.slice none 0 0]]).toList 8).map (fun x => (x.1, x.2.1)) =
   some ([.agg [.lit (.int .i64 0), .lit (.int .i64 0), .lit (.int .i64 0), .lit (.int .i64 0), .nil, .nil, .nil]], []) := by kernel_rfl
 obtain ⟨⟨x1, x2, x3⟩, hx, hx1⟩ := Option.map_eq_some_iff.1 hw
 simp only [Prod.mk.injEq] at hx1
 obtain ⟨rfl, rfl⟩ := hx1
 exact OpenSpec.preRow_of_cond 8 hx (by kernel_rfl) (fun k hk => by cases hk) (by kernel_rfl) (Zmq os _)
theorem ZiW (os : Os) (started : os.Started) (H : Type) (enc : TypeId × Value → H) (F : Stop.Interp) :
  ReturnsInHanded {} Tryz.checked os 3 .any (schLeavesSpec.preRow enc Tryz.prog Tryz.f3 Rows.schemaLeavesRow.domain false Rows.schemaLeavesRow.laid) ((schLeavesSpec.at F).post enc Tryz.prog Tryz.f3 false true false false) := by
 refine returnsInHanded_of_row (C := Tryz.checked) (s := schLeavesSpec) Zu5 started (by kernel_rfl) Tryz.func3
  (witness_row_atRef (enc := enc) (C := Tryz.checked) false (Zi4 os) #[Value.agg #[Value.int .i64 0, Value.int .i64 0, Value.int .i64 0, Value.int .i64 0, Value.slice none 0 0, Value.slice none 0 0, Value.slice none 0 0]] rfl (by kernel_rfl) (by kernel_rfl) (by kernel_rfl) (Ziy os enc)) ?_
 intro W base args ds gs before hval0 hW _ _ _ hL _ _
 have hval : ∀ (j : Nat) t v, Tryz.f3.params[j]? = some t → args[j]? = some v → Value.okWide Tryz.prog W .any base t v := hval0
 have hW' := hW
 obtain ⟨p, q, hA0, hV0, rfl, _, _⟩ := hW
 have hA : DataW.TrodAll enc Tryz.prog W 0 (fun _ => true) true Tryz.f3.params.toList args.toList ds p := hA0
 rw [Tryz.params3] at hA hval
 obtain ⟨v0, d0, rfl, rfl, h0⟩ := trodAll_one hA
 obtain ⟨rfl, rfl⟩ := trodVars_none hV0
 have hwt := hA.lt
 obtain ⟨x0, hx0, hR0⟩ := Zw7 (hval 0 _ v0 rfl rfl) h0
 clear hA0 hV0 hval0
 obtain ⟨htab, hpow⟩ := Zsa hL
 have hc := Ev.ZjT (ZhA W hpow htab 100000 [] [] [] x0 true (ZmA 100000 (by omega) x0)) (Ztn hR0)
 refine hc.mono ?_
 rintro e W' ⟨rfl, bel⟩
 have e1 : (schLeavesSpec.at F).fn H ([d0] ++ []) = { results := [.lit (.bool true)], args := [d0] } := rfl
 refine ⟨_, rfl, _, _, _, [], p, [], hW', ?_, ?_, ?_, bel.frame _, fun h => by cases h⟩
 ·
  rw [e1]; exact trodAll_mk1 (shut_bool Tryz.underlying4 _)
 ·
  rw [e1]; exact trodAll_mk1 (Below.trod (by kernel_rfl) (by kernel_rfl) (of_decide_eq_true (by kernel_rfl)) h0 bel (fun x hx => hwt x (by exact hx)))
 ·
  rw [e1]; rfl
theorem Zke : Rows.SchemaLeavesSaid :=
 OpenClaim.holds_of_cond 3 Tryz.f3 rfl rfl rfl rfl rfl rfl rfl ⟨rfl, rfl, rfl, rfl, rfl⟩ rfl rfl rfl rfl rfl (by kernel_rfl) Tryz.func3 (by kernel_rfl)
  (of_decide_eq_true (by kernel_rfl)) (by unfold Func.isWrapper; rw [if_neg (of_decide_eq_false (by kernel_rfl))]; exact ⟨rfl, rfl⟩)
  (fun os started H enc _ F0 => by rw [OpenClaim.pre_eq_preRow]; exact ZiW os started H enc F0)
end Go.Proofs.YtgpmlelfkjfbiaaGreatDoor
