/-
  Part 8 of the proof: rules and walks that the claim's last text uses.
-/
import Derived.Test.YtgpmlelfkjfbiaaGreatDoorSn7
set_option linter.unusedSimpArgs false
set_option linter.unusedVariables false
set_option maxRecDepth 100000
set_option maxHeartbeats 4000000
namespace Go.Proofs.YtgpmlelfkjfbiaaGreatDoor
open Go Go.Shelf Go.ChangeShapes Go.WideShapes Go.ChangeAt Go.RowKit Go.Lib Go.Ev
abbrev evoNamesSpec : OpenSpec := OpenSpec.ofChange Rows.evolveNamesSpec
theorem ZiJ (os : Os) {H : Type} (enc : TypeId × Value → H) :
  evoNamesSpec.preRow enc Tryz.prog Tryz.f6 Rows.evolveNamesRow.domain false Rows.evolveNamesRow.laid ((ZiN os).forCall (fun _ _ => 0) ⟨#[], #[Value.int .i64 0], []⟩).memory #[Value.int .i64 0] := by
 have hw : (DataW.whole enc Tryz.prog ((ZiN os).forCall (fun _ _ => 0) ⟨#[], #[Value.int .i64 0], []⟩).memory Tryz.f6.params.toList evoNamesSpec.vars false (#[Value.int .i64 0]).toList 8).map (fun x => (x.1, x.2.1)) =
   some ([.lit (.int .i64 0)], []) := by kernel_rfl
 obtain ⟨⟨x1, x2, x3⟩, hx, hx1⟩ := Option.map_eq_some_iff.1 hw
 simp only [Prod.mk.injEq] at hx1
 obtain ⟨rfl, rfl⟩ := hx1
 exact OpenSpec.preRow_of_cond 8 hx (by kernel_rfl) (fun k hk => by cases hk) (by kernel_rfl) (Zlh os _)
theorem ZiZ (os : Os) (started : os.Started) (H : Type) (enc : TypeId × Value → H) (F : Stop.Interp) :
  ReturnsInHanded {} Tryz.checked os 6 .any (evoNamesSpec.preRow enc Tryz.prog Tryz.f6 Rows.evolveNamesRow.domain false Rows.evolveNamesRow.laid) ((evoNamesSpec.at F).post enc Tryz.prog Tryz.f6 false true false false) := by
 refine returnsInHanded_of_row (C := Tryz.checked) (s := evoNamesSpec) Zsi started (by kernel_rfl) Tryz.func6
  (witness_row_atRef (enc := enc) (C := Tryz.checked) false (ZiN os) #[Value.int .i64 0] rfl (by kernel_rfl) (by kernel_rfl) (by kernel_rfl) (ZiJ os enc)) ?_
 intro W base args ds gs before hval0 hW _ _ _ hL _ _
 have hval : ∀ (j : Nat) t v, Tryz.f6.params[j]? = some t → args[j]? = some v → Value.okWide Tryz.prog W .any base t v := hval0
 have hW' := hW
 obtain ⟨p, q, hA0, hV0, rfl, _, _⟩ := hW
 have hA : DataW.TrodAll enc Tryz.prog W 0 (fun _ => true) true Tryz.f6.params.toList args.toList ds p := hA0
 rw [Tryz.params6] at hA hval
 obtain ⟨v0, d0, rfl, rfl, h0⟩ := trodAll_one hA
 obtain ⟨rfl, rfl⟩ := trodVars_none hV0
 have hwt := hA.lt
 obtain ⟨x0, hx0, hR0⟩ := Zun (hval 0 _ v0 rfl rfl) h0
 clear hA0 hV0 hval0
 obtain ⟨htab, hpow⟩ := Zqt hL
 have hc := Ev.Zi2 (Zis W hpow htab 100000 [] [] [] x0 true (Zmp 100000 (by omega) x0)) (Zpt hR0)
 refine hc.mono ?_
 rintro e W' ⟨rfl, bel⟩
 have e1 : (evoNamesSpec.at F).fn H ([d0] ++ []) = { results := [.lit (.bool true)], args := [d0] } := rfl
 refine ⟨_, rfl, _, _, _, [], p, [], hW', ?_, ?_, ?_, bel.frame _, fun h => by cases h⟩
 ·
  rw [e1]; exact trodAll_mk1 (shut_bool Tryz.underlying4 _)
 ·
  rw [e1]; exact trodAll_mk1 (Below.trod (by kernel_rfl) (by kernel_rfl) (of_decide_eq_true (by kernel_rfl)) h0 bel (fun x hx => hwt x (by exact hx)))
 ·
  rw [e1]; rfl
theorem ZjU : Rows.EvolveNamesSaid :=
 OpenClaim.holds_of_cond 6 Tryz.f6 rfl rfl rfl rfl rfl rfl rfl ⟨rfl, rfl, rfl, rfl, rfl⟩ rfl rfl rfl rfl rfl (by kernel_rfl) Tryz.func6 (by kernel_rfl)
  (of_decide_eq_true (by kernel_rfl)) (by unfold Func.isWrapper; rw [if_neg (of_decide_eq_false (by kernel_rfl))]; exact ⟨rfl, rfl⟩)
  (fun os started H enc _ F0 => by rw [OpenClaim.pre_eq_preRow]; exact ZiZ os started H enc F0)
end Go.Proofs.YtgpmlelfkjfbiaaGreatDoor
