/-
  The statement CharsetCases: its row: whatever the input the law answers true, and the input reads as it did.
-/
import Derived.Test.YthlhbbejcmbpoaaDoorCsL10
import Derived.Test.YthlhbbejcmbpoaaDoorCsR
import Derived.Test.YthlhbbejcmbpoaaDoorCards
import Derived.Test.YthlhbbejcmbpoaaDoorTie
import Derived.Lib.LaidIn
import Derived.Lib.LaidU8T
import Derived.Deep.DeepHandedRow
import Derived.Deep.DeepWitnessRowRef
import Derived.ProofKit
import Derived.SizedLaws
import Derived.PinnedBridge
import Derived.SevenTiedAt
namespace Go.Proofs.YthlhbbejcmbpoaaDoor
open Go Go.Shelf Go.ChangeShapes Go.WideShapes Go.ChangeAt Go.RowKit Go.Lib
open Go.ChangeMaps (open_string shut_string)

theorem cases_own : ownKnob Tryd.prog.godebug = none := by kernel_rfl
/-- The settled world, the two variables holding what their initialisers lay. -/
noncomputable def casesWorld (os : Os) : World :=
  let w0 := World.holding Tryd.prog os ⟨#[], #[], []⟩
  let put (h : Array Obj) (g : Nat) (cs : Array Value) : Array Obj := h.modify g fun
    | .cells _ t frozen => .cells cs t frozen
    | o => o
  let h1 := put w0.heap 0 (Lib.firstTab.map fun z => Value.int .u8 z).toArray
  let h2 := put h1 1 ((List.range 16).flatMap fun i => [Value.int .u8 (Lib.accLo i), Value.int .u8 (Lib.accHi i)]).toArray
  { w0 with heap := h2 }
theorem cases_laid_met (os : Os) (args : Array Value) : laidMet Tryd.prog Rows.charsetCasesRow.laid ((casesWorld os).forCall (fun _ _ => 0) ⟨#[], args, []⟩).memory :=
  (LaidIn.of_run (l := Rows.charsetCasesRow.laid) [1, 0] 8 (by kernel_rfl) (by kernel_rfl) (by kernel_rfl) (by kernel_rfl)).met

abbrev casesSpec : OpenSpec := OpenSpec.ofChange Rows.charsetCasesSpec
theorem cases_witness (os : Os) {H : Type} (enc : TypeId × Value → H) :
    casesSpec.preRow enc Tryd.prog Tryd.f10 Rows.charsetCasesRow.domain false Rows.charsetCasesRow.laid ((casesWorld os).forCall (fun _ _ => 0) ⟨#[], #[Value.string ⟨#[]⟩], []⟩).memory #[Value.string ⟨#[]⟩] := by
  have hw : (DataW.whole enc Tryd.prog ((casesWorld os).forCall (fun _ _ => 0) ⟨#[], #[Value.string ⟨#[]⟩], []⟩).memory Tryd.f10.params.toList casesSpec.vars false (#[Value.string ⟨#[]⟩]).toList 8).map (fun x => (x.1, x.2.1)) =
      some ([.lit (.string [])], []) := by kernel_rfl
  obtain ⟨⟨x1, x2, x3⟩, hx, hx1⟩ := Option.map_eq_some_iff.1 hw
  simp only [Prod.mk.injEq] at hx1
  obtain ⟨rfl, rfl⟩ := hx1
  exact OpenSpec.preRow_of_cond 8 hx (by kernel_rfl) (fun k hk => by cases hk) (by kernel_rfl) (cases_laid_met os _)

set_option maxRecDepth 100000 in
set_option maxHeartbeats 2000000 in
theorem cases_lifted (os : Os) (started : os.Started) (H : Type) (enc : TypeId × Value → H) (F : Stop.Interp) :
    ReturnsInHanded {} Tryd.checked os 10 .any (casesSpec.preRow enc Tryd.prog Tryd.f10 Rows.charsetCasesRow.domain false Rows.charsetCasesRow.laid) ((casesSpec.at F).post enc Tryd.prog Tryd.f10 false true false false) := by
  refine returnsInHanded_of_row (C := Tryd.checked) (s := casesSpec) cases_own started (by kernel_rfl) Tryd.func10
    (witness_row_atRef (enc := enc) (C := Tryd.checked) false (casesWorld os) #[Value.string ⟨#[]⟩] rfl (by kernel_rfl) (by kernel_rfl) (by kernel_rfl) (cases_witness os enc)) ?_
  intro W base args ds gs before hval0 hW _ _ _ hL _ _
  have hval : ∀ (j : Nat) t v, Tryd.f10.params[j]? = some t → args[j]? = some v → Value.okWide Tryd.prog W .any base t v := hval0
  have hW' := hW
  obtain ⟨p, q, hA0, hV0, rfl, _, _⟩ := hW
  have hA : DataW.TrodAll enc Tryd.prog W 0 (fun _ => true) true Tryd.f10.params.toList args.toList ds p := hA0
  rw [Tryd.params10] at hA hval
  obtain ⟨v0, d0, rfl, rfl, h0⟩ := trodAll_one hA
  obtain ⟨rfl, rfl⟩ := trodVars_none hV0
  obtain ⟨s0, rfl, rfl, rfl, ws0⟩ := open_string Tryd.underlying9 (hval 0 9 v0 rfl rfl) h0
  clear hA0 hV0 hval0
  have htab : Lib.Utf8Tabs 0 1 W :=
    utf8Tabs_of_readsT (U8Types.of196 Tryd.laysValid) ⟨by kernel_rfl, by kernel_rfl, by kernel_rfl, by kernel_rfl, by kernel_rfl, by kernel_rfl, by kernel_rfl⟩ (Lib.laidMet.reads hL (.tail _ (.head _))) (Lib.laidMet.reads hL (.head _))
  have hc := Ev.calls_of_acalls (Cases_law W [] [] [] htab s0 ws0) (Ev.row_flat (us := [.string s0]) (by
    intro u hu
    simp only [List.mem_cons, List.not_mem_nil, or_false] at hu
    subst hu
    exact decide_eq_true ws0))
  refine hc.mono ?_
  rintro e W' ⟨rfl, bel⟩
  have e1 : (casesSpec.at F).fn H ([.lit (.string s0.data.toList)] ++ []) = { results := [.lit (.bool true)], args := [.lit (.string s0.data.toList)] } := rfl
  refine ⟨_, rfl, _, _, _, [], [], [], hW', ?_, ?_, ?_, bel.frame _, fun h => by cases h⟩
  · rw [e1]; exact trodAll_mk1 (shut_bool Tryd.underlying4 _)
  · rw [e1]; exact trodAll_mk1 (shut_string Tryd.underlying9 ws0)
  · rw [e1]; rfl

theorem cases_holds : Rows.CharsetCasesSaid :=
  OpenClaim.holds_of_cond 10 Tryd.f10 rfl rfl rfl rfl rfl rfl rfl ⟨rfl, rfl, rfl, rfl, rfl⟩ rfl rfl rfl rfl rfl (by kernel_rfl) Tryd.func10 (by kernel_rfl)
    (of_decide_eq_true (by kernel_rfl)) (by unfold Func.isWrapper; rw [if_neg (of_decide_eq_false (by kernel_rfl))]; exact ⟨rfl, rfl⟩)
    (fun os started H enc _ F0 => by rw [OpenClaim.pre_eq_preRow]; exact cases_lifted os started H enc F0)
end Go.Proofs.YthlhbbejcmbpoaaDoor
