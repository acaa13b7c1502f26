/-
  The statement CharsetTexts: its row: whatever the input the law answers true, and the input reads as it did.
-/
import Derived.Test.YthlhbbejcmbpoaaDoorCsL11
import Derived.Test.YthlhbbejcmbpoaaDoorCsR
import Derived.Test.YthlhbbejcmbpoaaDoorCards
import Derived.Test.YthlhbbejcmbpoaaDoorTie
import Derived.Lib.LaidIn
import Derived.Lib.LaidU8T
import Derived.Deep.DeepHandedRow
import Derived.Deep.DeepWitnessRowRef
import Derived.ProofKit
import Derived.SizedLaws
import Derived.PinnedBridge
import Derived.SevenTiedAt
import Derived.ChangeSlices
import Derived.Carry
import Derived.ChangeOld
namespace Go.Proofs.YthlhbbejcmbpoaaDoor
open Go Go.Shelf Go.ChangeShapes Go.WideShapes Go.ChangeAt Go.RowKit Go.Lib

theorem open_intlist {P : Program} {W : World} {t : TypeId} {H : Type} {enc : TypeId × Value → H} {v : Value} {d : DataW H} {ps : List MemPlace} {base : Nat} {e : TypeId} (ht : P.underlying t = some (.slice e)) (he : P.underlying e = some (.int .i64)) (hc : P.cellsOf e = 1)
    (hok : Value.okWide P W .any base t v) (h : DataW.Trod enc P W 0 (fun _ => true) true t v d ps) :
    ∃ zs : List Int, zs.length ≤ 9223372036854775807 ∧ (∀ p ∈ zs, -9223372036854775808 ≤ p ∧ p ≤ 9223372036854775807) ∧ Ev.R W Ev.Mem.start W v (.list (intsA zs) .none) := by
  obtain ⟨fuel, hf⟩ := h
  unfold Value.okWide at hok
  rw [ht] at hok
  simp only at hok
  unfold Cell.okWide at hok
  rw [ht] at hok
  rcases ChangeShapes.open_ints ht he hc hf with ⟨h1, _⟩ | ⟨a, len, cap, zs, h1, _, hl, hm, hz, _, hcell, hw⟩
  · have hv : v = .slice none 0 0 := by cases v <;> first | (exfalso; simp [Cell.ok, ht] at hok; done) | (simpa [Value.cells] using h1)
    subst hv
    exact ⟨[], Nat.zero_le _, (fun _ h => by cases h), Ev.R.nil (fun id => by simp)⟩
  · have hv : v = .slice (some a) len cap := by cases v <;> first | (exfalso; simp [Cell.ok, ht] at hok; done) | (simpa [Value.cells] using h1)
    subst hv
    have hsp : a.spot = none := by
      simp only [Cell.ok, ht] at hok
      exact hok.2.2.2.1
    obtain ⟨b, off, sp⟩ := a
    simp only at hsp
    subst hsp
    have hz' : zs.length = cap := hz
    refine ⟨zs.take len, ?_, ?_, ?_⟩
    · have := hm; unfold maxLen at this; simp; omega
    · intro p hp
      have := hw p (List.mem_of_mem_take hp)
      simp [Lit.wf, IntKind.min, IntKind.max, IntKind.signed, IntKind.bits] at this
      omega
    · have hlen : (intsA (zs.take len)).length = len := by simp [intsA]; omega
      have := Ev.R.list (w0 := W) (M := Ev.Mem.start) (w := W) (b := b) (off := off) (cap := cap) (xs := intsA (zs.take len)) (o := .none) 1 (fun i => .int .i64 (zs.getD i 0)) (by rw [hlen]; exact hl) hm
        (fun i hi => ⟨rfl, fun j hj => by
          rw [hlen] at hi
          obtain rfl : j = 0 := by omega
          have hc := hcell i (by omega)
          have ea : (⟨b, off, none⟩ : Addr).add i = ⟨b, off + i, none⟩ := by unfold Addr.add; split <;> simp_all
          rw [ea] at hc
          simp only [Nat.mul_one, Nat.add_zero]
          exact ⟨.inl (World.block_lt_of_cell? W _ hc), hc⟩⟩) (fun i hi => by
          rw [hlen] at hi
          simp only [intsA, List.getElem_map, List.getElem_take]
          rw [show zs.getD i 0 = zs[i] from by simp [List.getD, List.getElem?_eq_getElem (show i < zs.length by omega)]]
          exact .flat rfl) trivial
      rw [hlen] at this
      exact this

theorem texts_own : ownKnob Tryd.prog.godebug = none := by kernel_rfl
/-- The settled world, the two variables holding what their initialisers lay. -/
noncomputable def textsWorld (os : Os) : World :=
  let w0 := World.holding Tryd.prog os ⟨#[], #[], []⟩
  let put (h : Array Obj) (g : Nat) (cs : Array Value) : Array Obj := h.modify g fun
    | .cells _ t frozen => .cells cs t frozen
    | o => o
  let h1 := put w0.heap 0 (Lib.firstTab.map fun z => Value.int .u8 z).toArray
  let h2 := put h1 1 ((List.range 16).flatMap fun i => [Value.int .u8 (Lib.accLo i), Value.int .u8 (Lib.accHi i)]).toArray
  { w0 with heap := h2 }
theorem texts_laid_met (os : Os) (args : Array Value) : laidMet Tryd.prog Rows.charsetTextsRow.laid ((textsWorld os).forCall (fun _ _ => 0) ⟨#[], args, []⟩).memory :=
  (LaidIn.of_run (l := Rows.charsetTextsRow.laid) [1, 0] 8 (by kernel_rfl) (by kernel_rfl) (by kernel_rfl) (by kernel_rfl)).met

abbrev textsSpec : OpenSpec := OpenSpec.ofChange Rows.charsetTextsSpec
theorem texts_witness (os : Os) {H : Type} (enc : TypeId × Value → H) :
    textsSpec.preRow enc Tryd.prog Tryd.f11 Rows.charsetTextsRow.domain false Rows.charsetTextsRow.laid ((textsWorld os).forCall (fun _ _ => 0) ⟨#[], #[Value.slice none 0 0], []⟩).memory #[Value.slice none 0 0] := by
  have hw : (DataW.whole enc Tryd.prog ((textsWorld os).forCall (fun _ _ => 0) ⟨#[], #[Value.slice none 0 0], []⟩).memory Tryd.f11.params.toList textsSpec.vars false (#[Value.slice none 0 0]).toList 8).map (fun x => (x.1, x.2.1)) =
      some ([.nil], []) := by kernel_rfl
  obtain ⟨⟨x1, x2, x3⟩, hx, hx1⟩ := Option.map_eq_some_iff.1 hw
  simp only [Prod.mk.injEq] at hx1
  obtain ⟨rfl, rfl⟩ := hx1
  exact OpenSpec.preRow_of_cond 8 hx (by kernel_rfl) (fun k hk => by cases hk) (by kernel_rfl) (texts_laid_met os _)

set_option maxRecDepth 100000 in
set_option maxHeartbeats 2000000 in
theorem texts_lifted (os : Os) (started : os.Started) (H : Type) (enc : TypeId × Value → H) (F : Stop.Interp) :
    ReturnsInHanded {} Tryd.checked os 11 .any (textsSpec.preRow enc Tryd.prog Tryd.f11 Rows.charsetTextsRow.domain false Rows.charsetTextsRow.laid) ((textsSpec.at F).post enc Tryd.prog Tryd.f11 false true false false) := by
  refine returnsInHanded_of_row (C := Tryd.checked) (s := textsSpec) texts_own started (by kernel_rfl) Tryd.func11
    (witness_row_atRef (enc := enc) (C := Tryd.checked) false (textsWorld os) #[Value.slice none 0 0] rfl (by kernel_rfl) (by kernel_rfl) (by kernel_rfl) (texts_witness os enc)) ?_
  intro W base args ds gs before hval0 hW _ _ _ hL _ _
  have hval : ∀ (j : Nat) t v, Tryd.f11.params[j]? = some t → args[j]? = some v → Value.okWide Tryd.prog W .any base t v := hval0
  have hW' := hW
  obtain ⟨p, q, hA0, hV0, rfl, _, _⟩ := hW
  have hA : DataW.TrodAll enc Tryd.prog W 0 (fun _ => true) true Tryd.f11.params.toList args.toList ds p := hA0
  rw [Tryd.params11] at hA hval
  obtain ⟨v0, d0, rfl, rfl, h0⟩ := trodAll_one hA
  obtain ⟨rfl, rfl⟩ := trodVars_none hV0
  have hwt := hA.lt
  have hok := hval 0 23 v0 rfl rfl
  obtain ⟨ps, hpn, hpb, hR⟩ : ∃ ps : List Int, ps.length ≤ 9223372036854775807 ∧ (∀ p ∈ ps, -9223372036854775808 ≤ p ∧ p ≤ 9223372036854775807) ∧ Ev.R W Ev.Mem.start W v0 (.list (intsA ps) .none) := open_intlist Tryd.underlying23 Tryd.underlying3 (by kernel_rfl) hok h0
  clear hA0 hV0 hval0
  have htab : Lib.Utf8Tabs 0 1 W :=
    utf8Tabs_of_readsT (U8Types.of196 Tryd.laysValid) ⟨by kernel_rfl, by kernel_rfl, by kernel_rfl, by kernel_rfl, by kernel_rfl, by kernel_rfl, by kernel_rfl⟩ (Lib.laidMet.reads hL (.tail _ (.head _))) (Lib.laidMet.reads hL (.head _))
  have hc := Ev.calls_of_acalls (Texts_law W [] [] [] htab ps .none hpn hpb) (vals := #[v0]) ⟨rfl, fun i h1 h2 => by
    obtain rfl : i = 0 := by simp at h2; exact h2
    exact hR⟩
  refine hc.mono ?_
  rintro e W' ⟨rfl, bel⟩
  have e1 : (textsSpec.at F).fn H ([d0] ++ []) = { results := [.lit (.bool true)], args := [d0] } := rfl
  refine ⟨_, rfl, _, _, _, [], p, [], hW', ?_, ?_, ?_, bel.frame _, fun h => by cases h⟩
  · rw [e1]; exact trodAll_mk1 (shut_bool Tryd.underlying4 _)
  · rw [e1]; exact trodAll_mk1 (Below.trod (by kernel_rfl) (by kernel_rfl) (of_decide_eq_true (by kernel_rfl)) h0 bel hwt)
  · rw [e1]; rfl

theorem texts_holds : Rows.CharsetTextsSaid :=
  OpenClaim.holds_of_cond 11 Tryd.f11 rfl rfl rfl rfl rfl rfl rfl ⟨rfl, rfl, rfl, rfl, rfl⟩ rfl rfl rfl rfl rfl (by kernel_rfl) Tryd.func11 (by kernel_rfl)
    (of_decide_eq_true (by kernel_rfl)) (by unfold Func.isWrapper; rw [if_neg (of_decide_eq_false (by kernel_rfl))]; exact ⟨rfl, rfl⟩)
    (fun os started H enc _ F0 => by rw [OpenClaim.pre_eq_preRow]; exact texts_lifted os started H enc F0)
end Go.Proofs.YthlhbbejcmbpoaaDoor
