/-
  The bridge: from the walk over abstract states to the machine's call, at a world in which nothing is the call's own.
-/
import Derived.Test.YthlhbbejcmbpoaaDoorEvI
namespace Go.Ev
open Go Go.RowKit

def Mem.start : Mem := ⟨0, 0, fun _ => 0, fun _ => 0, fun _ => 0, fun _ => 0, fun _ => 0, fun _ => 0, 0, fun _ => 0⟩
theorem start_rel (W : World) : RelSt W Mem.start ⟨[], [], []⟩ W where
  below := .refl _ _
  N := rfl
  NR := rfl
  top := fun _ _ => rfl
  inj := fun _ _ h => absurd h (Nat.not_lt_zero _)
  box := fun _ _ h => by simp at h
  row := fun _ _ _ h => by simp at h
  rowinj := fun _ _ h => absurd h (Nat.not_lt_zero _)
  loop := ⟨rfl, fun _ _ h => absurd h (Nat.not_lt_zero _), fun _ _ h => by simp at h⟩
theorem calls_of_acalls {P : Program} {f : FuncId} {W : World} {vals : Array Value} {args : List AV} {r : Value} (h : ACalls P W f args ⟨[], [], []⟩ fun v st => v = .val r ∧ st = ⟨[], [], []⟩) (hr : RowR W Mem.start W vals args) :
    Calls P f vals W fun e w' => e = .returned r ∧ Below W.heap.size W w' :=
  (h.2 Mem.start W vals (start_rel W) hr).mono fun en w' ⟨v, M', a, st, h1, ⟨h2, _⟩, _, h4, h5⟩ => by
    subst h2
    have := h5.val_inv.1
    subst this
    exact ⟨h1, h4.below⟩
theorem row_flat {W : World} {us : List Value} (h : ∀ u ∈ us, flatV u = true) : RowR W Mem.start W us.toArray (us.map .val) :=
  ⟨by simp, fun i h1 h2 => by simp only [List.getElem_toArray, List.getElem_map]; exact .flat (h _ (List.getElem_mem _))⟩
end Go.Ev
