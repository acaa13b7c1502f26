/-
  FromLatin and Text, walked: what they write into a strings.Builder.
-/
import Derived.Test.YthlhbbejcmbpoaaDoorShelfWR
import Derived.WalkKit
import Derived.BigCall
namespace Go.Proofs.YthlhbbejcmbpoaaDoor
open Go Go.RowKit
def latinL (l : List UInt8) : List UInt8 := l.flatMap fun b => Lib.encodeRune (b.toNat : Int)
theorem latin_length (l : List UInt8) : (latinL l).length ≤ 4 * l.length := by
  induction l with
  | nil => exact Nat.le_refl _
  | cons b l ih =>
    have h1 := Lib.runeCells_le (b.toNat : Int)
    rw [Lib.runeCells_length] at h1
    simp only [latinL, List.flatMap_cons, List.length_append, List.length_cons] at ih ⊢
    omega
theorem latin_snoc (s : ByteArray) (k : Nat) (h : k < s.size) : latinL (s.data.toList.take (k + 1)) = latinL (s.data.toList.take k) ++ Lib.encodeRune (s[k].toNat : Int) := by
  have : s.data.toList.take (k + 1) = s.data.toList.take k ++ [s[k]] := by
    rw [List.take_succ_eq_append_getElem (by simpa using h)]; rfl
  rw [this]; simp [latinL]

set_option maxHeartbeats 4000000 in
set_option maxRecDepth 1000000 in
theorem FromLatin_walk (s : ByteArray) (w : World) (hs : s.size ≤ 35184372088000) :
    Calls Tryd.prog 35 #[.string s] w fun e w' => e = .returned (.string ⟨(latinL s.data.toList).toArray⟩) ∧ Below w.heap.size w w' := by
  go_enter Tryd.func35, Tryd.ntmps35
  go_wp2
  go_loopw [7] (fun i wr => ∃ k : Nat, k ≤ s.size ∧ i = .int .i64 k ∧ Lib.IsBuilderF 60 5 w.heap.size w.heap.size (Lib.byteCells (latinL (s.data.toList.take k))) wr ∧ Below w.heap.size w wr) (fun i wr => s.size - (intOf i).toNat)
  case atStart => exact ⟨0, Nat.zero_le _, rfl, Lib.IsBuilderF.of (Lib.fresh_isBuilder 60 5 w), (Below.refl _ w).alloc (Nat.le_refl _) _⟩
  case round =>
    obtain ⟨k, hk, rfl, hI, hbw⟩ := hrel
    have hsz := hbw.size
    by_cases hlt : k < s.size
    · have hll := latin_length (s.data.toList.take k)
      have htl : (s.data.toList.take k).length ≤ k := List.length_take_le _ _
      have hb : (s[k].toNat : Int) < 256 := by have := s[k].toNat_lt; omega
      go_wp2_with (go_at_call 43; refine (Tryd.Builder_WriteRune_k w.heap.size w.heap.size _ _ (by omega) (by omega) _ hI (by rw [Lib.byteCells_length]; omega) (by omega)).mono ?_)
      rintro e W1 ⟨rfl, h1, b1, k1⟩
      go_wp2
      go_roundw
      case rel =>
        refine ⟨k + 1, by omega, by go_num, ?_, hbw.trans b1⟩
        rw [latin_snoc s k hlt, Lib.byteCells_append, Lib.byteCells_encodeRune]; exact Or.inr h1
      case measure => simp [intOf]; omega
    · go_wp2_with (go_at_call 44; refine (Tryd.Builder_String_any_k w.heap.size w.heap.size _ _ hI (by omega)).mono ?_)
      rintro e W1 ⟨rfl, _, b1, _⟩
      go_wp2
      go_ret
      refine ⟨?_, hbw.trans b1⟩
      rw [List.take_of_length_le (by simp; omega)]
      rfl
end Go.Proofs.YthlhbbejcmbpoaaDoor
