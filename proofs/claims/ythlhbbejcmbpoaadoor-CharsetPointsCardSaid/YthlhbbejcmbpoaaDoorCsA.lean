/-
  The charset package, part one: what its types are; the contracts of the library's functions, told of abstract states.
-/
import Derived.Test.YthlhbbejcmbpoaaDoorEvI
import Derived.Test.YthlhbbejcmbpoaaDoorProg
import Derived.Test.YthlhbbejcmbpoaaDoorShelf
namespace Go.Proofs.YthlhbbejcmbpoaaDoor
open Go Go.RowKit Go.Ev Go.Shelf

@[go_sem] theorem arrT_23 : arrT Tryd.prog 23 = none := by kernel_rfl
@[go_sem] theorem arrT_9 : arrT Tryd.prog 9 = none := by kernel_rfl
@[go_sem] theorem boolT_4 : boolT Tryd.prog 4 = true := by kernel_rfl
@[go_sem] theorem bytesT_21 : bytesT Tryd.prog 21 = false := by kernel_rfl
@[go_sem] theorem bytesT_3 : bytesT Tryd.prog 3 = false := by kernel_rfl
@[go_sem] theorem bytesT_5 : bytesT Tryd.prog 5 = false := by kernel_rfl
@[go_sem] theorem bytesT_55 : bytesT Tryd.prog 55 = true := by kernel_rfl
@[go_sem] theorem bytesT_9 : bytesT Tryd.prog 9 = false := by kernel_rfl
@[go_sem] theorem elT_23 : elT Tryd.prog 23 = some (3, 1, false, 8) := by kernel_rfl
@[go_sem] theorem elT_55 : elT Tryd.prog 55 = some (5, 1, false, 1) := by kernel_rfl
@[go_sem] theorem elT_9 : elT Tryd.prog 9 = none := by kernel_rfl
@[go_sem] theorem intT_21 : intT Tryd.prog 21 = some .i32 := by kernel_rfl
@[go_sem] theorem intT_3 : intT Tryd.prog 3 = some .i64 := by kernel_rfl
@[go_sem] theorem intT_5 : intT Tryd.prog 5 = some .u8 := by kernel_rfl
@[go_sem] theorem intT_55 : intT Tryd.prog 55 = none := by kernel_rfl
@[go_sem] theorem intT_9 : intT Tryd.prog 9 = none := by kernel_rfl
@[go_sem] theorem strT_21 : strT Tryd.prog 21 = false := by kernel_rfl
@[go_sem] theorem strT_23 : strT Tryd.prog 23 = false := by kernel_rfl
@[go_sem] theorem strT_3 : strT Tryd.prog 3 = false := by kernel_rfl
@[go_sem] theorem strT_5 : strT Tryd.prog 5 = false := by kernel_rfl
@[go_sem] theorem strT_55 : strT Tryd.prog 55 = false := by kernel_rfl
@[go_sem] theorem strT_9 : strT Tryd.prog 9 = true := by kernel_rfl
@[go_sem] theorem tyT_23 : tyT Tryd.prog 23 = some (1, false) := by kernel_rfl
@[go_sem] theorem tyT_24 : tyT Tryd.prog 24 = some (1, false) := by kernel_rfl
@[go_sem] theorem tyT_3 : tyT Tryd.prog 3 = some (1, false) := by kernel_rfl
@[go_sem] theorem tyT_55 : tyT Tryd.prog 55 = some (1, false) := by kernel_rfl
@[go_sem] theorem tyT_9 : tyT Tryd.prog 9 = some (1, false) := by kernel_rfl
@[go_sem] theorem zeroT_23 : zeroT Tryd.prog 23 = some [.list [] .full] := by kernel_rfl
@[go_sem] theorem zeroT_24 : zeroT Tryd.prog 24 = some [.val (.int .i64 0)] := by kernel_rfl
@[go_sem] theorem zeroT_3 : zeroT Tryd.prog 3 = some [.val (.int .i64 0)] := by kernel_rfl
@[go_sem] theorem zeroT_5 : zeroT Tryd.prog 5 = some [.val (.int .u8 0)] := by kernel_rfl
@[go_sem] theorem zeroT_55 : zeroT Tryd.prog 55 = some [.list [] .full] := by kernel_rfl
@[go_sem] theorem zeroT_9 : zeroT Tryd.prog 9 = some [.val (.string ⟨#[]⟩)] := by kernel_rfl
theorem mix : Tryd.prog.follows .mixedOrders = true := by kernel_rfl


section
variable (w0 : World) (st : St)
theorem valid_at (hT : Lib.Utf8Tabs 0 1 w0) (s : ByteArray) (hs : s.size ≤ maxLen) : ACalls Tryd.prog w0 40 [.val (.string s)] st fun v s' => v = .val (.bool (Lib.validD s.data.toList)) ∧ s' = st :=
  acalls_below (enters_some Tryd.func40 rfl (by decide)) rfl fun M w vals hb hrow => by
    have := row_vals (us := [.string s]) hrow
    subst this
    exact Any.utf8_ValidString Tryd.laysValid s w hs (Utf8Tabs_below hT hb)
theorem decode_at (hT : Lib.Utf8Tabs 0 1 w0) (s : ByteArray) : ACalls Tryd.prog w0 38 [.val (.string s)] st fun v s' => v = .tup [.val (.int .i32 (Lib.decodeGo s).1), .val (.int .i64 (Lib.decodeGo s).2)] ∧ s' = st :=
  acalls_below_tup (rs := [.int .i32 (Lib.decodeGo s).1, .int .i64 (Lib.decodeGo s).2]) (enters_some Tryd.func38 rfl (by decide)) (by simp [flatV]) fun M w vals hb hrow => by
    have := row_vals (us := [.string s]) hrow
    subst this
    exact Tryd.utf8_DecodeRuneInString s w (Utf8Tabs_below hT hb)
theorem runeLen_at (r : Int) : ACalls Tryd.prog w0 42 [.val (.int .i32 r)] st fun v s' => v = .val (.int .i64 (Lib.runeLen r)) ∧ s' = st :=
  acalls_below (enters_some Tryd.func42 rfl (by decide)) rfl fun M w vals hb hrow => by
    have := row_vals (us := [.int .i32 r]) hrow
    subst this
    exact (Tryd.utf8_RuneLen r w).mono fun e w' h => ⟨h.1, by rw [h.2]; exact .refl _ _⟩
theorem count_at (s : ByteArray) (hs : s.size < 9223372036854775807) : ACalls Tryd.prog w0 45 [.val (.string s)] st fun v s' => v = .val (.int .i64 (Lib.runeCount s)) ∧ s' = st :=
  acalls_below (enters_some Tryd.func45 rfl (by decide)) rfl fun M w vals hb hrow => by
    have := row_vals (us := [.string s]) hrow
    subst this
    refine (Tryd.utf8_RuneCountInString s w hs).mono fun e w' h => ⟨h.1, ?_⟩
    obtain ⟨_, pos, rfl⟩ := h
    exact (Below.refl _ _).alloc (Nat.le_refl _) _
end
end Go.Proofs.YthlhbbejcmbpoaaDoor
