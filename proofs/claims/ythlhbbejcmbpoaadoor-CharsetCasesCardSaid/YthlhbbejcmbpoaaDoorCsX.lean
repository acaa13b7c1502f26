/-
  Text, FromLatin, Lower and Upper told of abstract states; the plain mathematics of encodings.
-/
import Derived.Test.YthlhbbejcmbpoaaDoorCsW2
import Derived.Test.YthlhbbejcmbpoaaDoorCsH2
import Derived.Test.YthlhbbejcmbpoaaDoorCsO
import Derived.Test.YthlhbbejcmbpoaaDoorCsJ
namespace Go.Proofs.YthlhbbejcmbpoaaDoor
open Go Go.RowKit Go.Ev

theorem FromLatin_at (w0 : World) (st : St) (s : ByteArray) (hs : s.size ≤ 35184372088000) : ACalls Tryd.prog w0 35 [.val (.string s)] st fun v s' => v = .val (.string ⟨(latinL s.data.toList).toArray⟩) ∧ s' = st :=
  acalls_below (enters_some Tryd.func35 rfl (by decide)) (by
    have := latin_length s.data.toList
    have e : s.data.toList.length = s.size := by simp
    refine decide_eq_true ?_
    show (latinL s.data.toList).toArray.size ≤ maxLen
    unfold maxLen
    rw [List.size_toArray]; omega) fun M w vals hb hrow => by
    have := row_vals (us := [.string s]) hrow
    subst this
    exact FromLatin_walk s w hs
theorem shifted_at (w0 : World) (st : St) (s : ByteArray) (hs : s.size ≤ maxLen) (first dist : Int) (hf : first = 65 ∧ dist = 32 ∨ first = 97 ∧ dist = -32) :
    ACalls Tryd.prog w0 41 [.val (.string s), .val (.int .u8 first), .val (.int .i64 dist)] st fun v s' => v = .val (.string ⟨(s.data.toList.map (shiftB first dist)).toArray⟩) ∧ s' = st :=
  acalls_below (enters_some Tryd.func41 rfl (by decide)) (by
    have e : s.data.toList.length = s.size := by simp
    refine decide_eq_true ?_
    show (s.data.toList.map (shiftB first dist)).toArray.size ≤ maxLen
    rw [List.size_toArray, List.length_map, e]; exact hs) fun M w vals hb hrow => by
    have := row_vals (us := [.string s, .int .u8 first, .int .i64 dist]) hrow
    subst this
    exact shifted_walk s first dist w hs hf

set_option maxHeartbeats 4000000 in
theorem Text_nil (w : World) : Calls Tryd.prog 32 #[.slice none 0 0] w fun e w' => e = .returned (.tuple #[.string (textS []), .int .i64 (textE [])]) ∧ Below w.heap.size w w' := by
  have H1 : textS [] = ⟨#[]⟩ := rfl
  have H2 : textE [] = 0 := rfl
  rw [H1, H2]
  clear H1 H2
  go_enter Tryd.func32, Tryd.ntmps32
  go_wp2
  go_loopw [9] (fun i wr => i = .int .i64 0 ∧ Lib.IsBuilderF 60 5 w.heap.size w.heap.size (Lib.byteCells []) wr ∧ Below w.heap.size w wr) (fun i wr => 0)
  case atStart => exact ⟨rfl, Lib.IsBuilderF.of (Lib.fresh_isBuilder 60 5 w), (Below.refl _ w).alloc (Nat.le_refl _) _⟩
  case round =>
    obtain ⟨rfl, hI, hbw⟩ := hrel
    have hsz := hbw.size
    go_wp2_with (go_at_call 44; refine (Tryd.Builder_String_any_k w.heap.size w.heap.size _ _ hI (by omega)).mono ?_)
    rintro e W1 ⟨rfl, _, b1, _⟩
    go_wp2
    go_ret2
    exact ⟨rfl, hbw.trans b1⟩
def intsA (ps : List Int) : List AV := ps.map fun p => .val (.int .i64 p)
theorem intsA_cells (ps : List Int) : ∀ y ∈ intsA ps, y.cells.length = 1 := by
  intro y hy
  obtain ⟨p, _, rfl⟩ := List.mem_map.1 hy
  rfl
theorem Text_at (w0 : World) (st : St) (ps : List Int) (o : Ev.Own) (hn : ps.length ≤ 35184372088000) (hb : ∀ p ∈ ps, -9223372036854775808 ≤ p ∧ p ≤ 9223372036854775807) :
    ACalls Tryd.prog w0 32 [.list (intsA ps) o] st fun v s' => v = .tup [.val (.string (textS ps)), .val (.int .i64 (textE ps))] ∧ s' = st :=
  acalls_below_tup (rs := [.string (textS ps), .int .i64 (textE ps)]) (enters_some Tryd.func32 rfl (by decide)) (by
    intro r hr
    simp only [List.mem_cons, List.not_mem_nil, or_false] at hr
    rcases hr with rfl | rfl
    · have := encL_length ps
      unfold textS
      refine decide_eq_true ?_
      unfold maxLen
      split
      · show (encL ps).toArray.size ≤ _
        rw [List.size_toArray]; omega
      · exact Nat.zero_le _
    · rfl) fun M w vals hbel hrow => by
    have hlen : (intsA ps).length = ps.length := by simp [intsA]
    obtain ⟨v, rfl⟩ : ∃ v, vals = #[v] := Array.size_eq_one_iff.1 hrow.1
    have hR := hrow.2 0 (by simp) (by simp)
    simp only [List.getElem_toArray, List.getElem_cons_zero] at hR
    obtain ⟨us, hu, hv⟩ := hR.list_open (intsA_cells ps)
    rcases hv with ⟨rfl, h0, _⟩ | ⟨b, off, cap, sz', rfl, _, _, _, hc⟩
    · have : ps = [] := by simpa [intsA] using h0
      subst this
      exact Text_nil w
    · rw [hlen]
      have hcell : ∀ i (h : i < ps.length), w.cell? ⟨b, off + i, none⟩ = some (.int .i64 ps[i]) := by
        intro i h
        have h1 := hc i (by omega) 0 (by omega)
        simp only [Nat.mul_one, Nat.add_zero] at h1
        have h2 := (hu i (by omega)).2
        simp only [intsA, List.getElem_map] at h2
        rw [h1, h2.val_inv.1]; rfl
      refine Text_walk ps w b off cap hn hb hcell ?_
      by_cases h0 : ps.length = 0
      · exact .inl h0
      · exact .inr (World.block_lt_of_cell? w _ (hcell 0 (by omega)))

/-! ### mathematics -/
theorem encL_pts (l : List UInt8) (hv : Lib.validD l = true) : encL ((ptsN l).map fun p : Nat => (p : Int)) = l := by
  revert hv
  refine runes_ind (C := fun l => Lib.validD l = true → encL ((ptsN l).map fun p : Nat => (p : Int)) = l) ?_ ?_ ?_ l
  · intro _; rw [ptsN, runesOf_nil]; rfl
  · intro l hne hb hv
    rw [(valid_next hne hv).1] at hb; cases hb
  · intro l hne hb ih hv
    obtain ⟨_, h2, h3⟩ := valid_next hne hv
    have := ih h2
    rw [ptsN_step hne hb, List.map_cons]
    simp only [encL, List.flatMap_cons] at this ⊢
    rw [this, h3]
theorem runes_enc (ps : List Int) (h : ∀ p ∈ ps, isPt p = true) : runesOf (encL ps) = ps.map (fun p => (p.toNat, (Lib.encodeRune p).length)) := by
  induction ps with
  | nil => exact runesOf_nil
  | cons p ps ih =>
    have hp := h p (by simp)
    obtain ⟨hb, h1, h2⟩ := dec_enc p hp (encL ps)
    have e : encL (p :: ps) = Lib.encodeRune p ++ encL ps := by simp [encL]
    have hl := enc_length p hp
    have hne : Lib.encodeRune p ++ encL ps ≠ [] := by
      intro q
      have : (Lib.encodeRune p).length = 0 := by rw [(List.append_eq_nil_iff.1 q).1]; rfl
      rw [hl] at this
      split at this <;> (try split at this) <;> (try split at this) <;> omega
    rw [e, runesOf_step hne hb, h2, List.drop_left, ih (fun q hq => h q (by simp [hq]))]
    simp only [List.map_cons, List.cons.injEq, and_true]
    exact Prod.ext (by simp only; omega) h2
theorem valid_enc (ps : List Int) (h : ∀ p ∈ ps, isPt p = true) : Lib.validD (encL ps) = true := by
  rw [valid_tot, runes_enc ps h]
  refine decide_eq_true ?_
  clear h
  induction ps with
  | nil => rfl
  | cons p ps ih => simp only [List.map_cons, tot_cons, ih, encL, List.flatMap_cons, List.length_append]
theorem latin_enc (l : List UInt8) : latinL l = encL (l.map fun b => (b.toNat : Int)) := by
  simp [latinL, encL, List.flatMap_map]
theorem byte_pt (b : UInt8) : isPt (b.toNat : Int) = true := by
  have := b.toNat_lt
  simp [isPt]; omega

/-- A change of letters keeps what begins where. -/
theorem decodeN_same {n b0 b1 b2 b3 c1 c2 c3 : Nat} (h0 : 128 ≤ b0) (h1 : b1 = c1 ∨ (b1 < 128 ∧ c1 < 128)) (h2 : b2 = c2 ∨ (b2 < 128 ∧ c2 < 128)) (h3 : b3 = c3 ∨ (b3 < 128 ∧ c3 < 128)) :
    Lib.decodeN n b0 c1 c2 c3 = Lib.decodeN n b0 b1 b2 b3 := by
  unfold Lib.decodeN
  rw [if_neg (show ¬ b0 < 128 by omega), if_neg (show ¬ b0 < 128 by omega)]
  by_cases q1 : b0 / 32 = 6 ∧ (1 < n ∧ b1 / 64 = 2)
  · have e : b1 = c1 := by omega
    subst e
    rw [if_pos q1, if_pos q1]
  · rw [if_neg q1, if_neg (show ¬ (b0 / 32 = 6 ∧ (1 < n ∧ c1 / 64 = 2)) by omega)]
    by_cases q2 : b0 / 16 = 14 ∧ (1 < n ∧ b1 / 64 = 2) ∧ (2 < n ∧ b2 / 64 = 2)
    · have e : b1 = c1 := by omega
      have e' : b2 = c2 := by omega
      subst e; subst e'
      rw [if_pos q2, if_pos q2]
    · rw [if_neg q2, if_neg (show ¬ (b0 / 16 = 14 ∧ (1 < n ∧ c1 / 64 = 2) ∧ (2 < n ∧ c2 / 64 = 2)) by omega)]
      by_cases q3 : b0 / 8 = 30 ∧ (1 < n ∧ b1 / 64 = 2) ∧ (2 < n ∧ b2 / 64 = 2) ∧ (3 < n ∧ b3 / 64 = 2)
      · have e : b1 = c1 := by omega
        have e' : b2 = c2 := by omega
        have e'' : b3 = c3 := by omega
        subst e; subst e'; subst e''
        rw [if_pos q3]
      · rw [if_neg q3, if_neg (show ¬ (b0 / 8 = 30 ∧ (1 < n ∧ c1 / 64 = 2) ∧ (2 < n ∧ c2 / 64 = 2) ∧ (3 < n ∧ c3 / 64 = 2)) by omega)]
def Keeps (f : UInt8 → UInt8) : Prop := ∀ b : UInt8, f b = b ∨ (b.toNat < 128 ∧ (f b).toNat < 128)
theorem byteN_map {f : UInt8 → UInt8} (hf : Keeps f) (l : List UInt8) (i : Nat) : byteN l i = byteN (l.map f) i ∨ (byteN l i < 128 ∧ byteN (l.map f) i < 128) := by
  unfold byteN
  simp only [List.getD, List.getElem?_map]
  cases l[i]? with
  | none => exact .inl rfl
  | some b =>
    simp only [Option.map_some, Option.getD_some]
    rcases hf b with h | h
    · rw [h]; exact .inl rfl
    · exact .inr h
theorem decode_map {f : UInt8 → UInt8} (hf : Keeps f) (l : List UInt8) : bad (l.map f) = bad l ∧ (Lib.decodeL (l.map f)).2 = (Lib.decodeL l).2 := by
  have e1 : Lib.decodeL (l.map f) = Lib.decodeN l.length (byteN (l.map f) 0) (byteN (l.map f) 1) (byteN (l.map f) 2) (byteN (l.map f) 3) := by rw [Lib.decodeL_N, List.length_map]; rfl
  have e2 : Lib.decodeL l = Lib.decodeN l.length (byteN l 0) (byteN l 1) (byteN l 2) (byteN l 3) := by rw [Lib.decodeL_N]; rfl
  have h0 := byteN_map hf l 0
  by_cases c : byteN l 0 < 128
  · have c' : byteN (l.map f) 0 < 128 := by omega
    have a1 : Lib.decodeL (l.map f) = (byteN (l.map f) 0, 1) := by rw [e1]; unfold Lib.decodeN; rw [if_pos c']
    have a2 : Lib.decodeL l = (byteN l 0, 1) := by rw [e2]; unfold Lib.decodeN; rw [if_pos c]
    unfold bad
    rw [a1, a2]
    refine ⟨?_, rfl⟩
    rw [decide_eq_false (by simp only; omega), decide_eq_false (by simp only; omega)]
  · have q : byteN l 0 = byteN (l.map f) 0 := by omega
    have := decodeN_same (n := l.length) (b0 := byteN l 0) (by omega) (byteN_map hf l 1) (byteN_map hf l 2) (byteN_map hf l 3)
    have e3 : Lib.decodeL (l.map f) = Lib.decodeL l := by rw [e1, e2, ← q, this]
    unfold bad
    rw [e3]; exact ⟨rfl, rfl⟩
theorem tot_map {f : UInt8 → UInt8} (hf : Keeps f) (l : List UInt8) : tot (runesOf (l.map f)) = tot (runesOf l) := by
  refine runes_ind (C := fun l => tot (runesOf (l.map f)) = tot (runesOf l)) rfl ?_ ?_ l
  · intro l hne hb
    rw [runesOf_bad hb, runesOf_bad (by rw [(decode_map hf l).1]; exact hb)]
  · intro l hne hb ih
    obtain ⟨h1, h2⟩ := decode_map hf l
    rw [runesOf_step hne hb, runesOf_step (by simpa using hne) (by rw [h1]; exact hb), tot_cons, tot_cons, h2, ← List.map_drop, ih]
theorem first_map {f : UInt8 → UInt8} (hf : Keeps f) (l : List UInt8) : firstOf (l.map f) = firstOf l := by
  unfold firstOf
  rw [valid_tot, valid_tot, tot_map hf, List.length_map]
theorem keeps_lower : Keeps (shiftB 65 32) := fun b => by
  have := b.toNat_lt
  unfold shiftB
  by_cases q : (65 : Int) ≤ b.toNat ∧ (b.toNat : Int) - 65 < 26
  · rw [if_pos q]; right; simp; omega
  · rw [if_neg q]; exact .inl rfl
theorem keeps_upper : Keeps (shiftB 97 (-32)) := fun b => by
  have := b.toNat_lt
  unfold shiftB
  by_cases q : (97 : Int) ≤ b.toNat ∧ (b.toNat : Int) - 97 < 26
  · rw [if_pos q]; right; simp; omega
  · rw [if_neg q]; exact .inl rfl
end Go.Proofs.YthlhbbejcmbpoaaDoor
