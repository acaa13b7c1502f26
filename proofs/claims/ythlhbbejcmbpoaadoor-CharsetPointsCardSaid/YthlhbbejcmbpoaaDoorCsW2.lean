/-
  Text, walked: what it writes into a strings.Builder; Lower and Upper, walked.
-/
import Derived.Test.YthlhbbejcmbpoaaDoorCsW
import Derived.Test.YthlhbbejcmbpoaaDoorCsB
import Derived.Lib.ConvBytes
import Derived.Laws.IdiomStrings
namespace Go.Proofs.YthlhbbejcmbpoaaDoor
open Go Go.RowKit
theorem hid {p : Prop} (h : p) : Hid p := h
def encL (ps : List Int) : List UInt8 := ps.flatMap Lib.encodeRune
theorem encL_length (ps : List Int) : (encL ps).length ≤ 4 * ps.length := by
  induction ps with
  | nil => exact Nat.le_refl _
  | cons b l ih =>
    have h1 := Lib.runeCells_le b
    rw [Lib.runeCells_length] at h1
    simp only [encL, List.flatMap_cons, List.length_append, List.length_cons] at ih ⊢
    omega
theorem encL_snoc (ps : List Int) (k : Nat) (h : k < ps.length) : encL (ps.take (k + 1)) = encL (ps.take k) ++ Lib.encodeRune ps[k] := by
  rw [List.take_succ_eq_append_getElem h]; simp only [encL, List.flatMap_append, List.flatMap_cons, List.flatMap_nil, List.append_nil]
/-- What Text answers. -/
def textS (ps : List Int) : ByteArray := if ∀ p ∈ ps, isPt p = true then ⟨(encL ps).toArray⟩ else ⟨#[]⟩
def textE (ps : List Int) : Int := if ∀ p ∈ ps, isPt p = true then 0 else 2
theorem isPoint_walk (p : Int) (w : World) : Calls Tryd.prog 39 #[.int .i64 p] w fun e w' => e = .returned (.bool (isPt p)) ∧ w = w' := by
  go_enter Tryd.func39, Tryd.ntmps39
  go_wp2
  all_goals
    go_ret
    refine ⟨?_, rfl⟩
    rw [isPt, Bool.decide_and, Bool.decide_and, Bool.decide_or]
    simp_all
    try omega
theorem text_bad {ps : List Int} {k : Nat} (hk : k < ps.length) (h : isPt ps[k] = false) : textS ps = ⟨#[]⟩ ∧ textE ps = 2 := by
  have : ¬ ∀ p ∈ ps, isPt p = true := fun q => by have := q _ (List.getElem_mem hk); rw [h] at this; cases this
  rw [textS, textE, if_neg this, if_neg this]; exact ⟨rfl, rfl⟩
set_option maxHeartbeats 4000000 in
set_option maxRecDepth 1000000 in
theorem Text_walk (ps : List Int) (w : World) (b off cap : Nat) (hn : ps.length ≤ 35184372088000) (hb : ∀ p ∈ ps, -9223372036854775808 ≤ p ∧ p ≤ 9223372036854775807)
    (hc : ∀ i (h : i < ps.length), w.cell? ⟨b, off + i, none⟩ = some (.int .i64 ps[i])) (hlt : ps.length = 0 ∨ b < w.heap.size) :
    Calls Tryd.prog 32 #[.slice (some ⟨b, off, none⟩) ps.length cap] w fun e w' => e = .returned (.tuple #[.string (textS ps), .int .i64 (textE ps)]) ∧ Below w.heap.size w w' := by
  go_enter Tryd.func32, Tryd.ntmps32
  go_wp2
  go_loopw [9] (fun i wr => ∃ k : Nat, k ≤ ps.length ∧ i = .int .i64 k ∧ (∀ p ∈ ps.take k, isPt p = true) ∧ Lib.IsBuilderF 60 5 w.heap.size w.heap.size (Lib.byteCells (encL (ps.take k))) wr ∧ Below w.heap.size w wr) (fun i wr => ps.length - (intOf i).toNat)
  case atStart => exact ⟨0, Nat.zero_le _, rfl, by simp, Lib.IsBuilderF.of (Lib.fresh_isBuilder 60 5 w), (Below.refl _ w).alloc (Nat.le_refl _) _⟩
  case round =>
    obtain ⟨k, hk, rfl, hall, hI, hbw⟩ := hrel
    have hsz := hbw.size
    by_cases hlt' : k < ps.length
    · have hll := encL_length (ps.take k)
      have htl : (ps.take k).length ≤ k := List.length_take_le _ _
      have hcell : wr.cell? ⟨b, off + k, none⟩ = some (.int .i64 ps[k]) := (hbw.cell (p := ⟨b, off + k, none⟩) (by show b < _; omega)).trans (hc k hlt')
      have hps := hb _ (List.getElem_mem hlt')
      have hsn := encL_snoc ps k hlt'
      have hbad := text_bad hlt'
      have hmem : ∀ p ∈ ps.take (k + 1), p ∈ ps.take k ∨ p = ps[k] := fun p hp => by
        rw [List.take_succ_eq_append_getElem hlt', List.mem_append, List.mem_singleton] at hp; exact hp
      obtain ⟨q, hq⟩ : ∃ q, ps[k] = q := ⟨_, rfl⟩
      rw [hq] at hcell hps hsn hbad hmem
      clear hq
      cases hpt : isPt q with
      | false =>
        obtain ⟨e1, e2⟩ := hbad hpt
        have H1 := hid e1
        have H2 := hid e2
        have Hp := hid hpt
        clear e1 e2 hbad hsn hmem hpt hall
        go_wp2_with (go_at_call 39; refine (isPoint_walk _ _).mono ?_)
        rintro e W1 ⟨rfl, rfl⟩
        rw [Hp.out]
        go_wp2
        go_ret2
        refine ⟨?_, hbw⟩
        rw [H1.out, H2.out]; rfl
      | true =>
        have hr := hpt
        simp only [isPt, decide_eq_true_eq] at hr
        have Hp := hid hpt
        have Hs := hid hsn
        clear hsn hpt hbad
        go_wp2_with (go_at_call 39; refine (isPoint_walk _ _).mono ?_)
        rintro e W1 ⟨rfl, rfl⟩
        rw [Hp.out]
        go_wp2_with (go_at_call 43; refine (Tryd.Builder_WriteRune_k w.heap.size w.heap.size _ _ (by omega) (by omega) _ hI (by rw [Lib.byteCells_length]; omega) (by omega)).mono ?_)
        rintro e W2 ⟨rfl, h1, b1, k1⟩
        go_wp2
        go_roundw
        case rel =>
          refine ⟨k + 1, by omega, by go_num, ?_, ?_, hbw.trans b1⟩
          · intro p hp
            rcases hmem p hp with h | rfl
            · exact hall p h
            · exact Hp.out
          · rw [Hs.out, Lib.byteCells_append, Lib.byteCells_encodeRune]; exact Or.inr h1
        case measure => simp [intOf]; omega
    · have hkk : k = ps.length := by omega
      subst hkk
      rw [List.take_length] at hall hI
      have e1 : textS ps = ⟨(encL ps).toArray⟩ := if_pos hall
      have e2 : textE ps = 0 := if_pos hall
      have H1 := hid e1
      have H2 := hid e2
      clear e1 e2 hall
      go_wp2_with (go_at_call 44; refine (Tryd.Builder_String_any_k w.heap.size w.heap.size _ _ hI (by omega)).mono ?_)
      rintro e W1 ⟨rfl, _, b1, _⟩
      go_wp2
      go_ret2
      refine ⟨?_, hbw.trans b1⟩
      rw [H1.out, H2.out]; rfl

/-- What shifted makes of a byte. -/
def shiftB (first dist : Int) (c : UInt8) : UInt8 := if first ≤ c.toNat ∧ c.toNat - first < 26 then UInt8.ofNat ((c.toNat : Int) + dist).toNat else c
theorem shiftB_yes {first dist : Int} {c : UInt8} (h0 : 0 ≤ (c.toNat : Int) + dist) (h1 : (c.toNat : Int) + dist < 256) (q1 : first ≤ c.toNat) (q2 : c.toNat - first < 26) : ((shiftB first dist c).toNat : Int) = (c.toNat : Int) + dist := by
  rw [shiftB, if_pos ⟨q1, q2⟩]; simp; omega
theorem shiftB_no {first dist : Int} {c : UInt8} (q : ¬ (first ≤ c.toNat ∧ c.toNat - first < 26)) : shiftB first dist c = c := if_neg q
set_option maxHeartbeats 4000000 in
set_option maxRecDepth 1000000 in
theorem shifted_walk (s : ByteArray) (first dist : Int) (w : World) (hs : s.size ≤ maxLen) (hf : first = 65 ∧ dist = 32 ∨ first = 97 ∧ dist = -32) :
    Calls Tryd.prog 41 #[.string s, .int .u8 first, .int .i64 dist] w fun e w' => e = .returned (.string ⟨(s.data.toList.map (shiftB first dist)).toArray⟩) ∧ Below w.heap.size w w' := by
  unfold maxLen at hs
  have hcv := Lib.run_convert_string_bytes (P := Tryd.prog) w 9 55 5 s (u := .string) Tryd.underlying9 Tryd.underlying55 Tryd.underlying5
  have hbw : Below w.heap.size w (Lib.bytesWorld w 5 s) := ⟨rfl, rfl, rfl, by rw [Lib.bytesWorld_size]; omega, fun k hk => Lib.bytesWorld_at_old w 5 s k hk⟩
  have hrd : ∀ j, j < s.size → (Lib.bytesWorld w 5 s).cell? ⟨w.heap.size, j, none⟩ = some (.int .u8 (s.data.toList.getD j 0).toNat) := fun j hj => Lib.bytesWorld_cell w 5 s j hj
  have hfz : ∀ j, j < s.size → (Lib.bytesWorld w 5 s).frozen? ⟨w.heap.size, j, none⟩ = false := fun j hj => by
    have hcap := grownCap_ge w s.size 0 5
    simp [World.frozen?, Lib.bytesWorld_at_new, Lib.bytesCells]
    omega
  generalize Lib.bytesWorld w 5 s = W1 at hcv hbw hrd hfz
  generalize grownCap w s.size 0 5 = cap at hcv
  have Hrd := hid hrd
  have Hfz := hid hfz
  clear hrd hfz
  go_enter Tryd.func41, Tryd.ntmps41
  go_wp2
  go_loopw [14] (fun i wr => ∃ k : Nat, k ≤ s.size ∧ i = .int .i64 k ∧ Hid (∀ j, j < s.size → wr.cell? ⟨w.heap.size, j, none⟩ = some (.int .u8 (if j < k then shiftB first dist (s.data.toList.getD j 0) else s.data.toList.getD j 0).toNat)) ∧ Hid (∀ j, j < s.size → wr.frozen? ⟨w.heap.size, j, none⟩ = false) ∧ Below w.heap.size w wr) (fun i wr => s.size - (intOf i).toNat)
  case atStart => exact ⟨0, Nat.zero_le _, rfl, hid fun j hj => by rw [if_neg (by omega)]; exact Hrd.out j hj, Hfz, hbw⟩
  case round =>
    clear Hrd Hfz
    obtain ⟨k, hk, rfl, Hc, Hf, hb⟩ := hrel
    by_cases hlt : k < s.size
    · have hc := Hc.out k hlt
      have hf := Hf.out k hlt
      rw [if_neg (by omega)] at hc
      obtain ⟨c, hcd⟩ : ∃ c, s.data.toList.getD k 0 = c := ⟨_, rfl⟩
      rw [hcd] at hc
      have hc256 := c.toNat_lt
      have hd : s.data.toList[k]? = some c := by
        have hk' : k < s.data.toList.length := by simpa using hlt
        rw [← hcd, List.getD, List.getElem?_eq_getElem hk']; rfl
      clear hcd
      have hc0 : (0 : Int) ≤ c.toNat := by omega
      have hc1 : (c.toNat : Int) < 256 := by omega
      have hf0 : 65 ≤ first ∧ first ≤ 97 := by omega
      have keep : ¬ (first ≤ (c.toNat : Int) ∧ (c.toNat : Int) - first < 26) → Hid (∀ j, j < s.size → wr.cell? ⟨w.heap.size, j, none⟩ = some (.int .u8 (if j < k + 1 then shiftB first dist (s.data.toList.getD j 0) else s.data.toList.getD j 0).toNat)) := fun q => hid fun j hj => by
        rw [Hc.out j hj]
        by_cases e : j = k
        · subst e
          have e1 : s.data.toList.getD j 0 = c := by rw [List.getD, hd]; rfl
          rw [if_neg (by omega), if_pos (by omega), e1, shiftB_no q]
        · by_cases e2 : j < k
          · rw [if_pos e2, if_pos (by omega)]
          · rw [if_neg e2, if_neg (by omega)]
      have turn : ∀ v, first ≤ (c.toNat : Int) → (c.toNat : Int) - first < 26 → v = (c.toNat : Int) + dist → Hid (∀ j, j < s.size → (wr.setCell ⟨w.heap.size, k, none⟩ (.int .u8 v)).cell? ⟨w.heap.size, j, none⟩ = some (.int .u8 (if j < k + 1 then shiftB first dist (s.data.toList.getD j 0) else s.data.toList.getD j 0).toNat)) := fun v q1 q2 hv => hid fun j hj => by
        by_cases e : j = k
        · subst e
          have e1 : s.data.toList.getD j 0 = c := by rw [List.getD, hd]; rfl
          rw [World.cell?_setCell_same' _ _ _ (by rw [hc]; rfl), if_pos (by omega), e1, shiftB_yes (by omega) (by omega) q1 q2, hv]
        · have ne : (⟨w.heap.size, k, none⟩ : Addr) ≠ ⟨w.heap.size, j, none⟩ := fun q => e (by injection q with _ q; exact q.symm)
          rw [World.cell?_setCell_other _ _ _ _ ne, Hc.out j hj]
          by_cases e2 : j < k
          · rw [if_pos e2, if_pos (by omega)]
          · rw [if_neg e2, if_neg (by omega)]
      have Hd := hid hd
      have Hk := hid keep
      have Ht := hid turn
      clear keep turn hd
      by_cases q1 : first ≤ (c.toNat : Int)
      · have q0 : 0 ≤ (c.toNat : Int) - first := by omega
        have q00 : (c.toNat : Int) - first < 256 := by omega
        by_cases q2 : (c.toNat : Int) - first < 26
        · have q3 : 0 ≤ (c.toNat : Int) + dist := by omega
          have q4 : (c.toNat : Int) + dist < 256 := by omega
          go_wp2
          go_roundw
          case rel => exact ⟨k + 1, by omega, by go_num, Ht.out _ q1 q2 rfl, hid fun j hj => by rw [World.frozen?_setCell]; exact Hf.out j hj, hb.setCell (Nat.le_refl _) _⟩
          case measure => simp [intOf]; omega
        · go_wp2
          go_roundw
          case rel => exact ⟨k + 1, by omega, by go_num, Hk.out (by omega), Hf, hb⟩
          case measure => simp [intOf]; omega
      · go_wp2
        go_roundw
        case rel => exact ⟨k + 1, by omega, by go_num, Hk.out (by omega), Hf, hb⟩
        case measure => simp [intOf]; omega
    · have hkk : k = s.size := by omega
      subst hkk
      have hl : (s.data.toList.map (shiftB first dist)).length = s.size := by simp
      have hback := run_convert_bytes_back (P := Tryd.prog) wr 55 9 5 ⟨w.heap.size, 0, none⟩ cap (s.data.toList.map (shiftB first dist)) Tryd.underlying55 Tryd.underlying5 Tryd.underlying9 (fun j hj => by
        have hj' : j < s.size := by rw [hl] at hj; exact hj
        have hj2 : j < s.data.toList.length := by simpa using hj'
        have e : (⟨w.heap.size, 0, none⟩ : Addr).add j = ⟨w.heap.size, j, none⟩ := by
          unfold Addr.add
          split
          · subst j; rfl
          · simp
        rw [e, Hc.out j hj', if_pos hj', List.getD, List.getElem?_eq_getElem hj2]
        simp)
      rw [hl] at hback
      have hlt' : ¬ s.size < s.size := by omega
      go_wp2
      go_ret
      exact ⟨rfl, hb⟩
end Go.Proofs.YthlhbbejcmbpoaaDoor
