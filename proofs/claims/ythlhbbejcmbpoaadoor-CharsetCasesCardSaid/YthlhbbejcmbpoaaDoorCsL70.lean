/-
  Lower and Upper; what holds of names.
-/
import Derived.Test.YthlhbbejcmbpoaaDoorCsK
namespace Go.Proofs.YthlhbbejcmbpoaaDoor
open Go Go.RowKit Go.Ev
set_option maxRecDepth 100000 in
set_option maxHeartbeats 4000000 in
theorem Lower_at (w0 : World) (B : List (List AV)) (Rw : List (Nat × Nat)) (L : List LoopA) (s : ByteArray) (hs : s.size ≤ maxLen) :
    ACalls Tryd.prog w0 28 [.val (.string s)] ⟨B, Rw, L⟩ fun r st => r = .val (.string ⟨(s.data.toList.map (shiftB 65 32)).toArray⟩) ∧ st = ⟨B, Rw, L⟩ := by
  refine ACalls.fin (acalls_of (rs := [.tmp 2]) Tryd.func28 rfl rfl Tryd.ntmps28 (enters_some Tryd.func28 rfl (by decide)) (Nat.le_of_ble_eq_true rfl) ?_)
  intro M0 W0 hN hNR hNL hcalm hu
  simp only [argsE]
  apply awp_seq; intro K1 hK1
  apply awp_region 1 [0]
  rw [evK_succ]; simp +decide only [go_sem]
  (repeat' apply And.intro) <;> first | refine hK1 _ _ ?_ | (intros; omega) | (intros; simp_all; done)
  clear hK1
  apply awp_seq; intro K2 hK2
  apply awp_region 2 [2]
  rw [evK_succ]; simp +decide only [go_sem]
  (repeat' apply And.intro) <;> first | refine callK_intro _ (shifted_at w0 _ s hs 65 32 (.inl ⟨rfl, rfl⟩)) ?_ | (intros; omega) | (intros; simp_all; done)
  rw [evK_succ]; simp +decide only [go_sem]
  (repeat' apply And.intro) <;> first | refine hK2 _ _ ?_ | (intros; omega) | (intros; simp_all; done)
  clear hK2
  apply awp_ret; simp +decide only [go_sem]
  refine fin_same hcalm (by simp only [go_sem]) ⟨?_, rfl⟩
  rfl

set_option maxRecDepth 100000 in
set_option maxHeartbeats 4000000 in
theorem Upper_at (w0 : World) (B : List (List AV)) (Rw : List (Nat × Nat)) (L : List LoopA) (s : ByteArray) (hs : s.size ≤ maxLen) :
    ACalls Tryd.prog w0 31 [.val (.string s)] ⟨B, Rw, L⟩ fun r st => r = .val (.string ⟨(s.data.toList.map (shiftB 97 (-32))).toArray⟩) ∧ st = ⟨B, Rw, L⟩ := by
  refine ACalls.fin (acalls_of (rs := [.tmp 2]) Tryd.func31 rfl rfl Tryd.ntmps31 (enters_some Tryd.func31 rfl (by decide)) (Nat.le_of_ble_eq_true rfl) ?_)
  intro M0 W0 hN hNR hNL hcalm hu
  simp only [argsE]
  apply awp_seq; intro K1 hK1
  apply awp_region 1 [0]
  rw [evK_succ]; simp +decide only [go_sem]
  (repeat' apply And.intro) <;> first | refine hK1 _ _ ?_ | (intros; omega) | (intros; simp_all; done)
  clear hK1
  apply awp_seq; intro K2 hK2
  apply awp_region 2 [2]
  rw [evK_succ]; simp +decide only [go_sem]
  (repeat' apply And.intro) <;> first | refine callK_intro _ (shifted_at w0 _ s hs 97 (-32) (.inr ⟨rfl, rfl⟩)) ?_ | (intros; omega) | (intros; simp_all; done)
  rw [evK_succ]; simp +decide only [go_sem]
  (repeat' apply And.intro) <;> first | refine hK2 _ _ ?_ | (intros; omega) | (intros; simp_all; done)
  clear hK2
  apply awp_ret; simp +decide only [go_sem]
  refine fin_same hcalm (by simp only [go_sem]) ⟨?_, rfl⟩
  rfl

theorem enc_ascii (l : List UInt8) (h : ∀ c ∈ l, c.toNat < 128) : encL (l.map fun b => (b.toNat : Int)) = l := by
  induction l with
  | nil => rfl
  | cons b l ih =>
    have hb := h b (by simp)
    have ih := ih fun c hc => h c (by simp [hc])
    have e : Lib.encodeRune (b.toNat : Int) = [b] := by
      rw [Lib.encodeRune, Lib.encodeRuneZ_one (by omega) (by omega)]
      simp
    simp only [List.map_cons, encL, List.flatMap_cons, e] at ih ⊢
    rw [ih]; rfl
theorem valid_ascii (l : List UInt8) (h : ∀ c ∈ l, c.toNat < 128) : Lib.validD l = true := by
  rw [← enc_ascii l h]
  refine valid_enc _ fun p hp => ?_
  obtain ⟨b, _, rfl⟩ := List.mem_map.1 hp
  exact byte_pt b
theorem nameFrom_bytes : ∀ (l : List UInt8) (i : Nat), nameFrom i l = true → ∀ c ∈ l, c.toNat < 128 ∧ ¬ (65 ≤ (c.toNat : Int) ∧ (c.toNat : Int) - 65 < 26)
  | [], _, _, c, hc => by cases hc
  | b :: l, i, h, c, hc => by
    simp only [nameFrom, Bool.and_eq_true] at h
    rcases List.mem_cons.1 hc with rfl | hc
    · have := h.1
      rw [nameByte_val] at this
      have := of_decide_eq_true this
      omega
    · exact nameFrom_bytes l (i + 1) h.2 c hc
theorem name_facts {l : List UInt8} (h : nameB l = true) : Lib.validD l = true ∧ l.map (shiftB 65 32) = l := by
  simp only [nameB, Bool.and_eq_true] at h
  have hb := nameFrom_bytes l 0 h.2
  refine ⟨valid_ascii l fun c hc => (hb c hc).1, ?_⟩
  have : ∀ c ∈ l, shiftB 65 32 c = c := fun c hc => shiftB_no (hb c hc).2
  exact (List.map_congr_left this).trans (List.map_id' l)
end Go.Proofs.YthlhbbejcmbpoaaDoor
