/-
  Part 11 of the proof: rules and walks that the claim's last text uses.
-/
import Derived.Lib.ItoaLen
import Derived.Shelf.Vars
import Derived.Test.YtkpooohjodojoaaGreatDoorSg10
set_option linter.unusedSimpArgs false
set_option linter.unusedVariables false
set_option maxRecDepth 100000
set_option maxHeartbeats 4000000
namespace Go.Proofs.YtkpooohjodojoaaGreatDoor
open Go Go.RowKit Go.Ev
set_option maxRecDepth 100000
set_option maxHeartbeats 4000000
theorem kRet : runQ kX 99993 (pcB (pcB (pcB (pcB (pcB (pcB (pcB (kC)))))))) kE7 kS7 = some (.ret, kE7, kS7) := by kernel_rfl
theorem kQ0 : (kC) = .seq (pcA (kC)) (pcB (kC)) := by kernel_rfl
theorem kQ1 : (pcB (kC)) = .seq (pcA (pcB (kC))) (pcB (pcB (kC))) := by kernel_rfl
theorem kQ2 : (pcB (pcB (kC))) = .seq (pcA (pcB (pcB (kC)))) (pcB (pcB (pcB (kC)))) := by kernel_rfl
theorem kQ3 : (pcB (pcB (pcB (kC)))) = .seq (pcA (pcB (pcB (pcB (kC))))) (pcB (pcB (pcB (pcB (kC))))) := by kernel_rfl
theorem kQ4 : (pcB (pcB (pcB (pcB (kC))))) = .seq (pcA (pcB (pcB (pcB (pcB (kC)))))) (pcB (pcB (pcB (pcB (pcB (kC)))))) := by kernel_rfl
theorem kQ5 : (pcB (pcB (pcB (pcB (pcB (kC)))))) = .seq (pcA (pcB (pcB (pcB (pcB (pcB (kC))))))) (pcB (pcB (pcB (pcB (pcB (pcB (kC))))))) := by kernel_rfl
theorem kQ6 : (pcB (pcB (pcB (pcB (pcB (pcB (kC))))))) = .seq (pcA (pcB (pcB (pcB (pcB (pcB (pcB (kC)))))))) (pcB (pcB (pcB (pcB (pcB (pcB (pcB (kC)))))))) := by kernel_rfl
theorem kAll : runQ kX 100000 kC kE0 kS0 = some (.ret, kE7, kS7) := (seq_pc kQ0 kP0 (seq_pc kQ1 kP1 (seq_pc kQ2 kP2 (seq_pc kQ3 kP3 (seq_pc kQ4 kP4 (seq_pc kQ5 kP5 (seq_pc kQ6 kP6 kRet)))))))
theorem kOut : outX Tryz.prog cfgL none 18 Tryz.f18 ⟨0, 0, 0⟩ ⟨[], [], []⟩ kE7 kS7 = some (.val (.bool true), ⟨[], [], []⟩) := by kernel_rfl
theorem kRun : runX Tryz.prog cfgL 60 none 18 [] ⟨[], [], []⟩ = some (.val (.bool true), ⟨[], [], []⟩) :=
 run_of (fn := Tryz.f18) (c := kC) (by kernel_rfl) Tryz.func18 (by kernel_rfl) (of_decide_eq_true (by kernel_rfl)) kAll (.inr rfl) kOut
theorem known_at (w0 : World) (B : List (List AV)) (Rw : List RowA) (L : List LoopA) (hE : ErrS w0) (hM : MaxL w0) (hP : Pow10 w0) (hT : Lib.Utf8Tabs 0 1 w0) : ACalls Tryz.prog w0 18 [] ⟨B, Rw, L⟩ fun v s' => v = .val (.bool true) ∧ s' = ⟨B, Rw, L⟩ :=
 acalls_below (run_ok hM hP hT 60 18 [] ⟨[], [], []⟩ _ _ kRun).1 rfl fun M w vals hb hrow => by
  have hv : vals = #[] := by
   have := hrow.1
   apply Array.eq_empty_of_size_eq_zero; simpa using this
  subst hv
  have hM' : MaxL w := by obtain ⟨m, h⟩ := hM; exact ⟨m, cell_later h hb⟩
  have h := run_ok (w0 := w) hM' (hP.below hb) (Utf8Tabs_below hT hb) 60 18 [] ⟨[], [], []⟩ _ _ kRun
  refine (h.2 Mem.start w #[] (start_rel w) ⟨rfl, fun i h1 h2 => by simp at h1⟩).mono ?_
  rintro en w' ⟨v, M', a, st, h1, ⟨h2, _⟩, _, h4, h5⟩
  subst h2
  have := h5.val_inv.1
  subst this
  exact ⟨h1, h4.below⟩
instance (k : IntKind) (n : Int) : Decidable (inK k n) := by cases k <;> exact inferInstanceAs (Decidable (_ ∧ _))
def byteS (n : Int) : ByteArray := ⟨#[UInt8.ofNat n.toNat]⟩
@[go_sem] theorem bytesOf_one (n : Int) : bytesOfA [.val (.int .u8 n)] = byteS n := rfl
@[go_sem] theorem byteOk_u8 (n : Int) : byteOk (.val (.int .u8 n)) = (0 ≤ n ∧ n ≤ 255) := rfl
@[go_sem] theorem byteS_size (n : Int) : (byteS n).size = 1 := rfl
@[go_sem] theorem bytesOf_nil : bytesOfA [] = (⟨#[]⟩ : ByteArray) := rfl
@[go_sem] theorem byteOk_zeros (k : Nat) : (∀ y ∈ List.replicate k (AV.val (.int .u8 0)), byteOk y) ↔ True := iff_true_intro fun y hy => by
 rw [List.eq_of_mem_replicate hy, byteOk_u8]; omega
def l38_decimal_k6 (rec : Int → Option ByteArray)  (x3_k6 : ByteArray) : Option ByteArray :=
 some (x3_k6)
def l38_decimal_B (rec : Int → Option ByteArray) (a0 : Int) : Option ByteArray :=
 if I64 (48 + (a0.tmod 10)) then
  if 0 ≤ 48 + (a0.tmod 10) ∧ 48 + (a0.tmod 10) ≤ 255 then
   if decide (9 < a0) then
    if I64 (a0.tdiv 10) then
     (rec (a0.tdiv 10)).bind fun y11 =>
     if y11.size + (byteS (48 + (a0.tmod 10))).size ≤ 9223372036854775807 then
      l38_decimal_k6 rec (y11 ++ (byteS (48 + (a0.tmod 10))))
     else none
    else none
   else
    l38_decimal_k6 rec (byteS (48 + (a0.tmod 10)))
  else none
 else none
def l38_decimal_F : Nat → Int → Option ByteArray
 | 0, _ => none
 | n + 1, a0 => l38_decimal_B (l38_decimal_F n) a0
def l38_decimal_C (w0 : World) (F : Int → Option ByteArray) : Prop := ∀ (B : List (List AV)) (Rw : List RowA) (L : List LoopA) (a0 : Int) (r : ByteArray), F a0 = some r → ACalls Tryz.prog w0 55 [.val (.int .i64 a0)] ⟨B, Rw, L⟩ fun x st => x = .val (.string r) ∧ st = ⟨B, Rw, L⟩
theorem l38_decimal_step (w0 : World) (rec : Int → Option ByteArray) (ih : l38_decimal_C w0 rec) : l38_decimal_C w0 (l38_decimal_B rec) := by
 intro B Rw L a0 r h
 rw [l38_decimal_B] at h
 refine hd [.tmp 2] Tryz.func55 Tryz.ntmps55 fun M0 W0 hN hNR hNL hcalm hu hO hs => ?_
 simp only [argsE]
 refine rg [0] hs ?_
 obtain ⟨hg3, h⟩ := guard_some h
 obtain ⟨hg4, h⟩ := guard_some h
 refine rg [0, 3] hs ?_
 refine awp_mid (fun e st => ∃ (x3_k6 : ByteArray), Ck e st B Rw L [(3, true, .val (.string x3_k6))] [] [] (l38_decimal_k6 rec x3_k6 = some r)) ?_ ?_
 ·
  intro K7 hK7
  refine rg [0, 3, 11] hs ?_
  refine cnd h hs (fun hs h => ?_) (fun hs h => ?_)
  ·
   obtain ⟨hg10, h⟩ := guard_some h
   obtain ⟨y11, hy11, h⟩ := bind_some h
   obtain ⟨hg12, h⟩ := guard_some h
   have hg12s := hg12
   try simp +decide only [go_sem] at hg12s
   exact go (tg (a := ([3], ()))) h hs hN hNR hNL hcalm hO (q1 ih) (q1 hK7)
  refine sk [3] hs hK7 ?_
  exact ⟨(byteS (48 + (a0.tmod 10))), ([]), Rw, ef hs, ef hs, hO, h⟩
 ·
  clear h; rintro e st ⟨x3_k6, Xk6, Rk6, rfl, rfl, hO, h⟩
  rw [l38_decimal_k6] at h
  refine td hN hNR hNL hcalm hO ?_
  refine rg [2] hs ?_
  exact rt h hs hcalm hO
theorem l38_decimal_at (w0 : World) : ∀ n : Nat, l38_decimal_C w0 (l38_decimal_F n)
 | 0 => fun _ _ _ _ _ h => (nomatch h)
 | n + 1 => l38_decimal_step w0 (l38_decimal_F n) (l38_decimal_at w0 n)
def l38_env_k4 (n : Nat)  (x5_k4 : List (ByteArray × Vl)) : Option Vl :=
 (v_Record_F n x5_k4).bind fun y22 =>
 some (y22)
def l38_env_l7 (n : Nat) (a1 : List Vl) : Nat → (List (ByteArray × Vl)) → Int → Option Vl
 | 0, _, _ => none
 | m + 1, x5_l7, x6_l7 =>
  if decide (x6_l7 < ((a1.length : Int))) then
   if I64 (x6_l7 + 1) then
    (l38_decimal_F n (x6_l7 + 1)).bind fun y13 =>
    if ((⟨#[114, 101, 112, 108, 121]⟩ : ByteArray)).size + y13.size ≤ 9223372036854775807 then
     (idx a1 x6_l7).bind fun x15 =>
     if (x5_l7.length + 1) * 104 ≤ 140737488355328 ∧ x5_l7.length + 1 ≤ 4611686018427387904 then
      if I64 (x6_l7 + 1) then
       (l38_env_l7 n a1 m) (x5_l7 ++ ([(((⟨#[114, 101, 112, 108, 121]⟩ : ByteArray)) ++ y13, x15)])) (x6_l7 + 1)
      else none
     else none
    else none
   else none
  else
   l38_env_k4 n x5_l7
def l38_env_F (n : Nat) (a0 : Vl) (a1 : List Vl) : Option Vl :=
 l38_env_l7 n a1 n ([((⟨#[98, 111, 100, 121]⟩ : ByteArray), a0)]) 0
theorem l38_env_at (w0 : World) (n : Nat) (B : List (List AV)) (Rw : List RowA) (L : List LoopA) (a0 : Vl) (a1 : List Vl) (r : Vl) (h : l38_env_F n a0 a1 = some r) :
  ACalls Tryz.prog w0 21 [.agg (a0.cs), .list (a1.map avV) .none] ⟨B, Rw, L⟩ fun x st => x = .agg (r.cs) ∧ st = ⟨B, Rw, L⟩ := by
 rw [l38_env_F] at h
 refine hd [.cell 4 52] Tryz.func21 Tryz.ntmps21 fun M0 W0 hN hNR hNL hcalm hu hO hs => ?_
 simp only [argsE]
 refine rg [1, 2, 4] hs ?_
 refine rg [1, 4, 5] hs ?_
 refine awp_mid (fun e st => ∃ (x5_k4 : List (ByteArray × Vl)) (ox5_k4 : Ev.Own), Ck e st B Rw L [(4, true, .box (B.length + 1) 0), (5, true, .list (x5_k4.map avF) ox5_k4)] [a0.cs, [.val (.int .i64 0), .val (.int .i64 0), .val (.int .i64 0), .val (.string ((⟨#[]⟩ : ByteArray))), .list ([]) .full, .list ([]) .full]] [(7, x5_k4.length, ox5_k4)] (l38_env_k4 n x5_k4 = some r)) ?_ ?_
 ·
  intro K5 hK5
  refine rg [1, 4, 5, 6] hs ?_
  apply awp_block
  refine awp_loop (fun m e st => ∃ (x5_l7 : List (ByteArray × Vl)) (x6_l7 : Int) (ox5_l7 : Ev.Own), Ck e st B Rw L [(1, true, .list (a1.map avV) .none), (4, true, .box (B.length + 1) 0), (5, true, .list (x5_l7.map avF) ox5_l7), (6, true, .val (.int .i64 x6_l7))] [a0.cs, [.val (.int .i64 0), .val (.int .i64 0), .val (.int .i64 0), .val (.string ((⟨#[]⟩ : ByteArray))), .list ([]) .full, .list ([]) .full]] [(7, x5_l7.length, ox5_l7)] (l38_env_l7 n a1 m x5_l7 x6_l7 = some r)) n ⟨([((⟨#[98, 111, 100, 121]⟩ : ByteArray), a0)]), 0, .full, ([]), Rw, ef hs, ef hs, Owns.of_eq ((hO).full 7 (([((⟨#[98, 111, 100, 121]⟩ : ByteArray), a0)]).length)) le_, h⟩ ?_
  rintro ml7 e st ⟨x5_l7, x6_l7, ox5_l7, Xl7, Rl7, rfl, rfl, hO, h⟩ Ul7 Vl7
  cases ml7 with
  | zero => cases h
  | succ ml7 =>
  rw [l38_env_l7] at h
  have hU := hO.unders
  simp only [List.mem_cons, List.not_mem_nil, or_false, forall_eq_or_imp, forall_eq] at hU
  refine td hN hNR hNL hcalm hO ?_
  apply awp_seq; intro K8 hK8
  refine rg [1, 4, 5, 6, 13] hs ?_
  refine cnd h hs (fun hs h => ?_) (fun hs h => ?_)
  rotate_left
  ·
   refine sx [4, 5] hs hK5 ?_
   exact ⟨x5_l7, ox5_l7, ([]), Rl7, ef hs, ef hs, Owns.of_eq (hO) le_, h⟩
  refine sk [1, 4, 5, 6] hs hK8 ?_
  clear hK8
  apply awp_seq; intro K11 hK11
  apply awp_block
  obtain ⟨hg12, h⟩ := guard_some h
  obtain ⟨y13, hy13, h⟩ := bind_some h
  obtain ⟨hg14, h⟩ := guard_some h
  have hg14s := hg14
  try simp +decide only [go_sem] at hg14s
  exact go (tg (a := ([11, 1, 4, 5, 6], [1, 4, 5, 6], ()))) h hs hN hNR hNL hcalm hO (q2 (ae elT_50 zeroT_107) (l38_decimal_at w0 n)) (q2 hK11 (fun e s => Vl7 ml7 e s (Nat.lt_succ_self _)))
 ·
  clear h; rintro e st ⟨x5_k4, ox5_k4, Xk4, Rk4, rfl, rfl, hO, h⟩
  rw [l38_env_k4] at h
  exact go (tg (a := ([4], ()))) h hs hN hNR hNL hcalm hO (q1 (v_Record_at w0 n)) trivial
def saga_Env_k4 (n : Nat)  (x5_k4 : List (ByteArray × Vl)) : Option Vl :=
 (v_Record_F n x5_k4).bind fun y23 =>
 some (y23)
def saga_Env_l7 (n : Nat) (a1 : List Vl) : Nat → (List (ByteArray × Vl)) → Int → Option Vl
 | 0, _, _ => none
 | m + 1, x5_l7, x13_l7 =>
  if decide (x13_l7 < ((a1.length : Int))) then
   (idx a1 x13_l7).bind fun x13 =>
   if I64 (x13_l7 + 1) then
    if I64 (x13_l7 + 1) then
     if ((⟨#[114, 101, 112, 108, 121]⟩ : ByteArray)).size + ((⟨(Lib.itoa (x13_l7 + 1)).toArray⟩ : ByteArray)).size ≤ 9223372036854775807 then
      if (x5_l7.length + 1) * 104 ≤ 140737488355328 ∧ x5_l7.length + 1 ≤ 4611686018427387904 then
       if I64 (x13_l7 + 1) then
        (saga_Env_l7 n a1 m) (x5_l7 ++ ([(((⟨#[114, 101, 112, 108, 121]⟩ : ByteArray)) ++ ((⟨(Lib.itoa (x13_l7 + 1)).toArray⟩ : ByteArray)), x13)])) (x13_l7 + 1)
       else none
      else none
     else none
    else none
   else none
  else
   saga_Env_k4 n x5_l7
def saga_Env_F (n : Nat) (a0 : Vl) (a1 : List Vl) : Option Vl :=
 saga_Env_l7 n a1 n ([((⟨#[98, 111, 100, 121]⟩ : ByteArray), a0)]) 0
theorem saga_Env_at (w0 : World) (hP : Pow10 w0) (n : Nat) (B : List (List AV)) (Rw : List RowA) (L : List LoopA) (a0 : Vl) (a1 : List Vl) (r : Vl) (h : saga_Env_F n a0 a1 = some r) :
  ACalls Tryz.prog w0 20 [.agg (a0.cs), .list (a1.map avV) .none] ⟨B, Rw, L⟩ fun x st => x = .agg (r.cs) ∧ st = ⟨B, Rw, L⟩ := by
 rw [saga_Env_F] at h
 refine hd [.cell 4 52] Tryz.func20 Tryz.ntmps20 fun M0 W0 hN hNR hNL hcalm hu hO hs => ?_
 simp only [argsE]
 refine rg [1, 2, 4] hs ?_
 refine rg [1, 4, 5] hs ?_
 refine awp_mid (fun e st => ∃ (x5_k4 : List (ByteArray × Vl)) (ox5_k4 : Ev.Own), Ck e st B Rw L [(4, true, .box (B.length + 1) 0), (5, true, .list (x5_k4.map avF) ox5_k4)] [a0.cs, [.val (.int .i64 0), .val (.int .i64 0), .val (.int .i64 0), .val (.string ((⟨#[]⟩ : ByteArray))), .list ([]) .full, .list ([]) .full]] [(7, x5_k4.length, ox5_k4)] (saga_Env_k4 n x5_k4 = some r)) ?_ ?_
 ·
  intro K5 hK5
  refine rg [4, 5, 11, 12, 13] hs ?_
  apply awp_block
  refine awp_loop (fun m e st => ∃ (x5_l7 : List (ByteArray × Vl)) (x13_l7 : Int) (ox5_l7 : Ev.Own), Ck e st B Rw L [(4, true, .box (B.length + 1) 0), (5, true, .list (x5_l7.map avF) ox5_l7), (11, true, .list (a1.map avV) .none), (12, true, .val (.int .i64 ((a1.length : Int)))), (13, true, .val (.int .i64 x13_l7))] [a0.cs, [.val (.int .i64 0), .val (.int .i64 0), .val (.int .i64 0), .val (.string ((⟨#[]⟩ : ByteArray))), .list ([]) .full, .list ([]) .full]] [(7, x5_l7.length, ox5_l7)] (saga_Env_l7 n a1 m x5_l7 x13_l7 = some r)) n ⟨([((⟨#[98, 111, 100, 121]⟩ : ByteArray), a0)]), 0, .full, ([]), Rw, ef hs, ef hs, Owns.of_eq ((hO).full 7 (([((⟨#[98, 111, 100, 121]⟩ : ByteArray), a0)]).length)) le_, h⟩ ?_
  rintro ml7 e st ⟨x5_l7, x13_l7, ox5_l7, Xl7, Rl7, rfl, rfl, hO, h⟩ Ul7 Vl7
  cases ml7 with
  | zero => cases h
  | succ ml7 =>
  rw [saga_Env_l7] at h
  have hU := hO.unders
  simp only [List.mem_cons, List.not_mem_nil, or_false, forall_eq_or_imp, forall_eq] at hU
  refine td hN hNR hNL hcalm hO ?_
  refine rg [4, 5, 11, 12, 13, 14] hs ?_
  apply awp_seq; intro K9 hK9
  refine cnd h hs (fun hs h => ?_) (fun hs h => ?_)
  rotate_left
  ·
   refine sx [4, 5] hs hK5 ?_
   exact ⟨x5_l7, ox5_l7, ([]), Rl7, ef hs, ef hs, Owns.of_eq (hO) le_, h⟩
  refine sk [4, 5, 11, 12, 13] hs hK9 ?_
  clear hK9
  apply awp_seq; intro K11 hK11
  apply awp_block
  obtain ⟨x13, hx13, h⟩ := bind_some h
  obtain ⟨hx13a, hx13b, hx13c⟩ := idx_some hx13
  have hx13d := getD_map (f := avV) hx13c
  have hs := And.intro hx13d hs
  refine rg [4, 5, 6, 7, 11, 12, 13] hs ?_
  obtain ⟨hg14, h⟩ := guard_some h
  obtain ⟨hg15, h⟩ := guard_some h
  obtain ⟨hg16, h⟩ := guard_some h
  have hg16s := hg16
  try simp +decide only [go_sem] at hg16s
  exact go (tg (a := ([8, 4, 5, 11, 12, 13], [4, 5, 11, 12, 13], ()))) h hs hN hNR hNL hcalm hO (q2 (ae elT_50 zeroT_107) (sItoa_at w0)) (q2 hK11 (fun e s => Vl7 ml7 e s (Nat.lt_succ_self _)))
 ·
  clear h; rintro e st ⟨x5_k4, ox5_k4, Xk4, Rk4, rfl, rfl, hO, h⟩
  rw [saga_Env_k4] at h
  exact go (tg (a := ([4], ()))) h hs hN hNR hNL hcalm hO (q1 (v_Record_at w0 n)) trivial
def l38_SagaEnvs_k10 (n : Nat) (y3 : Vl) (x5_k10 : List Vl) : Option Bool :=
 (saga_Env_F n y3 x5_k10).bind fun y26 =>
 (l38_env_F n y3 x5_k10).bind fun y27 =>
 (v_Equal_F n y26 y27).bind fun y28 =>
 some (y28)
def l38_SagaEnvs_l13 (n : Nat) (a1 : List Vl) (y3 : Vl) : Nat → (List Vl) → Int → Option Bool
 | 0, _, _ => none
 | m + 1, x5_l13, x6_l13 =>
  if decide (x6_l13 < ((a1.length : Int))) then
   (idx a1 x6_l13).bind fun x18 =>
   (l7_ShortValue_F n x18 4).bind fun y19 =>
   if (x5_l13.length + 1) * 88 ≤ 140737488355328 ∧ x5_l13.length + 1 ≤ 4611686018427387904 then
    if I64 (x6_l13 + 1) then
     (l38_SagaEnvs_l13 n a1 y3 m) (x5_l13 ++ ([y19])) (x6_l13 + 1)
    else none
   else none
  else
   l38_SagaEnvs_k10 n y3 x5_l13
def l38_SagaEnvs_F (n : Nat) (a0 : Vl) (a1 : List Vl) : Option Bool :=
 (l7_ShortValue_F n a0 4).bind fun y3 =>
 if decide (12 < ((a1.length : Int))) then
  some (true)
 else
  l38_SagaEnvs_l13 n a1 y3 n ([]) 0
theorem l38_SagaEnvs_at (w0 : World) (hE : ErrS w0) (hM : MaxL w0) (hP : Pow10 w0) (hT : Lib.Utf8Tabs 0 1 w0) (n : Nat) (B : List (List AV)) (Rw : List RowA) (L : List LoopA) (a0 : Vl) (a1 : List Vl) (r : Bool) (h : l38_SagaEnvs_F n a0 a1 = some r) :
  ACalls Tryz.prog w0 5 [.agg (a0.cs), .list (a1.map avV) .none] ⟨B, Rw, L⟩ fun x st => x = .val (.bool r) ∧ st = ⟨B, Rw, L⟩ := by
 rw [l38_SagaEnvs_F] at h
 refine hd [.tmp 4] Tryz.func5 Tryz.ntmps5 fun M0 W0 hN hNR hNL hcalm hu hO hs => ?_
 simp only [argsE]
 refine rg [1, 2] hs ?_
 obtain ⟨y3, hy3, h⟩ := bind_some h
 refine rc 2 [1, 2] hs ?_; intro K2 hK2
 refine callK_p _ (l7_ShortValue_at w0 n _ _ _ a0 4 _ hy3) (hv hs) ?_
 refine ne hs hK2 ?_
 clear hK2
 apply awp_seq; intro K4 hK4
 refine rc 2 [1, 2, 15] hs ?_; intro K5 hK5
 refine callK_p _ (known_at w0 _ _ _ hE hM hP hT) (hv hs) ?_
 refine ne hs hK5 ?_
 clear hK5
 refine cnd h hs (fun hs h => ?_) (fun hs h => ?_)
 ·
  exact go (tg (a := ([4], ()))) h hs hN hNR hNL hcalm hO (q1 (known_at w0)) trivial
 refine sk [1, 2] hs hK4 ?_
 clear hK4
 refine rg [1, 2, 5] hs ?_
 refine awp_mid (fun e st => ∃ (x5_k10 : List Vl) (ox5_k10 : Ev.Own), Ck e st B Rw L [(2, true, .box B.length 0), (5, true, .list (x5_k10.map avV) ox5_k10)] [y3.cs] [(6, x5_k10.length, ox5_k10)] (l38_SagaEnvs_k10 n y3 x5_k10 = some r)) ?_ ?_
 ·
  intro K11 hK11
  refine rg [1, 2, 5, 6] hs ?_
  apply awp_block
  refine awp_loop (fun m e st => ∃ (x5_l13 : List Vl) (x6_l13 : Int) (ox5_l13 : Ev.Own), Ck e st B Rw L [(1, true, .list (a1.map avV) .none), (2, true, .box B.length 0), (5, true, .list (x5_l13.map avV) ox5_l13), (6, true, .val (.int .i64 x6_l13))] [y3.cs] [(6, x5_l13.length, ox5_l13)] (l38_SagaEnvs_l13 n a1 y3 m x5_l13 x6_l13 = some r)) n ⟨([]), 0, .full, ([]), Rw, ef hs, ef hs, Owns.of_eq ((hO).full 6 0) le_, h⟩ ?_
  rintro ml13 e st ⟨x5_l13, x6_l13, ox5_l13, Xl13, Rl13, rfl, rfl, hO, h⟩ Ul13 Vl13
  cases ml13 with
  | zero => cases h
  | succ ml13 =>
  rw [l38_SagaEnvs_l13] at h
  exact go (tg (a := ([1, 2, 5, 6, 20], ([1, 2, 5, 6], [1, 2, 5, 6], [1, 2, 5, 6], ()), [2, 5], ()))) h hs hN hNR hNL hcalm hO (q2 (ae elT_33 zeroT_52) (l7_ShortValue_at w0 n)) (q2 hK11 (fun e s => Vl13 ml13 e s (Nat.lt_succ_self _)))
 ·
  clear h; rintro e st ⟨x5_k10, ox5_k10, Xk10, Rk10, rfl, rfl, hO, h⟩
  rw [l38_SagaEnvs_k10] at h
  exact go (tg (a := ([8, 4], ()))) h hs hN hNR hNL hcalm hO (q3 (saga_Env_at w0 hP n) (l38_env_at w0 n) (v_Equal_at w0 n)) trivial
theorem sizeFs_dropAt {l : List (ByteArray × Vl)} {i : Nat} (h : i < l.length) : sizeFs (l.drop i) = l[i].2.size + sizeFs (l.drop (i + 1)) := by
 rw [List.drop_eq_getElem_cons h, sizeFs]
theorem vrec_any (n : Nat) (l : List (ByteArray × Vl)) (hl : l.length ≤ 1000000) (hn : l.length < n) : ∀ (k m i : Nat) (b : List (ByteArray × Vl)), i + k = l.length → k < m → b.length ≤ i → ∃ b', v_Record_l7 n l m i b = v_Record_k4 n b' ∧ sizeFs b' ≤ sizeFs b + sizeFs (l.drop i) ∧ b'.length ≤ l.length
 | k, 0, i, b, _, h, _ => absurd h (Nat.not_lt_zero _)
 | 0, m + 1, i, b, hi, _, hb => by
  refine ⟨b, ?_, by omega, by omega⟩
  rw [v_Record_l7, lt_int, decide_eq_false (by omega)]
  rfl
 | k + 1, m + 1, i, b, hi, hm, hb => by
  have hlt : i < l.length := by omega
  rw [v_Record_l7, lt_int, decide_eq_true hlt]
  rw [if_pos rfl, idx_nat hlt, Option.bind_some]
  rw [if_pos (I64_succ (by omega)), if_pos (by omega)]
  have e1 : ((i : Int) + 1).toNat = i + 1 := by omega
  have hc : ∃ c, sl_ContainsFunc_Field_F n (l.drop (i + 1)) (fun x0 => some (v_Record_1_F x0 l[i])) = some c := by
   rw [sl_ContainsFunc_Field_F, sl_IndexFunc_Field_F]
   have e := ixF_l6 n (l.drop (i + 1)) (fun x0 => some (v_Record_1_F x0 l[i])) (fun x0 => v_Record_1_F x0 l[i]) (fun _ _ => rfl) (by rw [List.length_drop]; omega) (l.drop (i + 1)).length n 0 (by omega) (by rw [List.length_drop]; omega)
   have e' : sl_IndexFunc_Field_l6 n (l.drop (i + 1)) (fun x0 => some (v_Record_1_F x0 l[i])) n 0 = _ := e
   rw [e', Option.bind_some]
   exact ⟨_, rfl⟩
  obtain ⟨c, hc⟩ := hc
  rw [e1, hc, Option.bind_some]
  have hd := sizeFs_dropAt hlt
  by_cases q : ((!(v_IsNull_F l[i].2)) && (!c)) = true
  ·
   rw [if_pos q, if_pos (by omega), v_Record_k12, if_pos (I64_succ (by omega))]
   obtain ⟨b', h1, h2, h3⟩ := vrec_any n l hl hn k m (i + 1) (b ++ [l[i]]) (by omega) (by omega) (by rw [app_len]; omega)
   refine ⟨b', h1, ?_, h3⟩
   rw [sizeFs_snoc] at h2
   omega
  ·
   rw [if_neg q, v_Record_k12, if_pos (I64_succ (by omega))]
   obtain ⟨b', h1, h2, h3⟩ := vrec_any n l hl hn k m (i + 1) b (by omega) (by omega) (by omega)
   exact ⟨b', h1, by omega, h3⟩
theorem vRecord_any (n : Nat) (l : List (ByteArray × Vl)) (hl : l.length ≤ 1000000) (hs : sizeFs l + 2 ≤ 1000000) (hn : sizeFs l + l.length + 2 ≤ n) : ∃ w, v_Record_F n l = some w ∧ w.size ≤ sizeFs l + 1 := by
 obtain ⟨b, h1, h2, h3⟩ := vrec_any n l hl (by omega) l.length n 0 [] (by omega) (by omega) (by simp)
 have h1 : v_Record_l7 n l n 0 [] = _ := h1
 rw [List.drop_zero] at h2
 have h2 : sizeFs b ≤ sizeFs l := by simpa [sizeFs] using h2
 have hp := sizeFs_perm (sortF_perm b)
 have hz : (Vl.mk 9 0 0 ⟨#[]⟩ [] (sortF b)).size = 1 + sizeFs b := by
  rw [Vl.size_eq]; simp only [Vl.list, Vl.fields, sizeVs]; omega
 refine ⟨Vl.mk 9 0 0 ⟨#[]⟩ [] (sortF b), ?_, by omega⟩
 rw [v_Record_F, h1, v_Record_k4, if_pos (by omega), vClone_eq n _ (by omega) (by omega)]
 rfl
theorem dec1 (k : Nat) (h : k < 10) : Lib.decDigits k = [UInt8.ofNat (48 + k)] := by rw [Lib.decDigits, dif_pos h]
theorem dec2 (k : Nat) (h : ¬ k < 10) (h' : k / 10 < 10) : Lib.decDigits k = [UInt8.ofNat (48 + k / 10)] ++ [UInt8.ofNat (48 + k % 10)] := by rw [Lib.decDigits, dif_neg h, dec1 _ h']
theorem itoa_nat (k : Nat) : Lib.itoa (k : Int) = Lib.decDigits k := by unfold Lib.itoa; rw [if_neg (by omega)]; simp
theorem lit12 : ∀ i : Nat, i < 12 → ∀ q : Nat, l38_decimal_F (q + 2) ((i : Int) + 1) = some (⟨(Lib.itoa ((i : Int) + 1)).toArray⟩ : ByteArray) := by
 intro i hi q
 have e : ((i : Int) + 1) = ((i + 1 : Nat) : Int) := by omega
 rw [e, itoa_nat]
 obtain rfl | rfl | rfl | rfl | rfl | rfl | rfl | rfl | rfl | rfl | rfl | rfl : i = 0 ∨ i = 1 ∨ i = 2 ∨ i = 3 ∨ i = 4 ∨ i = 5 ∨ i = 6 ∨ i = 7 ∨ i = 8 ∨ i = 9 ∨ i = 10 ∨ i = 11 := by omega
 ·
  rw [dec1 _ (by decide)]; rfl
 ·
  rw [dec1 _ (by decide)]; rfl
 ·
  rw [dec1 _ (by decide)]; rfl
 ·
  rw [dec1 _ (by decide)]; rfl
 ·
  rw [dec1 _ (by decide)]; rfl
 ·
  rw [dec1 _ (by decide)]; rfl
 ·
  rw [dec1 _ (by decide)]; rfl
 ·
  rw [dec1 _ (by decide)]; rfl
 ·
  rw [dec1 _ (by decide)]; rfl
 ·
  rw [dec2 _ (by decide) (by decide)]; rfl
 ·
  rw [dec2 _ (by decide) (by decide)]; rfl
 ·
  rw [dec2 _ (by decide) (by decide)]; rfl
theorem envs_l7 (n : Nat) (hn : 100 ≤ n) (a : List Vl) (ha : a.length ≤ 12) (K : Nat) (hK : ∀ v ∈ a, v.size ≤ K) : ∀ (k m i : Nat) (f : List (ByteArray × Vl)), i + k = a.length → k < m → f.length = i + 1 → sizeFs f ≤ (i + 1) * K →
  ∃ f' : List (ByteArray × Vl), saga_Env_l7 n a m f (i : Int) = saga_Env_k4 n f' ∧ l38_env_l7 n a m f (i : Int) = l38_env_k4 n f' ∧ f'.length ≤ 13 ∧ sizeFs f' ≤ (a.length + 1) * K
 | k, 0, i, b, _, h, _, _ => absurd h (Nat.not_lt_zero _)
 | 0, m + 1, i, f, hi, _, hf, hs => by
  obtain rfl : i = a.length := by omega
  refine ⟨f, ?_, ?_, by omega, hs⟩
  ·
   rw [saga_Env_l7, lt_int, decide_eq_false (by omega)]; rfl
  ·
   rw [l38_env_l7, lt_int, decide_eq_false (by omega)]; rfl
 | k + 1, m + 1, i, f, hi, hm, hf, hs => by
  have hlt : i < a.length := by omega
  have hI : I64 ((i : Int) + 1) := I64_succ (by omega)
  have el := Lib.itoa_length_le ((i : Int) + 1) (by omega) (by omega)
  have es : (⟨(Lib.itoa ((i : Int) + 1)).toArray⟩ : ByteArray).size = (Lib.itoa ((i : Int) + 1)).length := by simp [ByteArray.size]
  obtain ⟨q, rfl⟩ : ∃ q, n = q + 2 := ⟨n - 2, by omega⟩
  have ed := lit12 i (by omega) q
  have hz : ((⟨#[114, 101, 112, 108, 121]⟩ : ByteArray)).size + ((⟨(Lib.itoa ((i : Int) + 1)).toArray⟩ : ByteArray)).size ≤ 9223372036854775807 := by
   rw [es, show ((⟨#[114, 101, 112, 108, 121]⟩ : ByteArray)).size = 5 from rfl]; omega
  rw [saga_Env_l7, l38_env_l7, lt_int, decide_eq_true hlt]
  rw [if_pos rfl, if_pos rfl, idx_nat hlt, Option.bind_some, if_pos hI, if_pos hI, if_pos hz, if_pos (by omega), if_pos hI, if_pos hI, ed, Option.bind_some, if_pos hz, Option.bind_some, if_pos (by omega), if_pos hI]
  have hv := hK a[i] (List.getElem_mem hlt)
  exact envs_l7 (q + 2) hn a ha K hK k m (i + 1) _ (by omega) (by omega) (by rw [app_len]; omega) (by rw [sizeFs_snoc, Nat.add_mul (i + 1)]; simp only; omega)
theorem envs_l13 (n : Nat) (hn : 100 ≤ n) (a : List Vl) (ha : a.length ≤ 12) (y : Vl) : ∀ (k m i : Nat) (l : List Vl), i + k = a.length → k < m → l.length = i → (∀ v ∈ l, v.size ≤ 1885) →
  ∃ l' : List Vl, l38_SagaEnvs_l13 n a y m l (i : Int) = l38_SagaEnvs_k10 n y l' ∧ l'.length ≤ 12 ∧ ∀ v ∈ l', v.size ≤ 1885
 | k, 0, i, b, _, h, _, _ => absurd h (Nat.not_lt_zero _)
 | 0, m + 1, i, l, hi, _, hf, hs => by
  refine ⟨l, ?_, by omega, hs⟩
  rw [l38_SagaEnvs_l13, lt_int, decide_eq_false (by omega)]; rfl
 | k + 1, m + 1, i, l, hi, hm, hf, hs => by
  have hlt : i < a.length := by omega
  obtain ⟨w, e, w1, w2⟩ := shortV_ok 3 n a[i] (by omega) (by omega)
  have e : l7_ShortValue_F n a[i] 4 = some w := e
  rw [l38_SagaEnvs_l13, lt_int, decide_eq_true hlt]
  rw [if_pos rfl, idx_nat hlt, Option.bind_some, e, Option.bind_some, if_pos (by omega), if_pos (I64_succ (by omega))]
  exact envs_l13 n hn a ha y k m (i + 1) _ (by omega) (by omega) (by rw [app_len]; omega) (app_all hs w1)
theorem envs_plain (n : Nat) (hn : 1000000 ≤ n) (a : Vl) (l : List Vl) : l38_SagaEnvs_F n a l = some true := by
 obtain ⟨y, e, y1, y2⟩ := shortV_ok 3 n a (by omega) (by omega)
 have e : l7_ShortValue_F n a 4 = some y := e
 have y1 : y.size ≤ 1885 := y1
 rw [l38_SagaEnvs_F, e, Option.bind_some]
 by_cases c : 12 < (l.length : Int)
 ·
  rw [decide_eq_true c, if_pos rfl]
 rw [decide_eq_false c, if_neg (by decide)]
 obtain ⟨l', h1, h2, h3⟩ := envs_l13 n (by omega) l (by omega) y l.length n 0 [] (by omega) (by omega) rfl (by simp)
 have h1 : l38_SagaEnvs_l13 n l y n [] 0 = _ := h1
 obtain ⟨f, g1, g2, g3, g4⟩ := envs_l7 n (by omega) l' h2 1885 h3 l'.length n 0 [((⟨#[98, 111, 100, 121]⟩ : ByteArray), y)] (by omega) (by omega) rfl (by simp only [sizeFs]; omega)
 have g1 : saga_Env_l7 n l' n [((⟨#[98, 111, 100, 121]⟩ : ByteArray), y)] 0 = _ := g1
 have g2 : l38_env_l7 n l' n [((⟨#[98, 111, 100, 121]⟩ : ByteArray), y)] 0 = _ := g2
 have g5 : (l'.length + 1) * 1885 ≤ 13 * 1885 := Nat.mul_le_mul_right _ (by omega)
 obtain ⟨w, r1, r2⟩ := vRecord_any n f (by omega) (by omega) (by omega)
 obtain ⟨c, q1, q2⟩ := vEqual_eq n w w (by omega) (by omega)
 rw [h1, l38_SagaEnvs_k10, saga_Env_F, g1, saga_Env_k4, r1, Option.bind_some, Option.bind_some, l38_env_F, g2, l38_env_k4, r1, Option.bind_some, Option.bind_some, q1, Option.bind_some, q2.2 rfl]
end Go.Proofs.YtkpooohjodojoaaGreatDoor
namespace Go.Proofs.YtkpooohjodojoaaGreatDoor
open Go Go.Shelf Go.ChangeShapes Go.WideShapes Go.ChangeAt Go.RowKit Go.Lib Go.Ev
set_option maxRecDepth 100000
section
variable {H : Type} {enc : TypeId × Value → H} {W : World} {base : Nat} {v : Value} {d : DataW H} {p : List MemPlace}
theorem open_l (hv : Value.okWide Tryz.prog W .any base 33 v) (h : DataW.Trod enc Tryz.prog W 0 (fun _ => true) true 33 v d p) :
  ∃ l : List Vl, ((∀ y ∈ l, y.wf) ∧ l.length ≤ maxLen) ∧ R W Mem.start W v (.list (l.map avV) .none) := by
 obtain ⟨a, len, cap, rfl⟩ := okWide_slice Tryz.underlying33 hv
 obtain ⟨n, hn⟩ := h
 cases n with
 | zero => simp [DataW.trod] at hn
 | succ n =>
 obtain ⟨l, u, h1, h2, h3, h4, _⟩ := td_slice avV Vl.wf (fun _ => 0) Tryz.underlying33 (sz := 6) (by kernel_rfl) (by omega) (fun cs x h => by
  obtain ⟨q, hq, hR, _⟩ := td_val n cs x h
  exact ⟨q, .agg cs.toArray, hq, by simp [Value.cells], hR.agg q.ones, Nat.zero_le _⟩) hn
 obtain rfl : Value.slice a len cap = u := by simpa [Value.cells] using h3
 exact ⟨l, ⟨h1, h2⟩, h4⟩
end
set_option maxRecDepth 100000
noncomputable def sgLow : Nat := (World.holding Tryz.prog default ⟨#[], #[], []⟩).heap.size
noncomputable def sgWorld (os : Os) : World :=
 let w0 := World.holding Tryz.prog os ⟨#[.cells #[.string ⟨#[118, 97, 108, 117, 101, 32, 111, 117, 116, 32, 111, 102, 32, 114, 97, 110, 103, 101]⟩] 382, .cells #[.string ⟨#[105, 110, 118, 97, 108, 105, 100, 32, 115, 121, 110, 116, 97, 120]⟩] 382], #[], []⟩
 let put (h : Array Obj) (g : Nat) (d : DataW Unit) : Array Obj := h.modify g fun
  | .cells _ t frozen => .cells (flat2 d).toArray t frozen
  | o => o
 let one (h : Array Obj) (g : Nat) (v : Value) : Array Obj := h.modify g fun
  | .cells _ t frozen => .cells #[v] t frozen
  | o => o
 { w0 with heap := one (one (put (put (put (put (put w0.heap 0 Rows.laid_unicode_utf8_first) 1 Rows.laid_unicode_utf8_acceptRanges) 3 Rows.laid_internal_strconv_uint64pow10) 6 Rows.laid_math_bits_deBruijn32tab) 7 Rows.laid_math_bits_deBruijn64tab)
   5 (.iface 380 (.pointer (some ⟨sgLow, 0, none⟩)))) 4 (.iface 380 (.pointer (some ⟨sgLow + 1, 0, none⟩))) }
theorem sg_laid_met (os : Os) (args : Array Value) : laidMet Tryz.prog Rows.sagaEnvsRow.laid ((sgWorld os).forCall (fun _ _ => 0) ⟨#[], args, []⟩).memory :=
 (LaidIn.of_run (l := Rows.sagaEnvsRow.laid) [6, 7, 3, 1, 5, 4, 0, sgLow, sgLow + 1] 8 (by kernel_rfl) (by kernel_rfl) (by kernel_rfl) (by kernel_rfl)).met
theorem sg_tabs {W : World} (hL : laidMet Tryz.prog Rows.sagaEnvsRow.laid W) : Lib.Utf8Tabs 0 1 W ∧ Pow10 W :=
 ⟨utf8Tabs_of_readsT (U8Types.of196 Tryz.laysValid) ⟨by kernel_rfl, by kernel_rfl, by kernel_rfl, by kernel_rfl, by kernel_rfl, by kernel_rfl, by kernel_rfl⟩ (Lib.laidMet.reads hL (.tail _ (.tail _ (.tail _ (.tail _ (.tail _ (.tail _ (.head _)))))))) (Lib.laidMet.reads hL (.tail _ (.tail _ (.tail _ (.head _))))),
  pow10_of_reads (Lib.laidMet.reads hL (.tail _ (.tail _ (.head _))))⟩
theorem err_of_reads {W : World} {name : String} {d : DataW Unit} {g : Nat} {t : TypeId} {ms : Array (String × TypeId)} (h : Lib.VarReads Tryz.prog W name d) (hg : Tryz.prog.globalNamed name = some g) (ht : (Tryz.prog.globals[g]?).map (·.type) = some t) (hu : Tryz.prog.underlying t = some (.interface ms)) :
  ∃ ev, W.cell? ⟨g, 0, none⟩ = some ev ∧ (ev = .nilIface ∨ ∃ te pe, ev = .iface te pe) := by
 obtain ⟨g', t', cs, fuel, p, h1, h2, h3, h4⟩ := h
 obtain rfl := Option.some.inj (hg.symm.trans h1)
 obtain rfl := Option.some.inj (ht.symm.trans h2)
 have hc := World.var?_cell h1 h3 0
 obtain ⟨l⟩ := cs
 cases fuel with
 | zero => simp [DataW.trod] at h4
 | succ n =>
  unfold DataW.trod at h4
  simp only [hu] at h4
  split at h4
  all_goals first
   | (rename_i q _; simp at q; done)
   | exact ⟨_, by simpa using hc, .inl rfl⟩
   | exact ⟨_, by simpa using hc, .inr ⟨_, _, rfl⟩⟩
   | simp_all
theorem sg_errs {W : World} (hL : laidMet Tryz.prog Rows.sagaEnvsRow.laid W) : ErrS W :=
 ⟨err_of_reads (Lib.laidMet.reads hL (.tail _ (.tail _ (.tail _ (.tail _ (.tail _ (.head _))))))) (by kernel_rfl) (by kernel_rfl) (t := 198) Tryz.underlying198,
  err_of_reads (Lib.laidMet.reads hL (.tail _ (.tail _ (.tail _ (.tail _ (.head _)))))) (by kernel_rfl) (by kernel_rfl) (t := 198) Tryz.underlying198⟩
theorem sg_maxl {W : World} (hS : W.ShapedOpen Tryz.prog) : MaxL W :=
 cell_of_shapedOpen_int (zero := #[.int .i64 0]) (t := 3) hS (of_decide_eq_true (by kernel_rfl)) (by kernel_rfl) rfl (by kernel_rfl) (by kernel_rfl) Tryz.underlying3
end Go.Proofs.YtkpooohjodojoaaGreatDoor
