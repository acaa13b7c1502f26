/-
  Rules by which the abstract reading is worked out, and the small laws that this wants.
-/
import Derived.Test.YthlhbbejcmbpoaaDoorEvJ
import Derived.Test.YthlhbbejcmbpoaaDoorEvK
import Derived.Attr
namespace Go.Ev
open Go Go.RowKit

attribute [go_sem] view looks looksG Op.operands Call.operands Array.toList_append Option.toArray evS guardOk dstOk guardC evOp argOk argV look putE keepL thenA inBlockA bodyA resOk resV retV ofVal ofCell constOk cellOk flatV evLen bndOf bndOk inK Own.under argsE calmE St.ext St.push St.cut bindE loadA nth evBin.eq_1 evBin.eq_2 evBin.eq_3 evBin.eq_4 evBin.eq_5 evBin.eq_6 evBin.eq_7 evBin.eq_8 evBin.eq_9 evBin.eq_10 evBin.eq_11 evBin.eq_12 evBin.eq_13 evBin.eq_14 evBin.eq_15 evBin.eq_16 evBin.eq_17 evBin.eq_18 evBB.eq_1 evBB.eq_2 evUn.eq_1 evUn.eq_2
@[go_sem] theorem ev_isPlain_val (v : Value) : isPlain (.val v : AV) = true := rfl
@[go_sem] theorem ev_isPlain_list (xs : List AV) (o : Own) : isPlain (.list xs o : AV) = false := rfl
@[go_sem] theorem ev_isPlain_elem (x : AV) (k : Nat) : isPlain (.elem x k : AV) = false := rfl
@[go_sem] theorem ev_isPlain_box (l k : Nat) : isPlain (.box l k : AV) = false := rfl
@[go_sem] theorem ev_isPlain_clo (f : FuncId) (cs : List AV) : isPlain (.clo f cs : AV) = false := rfl
@[go_sem] theorem ev_isPlain_agg (cs : List AV) : isPlain (.agg cs : AV) = false := rfl
@[go_sem] theorem ev_isPlain_tup (vs : List AV) : isPlain (.tup vs : AV) = false := rfl
@[go_sem] theorem ev_isPlain_yld (k : Nat) : isPlain (.yld k : AV) = false := rfl
@[go_sem] theorem ev_plainOf_val (v : Value) : plainOf (.val v : AV) = v := rfl
@[go_sem] theorem ev_isB_list (xs : List AV) (o : Own) : isB (.list xs o : AV) = false := rfl
@[go_sem] theorem ev_isB_elem (x : AV) (k : Nat) : isB (.elem x k : AV) = false := rfl
@[go_sem] theorem ev_isB_box (l k : Nat) : isB (.box l k : AV) = false := rfl
@[go_sem] theorem ev_isB_clo (f : FuncId) (cs : List AV) : isB (.clo f cs : AV) = false := rfl
@[go_sem] theorem ev_isB_agg (cs : List AV) : isB (.agg cs : AV) = false := rfl
@[go_sem] theorem ev_isB_tup (vs : List AV) : isB (.tup vs : AV) = false := rfl
@[go_sem] theorem ev_isB_yld (k : Nat) : isB (.yld k : AV) = false := rfl
@[go_sem] theorem ev_isInt_list (xs : List AV) (o : Own) : isInt (.list xs o : AV) = false := rfl
@[go_sem] theorem ev_isInt_elem (x : AV) (k : Nat) : isInt (.elem x k : AV) = false := rfl
@[go_sem] theorem ev_isInt_box (l k : Nat) : isInt (.box l k : AV) = false := rfl
@[go_sem] theorem ev_isInt_clo (f : FuncId) (cs : List AV) : isInt (.clo f cs : AV) = false := rfl
@[go_sem] theorem ev_isInt_agg (cs : List AV) : isInt (.agg cs : AV) = false := rfl
@[go_sem] theorem ev_isInt_tup (vs : List AV) : isInt (.tup vs : AV) = false := rfl
@[go_sem] theorem ev_isInt_yld (k : Nat) : isInt (.yld k : AV) = false := rfl
@[go_sem] theorem ev_isStr_list (xs : List AV) (o : Own) : isStr (.list xs o : AV) = false := rfl
@[go_sem] theorem ev_isStr_elem (x : AV) (k : Nat) : isStr (.elem x k : AV) = false := rfl
@[go_sem] theorem ev_isStr_box (l k : Nat) : isStr (.box l k : AV) = false := rfl
@[go_sem] theorem ev_isStr_clo (f : FuncId) (cs : List AV) : isStr (.clo f cs : AV) = false := rfl
@[go_sem] theorem ev_isStr_agg (cs : List AV) : isStr (.agg cs : AV) = false := rfl
@[go_sem] theorem ev_isStr_tup (vs : List AV) : isStr (.tup vs : AV) = false := rfl
@[go_sem] theorem ev_isStr_yld (k : Nat) : isStr (.yld k : AV) = false := rfl
@[go_sem] theorem ev_isB_bool (b : Bool) : isB (.val (.bool b)) = true := rfl
@[go_sem] theorem ev_isB_int (k : IntKind) (n : Int) : isB (.val (.int k n)) = false := rfl
@[go_sem] theorem ev_isB_str (s : ByteArray) : isB (.val (.string s)) = false := rfl
@[go_sem] theorem ev_isB_undef : isB (.val undef) = false := rfl
@[go_sem] theorem ev_boolOf (b : Bool) : boolOf (.val (.bool b)) = b := rfl
@[go_sem] theorem ev_isInt (k : IntKind) (n : Int) : isInt (.val (.int k n)) = true := rfl
@[go_sem] theorem ev_intOfA (k : IntKind) (n : Int) : intOfA (.val (.int k n)) = n := rfl
@[go_sem] theorem ev_kindOfA (k : IntKind) (n : Int) : kindOfA (.val (.int k n)) = k := rfl
@[go_sem] theorem ev_isStr (s : ByteArray) : isStr (.val (.string s)) = true := rfl
@[go_sem] theorem ev_strOf (s : ByteArray) : strOf (.val (.string s)) = s := rfl
@[go_sem] theorem ev_byteOk (n : Int) : byteOk (.val (.int .u8 n)) = (0 ≤ n ∧ n ≤ 255) := rfl
@[go_sem] theorem ev_listOf_list (xs : List AV) (o : Own) : listOf (.list xs o : AV) = xs := rfl
@[go_sem] theorem ev_ownOf_list (xs : List AV) (o : Own) : ownOf (.list xs o : AV) = o := rfl
@[go_sem] theorem ev_isList_val (v : Value) : isList (.val v : AV) = false := rfl
@[go_sem] theorem ev_isList_list (xs : List AV) (o : Own) : isList (.list xs o : AV) = true := rfl
@[go_sem] theorem ev_isList_elem (x : AV) (k : Nat) : isList (.elem x k : AV) = false := rfl
@[go_sem] theorem ev_isList_box (l k : Nat) : isList (.box l k : AV) = false := rfl
@[go_sem] theorem ev_isList_clo (f : FuncId) (cs : List AV) : isList (.clo f cs : AV) = false := rfl
@[go_sem] theorem ev_isList_agg (cs : List AV) : isList (.agg cs : AV) = false := rfl
@[go_sem] theorem ev_isList_tup (vs : List AV) : isList (.tup vs : AV) = false := rfl
@[go_sem] theorem ev_isList_yld (k : Nat) : isList (.yld k : AV) = false := rfl
@[go_sem] theorem ev_offAt_val (v : Value) : offAt (.val v : AV) = 0 := rfl
@[go_sem] theorem ev_offAt_list (xs : List AV) (o : Own) : offAt (.list xs o : AV) = 0 := rfl
@[go_sem] theorem ev_offAt_elem (x : AV) (k : Nat) : offAt (.elem x k : AV) = k := rfl
@[go_sem] theorem ev_offAt_box (l k : Nat) : offAt (.box l k : AV) = k := rfl
@[go_sem] theorem ev_offAt_clo (f : FuncId) (cs : List AV) : offAt (.clo f cs : AV) = 0 := rfl
@[go_sem] theorem ev_offAt_agg (cs : List AV) : offAt (.agg cs : AV) = 0 := rfl
@[go_sem] theorem ev_offAt_tup (vs : List AV) : offAt (.tup vs : AV) = 0 := rfl
@[go_sem] theorem ev_offAt_yld (k : Nat) : offAt (.yld k : AV) = 0 := rfl
@[go_sem] theorem ev_isBox_val (v : Value) : isBox (.val v : AV) = false := rfl
@[go_sem] theorem ev_isBox_list (xs : List AV) (o : Own) : isBox (.list xs o : AV) = false := rfl
@[go_sem] theorem ev_isBox_elem (x : AV) (k : Nat) : isBox (.elem x k : AV) = false := rfl
@[go_sem] theorem ev_isBox_box (l k : Nat) : isBox (.box l k : AV) = true := rfl
@[go_sem] theorem ev_isBox_clo (f : FuncId) (cs : List AV) : isBox (.clo f cs : AV) = false := rfl
@[go_sem] theorem ev_isBox_agg (cs : List AV) : isBox (.agg cs : AV) = false := rfl
@[go_sem] theorem ev_isBox_tup (vs : List AV) : isBox (.tup vs : AV) = false := rfl
@[go_sem] theorem ev_isBox_yld (k : Nat) : isBox (.yld k : AV) = false := rfl
@[go_sem] theorem ev_notTup_val (v : Value) : notTup (.val v : AV) = true := rfl
@[go_sem] theorem ev_notTup_list (xs : List AV) (o : Own) : notTup (.list xs o : AV) = true := rfl
@[go_sem] theorem ev_notTup_elem (x : AV) (k : Nat) : notTup (.elem x k : AV) = true := rfl
@[go_sem] theorem ev_notTup_box (l k : Nat) : notTup (.box l k : AV) = true := rfl
@[go_sem] theorem ev_notTup_clo (f : FuncId) (cs : List AV) : notTup (.clo f cs : AV) = true := rfl
@[go_sem] theorem ev_notTup_agg (cs : List AV) : notTup (.agg cs : AV) = true := rfl
@[go_sem] theorem ev_notTup_tup (vs : List AV) : notTup (.tup vs : AV) = false := rfl
@[go_sem] theorem ev_notTup_yld (k : Nat) : notTup (.yld k : AV) = true := rfl
@[go_sem] theorem ev_isAggA_val (v : Value) : isAggA (.val v : AV) = false := rfl
@[go_sem] theorem ev_isAggA_list (xs : List AV) (o : Own) : isAggA (.list xs o : AV) = false := rfl
@[go_sem] theorem ev_isAggA_elem (x : AV) (k : Nat) : isAggA (.elem x k : AV) = false := rfl
@[go_sem] theorem ev_isAggA_box (l k : Nat) : isAggA (.box l k : AV) = false := rfl
@[go_sem] theorem ev_isAggA_clo (f : FuncId) (cs : List AV) : isAggA (.clo f cs : AV) = false := rfl
@[go_sem] theorem ev_isAggA_agg (cs : List AV) : isAggA (.agg cs : AV) = true := rfl
@[go_sem] theorem ev_isAggA_tup (vs : List AV) : isAggA (.tup vs : AV) = false := rfl
@[go_sem] theorem ev_isAggA_yld (k : Nat) : isAggA (.yld k : AV) = false := rfl
@[go_sem] theorem ev_AV_cells_val (v : Value) : AV.cells (.val v : AV) = [.val v] := rfl
@[go_sem] theorem ev_AV_cells_list (xs : List AV) (o : Own) : AV.cells (.list xs o : AV) = [.list xs o] := rfl
@[go_sem] theorem ev_AV_cells_elem (x : AV) (k : Nat) : AV.cells (.elem x k : AV) = [.elem x k] := rfl
@[go_sem] theorem ev_AV_cells_box (l k : Nat) : AV.cells (.box l k : AV) = [.box l k] := rfl
@[go_sem] theorem ev_AV_cells_clo (f : FuncId) (cs : List AV) : AV.cells (.clo f cs : AV) = [.clo f cs] := rfl
@[go_sem] theorem ev_AV_cells_agg (cs : List AV) : AV.cells (.agg cs : AV) = cs := rfl
@[go_sem] theorem ev_AV_cells_tup (vs : List AV) : AV.cells (.tup vs : AV) = [.tup vs] := rfl
@[go_sem] theorem ev_AV_cells_yld (k : Nat) : AV.cells (.yld k : AV) = [.yld k] := rfl
@[go_sem] theorem ev_AV_pub_val (v : Value) : AV.pub (.val v : AV) = .val v := rfl
@[go_sem] theorem ev_AV_pub_list (xs : List AV) (o : Own) : AV.pub (.list xs o : AV) = .list xs .none := rfl
@[go_sem] theorem ev_AV_pub_elem (x : AV) (k : Nat) : AV.pub (.elem x k : AV) = .elem x k := rfl
@[go_sem] theorem ev_AV_pub_box (l k : Nat) : AV.pub (.box l k : AV) = .box l k := rfl
@[go_sem] theorem ev_AV_pub_clo (f : FuncId) (cs : List AV) : AV.pub (.clo f cs : AV) = .clo f cs := rfl
@[go_sem] theorem ev_AV_pub_agg (cs : List AV) : AV.pub (.agg cs : AV) = .agg (cs.map AV.pubCell) := rfl
@[go_sem] theorem ev_AV_pub_tup (vs : List AV) : AV.pub (.tup vs : AV) = .tup vs := rfl
@[go_sem] theorem ev_AV_pub_yld (k : Nat) : AV.pub (.yld k : AV) = .yld k := rfl
@[go_sem] theorem ev_AV_pubCell_val (v : Value) : AV.pubCell (.val v : AV) = .val v := rfl
@[go_sem] theorem ev_AV_pubCell_list (xs : List AV) (o : Own) : AV.pubCell (.list xs o : AV) = .list xs .none := rfl
@[go_sem] theorem ev_AV_pubCell_elem (x : AV) (k : Nat) : AV.pubCell (.elem x k : AV) = .elem x k := rfl
@[go_sem] theorem ev_AV_pubCell_box (l k : Nat) : AV.pubCell (.box l k : AV) = .box l k := rfl
@[go_sem] theorem ev_AV_pubCell_clo (f : FuncId) (cs : List AV) : AV.pubCell (.clo f cs : AV) = .clo f cs := rfl
@[go_sem] theorem ev_AV_pubCell_agg (cs : List AV) : AV.pubCell (.agg cs : AV) = .agg cs := rfl
@[go_sem] theorem ev_AV_pubCell_tup (vs : List AV) : AV.pubCell (.tup vs : AV) = .tup vs := rfl
@[go_sem] theorem ev_AV_pubCell_yld (k : Nat) : AV.pubCell (.yld k : AV) = .yld k := rfl
@[go_sem] theorem ev_AV_one_val (v : Value) : AV.one (.val v : AV) = true := rfl
@[go_sem] theorem ev_AV_one_list (xs : List AV) (o : Own) : AV.one (.list xs o : AV) = true := rfl
@[go_sem] theorem ev_AV_one_elem (x : AV) (k : Nat) : AV.one (.elem x k : AV) = true := rfl
@[go_sem] theorem ev_AV_one_box (l k : Nat) : AV.one (.box l k : AV) = true := rfl
@[go_sem] theorem ev_AV_one_clo (f : FuncId) (cs : List AV) : AV.one (.clo f cs : AV) = true := rfl
@[go_sem] theorem ev_AV_one_agg (cs : List AV) : AV.one (.agg cs : AV) = false := rfl
@[go_sem] theorem ev_AV_one_tup (vs : List AV) : AV.one (.tup vs : AV) = false := rfl
@[go_sem] theorem ev_AV_one_yld (k : Nat) : AV.one (.yld k : AV) = true := rfl
@[go_sem] theorem ev_refAdd_box (l o n : Nat) : refAdd (.box l o) n = .box l (o + n) := rfl
@[go_sem] theorem ev_refAdd_elem (x : AV) (o n : Nat) : refAdd (.elem x o) n = .elem x (o + n) := rfl
@[go_sem] theorem ev_storeB (st : St) (l o : Nat) (xs : List AV) : storeB st (.box l o) xs = { st with boxes := st.boxes.set l (splice (st.boxes.getD l []) o xs) } := rfl
@[go_sem] theorem ev_sel_true (a b : AV) : AV.sel true a b = a := by unfold AV.sel; split <;> rfl
@[go_sem] theorem ev_sel_false (a b : AV) : AV.sel false a b = b := by unfold AV.sel; split <;> rfl
@[go_sem] theorem ev_sel_bool (t a b : Bool) : AV.sel t (.val (.bool a)) (.val (.bool b)) = .val (.bool (cond t a b)) := by cases t <;> rfl
attribute [go_sem] under_val under_list under_elem under_box under_clo under_agg under_tup under_yld

@[go_sem] theorem tmpsOf_nil : tmpsOf [] = [] := rfl
@[go_sem] theorem tmpsOf_tmp (t : Nat) (r : List Operand) : tmpsOf (.tmp t :: r) = t :: tmpsOf r := rfl
@[go_sem] theorem tmpsOf_const (v : Value) (r : List Operand) : tmpsOf (.const v :: r) = tmpsOf r := rfl
@[go_sem] theorem tmpsOf_func (f : FuncId) (r : List Operand) : tmpsOf (.func f :: r) = tmpsOf r := rfl
@[go_sem] theorem tmpsOf_global (g : Nat) (r : List Operand) : tmpsOf (.global g :: r) = tmpsOf r := rfl
theorem subE_nil (e : Env) : subE [] e := fun _ _ h => by cases h
theorem subE_cons {s : Nat} {c : Bool} {v : AV} {e' e : Env} (h : look e s = some (c, v)) (h' : subE e' e) : subE ((s, c, v) :: e') e := by
  intro k x hk
  simp only [look] at hk
  by_cases q : s = k
  · rw [if_pos q] at hk; cases hk; rw [← q]; exact h
  · rw [if_neg q] at hk; exact h' k x hk
@[go_sem] theorem false_to (p : Prop) : (False → p) = True := eq_true False.elim
@[go_sem] theorem true_to (p : Prop) : (True → p) = p := propext ⟨fun h => h trivial, fun h _ => h⟩
@[go_sem] theorem to_true (p : Sort _) : (p → True) = True := eq_true fun _ => trivial
@[go_sem] theorem ite_f (b c : Bool) : (if b = true then c else false) = (b && c) := by cases b <;> rfl
@[go_sem] theorem ite_t (b c : Bool) : (if b = true then true else c) = (b || c) := by cases b <;> rfl
@[go_sem] theorem bif_f (b c : Bool) : cond b c false = (b && c) := by cases b <;> rfl
@[go_sem] theorem bif_t (b c : Bool) : cond b true c = (b || c) := by cases b <;> rfl
@[go_sem] theorem bif_tt (b c : Bool) : cond true b c = b := rfl
@[go_sem] theorem bif_ff (b c : Bool) : cond false b c = c := rfl
@[go_sem] theorem beq_true' (b : Bool) : (b == true) = b := by cases b <;> rfl
@[go_sem] theorem beq_false' (b : Bool) : (b == false) = !b := by cases b <;> rfl
attribute [go_sem] List.filterMap_nil List.append_nil List.nil_append List.cons_append Option.toList List.map_cons List.map_nil and_imp not_false_eq_true true_and and_true forall_const imp_self reduceIte List.getElem?_cons_zero List.getElem?_cons_succ Option.bind_some
  Bool.true_and Bool.and_true Bool.false_and Bool.and_false Bool.or_true Bool.true_or Bool.or_false Bool.false_or List.toList_toArray List.mem_cons List.not_mem_nil or_false false_or forall_eq forall_eq_or_imp decide_eq_true_eq decide_eq_false_iff_not Bool.not_true Bool.not_false Bool.not_not
@[go_sem] theorem not_tt (b : Bool) : ((!b) = true) = (b = false) := by cases b <;> simp
@[go_sem] theorem not_ff (b : Bool) : ((!b) = false) = (b = true) := by cases b <;> simp
@[go_sem] theorem and_tt (b c : Bool) : ((b && c) = true) = (b = true ∧ c = true) := Bool.and_eq_true b c
@[go_sem] theorem toNat_lit (n : Nat) : (no_index (@OfNat.ofNat Int n instOfNat)).toNat = @OfNat.ofNat Nat n (instOfNatNat n) := rfl
@[go_sem] theorem dec_true (i : Decidable True) : @decide True i = true := by cases i with | isTrue h => rfl | isFalse h => exact absurd trivial h
@[go_sem] theorem dec_false (i : Decidable False) : @decide False i = false := by cases i with | isTrue h => exact h.elim | isFalse h => rfl
@[go_sem] theorem tt_tt' (b : Bool) : (b == b) = true := by cases b <;> rfl
@[go_sem] theorem eq_rfl_st (s : St) : (s = s) = True := eq_true rfl
@[go_sem] theorem tt_tt : (true = true) = True := eq_true rfl
@[go_sem] theorem ff_tt : (false = true) = False := eq_false (by decide)
@[go_sem] theorem tt_ff : (true = false) = False := eq_false (by decide)
@[go_sem] theorem ff_ff : (false = false) = True := eq_true rfl

/-! ### the call's own boxes, behind the caller's -/
@[go_sem] theorem boxes_len (B l : List (List AV)) : (B ++ l).length = B.length + l.length := List.length_append
@[go_sem] theorem rows_len (B l : List (Nat × Nat)) : (B ++ l).length = B.length + l.length := List.length_append
@[go_sem] theorem isRef_own (B l : List (List AV)) (R : List (Nat × Nat)) (L : List LoopA) (k o : Nat) : isRef ⟨B ++ l, R, L⟩ (.box (B.length + k) o) = decide (k < l.length) := by simp [isRef]
@[go_sem] theorem isRef_own0 (B l : List (List AV)) (R : List (Nat × Nat)) (L : List LoopA) (o : Nat) : isRef ⟨B ++ l, R, L⟩ (.box B.length o) = decide (0 < l.length) := by simp [isRef]
@[go_sem] theorem isRef_elem (s : St) (x : AV) (o : Nat) : isRef s (.elem x o) = notTup x := by cases x <;> rfl
@[go_sem] theorem getD_own (B l : List (List AV)) (k : Nat) : (B ++ l).getD (B.length + k) [] = l.getD k [] := by
  rw [List.getD_eq_getElem?_getD, List.getElem?_append_right (by omega), Nat.add_sub_cancel_left, List.getD_eq_getElem?_getD]
@[go_sem] theorem getD_own0 (B l : List (List AV)) : (B ++ l).getD B.length [] = l.getD 0 [] := by
  rw [List.getD_eq_getElem?_getD, List.getElem?_append_right (by omega), Nat.sub_self, List.getD_eq_getElem?_getD]
@[go_sem] theorem cellsAt_own (B l : List (List AV)) (R : List (Nat × Nat)) (L : List LoopA) (k o : Nat) : cellsAt ⟨B ++ l, R, L⟩ (.box (B.length + k) o) = l.getD k [] := getD_own B l k
@[go_sem] theorem cellsAt_own0 (B l : List (List AV)) (R : List (Nat × Nat)) (L : List LoopA) (o : Nat) : cellsAt ⟨B ++ l, R, L⟩ (.box B.length o) = l.getD 0 [] := getD_own0 B l
@[go_sem] theorem cellsAt_elem (s : St) (x : AV) (o : Nat) : cellsAt s (.elem x o) = x.cells := rfl
@[go_sem] theorem set_own (B l : List (List AV)) (k : Nat) (x : List AV) : (B ++ l).set (B.length + k) x = B ++ l.set k x := by rw [List.set_append_right _ _ (by omega), Nat.add_sub_cancel_left]
@[go_sem] theorem set_own0 (B l : List (List AV)) (x : List AV) : (B ++ l).set B.length x = B ++ l.set 0 x := by rw [List.set_append_right _ _ (by omega), Nat.sub_self]
@[go_sem] theorem row_own (B l : List (Nat × Nat)) (k : Nat) : (B ++ l)[B.length + k]? = l[k]? := by rw [List.getElem?_append_right (by omega), Nat.add_sub_cancel_left]
@[go_sem] theorem row_own0 (B l : List (Nat × Nat)) : (B ++ l)[B.length]? = l[0]? := by rw [List.getElem?_append_right (by omega), Nat.sub_self]
@[go_sem] theorem rset_own (B l : List (Nat × Nat)) (k : Nat) (x : Nat × Nat) : (B ++ l).set (B.length + k) x = B ++ l.set k x := by rw [List.set_append_right _ _ (by omega), Nat.add_sub_cancel_left]
@[go_sem] theorem rset_own0 (B l : List (Nat × Nat)) (x : Nat × Nat) : (B ++ l).set B.length x = B ++ l.set 0 x := by rw [List.set_append_right _ _ (by omega), Nat.sub_self]
attribute [go_sem] List.take_succ_cons List.take_zero List.take_nil List.drop_succ_cons List.drop_zero List.drop_nil Int.toNat_natCast List.append_assoc List.length_cons List.length_nil Nat.zero_add Nat.add_zero List.set_cons_zero List.set_cons_succ List.getD_cons_zero List.getD_cons_succ
@[go_sem] theorem splice_all (x v : AV) : splice [x] 0 [v] = [v] := rfl
@[go_sem] theorem drop_take_all (l : List AV) (n : Nat) (h : l.length = n) : (l.drop 0).take n = l := by simp [← h]

theorem enters_some {P : Program} {f : FuncId} {fn : Func} (hf : P.funcs[f]? = some fn) (hb : fn.body.isSome = true) (hn : fn.name ≠ "runtime.NumGoroutine") : Enters P f := by
  obtain ⟨c, hc⟩ := Option.isSome_iff_exists.1 hb
  exact Ev.enters_of hf hc hn
/-- A function of the library that leaves all that there is. -/
theorem acalls_below {P : Program} {w0 : World} {f : FuncId} {args : List AV} {st : St} {r : Value} (hen : Enters P f) (hr : flatV r = true)
    (h : ∀ (M : Mem) (w : World) (vals : Array Value), Below w0.heap.size w0 w → RowR w0 M w vals args → Calls P f vals w fun en w' => en = .returned r ∧ Below w.heap.size w w') : ACalls P w0 f args st fun v s => v = .val r ∧ s = st :=
  ⟨hen, fun M w vals hst hrow => (h M w vals hst.below hrow).mono fun en w' ⟨h1, h2⟩ => by
    obtain ⟨r1, r2⟩ := hst.later h2 w.heap.size 0 (Nat.le_refl _) (.inr rfl)
    exact ⟨r, _, _, st, h1, ⟨rfl, rfl⟩, r2, r1, .flat hr⟩⟩
theorem acalls_below_tup {P : Program} {w0 : World} {f : FuncId} {args : List AV} {st : St} {rs : List Value} (hen : Enters P f) (hr : ∀ r ∈ rs, flatV r = true)
    (h : ∀ (M : Mem) (w : World) (vals : Array Value), Below w0.heap.size w0 w → RowR w0 M w vals args → Calls P f vals w fun en w' => en = .returned (.tuple rs.toArray) ∧ Below w.heap.size w w') : ACalls P w0 f args st fun v s => v = .tup (rs.map .val) ∧ s = st :=
  ⟨hen, fun M w vals hst hrow => (h M w vals hst.below hrow).mono fun en w' ⟨h1, h2⟩ => by
    obtain ⟨r1, r2⟩ := hst.later h2 w.heap.size 0 (Nat.le_refl _) (.inr rfl)
    exact ⟨.tuple rs.toArray, _, _, st, h1, ⟨rfl, rfl⟩, r2, r1, .tup (by simp) fun i a b => by simp only [List.getElem_toArray, List.getElem_map]; exact .flat (hr _ (List.getElem_mem _))⟩⟩
theorem row_vals {w0 : World} {M : Mem} {w : World} {vals : Array Value} {us : List Value} (h : RowR w0 M w vals (us.map .val)) : vals = us.toArray := by
  apply Array.ext
  · simpa using h.1
  · intro i h1 h2
    have h2' : i < us.length := by simpa using h2
    have := h.2 i h1 (by simpa using h2')
    simp only [List.getElem_map] at this
    simp only [List.getElem_toArray]
    exact this.val_inv.1

theorem fin_same {st : St} {Post : AV → St → Prop} {r : AV} (hc : Calm st.boxes.length st.rows.length st.loops.length st) (hu : Under st.boxes.length st.rows.length st.loops.length r) (hp : Post r st) : finA st Post r st := by
  have e : st.cut st.boxes.length st.rows.length st.loops.length = st := by simp [St.cut]
  exact ⟨Nat.le_refl _, Nat.le_refl _, Nat.le_refl _, by rw [e]; exact hc, hu, by rw [e]; exact hp⟩
theorem fin_own {B b : List (List AV)} {Rw r : List (Nat × Nat)} {L l : List LoopA} {Post : AV → St → Prop} {v : AV} (hc : Calm B.length Rw.length L.length ⟨B, Rw, L⟩) (hu : Under B.length Rw.length L.length v) (hp : Post v ⟨B, Rw, L⟩) :
    finA ⟨B, Rw, L⟩ Post v ⟨B ++ b, Rw ++ r, L ++ l⟩ := by
  have e : (⟨B ++ b, Rw ++ r, L ++ l⟩ : St).cut B.length Rw.length L.length = ⟨B, Rw, L⟩ := by simp [St.cut]
  exact ⟨by simp, by simp, by simp, by rw [e]; exact hc, hu, by rw [e]; exact hp⟩

theorem fin_at {B : List (List AV)} {Rw : List (Nat × Nat)} {L : List LoopA} {s : St} {Post : AV → St → Prop} {v : AV} (hc : Calm B.length Rw.length L.length ⟨B, Rw, L⟩) (h1 : B <+: s.boxes) (h2 : Rw <+: s.rows) (h3 : L <+: s.loops) (hu : Under B.length Rw.length L.length v) (hp : Post v ⟨B, Rw, L⟩) :
    finA ⟨B, Rw, L⟩ Post v s := by
  obtain ⟨b, e1⟩ := h1
  obtain ⟨r, e2⟩ := h2
  obtain ⟨l, e3⟩ := h3
  have : s = ⟨B ++ b, Rw ++ r, L ++ l⟩ := by
    cases s; simp only at e1 e2 e3; rw [e1, e2, e3]
  rw [this]
  exact fin_own hc hu hp

/-! ### append -/
@[go_sem] theorem evAppend_full (P : Program) (st : St) (t : TypeId) (xs : List AV) (x : AV) : evAppend P st t (.list xs .full) x = match elT P t with
    | some (el, sz, _, by8) => ((isList x = true ∧ 0 < sz ∧ (zeroT P el).isSome = true ∧ (xs.length + (listOf x).length) * by8 ≤ 140737488355328 ∧ xs.length + (listOf x).length ≤ 4611686018427387904 ∧ (∀ y ∈ xs, y.cells.length = sz) ∧ (∀ y ∈ listOf x, y.cells.length = sz ∧ notTup y = true)) ∧ 0 < (listOf x).length,
        .list (xs ++ (listOf x).map AV.pub) (.row st.rows.length), { st with rows := st.rows ++ [(xs.length + (listOf x).length, sz)] })
    | none => (False, .junk, st) := by
  unfold evAppend
  cases h : elT P t with
  | none => rfl
  | some p => obtain ⟨a, b, c, d⟩ := p; simp [listOf, ownOf, isList]
@[go_sem] theorem evAppend_row (P : Program) (st : St) (t : TypeId) (xs : List AV) (id : Nat) (x : AV) : evAppend P st t (.list xs (.row id)) x = match elT P t with
    | some (el, sz, _, by8) => ((isList x = true ∧ 0 < sz ∧ (zeroT P el).isSome = true ∧ (xs.length + (listOf x).length) * by8 ≤ 140737488355328 ∧ xs.length + (listOf x).length ≤ 4611686018427387904 ∧ (∀ y ∈ xs, y.cells.length = sz) ∧ (∀ y ∈ listOf x, y.cells.length = sz ∧ notTup y = true)) ∧ st.rows[id]? = some (xs.length, sz),
        .list (xs ++ (listOf x).map AV.pub) (.row id), { st with rows := st.rows.set id (xs.length + (listOf x).length, sz) })
    | none => (False, .junk, st) := by
  unfold evAppend
  cases h : elT P t with
  | none => rfl
  | some p => obtain ⟨a, b, c, d⟩ := p; simp [listOf, ownOf, isList]
/-- A list that grows by the call's own appends, behind the rows 'Rw'. -/
def Grow (Rw : List (Nat × Nat)) (sz : Nat) (xs : List AV) (o : Own) (r : List (Nat × Nat)) : Prop := (xs = [] ∧ o = .full ∧ r = []) ∨ (o = .row Rw.length ∧ r = [(xs.length, sz)])
theorem Grow.nil (Rw : List (Nat × Nat)) (sz : Nat) : Grow Rw sz [] .full [] := .inl ⟨rfl, rfl, rfl⟩
theorem Grow.more (Rw : List (Nat × Nat)) (sz : Nat) (xs : List AV) (n : Nat) (h : xs.length = n) : Grow Rw sz xs (.row Rw.length) [(n, sz)] := .inr ⟨rfl, by rw [h]⟩
theorem evAppend_grow {P : Program} {t el : TypeId} {sz by8 : Nat} {ag : Bool} {Rw r : List (Nat × Nat)} {xs : List AV} {o : Own} (he : elT P t = some (el, sz, ag, by8)) (hz : (zeroT P el).isSome = true) (hs : 0 < sz) (h : Grow Rw sz xs o r) (B : List (List AV)) (L : List LoopA) (y : AV) (o2 : Own) :
    evAppend P ⟨B, Rw ++ r, L⟩ t (.list xs o) (.list [y] o2) = (((xs.length + 1) * by8 ≤ 140737488355328 ∧ xs.length + 1 ≤ 4611686018427387904 ∧ (∀ y ∈ xs, y.cells.length = sz) ∧ y.cells.length = sz ∧ notTup y = true), .list (xs ++ [y.pub]) (.row Rw.length), ⟨B, Rw ++ [(xs.length + 1, sz)], L⟩) := by
  rcases h with ⟨rfl, rfl, rfl⟩ | ⟨rfl, rfl⟩
  · rw [evAppend_full, he]; simp [listOf, isList, hz, hs]
  · rw [evAppend_row, he]; simp [listOf, isList, hz, hs]
end Go.Ev
