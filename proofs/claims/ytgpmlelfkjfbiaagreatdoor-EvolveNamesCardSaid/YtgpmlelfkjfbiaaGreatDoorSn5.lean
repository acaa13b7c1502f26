/-
  Part 5 of the proof: rules and walks that the claim's last text uses.
-/
import Derived.Test.YtgpmlelfkjfbiaaGreatDoorSn4
set_option linter.unusedSimpArgs false
set_option linter.unusedVariables false
set_option maxRecDepth 100000
set_option maxHeartbeats 4000000
namespace Go.Ev
open Go Go.RowKit Go.Shelf Go.Lib Go.Proofs
theorem Ze0 (P : Program) {w : World} {b : Nat} {cur : Array Value} {te : TypeId} (h : w.heap[b]? = some (.cells cur te (0, 0))) (o : Nat) (vs : List Value) (hl : o + vs.length ≤ cur.size) (h1 : ∀ v ∈ vs, v.oneCell' = true) :
  w.setCells b o vs = w.setRow b (cur.toList.take o ++ vs ++ cur.toList.drop (o + vs.length)).toArray := by
 have e1 := run_storeCells_at P b o te vs 0 cur w h (by simpa using hl) h1
 have e2 := run_storeCells_cells (P := P) b o vs 0 w (fun j hj => by rw [cell_of_row w b _ cur te _ h, Array.getElem?_eq_getElem (by omega)]; rfl) (fun j hj => by simp [World.frozen?, h]) h1
 simp only [Nat.add_zero] at e1 e2
 rw [e1] at e2
 injection e2 with _ q
 exact q.symm
theorem Zly (w : World) (c c' : Array Value) (te : TypeId) : (w.alloc (.cells c te)).setRow w.heap.size c' = w.alloc (.cells c' te) := by
 unfold World.setRow World.alloc
 congr 1
 apply Array.ext
 ·
  simp
 ·
  intro i h1 h2
  simp only [Array.getElem_modify]
  split
  ·
   subst i; simp
  ·
   rename_i hne
   have hlt : i < w.heap.size := by
    have : i < w.heap.size + 1 := by simpa using h2
    omega
   rw [Array.getElem_push_lt hlt, Array.getElem_push_lt hlt]
theorem ZpW {α : Type} (A V : List α) (i n m : Nat) (hi : i ≤ n) (hA : n + m ≤ A.length) (hV : V.length = m) :
  (A.take (i + m) ++ (A.take n).drop i ++ A.drop (n + m)).take i ++ V ++ (A.take (i + m) ++ (A.take n).drop i ++ A.drop (n + m)).drop (i + m) = A.take i ++ V ++ (A.take n).drop i ++ A.drop (n + m) := by
 have e : (A.take (i + m)).length = i + m := by rw [List.length_take]; omega
 rw [List.append_assoc (A.take (i + m)), List.take_append_of_le_length (by omega), List.take_take, Nat.min_eq_left (by omega), List.drop_append_of_le_length (by omega), List.drop_of_length_le (by omega), List.nil_append]
 simp only [List.append_assoc]
section
variable {P : Program} {w0 : World} {ρ : Ren} {nm : String} {sz bytes : Nat} {z : Value} {st : St} {M : Mem} {w : World}
theorem Zw5 {A V rest : List Value} {cs Y : List AV} {i n m : Nat} (hi : i ≤ n) (hA : n ≤ A.length) (hc : cs.length = n) (hV : V.length = m) (hY : Y.length = m) (ha : ∀ (j : Nat) (v : Value) (x : AV), A[j]? = some v → cs[j]? = some x → R w0 M w v x) (hv : ∀ (j : Nat) (v : Value) (x : AV), V[j]? = some v → Y[j]? = some x → R w0 M w v x) :
  ∀ (j : Nat) (v : Value) (x : AV), (A.take i ++ V ++ (A.take n).drop i ++ rest)[j]? = some v → (cs.take i ++ Y ++ cs.drop i)[j]? = some x → R w0 M w v x := by
 intro j v x h1 h2
 have l1 : (A.take i).length = i := by rw [List.length_take]; omega
 have l2 : (cs.take i).length = i := by rw [List.length_take]; omega
 have l3 : ((A.take n).drop i).length = n - i := by rw [List.length_drop, List.length_take]; omega
 simp only [List.append_assoc] at h1 h2
 by_cases q : j < i
 ·
  rw [List.getElem?_append_left (by omega), List.getElem?_take, if_pos q] at h1 h2
  exact ha j v x h1 h2
 rw [List.getElem?_append_right (by omega), l1] at h1
 rw [List.getElem?_append_right (by omega), l2] at h2
 by_cases q2 : j - i < m
 ·
  rw [List.getElem?_append_left (by omega)] at h1 h2
  exact hv _ v x h1 h2
 rw [List.getElem?_append_right (by omega), hV] at h1
 rw [List.getElem?_append_right (by omega), hY, List.getElem?_drop] at h2
 have hlt := (List.getElem?_eq_some_iff.1 h2).1
 rw [List.getElem?_append_left (by omega), List.getElem?_drop, List.getElem?_take, if_pos (by omega)] at h1
 exact ha _ v x h1 h2
theorem Znr (L : InsLay P ρ nm sz bytes z) (hzc : z.cells.size = sz) (h0 : 0 < sz) {id ver n i : Nat} {cs ys : List AV} {ow : Own} (hrow : st.rows[id]? = some (.vec ver sz cs)) (hcs : cs.length = n * sz) (hi : i < n) (hm : 0 < ys.length)
  (hx : ∀ y ∈ ys, y.cells.length = sz ∧ ZaH y = true) (hb : (n + ys.length) * bytes ≤ 140737488355328) (hb2 : n + ys.length ≤ 4611686018427387904) {v0 vx : Value} (hst : RelSt w0 M st w) (hv0 : R w0 M w v0 (.vec id ver 0 n)) (hvx : R w0 M w vx (.list ys ow)) :
  Calls P (ρ.f 22) #[v0, .int .i64 i, vx] w (Comes' w0 M w fun r s => r = .vec id (ver + 1) 0 (n + ys.length) ∧ s = { st with rows := st.rows.set id (.vec (ver + 1) sz (cs.take (i * sz) ++ ys.flatMap (fun y => y.pub.cells) ++ cs.drop (i * sz))) }) := by
 have hidN : id < M.NR := by rw [hst.NR]; exact (List.getElem?_eq_some_iff.1 hrow).1
 obtain ⟨f1, f2, f3, f4, f5, f6, f7, cur, te, f8, f9, f10, f11, f12⟩ := hst.row id _ hrow
 cases hv0 with
 | @vec _ _ _ _ p cap hid' hver hh =>
 obtain ⟨rfl, hcap, hnc⟩ := hh f1.symm
 simp only [Nat.add_zero, Nat.zero_mul] at hcap ⊢
 subst hcap
 have himm0 : ∀ (b o c : Nat), vx = .slice (some ⟨b, o, none⟩) ys.length c → M.imm w0 b o := by
  cases hvx with
  | nil _ => simp at hm
  | emp _ => simp at hm
  | @list b0 off0 cap0 _ _ sz2 us hc hm' hcell hu ho =>
   intro b o c e
   have e0 := (hcell 0 hm).1
   have e1 := (hu 0 hm).cells.1
   have e2 := (hx _ (List.getElem_mem hm)).1
   have := ((hcell 0 hm).2 0 (by omega)).1
   cases e
   simpa using this
 obtain ⟨ux, x1, x2⟩ := hvx.list_open (fun y hy => (hx y hy).1)
 have x1' : ∀ i, i < ys.length → (ux i).cells.size = sz := fun i hi => (x1 i hi).1
 rcases x2 with ⟨_, q, _⟩ | ⟨bx, ox, cx', sz', rfl, hxc, hxm, _, hcx⟩
 ·
  subst q; simp at hm
 have himm : M.imm w0 bx ox := himm0 bx ox cx' rfl
 have hne : bx ≠ M.blk id := by
  intro q
  rcases himm with k | k
  ·
   rw [q] at k; omega
  ·
   rw [q, f4] at k; omega
 have hnew := Zda (w := w) x1' h0 hcx
 have hvl : (flat ux ys.length).length = ys.length * sz := Zaq x1'
 have hYl : (ys.flatMap fun y => y.pub.cells).length = ys.length * sz := Zgw (fun y hy => (hx y hy).1)
 have hYone := ZmM (fun i hi => (x1 i hi).2) (fun y hy => (hx y hy).2)
 have hV1 : ∀ v ∈ flat ux ys.length, v.oneCell' = true := ZkW x1 (fun y hy => (hx y hy).2)
 have hle : i * sz ≤ n * sz := Nat.mul_le_mul_right _ (by omega)
 have hncap : n * sz ≤ cur.size := by rw [f9]; exact Nat.mul_le_mul_right _ hnc
 have hposm : 0 < ys.length * sz := Nat.mul_pos hm h0
 have hposn : 0 < n * sz := Nat.mul_pos (by omega) h0
 have hclen : (cur.toList.take (n * sz)).length = n * sz := by simp; omega
 have hcone : ∀ v ∈ cur.toList.take (n * sz), v.oneCell' = true := by
  intro v hv
  obtain ⟨k, hk, rfl⟩ := List.mem_iff_getElem.1 hv
  rw [hclen] at hk
  rw [List.getElem_take, Array.getElem_toList]
  exact (f12 k (by omega) (by omega)).oneCell (f11 _ (List.getElem_mem _))
 have hcell : ∀ j v, (cur.toList.take (n * sz))[j]? = some v → w.cell? ⟨M.blk id, 0 + j, none⟩ = some v := by
  intro j u hj
  rw [List.getElem?_take] at hj
  split at hj
  ·
   rw [Nat.zero_add, cell_of_row w _ j cur te _ f8, ← Array.getElem?_toList]; exact hj
  ·
   cases hj
 have hvs : ∀ j v, (flat ux ys.length)[j]? = some v → w.cell? ⟨bx, ox + j, none⟩ = some v := fun j v hj => by
  have := hnew j v hj
  rwa [ZcD] at this
 have hone : ∀ x ∈ cs.take (i * sz) ++ ys.flatMap (fun y => y.pub.cells) ++ cs.drop (i * sz), x.one = true := by
  intro x hx
  rcases List.mem_append.1 hx with hx | hx
  ·
   rcases List.mem_append.1 hx with hx | hx
   ·
    exact f11 x (List.mem_of_mem_take hx)
   ·
    exact hYone x hx
  ·
   exact f11 x (List.mem_of_mem_drop hx)
 have hNM : (n + ys.length) * sz = n * sz + ys.length * sz := Nat.add_mul ..
 have hcl : (cs.take (i * sz) ++ ys.flatMap (fun y => y.pub.cells) ++ cs.drop (i * sz)).length = (n + ys.length) * sz := by
  rw [List.length_append, List.length_append, hYl, List.length_take, List.length_drop, hNM]; omega
 have hcells : ∀ (cells : Array Value) (rest : List Value), cells.toList = cur.toList.take (i * sz) ++ flat ux ys.length ++ (cur.toList.take (n * sz)).drop (i * sz) ++ rest → ∀ (k : Nat) (v : Value) (x : AV), cells[k]? = some v → (cs.take (i * sz) ++ ys.flatMap (fun y => y.pub.cells) ++ cs.drop (i * sz))[k]? = some x → R w0 M w v x := by
  intro cells rest hcl' k v x hv' hx'
  rw [← Array.getElem?_toList, hcl'] at hv'
  refine Zw5 (A := cur.toList) (rest := rest) hle (by simpa using hncap) hcs hvl hYl (fun j v x h1 h2 => ?_) (fun j v x h1 h2 => Zvk h0 x1 (fun y hy => (hx y hy).1) h1 h2) k v x hv' hx'
  rw [Array.getElem?_toList] at h1
  obtain ⟨q1, rfl⟩ := Array.getElem?_eq_some_iff.1 h1
  obtain ⟨q2, rfl⟩ := List.getElem?_eq_some_iff.1 h2
  exact f12 j q1 q2
 obtain ⟨d1, d2⟩ := hst.drew
 by_cases hroom : n + ys.length ≤ M.cap id
 ·
  -- there is room
  have hfit : n * sz + ys.length * sz ≤ cur.size := by rw [f9, ← hNM]; exact Nat.mul_le_mul_right _ hroom
  have hsh : ∃ tA kA, w.shape? bx = some (tA, kA) ∧ kA ≠ 0 := by
   have := hvs 0 _ (List.getElem?_eq_getElem (by omega))
   unfold World.cell? at this
   unfold World.shape?
   cases hq : w.heap[bx]? with
   | none => simp [hq] at this
   | some o =>
    cases o with
    | cells c t f =>
     refine ⟨_, _, rfl, fun q => ?_⟩
     simp [hq] at this
     have := (Array.getElem?_eq_some_iff.1 this).1
     omega
    | _ => simp [hq] at this
  obtain ⟨tA, kA, hsa, hkA⟩ := hsh
  refine (ZoM L (M.blk id) 0 n (M.cap id) i bx ox ys.length cx' (cur.toList.take (n * sz)) (flat ux ys.length) w hi hm hroom (by unfold maxLen at f6; omega) hne hclen hvl hcell
   (fun j hj => by rw [Nat.zero_add, cell_of_row w _ j cur te _ f8, Array.getElem?_eq_getElem (by omega)]; rfl) (fun j hj => by simp [World.frozen?, f8]) hvs hcone hV1 tA te kA cur.size hsa (by simp [World.shape?, f8]) hkA (by omega) (fun j => by simp [World.frozen?, f8])).mono ?_
  rintro en w' ⟨rfl, rfl⟩
  have hw0 : w.drew.heap[M.blk id]? = some (.cells cur te (0, 0)) := f8
  have hdl : ((cur.toList.take (n * sz)).drop (i * sz)).length = n * sz - i * sz := by rw [List.length_drop, hclen]
  rw [Ze0 P hw0 _ _ (by rw [hdl]; omega) (fun v hv => hcone v (List.mem_of_mem_drop hv))]
  have hw1 := setRow_heap w.drew (M.blk id) cur (cur.toList.take (0 + (i * sz + ys.length * sz)) ++ (cur.toList.take (n * sz)).drop (i * sz) ++ cur.toList.drop (0 + (i * sz + ys.length * sz) + ((cur.toList.take (n * sz)).drop (i * sz)).length)).toArray te _ hw0
  rw [Ze0 P hw1 _ _ (by simp only [List.size_toArray, List.length_append, List.length_take, List.length_drop, Array.length_toList]; omega) hV1, setRow_setRow]
  have hL := ZpW cur.toList (flat ux ys.length) (i * sz) (n * sz) (ys.length * sz) hle (by simpa using hfit) hvl
  have e1 : 0 + (i * sz + ys.length * sz) + ((cur.toList.take (n * sz)).drop (i * sz)).length = n * sz + ys.length * sz := by rw [hdl]; omega
  have e2 : 0 + i * sz + (flat ux ys.length).length = i * sz + ys.length * sz := by rw [hvl]; omega
  rw [e2, e1]
  simp only [Nat.zero_add]
  rw [hL]
  generalize hc' : (cur.toList.take (i * sz) ++ flat ux ys.length ++ (cur.toList.take (n * sz)).drop (i * sz) ++ cur.toList.drop (n * sz + ys.length * sz)).toArray = cur'
  have hsz' : cur'.size = cur.size := by rw [← hc']; simp only [List.size_toArray, List.length_append, List.length_take, List.length_drop, Array.length_toList, hvl]; omega
  have hext : Ext w0 M w.drew (M.growRow id (M.blk id) (M.cap id) (ver + 1) 0) (w.drew.setRow (M.blk id) cur') := by
   refine Zfq (M := M) (M.growRow id (M.blk id) (M.cap id) (ver + 1) 0) rfl (fun _ _ => rfl) rfl (fun i hi => ?_) (fun b => ?_) hw0 f3 (fun j hj => by rw [f4] at hj; omega)
   ·
    by_cases c : i = id
    ·
     subst c
     simp only [Mem.growRow, if_true, f1]
     exact ⟨by omega, fun q => absurd q (by omega)⟩
    ·
     simp only [Mem.growRow, if_neg c]
     exact ⟨Nat.le_refl _, fun _ => ⟨trivial, trivial, trivial⟩⟩
   ·
    simp only [Mem.growRow]
    split
    ·
     rename_i c
     rw [c, f4]
     exact Nat.le_refl _
    ·
     exact Nat.le_refl _
  have hblt := hst.row_lt hidN
  have q : (M.growRow id (M.blk id) (M.cap id) (ver + 1) 0).fr id = ver + 1 ∧ (M.growRow id (M.blk id) (M.cap id) (ver + 1) 0).blk id = M.blk id ∧ (M.growRow id (M.blk id) (M.cap id) (ver + 1) 0).cap id = M.cap id ∧ (M.growRow id (M.blk id) (M.cap id) (ver + 1) 0).rsz id = M.rsz id ∧ (M.growRow id (M.blk id) (M.cap id) (ver + 1) 0).top (M.blk id) = 0 := by simp [Mem.growRow]
  obtain ⟨q1, q2, q3, q4, q5⟩ := q
  have hst' := d1.growRow' hrow (x := .vec (ver + 1) sz (cs.take (i * sz) ++ ys.flatMap (fun y => y.pub.cells) ++ cs.drop (i * sz))) (w' := w.drew.setRow (M.blk id) cur') (b := M.blk id) (cap := M.cap id) (k := ver + 1) (tp := 0) (Below.setRow (Below.refl _ _) f3 _) (by simp) (by simpa using hblt)
   (fun l hl => ⟨f5 l hl, setRow_other w.drew _ _ _ (f5 l hl)⟩) (fun i hi hne => by
    have : M.blk i ≠ M.blk id := fun q => hne (hst.rowinj i id hi hidN q)
    exact ⟨this, setRow_other w.drew _ _ _ this⟩) (by
    simp only [RowOk, q1, q2, q3, q4, q5]
    exact ⟨trivial, f2, f3, trivial, f5, f6, h0, cur', te, setRow_heap w.drew _ cur cur' te _ hw0, hsz'.trans f9, by rw [hcl, hsz', f9]; exact Nat.mul_le_mul_right _ hroom, hone,
     fun i a b => ((hcells cur' _ (by rw [← hc']) i _ _ (Array.getElem?_eq_getElem a) (List.getElem?_eq_getElem b)).mono d2).mono hext⟩) hext (KeepsObj.setRow hw0 _)
  exact ⟨_, _, _, _, rfl, ⟨rfl, rfl⟩, d2.trans hext, hst', .vec hidN (by rw [q1]; exact Nat.le_refl _) fun _ => ⟨by rw [q2]; simp, by rw [q3]; rfl, hroom⟩⟩
 ·
  -- a new block
  refine (ZqP L hzc h0 (M.blk id) 0 n (M.cap id) i bx ox ys.length cx' (cur.toList.take (n * sz)) (flat ux ys.length) w hi hm hnc (by omega) hb hb2 hclen hvl hcell hvs hcone hV1).mono ?_
  rintro en w' ⟨rfl, rfl⟩
  have hneed : n + ys.length ≤ maxLen := by simp [maxLen]; omega
  have hge := grownCap_ge w (n + ys.length) (M.cap id) (ρ.t 9)
  have hle' := grownCap_le_maxLen w (n + ys.length) (M.cap id) (ρ.t 9) hneed
  generalize grownCap w (n + ys.length) (M.cap id) (ρ.t 9) = gc at *
  generalize hROW : ((cur.toList.take (n * sz)).take (i * sz)).toArray ++ Builtin.zeroCells z.cells (n + ys.length - i) ++ Builtin.zeroCells z.cells (gc - (n + ys.length)) = ROW
  have hsplit : (n + ys.length - i) * sz = n * sz + ys.length * sz - i * sz := by rw [Nat.sub_mul, hNM]
  have hgs : (gc - (n + ys.length)) * sz = gc * sz - (n * sz + ys.length * sz) := by rw [Nat.sub_mul, hNM]
  have hgl : n * sz + ys.length * sz ≤ gc * sz := by rw [← hNM]; exact Nat.mul_le_mul_right _ hge
  have hRs : ROW.size = gc * sz := by
   rw [← hROW]
   simp only [Array.size_append, List.size_toArray, List.length_take, size_zeroCells, hzc, Array.length_toList]
   omega
  have hdl : ((cur.toList.take (n * sz)).drop (i * sz)).length = n * sz - i * sz := by rw [List.length_drop, hclen]
  have hX : (w.alloc (.cells ROW (ρ.t 9))).drew.heap[w.heap.size]? = some (.cells ROW (ρ.t 9) (0, 0)) := heap_alloc_new w _
  rw [Ze0 P hX _ _ (by rw [hvl, hRs]; omega) hV1]
  have hX1 := setRow_heap (w.alloc (.cells ROW (ρ.t 9))).drew w.heap.size ROW (ROW.toList.take (i * sz) ++ flat ux ys.length ++ ROW.toList.drop (i * sz + (flat ux ys.length).length)).toArray (ρ.t 9) _ hX
  generalize hc1 : (ROW.toList.take (i * sz) ++ flat ux ys.length ++ ROW.toList.drop (i * sz + (flat ux ys.length).length)).toArray = c1 at hX1 ⊢
  have hX2 : ((w.alloc (.cells ROW (ρ.t 9))).drew.setRow w.heap.size c1).drew.heap[w.heap.size]? = some (.cells c1 (ρ.t 9) (0, 0)) := hX1
  have hc1s : c1.size = gc * sz := by
   rw [← hc1]
   simp only [List.size_toArray, List.length_append, List.length_take, List.length_drop, Array.length_toList, hvl, hRs]
   omega
  rw [Ze0 P hX2 _ _ (by rw [hdl, hc1s]; omega) (fun v hv => hcone v (List.mem_of_mem_drop hv))]
  generalize hc2 : (c1.toList.take (i * sz + ys.length * sz) ++ (cur.toList.take (n * sz)).drop (i * sz) ++ c1.toList.drop (i * sz + ys.length * sz + ((cur.toList.take (n * sz)).drop (i * sz)).length)).toArray = cells
  have hW : (((w.alloc (.cells ROW (ρ.t 9))).drew.setRow w.heap.size c1).drew).setRow w.heap.size cells = w.drew.drew.alloc (.cells cells (ρ.t 9)) := by
   have a1 : ((w.alloc (.cells ROW (ρ.t 9))).drew.setRow w.heap.size c1).drew = (w.drew.drew.alloc (.cells ROW (ρ.t 9))).setRow w.heap.size c1 := rfl
   rw [a1, setRow_setRow]
   exact Zly w.drew.drew ROW cells (ρ.t 9)
  rw [hW]
  have hsize : cells.size = gc * sz := by
   rw [← hc2]
   simp only [List.size_toArray, List.length_append, List.length_take, List.length_drop, Array.length_toList, hdl, hc1s]
   omega
  have hcurl : (cur.toList.take (n * sz)).take (i * sz) = cur.toList.take (i * sz) := by rw [List.take_take, Nat.min_eq_left hle]
  have hcil : (cur.toList.take (i * sz)).length = i * sz := by simp; omega
  have hRt : ROW.toList.take (i * sz) = cur.toList.take (i * sz) := by
   rw [← hROW, hcurl]
   simp only [Array.toList_append, List.append_assoc]
   rw [List.take_append_of_le_length (by omega), List.take_of_length_le (by omega)]
  have hclist : cells.toList = cur.toList.take (i * sz) ++ flat ux ys.length ++ (cur.toList.take (n * sz)).drop (i * sz) ++ c1.toList.drop (i * sz + ys.length * sz + ((cur.toList.take (n * sz)).drop (i * sz)).length) := by
   have e : c1.toList.take (i * sz + ys.length * sz) = cur.toList.take (i * sz) ++ flat ux ys.length := by
    rw [← hc1, hRt]
    simp only [List.append_assoc]
    rw [← List.append_assoc, List.take_append_of_le_length (by rw [List.length_append, hvl]; omega), List.take_of_length_le (by rw [List.length_append, hvl]; omega)]
   rw [← hc2, ← e]
  obtain ⟨dd1, dd2⟩ := d1.drew
  have hext : Ext w0 M w.drew.drew (M.growRow id w.drew.drew.heap.size gc (ver + 1) 0) (w.drew.drew.alloc (.cells cells (ρ.t 9))) := by
   refine Zik _ _ (.inl rfl) (fun _ _ => rfl) (Nat.le_refl _) (fun i hi => ?_) (fun b hb => ?_)
   ·
    by_cases c : i = id
    ·
     subst c
     simp only [Mem.growRow, if_true, f1]
     exact ⟨by omega, fun q => absurd q (by omega)⟩
    ·
     simp only [Mem.growRow, if_neg c]
     exact ⟨Nat.le_refl _, fun _ => ⟨trivial, trivial, trivial⟩⟩
   ·
    simp only [Mem.growRow]
    rw [if_neg (by omega)]
    exact Nat.le_refl _
  have q : (M.growRow id w.drew.drew.heap.size gc (ver + 1) 0).fr id = ver + 1 ∧ (M.growRow id w.drew.drew.heap.size gc (ver + 1) 0).blk id = w.drew.drew.heap.size ∧ (M.growRow id w.drew.drew.heap.size gc (ver + 1) 0).cap id = gc ∧ (M.growRow id w.drew.drew.heap.size gc (ver + 1) 0).rsz id = M.rsz id ∧ (M.growRow id w.drew.drew.heap.size gc (ver + 1) 0).top w.drew.drew.heap.size = 0 := by simp [Mem.growRow]
  obtain ⟨q1, q2, q3, q4, q5⟩ := q
  have hbne : ∀ l, l < M.N → M.bx l ≠ w.drew.drew.heap.size := fun l hl => by have := hst.box_lt hl; intro q; simp at q; omega
  have hst' := dd1.growRow' hrow (x := .vec (ver + 1) sz (cs.take (i * sz) ++ ys.flatMap (fun y => y.pub.cells) ++ cs.drop (i * sz))) (w' := w.drew.drew.alloc (.cells cells (ρ.t 9))) (b := w.drew.drew.heap.size) (cap := gc) (k := ver + 1) (tp := 0) ((Below.refl _ w.drew.drew).alloc hst.base_le _) (by simp) (by simp)
   (fun l hl => by have := hst.box_lt hl; exact ⟨hbne l hl, ZaK _ _ this⟩) (fun i hi hne => by have := hst.row_lt hi; exact ⟨fun q => by simp at q; omega, ZaK _ _ this⟩) (by
    simp only [RowOk, q1, q2, q3, q4, q5]
    exact ⟨trivial, f2, hst.base_le, trivial, hbne, hle', h0, cells, ρ.t 9, heap_alloc_new w.drew.drew _, hsize, by rw [hcl, hsize]; exact Nat.mul_le_mul_right _ hge, hone,
     fun i a b => (((hcells cells _ hclist i _ _ (Array.getElem?_eq_getElem a) (List.getElem?_eq_getElem b)).mono d2).mono dd2).mono hext⟩) hext (KeepsObj.alloc _ _)
  exact ⟨_, _, _, _, rfl, ⟨rfl, rfl⟩, (d2.trans dd2).trans hext, hst', .vec hidN (by rw [q1]; exact Nat.le_refl _) fun _ => ⟨by rw [q2]; simp, by rw [q3]; rfl, hge⟩⟩
theorem Zmw {t el : TypeId} {ag : Bool} {o : VO} {n : Nat} {cs ys : List AV} {ow : Own} (he : elT P t = some (el, sz, ag, bytes)) (hz : (ZbW P el).isSome = true) (h0 : 0 < sz) (hV : VAt 0 st.rows (o, sz, cs)) (hcs : cs.length = n * sz) (hm : 0 < ys.length)
  (hx : ∀ y ∈ ys, y.cells.length = sz ∧ ZaH y = true) (hb : (n + ys.length) * bytes ≤ 140737488355328) (hb2 : n + ys.length ≤ 4611686018427387904) :
  (ZaS P st t (hdr o n) (.list ys ow)).1 ∧ (ZaS P st t (hdr o n) (.list ys ow)).2.1 = hdr (ZjS o st.rows) (n + ys.length) ∧ (ZaS P st t (hdr o n) (.list ys ow)).2.2 = { st with rows := ZkV o st.rows sz (cs ++ ys.flatMap fun y => y.pub.cells) } := by
 cases o with
 | nil =>
  rcases hV with ⟨_, q⟩ | ⟨id, ver, q, _⟩
  ·
   have q : cs = [] := q
   subst q
   have en : n = 0 := by
    rcases Nat.eq_zero_or_pos n with k | k
    ·
     exact k
    ·
     have := Nat.mul_pos k h0
     simp at hcs; omega
   subst en
   rw [Nat.zero_add] at hb hb2
   simp only [hdr, ZaS, he, ZaA, Zbi, Zbk, hz, ZjS, ZkV, List.length_nil, List.nil_append, Nat.zero_add, true_and, and_true]
   exact ⟨⟨h0, hb, hb2, hx⟩, hm⟩
  ·
   cases q
 | row id ver =>
  rcases hV with ⟨q, _⟩ | ⟨id', ver', q, _, q3⟩
  ·
   cases q
  ·
   cases q
   have hv : Ze4 st.rows id ver = some (sz, cs) := by
    have q3 : st.rows[id]? = some (.vec ver sz cs) := q3
    simp only [Ze4, q3, if_true]
   have et : cs.take (n * sz) = cs := List.take_of_length_le (by omega)
   simp only [hdr, ZaS, he, hv, ZaA, Zbi, Zbk, hz, ZjS, ZkV, et, Nat.le_of_eq hcs.symm, true_and, and_true]
   exact ⟨h0, hb, hb2, hx⟩
theorem ZnR (L : InsLay P ρ nm sz bytes z) (hen : ZgD P (ρ.f 22)) {ag : Bool} (he : elT P (ρ.t 24) = some (ρ.t 9, sz, ag, bytes)) (hz : (ZbW P (ρ.t 9)).isSome = true) (hzc : z.cells.size = sz) (h0 : 0 < sz) {o : VO} {n i : Nat} {cs ys : List AV} {ow : Own}
  (hV : VAt 0 st.rows (o, sz, cs)) (hcs : cs.length = n * sz) (hi : i ≤ n) (hm : 0 < ys.length)
  (hx : ∀ y ∈ ys, y.cells.length = sz ∧ ZaH y = true) (hb : (n + ys.length) * bytes ≤ 140737488355328) (hb2 : n + ys.length ≤ 4611686018427387904) :
  ACalls P w0 (ρ.f 22) [hdr o n, .val (.int .i64 i), .list ys ow] st fun r s => r = hdr (ZjS o st.rows) (n + ys.length) ∧ s = { st with rows := ZkV o st.rows sz (cs.take (i * sz) ++ ys.flatMap (fun y => y.pub.cells) ++ cs.drop (i * sz)) } := by
 refine ⟨hen, fun M w vals hst hrow => ?_⟩
 obtain ⟨v0, v1, vx, rfl⟩ : ∃ v0 v1 vx, vals = #[v0, v1, vx] := by
  have := hrow.1
  simp only [List.length_cons, List.length_nil] at this
  obtain ⟨l⟩ := vals
  match l, this with
  | [a, b, c], _ => exact ⟨a, b, c, rfl⟩
 have hv0 : R w0 M w v0 (hdr o n) := hrow.2 0 (by simp) (by simp)
 have hv1 : R w0 M w v1 (.val (.int .i64 i)) := hrow.2 1 (by simp) (by simp)
 have hvx : R w0 M w vx (.list ys ow) := hrow.2 2 (by simp) (by simp)
 obtain ⟨rfl, _⟩ := hv1.val_inv
 by_cases hin : i < n
 ·
  -- in the middle
  cases o with
  | nil =>
   rcases hV with ⟨_, q⟩ | ⟨id, ver, q, _⟩
   ·
    have q : cs = [] := q
    rw [q] at hcs
    have := Nat.mul_pos (show 0 < n by omega) h0
    simp at hcs; omega
   ·
    cases q
  | row id ver =>
   rcases hV with ⟨q, _⟩ | ⟨id', ver', q, _, q3⟩
   ·
    cases q
   ·
    cases q
    exact Znr L hzc h0 q3 hcs hin hm hx hb hb2 hst hv0 hvx
 ·
  have hin : i = n := by omega
  subst hin
  -- at the end: as append
  obtain ⟨g1, g2, g3⟩ := Zmw (st := st) (ow := ow) he hz h0 hV hcs hm hx hb hb2
  have hA : Rel w0 2 M [(0, true, hdr o i), (1, true, .list ys ow)] st ⟨#[v0, vx], []⟩ w := ⟨hst, rfl, fun s x hs => by
   simp only [ZdS] at hs
   split at hs
   ·
    subst s; cases hs; simpa [entryOk] using hv0
   ·
    split at hs
    ·
     subst s; cases hs; simpa [entryOk] using hvx
    ·
     cases hs⟩
  obtain ⟨v, w', M', h1, h2, h3, h4⟩ := Zla hA (.tmp 0) (.tmp 1) (ρ.t 24) (ρ.t 24) (by simp [ZaE, ZdS]) (by simp [ZaE, ZdS]) g1
  have a0 : (⟨#[v0, vx], []⟩ : Act).eval (.tmp 0) = v0 := rfl
  have a1 : (⟨#[v0, vx], []⟩ : Act).eval (.tmp 1) = vx := rfl
  rw [a0, a1] at h1
  have g2' : (ZaS P st (ρ.t 24) (Zan [(0, true, hdr o i), (1, true, AV.list ys ow)] (.tmp 0)) (Zan [(0, true, hdr o i), (1, true, AV.list ys ow)] (.tmp 1))).2.1 = hdr (ZjS o st.rows) (i + ys.length) := g2
  have g3' : (ZaS P st (ρ.t 24) (Zan [(0, true, hdr o i), (1, true, AV.list ys ow)] (.tmp 0)) (Zan [(0, true, hdr o i), (1, true, AV.list ys ow)] (.tmp 1))).2.2 = { st with rows := ZkV o st.rows sz (cs ++ ys.flatMap fun y => y.pub.cells) } := g3
  rw [g3'] at h3
  rw [g2'] at h4
  have ht : cs.take (i * sz) = cs := List.take_of_length_le (by omega)
  have hd : cs.drop (i * sz) = [] := List.drop_of_length_le (by omega)
  rw [ht, hd, List.append_nil]
  have hrun : (Builtin.append_ #[ρ.t 24, ρ.t 24] (ρ.t 24) #[v0, vx]).run P w = .ok v w' := by
   cases hq : (Builtin.append_ #[ρ.t 24, ρ.t 24] (ρ.t 24) #[v0, vx]).run P w with
   | ok u w1 =>
    rcases h1 with h1 | ⟨h1, _⟩
    ·
     simp [hq] at h1
     rw [h1.1, h1.2]
    ·
     simp [hq] at h1
   | _ => rcases h1 with h1 | ⟨h1, _⟩ <;> simp [hq] at h1
  obtain ⟨ux, x1, x2⟩ := hvx.list_open (fun y hy => (hx y hy).1)
  rcases x2 with ⟨_, q, _⟩ | ⟨bx, ox, cx', sz', rfl, _⟩
  ·
   subst q; simp at hm
  have key : ∀ (base : Option Addr) (c : Nat), v0 = .slice base i c → i ≤ c → (base = none → i = 0) → Calls P (ρ.f 22) #[v0, .int .i64 i, .slice (some ⟨bx, ox, none⟩) ys.length cx'] w (Comes' w0 M w fun r s => r = hdr (ZjS o st.rows) (i + ys.length) ∧ s = { st with rows := ZkV o st.rows sz (cs ++ ys.flatMap fun y => y.pub.cells) }) := fun base c e hc hn => by
   subst e
   exact (Zsq L base i c ⟨bx, ox, none⟩ ys.length cx' w w' v hm hc hn (fun ty => hrun)).mono fun en w'' ⟨q1, q2⟩ => by
    subst q1; subst q2
    exact ⟨_, _, _, _, rfl, ⟨rfl, rfl⟩, h2, h3, h4⟩
  cases o with
  | nil =>
   have ez : i = 0 := by
    rcases hV with ⟨_, q⟩ | ⟨id, ver, q, _⟩
    ·
     have q : cs = [] := q
     rw [q] at hcs
     rcases Nat.eq_zero_or_pos i with k | k
     ·
      exact k
     ·
      have := Nat.mul_pos k h0
      simp at hcs; omega
    ·
     cases q
   subst ez
   have hv0' : R w0 M w v0 (.list [] .seed) := hv0
   cases hv0' with
   | nil _ => exact key none 0 rfl (Nat.le_refl _) (fun _ => rfl)
   | @emp a _ _ => exact key (some a) 0 rfl (Nat.le_refl _) (fun _ => rfl)
   | list sz us hc => exact key _ _ rfl (Nat.zero_le _) (fun _ => rfl)
  | row id ver =>
   rcases hV with ⟨q, _⟩ | ⟨id', ver', q, _, q3⟩
   ·
    cases q
   ·
    cases q
    have f1 := (hst.row id _ q3).1
    have hv0' : R w0 M w v0 (.vec id ver 0 i) := hv0
    cases hv0' with
    | @vec _ _ _ _ p cap hid' hver hh =>
     obtain ⟨rfl, _, hnc⟩ := hh f1.symm
     exact key _ _ rfl hnc (fun q => nomatch q)
end
def Zgc : List Bool → List AV → List AV
 | b :: m, a :: l => (if b = true then a.pubA else a) :: Zgc m l
 | [], l => l.map AV.pubA
 | _ :: _, [] => []
@[go_sem] theorem Zxl (m : List Bool) (a : AV) (l : List AV) : Zgc (true :: m) (a :: l) = a.pubA :: Zgc m l := rfl
@[go_sem] theorem Zxe (m : List Bool) (a : AV) (l : List AV) : Zgc (false :: m) (a :: l) = a :: Zgc m l := rfl
@[go_sem] theorem ZwO (l : List AV) : Zgc [] l = l.map AV.pubA := rfl
@[go_sem] theorem Zxz (m : List Bool) : Zgc m [] = [] := by cases m <;> rfl
theorem Zkn : ∀ (m : List Bool) (l : List AV), (Zgc m l).length = l.length ∧ ∀ (i : Nat) (h1 : i < (Zgc m l).length) (h2 : i < l.length), (Zgc m l)[i] = l[i] ∨ (Zgc m l)[i] = l[i].pubA
 | [], l => ⟨by simp [Zgc], fun i h1 h2 => .inr (by simp [Zgc])⟩
 | b :: m, [] => ⟨rfl, fun i h1 h2 => absurd h2 (by simp)⟩
 | b :: m, a :: l => by
  obtain ⟨h1, h2⟩ := Zkn m l
  refine ⟨by simp [Zgc, h1], fun i k1 k2 => ?_⟩
  cases i with
  | zero => cases b with
   | true => exact .inr rfl
   | false => exact .inl rfl
  | succ i => exact h2 i (by simpa [Zgc] using k1) (by simpa using k2)
section
variable {P : Program} {w0 : World} {st : St} {f : FuncId}
theorem ACalls.mask {m : List Bool} {args args' : List AV} {Post : AV → St → Prop} (h : ACalls P w0 f args' st Post) (he : Zgc m args = args') : ACalls P w0 f args st Post := by
 subst he
 obtain ⟨h1, h2⟩ := Zkn m args
 refine ⟨h.1, fun M w vals hst hrow => h.2 M w vals hst ?_⟩
 obtain ⟨hl, hr⟩ := hrow
 refine ⟨by rw [h1]; exact hl, fun i a b => ?_⟩
 have b' : i < args.length := by rw [← h1]; exact b
 rcases h2 i b b' with q | q
 ·
  rw [q]; exact hr i a b'
 ·
  rw [q]; exact (hr i a b').pubA
theorem ZpO {c d : Bool} {cs args args' : List AV} {k : AV → St → Prop} (m : List Bool) (v : AV)
  (h : ACalls P w0 f args' st fun r s => r = v ∧ s = st) (he : Zgc m (args ++ cs) = args') (hk : k v st) : Zic P w0 c d (.clo f cs) args st k := .inl ⟨v, fun _ => h.mask he, hk⟩
theorem ZoN {cs args args' : List AV} {k : AV → St → Prop} (m : List Bool) (Post : AV → St → Prop)
  (h : ACalls P w0 f args' st Post) (he : Zgc m (args ++ cs) = args') (hk : ∀ v s, Post v s → k v s) : Zic P w0 true false (.clo f cs) args st k := .inr ⟨rfl, Post, fun _ => h.mask he, fun v s h1 _ => hk v s (h1 rfl)⟩
end
def ZgI : List Bool → List AV → List AV
 | b :: m, a :: l => (if b = true then a.pubCell else a) :: ZgI m l
 | [], l => l.map AV.pubCell
 | _ :: _, [] => []
@[go_sem] theorem Zww (m : List Bool) (a : AV) (l : List AV) : ZgI (true :: m) (a :: l) = a.pubCell :: ZgI m l := rfl
@[go_sem] theorem Zxh (m : List Bool) (a : AV) (l : List AV) : ZgI (false :: m) (a :: l) = a :: ZgI m l := rfl
@[go_sem] theorem ZwK (l : List AV) : ZgI [] l = l.map AV.pubCell := rfl
@[go_sem] theorem ZwP (m : List Bool) : ZgI m [] = [] := by cases m <;> rfl
def pubS (m : List Bool) : AV → AV
 | .agg cs => .agg (ZgI m cs)
 | x => x
@[go_sem] theorem Zvx (m : List Bool) (cs : List AV) : pubS m (.agg cs) = .agg (ZgI m cs) := rfl
theorem Zkm : ∀ (m : List Bool) (l : List AV), (ZgI m l).length = l.length ∧ ∀ (i : Nat) (h1 : i < (ZgI m l).length) (h2 : i < l.length), (ZgI m l)[i] = l[i] ∨ (ZgI m l)[i] = l[i].pubCell
 | [], l => ⟨by simp [ZgI], fun i h1 h2 => .inr (by simp [ZgI])⟩
 | b :: m, [] => ⟨rfl, fun i h1 h2 => absurd h2 (by simp)⟩
 | b :: m, a :: l => by
  obtain ⟨h1, h2⟩ := Zkm m l
  refine ⟨by simp [ZgI, h1], fun i k1 k2 => ?_⟩
  cases i with
  | zero => cases b with
   | true => exact .inr rfl
   | false => exact .inl rfl
  | succ i => exact h2 i (by simpa [ZgI] using k1) (by simpa using k2)
theorem R.pubS {w0 : World} {M : Mem} {w : World} (m : List Bool) {v : Value} {x : AV} (h : R w0 M w v x) : R w0 M w v (pubS m x) := by
 cases h with
 | @agg us xs hl h1 h =>
  obtain ⟨k1, k2⟩ := Zkm m xs
  refine .agg (by rw [k1]; exact hl) (fun x hx => ?_) (fun i a b => ?_)
  ·
   obtain ⟨i, hi, rfl⟩ := List.mem_iff_getElem.1 hx
   have hi' : i < xs.length := by rw [← k1]; exact hi
   rcases k2 i hi hi' with q | q
   ·
    rw [q]; exact h1 _ (List.getElem_mem _)
   ·
    rw [q, AV.one_pubCell]; exact h1 _ (List.getElem_mem _)
  ·
   have hi' : i < xs.length := by rw [← k1]; exact b
   rcases k2 i b hi' with q | q
   ·
    rw [q]; exact h i a hi'
   ·
    rw [q]; exact (h i a hi').pubCell
 | nil ho => exact .nil ho
 | emp ho => exact .emp ho
 | list sz us hc hm hcell hu ho => exact .list sz us hc hm hcell hu ho
 | flat hf => exact .flat hf
 | tup hl h => exact .tup hl h
 | elem u k hcell hu => exact .elem u k hcell hu
 | box hl => exact .box hl
 | clo hl h => exact .clo hl h
 | yld hk => exact .yld hk
 | vec hi hv h => exact .vec hi hv h
 | vel hi hv h => exact .vel hi hv h
def Zs0 (P : Program) (e : Env) (st : St) : ResultVar → AV
 | .tmp t => Zan e (.tmp t)
 | .cell t ty => (Zbp P e true st (.load ty (.tmp t))).2.1
def Zuz (mk : List Bool) (P : Program) (rs : List ResultVar) (Post : AV → St → Prop) : AQ := fun x e st =>
 match x with
 | .normal | .ret => (∀ r ∈ rs, ZmD P e st r) ∧ Post (pubS mk (Zrg (rs.map (Zs0 P e st)))) st
 | _ => False
attribute [go_sem] Zs0 Zuz
section
variable {P : Program} {w0 : World} {n : Nat} {M : Mem} {e : Env} {st : St} {a : Act} {w : World}
theorem ZnO (mk : List Bool) (h : Rel w0 n M e st a w) {fn : Func} {rs : List ResultVar} (hfn : fn.results = rs.toArray) (hrs : ∀ r ∈ rs, ZmD P e st r) :
  ∃ v, (results fn a.tmps).run P w = .ok v w ∧ R w0 M w v (pubS mk (Zrg (rs.map (Zs0 P e st)))) := by
 let f : ResultVar → Sem Value := fun
  | .tmp t => pure (a.tmps.getD t undef)
  | .cell b t => do loadVar t (← asAddr (a.tmps.getD b undef))
 have hone : ∀ r ∈ rs, ∃ v, (f r).run P w = .ok v w ∧ R w0 M w v (Zs0 P e st r) := by
  intro r hr
  have := hrs r hr
  cases r with
  | tmp t => exact ⟨_, rfl, ZaY h (x := .tmp t) this⟩
  | cell b t =>
   obtain ⟨v, h1, h2⟩ := Zkc h t (.tmp b) this
   exact ⟨v, h1, h2⟩
 classical
 let g : ResultVar → Value := fun r => if hr : r ∈ rs then Classical.choose (hone r hr) else undef
 have hg : ∀ r ∈ rs, (f r).run P w = .ok (g r) w ∧ R w0 M w (g r) (Zs0 P e st r) := by
  intro r hr
  have := Classical.choose_spec (hone r hr)
  have e : g r = Classical.choose (hone r hr) := by simp only [g, dif_pos hr]
  rw [e]; exact this
 have hm : (fn.results.mapM f).run P w = .ok ((rs.map g).toArray) w := by
  rw [hfn, Array.mapM_eq_mapM_toList]
  simp only [Sem.run_map, Zhh f g rs (fun r hr => (hg r hr).1), Result.andThen_ok]
 have hrun : (results fn a.tmps).run P w = .ok (if h : (rs.map g).toArray.size = 1 then (rs.map g).toArray[0] else .tuple (rs.map g).toArray) w := by
  unfold results
  simp only [Sem.run_bind]
  refine Eq.trans (congrArg (fun x => Result.andThen x _) hm) ?_
  simp only [Result.andThen_ok, Sem.run_pure]
 refine ⟨_, hrun, ?_⟩
 exact R.pubS mk (Zj5 rs g fun r hr => (hg r hr).2)
theorem ZnV (mk : List Bool) {f : FuncId} {fn : Func} {c : Code} {args : List AV} {rs : List ResultVar} {Post : AV → St → Prop} (hf : P.funcs[f]? = some fn) (hb : fn.body = some c) (hrs : fn.results = rs.toArray) (hn : fn.ntmps = n)
  (hen : ZgD P f) (ha : args.length ≤ n)
  (h : ∀ (M0 : Mem) (W0 : World), M0.N = st.boxes.length → M0.NR = st.rows.length → M0.NL = st.loops.length → Calm st.boxes.length st.rows.length st.loops.length st → (∀ x ∈ args, Under st.boxes.length st.rows.length st.loops.length x) →
   awp P w0 n M0 W0 none c (Zuz mk P rs Post) (Zal 0 args) st) : ACalls P w0 f args st Post := by
 refine ⟨hen, fun M w vals hst hrow => ?_⟩
 have hsz : vals.size = args.length := hrow.1
 have hu : ∀ x ∈ args, Under st.boxes.length st.rows.length st.loops.length x := by
  intro x hx
  obtain ⟨i, hi, rfl⟩ := List.mem_iff_getElem.1 hx
  have := (hrow.get (i := i) (Array.getElem?_eq_getElem (by omega)) (List.getElem?_eq_getElem hi)).under
  rwa [hst.N, hst.NR, hst.loop.NL] at this
 have hrel : Rel w0 n M (Zal 0 args) st { tmps := vals ++ Array.replicate (fn.ntmps - vals.size) undef, defers := [] } w := by
  refine ⟨hst, by simp; omega, fun s x hs => ?_⟩
  obtain ⟨i, h1, y, h2, rfl⟩ := Zh2 _ _ _ _ hs
  have hi : i < args.length := (List.getElem?_eq_some_iff.1 h2).1
  have hs' : s = i := by omega
  subst hs'
  simp only [entryOk, if_true]
  have e1 : (vals ++ Array.replicate (fn.ntmps - vals.size) undef).getD s undef = vals[s]'(by omega) := by
   simp [Array.getD_eq_getD_getElem?, Array.getElem?_append_left (show s < vals.size by omega), Array.getElem?_eq_getElem (show s < vals.size by omega)]
  rw [e1]
  exact hrow.get (Array.getElem?_eq_getElem (by omega)) h2
 refine Zi0 (n := 0) (callsIn_of_wp_marks hf hb trivial (wpIn_mono (h M w hst.N hst.NR hst.loop.NL hst.calm hu 0 M _ w ⟨hrel, .refl _ _ _, [], by simp⟩) ?_))
 rintro ex a' w' ⟨M', e', s', h1, h3⟩
 have done : ∀ (hr : ∀ r ∈ rs, ZmD P e' s' r) (hp : Post (pubS mk (Zrg (rs.map (Zs0 P e' s')))) s'),
   LeavesInM (FW none) 0 P fn a'.tmps (Comes' w0 M w Post) a'.defers .returning w' := by
  intro hr hp
  obtain ⟨Ds, m1, m2, m3⟩ := h1.marks
  rw [m2]
  refine ZgL Ds M' w' m1 m3 hst.base_le h1.rel.st h1.ext fun w2 k1 k2 k3 => ?_
  have hrel2 : Rel w0 n M' e' s' a' w2 := ⟨k1, h1.rel.size, fun s x hs => by
   have := h1.rel.env s x hs
   unfold entryOk at *
   split
   ·
    rename_i c; rw [if_pos c] at this; exact k3 _ _ this
   ·
    rename_i c; rw [if_neg c] at this; exact this⟩
  obtain ⟨v, q1, q2⟩ := ZnO mk hrel2 hrs hr
  exact ⟨v, q1, v, M', _, s', rfl, hp, k2, k1, q2⟩
 cases ex with
 | normal => exact done h3.1 h3.2
 | ret => exact done h3.1 h3.2
 | _ => exact h3.elim
end
end Go.Ev
namespace Go.Proofs.YtgpmlelfkjfbiaaGreatDoor
open Go Go.RowKit Go.Ev
theorem Vl.cs_mks (k i s : Int) (t : ByteArray) (l : List Vl) (f : List (ByteArray × Vl)) : (Vl.mk k i s t l f).cs = [.val (.int .i64 k), .val (.int .i64 i), .val (.int .i64 s), .val (.string t), .list (l.map avV) .none, .list (f.map avF) .none] := Vl.cs_eqs _
theorem Ty.cs_mks (a b c d : Int) (w : List ByteArray) (e : List Ty) (f : List (Int × ByteArray × Int × Ty × List Vl)) : (Ty.mk a b c d w e f).cs = [.val (.int .i64 a), .val (.int .i64 b), .val (.int .i64 c), .val (.int .i64 d), .list (w.map avS) .none, .list (e.map avT) .none, .list (f.map Zdz) .none] := Ty.cs_eqs _
@[go_sem] theorem Zxd (n : Nat) : hdr .nil n = .list [] .seed := rfl
def ZkN {α : Type} (l : List α) (i : Int) (y : α) : List α := l.take i.toNat ++ y :: l.drop i.toNat
theorem ZlB {α : Type} {g : α → List AV} {sz : Nat} (hg : ∀ x, (g x).length = sz) : ∀ (xs : List α) (k : Nat), (xs.flatMap g).take (k * sz) = (xs.take k).flatMap g
 | [], k => by simp
 | x :: xs, 0 => by simp
 | x :: xs, k + 1 => by
  have hx := hg x
  rw [List.flatMap_cons, List.take_succ_cons, List.flatMap_cons, ← ZlB hg xs k, Nat.succ_mul, Nat.add_comm, List.take_append, List.take_of_length_le (by omega)]
  congr 2
  omega
theorem ZlE {α : Type} {g : α → List AV} {sz : Nat} (hg : ∀ x, (g x).length = sz) : ∀ (xs : List α) (k : Nat), (xs.flatMap g).drop (k * sz) = (xs.drop k).flatMap g
 | [], k => by simp
 | x :: xs, 0 => by simp
 | x :: xs, k + 1 => by
  have hx := hg x
  rw [List.flatMap_cons, List.drop_succ_cons, ← ZlE hg xs k, Nat.succ_mul, Nat.add_comm, List.drop_append, List.drop_of_length_le (by omega), List.nil_append]
  congr 1
  omega
def insR : Go.Shelf.Ren := ⟨fun x => if x = 22 then 69 else if x = 29 then 125 else if x = 30 then 126 else x,
 fun x => if x = 9 then 75 else if x = 24 then 44 else if x = 3 then 3 else if x = 4 then 4 else if x = 0 then 0 else x, fun x => x⟩
theorem insL : ∃ z, InsLay Tryz.prog insR Tryz.f69.name 7 104 z ∧ z.cells.size = 7 := by
 obtain ⟨i0, z, hi, hz0, hz1, hz2, hzs⟩ := Zkp (by kernel_rfl : ZqD Tryz.prog 75 7 104 = true)
 exact ⟨z, {
  mixed := by kernel_rfl
  nmo := by decide
  f22 := Tryz.func69.trans (congrArg some (by kernel_rfl))
  ov := fun w x y h => by
   show (callFunc 125 #[x, y]).run Tryz.prog w = _
   rw [run_callFunc_extern Tryz.func125 (by kernel_rfl) (by kernel_rfl) (by kernel_rfl) (e := Extern.SlicesOverlaps.overlaps #[44, 44] #[4]) (by kernel_rfl)]
   have h' : (Extern.SlicesOverlaps.overlaps #[44, 44] #[4] #[x, y]).run Tryz.prog w = .ok (.bool false) w := h
   first | (rw [h']; rfl) | simp [h']
  t0 := Tryz.underlying0
  a0 := Tryz.isAgg0
  z0 := Tryz.sizeOf0
  v0 := Tryz.zeroValue0
  t3 := Tryz.underlying3
  a3 := Tryz.isAgg3
  z3 := Tryz.sizeOf3
  v3 := Tryz.zeroValue3
  t4 := Tryz.underlying4
  a4 := Tryz.isAgg4
  z4 := Tryz.sizeOf4
  v4 := Tryz.zeroValue4
  z9 := Tryz.sizeOf75
  t24 := Tryz.underlying44
  a24 := Tryz.isAgg44
  z24 := Tryz.sizeOf44
  v24 := Tryz.zeroValue44
  i9 := by
   show (Tryz.prog.info? 75).map (fun i => (i.zero, i.size, i.bytes)) = _
   rw [hi]; simp [hz0, hz1, hz2] }, hzs⟩
theorem ZnG (w0 : World) {Rw rows : List RowA} {l : List (Nat × Nat × Ev.Own)} {ho : Ev.Own} {o : VO} {v : List VE} {xs : List (ByteArray × Vl)} (hO : Owns Rw rows l ho ((o, 7, xs.flatMap fun x => (avF x).cells) :: v)) (i : Int)
  (hg : (0 ≤ i ∧ i ≤ (xs.length : Int)) ∧ (xs.length + 1) * 104 ≤ 140737488355328 ∧ xs.length + 1 ≤ 4611686018427387904) (y : ByteArray × Vl) :
  ∃ id' ver' rows', Owns Rw rows' l ho ((.row id' ver', 7, (ZkN xs i y).flatMap fun x => (avF x).cells) :: v) ∧ ∀ (B : List (List AV)) (L : List LoopA) (ow : Ev.Own), ACalls Tryz.prog w0 69 [hdr o xs.length, .val (.int .i64 i), .list [avF y] ow] ⟨B, rows, L⟩ fun r s => r = .vec id' ver' 0 (ZkN xs i y).length ∧ s = ⟨B, rows', L⟩ := by
 obtain ⟨⟨h0, h1⟩, h2, h3⟩ := hg
 obtain ⟨k, rfl⟩ : ∃ k : Nat, i = (k : Int) := ⟨i.toNat, by omega⟩
 obtain ⟨z, hL, hz⟩ := insL
 have hlen : ∀ x : ByteArray × Vl, ((fun x => (avF x).cells) x).length = 7 := fun x => by simp +decide only [go_sem]
 have hc : (xs.flatMap fun x => (avF x).cells).length = xs.length * 7 := Ze5 (f := avF) (fun _ => by simp +decide only [go_sem]) xs
 have hins : (ZkN xs (k : Int) y).length = xs.length + 1 := by
  unfold ZkN
  rw [List.length_append, List.length_cons, List.length_take, List.length_drop]
  simp only [Int.toNat_natCast]
  omega
 have hnew : (xs.flatMap fun x => (avF x).cells).take (k * 7) ++ [avF y].flatMap (fun y => y.pub.cells) ++ (xs.flatMap fun x => (avF x).cells).drop (k * 7) = (ZkN xs (k : Int) y).flatMap fun x => (avF x).cells := by
  unfold ZkN
  rw [ZlB hlen, ZlE hlen, List.flatMap_append, List.flatMap_cons, List.flatMap_cons, List.flatMap_nil, List.append_nil, Zm8, Int.toNat_natCast, List.append_assoc]
 obtain ⟨id', ver', hrow⟩ : ∃ id' ver', ZjS o rows = .row id' ver' := by
  cases o with
  | nil => exact ⟨_, _, rfl⟩
  | row id ver => exact ⟨_, _, rfl⟩
 refine ⟨id', ver', _, hrow ▸ hO.bump ((ZkN xs (k : Int) y).flatMap fun x => (avF x).cells), fun B L ow => ?_⟩
 have := ZnR (P := Tryz.prog) (w0 := w0) (st := ⟨B, rows, L⟩) (ow := ow) (ys := [avF y]) (ag := true) (i := k) hL (Zax Tryz.func69 rfl (by decide)) ZjB (by rw [show insR.t 9 = 75 from rfl, Zf6]; rfl) hz (by decide) hO.vp hc (by omega) (by simp)
  (fun q hq => by rw [List.mem_singleton.1 hq]; exact ⟨by simp +decide only [go_sem], by simp +decide only [go_sem]⟩) h2 h3
 rw [hnew] at this
 exact this.mono fun r s ⟨q1, q2⟩ => ⟨by rw [q1, hins, hrow]; rfl, q2⟩
theorem ZoI {B B' : List (List AV)} {R0 rows : List RowA} {L : List LoopA} {Post : AV → St → Prop} {v : AV} {ow : List (Nat × Nat × Ev.Own)} {oh : Ev.Own} (ho : Owns R0 rows ow oh) (hc : Go.Ev.Calm B.length rows.length L.length ⟨B', R0, L⟩) (hB : B'.length = B.length) (hu : Go.Ev.Under B.length rows.length L.length v.pubA) (hp : Post v.pubA ⟨B', rows, L⟩) :
  Go.Ev.finG ⟨B, R0, L⟩ Post v ⟨B', rows, L⟩ := by
 have := ZjW (X := []) ho hc hB hu hp
 rwa [List.append_nil] at this
def ZaP (a0 : ByteArray) (a1 : Int) (a2 : List (ByteArray × Int)) : Option ((List (ByteArray × Int))) :=
 if (a2.length + 1) * 24 ≤ 140737488355328 ∧ a2.length + 1 ≤ 4611686018427387904 then
  some (a2 ++ ([(a0, a1)]))
 else none
theorem ZaZ (w0 : World) (B : List (List AV)) (Rw : List RowA) (L : List LoopA) (a0 : ByteArray) (a1 : Int) (la2 : Nat) (a2 : List (ByteArray × Int)) (oa2 : Ev.Own) (hla2 : B[la2]? = some [.list (a2.map Ziv) oa2]) (hGa2 : Owns Rw Rw [(2, a2.length, oa2)] oa2) (r : (List (ByteArray × Int))) (h : ZaP a0 a1 a2 = some r) :
  ACalls Tryz.prog w0 96 [.val (.string a0), .val (.int .i64 a1), .box la2 0] ⟨B, Rw, L⟩ fun x st => x = .tup [] ∧ ∃ (R1 : List RowA) (o1 : Ev.Own), st = ⟨(B.set la2 [.list (r.map Ziv) o1]), R1, L⟩ ∧ Owns Rw R1 [(2, r.length, o1)] oa2 := by
 rw [ZaP] at h
 refine ACalls.finG (Zb4 (rs := []) Tryz.func96 rfl rfl Tryz.ntmps96 (Zax Tryz.func96 rfl (by decide)) (Nat.le_of_ble_eq_true rfl) ?_)
 intro M0 W0 hN hNR hNL hcalm hu
 dsimp only at hN hNR hNL hcalm hu
 simp only [Zal]
 have hO := hGa2
 have hs := ZqH
 have hltla2 := (List.getElem?_eq_some_iff.1 hla2).1
 obtain ⟨hg1, h⟩ := Zae h
 obtain ⟨o2, rows3, hO, hap4⟩ := hO.append (P := Tryz.prog) ZtI (by rw [Zop]; rfl) (by decide) 1 hg1.1 hg1.2
 replace hap4 := fun (ys : List AV) B L o2 => hap4 (a2.map Ziv) ys B L o2 (by first | rfl | simp only [List.length_map, List.length_nil, List.length_append, List.length_cons, Nat.zero_add])
 replace hap4 := fun (y : AV) B L o2 => hap4 [y] B L o2 (by first | rfl | simp only [List.length_map, List.length_nil, List.length_cons]) ev
 try simp only [List.mem_singleton, List.mem_cons, List.not_mem_nil, or_false, forall_eq_or_imp, forall_eq, List.map_append, List.map_cons, List.map_nil, Zeu, Zez, Zey, Zex, Zev, Zed, Zc4, Zc8, Zew, ZbJ, ZbM, Zc7, Zc3, Zc2] at hap4
 apply Zab 1 []
 rw [Zaa]; simp +decide only [go_sem, Nat.reduceAdd, Zag hla2, hap4, ZaW, Zat, Zar]
 (repeat' with_reducible apply And.intro) <;> first | exact cl | skip
 have hgt := Option.some.inj h; subst hgt
 have hU := hO.unders
 simp only [List.mem_cons, List.not_mem_nil, or_false, forall_eq_or_imp, forall_eq] at hU
 refine ZoI hO (Zah (Zc6 hcalm hO.len) (by (simp +decide only [go_sem, Nat.reduceAdd]) <;> (try (repeat' apply And.intro)) <;> first | omega | assumption)) (by simp only [List.length_set]) ev ⟨?_, _, _, ?_, (hO.sub (List.sublist_append_left [_] _)).len1 (by first | rfl | simp only [List.length_append, List.length_cons, List.length_nil, Nat.zero_add])⟩
 all_goals first | rfl | (simp +decide only [go_sem, Nat.reduceAdd, Zag hla2, hap4]; done) | (simp +decide only [go_sem, Nat.reduceAdd, Vl.cs, Ty.cs, Zag hla2, hap4]; done)
def Zcx (a0 : Bool) (a1 : List (ByteArray × Int)) (a2 : ByteArray) : Option ((List (ByteArray × Int))) :=
 if a0 then
  (ZaP a2 6 a1).bind fun y3 =>
  some (y3)
 else
  (ZaP a2 7 a1).bind fun y6 =>
  some (y6)
theorem ZeM (w0 : World) (B : List (List AV)) (Rw : List RowA) (L : List LoopA) (a0 : Bool) (la1 : Nat) (a1 : List (ByteArray × Int)) (oa1 : Ev.Own) (hla1 : B[la1]? = some [.list (a1.map Ziv) oa1]) (hGa1 : Owns Rw Rw [(2, a1.length, oa1)] oa1) (lb1 : Nat) (hlb1 : B[lb1]? = some [.clo 96 [.box la1 0]]) (la2 : Nat) (a2 : ByteArray) (hla2 : B[la2]? = some ([.val (.string a2)])) (r : (List (ByteArray × Int))) (h : Zcx a0 a1 a2 = some r) :
  ACalls Tryz.prog w0 161 [.val (.bool a0), .box lb1 0, .box la2 0] ⟨B, Rw, L⟩ fun x st => x = .tup [] ∧ ∃ (R1 : List RowA) (o1 : Ev.Own), st = ⟨(B.set la1 [.list (r.map Ziv) o1]), R1, L⟩ ∧ Owns Rw R1 [(2, r.length, o1)] oa1 := by
 rw [Zcx] at h
 refine ACalls.finG (Zb4 (rs := []) Tryz.func161 rfl rfl Tryz.ntmps161 (Zax Tryz.func161 rfl (by decide)) (Nat.le_of_ble_eq_true rfl) ?_)
 intro M0 W0 hN hNR hNL hcalm hu
 dsimp only at hN hNR hNL hcalm hu
 simp only [Zal]
 have hO := hGa1
 have hs := ZqH
 have hltla1 := (List.getElem?_eq_some_iff.1 hla1).1
 have hltlb1 := (List.getElem?_eq_some_iff.1 hlb1).1
 have hnela1lb1 : la1 ≠ lb1 := fun q => by have k := hla1; rw [q, hlb1] at k; cases k
 have hltla2 := (List.getElem?_eq_some_iff.1 hla2).1
 have hs := And.intro (Zag hla1) hs
 have hs := And.intro (Zag hlb1) hs
 have hs := And.intro (Zbo hlb1 hnela1lb1) hs
 have hs := And.intro (Zag hla2) hs
 refine rg [1, 2, 4] hs ?_
 refine cnd h hs (fun hs h => ?_) (fun hs h => ?_)
 ·
  have hb2 := hs.1
  obtain ⟨y3, hy3, h⟩ := bind_some h
  apply Zab 2 []
  rw [Zaa]; simp +decide only [go_sem, Nat.reduceAdd, Zag hla1, Zag hlb1, Zbo hlb1 hnela1lb1, Zag hla2, hb2]
  (repeat' apply And.intro) <;> first | (refine ZaR _ (ZaZ w0 _ _ _ a2 6 la1 a1 oa1 (ef hs) hO.enter _ hy3) (hv hs) ?_; rintro _ _ ⟨rfl, Rg4, og5, rfl, hGRg4⟩) | exact cl
  have hO := hO.call hGRg4
  rw [Zaa]; simp +decide only [go_sem, Nat.reduceAdd, Zag hla1, Zag hlb1, Zbo hlb1 hnela1lb1, Zag hla2, hb2]
  (repeat' with_reducible apply And.intro) <;> first | exact cl | skip
  have hgt := Option.some.inj h; subst hgt
  have hU := hO.unders
  simp only [List.mem_cons, List.not_mem_nil, or_false, forall_eq_or_imp, forall_eq] at hU
  refine ZoI hO (Zah (Zc6 hcalm hO.len) (by (simp +decide only [go_sem, Nat.reduceAdd]) <;> (try (repeat' apply And.intro)) <;> first | omega | assumption)) (by simp only [List.length_set]) ev ⟨?_, _, _, ?_, (hO.sub (List.sublist_append_left [_] _)).len1 (by first | rfl | simp only [List.length_append, List.length_cons, List.length_nil, Nat.zero_add])⟩
  all_goals first | rfl | (simp +decide only [go_sem, Nat.reduceAdd, Zag hla1, Zag hlb1, Zbo hlb1 hnela1lb1, Zag hla2, hb2]; done) | (simp +decide only [go_sem, Nat.reduceAdd, Vl.cs, Ty.cs, Zag hla1, Zag hlb1, Zbo hlb1 hnela1lb1, Zag hla2, hb2]; done)
 have hb2 := hs.1
 obtain ⟨y6, hy6, h⟩ := bind_some h
 apply Zab 2 []
 rw [Zaa]; simp +decide only [go_sem, Nat.reduceAdd, Zag hla1, Zag hlb1, Zbo hlb1 hnela1lb1, Zag hla2, hb2]
 (repeat' apply And.intro) <;> first | (refine ZaR _ (ZaZ w0 _ _ _ a2 7 la1 a1 oa1 (ef hs) hO.enter _ hy6) (hv hs) ?_; rintro _ _ ⟨rfl, Rg7, og8, rfl, hGRg7⟩) | exact cl
 have hO := hO.call hGRg7
 rw [Zaa]; simp +decide only [go_sem, Nat.reduceAdd, Zag hla1, Zag hlb1, Zbo hlb1 hnela1lb1, Zag hla2, hb2]
 (repeat' with_reducible apply And.intro) <;> first | exact cl | skip
 have hgt := Option.some.inj h; subst hgt
 have hU := hO.unders
 simp only [List.mem_cons, List.not_mem_nil, or_false, forall_eq_or_imp, forall_eq] at hU
 refine ZoI hO (Zah (Zc6 hcalm hO.len) (by (simp +decide only [go_sem, Nat.reduceAdd]) <;> (try (repeat' apply And.intro)) <;> first | omega | assumption)) (by simp only [List.length_set]) ev ⟨?_, _, _, ?_, (hO.sub (List.sublist_append_left [_] _)).len1 (by first | rfl | simp only [List.length_append, List.length_cons, List.length_nil, Nat.zero_add])⟩
 all_goals first | rfl | (simp +decide only [go_sem, Nat.reduceAdd, Zag hla1, Zag hlb1, Zbo hlb1 hnela1lb1, Zag hla2, hb2]; done) | (simp +decide only [go_sem, Nat.reduceAdd, Vl.cs, Ty.cs, Zag hla1, Zag hlb1, Zbo hlb1 hnela1lb1, Zag hla2, hb2]; done)
def Za7 (a0 : ByteArray) (a1 : Ty) (a2 : ByteArray) : Option ByteArray :=
 if decide (a1.kind = 10) then
  if a2.size + ((⟨#[63]⟩ : ByteArray)).size ≤ 9223372036854775807 then
   if (a2 ++ ((⟨#[63]⟩ : ByteArray))).size + a0.size ≤ 9223372036854775807 then
    some ((a2 ++ ((⟨#[63]⟩ : ByteArray))) ++ a0)
   else none
  else none
 else
  if sEq a2 ((⟨#[]⟩ : ByteArray)) then
   some (a0)
  else
   if a2.size + ((⟨#[46]⟩ : ByteArray)).size ≤ 9223372036854775807 then
    if (a2 ++ ((⟨#[46]⟩ : ByteArray))).size + a0.size ≤ 9223372036854775807 then
     some ((a2 ++ ((⟨#[46]⟩ : ByteArray))) ++ a0)
    else none
   else none
theorem Zby (w0 : World) (B : List (List AV)) (Rw : List RowA) (L : List LoopA) (a0 : ByteArray) (la1 : Nat) (a1 : Ty) (hla1 : B[la1]? = some (a1.cs)) (la2 : Nat) (a2 : ByteArray) (hla2 : B[la2]? = some ([.val (.string a2)])) (r : ByteArray) (h : Za7 a0 a1 a2 = some r) :
  ACalls Tryz.prog w0 162 [.val (.string a0), .box la1 0, .box la2 0] ⟨B, Rw, L⟩ fun x st => x = .val (.string r) ∧ st = ⟨B, Rw, L⟩ := by
 rw [Za7] at h
 refine hd [.tmp 4] Tryz.func162 Tryz.ntmps162 fun M0 W0 hN hNR hNL hcalm hu hO hs => ?_
 simp only [Zal]
 have hltla1 := (List.getElem?_eq_some_iff.1 hla1).1
 have hltla2 := (List.getElem?_eq_some_iff.1 hla2).1
 have hs := And.intro (Zag hla1) hs
 have hs := And.intro (Zag hla2) hs
 refine rg [0, 1, 2] hs ?_
 apply Zac; intro K2 hK2
 apply Zaf
 refine rg [0, 2, 5] hs ?_
 refine cnd h hs (fun hs h => ?_) (fun hs h => ?_)
 ·
  obtain ⟨hg6, h⟩ := Zae h
  have hg6s := hg6
  try simp +decide only [go_sem] at hg6s
  obtain ⟨hg7, h⟩ := Zae h
  have hg7s := hg7
  try simp +decide only [go_sem] at hg7s
  refine rg [4] hs ?_
  exact rt h hs hcalm hO
 refine rg [0, 2, 13] hs ?_
 refine cnd h hs (fun hs h => ?_) (fun hs h => ?_)
 ·
  refine rg [4] hs ?_
  exact rt h hs hcalm hO
 refine sk [0, 2] hs hK2 ?_
 clear hK2
 obtain ⟨hg12, h⟩ := Zae h
 have hg12s := hg12
 try simp +decide only [go_sem] at hg12s
 obtain ⟨hg13, h⟩ := Zae h
 have hg13s := hg13
 try simp +decide only [go_sem] at hg13s
 refine rg [4] hs ?_
 exact rt h hs hcalm hO
def ZcQ (a0 : Int × ByteArray × Int × Ty × List Vl) (a1 : Int) : Bool :=
 decide (a0.1 = a1)
theorem ZiI (w0 : World) (B : List (List AV)) (Rw : List RowA) (L : List LoopA) (a0 : Int × ByteArray × Int × Ty × List Vl) (la1 : Nat) (a1 : Int) (hla1 : B[la1]? = some ([.val (.int .i64 a1)])) (r : Bool) (h : ZcQ a0 a1 = r) :
  ACalls Tryz.prog w0 191 [.agg (.val (.int .i64 a0.1) :: (.val (.string a0.2.1) :: (.val (.int .i64 a0.2.2.1) :: ((a0.2.2.2.1.cs) ++ ([.list (a0.2.2.2.2.map avV) .none]))))), .box la1 0] ⟨B, Rw, L⟩ fun x st => x = .val (.bool r) ∧ st = ⟨B, Rw, L⟩ := by
 rw [ZcQ] at h
 refine hd [.tmp 3] Tryz.func191 Tryz.ntmps191 fun M0 W0 hN hNR hNL hcalm hu hO hs => ?_
 simp only [Zal]
 have hltla1 := (List.getElem?_eq_some_iff.1 hla1).1
 have hs := And.intro (Zag hla1) hs
 refine rg [1, 2] hs ?_
 refine rg [3] hs ?_
 apply Zaj; simp +decide only [go_sem, Nat.reduceAdd, Zag hla1]
 subst h
 first | refine Zaz hcalm rfl hO.pre ev ⟨?_, rfl⟩ | refine Za5 hcalm rfl hO.pre ev ⟨?_, rfl⟩
 first | rfl | (simp +decide only [go_sem, Nat.reduceAdd, Zag hla1]; done) | (simp +decide only [go_sem, Nat.reduceAdd, Vl.cs, Ty.cs, Zag hla1]; done)
theorem ZhY (w0 : World) (B : List (List AV)) (Rw : List RowA) (L : List LoopA) (a0 : Int × ByteArray × Int × Ty × List Vl) (la1 : Nat) (a1 : Int) (hla1 : B[la1]? = some ([.val (.int .i64 a1)])) :
  ACalls Tryz.prog w0 191 [.agg (.val (.int .i64 a0.1) :: (.val (.string a0.2.1) :: (.val (.int .i64 a0.2.2.1) :: ((a0.2.2.2.1.cs) ++ ([.list (a0.2.2.2.2.map avV) .none]))))), .box la1 0] ⟨B, Rw, L⟩ fun x st => x = .val (.bool (ZcQ a0 a1)) ∧ st = ⟨B, Rw, L⟩ := ZiI w0 B Rw L a0 la1 a1 hla1 _ rfl
def ZbF (n : Nat) (a0 : List (Int × ByteArray × Int × Ty × List Vl)) (a1 : Int) : Option ((Int × ByteArray × Int × Ty × List Vl) × Bool) :=
 (ZaQ n a0 (fun (x0 : Int × ByteArray × Int × Ty × List Vl) => some (ZcQ x0 a1))).bind fun y3 =>
 if decide (y3 < 0) then
  some (((0, (⟨#[]⟩ : ByteArray), 0, Ty.mk 0 0 0 0 ([]) ([]) ([]), []), false))
 else
  (idx a0 y3).bind fun x9 =>
  some ((x9, true))
theorem Zco (w0 : World) (n : Nat) (B : List (List AV)) (Rw : List RowA) (L : List LoopA) (a0 : List (Int × ByteArray × Int × Ty × List Vl)) (a1 : Int) (r : (Int × ByteArray × Int × Ty × List Vl) × Bool) (h : ZbF n a0 a1 = some r) :
  ACalls Tryz.prog w0 133 [.list (a0.map Zdz) .none, .val (.int .i64 a1)] ⟨B, Rw, L⟩ fun x st => x = .tup [.agg (.val (.int .i64 r.1.1) :: (.val (.string r.1.2.1) :: (.val (.int .i64 r.1.2.2.1) :: ((r.1.2.2.2.1.cs) ++ ([.list (r.1.2.2.2.2.map avV) .none]))))), .val (.bool r.2)] ∧ st = ⟨B, Rw, L⟩ := by
 rw [ZbF] at h
 refine hd [.cell 4 54, .tmp 5] Tryz.func133 Tryz.ntmps133 fun M0 W0 hN hNR hNL hcalm hu hO hs => ?_
 simp only [Zal]
 refine rg [0, 3, 4] hs ?_
 obtain ⟨y3, hy3, h⟩ := bind_some h
 refine rc 2 [0, 4, 6] hs ?_; intro K2 hK2
 refine Zad _ (Zbd w0 n _ _ _ a0 191 [.box B.length 0] (fun (x0 : Int × ByteArray × Int × Ty × List Vl) => some (ZcQ x0 a1)) (fun x0 r hx B' rows' hB' hR' => by cases hx; exact ZhY w0 _ _ _ x0 _ a1 (ZbC hB' ev)) _ hy3) (hv hs) ?_
 refine ne hs hK2 ?_
 clear hK2
 apply Zac; intro K4 hK4
 refine rg [0, 4, 6, 11] hs ?_
 refine cnd h hs (fun hs h => ?_) (fun hs h => ?_)
 ·
  have hb6 := hs.1
  apply Zac; intro K7 hK7
  apply Zab 1 [4, 5]
  rw [Zaa]; simp +decide only [go_sem, Nat.reduceAdd, hb6, ZaW, Zat, Zar]
  (repeat' apply And.intro) <;> first | refine hK7 _ _ ?_ | exact cl
  clear hK7
  exact rt h hs hcalm hO
 have hb6 := hs.1
 refine sk [0, 4, 6] hs hK4 ?_
 clear hK4
 obtain ⟨x9, hx9, h⟩ := bind_some h
 obtain ⟨hx9a, hx9b, hx9c⟩ := Zam hx9
 have hx9d := Zao (f := Zdz) hx9c
 have hs := And.intro hx9d hs
 refine rg [4, 5] hs ?_
 exact rt h hs hcalm hO
def Zf3 (rec : Ty → Ty → Option Bool) (n : Nat) (a0 : Ty) (a1 : Int × ByteArray × Int × Ty × List Vl) : Option Bool :=
 (ZbF n a0.fields a1.1).bind fun y3 =>
 if !y3.2 then
  some (!(decide (a1.2.2.1 = 1)))
 else
  (rec y3.1.2.2.2.1 a1.2.2.2.1).bind fun y9 =>
  some (y9 && (!((decide (a1.2.2.1 = 1)) && (decide (y3.1.2.2.1 = 2)))))
theorem ZjN (w0 : World) (rec : Ty → Ty → Option Bool) (ih : ∀ (B : List (List AV)) (Rw : List RowA) (L : List LoopA) (a0 : Ty) (a1 : Ty) (r : Bool) (h : rec a0 a1 = some r), ACalls Tryz.prog w0 90 [.agg (a0.cs), .agg (a1.cs)] ⟨B, Rw, L⟩ fun x st => x = .val (.bool r) ∧ st = ⟨B, Rw, L⟩) (n : Nat) (B : List (List AV)) (Rw : List RowA) (L : List LoopA) (a0 : Ty) (a1 : Int × ByteArray × Int × Ty × List Vl) (r : Bool) (h : Zf3 rec n a0 a1 = some r) :
  ACalls Tryz.prog w0 152 [.agg (a0.cs), .agg (.val (.int .i64 a1.1) :: (.val (.string a1.2.1) :: (.val (.int .i64 a1.2.2.1) :: ((a1.2.2.2.1.cs) ++ ([.list (a1.2.2.2.2.map avV) .none])))))] ⟨B, Rw, L⟩ fun x st => x = .val (.bool r) ∧ st = ⟨B, Rw, L⟩ := by
 rw [Zf3] at h
 refine hd [.tmp 4] Tryz.func152 Tryz.ntmps152 fun M0 W0 hN hNR hNL hcalm hu hO hs => ?_
 simp only [Zal]
 refine rg [2, 3] hs ?_
 obtain ⟨y3, hy3, h⟩ := bind_some h
 refine rc 2 [3, 5, 6] hs ?_; intro K2 hK2
 refine Zad _ (Zco w0 n _ _ _ a0.fields a1.1 _ hy3) (hv hs) ?_
 refine ne hs hK2 ?_
 clear hK2
 apply Zac; intro K4 hK4
 refine rg [3, 5, 16] hs ?_
 refine cnd h hs (fun hs h => ?_) (fun hs h => ?_)
 ·
  refine rg [4] hs ?_
  exact rt h hs hcalm hO
 refine sk [3, 5] hs hK4 ?_
 clear hK4
 obtain ⟨y9, hy9, h⟩ := bind_some h
 refine rc 2 [4] hs ?_; intro K8 hK8
 refine Zad _ (ih _ _ _ y3.1.2.2.2.1 a1.2.2.2.1 _ hy9) (hv hs) ?_
 refine ne hs hK8 ?_
 clear hK8
 exact rt h hs hcalm hO
def ZbP (rec : Ty → Ty → Option Bool) (n : Nat) (a0 : Int × ByteArray × Int × Ty × List Vl) (a1 : Ty) : Option Bool :=
 (Zf3 rec n a1 a0).bind fun y3 =>
 some (!y3)
theorem Zga (w0 : World) (rec : Ty → Ty → Option Bool) (ih : ∀ (B : List (List AV)) (Rw : List RowA) (L : List LoopA) (a0 : Ty) (a1 : Ty) (r : Bool) (h : rec a0 a1 = some r), ACalls Tryz.prog w0 90 [.agg (a0.cs), .agg (a1.cs)] ⟨B, Rw, L⟩ fun x st => x = .val (.bool r) ∧ st = ⟨B, Rw, L⟩) (n : Nat) (B : List (List AV)) (Rw : List RowA) (L : List LoopA) (a0 : Int × ByteArray × Int × Ty × List Vl) (la1 : Nat) (a1 : Ty) (hla1 : B[la1]? = some (a1.cs)) (r : Bool) (h : ZbP rec n a0 a1 = some r) :
  ACalls Tryz.prog w0 151 [.agg (.val (.int .i64 a0.1) :: (.val (.string a0.2.1) :: (.val (.int .i64 a0.2.2.1) :: ((a0.2.2.2.1.cs) ++ ([.list (a0.2.2.2.2.map avV) .none]))))), .box la1 0] ⟨B, Rw, L⟩ fun x st => x = .val (.bool r) ∧ st = ⟨B, Rw, L⟩ := by
 rw [ZbP] at h
 refine hd [.tmp 3] Tryz.func151 Tryz.ntmps151 fun M0 W0 hN hNR hNL hcalm hu hO hs => ?_
 simp only [Zal]
 have hltla1 := (List.getElem?_eq_some_iff.1 hla1).1
 have hs := And.intro (Zag hla1) hs
 refine rg [1, 2] hs ?_
 obtain ⟨y3, hy3, h⟩ := bind_some h
 refine rc 2 [3] hs ?_; intro K2 hK2
 refine Zad _ (ZjN w0 rec ih n _ _ _ a1 a0 _ hy3) (hv hs) ?_
 refine ne hs hK2 ?_
 clear hK2
 exact rt h hs hcalm hO
def Zfj (rec : Ty → Ty → Option Bool) (n : Nat) (a0 : Int × ByteArray × Int × Ty × List Vl) (a1 : Ty) : Option Bool :=
 (ZbF n a1.fields a0.1).bind fun y3 =>
 if y3.2 then
  (rec a0.2.2.2.1 y3.1.2.2.2.1).bind fun y6 =>
  some (y6)
 else
  some (false)
theorem Zjt (w0 : World) (rec : Ty → Ty → Option Bool) (ih : ∀ (B : List (List AV)) (Rw : List RowA) (L : List LoopA) (a0 : Ty) (a1 : Ty) (r : Bool) (h : rec a0 a1 = some r), ACalls Tryz.prog w0 90 [.agg (a0.cs), .agg (a1.cs)] ⟨B, Rw, L⟩ fun x st => x = .val (.bool r) ∧ st = ⟨B, Rw, L⟩) (n : Nat) (B : List (List AV)) (Rw : List RowA) (L : List LoopA) (a0 : Int × ByteArray × Int × Ty × List Vl) (a1 : Ty) (r : Bool) (h : Zfj rec n a0 a1 = some r) :
  ACalls Tryz.prog w0 154 [.agg (.val (.int .i64 a0.1) :: (.val (.string a0.2.1) :: (.val (.int .i64 a0.2.2.1) :: ((a0.2.2.2.1.cs) ++ ([.list (a0.2.2.2.2.map avV) .none]))))), .agg (a1.cs)] ⟨B, Rw, L⟩ fun x st => x = .val (.bool r) ∧ st = ⟨B, Rw, L⟩ := by
 rw [Zfj] at h
 refine hd [.tmp 4] Tryz.func154 Tryz.ntmps154 fun M0 W0 hN hNR hNL hcalm hu hO hs => ?_
 simp only [Zal]
 refine rg [2, 3] hs ?_
 obtain ⟨y3, hy3, h⟩ := bind_some h
 refine rc 2 [2, 5, 6] hs ?_; intro K2 hK2
 refine Zad _ (Zco w0 n _ _ _ a1.fields a0.1 _ hy3) (hv hs) ?_
 refine ne hs hK2 ?_
 clear hK2
 apply Zac; intro K4 hK4
 rcases Bool.eq_false_or_eq_true (y3.2) with hf5 | hf5
 ·
  replace h := ZaC h hf5
  obtain ⟨y6, hy6, h⟩ := bind_some h
  have hs := And.intro hf5 hs
  refine rk 2 [4] hs ?_
  refine Zad _ (ih _ _ _ a0.2.2.2.1 y3.1.2.2.2.1 _ hy6) (hv hs) ?_
  refine ne hs hK4 ?_
  clear hK4
  exact rt h hs hcalm hO
 ·
  replace h := ZaD h hf5
  apply Zab 2 [4]
  rw [Zaa]; simp +decide only [go_sem, Nat.reduceAdd, hf5]
  (repeat' apply And.intro) <;> first | refine ZaB ?_ | exact cl
  rw [Zaa]; simp +decide only [go_sem, Nat.reduceAdd, hf5]
  (repeat' apply And.intro) <;> first | refine hK4 _ _ ?_ | exact cl
  clear hK4
  have hs := And.intro hf5 hs
  exact rt h hs hcalm hO
def ZbI (rec : Ty → Ty → Option Bool) (n : Nat) (a0 : Int × ByteArray × Int × Ty × List Vl) (a1 : Ty) : Option Bool :=
 (Zfj rec n a0 a1).bind fun y3 =>
 some (!y3)
theorem Zgf (w0 : World) (rec : Ty → Ty → Option Bool) (ih : ∀ (B : List (List AV)) (Rw : List RowA) (L : List LoopA) (a0 : Ty) (a1 : Ty) (r : Bool) (h : rec a0 a1 = some r), ACalls Tryz.prog w0 90 [.agg (a0.cs), .agg (a1.cs)] ⟨B, Rw, L⟩ fun x st => x = .val (.bool r) ∧ st = ⟨B, Rw, L⟩) (n : Nat) (B : List (List AV)) (Rw : List RowA) (L : List LoopA) (a0 : Int × ByteArray × Int × Ty × List Vl) (la1 : Nat) (a1 : Ty) (hla1 : B[la1]? = some (a1.cs)) (r : Bool) (h : ZbI rec n a0 a1 = some r) :
  ACalls Tryz.prog w0 153 [.agg (.val (.int .i64 a0.1) :: (.val (.string a0.2.1) :: (.val (.int .i64 a0.2.2.1) :: ((a0.2.2.2.1.cs) ++ ([.list (a0.2.2.2.2.map avV) .none]))))), .box la1 0] ⟨B, Rw, L⟩ fun x st => x = .val (.bool r) ∧ st = ⟨B, Rw, L⟩ := by
 rw [ZbI] at h
 refine hd [.tmp 3] Tryz.func153 Tryz.ntmps153 fun M0 W0 hN hNR hNL hcalm hu hO hs => ?_
 simp only [Zal]
 have hltla1 := (List.getElem?_eq_some_iff.1 hla1).1
 have hs := And.intro (Zag hla1) hs
 refine rg [1, 2] hs ?_
 obtain ⟨y3, hy3, h⟩ := bind_some h
 refine rc 2 [3] hs ?_; intro K2 hK2
 refine Zad _ (Zjt w0 rec ih n _ _ _ a0 a1 _ hy3) (hv hs) ?_
 refine ne hs hK2 ?_
 clear hK2
 exact rt h hs hcalm hO
def ZaU (a0 : Int) (a1 : Ty) : Bool :=
 (decide (a1.min ≤ a0)) && (decide (a0 ≤ a1.max))
theorem Zh7 (w0 : World) (B : List (List AV)) (Rw : List RowA) (L : List LoopA) (a0 : Int) (a1 : Ty) (r : Bool) (h : ZaU a0 a1 = r) :
  ACalls Tryz.prog w0 130 [.val (.int .i64 a0), .agg (a1.cs)] ⟨B, Rw, L⟩ fun x st => x = .val (.bool r) ∧ st = ⟨B, Rw, L⟩ := by
 rw [ZaU] at h
 refine hd [.tmp 4] Tryz.func130 Tryz.ntmps130 fun M0 W0 hN hNR hNL hcalm hu hO hs => ?_
 simp only [Zal]
 refine rg [0, 3] hs ?_
 refine rg [4] hs ?_
 apply Zaj; simp +decide only [go_sem, Nat.reduceAdd]
 subst h
 first | refine Zaz hcalm rfl hO.pre ev ⟨?_, rfl⟩ | refine Za5 hcalm rfl hO.pre ev ⟨?_, rfl⟩
 first | rfl | (simp +decide only [go_sem, Nat.reduceAdd]; done) | (simp +decide only [go_sem, Nat.reduceAdd, Vl.cs, Ty.cs]; done)
theorem Za8 (w0 : World) (B : List (List AV)) (Rw : List RowA) (L : List LoopA) (a0 : Int) (a1 : Ty) :
  ACalls Tryz.prog w0 130 [.val (.int .i64 a0), .agg (a1.cs)] ⟨B, Rw, L⟩ fun x st => x = .val (.bool (ZaU a0 a1)) ∧ st = ⟨B, Rw, L⟩ := Zh7 w0 B Rw L a0 a1 _ rfl
def ZdC (n : Nat)  (x0_k17 : Int) : Option (Int × Bool) :=
 some ((x0_k17, true))
def Zcv (n : Nat) (a2 : Int) : Nat → Int → Int → Option (Int × Bool)
 | 0, _, _ => none
 | m + 1, x0_l19, x1_l19 =>
  if decide (a2 < x1_l19) then
   if !(decide ((x0_l19.tmod 10) = 0)) then
    some ((0, false))
   else
    if I64 (x0_l19.tdiv 10) then
     if I64 (x1_l19 - 1) then
      (Zcv n a2 m) (x0_l19.tdiv 10) (x1_l19 - 1)
     else none
    else none
  else
   ZdC n x0_l19
def ZdO (n : Nat) (a2 : Int) (x0_k3 : Int) (x1_k3 : Int) : Option (Int × Bool) :=
 Zcv n a2 n x0_k3 x1_k3
def ZcX (n : Nat) (a2 : Int) : Nat → Int → Int → Option (Int × Bool)
 | 0, _, _ => none
 | m + 1, x0_l5, x1_l5 =>
  if decide (x1_l5 < a2) then
   if I64 (x0_l5 * 10) then
    if (decide (999999999999999 < (x0_l5 * 10))) || (decide ((x0_l5 * 10) < ((-999999999999999)))) then
     some ((0, false))
    else
     if I64 (x1_l5 + 1) then
      (ZcX n a2 m) (x0_l5 * 10) (x1_l5 + 1)
     else none
   else none
  else
   ZdO n a2 x0_l5 x1_l5
def Zch (n : Nat) (a0 : Int) (a1 : Int) (a2 : Int) : Option (Int × Bool) :=
 ZcX n a2 n a0 a1
theorem ZdJ (w0 : World) (n : Nat) (B : List (List AV)) (Rw : List RowA) (L : List LoopA) (a0 : Int) (a1 : Int) (a2 : Int) (r : Int × Bool) (h : Zch n a0 a1 a2 = some r) :
  ACalls Tryz.prog w0 129 [.val (.int .i64 a0), .val (.int .i64 a1), .val (.int .i64 a2)] ⟨B, Rw, L⟩ fun x st => x = .tup [.val (.int .i64 r.1), .val (.bool r.2)] ∧ st = ⟨B, Rw, L⟩ := by
 rw [Zch] at h
 refine hd [.tmp 6, .tmp 7] Tryz.func129 Tryz.ntmps129 fun M0 W0 hN hNR hNL hcalm hu hO hs => ?_
 simp only [Zal]
 refine rg [0, 1, 2] hs ?_
 refine Zak (fun e st => ∃ (x0_k3 : Int) (x1_k3 : Int), Ck e st B Rw L [(0, true, .val (.int .i64 x0_k3)), (1, true, .val (.int .i64 x1_k3)), (2, true, .val (.int .i64 a2))] [] [] (ZdO n a2 x0_k3 x1_k3 = some r)) ?_ ?_
 ·
  intro K4 hK4
  apply Zaf
  refine Zap (fun m e st => ∃ (x0_l5 : Int) (x1_l5 : Int), Ck e st B Rw L [(0, true, .val (.int .i64 x0_l5)), (1, true, .val (.int .i64 x1_l5)), (2, true, .val (.int .i64 a2))] [] [] (ZcX n a2 m x0_l5 x1_l5 = some r)) n ⟨a0, a1, ([]), Rw, ef hs, ef hs, hO, h⟩ ?_
  rintro ml5 e st ⟨x0_l5, x1_l5, Xl5, Rl5, rfl, rfl, hO, h⟩ Ul5 Vl5
  cases ml5 with
  | zero => cases h
  | succ ml5 =>
  rw [ZcX] at h
  refine td hN hNR hNL hcalm hO ?_
  apply Zac; intro K6 hK6
  refine rg [0, 1, 2, 10] hs ?_
  refine cnd h hs (fun hs h => ?_) (fun hs h => ?_)
  rotate_left
  ·
   refine sx [0, 1, 2] hs hK4 ?_
   exact ⟨x0_l5, x1_l5, ([]), Rl5, ef hs, ef hs, hO, h⟩
  refine sk [0, 1, 2] hs hK6 ?_
  clear hK6
  apply Zac; intro K9 hK9
  apply Zaf
  obtain ⟨hg11, h⟩ := Zae h
  refine rg [0, 1, 2] hs ?_
  refine rg [0, 1, 2, 20] hs ?_
  refine cnd h hs (fun hs h => ?_) (fun hs h => ?_)
  ·
   refine rg [6, 7] hs ?_
   exact rt h hs hcalm hO
  refine sk [0, 1, 2] hs hK9 ?_
  clear hK9
  obtain ⟨hg15, h⟩ := Zae h
  refine rl [0, 1, 2] hs (fun e s => Vl5 ml5 e s (Nat.lt_succ_self _)) ?_
  exact ⟨(x0_l5 * 10), (x1_l5 + 1), ([]), Rl5, ef hs, ef hs, hO, h⟩
 ·
  clear h; rintro e st ⟨x0_k3, x1_k3, Xk3, Rk3, rfl, rfl, hO, h⟩
  rw [ZdO] at h
  refine td hN hNR hNL hcalm hO ?_
  refine Zak (fun e st => ∃ (x0_k17 : Int), Ck e st B Rw L [(0, true, .val (.int .i64 x0_k17))] [] [] (ZdC n x0_k17 = some r)) ?_ ?_
  ·
   intro K18 hK18
   apply Zaf
   refine Zap (fun m e st => ∃ (x0_l19 : Int) (x1_l19 : Int), Ck e st B Rw L [(0, true, .val (.int .i64 x0_l19)), (1, true, .val (.int .i64 x1_l19)), (2, true, .val (.int .i64 a2))] [] [] (Zcv n a2 m x0_l19 x1_l19 = some r)) n ⟨x0_k3, x1_k3, ([]), Rk3, ef hs, ef hs, hO, h⟩ ?_
   rintro ml19 e st ⟨x0_l19, x1_l19, Xl19, Rl19, rfl, rfl, hO, h⟩ Ul19 Vl19
   cases ml19 with
   | zero => cases h
   | succ ml19 =>
   rw [Zcv] at h
   refine td hN hNR hNL hcalm hO ?_
   apply Zac; intro K20 hK20
   refine rg [0, 1, 2, 23] hs ?_
   refine cnd h hs (fun hs h => ?_) (fun hs h => ?_)
   rotate_left
   ·
    refine sx [0] hs hK18 ?_
    exact ⟨x0_l19, ([]), Rl19, ef hs, ef hs, hO, h⟩
   refine sk [0, 1, 2] hs hK20 ?_
   clear hK20
   apply Zac; intro K23 hK23
   apply Zaf
   apply Zac; intro K24 hK24
   refine rg [0, 1, 2, 28] hs ?_
   refine cnd h hs (fun hs h => ?_) (fun hs h => ?_)
   ·
    refine rg [6, 7] hs ?_
    exact rt h hs hcalm hO
   refine sk [0, 1, 2] hs hK24 ?_
   clear hK24
   obtain ⟨hg28, h⟩ := Zae h
   refine rl [0, 1, 2] hs hK23 ?_
   clear hK23
   obtain ⟨hg29, h⟩ := Zae h
   refine rl [0, 1, 2] hs (fun e s => Vl19 ml19 e s (Nat.lt_succ_self _)) ?_
   exact ⟨(x0_l19.tdiv 10), (x1_l19 - 1), ([]), Rl19, ef hs, ef hs, hO, h⟩
  ·
   clear h; rintro e st ⟨x0_k17, Xk17, Rk17, rfl, rfl, hO, h⟩
   rw [ZdC] at h
   refine td hN hNR hNL hcalm hO ?_
   refine rg [6, 7] hs ?_
   exact rt h hs hcalm hO
def Zeo (n : Nat) (a0 : Ty) (a1 : Ty) : Option Bool :=
 (Zch n a0.min a0.scale a1.scale).bind fun y3 =>
 (Zch n a0.max a0.scale a1.scale).bind fun y5 =>
 some ((((y3.2 && y5.2) && (ZaU y3.1 a1)) && (ZaU y5.1 a1)) && ((decide (a0.scale ≤ a1.scale)) || (decide (a0.min = a0.max))))
theorem Zil (w0 : World) (n : Nat) (B : List (List AV)) (Rw : List RowA) (L : List LoopA) (a0 : Ty) (a1 : Ty) (r : Bool) (h : Zeo n a0 a1 = some r) :
  ACalls Tryz.prog w0 147 [.agg (a0.cs), .agg (a1.cs)] ⟨B, Rw, L⟩ fun x st => x = .val (.bool r) ∧ st = ⟨B, Rw, L⟩ := by
 rw [Zeo] at h
 refine hd [.tmp 4] Tryz.func147 Tryz.ntmps147 fun M0 W0 hN hNR hNL hcalm hu hO hs => ?_
 simp only [Zal]
 refine rg [2, 3] hs ?_
 obtain ⟨y3, hy3, h⟩ := bind_some h
 refine rc 2 [2, 3, 5, 6] hs ?_; intro K2 hK2
 refine Zad _ (ZdJ w0 n _ _ _ a0.min a0.scale a1.scale _ hy3) (hv hs) ?_
 refine ne hs hK2 ?_
 clear hK2
 obtain ⟨y5, hy5, h⟩ := bind_some h
 refine rc 2 [2, 3, 5, 6, 7, 8] hs ?_; intro K4 hK4
 refine Zad _ (ZdJ w0 n _ _ _ a0.max a0.scale a1.scale _ hy5) (hv hs) ?_
 refine ne hs hK4 ?_
 clear hK4
 refine rc 3 [4] hs ?_; intro K6 hK6
 refine ZdZ _ (fun _ => Za8 w0 _ _ _ y3.1 a1) (hv hs) ?_
 refine nc hs ?_
 refine ZdZ _ (fun _ => Za8 w0 _ _ _ y5.1 a1) (hv hs) ?_
 refine ne hs hK6 ?_
 clear hK6
 exact rt h hs hcalm hO
def Zcc (n : Nat) (a0 : List (ByteArray × Vl)) (a1 : (ByteArray × Vl) → Option Bool) : Option Bool :=
 (ZbY n a0 a1).bind fun y3 =>
 some (decide (0 ≤ y3))
theorem Zfp (w0 : World) (n : Nat) (B : List (List AV)) (Rw : List RowA) (L : List LoopA) (a0 : List (ByteArray × Vl)) (fa1 : FuncId) (ca1 : List AV) (a1 : (ByteArray × Vl) → Option Bool) (ha1 : ∀ (x0 : ByteArray × Vl) r, a1 x0 = some r → ∀ B' rows, B <+: B' → Rw <+: rows → ACalls Tryz.prog w0 fa1 ([.agg (.val (.string x0.1) :: (x0.2.cs))] ++ ca1) ⟨B', rows, L⟩ fun v s => v = .val (.bool r) ∧ s = ⟨B', rows, L⟩) (r : Bool) (h : Zcc n a0 a1 = some r) :
  ACalls Tryz.prog w0 216 [.list (a0.map avF) .none, .clo fa1 ca1] ⟨B, Rw, L⟩ fun x st => x = .val (.bool r) ∧ st = ⟨B, Rw, L⟩ := by
 rw [Zcc] at h
 refine hd [.tmp 4] Tryz.func216 Tryz.ntmps216 fun M0 W0 hN hNR hNL hcalm hu hO hs => ?_
 simp only [Zal]
 have hU_a1 := Za0 (hu (.clo fa1 ca1) (by simp))
 refine rg [0, 1] hs ?_
 obtain ⟨y3, hy3, h⟩ := bind_some h
 refine rc 2 [4] hs ?_; intro K2 hK2
 refine Zad _ (Zee w0 n _ _ _ a0 fa1 ca1 a1 (fun x0 r hx B'' rows'' q1 q2 => ha1 x0 r hx B'' rows'' (List.IsPrefix.trans (by first | exact List.prefix_append _ _ | exact List.prefix_refl _) q1) (hO.pre.trans q2)) _ hy3) (hv hs) ?_
 refine ne hs hK2 ?_
 clear hK2
 exact rt h hs hcalm hO
def Zea (a0 : ByteArray × Vl) (a1 : ByteArray × Vl) : Bool :=
 (sEq a0.1 a1.1) && (!(ZeJ a0.2))
theorem ZkU (w0 : World) (B : List (List AV)) (Rw : List RowA) (L : List LoopA) (a0 : ByteArray × Vl) (la1 : Nat) (a1 : ByteArray × Vl) (hla1 : B[la1]? = some (.val (.string a1.1) :: (a1.2.cs))) (r : Bool) (h : Zea a0 a1 = r) :
  ACalls Tryz.prog w0 217 [.agg (.val (.string a0.1) :: (a0.2.cs)), .box la1 0] ⟨B, Rw, L⟩ fun x st => x = .val (.bool r) ∧ st = ⟨B, Rw, L⟩ := by
 rw [Zea] at h
 refine hd [.tmp 3] Tryz.func217 Tryz.ntmps217 fun M0 W0 hN hNR hNL hcalm hu hO hs => ?_
 simp only [Zal]
 have hltla1 := (List.getElem?_eq_some_iff.1 hla1).1
 have hs := And.intro (Zag hla1) hs
 refine rg [1, 2] hs ?_
 refine rc 2 [3] hs ?_; intro K2 hK2
 refine ZdZ _ (fun _ => ZgB w0 _ _ _ a0.2) (hv hs) ?_
 refine ne hs hK2 ?_
 clear hK2
 apply Zaj; simp +decide only [go_sem, Nat.reduceAdd, Zag hla1]
 subst h
 first | refine Zaz hcalm rfl hO.pre ev ⟨?_, rfl⟩ | refine Za5 hcalm rfl hO.pre ev ⟨?_, rfl⟩
 first | rfl | (simp +decide only [go_sem, Nat.reduceAdd, Zag hla1]; done) | (simp +decide only [go_sem, Nat.reduceAdd, Vl.cs, Ty.cs, Zag hla1]; done)
theorem ZjT (w0 : World) (B : List (List AV)) (Rw : List RowA) (L : List LoopA) (a0 : ByteArray × Vl) (la1 : Nat) (a1 : ByteArray × Vl) (hla1 : B[la1]? = some (.val (.string a1.1) :: (a1.2.cs))) :
  ACalls Tryz.prog w0 217 [.agg (.val (.string a0.1) :: (a0.2.cs)), .box la1 0] ⟨B, Rw, L⟩ fun x st => x = .val (.bool (Zea a0 a1)) ∧ st = ⟨B, Rw, L⟩ := ZkU w0 B Rw L a0 la1 a1 hla1 _ rfl
structure VPre (Rw rows : List RowA) : Prop where
 pre : Rw <+: rows
def dflF : ByteArray × Vl := (⟨#[]⟩, Vl.mk 0 0 0 ⟨#[]⟩ [] [])
def Zh0 (l : List (ByteArray × Vl)) : List (ByteArray × Vl) := ZjF Prod.fst dflF l
theorem Ziz (l : List (ByteArray × Vl)) : (Zh0 l).length = l.length := by simp only [Zh0, ZjF, List.length_map]; exact Zeg _ _
theorem Ze8 (x : ByteArray × Vl) : (avF x).cells.length = 7 ∧ ZaH (avF x) = true := by simp +decide only [go_sem, and_self]
theorem ZnT (x : ByteArray × Vl) : (avF x).pub = avF x := by simp +decide only [go_sem]
theorem Zlg (x : ByteArray × Vl) : ∀ c ∈ (avF x).cells, ∀ a b d, Under a b d c := by
 intro c hc a b d
 simp only [avF, AV.cells, List.mem_cons] at hc
 rcases hc with rfl | hc
 ·
  exact .val _
 ·
  exact x.2.under a b d c hc
theorem Zn4 (w0 : World) (st : St) : ACalls Tryz.prog w0 218 [.list [] .none, .clo 219 []] st fun r s => r = .tup [] ∧ s = st := by
 refine ⟨Zax Tryz.func218 rfl (by decide), fun M w vals hst hrow => ?_⟩
 obtain ⟨v0, v1, rfl⟩ : ∃ v0 v1, vals = #[v0, v1] := by
  have hs := hrow.1
  simp only [List.length_cons, List.length_nil] at hs
  match vals, hs with
  | ⟨[a, b]⟩, _ => exact ⟨a, b, rfl⟩
 have h0 : R w0 M w v0 (.list [] .none) := hrow.2 0 (by simp) (by simp)
 obtain ⟨p, cap, rfl⟩ : ∃ p cap, v0 = .slice p 0 cap := by
  generalize hx : AV.list [] Ev.Own.none = x at h0
  cases h0 with
  | nil ho => exact ⟨_, _, rfl⟩
  | emp ho => exact ⟨_, _, rfl⟩
  | list sz us hc hm hcell hu ho => cases hx; exact ⟨_, _, rfl⟩
  | _ => cases hx
 have h := AnyF.slices_SortFunc_none (P := Tryz.prog) (ρ := Tryz.laysSort_ren) Tryz.laysSort p cap v1 w
 refine h.mono ?_
 rintro en w' ⟨rfl, rfl⟩
 exact ⟨.tuple #[], M, .tup [], st, rfl, ⟨rfl, rfl⟩, .refl _ _ _, hst, .tup rfl (fun i h1 _ => absurd h1 (by simp))⟩
theorem Zn8 (w0 : World) {st : St} {id ver : Nat} (l : List (ByteArray × Vl)) (hid : st.rows[id]? = some (.vec ver 7 (l.flatMap fun x => (avF x).cells))) (hn : 0 < l.length) (hz : l.length < 4611686018427387904) :
  ACalls Tryz.prog w0 218 [.vec id ver 0 l.length, .clo 219 []] st fun r s => r = .tup [] ∧ s = { st with rows := st.rows.set id (.vec ver 7 ((Zh0 l).flatMap fun x => (avF x).cells)) } :=
 ZoY (ρ := Tryz.laysSort_ren) Tryz.laysSort (Zax Tryz.func218 rfl (by decide)) 6 Tryz.isAgg75 Tryz.sizeOf75 219 (Zax Tryz.func219 rfl (by decide))
  (fun s s' r r' W h1 h2 h3 h4 => Znv s s' r r' W h1 h2 h3 h4) avF Prod.fst dflF l (fun x => ⟨x.2.cs, rfl, Vl.cs_length _⟩) hid hn hz
def Zfa (n : Nat) (again_l7 : Int → (List (ByteArray × Vl)) → Option Vl) (x10_l7 : Int) (b1_k12_5 : List (ByteArray × Vl)) : Option Vl :=
 if I64 (x10_l7 + 1) then
  again_l7 (x10_l7 + 1) b1_k12_5
 else none
def Zhb (n : Nat)  (b1_k4_5 : List (ByteArray × Vl)) : Option Vl :=
 if b1_k4_5.length < 4611686018427387904 then
  (Zdw n (Vl.mk 9 0 0 ((⟨#[]⟩ : ByteArray)) ([]) (Zh0 b1_k4_5))).bind fun y29 =>
  some (y29)
 else none
def ZdU (n : Nat) (a0 : List (ByteArray × Vl)) : Nat → Int → (List (ByteArray × Vl)) → Option Vl
 | 0, _, _ => none
 | m + 1, x10_l7, b1_l7_5 =>
  if decide (x10_l7 < ((a0.length : Int))) then
   (idx a0 x10_l7).bind fun x15 =>
   if I64 (x10_l7 + 1) then
    if 0 ≤ x10_l7 + 1 ∧ x10_l7 + 1 ≤ (a0.length : Int) ∧ (a0.length : Int) ≤ (a0.length : Int) then
     (Zcc n (a0.drop (x10_l7 + 1).toNat) (fun (x0 : ByteArray × Vl) => some (Zea x0 x15))).bind fun y19 =>
     if (!(ZeJ x15.2)) && (!y19) then
      if (b1_l7_5.length + 1) * 104 ≤ 140737488355328 ∧ b1_l7_5.length + 1 ≤ 4611686018427387904 then
       Zfa n (ZdU n a0 m) x10_l7 (b1_l7_5 ++ ([x15]))
      else none
     else
      Zfa n (ZdU n a0 m) x10_l7 b1_l7_5
    else none
   else none
  else
   Zhb n b1_l7_5
def Zip (n : Nat) (a0 : List (ByteArray × Vl)) : Option Vl :=
 ZdU n a0 n 0 ([])
theorem Zmt (w0 : World) (n : Nat) (B : List (List AV)) (Rw : List RowA) (L : List LoopA) (a0 : List (ByteArray × Vl)) (r : Vl) (h : Zip n a0 = some r) :
  ACalls Tryz.prog w0 171 [.list (a0.map avF) .none] ⟨B, Rw, L⟩ fun x st => x = .agg (r.cs) ∧ st = ⟨B, Rw, L⟩ := by
 rw [Zip] at h
 refine hd [.cell 2 46] Tryz.func171 Tryz.ntmps171 fun M0 W0 hN hNR hNL hcalm hu hO hs => ?_
 simp only [Zal]
 refine rg [0, 2] hs ?_
 apply Zac; intro K2 hK2
 apply Zab 1 [0, 2, 3]
 rw [Zaa]; simp +decide only [go_sem, Nat.reduceAdd, ZaW, Zat, Zar]
 (repeat' apply And.intro) <;> first | refine hK2 _ _ ?_ | exact cl
 clear hK2
 refine Zak (fun e st => ∃ (b1_k4_5 : List (ByteArray × Vl)) (ob1_k4_5 : AV) (Xk4 : List (List AV)) (Rk4 : List RowA), e = [(2, true, .box B.length 0), (3, true, .box (B.length + 1) 0)] ∧ st = ⟨B ++ ([[.val (.int .i64 0), .val (.int .i64 0), .val (.int .i64 0), .val (.string ((⟨#[]⟩ : ByteArray))), .list ([]) .full, .list ([]) .full], [.val (.int .i64 9), .val (.int .i64 0), .val (.int .i64 0), .val (.string ((⟨#[]⟩ : ByteArray))), .list ([]) .full, ob1_k4_5]] ++ Xk4), Rk4, L⟩ ∧ VOne Rw Rk4 7 (b1_k4_5.map avF) ob1_k4_5 ∧ Zhb n b1_k4_5 = some r) ?_ ?_
 ·
  intro K5 hK5
  refine Ziy (B.length + 1) 5 (by first | rfl | (simp only [ZfO, ZeB]; rfl)) rfl ?_; simp +decide only [go_sem, Nat.reduceAdd, List.set_cons_succ, List.set_cons_zero]
  refine rg [0, 2, 3, 8, 9, 10] hs ?_
  apply Zaf
  refine Zap (fun m e st => ∃ (x10_l7 : Int) (b1_l7_5 : List (ByteArray × Vl)) (ob1_l7_5 : AV) (Xl7 : List (List AV)) (Rl7 : List RowA), e = [(0, true, .list (a0.map avF) .none), (2, true, .box B.length 0), (3, true, .box (B.length + 1) 0), (8, true, .list (a0.map avF) .none), (9, true, .val (.int .i64 ((a0.length : Int)))), (10, true, .val (.int .i64 x10_l7))] ∧ st = ⟨B ++ ([[.val (.int .i64 0), .val (.int .i64 0), .val (.int .i64 0), .val (.string ((⟨#[]⟩ : ByteArray))), .list ([]) .full, .list ([]) .full], [.val (.int .i64 9), .val (.int .i64 0), .val (.int .i64 0), .val (.string ((⟨#[]⟩ : ByteArray))), .list ([]) .full, ob1_l7_5]] ++ Xl7), Rl7, L⟩ ∧ VOne Rw Rl7 7 (b1_l7_5.map avF) ob1_l7_5 ∧ ZdU n a0 m x10_l7 b1_l7_5 = some r) n ⟨0, [], .list [] .seed, [], Rw, ef hs, ef hs, VOne.none Rw 7, h⟩ ?_
  rintro ml7 e st ⟨x10_l7, b1_l7_5, ob1_l7_5, Xl7, Rl7, rfl, rfl, hO, h⟩ Ul7 Vl7
  cases ml7 with
  | zero => cases h
  | succ ml7 =>
  rw [ZdU] at h
  have hU := hO.under (B.length + 2) L.length
  refine tdV hN hNR hNL hcalm hO ?_
  refine rg [0, 2, 3, 8, 9, 10, 11] hs ?_
  apply Zac; intro K9 hK9
  refine cnd h hs (fun hs h => ?_) (fun hs h => ?_)
  rotate_left
  ·
   refine sx [2, 3] hs hK5 ?_
   exact ⟨b1_l7_5, ob1_l7_5, ([]), Rl7, ef hs, ef hs, VOne.of_eq hO (by simp only [List.map_append, List.map_cons, List.map_nil]), h⟩
  refine sk [0, 2, 3, 8, 9, 10] hs hK9 ?_
  clear hK9
  refine Zak (fun e st => ∃ (b1_k12_5 : List (ByteArray × Vl)) (ob1_k12_5 : AV) (Xk12 : List (List AV)) (Rk12 : List RowA), e = [(0, true, .list (a0.map avF) .none), (2, true, .box B.length 0), (3, true, .box (B.length + 1) 0), (8, true, .list (a0.map avF) .none), (9, true, .val (.int .i64 ((a0.length : Int)))), (10, true, .val (.int .i64 x10_l7))] ∧ st = ⟨B ++ ([[.val (.int .i64 0), .val (.int .i64 0), .val (.int .i64 0), .val (.string ((⟨#[]⟩ : ByteArray))), .list ([]) .full, .list ([]) .full], [.val (.int .i64 9), .val (.int .i64 0), .val (.int .i64 0), .val (.string ((⟨#[]⟩ : ByteArray))), .list ([]) .full, ob1_k12_5]] ++ Xk12), Rk12, L⟩ ∧ VOne Rw Rk12 7 (b1_k12_5.map avF) ob1_k12_5 ∧ Zfa n (ZdU n a0 ml7) x10_l7 b1_k12_5 = some r) ?_ ?_
  ·
   intro K13 hK13
   apply Zaf
   obtain ⟨x15, hx15, h⟩ := bind_some h
   obtain ⟨hx15a, hx15b, hx15c⟩ := Zam hx15
   have hx15d := Zao (f := avF) hx15c
   have hs := And.intro hx15d hs
   refine rg [0, 2, 3, 4, 5, 8, 9, 10] hs ?_
   obtain ⟨hg17, h⟩ := Zae h
   obtain ⟨hg18, h⟩ := Zae h
   obtain ⟨y19, hy19, h⟩ := bind_some h
   refine rc 2 [0, 2, 3, 5, 6, 8, 9, 10] hs ?_; intro K16 hK16
   refine Zad _ (Zfp w0 n _ _ _ (a0.drop (x10_l7 + 1).toNat) 217 [.box (B.length + 2) 0] (fun (x0 : ByteArray × Vl) => some (Zea x0 x15)) (fun x0 r hx B' rows' hB' hR' => by cases hx; exact ZjT w0 _ _ _ x0 _ x15 (ZbC hB' (ef hs))) _ hy19) (hv hs) ?_
   refine ne hs hK16 ?_
   clear hK16
   refine rc 2 [0, 2, 3, 5, 8, 9, 10, 28] hs ?_; intro K20 hK20
   refine Zad _ (ZgB w0 _ _ _ x15.2) (hv hs) ?_
   refine ne hs hK20 ?_
   clear hK20
   refine cnd h hs (fun hs h => ?_) (fun hs h => ?_)
   ·
    obtain ⟨hg22, h⟩ := Zae h
    obtain ⟨o23, rows24, hO, hap25⟩ := hO.append (P := Tryz.prog) (y := avF x15) ZjB (by rw [Zf6]; rfl) (by decide) (by rw [List.length_map]; exact hg22.1) (by rw [List.length_map]; exact hg22.2) (Ze8 x15) (ZnT x15) (Zlg x15) (fun z hz => by obtain ⟨y, _, rfl⟩ := List.mem_map.1 hz; exact (Ze8 y).1)
    simp only [Zed] at hap25
    replace hap25 := And.intro hap25 hO.cell
    have hs := And.intro hap25 hs
    refine rl [0, 2, 3, 8, 9, 10] hs hK13 ?_
    exact ⟨(b1_l7_5 ++ ([x15])), o23, ([.val (.string x15.1) :: (x15.2.cs)]), rows24, ef hs, ef hs, VOne.of_eq hO (by simp only [List.map_append, List.map_cons, List.map_nil]), h⟩
   refine sk [0, 2, 3, 8, 9, 10] hs hK13 ?_
   exact ⟨b1_l7_5, ob1_l7_5, ([.val (.string x15.1) :: (x15.2.cs)]), Rl7, ef hs, ef hs, VOne.of_eq hO (by simp only [List.map_append, List.map_cons, List.map_nil]), h⟩
  ·
   clear h; rintro e st ⟨b1_k12_5, ob1_k12_5, Xk12, Rk12, rfl, rfl, hO, h⟩
   rw [Zfa] at h
   have hU := hO.under (B.length + 2) L.length
   refine tdV hN hNR hNL hcalm hO ?_
   obtain ⟨hg26, h⟩ := Zae h
   refine rl [0, 2, 3, 8, 9, 10] hs (fun e s => Vl7 ml7 e s (Nat.lt_succ_self _)) ?_
   exact ⟨(x10_l7 + 1), b1_k12_5, ob1_k12_5, ([]), Rk12, ef hs, ef hs, VOne.of_eq hO (by simp only [List.map_append, List.map_cons, List.map_nil]), h⟩
 ·
  clear h; rintro e st ⟨b1_k4_5, ob1_k4_5, Xk4, Rk4, rfl, rfl, hO, h⟩
  rw [Zhb] at h
  have hU := hO.under (B.length + 2) L.length
  refine tdV hN hNR hNL hcalm hO ?_
  obtain ⟨hgL, h⟩ := Zae h
  rcases hO.at_ with ⟨hnil, rfl⟩ | ⟨id, ver, rfl, hpos, hid, hrow⟩
  ·
   have hb0 : b1_k4_5 = [] := List.map_eq_nil_iff.1 hnil
   subst hb0
   refine rc 2 [2, 3] hs ?_; intro K27 hK27
   refine Zad _ (Zn4 w0 _) (hv hs) ?_
   refine ne hs hK27 ?_
   clear hK27
   obtain ⟨y29, hy29, h⟩ := bind_some h
   rw [show Zh0 [] = [] from List.eq_nil_of_length_eq_zero (Ziz [])] at hy29
   refine rc 2 [2] hs ?_; intro K28 hK28
   refine Zad _ (Zdp w0 n _ _ _ (Vl.mk 9 0 0 ((⟨#[]⟩ : ByteArray)) ([]) []) _ hy29) (hv hs) ?_
   refine ne hs hK28 ?_
   clear hK28
   exact rt h hs hcalm hO
  ·
   rw [List.length_map] at hpos
   rw [List.length_map]
   rw [show ((b1_k4_5.map avF).flatMap AV.cells) = b1_k4_5.flatMap fun x => (avF x).cells from List.flatMap_map ..] at hrow
   refine rc 2 [2, 3] hs ?_; intro K27 hK27
   refine ZaR _ (Zn8 w0 (st := ⟨_, _, _⟩) b1_k4_5 hrow hpos hgL) (hv hs) ?_; rintro _ _ ⟨rfl, rfl⟩
   refine ne hs hK27 ?_
   clear hK27
   have hlt := (List.getElem?_eq_some_iff.1 hrow).1
   have hvr : Ze4 (Rk4.set id (.vec ver 7 ((Zh0 b1_k4_5).flatMap fun x => (avF x).cells))) id ver = some (7, (Zh0 b1_k4_5).flatMap fun x => (avF x).cells) := by simp [Ze4, hlt]
   have hsl : (Zh0 b1_k4_5).length = b1_k4_5.length := Ziz _
   refine Zg6 (B.length + 1) 5 true (by first | rfl | (simp only [ZfO, ZeB]; rfl)) rfl hvr (.inl rfl) (by rw [Nat.zero_add, ZjC (fun x _ => (Ze8 x).1), hsl]; exact Nat.le_refl _) ?_
   have hfz : Zmh 7 true ((Zh0 b1_k4_5).flatMap fun x => (avF x).cells) 0 b1_k4_5.length = (Zh0 b1_k4_5).map avF := by
    have := ZoD (ys := (Zh0 b1_k4_5).map avF) (sz := 7) (fun y hy => by obtain ⟨x, _, rfl⟩ := List.mem_map.1 hy; exact ⟨_, rfl, (Ze8 x).1⟩)
    rw [List.length_map, hsl, List.flatMap_map] at this
    exact this
   rw [hfz]
   simp +decide only [go_sem, Nat.reduceAdd, List.set_cons_succ, List.set_cons_zero]
   obtain ⟨y29, hy29, h⟩ := bind_some h
   have hO : VPre Rw ((Rk4.set id (.vec ver 7 ((Zh0 b1_k4_5).flatMap fun x => (avF x).cells))).set id (.dead (ver + 1))) := ⟨ZgK (ZgK hO.pre hid _) hid _⟩
   refine rc 2 [2] hs ?_; intro K28 hK28
   refine Zad _ (Zdp w0 n _ _ _ (Vl.mk 9 0 0 ((⟨#[]⟩ : ByteArray)) ([]) (Zh0 b1_k4_5)) _ hy29) (hv hs) ?_
   refine ne hs hK28 ?_
   clear hK28
   exact rt h hs hcalm hO
def Za1 (rec : Ty → Ty → Vl → Option (Vl × Bool)) (n : Nat) (again_l7 : (List (ByteArray × Vl)) → Int → Option (Vl × Bool)) (x20_l7 : Int) (x8_k12 : List (ByteArray × Vl)) : Option (Vl × Bool) :=
 if I64 (x20_l7 + 1) then
  again_l7 x8_k12 (x20_l7 + 1)
 else none
def Zcd (rec : Ty → Ty → Vl → Option (Vl × Bool)) (n : Nat)  (x8_k4 : List (ByteArray × Vl)) : Option (Vl × Bool) :=
 (Zip n x8_k4).bind fun y44 =>
 some ((y44, true))
def ZaI (rec : Ty → Ty → Vl → Option (Vl × Bool)) (n : Nat) (a0 : Ty) (a1 : Ty) (a2 : Vl) : Nat → (List (ByteArray × Vl)) → Int → Option (Vl × Bool)
 | 0, _, _ => none
 | m + 1, x8_l7, x20_l7 =>
  if decide (x20_l7 < ((a1.fields.length : Int))) then
   (idx a1.fields x20_l7).bind fun x15 =>
   (ZbF n a0.fields x15.1).bind fun y17 =>
   (Zgk n a2 y17.1.2.1).bind fun y19 =>
   if y17.2 && y19.2 then
    (rec y17.1.2.2.2.1 x15.2.2.2.1 y19.1).bind fun y23 =>
    if !y23.2 then
     some ((Vl.mk 0 0 0 ((⟨#[]⟩ : ByteArray)) ([]) ([]), false))
    else
     if (x8_l7.length + 1) * 104 ≤ 140737488355328 ∧ x8_l7.length + 1 ≤ 4611686018427387904 then
      Za1 rec n (ZaI rec n a0 a1 a2 m) x20_l7 (x8_l7 ++ ([(x15.2.1, y23.1)]))
     else none
   else
    if decide (x15.2.2.1 = 1) then
     some ((Vl.mk 0 0 0 ((⟨#[]⟩ : ByteArray)) ([]) ([]), false))
    else
     if decide (x15.2.2.1 = 3) then
      (idx x15.2.2.2.2 0).bind fun x37 =>
      if (x8_l7.length + 1) * 104 ≤ 140737488355328 ∧ x8_l7.length + 1 ≤ 4611686018427387904 then
       Za1 rec n (ZaI rec n a0 a1 a2 m) x20_l7 (x8_l7 ++ ([(x15.2.1, x37)]))
      else none
     else
      Za1 rec n (ZaI rec n a0 a1 a2 m) x20_l7 x8_l7
  else
   Zcd rec n x8_l7
def Zcq (rec : Ty → Ty → Vl → Option (Vl × Bool)) (n : Nat) (a0 : Ty) (a1 : Ty) (a2 : Vl) : Option (Vl × Bool) :=
 ZaI rec n a0 a1 a2 n ([]) 0
theorem ZfZ (w0 : World) (rec : Ty → Ty → Vl → Option (Vl × Bool)) (ih : ∀ (B : List (List AV)) (Rw : List RowA) (L : List LoopA) (a0 : Ty) (a1 : Ty) (a2 : Vl) (r : Vl × Bool) (h : rec a0 a1 a2 = some r), ACalls Tryz.prog w0 79 [.agg (a0.cs), .agg (a1.cs), .agg (a2.cs)] ⟨B, Rw, L⟩ fun x st => x = .tup [.agg (r.1.cs), .val (.bool r.2)] ∧ st = ⟨B, Rw, L⟩) (n : Nat) (B : List (List AV)) (Rw : List RowA) (L : List LoopA) (a0 : Ty) (a1 : Ty) (a2 : Vl) (r : Vl × Bool) (h : Zcq rec n a0 a1 a2 = some r) :
  ACalls Tryz.prog w0 132 [.agg (a0.cs), .agg (a1.cs), .agg (a2.cs)] ⟨B, Rw, L⟩ fun x st => x = .tup [.agg (r.1.cs), .val (.bool r.2)] ∧ st = ⟨B, Rw, L⟩ := by
 rw [Zcq] at h
 refine hd [.cell 6 46, .tmp 7] Tryz.func132 Tryz.ntmps132 fun M0 W0 hN hNR hNL hcalm hu hO hs => ?_
 simp only [Zal]
 refine rg [3, 4, 5, 6] hs ?_
 refine rg [3, 4, 5, 6, 8] hs ?_
 refine Zak (fun e st => ∃ (x8_k4 : List (ByteArray × Vl)) (ox8_k4 : Ev.Own), Ck e st B Rw L [(6, true, .box (B.length + 3) 0), (8, true, .list (x8_k4.map avF) ox8_k4)] [a0.cs, a1.cs, a2.cs, [.val (.int .i64 0), .val (.int .i64 0), .val (.int .i64 0), .val (.string ((⟨#[]⟩ : ByteArray))), .list ([]) .full, .list ([]) .full]] [(7, x8_k4.length, ox8_k4)] (Zcd rec n x8_k4 = some r)) ?_ ?_
 ·
  intro K5 hK5
  refine rg [3, 5, 6, 8, 18, 19, 20] hs ?_
  apply Zaf
  refine Zap (fun m e st => ∃ (x8_l7 : List (ByteArray × Vl)) (x20_l7 : Int) (ox8_l7 : Ev.Own), Ck e st B Rw L [(3, true, .box B.length 0), (5, true, .box (B.length + 2) 0), (6, true, .box (B.length + 3) 0), (8, true, .list (x8_l7.map avF) ox8_l7), (18, true, .list (a1.fields.map Zdz) .none), (19, true, .val (.int .i64 ((a1.fields.length : Int)))), (20, true, .val (.int .i64 x20_l7))] [a0.cs, a1.cs, a2.cs, [.val (.int .i64 0), .val (.int .i64 0), .val (.int .i64 0), .val (.string ((⟨#[]⟩ : ByteArray))), .list ([]) .full, .list ([]) .full]] [(7, x8_l7.length, ox8_l7)] (ZaI rec n a0 a1 a2 m x8_l7 x20_l7 = some r)) n ⟨([]), 0, .full, ([]), Rw, ef hs, ef hs, Owns.of_eq ((hO).full 7 0) (by first | rfl | simp only [List.length_append, List.length_cons, List.length_nil, List.length_map, Nat.zero_add, Nat.add_zero]), h⟩ ?_
  rintro ml7 e st ⟨x8_l7, x20_l7, ox8_l7, Xl7, Rl7, rfl, rfl, hO, h⟩ Ul7 Vl7
  cases ml7 with
  | zero => cases h
  | succ ml7 =>
  rw [ZaI] at h
  have hU := hO.unders
  simp only [List.mem_cons, List.not_mem_nil, or_false, forall_eq_or_imp, forall_eq] at hU
  refine td hN hNR hNL hcalm hO ?_
  refine rg [3, 5, 6, 8, 18, 19, 20, 21] hs ?_
  apply Zac; intro K9 hK9
  refine cnd h hs (fun hs h => ?_) (fun hs h => ?_)
  rotate_left
  ·
   have hb10 := hs.1
   refine sx [6, 8] hs hK5 ?_
   exact ⟨x8_l7, ox8_l7, ([]), Rl7, ef hs, ef hs, Owns.of_eq (hO) (by first | rfl | simp only [List.length_append, List.length_cons, List.length_nil, List.length_map, Nat.zero_add, Nat.add_zero]), h⟩
  have hb10 := hs.1
  refine sk [3, 5, 6, 8, 18, 19, 20] hs hK9 ?_
  clear hK9
  refine Zak (fun e st => ∃ (x8_k12 : List (ByteArray × Vl)) (ox8_k12 : Ev.Own), Ck e st B Rw L [(3, true, .box B.length 0), (5, true, .box (B.length + 2) 0), (6, true, .box (B.length + 3) 0), (8, true, .list (x8_k12.map avF) ox8_k12), (18, true, .list (a1.fields.map Zdz) .none), (19, true, .val (.int .i64 ((a1.fields.length : Int)))), (20, true, .val (.int .i64 x20_l7))] [a0.cs, a1.cs, a2.cs, [.val (.int .i64 0), .val (.int .i64 0), .val (.int .i64 0), .val (.string ((⟨#[]⟩ : ByteArray))), .list ([]) .full, .list ([]) .full]] [(7, x8_k12.length, ox8_k12)] (Za1 rec n (ZaI rec n a0 a1 a2 ml7) x20_l7 x8_k12 = some r)) ?_ ?_
  ·
   intro K13 hK13
   apply Zaf
   obtain ⟨x15, hx15, h⟩ := bind_some h
   obtain ⟨hx15a, hx15b, hx15c⟩ := Zam hx15
   have hx15d := Zao (f := Zdz) hx15c
   have hs := And.intro hx15d hs
   refine rg [3, 5, 6, 8, 10, 18, 19, 20] hs ?_
   obtain ⟨y17, hy17, h⟩ := bind_some h
   refine rc 2 [3, 5, 6, 8, 10, 11, 12, 18, 19, 20] hs ?_; intro K16 hK16
   refine Zad _ (Zco w0 n _ _ _ a0.fields x15.1 _ hy17) (hv hs) ?_
   refine ne hs hK16 ?_
   clear hK16
   obtain ⟨y19, hy19, h⟩ := bind_some h
   refine rc 2 [3, 5, 6, 8, 10, 11, 12, 13, 14, 18, 19, 20] hs ?_; intro K18 hK18
   refine Zad _ (Zih w0 n _ _ _ a2 y17.1.2.1 _ hy19) (hv hs) ?_
   refine ne hs hK18 ?_
   clear hK18
   apply Zaf
   refine rg [3, 5, 6, 8, 10, 11, 13, 18, 19, 20, 39] hs ?_
   refine cnd h hs (fun hs h => ?_) (fun hs h => ?_)
   ·
    have hb21 := hs.1
    obtain ⟨y23, hy23, h⟩ := bind_some h
    refine rc 2 [3, 5, 6, 8, 10, 15, 16, 18, 19, 20] hs ?_; intro K22 hK22
    refine Zad _ (ih _ _ _ y17.1.2.2.2.1 x15.2.2.2.1 y19.1 _ hy23) (hv hs) ?_
    refine ne hs hK22 ?_
    clear hK22
    apply Zac; intro K24 hK24
    refine rg [3, 5, 6, 8, 10, 15, 18, 19, 20, 54] hs ?_
    refine cnd h hs (fun hs h => ?_) (fun hs h => ?_)
    ·
     have hb26 := hs.1
     apply Zac; intro K27 hK27
     apply Zab 1 [6, 7]
     rw [Zaa]; simp +decide only [go_sem, Nat.reduceAdd, hb10, hx15d, hb21, hb26, ZaW, Zat, Zar]
     (repeat' apply And.intro) <;> first | refine hK27 _ _ ?_ | exact cl
     clear hK27
     exact rt h hs hcalm hO
    have hb26 := hs.1
    refine sk [3, 5, 6, 8, 10, 15, 18, 19, 20] hs hK24 ?_
    clear hK24
    obtain ⟨hg28, h⟩ := Zae h
    obtain ⟨o29, rows30, hO, hap31⟩ := hO.append (P := Tryz.prog) ZjB (by rw [Zf6]; rfl) (by decide) 1 hg28.1 hg28.2
    replace hap31 := fun (ys : List AV) B L o2 => hap31 (x8_l7.map avF) ys B L o2 (by first | rfl | simp only [List.length_map, List.length_nil, List.length_append, List.length_cons, Nat.zero_add])
    replace hap31 := fun (y : AV) B L o2 => hap31 [y] B L o2 (by first | rfl | simp only [List.length_map, List.length_nil, List.length_cons]) ev
    try simp only [List.mem_singleton, List.mem_cons, List.not_mem_nil, or_false, forall_eq_or_imp, forall_eq, List.map_append, List.map_cons, List.map_nil, Zeu, Zez, Zey, Zex, Zev, Zed, Zc4, Zc8, Zew, ZbJ, ZbM, Zc7, Zc3, Zc2] at hap31
    apply Zab 1 [3, 5, 6, 8, 18, 19, 20]
    rw [Zaa]; simp +decide only [go_sem, Nat.reduceAdd, hb10, hx15d, hb21, hb26, hap31, ZaW, Zat, Zar]
    have hs := And.intro hap31 hs
    (repeat' apply And.intro) <;> first | refine hK13 _ _ ⟨(x8_l7 ++ ([(x15.2.1, y23.1)])), o29, ([.val (.int .i64 x15.1) :: (.val (.string x15.2.1) :: (.val (.int .i64 x15.2.2.1) :: ((x15.2.2.2.1.cs) ++ ([.list (x15.2.2.2.2.map avV) .none])))), .val (.int .i64 y17.1.1) :: (.val (.string y17.1.2.1) :: (.val (.int .i64 y17.1.2.2.1) :: ((y17.1.2.2.2.1.cs) ++ ([.list (y17.1.2.2.2.2.map avV) .none])))), y19.1.cs, y23.1.cs]), rows30, ef hs, ef hs, Owns.of_eq (hO) (by first | rfl | simp only [List.length_append, List.length_cons, List.length_nil, List.length_map, Nat.zero_add, Nat.add_zero]), h⟩ | exact cl
   have hb21 := hs.1
   refine rg [3, 5, 6, 8, 10, 18, 19, 20, 63] hs ?_
   refine cnd h hs (fun hs h => ?_) (fun hs h => ?_)
   ·
    have hb33 := hs.1
    apply Zac; intro K34 hK34
    apply Zab 1 [6, 7]
    rw [Zaa]; simp +decide only [go_sem, Nat.reduceAdd, hb10, hx15d, hb21, hb33, ZaW, Zat, Zar]
    (repeat' apply And.intro) <;> first | refine hK34 _ _ ?_ | exact cl
    clear hK34
    exact rt h hs hcalm hO
   have hb33 := hs.1
   refine rg [3, 5, 6, 8, 10, 18, 19, 20, 68] hs ?_
   refine cnd h hs (fun hs h => ?_) (fun hs h => ?_)
   ·
    have hb36 := hs.1
    obtain ⟨x37, hx37a, hx37b, hx37d, h⟩ := ix avV h
    have hx37e : (x15.2.2.2.2.map avV).getD 0 .junk = _ := hx37d
    obtain ⟨hg38, h⟩ := Zae h
    obtain ⟨o39, rows40, hO, hap41⟩ := hO.append (P := Tryz.prog) ZjB (by rw [Zf6]; rfl) (by decide) 1 hg38.1 hg38.2
    replace hap41 := fun (ys : List AV) B L o2 => hap41 (x8_l7.map avF) ys B L o2 (by first | rfl | simp only [List.length_map, List.length_nil, List.length_append, List.length_cons, Nat.zero_add])
    replace hap41 := fun (y : AV) B L o2 => hap41 [y] B L o2 (by first | rfl | simp only [List.length_map, List.length_nil, List.length_cons]) ev
    try simp only [List.mem_singleton, List.mem_cons, List.not_mem_nil, or_false, forall_eq_or_imp, forall_eq, List.map_append, List.map_cons, List.map_nil, Zeu, Zez, Zey, Zex, Zev, Zed, Zc4, Zc8, Zew, ZbJ, ZbM, Zc7, Zc3, Zc2] at hap41
    apply Zaw mix 9 1 1 [3, 5, 6, 8, 18, 19, 20] (by kernel_rfl)
    rw [Zaa]; simp +decide only [go_sem, Nat.reduceAdd, hb10, hx15d, hb21, hb33, hb36, hx37d, hx37e, hap41, ZaW, Zat, Zar]
    (repeat' with_reducible apply And.intro) <;> first | (rw [Zaa]; simp +decide only [go_sem, Nat.reduceAdd, hb10, hx15d, hb21, hb33, hb36, hx37d, hx37e, hap41, ZaW, Zat, Zar]) | exact cl
    have hs := And.intro hx37d hs
    have hs := And.intro hx37e hs
    have hs := And.intro hap41 hs
    (repeat' apply And.intro) <;> first | refine hK13 _ _ ⟨(x8_l7 ++ ([(x15.2.1, x37)])), o39, ([.val (.int .i64 x15.1) :: (.val (.string x15.2.1) :: (.val (.int .i64 x15.2.2.1) :: ((x15.2.2.2.1.cs) ++ ([.list (x15.2.2.2.2.map avV) .none])))), .val (.int .i64 y17.1.1) :: (.val (.string y17.1.2.1) :: (.val (.int .i64 y17.1.2.2.1) :: ((y17.1.2.2.2.1.cs) ++ ([.list (y17.1.2.2.2.2.map avV) .none])))), y19.1.cs]), rows40, ef hs, ef hs, Owns.of_eq (hO) (by first | rfl | simp only [List.length_append, List.length_cons, List.length_nil, List.length_map, Nat.zero_add, Nat.add_zero]), h⟩ | exact cl
   have hb36 := hs.1
   refine sk [3, 5, 6, 8, 18, 19, 20] hs hK13 ?_
   exact ⟨x8_l7, ox8_l7, ([.val (.int .i64 x15.1) :: (.val (.string x15.2.1) :: (.val (.int .i64 x15.2.2.1) :: ((x15.2.2.2.1.cs) ++ ([.list (x15.2.2.2.2.map avV) .none])))), .val (.int .i64 y17.1.1) :: (.val (.string y17.1.2.1) :: (.val (.int .i64 y17.1.2.2.1) :: ((y17.1.2.2.2.1.cs) ++ ([.list (y17.1.2.2.2.2.map avV) .none])))), y19.1.cs]), Rl7, ef hs, ef hs, Owns.of_eq (hO) (by first | rfl | simp only [List.length_append, List.length_cons, List.length_nil, List.length_map, Nat.zero_add, Nat.add_zero]), h⟩
  ·
   clear h; rintro e st ⟨x8_k12, ox8_k12, Xk12, Rk12, rfl, rfl, hO, h⟩
   rw [Za1] at h
   have hU := hO.unders
   simp only [List.mem_cons, List.not_mem_nil, or_false, forall_eq_or_imp, forall_eq] at hU
   refine td hN hNR hNL hcalm hO ?_
   obtain ⟨hg42, h⟩ := Zae h
   refine rl [3, 5, 6, 8, 18, 19, 20] hs (fun e s => Vl7 ml7 e s (Nat.lt_succ_self _)) ?_
   exact ⟨x8_k12, (x20_l7 + 1), ox8_k12, ([]), Rk12, ef hs, ef hs, Owns.of_eq (hO) (by first | rfl | simp only [List.length_append, List.length_cons, List.length_nil, List.length_map, Nat.zero_add, Nat.add_zero]), h⟩
 ·
  clear h; rintro e st ⟨x8_k4, ox8_k4, Xk4, Rk4, rfl, rfl, hO, h⟩
  rw [Zcd] at h
  have hU := hO.unders
  simp only [List.mem_cons, List.not_mem_nil, or_false, forall_eq_or_imp, forall_eq] at hU
  refine td hN hNR hNL hcalm hO ?_
  obtain ⟨y44, hy44, h⟩ := bind_some h
  refine rc 2 [6, 7] hs ?_; intro K43 hK43
  refine Zad _ (Zmt w0 n _ _ _ x8_k4 _ hy44) (hv hs) ?_
  refine ne hs hK43 ?_
  clear hK43
  exact rt h hs hcalm hO
def Zho (n : Nat) (a0 : ByteArray) (a1 : Vl) : Option Vl :=
 (Zdw n (Vl.mk 10 0 0 a0 ([a1]) ([]))).bind fun y3 =>
 some (y3)
theorem Zl5 (w0 : World) (n : Nat) (B : List (List AV)) (Rw : List RowA) (L : List LoopA) (a0 : ByteArray) (a1 : Vl) (r : Vl) (h : Zho n a0 a1 = some r) :
  ACalls Tryz.prog w0 134 [.val (.string a0), .agg (a1.cs)] ⟨B, Rw, L⟩ fun x st => x = .agg (r.cs) ∧ st = ⟨B, Rw, L⟩ := by
 rw [Zho] at h
 refine hd [.cell 4 46] Tryz.func134 Tryz.ntmps134 fun M0 W0 hN hNR hNL hcalm hu hO hs => ?_
 simp only [Zal]
 refine rg [0, 3, 4] hs ?_
 apply Zac; intro K2 hK2
 obtain ⟨y3, hy3, h⟩ := bind_some h
 apply Zab 2 [4]
 rw [Zaa]; simp +decide only [go_sem, Nat.reduceAdd, ZaW, Zat, Zar]
 (repeat' apply And.intro) <;> first | refine Zad _ (Zdp w0 n _ _ _ (Vl.mk 10 0 0 a0 ([a1]) ([])) _ hy3) (by first | rfl | (simp +decide only [go_sem, Nat.reduceAdd, ZaW, Zat, Zar]; done) | (simp +decide only [go_sem, Nat.reduceAdd, Vl.cs, Ty.cs, ZaW, Zat, Zar]; done)) ?_ | exact cl
 rw [Zaa]; simp +decide only [go_sem, Nat.reduceAdd, ZaW, Zat, Zar]
 (repeat' apply And.intro) <;> first | refine hK2 _ _ ?_ | exact cl
 clear hK2
 exact rt h hs hcalm hO
def ZdA (rec : Ty → Ty → Vl → Option (Vl × Bool)) (n : Nat) (a1 : Ty) (a2 : Vl) (b4_k41_4 : List Vl) : Option (Vl × Bool) :=
 some ((Vl.mk 8 0 0 ((⟨#[]⟩ : ByteArray)) b4_k41_4 ([]), ZaU ((a2.list.length : Int)) a1))
def ZdX (rec : Ty → Ty → Vl → Option (Vl × Bool)) (n : Nat) (a2 : Vl) : Option (Vl × Bool) :=
 some ((a2, true))
def Zcy (rec : Ty → Ty → Vl → Option (Vl × Bool)) (n : Nat) (a0 : Ty) (a1 : Ty) (a2 : Vl) : Nat → Int → (List Vl) → Option (Vl × Bool)
 | 0, _, _ => none
 | m + 1, x94_l44, b4_l44_4 =>
  if decide (x94_l44 < ((a2.list.length : Int))) then
   (idx a2.list x94_l44).bind fun x50 =>
   (idx a0.elem 0).bind fun x52 =>
   (idx a1.elem 0).bind fun x53 =>
   (rec x52 x53 x50).bind fun y54 =>
   if !y54.2 then
    some ((Vl.mk 0 0 0 ((⟨#[]⟩ : ByteArray)) ([]) ([]), false))
   else
    if (b4_l44_4.length + 1) * 88 ≤ 140737488355328 ∧ b4_l44_4.length + 1 ≤ 4611686018427387904 then
     if I64 (x94_l44 + 1) then
      (Zcy rec n a0 a1 a2 m) (x94_l44 + 1) (b4_l44_4 ++ ([y54.1]))
     else none
    else none
  else
   ZdA rec n a1 a2 b4_l44_4
def ZcH (rec : Ty → Ty → Vl → Option (Vl × Bool)) (n : Nat) (a0 : Ty) (a1 : Ty) (a2 : Vl) (x54_k20 : Bool) : Option (Vl × Bool) :=
 if x54_k20 then
  some ((a2, ZaU a2.int a1))
 else
  if decide (a1.kind = 5) then
   some ((a2, ZaU ((a2.text.size : Int)) a1))
  else
   if decide (a1.kind = 4) then
    if decide (0 < ((a1.words.length : Int))) then
     (Za9 n a1.words a2.text).bind fun y35 =>
     some ((a2, y35))
    else
     some ((a2, ZaU ((a2.text.size : Int)) a1))
   else
    if decide (a1.kind = 8) then
     Zcy rec n a0 a1 a2 n 0 ([])
    else
     if decide (a1.kind = 9) then
      (Zcq rec n a0 a1 a2).bind fun y68 =>
      some ((y68.1, y68.2))
     else
      if decide (a1.kind = 10) then
       (Zgr n a0 a2.text).bind fun y72 =>
       (ZbF n a1.fields y72.1.1).bind fun y74 =>
       if !y74.2 then
        some ((Vl.mk 0 0 0 ((⟨#[]⟩ : ByteArray)) ([]) ([]), false))
       else
        (idx a2.list 0).bind fun x80 =>
        (rec y72.1.2.2.2.1 y74.1.2.2.2.1 x80).bind fun y81 =>
        (Zho n y74.1.2.1 y81.1).bind fun y83 =>
        some ((y83, y81.2))
      else
       ZdX rec n a2 
def ZcE (rec : Ty → Ty → Vl → Option (Vl × Bool)) (n : Nat) (a0 : Ty) (a1 : Ty) (a2 : Vl) (x29_k11 : Bool) : Option (Vl × Bool) :=
 if x29_k11 then
  (Zch n a2.int a0.scale a1.scale).bind fun y17 =>
  some ((Vl.mk a1.kind y17.1 a1.scale ((⟨#[]⟩ : ByteArray)) ([]) ([]), y17.2 && (ZaU y17.1 a1)))
 else
  if decide (a1.kind = 6) then
   ZcH rec n a0 a1 a2 true
  else
   ZcH rec n a0 a1 a2 (decide (a1.kind = 7))
def Zei (rec : Ty → Ty → Vl → Option (Vl × Bool)) (n : Nat) (a0 : Ty) (a1 : Ty) (a2 : Vl) : Option (Vl × Bool) :=
 if !(ZcV a0.kind a1.kind) then
  some ((Vl.mk 0 0 0 ((⟨#[]⟩ : ByteArray)) ([]) ([]), false))
 else
  if decide (a1.kind = 2) then
   ZcE rec n a0 a1 a2 true
  else
   ZcE rec n a0 a1 a2 (decide (a1.kind = 3))
def Zcj : Nat → Ty → Ty → Vl → Option (Vl × Bool)
 | 0, _, _, _ => none
 | n + 1, a0, a1, a2 => Zei (Zcj n) n a0 a1 a2
def Zer (w0 : World) (F : Ty → Ty → Vl → Option (Vl × Bool)) : Prop := ∀ (B : List (List AV)) (Rw : List RowA) (L : List LoopA) (a0 : Ty) (a1 : Ty) (a2 : Vl) (r : Vl × Bool), F a0 a1 a2 = some r → ACalls Tryz.prog w0 79 [.agg (a0.cs), .agg (a1.cs), .agg (a2.cs)] ⟨B, Rw, L⟩ fun x st => x = .tup [.agg (r.1.cs), .val (.bool r.2)] ∧ st = ⟨B, Rw, L⟩
theorem Zg8 (w0 : World) (rec : Ty → Ty → Vl → Option (Vl × Bool)) (ih : Zer w0 rec) (n : Nat) : Zer w0 (Zei rec n) := by
 intro B Rw L a0 a1 a2 r h
 rw [Zei] at h
 refine hd [.cell 6 46, .tmp 7] Tryz.func79 Tryz.ntmps79 fun M0 W0 hN hNR hNL hcalm hu hO hs => ?_
 simp only [Zal]
 refine rg [3, 4, 5, 6] hs ?_
 apply Zac; intro K2 hK2
 refine rc 2 [3, 4, 5, 6, 25] hs ?_; intro K3 hK3
 refine Zad _ (ZeP w0 _ _ _ a0.kind a1.kind) (hv hs) ?_
 refine ne hs hK3 ?_
 clear hK3
 refine cnd h hs (fun hs h => ?_) (fun hs h => ?_)
 ·
  have hb4 := hs.1
  apply Zac; intro K5 hK5
  apply Zab 1 [6, 7]
  rw [Zaa]; simp +decide only [go_sem, Nat.reduceAdd, hb4, ZaW, Zat, Zar]
  (repeat' apply And.intro) <;> first | refine hK5 _ _ ?_ | exact cl
  clear hK5
  exact rt h hs hcalm hO
 have hb4 := hs.1
 refine sk [3, 4, 5, 6] hs hK2 ?_
 clear hK2
 refine Zak (fun e st => Ck e st B Rw L [(5, true, .box (B.length + 2) 0), (6, true, .box (B.length + 3) 0)] [a0.cs, a1.cs, a2.cs, [.val (.int .i64 0), .val (.int .i64 0), .val (.int .i64 0), .val (.string ((⟨#[]⟩ : ByteArray))), .list ([]) .full, .list ([]) .full]] [] (ZdX rec n a2  = some r)) ?_ ?_
 ·
  intro K8 hK8
  refine rg [3, 4, 5, 6, 28] hs ?_
  apply Zaf
  refine Zak (fun e st => ∃ (x29_k11 : Bool), Ck e st B Rw L [(3, true, .box B.length 0), (4, true, .box (B.length + 1) 0), (5, true, .box (B.length + 2) 0), (6, true, .box (B.length + 3) 0), (28, true, .val (.int .i64 a1.kind)), (29, true, .val (.bool x29_k11))] [a0.cs, a1.cs, a2.cs, [.val (.int .i64 0), .val (.int .i64 0), .val (.int .i64 0), .val (.string ((⟨#[]⟩ : ByteArray))), .list ([]) .full, .list ([]) .full]] [] (ZcE rec n a0 a1 a2 x29_k11 = some r)) ?_ ?_
  ·
   intro K12 hK12
   refine rg [3, 4, 5, 6, 28, 29] hs ?_
   refine cnd h hs (fun hs h => ?_) (fun hs h => ?_)
   ·
    refine sk [3, 4, 5, 6, 28, 29] hs hK12 ?_
    exact ⟨true, ([]), Rw, ef hs, ef hs, hO, h⟩
   refine rl [3, 4, 5, 6, 28, 29] hs hK12 ?_
   exact ⟨(decide (a1.kind = 3)), ([]), Rw, ef hs, ef hs, hO, h⟩
  ·
   clear h; rintro e st ⟨x29_k11, Xk11, Rk11, rfl, rfl, hO, h⟩
   rw [ZcE] at h
   refine td hN hNR hNL hcalm hO ?_
   refine cnd h hs (fun hs h => ?_) (fun hs h => ?_)
   ·
    have hb15 := hs.1
    obtain ⟨y17, hy17, h⟩ := bind_some h
    refine rc 2 [4, 6, 8, 9] hs ?_; intro K16 hK16
    refine Zad _ (ZdJ w0 n _ _ _ a2.int a0.scale a1.scale _ hy17) (hv hs) ?_
    refine ne hs hK16 ?_
    clear hK16
    apply Zac; intro K18 hK18
    apply ZfH mix [12] [6, 7] (by kernel_rfl) (fun s => ∃ (X : List (List AV)) (rows : List RowA) (c3 : List AV), s = ⟨B ++ ([a0.cs, a1.cs, a2.cs, c3] ++ X), rows, L⟩) 2 (B.length + 4)
    ·
     simp +decide only [go_sem, Nat.reduceAdd]
    ·
     rintro s ⟨X, rows, c3, rfl⟩
     refine ⟨2, ?_⟩
     rw [Zaa]; simp +decide only [go_sem, Nat.reduceAdd, Zdr, and_self, imp_self, hb4, hb15, ZaW, Zat, Zar]
     (repeat' apply And.intro) <;> first | refine ZdZ _ (fun _ => Za8 w0 _ _ _ y17.1 a1) (by first | rfl | (simp +decide only [go_sem, Nat.reduceAdd, hb4, hb15, ZaW, Zat, Zar]; done) | (simp +decide only [go_sem, Nat.reduceAdd, Vl.cs, Ty.cs, hb4, hb15, ZaW, Zat, Zar]; done)) ?_ | exact cl
     rw [Zaa]; simp +decide only [go_sem, Nat.reduceAdd, and_self, imp_self, hb4, hb15, ZaW, Zat, Zar]
     (repeat' apply And.intro) <;> first | rfl | exact cl
    ·
     refine Good.mk [12] (by kernel_rfl) ⟨[], _, _, by first | rfl | simp only [List.append_nil, List.nil_append]⟩ ?_ ?_
     ·
      intro h; exact absurd h (by decide)
     ·
      intro i hi; simp only [List.mem_cons, List.not_mem_nil, or_false] at hi
      subst hi
      ·
       apply ZbL rfl rfl ev
       ·
        simp +decide only [go_sem, Nat.reduceAdd, ZdI, hb4, hb15, ZaW, Zat, Zar]
        (repeat' apply And.intro) <;> first | rfl | exact cl
       ·
        simp +decide only [go_sem, Nat.reduceAdd, hb4, hb15, ZaW, Zat, Zar]
        refine Good.mk [] (by kernel_rfl) ⟨[], _, _, by first | rfl | simp only [List.append_nil, List.nil_append]⟩ ?_ ?_
        ·
         intro _; apply Zbw [6, 7]; first | (simp +decide only [go_sem, Nat.reduceAdd, and_self, imp_self, hb4, hb15, ZaW, Zat, Zar]; done) | (simp +decide only [go_sem, Nat.reduceAdd, and_self, imp_self, hb4, hb15, ZaW, Zat, Zar]; rfl)
        ·
         intro i hi; cases hi
    simp +decide only [go_sem, Nat.reduceAdd, and_self, imp_self, hb4, hb15, ZaW, Zat, Zar]
    (repeat' apply And.intro) <;> first | refine hK18 _ _ ?_ | exact cl
    clear hK18
    exact rt h hs hcalm hO
   have hb15 := hs.1
   refine Zak (fun e st => ∃ (x54_k20 : Bool), Ck e st B Rw L [(3, true, .box B.length 0), (4, true, .box (B.length + 1) 0), (5, true, .box (B.length + 2) 0), (6, true, .box (B.length + 3) 0), (28, true, .val (.int .i64 a1.kind)), (54, true, .val (.bool x54_k20))] [a0.cs, a1.cs, a2.cs, [.val (.int .i64 0), .val (.int .i64 0), .val (.int .i64 0), .val (.string ((⟨#[]⟩ : ByteArray))), .list ([]) .full, .list ([]) .full]] [] (ZcH rec n a0 a1 a2 x54_k20 = some r)) ?_ ?_
   ·
    intro K21 hK21
    refine rg [3, 4, 5, 6, 28, 54] hs ?_
    refine cnd h hs (fun hs h => ?_) (fun hs h => ?_)
    ·
     refine sk [3, 4, 5, 6, 28, 54] hs hK21 ?_
     exact ⟨true, ([]), Rk11, ef hs, ef hs, hO, h⟩
    refine rl [3, 4, 5, 6, 28, 54] hs hK21 ?_
    exact ⟨(decide (a1.kind = 7)), ([]), Rk11, ef hs, ef hs, hO, h⟩
   ·
    clear h; rintro e st ⟨x54_k20, Xk20, Rk20, rfl, rfl, hO, h⟩
    rw [ZcH] at h
    refine td hN hNR hNL hcalm hO ?_
    refine cnd h hs (fun hs h => ?_) (fun hs h => ?_)
    ·
     have hb24 := hs.1
     apply Zac; intro K25 hK25
     apply Zaw mix 5 2 1 [6, 7] (by kernel_rfl)
     rw [Zaa]; simp +decide only [go_sem, Nat.reduceAdd, hb4, hb15, hb24]
     (repeat' apply And.intro) <;> first | refine Zad _ (Za8 w0 _ _ _ a2.int a1) (hv hs) ?_ | exact cl
     rw [Zaa]; simp +decide only [go_sem, Nat.reduceAdd, hb4, hb15, hb24]
     (repeat' with_reducible apply And.intro) <;> first | (rw [Zaa]; simp +decide only [go_sem, Nat.reduceAdd, hb4, hb15, hb24]) | exact cl
     (repeat' apply And.intro) <;> first | refine hK25 _ _ ?_ | exact cl
     clear hK25
     exact rt h hs hcalm hO
    have hb24 := hs.1
    refine rg [3, 4, 5, 6, 28, 62] hs ?_
    refine cnd h hs (fun hs h => ?_) (fun hs h => ?_)
    ·
     have hb27 := hs.1
     apply Zac; intro K28 hK28
     apply Zaw mix 6 2 1 [6, 7] (by kernel_rfl)
     rw [Zaa]; simp +decide only [go_sem, Nat.reduceAdd, hb4, hb15, hb24, hb27]
     (repeat' apply And.intro) <;> first | refine Zad _ (Za8 w0 _ _ _ ((a2.text.size : Int)) a1) (hv hs) ?_ | exact cl
     rw [Zaa]; simp +decide only [go_sem, Nat.reduceAdd, hb4, hb15, hb24, hb27]
     (repeat' with_reducible apply And.intro) <;> first | (rw [Zaa]; simp +decide only [go_sem, Nat.reduceAdd, hb4, hb15, hb24, hb27]) | exact cl
     (repeat' apply And.intro) <;> first | refine hK28 _ _ ?_ | exact cl
     clear hK28
     exact rt h hs hcalm hO
    have hb27 := hs.1
    refine rg [3, 4, 5, 6, 28, 70] hs ?_
    refine cnd h hs (fun hs h => ?_) (fun hs h => ?_)
    ·
     have hb30 := hs.1
     apply Zac; intro K31 hK31
     refine rg [4, 5, 6, 75] hs ?_
     refine cnd h hs (fun hs h => ?_) (fun hs h => ?_)
     ·
      have hb33 := hs.1
      apply Zac; intro K34 hK34
      obtain ⟨y35, hy35, h⟩ := bind_some h
      apply Zaw mix 6 2 1 [6, 7] (by kernel_rfl)
      rw [Zaa]; simp +decide only [go_sem, Nat.reduceAdd, hb4, hb15, hb24, hb27, hb30, hb33]
      (repeat' apply And.intro) <;> first | refine Zad _ (ZbK w0 n _ _ _ a1.words a2.text _ hy35) (hv hs) ?_ | exact cl
      rw [Zaa]; simp +decide only [go_sem, Nat.reduceAdd, hb4, hb15, hb24, hb27, hb30, hb33]
      (repeat' with_reducible apply And.intro) <;> first | (rw [Zaa]; simp +decide only [go_sem, Nat.reduceAdd, hb4, hb15, hb24, hb27, hb30, hb33]) | exact cl
      (repeat' apply And.intro) <;> first | refine hK34 _ _ ?_ | exact cl
      clear hK34
      exact rt h hs hcalm hO
     have hb33 := hs.1
     refine sk [4, 5, 6] hs hK31 ?_
     clear hK31
     apply Zac; intro K36 hK36
     apply Zaw mix 6 2 1 [6, 7] (by kernel_rfl)
     rw [Zaa]; simp +decide only [go_sem, Nat.reduceAdd, hb4, hb15, hb24, hb27, hb30, hb33]
     (repeat' apply And.intro) <;> first | refine Zad _ (Za8 w0 _ _ _ ((a2.text.size : Int)) a1) (hv hs) ?_ | exact cl
     rw [Zaa]; simp +decide only [go_sem, Nat.reduceAdd, hb4, hb15, hb24, hb27, hb30, hb33]
     (repeat' with_reducible apply And.intro) <;> first | (rw [Zaa]; simp +decide only [go_sem, Nat.reduceAdd, hb4, hb15, hb24, hb27, hb30, hb33]) | exact cl
     (repeat' apply And.intro) <;> first | refine hK36 _ _ ?_ | exact cl
     clear hK36
     exact rt h hs hcalm hO
    have hb30 := hs.1
    refine rg [3, 4, 5, 6, 28, 88] hs ?_
    refine cnd h hs (fun hs h => ?_) (fun hs h => ?_)
    ·
     have hb38 := hs.1
     apply Zac; intro K39 hK39
     apply Zab 1 [3, 4, 5, 6, 10]
     rw [Zaa]; simp +decide only [go_sem, Nat.reduceAdd, hb4, hb15, hb24, hb27, hb30, hb38, ZaW, Zat, Zar]
     (repeat' apply And.intro) <;> first | refine hK39 _ _ ?_ | exact cl
     clear hK39
     refine Zak (fun e st => ∃ (b4_k41_4 : List Vl) (ob4_k41_4 : Ev.Own), Ck e st B Rw L [(4, true, .box (B.length + 1) 0), (5, true, .box (B.length + 2) 0), (6, true, .box (B.length + 3) 0), (10, true, .box (B.length + 4) 0)] [a0.cs, a1.cs, a2.cs, [.val (.int .i64 0), .val (.int .i64 0), .val (.int .i64 0), .val (.string ((⟨#[]⟩ : ByteArray))), .list ([]) .full, .list ([]) .full], [.val (.int .i64 8), .val (.int .i64 0), .val (.int .i64 0), .val (.string ((⟨#[]⟩ : ByteArray))), .list (b4_k41_4.map avV) ob4_k41_4, .list ([]) .full]] [(6, b4_k41_4.length, ob4_k41_4)] (ZdA rec n a1 a2 b4_k41_4 = some r)) ?_ ?_
     ·
      intro K42 hK42
      refine rg [3, 4, 5, 6, 10, 92, 93, 94] hs ?_
      apply Zaf
      refine Zap (fun m e st => ∃ (x94_l44 : Int) (b4_l44_4 : List Vl) (ob4_l44_4 : Ev.Own), Ck e st B Rw L [(3, true, .box B.length 0), (4, true, .box (B.length + 1) 0), (5, true, .box (B.length + 2) 0), (6, true, .box (B.length + 3) 0), (10, true, .box (B.length + 4) 0), (92, true, .list (a2.list.map avV) .none), (93, true, .val (.int .i64 ((a2.list.length : Int)))), (94, true, .val (.int .i64 x94_l44))] [a0.cs, a1.cs, a2.cs, [.val (.int .i64 0), .val (.int .i64 0), .val (.int .i64 0), .val (.string ((⟨#[]⟩ : ByteArray))), .list ([]) .full, .list ([]) .full], [.val (.int .i64 8), .val (.int .i64 0), .val (.int .i64 0), .val (.string ((⟨#[]⟩ : ByteArray))), .list (b4_l44_4.map avV) ob4_l44_4, .list ([]) .full]] [(6, b4_l44_4.length, ob4_l44_4)] (Zcy rec n a0 a1 a2 m x94_l44 b4_l44_4 = some r)) n ⟨0, ([]), .full, ([]), Rk20, ef hs, ef hs, Owns.of_eq ((hO).full 6 0) (by first | rfl | simp only [List.length_append, List.length_cons, List.length_nil, List.length_map, Nat.zero_add, Nat.add_zero]), h⟩ ?_
      rintro ml44 e st ⟨x94_l44, b4_l44_4, ob4_l44_4, Xl44, Rl44, rfl, rfl, hO, h⟩ Ul44 Vl44
      cases ml44 with
      | zero => cases h
      | succ ml44 =>
      rw [Zcy] at h
      have hU := hO.unders
      simp only [List.mem_cons, List.not_mem_nil, or_false, forall_eq_or_imp, forall_eq] at hU
      refine td hN hNR hNL hcalm hO ?_
      refine rg [3, 4, 5, 6, 10, 92, 93, 94, 95] hs ?_
      apply Zac; intro K46 hK46
      refine cnd h hs (fun hs h => ?_) (fun hs h => ?_)
      rotate_left
      ·
       have hb47 := hs.1
       refine sx [4, 5, 6, 10] hs hK42 ?_
       exact ⟨b4_l44_4, ob4_l44_4, ([]), Rl44, ef hs, ef hs, Owns.of_eq (hO) (by first | rfl | simp only [List.length_append, List.length_cons, List.length_nil, List.length_map, Nat.zero_add, Nat.add_zero]), h⟩
      have hb47 := hs.1
      refine sk [3, 4, 5, 6, 10, 92, 93, 94] hs hK46 ?_
      clear hK46
      apply Zac; intro K48 hK48
      apply Zaf
      obtain ⟨x50, hx50, h⟩ := bind_some h
      obtain ⟨hx50a, hx50b, hx50c⟩ := Zam hx50
      have hx50d := Zao (f := avV) hx50c
      have hs := And.intro hx50d hs
      refine rg [3, 4, 5, 6, 10, 12, 92, 93, 94] hs ?_
      apply Zac; intro K51 hK51
      obtain ⟨x52, hx52a, hx52b, hx52d, h⟩ := ix avT h
      have hx52e : (a0.elem.map avT).getD 0 .junk = _ := hx52d
      obtain ⟨x53, hx53a, hx53b, hx53d, h⟩ := ix avT h
      have hx53e : (a1.elem.map avT).getD 0 .junk = _ := hx53d
      obtain ⟨y54, hy54, h⟩ := bind_some h
      apply ZfH mix [13, 14] [3, 4, 5, 6, 10, 13, 14, 92, 93, 94] (by kernel_rfl) (fun s => ∃ (X : List (List AV)) (rows : List RowA), s = ⟨B ++ ([a0.cs, a1.cs, a2.cs, [.val (.int .i64 0), .val (.int .i64 0), .val (.int .i64 0), .val (.string ((⟨#[]⟩ : ByteArray))), .list ([]) .full, .list ([]) .full], [.val (.int .i64 8), .val (.int .i64 0), .val (.int .i64 0), .val (.string ((⟨#[]⟩ : ByteArray))), .list (b4_l44_4.map avV) ob4_l44_4, .list ([]) .full], x50.cs] ++ X), rows, L⟩) 3 (B.length + 6)
      ·
       simp +decide only [go_sem, Nat.reduceAdd]
      ·
       rintro s ⟨X, rows, rfl⟩
       refine ⟨2, ?_⟩
       rw [Zaa]; simp +decide only [go_sem, Nat.reduceAdd, Zdr, hb4, hb15, hb24, hb27, hb30, hb38, hb47, hx50d, hx52d, hx52e, hx53d, hx53e]
       have hs := And.intro hx52d hs
       have hs := And.intro hx52e hs
       have hs := And.intro hx53d hs
       have hs := And.intro hx53e hs
       (repeat' apply And.intro) <;> first | refine Zad _ (ih _ _ _ x52 x53 x50 _ hy54) (hv hs) ?_ | exact cl
       rw [Zaa]; simp +decide only [go_sem, Nat.reduceAdd, hb4, hb15, hb24, hb27, hb30, hb38, hb47, hx50d, hx52d, hx52e, hx53d, hx53e]
       (repeat' apply And.intro) <;> first | rfl | exact cl
      ·
       refine Good.mk [13] (by kernel_rfl) ⟨[], _, by first | rfl | simp only [List.append_nil, List.nil_append]⟩ ?_ ?_
       ·
        intro h; exact absurd h (by decide)
       ·
        intro i hi; simp only [List.mem_cons, List.not_mem_nil, or_false] at hi
        subst hi
        ·
         apply ZbL rfl rfl ev
         ·
          simp +decide only [go_sem, Nat.reduceAdd, ZdI, hb4, hb15, hb24, hb27, hb30, hb38, hb47, hx50d, hx52d, hx52e, hx53d, hx53e]
          (repeat' apply And.intro) <;> first | rfl | exact cl
         ·
          simp +decide only [go_sem, Nat.reduceAdd, hb4, hb15, hb24, hb27, hb30, hb38, hb47, hx50d, hx52d, hx52e, hx53d, hx53e]
          refine Good.mk [14] (by kernel_rfl) ⟨_, _, by first | rfl | simp only [List.append_nil, List.nil_append]⟩ ?_ ?_
          ·
           intro h; exact absurd h (by decide)
          ·
           intro i hi; simp only [List.mem_cons, List.not_mem_nil, or_false] at hi
           subst hi
           ·
            apply ZbL rfl rfl ev
            ·
             simp +decide only [go_sem, Nat.reduceAdd, ZdI, hb4, hb15, hb24, hb27, hb30, hb38, hb47, hx50d, hx52d, hx52e, hx53d, hx53e]
             (repeat' apply And.intro) <;> first | rfl | exact cl
            ·
             simp +decide only [go_sem, Nat.reduceAdd, hb4, hb15, hb24, hb27, hb30, hb38, hb47, hx50d, hx52d, hx52e, hx53d, hx53e]
             refine Good.mk [] (by kernel_rfl) ⟨_, _, by first | rfl | simp only [List.append_nil, List.nil_append]⟩ ?_ ?_
             ·
              intro _; apply Zbw [3, 4, 5, 6, 10, 13, 14, 92, 93, 94]; first | (simp +decide only [go_sem, Nat.reduceAdd, hb4, hb15, hb24, hb27, hb30, hb38, hb47, hx50d, hx52d, hx52e, hx53d, hx53e]; done) | (simp +decide only [go_sem, Nat.reduceAdd, hb4, hb15, hb24, hb27, hb30, hb38, hb47, hx50d, hx52d, hx52e, hx53d, hx53e]; rfl)
             ·
              intro i hi; cases hi
      simp +decide only [go_sem, Nat.reduceAdd, hb4, hb15, hb24, hb27, hb30, hb38, hb47, hx50d, hx52d, hx52e, hx53d, hx53e]
      (repeat' apply And.intro) <;> first | refine hK51 _ _ ?_ | exact cl
      clear hK51
      apply Zac; intro K55 hK55
      have hs := And.intro hx52d hs
      have hs := And.intro hx52e hs
      have hs := And.intro hx53d hs
      have hs := And.intro hx53e hs
      refine rg [3, 4, 5, 6, 10, 13, 92, 93, 94, 112] hs ?_
      refine cnd h hs (fun hs h => ?_) (fun hs h => ?_)
      ·
       have hb57 := hs.1
       apply Zac; intro K58 hK58
       apply Zab 1 [6, 7]
       rw [Zaa]; simp +decide only [go_sem, Nat.reduceAdd, hb4, hb15, hb24, hb27, hb30, hb38, hb47, hx50d, hx52d, hx52e, hx53d, hx53e, hb57, ZaW, Zat, Zar]
       (repeat' apply And.intro) <;> first | refine hK58 _ _ ?_ | exact cl
       clear hK58
       exact rt h hs hcalm hO
      have hb57 := hs.1
      refine sk [3, 4, 5, 6, 10, 13, 92, 93, 94] hs hK55 ?_
      clear hK55
      obtain ⟨hg59, h⟩ := Zae h
      obtain ⟨o60, rows61, hO, hap62⟩ := hO.append (P := Tryz.prog) Zlx (by rw [ZhE]; rfl) (by decide) 1 hg59.1 hg59.2
      replace hap62 := fun (ys : List AV) B L o2 => hap62 (b4_l44_4.map avV) ys B L o2 (by first | rfl | simp only [List.length_map, List.length_nil, List.length_append, List.length_cons, Nat.zero_add])
      replace hap62 := fun (y : AV) B L o2 => hap62 [y] B L o2 (by first | rfl | simp only [List.length_map, List.length_nil, List.length_cons]) ev
      try simp only [List.mem_singleton, List.mem_cons, List.not_mem_nil, or_false, forall_eq_or_imp, forall_eq, List.map_append, List.map_cons, List.map_nil, Zeu, Zez, Zey, Zex, Zev, Zed, Zc4, Zc8, Zew, ZbJ, ZbM, Zc7, Zc3, Zc2] at hap62
      have hs := And.intro hap62 hs
      refine rl [3, 4, 5, 6, 10, 92, 93, 94] hs hK48 ?_
      clear hK48
      obtain ⟨hg63, h⟩ := Zae h
      refine rl [3, 4, 5, 6, 10, 92, 93, 94] hs (fun e s => Vl44 ml44 e s (Nat.lt_succ_self _)) ?_
      exact ⟨(x94_l44 + 1), (b4_l44_4 ++ ([y54.1])), o60, ([x50.cs, y54.1.cs]), rows61, ef hs, ef hs, Owns.of_eq (hO) (by first | rfl | simp only [List.length_append, List.length_cons, List.length_nil, List.length_map, Nat.zero_add, Nat.add_zero]), h⟩
     ·
      clear h; rintro e st ⟨b4_k41_4, ob4_k41_4, Xk41, Rk41, rfl, rfl, hO, h⟩
      rw [ZdA] at h
      have hU := hO.unders
      simp only [List.mem_cons, List.not_mem_nil, or_false, forall_eq_or_imp, forall_eq] at hU
      refine td hN hNR hNL hcalm hO ?_
      apply Zac; intro K64 hK64
      apply Zaw mix 6 2 1 [6, 7] (by kernel_rfl)
      rw [Zaa]; simp +decide only [go_sem, Nat.reduceAdd, hb4, hb15, hb24, hb27, hb30, hb38]
      (repeat' apply And.intro) <;> first | refine Zad _ (Za8 w0 _ _ _ ((a2.list.length : Int)) a1) (hv hs) ?_ | exact cl
      rw [Zaa]; simp +decide only [go_sem, Nat.reduceAdd, hb4, hb15, hb24, hb27, hb30, hb38]
      (repeat' with_reducible apply And.intro) <;> first | (rw [Zaa]; simp +decide only [go_sem, Nat.reduceAdd, hb4, hb15, hb24, hb27, hb30, hb38]) | exact cl
      (repeat' apply And.intro) <;> first | refine hK64 _ _ ?_ | exact cl
      clear hK64
      exact rt h hs hcalm hO
    have hb38 := hs.1
    refine rg [3, 4, 5, 6, 28, 127] hs ?_
    refine cnd h hs (fun hs h => ?_) (fun hs h => ?_)
    ·
     have hb66 := hs.1
     obtain ⟨y68, hy68, h⟩ := bind_some h
     refine rc 2 [6, 7] hs ?_; intro K67 hK67
     refine Zad _ (ZfZ w0 rec ih n _ _ _ a0 a1 a2 _ hy68) (hv hs) ?_
     refine ne hs hK67 ?_
     clear hK67
     exact rt h hs hcalm hO
    have hb66 := hs.1
    refine rg [3, 4, 5, 6, 135] hs ?_
    refine cnd h hs (fun hs h => ?_) (fun hs h => ?_)
    ·
     have hb70 := hs.1
     obtain ⟨y72, hy72, h⟩ := bind_some h
     refine rc 2 [4, 5, 6, 15] hs ?_; intro K71 hK71
     refine Zad _ (Zin w0 n _ _ _ a0 a2.text _ hy72) (hv hs) ?_
     refine ne hs hK71 ?_
     clear hK71
     obtain ⟨y74, hy74, h⟩ := bind_some h
     refine rc 2 [5, 6, 15, 17, 18] hs ?_; intro K73 hK73
     refine Zad _ (Zco w0 n _ _ _ a1.fields y72.1.1 _ hy74) (hv hs) ?_
     refine ne hs hK73 ?_
     clear hK73
     apply Zac; intro K75 hK75
     refine rg [5, 6, 15, 17, 153] hs ?_
     refine cnd h hs (fun hs h => ?_) (fun hs h => ?_)
     ·
      have hb77 := hs.1
      apply Zac; intro K78 hK78
      apply Zab 1 [6, 7]
      rw [Zaa]; simp +decide only [go_sem, Nat.reduceAdd, hb4, hb15, hb24, hb27, hb30, hb38, hb66, hb70, hb77, ZaW, Zat, Zar]
      (repeat' apply And.intro) <;> first | refine hK78 _ _ ?_ | exact cl
      clear hK78
      exact rt h hs hcalm hO
     have hb77 := hs.1
     refine sk [5, 6, 15, 17] hs hK75 ?_
     clear hK75
     apply Zac; intro K79 hK79
     obtain ⟨x80, hx80a, hx80b, hx80d, h⟩ := ix avV h
     have hx80e : (a2.list.map avV).getD 0 .junk = _ := hx80d
     obtain ⟨y81, hy81, h⟩ := bind_some h
     apply ZfH mix [12, 13] [6, 17, 18, 19] (by kernel_rfl) (fun s => ∃ (X : List (List AV)) (rows : List RowA), s = ⟨B ++ ([a0.cs, a1.cs, a2.cs, [.val (.int .i64 0), .val (.int .i64 0), .val (.int .i64 0), .val (.string ((⟨#[]⟩ : ByteArray))), .list ([]) .full, .list ([]) .full], .val (.int .i64 y72.1.1) :: (.val (.string y72.1.2.1) :: (.val (.int .i64 y72.1.2.2.1) :: ((y72.1.2.2.2.1.cs) ++ ([.list (y72.1.2.2.2.2.map avV) .none])))), .val (.int .i64 y74.1.1) :: (.val (.string y74.1.2.1) :: (.val (.int .i64 y74.1.2.2.1) :: ((y74.1.2.2.2.1.cs) ++ ([.list (y74.1.2.2.2.2.map avV) .none]))))] ++ X), rows, L⟩) 3 (B.length + 6)
     ·
      simp +decide only [go_sem, Nat.reduceAdd]
     ·
      rintro s ⟨X, rows, rfl⟩
      refine ⟨2, ?_⟩
      rw [Zaa]; simp +decide only [go_sem, Nat.reduceAdd, Zdr, hb4, hb15, hb24, hb27, hb30, hb38, hb66, hb70, hb77, hx80d, hx80e]
      have hs := And.intro hx80d hs
      have hs := And.intro hx80e hs
      (repeat' apply And.intro) <;> first | refine Zad _ (ih _ _ _ y72.1.2.2.2.1 y74.1.2.2.2.1 x80 _ hy81) (hv hs) ?_ | exact cl
      rw [Zaa]; simp +decide only [go_sem, Nat.reduceAdd, hb4, hb15, hb24, hb27, hb30, hb38, hb66, hb70, hb77, hx80d, hx80e]
      (repeat' apply And.intro) <;> first | rfl | exact cl
     ·
      refine Good.mk [12] (by kernel_rfl) ⟨[], _, by first | rfl | simp only [List.append_nil, List.nil_append]⟩ ?_ ?_
      ·
       intro h; exact absurd h (by decide)
      ·
       intro i hi; simp only [List.mem_cons, List.not_mem_nil, or_false] at hi
       subst hi
       ·
        apply ZbL rfl rfl ev
        ·
         simp +decide only [go_sem, Nat.reduceAdd, ZdI, hb4, hb15, hb24, hb27, hb30, hb38, hb66, hb70, hb77, hx80d, hx80e]
         (repeat' apply And.intro) <;> first | rfl | exact cl
        ·
         simp +decide only [go_sem, Nat.reduceAdd, hb4, hb15, hb24, hb27, hb30, hb38, hb66, hb70, hb77, hx80d, hx80e]
         refine Good.mk [13] (by kernel_rfl) ⟨_, _, by first | rfl | simp only [List.append_nil, List.nil_append]⟩ ?_ ?_
         ·
          intro h; exact absurd h (by decide)
         ·
          intro i hi; simp only [List.mem_cons, List.not_mem_nil, or_false] at hi
          subst hi
          ·
           apply ZbL rfl rfl ev
           ·
            simp +decide only [go_sem, Nat.reduceAdd, ZdI, hb4, hb15, hb24, hb27, hb30, hb38, hb66, hb70, hb77, hx80d, hx80e]
            (repeat' apply And.intro) <;> first | rfl | exact cl
           ·
            simp +decide only [go_sem, Nat.reduceAdd, hb4, hb15, hb24, hb27, hb30, hb38, hb66, hb70, hb77, hx80d, hx80e]
            refine Good.mk [] (by kernel_rfl) ⟨_, _, by first | rfl | simp only [List.append_nil, List.nil_append]⟩ ?_ ?_
            ·
             intro _; apply Zbw [6, 17, 18, 19]; first | (simp +decide only [go_sem, Nat.reduceAdd, hb4, hb15, hb24, hb27, hb30, hb38, hb66, hb70, hb77, hx80d, hx80e]; done) | (simp +decide only [go_sem, Nat.reduceAdd, hb4, hb15, hb24, hb27, hb30, hb38, hb66, hb70, hb77, hx80d, hx80e]; rfl)
            ·
             intro i hi; cases hi
     simp +decide only [go_sem, Nat.reduceAdd, hb4, hb15, hb24, hb27, hb30, hb38, hb66, hb70, hb77, hx80d, hx80e]
     (repeat' apply And.intro) <;> first | refine hK79 _ _ ?_ | exact cl
     clear hK79
     obtain ⟨y83, hy83, h⟩ := bind_some h
     have hs := And.intro hx80d hs
     have hs := And.intro hx80e hs
     refine rc 2 [6, 7] hs ?_; intro K82 hK82
     refine Zad _ (Zl5 w0 n _ _ _ y74.1.2.1 y81.1 _ hy83) (hv hs) ?_
     refine ne hs hK82 ?_
     clear hK82
     exact rt h hs hcalm hO
    have hb70 := hs.1
    refine sk [5, 6] hs hK8 ?_
    exact ⟨([]), Rk20, ef hs, ef hs, hO, h⟩
 ·
  clear h; rintro e st ⟨Xk7, Rk7, rfl, rfl, hO, h⟩
  rw [ZdX] at h
  refine td hN hNR hNL hcalm hO ?_
  refine rg [6, 7] hs ?_
  exact rt h hs hcalm hO
theorem Zd2 (w0 : World) : ∀ n : Nat, Zer w0 (Zcj n)
 | 0 => fun _ _ _ _ _ _ _ h => (nomatch h)
 | n + 1 => Zg8 w0 (Zcj n) (Zd2 w0 n) n
def Zdf (n : Nat) (a0 : ByteArray) (a1 : Ty) (a2 : Ty) : Option Bool :=
 (Zcj n a1 a2 (ZfS a0)).bind fun y3 =>
 some (!y3.2)
theorem Zh9 (w0 : World) (n : Nat) (B : List (List AV)) (Rw : List RowA) (L : List LoopA) (a0 : ByteArray) (la1 : Nat) (a1 : Ty) (hla1 : B[la1]? = some (a1.cs)) (la2 : Nat) (a2 : Ty) (hla2 : B[la2]? = some (a2.cs)) (r : Bool) (h : Zdf n a0 a1 a2 = some r) :
  ACalls Tryz.prog w0 200 [.val (.string a0), .box la1 0, .box la2 0] ⟨B, Rw, L⟩ fun x st => x = .val (.bool r) ∧ st = ⟨B, Rw, L⟩ := by
 rw [Zdf] at h
 refine hd [.tmp 4] Tryz.func200 Tryz.ntmps200 fun M0 W0 hN hNR hNL hcalm hu hO hs => ?_
 simp only [Zal]
 have hltla1 := (List.getElem?_eq_some_iff.1 hla1).1
 have hltla2 := (List.getElem?_eq_some_iff.1 hla2).1
 have hs := And.intro (Zag hla1) hs
 have hs := And.intro (Zag hla2) hs
 refine rg [0, 1, 2] hs ?_
 apply Zac; intro K2 hK2
 obtain ⟨y3, hy3, h⟩ := bind_some h
 apply ZfH mix [8, 9] [6] (by kernel_rfl) (fun s => ∃ (X : List (List AV)) (rows : List RowA), s = ⟨B ++ ([] ++ X), rows, L⟩) 3 (B.length + 0)
 ·
  simp +decide only [go_sem, Nat.reduceAdd]
 ·
  rintro s ⟨X, rows, rfl⟩
  refine ⟨3, ?_⟩
  rw [Zaa]; simp +decide only [go_sem, Nat.reduceAdd, Zdr, Zag hla1, Zag hla2]
  (repeat' apply And.intro) <;> first | refine Zad _ (Zkj w0 _ _ _ a0) (hv hs) ?_ | exact cl
  rw [Zaa]; simp +decide only [go_sem, Nat.reduceAdd, Zag hla1, Zag hla2]
  (repeat' apply And.intro) <;> first | refine Zad _ (Zd2 w0 n _ _ _ a1 a2 (ZfS a0) _ hy3) (hv hs) ?_ | exact cl
  rw [Zaa]; simp +decide only [go_sem, Nat.reduceAdd, Zag hla1, Zag hla2]
  (repeat' apply And.intro) <;> first | rfl | exact cl
 ·
  refine Good.mk [8] (by kernel_rfl) ⟨[], _, by first | rfl | (simp only [List.append_nil, List.nil_append]; done) | (simp only [List.append_nil, List.nil_append]; rfl)⟩ ?_ ?_
  ·
   intro h; exact absurd h (by decide)
  ·
   intro i hi; simp only [List.mem_cons, List.not_mem_nil, or_false] at hi
   subst hi
   ·
    apply ZbL rfl rfl ev
    ·
     simp +decide only [go_sem, Nat.reduceAdd, ZdI, Zag hla1, Zag hla2]
     (repeat' apply And.intro) <;> first | rfl | exact cl
    ·
     simp +decide only [go_sem, Nat.reduceAdd, Zag hla1, Zag hla2]
     refine Good.mk [9] (by kernel_rfl) ⟨_, _, by first | rfl | (simp only [List.append_nil, List.nil_append]; done) | (simp only [List.append_nil, List.nil_append]; rfl)⟩ ?_ ?_
     ·
      intro h; exact absurd h (by decide)
     ·
      intro i hi; simp only [List.mem_cons, List.not_mem_nil, or_false] at hi
      subst hi
      ·
       apply ZbL rfl rfl ev
       ·
        simp +decide only [go_sem, Nat.reduceAdd, ZdI, Zag hla1, Zag hla2]
        (repeat' apply And.intro) <;> first | rfl | exact cl
       ·
        simp +decide only [go_sem, Nat.reduceAdd, Zag hla1, Zag hla2]
        refine Good.mk [] (by kernel_rfl) ⟨_, _, by first | rfl | (simp only [List.append_nil, List.nil_append]; done) | (simp only [List.append_nil, List.nil_append]; rfl)⟩ ?_ ?_
        ·
         intro _; apply Zbw [6]; first | (simp +decide only [go_sem, Nat.reduceAdd, Zag hla1, Zag hla2]; done) | (simp +decide only [go_sem, Nat.reduceAdd, Zag hla1, Zag hla2]; rfl)
        ·
         intro i hi; cases hi
 simp +decide only [go_sem, Nat.reduceAdd, Zag hla1, Zag hla2]
 (repeat' apply And.intro) <;> first | refine hK2 _ _ ?_ | exact cl
 clear hK2
 refine rg [4] hs ?_
 exact rt h hs hcalm hO
def Zbg (a0 : Ty) (a1 : Ty) : Bool :=
 (decide (a1.min ≤ a0.min)) && (decide (a0.max ≤ a1.max))
theorem ZjH (w0 : World) (B : List (List AV)) (Rw : List RowA) (L : List LoopA) (a0 : Ty) (a1 : Ty) (r : Bool) (h : Zbg a0 a1 = r) :
  ACalls Tryz.prog w0 149 [.agg (a0.cs), .agg (a1.cs)] ⟨B, Rw, L⟩ fun x st => x = .val (.bool r) ∧ st = ⟨B, Rw, L⟩ := by
 rw [Zbg] at h
 refine hd [.tmp 4] Tryz.func149 Tryz.ntmps149 fun M0 W0 hN hNR hNL hcalm hu hO hs => ?_
 simp only [Zal]
 refine rg [2, 3] hs ?_
 refine rg [4] hs ?_
 apply Zaj; simp +decide only [go_sem, Nat.reduceAdd]
 subst h
 first | refine Zaz hcalm rfl hO.pre ev ⟨?_, rfl⟩ | refine Za5 hcalm rfl hO.pre ev ⟨?_, rfl⟩
 first | rfl | (simp +decide only [go_sem, Nat.reduceAdd]; done) | (simp +decide only [go_sem, Nat.reduceAdd, Vl.cs, Ty.cs]; done)
theorem ZbD (w0 : World) (B : List (List AV)) (Rw : List RowA) (L : List LoopA) (a0 : Ty) (a1 : Ty) :
  ACalls Tryz.prog w0 149 [.agg (a0.cs), .agg (a1.cs)] ⟨B, Rw, L⟩ fun x st => x = .val (.bool (Zbg a0 a1)) ∧ st = ⟨B, Rw, L⟩ := ZjH w0 B Rw L a0 a1 _ rfl
def Zct (n : Nat)  : Option Int :=
 some ((-1))
def ZbB (n : Nat) (a0 : List ByteArray) (a1 : ByteArray → Option Bool) : Nat → Int → Option Int
 | 0, _ => none
 | m + 1, x8_l6 =>
  if decide (x8_l6 < ((a0.length : Int))) then
   (idx a0 x8_l6).bind fun x13 =>
   (a1 x13).bind fun y14 =>
   if y14 then
    some (x8_l6)
   else
    if I64 (x8_l6 + 1) then
     (ZbB n a0 a1 m) (x8_l6 + 1)
    else none
  else
   Zct n 
def ZcL (n : Nat) (a0 : List ByteArray) (a1 : ByteArray → Option Bool) : Option Int :=
 ZbB n a0 a1 n 0
theorem Zgg (w0 : World) (n : Nat) (B : List (List AV)) (Rw : List RowA) (L : List LoopA) (a0 : List ByteArray) (fa1 : FuncId) (ca1 : List AV) (a1 : ByteArray → Option Bool) (ha1 : ∀ (x0 : ByteArray) r, a1 x0 = some r → ∀ B' rows, B <+: B' → Rw <+: rows → ACalls Tryz.prog w0 fa1 ([.val (.string x0)] ++ ca1) ⟨B', rows, L⟩ fun v s => v = .val (.bool r) ∧ s = ⟨B', rows, L⟩) (r : Int) (h : ZcL n a0 a1 = some r) :
  ACalls Tryz.prog w0 229 [.list (a0.map avS) .none, .clo fa1 ca1] ⟨B, Rw, L⟩ fun x st => x = .val (.int .i64 r) ∧ st = ⟨B, Rw, L⟩ := by
 rw [ZcL] at h
 refine hd [.tmp 4] Tryz.func229 Tryz.ntmps229 fun M0 W0 hN hNR hNL hcalm hu hO hs => ?_
 simp only [Zal]
 have hU_a1 := Za0 (hu (.clo fa1 ca1) (by simp))
 refine rg [0, 1] hs ?_
 refine Zak (fun e st => Ck e st B Rw L [] [] [] (Zct n  = some r)) ?_ ?_
 ·
  intro K4 hK4
  refine rg [0, 1, 7, 8] hs ?_
  apply Zaf
  refine Zap (fun m e st => ∃ (x8_l6 : Int), Ck e st B Rw L [(0, true, .list (a0.map avS) .none), (1, true, .clo fa1 ca1), (7, true, .val (.int .i64 ((a0.length : Int)))), (8, true, .val (.int .i64 x8_l6))] [] [] (ZbB n a0 a1 m x8_l6 = some r)) n ⟨0, ([]), Rw, ef hs, ef hs, hO, h⟩ ?_
  rintro ml6 e st ⟨x8_l6, Xl6, Rl6, rfl, rfl, hO, h⟩ Ul6 Vl6
  cases ml6 with
  | zero => cases h
  | succ ml6 =>
  rw [ZbB] at h
  refine Zas hN hNR hNL rfl hcalm hO (by (simp +decide only [go_sem, Nat.reduceAdd]) <;> (try (repeat' apply And.intro)) <;> first | omega | assumption | exact hU_a1 _ _ _ (by omega) (by have := hO.len; omega) (by omega)) (by (simp +decide only [go_sem, Nat.reduceAdd, Za2]) <;> (try (repeat' apply And.intro)) <;> first | omega | assumption | exact hU_a1 _ _ _ (by omega) (by have := hO.len; omega) (by omega)) ?_
  refine rg [0, 1, 7, 8, 9] hs ?_
  apply Zac; intro K8 hK8
  refine cnd h hs (fun hs h => ?_) (fun hs h => ?_)
  rotate_left
  ·
   refine sx [] hs hK4 ?_
   exact ⟨([]), Rl6, ef hs, ef hs, hO, h⟩
  refine sk [0, 1, 7, 8] hs hK8 ?_
  clear hK8
  apply Zac; intro K10 hK10
  apply Zaf
  refine rg [0, 1, 5, 7, 8] hs ?_
  obtain ⟨x13, hx13, h⟩ := bind_some h
  obtain ⟨hx13a, hx13b, hx13c⟩ := Zam hx13
  have hx13d := Zao (f := avS) hx13c
  obtain ⟨y14, hy14, h⟩ := bind_some h
  have hs := And.intro hx13d hs
  refine rc 2 [0, 1, 5, 7, 8, 16] hs ?_; intro K12 hK12
  refine Zdl _ (ha1 x13 _ hy14 _ _ (by first | exact List.prefix_append _ _ | exact List.prefix_refl _) hO.pre) (hv hs) ?_
  refine ne hs hK12 ?_
  clear hK12
  refine cnd h hs (fun hs h => ?_) (fun hs h => ?_)
  ·
   refine rg [4] hs ?_
   exact rt h hs hcalm hO
  refine sk [0, 1, 7, 8] hs hK10 ?_
  clear hK10
  obtain ⟨hg17, h⟩ := Zae h
  refine rl [0, 1, 7, 8] hs (fun e s => Vl6 ml6 e s (Nat.lt_succ_self _)) ?_
  exact ⟨(x8_l6 + 1), ([]), Rl6, ef hs, ef hs, hO, h⟩
 ·
  clear h; rintro e st ⟨Xk3, Rk3, rfl, rfl, hO, h⟩
  rw [Zct] at h
  refine Zas hN hNR hNL rfl hcalm hO (by (simp +decide only [go_sem, Nat.reduceAdd]) <;> (try (repeat' apply And.intro)) <;> first | omega | assumption | exact hU_a1 _ _ _ (by omega) (by have := hO.len; omega) (by omega)) (by (simp +decide only [go_sem, Nat.reduceAdd, Za2]) <;> (try (repeat' apply And.intro)) <;> first | omega | assumption | exact hU_a1 _ _ _ (by omega) (by have := hO.len; omega) (by omega)) ?_
  refine rg [4] hs ?_
  exact rt h hs hcalm hO
def Zb2 (n : Nat) (a0 : List ByteArray) (a1 : ByteArray → Option Bool) : Option Bool :=
 (ZcL n a0 a1).bind fun y3 =>
 some (decide (0 ≤ y3))
theorem Zfh (w0 : World) (n : Nat) (B : List (List AV)) (Rw : List RowA) (L : List LoopA) (a0 : List ByteArray) (fa1 : FuncId) (ca1 : List AV) (a1 : ByteArray → Option Bool) (ha1 : ∀ (x0 : ByteArray) r, a1 x0 = some r → ∀ B' rows, B <+: B' → Rw <+: rows → ACalls Tryz.prog w0 fa1 ([.val (.string x0)] ++ ca1) ⟨B', rows, L⟩ fun v s => v = .val (.bool r) ∧ s = ⟨B', rows, L⟩) (r : Bool) (h : Zb2 n a0 a1 = some r) :
  ACalls Tryz.prog w0 199 [.list (a0.map avS) .none, .clo fa1 ca1] ⟨B, Rw, L⟩ fun x st => x = .val (.bool r) ∧ st = ⟨B, Rw, L⟩ := by
 rw [Zb2] at h
 refine hd [.tmp 4] Tryz.func199 Tryz.ntmps199 fun M0 W0 hN hNR hNL hcalm hu hO hs => ?_
 simp only [Zal]
 have hU_a1 := Za0 (hu (.clo fa1 ca1) (by simp))
 refine rg [0, 1] hs ?_
 obtain ⟨y3, hy3, h⟩ := bind_some h
 refine rc 2 [4] hs ?_; intro K2 hK2
 refine Zad _ (Zgg w0 n _ _ _ a0 fa1 ca1 a1 (fun x0 r hx B'' rows'' q1 q2 => ha1 x0 r hx B'' rows'' (List.IsPrefix.trans (by first | exact List.prefix_append _ _ | exact List.prefix_refl _) q1) (hO.pre.trans q2)) _ hy3) (hv hs) ?_
 refine ne hs hK2 ?_
 clear hK2
 exact rt h hs hcalm hO
def Zfc (n : Nat) (a0 : Ty) (a1 : Ty) : Option Bool :=
 if decide (0 < ((a0.words.length : Int))) then
  (Zb2 n a0.words (fun (x0 : ByteArray) => Zdf n x0 a0 a1)).bind fun y6 =>
  some (!y6)
 else
  if decide (0 < ((a1.words.length : Int))) then
   if decide (a0.max = 0) then
    (Za9 n a1.words ((⟨#[]⟩ : ByteArray))).bind fun y11 =>
    some (y11)
   else
    some (false)
  else
   some (Zbg a0 a1)
theorem Zjv (w0 : World) (n : Nat) (B : List (List AV)) (Rw : List RowA) (L : List LoopA) (a0 : Ty) (a1 : Ty) (r : Bool) (h : Zfc n a0 a1 = some r) :
  ACalls Tryz.prog w0 148 [.agg (a0.cs), .agg (a1.cs)] ⟨B, Rw, L⟩ fun x st => x = .val (.bool r) ∧ st = ⟨B, Rw, L⟩ := by
 rw [Zfc] at h
 refine hd [.tmp 4] Tryz.func148 Tryz.ntmps148 fun M0 W0 hN hNR hNL hcalm hu hO hs => ?_
 simp only [Zal]
 refine rg [2, 3] hs ?_
 apply Zac; intro K2 hK2
 apply Zaf
 refine rg [2, 3, 5] hs ?_
 refine cnd h hs (fun hs h => ?_) (fun hs h => ?_)
 ·
  have hb4 := hs.1
  obtain ⟨y6, hy6, h⟩ := bind_some h
  refine rc 2 [4] hs ?_; intro K5 hK5
  refine Zad _ (Zfh w0 n _ _ _ a0.words 200 [.box B.length 0, .box (B.length + 1) 0] (fun (x0 : ByteArray) => Zdf n x0 a0 a1) (fun x0 r hx B' rows' hB' hR' => by exact Zh9 w0 n _ _ _ x0 _ a0 (ZbC hB' (ef hs)) _ a1 (ZbC hB' (ef hs)) _ hx) _ hy6) (hv hs) ?_
  refine ne hs hK5 ?_
  clear hK5
  exact rt h hs hcalm hO
 have hb4 := hs.1
 refine rg [2, 3, 15] hs ?_
 refine cnd h hs (fun hs h => ?_) (fun hs h => ?_)
 ·
  have hb8 := hs.1
  apply Zac; intro K9 hK9
  rcases Bool.eq_false_or_eq_true (decide (a0.max = 0)) with hf10 | hf10
  ·
   replace h := ZaC h hf10
   obtain ⟨y11, hy11, h⟩ := bind_some h
   have hs := And.intro hf10 hs
   refine rk 2 [4] hs ?_
   refine Zad _ (ZbK w0 n _ _ _ a1.words ((⟨#[]⟩ : ByteArray)) _ hy11) (hv hs) ?_
   refine ne hs hK9 ?_
   clear hK9
   exact rt h hs hcalm hO
  ·
   replace h := ZaD h hf10
   apply Zab 2 [4]
   rw [Zaa]; simp +decide only [go_sem, Nat.reduceAdd, hb4, hb8, hf10]
   (repeat' apply And.intro) <;> first | refine ZaB ?_ | exact cl
   rw [Zaa]; simp +decide only [go_sem, Nat.reduceAdd, hb4, hb8, hf10]
   (repeat' apply And.intro) <;> first | refine hK9 _ _ ?_ | exact cl
   clear hK9
   have hs := And.intro hf10 hs
   exact rt h hs hcalm hO
 have hb8 := hs.1
 refine sk [2, 3] hs hK2 ?_
 clear hK2
 refine rc 2 [4] hs ?_; intro K12 hK12
 refine Zad _ (ZbD w0 _ _ _ a0 a1) (hv hs) ?_
 refine ne hs hK12 ?_
 clear hK12
 exact rt h hs hcalm hO
def ZbX (rec : Ty → Ty → Option Bool) (n : Nat) (a0 : Ty) (a1 : Ty) (x13_k9 : Bool) : Option Bool :=
 if x13_k9 then
  (Zeo n a0 a1).bind fun y15 =>
  some (y15)
 else
  if decide (a1.kind = 1) then
   some (true)
  else
   if decide (a1.kind = 4) then
    (Zfc n a0 a1).bind fun y22 =>
    some (y22)
   else
    if decide (a1.kind = 8) then
     if Zbg a0 a1 then
      if decide (a0.max = 0) then
       some (true)
      else
       (idx a0.elem 0).bind fun x28 =>
       (idx a1.elem 0).bind fun x29 =>
       (rec x28 x29).bind fun y30 =>
       some (y30)
     else
      some (false)
    else
     if decide (a1.kind = 9) then
      (ZaF n a1.fields (fun (x0 : Int × ByteArray × Int × Ty × List Vl) => ZbP rec n x0 a0)).bind fun y34 =>
      some (!y34)
     else
      if decide (a1.kind = 10) then
       (ZaF n a0.fields (fun (x0 : Int × ByteArray × Int × Ty × List Vl) => ZbI rec n x0 a1)).bind fun y38 =>
       some (!y38)
      else
       some (Zbg a0 a1)
def Zdk (rec : Ty → Ty → Option Bool) (n : Nat) (a0 : Ty) (a1 : Ty) : Option Bool :=
 if !(ZcV a0.kind a1.kind) then
  some (false)
 else
  if decide (a1.kind = 2) then
   ZbX rec n a0 a1 true
  else
   ZbX rec n a0 a1 (decide (a1.kind = 3))
def Zb6 : Nat → Ty → Ty → Option Bool
 | 0, _, _ => none
 | n + 1, a0, a1 => Zdk (Zb6 n) n a0 a1
def Zdj (w0 : World) (F : Ty → Ty → Option Bool) : Prop := ∀ (B : List (List AV)) (Rw : List RowA) (L : List LoopA) (a0 : Ty) (a1 : Ty) (r : Bool), F a0 a1 = some r → ACalls Tryz.prog w0 90 [.agg (a0.cs), .agg (a1.cs)] ⟨B, Rw, L⟩ fun x st => x = .val (.bool r) ∧ st = ⟨B, Rw, L⟩
theorem Zgd (w0 : World) (rec : Ty → Ty → Option Bool) (ih : Zdj w0 rec) (n : Nat) : Zdj w0 (Zdk rec n) := by
 intro B Rw L a0 a1 r h
 rw [Zdk] at h
 refine hd [.tmp 4] Tryz.func90 Tryz.ntmps90 fun M0 W0 hN hNR hNL hcalm hu hO hs => ?_
 simp only [Zal]
 refine rg [2, 3] hs ?_
 apply Zac; intro K2 hK2
 refine rc 2 [2, 3, 10] hs ?_; intro K3 hK3
 refine Zad _ (ZeP w0 _ _ _ a0.kind a1.kind) (hv hs) ?_
 refine ne hs hK3 ?_
 clear hK3
 refine cnd h hs (fun hs h => ?_) (fun hs h => ?_)
 ·
  have hb4 := hs.1
  refine rg [4] hs ?_
  exact rt h hs hcalm hO
 have hb4 := hs.1
 refine sk [2, 3] hs hK2 ?_
 clear hK2
 apply Zac; intro K6 hK6
 refine rg [2, 3, 12] hs ?_
 apply Zaf
 refine Zak (fun e st => ∃ (x13_k9 : Bool), Ck e st B Rw L [(2, true, .box B.length 0), (3, true, .box (B.length + 1) 0), (12, true, .val (.int .i64 a1.kind)), (13, true, .val (.bool x13_k9))] [a0.cs, a1.cs] [] (ZbX rec n a0 a1 x13_k9 = some r)) ?_ ?_
 ·
  intro K10 hK10
  refine rg [2, 3, 12, 13] hs ?_
  refine cnd h hs (fun hs h => ?_) (fun hs h => ?_)
  ·
   refine sk [2, 3, 12, 13] hs hK10 ?_
   exact ⟨true, ([]), Rw, ef hs, ef hs, hO, h⟩
  refine rl [2, 3, 12, 13] hs hK10 ?_
  exact ⟨(decide (a1.kind = 3)), ([]), Rw, ef hs, ef hs, hO, h⟩
 ·
  clear h; rintro e st ⟨x13_k9, Xk9, Rk9, rfl, rfl, hO, h⟩
  rw [ZbX] at h
  refine td hN hNR hNL hcalm hO ?_
  refine cnd h hs (fun hs h => ?_) (fun hs h => ?_)
  ·
   have hb13 := hs.1
   obtain ⟨y15, hy15, h⟩ := bind_some h
   refine rc 2 [4] hs ?_; intro K14 hK14
   refine Zad _ (Zil w0 n _ _ _ a0 a1 _ hy15) (hv hs) ?_
   refine ne hs hK14 ?_
   clear hK14
   exact rt h hs hcalm hO
  have hb13 := hs.1
  refine rg [2, 3, 12, 19] hs ?_
  refine cnd h hs (fun hs h => ?_) (fun hs h => ?_)
  ·
   have hb17 := hs.1
   refine rg [4] hs ?_
   exact rt h hs hcalm hO
  have hb17 := hs.1
  refine rg [2, 3, 12, 21] hs ?_
  refine cnd h hs (fun hs h => ?_) (fun hs h => ?_)
  ·
   have hb20 := hs.1
   obtain ⟨y22, hy22, h⟩ := bind_some h
   refine rc 2 [4] hs ?_; intro K21 hK21
   refine Zad _ (Zjv w0 n _ _ _ a0 a1 _ hy22) (hv hs) ?_
   refine ne hs hK21 ?_
   clear hK21
   exact rt h hs hcalm hO
  have hb20 := hs.1
  refine rg [2, 3, 12, 26] hs ?_
  refine cnd h hs (fun hs h => ?_) (fun hs h => ?_)
  ·
   have hb24 := hs.1
   apply Zac; intro K25 hK25
   rcases Bool.eq_false_or_eq_true (Zbg a0 a1) with hf26 | hf26
   ·
    replace h := ZaC h hf26
    rcases Bool.eq_false_or_eq_true (decide (a0.max = 0)) with hf27 | hf27
    ·
     replace h := ZaC h hf27
     apply Zaw mix 20 3 1 [4] (by kernel_rfl)
     rw [Zaa]; simp +decide only [go_sem, Nat.reduceAdd, hb4, hb13, hb17, hb20, hb24, hf26, hf27]
     have hs := And.intro hf26 hs
     have hs := And.intro hf27 hs
     (repeat' apply And.intro) <;> first | refine Zad _ (ZbD w0 _ _ _ a0 a1) (hv hs) ?_ | exact cl
     rw [Zaa]; simp +decide only [go_sem, Nat.reduceAdd, hb4, hb13, hb17, hb20, hb24, hf26, hf27]
     (repeat' apply And.intro) <;> first | refine ZaB ?_ | exact cl
     rw [Zaa]; simp +decide only [go_sem, Nat.reduceAdd, hb4, hb13, hb17, hb20, hb24, hf26, hf27]
     (repeat' with_reducible apply And.intro) <;> first | (rw [Zaa]; simp +decide only [go_sem, Nat.reduceAdd, hb4, hb13, hb17, hb20, hb24, hf26, hf27]) | exact cl
     (repeat' apply And.intro) <;> first | refine hK25 _ _ ?_ | exact cl
     clear hK25
     exact rt h hs hcalm hO
    ·
     replace h := ZaD h hf27
     obtain ⟨x28, hx28a, hx28b, hx28d, h⟩ := ix avT h
     have hx28e : (a0.elem.map avT).getD 0 .junk = _ := hx28d
     obtain ⟨x29, hx29a, hx29b, hx29d, h⟩ := ix avT h
     have hx29e : (a1.elem.map avT).getD 0 .junk = _ := hx29d
     obtain ⟨y30, hy30, h⟩ := bind_some h
     apply Zaw mix 20 3 1 [4] (by kernel_rfl)
     rw [Zaa]; simp +decide only [go_sem, Nat.reduceAdd, hb4, hb13, hb17, hb20, hb24, hf26, hf27, hx28d, hx28e, hx29d, hx29e]
     have hs := And.intro hf26 hs
     have hs := And.intro hf27 hs
     have hs := And.intro hx28d hs
     have hs := And.intro hx28e hs
     have hs := And.intro hx29d hs
     have hs := And.intro hx29e hs
     (repeat' apply And.intro) <;> first | refine Zad _ (ZbD w0 _ _ _ a0 a1) (hv hs) ?_ | exact cl
     rw [Zaa]; simp +decide only [go_sem, Nat.reduceAdd, hb4, hb13, hb17, hb20, hb24, hf26, hf27, hx28d, hx28e, hx29d, hx29e]
     (repeat' apply And.intro) <;> first | refine Zad _ (ih _ _ _ x28 x29 _ hy30) (hv hs) ?_ | exact cl
     rw [Zaa]; simp +decide only [go_sem, Nat.reduceAdd, hb4, hb13, hb17, hb20, hb24, hf26, hf27, hx28d, hx28e, hx29d, hx29e]
     (repeat' with_reducible apply And.intro) <;> first | (rw [Zaa]; simp +decide only [go_sem, Nat.reduceAdd, hb4, hb13, hb17, hb20, hb24, hf26, hf27, hx28d, hx28e, hx29d, hx29e]) | exact cl
     (repeat' apply And.intro) <;> first | refine hK25 _ _ ?_ | exact cl
     clear hK25
     exact rt h hs hcalm hO
   ·
    replace h := ZaD h hf26
    apply Zaw mix 20 3 1 [4] (by kernel_rfl)
    rw [Zaa]; simp +decide only [go_sem, Nat.reduceAdd, hb4, hb13, hb17, hb20, hb24, hf26]
    have hs := And.intro hf26 hs
    (repeat' apply And.intro) <;> first | refine Zad _ (ZbD w0 _ _ _ a0 a1) (hv hs) ?_ | exact cl
    rw [Zaa]; simp +decide only [go_sem, Nat.reduceAdd, hb4, hb13, hb17, hb20, hb24, hf26]
    (repeat' apply And.intro) <;> first | refine ZaB ?_ | exact cl
    rw [Zaa]; simp +decide only [go_sem, Nat.reduceAdd, hb4, hb13, hb17, hb20, hb24, hf26]
    (repeat' with_reducible apply And.intro) <;> first | (rw [Zaa]; simp +decide only [go_sem, Nat.reduceAdd, hb4, hb13, hb17, hb20, hb24, hf26]) | exact cl
    (repeat' apply And.intro) <;> first | refine hK25 _ _ ?_ | exact cl
    clear hK25
    exact rt h hs hcalm hO
  have hb24 := hs.1
  refine rg [2, 3, 12, 47] hs ?_
  refine cnd h hs (fun hs h => ?_) (fun hs h => ?_)
  ·
   obtain ⟨y34, hy34, h⟩ := bind_some h
   refine rc 2 [4] hs ?_; intro K33 hK33
   refine Zad _ (Za4 w0 n _ _ _ a1.fields 151 [.box B.length 0] (fun (x0 : Int × ByteArray × Int × Ty × List Vl) => ZbP rec n x0 a0) (fun x0 r hx B' rows' hB' hR' => by exact Zga w0 rec ih n _ _ _ x0 _ a0 (ZbC hB' (ef hs)) _ hx) _ hy34) (hv hs) ?_
   refine ne hs hK33 ?_
   clear hK33
   exact rt h hs hcalm hO
  refine rg [2, 3, 54] hs ?_
  refine cnd h hs (fun hs h => ?_) (fun hs h => ?_)
  ·
   obtain ⟨y38, hy38, h⟩ := bind_some h
   refine rc 2 [4] hs ?_; intro K37 hK37
   refine Zad _ (Za4 w0 n _ _ _ a0.fields 153 [.box (B.length + 1) 0] (fun (x0 : Int × ByteArray × Int × Ty × List Vl) => ZbI rec n x0 a1) (fun x0 r hx B' rows' hB' hR' => by exact Zgf w0 rec ih n _ _ _ x0 _ a1 (ZbC hB' (ef hs)) _ hx) _ hy38) (hv hs) ?_
   refine ne hs hK37 ?_
   clear hK37
   exact rt h hs hcalm hO
  refine sk [2, 3] hs hK6 ?_
  clear hK6
  refine rc 2 [4] hs ?_; intro K39 hK39
  refine Zad _ (ZbD w0 _ _ _ a0 a1) (hv hs) ?_
  refine ne hs hK39 ?_
  clear hK39
  exact rt h hs hcalm hO
theorem Zet (w0 : World) : ∀ n : Nat, Zdj w0 (Zb6 n)
 | 0 => fun _ _ _ _ _ _ h => (nomatch h)
 | n + 1 => Zgd w0 (Zb6 n) (Zet w0 n) n
def ZcR (n : Nat)  : Option Bool :=
 some (true)
def ZbA (n : Nat) (a0 : List Vl) (a1 : List Vl) (a2 : Vl → Vl → Option Bool) : Nat → Int → Option Bool
 | 0, _ => none
 | m + 1, x17_l10 =>
  if decide (x17_l10 < ((a0.length : Int))) then
   (idx a0 x17_l10).bind fun x16 =>
   (idx a1 x17_l10).bind fun x18 =>
   (a2 x16 x18).bind fun y20 =>
   if !y20 then
    some (false)
   else
    if I64 (x17_l10 + 1) then
     (ZbA n a0 a1 a2 m) (x17_l10 + 1)
    else none
  else
   ZcR n 
def Zc5 (n : Nat) (a0 : List Vl) (a1 : List Vl) (a2 : Vl → Vl → Option Bool) : Option Bool :=
 if !(decide (((a0.length : Int)) = ((a1.length : Int)))) then
  some (false)
 else
  ZbA n a0 a1 a2 n 0
theorem Zgv (w0 : World) (n : Nat) (B : List (List AV)) (Rw : List RowA) (L : List LoopA) (a0 : List Vl) (a1 : List Vl) (fa2 : FuncId) (ca2 : List AV) (a2 : Vl → Vl → Option Bool) (ha2 : ∀ (x0 : Vl) (x1 : Vl) r, a2 x0 x1 = some r → ∀ B' rows, B <+: B' → Rw <+: rows → ACalls Tryz.prog w0 fa2 ([.agg (x0.cs), .agg (x1.cs)] ++ ca2) ⟨B', rows, L⟩ fun v s => v = .val (.bool r) ∧ s = ⟨B', rows, L⟩) (r : Bool) (h : Zc5 n a0 a1 a2 = some r) :
  ACalls Tryz.prog w0 208 [.list (a0.map avV) .none, .list (a1.map avV) .none, .clo fa2 ca2] ⟨B, Rw, L⟩ fun x st => x = .val (.bool r) ∧ st = ⟨B, Rw, L⟩ := by
 rw [Zc5] at h
 refine hd [.tmp 6] Tryz.func208 Tryz.ntmps208 fun M0 W0 hN hNR hNL hcalm hu hO hs => ?_
 simp only [Zal]
 have hU_a2 := Za0 (hu (.clo fa2 ca2) (by simp))
 refine rg [0, 1, 2] hs ?_
 apply Zac; intro K2 hK2
 refine rg [0, 1, 2, 14] hs ?_
 refine cnd h hs (fun hs h => ?_) (fun hs h => ?_)
 ·
  refine rg [6] hs ?_
  exact rt h hs hcalm hO
 refine sk [0, 1, 2] hs hK2 ?_
 clear hK2
 refine Zak (fun e st => Ck e st B Rw L [] [] [] (ZcR n  = some r)) ?_ ?_
 ·
  intro K8 hK8
  refine rg [1, 2, 15, 16, 17] hs ?_
  apply Zaf
  refine Zap (fun m e st => ∃ (x17_l10 : Int), Ck e st B Rw L [(1, true, .list (a1.map avV) .none), (2, true, .clo fa2 ca2), (15, true, .list (a0.map avV) .none), (16, true, .val (.int .i64 ((a0.length : Int)))), (17, true, .val (.int .i64 x17_l10))] [] [] (ZbA n a0 a1 a2 m x17_l10 = some r)) n ⟨0, ([]), Rw, ef hs, ef hs, hO, h⟩ ?_
  rintro ml10 e st ⟨x17_l10, Xl10, Rl10, rfl, rfl, hO, h⟩ Ul10 Vl10
  cases ml10 with
  | zero => cases h
  | succ ml10 =>
  rw [ZbA] at h
  refine Zas hN hNR hNL rfl hcalm hO (by (simp +decide only [go_sem, Nat.reduceAdd]) <;> (try (repeat' apply And.intro)) <;> first | omega | assumption | exact hU_a2 _ _ _ (by omega) (by have := hO.len; omega) (by omega)) (by (simp +decide only [go_sem, Nat.reduceAdd, Za2]) <;> (try (repeat' apply And.intro)) <;> first | omega | assumption | exact hU_a2 _ _ _ (by omega) (by have := hO.len; omega) (by omega)) ?_
  refine rg [1, 2, 15, 16, 17, 18] hs ?_
  apply Zac; intro K12 hK12
  refine cnd h hs (fun hs h => ?_) (fun hs h => ?_)
  rotate_left
  ·
   refine sx [] hs hK8 ?_
   exact ⟨([]), Rl10, ef hs, ef hs, hO, h⟩
  refine sk [1, 2, 15, 16, 17] hs hK12 ?_
  clear hK12
  apply Zac; intro K14 hK14
  apply Zaf
  obtain ⟨x16, hx16, h⟩ := bind_some h
  obtain ⟨hx16a, hx16b, hx16c⟩ := Zam hx16
  have hx16d := Zao (f := avV) hx16c
  have hs := And.intro hx16d hs
  refine rg [1, 2, 7, 8, 15, 16, 17] hs ?_
  obtain ⟨x18, hx18, h⟩ := bind_some h
  obtain ⟨hx18a, hx18b, hx18c⟩ := Zam hx18
  have hx18d := Zao (f := avV) hx18c
  have hs := And.intro hx18d hs
  refine rg [1, 2, 8, 9, 15, 16, 17] hs ?_
  obtain ⟨y20, hy20, h⟩ := bind_some h
  refine rc 2 [1, 2, 15, 16, 17, 30] hs ?_; intro K19 hK19
  refine Zdl _ (ha2 x16 x18 _ hy20 _ _ (by first | exact List.prefix_append _ _ | exact List.prefix_refl _) hO.pre) (hv hs) ?_
  refine ne hs hK19 ?_
  clear hK19
  refine cnd h hs (fun hs h => ?_) (fun hs h => ?_)
  ·
   refine rg [6] hs ?_
   exact rt h hs hcalm hO
  refine sk [1, 2, 15, 16, 17] hs hK14 ?_
  clear hK14
  obtain ⟨hg23, h⟩ := Zae h
  refine rl [1, 2, 15, 16, 17] hs (fun e s => Vl10 ml10 e s (Nat.lt_succ_self _)) ?_
  exact ⟨(x17_l10 + 1), ([x16.cs, x18.cs]), Rl10, ef hs, ef hs, hO, h⟩
 ·
  clear h; rintro e st ⟨Xk7, Rk7, rfl, rfl, hO, h⟩
  rw [ZcR] at h
  refine Zas hN hNR hNL rfl hcalm hO (by (simp +decide only [go_sem, Nat.reduceAdd]) <;> (try (repeat' apply And.intro)) <;> first | omega | assumption | exact hU_a2 _ _ _ (by omega) (by have := hO.len; omega) (by omega)) (by (simp +decide only [go_sem, Nat.reduceAdd, Za2]) <;> (try (repeat' apply And.intro)) <;> first | omega | assumption | exact hU_a2 _ _ _ (by omega) (by have := hO.len; omega) (by omega)) ?_
  refine rg [6] hs ?_
  exact rt h hs hcalm hO
def ZfQ (n : Nat)  : Option Int :=
 some (0)
def ZeF (n : Nat) (a0 : List Int) : Nat → Int → Option Int
 | 0, _ => none
 | m + 1, x8_l7 =>
  if decide (x8_l7 < ((a0.length : Int))) then
   (idx a0 x8_l7).bind fun x13 =>
   if !(decide (x13 = 0)) then
    some (x13)
   else
    if I64 (x8_l7 + 1) then
     (ZeF n a0 m) (x8_l7 + 1)
    else none
  else
   ZfQ n 
def Ze7 (n : Nat) (a0 : List Int) : Option Int :=
 ZeF n a0 n 0
theorem ZhN (w0 : World) (n : Nat) (B : List (List AV)) (Rw : List RowA) (L : List LoopA) (a0 : List Int) (r : Int) (h : Ze7 n a0 = some r) :
  ACalls Tryz.prog w0 142 [.list (a0.map avI) .none] ⟨B, Rw, L⟩ fun x st => x = .val (.int .i64 r) ∧ st = ⟨B, Rw, L⟩ := by
 rw [Ze7] at h
 refine hd [.tmp 2] Tryz.func142 Tryz.ntmps142 fun M0 W0 hN hNR hNL hcalm hu hO hs => ?_
 simp only [Zal]
 refine rg [0] hs ?_
 refine rg [0, 3] hs ?_
 refine Zak (fun e st => Ck e st B Rw L [(3, true, .val (.int .i64 0))] [] [] (ZfQ n  = some r)) ?_ ?_
 ·
  intro K5 hK5
  refine rg [3, 6, 7, 8] hs ?_
  apply Zaf
  refine Zap (fun m e st => ∃ (x8_l7 : Int), Ck e st B Rw L [(3, true, .val (.int .i64 0)), (6, true, .list (a0.map avI) .none), (7, true, .val (.int .i64 ((a0.length : Int)))), (8, true, .val (.int .i64 x8_l7))] [] [] (ZeF n a0 m x8_l7 = some r)) n ⟨0, ([]), Rw, ef hs, ef hs, hO, h⟩ ?_
  rintro ml7 e st ⟨x8_l7, Xl7, Rl7, rfl, rfl, hO, h⟩ Ul7 Vl7
  cases ml7 with
  | zero => cases h
  | succ ml7 =>
  rw [ZeF] at h
  refine td hN hNR hNL hcalm hO ?_
  refine rg [3, 6, 7, 8, 9] hs ?_
  apply Zac; intro K9 hK9
  refine cnd h hs (fun hs h => ?_) (fun hs h => ?_)
  rotate_left
  ·
   refine sx [3] hs hK5 ?_
   exact ⟨([]), Rl7, ef hs, ef hs, hO, h⟩
  refine sk [3, 6, 7, 8] hs hK9 ?_
  clear hK9
  apply Zac; intro K11 hK11
  apply Zaf
  obtain ⟨x13, hx13, h⟩ := bind_some h
  obtain ⟨hx13a, hx13b, hx13c⟩ := Zam hx13
  have hx13d := Zao (f := avI) hx13c
  have hs := And.intro hx13d hs
  refine rg [3, 5, 6, 7, 8] hs ?_
  refine rg [3, 5, 6, 7, 8, 14] hs ?_
  refine cnd h hs (fun hs h => ?_) (fun hs h => ?_)
  ·
   refine rg [2] hs ?_
   exact rt h hs hcalm hO
  refine sk [3, 6, 7, 8] hs hK11 ?_
  clear hK11
  obtain ⟨hg17, h⟩ := Zae h
  refine rl [3, 6, 7, 8] hs (fun e s => Vl7 ml7 e s (Nat.lt_succ_self _)) ?_
  exact ⟨(x8_l7 + 1), ([]), Rl7, ef hs, ef hs, hO, h⟩
 ·
  clear h; rintro e st ⟨Xk4, Rk4, rfl, rfl, hO, h⟩
  rw [ZfQ] at h
  refine td hN hNR hNL hcalm hO ?_
  refine rg [2] hs ?_
  exact rt h hs hcalm hO
def Zca (n : Nat) (a0 : List (ByteArray × Vl)) (a1 : List (ByteArray × Vl)) : Option Int :=
 if decide (((a0.length : Int)) < ((a1.length : Int))) then
  some ((-1))
 else
  some (0)
def Zbs (n : Nat) (a0 : List (ByteArray × Vl)) (a1 : List (ByteArray × Vl)) (a2 : (ByteArray × Vl) → (ByteArray × Vl) → Option Int) : Nat → Int → Option Int
 | 0, _ => none
 | m + 1, x13_l6 =>
  if decide (x13_l6 < ((a0.length : Int))) then
   (idx a0 x13_l6).bind fun x12 =>
   if decide (((a1.length : Int)) ≤ x13_l6) then
    some (1)
   else
    (idx a1 x13_l6).bind fun x18 =>
    (a2 x12 x18).bind fun y20 =>
    if !(decide (y20 = 0)) then
     some (y20)
    else
     if I64 (x13_l6 + 1) then
      (Zbs n a0 a1 a2 m) (x13_l6 + 1)
     else none
  else
   Zca n a0 a1 
def Zcr (n : Nat) (a0 : List (ByteArray × Vl)) (a1 : List (ByteArray × Vl)) (a2 : (ByteArray × Vl) → (ByteArray × Vl) → Option Int) : Option Int :=
 Zbs n a0 a1 a2 n 0
theorem ZfN (w0 : World) (n : Nat) (B : List (List AV)) (Rw : List RowA) (L : List LoopA) (a0 : List (ByteArray × Vl)) (a1 : List (ByteArray × Vl)) (fa2 : FuncId) (ca2 : List AV) (a2 : (ByteArray × Vl) → (ByteArray × Vl) → Option Int) (ha2 : ∀ (x0 : ByteArray × Vl) (x1 : ByteArray × Vl) r, a2 x0 x1 = some r → ∀ B' rows, B <+: B' → Rw <+: rows → ACalls Tryz.prog w0 fa2 ([.agg (.val (.string x0.1) :: (x0.2.cs)), .agg (.val (.string x1.1) :: (x1.2.cs))] ++ ca2) ⟨B', rows, L⟩ fun v s => v = .val (.int .i64 r) ∧ s = ⟨B', rows, L⟩) (r : Int) (h : Zcr n a0 a1 a2 = some r) :
  ACalls Tryz.prog w0 145 [.list (a0.map avF) .none, .list (a1.map avF) .none, .clo fa2 ca2] ⟨B, Rw, L⟩ fun x st => x = .val (.int .i64 r) ∧ st = ⟨B, Rw, L⟩ := by
 rw [Zcr] at h
 refine hd [.tmp 6] Tryz.func145 Tryz.ntmps145 fun M0 W0 hN hNR hNL hcalm hu hO hs => ?_
 simp only [Zal]
 have hU_a2 := Za0 (hu (.clo fa2 ca2) (by simp))
 refine rg [0, 1, 2] hs ?_
 refine Zak (fun e st => Ck e st B Rw L [(0, true, .list (a0.map avF) .none), (1, true, .list (a1.map avF) .none)] [] [] (Zca n a0 a1  = some r)) ?_ ?_
 ·
  intro K4 hK4
  refine rg [0, 1, 2, 11, 12, 13] hs ?_
  apply Zaf
  refine Zap (fun m e st => ∃ (x13_l6 : Int), Ck e st B Rw L [(0, true, .list (a0.map avF) .none), (1, true, .list (a1.map avF) .none), (2, true, .clo fa2 ca2), (11, true, .list (a0.map avF) .none), (12, true, .val (.int .i64 ((a0.length : Int)))), (13, true, .val (.int .i64 x13_l6))] [] [] (Zbs n a0 a1 a2 m x13_l6 = some r)) n ⟨0, ([]), Rw, ef hs, ef hs, hO, h⟩ ?_
  rintro ml6 e st ⟨x13_l6, Xl6, Rl6, rfl, rfl, hO, h⟩ Ul6 Vl6
  cases ml6 with
  | zero => cases h
  | succ ml6 =>
  rw [Zbs] at h
  refine Zas hN hNR hNL rfl hcalm hO (by (simp +decide only [go_sem, Nat.reduceAdd]) <;> (try (repeat' apply And.intro)) <;> first | omega | assumption | exact hU_a2 _ _ _ (by omega) (by have := hO.len; omega) (by omega)) (by (simp +decide only [go_sem, Nat.reduceAdd, Za2]) <;> (try (repeat' apply And.intro)) <;> first | omega | assumption | exact hU_a2 _ _ _ (by omega) (by have := hO.len; omega) (by omega)) ?_
  refine rg [0, 1, 2, 11, 12, 13, 14] hs ?_
  apply Zac; intro K8 hK8
  refine cnd h hs (fun hs h => ?_) (fun hs h => ?_)
  rotate_left
  ·
   refine sx [0, 1] hs hK4 ?_
   exact ⟨([]), Rl6, ef hs, ef hs, hO, h⟩
  refine sk [0, 1, 2, 11, 12, 13] hs hK8 ?_
  clear hK8
  apply Zac; intro K10 hK10
  apply Zaf
  obtain ⟨x12, hx12, h⟩ := bind_some h
  obtain ⟨hx12a, hx12b, hx12c⟩ := Zam hx12
  have hx12d := Zao (f := avF) hx12c
  have hs := And.intro hx12d hs
  refine rg [0, 1, 2, 7, 8, 11, 12, 13] hs ?_
  apply Zac; intro K13 hK13
  refine rg [0, 1, 2, 7, 8, 11, 12, 13, 21] hs ?_
  refine cnd h hs (fun hs h => ?_) (fun hs h => ?_)
  ·
   refine rg [6] hs ?_
   exact rt h hs hcalm hO
  refine sk [0, 1, 2, 7, 8, 11, 12, 13] hs hK13 ?_
  clear hK13
  obtain ⟨x18, hx18, h⟩ := bind_some h
  obtain ⟨hx18a, hx18b, hx18c⟩ := Zam hx18
  have hx18d := Zao (f := avF) hx18c
  have hs := And.intro hx18d hs
  refine rg [0, 1, 2, 8, 9, 11, 12, 13] hs ?_
  obtain ⟨y20, hy20, h⟩ := bind_some h
  refine rc 2 [0, 1, 2, 10, 11, 12, 13] hs ?_; intro K19 hK19
  refine Zdl _ (ha2 x12 x18 _ hy20 _ _ (by first | exact List.prefix_append _ _ | exact List.prefix_refl _) hO.pre) (hv hs) ?_
  refine ne hs hK19 ?_
  clear hK19
  refine rg [0, 1, 2, 10, 11, 12, 13, 31] hs ?_
  refine cnd h hs (fun hs h => ?_) (fun hs h => ?_)
  ·
   refine rg [6] hs ?_
   exact rt h hs hcalm hO
  refine sk [0, 1, 2, 11, 12, 13] hs hK10 ?_
  clear hK10
  obtain ⟨hg24, h⟩ := Zae h
  refine rl [0, 1, 2, 11, 12, 13] hs (fun e s => Vl6 ml6 e s (Nat.lt_succ_self _)) ?_
  exact ⟨(x13_l6 + 1), ([.val (.string x12.1) :: (x12.2.cs), .val (.string x18.1) :: (x18.2.cs)]), Rl6, ef hs, ef hs, hO, h⟩
 ·
  clear h; rintro e st ⟨Xk3, Rk3, rfl, rfl, hO, h⟩
  rw [Zca] at h
  refine Zas hN hNR hNL rfl hcalm hO (by (simp +decide only [go_sem, Nat.reduceAdd]) <;> (try (repeat' apply And.intro)) <;> first | omega | assumption | exact hU_a2 _ _ _ (by omega) (by have := hO.len; omega) (by omega)) (by (simp +decide only [go_sem, Nat.reduceAdd, Za2]) <;> (try (repeat' apply And.intro)) <;> first | omega | assumption | exact hU_a2 _ _ _ (by omega) (by have := hO.len; omega) (by omega)) ?_
  apply Zac; intro K25 hK25
  refine rg [38] hs ?_
  refine cnd h hs (fun hs h => ?_) (fun hs h => ?_)
  ·
   refine rg [6] hs ?_
   exact rt h hs hcalm hO
  refine sk [] hs hK25 ?_
  clear hK25
  refine rg [6] hs ?_
  exact rt h hs hcalm hO
def Zcb (n : Nat) (a0 : List Vl) (a1 : List Vl) : Option Int :=
 if decide (((a0.length : Int)) < ((a1.length : Int))) then
  some ((-1))
 else
  some (0)
def Zbq (n : Nat) (a0 : List Vl) (a1 : List Vl) (a2 : Vl → Vl → Option Int) : Nat → Int → Option Int
 | 0, _ => none
 | m + 1, x13_l6 =>
  if decide (x13_l6 < ((a0.length : Int))) then
   (idx a0 x13_l6).bind fun x12 =>
   if decide (((a1.length : Int)) ≤ x13_l6) then
    some (1)
   else
    (idx a1 x13_l6).bind fun x18 =>
    (a2 x12 x18).bind fun y20 =>
    if !(decide (y20 = 0)) then
     some (y20)
    else
     if I64 (x13_l6 + 1) then
      (Zbq n a0 a1 a2 m) (x13_l6 + 1)
     else none
  else
   Zcb n a0 a1 
def Zcs (n : Nat) (a0 : List Vl) (a1 : List Vl) (a2 : Vl → Vl → Option Int) : Option Int :=
 Zbq n a0 a1 a2 n 0
theorem ZfG (w0 : World) (n : Nat) (B : List (List AV)) (Rw : List RowA) (L : List LoopA) (a0 : List Vl) (a1 : List Vl) (fa2 : FuncId) (ca2 : List AV) (a2 : Vl → Vl → Option Int) (ha2 : ∀ (x0 : Vl) (x1 : Vl) r, a2 x0 x1 = some r → ∀ B' rows, B <+: B' → Rw <+: rows → ACalls Tryz.prog w0 fa2 ([.agg (x0.cs), .agg (x1.cs)] ++ ca2) ⟨B', rows, L⟩ fun v s => v = .val (.int .i64 r) ∧ s = ⟨B', rows, L⟩) (r : Int) (h : Zcs n a0 a1 a2 = some r) :
  ACalls Tryz.prog w0 144 [.list (a0.map avV) .none, .list (a1.map avV) .none, .clo fa2 ca2] ⟨B, Rw, L⟩ fun x st => x = .val (.int .i64 r) ∧ st = ⟨B, Rw, L⟩ := by
 rw [Zcs] at h
 refine hd [.tmp 6] Tryz.func144 Tryz.ntmps144 fun M0 W0 hN hNR hNL hcalm hu hO hs => ?_
 simp only [Zal]
 have hU_a2 := Za0 (hu (.clo fa2 ca2) (by simp))
 refine rg [0, 1, 2] hs ?_
 refine Zak (fun e st => Ck e st B Rw L [(0, true, .list (a0.map avV) .none), (1, true, .list (a1.map avV) .none)] [] [] (Zcb n a0 a1  = some r)) ?_ ?_
 ·
  intro K4 hK4
  refine rg [0, 1, 2, 11, 12, 13] hs ?_
  apply Zaf
  refine Zap (fun m e st => ∃ (x13_l6 : Int), Ck e st B Rw L [(0, true, .list (a0.map avV) .none), (1, true, .list (a1.map avV) .none), (2, true, .clo fa2 ca2), (11, true, .list (a0.map avV) .none), (12, true, .val (.int .i64 ((a0.length : Int)))), (13, true, .val (.int .i64 x13_l6))] [] [] (Zbq n a0 a1 a2 m x13_l6 = some r)) n ⟨0, ([]), Rw, ef hs, ef hs, hO, h⟩ ?_
  rintro ml6 e st ⟨x13_l6, Xl6, Rl6, rfl, rfl, hO, h⟩ Ul6 Vl6
  cases ml6 with
  | zero => cases h
  | succ ml6 =>
  rw [Zbq] at h
  refine Zas hN hNR hNL rfl hcalm hO (by (simp +decide only [go_sem, Nat.reduceAdd]) <;> (try (repeat' apply And.intro)) <;> first | omega | assumption | exact hU_a2 _ _ _ (by omega) (by have := hO.len; omega) (by omega)) (by (simp +decide only [go_sem, Nat.reduceAdd, Za2]) <;> (try (repeat' apply And.intro)) <;> first | omega | assumption | exact hU_a2 _ _ _ (by omega) (by have := hO.len; omega) (by omega)) ?_
  refine rg [0, 1, 2, 11, 12, 13, 14] hs ?_
  apply Zac; intro K8 hK8
  refine cnd h hs (fun hs h => ?_) (fun hs h => ?_)
  rotate_left
  ·
   refine sx [0, 1] hs hK4 ?_
   exact ⟨([]), Rl6, ef hs, ef hs, hO, h⟩
  refine sk [0, 1, 2, 11, 12, 13] hs hK8 ?_
  clear hK8
  apply Zac; intro K10 hK10
  apply Zaf
  obtain ⟨x12, hx12, h⟩ := bind_some h
  obtain ⟨hx12a, hx12b, hx12c⟩ := Zam hx12
  have hx12d := Zao (f := avV) hx12c
  have hs := And.intro hx12d hs
  refine rg [0, 1, 2, 7, 8, 11, 12, 13] hs ?_
  apply Zac; intro K13 hK13
  refine rg [0, 1, 2, 7, 8, 11, 12, 13, 21] hs ?_
  refine cnd h hs (fun hs h => ?_) (fun hs h => ?_)
  ·
   refine rg [6] hs ?_
   exact rt h hs hcalm hO
  refine sk [0, 1, 2, 7, 8, 11, 12, 13] hs hK13 ?_
  clear hK13
  obtain ⟨x18, hx18, h⟩ := bind_some h
  obtain ⟨hx18a, hx18b, hx18c⟩ := Zam hx18
  have hx18d := Zao (f := avV) hx18c
  have hs := And.intro hx18d hs
  refine rg [0, 1, 2, 8, 9, 11, 12, 13] hs ?_
  obtain ⟨y20, hy20, h⟩ := bind_some h
  refine rc 2 [0, 1, 2, 10, 11, 12, 13] hs ?_; intro K19 hK19
  refine Zdl _ (ha2 x12 x18 _ hy20 _ _ (by first | exact List.prefix_append _ _ | exact List.prefix_refl _) hO.pre) (hv hs) ?_
  refine ne hs hK19 ?_
  clear hK19
  refine rg [0, 1, 2, 10, 11, 12, 13, 31] hs ?_
  refine cnd h hs (fun hs h => ?_) (fun hs h => ?_)
  ·
   refine rg [6] hs ?_
   exact rt h hs hcalm hO
  refine sk [0, 1, 2, 11, 12, 13] hs hK10 ?_
  clear hK10
  obtain ⟨hg24, h⟩ := Zae h
  refine rl [0, 1, 2, 11, 12, 13] hs (fun e s => Vl6 ml6 e s (Nat.lt_succ_self _)) ?_
  exact ⟨(x13_l6 + 1), ([x12.cs, x18.cs]), Rl6, ef hs, ef hs, hO, h⟩
 ·
  clear h; rintro e st ⟨Xk3, Rk3, rfl, rfl, hO, h⟩
  rw [Zcb] at h
  refine Zas hN hNR hNL rfl hcalm hO (by (simp +decide only [go_sem, Nat.reduceAdd]) <;> (try (repeat' apply And.intro)) <;> first | omega | assumption | exact hU_a2 _ _ _ (by omega) (by have := hO.len; omega) (by omega)) (by (simp +decide only [go_sem, Nat.reduceAdd, Za2]) <;> (try (repeat' apply And.intro)) <;> first | omega | assumption | exact hU_a2 _ _ _ (by omega) (by have := hO.len; omega) (by omega)) ?_
  apply Zac; intro K25 hK25
  refine rg [38] hs ?_
  refine cnd h hs (fun hs h => ?_) (fun hs h => ?_)
  ·
   refine rg [6] hs ?_
   exact rt h hs hcalm hO
  refine sk [] hs hK25 ?_
  clear hK25
  refine rg [6] hs ?_
  exact rt h hs hcalm hO
def ZeE (rec : Vl → Vl → Option Int) (n : Nat) (a0 : ByteArray × Vl) (a1 : ByteArray × Vl) : Option Int :=
 (rec a0.2 a1.2).bind fun y3 =>
 (Ze7 n ([Zsx a0.1 a1.1, y3])).bind fun y4 =>
 some (y4)
theorem ZjV (w0 : World) (rec : Vl → Vl → Option Int) (ih : ∀ (B : List (List AV)) (Rw : List RowA) (L : List LoopA) (a0 : Vl) (a1 : Vl) (r : Int) (h : rec a0 a1 = some r), ACalls Tryz.prog w0 83 [.agg (a0.cs), .agg (a1.cs)] ⟨B, Rw, L⟩ fun x st => x = .val (.int .i64 r) ∧ st = ⟨B, Rw, L⟩) (n : Nat) (B : List (List AV)) (Rw : List RowA) (L : List LoopA) (a0 : ByteArray × Vl) (a1 : ByteArray × Vl) (r : Int) (h : ZeE rec n a0 a1 = some r) :
  ACalls Tryz.prog w0 146 [.agg (.val (.string a0.1) :: (a0.2.cs)), .agg (.val (.string a1.1) :: (a1.2.cs))] ⟨B, Rw, L⟩ fun x st => x = .val (.int .i64 r) ∧ st = ⟨B, Rw, L⟩ := by
 rw [ZeE] at h
 refine hd [.tmp 4] Tryz.func146 Tryz.ntmps146 fun M0 W0 hN hNR hNL hcalm hu hO hs => ?_
 simp only [Zal]
 refine rg [2, 3] hs ?_
 apply Zac; intro K2 hK2
 obtain ⟨y3, hy3, h⟩ := bind_some h
 obtain ⟨y4, hy4, h⟩ := bind_some h
 apply Zaw mix 13 4 1 [4] (by kernel_rfl)
 rw [Zaa]; simp +decide only [go_sem, Nat.reduceAdd]
 (repeat' apply And.intro) <;> first | refine Zad _ (ZgH w0 _ _ _ a0.1 a1.1) (hv hs) ?_ | exact cl
 rw [Zaa]; simp +decide only [go_sem, Nat.reduceAdd]
 (repeat' apply And.intro) <;> first | refine Zad _ (ih _ _ _ a0.2 a1.2 _ hy3) (hv hs) ?_ | exact cl
 rw [Zaa]; simp +decide only [go_sem, Nat.reduceAdd]
 (repeat' apply And.intro) <;> first | refine Zad _ (ZhN w0 n _ _ _ ([Zsx a0.1 a1.1, y3]) _ hy4) (hv hs) ?_ | exact cl
 rw [Zaa]; simp +decide only [go_sem, Nat.reduceAdd]
 (repeat' with_reducible apply And.intro) <;> first | (rw [Zaa]; simp +decide only [go_sem, Nat.reduceAdd]) | exact cl
 (repeat' apply And.intro) <;> first | refine hK2 _ _ ?_ | exact cl
 clear hK2
 exact rt h hs hcalm hO
def Zg9 (rec : Vl → Vl → Option Int) (n : Nat) (a0 : Vl) (a1 : Vl) : Option Int :=
 (Zcs n a0.list a1.list (fun (x0 : Vl) (x1 : Vl) => rec x0 x1)).bind fun y3 =>
 (Zcr n a0.fields a1.fields (fun (x0 : ByteArray × Vl) (x1 : ByteArray × Vl) => ZeE rec n x0 x1)).bind fun y4 =>
 (Ze7 n ([if a0.kind < a1.kind then -1 else if a0.kind = a1.kind then 0 else 1, if a0.int < a1.int then -1 else if a0.int = a1.int then 0 else 1, if a0.scale < a1.scale then -1 else if a0.scale = a1.scale then 0 else 1, Zsx a0.text a1.text, y3, y4])).bind fun y5 =>
 some (y5)
def ZfE : Nat → Vl → Vl → Option Int
 | 0, _, _ => none
 | n + 1, a0, a1 => Zg9 (ZfE n) n a0 a1
def Zha (w0 : World) (F : Vl → Vl → Option Int) : Prop := ∀ (B : List (List AV)) (Rw : List RowA) (L : List LoopA) (a0 : Vl) (a1 : Vl) (r : Int), F a0 a1 = some r → ACalls Tryz.prog w0 83 [.agg (a0.cs), .agg (a1.cs)] ⟨B, Rw, L⟩ fun x st => x = .val (.int .i64 r) ∧ st = ⟨B, Rw, L⟩
theorem ZjM (w0 : World) (rec : Vl → Vl → Option Int) (ih : Zha w0 rec) (n : Nat) : Zha w0 (Zg9 rec n) := by
 intro B Rw L a0 a1 r h
 rw [Zg9] at h
 refine hd [.tmp 4] Tryz.func83 Tryz.ntmps83 fun M0 W0 hN hNR hNL hcalm hu hO hs => ?_
 simp only [Zal]
 refine rg [2, 3] hs ?_
 apply Zac; intro K2 hK2
 obtain ⟨y3, hy3, h⟩ := bind_some h
 obtain ⟨y4, hy4, h⟩ := bind_some h
 obtain ⟨y5, hy5, h⟩ := bind_some h
 apply Zaw mix 33 8 1 [4] (by kernel_rfl)
 rw [Zaa]; simp +decide only [go_sem, Nat.reduceAdd, List.append_eq, List.cons_append, List.nil_append]
 (repeat' apply And.intro) <;> first | refine Zad _ (ZhX w0 _ _ _ a0.kind a1.kind) (by first | rfl | (simp +decide only [go_sem, Nat.reduceAdd, List.append_eq, List.cons_append, List.nil_append]; done) | (simp +decide only [go_sem, Nat.reduceAdd, Vl.cs, Ty.cs, List.append_eq, List.cons_append, List.nil_append]; done)) ?_ | exact cl
 rw [Zaa]; simp +decide only [go_sem, Nat.reduceAdd, List.append_eq, List.cons_append, List.nil_append]
 (repeat' apply And.intro) <;> first | refine Zad _ (ZhX w0 _ _ _ a0.int a1.int) (by first | rfl | (simp +decide only [go_sem, Nat.reduceAdd, List.append_eq, List.cons_append, List.nil_append]; done) | (simp +decide only [go_sem, Nat.reduceAdd, Vl.cs, Ty.cs, List.append_eq, List.cons_append, List.nil_append]; done)) ?_ | exact cl
 rw [Zaa]; simp +decide only [go_sem, Nat.reduceAdd, List.append_eq, List.cons_append, List.nil_append]
 (repeat' apply And.intro) <;> first | refine Zad _ (ZhX w0 _ _ _ a0.scale a1.scale) (by first | rfl | (simp +decide only [go_sem, Nat.reduceAdd, List.append_eq, List.cons_append, List.nil_append]; done) | (simp +decide only [go_sem, Nat.reduceAdd, Vl.cs, Ty.cs, List.append_eq, List.cons_append, List.nil_append]; done)) ?_ | exact cl
 rw [Zaa]; simp +decide only [go_sem, Nat.reduceAdd, List.append_eq, List.cons_append, List.nil_append]
 (repeat' apply And.intro) <;> first | refine Zad _ (ZgH w0 _ _ _ a0.text a1.text) (by first | rfl | (simp +decide only [go_sem, Nat.reduceAdd, List.append_eq, List.cons_append, List.nil_append]; done) | (simp +decide only [go_sem, Nat.reduceAdd, Vl.cs, Ty.cs, List.append_eq, List.cons_append, List.nil_append]; done)) ?_ | exact cl
 rw [Zaa]; simp +decide only [go_sem, Nat.reduceAdd, List.append_eq, List.cons_append, List.nil_append]
 (repeat' apply And.intro) <;> first | refine Zad _ (ZfG w0 n _ _ _ a0.list a1.list 83 [] (fun (x0 : Vl) (x1 : Vl) => rec x0 x1) (fun x0 x1 r hx B' rows' hB' hR' => by exact ih _ _ _ x0 x1 _ hx) _ hy3) (by first | rfl | (simp +decide only [go_sem, Nat.reduceAdd, List.append_eq, List.cons_append, List.nil_append]; done) | (simp +decide only [go_sem, Nat.reduceAdd, Vl.cs, Ty.cs, List.append_eq, List.cons_append, List.nil_append]; done)) ?_ | exact cl
 rw [Zaa]; simp +decide only [go_sem, Nat.reduceAdd, List.append_eq, List.cons_append, List.nil_append]
 (repeat' apply And.intro) <;> first | refine Zad _ (ZfN w0 n _ _ _ a0.fields a1.fields 146 [] (fun (x0 : ByteArray × Vl) (x1 : ByteArray × Vl) => ZeE rec n x0 x1) (fun x0 x1 r hx B' rows' hB' hR' => by exact ZjV w0 rec ih n _ _ _ x0 x1 _ hx) _ hy4) (by first | rfl | (simp +decide only [go_sem, Nat.reduceAdd, List.append_eq, List.cons_append, List.nil_append]; done) | (simp +decide only [go_sem, Nat.reduceAdd, Vl.cs, Ty.cs, List.append_eq, List.cons_append, List.nil_append]; done)) ?_ | exact cl
 rw [Zaa]; simp +decide only [go_sem, Nat.reduceAdd, List.append_eq, List.cons_append, List.nil_append]
 (repeat' apply And.intro) <;> first | refine Zad _ (ZhN w0 n _ _ _ ([if a0.kind < a1.kind then -1 else if a0.kind = a1.kind then 0 else 1, if a0.int < a1.int then -1 else if a0.int = a1.int then 0 else 1, if a0.scale < a1.scale then -1 else if a0.scale = a1.scale then 0 else 1, Zsx a0.text a1.text, y3, y4]) _ hy5) (by first | rfl | (simp +decide only [go_sem, Nat.reduceAdd, List.append_eq, List.cons_append, List.nil_append]; done) | (simp +decide only [go_sem, Nat.reduceAdd, Vl.cs, Ty.cs, List.append_eq, List.cons_append, List.nil_append]; done)) ?_ | exact cl
 rw [Zaa]; simp +decide only [go_sem, Nat.reduceAdd, List.append_eq, List.cons_append, List.nil_append]
 (repeat' with_reducible apply And.intro) <;> first | (rw [Zaa]; simp +decide only [go_sem, Nat.reduceAdd, List.append_eq, List.cons_append, List.nil_append]) | exact cl
 (repeat' apply And.intro) <;> first | refine hK2 _ _ ?_ | exact cl
 clear hK2
 exact rt h hs hcalm hO
theorem ZiA (w0 : World) : ∀ n : Nat, Zha w0 (ZfE n)
 | 0 => fun _ _ _ _ _ _ h => (nomatch h)
 | n + 1 => ZjM w0 (ZfE n) (ZiA w0 n) n
def Zhv (n : Nat) (a0 : Vl) (a1 : Vl) : Option Bool :=
 (ZfE n a0 a1).bind fun y3 =>
 some (decide (y3 = 0))
theorem Znp (w0 : World) (n : Nat) (B : List (List AV)) (Rw : List RowA) (L : List LoopA) (a0 : Vl) (a1 : Vl) (r : Bool) (h : Zhv n a0 a1 = some r) :
  ACalls Tryz.prog w0 32 [.agg (a0.cs), .agg (a1.cs)] ⟨B, Rw, L⟩ fun x st => x = .val (.bool r) ∧ st = ⟨B, Rw, L⟩ := by
 rw [Zhv] at h
 refine hd [.tmp 4] Tryz.func32 Tryz.ntmps32 fun M0 W0 hN hNR hNL hcalm hu hO hs => ?_
 simp only [Zal]
 refine rg [2, 3] hs ?_
 obtain ⟨y3, hy3, h⟩ := bind_some h
 refine rc 2 [4] hs ?_; intro K2 hK2
 refine Zad _ (ZiA w0 n _ _ _ a0 a1 _ hy3) (hv hs) ?_
 refine ne hs hK2 ?_
 clear hK2
 exact rt h hs hcalm hO
def Zf0 (rec : Ty → Ty → Option Bool) (n : Nat) (a0 : Int × ByteArray × Int × Ty × List Vl) (a1 : Int × ByteArray × Int × Ty × List Vl) : Option Bool :=
 if ((decide (a0.1 = a1.1)) && (sEq a0.2.1 a1.2.1)) && (decide (a0.2.2.1 = a1.2.2.1)) then
  (rec a0.2.2.2.1 a1.2.2.2.1).bind fun y4 =>
  if y4 then
   (Zc5 n a0.2.2.2.2 a1.2.2.2.2 (fun (x0 : Vl) (x1 : Vl) => Zhv n x0 x1)).bind fun y6 =>
   some (y6)
  else
   some (false)
 else
  some (false)
theorem Zl1 (w0 : World) (rec : Ty → Ty → Option Bool) (ih : ∀ (B : List (List AV)) (Rw : List RowA) (L : List LoopA) (a0 : Ty) (a1 : Ty) (r : Bool) (h : rec a0 a1 = some r), ACalls Tryz.prog w0 163 [.agg (a0.cs), .agg (a1.cs)] ⟨B, Rw, L⟩ fun x st => x = .val (.bool r) ∧ st = ⟨B, Rw, L⟩) (n : Nat) (B : List (List AV)) (Rw : List RowA) (L : List LoopA) (a0 : Int × ByteArray × Int × Ty × List Vl) (a1 : Int × ByteArray × Int × Ty × List Vl) (r : Bool) (h : Zf0 rec n a0 a1 = some r) :
  ACalls Tryz.prog w0 207 [.agg (.val (.int .i64 a0.1) :: (.val (.string a0.2.1) :: (.val (.int .i64 a0.2.2.1) :: ((a0.2.2.2.1.cs) ++ ([.list (a0.2.2.2.2.map avV) .none]))))), .agg (.val (.int .i64 a1.1) :: (.val (.string a1.2.1) :: (.val (.int .i64 a1.2.2.1) :: ((a1.2.2.2.1.cs) ++ ([.list (a1.2.2.2.2.map avV) .none])))))] ⟨B, Rw, L⟩ fun x st => x = .val (.bool r) ∧ st = ⟨B, Rw, L⟩ := by
 rw [Zf0] at h
 refine hd [.tmp 4] Tryz.func207 Tryz.ntmps207 fun M0 W0 hN hNR hNL hcalm hu hO hs => ?_
 simp only [Zal]
 refine rg [2, 3] hs ?_
 apply Zac; intro K2 hK2
 rcases Bool.eq_false_or_eq_true (((decide (a0.1 = a1.1)) && (sEq a0.2.1 a1.2.1)) && (decide (a0.2.2.1 = a1.2.2.1))) with hf3 | hf3
 ·
  replace h := ZaC h hf3
  obtain ⟨y4, hy4, h⟩ := bind_some h
  rcases Bool.eq_false_or_eq_true (y4) with hf5 | hf5
  ·
   replace h := ZaC h hf5
   obtain ⟨y6, hy6, h⟩ := bind_some h
   apply Zab 3 [4]
   rw [Zaa]; simp +decide only [go_sem, Nat.reduceAdd, hf3, hf5, List.append_eq, List.cons_append, List.nil_append]
   (repeat' apply And.intro) <;> first | refine Zad _ (ih _ _ _ a0.2.2.2.1 a1.2.2.2.1 _ hy4) (by first | rfl | (simp +decide only [go_sem, Nat.reduceAdd, hf3, hf5, List.append_eq, List.cons_append, List.nil_append]; done) | (simp +decide only [go_sem, Nat.reduceAdd, Vl.cs, Ty.cs, hf3, hf5, List.append_eq, List.cons_append, List.nil_append]; done)) ?_ | exact cl
   rw [Zaa]; simp +decide only [go_sem, Nat.reduceAdd, hf3, hf5, List.append_eq, List.cons_append, List.nil_append]
   (repeat' apply And.intro) <;> first | refine Zad _ (Zgv w0 n _ _ _ a0.2.2.2.2 a1.2.2.2.2 32 [] (fun (x0 : Vl) (x1 : Vl) => Zhv n x0 x1) (fun x0 x1 r hx B' rows' hB' hR' => by exact Znp w0 n _ _ _ x0 x1 _ hx) _ hy6) (by first | rfl | (simp +decide only [go_sem, Nat.reduceAdd, hf3, hf5, List.append_eq, List.cons_append, List.nil_append]; done) | (simp +decide only [go_sem, Nat.reduceAdd, Vl.cs, Ty.cs, hf3, hf5, List.append_eq, List.cons_append, List.nil_append]; done)) ?_ | exact cl
   rw [Zaa]; simp +decide only [go_sem, Nat.reduceAdd, hf3, hf5, List.append_eq, List.cons_append, List.nil_append]
   (repeat' apply And.intro) <;> first | refine hK2 _ _ ?_ | exact cl
   clear hK2
   have hs := And.intro hf3 hs
   have hs := And.intro hf5 hs
   exact rt h hs hcalm hO
  ·
   replace h := ZaD h hf5
   apply Zab 3 [4]
   rw [Zaa]; simp +decide only [go_sem, Nat.reduceAdd, hf3, hf5, List.append_eq, List.cons_append, List.nil_append]
   (repeat' apply And.intro) <;> first | refine Zad _ (ih _ _ _ a0.2.2.2.1 a1.2.2.2.1 _ hy4) (by first | rfl | (simp +decide only [go_sem, Nat.reduceAdd, hf3, hf5, List.append_eq, List.cons_append, List.nil_append]; done) | (simp +decide only [go_sem, Nat.reduceAdd, Vl.cs, Ty.cs, hf3, hf5, List.append_eq, List.cons_append, List.nil_append]; done)) ?_ | exact cl
   rw [Zaa]; simp +decide only [go_sem, Nat.reduceAdd, hf3, hf5, List.append_eq, List.cons_append, List.nil_append]
   (repeat' apply And.intro) <;> first | refine ZaB ?_ | exact cl
   rw [Zaa]; simp +decide only [go_sem, Nat.reduceAdd, hf3, hf5, List.append_eq, List.cons_append, List.nil_append]
   (repeat' apply And.intro) <;> first | refine hK2 _ _ ?_ | exact cl
   clear hK2
   have hs := And.intro hf3 hs
   have hs := And.intro hf5 hs
   exact rt h hs hcalm hO
 ·
  replace h := ZaD h hf3
  apply Zab 3 [4]
  rw [Zaa]; simp +decide only [go_sem, Nat.reduceAdd, hf3, List.append_eq, List.cons_append, List.nil_append]
  (repeat' apply And.intro) <;> first | refine ZaB ?_ | exact cl
  rw [Zaa]; simp +decide only [go_sem, Nat.reduceAdd, hf3, List.append_eq, List.cons_append, List.nil_append]
  (repeat' apply And.intro) <;> first | refine ZaB ?_ | exact cl
  rw [Zaa]; simp +decide only [go_sem, Nat.reduceAdd, hf3, List.append_eq, List.cons_append, List.nil_append]
  (repeat' apply And.intro) <;> first | refine hK2 _ _ ?_ | exact cl
  clear hK2
  have hs := And.intro hf3 hs
  exact rt h hs hcalm hO
def Zc9 (n : Nat)  : Option Bool :=
 some (true)
def ZbE (n : Nat) (a0 : List Ty) (a1 : List Ty) (a2 : Ty → Ty → Option Bool) : Nat → Int → Option Bool
 | 0, _ => none
 | m + 1, x17_l10 =>
  if decide (x17_l10 < ((a0.length : Int))) then
   (idx a0 x17_l10).bind fun x16 =>
   (idx a1 x17_l10).bind fun x18 =>
   (a2 x16 x18).bind fun y20 =>
   if !y20 then
    some (false)
   else
    if I64 (x17_l10 + 1) then
     (ZbE n a0 a1 a2 m) (x17_l10 + 1)
    else none
  else
   Zc9 n 
def Zdm (n : Nat) (a0 : List Ty) (a1 : List Ty) (a2 : Ty → Ty → Option Bool) : Option Bool :=
 if !(decide (((a0.length : Int)) = ((a1.length : Int)))) then
  some (false)
 else
  ZbE n a0 a1 a2 n 0
theorem Zes (w0 : World) (n : Nat) (B : List (List AV)) (Rw : List RowA) (L : List LoopA) (a0 : List Ty) (a1 : List Ty) (fa2 : FuncId) (ca2 : List AV) (a2 : Ty → Ty → Option Bool) (ha2 : ∀ (x0 : Ty) (x1 : Ty) r, a2 x0 x1 = some r → ∀ B' rows, B <+: B' → Rw <+: rows → ACalls Tryz.prog w0 fa2 ([.agg (x0.cs), .agg (x1.cs)] ++ ca2) ⟨B', rows, L⟩ fun v s => v = .val (.bool r) ∧ s = ⟨B', rows, L⟩) (r : Bool) (h : Zdm n a0 a1 a2 = some r) :
  ACalls Tryz.prog w0 205 [.list (a0.map avT) .none, .list (a1.map avT) .none, .clo fa2 ca2] ⟨B, Rw, L⟩ fun x st => x = .val (.bool r) ∧ st = ⟨B, Rw, L⟩ := by
 rw [Zdm] at h
 refine hd [.tmp 6] Tryz.func205 Tryz.ntmps205 fun M0 W0 hN hNR hNL hcalm hu hO hs => ?_
 simp only [Zal]
 have hU_a2 := Za0 (hu (.clo fa2 ca2) (by simp))
 refine rg [0, 1, 2] hs ?_
 apply Zac; intro K2 hK2
 refine rg [0, 1, 2, 14] hs ?_
 refine cnd h hs (fun hs h => ?_) (fun hs h => ?_)
 ·
  refine rg [6] hs ?_
  exact rt h hs hcalm hO
 refine sk [0, 1, 2] hs hK2 ?_
 clear hK2
 refine Zak (fun e st => Ck e st B Rw L [] [] [] (Zc9 n  = some r)) ?_ ?_
 ·
  intro K8 hK8
  refine rg [1, 2, 15, 16, 17] hs ?_
  apply Zaf
  refine Zap (fun m e st => ∃ (x17_l10 : Int), Ck e st B Rw L [(1, true, .list (a1.map avT) .none), (2, true, .clo fa2 ca2), (15, true, .list (a0.map avT) .none), (16, true, .val (.int .i64 ((a0.length : Int)))), (17, true, .val (.int .i64 x17_l10))] [] [] (ZbE n a0 a1 a2 m x17_l10 = some r)) n ⟨0, ([]), Rw, ef hs, ef hs, hO, h⟩ ?_
  rintro ml10 e st ⟨x17_l10, Xl10, Rl10, rfl, rfl, hO, h⟩ Ul10 Vl10
  cases ml10 with
  | zero => cases h
  | succ ml10 =>
  rw [ZbE] at h
  refine Zas hN hNR hNL rfl hcalm hO (by (simp +decide only [go_sem, Nat.reduceAdd]) <;> (try (repeat' apply And.intro)) <;> first | omega | assumption | exact hU_a2 _ _ _ (by omega) (by have := hO.len; omega) (by omega)) (by (simp +decide only [go_sem, Nat.reduceAdd, Za2]) <;> (try (repeat' apply And.intro)) <;> first | omega | assumption | exact hU_a2 _ _ _ (by omega) (by have := hO.len; omega) (by omega)) ?_
  refine rg [1, 2, 15, 16, 17, 18] hs ?_
  apply Zac; intro K12 hK12
  refine cnd h hs (fun hs h => ?_) (fun hs h => ?_)
  rotate_left
  ·
   refine sx [] hs hK8 ?_
   exact ⟨([]), Rl10, ef hs, ef hs, hO, h⟩
  refine sk [1, 2, 15, 16, 17] hs hK12 ?_
  clear hK12
  apply Zac; intro K14 hK14
  apply Zaf
  obtain ⟨x16, hx16, h⟩ := bind_some h
  obtain ⟨hx16a, hx16b, hx16c⟩ := Zam hx16
  have hx16d := Zao (f := avT) hx16c
  have hs := And.intro hx16d hs
  refine rg [1, 2, 7, 8, 15, 16, 17] hs ?_
  obtain ⟨x18, hx18, h⟩ := bind_some h
  obtain ⟨hx18a, hx18b, hx18c⟩ := Zam hx18
  have hx18d := Zao (f := avT) hx18c
  have hs := And.intro hx18d hs
  refine rg [1, 2, 8, 9, 15, 16, 17] hs ?_
  obtain ⟨y20, hy20, h⟩ := bind_some h
  refine rc 2 [1, 2, 15, 16, 17, 30] hs ?_; intro K19 hK19
  refine Zdl _ (ha2 x16 x18 _ hy20 _ _ (by first | exact List.prefix_append _ _ | exact List.prefix_refl _) hO.pre) (hv hs) ?_
  refine ne hs hK19 ?_
  clear hK19
  refine cnd h hs (fun hs h => ?_) (fun hs h => ?_)
  ·
   refine rg [6] hs ?_
   exact rt h hs hcalm hO
  refine sk [1, 2, 15, 16, 17] hs hK14 ?_
  clear hK14
  obtain ⟨hg23, h⟩ := Zae h
  refine rl [1, 2, 15, 16, 17] hs (fun e s => Vl10 ml10 e s (Nat.lt_succ_self _)) ?_
  exact ⟨(x17_l10 + 1), ([x16.cs, x18.cs]), Rl10, ef hs, ef hs, hO, h⟩
 ·
  clear h; rintro e st ⟨Xk7, Rk7, rfl, rfl, hO, h⟩
  rw [Zc9] at h
  refine Zas hN hNR hNL rfl hcalm hO (by (simp +decide only [go_sem, Nat.reduceAdd]) <;> (try (repeat' apply And.intro)) <;> first | omega | assumption | exact hU_a2 _ _ _ (by omega) (by have := hO.len; omega) (by omega)) (by (simp +decide only [go_sem, Nat.reduceAdd, Za2]) <;> (try (repeat' apply And.intro)) <;> first | omega | assumption | exact hU_a2 _ _ _ (by omega) (by have := hO.len; omega) (by omega)) ?_
  refine rg [6] hs ?_
  exact rt h hs hcalm hO
def ZbR (n : Nat)  : Option Bool :=
 some (true)
def Zbb (n : Nat) (a0 : List (Int × ByteArray × Int × Ty × List Vl)) (a1 : List (Int × ByteArray × Int × Ty × List Vl)) (a2 : (Int × ByteArray × Int × Ty × List Vl) → (Int × ByteArray × Int × Ty × List Vl) → Option Bool) : Nat → Int → Option Bool
 | 0, _ => none
 | m + 1, x17_l10 =>
  if decide (x17_l10 < ((a0.length : Int))) then
   (idx a0 x17_l10).bind fun x16 =>
   (idx a1 x17_l10).bind fun x18 =>
   (a2 x16 x18).bind fun y20 =>
   if !y20 then
    some (false)
   else
    if I64 (x17_l10 + 1) then
     (Zbb n a0 a1 a2 m) (x17_l10 + 1)
    else none
  else
   ZbR n 
def Zb1 (n : Nat) (a0 : List (Int × ByteArray × Int × Ty × List Vl)) (a1 : List (Int × ByteArray × Int × Ty × List Vl)) (a2 : (Int × ByteArray × Int × Ty × List Vl) → (Int × ByteArray × Int × Ty × List Vl) → Option Bool) : Option Bool :=
 if !(decide (((a0.length : Int)) = ((a1.length : Int)))) then
  some (false)
 else
  Zbb n a0 a1 a2 n 0
theorem Zfi (w0 : World) (n : Nat) (B : List (List AV)) (Rw : List RowA) (L : List LoopA) (a0 : List (Int × ByteArray × Int × Ty × List Vl)) (a1 : List (Int × ByteArray × Int × Ty × List Vl)) (fa2 : FuncId) (ca2 : List AV) (a2 : (Int × ByteArray × Int × Ty × List Vl) → (Int × ByteArray × Int × Ty × List Vl) → Option Bool) (ha2 : ∀ (x0 : Int × ByteArray × Int × Ty × List Vl) (x1 : Int × ByteArray × Int × Ty × List Vl) r, a2 x0 x1 = some r → ∀ B' rows, B <+: B' → Rw <+: rows → ACalls Tryz.prog w0 fa2 ([.agg (.val (.int .i64 x0.1) :: (.val (.string x0.2.1) :: (.val (.int .i64 x0.2.2.1) :: ((x0.2.2.2.1.cs) ++ ([.list (x0.2.2.2.2.map avV) .none]))))), .agg (.val (.int .i64 x1.1) :: (.val (.string x1.2.1) :: (.val (.int .i64 x1.2.2.1) :: ((x1.2.2.2.1.cs) ++ ([.list (x1.2.2.2.2.map avV) .none])))))] ++ ca2) ⟨B', rows, L⟩ fun v s => v = .val (.bool r) ∧ s = ⟨B', rows, L⟩) (r : Bool) (h : Zb1 n a0 a1 a2 = some r) :
  ACalls Tryz.prog w0 206 [.list (a0.map Zdz) .none, .list (a1.map Zdz) .none, .clo fa2 ca2] ⟨B, Rw, L⟩ fun x st => x = .val (.bool r) ∧ st = ⟨B, Rw, L⟩ := by
 rw [Zb1] at h
 refine hd [.tmp 6] Tryz.func206 Tryz.ntmps206 fun M0 W0 hN hNR hNL hcalm hu hO hs => ?_
 simp only [Zal]
 have hU_a2 := Za0 (hu (.clo fa2 ca2) (by simp))
 refine rg [0, 1, 2] hs ?_
 apply Zac; intro K2 hK2
 refine rg [0, 1, 2, 14] hs ?_
 refine cnd h hs (fun hs h => ?_) (fun hs h => ?_)
 ·
  refine rg [6] hs ?_
  exact rt h hs hcalm hO
 refine sk [0, 1, 2] hs hK2 ?_
 clear hK2
 refine Zak (fun e st => Ck e st B Rw L [] [] [] (ZbR n  = some r)) ?_ ?_
 ·
  intro K8 hK8
  refine rg [1, 2, 15, 16, 17] hs ?_
  apply Zaf
  refine Zap (fun m e st => ∃ (x17_l10 : Int), Ck e st B Rw L [(1, true, .list (a1.map Zdz) .none), (2, true, .clo fa2 ca2), (15, true, .list (a0.map Zdz) .none), (16, true, .val (.int .i64 ((a0.length : Int)))), (17, true, .val (.int .i64 x17_l10))] [] [] (Zbb n a0 a1 a2 m x17_l10 = some r)) n ⟨0, ([]), Rw, ef hs, ef hs, hO, h⟩ ?_
  rintro ml10 e st ⟨x17_l10, Xl10, Rl10, rfl, rfl, hO, h⟩ Ul10 Vl10
  cases ml10 with
  | zero => cases h
  | succ ml10 =>
  rw [Zbb] at h
  refine Zas hN hNR hNL rfl hcalm hO (by (simp +decide only [go_sem, Nat.reduceAdd]) <;> (try (repeat' apply And.intro)) <;> first | omega | assumption | exact hU_a2 _ _ _ (by omega) (by have := hO.len; omega) (by omega)) (by (simp +decide only [go_sem, Nat.reduceAdd, Za2]) <;> (try (repeat' apply And.intro)) <;> first | omega | assumption | exact hU_a2 _ _ _ (by omega) (by have := hO.len; omega) (by omega)) ?_
  refine rg [1, 2, 15, 16, 17, 18] hs ?_
  apply Zac; intro K12 hK12
  refine cnd h hs (fun hs h => ?_) (fun hs h => ?_)
  rotate_left
  ·
   refine sx [] hs hK8 ?_
   exact ⟨([]), Rl10, ef hs, ef hs, hO, h⟩
  refine sk [1, 2, 15, 16, 17] hs hK12 ?_
  clear hK12
  apply Zac; intro K14 hK14
  apply Zaf
  obtain ⟨x16, hx16, h⟩ := bind_some h
  obtain ⟨hx16a, hx16b, hx16c⟩ := Zam hx16
  have hx16d := Zao (f := Zdz) hx16c
  have hs := And.intro hx16d hs
  refine rg [1, 2, 7, 8, 15, 16, 17] hs ?_
  obtain ⟨x18, hx18, h⟩ := bind_some h
  obtain ⟨hx18a, hx18b, hx18c⟩ := Zam hx18
  have hx18d := Zao (f := Zdz) hx18c
  have hs := And.intro hx18d hs
  refine rg [1, 2, 8, 9, 15, 16, 17] hs ?_
  obtain ⟨y20, hy20, h⟩ := bind_some h
  refine rc 2 [1, 2, 15, 16, 17, 30] hs ?_; intro K19 hK19
  refine Zdl _ (ha2 x16 x18 _ hy20 _ _ (by first | exact List.prefix_append _ _ | exact List.prefix_refl _) hO.pre) (hv hs) ?_
  refine ne hs hK19 ?_
  clear hK19
  refine cnd h hs (fun hs h => ?_) (fun hs h => ?_)
  ·
   refine rg [6] hs ?_
   exact rt h hs hcalm hO
  refine sk [1, 2, 15, 16, 17] hs hK14 ?_
  clear hK14
  obtain ⟨hg23, h⟩ := Zae h
  refine rl [1, 2, 15, 16, 17] hs (fun e s => Vl10 ml10 e s (Nat.lt_succ_self _)) ?_
  exact ⟨(x17_l10 + 1), ([.val (.int .i64 x16.1) :: (.val (.string x16.2.1) :: (.val (.int .i64 x16.2.2.1) :: ((x16.2.2.2.1.cs) ++ ([.list (x16.2.2.2.2.map avV) .none])))), .val (.int .i64 x18.1) :: (.val (.string x18.2.1) :: (.val (.int .i64 x18.2.2.1) :: ((x18.2.2.2.1.cs) ++ ([.list (x18.2.2.2.2.map avV) .none]))))]), Rl10, ef hs, ef hs, hO, h⟩
 ·
  clear h; rintro e st ⟨Xk7, Rk7, rfl, rfl, hO, h⟩
  rw [ZbR] at h
  refine Zas hN hNR hNL rfl hcalm hO (by (simp +decide only [go_sem, Nat.reduceAdd]) <;> (try (repeat' apply And.intro)) <;> first | omega | assumption | exact hU_a2 _ _ _ (by omega) (by have := hO.len; omega) (by omega)) (by (simp +decide only [go_sem, Nat.reduceAdd, Za2]) <;> (try (repeat' apply And.intro)) <;> first | omega | assumption | exact hU_a2 _ _ _ (by omega) (by have := hO.len; omega) (by omega)) ?_
  refine rg [6] hs ?_
  exact rt h hs hcalm hO
def Zdx (n : Nat)  : Option Bool :=
 some (true)
def Zb9 (n : Nat) (a0 : List ByteArray) (a1 : List ByteArray) : Nat → Int → Option Bool
 | 0, _ => none
 | m + 1, x13_l10 =>
  if decide (x13_l10 < ((a0.length : Int))) then
   (idx a0 x13_l10).bind fun x17 =>
   (idx a1 x13_l10).bind fun x18 =>
   if !(sEq x17 x18) then
    some (false)
   else
    if I64 (x13_l10 + 1) then
     (Zb9 n a0 a1 m) (x13_l10 + 1)
    else none
  else
   Zdx n 
def ZdR (n : Nat) (a0 : List ByteArray) (a1 : List ByteArray) : Option Bool :=
 if !(decide (((a0.length : Int)) = ((a1.length : Int)))) then
  some (false)
 else
  Zb9 n a0 a1 n 0
theorem Zdt (w0 : World) (n : Nat) (B : List (List AV)) (Rw : List RowA) (L : List LoopA) (a0 : List ByteArray) (a1 : List ByteArray) (r : Bool) (h : ZdR n a0 a1 = some r) :
  ACalls Tryz.prog w0 204 [.list (a0.map avS) .none, .list (a1.map avS) .none] ⟨B, Rw, L⟩ fun x st => x = .val (.bool r) ∧ st = ⟨B, Rw, L⟩ := by
 rw [ZdR] at h
 refine hd [.tmp 4] Tryz.func204 Tryz.ntmps204 fun M0 W0 hN hNR hNL hcalm hu hO hs => ?_
 simp only [Zal]
 refine rg [0, 1] hs ?_
 apply Zac; intro K2 hK2
 refine rg [0, 1, 10] hs ?_
 refine cnd h hs (fun hs h => ?_) (fun hs h => ?_)
 ·
  refine rg [4] hs ?_
  exact rt h hs hcalm hO
 refine sk [0, 1] hs hK2 ?_
 clear hK2
 refine Zak (fun e st => Ck e st B Rw L [] [] [] (Zdx n  = some r)) ?_ ?_
 ·
  intro K8 hK8
  refine rg [0, 1, 12, 13] hs ?_
  apply Zaf
  refine Zap (fun m e st => ∃ (x13_l10 : Int), Ck e st B Rw L [(0, true, .list (a0.map avS) .none), (1, true, .list (a1.map avS) .none), (12, true, .val (.int .i64 ((a0.length : Int)))), (13, true, .val (.int .i64 x13_l10))] [] [] (Zb9 n a0 a1 m x13_l10 = some r)) n ⟨0, ([]), Rw, ef hs, ef hs, hO, h⟩ ?_
  rintro ml10 e st ⟨x13_l10, Xl10, Rl10, rfl, rfl, hO, h⟩ Ul10 Vl10
  cases ml10 with
  | zero => cases h
  | succ ml10 =>
  rw [Zb9] at h
  refine td hN hNR hNL hcalm hO ?_
  refine rg [0, 1, 12, 13, 14] hs ?_
  apply Zac; intro K12 hK12
  refine cnd h hs (fun hs h => ?_) (fun hs h => ?_)
  rotate_left
  ·
   refine sx [] hs hK8 ?_
   exact ⟨([]), Rl10, ef hs, ef hs, hO, h⟩
  refine sk [0, 1, 12, 13] hs hK12 ?_
  clear hK12
  apply Zac; intro K14 hK14
  apply Zaf
  refine rg [0, 1, 5, 12, 13] hs ?_
  obtain ⟨x17, hx17, h⟩ := bind_some h
  obtain ⟨hx17a, hx17b, hx17c⟩ := Zam hx17
  have hx17d := Zao (f := avS) hx17c
  obtain ⟨x18, hx18, h⟩ := bind_some h
  obtain ⟨hx18a, hx18b, hx18c⟩ := Zam hx18
  have hx18d := Zao (f := avS) hx18c
  have hs := And.intro hx17d hs
  have hs := And.intro hx18d hs
  refine dg 9 1 1 [0, 1, 12, 13, 24] hs mix ?_
  refine cnd h hs (fun hs h => ?_) (fun hs h => ?_)
  ·
   refine rg [4] hs ?_
   exact rt h hs hcalm hO
  refine sk [0, 1, 12, 13] hs hK14 ?_
  clear hK14
  obtain ⟨hg21, h⟩ := Zae h
  refine rl [0, 1, 12, 13] hs (fun e s => Vl10 ml10 e s (Nat.lt_succ_self _)) ?_
  exact ⟨(x13_l10 + 1), ([]), Rl10, ef hs, ef hs, hO, h⟩
 ·
  clear h; rintro e st ⟨Xk7, Rk7, rfl, rfl, hO, h⟩
  rw [Zdx] at h
  refine td hN hNR hNL hcalm hO ?_
  refine rg [4] hs ?_
  exact rt h hs hcalm hO
def Zi8 (rec : Ty → Ty → Option Bool) (n : Nat) (a0 : Ty) (a1 : Ty) : Option Bool :=
 if (((decide (a0.kind = a1.kind)) && (decide (a0.min = a1.min))) && (decide (a0.max = a1.max))) && (decide (a0.scale = a1.scale)) then
  (ZdR n a0.words a1.words).bind fun y4 =>
  if y4 then
   (Zdm n a0.elem a1.elem (fun (x0 : Ty) (x1 : Ty) => rec x0 x1)).bind fun y6 =>
   if y6 then
    (Zb1 n a0.fields a1.fields (fun (x0 : Int × ByteArray × Int × Ty × List Vl) (x1 : Int × ByteArray × Int × Ty × List Vl) => Zf0 rec n x0 x1)).bind fun y8 =>
    some (y8)
   else
    some (false)
  else
   some (false)
 else
  some (false)
def ZhJ : Nat → Ty → Ty → Option Bool
 | 0, _, _ => none
 | n + 1, a0, a1 => Zi8 (ZhJ n) n a0 a1
def ZjI (w0 : World) (F : Ty → Ty → Option Bool) : Prop := ∀ (B : List (List AV)) (Rw : List RowA) (L : List LoopA) (a0 : Ty) (a1 : Ty) (r : Bool), F a0 a1 = some r → ACalls Tryz.prog w0 163 [.agg (a0.cs), .agg (a1.cs)] ⟨B, Rw, L⟩ fun x st => x = .val (.bool r) ∧ st = ⟨B, Rw, L⟩
theorem Zlp (w0 : World) (rec : Ty → Ty → Option Bool) (ih : ZjI w0 rec) (n : Nat) : ZjI w0 (Zi8 rec n) := by
 intro B Rw L a0 a1 r h
 rw [Zi8] at h
 refine hd [.tmp 4] Tryz.func163 Tryz.ntmps163 fun M0 W0 hN hNR hNL hcalm hu hO hs => ?_
 simp only [Zal]
 refine rg [2, 3] hs ?_
 apply Zac; intro K2 hK2
 rcases Bool.eq_false_or_eq_true ((((decide (a0.kind = a1.kind)) && (decide (a0.min = a1.min))) && (decide (a0.max = a1.max))) && (decide (a0.scale = a1.scale))) with hf3 | hf3
 ·
  replace h := ZaC h hf3
  obtain ⟨y4, hy4, h⟩ := bind_some h
  rcases Bool.eq_false_or_eq_true (y4) with hf5 | hf5
  ·
   replace h := ZaC h hf5
   obtain ⟨y6, hy6, h⟩ := bind_some h
   rcases Bool.eq_false_or_eq_true (y6) with hf7 | hf7
   ·
    replace h := ZaC h hf7
    obtain ⟨y8, hy8, h⟩ := bind_some h
    apply Zab 4 [4]
    rw [Zaa]; simp +decide only [go_sem, Nat.reduceAdd, hf3, hf5, hf7, List.append_eq, List.cons_append, List.nil_append]
    (repeat' apply And.intro) <;> first | refine Zad _ (Zdt w0 n _ _ _ a0.words a1.words _ hy4) (by first | rfl | (simp +decide only [go_sem, Nat.reduceAdd, hf3, hf5, hf7, List.append_eq, List.cons_append, List.nil_append]; done) | (simp +decide only [go_sem, Nat.reduceAdd, Vl.cs, Ty.cs, hf3, hf5, hf7, List.append_eq, List.cons_append, List.nil_append]; done)) ?_ | exact cl
    rw [Zaa]; simp +decide only [go_sem, Nat.reduceAdd, hf3, hf5, hf7, List.append_eq, List.cons_append, List.nil_append]
    (repeat' apply And.intro) <;> first | refine Zad _ (Zes w0 n _ _ _ a0.elem a1.elem 163 [] (fun (x0 : Ty) (x1 : Ty) => rec x0 x1) (fun x0 x1 r hx B' rows' hB' hR' => by exact ih _ _ _ x0 x1 _ hx) _ hy6) (by first | rfl | (simp +decide only [go_sem, Nat.reduceAdd, hf3, hf5, hf7, List.append_eq, List.cons_append, List.nil_append]; done) | (simp +decide only [go_sem, Nat.reduceAdd, Vl.cs, Ty.cs, hf3, hf5, hf7, List.append_eq, List.cons_append, List.nil_append]; done)) ?_ | exact cl
    rw [Zaa]; simp +decide only [go_sem, Nat.reduceAdd, hf3, hf5, hf7, List.append_eq, List.cons_append, List.nil_append]
    (repeat' apply And.intro) <;> first | refine Zad _ (Zfi w0 n _ _ _ a0.fields a1.fields 207 [] (fun (x0 : Int × ByteArray × Int × Ty × List Vl) (x1 : Int × ByteArray × Int × Ty × List Vl) => Zf0 rec n x0 x1) (fun x0 x1 r hx B' rows' hB' hR' => by exact Zl1 w0 rec ih n _ _ _ x0 x1 _ hx) _ hy8) (by first | rfl | (simp +decide only [go_sem, Nat.reduceAdd, hf3, hf5, hf7, List.append_eq, List.cons_append, List.nil_append]; done) | (simp +decide only [go_sem, Nat.reduceAdd, Vl.cs, Ty.cs, hf3, hf5, hf7, List.append_eq, List.cons_append, List.nil_append]; done)) ?_ | exact cl
    rw [Zaa]; simp +decide only [go_sem, Nat.reduceAdd, hf3, hf5, hf7, List.append_eq, List.cons_append, List.nil_append]
    (repeat' apply And.intro) <;> first | refine hK2 _ _ ?_ | exact cl
    clear hK2
    have hs := And.intro hf3 hs
    have hs := And.intro hf5 hs
    have hs := And.intro hf7 hs
    exact rt h hs hcalm hO
   ·
    replace h := ZaD h hf7
    apply Zab 4 [4]
    rw [Zaa]; simp +decide only [go_sem, Nat.reduceAdd, hf3, hf5, hf7, List.append_eq, List.cons_append, List.nil_append]
    (repeat' apply And.intro) <;> first | refine Zad _ (Zdt w0 n _ _ _ a0.words a1.words _ hy4) (by first | rfl | (simp +decide only [go_sem, Nat.reduceAdd, hf3, hf5, hf7, List.append_eq, List.cons_append, List.nil_append]; done) | (simp +decide only [go_sem, Nat.reduceAdd, Vl.cs, Ty.cs, hf3, hf5, hf7, List.append_eq, List.cons_append, List.nil_append]; done)) ?_ | exact cl
    rw [Zaa]; simp +decide only [go_sem, Nat.reduceAdd, hf3, hf5, hf7, List.append_eq, List.cons_append, List.nil_append]
    (repeat' apply And.intro) <;> first | refine Zad _ (Zes w0 n _ _ _ a0.elem a1.elem 163 [] (fun (x0 : Ty) (x1 : Ty) => rec x0 x1) (fun x0 x1 r hx B' rows' hB' hR' => by exact ih _ _ _ x0 x1 _ hx) _ hy6) (by first | rfl | (simp +decide only [go_sem, Nat.reduceAdd, hf3, hf5, hf7, List.append_eq, List.cons_append, List.nil_append]; done) | (simp +decide only [go_sem, Nat.reduceAdd, Vl.cs, Ty.cs, hf3, hf5, hf7, List.append_eq, List.cons_append, List.nil_append]; done)) ?_ | exact cl
    rw [Zaa]; simp +decide only [go_sem, Nat.reduceAdd, hf3, hf5, hf7, List.append_eq, List.cons_append, List.nil_append]
    (repeat' apply And.intro) <;> first | refine ZaB ?_ | exact cl
    rw [Zaa]; simp +decide only [go_sem, Nat.reduceAdd, hf3, hf5, hf7, List.append_eq, List.cons_append, List.nil_append]
    (repeat' apply And.intro) <;> first | refine hK2 _ _ ?_ | exact cl
    clear hK2
    have hs := And.intro hf3 hs
    have hs := And.intro hf5 hs
    have hs := And.intro hf7 hs
    exact rt h hs hcalm hO
  ·
   replace h := ZaD h hf5
   apply Zab 4 [4]
   rw [Zaa]; simp +decide only [go_sem, Nat.reduceAdd, hf3, hf5, List.append_eq, List.cons_append, List.nil_append]
   (repeat' apply And.intro) <;> first | refine Zad _ (Zdt w0 n _ _ _ a0.words a1.words _ hy4) (by first | rfl | (simp +decide only [go_sem, Nat.reduceAdd, hf3, hf5, List.append_eq, List.cons_append, List.nil_append]; done) | (simp +decide only [go_sem, Nat.reduceAdd, Vl.cs, Ty.cs, hf3, hf5, List.append_eq, List.cons_append, List.nil_append]; done)) ?_ | exact cl
   rw [Zaa]; simp +decide only [go_sem, Nat.reduceAdd, hf3, hf5, List.append_eq, List.cons_append, List.nil_append]
   (repeat' apply And.intro) <;> first | refine ZaB ?_ | exact cl
   rw [Zaa]; simp +decide only [go_sem, Nat.reduceAdd, hf3, hf5, List.append_eq, List.cons_append, List.nil_append]
   (repeat' apply And.intro) <;> first | refine ZaB ?_ | exact cl
   rw [Zaa]; simp +decide only [go_sem, Nat.reduceAdd, hf3, hf5, List.append_eq, List.cons_append, List.nil_append]
   (repeat' apply And.intro) <;> first | refine hK2 _ _ ?_ | exact cl
   clear hK2
   have hs := And.intro hf3 hs
   have hs := And.intro hf5 hs
   exact rt h hs hcalm hO
 ·
  replace h := ZaD h hf3
  apply Zab 4 [4]
  rw [Zaa]; simp +decide only [go_sem, Nat.reduceAdd, hf3, List.append_eq, List.cons_append, List.nil_append]
  (repeat' apply And.intro) <;> first | refine ZaB ?_ | exact cl
  rw [Zaa]; simp +decide only [go_sem, Nat.reduceAdd, hf3, List.append_eq, List.cons_append, List.nil_append]
  (repeat' apply And.intro) <;> first | refine ZaB ?_ | exact cl
  rw [Zaa]; simp +decide only [go_sem, Nat.reduceAdd, hf3, List.append_eq, List.cons_append, List.nil_append]
  (repeat' apply And.intro) <;> first | refine ZaB ?_ | exact cl
  rw [Zaa]; simp +decide only [go_sem, Nat.reduceAdd, hf3, List.append_eq, List.cons_append, List.nil_append]
  (repeat' apply And.intro) <;> first | refine hK2 _ _ ?_ | exact cl
  clear hK2
  have hs := And.intro hf3 hs
  exact rt h hs hcalm hO
theorem Zkh (w0 : World) : ∀ n : Nat, ZjI w0 (ZhJ n)
 | 0 => fun _ _ _ _ _ _ h => (nomatch h)
 | n + 1 => Zlp w0 (ZhJ n) (Zkh w0 n) n
end Go.Proofs.YtgpmlelfkjfbiaaGreatDoor
