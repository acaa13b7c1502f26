/-
  Part 13 of the proof: rules and walks that the claim's last text uses.
-/
import Derived.Test.YtbfenpeblbonlaaGreatDoorCb1
import Derived.Test.YtbfenpeblbonlaaGreatDoorCb2
import Derived.Test.YtbfenpeblbonlaaGreatDoorCb3
import Derived.Test.YtbfenpeblbonlaaGreatDoorCb4
import Derived.Test.YtbfenpeblbonlaaGreatDoorCb5
import Derived.Test.YtbfenpeblbonlaaGreatDoorCb6
import Derived.Test.YtbfenpeblbonlaaGreatDoorCb7
import Derived.Test.YtbfenpeblbonlaaGreatDoorCb8
import Derived.Test.YtbfenpeblbonlaaGreatDoorCb9
import Derived.Test.YtbfenpeblbonlaaGreatDoorCa1
set_option linter.unusedSimpArgs false
set_option linter.unusedVariables false
set_option maxRecDepth 100000
set_option maxHeartbeats 4000000
namespace Go.Proofs.YtbfenpeblbonlaaGreatDoor
open Go Go.RowKit Go.Ev
theorem Py (n : Nat) (again : Stt → List Fte → List Msg → Option Otc) (nd : Nod) (s : CS) (hl : s.es.length ≤ 900) (inp : Inp) (now : Int) (ht : inp.time = now) (x8 : Int) (f : List Fte) (g : List Msg) (q : Nat) (hq : q ≤ s.es.length) : ∀ (k m i : Nat), i + k = q →
    (∀ j (hj : j < s.es.length), i ≤ j → j < q → Hn now s.es[j] = false ∨ ∃ z : Nat, x8 = (z : Int) ∧ ∃ hz : z < s.es.length, s.es[z].t ≤ s.es[j].t) →
    Br n again nd inp (Aw s) (m + k) x8 (i : Int) f g = Br n again nd inp (Aw s) m x8 (q : Int) f g
  | 0, m, i, hi, _ => by obtain rfl : i = q := by omega
                         rfl
  | k + 1, m, i, hi, h => by
    have hlt : i < s.es.length := by omega
    have hln : (Aw s).slots.length = s.es.length := by simp [Aw]
    have hlt2 : i < (Aw s).slots.length := by omega
    have hx : (Aw s).slots[i] = BS s.es[i] := by simp [Aw]
    have ih := Py n again nd s hl inp now ht x8 f g q hq k m (i + 1) (by omega) fun j hj h1 h2 => h j hj (by omega) h2
    have hd : (decide (0 < (BS s.es[i]).time) && decide ((BS s.es[i]).time ≤ inp.time)) = Hn now s.es[i] := by rw [ht]; rfl
    rw [← Nat.add_assoc, Br, hln, A4, Ag hlt, Ah rfl, Bj hlt2, Ae, hx, hd]
    have e30 : EH n (Br n again nd inp (Aw s) (m + k)) (i : Int) x8 f g = Br n again nd inp (Aw s) m x8 (q : Int) f g := by
      rw [EH, Ah (A8 (by omega))]
      exact ih
    rcases h i hlt (Nat.le_refl _) (by omega) with h0 | ⟨z, rfl, hz, hle⟩
    · rw [h0, Ai (by decide), e30]
    · cases hdu : Hn now s.es[i] with
      | false => rw [Ai (by decide), e30]
      | true =>
        have hz2 : z < (Aw s).slots.length := by omega
        have hxz : (Aw s).slots[z] = BS s.es[z] := by simp [Aw]
        have hnl : ¬ (BS s.es[i]).time < (BS s.es[z]).time := by show ¬ s.es[i].t < s.es[z].t; omega
        rw [Ah rfl, Af (show ¬ (z : Int) < 0 by omega), Ai (by decide), Bj hz2, Ae, hxz, Af hnl, Ai (by decide), e30]
theorem XQ (n:Nat) (again:Stt->List Fte->List Msg->Option Otc) (nd:Nod) (s:CS) (inp:Inp) (x8:Int) (f:List Fte) (g:List Msg) (m:Nat) :
  Br n again nd inp (Aw s) (m+1) x8 (s.es.length:Int) f g=Hw n again nd (Aw s) x8 f g:=by
 have a:(Aw s).slots.length=s.es.length:=by simp [Aw]
 rw [Br,a,Af (Int.lt_irrefl _)]
 rfl
theorem ZdU (n:Nat) (again:Stt->List Fte->List Msg->Option Otc) (nd:Nod) (s:CS) (hl:s.es.length<=900) (inp:Inp) (now:Int) (ht:inp.time=now) (f:List Fte) (g:List Msg) (q:Nat) (hq:q<s.es.length) (hd:Hn now s.es[q]=true) (m:Nat) :
  Br n again nd inp (Aw s) (m+1) (-1) (q:Int) f g=Br n again nd inp (Aw s) m (q:Int) ((q+1:Nat):Int) f g:=by
 have b:(Aw s).slots.length=s.es.length:=by simp [Aw]
 have a:q<(Aw s).slots.length:=by omega
 have c:(Aw s).slots[q]=BS s.es[q]:=by simp [Aw]
 have hd:(decide (0<(BS s.es[q]).time)&&decide ((BS s.es[q]).time<=inp.time))=true:=by rw [ht];exact hd
 rw [Br,b,A4,Ag hq,Ah rfl,Bj a,Ae,c,hd,Ah rfl,Ag (show (-1:Int)<0 by decide),Ah rfl,EH,Ah (A8 (by omega))]
 rfl
theorem Zda (n:Nat) (again:Stt->List Fte->List Msg->Option Otc) (nd:Nod) (hnd:nd.name=MN) (e:CE) (y:Stt) (m:Nat) (l:List (CM × CR)) (hl:l.length<=900) :
  GG n again nd (BS e) y (m+2) 0 (l.map HU) (l.map fun r=>B5 r.1)=again y ((l++[(e.m,CR.timeout)]).map HU) ((l++[(e.m,CR.timeout)]).map fun r=>B5 r.1):=by
 have a:GE n y (l.map HU) (l.map fun r=>B5 r.1) nd (B5 e.m) (⟨#[116,105,109,101,111,117,116]⟩:ByteArray)=_:=Yk n y nd hnd l (by omega) e.m .timeout
 have b:Dw (BS e).items 0=some (B5 e.m):=rfl
 rw [GG,Ag (show (0:Int)<((BS e).items.length:Int) from Int.zero_lt_one),Ah rfl,b,Ae,a,Ae,Ah (by unfold BN;omega),GG,Af (show ¬ ((0:Int)+1<((BS e).items.length:Int)) from Int.lt_irrefl 1)]
 rfl
theorem TZ (f:CE->Bool):∀ es:List CE,(∀ e∈es,f e=false)\/∃ q,∃ hq:q<es.length,f es[q]=true/\∀ j (hj:j<es.length),j<q->f es[j]=false
 | [] => .inl (fun _ h=>nomatch h)
 | e::es=>by
  cases h:f e with
  | true=>exact .inr ⟨0,Nat.succ_pos _,h,fun j _ b=>absurd b (Nat.not_lt_zero _)⟩
  | false =>
   rcases TZ f es with h1 | ⟨q,hq,b,h3⟩
   ·refine .inl fun x hx=>?_
    rcases List.mem_cons.1 hx with rfl | hx
    ·exact h
    ·exact h1 x hx
   ·refine .inr ⟨q+1,Nat.succ_lt_succ hq,b,fun j hj a=>?_⟩
    cases j with
    | zero=>exact h
    | succ j=>exact h3 j (Nat.lt_of_succ_lt_succ hj) (Nat.lt_of_succ_lt_succ a)
theorem YC (n : Nat) (hn : 100000 ≤ n) (nd : Nod) (hnd : nd.name = MN) (num : Nat) (inp : Inp) (now : Int) (ht : inp.time = now) (hk : inp.kind = 2) : ∀ (c m : Nat) (es : List CE) (l : List (CM × CR)), (es.filter (Hn now)).length = c → c < m → es.length ≤ 19 → l.length + c ≤ 800 →
    es.Pairwise (fun a b => a.t ≤ b.t) →
    BC n nd inp m (Aw ⟨num, es⟩) (l.map HU) (l.map fun r => B5 r.1) = some (Hi ⟨⟨num, es.filter fun e => !Hn now e⟩, none, none, l ++ (es.filter (Hn now)).map fun e => (e.m, .timeout)⟩)
  | c, 0, _, _, _, h, _, _, _ => absurd h (Nat.not_lt_zero _)
  | c, m + 1, es, l, hc, hm, hl, hll, ho => by
    have hk2 : decide (inp.kind = 2) = true := Ag hk
    rw [BC, hk2, Ah rfl]
    rcases TZ (Hn now) es with hno | ⟨q, hq, hd, hb⟩
    · obtain ⟨m', hm'⟩ : ∃ m', n = m' + 1 + es.length := ⟨n - 1 - es.length, by omega⟩
      have h1 := Py n (BC n nd inp m) nd ⟨num, es⟩ (by simp only; omega) inp now ht (-1) (l.map HU) (l.map fun r => B5 r.1) es.length (Nat.le_refl _) es.length (m' + 1) 0 (by omega) fun j hj _ _ => .inl (hno _ (List.getElem_mem hj))
      rw [← hm'] at h1
      have h2 := XQ n (BC n nd inp m) nd ⟨num, es⟩ inp (-1) (l.map HU) (l.map fun r => B5 r.1) m'
      have f1 : es.filter (Hn now) = [] := List.filter_eq_nil_iff.2 fun e he => by simp [hno e he]
      have f2 : es.filter (fun e => !Hn now e) = es := List.filter_eq_self.2 fun e he => by simp [hno e he]
      rw [show (0 : Int) = ((0 : Nat) : Int) from rfl, h1, h2, Hw, Ag (show (-1 : Int) < 0 by decide), Ah rfl, f1, f2, List.map_nil, List.append_nil]
      unfold Hi
      simp only [Option.toList_none, List.map_nil, List.append_nil]
    · obtain ⟨m', hm'⟩ : ∃ m', n = ((m' + 1) + (es.length - (q + 1)) + 1) + q := ⟨n - 1 - es.length, by omega⟩
      have h1 := Py n (BC n nd inp m) nd ⟨num, es⟩ (by simp only; omega) inp now ht (-1) (l.map HU) (l.map fun r => B5 r.1) q (Nat.le_of_lt hq) q ((m' + 1) + (es.length - (q + 1)) + 1) 0 (by omega) fun j hj _ h2 => .inl (hb j hj h2)
      rw [← hm'] at h1
      have h2 := ZdU n (BC n nd inp m) nd ⟨num, es⟩ (by simp only; omega) inp now ht (l.map HU) (l.map fun r => B5 r.1) q hq hd ((m' + 1) + (es.length - (q + 1)))
      have h3 := Py n (BC n nd inp m) nd ⟨num, es⟩ (by simp only; omega) inp now ht (q : Int) (l.map HU) (l.map fun r => B5 r.1) es.length (Nat.le_refl _) (es.length - (q + 1)) (m' + 1) (q + 1) (Nat.add_sub_cancel' hq) fun j hj h2 _ => .inr ⟨q, rfl, hq, (List.pairwise_iff_getElem.1 ho) q j hq hj (by omega)⟩
      have h4 := XQ n (BC n nd inp m) nd ⟨num, es⟩ inp (q : Int) (l.map HU) (l.map fun r => B5 r.1) m'
      have hlt2 : q < (Aw ⟨num, es⟩).slots.length := by simpa [Aw] using hq
      have hx : (Aw ⟨num, es⟩).slots[q] = BS es[q] := by simp [Aw]
      obtain ⟨n', hn'⟩ : ∃ q, n = q + 2 := ⟨n - 2, by omega⟩
      have h5 := Zda n (BC n nd inp m) nd hnd es[q] (Aw ⟨num, es.take q ++ es.drop (q + 1)⟩) n' l (by omega)
      rw [← hn'] at h5
      have hsp : es = es.take q ++ es[q] :: es.drop (q + 1) := by rw [List.getElem_cons_drop, List.take_append_drop]
      have hta : (es.take q).filter (Hn now) = [] := List.filter_eq_nil_iff.2 fun e he => by
        obtain ⟨j, hj, rfl⟩ := List.mem_iff_getElem.1 he
        rw [List.length_take] at hj
        rw [List.getElem_take, hb j (by omega) (by omega)]
        decide
      have f1 : es.filter (Hn now) = es[q] :: (es.take q ++ es.drop (q + 1)).filter (Hn now) := by
        rw [List.filter_append, hta, List.nil_append]
        conv => lhs; rw [hsp, List.filter_append, hta, List.nil_append, List.filter_cons_of_pos hd]
      have f2 : es.filter (fun e => !Hn now e) = (es.take q ++ es.drop (q + 1)).filter (fun e => !Hn now e) := by
        rw [List.filter_append]
        conv => lhs; rw [hsp, List.filter_append, List.filter_cons_of_neg (by simp [hd])]
      rw [f1, List.length_cons] at hc
      have ih := YC n hn nd hnd num inp now ht hk ((es.take q ++ es.drop (q + 1)).filter (Hn now)).length m (es.take q ++ es.drop (q + 1)) (l ++ [(es[q].m, .timeout)]) rfl (by omega) (by rw [List.length_append, List.length_take, List.length_drop]; omega) (by rw [List.length_append, List.length_cons, List.length_nil]; omega)
        (ho.sublist (by conv => rhs; rw [hsp]
                        exact List.Sublist.append (List.Sublist.refl _) (List.sublist_cons_self _ _)))
      rw [show (0 : Int) = ((0 : Nat) : Int) from rfl, h1, h2, h3, h4, Hw, Af (show ¬ (q : Int) < 0 by omega), Ai (by decide), Bj hlt2, Ae, hx, UU ⟨num, es⟩ (by simp only; omega) q hq, Ae]
      refine h5.trans (ih.trans ?_)
      rw [f1, f2, List.append_assoc]
      rfl
theorem ZdK (n:Nat) (hn:100000<=n) (p:CP) (hp:p.ok) (s:CS) {now0:Int} {k0:Nat} (hs:s.ok p now0 k0) (hk0:k0<=1000) (j:CI) (hj:j.fit) :
  Ig n (Be p) (Aw s) (B9 j)=some (Hi (Du p s j)):=by
 have h:=hs.len
 have f:=hp.lim
 cases j with
 | msg m now =>
  have e:decide ((B9 (.msg m now)).kind=1)=true:=rfl
  rw [Ig,e,Ah rfl,Zbg n hn p hp s hs hk0 m now hj.1 hj.2.1 hj.2.2]
  rfl
 | rep i now c d u w =>
  have a:decide ((B9 (.rep i now c d u w)).kind=1)=false:=rfl
  have e:decide ((B9 (.rep i now c d u w)).kind=3)=true:=rfl
  rw [Ig,a,Ai (by decide),e,Ah rfl,ZaY n hn p hp s hs i now c d u w hj.1]
  rfl
 | clk i now =>
  have a:decide ((B9 (.clk i now)).kind=1)=false:=rfl
  have b:decide ((B9 (.clk i now)).kind=3)=false:=rfl
  rw [Ig,a,Ai (by decide),b,Ai (by decide)]
  have g:=List.length_filter_le (Hn now) s.es
  exact YC n hn (Be p) rfl s.num (B9 (.clk i now)) now rfl rfl _ n s.es [] rfl (by omega) (by omega) (by simp only [List.length_nil];omega) hs.ord
end Go.Proofs.YtbfenpeblbonlaaGreatDoor
