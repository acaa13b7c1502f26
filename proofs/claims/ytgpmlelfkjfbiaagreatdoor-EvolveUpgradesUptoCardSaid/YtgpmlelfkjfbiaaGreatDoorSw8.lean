/-
  Part 8 of the proof: rules and walks that the claim's last text uses.
-/
import Derived.Test.YtgpmlelfkjfbiaaGreatDoorSw7
set_option linter.unusedSimpArgs false
set_option linter.unusedVariables false
set_option maxRecDepth 100000
set_option maxHeartbeats 4000000
namespace Go.Proofs.YtgpmlelfkjfbiaaGreatDoor
open Go Go.RowKit Go.Ev
theorem Zzb {a b:Nat}:decide ((a:Int)≤(b:Int))=decide (a≤b):=decide_eq_decide.2 ⟨fun h=>by omega,fun h=>by omega⟩
theorem ZoJ (n:Nat) (a b:List (Vl)) (f:Vl→Vl→Option Int) (hl:a.length≤1000000000)
  (hr:∀ p∈a,∀ q∈b,∃ c,f p q=some c∧(c=0↔p=q)):∀ (k m i:Nat),i+k=a.length→k<m→∃ c,Za3 n a b f m i=some c∧(c=0↔a.drop i=b.drop i)
 | k,0,i,_,h=>absurd h (Nat.not_lt_zero _)
 | 0,m+1,i,hi,_=>by
  rw [Za3,Zal,decide_eq_false (by omega)]
  simp only [Bool.false_eq_true,if_false]
  rw [Zco,Zal,List.drop_eq_nil_of_le (show a.length≤i by omega)]
  by_cases h:a.length<b.length
  ·
   rw [decide_eq_true h]
   simp only [if_true]
   exact ⟨-1,rfl,⟨fun h=>absurd h (by decide),fun e=>by have:=List.drop_eq_nil_iff.1 e.symm;omega⟩⟩
  ·
   rw [decide_eq_false h]
   simp only [Bool.false_eq_true,if_false]
   exact ⟨0,rfl,⟨fun _=>(List.drop_eq_nil_of_le (by omega)).symm,fun _=>rfl⟩⟩
 | k+1,m+1,i,hi,hm=>by
  have h1:i<a.length:=by omega
  rw [Za3,Zal,decide_eq_true h1]
  simp only [if_true,Zam h1,Option.bind_some,Zzb]
  by_cases h2:i<b.length
  ·
   rw [decide_eq_false (show ¬ b.length≤i by omega)]
   simp only [Bool.false_eq_true,if_false,Zam h2,Option.bind_some]
   obtain ⟨c,e,hc⟩:=hr _ (List.getElem_mem h1) _ (List.getElem_mem h2)
   rw [e,Znf _ _ i h1 h2]
   simp only [Option.bind_some]
   by_cases h0:c=0
   ·
    rw [decide_eq_true h0]
    simp only [Bool.not_true,Bool.false_eq_true,if_false]
    rw [if_pos (Zaj (by omega))]
    obtain ⟨c2,e2,h2⟩:=ZoJ n a b f hl hr k m (i+1) (by omega) (by omega)
    exact ⟨c2,e2,h2.trans ⟨fun h=>⟨hc.1 h0,h⟩,fun h=>h.2⟩⟩
   ·
    rw [decide_eq_false h0]
    simp only [Bool.not_false,if_true]
    exact ⟨c,rfl,⟨fun h=>absurd h h0,fun h=>absurd (hc.2 h.1) h0⟩⟩
  ·
   rw [decide_eq_true (show b.length≤i by omega)]
   simp only [if_true]
   refine ⟨1,rfl,⟨fun h=>absurd h (by decide),fun e=>?_⟩⟩
   rw [List.drop_eq_nil_of_le (show b.length≤i by omega)] at e
   have:=List.drop_eq_nil_iff.1 e
   omega
theorem Zug (n:Nat) (a b:List (Vl)) (f:Vl→Vl→Option Int) (hl:a.length≤1000000000) (hn:a.length<n)
  (hr:∀ p∈a,∀ q∈b,∃ c,f p q=some c∧(c=0↔p=q)):∃ c,ZcD n a b f=some c∧(c=0↔a=b) :=
 ZoJ n a b f hl hr a.length n 0 (by omega) hn
theorem Zo8 (n:Nat) (a b:List (ByteArray × Vl)) (f:ByteArray × Vl→ByteArray × Vl→Option Int) (hl:a.length≤1000000000)
  (hr:∀ p∈a,∀ q∈b,∃ c,f p q=some c∧(c=0↔p=q)):∀ (k m i:Nat),i+k=a.length→k<m→∃ c,Za2 n a b f m i=some c∧(c=0↔a.drop i=b.drop i)
 | k,0,i,_,h=>absurd h (Nat.not_lt_zero _)
 | 0,m+1,i,hi,_=>by
  rw [Za2,Zal,decide_eq_false (by omega)]
  simp only [Bool.false_eq_true,if_false]
  rw [Zcm,Zal,List.drop_eq_nil_of_le (show a.length≤i by omega)]
  by_cases h:a.length<b.length
  ·
   rw [decide_eq_true h]
   simp only [if_true]
   exact ⟨-1,rfl,⟨fun h=>absurd h (by decide),fun e=>by have:=List.drop_eq_nil_iff.1 e.symm;omega⟩⟩
  ·
   rw [decide_eq_false h]
   simp only [Bool.false_eq_true,if_false]
   exact ⟨0,rfl,⟨fun _=>(List.drop_eq_nil_of_le (by omega)).symm,fun _=>rfl⟩⟩
 | k+1,m+1,i,hi,hm=>by
  have h1:i<a.length:=by omega
  rw [Za2,Zal,decide_eq_true h1]
  simp only [if_true,Zam h1,Option.bind_some,Zzb]
  by_cases h2:i<b.length
  ·
   rw [decide_eq_false (show ¬ b.length≤i by omega)]
   simp only [Bool.false_eq_true,if_false,Zam h2,Option.bind_some]
   obtain ⟨c,e,hc⟩:=hr _ (List.getElem_mem h1) _ (List.getElem_mem h2)
   rw [e,Znf _ _ i h1 h2]
   simp only [Option.bind_some]
   by_cases h0:c=0
   ·
    rw [decide_eq_true h0]
    simp only [Bool.not_true,Bool.false_eq_true,if_false]
    rw [if_pos (Zaj (by omega))]
    obtain ⟨c2,e2,h2⟩:=Zo8 n a b f hl hr k m (i+1) (by omega) (by omega)
    exact ⟨c2,e2,h2.trans ⟨fun h=>⟨hc.1 h0,h⟩,fun h=>h.2⟩⟩
   ·
    rw [decide_eq_false h0]
    simp only [Bool.not_false,if_true]
    exact ⟨c,rfl,⟨fun h=>absurd h h0,fun h=>absurd (hc.2 h.1) h0⟩⟩
  ·
   rw [decide_eq_true (show b.length≤i by omega)]
   simp only [if_true]
   refine ⟨1,rfl,⟨fun h=>absurd h (by decide),fun e=>?_⟩⟩
   rw [List.drop_eq_nil_of_le (show b.length≤i by omega)] at e
   have:=List.drop_eq_nil_iff.1 e
   omega
theorem ZtP (n:Nat) (a b:List (ByteArray × Vl)) (f:ByteArray × Vl→ByteArray × Vl→Option Int) (hl:a.length≤1000000000) (hn:a.length<n)
  (hr:∀ p∈a,∀ q∈b,∃ c,f p q=some c∧(c=0↔p=q)):∃ c,Zcz n a b f=some c∧(c=0↔a=b) :=
 Zo8 n a b f hl hr a.length n 0 (by omega) hn
theorem ZBQ (n:Nat) (l:List Int) (hl:l.length≤1000000000):∀ (k m i:Nat),i+k=l.length→k<m→∃ c,Zdk n l m i=some c∧(c=0↔∀ x∈l.drop i,x=0)
 | k,0,i,_,h=>absurd h (Nat.not_lt_zero _)
 | 0,m+1,i,hi,_=>by
  rw [Zdk,Zal,decide_eq_false (by omega)]
  simp only [Bool.false_eq_true,if_false]
  exact ⟨0,rfl,by rw [List.drop_eq_nil_of_le (by omega)];simp⟩
 | k+1,m+1,i,hi,hm=>by
  have h1:i<l.length:=by omega
  rw [Zdk,Zal,decide_eq_true h1]
  simp only [if_true,Zam h1,Option.bind_some]
  rw [List.drop_eq_getElem_cons h1]
  by_cases h0:l[i]=0
  ·
   rw [decide_eq_true h0]
   simp only [Bool.not_true,Bool.false_eq_true,if_false]
   rw [if_pos (Zaj (by omega))]
   obtain ⟨c2,e2,h2⟩:=ZBQ n l hl k m (i+1) (by omega) (by omega)
   exact ⟨c2,e2,h2.trans ⟨fun h x hx=>by rcases List.mem_cons.1 hx with rfl | hx;exact h0;exact h x hx,fun h x hx=>h x (List.mem_cons_of_mem _ hx)⟩⟩
  ·
   rw [decide_eq_false h0]
   simp only [Bool.not_false,if_true]
   exact ⟨_,rfl,⟨fun h=>absurd h h0,fun h=>absurd (h _ (List.mem_cons_self ..)) h0⟩⟩
theorem ZBN (n:Nat) (l:List Int) (hl:l.length<n) (h2:l.length≤1000000000):∃ c,Zf7 n l=some c∧(c=0↔∀ x∈l,x=0):=ZBQ n l h2 l.length n 0 (by omega) hl
theorem ZvP (a b:Int):(if a<b then (-1:Int) else if a=b then 0 else 1)=0↔a=b:=by
 by_cases h1:a<b
 ·
  rw [if_pos h1];omega
 ·
  rw [if_neg h1]
  by_cases h2:a=b
  ·
   simp [h2]
  ·
   simp [h2]
theorem Vl.lens' (v:Vl):v.list.length<v.size∧v.fields.length<v.size:=by have:=Zh0 v.list;have:=Zhz v.fields;have:=v.size_eq;omega
theorem Zkk:∀ (n:Nat) (a b:Vl),a.size+10≤n→a.size≤1000000000→∃ c,ZdT n a b=some c∧(c=0↔a=b)
 | 0,a,b,h,_=>by omega
 | n+1,a,b,h,hs=>by
  have hl:=a.lens'
  rw [ZdT,Zh5]
  obtain ⟨c1,e1,h1⟩:=Zug n a.list b.list (fun x y=>ZdT n x y) (by omega) (by omega) (fun p hp q _=>Zkk n p q (by have:=a.list_size p hp;omega) (by have:=a.list_size p hp;omega))
  obtain ⟨c2,e2,h2⟩:=ZtP n a.fields b.fields (fun x y=>Zd8 (ZdT n) n x y) (by omega) (by omega) (fun p hp q _=>by
   obtain ⟨c,e,hc⟩:=Zkk n p.2 q.2 (by have:=a.field_size p hp;omega) (by have:=a.field_size p hp;omega)
   obtain ⟨c2,e2,h2⟩:=ZBN n [Zg9 p.1 q.1,c] (by simp;omega) (by simp)
   refine ⟨c2,by rw [Zd8,e,Option.bind_some,e2];rfl,h2.trans ?_⟩
   simp only [List.mem_cons,List.not_mem_nil,or_false,forall_eq_or_imp,forall_eq,ZhW,hc]
   exact ⟨fun h=>Prod.ext h.1 h.2,fun h=>by rw [h];exact ⟨rfl,rfl⟩⟩)
  rw [e1,Option.bind_some,e2,Option.bind_some]
  obtain ⟨c,e,hc⟩:=ZBN n [if a.kind<b.kind then -1 else if a.kind=b.kind then 0 else 1,if a.int<b.int then -1 else if a.int=b.int then 0 else 1,if a.scale<b.scale then -1 else if a.scale=b.scale then 0 else 1,Zg9 a.text b.text,c1,c2] (by simp;omega) (by simp)
  refine ⟨c,by rw [e];rfl,hc.trans ?_⟩
  simp only [List.mem_cons,List.not_mem_nil,or_false,forall_eq_or_imp,forall_eq,ZhW,ZvP,h1,h2]
  exact ⟨fun ⟨x1,x2,x3,x4,x5,x6⟩=>Vl.ext' x1 x2 x3 x4 x5 x6,fun h=>by rw [h];exact ⟨rfl,rfl,rfl,rfl,rfl,rfl⟩⟩
theorem ZuV (n:Nat) (a b:Vl) (h:a.size+10≤n) (hs:a.size≤1000000000):∃ c,Zdt n a b=some c∧(c=true↔a=b):=by
 obtain ⟨c,e,hc⟩:=Zkk n a b h hs
 exact ⟨decide (c=0),by rw [Zdt,e];rfl,by rw [decide_eq_true_eq];exact hc⟩
def Zcs (n:Nat) (a0:Ty) (a1:Ty):Option Int :=
 (Zes n a0).bind fun y4 =>
 if !(decide (y4=0)) then
  some (y4)
 else
  (Zes n a1).bind fun y9 =>
  some (y9)
theorem ZiY (w0:World) (hT:Lib.Utf8Tabs 0 1 w0) (n:Nat) (B:List (List AV)) (Rw:List RowA) (L:List LoopA) (a0:Ty) (a1:Ty) (r:Int) (h:Zcs n a0 a1=some r) :
  ACalls Tryz.prog w0 78 [.agg (a0.cs),.agg (a1.cs)] ⟨B,Rw,L⟩ fun x st=>x = .val (.int .i64 r)∧st=⟨B,Rw,L⟩:=by
 rw [Zcs] at h
 refine hd [.tmp 4] Tryz.func78 Tryz.ntmps78 fun M0 W0 hN g i a hu hO hs=>?_
 simp only [Zaq]
 refine rg [2,3] hs ?_
 apply Zaa;intro K2 c
 obtain ⟨y4,e,h⟩:=bind_some h
 refine rc 2 [3,5] hs ?_;intro K3 d
 refine Zac _ (ZjI w0 hT n _ _ _ a0 _ e) (hv hs) ?_
 refine ne hs d ?_
 clear d
 refine rg [3,5,9] hs ?_
 refine cnd h hs (fun hs h=>?_) (fun hs h=>?_)
 ·
  refine rg [4] hs ?_
  exact rt h hs a hO
 refine sk [3] hs c ?_
 clear c
 obtain ⟨y9,f,h⟩:=bind_some h
 refine rc 2 [4] hs ?_;intro K8 b
 refine Zac _ (ZjI w0 hT n _ _ _ a1 _ f) (hv hs) ?_
 refine ne hs b ?_
 clear b
 exact rt h hs a hO
def Zbe (a0:ByteArray) (a1:Int) (a2:List (ByteArray × Int)):Option ((List (ByteArray × Int))) :=
 if (a2.length+1)*24≤140737488355328∧a2.length+1≤4611686018427387904 then
  some (a2++([(a0,a1)]))
 else none
theorem ZbA (w0:World) (B:List (List AV)) (Rw:List RowA) (L:List LoopA) (a0:ByteArray) (a1:Int) (la2:Nat) (a2:List (ByteArray × Int)) (oa2:Ev.Own) (hla2:B[la2]? = some [.list (a2.map ZnQ) oa2]) (hGa2:Owns Rw Rw [(2,a2.length,oa2)] oa2) (r:(List (ByteArray × Int))) (h:Zbe a0 a1 a2=some r) :
  ACalls Tryz.prog w0 96 [.val (.string a0),.val (.int .i64 a1),.box la2 0] ⟨B,Rw,L⟩ fun x st=>x = .tup []∧∃ (R1:List RowA) (o1:Ev.Own),st=⟨(B.set la2 [.list (r.map ZnQ) o1]),R1,L⟩∧Owns Rw R1 [(2,r.length,o1)] oa2:=by
 rw [Zbe] at h
 refine ACalls.finG (ZcZ (rs:=[]) Tryz.func96 rfl rfl Tryz.ntmps96 (ZaJ Tryz.func96 rfl (by decide)) (Nat.le_of_ble_eq_true rfl) ?_)
 intro M0 W0 hN e f b hu
 dsimp only at hN e f b hu
 simp only [Zaq]
 have hO:=hGa2
 have hs:=Zw9
 have d:=(List.getElem?_eq_some_iff.1 hla2).1
 obtain ⟨c,h⟩:=Zab h
 obtain ⟨o2,g,hO,a⟩:=hO.append (P:=Tryz.prog) ZBF (by rw [Zu4];rfl) (by decide) 1 c.1 c.2
 replace a:=fun (ys:List AV) B L o2=>a (a2.map ZnQ) ys B L o2 le_
 replace a:=fun (y:AV) B L o2=>a [y] B L o2 le_ ev
 try simp only [List.mem_singleton,List.mem_cons,List.not_mem_nil,or_false,forall_eq_or_imp,forall_eq,List.map_append,List.map_cons,List.map_nil,Ze5,ZeV,Ze4,ZeU,Ze2,Zeu,Zdc,Zc0,ZeX,Zb9,Zcc,Zc1,Zc8,Zc7] at a
 apply Zaf 1 []
 rw [Zae];simp +decide only [go_sem,Nat.reduceAdd,Zag hla2,a]
 (repeat' with_reducible apply And.intro)<;>first | exact cl | skip
 have hgt:=Option.some.inj h;subst hgt
 have hU:=hO.unders
 simp only [List.mem_cons,List.not_mem_nil,or_false,forall_eq_or_imp,forall_eq] at hU
 refine Zvc hO (Zah (Zep b hO.len) ow) ls_ ev ⟨?_,_,_,?_,(hO.sub (List.sublist_append_left [_] _)).len1 le_⟩
 all_goals first | rfl | (simp +decide only [go_sem,Nat.reduceAdd,Zag hla2,a];done) | (simp +decide only [go_sem,Nat.reduceAdd,Vl.cs,Ty.cs,Zag hla2,a];done)
def ZdA (a0:Bool) (a1:List (ByteArray × Int)) (a2:ByteArray):Option ((List (ByteArray × Int))) :=
 if a0 then
  (Zbe a2 6 a1).bind fun y3 =>
  some (y3)
 else
  (Zbe a2 7 a1).bind fun y6 =>
  some (y6)
theorem Zg1 (w0:World) (B:List (List AV)) (Rw:List RowA) (L:List LoopA) (a0:Bool) (la1:Nat) (a1:List (ByteArray × Int)) (oa1:Ev.Own) (hla1:B[la1]? = some [.list (a1.map ZnQ) oa1]) (hGa1:Owns Rw Rw [(2,a1.length,oa1)] oa1) (lb1:Nat) (hlb1:B[lb1]? = some [.clo 96 [.box la1 0]]) (la2:Nat) (a2:ByteArray) (hla2:B[la2]? = some ([.val (.string a2)])) (r:(List (ByteArray × Int))) (h:ZdA a0 a1 a2=some r) :
  ACalls Tryz.prog w0 161 [.val (.bool a0),.box lb1 0,.box la2 0] ⟨B,Rw,L⟩ fun x st=>x = .tup []∧∃ (R1:List RowA) (o1:Ev.Own),st=⟨(B.set la1 [.list (r.map ZnQ) o1]),R1,L⟩∧Owns Rw R1 [(2,r.length,o1)] oa1:=by
 rw [ZdA] at h
 refine ACalls.finG (ZcZ (rs:=[]) Tryz.func161 rfl rfl Tryz.ntmps161 (ZaJ Tryz.func161 rfl (by decide)) (Nat.le_of_ble_eq_true rfl) ?_)
 intro M0 W0 hN j m c hu
 dsimp only at hN j m c hu
 simp only [Zaq]
 have hO:=hGa1
 have hs:=Zw9
 have f:=(List.getElem?_eq_some_iff.1 hla1).1
 have i:=(List.getElem?_eq_some_iff.1 hlb1).1
 have a:la1≠lb1:=fun q=>by have k:=hla1;rw [q,hlb1] at k;cases k
 have g:=(List.getElem?_eq_some_iff.1 hla2).1
 have hs:=And.intro (Zag hla1) hs
 have hs:=And.intro (Zag hlb1) hs
 have hs:=And.intro (Zcj hlb1 a) hs
 have hs:=And.intro (Zag hla2) hs
 refine rg [1,2,4] hs ?_
 refine cnd h hs (fun hs h=>?_) (fun hs h=>?_)
 ·
  have b:=hs.1
  obtain ⟨y3,n,h⟩:=bind_some h
  apply Zaf 2 []
  rw [Zae];simp +decide only [go_sem,Nat.reduceAdd,Zag hla1,Zag hlb1,Zcj hlb1 a,Zag hla2,b]
  (repeat' apply And.intro)<;>first | (refine Zbc _ (ZbA w0 _ _ _ a2 6 la1 a1 oa1 (ef hs) hO.enter _ n) (hv hs) ?_;rintro _ _ ⟨rfl,Rg4,o,rfl,e⟩) | exact cl
  have hO:=hO.call e
  rw [Zae];simp +decide only [go_sem,Nat.reduceAdd,Zag hla1,Zag hlb1,Zcj hlb1 a,Zag hla2,b]
  (repeat' with_reducible apply And.intro)<;>first | exact cl | skip
  have hgt:=Option.some.inj h;subst hgt
  have hU:=hO.unders
  simp only [List.mem_cons,List.not_mem_nil,or_false,forall_eq_or_imp,forall_eq] at hU
  refine Zvc hO (Zah (Zep c hO.len) ow) ls_ ev ⟨?_,_,_,?_,(hO.sub (List.sublist_append_left [_] _)).len1 le_⟩
  all_goals first | rfl | (simp +decide only [go_sem,Nat.reduceAdd,Zag hla1,Zag hlb1,Zcj hlb1 a,Zag hla2,b];done) | (simp +decide only [go_sem,Nat.reduceAdd,Vl.cs,Ty.cs,Zag hla1,Zag hlb1,Zcj hlb1 a,Zag hla2,b];done)
 have b:=hs.1
 obtain ⟨y6,l,h⟩:=bind_some h
 apply Zaf 2 []
 rw [Zae];simp +decide only [go_sem,Nat.reduceAdd,Zag hla1,Zag hlb1,Zcj hlb1 a,Zag hla2,b]
 (repeat' apply And.intro)<;>first | (refine Zbc _ (ZbA w0 _ _ _ a2 7 la1 a1 oa1 (ef hs) hO.enter _ l) (hv hs) ?_;rintro _ _ ⟨rfl,Rg7,p,rfl,d⟩) | exact cl
 have hO:=hO.call d
 rw [Zae];simp +decide only [go_sem,Nat.reduceAdd,Zag hla1,Zag hlb1,Zcj hlb1 a,Zag hla2,b]
 (repeat' with_reducible apply And.intro)<;>first | exact cl | skip
 have hgt:=Option.some.inj h;subst hgt
 have hU:=hO.unders
 simp only [List.mem_cons,List.not_mem_nil,or_false,forall_eq_or_imp,forall_eq] at hU
 refine Zvc hO (Zah (Zep c hO.len) ow) ls_ ev ⟨?_,_,_,?_,(hO.sub (List.sublist_append_left [_] _)).len1 le_⟩
 all_goals first | rfl | (simp +decide only [go_sem,Nat.reduceAdd,Zag hla1,Zag hlb1,Zcj hlb1 a,Zag hla2,b];done) | (simp +decide only [go_sem,Nat.reduceAdd,Vl.cs,Ty.cs,Zag hla1,Zag hlb1,Zcj hlb1 a,Zag hla2,b];done)
def ZbI (a0:ByteArray) (a1:Ty) (a2:ByteArray):Option ByteArray :=
 if decide (a1.kind=10) then
  if a2.size+((⟨#[63]⟩:ByteArray)).size≤9223372036854775807 then
   if (a2++((⟨#[63]⟩:ByteArray))).size+a0.size≤9223372036854775807 then
    some ((a2++((⟨#[63]⟩:ByteArray)))++a0)
   else none
  else none
 else
  if sEq a2 ((⟨#[]⟩:ByteArray)) then
   some (a0)
  else
   if a2.size+((⟨#[46]⟩:ByteArray)).size≤9223372036854775807 then
    if (a2++((⟨#[46]⟩:ByteArray))).size+a0.size≤9223372036854775807 then
     some ((a2++((⟨#[46]⟩:ByteArray)))++a0)
    else none
   else none
theorem Zcx (w0:World) (B:List (List AV)) (Rw:List RowA) (L:List LoopA) (a0:ByteArray) (la1:Nat) (a1:Ty) (hla1:B[la1]? = some (a1.cs)) (la2:Nat) (a2:ByteArray) (hla2:B[la2]? = some ([.val (.string a2)])) (r:ByteArray) (h:ZbI a0 a1 a2=some r) :
  ACalls Tryz.prog w0 162 [.val (.string a0),.box la1 0,.box la2 0] ⟨B,Rw,L⟩ fun x st=>x = .val (.string r)∧st=⟨B,Rw,L⟩:=by
 rw [ZbI] at h
 refine hd [.tmp 4] Tryz.func162 Tryz.ntmps162 fun M0 W0 hN n o a hu hO hs=>?_
 simp only [Zaq]
 have j:=(List.getElem?_eq_some_iff.1 hla1).1
 have k:=(List.getElem?_eq_some_iff.1 hla2).1
 have hs:=And.intro (Zag hla1) hs
 have hs:=And.intro (Zag hla2) hs
 refine rg [0,1,2] hs ?_
 apply Zaa;intro K2 f
 apply Zad
 refine rg [0,2,5] hs ?_
 refine cnd h hs (fun hs h=>?_) (fun hs h=>?_)
 ·
  obtain ⟨l,h⟩:=Zab h
  have i:=l
  try simp +decide only [go_sem] at i
  obtain ⟨m,h⟩:=Zab h
  have d:=m
  try simp +decide only [go_sem] at d
  refine rg [4] hs ?_
  exact rt h hs a hO
 refine rg [0,2,13] hs ?_
 refine cnd h hs (fun hs h=>?_) (fun hs h=>?_)
 ·
  refine rg [4] hs ?_
  exact rt h hs a hO
 refine sk [0,2] hs f ?_
 clear f
 obtain ⟨e,h⟩:=Zab h
 have b:=e
 try simp +decide only [go_sem] at b
 obtain ⟨g,h⟩:=Zab h
 have c:=g
 try simp +decide only [go_sem] at c
 refine rg [4] hs ?_
 exact rt h hs a hO
def Zip (rec:Ty→Ty→Option Bool) (n:Nat) (a0:Ty) (a1:Int × ByteArray × Int × Ty × List Vl):Option Bool :=
 (Zb0 n a0.fields a1.1).bind fun y3 =>
 if !y3.2 then
  some (!(decide (a1.2.2.1=1)))
 else
  (rec y3.1.2.2.2.1 a1.2.2.2.1).bind fun y9 =>
  some (y9&&(!((decide (a1.2.2.1=1))&&(decide (y3.1.2.2.1=2)))))
theorem Zn6 (w0:World) (rec:Ty→Ty→Option Bool) (ih:∀ (B:List (List AV)) (Rw:List RowA) (L:List LoopA) (a0:Ty) (a1:Ty) (r:Bool) (h:rec a0 a1=some r),ACalls Tryz.prog w0 90 [.agg (a0.cs),.agg (a1.cs)] ⟨B,Rw,L⟩ fun x st=>x = .val (.bool r)∧st=⟨B,Rw,L⟩) (n:Nat) (B:List (List AV)) (Rw:List RowA) (L:List LoopA) (a0:Ty) (a1:Int × ByteArray × Int × Ty × List Vl) (r:Bool) (h:Zip rec n a0 a1=some r) :
  ACalls Tryz.prog w0 152 [.agg (a0.cs),.agg (.val (.int .i64 a1.1)::(.val (.string a1.2.1)::(.val (.int .i64 a1.2.2.1)::((a1.2.2.2.1.cs)++([.list (a1.2.2.2.2.map avV) .none])))))] ⟨B,Rw,L⟩ fun x st=>x = .val (.bool r)∧st=⟨B,Rw,L⟩:=by
 rw [Zip] at h
 refine hd [.tmp 4] Tryz.func152 Tryz.ntmps152 fun M0 W0 hN g i a hu hO hs=>?_
 simp only [Zaq]
 refine rg [2,3] hs ?_
 obtain ⟨y3,f,h⟩:=bind_some h
 refine rc 2 [3,5,6] hs ?_;intro K2 d
 refine Zac _ (Zdx w0 n _ _ _ a0.fields a1.1 _ f) (hv hs) ?_
 refine ne hs d ?_
 clear d
 apply Zaa;intro K4 b
 refine rg [3,5,16] hs ?_
 refine cnd h hs (fun hs h=>?_) (fun hs h=>?_)
 ·
  refine rg [4] hs ?_
  exact rt h hs a hO
 refine sk [3,5] hs b ?_
 clear b
 obtain ⟨y9,e,h⟩:=bind_some h
 refine rc 2 [4] hs ?_;intro K8 c
 refine Zac _ (ih _ _ _ y3.1.2.2.2.1 a1.2.2.2.1 _ e) (hv hs) ?_
 refine ne hs c ?_
 clear c
 exact rt h hs a hO
def ZcK (rec:Ty→Ty→Option Bool) (n:Nat) (a0:Int × ByteArray × Int × Ty × List Vl) (a1:Ty):Option Bool :=
 (Zip rec n a1 a0).bind fun y3 =>
 some (!y3)
theorem ZiP (w0:World) (rec:Ty→Ty→Option Bool) (ih:∀ (B:List (List AV)) (Rw:List RowA) (L:List LoopA) (a0:Ty) (a1:Ty) (r:Bool) (h:rec a0 a1=some r),ACalls Tryz.prog w0 90 [.agg (a0.cs),.agg (a1.cs)] ⟨B,Rw,L⟩ fun x st=>x = .val (.bool r)∧st=⟨B,Rw,L⟩) (n:Nat) (B:List (List AV)) (Rw:List RowA) (L:List LoopA) (a0:Int × ByteArray × Int × Ty × List Vl) (la1:Nat) (a1:Ty) (hla1:B[la1]? = some (a1.cs)) (r:Bool) (h:ZcK rec n a0 a1=some r) :
  ACalls Tryz.prog w0 151 [.agg (.val (.int .i64 a0.1)::(.val (.string a0.2.1)::(.val (.int .i64 a0.2.2.1)::((a0.2.2.2.1.cs)++([.list (a0.2.2.2.2.map avV) .none]))))),.box la1 0] ⟨B,Rw,L⟩ fun x st=>x = .val (.bool r)∧st=⟨B,Rw,L⟩:=by
 rw [ZcK] at h
 refine hd [.tmp 3] Tryz.func151 Tryz.ntmps151 fun M0 W0 hN e f a hu hO hs=>?_
 simp only [Zaq]
 have c:=(List.getElem?_eq_some_iff.1 hla1).1
 have hs:=And.intro (Zag hla1) hs
 refine rg [1,2] hs ?_
 obtain ⟨y3,d,h⟩:=bind_some h
 refine rc 2 [3] hs ?_;intro K2 b
 refine Zac _ (Zn6 w0 rec ih n _ _ _ a1 a0 _ d) (hv hs) ?_
 refine ne hs b ?_
 clear b
 exact rt h hs a hO
def Zhw (rec:Ty→Ty→Option Bool) (n:Nat) (a0:Int × ByteArray × Int × Ty × List Vl) (a1:Ty):Option Bool :=
 (Zb0 n a1.fields a0.1).bind fun y3 =>
 if y3.2 then
  (rec a0.2.2.2.1 y3.1.2.2.2.1).bind fun y6 =>
  some (y6)
 else
  some (false)
theorem ZnA (w0:World) (rec:Ty→Ty→Option Bool) (ih:∀ (B:List (List AV)) (Rw:List RowA) (L:List LoopA) (a0:Ty) (a1:Ty) (r:Bool) (h:rec a0 a1=some r),ACalls Tryz.prog w0 90 [.agg (a0.cs),.agg (a1.cs)] ⟨B,Rw,L⟩ fun x st=>x = .val (.bool r)∧st=⟨B,Rw,L⟩) (n:Nat) (B:List (List AV)) (Rw:List RowA) (L:List LoopA) (a0:Int × ByteArray × Int × Ty × List Vl) (a1:Ty) (r:Bool) (h:Zhw rec n a0 a1=some r) :
  ACalls Tryz.prog w0 154 [.agg (.val (.int .i64 a0.1)::(.val (.string a0.2.1)::(.val (.int .i64 a0.2.2.1)::((a0.2.2.2.1.cs)++([.list (a0.2.2.2.2.map avV) .none]))))),.agg (a1.cs)] ⟨B,Rw,L⟩ fun x st=>x = .val (.bool r)∧st=⟨B,Rw,L⟩:=by
 rw [Zhw] at h
 refine hd [.tmp 4] Tryz.func154 Tryz.ntmps154 fun M0 W0 hN f g a hu hO hs=>?_
 simp only [Zaq]
 refine rg [2,3] hs ?_
 obtain ⟨y3,e,h⟩:=bind_some h
 refine rc 2 [2,5,6] hs ?_;intro K2 c
 refine Zac _ (Zdx w0 n _ _ _ a1.fields a0.1 _ e) (hv hs) ?_
 refine ne hs c ?_
 clear c
 apply Zaa;intro K4 b
 rcases Bool.eq_false_or_eq_true (y3.2) with hf5 | hf5
 ·
  replace h:=Za9 h hf5
  obtain ⟨y6,d,h⟩:=bind_some h
  have hs:=And.intro hf5 hs
  refine rk 2 [4] hs ?_
  refine Zac _ (ih _ _ _ a0.2.2.2.1 y3.1.2.2.2.1 _ d) (hv hs) ?_
  refine ne hs b ?_
  clear b
  exact rt h hs a hO
 ·
  replace h:=Zba h hf5
  have hs:=And.intro hf5 hs
  refine rk 2 [4] hs ?_
  refine Zau ?_
  refine ne hs b ?_
  clear b
  exact rt h hs a hO
def ZcJ (rec:Ty→Ty→Option Bool) (n:Nat) (a0:Int × ByteArray × Int × Ty × List Vl) (a1:Ty):Option Bool :=
 (Zhw rec n a0 a1).bind fun y3 =>
 some (!y3)
theorem ZiT (w0:World) (rec:Ty→Ty→Option Bool) (ih:∀ (B:List (List AV)) (Rw:List RowA) (L:List LoopA) (a0:Ty) (a1:Ty) (r:Bool) (h:rec a0 a1=some r),ACalls Tryz.prog w0 90 [.agg (a0.cs),.agg (a1.cs)] ⟨B,Rw,L⟩ fun x st=>x = .val (.bool r)∧st=⟨B,Rw,L⟩) (n:Nat) (B:List (List AV)) (Rw:List RowA) (L:List LoopA) (a0:Int × ByteArray × Int × Ty × List Vl) (la1:Nat) (a1:Ty) (hla1:B[la1]? = some (a1.cs)) (r:Bool) (h:ZcJ rec n a0 a1=some r) :
  ACalls Tryz.prog w0 153 [.agg (.val (.int .i64 a0.1)::(.val (.string a0.2.1)::(.val (.int .i64 a0.2.2.1)::((a0.2.2.2.1.cs)++([.list (a0.2.2.2.2.map avV) .none]))))),.box la1 0] ⟨B,Rw,L⟩ fun x st=>x = .val (.bool r)∧st=⟨B,Rw,L⟩:=by
 rw [ZcJ] at h
 refine hd [.tmp 3] Tryz.func153 Tryz.ntmps153 fun M0 W0 hN e f a hu hO hs=>?_
 simp only [Zaq]
 have c:=(List.getElem?_eq_some_iff.1 hla1).1
 have hs:=And.intro (Zag hla1) hs
 refine rg [1,2] hs ?_
 obtain ⟨y3,d,h⟩:=bind_some h
 refine rc 2 [3] hs ?_;intro K2 b
 refine Zac _ (ZnA w0 rec ih n _ _ _ a0 a1 _ d) (hv hs) ?_
 refine ne hs b ?_
 clear b
 exact rt h hs a hO
def Zgs (n:Nat) (a0:Ty) (a1:Ty):Option Bool :=
 (ZbR n a0.min a0.scale a1.scale).bind fun y3 =>
 (ZbR n a0.max a0.scale a1.scale).bind fun y5 =>
 some ((((y3.2&&y5.2)&&(ZaV y3.1 a1))&&(ZaV y5.1 a1))&&((decide (a0.scale≤a1.scale))||(decide (a0.min=a0.max))))
theorem Zlj (w0:World) (n:Nat) (B:List (List AV)) (Rw:List RowA) (L:List LoopA) (a0:Ty) (a1:Ty) (r:Bool) (h:Zgs n a0 a1=some r) :
  ACalls Tryz.prog w0 147 [.agg (a0.cs),.agg (a1.cs)] ⟨B,Rw,L⟩ fun x st=>x = .val (.bool r)∧st=⟨B,Rw,L⟩:=by
 rw [Zgs] at h
 refine hd [.tmp 4] Tryz.func147 Tryz.ntmps147 fun M0 W0 hN g i a hu hO hs=>?_
 simp only [Zaq]
 refine rg [2,3] hs ?_
 obtain ⟨y3,f,h⟩:=bind_some h
 refine rc 2 [2,3,5,6] hs ?_;intro K2 d
 refine Zac _ (ZfN w0 n _ _ _ a0.min a0.scale a1.scale _ f) (hv hs) ?_
 refine ne hs d ?_
 clear d
 obtain ⟨y5,e,h⟩:=bind_some h
 refine rc 2 [2,3,5,6,7,8] hs ?_;intro K4 b
 refine Zac _ (ZfN w0 n _ _ _ a0.max a0.scale a1.scale _ e) (hv hs) ?_
 refine ne hs b ?_
 clear b
 refine rc 3 [4] hs ?_;intro K6 c
 refine Zdv _ (fun _=>ZbK w0 _ _ _ y3.1 a1) (hv hs) ?_
 refine nc hs ?_
 refine Zdv _ (fun _=>ZbK w0 _ _ _ y5.1 a1) (hv hs) ?_
 refine ne hs c ?_
 clear c
 exact rt h hs a hO
def Zew (n:Nat) (a0:ByteArray) (a1:Ty) (a2:Ty):Option Bool :=
 (Zax n a1 a2 (ZgD a0)).bind fun y3 =>
 some (!y3.2)
theorem ZlK (w0:World) (n:Nat) (B:List (List AV)) (Rw:List RowA) (L:List LoopA) (a0:ByteArray) (la1:Nat) (a1:Ty) (hla1:B[la1]? = some (a1.cs)) (la2:Nat) (a2:Ty) (hla2:B[la2]? = some (a2.cs)) (r:Bool) (h:Zew n a0 a1 a2=some r) :
  ACalls Tryz.prog w0 200 [.val (.string a0),.box la1 0,.box la2 0] ⟨B,Rw,L⟩ fun x st=>x = .val (.bool r)∧st=⟨B,Rw,L⟩:=by
 rw [Zew] at h
 refine hd [.tmp 4] Tryz.func200 Tryz.ntmps200 fun M0 W0 hN g j b hu hO hs=>?_
 simp only [Zaq]
 have d:=(List.getElem?_eq_some_iff.1 hla1).1
 have e:=(List.getElem?_eq_some_iff.1 hla2).1
 have hs:=And.intro (Zag hla1) hs
 have hs:=And.intro (Zag hla2) hs
 refine rg [0,1,2] hs ?_
 apply Zaa;intro K2 c
 obtain ⟨y3,f,h⟩:=bind_some h
 apply ZfH mix [8,9] [6] kr (fun s=>∃ (X:List (List AV)) (a:List RowA),s=⟨B++([]++X),a,L⟩) 3 (B.length+0)
 ·
  simp +decide only [go_sem,Nat.reduceAdd]
 ·
  rintro s ⟨X,a,rfl⟩
  refine ⟨3,?_⟩
  rw [Zae];simp +decide only [go_sem,Nat.reduceAdd,Zef,Zag hla1,Zag hla2]
  (repeat' apply And.intro)<;>first | refine Zac _ (Zot w0 _ _ _ a0) (hv hs) ?_ | exact cl
  rw [Zae];simp +decide only [go_sem,Nat.reduceAdd,Zag hla1,Zag hla2]
  (repeat' apply And.intro)<;>first | refine Zac _ (ZfV w0 n _ _ _ a1 a2 (ZgD a0) _ f) (hv hs) ?_ | exact cl
  rw [Zae];simp +decide only [go_sem,Nat.reduceAdd,Zag hla1,Zag hla2]
  (repeat' apply And.intro)<;>first | rfl | exact cl
 ·
  refine Good.mk [8] kr ⟨[],_,by first | rfl | (simp only [List.append_nil,List.nil_append];done) | (simp only [List.append_nil,List.nil_append];rfl)⟩ ?_ ?_
  ·
   intro h;exact absurd h (by decide)
  ·
   intro i hi;simp only [List.mem_cons,List.not_mem_nil,or_false] at hi
   subst hi
   ·
    apply Zbu rfl rfl ev
    ·
     simp +decide only [go_sem,Nat.reduceAdd,Zdp,Zag hla1,Zag hla2]
     (repeat' apply And.intro)<;>first | rfl | exact cl
    ·
     simp +decide only [go_sem,Nat.reduceAdd,Zag hla1,Zag hla2]
     refine Good.mk [9] kr ⟨_,_,by first | rfl | (simp only [List.append_nil,List.nil_append];done) | (simp only [List.append_nil,List.nil_append];rfl)⟩ ?_ ?_
     ·
      intro h;exact absurd h (by decide)
     ·
      intro i hi;simp only [List.mem_cons,List.not_mem_nil,or_false] at hi
      subst hi
      ·
       apply Zbu rfl rfl ev
       ·
        simp +decide only [go_sem,Nat.reduceAdd,Zdp,Zag hla1,Zag hla2]
        (repeat' apply And.intro)<;>first | rfl | exact cl
       ·
        simp +decide only [go_sem,Nat.reduceAdd,Zag hla1,Zag hla2]
        refine Good.mk [] kr ⟨_,_,by first | rfl | (simp only [List.append_nil,List.nil_append];done) | (simp only [List.append_nil,List.nil_append];rfl)⟩ ?_ ?_
        ·
         intro _;apply ZbQ [6];first | (simp +decide only [go_sem,Nat.reduceAdd,Zag hla1,Zag hla2];done) | (simp +decide only [go_sem,Nat.reduceAdd,Zag hla1,Zag hla2];rfl)
        ·
         intro i hi;cases hi
 simp +decide only [go_sem,Nat.reduceAdd,Zag hla1,Zag hla2]
 (repeat' apply And.intro)<;>first | refine c _ _ ?_ | exact cl
 clear c
 refine rg [4] hs ?_
 exact rt h hs b hO
def Zb3 (a0:Ty) (a1:Ty):Bool :=
 (decide (a1.min≤a0.min))&&(decide (a0.max≤a1.max))
theorem Znk (w0:World) (B:List (List AV)) (Rw:List RowA) (L:List LoopA) (a0:Ty) (a1:Ty) (r:Bool) (h:Zb3 a0 a1=r) :
  ACalls Tryz.prog w0 149 [.agg (a0.cs),.agg (a1.cs)] ⟨B,Rw,L⟩ fun x st=>x = .val (.bool r)∧st=⟨B,Rw,L⟩:=by
 rw [Zb3] at h
 refine hd [.tmp 4] Tryz.func149 Tryz.ntmps149 fun M0 W0 hN b c a hu hO hs=>?_
 simp only [Zaq]
 refine rg [2,3] hs ?_
 refine rg [4] hs ?_
 exact rT h hs a hO
theorem ZcF (w0:World) (B:List (List AV)) (Rw:List RowA) (L:List LoopA) (a0:Ty) (a1:Ty) :
  ACalls Tryz.prog w0 149 [.agg (a0.cs),.agg (a1.cs)] ⟨B,Rw,L⟩ fun x st=>x = .val (.bool (Zb3 a0 a1))∧st=⟨B,Rw,L⟩:=Znk w0 B Rw L a0 a1 _ rfl
def Zdy (n:Nat)  : Option Int :=
 some ((-1))
def ZcA (n:Nat) (a0:List ByteArray) (a1:ByteArray→Option Bool):Nat→Int→Option Int
 | 0,_=>none
 | m+1,x8_l6 =>
  if decide (x8_l6<((a0.length:Int))) then
   (idx a0 x8_l6).bind fun x13 =>
   (a1 x13).bind fun y14 =>
   if y14 then
    some (x8_l6)
   else
    if I64 (x8_l6+1) then
     (ZcA n a0 a1 m) (x8_l6+1)
    else none
  else
   Zdy n 
def ZdJ (n:Nat) (a0:List ByteArray) (a1:ByteArray→Option Bool):Option Int :=
 ZcA n a0 a1 n 0
theorem ZiQ (w0:World) (n:Nat) (B:List (List AV)) (Rw:List RowA) (L:List LoopA) (a0:List ByteArray) (fa1:FuncId) (ca1:List AV) (a1:ByteArray→Option Bool) (ha1:∀ (x0:ByteArray) r,a1 x0=some r→∀ B' rows,B <+: B'→Rw <+: rows→ACalls Tryz.prog w0 fa1 ([.val (.string x0)]++ca1) ⟨B',rows,L⟩ fun v s=>v = .val (.bool r)∧s=⟨B',rows,L⟩) (r:Int) (h:ZdJ n a0 a1=some r) :
  ACalls Tryz.prog w0 229 [.list (a0.map avS) .none,.clo fa1 ca1] ⟨B,Rw,L⟩ fun x st=>x = .val (.int .i64 r)∧st=⟨B,Rw,L⟩:=by
 rw [ZdJ] at h
 refine hd [.tmp 4] Tryz.func229 Tryz.ntmps229 fun M0 W0 hN k q a hu hO hs=>?_
 simp only [Zaq]
 have c:=ZbC (hu (.clo fa1 ca1) (by simp))
 refine rg [0,1] hs ?_
 refine Zak (fun e st=>Ck e st B Rw L [] [] [] (Zdy n  = some r)) ?_ ?_
 ·
  intro K4 t
  refine rg [0,1,7,8] hs ?_
  apply Zad
  refine Zao (fun m e st=>∃ (b:Int),Ck e st B Rw L [(0,true,.list (a0.map avS) .none),(1,true,.clo fa1 ca1),(7,true,.val (.int .i64 ((a0.length:Int)))),(8,true,.val (.int .i64 b))] [] [] (ZcA n a0 a1 m b=some r)) n ⟨0,([]),Rw,ef hs,ef hs,hO,h⟩ ?_
  rintro ml6 e st ⟨b,Xl6,Rl6,rfl,rfl,hO,h⟩ Ul6 Vl6
  cases ml6 with
  | zero=>cases h
  | succ ml6 =>
  rw [ZcA] at h
  refine ZaD hN k q rfl a hO (owf c hO) (owf c hO) ?_
  refine rg [0,1,7,8,9] hs ?_
  apply Zaa;intro K8 o
  refine cnd h hs (fun hs h=>?_) (fun hs h=>?_)
  rotate_left
  ·
   refine sx [] hs t ?_
   exact ⟨([]),Rl6,ef hs,ef hs,hO,h⟩
  refine sk [0,1,7,8] hs o ?_
  clear o
  apply Zaa;intro K10 d
  apply Zad
  refine rg [0,1,5,7,8] hs ?_
  obtain ⟨u,l,h⟩:=bind_some h
  obtain ⟨w,y,i⟩:=Zan l
  have j:=Zap (f:=avS) i
  obtain ⟨aa,p,h⟩:=bind_some h
  have hs:=And.intro j hs
  refine rc 2 [0,1,5,7,8,16] hs ?_;intro K12 g
  refine ZeR _ (ha1 u _ p _ _ px hO.pre) (hv hs) ?_
  refine ne hs g ?_
  clear g
  refine cnd h hs (fun hs h=>?_) (fun hs h=>?_)
  ·
   refine rg [4] hs ?_
   exact rt h hs a hO
  refine sk [0,1,7,8] hs d ?_
  clear d
  obtain ⟨z,h⟩:=Zab h
  refine rl [0,1,7,8] hs (fun e s=>Vl6 ml6 e s (Nat.lt_succ_self _)) ?_
  exact ⟨(b+1),([]),Rl6,ef hs,ef hs,hO,h⟩
 ·
  clear h;rintro e st ⟨Xk3,Rk3,rfl,rfl,hO,h⟩
  rw [Zdy] at h
  refine ZaD hN k q rfl a hO (owf c hO) (owf c hO) ?_
  refine rg [4] hs ?_
  exact rt h hs a hO
def Zc6 (n:Nat) (a0:List ByteArray) (a1:ByteArray→Option Bool):Option Bool :=
 (ZdJ n a0 a1).bind fun y3 =>
 some (decide (0≤y3))
theorem Zhs (w0:World) (n:Nat) (B:List (List AV)) (Rw:List RowA) (L:List LoopA) (a0:List ByteArray) (fa1:FuncId) (ca1:List AV) (a1:ByteArray→Option Bool) (ha1:∀ (x0:ByteArray) r,a1 x0=some r→∀ B' rows,B <+: B'→Rw <+: rows→ACalls Tryz.prog w0 fa1 ([.val (.string x0)]++ca1) ⟨B',rows,L⟩ fun v s=>v = .val (.bool r)∧s=⟨B',rows,L⟩) (r:Bool) (h:Zc6 n a0 a1=some r) :
  ACalls Tryz.prog w0 199 [.list (a0.map avS) .none,.clo fa1 ca1] ⟨B,Rw,L⟩ fun x st=>x = .val (.bool r)∧st=⟨B,Rw,L⟩:=by
 rw [Zc6] at h
 refine hd [.tmp 4] Tryz.func199 Tryz.ntmps199 fun M0 W0 hN g i b hu hO hs=>?_
 simp only [Zaq]
 have d:=ZbC (hu (.clo fa1 ca1) (by simp))
 refine rg [0,1] hs ?_
 obtain ⟨y3,f,h⟩:=bind_some h
 refine rc 2 [4] hs ?_;intro K2 c
 refine Zac _ (ZiQ w0 n _ _ _ a0 fa1 ca1 a1 (fun x0 r hx e a q1 q2=>ha1 x0 r hx e a (List.IsPrefix.trans px q1) (hO.pre.trans q2)) _ f) (hv hs) ?_
 refine ne hs c ?_
 clear c
 exact rt h hs b hO
def Zhv (n:Nat) (a0:Ty) (a1:Ty):Option Bool :=
 if decide (0<((a0.words.length:Int))) then
  (Zc6 n a0.words (fun (x0:ByteArray)=>Zew n x0 a0 a1)).bind fun y6 =>
  some (!y6)
 else
  if decide (0<((a1.words.length:Int))) then
   if decide (a0.max=0) then
    (ZaR n a1.words ((⟨#[]⟩:ByteArray))).bind fun y11 =>
    some (y11)
   else
    some (false)
  else
   some (Zb3 a0 a1)
theorem Znr (w0:World) (n:Nat) (B:List (List AV)) (Rw:List RowA) (L:List LoopA) (a0:Ty) (a1:Ty) (r:Bool) (h:Zhv n a0 a1=some r) :
  ACalls Tryz.prog w0 148 [.agg (a0.cs),.agg (a1.cs)] ⟨B,Rw,L⟩ fun x st=>x = .val (.bool r)∧st=⟨B,Rw,L⟩:=by
 rw [Zhv] at h
 refine hd [.tmp 4] Tryz.func148 Tryz.ntmps148 fun M0 W0 hN k m a hu hO hs=>?_
 simp only [Zaq]
 refine rg [2,3] hs ?_
 apply Zaa;intro K2 e
 apply Zad
 refine rg [2,3,5] hs ?_
 refine cnd h hs (fun hs h=>?_) (fun hs h=>?_)
 ·
  obtain ⟨y6,i,h⟩:=bind_some h
  refine rc 2 [4] hs ?_;intro K5 f
  refine Zac _ (Zhs w0 n _ _ _ a0.words 200 [.box B.length 0,.box (B.length+1) 0] (fun (x0:ByteArray)=>Zew n x0 a0 a1) (fun x0 r hx B' j d l=>by exact ZlK w0 n _ _ _ x0 _ a0 (ZcE d (ef hs)) _ a1 (ZcE d (ef hs)) _ hx) _ i) (hv hs) ?_
  refine ne hs f ?_
  clear f
  exact rt h hs a hO
 refine rg [2,3,15] hs ?_
 refine cnd h hs (fun hs h=>?_) (fun hs h=>?_)
 ·
  apply Zaa;intro K9 b
  rcases Bool.eq_false_or_eq_true (decide (a0.max=0)) with hf10 | hf10
  ·
   replace h:=Za9 h hf10
   obtain ⟨o,g,h⟩:=bind_some h
   have hs:=And.intro hf10 hs
   refine rk 2 [4] hs ?_
   refine Zac _ (ZcI w0 n _ _ _ a1.words ((⟨#[]⟩:ByteArray)) _ g) (hv hs) ?_
   refine ne hs b ?_
   clear b
   exact rt h hs a hO
  ·
   replace h:=Zba h hf10
   have hs:=And.intro hf10 hs
   refine rk 2 [4] hs ?_
   refine Zau ?_
   refine ne hs b ?_
   clear b
   exact rt h hs a hO
 refine sk [2,3] hs e ?_
 clear e
 refine rc 2 [4] hs ?_;intro K12 c
 refine Zac _ (ZcF w0 _ _ _ a0 a1) (hv hs) ?_
 refine ne hs c ?_
 clear c
 exact rt h hs a hO
def ZcX (rec:Ty→Ty→Option Bool) (n:Nat) (a0:Ty) (a1:Ty) (x13_k9:Bool):Option Bool :=
 if x13_k9 then
  (Zgs n a0 a1).bind fun y15 =>
  some (y15)
 else
  if decide (a1.kind=1) then
   some (true)
  else
   if decide (a1.kind=4) then
    (Zhv n a0 a1).bind fun y22 =>
    some (y22)
   else
    if decide (a1.kind=8) then
     if Zb3 a0 a1 then
      if decide (a0.max=0) then
       some (true)
      else
       (idx a0.elem 0).bind fun x28 =>
       (idx a1.elem 0).bind fun x29 =>
       (rec x28 x29).bind fun y30 =>
       some (y30)
     else
      some (false)
    else
     if decide (a1.kind=9) then
      (Zas n a1.fields (fun (x0:Int × ByteArray × Int × Ty × List Vl)=>ZcK rec n x0 a0)).bind fun y34 =>
      some (!y34)
     else
      if decide (a1.kind=10) then
       (Zas n a0.fields (fun (x0:Int × ByteArray × Int × Ty × List Vl)=>ZcJ rec n x0 a1)).bind fun y38 =>
       some (!y38)
      else
       some (Zb3 a0 a1)
def ZeA (rec:Ty→Ty→Option Bool) (n:Nat) (a0:Ty) (a1:Ty):Option Bool :=
 if !(Zb2 a0.kind a1.kind) then
  some (false)
 else
  if decide (a1.kind=2) then
   ZcX rec n a0 a1 true
  else
   ZcX rec n a0 a1 (decide (a1.kind=3))
def Zdi:Nat→Ty→Ty→Option Bool
 | 0,_,_=>none
 | n+1,a0,a1=>ZeA (Zdi n) n a0 a1
def ZeT (w0:World) (F:Ty→Ty→Option Bool):Prop:=∀ (B:List (List AV)) (Rw:List RowA) (L:List LoopA) (a0:Ty) (a1:Ty) (r:Bool),F a0 a1=some r→ACalls Tryz.prog w0 90 [.agg (a0.cs),.agg (a1.cs)] ⟨B,Rw,L⟩ fun x st=>x = .val (.bool r)∧st=⟨B,Rw,L⟩
theorem ZiR (w0:World) (rec:Ty→Ty→Option Bool) (ih:ZeT w0 rec) (n:Nat):ZeT w0 (ZeA rec n):=by
 intro B Rw L a0 a1 r h
 rw [ZeA] at h
 refine hd [.tmp 4] Tryz.func90 Tryz.ntmps90 fun M0 W0 hN ae ah a hu hO hs=>?_
 simp only [Zaq]
 refine rg [2,3] hs ?_
 apply Zaa;intro K2 aa
 refine rc 2 [2,3,10] hs ?_;intro K3 t
 refine Zac _ (Zg3 w0 _ _ _ a0.kind a1.kind) (hv hs) ?_
 refine ne hs t ?_
 clear t
 refine cnd h hs (fun hs h=>?_) (fun hs h=>?_)
 ·
  refine rg [4] hs ?_
  exact rt h hs a hO
 refine sk [2,3] hs aa ?_
 clear aa
 apply Zaa;intro K6 w
 refine rg [2,3,12] hs ?_
 apply Zad
 refine Zak (fun e st=>∃ (c:Bool),Ck e st B Rw L [(2,true,.box B.length 0),(3,true,.box (B.length+1) 0),(12,true,.val (.int .i64 a1.kind)),(13,true,.val (.bool c))] [a0.cs,a1.cs] [] (ZcX rec n a0 a1 c=some r)) ?_ ?_
 ·
  intro K10 l
  refine rg [2,3,12,13] hs ?_
  refine cnd h hs (fun hs h=>?_) (fun hs h=>?_)
  ·
   refine sk [2,3,12,13] hs l ?_
   exact ⟨true,([]),Rw,ef hs,ef hs,hO,h⟩
  refine rl [2,3,12,13] hs l ?_
  exact ⟨(decide (a1.kind=3)),([]),Rw,ef hs,ef hs,hO,h⟩
 ·
  clear h;rintro e st ⟨c,Xk9,Rk9,rfl,rfl,hO,h⟩
  rw [ZcX] at h
  refine td hN ae ah a hO ?_
  refine cnd h hs (fun hs h=>?_) (fun hs h=>?_)
  ·
   obtain ⟨aq,v,h⟩:=bind_some h
   refine rc 2 [4] hs ?_;intro K14 m
   refine Zac _ (Zlj w0 n _ _ _ a0 a1 _ v) (hv hs) ?_
   refine ne hs m ?_
   clear m
   exact rt h hs a hO
  refine rg [2,3,12,19] hs ?_
  refine cnd h hs (fun hs h=>?_) (fun hs h=>?_)
  ·
   refine rg [4] hs ?_
   exact rt h hs a hO
  refine rg [2,3,12,21] hs ?_
  refine cnd h hs (fun hs h=>?_) (fun hs h=>?_)
  ·
   obtain ⟨ap,u,h⟩:=bind_some h
   refine rc 2 [4] hs ?_;intro K21 j
   refine Zac _ (Znr w0 n _ _ _ a0 a1 _ u) (hv hs) ?_
   refine ne hs j ?_
   clear j
   exact rt h hs a hO
  refine rg [2,3,12,26] hs ?_
  refine cnd h hs (fun hs h=>?_) (fun hs h=>?_)
  ·
   apply Zaa;intro K25 b
   rcases Bool.eq_false_or_eq_true (Zb3 a0 a1) with hf26 | hf26
   ·
    replace h:=Za9 h hf26
    rcases Bool.eq_false_or_eq_true (decide (a0.max=0)) with hf27 | hf27
    ·
     replace h:=Za9 h hf27
     have hs:=And.intro hf26 hs
     have hs:=And.intro hf27 hs
     refine dk 20 3 1 [4] hs mix ?_
     refine Zac _ (ZcF w0 _ _ _ a0 a1) (hv hs) ?_
     refine nc hs ?_
     refine Zau ?_
     refine dn hs b ?_
     clear b
     exact rt h hs a hO
    ·
     replace h:=Zba h hf27
     obtain ⟨ad,ag,aj,d,h⟩:=ix avT h
     have o:(a0.elem.map avT).getD 0 .junk=_:=d
     obtain ⟨ai,ak,af,f,h⟩:=ix avT h
     have q:(a1.elem.map avT).getD 0 .junk=_:=f
     obtain ⟨am,x,h⟩:=bind_some h
     have hs:=And.intro hf26 hs
     have hs:=And.intro hf27 hs
     have hs:=And.intro d hs
     have hs:=And.intro o hs
     have hs:=And.intro f hs
     have hs:=And.intro q hs
     refine dk 20 3 1 [4] hs mix ?_
     refine Zac _ (ZcF w0 _ _ _ a0 a1) (hv hs) ?_
     refine nc hs ?_
     refine Zac _ (ih _ _ _ ad ai _ x) (hv hs) ?_
     refine dn hs b ?_
     clear b
     exact rt h hs a hO
   ·
    replace h:=Zba h hf26
    have hs:=And.intro hf26 hs
    refine dk 20 3 1 [4] hs mix ?_
    refine Zac _ (ZcF w0 _ _ _ a0 a1) (hv hs) ?_
    refine nc hs ?_
    refine Zau ?_
    refine dn hs b ?_
    clear b
    exact rt h hs a hO
  refine rg [2,3,12,47] hs ?_
  refine cnd h hs (fun hs h=>?_) (fun hs h=>?_)
  ·
   obtain ⟨ao,y,h⟩:=bind_some h
   refine rc 2 [4] hs ?_;intro K33 i
   refine Zac _ (ZbF w0 n _ _ _ a1.fields 151 [.box B.length 0] (fun (x0:Int × ByteArray × Int × Ty × List Vl)=>ZcK rec n x0 a0) (fun x0 r hx B' s p ab=>by exact ZiP w0 rec ih n _ _ _ x0 _ a0 (ZcE p (ef hs)) _ hx) _ y) (hv hs) ?_
   refine ne hs i ?_
   clear i
   exact rt h hs a hO
  refine rg [2,3,54] hs ?_
  refine cnd h hs (fun hs h=>?_) (fun hs h=>?_)
  ·
   obtain ⟨ar,z,h⟩:=bind_some h
   refine rc 2 [4] hs ?_;intro K37 k
   refine Zac _ (ZbF w0 n _ _ _ a0.fields 153 [.box (B.length+1) 0] (fun (x0:Int × ByteArray × Int × Ty × List Vl)=>ZcJ rec n x0 a1) (fun x0 r hx B' s p ab=>by exact ZiT w0 rec ih n _ _ _ x0 _ a1 (ZcE p (ef hs)) _ hx) _ z) (hv hs) ?_
   refine ne hs k ?_
   clear k
   exact rt h hs a hO
  refine sk [2,3] hs w ?_
  clear w
  refine rc 2 [4] hs ?_;intro K39 g
  refine Zac _ (ZcF w0 _ _ _ a0 a1) (hv hs) ?_
  refine ne hs g ?_
  clear g
  exact rt h hs a hO
theorem ZgA (w0:World):∀ n:Nat,ZeT w0 (Zdi n)
 | 0=>fun _ _ _ _ _ _ h=>(nomatch h)
 | n+1=>ZiR w0 (Zdi n) (ZgA w0 n) n
def ZdG (rec:Ty→Ty→ByteArray→(List (ByteArray × Int))→Option ((List (ByteArray × Int)))) (n:Nat) (again_l15:Int→(List (ByteArray × Int))→Option ((List (ByteArray × Int)))) (x42_l15:Int) (pla3_k20:List (ByteArray × Int)):Option ((List (ByteArray × Int))) :=
 if I64 (x42_l15+1) then
  again_l15 (x42_l15+1) pla3_k20
 else none
def ZdB (rec:Ty→Ty→ByteArray→(List (ByteArray × Int))→Option ((List (ByteArray × Int)))) (n:Nat) (again_l58:Int→(List (ByteArray × Int))→Option ((List (ByteArray × Int)))) (x98_l58:Int) (pla3_k63:List (ByteArray × Int)):Option ((List (ByteArray × Int))) :=
 if I64 (x98_l58+1) then
  again_l58 (x98_l58+1) pla3_k63
 else none
def ZdC (rec:Ty→Ty→ByteArray→(List (ByteArray × Int))→Option ((List (ByteArray × Int)))) (n:Nat) (a0:Ty) (a1:Ty) (a2:ByteArray) (pla3_k79:List (ByteArray × Int)):Option ((List (ByteArray × Int))) :=
 (idx a0.elem 0).bind fun x86 =>
 (idx a1.elem 0).bind fun x87 =>
 if a2.size+((⟨#[91,42,93]⟩:ByteArray)).size≤9223372036854775807 then
  (rec x86 x87 (a2++((⟨#[91,42,93]⟩:ByteArray))) pla3_k79).bind fun y89 =>
  some (y89)
 else none
def ZdF (rec:Ty→Ty→ByteArray→(List (ByteArray × Int))→Option ((List (ByteArray × Int)))) (n:Nat) (again_l15:Int→(List (ByteArray × Int))→Option ((List (ByteArray × Int)))) (a1:Ty) (a2:ByteArray) (x42_l15:Int) (x23:Int × ByteArray × Int × Ty × List Vl) (y25:((Int × ByteArray × Int × Ty × List Vl) × Bool)) (pla3_k44:List (ByteArray × Int)):Option ((List (ByteArray × Int))) :=
 (ZbI x23.2.1 a1 a2).bind fun y52 =>
 (rec y25.1.2.2.2.1 x23.2.2.2.1 y52 pla3_k44).bind fun y53 =>
 ZdG rec n again_l15 x42_l15 y53
def Zcb (rec:Ty→Ty→ByteArray→(List (ByteArray × Int))→Option ((List (ByteArray × Int)))) (n:Nat) (a0:Ty) (a1:Ty) (a2:ByteArray):Nat→Int→(List (ByteArray × Int))→Option ((List (ByteArray × Int)))
 | 0,_,_=>none
 | m+1,x98_l58,pla3_l58 =>
  if decide (x98_l58<((a0.fields.length:Int))) then
   (idx a0.fields x98_l58).bind fun x66 =>
   (Zb0 n a1.fields x66.1).bind fun y68 =>
   if !y68.2 then
    (ZbI x66.2.1 a1 a2).bind fun y71 =>
    (Zbe y71 2 pla3_l58).bind fun y72 =>
    ZdB rec n (Zcb rec n a0 a1 a2 m) x98_l58 y72
   else
    ZdB rec n (Zcb rec n a0 a1 a2 m) x98_l58 pla3_l58
  else
   some (pla3_l58)
def ZdH (rec:Ty→Ty→ByteArray→(List (ByteArray × Int))→Option ((List (ByteArray × Int)))) (n:Nat) (again_l15:Int→(List (ByteArray × Int))→Option ((List (ByteArray × Int)))) (a1:Ty) (a2:ByteArray) (x42_l15:Int) (x23:Int × ByteArray × Int × Ty × List Vl) (y25:((Int × ByteArray × Int × Ty × List Vl) × Bool)) (pla3_k35:List (ByteArray × Int)):Option ((List (ByteArray × Int))) :=
 if !(decide (y25.1.2.2.1=x23.2.2.1)) then
  (ZbI x23.2.1 a1 a2).bind fun y48 =>
  (Zbe y48 4 pla3_k35).bind fun y49 =>
  ZdF rec n again_l15 a1 a2 x42_l15 x23 y25 y49
 else
  ZdF rec n again_l15 a1 a2 x42_l15 x23 y25 pla3_k35
def Zfp (rec:Ty→Ty→ByteArray→(List (ByteArray × Int))→Option ((List (ByteArray × Int)))) (n:Nat) (a0:Ty) (a1:Ty) (a2:ByteArray) (pla3_k12:List (ByteArray × Int)):Option ((List (ByteArray × Int))) :=
 Zcb rec n a0 a1 a2 n 0 pla3_k12
def Zbg (rec:Ty→Ty→ByteArray→(List (ByteArray × Int))→Option ((List (ByteArray × Int)))) (n:Nat) (a0:Ty) (a1:Ty) (a2:ByteArray):Nat→Int→(List (ByteArray × Int))→Option ((List (ByteArray × Int)))
 | 0,_,_=>none
 | m+1,x42_l15,pla3_l15 =>
  if decide (x42_l15<((a1.fields.length:Int))) then
   (idx a1.fields x42_l15).bind fun x23 =>
   (Zb0 n a0.fields x23.1).bind fun y25 =>
   if !y25.2 then
    (ZbI x23.2.1 a1 a2).bind fun y30 =>
    (Zbe y30 1 pla3_l15).bind fun y31 =>
    ZdG rec n (Zbg rec n a0 a1 a2 m) x42_l15 y31
   else
    if !(sEq y25.1.2.1 x23.2.1) then
     (ZbI x23.2.1 a1 a2).bind fun y39 =>
     (Zbe y39 3 pla3_l15).bind fun y40 =>
     ZdH rec n (Zbg rec n a0 a1 a2 m) a1 a2 x42_l15 x23 y25 y40
    else
     ZdH rec n (Zbg rec n a0 a1 a2 m) a1 a2 x42_l15 x23 y25 pla3_l15
  else
   Zfp rec n a0 a1 a2 pla3_l15
def Zgy (rec:Ty→Ty→ByteArray→(List (ByteArray × Int))→Option ((List (ByteArray × Int)))) (n:Nat) (a0:Ty) (a1:Ty) (a2:ByteArray) (a3:List (ByteArray × Int)):Option ((List (ByteArray × Int))) :=
 if !(Zb2 a0.kind a1.kind) then
  (Zbe a2 5 a3).bind fun y5 =>
  some (y5)
 else
  if (decide (a1.kind=9))||(decide (a1.kind=10)) then
   Zbg rec n a0 a1 a2 n 0 a3
  else
   if decide (a1.kind=8) then
    if (!(decide (a0.min=a1.min)))||(!(decide (a0.max=a1.max))) then
     (ZdA (Zb3 a0 a1) a3 a2).bind fun y83 =>
     ZdC rec n a0 a1 a2 y83
    else
     ZdC rec n a0 a1 a2 a3
   else
    (ZkS n a0 a1).bind fun y93 =>
    if !y93 then
     (Zdi n a0 a1).bind fun y95 =>
     (ZdA y95 a3 a2).bind fun y96 =>
     some (y96)
    else
     some (a3)
def Zex:Nat→Ty→Ty→ByteArray→(List (ByteArray × Int))→Option ((List (ByteArray × Int)))
 | 0,_,_,_,_=>none
 | n+1,a0,a1,a2,a3=>Zgy (Zex n) n a0 a1 a2 a3
def Zgv (w0:World) (F:Ty→Ty→ByteArray→(List (ByteArray × Int))→Option ((List (ByteArray × Int)))):Prop:=∀ (B:List (List AV)) (Rw:List RowA) (L:List LoopA) (a0:Ty) (a1:Ty) (a2:ByteArray) (la3:Nat) (a3:List (ByteArray × Int)) (oa3:Ev.Own) (hla3:B[la3]? = some [.list (a3.map ZnQ) oa3]) (hGa3:Owns Rw Rw [(2,a3.length,oa3)] oa3) (r:(List (ByteArray × Int))),F a0 a1 a2 a3=some r→ACalls Tryz.prog w0 95 [.agg (a0.cs),.agg (a1.cs),.val (.string a2),.clo 96 [.box la3 0]] ⟨B,Rw,L⟩ fun x st=>x = .tup []∧∃ (R1:List RowA) (o1:Ev.Own),st=⟨(B.set la3 [.list (r.map ZnQ) o1]),R1,L⟩∧Owns Rw R1 [(2,r.length,o1)] oa3
theorem Zkg (w0:World) (rec:Ty→Ty→ByteArray→(List (ByteArray × Int))→Option ((List (ByteArray × Int)))) (ih:Zgv w0 rec) (n:Nat):Zgv w0 (Zgy rec n):=by
 intro B Rw L a0 a1 a2 o a3 a7 a ca r h
 rw [Zgy] at h
 refine ACalls.finG (ZcZ (rs:=[]) Tryz.func95 rfl rfl Tryz.ntmps95 (ZaJ Tryz.func95 rfl (by decide)) (Nat.le_of_ble_eq_true rfl) ?_)
 intro M0 W0 hN a9 ba u hu
 dsimp only at hN a9 ba u hu
 simp only [Zaq]
 have hO:=ca
 have hs:=Zw9
 have cw:=(List.getElem?_eq_some_iff.1 a).1
 have hs:=And.intro (Zag a) hs
 refine rg [4,5,6,7] hs ?_
 refine rg [4,5,6,7,8] hs ?_
 apply Zad
 refine rc 2 [4,5,6,7,8,19] hs ?_;intro K3 b7
 refine Zac _ (Zg3 w0 _ _ _ a0.kind a1.kind) (hv hs) ?_
 refine ne hs b7 ?_
 clear b7
 refine cnd h hs (fun hs h=>?_) (fun hs h=>?_)
 ·
  have c:=hs.1
  obtain ⟨y5,c1,h⟩:=bind_some h
  apply Zaf 2 []
  rw [Zae];simp +decide only [go_sem,Nat.reduceAdd,Zag a,c]
  (repeat' apply And.intro)<;>first | (refine Zbc _ (ZbA w0 _ _ _ a2 5 o a3 a7 (ef hs) hO.enter _ c1) (hv hs) ?_;rintro _ _ ⟨rfl,Rg6,dv,rfl,bz⟩) | exact cl
  have hO:=hO.call bz
  rw [Zae];simp +decide only [go_sem,Nat.reduceAdd,Zag a,c]
  (repeat' with_reducible apply And.intro)<;>first | exact cl | skip
  have hgt:=Option.some.inj h;subst hgt
  have hU:=hO.unders
  simp only [List.mem_cons,List.not_mem_nil,or_false,forall_eq_or_imp,forall_eq] at hU
  refine ZoS hO (Zah (Zep u hO.len) ow) ls_ ev ⟨?_,_,_,?_,(hO.sub (List.sublist_append_left [_] _)).len1 le_⟩
  all_goals first | rfl | (simp +decide only [go_sem,Nat.reduceAdd,Zag a,c];done) | (simp +decide only [go_sem,Nat.reduceAdd,Vl.cs,Ty.cs,Zag a,c];done)
 have c:=hs.1
 refine rg [4,5,6,7,8,29] hs ?_
 refine cnd h hs (fun hs h=>?_) (fun hs h=>?_)
 ·
  have d:=hs.1
  refine rg [4,5,7,9] hs ?_
  refine Zak (fun e st=>∃ (aj:List (ByteArray × Int)) (ar:Ev.Own) (Xk12:List (List AV)) (Rk12:List RowA),e=[(4,true,.box B.length 0),(5,true,.box (B.length+1) 0),(7,true,.box (B.length+3) 0),(9,true,.clo 162 [.box (B.length+1) 0,.box (B.length+2) 0])]∧st=⟨(B.set o ([.list (aj.map ZnQ) ar]))++([a0.cs,a1.cs,[.val (.string a2)],[.clo 96 [.box o 0]]]++Xk12),Rk12,L⟩∧Owns Rw Rk12 [(2,aj.length,ar)] a7∧Zfp rec n a0 a1 a2 aj=some r) ?_ ?_
  ·
   intro K13 ct
   refine rg [4,5,7,9,40,41,42] hs ?_
   apply Zad
   refine Zao (fun m e st=>∃ (p:Int) (t:List (ByteArray × Int)) (q:Ev.Own) (Xl15:List (List AV)) (Rl15:List RowA),e=[(4,true,.box B.length 0),(5,true,.box (B.length+1) 0),(7,true,.box (B.length+3) 0),(9,true,.clo 162 [.box (B.length+1) 0,.box (B.length+2) 0]),(40,true,.list (a1.fields.map ZeF) .none),(41,true,.val (.int .i64 ((a1.fields.length:Int)))),(42,true,.val (.int .i64 p))]∧st=⟨(B.set o ([.list (t.map ZnQ) q]))++([a0.cs,a1.cs,[.val (.string a2)],[.clo 96 [.box o 0]]]++Xl15),Rl15,L⟩∧Owns Rw Rl15 [(2,t.length,q)] a7∧Zbg rec n a0 a1 a2 m p t=some r) n ⟨0,a3,a7,([]),Rw,ef hs,ef hs,Owns.of_eq (hO) le_,h⟩ ?_
   rintro ml15 e st ⟨p,t,q,Xl15,Rl15,rfl,rfl,hO,h⟩ Ul15 Vl15
   cases ml15 with
   | zero=>cases h
   | succ ml15 =>
   rw [Zbg] at h
   have hU:=hO.unders
   simp only [List.mem_cons,List.not_mem_nil,or_false,forall_eq_or_imp,forall_eq] at hU
   refine Zgm hN a9 ba ls_ (Zah (Zep u hO.len) ow) hO ow ow ?_
   refine rg [4,5,7,9,40,41,42,43] hs ?_
   apply Zaa;intro K17 bq
   refine cnd h hs (fun hs h=>?_) (fun hs h=>?_)
   rotate_left
   ·
    have j:=hs.1
    refine sx [4,5,7,9] hs ct ?_
    exact ⟨t,q,([]),Rl15,ef hs,ef hs,Owns.of_eq (hO) le_,h⟩
   have j:=hs.1
   refine sk [4,5,7,9,40,41,42] hs bq ?_
   clear bq
   refine Zak (fun e st=>∃ (ap:List (ByteArray × Int)) (aq:Ev.Own) (Xk20:List (List AV)) (Rk20:List RowA),e=[(4,true,.box B.length 0),(5,true,.box (B.length+1) 0),(7,true,.box (B.length+3) 0),(9,true,.clo 162 [.box (B.length+1) 0,.box (B.length+2) 0]),(40,true,.list (a1.fields.map ZeF) .none),(41,true,.val (.int .i64 ((a1.fields.length:Int)))),(42,true,.val (.int .i64 p))]∧st=⟨(B.set o ([.list (ap.map ZnQ) aq]))++([a0.cs,a1.cs,[.val (.string a2)],[.clo 96 [.box o 0]]]++Xk20),Rk20,L⟩∧Owns Rw Rk20 [(2,ap.length,aq)] a7∧ZdG rec n (Zbg rec n a0 a1 a2 ml15) p ap=some r) ?_ ?_
   ·
    intro K21 bm
    apply Zad
    obtain ⟨k,b2,h⟩:=bind_some h
    obtain ⟨c4,de,bw⟩:=Zan b2
    have b:=Zap (f:=ZeF) bw
    have hs:=And.intro b hs
    refine rg [4,5,7,9,11,40,41,42] hs ?_
    obtain ⟨l,ce,h⟩:=bind_some h
    refine rc 2 [4,5,7,9,11,12,13,40,41,42] hs ?_;intro K24 bk
    refine Zac _ (Zdx w0 n _ _ _ a0.fields k.1 _ ce) (hv hs) ?_
    refine ne hs bk ?_
    clear bk
    apply Zaa;intro K26 br
    refine rg [4,5,7,9,11,12,40,41,42,55] hs ?_
    refine cnd h hs (fun hs h=>?_) (fun hs h=>?_)
    ·
     have g:=hs.1
     apply Zaa;intro K29 bn
     obtain ⟨db,cq,h⟩:=bind_some h
     obtain ⟨dm,ci,h⟩:=bind_some h
     apply ZjM mix [5] [4,5,7,9,40,41,42] kr (fun s=>∃ (X:List (List AV)) (x:List RowA) (w:List AV),s=⟨(B.set o w)++([a0.cs,a1.cs,[.val (.string a2)],[.clo 96 [.box o 0]],.val (.int .i64 k.1)::(.val (.string k.2.1)::(.val (.int .i64 k.2.2.1)::((k.2.2.2.1.cs)++([.list (k.2.2.2.2.map avV) .none])))),.val (.int .i64 l.1.1)::(.val (.string l.1.2.1)::(.val (.int .i64 l.1.2.2.1)::((l.1.2.2.2.1.cs)++([.list (l.1.2.2.2.2.map avV) .none]))))]++X),x,L⟩) 2 (B.length+6)
     ·
      simp +decide only [go_sem,Nat.reduceAdd]
     ·
      rintro s ⟨X,x,w,rfl⟩
      refine ⟨2,?_⟩
      rw [Zae];simp +decide only [go_sem,Nat.reduceAdd,Zef,Zag a,c,d,j,b,g]
      (repeat' apply And.intro)<;>first | refine Zac _ (Zcx w0 _ _ _ k.2.1 (B.length+1) a1 (ef hs) (B.length+2) a2 (ef hs) _ cq) (hv hs) ?_ | exact cl
      rw [Zae];simp +decide only [go_sem,Nat.reduceAdd,Zag a,c,d,j,b,g]
      (repeat' apply And.intro)<;>first | rfl | exact cl
     ·
      refine Good.mk [5] kr ⟨[],_,_,by first | rfl | simp only [List.append_nil,List.nil_append]⟩ ?_ ?_
      ·
       intro h;exact absurd h (by decide)
      ·
       intro i hi;simp only [List.mem_cons,List.not_mem_nil,or_false] at hi
       subst hi
       ·
        apply ZgM rfl rfl ev rfl
        ·
         simp +decide only [go_sem,Nat.reduceAdd,Zag a,c,d,j,b,g]
        ·
         simp +decide only [go_sem,Nat.reduceAdd,Zag a,c,d,j,b,g]
        ·
         simp +decide only [go_sem,Nat.reduceAdd,Zag a,c,d,j,b,g]
         exact (ZbA w0 _ _ _ db 1 o t q (ef hs) hO.enter _ ci).pub (hv hs)
        ·
         rintro _ _ ⟨rfl,Rg32,ch,rfl,bf⟩
         have hO:=hO.call bf
         simp +decide only [go_sem,Nat.reduceAdd,Zag a,c,d,j,b,g]
         refine Good.mk [] kr ⟨[],_,_,by first | rfl | simp only [List.append_nil,List.nil_append]⟩ ?_ ?_
         ·
          intro _;refine ⟨_,_,ZbQ [4,5,7,9,40,41,42] (by first | (simp +decide only [go_sem,Nat.reduceAdd,Zag a,c,d,j,b,g];done) | (simp +decide only [go_sem,Nat.reduceAdd,Zag a,c,d,j,b,g];rfl)),?_⟩
          try simp +decide only [go_sem,Nat.reduceAdd,Zag a,c,d,j,b,g]
          (repeat' apply And.intro)<;>first | refine bn _ _ ?_ | exact cl
          clear bn
          refine sx [4,5,7,9,40,41,42] hs bm ?_
          exact ⟨dm,ch,([.val (.int .i64 k.1)::(.val (.string k.2.1)::(.val (.int .i64 k.2.2.1)::((k.2.2.2.1.cs)++([.list (k.2.2.2.2.map avV) .none])))),.val (.int .i64 l.1.1)::(.val (.string l.1.2.1)::(.val (.int .i64 l.1.2.2.1)::((l.1.2.2.2.1.cs)++([.list (l.1.2.2.2.2.map avV) .none]))))]),Rg32,ef hs,ef hs,Owns.of_eq (hO) le_,h⟩
         ·
          intro i hi;cases hi
    have g:=hs.1
    refine sk [4,5,7,9,11,12,40,41,42] hs br ?_
    clear br
    refine Zak (fun e st=>∃ (aa:List (ByteArray × Int)) (ae:Ev.Own) (Xk35:List (List AV)) (Rk35:List RowA),e=[(4,true,.box B.length 0),(5,true,.box (B.length+1) 0),(7,true,.box (B.length+3) 0),(9,true,.clo 162 [.box (B.length+1) 0,.box (B.length+2) 0]),(11,true,.box (B.length+4) 0),(12,true,.box (B.length+5) 0),(40,true,.list (a1.fields.map ZeF) .none),(41,true,.val (.int .i64 ((a1.fields.length:Int)))),(42,true,.val (.int .i64 p))]∧st=⟨(B.set o ([.list (aa.map ZnQ) ae]))++([a0.cs,a1.cs,[.val (.string a2)],[.clo 96 [.box o 0]],.val (.int .i64 k.1)::(.val (.string k.2.1)::(.val (.int .i64 k.2.2.1)::((k.2.2.2.1.cs)++([.list (k.2.2.2.2.map avV) .none])))),.val (.int .i64 l.1.1)::(.val (.string l.1.2.1)::(.val (.int .i64 l.1.2.2.1)::((l.1.2.2.2.1.cs)++([.list (l.1.2.2.2.2.map avV) .none]))))]++Xk35),Rk35,L⟩∧Owns Rw Rk35 [(2,aa.length,ae)] a7∧ZdH rec n (Zbg rec n a0 a1 a2 ml15) a1 a2 p k l aa=some r) ?_ ?_
    ·
     intro K36 bl
     refine rg [4,5,7,9,11,12,40,41,42,66] hs ?_
     refine cnd h hs (fun hs h=>?_) (fun hs h=>?_)
     ·
      have a5:=hs.1
      obtain ⟨cz,b0,h⟩:=bind_some h
      obtain ⟨df,cu,h⟩:=bind_some h
      apply ZjM mix [5] [4,5,7,9,11,12,40,41,42] kr (fun s=>∃ (X:List (List AV)) (x:List RowA) (w:List AV),s=⟨(B.set o w)++([a0.cs,a1.cs,[.val (.string a2)],[.clo 96 [.box o 0]],.val (.int .i64 k.1)::(.val (.string k.2.1)::(.val (.int .i64 k.2.2.1)::((k.2.2.2.1.cs)++([.list (k.2.2.2.2.map avV) .none])))),.val (.int .i64 l.1.1)::(.val (.string l.1.2.1)::(.val (.int .i64 l.1.2.2.1)::((l.1.2.2.2.1.cs)++([.list (l.1.2.2.2.2.map avV) .none]))))]++X),x,L⟩) 2 (B.length+6)
      ·
       simp +decide only [go_sem,Nat.reduceAdd]
      ·
       rintro s ⟨X,x,w,rfl⟩
       refine ⟨2,?_⟩
       rw [Zae];simp +decide only [go_sem,Nat.reduceAdd,Zef,Zag a,c,d,j,b,g,a5]
       (repeat' apply And.intro)<;>first | refine Zac _ (Zcx w0 _ _ _ k.2.1 (B.length+1) a1 (ef hs) (B.length+2) a2 (ef hs) _ b0) (hv hs) ?_ | exact cl
       rw [Zae];simp +decide only [go_sem,Nat.reduceAdd,Zag a,c,d,j,b,g,a5]
       (repeat' apply And.intro)<;>first | rfl | exact cl
      ·
       refine Good.mk [5] kr ⟨[],_,_,by first | rfl | simp only [List.append_nil,List.nil_append]⟩ ?_ ?_
       ·
        intro h;exact absurd h (by decide)
       ·
        intro i hi;simp only [List.mem_cons,List.not_mem_nil,or_false] at hi
        subst hi
        ·
         apply ZgM rfl rfl ev rfl
         ·
          simp +decide only [go_sem,Nat.reduceAdd,Zag a,c,d,j,b,g,a5]
         ·
          simp +decide only [go_sem,Nat.reduceAdd,Zag a,c,d,j,b,g,a5]
         ·
          simp +decide only [go_sem,Nat.reduceAdd,Zag a,c,d,j,b,g,a5]
          exact (ZbA w0 _ _ _ cz 3 o t q (ef hs) hO.enter _ cu).pub (hv hs)
         ·
          rintro _ _ ⟨rfl,Rg41,ck,rfl,bg⟩
          have hO:=hO.call bg
          simp +decide only [go_sem,Nat.reduceAdd,Zag a,c,d,j,b,g,a5]
          refine Good.mk [] kr ⟨[],_,_,by first | rfl | simp only [List.append_nil,List.nil_append]⟩ ?_ ?_
          ·
           intro _;refine ⟨_,_,ZbQ [4,5,7,9,11,12,40,41,42] (by first | (simp +decide only [go_sem,Nat.reduceAdd,Zag a,c,d,j,b,g,a5];done) | (simp +decide only [go_sem,Nat.reduceAdd,Zag a,c,d,j,b,g,a5];rfl)),?_⟩
           try simp +decide only [go_sem,Nat.reduceAdd,Zag a,c,d,j,b,g,a5]
           (repeat' apply And.intro)<;>first | refine bl _ _ ⟨df,ck,([]),Rg41,ef hs,ef hs,Owns.of_eq (hO) le_,h⟩ | exact cl
          ·
           intro i hi;cases hi
     have a5:=hs.1
     refine sk [4,5,7,9,11,12,40,41,42] hs bl ?_
     exact ⟨t,q,([]),Rl15,ef hs,ef hs,Owns.of_eq (hO) le_,h⟩
    ·
     clear h;rintro e st ⟨aa,ae,Xk35,Rk35,rfl,rfl,hO,h⟩
     rw [ZdH] at h
     have hU:=hO.unders
     simp only [List.mem_cons,List.not_mem_nil,or_false,forall_eq_or_imp,forall_eq] at hU
     refine Zgm hN a9 ba ls_ (Zah (Zep u hO.len) ow) hO ow ow ?_
     refine Zak (fun e st=>∃ (ao:List (ByteArray × Int)) (av:Ev.Own) (Xk44:List (List AV)) (Rk44:List RowA),e=[(4,true,.box B.length 0),(5,true,.box (B.length+1) 0),(7,true,.box (B.length+3) 0),(9,true,.clo 162 [.box (B.length+1) 0,.box (B.length+2) 0]),(11,true,.box (B.length+4) 0),(12,true,.box (B.length+5) 0),(40,true,.list (a1.fields.map ZeF) .none),(41,true,.val (.int .i64 ((a1.fields.length:Int)))),(42,true,.val (.int .i64 p))]∧st=⟨(B.set o ([.list (ao.map ZnQ) av]))++([a0.cs,a1.cs,[.val (.string a2)],[.clo 96 [.box o 0]],.val (.int .i64 k.1)::(.val (.string k.2.1)::(.val (.int .i64 k.2.2.1)::((k.2.2.2.1.cs)++([.list (k.2.2.2.2.map avV) .none])))),.val (.int .i64 l.1.1)::(.val (.string l.1.2.1)::(.val (.int .i64 l.1.2.2.1)::((l.1.2.2.2.1.cs)++([.list (l.1.2.2.2.2.map avV) .none]))))]++Xk44),Rk44,L⟩∧Owns Rw Rk44 [(2,ao.length,av)] a7∧ZdF rec n (Zbg rec n a0 a1 a2 ml15) a1 a2 p k l ao=some r) ?_ ?_
     ·
      intro K45 bu
      refine rg [4,5,7,9,11,12,40,41,42,77] hs ?_
      refine cnd h hs (fun hs h=>?_) (fun hs h=>?_)
      ·
       have a4:=hs.1
       obtain ⟨dp,co,h⟩:=bind_some h
       obtain ⟨cy,cn,h⟩:=bind_some h
       apply ZjM mix [5] [4,5,7,9,11,12,40,41,42] kr (fun s=>∃ (X:List (List AV)) (x:List RowA) (w:List AV),s=⟨(B.set o w)++([a0.cs,a1.cs,[.val (.string a2)],[.clo 96 [.box o 0]],.val (.int .i64 k.1)::(.val (.string k.2.1)::(.val (.int .i64 k.2.2.1)::((k.2.2.2.1.cs)++([.list (k.2.2.2.2.map avV) .none])))),.val (.int .i64 l.1.1)::(.val (.string l.1.2.1)::(.val (.int .i64 l.1.2.2.1)::((l.1.2.2.2.1.cs)++([.list (l.1.2.2.2.2.map avV) .none]))))]++X),x,L⟩) 2 (B.length+6)
       ·
        simp +decide only [go_sem,Nat.reduceAdd]
       ·
        rintro s ⟨X,x,w,rfl⟩
        refine ⟨2,?_⟩
        rw [Zae];simp +decide only [go_sem,Nat.reduceAdd,Zef,Zag a,c,d,j,b,g,a4]
        (repeat' apply And.intro)<;>first | refine Zac _ (Zcx w0 _ _ _ k.2.1 (B.length+1) a1 (ef hs) (B.length+2) a2 (ef hs) _ co) (hv hs) ?_ | exact cl
        rw [Zae];simp +decide only [go_sem,Nat.reduceAdd,Zag a,c,d,j,b,g,a4]
        (repeat' apply And.intro)<;>first | rfl | exact cl
       ·
        refine Good.mk [5] kr ⟨[],_,_,by first | rfl | simp only [List.append_nil,List.nil_append]⟩ ?_ ?_
        ·
         intro h;exact absurd h (by decide)
        ·
         intro i hi;simp only [List.mem_cons,List.not_mem_nil,or_false] at hi
         subst hi
         ·
          apply ZgM rfl rfl ev rfl
          ·
           simp +decide only [go_sem,Nat.reduceAdd,Zag a,c,d,j,b,g,a4]
          ·
           simp +decide only [go_sem,Nat.reduceAdd,Zag a,c,d,j,b,g,a4]
          ·
           simp +decide only [go_sem,Nat.reduceAdd,Zag a,c,d,j,b,g,a4]
           exact (ZbA w0 _ _ _ dp 4 o aa ae (ef hs) hO.enter _ cn).pub (hv hs)
          ·
           rintro _ _ ⟨rfl,Rg50,b3,rfl,bd⟩
           have hO:=hO.call bd
           simp +decide only [go_sem,Nat.reduceAdd,Zag a,c,d,j,b,g,a4]
           refine Good.mk [] kr ⟨[],_,_,by first | rfl | simp only [List.append_nil,List.nil_append]⟩ ?_ ?_
           ·
            intro _;refine ⟨_,_,ZbQ [4,5,7,9,11,12,40,41,42] (by first | (simp +decide only [go_sem,Nat.reduceAdd,Zag a,c,d,j,b,g,a4];done) | (simp +decide only [go_sem,Nat.reduceAdd,Zag a,c,d,j,b,g,a4];rfl)),?_⟩
            try simp +decide only [go_sem,Nat.reduceAdd,Zag a,c,d,j,b,g,a4]
            (repeat' apply And.intro)<;>first | refine bu _ _ ⟨cy,b3,([]),Rg50,ef hs,ef hs,Owns.of_eq (hO) le_,h⟩ | exact cl
           ·
            intro i hi;cases hi
      have a4:=hs.1
      refine sk [4,5,7,9,11,12,40,41,42] hs bu ?_
      exact ⟨aa,ae,([]),Rk35,ef hs,ef hs,Owns.of_eq (hO) le_,h⟩
     ·
      clear h;rintro e st ⟨ao,av,Xk44,Rk44,rfl,rfl,hO,h⟩
      rw [ZdF] at h
      have hU:=hO.unders
      simp only [List.mem_cons,List.not_mem_nil,or_false,forall_eq_or_imp,forall_eq] at hU
      refine Zgm hN a9 ba ls_ (Zah (Zep u hO.len) ow) hO ow ow ?_
      obtain ⟨c5,b6,h⟩:=bind_some h
      obtain ⟨dc,cf,h⟩:=bind_some h
      apply ZjM mix [9] [4,5,7,9,40,41,42] kr (fun s=>∃ (X:List (List AV)) (x:List RowA) (w:List AV),s=⟨(B.set o w)++([a0.cs,a1.cs,[.val (.string a2)],[.clo 96 [.box o 0]],.val (.int .i64 k.1)::(.val (.string k.2.1)::(.val (.int .i64 k.2.2.1)::((k.2.2.2.1.cs)++([.list (k.2.2.2.2.map avV) .none])))),.val (.int .i64 l.1.1)::(.val (.string l.1.2.1)::(.val (.int .i64 l.1.2.2.1)::((l.1.2.2.2.1.cs)++([.list (l.1.2.2.2.2.map avV) .none]))))]++X),x,L⟩) 2 (B.length+6)
      ·
       simp +decide only [go_sem,Nat.reduceAdd]
      ·
       rintro s ⟨X,x,w,rfl⟩
       refine ⟨2,?_⟩
       rw [Zae];simp +decide only [go_sem,Nat.reduceAdd,Zef,Zag a,c,d,j,b,g]
       (repeat' apply And.intro)<;>first | refine Zac _ (Zcx w0 _ _ _ k.2.1 (B.length+1) a1 (ef hs) (B.length+2) a2 (ef hs) _ b6) (hv hs) ?_ | exact cl
       rw [Zae];simp +decide only [go_sem,Nat.reduceAdd,Zag a,c,d,j,b,g]
       (repeat' apply And.intro)<;>first | rfl | exact cl
      ·
       refine Good.mk [9] kr ⟨[],_,_,by first | rfl | simp only [List.append_nil,List.nil_append]⟩ ?_ ?_
       ·
        intro h;exact absurd h (by decide)
       ·
        intro i hi;simp only [List.mem_cons,List.not_mem_nil,or_false] at hi
        subst hi
        ·
         apply ZgM rfl rfl ev rfl
         ·
          simp +decide only [go_sem,Nat.reduceAdd,Zag a,c,d,j,b,g]
         ·
          simp +decide only [go_sem,Nat.reduceAdd,Zag a,c,d,j,b,g]
         ·
          simp +decide only [go_sem,Nat.reduceAdd,Zag a,c,d,j,b,g]
          exact (ih _ _ _ l.1.2.2.2.1 k.2.2.2.1 c5 o ao av (ef hs) hO.enter _ cf).pub (hv hs)
         ·
          rintro _ _ ⟨rfl,Rg54,cc,rfl,bc⟩
          have hO:=hO.call bc
          simp +decide only [go_sem,Nat.reduceAdd,Zag a,c,d,j,b,g]
          refine Good.mk [] kr ⟨[],_,_,by first | rfl | simp only [List.append_nil,List.nil_append]⟩ ?_ ?_
          ·
           intro _;refine ⟨_,_,ZbQ [4,5,7,9,40,41,42] (by first | (simp +decide only [go_sem,Nat.reduceAdd,Zag a,c,d,j,b,g];done) | (simp +decide only [go_sem,Nat.reduceAdd,Zag a,c,d,j,b,g];rfl)),?_⟩
           try simp +decide only [go_sem,Nat.reduceAdd,Zag a,c,d,j,b,g]
           (repeat' apply And.intro)<;>first | refine bm _ _ ⟨dc,cc,([.val (.int .i64 k.1)::(.val (.string k.2.1)::(.val (.int .i64 k.2.2.1)::((k.2.2.2.1.cs)++([.list (k.2.2.2.2.map avV) .none])))),.val (.int .i64 l.1.1)::(.val (.string l.1.2.1)::(.val (.int .i64 l.1.2.2.1)::((l.1.2.2.2.1.cs)++([.list (l.1.2.2.2.2.map avV) .none]))))]),Rg54,ef hs,ef hs,Owns.of_eq (hO) le_,h⟩ | exact cl
          ·
           intro i hi;cases hi
   ·
    clear h;rintro e st ⟨ap,aq,Xk20,Rk20,rfl,rfl,hO,h⟩
    rw [ZdG] at h
    have hU:=hO.unders
    simp only [List.mem_cons,List.not_mem_nil,or_false,forall_eq_or_imp,forall_eq] at hU
    refine Zgm hN a9 ba ls_ (Zah (Zep u hO.len) ow) hO ow ow ?_
    obtain ⟨dq,h⟩:=Zab h
    refine rl [4,5,7,9,40,41,42] hs (fun e s=>Vl15 ml15 e s (Nat.lt_succ_self _)) ?_
    exact ⟨(p+1),ap,aq,([]),Rk20,ef hs,ef hs,Owns.of_eq (hO) le_,h⟩
  ·
   clear h;rintro e st ⟨aj,ar,Xk12,Rk12,rfl,rfl,hO,h⟩
   rw [Zfp] at h
   have hU:=hO.unders
   simp only [List.mem_cons,List.not_mem_nil,or_false,forall_eq_or_imp,forall_eq] at hU
   refine Zgm hN a9 ba ls_ (Zah (Zep u hO.len) ow) hO ow ow ?_
   refine rg [5,7,9,96,97,98] hs ?_
   apply Zad
   refine Zao (fun m e st=>∃ (ai:Int) (ab:List (ByteArray × Int)) (af:Ev.Own) (Xl58:List (List AV)) (Rl58:List RowA),e=[(5,true,.box (B.length+1) 0),(7,true,.box (B.length+3) 0),(9,true,.clo 162 [.box (B.length+1) 0,.box (B.length+2) 0]),(96,true,.list (a0.fields.map ZeF) .none),(97,true,.val (.int .i64 ((a0.fields.length:Int)))),(98,true,.val (.int .i64 ai))]∧st=⟨(B.set o ([.list (ab.map ZnQ) af]))++([a0.cs,a1.cs,[.val (.string a2)],[.clo 96 [.box o 0]]]++Xl58),Rl58,L⟩∧Owns Rw Rl58 [(2,ab.length,af)] a7∧Zcb rec n a0 a1 a2 m ai ab=some r) n ⟨0,aj,ar,([]),Rk12,ef hs,ef hs,Owns.of_eq (hO) le_,h⟩ ?_
   rintro ml58 e st ⟨ai,ab,af,Xl58,Rl58,rfl,rfl,hO,h⟩ Ul58 Vl58
   cases ml58 with
   | zero=>cases h
   | succ ml58 =>
   rw [Zcb] at h
   have hU:=hO.unders
   simp only [List.mem_cons,List.not_mem_nil,or_false,forall_eq_or_imp,forall_eq] at hU
   refine Zgm hN a9 ba ls_ (Zah (Zep u hO.len) ow) hO ow ow ?_
   refine rg [5,7,9,96,97,98,99] hs ?_
   apply Zaa;intro K60 bj
   refine cnd h hs (fun hs h=>?_) (fun hs h=>?_)
   rotate_left
   ·
    have ax:=hs.1
    refine ZcR (Zdg [] _) ?_ (ZaW _ _)
    apply Ziw;simp +decide only [go_sem,Nat.reduceAdd]
    (repeat' with_reducible apply And.intro)<;>first | exact cl | skip
    have hgt:=Option.some.inj h;subst hgt
    have hU:=hO.unders
    simp only [List.mem_cons,List.not_mem_nil,or_false,forall_eq_or_imp,forall_eq] at hU
    refine ZoS hO (Zah (Zep u hO.len) ow) ls_ ev ⟨?_,_,_,?_,(hO.sub (List.sublist_append_left [_] _)).len1 le_⟩
    all_goals first | rfl | (simp +decide only [go_sem,Nat.reduceAdd,Zag a,c,d,ax];done) | (simp +decide only [go_sem,Nat.reduceAdd,Vl.cs,Ty.cs,Zag a,c,d,ax];done)
   have ax:=hs.1
   refine sk [5,7,9,96,97,98] hs bj ?_
   clear bj
   refine Zak (fun e st=>∃ (ak:List (ByteArray × Int)) (au:Ev.Own) (Xk63:List (List AV)) (Rk63:List RowA),e=[(5,true,.box (B.length+1) 0),(7,true,.box (B.length+3) 0),(9,true,.clo 162 [.box (B.length+1) 0,.box (B.length+2) 0]),(96,true,.list (a0.fields.map ZeF) .none),(97,true,.val (.int .i64 ((a0.fields.length:Int)))),(98,true,.val (.int .i64 ai))]∧st=⟨(B.set o ([.list (ak.map ZnQ) au]))++([a0.cs,a1.cs,[.val (.string a2)],[.clo 96 [.box o 0]]]++Xk63),Rk63,L⟩∧Owns Rw Rk63 [(2,ak.length,au)] a7∧ZdB rec n (Zcb rec n a0 a1 a2 ml58) ai ak=some r) ?_ ?_
   ·
    intro K64 bs
    apply Zad
    obtain ⟨ay,b4,h⟩:=bind_some h
    obtain ⟨cx,c6,bx⟩:=Zan b4
    have ah:=Zap (f:=ZeF) bx
    have hs:=And.intro ah hs
    refine rg [5,7,9,15,96,97,98] hs ?_
    obtain ⟨a6,b9,h⟩:=bind_some h
    refine rc 2 [5,7,9,15,17,96,97,98] hs ?_;intro K67 bp
    refine Zac _ (Zdx w0 n _ _ _ a1.fields ay.1 _ b9) (hv hs) ?_
    refine ne hs bp ?_
    clear bp
    refine rg [5,7,9,15,96,97,98,111] hs ?_
    refine cnd h hs (fun hs h=>?_) (fun hs h=>?_)
    ·
     have az:=hs.1
     obtain ⟨c2,b8,h⟩:=bind_some h
     obtain ⟨c8,cg,h⟩:=bind_some h
     apply ZjM mix [5] [5,7,9,96,97,98] kr (fun s=>∃ (X:List (List AV)) (x:List RowA) (w:List AV),s=⟨(B.set o w)++([a0.cs,a1.cs,[.val (.string a2)],[.clo 96 [.box o 0]],.val (.int .i64 ay.1)::(.val (.string ay.2.1)::(.val (.int .i64 ay.2.2.1)::((ay.2.2.2.1.cs)++([.list (ay.2.2.2.2.map avV) .none])))),.val (.int .i64 a6.1.1)::(.val (.string a6.1.2.1)::(.val (.int .i64 a6.1.2.2.1)::((a6.1.2.2.2.1.cs)++([.list (a6.1.2.2.2.2.map avV) .none]))))]++X),x,L⟩) 2 (B.length+6)
     ·
      simp +decide only [go_sem,Nat.reduceAdd]
     ·
      rintro s ⟨X,x,w,rfl⟩
      refine ⟨2,?_⟩
      rw [Zae];simp +decide only [go_sem,Nat.reduceAdd,Zef,Zag a,c,d,ax,ah,az]
      (repeat' apply And.intro)<;>first | refine Zac _ (Zcx w0 _ _ _ ay.2.1 (B.length+1) a1 (ef hs) (B.length+2) a2 (ef hs) _ b8) (hv hs) ?_ | exact cl
      rw [Zae];simp +decide only [go_sem,Nat.reduceAdd,Zag a,c,d,ax,ah,az]
      (repeat' apply And.intro)<;>first | rfl | exact cl
     ·
      refine Good.mk [5] kr ⟨[],_,_,by first | rfl | simp only [List.append_nil,List.nil_append]⟩ ?_ ?_
      ·
       intro h;exact absurd h (by decide)
      ·
       intro i hi;simp only [List.mem_cons,List.not_mem_nil,or_false] at hi
       subst hi
       ·
        apply ZgM rfl rfl ev rfl
        ·
         simp +decide only [go_sem,Nat.reduceAdd,Zag a,c,d,ax,ah,az]
        ·
         simp +decide only [go_sem,Nat.reduceAdd,Zag a,c,d,ax,ah,az]
        ·
         simp +decide only [go_sem,Nat.reduceAdd,Zag a,c,d,ax,ah,az]
         exact (ZbA w0 _ _ _ c2 2 o ab af (ef hs) hO.enter _ cg).pub (hv hs)
        ·
         rintro _ _ ⟨rfl,Rg73,cr,rfl,bb⟩
         have hO:=hO.call bb
         simp +decide only [go_sem,Nat.reduceAdd,Zag a,c,d,ax,ah,az]
         refine Good.mk [] kr ⟨[],_,_,by first | rfl | simp only [List.append_nil,List.nil_append]⟩ ?_ ?_
         ·
          intro _;refine ⟨_,_,ZbQ [5,7,9,96,97,98] (by first | (simp +decide only [go_sem,Nat.reduceAdd,Zag a,c,d,ax,ah,az];done) | (simp +decide only [go_sem,Nat.reduceAdd,Zag a,c,d,ax,ah,az];rfl)),?_⟩
          try simp +decide only [go_sem,Nat.reduceAdd,Zag a,c,d,ax,ah,az]
          (repeat' apply And.intro)<;>first | refine bs _ _ ⟨c8,cr,([.val (.int .i64 ay.1)::(.val (.string ay.2.1)::(.val (.int .i64 ay.2.2.1)::((ay.2.2.2.1.cs)++([.list (ay.2.2.2.2.map avV) .none])))),.val (.int .i64 a6.1.1)::(.val (.string a6.1.2.1)::(.val (.int .i64 a6.1.2.2.1)::((a6.1.2.2.2.1.cs)++([.list (a6.1.2.2.2.2.map avV) .none]))))]),Rg73,ef hs,ef hs,Owns.of_eq (hO) le_,h⟩ | exact cl
         ·
          intro i hi;cases hi
    have az:=hs.1
    refine sk [5,7,9,96,97,98] hs bs ?_
    exact ⟨ab,af,([.val (.int .i64 ay.1)::(.val (.string ay.2.1)::(.val (.int .i64 ay.2.2.1)::((ay.2.2.2.1.cs)++([.list (ay.2.2.2.2.map avV) .none])))),.val (.int .i64 a6.1.1)::(.val (.string a6.1.2.1)::(.val (.int .i64 a6.1.2.2.1)::((a6.1.2.2.2.1.cs)++([.list (a6.1.2.2.2.2.map avV) .none]))))]),Rl58,ef hs,ef hs,Owns.of_eq (hO) le_,h⟩
   ·
    clear h;rintro e st ⟨ak,au,Xk63,Rk63,rfl,rfl,hO,h⟩
    rw [ZdB] at h
    have hU:=hO.unders
    simp only [List.mem_cons,List.not_mem_nil,or_false,forall_eq_or_imp,forall_eq] at hU
    refine Zgm hN a9 ba ls_ (Zah (Zep u hO.len) ow) hO ow ow ?_
    obtain ⟨dr,h⟩:=Zab h
    refine rl [5,7,9,96,97,98] hs (fun e s=>Vl58 ml58 e s (Nat.lt_succ_self _)) ?_
    exact ⟨(ai+1),ak,au,([]),Rk63,ef hs,ef hs,Owns.of_eq (hO) le_,h⟩
 have d:=hs.1
 refine rg [4,5,6,7,8,119] hs ?_
 refine cnd h hs (fun hs h=>?_) (fun hs h=>?_)
 ·
  have v:=hs.1
  refine Zak (fun e st=>∃ (am:List (ByteArray × Int)) (aw:Ev.Own) (Xk79:List (List AV)) (Rk79:List RowA),e=[(4,true,.box B.length 0),(5,true,.box (B.length+1) 0),(6,true,.box (B.length+2) 0),(7,true,.box (B.length+3) 0)]∧st=⟨(B.set o ([.list (am.map ZnQ) aw]))++([a0.cs,a1.cs,[.val (.string a2)],[.clo 96 [.box o 0]]]++Xk79),Rk79,L⟩∧Owns Rw Rk79 [(2,am.length,aw)] a7∧ZdC rec n a0 a1 a2 am=some r) ?_ ?_
  ·
   intro K80 bt
   refine rg [4,5,6,7,8,134] hs ?_
   refine cnd h hs (fun hs h=>?_) (fun hs h=>?_)
   ·
    obtain ⟨c9,cj,h⟩:=bind_some h
    refine rk 3 [4,5,6,7] hs ?_
    refine Zac _ (ZcF w0 _ _ _ a0 a1) (hv hs) ?_
    refine nc hs ?_
    refine Zbc _ (Zg1 w0 _ _ _ (Zb3 a0 a1) o a3 a7 (ef hs) hO.enter (B.length+3) (ef hs) (B.length+2) a2 (ef hs) _ cj) (hv hs) ?_;rintro _ _ ⟨rfl,Rg84,cd,rfl,bh⟩
    have hO:=hO.call bh
    refine ne hs bt ?_
    exact ⟨c9,cd,([]),Rg84,ef hs,ef hs,Owns.of_eq (hO) le_,h⟩
   refine sk [4,5,6,7] hs bt ?_
   exact ⟨a3,a7,([]),Rw,ef hs,ef hs,Owns.of_eq (hO) le_,h⟩
  ·
   clear h;rintro e st ⟨am,aw,Xk79,Rk79,rfl,rfl,hO,h⟩
   rw [ZdC] at h
   have hU:=hO.unders
   simp only [List.mem_cons,List.not_mem_nil,or_false,forall_eq_or_imp,forall_eq] at hU
   refine Zgm hN a9 ba ls_ (Zah (Zep u hO.len) ow) hO ow ow ?_
   obtain ⟨c3,da,c7,z,h⟩:=ix avT h
   have ag:(a0.elem.map avT).getD 0 .junk=_:=z
   obtain ⟨dh,c0,dd,y,h⟩:=ix avT h
   have ad:(a1.elem.map avT).getD 0 .junk=_:=y
   obtain ⟨cb,h⟩:=Zab h
   have bv:=cb
   try simp +decide only [go_sem] at bv
   obtain ⟨dy,b5,h⟩:=bind_some h
   apply ZjM mix [11] [] kr (fun s=>∃ (X:List (List AV)) (x:List RowA) (w:List AV),s=⟨(B.set o w)++([a0.cs,a1.cs,[.val (.string a2)],[.clo 96 [.box o 0]]]++X),x,L⟩) 2 (B.length+4)
   ·
    simp +decide only [go_sem,Nat.reduceAdd]
   ·
    rintro s ⟨X,x,w,rfl⟩
    refine ⟨1,?_⟩
    rw [Zae];simp +decide only [go_sem,Nat.reduceAdd,Zef,Zag a,c,d,v,z,ag,y,ad]
    (repeat' apply And.intro)<;>first | rfl | exact cl
   ·
    refine Good.mk [11] kr ⟨[],_,_,by first | rfl | simp only [List.append_nil,List.nil_append]⟩ ?_ ?_
    ·
     intro h;exact absurd h (by decide)
    ·
     intro i hi;simp only [List.mem_cons,List.not_mem_nil,or_false] at hi
     subst hi
     ·
      apply ZgM rfl rfl ev rfl
      ·
       simp +decide only [go_sem,Nat.reduceAdd,Zag a,c,d,v,z,ag,y,ad]
      ·
       simp +decide only [go_sem,Nat.reduceAdd,Zag a,c,d,v,z,ag,y,ad]
      ·
       simp +decide only [go_sem,Nat.reduceAdd,Zag a,c,d,v,z,ag,y,ad]
       have hs:=And.intro z hs
       have hs:=And.intro ag hs
       have hs:=And.intro y hs
       have hs:=And.intro ad hs
       exact (ih _ _ _ c3 dh (a2++((⟨#[91,42,93]⟩:ByteArray))) o am aw (ef hs) hO.enter _ b5).pub (hv hs)
      ·
       rintro _ _ ⟨rfl,Rg90,ds,rfl,be⟩
       have hO:=hO.call be
       simp +decide only [go_sem,Nat.reduceAdd,Zag a,c,d,v,z,ag,y,ad]
       refine Good.mk [] kr ⟨[],_,_,by first | rfl | simp only [List.append_nil,List.nil_append]⟩ ?_ ?_
       ·
        intro _;refine ⟨_,_,ZbQ [] (by first | (simp +decide only [go_sem,Nat.reduceAdd,Zag a,c,d,v,z,ag,y,ad];done) | (simp +decide only [go_sem,Nat.reduceAdd,Zag a,c,d,v,z,ag,y,ad];rfl)),?_⟩
        try simp +decide only [go_sem,Nat.reduceAdd,Zag a,c,d,v,z,ag,y,ad]
        (repeat' with_reducible apply And.intro)<;>first | exact cl | skip
        have hgt:=Option.some.inj h;subst hgt
        have hU:=hO.unders
        simp only [List.mem_cons,List.not_mem_nil,or_false,forall_eq_or_imp,forall_eq] at hU
        refine ZoS hO (Zah (Zep u hO.len) ow) ls_ ev ⟨?_,_,_,?_,(hO.sub (List.sublist_append_left [_] _)).len1 le_⟩
        all_goals first | rfl | (simp +decide only [go_sem,Nat.reduceAdd,Zag a,c,d,v,z,ag,y,ad];done) | (simp +decide only [go_sem,Nat.reduceAdd,Vl.cs,Ty.cs,Zag a,c,d,v,z,ag,y,ad];done)
       ·
        intro i hi;cases hi
 have v:=hs.1
 obtain ⟨du,b1,h⟩:=bind_some h
 refine rc 2 [4,5,8,152] hs ?_;intro K92 bo
 refine Zac _ (ZoG w0 n _ _ _ a0 a1 _ b1) (hv hs) ?_
 refine ne hs bo ?_
 clear bo
 refine cnd h hs (fun hs h=>?_) (fun hs h=>?_)
 ·
  have a8:=hs.1
  obtain ⟨di,cv,h⟩:=bind_some h
  obtain ⟨dw,cp,h⟩:=bind_some h
  apply Zaf 3 []
  rw [Zae];simp +decide only [go_sem,Nat.reduceAdd,Zag a,c,d,v,a8]
  (repeat' apply And.intro)<;>first | refine Zac _ (ZgA w0 n _ _ _ a0 a1 _ cv) (hv hs) ?_ | exact cl
  rw [Zae];simp +decide only [go_sem,Nat.reduceAdd,Zag a,c,d,v,a8]
  (repeat' apply And.intro)<;>first | (refine Zbc _ (Zg1 w0 _ _ _ di o a3 a7 (ef hs) hO.enter (B.length+3) (ef hs) (B.length+2) a2 (ef hs) _ cp) (hv hs) ?_;rintro _ _ ⟨rfl,Rg97,dt,rfl,bi⟩) | exact cl
  have hO:=hO.call bi
  rw [Zae];simp +decide only [go_sem,Nat.reduceAdd,Zag a,c,d,v,a8]
  (repeat' with_reducible apply And.intro)<;>first | exact cl | skip
  have hgt:=Option.some.inj h;subst hgt
  have hU:=hO.unders
  simp only [List.mem_cons,List.not_mem_nil,or_false,forall_eq_or_imp,forall_eq] at hU
  refine ZoS hO (Zah (Zep u hO.len) ow) ls_ ev ⟨?_,_,_,?_,(hO.sub (List.sublist_append_left [_] _)).len1 le_⟩
  all_goals first | rfl | (simp +decide only [go_sem,Nat.reduceAdd,Zag a,c,d,v,a8];done) | (simp +decide only [go_sem,Nat.reduceAdd,Vl.cs,Ty.cs,Zag a,c,d,v,a8];done)
 have a8:=hs.1
 refine ZcR (Zdg [] _) ?_ (ZaW _ _)
 apply Za4;simp +decide only [go_sem,Nat.reduceAdd]
 (repeat' with_reducible apply And.intro)<;>first | exact cl | skip
 have hgt:=Option.some.inj h;subst hgt
 have hU:=hO.unders
 simp only [List.mem_cons,List.not_mem_nil,or_false,forall_eq_or_imp,forall_eq] at hU
 refine ZoS hO (Zep u hO.len) rfl ev ⟨?_,_,_,?_,(hO.sub (List.sublist_append_left [_] _)).len1 le_⟩
 all_goals first | rfl | (simp +decide only [go_sem,Nat.reduceAdd,Zag a,c,d,v,a8];done) | (simp +decide only [go_sem,Nat.reduceAdd,Vl.cs,Ty.cs,Zag a,c,d,v,a8];done)
theorem ZhD (w0:World):∀ n:Nat,Zgv w0 (Zex n)
 | 0=>fun _ _ _ _ _ _ _ _ _ _ _ _ h=>(nomatch h)
 | n+1=>Zkg w0 (Zex n) (ZhD w0 n) n
def Zgr (n:Nat) (a0:Ty) (a1:Ty):Option ((List (ByteArray × Int)) × Int) :=
 (Zcs n a0 a1).bind fun y4 =>
 if !(decide (y4=0)) then
  some (([],y4))
 else
  (Zex n a0 a1 ((⟨#[]⟩:ByteArray)) ([])).bind fun y11 =>
  some ((y11,0))
theorem Zlm (w0:World) (hT:Lib.Utf8Tabs 0 1 w0) (n:Nat) (B:List (List AV)) (Rw:List RowA) (L:List LoopA) (a0:Ty) (a1:Ty) (r:(List (ByteArray × Int)) × Int) (h:Zgr n a0 a1=some r) :
  ACalls Tryz.prog w0 42 [.agg (a0.cs),.agg (a1.cs)] ⟨B,Rw,L⟩ fun x st=>x = .tup [.list (r.1.map ZnQ) .none,.val (.int .i64 r.2)]∧st=⟨B,Rw,L⟩:=by
 rw [Zgr] at h
 refine hd [.tmp 4,.tmp 5] Tryz.func42 Tryz.ntmps42 fun M0 W0 hN j k a hu hO hs=>?_
 simp only [Zaq]
 refine rg [2,3] hs ?_
 apply Zaa;intro K2 d
 obtain ⟨y4,g,h⟩:=bind_some h
 refine rc 2 [2,3,6] hs ?_;intro K3 e
 refine Zac _ (ZiY w0 hT n _ _ _ a0 a1 _ g) (hv hs) ?_
 refine ne hs e ?_
 clear e
 refine rg [2,3,6,12] hs ?_
 refine cnd h hs (fun hs h=>?_) (fun hs h=>?_)
 ·
  refine rg [4,5] hs ?_
  exact rt h hs a hO
 refine sk [2,3] hs d ?_
 clear d
 refine rg [2,3,7] hs ?_
 have hO:=hO.full 2 0
 obtain ⟨l,f,h⟩:=bind_some h
 refine rc 2 [7] hs ?_;intro K9 c
 refine Zbc _ (ZhD w0 n _ _ _ a0 a1 ((⟨#[]⟩:ByteArray)) (B.length+2) ([]) .full (ef hs) hO.enter _ f) (hv hs) ?_;rintro _ _ ⟨rfl,Rg12,i,rfl,b⟩
 have hO:=hO.call b
 refine ne hs c ?_
 clear c
 refine rg [4,5] hs ?_
 exact rt h hs a hO
def ZaG (n:Nat) (a0:Ty) (a1:Ty) (a2:Vl):Option (Vl × Int) :=
 (Zcs n a0 a1).bind fun y4 =>
 if !(decide (y4=0)) then
  some ((Vl.mk 0 0 0 ((⟨#[]⟩:ByteArray)) ([]) ([]),y4))
 else
  (Zdu n a0 a2).bind fun y9 =>
  if !(decide (y9.2=0)) then
   some ((Vl.mk 0 0 0 ((⟨#[]⟩:ByteArray)) ([]) ([]),y9.2))
  else
   (Zax n a0 a1 y9.1).bind fun y15 =>
   if !y15.2 then
    some ((Vl.mk 0 0 0 ((⟨#[]⟩:ByteArray)) ([]) ([]),20))
   else
    (Zc5 n y15.1).bind fun y21 =>
    if !(decide (y21=0)) then
     some ((Vl.mk 0 0 0 ((⟨#[]⟩:ByteArray)) ([]) ([]),9))
    else
     (Zbi n y15.1).bind fun y25 =>
     some ((y25,0))
theorem Zh1 (w0:World) (hP:Pow10 w0) (hT:Lib.Utf8Tabs 0 1 w0) (n:Nat) (B:List (List AV)) (Rw:List RowA) (L:List LoopA) (a0:Ty) (a1:Ty) (a2:Vl) (r:Vl × Int) (h:ZaG n a0 a1 a2=some r) :
  ACalls Tryz.prog w0 29 [.agg (a0.cs),.agg (a1.cs),.agg (a2.cs)] ⟨B,Rw,L⟩ fun x st=>x = .tup [.agg (r.1.cs),.val (.int .i64 r.2)]∧st=⟨B,Rw,L⟩:=by
 rw [ZaG] at h
 refine hd [.cell 6 46,.tmp 7] Tryz.func29 Tryz.ntmps29 fun M0 W0 hN s t a hu hO hs=>?_
 simp only [Zaq]
 refine rg [3,4,5,6] hs ?_
 apply Zaa;intro K2 k
 obtain ⟨y4,p,h⟩:=bind_some h
 refine rc 2 [3,4,5,6,8] hs ?_;intro K3 g
 refine Zac _ (ZiY w0 hT n _ _ _ a0 a1 _ p) (hv hs) ?_
 refine ne hs g ?_
 clear g
 refine rg [3,4,5,6,8,16] hs ?_
 refine cnd h hs (fun hs h=>?_) (fun hs h=>?_)
 ·
  refine rg [6,7] hs ?_
  exact rt h hs a hO
 refine sk [3,4,5,6] hs k ?_
 clear k
 obtain ⟨y9,q,h⟩:=bind_some h
 refine rc 2 [3,4,5,6,9] hs ?_;intro K8 j
 refine Zac _ (Zjb w0 hP hT n _ _ _ a0 a2 _ q) (hv hs) ?_
 refine ne hs j ?_
 clear j
 apply Zaa;intro K10 e
 refine rg [3,4,5,6,9,26] hs ?_
 refine cnd h hs (fun hs h=>?_) (fun hs h=>?_)
 ·
  refine rg [6,7] hs ?_
  exact rt h hs a hO
 refine sk [3,4,5,6] hs e ?_
 clear e
 obtain ⟨m,i,h⟩:=bind_some h
 refine rc 2 [6,10,11] hs ?_;intro K14 f
 refine Zac _ (ZfV w0 n _ _ _ a0 a1 y9.1 _ i) (hv hs) ?_
 refine ne hs f ?_
 clear f
 apply Zaa;intro K16 d
 apply Zad
 refine rg [6,10,36] hs ?_
 refine cnd h hs (fun hs h=>?_) (fun hs h=>?_)
 ·
  refine rg [6,7] hs ?_
  exact rt h hs a hO
 obtain ⟨u,l,h⟩:=bind_some h
 refine rc 2 [6,10,40] hs ?_;intro K20 c
 refine Zac _ (ZhJ w0 hT n _ _ _ m.1 _ l) (hv hs) ?_
 refine ne hs c ?_
 clear c
 refine cnd h hs (fun hs h=>?_) (fun hs h=>?_)
 ·
  refine rg [6,7] hs ?_
  exact rt h hs a hO
 refine sk [6,10] hs d ?_
 clear d
 obtain ⟨v,o,h⟩:=bind_some h
 refine rc 2 [6,7] hs ?_;intro K24 b
 refine Zac _ (ZeZ w0 n _ _ _ m.1 _ o) (hv hs) ?_
 refine ne hs b ?_
 clear b
 exact rt h hs a hO
def Zd2  : Ty :=
 Ty.mk 9 0 0 0 ([]) ([]) ([(2,(⟨#[114,101,109,97,114,107]⟩:ByteArray),2,Ty.mk 4 0 40 0 ([]) ([]) ([]),[]),(1,(⟨#[105,100]⟩:ByteArray),1,Ty.mk 3 0 9999 2 ([]) ([]) ([]),[]),(3,(⟨#[107,105,110,100]⟩:ByteArray),3,Ty.mk 4 0 0 0 ([(⟨#[97]⟩:ByteArray),(⟨#[98]⟩:ByteArray)]) ([]) ([]),[Vl.mk 4 0 0 ((⟨#[97]⟩:ByteArray)) ([]) ([])])])
theorem Zpi (w0:World) (B:List (List AV)) (Rw:List RowA) (L:List LoopA)  (r:Ty) (h:Zd2  = r) :
  ACalls Tryz.prog w0 73 [] ⟨B,Rw,L⟩ fun x st=>x = .agg (r.cs)∧st=⟨B,Rw,L⟩:=by
 rw [Zd2] at h
 refine hd [.cell 0 26] Tryz.func73 Tryz.ntmps73 fun M0 W0 hN b c a hu hO hs=>?_
 simp only [Zaq]
 refine rg [0] hs ?_
 refine rg [0,1] hs ?_
 refine rg [0] hs ?_
 exact rT h hs a hO
theorem Zj8 (w0:World) (B:List (List AV)) (Rw:List RowA) (L:List LoopA)  :
  ACalls Tryz.prog w0 73 [] ⟨B,Rw,L⟩ fun x st=>x = .agg ((Zd2 ).cs)∧st=⟨B,Rw,L⟩:=Zpi w0 B Rw L  _ rfl
def ZdS  : Ty :=
 Ty.mk 9 0 0 0 ([]) ([]) ([(1,(⟨#[105,100]⟩:ByteArray),1,Ty.mk 2 0 99 0 ([]) ([]) ([]),[]),(2,(⟨#[110,111,116,101]⟩:ByteArray),2,Ty.mk 4 0 20 0 ([]) ([]) ([]),[])])
theorem Zpm (w0:World) (B:List (List AV)) (Rw:List RowA) (L:List LoopA)  (r:Ty) (h:ZdS  = r) :
  ACalls Tryz.prog w0 72 [] ⟨B,Rw,L⟩ fun x st=>x = .agg (r.cs)∧st=⟨B,Rw,L⟩:=by
 rw [ZdS] at h
 refine hd [.cell 0 26] Tryz.func72 Tryz.ntmps72 fun M0 W0 hN b c a hu hO hs=>?_
 simp only [Zaq]
 refine rg [0] hs ?_
 refine rg [0] hs ?_
 exact rT h hs a hO
theorem Zkc (w0:World) (B:List (List AV)) (Rw:List RowA) (L:List LoopA)  :
  ACalls Tryz.prog w0 72 [] ⟨B,Rw,L⟩ fun x st=>x = .agg ((ZdS ).cs)∧st=⟨B,Rw,L⟩:=Zpm w0 B Rw L  _ rfl
def Zed (n:Nat)  : Option Bool :=
 (ZaG n (ZdS ) (Zd2 ) (Vl.mk 9 0 0 ((⟨#[]⟩:ByteArray)) ([]) ([((⟨#[105,100]⟩:ByteArray),Vl.mk 2 5 0 ((⟨#[]⟩:ByteArray)) ([]) ([])),((⟨#[110,111,116,101]⟩:ByteArray),Vl.mk 4 0 0 ((⟨#[120]⟩:ByteArray)) ([]) ([]))]))).bind fun y4 =>
 (Zgr n (ZdS ) (Zd2 )).bind fun y6 =>
 if (decide (y4.2=0))&&(decide (((y4.1.fields.length:Int))=3)) then
  (idx y4.1.fields 0).bind fun x9 =>
  if sEq x9.1 ((⟨#[105,100]⟩:ByteArray)) then
   if decide (x9.2.int=500) then
    (idx y4.1.fields 1).bind fun x12 =>
    if sEq x12.2.text ((⟨#[97]⟩:ByteArray)) then
     (idx y4.1.fields 2).bind fun x14 =>
     if ((sEq x14.1 ((⟨#[114,101,109,97,114,107]⟩:ByteArray)))&&(decide (y6.2=0)))&&(decide (((y6.1.length:Int))=4)) then
      (idx y6.1 0).bind fun x16 =>
      if sEq x16.1 ((⟨#[114,101,109,97,114,107]⟩:ByteArray))&&(decide (x16.2=3)) then
       (idx y6.1 3).bind fun x18 =>
       some (sEq x18.1 ((⟨#[107,105,110,100]⟩:ByteArray))&&(decide (x18.2=1)))
      else
       some (false)
     else
      some (false)
    else
     some (false)
   else
    some (false)
  else
   some (false)
 else
  some (false)
theorem ZdU (w0:World) (hP:Pow10 w0) (hT:Lib.Utf8Tabs 0 1 w0) (n:Nat) (B:List (List AV)) (Rw:List RowA) (L:List LoopA)  (r:Bool) (h:Zed n  = some r) :
  ACalls Tryz.prog w0 26 [] ⟨B,Rw,L⟩ fun x st=>x = .val (.bool r)∧st=⟨B,Rw,L⟩:=by
 rw [Zed] at h
 refine hd [.tmp 0] Tryz.func26 Tryz.ntmps26 fun M0 W0 hN am ap a hu hO hs=>?_
 simp only [Zaq]
 refine rg [] hs ?_
 refine rg [1] hs ?_
 apply Zaa;intro K3 q
 obtain ⟨y4,v,h⟩:=bind_some h
 apply ZfH mix [7,8] [2,3] kr (fun s=>∃ (X:List (List AV)) (o:List RowA),s=⟨B++([[.val (.int .i64 9),.val (.int .i64 0),.val (.int .i64 0),.val (.string ((⟨#[]⟩:ByteArray))),.list ([]) .full,.list (([((⟨#[105,100]⟩:ByteArray),Vl.mk 2 5 0 ((⟨#[]⟩:ByteArray)) ([]) ([])),((⟨#[110,111,116,101]⟩:ByteArray),Vl.mk 4 0 0 ((⟨#[120]⟩:ByteArray)) ([]) ([]))]).map avF) .full]]++X),o,L⟩) 3 (B.length+1)
 ·
  simp +decide only [go_sem,Nat.reduceAdd]
 ·
  rintro s ⟨X,o,rfl⟩
  refine ⟨4,?_⟩
  rw [Zae];simp +decide only [go_sem,Nat.reduceAdd,Zef]
  (repeat' apply And.intro)<;>first | refine Zac _ (Zkc w0 _ _ _ ) (hv hs) ?_ | exact cl
  rw [Zae];simp +decide only [go_sem,Nat.reduceAdd]
  (repeat' apply And.intro)<;>first | refine Zac _ (Zj8 w0 _ _ _ ) (hv hs) ?_ | exact cl
  rw [Zae];simp +decide only [go_sem,Nat.reduceAdd]
  (repeat' apply And.intro)<;>first | refine Zac _ (Zh1 w0 hP hT n _ _ _ (ZdS ) (Zd2 ) (Vl.mk 9 0 0 ((⟨#[]⟩:ByteArray)) ([]) ([((⟨#[105,100]⟩:ByteArray),Vl.mk 2 5 0 ((⟨#[]⟩:ByteArray)) ([]) ([])),((⟨#[110,111,116,101]⟩:ByteArray),Vl.mk 4 0 0 ((⟨#[120]⟩:ByteArray)) ([]) ([]))])) _ v) (hv hs) ?_ | exact cl
  rw [Zae];simp +decide only [go_sem,Nat.reduceAdd]
  (repeat' apply And.intro)<;>first | rfl | exact cl
 ·
  refine Good.mk [7] kr ⟨[],_,by first | rfl | simp only [List.append_nil,List.nil_append]⟩ ?_ ?_
  ·
   intro h;exact absurd h (by decide)
  ·
   intro i hi;simp only [List.mem_cons,List.not_mem_nil,or_false] at hi
   subst hi
   ·
    apply Zbu rfl rfl ev
    ·
     simp +decide only [go_sem,Nat.reduceAdd,Zdp]
     (repeat' apply And.intro)<;>first | rfl | exact cl
    ·
     simp +decide only [go_sem,Nat.reduceAdd]
     refine Good.mk [8] kr ⟨_,_,by first | rfl | simp only [List.append_nil,List.nil_append]⟩ ?_ ?_
     ·
      intro h;exact absurd h (by decide)
     ·
      intro i hi;simp only [List.mem_cons,List.not_mem_nil,or_false] at hi
      subst hi
      ·
       apply Zbu rfl rfl ev
       ·
        simp +decide only [go_sem,Nat.reduceAdd,Zdp]
        (repeat' apply And.intro)<;>first | rfl | exact cl
       ·
        simp +decide only [go_sem,Nat.reduceAdd]
        refine Good.mk [] kr ⟨_,_,by first | rfl | simp only [List.append_nil,List.nil_append]⟩ ?_ ?_
        ·
         intro _;apply ZbQ [2,3];first | (simp +decide only [go_sem,Nat.reduceAdd];done) | (simp +decide only [go_sem,Nat.reduceAdd];rfl)
        ·
         intro i hi;cases hi
 simp +decide only [go_sem,Nat.reduceAdd]
 (repeat' apply And.intro)<;>first | refine q _ _ ?_ | exact cl
 clear q
 obtain ⟨y6,ad,h⟩:=bind_some h
 refine rc 4 [2,3,4,5] hs ?_;intro K5 t
 refine Zac _ (Zkc w0 _ _ _ ) (hv hs) ?_
 refine nc hs ?_
 refine Zac _ (Zj8 w0 _ _ _ ) (hv hs) ?_
 refine nc hs ?_
 refine Zac _ (Zlm w0 hT n _ _ _ (ZdS ) (Zd2 ) _ ad) (hv hs) ?_
 refine ne hs t ?_
 clear t
 apply Zaa;intro K7 b
 rcases Bool.eq_false_or_eq_true ((decide (y4.2=0))&&(decide (((y4.1.fields.length:Int))=3))) with hf8 | hf8
 ·
  replace h:=Za9 h hf8
  obtain ⟨x9,aj,ak,c,h⟩:=ix avF h
  have e:(y4.1.fields.map avF).getD 0 .junk=_:=c
  rcases Bool.eq_false_or_eq_true (sEq x9.1 ((⟨#[105,100]⟩:ByteArray))) with hf10 | hf10
  ·
   replace h:=Za9 h hf10
   rcases Bool.eq_false_or_eq_true (decide (x9.2.int=500)) with hf11 | hf11
   ·
    replace h:=Za9 h hf11
    obtain ⟨w,ah,ag,d,h⟩:=ix avF h
    have g:(y4.1.fields.map avF).getD 1 .junk=_:=d
    rcases Bool.eq_false_or_eq_true (sEq w.2.text ((⟨#[97]⟩:ByteArray))) with hf13 | hf13
    ·
     replace h:=Za9 h hf13
     obtain ⟨ab,y,aa,f,h⟩:=ix avF h
     have j:(y4.1.fields.map avF).getD 2 .junk=_:=f
     rcases Bool.eq_false_or_eq_true (((sEq ab.1 ((⟨#[114,101,109,97,114,107]⟩:ByteArray)))&&(decide (y6.2=0)))&&(decide (((y6.1.length:Int))=4))) with hf15 | hf15
     ·
      replace h:=Za9 h hf15
      obtain ⟨u,ae,af,k,h⟩:=ix ZnQ h
      have l:(y6.1.map ZnQ).getD 0 .junk=_:=k
      rcases Bool.eq_false_or_eq_true (sEq u.1 ((⟨#[114,101,109,97,114,107]⟩:ByteArray))&&(decide (u.2=3))) with hf17 | hf17
      ·
       replace h:=Za9 h hf17
       obtain ⟨ao,ai,z,m,h⟩:=ix ZnQ h
       have p:(y6.1.map ZnQ).getD 3 .junk=_:=m
       have hs:=And.intro hf8 hs
       have hs:=And.intro c hs
       have hs:=And.intro e hs
       have hs:=And.intro hf10 hs
       have hs:=And.intro hf11 hs
       have hs:=And.intro d hs
       have hs:=And.intro g hs
       have hs:=And.intro hf13 hs
       have hs:=And.intro f hs
       have hs:=And.intro j hs
       have hs:=And.intro hf15 hs
       have hs:=And.intro k hs
       have hs:=And.intro l hs
       have hs:=And.intro hf17 hs
       have hs:=And.intro m hs
       have hs:=And.intro p hs
       refine rl [0] (al hs) b ?_
       clear b
       exact rt h hs a hO
      ·
       replace h:=Zba h hf17
       have hs:=And.intro hf8 hs
       have hs:=And.intro c hs
       have hs:=And.intro e hs
       have hs:=And.intro hf10 hs
       have hs:=And.intro hf11 hs
       have hs:=And.intro d hs
       have hs:=And.intro g hs
       have hs:=And.intro hf13 hs
       have hs:=And.intro f hs
       have hs:=And.intro j hs
       have hs:=And.intro hf15 hs
       have hs:=And.intro k hs
       have hs:=And.intro l hs
       have hs:=And.intro hf17 hs
       refine rl [0] (al hs) b ?_
       clear b
       exact rt h hs a hO
     ·
      replace h:=Zba h hf15
      have hs:=And.intro hf8 hs
      have hs:=And.intro c hs
      have hs:=And.intro e hs
      have hs:=And.intro hf10 hs
      have hs:=And.intro hf11 hs
      have hs:=And.intro d hs
      have hs:=And.intro g hs
      have hs:=And.intro hf13 hs
      have hs:=And.intro f hs
      have hs:=And.intro j hs
      have hs:=And.intro hf15 hs
      refine rl [0] (al hs) b ?_
      clear b
      exact rt h hs a hO
    ·
     replace h:=Zba h hf13
     have hs:=And.intro hf8 hs
     have hs:=And.intro c hs
     have hs:=And.intro e hs
     have hs:=And.intro hf10 hs
     have hs:=And.intro hf11 hs
     have hs:=And.intro d hs
     have hs:=And.intro g hs
     have hs:=And.intro hf13 hs
     refine rl [0] (al hs) b ?_
     clear b
     exact rt h hs a hO
   ·
    replace h:=Zba h hf11
    have hs:=And.intro hf8 hs
    have hs:=And.intro c hs
    have hs:=And.intro e hs
    have hs:=And.intro hf10 hs
    have hs:=And.intro hf11 hs
    refine rl [0] (al hs) b ?_
    clear b
    exact rt h hs a hO
  ·
   replace h:=Zba h hf10
   have hs:=And.intro hf8 hs
   have hs:=And.intro c hs
   have hs:=And.intro e hs
   have hs:=And.intro hf10 hs
   refine rl [0] (al hs) b ?_
   clear b
   exact rt h hs a hO
 ·
  replace h:=Zba h hf8
  have hs:=And.intro hf8 hs
  refine rl [0] (al hs) b ?_
  clear b
  exact rt h hs a hO
theorem ZwJ (m:Nat):Zed (m+100)=some true:=by kernel_rfl
theorem Zvh (n:Nat) (h:100≤n):Zed n=some true:=by
 obtain ⟨m,rfl⟩:∃ m,n=m+100:=⟨n-100,by omega⟩
 exact ZwJ m
def Zaz (n:Nat) (a0:Ty × Ty) (y24:(Vl × Int)) (y34:(Vl × Int)) (x7_k36:Int):Option Bool :=
 if !(decide (x7_k36=0)) then
  if decide (y24.2=x7_k36) then
   (Zdt n y24.1 (Vl.mk 0 0 0 ((⟨#[]⟩:ByteArray)) ([]) ([]))).bind fun y45 =>
   some (y45)
  else
   some (false)
 else
  (ZfF n a0.1 a0.2 y34.1).bind fun y47 =>
  if !y47.2 then
   if decide (y24.2=20) then
    (Zdt n y24.1 (Vl.mk 0 0 0 ((⟨#[]⟩:ByteArray)) ([]) ([]))).bind fun y53 =>
    some (y53)
   else
    some (false)
  else
   (Zc5 n y47.1).bind fun y56 =>
   if !(decide (y56=0)) then
    if decide (y24.2=9) then
     (Zdt n y24.1 (Vl.mk 0 0 0 ((⟨#[]⟩:ByteArray)) ([]) ([]))).bind fun y60 =>
     some (y60)
    else
     some (false)
   else
    if decide (y24.2=0) then
     (Zdt n y24.1 y47.1).bind fun y63 =>
     some (y63)
    else
     some (false)
def ZaE (n:Nat) (a0:Ty × Ty) (a1:Vl) (y24:(Vl × Int)) (x7_k28:Int):Option Bool :=
 (Zdu n a0.1 a1).bind fun y34 =>
 if decide (x7_k28=0) then
  Zaz n a0 y24 y34 y34.2
 else
  Zaz n a0 y24 y34 x7_k28
def Zdl (n:Nat) (a0:Ty × Ty) (a1:Vl):Option Bool :=
 (Zed n ).bind fun y4 =>
 if !y4 then
  (Zed n ).bind fun y8 =>
  some (y8)
 else
  (ZgJ n a0.1).bind fun y9 =>
  if !y9 then
   (Zed n ).bind fun y13 =>
   some (y13)
  else
   (ZgJ n a0.2).bind fun y14 =>
   if !y14 then
    (Zed n ).bind fun y18 =>
    some (y18)
   else
    (Zk6 a1).bind fun y19 =>
    if !y19 then
     (Zed n ).bind fun y22 =>
     some (y22)
    else
     (ZaG n a0.1 a0.2 a1).bind fun y24 =>
     (Zes n a0.1).bind fun y26 =>
     if decide (y26=0) then
      (Zes n a0.2).bind fun y32 =>
      ZaE n a0 a1 y24 y32
     else
      ZaE n a0 a1 y24 y26
theorem Zj4 (w0:World) (hP:Pow10 w0) (hT:Lib.Utf8Tabs 0 1 w0) (n:Nat) (B:List (List AV)) (Rw:List RowA) (L:List LoopA) (a0:Ty × Ty) (a1:Vl) (r:Bool) (h:Zdl n a0 a1=some r) :
  ACalls Tryz.prog w0 5 [.agg ((a0.1.cs)++(a0.2.cs)),.agg (a1.cs)] ⟨B,Rw,L⟩ fun x st=>x = .val (.bool r)∧st=⟨B,Rw,L⟩:=by
 rw [Zdl] at h
 refine hd [.tmp 4] Tryz.func5 Tryz.ntmps5 fun M0 W0 hN aq ax a hu hO hs=>?_
 simp only [Zaq]
 refine rg [2,3] hs ?_
 apply Zaa;intro K2 az
 apply Zaa;intro K3 f
 obtain ⟨y4,l,h⟩:=bind_some h
 rcases Bool.eq_false_or_eq_true (!y4) with hf5 | hf5
 ·
  replace h:=Za9 h hf5
  have hs:=And.intro hf5 hs
  refine rk 5 [2,3,30] hs ?_
  refine Zac _ (ZdU w0 hP hT n _ _ _  _ l) (hv hs) ?_
  refine nc hs ?_
  refine Zau ?_
  refine nc hs ?_
  refine Zau ?_
  refine nc hs ?_
  refine Zau ?_
  refine ne hs f ?_
  clear f
  refine ZaQ true ev (ef hs) (fun hb6=>?_) (fun hb6=>by cases hb6)
  obtain ⟨y8,a7,h⟩:=bind_some h
  refine rc 2 [4] hs ?_;intro K7 a4
  refine Zac _ (ZdU w0 hP hT n _ _ _  _ a7) (hv hs) ?_
  refine ne hs a4 ?_
  clear a4
  exact rt h hs a hO
 ·
  replace h:=Zba h hf5
  obtain ⟨y9,af,h⟩:=bind_some h
  rcases Bool.eq_false_or_eq_true (!y9) with hf10 | hf10
  ·
   replace h:=Za9 h hf10
   have hs:=And.intro hf5 hs
   have hs:=And.intro hf10 hs
   refine rk 5 [2,3,30] hs ?_
   refine Zac _ (ZdU w0 hP hT n _ _ _  _ l) (hv hs) ?_
   refine nc hs ?_
   refine Zac _ (ZgU w0 n _ _ _ a0.1 _ af) (hv hs) ?_
   refine nc hs ?_
   refine Zau ?_
   refine nc hs ?_
   refine Zau ?_
   refine ne hs f ?_
   clear f
   refine ZaQ true ev (ef hs) (fun hb11=>?_) (fun hb11=>by cases hb11)
   obtain ⟨ba,ah,h⟩:=bind_some h
   refine rc 2 [4] hs ?_;intro K12 ad
   refine Zac _ (ZdU w0 hP hT n _ _ _  _ ah) (hv hs) ?_
   refine ne hs ad ?_
   clear ad
   exact rt h hs a hO
  ·
   replace h:=Zba h hf10
   obtain ⟨a8,aa,h⟩:=bind_some h
   rcases Bool.eq_false_or_eq_true (!a8) with hf15 | hf15
   ·
    replace h:=Za9 h hf15
    have hs:=And.intro hf5 hs
    have hs:=And.intro hf10 hs
    have hs:=And.intro hf15 hs
    refine rk 5 [2,3,30] hs ?_
    refine Zac _ (ZdU w0 hP hT n _ _ _  _ l) (hv hs) ?_
    refine nc hs ?_
    refine Zac _ (ZgU w0 n _ _ _ a0.1 _ af) (hv hs) ?_
    refine nc hs ?_
    refine Zac _ (ZgU w0 n _ _ _ a0.2 _ aa) (hv hs) ?_
    refine nc hs ?_
    refine Zau ?_
    refine ne hs f ?_
    clear f
    refine ZaQ true ev (ef hs) (fun hb16=>?_) (fun hb16=>by cases hb16)
    obtain ⟨a9,ar,h⟩:=bind_some h
    refine rc 2 [4] hs ?_;intro K17 q
    refine Zac _ (ZdU w0 hP hT n _ _ _  _ ar) (hv hs) ?_
    refine ne hs q ?_
    clear q
    exact rt h hs a hO
   ·
    replace h:=Zba h hf15
    obtain ⟨bf,aj,h⟩:=bind_some h
    have hs:=And.intro hf5 hs
    have hs:=And.intro hf10 hs
    have hs:=And.intro hf15 hs
    refine rk 5 [2,3,30] hs ?_
    refine Zac _ (ZdU w0 hP hT n _ _ _  _ l) (hv hs) ?_
    refine nc hs ?_
    refine Zac _ (ZgU w0 n _ _ _ a0.1 _ af) (hv hs) ?_
    refine nc hs ?_
    refine Zac _ (ZgU w0 n _ _ _ a0.2 _ aa) (hv hs) ?_
    refine nc hs ?_
    refine Zac _ (ZuY w0 _ _ _ a1 _ aj) (hv hs) ?_
    refine ne hs f ?_
    clear f
    refine cnd h hs (fun hs h=>?_) (fun hs h=>?_)
    ·
     obtain ⟨bg,am,h⟩:=bind_some h
     refine rc 2 [4] hs ?_;intro K21 s
     refine Zac _ (ZdU w0 hP hT n _ _ _  _ am) (hv hs) ?_
     refine ne hs s ?_
     clear s
     exact rt h hs a hO
    refine sk [2,3] hs az ?_
    clear az
    obtain ⟨b,ai,h⟩:=bind_some h
    refine rc 2 [2,3,5,6] hs ?_;intro K23 z
    refine Zac _ (Zh1 w0 hP hT n _ _ _ a0.1 a0.2 a1 _ ai) (hv hs) ?_
    refine ne hs z ?_
    clear z
    obtain ⟨a6,a3,h⟩:=bind_some h
    refine rc 2 [2,3,5,6,7] hs ?_;intro K25 ab
    refine Zac _ (ZjI w0 hT n _ _ _ a0.1 _ a3) (hv hs) ?_
    refine ne hs ab ?_
    clear ab
    refine Zak (fun e st=>∃ (c:Int),Ck e st B Rw L [(2,true,.box B.length 0),(3,true,.box (B.length+1) 0),(5,true,.box (B.length+2) 0),(6,true,.val (.int .i64 b.2)),(7,true,.val (.int .i64 c))] [(a0.1.cs)++(a0.2.cs),a1.cs,b.1.cs] [] (ZaE n a0 a1 b c=some r)) ?_ ?_
    ·
     intro K29 u
     refine rg [2,3,5,6,7,45] hs ?_
     refine cnd h hs (fun hs h=>?_) (fun hs h=>?_)
     ·
      obtain ⟨a5,aw,h⟩:=bind_some h
      refine rk 2 [2,3,5,6,7] hs ?_
      refine Zac _ (ZjI w0 hT n _ _ _ a0.2 _ aw) (hv hs) ?_
      refine ne hs u ?_
      exact ⟨a5,([]),Rw,ef hs,ef hs,hO,h⟩
     refine sk [2,3,5,6,7] hs u ?_
     exact ⟨a6,([]),Rw,ef hs,ef hs,hO,h⟩
    ·
     clear h;rintro e st ⟨c,Xk28,Rk28,rfl,rfl,hO,h⟩
     rw [ZaE] at h
     refine td hN aq ax a hO ?_
     obtain ⟨m,ay,h⟩:=bind_some h
     refine rc 2 [2,5,6,7,8,9] hs ?_;intro K33 p
     refine Zac _ (Zjb w0 hP hT n _ _ _ a0.1 a1 _ ay) (hv hs) ?_
     refine ne hs p ?_
     clear p
     refine Zak (fun e st=>∃ (d:Int),Ck e st B Rw L [(2,true,.box B.length 0),(5,true,.box (B.length+2) 0),(6,true,.val (.int .i64 b.2)),(7,true,.val (.int .i64 d)),(8,true,.box (B.length+3) 0)] [(a0.1.cs)++(a0.2.cs),a1.cs,b.1.cs,m.1.cs] [] (Zaz n a0 b m d=some r)) ?_ ?_
     ·
      intro K37 y
      refine rg [2,5,6,7,8,9,57] hs ?_
      refine cnd h hs (fun hs h=>?_) (fun hs h=>?_)
      ·
       refine rl [2,5,6,7,8] hs y ?_
       exact ⟨m.2,([]),Rk28,ef hs,ef hs,hO,h⟩
      refine sk [2,5,6,7,8] hs y ?_
      exact ⟨c,([]),Rk28,ef hs,ef hs,hO,h⟩
     ·
      clear h;rintro e st ⟨d,Xk36,Rk36,rfl,rfl,hO,h⟩
      rw [Zaz] at h
      refine td hN aq ax a hO ?_
      apply Zaa;intro K40 o
      refine rg [2,5,6,7,8,60] hs ?_
      refine cnd h hs (fun hs h=>?_) (fun hs h=>?_)
      ·
       apply Zaa;intro K43 k
       rcases Bool.eq_false_or_eq_true (decide (b.2=d)) with hf44 | hf44
       ·
        replace h:=Za9 h hf44
        obtain ⟨bb,ao,h⟩:=bind_some h
        have hs:=And.intro hf44 hs
        refine rk 2 [4] hs ?_
        refine Zac _ (ZhO w0 n _ _ _ b.1 (Vl.mk 0 0 0 ((⟨#[]⟩:ByteArray)) ([]) ([])) _ ao) (hv hs) ?_
        refine ne hs k ?_
        clear k
        exact rt h hs a hO
       ·
        replace h:=Zba h hf44
        have hs:=And.intro hf44 hs
        refine rk 2 [4] hs ?_
        refine Zau ?_
        refine ne hs k ?_
        clear k
        exact rt h hs a hO
      refine sk [2,5,6,8] hs o ?_
      clear o
      obtain ⟨av,a2,h⟩:=bind_some h
      refine rc 2 [5,6,10,11] hs ?_;intro K46 ae
      refine Zac _ (Ztg w0 n _ _ _ a0.1 a0.2 m.1 _ a2) (hv hs) ?_
      refine ne hs ae ?_
      clear ae
      apply Zaa;intro K48 t
      refine rg [5,6,10,79] hs ?_
      refine cnd h hs (fun hs h=>?_) (fun hs h=>?_)
      ·
       apply Zaa;intro K51 g
       rcases Bool.eq_false_or_eq_true (decide (b.2=20)) with hf52 | hf52
       ·
        replace h:=Za9 h hf52
        obtain ⟨bd,ak,h⟩:=bind_some h
        have hs:=And.intro hf52 hs
        refine rk 2 [4] hs ?_
        refine Zac _ (ZhO w0 n _ _ _ b.1 (Vl.mk 0 0 0 ((⟨#[]⟩:ByteArray)) ([]) ([])) _ ak) (hv hs) ?_
        refine ne hs g ?_
        clear g
        exact rt h hs a hO
       ·
        replace h:=Zba h hf52
        have hs:=And.intro hf52 hs
        refine rk 2 [4] hs ?_
        refine Zau ?_
        refine ne hs g ?_
        clear g
        exact rt h hs a hO
      refine sk [5,6,10] hs t ?_
      clear t
      apply Zaa;intro K54 w
      obtain ⟨be,ap,h⟩:=bind_some h
      refine rc 2 [5,6,10,89] hs ?_;intro K55 v
      refine Zac _ (ZhJ w0 hT n _ _ _ av.1 _ ap) (hv hs) ?_
      refine ne hs v ?_
      clear v
      refine cnd h hs (fun hs h=>?_) (fun hs h=>?_)
      ·
       apply Zaa;intro K58 j
       rcases Bool.eq_false_or_eq_true (decide (b.2=9)) with hf59 | hf59
       ·
        replace h:=Za9 h hf59
        obtain ⟨bc,au,h⟩:=bind_some h
        have hs:=And.intro hf59 hs
        refine rk 2 [4] hs ?_
        refine Zac _ (ZhO w0 n _ _ _ b.1 (Vl.mk 0 0 0 ((⟨#[]⟩:ByteArray)) ([]) ([])) _ au) (hv hs) ?_
        refine ne hs j ?_
        clear j
        exact rt h hs a hO
       ·
        replace h:=Zba h hf59
        have hs:=And.intro hf59 hs
        refine rk 2 [4] hs ?_
        refine Zau ?_
        refine ne hs j ?_
        clear j
        exact rt h hs a hO
      refine sk [5,6,10] hs w ?_
      clear w
      apply Zaa;intro K61 i
      rcases Bool.eq_false_or_eq_true (decide (b.2=0)) with hf62 | hf62
      ·
       replace h:=Za9 h hf62
       obtain ⟨bh,ag,h⟩:=bind_some h
       have hs:=And.intro hf62 hs
       refine rk 2 [4] hs ?_
       refine Zac _ (ZhO w0 n _ _ _ b.1 av.1 _ ag) (hv hs) ?_
       refine ne hs i ?_
       clear i
       exact rt h hs a hO
      ·
       replace h:=Zba h hf62
       have hs:=And.intro hf62 hs
       refine rk 2 [4] hs ?_
       refine Zau ?_
       refine ne hs i ?_
       clear i
       exact rt h hs a hO
theorem ZoM (n:Nat) (v:Vl) (h:v.size≤4096) (hn:10000≤n):Zdt n v v=some true:=by
 obtain ⟨c,e,hc⟩:=ZuV n v v (by omega) (by omega)
 rw [e,hc.2 rfl]
theorem ZnX (n:Nat) (hn:10000000000≤n) (t:Ty × Ty) (v:Vl) (h1:t.1.bulk≤1048576) (h2:t.2.bulk≤1048576) (hv:v.bulk≤1048576):Zdl n t v=some true:=by
 have kn:=Zvh n (by omega)
 have b1:=t.1.size_bulk
 have b2:=t.2.size_bulk
 have b3:=v.size_bulk
 have j:=v.ok_bulk hv
 have e:nilV.size≤4096:=by decide
 have a:Zdt n nilV nilV=some true:=ZoM n nilV e (by omega)
 rw [Zdl,kn,Option.bind_some,if_neg (by decide),ZoF n t.1 (by omega) (by omega),Option.bind_some]
 by_cases s1:t.1.depth≤10∧t.1.size≤60
 rotate_left
 ·
  rw [decide_eq_false s1,if_pos (by rfl),Option.bind_some]
 rw [decide_eq_true s1,if_neg (by decide),ZoF n t.2 (by omega) (by omega),Option.bind_some]
 by_cases s2:t.2.depth≤10∧t.2.size≤60
 rotate_left
 ·
  rw [decide_eq_false s2,if_pos (by rfl),Option.bind_some]
 obtain ⟨few,i⟩:=Zw4 v (by omega)
 rw [decide_eq_true s2,if_neg (by decide),i,Option.bind_some]
 cases few with
 | false=>rw [if_pos (by rfl),Option.bind_some]
 | true =>
  rw [if_neg (by decide)]
  have q1:t.1.small:=Ty.small_of h1 (by omega) (by omega)
  have q2:t.2.small:=Ty.small_of h2 (by omega) (by omega)
  obtain ⟨c1,e1,f1,_⟩:=ZmY n t.1 (by omega) q1
  obtain ⟨c2,e2,f2,_⟩:=ZmY n t.2 (by omega) q2
  have hC:=Zse n t.1 v q1 j (by omega) (by omega)
  obtain ⟨w1,w2⟩:=ZmB 12 t.1 v q1 j (by omega)
  have vd:=v.depth_size
  have nb:∀ c:Int,c≠0→(!decide (c=0))=true:=fun c h=>by rw [decide_eq_false h];rfl
  have nz:(!decide ((0:Int)=0))=false:=by decide
  have bs:∀ {A:Option Bool},A=some true→(A.bind fun y=>some y)=some true:=fun {A} h=>by rw [h];rfl
  by_cases z1:c1=0
  rotate_left
  ·
   have hU:ZaG n t.1 t.2 v=some (nilV,c1):=by
    rw [ZaG,Zcs,e1,Option.bind_some,if_pos (nb c1 z1),Option.bind_some,if_pos (nb c1 z1)]
   rw [hU,Option.bind_some,e1,Option.bind_some,decide_eq_false z1,if_neg (show ¬ (false=true) by decide),ZaE,hC,Option.bind_some,decide_eq_false z1,if_neg (show ¬ (false=true) by decide),Zaz,if_pos (nb c1 z1),if_pos (decide_eq_true rfl)]
   exact bs a
  subst z1
  have g1:=(Zoj n t.1 (by omega) q1 f1).1
  by_cases z2:c2=0
  rotate_left
  ·
   have hU:ZaG n t.1 t.2 v=some (nilV,c2):=by
    rw [ZaG,Zcs,e1,Option.bind_some,nz,if_neg (show ¬ (false=true) by decide),e2,Option.bind_some,Option.bind_some,if_pos (nb c2 z2)]
   rw [hU,Option.bind_some,e1,Option.bind_some,if_pos (decide_eq_true rfl),e2,Option.bind_some,ZaE,hC,Option.bind_some,decide_eq_false z2,if_neg (show ¬ (false=true) by decide),Zaz,if_pos (nb c2 z2),if_pos (decide_eq_true rfl)]
   exact bs a
  subst z2
  have g2:=(Zoj n t.2 (by omega) q2 f2).2.1
  have f:Zcs n t.1 t.2=some 0:=by rw [Zcs,e1,Option.bind_some,nz,if_neg (show ¬ (false=true) by decide),e2];rfl
  by_cases hf:Zn8 12 t.1 (Zdd 12 t.1 v)=true
  rotate_left
  ·
   rw [if_neg hf] at hC
   have hU:ZaG n t.1 t.2 v=some (nilV,18):=by
    rw [ZaG,f,Option.bind_some,nz,if_neg (show ¬ (false=true) by decide),hC];rfl
   rw [hU,Option.bind_some,e1,Option.bind_some,if_pos (decide_eq_true rfl),e2,Option.bind_some,ZaE,hC,Option.bind_some,if_pos (decide_eq_true rfl),Zaz,if_pos (show (!decide ((nilV,(18:Int)).2=0))=true by decide),if_pos (decide_eq_true rfl)]
   exact bs a
  rw [if_pos hf] at hC
  obtain ⟨r1,r2,u1,u2,u3,u4⟩:=ZxQ 12 n (v.depth+1048576) 8 t.1 t.2 (Zdd 12 t.1 v) q1 q2 g1 g2 w1 w2 hf (by omega)
  have d:∀ up,ZaG n t.1 t.2 v=some up→Zaz n t up (Zdd 12 t.1 v,0) 0=some true→((ZaG n t.1 t.2 v).bind fun k=>(Zes n t.1).bind fun g=>if decide (g=0)=true then (Zes n t.2).bind fun m=>ZaE n t v k m else ZaE n t v k g)=some true:=fun up hU h=>by
   rw [hU,Option.bind_some,e1,Option.bind_some,if_pos (decide_eq_true rfl),e2,Option.bind_some,ZaE,hC,Option.bind_some,if_pos (decide_eq_true rfl)]
   exact h
  have b:ZaG n t.1 t.2 v=if (!r1.2)=true then some (nilV,20) else (Zc5 n r1.1).bind fun l=>if (!decide (l=0))=true then some (nilV,9) else (Zbi n r1.1).bind fun p=>some (p,0):=by
   rw [ZaG,f,Option.bind_some,nz,if_neg (show ¬ (false=true) by decide),hC,Option.bind_some,nz,if_neg (show ¬ (false=true) by decide),u1,Option.bind_some]
  cases o:upS 12 t.1 t.2 (Zdd 12 t.1 v) with
  | none =>
   rw [o] at u3 u4
   have x1:r1.2=false:=u3.1
   have x2:r2.2=false:=u4.1
   rw [x1,if_pos (by rfl)] at b
   refine d _ b ?_
   rw [Zaz,nz,if_neg (show ¬ (false=true) by decide),u2,Option.bind_some,x2,if_pos (by rfl),if_pos (by rfl)]
   exact bs a
  | some y =>
   rw [o] at u3 u4
   have x1:r1=(y,true):=u3.1
   have x2:r2=(y,true):=u4.1
   obtain ⟨_,y1,y2⟩:=u3
   subst x1
   subst x2
   have y2:y.depth≤v.depth+1048576+1048576:=y2
   have hy:=Ztz n y (by omega) (by omega) y1
   have st:¬ ((!(y,true).2)=true):=by simp
   rw [if_neg st,hy,Option.bind_some] at b
   by_cases c:Zp2 y=0
   ·
    have ys:=ZwN c
    rw [c,nz,if_neg (show ¬ (false=true) by decide),Zf9 n y y1 (by omega),Option.bind_some] at b
    refine d _ b ?_
    rw [Zaz,nz,if_neg (show ¬ (false=true) by decide),u2,Option.bind_some,if_neg st,hy,Option.bind_some,c,nz,if_neg (show ¬ (false=true) by decide),if_pos (by rfl)]
    exact bs (ZoM n y ys (by omega))
   ·
    rw [if_pos (nb _ c)] at b
    refine d _ b ?_
    rw [Zaz,nz,if_neg (show ¬ (false=true) by decide),u2,Option.bind_some,if_neg st,hy,Option.bind_some,if_pos (nb _ c),if_pos (by rfl)]
    exact bs a
end Go.Proofs.YtgpmlelfkjfbiaaGreatDoor
namespace Go.Proofs.YtgpmlelfkjfbiaaGreatDoor
open Go Go.Shelf Go.ChangeShapes Go.WideShapes Go.ChangeAt Go.RowKit Go.Lib Go.Ev
set_option maxRecDepth 100000
section
variable {H:Type} {enc:TypeId × Value→H} {W:World}
theorem ZAf (n:Nat) (cs:List Value) (x:DataW H × List MemPlace) (h:Td enc W n 58 cs=some x):∃ t:Ty × Ty,t.1.bulk+t.2.bulk≤Rows.uptoBulk x.1∧RC W cs (t.1.cs++t.2.cs):=by
 cases n with
 | zero=>simp [Td,DataW.trod] at h
 | succ n =>
  obtain ⟨ys,n',hn,rfl,hl,hx,hf⟩:=DataW.trod_struct Tryz.underlying58 h
  cases hn
  have e:cs.length=14:=hl.trans (by kernel_rfl)
  have f:ys.length=2:=hx
  match ys,f,hf with
  | [w0,w1],_,hf =>
  have q0:_=some w0:=hf 0 _ rfl;have q1:_=some w1:=hf 1 _ rfl
  obtain ⟨a,_,d,ba⟩:=ZsN n _ _ q0
  obtain ⟨b,_,c,bb⟩:=ZsN n _ _ q1
  have e2:Tryz.prog.cellsOf 26=7:=by kernel_rfl
  simp only [List.getElem_toArray,List.getElem_cons_zero,List.getElem_cons_succ,e2] at d c
  match cs,e with
  | [c0,c1,c2,c3,c4,c5,c6,c7,c8,c9,c10,c11,c12,c13],_ =>
  simp only [List.drop_zero,List.take_succ_cons,List.take_zero,List.drop_succ_cons] at d c
  exact ⟨(a,b),by simp only [List.map_cons,List.map_nil,Rows.uptoBulk,Rows.uptoBulkAll];omega,d.app c⟩
end
section
variable {H:Type} {enc:TypeId × Value→H} {W:World} {base:Nat} {v:Value} {d:DataW H} {p:List MemPlace}
theorem ZBG (hv:Value.okWide Tryz.prog W .any base 58 v) (h:DataW.Trod enc Tryz.prog W 0 (fun _=>true) true 58 v d p) :
  ∃ t:Ty × Ty,t.1.bulk+t.2.bulk≤Rows.uptoBulk d∧R W Mem.start W v (.agg (t.1.cs++t.2.cs)):=by
 obtain ⟨cs,rfl⟩:=Zzg Tryz.underlying58 hv
 obtain ⟨n,hn⟩:=h
 obtain ⟨t,h1,h2⟩:=ZAf n _ _ hn
 exact ⟨t,h1,by simpa [Value.cells] using h2.agg (fun x hx=>by
  rcases List.mem_append.1 hx with hx | hx
  ·
   exact t.1.ones x hx
  ·
   exact t.2.ones x hx)⟩
end
end Go.Proofs.YtgpmlelfkjfbiaaGreatDoor
