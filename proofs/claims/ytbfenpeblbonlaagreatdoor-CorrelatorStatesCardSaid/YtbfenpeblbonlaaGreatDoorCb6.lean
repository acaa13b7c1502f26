/-
  Part 6 of the proof: rules and walks that the claim's last text uses.
-/
import Derived.BigQuiet
import Derived.Deep.LoopGhost
import Derived.Deep.QuietTactic
import Derived.Laws.RangeAny
import Derived.Lib.OthersKept
import Derived.WalkMore
import Derived.WalkSmall
import Derived.Test.YtbfenpeblbonlaaGreatDoorCb1
import Derived.Test.YtbfenpeblbonlaaGreatDoorCb2
import Derived.Test.YtbfenpeblbonlaaGreatDoorCb3
import Derived.Test.YtbfenpeblbonlaaGreatDoorCb4
import Derived.Test.YtbfenpeblbonlaaGreatDoorCb5
set_option linter.unusedSimpArgs false
set_option linter.unusedVariables false
set_option maxRecDepth 100000
set_option maxHeartbeats 4000000
namespace Go.Proofs.YtbfenpeblbonlaaGreatDoor
open Go Go.RowKit Go.Ev
abbrev eS:ByteArray:=⟨#[]⟩
abbrev zV:Vl:=Vl.mk 0 0 0 eS [] []
def iV (k:Int):Vl:=Vl.mk 2 k 0 eS [] []
def rV (l:List (ByteArray × Vl)):Vl:=Vl.mk 9 0 0 eS [] l
def nK:ByteArray:=⟨#[107]⟩
def nN:ByteArray:=⟨#[110]⟩
def nV:ByteArray:=⟨#[118]⟩
def Yz:ByteArray:=⟨#[105,100]⟩
def MN:ByteArray:=⟨#[97,115,107]⟩
def MA:ByteArray:=⟨#[115,116,111,99,107]⟩
def B5 (m:CM):Msg:=Msg.mk ((m.i:Int)+1,[1]) (100+(m.i:Int)) [(m.i:Int)+1] (rV [(nK,iV m.k),(nN,iV m.v)])
def BS (e:CE):Slt:=Slt.mk (iV e.num) 0 e.t [B5 e.m] []
def Aw (s:CS):Stt:=Stt.mk s.num 0 (s.es.map BS)
abbrev ZkZ:Msg:=Msg.mk (0,[]) 0 [] zV
def B9:CI->Inp
 | .msg m now=>Inp.mk 1 now ((m.i:Int)+1,[1]) (B5 m) 0 false false zV
 | .rep i now c done undo w=>Inp.mk 3 now ((i:Int)+1,[1]) ZkZ c undo done (rV [(nV,iV w)])
 | .clk i now=>Inp.mk 2 now ((i:Int)+1,[0,3]) ZkZ 0 false false zV
def Tz:CR->ByteArray
 | .full=>⟨#[102,117,108,108]⟩
 | .type=>⟨#[116,121,112,101]⟩
 | .refused=>⟨#[114,101,102,117,115,101,100]⟩
 | .timeout=>⟨#[116,105,109,101,111,117,116]⟩
def HU (r:CM × CR):Fte:=Fte.mk ((r.1.i:Int)+1,[1]) 4 MN [] (Tz r.2)
def Hi (o:CO):Otc :=
 Otc.mk (Aw o.st) (o.out.toList.map fun x=>(0,Msg.mk ((x.1:Int)+1,[1,0]) (100+(x.2.1.i:Int)) [(x.2.1.i:Int)+1] (rV [(nK,iV x.2.1.k),(nV,iV ((x.2.1.v:Int)+(x.2.2:Int)))])))
  (o.req.toList.map fun x=>Rqs.mk ((x.1.i:Int)+1,[1,0]) MA x.2 false (rV [(Yz,iV x.1.k)]))
  (o.rej.map HU++o.out.toList.map fun x=>Fte.mk ((x.2.1.i:Int)+1,[1]) 1 MN [((x.1:Int)+1,[1,0])] eS)
  (o.rej.map fun r=>B5 r.1)
theorem KX (m:CM):SY (B5 m):=⟨by simp [B5],by simp [B5],by simp [B5,rV,iV,Vl.size,JS,JZ]⟩
theorem Pn (e:CE):Wc (BS e):=⟨by simp [BS,iV,Vl.size,JS,JZ],⟨by simp [BS],fun m a=>by simp only [BS,List.mem_singleton] at a;rw [a];exact KX _⟩,by simp [BS],by simp [BS]⟩
theorem NC (s:CS) (h:s.es.length<=1000):T8 (Aw s):=⟨by simpa [Aw] using h,fun x a=>by
 obtain ⟨e,_,rfl⟩:=List.mem_map.1 (show x∈s.es.map BS from a)
 exact Pn e⟩
theorem or6 (n:Nat) (hn:10<=n) (c:Int):EJ n [0,c,0,0,0,0]=some c:=by
 obtain ⟨n,rfl⟩:∃ m,n=m+10:=⟨n-10,by omega⟩
 rw [EJ]
 by_cases h:c=0
 ·subst h
  rfl
 ·have e:Ec (n+10) [0,c,0,0,0,0] (n+10) 0=if !(decide (c=0)) then some c else if BN (1+1) then Ec (n+10) [0,c,0,0,0,0] (n+8) (1+1) else none:=rfl
  rw [e,Af h]
  rfl
theorem Zc (n:Nat) (hn:1000<=n) (a b:Int):CB n (iV a) (iV b)=some (if a<b then -1 else if a=b then 0 else 1):=by
 obtain ⟨n,rfl⟩:∃ m,n=m+30:=⟨n-30,by omega⟩
 have f:DD (n+29) (iV a).list (iV b).list (fun (x0:Vl) (x1:Vl)=>CB (n+29) x0 x1)=some 0:=rfl
 have d:DL (n+29) (iV a).fields (iV b).fields (fun (x0:ByteArray × Vl) (x1:ByteArray × Vl)=>FX (CB (n+29)) (n+29) x0 x1)=some 0:=rfl
 have g:VV eS eS=0:=by decide +kernel
 have c:=or6 (n+29) (by omega) (if a<b then -1 else if a=b then 0 else 1)
 show Ip (CB (n+29)) (n+29) (iV a) (iV b)=_
 rw [Ip,f,Ae,d,Ae]
 show (EJ (n+29) [if (2:Int)<2 then -1 else if (2:Int)=2 then 0 else 1,if a<b then -1 else if a=b then 0 else 1,if (0:Int)<0 then -1 else if (0:Int)=0 then 0 else 1,VV eS eS,0,0]).bind (fun e=>some e)=_
 rw [g,Ai (Int.lt_irrefl 2),Ah rfl,Ai (Int.lt_irrefl 0),Ah rfl,c]
 rfl
theorem Zgl (n:Nat) (hn:1000<=n) (es:List CE) (hl:es.length<=1000) (hi:es.Pairwise fun a b=>a.num<b.num) (c:Nat):∀ (d m i j:Nat),i+d=j->j<=es.length->d<m ->
  (∀ q (hq:q<es.length),q<i->es[q].num<c)->(∀ q (hq:q<es.length),j<=q->c<=es[q].num) ->
  ∃ p:Nat,A9 n (es.map BS) (iV c) (fun (x0:Slt) (x1:Vl)=>Ej n x0 x1) m (i:Int) (j:Int)=some ((p:Int),decide (∃ hp:p<es.length,es[p].num=c))/\p<=es.length /\
   (∀ q (hq:q<es.length),q<p->es[q].num<c)/\∀ q (hq:q<es.length),p<=q->c<=es[q].num:=by
 intro d
 induction d using Nat.strongRecOn with
 | _ d ih =>
 intro m i j t r v s h
 obtain ⟨m,rfl⟩:∃ k,m=k+1:=⟨m-1,by omega⟩
 rw [A9]
 by_cases c1:i<j
 ·rw [A4,Ag c1,Ah rfl,Ah (by unfold BN;omega),Ab,Ab,Ah (by unfold BN;omega)]
  have u:((i:Int)+(j:Int)) / 2=(((i+j) / 2:Nat):Int):=by omega
  have g:(i+j) / 2<(es.map BS).length:=by rw [List.length_map];omega
  have f:(i+j) / 2<es.length:=by omega
  rw [u,Bj g,Ae,List.getElem_map,Ej]
  have o:CB n (BS es[(i+j) / 2]).key (iV c)=some (if (es[(i+j) / 2].num:Int)<(c:Int) then -1 else if (es[(i+j) / 2].num:Int)=(c:Int) then 0 else 1):=Zc n hn _ _
  rw [o,Ae,Ae]
  by_cases c2:es[(i+j) / 2].num<c
  ·rw [Ah (show (es[(i+j) / 2].num:Int)<(c:Int) by omega),Ag (show (-1:Int)<0 by decide),Ah rfl,Ah (A8 (by omega))]
   have:=ih (j-((i+j) / 2+1)) (by omega) m ((i+j) / 2+1) j (by omega) r (by omega) (fun q hq l=>?_) h
   ·exact this
   ·by_cases e:q=(i+j) / 2
    ·subst e;exact c2
    ·have:=(List.pairwise_iff_getElem.1 hi) q ((i+j) / 2) hq f (by omega)
     omega
  ·rw [Ai (show ¬ (es[(i+j) / 2].num:Int)<(c:Int) by omega)]
   have hd:decide ((if (es[(i+j) / 2].num:Int)=(c:Int) then (0:Int) else 1)<0)=false:=by
    apply Af;split<;>omega
   rw [hd,Ai (by decide)]
   have:=ih ((i+j) / 2-i) (by omega) m i ((i+j) / 2) (by omega) (by omega) (by omega) s (fun q hq l=>?_)
   ·exact this
   ·by_cases e:q=(i+j) / 2
    ·subst e;omega
    ·have:=(List.pairwise_iff_getElem.1 hi) ((i+j) / 2) q f hq (by omega)
     omega
 ·rw [A4,Af c1,Ai (by decide),Dt]
  obtain rfl:i=j:=by omega
  refine ⟨i,?_,r,s,h⟩
  by_cases c3:i<es.length
  ·rw [List.length_map,A4,Ag c3,Ah rfl,Bj (by rw [List.length_map];exact c3),Ae,List.getElem_map,Ej]
   have o:CB n (BS es[i]).key (iV c)=some (if (es[i].num:Int)<(c:Int) then -1 else if (es[i].num:Int)=(c:Int) then 0 else 1):=Zc n hn _ _
   rw [o,Ae,Ae]
   have:=h i c3 (Nat.le_refl _)
   rw [Ai (show ¬ (es[i].num:Int)<(c:Int) by omega)]
   congr 2
   by_cases e:es[i].num=c
   ·rw [Ah (show (es[i].num:Int)=(c:Int) by omega)];simp [c3,e]
   ·rw [Ai (show ¬ (es[i].num:Int)=(c:Int) by omega)];simp [e]
  ·rw [List.length_map,A4,Af c3,Ai (by decide)]
   congr 2
   simp [c3]
theorem TN (n:Nat) (hn:10000<=n) (s:CS) (hl:s.es.length<=1000) (hi:s.es.Pairwise fun a b=>a.num<b.num) (c:Nat) :
  ∃ p:Nat,Fv n (Aw s) (iV c)=some ((p:Int),decide (∃ hp:p<s.es.length,s.es[p].num=c))/\p<=s.es.length/\(∀ q (hq:q<s.es.length),q<p->s.es[q].num<c)/\∀ q (hq:q<s.es.length),p<=q->c<=s.es[q].num:=by
 obtain ⟨p,e,h⟩:=Zgl n (by omega) s.es hl hi c s.es.length n 0 s.es.length (by omega) (Nat.le_refl _) (by omega) (by omega) (by omega)
 refine ⟨p,?_,h⟩
 rw [Fv,DG]
 have d:((Aw s).slots.length:Int)=(s.es.length:Int):=by simp [Aw]
 rw [d]
 have f:A9 n (Aw s).slots (iV c) (fun (x0:Slt) (x1:Vl)=>Ej n x0 x1) n 0 (s.es.length:Int)=_:=e
 rw [f];rfl
theorem Wn {es:List CE} (hi:es.Pairwise fun a b=>a.num<b.num) {p:Nat} (hp:p<es.length):es.filter (fun x=>x.num != es[p].num)=es.take p++es.drop (p+1):=by
 have h:=List.pairwise_iff_getElem.1 hi
 have e:es=es.take p++es[p]::es.drop (p+1):=by rw [List.getElem_cons_drop,List.take_append_drop]
 generalize hc:es[p]=x at *
 rw [e,List.filter_append,List.filter_cons]
 rw [Ai (by simp),List.filter_eq_self.2,List.filter_eq_self.2]
 ·rw [<-e]
 ·intro a c
  obtain ⟨i,hi,rfl⟩:=List.mem_iff_getElem.1 c
  rw [List.length_drop] at hi
  rw [List.getElem_drop]
  have:=h p (p+1+i) hp (by omega) (by omega)
  rw [hc] at this
  simp;omega
 ·intro a c
  obtain ⟨i,hi,rfl⟩:=List.mem_iff_getElem.1 c
  rw [List.length_take] at hi
  rw [List.getElem_take]
  have:=h i p (by omega) hp (by omega)
  rw [hc] at this
  simp;omega
theorem XM {s:CS} (hi:s.es.Pairwise fun a b=>a.num<b.num) {c p:Nat} (h1:∀ q (hq:q<s.es.length),q<p->s.es[q].num<c) (h2:∀ q (hq:q<s.es.length),p<=q->c<=s.es[q].num) {e:CE} (hm:e∈s.es) (he:e.num=c) :
  ∃ hp:p<s.es.length,s.es[p]=e:=by
 obtain ⟨q,hq,rfl⟩:=List.mem_iff_getElem.1 hm
 have d:p<=q:=by
  by_cases c1:q<p
  ·have:=h1 q hq c1;omega
  ·omega
 have hp:p<s.es.length:=by omega
 refine ⟨hp,?_⟩
 by_cases c1:p=q
 ·subst c1;rfl
 ·have:=(List.pairwise_iff_getElem.1 hi) p q hp hq (by omega)
  have:=h2 p hp (Nat.le_refl _)
  omega
theorem KG {c:Nat} {es:List CE} {e:CE} (h:LC c es=some e):e∈es/\e.num=c:=by
 unfold LC at h
 exact ⟨List.mem_of_find?_eq_some h,by have:=List.find?_some h;simpa using this⟩
theorem Zs {c:Nat} {es:List CE} (h:LC c es=none):∀ e∈es,e.num≠c:=by
 unfold LC at h
 intro e a
 have:=List.find?_eq_none.1 h e a
 simpa using this
theorem Zd0 (n:Nat) (hn:100000<=n) (s:CS) (hl:s.es.length<=1000) (hi:s.es.Pairwise fun a b=>a.num<b.num) (c:Nat) (h:LC c s.es=none):∃ x,Hg n (Aw s) (iV c)=some (x,false):=by
 obtain ⟨p,e,d,g,i⟩:=TN n (by omega) s hl hi c
 have f:=Zs h
 have hd:decide (∃ d:p<s.es.length,s.es[p].num=c)=false:=Af fun ⟨d,q⟩=>f _ (List.getElem_mem d) q
 rw [Hg,e,Ae,hd]
 exact ⟨_,rfl⟩
theorem Zdl (n:Nat) (hn:100000<=n) (s:CS) (hl:s.es.length<=1000) (hi:s.es.Pairwise fun a b=>a.num<b.num) (c:Nat) {e:CE} (h:LC c s.es=some e):Hg n (Aw s) (iV c)=some (BS e,true):=by
 obtain ⟨p,q,k,l,o⟩:=TN n (by omega) s hl hi c
 obtain ⟨j,g⟩:=KG h
 obtain ⟨d,i⟩:=XM hi l o j g
 have hd:decide (∃ k:p<s.es.length,s.es[p].num=c)=true:=Ag ⟨d,by rw [i];exact g⟩
 have f:p<(Aw s).slots.length:=by simpa [Aw] using d
 have m:(Aw s).slots[p]=BS e:=by rw [<-i];simp [Aw]
 rw [Hg,q,Ae,hd]
 simp only [Bool.not_true,Bool.false_eq_true,if_false]
 rw [Bj f,Ae,m,MO n hn _ (Pn e),Ae]
theorem SJ (n:Nat) (hn:100000<=n) (s:CS) (hl:s.es.length<=1000) (hi:s.es.Pairwise fun a b=>a.num<b.num) (c:Nat) {e:CE} (h:LC c s.es=some e):Gm n (Aw s) (iV c)=some (Aw ⟨s.num,s.es.filter fun x=>x.num != c⟩,true):=by
 obtain ⟨p,q,l,m,o⟩:=TN n (by omega) s hl hi c
 obtain ⟨k,f⟩:=KG h
 obtain ⟨d,j⟩:=XM hi m o k f
 have hd:decide (∃ l:p<s.es.length,s.es[p].num=c)=true:=Ag ⟨d,by rw [j];exact f⟩
 have i:=Wn hi d
 rw [j,f] at i
 rw [Gm,q,Ae,hd]
 simp only [Bool.not_true,Bool.false_eq_true,if_false]
 have g:(Aw s).slots.length=s.es.length:=by simp [Aw]
 rw [Tc n hn _ (NC s hl),Ae,Ah (A8 (by omega)),Ah (by rw [g];omega)]
 congr 2
 unfold Aw Q5
 simp only [Stt.mk.injEq,true_and,Int.toNat_natCast]
 rw [i,List.map_append,List.map_take,List.map_drop]
theorem Zaw (n:Nat) (hn:100000<=n) (s:CS) (hl:s.es.length<=900) (hi:s.es.Pairwise fun a b=>a.num<b.num) (e:CE) (hlt:∀ x∈s.es,x.num<e.num):Gt n (Aw s) (BS e)=some (Aw ⟨s.num,s.es++[e]⟩,0):=by
 obtain ⟨p,g,i,k,j⟩:=TN n (by omega) s (by omega) hi e.num
 have h:p=s.es.length:=by
  by_cases c:p<s.es.length
  ·have:=j p c (Nat.le_refl _)
   have:=hlt _ (List.getElem_mem c)
   omega
  ·omega
 have hd:decide (∃ i:p<s.es.length,s.es[p].num=e.num)=false:=Af fun ⟨q,_⟩=>by omega
 have f:(Aw s).slots.length=s.es.length:=by simp [Aw]
 have g:Fv n (Aw s) (BS e).key=some ((p:Int),decide (∃ i:p<s.es.length,s.es[p].num=e.num)):=g
 rw [Gt,g,Ae,hd,f]
 have d:decide ((1024:Int)<=(s.es.length:Int))=false:=Af (by omega)
 simp only [Bool.not_false,Bool.true_and,d,Bool.false_eq_true,if_false]
 rw [Tc n hn _ (NC s (by omega)),Ae,MO n hn _ (Pn e),Ae,Ah (by rw [f];omega),Jq]
 congr 2
 unfold Aw IY
 simp only [Stt.mk.injEq,true_and,Int.toNat_natCast]
 rw [h,List.take_of_length_le (by simp),List.drop_eq_nil_of_le (by simp),List.map_append]
 rfl
def Zlh (l:List Slt):Prop:=l.Pairwise fun a b=>a.time<=b.time
theorem ZdW (n:Nat) (hn:1000<=n) (l:List Slt) (hl:l.length<=1000) (hs:Zlh l):∀ (k m i:Nat),i+k=l.length->1<=i->k<m->AU n 0 (l.length:Int) m l (i:Int)=some l
 | k,0,i,_,_,h=>absurd h (Nat.not_lt_zero _)
 | 0,m+1,i,hi,_,_=>by rw [AU,A4,Ac];rfl
 | k+1,m+1,i,hi,h1,hm=>by
  have b:i<l.length:=by omega
  have a:i-1<l.length:=by omega
  obtain ⟨n',rfl⟩:∃ q,n=q+1:=⟨n-1,by omega⟩
  have c:(i:Int)-1=((i-1:Nat):Int):=by omega
  have d:=(List.pairwise_iff_getElem.1 hs) (i-1) i a b (by omega)
  have hd:decide (Em l[i] l[i-1]<0)=false:=by
   apply Af
   rw [Em,Aa]
   split<;>omega
  rw [AU,A4,Ag b,Ah rfl,BF,Ag (show (0:Int)<(i:Int) by omega),Ah rfl,Bj b,Ae,Ah (by unfold BN;omega),c,Bj a,Ae,hd]
  simp only [Bool.false_eq_true,if_false]
  rw [BJ,Ah (A8 (by omega))]
  exact ZdW (n'+1) hn l hl hs k m (i+1) (by omega) (by omega) (by omega)
theorem Zhl (n:Nat) (hn:10000<=n) (l:List Slt) (hl:l.length<=19) (hs:Zlh l):Dc n l=some l:=by
 obtain ⟨n,rfl⟩:∃ q,n=q+1:=⟨n-1,by omega⟩
 have c:Bm (n+1) l 0 (l.length:Int)=some l:=by
  rw [Bm,Ah (by unfold BN;omega)]
  by_cases h:l=[]
  ·subst h;rfl
  ·have:0<l.length:=List.length_pos_iff.2 h
   exact ZdW (n+1) (by omega) l (by omega) hs (l.length-1) (n+1) 1 (by omega) (Nat.le_refl _) (by omega)
 have a:decide ((20:Int)<=(l.length:Int))=false:=Af (by omega)
 have b:decide ((20:Int)<(l.length:Int))=false:=Af (by omega)
 rw [Dc,Ez,Df,a]
 simp only [Bool.false_eq_true,if_false]
 rw [Eb,c,Ae,Bg,b]
 rfl
theorem ZcA (n:Nat) (hn:100000<=n) (s:CS) (hl:s.es.length<=19) (ho:s.es.Pairwise fun a b=>a.t<=b.t) (now:Int):∀ (k m i:Nat),i+k=s.es.length->k<m ->
  CU n (Aw s) now m (((s.es.take i).filter (Hn now)).map BS) (i:Int)=some ((s.es.filter (Hn now)).map BS)
 | k,0,i,_,h=>absurd h (Nat.not_lt_zero _)
 | 0,m+1,i,hi,_=>by
  have c:(Aw s).slots.length=s.es.length:=by simp [Aw]
  rw [CU,c,A4,Ac]
  simp only [Bool.false_eq_true,if_false]
  rw [List.take_of_length_le (by omega),Hy,Zhl n (by omega)]
  ·rfl
  ·have:=List.length_filter_le (Hn now) s.es
   rw [List.length_map];omega
  ·refine List.pairwise_map.2 ?_
   exact (ho.sublist List.filter_sublist).imp fun h=>h
 | k+1,m+1,i,hi,hm=>by
  have d:i<s.es.length:=by omega
  have c:(Aw s).slots.length=s.es.length:=by simp [Aw]
  have e:i<(Aw s).slots.length:=by omega
  have g:(Aw s).slots[i]=BS s.es[i]:=by simp [Aw]
  have ih:=ZcA n hn s hl ho now k m (i+1) (by omega) (by omega)
  have f:((s.es.take i).filter (Hn now)).length<=19:=by
   have:=List.length_filter_le (Hn now) (s.es.take i)
   rw [List.length_take] at this;omega
  rw [<-List.take_append_getElem d,List.filter_append] at ih
  rw [CU,c,A4,Ag d,Ah rfl,Bj e,Ae,g]
  have j:(decide (0<(BS s.es[i]).time)&&decide ((BS s.es[i]).time<=now))=Hn now s.es[i]:=rfl
  rw [j]
  cases hd:Hn now s.es[i] with
  | true =>
   rw [Ah rfl,MO n hn _ (Pn _),Ae,Ah (by rw [List.length_map];omega),Ep,Ah (A8 (by omega))]
   rw [List.filter_cons_of_pos hd,List.filter_nil,List.map_append] at ih
   exact ih
  | false =>
   rw [Ai (by decide),Ep,Ah (A8 (by omega))]
   rw [List.filter_cons_of_neg (by simp [hd]),List.filter_nil,List.append_nil] at ih
   exact ih
theorem ZI (n:Nat) (hn:100000<=n) (s:CS) (hl:s.es.length<=19) (ho:s.es.Pairwise fun a b=>a.t<=b.t) (now:Int):GN n (Aw s) now=some ((s.es.filter (Hn now)).map BS) :=
 ZcA n hn s hl ho now s.es.length n 0 (by omega) (by omega)
end Go.Proofs.YtbfenpeblbonlaaGreatDoor
namespace Go.Ev
open Go Go.RowKit
noncomputable def YM (t:TypeId) (m:Nat) (o:Oper):Option (Int × FuncId) :=
 match o.dst,o.guard,o.op with
 | none,none,.insert t' (.tmp m') (.const (.int .i64 k)) (.func f)=>if t'=t/\m'=m then some (k,f) else none
 | _,_,_=>none
noncomputable def F4 (t:TypeId) (m:Nat):List Oper->List (Int × FuncId) × List Oper
 | []=>([],[])
 | o::os=>match YM t m o with
  | some x=>(x::(F4 t m os).1,(F4 t m os).2)
  | none=>([],o::os)
noncomputable def ZhP (P:Program) (n:Nat):List Oper->Option (Nat × List (Int × FuncId) × List Oper)
 | []=>none
 | o::os=>match o.op,o.dst,o.guard with
  | .makeMap t none,some m,none=>if Zbo P t=true/\m<n/\((F4 t m os).1.map (·.1)).Nodup then some (m,F4 t m os) else none
  | _,_,_=>none
theorem Zx {t:TypeId} {m:Nat} {o:Oper} {x:Int × FuncId} (h:YM t m o=some x):o.dst=none/\o.guard=none/\o.op = .insert t (.tmp m) (.const (.int .i64 x.1)) (.func x.2):=by
 obtain ⟨dst,op,c,b,a,guard⟩:=o
 unfold YM at h
 simp only at h
 split at h
 ·split at h
  ·rename_i q
   cases h
   obtain ⟨rfl,rfl⟩:=q
   exact ⟨rfl,rfl,rfl⟩
  ·cases h
 ·cases h
theorem Vj {i:Int}:∀ {l:List (Int × FuncId)},i ∉ l.map (·.1)->PH l i=(.val .nilFunc,false)
 | [],_=>rfl
 | (k,f)::l,h=>by
  simp only [List.map_cons,List.mem_cons,not_or] at h
  rw [PH,Ai (fun q=>h.1 q.symm)]
  exact Vj h.2
theorem WP (w:World) (o o':Obj):(w.alloc o).putObj w.heap.size o'=w.alloc o':=by
 have e:(w.heap.push o).setIfInBounds w.heap.size o'=w.heap.push o':=by
  apply Array.ext
  ·simp
  ·intro i a b
   rw [Array.getElem_setIfInBounds]
   by_cases c:w.heap.size=i
   ·subst c
    simp
   ·rw [Ai c]
    simp only [Array.size_setIfInBounds,Array.size_push] at a
    rw [Array.getElem_push_lt (by omega),Array.getElem_push_lt (by omega)]
   ·simpa using a
 show ({ w with heap:=(w.heap.push o).setIfInBounds w.heap.size o' }:World)={ w with heap:=w.heap.push o' }
 rw [e]
section
variable {P:Program} {w0:World} {n:Nat} {M0:Mem} {W0:World} {ro:Option Nat} {e:Env} {st:St}
theorem RelSt.newTab {M:Mem} {w:World} (h:RelSt w0 M st w) (es:Array MapEntry) (ck:Nat):RelSt w0 M st (w.alloc (.map es ck))/\Ext w0 M w M (w.alloc (.map es ck)):=by
 have a:KeepsObj w (w.alloc (.map es ck)):=KeepsObj.alloc _ _
 have e:∀ (b d:Nat) (v:Value),w.cell? ⟨b,d,none⟩=some v->(w.alloc (.map es ck)).cell? ⟨b,d,none⟩=some v:=by
  intro b d v hv
  rw [World.cell?_alloc_lt _ _ _ (World.block_lt_of_cell? w _ hv)]
  exact hv
 have j:Ext w0 M w M (w.alloc (.map es ck)) :=
  ⟨Nat.le_refl _,fun _ _=>rfl,Nat.le_refl _,fun _ _=>⟨Nat.le_refl _,fun _=>⟨rfl,rfl,rfl⟩⟩,fun b d v f g=>⟨e b d v g,f⟩,by simp,Nat.le_refl _,fun _ _=>rfl,fun k f g=>absurd g (Nat.not_lt.2 f),fun b o f g _=>a b o f g,fun b q1 q=>⟨A3 _ _ q1,q,rfl⟩⟩
 have p:∀ {b:Nat},b<w.heap.size->(w.alloc (.map es ck)).heap[b]? = w.heap[b]? := fun {b} n=>A3 _ _ n
 refine ⟨⟨h.below.alloc h.base_le _,h.N,h.NR,fun b n=>h.top b (by simp at n;omega),h.inj,fun l cs t=>?_,fun id x m=>(h.row id x m).keep j rfl rfl rfl rfl rfl (h.row id x m).ne (p (h.row id x m).lt),h.rowinj,h.loop.mono j rfl a⟩,j⟩
 obtain ⟨a1,a2,c,r,a3,a4,a5,a6⟩:=h.box l cs t
 exact ⟨a1,a2,c,r,by rw [p (Array.getElem?_eq_some_iff.1 a3).1];exact a3,a4,a5,fun i s u=>(a6 i s u).mono j⟩
theorem Wj {t:TypeId} {mt:Nat} (hT:Zbo P t=true) (m:Nat) (all:Array Oper) (Q:Exit->Act->World->Prop) (a:Act) (w:World) (hm:a.eval (.tmp mt) = .map (some w.heap.size)) :
  ∀ (os:List Oper) (l:List (Int × FuncId)) (es:Array MapEntry) (ck:Nat),es.toList.map (fun e=>(e.key,e.val))=l.map (fun x=>(Value.int .i64 x.1,Value.func (.func x.2) #[] #[]))->(l.map (·.1)++(F4 t mt os).1.map (·.1)).Nodup ->
  (∀ es' ck',es'.toList.map (fun e=>(e.key,e.val))=(l++(F4 t mt os).1).map (fun x=>(Value.int .i64 x.1,Value.func (.func x.2) #[] #[]))->wpListIn (FW ro) m P all Q (F4 t mt os).2 a (w.alloc (.map es' ck'))) ->
  wpListIn (FW ro) m P all Q os a (w.alloc (.map es ck))
 | [],l,es,ck,h1,h2,h3=>h3 es ck (by simpa [F4] using h1)
 | o::os,l,es,ck,h1,h2,h3=>by
  cases hi:YM t mt o with
  | none =>
   have p:F4 t mt (o::os)=([],o::os):=by simp only [F4,hi]
   rw [p] at h3
   exact h3 es ck (by simpa using h1)
  | some x =>
   obtain ⟨k,f⟩:=x
   have p:F4 t mt (o::os)=((k,f)::(F4 t mt os).1,(F4 t mt os).2):=by simp only [F4,hi]
   rw [p] at h2 h3
   obtain ⟨s1,s2,s⟩:=Zx hi
   obtain ⟨H,E,F,u,r,D,G⟩:=Wx hT
   unfold wpListIn
   have C:Region.wanted o (yielded all a.tmps)=true:=by simp [Region.wanted,s2]
   rw [C,Ah rfl]
   refine ⟨fun f _=>PP ro f,?_⟩
   have hs:Oper.semAt (FW ro).round a.eval o=execOp a.eval o:=by
    cases ro with
    | none=>rfl
    | some l=>exact Oper.semAt_some l a.eval o (fun c hh=>by rw [s] at hh;cases hh)
   have y:MapKept.IsKey (.int .i64) (.int .i64 k):=rfl
   have n:k ∉ l.map (·.1):=fun hm=>(List.nodup_append.1 h2).2.2 k hm k (by simp) rfl
   have d:Instr.findNow (.int .i64) (.int .i64 k) es.toList 0=some none:=by
    rcases Vu k es.toList l 0 h1 with ⟨q,_⟩ | ⟨j,g,_,q⟩
    ·exact q
    ·rw [Vj n] at q;cases q
   have g1:(w.alloc (.map es ck)).heap[w.heap.size]? = some (.map es ck):=World.alloc_heap_new w _
   have i:(execOp a.eval o).run P (w.alloc (.map es ck)) = .ok .skip (w.alloc (.map (es.push { key := .int .i64 k,val := .func (.func f) #[] #[],born:=ck }) (ck+1))):=by
    have ef:a.eval (.func f) = .func (.func f) #[] #[]:=rfl
    have v:a.eval (.const (.int .i64 k)) = .int .i64 k:=rfl
    have b:=MapKept.run_setObj_map (P:=P) (.map (es.push { key := .int .i64 k,val := .func (.func f) #[] #[],born:=ck }) (ck+1)) g1
    have h:=WP w (.map es ck) (.map (es.push { key := .int .i64 k,val := .func (.func f) #[] #[],born:=ck }) (ck+1))
    unfold World.putObj at h
    rw [h] at b
    simp [execOp,s,hm,ef,v,Instr.mapUpdate,run_underlying u,MapKept.run_getObj_map g1,MapKept.run_checkKey r y,MapKept.run_findKey r d,b,Result.andThen]
   rw [hs,i]
   have z:a.put o.dst undef=a:=by rw [s1];rfl
   show wpListIn (FW ro) m P all Q os (a.put o.dst undef) _
   rw [z]
   refine Wj hT m all Q a w hm os (l++[(k,f)]) _ _ (by simp [h1]) (by simpa using h2) (fun es' ck' q=>h3 es' ck' (by simpa using q))
theorem ZhF {Q:AQ} {id:Nat} {l rest:List Oper} {mt:Nat} {xs:List (Int × FuncId)} (hl:ZhP P n l=some (mt,xs,rest)) (c:Nat)
  (h:RQ P w0 n false l (fun e' st'=>Q .normal e' st') c rest (IX e (some mt) true (.tab xs)) st):D8 P w0 n M0 W0 ro (.region id l.toArray false) Q e st:=by
 cases l with
 | nil=>cases hl
 | cons o os =>
  simp only [ZhP] at hl
  split at hl
  rotate_left
  ·cases hl
  rename_i t mt' q1 q2 q3
  split at hl
  rotate_left
  ·cases hl
  rename_i q4
  obtain ⟨C,p,s⟩:=q4
  have z:=Option.some.inj hl
  have e2:mt'=mt:=congrArg Prod.fst z
  have O:F4 t mt' os=(xs,rest):=congrArg Prod.snd z
  subst e2
  intro m M a w b
  refine wpIn_region_lit ?_
  unfold wpListIn
  have U:Region.wanted o (yielded (o::os).toArray a.tmps)=true:=by simp [Region.wanted,q3]
  rw [U,Ah rfl]
  refine ⟨fun f _=>PP ro f,?_⟩
  have hs:Oper.semAt (FW ro).round a.eval o=execOp a.eval o:=by
   cases ro with
   | none=>rfl
   | some l=>exact Oper.semAt_some l a.eval o (fun c hh=>by rw [q1] at hh;cases hh)
  have j:(execOp a.eval o).run P w = .ok (.value (.map (some w.heap.size))) (w.alloc (.map #[] 0)):=by
   simp [execOp,q1,Instr.makeMap]
  rw [hs,j]
  show wpListIn (FW ro) m P (o::os).toArray _ os (a.put o.dst (.map (some w.heap.size))) (w.alloc (.map #[] 0))
  rw [q2]
  have F:(a.put (some mt') (.map (some w.heap.size))).eval (.tmp mt') = .map (some w.heap.size):=by
   have:=JK a (some mt') (.map (some w.heap.size)) mt' (by rw [b.rel.size];exact p)
   rw [Ah rfl] at this
   exact this
  refine Wj C m _ _ _ w F os [] #[] 0 rfl (by simpa using s) (fun i d q=>?_)
  rw [O] at q ⊢
  obtain ⟨J,x⟩:=b.rel.st.newTab i d
  have G:R w0 M (w.alloc (.map i d)) (.map (some w.heap.size)) (.tab xs) := .tab (World.alloc_heap_new w _) (by simpa using q) (fun k N=>by
   have u:k<st.loops.length:=by rw [<-b.rel.st.loop.NL];exact N
   have:=(b.rel.st.loop.record k _ (List.getElem?_eq_getElem u)).2.lt
   omega)
  have g:=b.rel.put x J (dst:=some mt') p (c:=true) (v := .map (some w.heap.size)) (r := .tab xs) G
  refine O5 ro m false _ _ _ c rest _ st _ _ M g h fun e' st' V Y D E K y H=>⟨D,_,_,⟨K,b.ext.trans (x.trans y),?_⟩,E⟩
  rw [H,He]
  exact b.marks.later (x.trans y) b.rel.st
end
end Go.Ev
namespace Go.Proofs.YtbfenpeblbonlaaGreatDoor
open Go Go.RowKit Go.Ev
def Rx:List (Int × FuncId):=[(8,262),(9,263),(10,264),(11,265)]
theorem Zce {i:Int} (h:¬ (8<=i/\i<=11)):PH Rx i=(.val .nilFunc,false):=by
 refine Vj ?_
 simp only [Rx,List.map_cons,List.map_nil,List.mem_cons,List.not_mem_nil,or_false]
 omega
theorem AG (z0 z1 z2 z3 z4 z5:AV) (r:List AV) (v:Vl):Bt (z0::z1::z2::z3::z4::z5::r) 0 v.cs=v.cs++r:=by cases v;rfl
theorem QZ (w0:World) (B:Ao) (Rw:Ap) (L:Aq) :
  ACalls Tryz.prog w0 220 [] ⟨B,Rw,L⟩ fun r st=>r = .tab Rx/\st=⟨B,Rw,L⟩:=by
 refine B7 (rs:=[.tmp 0]) Tryz.func220 rfl rfl Tryz.ntmps220 (AL Tryz.func220 rfl (by decide)) (Nat.le_of_ble_eq_true rfl) ?_
 intro M0 W0 g d e a f
 simp only [Ax]
 apply Am;intro K0 c
 apply As 1 []
 rw [An];simp +decide only [go_sem]
 (repeat' apply Ad)<;>first | refine c _ _ ?_ | exact cl
 apply Am;intro K1 b
 refine ZhF (xs:=Rx) rfl 1 ?_
 rw [An];simp +decide only [go_sem,F4,YM]
 (repeat' apply Ad)<;>first | refine b _ _ ?_ | exact cl
 apply BB;simp +decide only [go_sem]
 skip
def Js (b:Int) (g:Bool):Option (Int × Int) :=
 if g then
  some ((0,0))
 else
  if decide (b=3) then
   AM
  else
   if decide (b=16) then
    AM
   else
    if decide (b=18) then
     AM
    else
     if decide (b=19) then
      AM
     else
      if decide (b=20) then
       AM
      else
       if decide (b=27) then
        AM
       else
        if decide (b=28) then
         AM
        else
         if decide (b=21) then
          AM
         else
          if decide (b=24) then
           AM
          else
           if decide (b=25) then
            AM
           else
            some ((2,2))
def NE (b:Int):Option (Int × Int) :=
 if decide (b=1) then
  AM
 else
  if decide (b=2) then
   Js b true
  else
   if decide (b=22) then
    AM
   else
    Js b (decide (b=26))
theorem VK (w0:World) (B:Ao) (Rw:Ap) (L:Aq) (a0:Int) (r:Int × Int) (h:NE a0=some r) :
  ACalls Tryz.prog w0 257 [Ak a0] ⟨B,Rw,L⟩ fun x st=>x = .tup [Ak r.1,Ak r.2]/\st=⟨B,Rw,L⟩:=by
 rw [NE] at h
 refine hd [.tmp 2,.tmp 3] Tryz.func257 Tryz.ntmps257 fun M0 W0 k d f c l j hs=>?_
 simp only [Ax]
 refine rg [0] hs ?_
 apply Am;intro K2 g
 refine rg [4] hs ?_
 apply Ar
 refine AD (fun e st=>∃ (b:Bool),Ck e st B Rw L [(4,true,Ak a0),(5,true,.val (.bool b))] [] [] (Js a0 b=some r)) ?_ ?_
 ·intro K6 i
  exact go (tg (a:=([4,5],((),()),[4,5],([4,5],()),[4,5],((),()),[4,5],()))) h hs k d f c j trivial (q1 i)
 ·clear h;rintro e st ⟨b,Xk5,Rk5,rfl,rfl,j,h⟩
  rw [Js] at h
  exact go (tg (a:=(([2,3],()),[4,10],((),()),[4,10],((),()),[4,10],((),()),[4,10],((),()),[4,10],((),()),[4,10],((),()),[4,10],((),()),[4,18],((),()),[4,18],((),()),[21],((),()),[],[2,3],()))) h hs k d f c j trivial (q1 g)
def FP (b:Part):Bool :=
 decide (b.kind=3)
theorem Qm (w0:World) (B:Ao) (Rw:Ap) (L:Aq) (a0:Part) (r:Bool) (h:FP a0=r) :
  ACalls Tryz.prog w0 261 [.agg (Ak a0.kind::(Ak a0.index::([.val (.string a0.name)])))] ⟨B,Rw,L⟩ fun x st=>x = .val (.bool r)/\st=⟨B,Rw,L⟩:=by
 rw [FP] at h
 refine hd [.tmp 2] Tryz.func261 Tryz.ntmps261 fun M0 W0 f b d a e c hs=>?_
 simp only [Ax]
 refine rg [1] hs ?_
 refine rg [2] hs ?_
 exact rT h hs a c
theorem PG (w0:World) (B:Ao) (Rw:Ap) (L:Aq) (a0:Part) :
  ACalls Tryz.prog w0 261 [.agg (Ak a0.kind::(Ak a0.index::([.val (.string a0.name)])))] ⟨B,Rw,L⟩ fun x st=>x = .val (.bool (FP a0))/\st=⟨B,Rw,L⟩:=Qm w0 B Rw L a0 _ rfl
def H5 (b:Int):Bool :=
 ((decide (b=2))||(decide (b=22)))||(decide (b=26))
theorem Un (w0:World) (B:Ao) (Rw:Ap) (L:Aq) (a0:Int) (r:Bool) (h:H5 a0=r) :
  ACalls Tryz.prog w0 258 [Ak a0] ⟨B,Rw,L⟩ fun x st=>x = .val (.bool r)/\st=⟨B,Rw,L⟩:=by
 rw [H5] at h
 refine hd [.tmp 2] Tryz.func258 Tryz.ntmps258 fun M0 W0 f b d a e c hs=>?_
 simp only [Ax]
 refine rg [0] hs ?_
 refine rg [2] hs ?_
 exact rT h hs a c
theorem NS (w0:World) (B:Ao) (Rw:Ap) (L:Aq) (a0:Int) :
  ACalls Tryz.prog w0 258 [Ak a0] ⟨B,Rw,L⟩ fun x st=>x = .val (.bool (H5 a0))/\st=⟨B,Rw,L⟩:=Un w0 B Rw L a0 _ rfl
def HV (b:Int):Bool :=
 (decide (b=15))||(decide (b=26))
theorem Uf (w0:World) (B:Ao) (Rw:Ap) (L:Aq) (a0:Int) (r:Bool) (h:HV a0=r) :
  ACalls Tryz.prog w0 259 [Ak a0] ⟨B,Rw,L⟩ fun x st=>x = .val (.bool r)/\st=⟨B,Rw,L⟩:=by
 rw [HV] at h
 refine hd [.tmp 2] Tryz.func259 Tryz.ntmps259 fun M0 W0 f b d a e c hs=>?_
 simp only [Ax]
 refine rg [0] hs ?_
 refine rg [2] hs ?_
 exact rT h hs a c
theorem NZ (w0:World) (B:Ao) (Rw:Ap) (L:Aq) (a0:Int) :
  ACalls Tryz.prog w0 259 [Ak a0] ⟨B,Rw,L⟩ fun x st=>x = .val (.bool (HV a0))/\st=⟨B,Rw,L⟩:=Uf w0 B Rw L a0 _ rfl
def IF (b:Part):Option Bool :=
 if decide (b.kind=1) then
  if decide (b.index=0) then
   if b.name.size<=maxLen then
    some (QK b.name)
   else none
  else
   AM
 else
  AM
theorem NQ (w0:World) (B:Ao) (Rw:Ap) (L:Aq) (a0:Part) (r:Bool) (h:IF a0=some r) :
  ACalls Tryz.prog w0 172 [.agg (Ak a0.kind::(Ak a0.index::([.val (.string a0.name)])))] ⟨B,Rw,L⟩ fun x st=>x = .val (.bool r)/\st=⟨B,Rw,L⟩:=by
 rw [IF] at h
 refine hd [.tmp 2] Tryz.func172 Tryz.ntmps172 fun M0 W0 f c d b g e hs=>?_
 simp only [Ax]
 exact go (tg (a:=([1],[1,4],[1,4,5],([1,4,5],([2],()),((),())),((),())))) h hs f c d b e (q1 (Pe w0)) trivial
end Go.Proofs.YtbfenpeblbonlaaGreatDoor
namespace Go.Proofs
open Go.Shelf Go.RowKit Go.Lib Go
variable {P:Program} {ρ:Ren}
abbrev stops:ByteArray:=⟨#[46,91,63]⟩
theorem YH:∀ (i:Nat) (h:i<stops.size),(stops[i]'h).toNat<128/\((stops[i]'h).toNat:Int)≠65533:=by decide
theorem ZiC (n:Nat):128<=(UInt8.ofNat (128+n % 64)).toNat:=by rw [UInt8.toNat_ofNat'];omega
theorem ZbA (r:Int) (h0:128<=r):(∃ a b,Utf8.encode r=⟨#[a,b]⟩/\128<=b.toNat)\/(∃ a b c,Utf8.encode r=⟨#[a,b,c]⟩/\128<=c.toNat)\/∃ a b c d,Utf8.encode r=⟨#[a,b,c,d]⟩:=by
 obtain ⟨c,hc,he⟩:∃ c:Nat,128<=c/\(if Utf8.valid r=true then r.toNat else Utf8.runeError)=c:=by
  by_cases h:Utf8.valid r=true
  ·exact ⟨r.toNat,by omega,by rw [Ah h]⟩
  ·exact ⟨Utf8.runeError,by decide,by rw [Ai h]⟩
 unfold Utf8.encode
 simp only [he]
 rw [Aa]
 by_cases h1:c<2048
 ·rw [Ah h1];exact .inl ⟨_,_,rfl,ZiC _⟩
 rw [Ai h1]
 by_cases h2:c<65536
 ·rw [Ah h2];exact .inr (.inl ⟨_,_,_,rfl,ZiC _⟩)
 ·rw [Ai h2];exact .inr (.inr ⟨_,_,_,_,rfl⟩)
set_option maxRecDepth 1000000 in
theorem Y4 (L:Lays.n152 P ρ) (w:World) :
  Calls P (ρ.f 152) #[.string stops,.int .i32 65533] w fun e w'=>e = .returned (.int .i64 (-1))/\∃ pos,w'=w.iter stops pos:=by
 have t3:=L.t3;have a3:=L.a3;have z3:=L.z3;have v3:=L.v3
 have t4:=L.t4;have a4:=L.a4;have z4:=L.z4;have v4:=L.v4
 have t5:=L.t5;have a5:=L.a5;have z5:=L.z5;have v5:=L.v5
 have t9:=L.t9;have a9:=L.a9;have z9:=L.z9;have v9:=L.v9
 have t21:=L.t21;have a21:=L.a21;have z21:=L.z21;have v21:=L.v21
 go_enter L.f152,Body.n152_ntmps ρ
 go_wp2
 go_loopg [5,6] 3 (fun g _ _ wx=>∃ i:Nat,i+g=3/\wx=w.iter stops i)
 case atStart=>exact ⟨0,by omega,rfl⟩
 case round =>
  obtain ⟨i,hig,rfl⟩:=hrel
  cases gk with
  | zero =>
   obtain rfl:i=3:=by omega
   have hnx:=run_next_end (P:=P) w stops 3
   go_wp2
   go_ret
   exact ⟨rfl,_,rfl⟩
  | succ g =>
   have hi:i<stops.size:=by show i<3;omega
   obtain ⟨x,hx⟩:∃ x:UInt8,stops[i]'hi=x:=⟨_,rfl⟩
   obtain ⟨hx128,hxn⟩:=YH i hi
   have hnx:=fun ty=>run_next_ascii (P:=P) w stops i ty hi hx128
   rw [hx] at hnx hxn
   have hb:((x.toNat:Int) == 65533)=false:=beq_eq_false_iff_ne.2 hxn
   go_wp2
   go_roundg g
   case measure=>omega
   case rel=>exact ⟨i+1,by omega,rfl⟩
set_option maxRecDepth 1000000 in
theorem Zcm (L:Lays.n152 P ρ) (r:Int) (w:World) (h0:128<=r) (h1:r≠65533) (hv:Lib.validRune r=false) :
  Calls P (ρ.f 152) #[.string stops,.int .i32 r] w fun e w'=>e = .returned (.int .i64 (-1))/\Below w.heap.size w w':=by
 have t3:=L.t3;have a3:=L.a3;have z3:=L.z3;have v3:=L.v3
 have t4:=L.t4;have a4:=L.a4;have z4:=L.z4;have v4:=L.v4
 have t5:=L.t5;have a5:=L.a5;have z5:=L.z5;have v5:=L.v5
 have t9:=L.t9;have a9:=L.a9;have z9:=L.z9;have v9:=L.v9
 have t21:=L.t21;have a21:=L.a21;have z21:=L.z21;have v21:=L.v21
 have e119:∀ args w,(callFunc (ρ.f 119) args).run P w = .ok (.enter (ρ.f 119) args) w:=enters_of L.f119 (by kernel_rfl) rfl
 have hlt:¬ r<128:=by omega
 have hne:(r == 65533)=false:=beq_eq_false_iff_ne.2 h1
 go_enter L.f152,Body.n152_ntmps ρ
 go_wp2_with (go_at_fn (ρ.f 119);refine (Any.utf8_ValidRune { L with } _ _).mono ?_;rintro e w' ⟨rfl,hw⟩;rw [hw,hv])
 go_ret
 exact ⟨rfl,.refl _ _⟩
set_option maxRecDepth 1000000 in
theorem ZeA (L:Lays.n152 P ρ) (r:Int) (w:World) (h0:128<=r) (h1:r≠65533) (hv:Lib.validRune r=true) (a b:UInt8) (he:Utf8.encode r=⟨#[a,b]⟩) (hb:128<=b.toNat) :
  Calls P (ρ.f 152) #[.string stops,.int .i32 r] w fun e w'=>e = .returned (.int .i64 (-1))/\Below w.heap.size w w':=by
 have mixed:=L.mixed
 have t3:=L.t3;have a3:=L.a3;have z3:=L.z3;have v3:=L.v3
 have t4:=L.t4;have a4:=L.a4;have z4:=L.z4;have v4:=L.v4
 have t5:=L.t5;have a5:=L.a5;have z5:=L.z5;have v5:=L.v5
 have t9:=L.t9;have a9:=L.a9;have z9:=L.z9;have v9:=L.v9
 have t21:=L.t21;have a21:=L.a21;have z21:=L.z21;have v21:=L.v21
 have e119:∀ args w,(callFunc (ρ.f 119) args).run P w = .ok (.enter (ρ.f 119) args) w:=enters_of L.f119 (by kernel_rfl) rfl
 have e137:∀ args w,(callFunc (ρ.f 137) args).run P w = .ok (.enter (ρ.f 137) args) w:=enters_of L.f137 (by kernel_rfl) rfl
 have hlt:¬ r<128:=by omega
 have hne:(r == 65533)=false:=beq_eq_false_iff_ne.2 h1
 have hbn:(((stops[1]'(by decide)).toNat:Int) != (((⟨#[a,b]⟩:ByteArray)[1]'(by simp [ByteArray.size])).toNat:Int))=true:=bne_iff_ne.2 (by show (91:Int)≠(b.toNat:Int);omega)
 have hsum:IntKind.i64.wrap (1+1)=2:=by decide
 have hx:Lib.indexByte (stops.extract 2 3).data.toList ((((⟨#[a,b]⟩:ByteArray)[1]'(by simp [ByteArray.size])).toNat:Int)).toNat.toUInt8 = -1:=by
  show Lib.indexByte [63] (b.toNat:Int).toNat.toUInt8 = -1
  have e:(b.toNat:Int).toNat.toUInt8=b:=by simp
  rw [e]
  have hn:((63:UInt8) == b)=false:=beq_eq_false_iff_ne.2 (fun q=>by rw [<-q] at hb;exact absurd hb (by decide))
  simp [Lib.indexByte,hn]
 go_enter L.f152,Body.n152_ntmps ρ
 go_wp2_with (first
  | (go_at_fn (ρ.f 119);refine (Any.utf8_ValidRune { L with } _ _).mono ?_;rintro e w' ⟨rfl,hw⟩;rw [hw,hv])
  | (go_at_fn (ρ.f 137);refine (Any.strings_IndexByte { L with } _ _ _).mono ?_;rintro e w' ⟨rfl,hw⟩;rw [hw]))
 go_step3
 go_wp2
 go_loopg [9] 1 (fun g s9 wx=>s9 = .int .i64 1/\wx=w)
 case atStart=>exact ⟨rfl,rfl⟩
 case round =>
  obtain ⟨rfl,rfl⟩:=hrel
  go_wp2
  go_step3
  go_wp2
  refine wp_region_quiet_lit mixed (by kernel_rfl) ?_
  repeat (first | go_big_quiet_step (fail) | quiet_step (fail))
  refine wpQuiet_nil ?_
  intro _ hw'
  obtain ⟨nq,hw''⟩:=hw'
  subst hw''
  go_wp2
  refine wp_region_quiet_lit mixed (by kernel_rfl) ?_
  repeat (first | go_big_quiet_step (fail) | quiet_step (fail))
  refine wpQuiet_step (fun K hK=>?_)
  go_simp
  refine ⟨_,fun q=>((Any.strings_IndexByte { L with } _ _ _).mono fun e w' h=>⟨h.1,q,h.2⟩),hK _ ?_⟩
  clear hK K
  repeat (first | go_big_quiet_step (fail) | quiet_step (fail))
  refine wpQuiet_nil ?_
  intro _ hw'
  obtain ⟨nq2,hw''⟩:=hw'
  subst hw''
  rw [hx]
  go_wp2
  go_simp
  try rw [Exit.noGoto_ret]
  go_ret
  exact ⟨rfl,⟨rfl,rfl,rfl,Nat.le_refl _,fun _ _=>rfl⟩⟩
set_option maxRecDepth 1000000 in
theorem Zh (L:Lays.n152 P ρ) (r:Int) (w:World) (h0:128<=r) (h1:r≠65533) (hv:Lib.validRune r=true) (a b c:UInt8) (he:Utf8.encode r=⟨#[a,b,c]⟩) (hb:128<=c.toNat) :
  Calls P (ρ.f 152) #[.string stops,.int .i32 r] w fun e w'=>e = .returned (.int .i64 (-1))/\Below w.heap.size w w':=by
 have mixed:=L.mixed
 have t3:=L.t3;have a3:=L.a3;have z3:=L.z3;have v3:=L.v3
 have t4:=L.t4;have a4:=L.a4;have z4:=L.z4;have v4:=L.v4
 have t5:=L.t5;have a5:=L.a5;have z5:=L.z5;have v5:=L.v5
 have t9:=L.t9;have a9:=L.a9;have z9:=L.z9;have v9:=L.v9
 have t21:=L.t21;have a21:=L.a21;have z21:=L.z21;have v21:=L.v21
 have e119:∀ args w,(callFunc (ρ.f 119) args).run P w = .ok (.enter (ρ.f 119) args) w:=enters_of L.f119 (by kernel_rfl) rfl
 have e137:∀ args w,(callFunc (ρ.f 137) args).run P w = .ok (.enter (ρ.f 137) args) w:=enters_of L.f137 (by kernel_rfl) rfl
 have hlt:¬ r<128:=by omega
 have hne:(r == 65533)=false:=beq_eq_false_iff_ne.2 h1
 have hbn:(((stops[2]'(by decide)).toNat:Int) != (((⟨#[a,b,c]⟩:ByteArray)[2]'(by simp [ByteArray.size])).toNat:Int))=true:=bne_iff_ne.2 (by show (63:Int)≠(c.toNat:Int);omega)
 have hsum:IntKind.i64.wrap (2+1)=3:=by decide
 have hx:Lib.indexByte ByteArray.empty.data.toList ((((⟨#[a,b,c]⟩:ByteArray)[2]'(by simp [ByteArray.size])).toNat:Int)).toNat.toUInt8 = -1:=by
  show Lib.indexByte [] (c.toNat:Int).toNat.toUInt8 = -1
  have e:(c.toNat:Int).toNat.toUInt8=c:=by simp
  rw [e]
  rfl
 go_enter L.f152,Body.n152_ntmps ρ
 go_wp2_with (first
  | (go_at_fn (ρ.f 119);refine (Any.utf8_ValidRune { L with } _ _).mono ?_;rintro e w' ⟨rfl,hw⟩;rw [hw,hv])
  | (go_at_fn (ρ.f 137);refine (Any.strings_IndexByte { L with } _ _ _).mono ?_;rintro e w' ⟨rfl,hw⟩;rw [hw]))
 go_step3
 go_wp2
 go_loopg [9] 1 (fun g s9 wx=>s9 = .int .i64 2/\wx=w)
 case atStart=>exact ⟨rfl,rfl⟩
 case round =>
  obtain ⟨rfl,rfl⟩:=hrel
  go_wp2
  go_step3
  go_wp2
  refine wp_region_quiet_lit mixed (by kernel_rfl) ?_
  repeat (first | go_big_quiet_step (fail) | quiet_step (fail))
  refine wpQuiet_nil ?_
  intro _ hw'
  obtain ⟨nq,hw''⟩:=hw'
  subst hw''
  go_wp2
  refine wp_region_quiet_lit mixed (by kernel_rfl) ?_
  repeat (first | go_big_quiet_step (fail) | quiet_step (fail))
  refine wpQuiet_step (fun K hK=>?_)
  go_simp
  refine ⟨_,fun q=>((Any.strings_IndexByte { L with } _ _ _).mono fun e w' h=>⟨h.1,q,h.2⟩),hK _ ?_⟩
  clear hK K
  repeat (first | go_big_quiet_step (fail) | quiet_step (fail))
  refine wpQuiet_nil ?_
  intro _ hw'
  obtain ⟨nq2,hw''⟩:=hw'
  subst hw''
  rw [hx]
  go_wp2
  go_simp
  try rw [Exit.noGoto_ret]
  go_ret
  exact ⟨rfl,⟨rfl,rfl,rfl,Nat.le_refl _,fun _ _=>rfl⟩⟩
set_option maxRecDepth 1000000 in
theorem Zbz (L:Lays.n152 P ρ) (r:Int) (w:World) (h0:128<=r) (h1:r≠65533) (hv:Lib.validRune r=true) (a b c d:UInt8) (he:Utf8.encode r=⟨#[a,b,c,d]⟩) :
  Calls P (ρ.f 152) #[.string stops,.int .i32 r] w fun e w'=>e = .returned (.int .i64 (-1))/\Below w.heap.size w w':=by
 have mixed:=L.mixed
 have t3:=L.t3;have a3:=L.a3;have z3:=L.z3;have v3:=L.v3
 have t4:=L.t4;have a4:=L.a4;have z4:=L.z4;have v4:=L.v4
 have t5:=L.t5;have a5:=L.a5;have z5:=L.z5;have v5:=L.v5
 have t9:=L.t9;have a9:=L.a9;have z9:=L.z9;have v9:=L.v9
 have t21:=L.t21;have a21:=L.a21;have z21:=L.z21;have v21:=L.v21
 have e119:∀ args w,(callFunc (ρ.f 119) args).run P w = .ok (.enter (ρ.f 119) args) w:=enters_of L.f119 (by kernel_rfl) rfl
 have e137:∀ args w,(callFunc (ρ.f 137) args).run P w = .ok (.enter (ρ.f 137) args) w:=enters_of L.f137 (by kernel_rfl) rfl
 have hlt:¬ r<128:=by omega
 have hne:(r == 65533)=false:=beq_eq_false_iff_ne.2 h1
 go_enter L.f152,Body.n152_ntmps ρ
 go_wp2_with (first
  | (go_at_fn (ρ.f 119);refine (Any.utf8_ValidRune { L with } _ _).mono ?_;rintro e w' ⟨rfl,hw⟩;rw [hw,hv])
  | (go_at_fn (ρ.f 137);refine (Any.strings_IndexByte { L with } _ _ _).mono ?_;rintro e w' ⟨rfl,hw⟩;rw [hw]))
 go_step3
 go_wp2
 go_loopg [9] 1 (fun g s9 wx=>s9 = .int .i64 3/\wx=w)
 case atStart=>exact ⟨rfl,rfl⟩
 case round =>
  obtain ⟨rfl,rfl⟩:=hrel
  go_wp2
  go_simp
  try rw [Exit.noGoto_ret]
  go_ret
  exact ⟨rfl,.refl _ _⟩
theorem ZdP (L:Lays.n152 P ρ) (r:Int) (w:World) (h0:128<=r) :
  Calls P (ρ.f 152) #[.string stops,.int .i32 r] w fun e w'=>e = .returned (.int .i64 (-1))/\Below w.heap.size w w':=by
 by_cases h1:r=65533
 ·subst h1
  refine (Y4 L w).mono ?_
  rintro e w' ⟨h,g,rfl⟩
  exact ⟨h,(Below.refl _ _).alloc (Nat.le_refl _) _⟩
 cases hv:Lib.validRune r with
 | false=>exact Zcm L r w h0 h1 hv
 | true =>
  rcases ZbA r h0 with ⟨a,b,he,hb⟩ | ⟨a,b,c,he,hb⟩ | ⟨a,b,c,d,he⟩
  ·exact ZeA L r w h0 h1 hv a b he hb
  ·exact Zh L r w h0 h1 hv a b c he hb
  ·exact Zbz L r w h0 h1 hv a b c d he
theorem get!_at (s:ByteArray) (k:Nat) (h:k<s.size):s.data.toList[k]? = some (s.get! k):=by
 rw [Lib.data_getElem? s k h]
 congr 1
 exact (get_at s k h).symm
theorem ZcS (s : ByteArray) (pos : Nat) (h : pos < s.size) (ha : 128 ≤ (s[pos]'h).toNat) : pos + (Utf8.decode s pos).2 ≤ s.size ∧ ∀ j, pos ≤ j → j < pos + (Utf8.decode s pos).2 → 128 ≤ (s.get! j).toNat := by
  have h0 : 128 ≤ (s.get! (pos + 0)).toNat := by rw [get_at s pos h]; exact ha
  have fin : ∀ n, (∀ k, k < n → pos + k < s.size ∧ 128 ≤ (s.get! (pos + k)).toNat) → 0 < n → pos + n ≤ s.size ∧ ∀ j, pos ≤ j → j < pos + n → 128 ≤ (s.get! j).toNat := fun n hn h1 =>
    ⟨by have := (hn (n - 1) (by omega)).1; omega, fun j hj hj2 => by have := (hn (j - pos) (by omega)).2; rwa [Nat.add_sub_cancel' hj] at this⟩
  have cont : ∀ k, (decide (pos + k < s.size) && (s.get! (pos + k)).toNat / 64 == 2) = true → pos + k < s.size ∧ 128 ≤ (s.get! (pos + k)).toNat := fun k q => by
    rw [Bool.and_eq_true, decide_eq_true_eq, beq_iff_eq] at q; exact ⟨q.1, by omega⟩
  have z : pos + 0 < s.size ∧ 128 ≤ (s.get! (pos + 0)).toNat := ⟨h, h0⟩
  have one : ∀ c : Nat, pos + (c, 1).2 ≤ s.size ∧ ∀ j, pos ≤ j → j < pos + (c, 1).2 → 128 ≤ (s.get! j).toNat := fun _ => fin 1 (fun k hk => by obtain rfl : k = 0 := by omega
                                                                                                                                               exact z) (by omega)
  unfold Utf8.decode
  simp only
  rw [Aa]
  split
  · rename_i q
    rw [Bool.and_eq_true] at q
    split
    · exact fin 2 (fun k hk => by
        rcases (by omega : k = 0 ∨ k = 1) with rfl | rfl
        · exact z
        · exact cont 1 q.2) (by omega)
    · exact one _
  · split
    · rename_i q
      rw [Bool.and_eq_true, Bool.and_eq_true] at q
      split
      · exact fin 3 (fun k hk => by
          rcases (by omega : k = 0 ∨ k = 1 ∨ k = 2) with rfl | rfl | rfl
          · exact z
          · exact cont 1 q.1.2
          · exact cont 2 q.2) (by omega)
      · exact one _
    · split
      · rename_i q
        rw [Bool.and_eq_true, Bool.and_eq_true, Bool.and_eq_true] at q
        split
        · exact fin 4 (fun k hk => by
            rcases (by omega : k = 0 ∨ k = 1 ∨ k = 2 ∨ k = 3) with rfl | rfl | rfl | rfl
            · exact z
            · exact cont 1 q.1.1.2
            · exact cont 2 q.1.2
            · exact cont 3 q.2) (by omega)
        · exact one _
      · exact one _
theorem YS (b:UInt8) (h:128<=b.toNat):stops.data.toList.contains b=false:=by
 show ([46,91,63]:List UInt8).contains b=false
 simp
 refine ⟨?_,?_,?_⟩<;>(rintro rfl;exact absurd h (by decide))
set_option maxRecDepth 1000000 in
theorem ZbH (L:Lays.n153 P ρ) (s:ByteArray) (w:World) (h8:s.size<=8) :
  Calls P (ρ.f 153) #[.string s,.string stops] w fun e w'=>e = .returned (.int .i64 (Lib.indexAny s.data.toList stops.data.toList))/\Below w.heap.size w w':=by
 have hemp:stops.toList.isEmpty=false:=by rw [Lib.toList_data];rfl
 have hn1:((stops.size:Int) == 1)=false:=by decide
 have h8z:decide ((8:Int)<(s.size:Int))=false:=Af (by omega)
 have t3:=L.t3;have a3:=L.a3;have z3:=L.z3;have v3:=L.v3
 have t4:=L.t4;have a4:=L.a4;have z4:=L.z4;have v4:=L.v4
 have t5:=L.t5;have a5:=L.a5;have z5:=L.z5;have v5:=L.v5
 have t9:=L.t9;have a9:=L.a9;have z9:=L.z9;have v9:=L.v9
 have t21:=L.t21;have a21:=L.a21;have z21:=L.z21;have v21:=L.v21
 have e152:∀ args w,(callFunc (ρ.f 152) args).run P w = .ok (.enter (ρ.f 152) args) w:=enters_of L.f152 (by kernel_rfl) rfl
 have e226:∀ args w,(callFunc (ρ.f 226) args).run P w = .ok (.enter (ρ.f 226) args) w:=enters_of L.f226 (by kernel_rfl) rfl
 go_enter L.f153,Body.n153_ntmps ρ
 go_wp2_with (go_at_fn (ρ.f 226);refine (Any.strings_shouldUseASCIISet { L with } _ _).mono ?_;rintro e w' ⟨rfl,hw⟩;rw [hw,h8z])
 go_loopg [9,10] s.size (fun g _ _ wr=>∃ pos:Nat,pos+g=s.size/\wr.heap[w.heap.size]? = some (.stringIter s pos)/\Below w.heap.size w wr/\Lib.NoAny s.data.toList stops.data.toList pos)
 case atStart=>exact ⟨0,by omega,World.iter_heap w s 0,(Below.refl _ _).alloc (Nat.le_refl _) _,Lib.NoAny.zero _ _⟩
 case round =>
  obtain ⟨i,hig,hit,hbw,hno⟩:=hrel
  have HN:Aside (Lib.NoAny s.data.toList stops.data.toList i):=hno
  clear hno
  by_cases hp:i<s.size
  ·have hnx:=fun ty=>Lib.run_next_any_at (P:=P) wr w.heap.size s i ty hit hp
   have hit2:=Lib.iterAt_heap wr w.heap.size s i (i+(Utf8.decode s i).2) hit
   have hbw2:=Lib.below_iterAt hbw (k:=w.heap.size) (Nat.le_refl _) s (i+(Utf8.decode s i).2)
   obtain ⟨W1,hW1⟩:∃ W1,W1=wr.iterAt w.heap.size s (i+(Utf8.decode s i).2):=⟨_,rfl⟩
   rw [<-hW1] at hnx hit2 hbw2
   have hlt1:w.heap.size<W1.heap.size:=(Array.getElem?_eq_some_iff.1 hit2).1
   clear hW1
   obtain ⟨x,hx⟩:∃ x:UInt8,s[i]'hp=x:=⟨_,rfl⟩
   have hxl:s.data.toList[i]? = some x:=by rw [<-hx];exact Lib.data_getElem? s i hp
   by_cases hxa:x.toNat<128
   ·have hdec:Utf8.decode s i=(x.toNat,1):=by rw [<-hx];exact decode_ascii s i hp (by rw [hx];exact hxa)
    rw [hdec] at hnx hit2
    have Hx:Aside (s.data.toList[i]? = some x):=hxl
    clear hxl hx hdec
    have hcon:=Lib.contains_iff_indexByte stops.data.toList x
    have hback:(x.toNat:Int).toNat.toUInt8=x:=by simp
    cases hin:stops.data.toList.contains x
    ·rw [hin] at hcon
     have hlt:¬ ((0:Int)<=Lib.indexByte stops.data.toList x):=of_decide_eq_false hcon.symm
     clear hcon
     go_wp2_with (go_at_fn (ρ.f 152);refine (Any.strings_IndexRune_ascii { L with } _ _ _ (by omega) (by omega)).mono ?_;rintro e w' ⟨rfl,hw⟩;rw [hw,hback])
     go_roundg (s.size-(i+1))
     case measure=>omega
     case rel=>exact ⟨i+1,by omega,hit2,hbw2,HN.out.succ Hx.out hin⟩
    ·rw [hin] at hcon
     have hge:(0:Int)<=Lib.indexByte stops.data.toList x:=of_decide_eq_true hcon.symm
     clear hcon
     go_wp2_with (go_at_fn (ρ.f 152);refine (Any.strings_IndexRune_ascii { L with } _ _ _ (by omega) (by omega)).mono ?_;rintro e w' ⟨rfl,hw⟩;rw [hw,hback])
     go_ret
     exact ⟨by rw [Lib.indexAny_hit HN.out Hx.out hin];rfl,hbw2⟩
   ·have hxa':128<=(s[i]'hp).toNat:=by rw [hx];omega
    obtain ⟨d1,d2⟩:=decode_high s i hp hxa'
    obtain ⟨d3,d4⟩:=ZcS s i hp hxa'
    have HD:Aside (Lib.NoAny s.data.toList stops.data.toList (i+(Utf8.decode s i).2)):=fun j b hj hb=>by
     by_cases c:j<i
     ·exact HN.out j b c hb
     ·have q:=d4 j (by omega) hj
      have hjs:j<s.size:=by omega
      rw [get!_at s j hjs] at hb
      cases hb
      exact YS _ q
    generalize hdd:Utf8.decode s i=dd at *
    obtain ⟨r,k⟩:=dd
    simp only at d1 d2 d3 HD hnx hit2
    clear d4 hdd hxa' hxa hxl hx
    have hlt:¬ ((0:Int) <= -1):=by decide
    go_wp2_with (go_at_fn (ρ.f 152);refine (ZdP { L with } _ _ (by omega)).mono ?_;rintro e w2 ⟨rfl,hb2⟩)
    go_roundg (s.size-(i+k))
    case measure=>omega
    case rel=>exact ⟨i+k,by omega,by rw [hb2.block w.heap.size hlt1];exact hit2,hbw2.trans ⟨hb2.os,hb2.tape,hb2.output,by have:=hb2.size;omega,fun j hj=>hb2.block j (by omega)⟩,HD.out⟩
  ·have hnx:=Lib.run_next_end_at (P:=P) wr w.heap.size s i
   have hnx:=fun ty=>hnx ty hit hp
   go_wp2
   go_ret
   exact ⟨by rw [Lib.indexAny_none (by rw [<-Lib.size_eq];exact fun j b hj=>HN.out j b (by omega))];rfl,hbw⟩
end Go.Proofs
namespace Go.Proofs.YtbfenpeblbonlaaGreatDoor
open Go Go.RowKit Go.Ev
abbrev Qx (w0:World):Prop:=∃ m,w0.cell? ⟨0,0,none⟩=some (.int .i64 m)
abbrev QU (w0:World):Prop:=(∃ ev,w0.cell? ⟨6,0,none⟩=some ev/\(ev = .nilIface\/∃ te pe,ev = .iface te pe))/\∃ ev,w0.cell? ⟨7,0,none⟩=some ev/\(ev = .nilIface\/∃ te pe,ev = .iface te pe)
theorem ZbX:∀ (j:Nat) (b:UInt8),stops.data.toList[j]? = some b->b.toNat<128:=fun j b h=>by
 have a:b∈([46,91,63]:List UInt8):=List.mem_of_getElem? h
 simp only [List.mem_cons,List.not_mem_nil,or_false] at a
 rcases a with rfl | rfl | rfl<;>decide
def ZgZ (s:ByteArray):Int:=Lib.indexAny s.data.toList [46,91,63]
def Zdr (s p:ByteArray):Bool:=Lib.hasPrefix s.data.toList p.data.toList
section
variable (w0:World) (B:Ao) (Rw:Ap) (L:Aq)
theorem VT (s c:ByteArray) (h:s.size<=4294967280/\c=stops) :
  ACalls Tryz.prog w0 214 [.val (.string s),.val (.string c)] ⟨B,Rw,L⟩ fun v s'=>v=Ak (ZgZ s)/\s'=⟨B,Rw,L⟩ :=
 J9 (AL Tryz.func214 rfl (by decide)) rfl fun M w b j a=>by
  obtain ⟨h,rfl⟩:=h
  have:=QW (us:=[.string s,.string stops]) a
  subst this
  by_cases h8:s.size<=8
  ·exact ZbH Tryz.lays153 s w h8
  ·refine (Tryz.strings_IndexAny_long (zero_of_info (show (Tryz.prog.info? 326).map (fun i=>(i.zero,i.size))=some (some (.agg (Array.replicate 256 (.bool false))),256) by kernel_rfl)).1 s stops w (by decide) (by omega) (by omega) (by decide) ZbX).mono fun e g ⟨d,f⟩=>⟨d,?_⟩
   rw [f]
   exact ((Below.refl _ _).alloc (Nat.le_refl _) _).alloc (by simp) _
theorem Vd (s p:ByteArray) :
  ACalls Tryz.prog w0 215 [.val (.string s),.val (.string p)] ⟨B,Rw,L⟩ fun v s'=>v = .val (.bool (Zdr s p))/\s'=⟨B,Rw,L⟩ :=
 J9 (AL Tryz.func215 rfl (by decide)) rfl fun M w b g a=>by
  have:=QW (us:=[.string s,.string p]) a
  subst this
  exact (Tryz.strings_HasPrefix s p w).mono fun e f ⟨c,d⟩=>⟨c,d▸Below.refl _ _⟩
end
@[go_sem] theorem Zgi:WR Tryz.prog 295=true:=by kernel_rfl
def Qa (g:Int) (b:ByteArray):Option Int :=
 if 0<=g/\g<=(b.size:Int)/\(b.size:Int)<=(b.size:Int) then
  if (b.extract g.toNat b.size).size<=4294967280/\(⟨#[46,91,63]⟩:ByteArray)=stops then
   if decide ((ZgZ (b.extract g.toNat b.size))<0) then
    some (b.size:Int)
   else
    if BN (g+(ZgZ (b.extract g.toNat b.size))) then
     some (g+(ZgZ (b.extract g.toNat b.size)))
    else none
  else none
 else none
theorem X3 (w0:World) (B:Ao) (Rw:Ap) (L:Aq) (a0:Int) (la1:Nat) (a1:ByteArray) (hla1:B[la1]? = some ([.val (.string a1)])) (r:Int) (h:Qa a0 a1=some r) :
  ACalls Tryz.prog w0 213 [Ak a0,.box la1 0] ⟨B,Rw,L⟩ fun x st=>x=Ak r/\st=⟨B,Rw,L⟩:=by
 rw [Qa] at h
 refine hd [.tmp 3] Tryz.func213 Tryz.ntmps213 fun M0 W0 g d e b i f hs=>?_
 simp only [Ax]
 have c:=(Aj.1 hla1).1
 have hs:=Ad (AH hla1) hs
 exact go (tg (a:=([0,1],[0,1,4],[0,1,4,10],([3],()),[0,4],[3],()))) h hs g d e b f (q1 (VT w0)) trivial
def U6 (b:ByteArray):Option (Part × ByteArray × Bool) :=
 (Qa 1 b).bind fun g =>
 if Zdr b ((⟨#[91,42,93]⟩:ByteArray)) then
  AM
 else
  if 0<=0/\0<(b.size:Int) then
   if decide ((((b.get! 0).toNat:Int))=46) then
    if 0<=1/\1<=g/\g<=(b.size:Int) then
     if 0<=g/\g<=(b.size:Int)/\(b.size:Int)<=(b.size:Int) then
      some ((Part.mk 1 0 (b.extract 1 g.toNat),b.extract g.toNat b.size,true))
     else none
    else none
   else
    AM
  else none
theorem ZaW (w0:World) (B:Ao) (Rw:Ap) (L:Aq) (a0:ByteArray) (r:Part × ByteArray × Bool) (h:U6 a0=some r) :
  ACalls Tryz.prog w0 171 [.val (.string a0)] ⟨B,Rw,L⟩ fun x st=>x = .tup [.agg (Ak r.1.kind::(Ak r.1.index::([.val (.string r.1.name)]))),.val (.string r.2.1),.val (.bool r.2.2)]/\st=⟨B,Rw,L⟩:=by
 rw [U6] at h
 refine hd [.cell 2 209,.tmp 3,.tmp 4] Tryz.func171 Tryz.ntmps171 fun M0 W0 v o q d t p hs=>?_
 simp only [Ax]
 refine rg [1,2] hs ?_
 refine rg [1,2,5] hs ?_
 obtain ⟨u,i,h⟩:=bind_some h
 refine rc 2 [1,2,6] hs ?_;intro K3 g
 refine Av _ (X3 w0 _ _ _ 1 B.length a0 ev _ i) (hv hs) ?_
 refine ne hs g ?_
 clear g
 apply Am;intro K5 n
 apply Ar
 refine rc 2 [1,2,6,15] hs ?_;intro K6 f
 refine Av _ (Vd w0 _ _ _ a0 ((⟨#[91,42,93]⟩:ByteArray))) (hv hs) ?_
 refine ne hs f ?_
 clear f
 refine B6 h hs ?_ ?_<;>intro hs h
 ·have e:=hs.1
  exact nS h
 have e:=hs.1
 obtain ⟨m,h⟩:=Au h
 refine rg [1,2,6,21] hs ?_
 refine B6 h hs ?_ ?_<;>intro hs h
 ·have b:=hs.1
  apply Am;intro K11 c
  obtain ⟨k,h⟩:=Au h
  obtain ⟨j,h⟩:=Au h
  apply D9 G6 [7] [2,3,4] kr (fun s=>∃ (X:Ao) (rows:Ap) (l:List AV),s=⟨B++([[.val (.string a0)],l]++X),rows,L⟩) 2 (B.length+2)
  ·simp +decide only [go_sem,Nat.reduceAdd]
  ·rintro s ⟨X,rows,l,rfl⟩
   refine ⟨1,?_⟩
   rw [An];simp +decide only [go_sem,Nat.reduceAdd,Bh,e,b]
   (repeat' apply Ad)<;>first | rfl | exact cl
  ·exact gd (tg (a:=(7,[2,3,4]))) hs
  simp +decide only [go_sem,Nat.reduceAdd,e,b]
  (repeat' apply Ad)<;>first | refine c _ _ ?_ | exact cl
  clear c
  exact rt h hs d p
 have b:=hs.1
 exact nS h
def P4 (n:Nat)  (b:List Part):Option ((List Part) × Int) :=
 if decide (16<(b.length:Int)) then
  AM
 else
  some ((b,0))
def Lp (n:Nat)  : Nat->(List Part)->ByteArray->Option ((List Part) × Int)
 | 0,_,_=>none
 | m+1,b,g =>
  if !(MY g (⟨#[]⟩:ByteArray)) then
   (U6 g).bind fun h =>
   if !h.2.2 then
    AM
   else
    (IF h.1).bind fun q =>
    if !q then
     AM
    else
     if (b.length+1)*32<=140737488355328/\b.length+1<=4611686018427387904 then
      (Lp n m) (b++([h.1])) h.2.1
     else none
  else
   P4 n b
def Kx (n:Nat) (b:ByteArray):Option ((List Part) × Int) :=
 if MY b (⟨#[]⟩:ByteArray) then
  AM
 else
  if decide (200<(b.size:Int)) then
   AM
  else
   if ((⟨#[46]⟩:ByteArray)).size+b.size<=9223372036854775807 then
    Lp n n ([]) (((⟨#[46]⟩:ByteArray))++b)
   else none
theorem Nx (w0:World) (n:Nat) (B:Ao) (Rw:Ap) (L:Aq) (a0:ByteArray) (r:(List Part) × Int) (h:Kx n a0=some r) :
  ACalls Tryz.prog w0 121 [.val (.string a0)] ⟨B,Rw,L⟩ fun x st=>x = .tup [.list (r.1.map DI) .none,Ak r.2]/\st=⟨B,Rw,L⟩:=by
 rw [Kx] at h
 refine hd [.tmp 2,.tmp 3] Tryz.func121 Tryz.ntmps121 fun M0 W0 u p t i v q hs=>?_
 simp only [Ax]
 refine rg [0] hs ?_
 apply Am;intro K2 k
 apply Ar
 refine rg [0,9] hs ?_
 refine B6 h hs ?_ ?_<;>intro hs h
 ·exact nS h
 refine rg [0,12] hs ?_
 refine B6 h hs ?_ ?_<;>intro hs h
 ·exact nS h
 refine sk [0] hs k ?_
 clear k
 refine rg [0,4] hs ?_
 refine AD (fun e st=>∃ (d:List Part) (f:Ev.Own),Ck e st B Rw L [(4,true,.list (d.map DI) f)] [] [(3,d.length,f)] (P4 n d=some r)) ?_ ?_
 ·intro K10 o
  obtain ⟨l,h⟩:=Au h
  have j:=l
  try simp +decide only [go_sem] at j
  refine rg [4,5] hs ?_
  apply Ar
  refine AA (fun m e st=>∃ (b:List Part) (g:ByteArray) (c:Ev.Own),Ck e st B Rw L [(4,true,.list (b.map DI) c),(5,true,.val (.string g))] [] [(3,b.length,c)] (Lp n m b g=some r)) n ⟨([]),(((⟨#[46]⟩:ByteArray))++a0),.full,([]),Rw,ef hs,ef hs,Owns.of_eq ((q).full 3 0) Fh,h⟩ ?_
  rintro ml13 e st ⟨b,g,c,Xl13,Rl13,rfl,rfl,q,h⟩ Ul13 Vl13
  cases ml13 with
  | zero=>cases h
  | succ ml13 =>
  rw [Lp] at h
  exact go (tg (a:=([4,5,19],([4,5],[4,6,7,8],((),()),[4,6,7,32],((),()),[4,6,7],[4,5],()),[4],()))) h hs u p t i q (q3 (ZaW w0) (NQ w0) (ae Zhy Zbt)) (q2 o (fun e s=>Vl13 ml13 e s (Nat.lt_succ_self _)))
 ·clear h;rintro e st ⟨d,f,Xk9,Rk9,rfl,rfl,q,h⟩
  rw [P4] at h
  exact go (tg (a:=([4,40],((),()),[4],[2,3],()))) h hs u p t i q trivial trivial
def Ha (n:Nat)  : Option Int :=
 some ((-1))
def FM (n:Nat) (g:List Part) (y:Part->Option Bool):Nat->Int->Option Int
 | 0,_=>none
 | m+1,b =>
  if decide (b<(g.length:Int)) then
   (Dw g b).bind fun h =>
   (y h).bind fun q =>
   if q then
    AM
   else
    if BN (b+1) then
     (FM n g y m) (b+1)
    else none
  else
   Ha n 
def HQ (n:Nat) (b:List Part) (g:Part->Option Bool):Option Int :=
 FM n b g n 0
theorem OE (w0:World) (n:Nat) (B:Ao) (Rw:Ap) (L:Aq) (a0:List Part) (fa1:FuncId) (ca1:List AV) (a1:Part->Option Bool) (ha1:∀ (x0:Part) r,a1 x0=some r->∀ B' rows,B <+: B'->Rw <+: rows->ACalls Tryz.prog w0 fa1 ([.agg (Ak x0.kind::(Ak x0.index::([.val (.string x0.name)])))]++ca1) ⟨B',rows,L⟩ fun v s=>v = .val (.bool r)/\s=⟨B',rows,L⟩) (r:Int) (h:HQ n a0 a1=some r) :
  ACalls Tryz.prog w0 173 [.list (a0.map DI) .none,.clo fa1 ca1] ⟨B,Rw,L⟩ fun x st=>x=Ak r/\st=⟨B,Rw,L⟩:=by
 rw [HQ] at h
 refine hd [.tmp 4] Tryz.func173 Tryz.ntmps173 fun M0 W0 j g i b l f hs=>?_
 simp only [Ax]
 have c:=Cc (l (.clo fa1 ca1) (by simp))
 refine rg [0,1] hs ?_
 refine AD (fun e st=>Ck e st B Rw L [] [] [] (Ha n  = some r)) ?_ ?_
 ·intro K4 k
  refine rg [0,1,7,8] hs ?_
  apply Ar
  refine AA (fun m e st=>∃ (d:Int),Ck e st B Rw L [(0,true,.list (a0.map DI) .none),(1,true,.clo fa1 ca1),(7,true,Ak (a0.length:Int)),(8,true,Ak d)] [] [] (FM n a0 a1 m d=some r)) n ⟨0,([]),Rw,ef hs,ef hs,f,h⟩ ?_
  rintro ml6 e st ⟨d,Xl6,Rl6,rfl,rfl,f,h⟩ Ul6 Vl6
  cases ml6 with
  | zero=>cases h
  | succ ml6 =>
  rw [FM] at h
  refine AO j g i rfl b f (H8 c f) (H8 c f) ?_
  exact go (tg (a:=([0,1,7,8,9],([0,1,7,8],[0,1,5,7,8],[0,1,5,7,8,16],((),()),[0,1,7,8],[0,1,7,8],()),[],()))) h hs j g i b f (q1 ha1) (q2 k (fun e s=>Vl6 ml6 e s (Nat.lt_succ_self _)))
 ·clear h;rintro e st ⟨Xk3,Rk3,rfl,rfl,f,h⟩
  rw [Ha] at h
  refine AO j g i rfl b f (H8 c f) (H8 c f) ?_
  refine rg [4] hs ?_
  exact rt h hs b f
def DJ (n:Nat) (g:List Part) (b:Part->Option Bool):Option Bool :=
 (HQ n g b).bind fun h =>
 some (decide (0<=h))
theorem Gh (w0:World) (n:Nat) (B:Ao) (Rw:Ap) (L:Aq) (a0:List Part) (fa1:FuncId) (ca1:List AV) (a1:Part->Option Bool) (ha1:∀ (x0:Part) r,a1 x0=some r->∀ B' rows,B <+: B'->Rw <+: rows->ACalls Tryz.prog w0 fa1 ([.agg (Ak x0.kind::(Ak x0.index::([.val (.string x0.name)])))]++ca1) ⟨B',rows,L⟩ fun v s=>v = .val (.bool r)/\s=⟨B',rows,L⟩) (r:Bool) (h:DJ n a0 a1=some r) :
  ACalls Tryz.prog w0 122 [.list (a0.map DI) .none,.clo fa1 ca1] ⟨B,Rw,L⟩ fun x st=>x = .val (.bool r)/\st=⟨B,Rw,L⟩:=by
 rw [DJ] at h
 refine hd [.tmp 4] Tryz.func122 Tryz.ntmps122 fun M0 W0 o j l b k g hs=>?_
 simp only [Ax]
 have e:=Cc (k (.clo fa1 ca1) (by simp))
 refine rg [0,1] hs ?_
 obtain ⟨m,d,h⟩:=bind_some h
 refine rc 2 [4] hs ?_;intro K2 c
 refine Av _ (OE w0 n _ _ _ a0 fa1 ca1 a1 (fun x0 r i f a q1 q2=>ha1 x0 r i f a (List.IsPrefix.trans px q1) (g.pre.trans q2)) _ d) (hv hs) ?_
 refine ne hs c ?_
 clear c
 exact rt h hs b g
def HJ (n:Nat) (b:Ex):Option Int :=
 if (HV b.op)&&((decide (b.int<0))||(decide (12<b.int))) then
  AM
 else
  some (0)
def JX (n:Nat) (b:Ex):Option Int :=
 if (decide (b.op<1))||(decide (28<b.op)) then
  AM
 else
  (NE b.op).bind fun q =>
  if (((!(decide (b.op=1)))&&(decide (0<(b.value.length:Int))))||((!(H5 b.op))&&(!(MY b.text (⟨#[]⟩:ByteArray)))))||((!(HV b.op))&&(!(decide (b.int=0)))) then
   AM
  else
   if (decide (q.2=0))&&(decide (0<(b.args.length:Int))) then
    AM
   else
    if decide ((b.args.length:Int)<q.1) then
     AM
    else
     if (decide (q.2<(b.args.length:Int)))&&(!(decide (b.op=25))) then
      AM
     else
      if decide (b.op=1) then
       AM
      else
       if H5 b.op then
        (Kx n b.text).bind fun g =>
        if !(decide (g.2=0)) then
         AM
        else
         (DJ n g.1 (fun (y:Part)=>some (FP y))).bind fun h =>
         if h != (decide (b.op=26)) then
          AM
         else
          HJ n b 
       else
        HJ n b 
theorem Rn (w0:World) (n:Nat) (B:Ao) (Rw:Ap) (L:Aq) (a0:Ex) (r:Int) (h:JX n a0=some r) :
  ACalls Tryz.prog w0 219 [.agg (a0.cs)] ⟨B,Rw,L⟩ fun x st=>x=Ak r/\st=⟨B,Rw,L⟩:=by
 rw [JX] at h
 refine hd [.tmp 2] Tryz.func219 Tryz.ntmps219 fun M0 W0 u l m b C q hs=>?_
 simp only [Ax]
 refine rg [1] hs ?_
 apply Am;intro K2 o
 refine rg [1,15] hs ?_
 refine B6 h hs ?_ ?_<;>intro hs h
 ·exact nS h
 refine sk [1] hs o ?_
 clear o
 obtain ⟨z,t,h⟩:=bind_some h
 refine rc 2 [1,3,4] hs ?_;intro K5 p
 refine Av _ (VK w0 _ _ _ a0.op _ t) (hv hs) ?_
 refine ne hs p ?_
 clear p
 refine AD (fun e st=>Ck e st B Rw L [(1,true,.box B.length 0)] [a0.cs] [] (HJ n a0  = some r)) ?_ ?_
 ·intro K9 k
  apply Ar
  refine rc 3 [1,3,4,22] hs ?_;intro K10 d
  refine Jl _ (fun _=>NS w0 _ _ _ a0.op) (hv hs) ?_
  refine nc hs ?_
  refine Jl _ (fun _=>NZ w0 _ _ _ a0.op) (hv hs) ?_
  refine ne hs d ?_
  clear d
  refine B6 h hs ?_ ?_<;>intro hs h
  ·exact nS h
  refine rg [1,3,4,54] hs ?_
  refine B6 h hs ?_ ?_<;>intro hs h
  ·exact nS h
  refine rg [1,4,63] hs ?_
  refine B6 h hs ?_ ?_<;>intro hs h
  ·exact nS h
  refine rg [1,69] hs ?_
  refine B6 h hs ?_ ?_<;>intro hs h
  ·exact nS h
  refine rg [1,80] hs ?_
  refine B6 h hs ?_ ?_<;>intro hs h
  ·exact nS h
  refine rc 2 [1,87] hs ?_;intro K20 c
  refine Av _ (NS w0 _ _ _ a0.op) (hv hs) ?_
  refine ne hs c ?_
  clear c
  refine B6 h hs ?_ ?_<;>intro hs h
  ·obtain ⟨s,j,h⟩:=bind_some h
   refine rc 2 [1,5,6] hs ?_;intro K22 f
   refine Av _ (Nx w0 n _ _ _ a0.text _ j) (hv hs) ?_
   refine ne hs f ?_
   clear f
   apply Am;intro K24 g
   refine rg [1,5,6,98] hs ?_
   refine B6 h hs ?_ ?_<;>intro hs h
   ·exact nS h
   refine sk [1,5] hs g ?_
   clear g
   obtain ⟨y,hy28,h⟩:=bind_some h
   refine rc 2 [1,7] hs ?_;intro K27 i
   refine Av _ (Gh w0 n _ _ _ s.1 261 [] (fun (x0:Part)=>some (FP x0)) (fun x0 r hx D rows' w v=>by cases hx;exact PG w0 _ _ _ x0) _ hy28) (hv hs) ?_
   exact go (tg (a:=([1,106],((),()),[1],()))) h hs u l m b q trivial (q2 i k)
  refine sk [1] hs k ?_
  exact ⟨([]),Rw,ef hs,ef hs,q,h⟩
 ·clear h;rintro e st ⟨Xk8,Rk8,rfl,rfl,q,h⟩
  rw [HJ] at h
  exact go (tg (a:=([119],((),()),[],[2],()))) h hs u l m b q (q1 (NZ w0)) trivial
def Jc (rec:Ex->Int->Int->Option (Int × Int)) (n:Nat)  (pla2_k16:Int):Option (Int × Int) :=
 some ((0,pla2_k16))
def HA (rec:Ex->Int->Int->Option (Int × Int)) (n:Nat) (q:Ex) (y:Int):Nat->Int->Int->Option (Int × Int)
 | 0,_,_=>none
 | m+1,b,pla2_l19 =>
  if decide (b<(q.args.length:Int)) then
   (Dw q.args b).bind fun h =>
   if BN (y+1) then
    (rec h (y+1) pla2_l19).bind fun g =>
    if !(decide (g.1=0)) then
     AM
    else
     if BN (b+1) then
      (HA rec n q y m) (b+1) g.2
     else none
   else none
  else
   Jc rec n pla2_l19
def Lj (rec:Ex->Int->Int->Option (Int × Int)) (n:Nat) (h:Ex) (q:Int) (g:Int):Option (Int × Int) :=
 if decide (g=256) then
  AM
 else
  if BN (g+1) then
   if decide (8<q) then
    AM
   else
    (JX n h).bind fun b =>
    if !(decide (b=0)) then
     AM
    else
     HA rec n h q n 0 (g+1)
  else none
def IG:Nat->Ex->Int->Int->Option (Int × Int)
 | 0,_,_,_=>none
 | n+1,b,g,h=>Lj (IG n) n b g h
def Lh (w0:World) (F:Ex->Int->Int->Option (Int × Int)):Prop:=∀ (B:Ao) (Rw:Ap) (L:Aq) (b:Ex) (g:Int) (la2:Nat) (h:Int) (hla2:B[la2]? = some ([Ak h])) (la3:Nat) (hla3:B[la3]? = some [.clo 218 [.box la2 0,.box la3 0]]) (r:Int × Int),F b g h=some r->ACalls Tryz.prog w0 218 [.agg (b.cs),Ak g,.box la2 0,.box la3 0] ⟨B,Rw,L⟩ fun x st=>x=Ak r.1/\st=⟨(B.set la2 [Ak r.2]),Rw,L⟩
theorem Q8 (w0:World) (rec:Ex->Int->Int->Option (Int × Int)) (ih:Lh w0 rec) (n:Nat):Lh w0 (Lj rec n):=by
 intro B Rw L a0 a1 t a2 l C j r h
 rw [Lj] at h
 refine hd [.tmp 6] Tryz.func218 Tryz.ntmps218 fun M0 W0 Q o p g hu w hs=>?_
 simp only [Ax]
 have U:=(Aj.1 l).1
 have V:=(Aj.1 j).1
 have i:t≠C:=fun q=>by have k:=l;rw [q,j] at k;cases k
 have hs:=Ad (AH l) hs
 have hs:=Ad (AH j) hs
 have hs:=Ad (FD j i) hs
 refine rg [1,2,3,4] hs ?_
 apply Am;intro K2 J
 refine rg [1,2,3,4,12] hs ?_
 refine B6 h hs ?_ ?_<;>intro hs h
 ·have ab:=hs.1
  exact nS h
 have ab:=hs.1
 refine sk [1,2,3,4] hs J ?_
 clear J
 obtain ⟨af,h⟩:=Au h
 refine rg [1,3,4] hs ?_
 apply Am;intro K7 E
 refine rg [1,3,4,16] hs ?_
 refine B6 h hs ?_ ?_<;>intro hs h
 ·have Y:=hs.1
  exact nS h
 have Y:=hs.1
 refine sk [1,3,4] hs E ?_
 clear E
 apply Am;intro K10 v
 obtain ⟨ag,G,h⟩:=bind_some h
 refine rc 2 [1,3,4,7] hs ?_;intro K11 u
 refine Av _ (Rn w0 n _ _ _ a0 _ G) (hv hs) ?_
 refine ne hs u ?_
 clear u
 refine rg [1,3,4,7,20] hs ?_
 refine B6 h hs ?_ ?_<;>intro hs h
 ·have N:=hs.1
  exact nS h
 have N:=hs.1
 refine sk [1,3,4] hs v ?_
 clear v
 refine AD (fun e st=>∃ (c:Int) (Xk16:Ao) (Rk16:Ap),e=[]/\st=⟨(B.set t ([Ak c]))++([a0.cs]++Xk16),Rk16,L⟩/\Owns Rw Rk16 []/\Jc rec n c=some r) ?_ ?_
 ·intro K17 F
  refine rg [1,3,23,24,25] hs ?_
  apply Ar
  refine AA (fun m e st=>∃ (d:Int) (b:Int) (Xl19:Ao) (Rl19:Ap),e=[(1,true,Ak a1),(3,true,.box C 0),(23,true,.list (a0.args.map Vv) .none),(24,true,Ak (a0.args.length:Int)),(25,true,Ak d)]/\st=⟨(B.set t ([Ak b]))++([a0.cs]++Xl19),Rl19,L⟩/\Owns Rw Rl19 []/\HA rec n a0 a1 m d b=some r) n ⟨0,(a2+1),([]),Rw,ef hs,ef hs,w,h⟩ ?_
  rintro ml19 e st ⟨d,b,Xl19,Rl19,rfl,rfl,w,h⟩ Ul19 Vl19
  cases ml19 with
  | zero=>cases h
  | succ ml19 =>
  rw [HA] at h
  refine AO Q o p MZ (AK g ev) w ow ow ?_
  refine rg [1,3,23,24,25,26] hs ?_
  apply Am;intro K21 x
  refine B6 h hs ?_ ?_<;>intro hs h
  rotate_left
  ·refine sx [] hs F ?_
   exact ⟨b,([]),Rl19,ef hs,ef hs,w,h⟩
  refine sk [1,3,23,24,25] hs x ?_
  clear x
  apply Am;intro K23 D
  apply Ar
  obtain ⟨ad,K,h⟩:=bind_some h
  obtain ⟨Z,aa,y⟩:=Bo K
  have z:=Bz (f:=Vv) y
  have hs:=Ad z hs
  refine rg [1,3,9,23,24,25] hs ?_
  obtain ⟨ae,h⟩:=Au h
  obtain ⟨ah,O,h⟩:=bind_some h
  refine rc 2 [1,3,10,23,24,25] hs ?_;intro K26 H
  refine BE _ (ih _ _ _ ad (a1+1) t b (ef hs) C (ef hs) _ O) (hv hs) ?_;rintro _ _ ⟨rfl,rfl⟩
  exact go (tg (a:=([1,3,10,23,24,25,35],((),()),[1,3,23,24,25],[1,3,23,24,25],()))) h hs Q o p g w trivial (q3 H D (fun e s=>Vl19 ml19 e s (Nat.lt_succ_self _)))
 ·clear h;rintro e st ⟨c,Xk16,Rk16,rfl,rfl,w,h⟩
  rw [Jc] at h
  refine AO Q o p MZ (AK g ev) w ow ow ?_
  exact go (tg (a:=([6],()))) h hs Q o p g w trivial trivial
theorem NV (w0:World):∀ n:Nat,Lh w0 (IG n)
 | 0=>fun _ _ _ _ _ _ _ _ _ _ _ h=>(nomatch h)
 | n+1=>Q8 w0 (IG n) (NV w0 n) n
def J8 (n:Nat) (b:Ex):Option Int :=
 (IG n b 1 0).bind fun g =>
 some (g.1)
theorem PR (w0:World) (n:Nat) (B:Ao) (Rw:Ap) (L:Aq) (a0:Ex) (r:Int) (h:J8 n a0=some r) :
  ACalls Tryz.prog w0 176 [.agg (a0.cs)] ⟨B,Rw,L⟩ fun x st=>x=Ak r/\st=⟨B,Rw,L⟩:=by
 rw [J8] at h
 refine hd [.tmp 2] Tryz.func176 Tryz.ntmps176 fun M0 W0 j d f a i e hs=>?_
 simp only [Ax]
 refine rg [1] hs ?_
 refine rg [1,3] hs ?_
 refine rg [1,3,4] hs ?_
 refine rg [1,4] hs ?_
 obtain ⟨g,c,h⟩:=bind_some h
 refine rc 2 [2] hs ?_;intro K5 b
 refine BE _ (NV w0 n _ _ _ a0 1 (B.length+1) 0 ev (B.length+2) ev _ c) (hv hs) ?_;rintro _ _ ⟨rfl,rfl⟩
 refine ne hs b ?_
 clear b
 exact rt h hs a e
def H3 (b:Int):Option Int :=
 if BN (0-b) then
  some ((if b<0-b then 0-b else b))
 else none
theorem KD (w0:World) (B:Ao) (Rw:Ap) (L:Aq) (a0:Int) (r:Int) (h:H3 a0=some r) :
  ACalls Tryz.prog w0 310 [Ak a0] ⟨B,Rw,L⟩ fun x st=>x=Ak r/\st=⟨B,Rw,L⟩:=by
 rw [H3] at h
 refine hd [.tmp 2] Tryz.func310 Tryz.ntmps310 fun M0 W0 g c e a f d hs=>?_
 simp only [Ax]
 refine rg [0] hs ?_
 obtain ⟨b,h⟩:=Au h
 refine rg [2] hs ?_
 exact rt h hs a d
def JW (b:Int × Int):Option Int :=
 (H3 b.1).bind fun g =>
 if (((decide (999999999999999<g))||(decide (b.1<((-999999999999999)))))||(decide (b.2<0)))||(decide (12<b.2)) then
  AM
 else
  some (0)
theorem RH (w0:World) (B:Ao) (Rw:Ap) (L:Aq) (a0:Int × Int) (r:Int) (h:JW a0=some r) :
  ACalls Tryz.prog w0 317 [.agg (Ak a0.1::([Ak a0.2]))] ⟨B,Rw,L⟩ fun x st=>x=Ak r/\st=⟨B,Rw,L⟩:=by
 rw [JW] at h
 refine hd [.tmp 2] Tryz.func317 Tryz.ntmps317 fun M0 W0 f c d b g e hs=>?_
 simp only [Ax]
 exact go (tg (a:=([1],[21],((),()),[],[2],()))) h hs f c d b e (q1 (KD w0)) trivial
def I8 (n:Nat)  : Option Int :=
 some (0)
def Hz (n:Nat) (g:List (Int × Int)):Nat->Int->Option Int
 | 0,_=>none
 | m+1,b =>
  if decide (b<(g.length:Int)) then
   (Dw g b).bind fun h =>
   (JW h).bind fun q =>
   if !(decide (q=0)) then
    AM
   else
    if BN (b+1) then
     (Hz n g m) (b+1)
    else none
  else
   I8 n 
def JO (n:Nat) (b:List (Int × Int)):Option Int :=
 Hz n b n 0
theorem RX (w0:World) (n:Nat) (B:Ao) (Rw:Ap) (L:Aq) (a0:List (Int × Int)) (r:Int) (h:JO n a0=some r) :
  ACalls Tryz.prog w0 302 [.list (a0.map VG) .none] ⟨B,Rw,L⟩ fun x st=>x=Ak r/\st=⟨B,Rw,L⟩:=by
 rw [JO] at h
 refine hd [.tmp 2] Tryz.func302 Tryz.ntmps302 fun M0 W0 j f g b k d hs=>?_
 simp only [Ax]
 refine rg [0] hs ?_
 refine AD (fun e st=>Ck e st B Rw L [] [] [] (I8 n  = some r)) ?_ ?_
 ·intro K4 i
  refine rg [6,7,8] hs ?_
  apply Ar
  refine AA (fun m e st=>∃ (c:Int),Ck e st B Rw L [(6,true,.list (a0.map VG) .none),(7,true,Ak (a0.length:Int)),(8,true,Ak c)] [] [] (Hz n a0 m c=some r)) n ⟨0,([]),Rw,ef hs,ef hs,d,h⟩ ?_
  rintro ml6 e st ⟨c,Xl6,Rl6,rfl,rfl,d,h⟩ Ul6 Vl6
  cases ml6 with
  | zero=>cases h
  | succ ml6 =>
  rw [Hz] at h
  exact go (tg (a:=([6,7,8,9],([6,7,8],[4,6,7,8],[5,6,7,8],[5,6,7,8,15],((),()),[6,7,8],[6,7,8],()),[],()))) h hs j f g b d (q1 (RH w0)) (q2 i (fun e s=>Vl6 ml6 e s (Nat.lt_succ_self _)))
 ·clear h;rintro e st ⟨Xk3,Rk3,rfl,rfl,d,h⟩
  rw [I8] at h
  refine td j f g b d ?_
  refine rg [2] hs ?_
  exact rt h hs b d
def XF (i:Nat):List AV:=(List.range 13).map fun j=>Ak (if j<i then 10 ^ j else 0)
theorem Zbw (w0:World) (B:Ao) (Rw:Ap) (L:Aq) :
  ACalls Tryz.prog w0 347 [] ⟨B,Rw,L⟩ fun r st=>r = .agg (XF 13)/\st=⟨B,Rw,L⟩:=by
 refine hd [.cell 0 413] Tryz.func347 Tryz.ntmps347 fun M0 W0 C t v a z E hs=>?_
 simp only [Ax]
 refine rg [0] hs ?_
 refine rg [0,1] hs ?_
 apply Am;intro K2 k
 refine rg [0,1,2] hs ?_
 apply Ar
 refine AA (fun m e st=>∃ (i:Nat),1<=i/\i<=13/\m=13-i/\e=[(0,true,.box B.length 0),(1,true,.box (B.length+1) 0),(2,true,Ak (i:Int))]/\st=⟨B++[XF 0,XF i],Rw,L⟩) 12 ⟨1,by omega,by omega,rfl,rfl,rfl⟩ ?_
 rintro m e st ⟨i,D,G,rfl,rfl,rfl⟩ KR c
 apply Am;intro K3 g
 refine rg [0,1,2,5] hs ?_
 refine A7 _ (by simp +decide only [go_sem]) (by simp +decide only [go_sem];rfl) (fun n=>?_) (fun n=>?_)
 rotate_left
 ·obtain rfl:i=13:=by simp only [decide_eq_false_iff_not] at n;omega
  apply Gn;simp +decide only [go_sem]
  refine k _ _ ?_
  apply Am;intro K6 p
  apply As 1 [0]
  have b:List.take 13 (XF 13)=XF 13:=rfl
  rw [An];simp +decide only [go_sem,b]
  refine p _ _ ?_
  apply BB;simp +decide only [go_sem,b]
  have f:(XF 13).map AV.pubCell=XF 13:=rfl
  rw [f]
  have l:∀ x∈XF 13,Under B.length Rw.length L.length x:=by
   intro x q
   obtain ⟨j,_,rfl⟩:=List.mem_map.1 q
   exact .val _
  exact J2 a ⟨_,rfl⟩ (List.prefix_refl _) (List.prefix_refl _) (by show Under _ _ _ (.agg ((XF 13).map AV.pubCell));rw [f];exact .agg l) (by show (AV.agg ((XF 13).map AV.pubCell) = .agg (XF 13))/\_;rw [f];exact ⟨rfl,rfl⟩)
 have F:i<13:=by simp only [decide_eq_true_eq] at n;omega
 apply Bq;simp only [go_sem]
 refine g _ _ ?_
 apply Am;intro K4 d
 apply Ar
 apply As 1 [0,1,2]
 have u:(XF i).getD ((i:Int)-1).toNat .junk=Ak (10 ^ (i-1))/\Bt (XF i) i [Ak (10*10 ^ (i-1))]=XF (i+1)/\(10:Int) ^ (i-1)<=100000000000/\0<=(10:Int) ^ (i-1):=by
  have w:i=1\/i=2\/i=3\/i=4\/i=5\/i=6\/i=7\/i=8\/i=9\/i=10\/i=11\/i=12:=by omega
  rcases w with rfl | rfl | rfl | rfl | rfl | rfl | rfl | rfl | rfl | rfl | rfl | rfl<;>exact ⟨rfl,rfl,by decide,by decide⟩
 obtain ⟨h,o,hq3,hq4⟩:=u
 have s:(XF i).length=13:=by simp [XF]
 rw [An];simp +decide only [go_sem,h,o,s]
 generalize (10:Int) ^ (i-1)=y at hq3 hq4 ⊢
 (repeat' apply Ad)<;>first | refine d _ _ ?_ | omega
 apply As 1 [0,1,2]
 rw [An];simp +decide only [go_sem]
 (repeat' apply Ad)<;>first | refine c (13-(i+1)) _ _ (by omega) ⟨i+1,by omega,by omega,rfl,by simp,rfl⟩ | omega
theorem Zho {n:Int} (h0:0<=n) (h1:n<=12):(XF 13).getD n.toNat .junk=Ak (10 ^ n.toNat):=by
 have a:n=0\/n=1\/n=2\/n=3\/n=4\/n=5\/n=6\/n=7\/n=8\/n=9\/n=10\/n=11\/n=12:=by omega
 rcases a with rfl | rfl | rfl | rfl | rfl | rfl | rfl | rfl | rfl | rfl | rfl | rfl | rfl<;>rfl
theorem Zw (w0:World) (B:Ao) (Rw:Ap) (L:Aq) (n:Int) (h0:0<=n/\n<=12) :
  ACalls Tryz.prog w0 331 [Ak n] ⟨B,Rw,L⟩ fun r st=>r=Ak (10 ^ n.toNat)/\st=⟨B,Rw,L⟩:=by
 refine hd [.tmp 2] Tryz.func331 Tryz.ntmps331 fun M0 W0 i c d a g h hs=>?_
 simp only [Ax]
 refine rg [0] hs ?_
 apply Am;intro K1 b
 apply As 2 [2]
 have f:=Zho h0.1 h0.2
 have e:(XF 13).length=13:=rfl
 rw [An];simp +decide only [go_sem]
 (repeat' apply Ad)<;>first | refine Av _ (Zbw w0 _ _ _) (hv hs) ?_ | exact cl
 rw [An];simp +decide only [go_sem,f,e]
 refine ⟨⟨h0.1,by have:=h0.2;show n<13;omega⟩,b _ _ ?_⟩
 apply BB;simp +decide only [go_sem]
 exact J2 a (List.prefix_refl _) (List.prefix_refl _) (List.prefix_refl _) (.val _) ⟨rfl,rfl⟩
def LX (b:Int) (g:Int):Option ((Int × Int) × Int) :=
 (H3 b).bind fun h =>
 if decide (999999999999999<h) then
  AM
 else
  some (((b,g),0))
theorem U2 (w0:World) (B:Ao) (Rw:Ap) (L:Aq) (a0:Int) (a1:Int) (r:(Int × Int) × Int) (h:LX a0 a1=some r) :
  ACalls Tryz.prog w0 311 [Ak a0,Ak a1] ⟨B,Rw,L⟩ fun x st=>x = .tup [.agg (Ak r.1.1::([Ak r.1.2])),Ak r.2]/\st=⟨B,Rw,L⟩:=by
 rw [LX] at h
 refine hd [.cell 4 337,.tmp 5] Tryz.func311 Tryz.ntmps311 fun M0 W0 f c d b g e hs=>?_
 simp only [Ax]
 exact go (tg (a:=([0,1,4],[0,1,4,8],((),()),[0,1,4],[4,5],()))) h hs f c d b e (q1 (KD w0)) trivial
def JM (b:Int × Int):Option (Int × Int) :=
 if 0<=(b.2:Int)/\(b.2:Int)<=12 then
  if ((10:Int) ^ (b.2:Int).toNat)≠0/\BN (b.1.tdiv ((10:Int) ^ (b.2:Int).toNat)) then
   if ((10:Int) ^ (b.2:Int).toNat)≠0 then
    if BN (12-b.2) then
     if 0<=(12-b.2:Int)/\(12-b.2:Int)<=12 then
      if BN ((b.1.tmod ((10:Int) ^ (b.2:Int).toNat))*((10:Int) ^ (12-b.2:Int).toNat)) then
       some ((b.1.tdiv ((10:Int) ^ (b.2:Int).toNat),(b.1.tmod ((10:Int) ^ (b.2:Int).toNat))*((10:Int) ^ (12-b.2:Int).toNat)))
      else none
     else none
    else none
   else none
  else none
 else none
theorem RJ (w0:World) (B:Ao) (Rw:Ap) (L:Aq) (a0:Int × Int) (r:Int × Int) (h:JM a0=some r) :
  ACalls Tryz.prog w0 303 [.agg (Ak a0.1::([Ak a0.2]))] ⟨B,Rw,L⟩ fun x st=>x = .tup [Ak r.1,Ak r.2]/\st=⟨B,Rw,L⟩:=by
 rw [JM] at h
 refine hd [.tmp 2,.tmp 3] Tryz.func303 Tryz.ntmps303 fun M0 W0 f c d b g e hs=>?_
 simp only [Ax]
 exact go (tg (a:=([1],[1,4],[15,2,3],()))) h hs f c d b e (q1 (Zw w0)) trivial
def Ft (n:Nat) (h:Int) (b:Int) (g:Int):Option ((Int × Int) × Int) :=
 (H3 b).bind fun y =>
 if 0<=(h:Int)/\(h:Int)<=12 then
  if ((10:Int) ^ (h:Int).toNat)≠0/\BN ((999999999999999:Int).tdiv ((10:Int) ^ (h:Int).toNat)) then
   if decide (((999999999999999:Int).tdiv ((10:Int) ^ (h:Int).toNat))<y) then
    some (((0,0),14))
   else
    if 0<=(h:Int)/\(h:Int)<=12 then
     if BN (b*((10:Int) ^ (h:Int).toNat)) then
      if BN (12-h) then
       if 0<=(12-h:Int)/\(12-h:Int)<=12 then
        if ((10:Int) ^ (12-h:Int).toNat)≠0/\BN (g.tdiv ((10:Int) ^ (12-h:Int).toNat)) then
         if BN ((b*((10:Int) ^ (h:Int).toNat))+(g.tdiv ((10:Int) ^ (12-h:Int).toNat))) then
          (LX ((b*((10:Int) ^ (h:Int).toNat))+(g.tdiv ((10:Int) ^ (12-h:Int).toNat))) h).bind fun q =>
          some ((q.1,q.2))
         else none
        else none
       else none
      else none
     else none
    else none
  else none
 else none
def I5 (n:Nat) (h:Int) (g:Int) (b:Int):Option ((Int × Int) × Int) :=
 if ((10:Int) ^ (12:Int).toNat)≠0/\BN (b.tdiv ((10:Int) ^ (12:Int).toNat)) then
  if BN (g+(b.tdiv ((10:Int) ^ (12:Int).toNat))) then
   if ((10:Int) ^ (12:Int).toNat)≠0 then
    if (decide (0<(g+(b.tdiv ((10:Int) ^ (12:Int).toNat)))))&&(decide ((b.tmod ((10:Int) ^ (12:Int).toNat))<0)) then
     if BN ((g+(b.tdiv ((10:Int) ^ (12:Int).toNat)))-1) then
      if BN ((b.tmod ((10:Int) ^ (12:Int).toNat))+((10:Int) ^ (12:Int).toNat)) then
       Ft n h ((g+(b.tdiv ((10:Int) ^ (12:Int).toNat)))-1) ((b.tmod ((10:Int) ^ (12:Int).toNat))+((10:Int) ^ (12:Int).toNat))
      else none
     else none
    else
     if (decide ((g+(b.tdiv ((10:Int) ^ (12:Int).toNat)))<0))&&(decide (0<(b.tmod ((10:Int) ^ (12:Int).toNat)))) then
      if BN ((g+(b.tdiv ((10:Int) ^ (12:Int).toNat)))+1) then
       if BN ((b.tmod ((10:Int) ^ (12:Int).toNat))-((10:Int) ^ (12:Int).toNat)) then
        Ft n h ((g+(b.tdiv ((10:Int) ^ (12:Int).toNat)))+1) ((b.tmod ((10:Int) ^ (12:Int).toNat))-((10:Int) ^ (12:Int).toNat))
       else none
      else none
     else
      Ft n h (g+(b.tdiv ((10:Int) ^ (12:Int).toNat))) (b.tmod ((10:Int) ^ (12:Int).toNat))
   else none
  else none
 else none
def HE (n:Nat) (a0:List (Int × Int)) (a1:Int):Nat->Int->Int->Int->Option ((Int × Int) × Int)
 | 0,_,_,_=>none
 | m+1,g,h,b =>
  if decide (b<(a0.length:Int)) then
   (Dw a0 b).bind fun y =>
   (JM y).bind fun q =>
   if BN (g+q.1) then
    if BN (h+q.2) then
     if BN (b+1) then
      (HE n a0 a1 m) (g+q.1) (h+q.2) (b+1)
     else none
    else none
   else none
  else
   I5 n a1 g h
def JV (n:Nat) (b:List (Int × Int)) (g:Int):Option ((Int × Int) × Int) :=
 if 0<=(12:Int)/\(12:Int)<=12 then
  HE n b g n 0 0 0
 else none
theorem R7 (w0:World) (n:Nat) (B:Ao) (Rw:Ap) (L:Aq) (a0:List (Int × Int)) (a1:Int) (r:(Int × Int) × Int) (h:JV n a0 a1=some r) :
  ACalls Tryz.prog w0 308 [.list (a0.map VG) .none,Ak a1] ⟨B,Rw,L⟩ fun x st=>x = .tup [.agg (Ak r.1.1::([Ak r.1.2])),Ak r.2]/\st=⟨B,Rw,L⟩:=by
 rw [JV] at h
 refine hd [.cell 4 337,.tmp 5] Tryz.func308 Tryz.ntmps308 fun M0 W0 v l o f E p hs=>?_
 simp only [Ax]
 refine rg [0,1,4] hs ?_
 obtain ⟨y,h⟩:=Au h
 refine rc 2 [0,1,4,6] hs ?_;intro K2 u
 refine Av _ (Zw w0 _ _ _ 12 y) (hv hs) ?_
 refine ne hs u ?_
 clear u
 refine rg [0,1,4,6,7,8] hs ?_
 refine AD (fun e st=>∃ (i:Int) (g:Int),Ck e st B Rw L [(1,true,Ak a1),(4,true,.box B.length 0),(6,true,Ak ((10:Int) ^ (12:Int).toNat)),(7,true,Ak i),(8,true,Ak g)] [[Ak 0,Ak 0]] [] (I5 n a1 i g=some r)) ?_ ?_
 ·intro K7 w
  refine rg [1,4,6,7,8,14,15,16] hs ?_
  apply Ar
  refine AA (fun m e st=>∃ (j:Int) (k:Int) (c:Int),Ck e st B Rw L [(1,true,Ak a1),(4,true,.box B.length 0),(6,true,Ak ((10:Int) ^ (12:Int).toNat)),(7,true,Ak j),(8,true,Ak k),(14,true,.list (a0.map VG) .none),(15,true,Ak (a0.length:Int)),(16,true,Ak c)] [[Ak 0,Ak 0]] [] (HE n a0 a1 m j k c=some r)) n ⟨0,0,0,([]),Rw,ef hs,ef hs,p,h⟩ ?_
  rintro ml9 e st ⟨j,k,c,Xl9,Rl9,rfl,rfl,p,h⟩ Ul9 Vl9
  cases ml9 with
  | zero=>cases h
  | succ ml9 =>
  rw [HE] at h
  exact go (tg (a:=([1,4,6,7,8,14,15,16,17],([1,4,6,7,8,14,15,16],[1,4,6,7,8,10,14,15,16],[1,4,6,7,8,11,12,14,15,16],[1,4,6,7,8,14,15,16],[1,4,6,7,8,14,15,16],()),[1,4,6,7,8],()))) h hs v l o f p (q1 (RJ w0)) (q2 w (fun e s=>Vl9 ml9 e s (Nat.lt_succ_self _)))
 ·clear h;rintro e st ⟨i,g,Xk6,Rk6,rfl,rfl,p,h⟩
  rw [I5] at h
  refine td v l o f p ?_
  apply Am;intro K21 q
  obtain ⟨D,h⟩:=Au h
  obtain ⟨C,h⟩:=Au h
  obtain ⟨z,h⟩:=Au h
  apply D9 G6 [8,9] [1,4,6,7,8] kr (fun s=>∃ (X:Ao) (rows:Ap),s=⟨B++([[Ak 0,Ak 0]]++X),rows,L⟩) 3 (B.length+1)
  ·simp +decide only [go_sem,Nat.reduceAdd]
  ·rintro s ⟨X,rows,rfl⟩
   refine ⟨1,?_⟩
   rw [An];simp +decide only [go_sem,Nat.reduceAdd,Bh]
   (repeat' apply Ad)<;>first | rfl | exact cl
  ·exact gd (tg (a:=(8,9,[1,4,6,7,8]))) hs
  simp +decide only [go_sem,Nat.reduceAdd]
  (repeat' apply Ad)<;>first | refine q _ _ ?_ | exact cl
  clear q
  refine AD (fun e st=>∃ (d:Int) (b:Int),Ck e st B Rw L [(1,true,Ak a1),(4,true,.box B.length 0),(7,true,Ak d),(8,true,Ak b)] [[Ak 0,Ak 0]] [] (Ft n a1 d b=some r)) ?_ ?_
  ·intro K27 t
   exact go (tg (a:=([1,4,6,7,8,40],([1,4,7,8],()),[1,4,6,7,8,52],([1,4,7,8],()),[1,4,7,8],()))) h hs v l o f p trivial (q1 t)
  ·clear h;rintro e st ⟨d,b,Xk26,Rk26,rfl,rfl,p,h⟩
   rw [Ft] at h
   exact go (tg (a:=([1,4,7,8,69],([4,5],()),[1,4,7,8],[4,5],()))) h hs v l o f p (q3 (KD w0) (Zw w0) (U2 w0)) trivial
def L1 (n:Nat) (g:Int × Int) (b:Int × Int):Option ((Int × Int) × Int) :=
 (JO n ([g,b])).bind fun q =>
 if !(decide (q=0)) then
  AM
 else
  (JV n ([g,b]) ((if g.2<b.2 then b.2 else g.2))).bind fun h =>
  some ((h.1,h.2))
theorem Vm (w0:World) (n:Nat) (B:Ao) (Rw:Ap) (L:Aq) (a0:Int × Int) (a1:Int × Int) (r:(Int × Int) × Int) (h:L1 n a0 a1=some r) :
  ACalls Tryz.prog w0 273 [.agg (Ak a0.1::([Ak a0.2])),.agg (Ak a1.1::([Ak a1.2]))] ⟨B,Rw,L⟩ fun x st=>x = .tup [.agg (Ak r.1.1::([Ak r.1.2])),Ak r.2]/\st=⟨B,Rw,L⟩:=by
 rw [L1] at h
 refine hd [.cell 4 337,.tmp 5] Tryz.func273 Tryz.ntmps273 fun M0 W0 f c d b g e hs=>?_
 simp only [Ax]
 exact go (tg (a:=([2,3,4],[2,3,4,6],[2,3,4,6,12],((),()),[2,3,4],[4,5],()))) h hs f c d b e (q2 (RX w0 n) (R7 w0 n)) trivial
def GO (b:Vl):Bool :=
 (decide (b.kind=2))||(decide (b.kind=3))
theorem Su (w0:World) (B:Ao) (Rw:Ap) (L:Aq) (a0:Vl) (r:Bool) (h:GO a0=r) :
  ACalls Tryz.prog w0 266 [.agg (a0.cs)] ⟨B,Rw,L⟩ fun x st=>x = .val (.bool r)/\st=⟨B,Rw,L⟩:=by
 rw [GO] at h
 refine hd [.tmp 2] Tryz.func266 Tryz.ntmps266 fun M0 W0 f b d a e c hs=>?_
 simp only [Ax]
 refine rg [1] hs ?_
 refine rg [2] hs ?_
 exact rT h hs a c
theorem LJ (w0:World) (B:Ao) (Rw:Ap) (L:Aq) (a0:Vl) :
  ACalls Tryz.prog w0 266 [.agg (a0.cs)] ⟨B,Rw,L⟩ fun x st=>x = .val (.bool (GO a0))/\st=⟨B,Rw,L⟩:=Su w0 B Rw L a0 _ rfl
def AB (b:Int):Vl :=
 Vl.mk 2 b 0 (⟨#[]⟩:ByteArray) ([]) ([])
theorem ZeD (w0:World) (B:Ao) (Rw:Ap) (L:Aq) (a0:Int) (r:Vl) (h:AB a0=r) :
  ACalls Tryz.prog w0 28 [Ak a0] ⟨B,Rw,L⟩ fun x st=>x = .agg (r.cs)/\st=⟨B,Rw,L⟩:=by
 rw [AB] at h
 refine hd [.cell 2 49] Tryz.func28 Tryz.ntmps28 fun M0 W0 f b d a e c hs=>?_
 simp only [Ax]
 refine rg [0,2] hs ?_
 refine rg [2] hs ?_
 exact rT h hs a c
theorem Im (w0:World) (B:Ao) (Rw:Ap) (L:Aq) (a0:Int) :
  ACalls Tryz.prog w0 28 [Ak a0] ⟨B,Rw,L⟩ fun x st=>x = .agg ((AB a0).cs)/\st=⟨B,Rw,L⟩:=ZeD w0 B Rw L a0 _ rfl
def G1 (q:Vl × Int) (g:Bool) (h:Int × Int) (b:Int):Option Vl :=
 if !(decide (b=0)) then
  AM
 else
  if g then
   some (AB h.1)
  else
   AM
theorem Nv (w0:World) (B:Ao) (Rw:Ap) (L:Aq) (la0:Nat) (a0:Vl × Int) (hla0:B[la0]? = some ((a0.1.cs)++([Ak a0.2]))) (a1:Bool) (a2:Int × Int) (a3:Int) (r:Vl) (h:G1 a0 a1 a2 a3=some r) :
  ACalls Tryz.prog w0 272 [.box la0 0,.val (.bool a1),.agg (Ak a2.1::([Ak a2.2])),Ak a3] ⟨B,Rw,L⟩ fun x st=>x = .agg (r.cs)/\st=⟨B,Rw,L⟩:=by
 rw [G1] at h
 refine hd [.cell 8 49] Tryz.func272 Tryz.ntmps272 fun M0 W0 g d e b i f hs=>?_
 simp only [Ax]
 have c:=(Aj.1 hla0).1
 have hs:=Ad (AH hla0) hs
 exact go (tg (a:=([0,1,3,6,8],[0,1,3,6,8,9],((),()),[6,8,15],([8],()),((),())))) h hs g d e b f (q1 (Im w0)) trivial
def Pv (b:Vl):Option ((Int × Int)) :=
 if decide (b.kind=2) then
  some ((b.int,0))
 else
  AM
theorem TU (w0:World) (B:Ao) (Rw:Ap) (L:Aq) (a0:Vl) (r:(Int × Int)) (h:Pv a0=some r) :
  ACalls Tryz.prog w0 268 [.agg (a0.cs)] ⟨B,Rw,L⟩ fun x st=>x = .agg (Ak r.1::([Ak r.2]))/\st=⟨B,Rw,L⟩:=by
 rw [Pv] at h
 refine hd [.cell 2 337] Tryz.func268 Tryz.ntmps268 fun M0 W0 f c d b g e hs=>?_
 simp only [Ax]
 exact go (tg (a:=([1,2],[1,2,5],([2],()),((),())))) h hs f c d b e trivial trivial
def Ff (n:Nat) (a0:Vl × Int) (a1:Ex) (a2:Vl) (q:Vl):Option Vl :=
 if !(decide (a0.2=0)) then
  AM
 else
  if (!(GO a2))||(!(GO q)) then
   AM
  else
   if decide (a1.op=12) then
    (Pv a2).bind fun h =>
    (Pv q).bind fun g =>
    (L1 n h g).bind fun b =>
    (G1 a0 ((decide (a2.kind=2))&&(decide (q.kind=2))) b.1 b.2).bind fun y =>
    some (y)
   else
    AM
theorem KC (w0:World) (n:Nat) (B:Ao) (Rw:Ap) (L:Aq) (la0:Nat) (a0:Vl × Int) (hla0:B[la0]? = some ((a0.1.cs)++([Ak a0.2]))) (a1:Ex) (a2:Vl) (a3:Vl) (r:Vl) (h:Ff n a0 a1 a2 a3=some r) :
  ACalls Tryz.prog w0 229 [.box la0 0,.agg (a1.cs),.agg (a2.cs),.agg (a3.cs)] ⟨B,Rw,L⟩ fun x st=>x = .agg (r.cs)/\st=⟨B,Rw,L⟩:=by
 rw [Ff] at h
 refine hd [.cell 8 49] Tryz.func229 Tryz.ntmps229 fun M0 W0 w p q f C y hs=>?_
 simp only [Ax]
 have o:=(Aj.1 hla0).1
 have hs:=Ad (AH hla0) hs
 refine rg [0,5,6,7,8] hs ?_
 apply Am;intro K2 i
 refine rg [0,5,6,7,8,16] hs ?_
 refine B6 h hs ?_ ?_<;>intro hs h
 ·have d:=hs.1
  exact nS h
 have d:=hs.1
 refine sk [0,5,6,7,8] hs i ?_
 clear i
 apply Am;intro K5 j
 refine rc 3 [0,5,6,7,8,25] hs ?_;intro K6 k
 refine Av _ (LJ w0 _ _ _ a2) (hv hs) ?_
 refine nc hs ?_
 refine Jl _ (fun _=>LJ w0 _ _ _ a3) (hv hs) ?_
 refine ne hs k ?_
 clear k
 refine B6 h hs ?_ ?_<;>intro hs h
 ·have c:=hs.1
  exact nS h
 have c:=hs.1
 refine sk [0,5,6,7,8] hs j ?_
 clear j
 refine rg [0,5,6,7,8,9] hs ?_
 refine rg [0,5,6,7,8,9,10] hs ?_
 refine rg [0,5,6,7,8,9,10] hs ?_
 apply Am;intro K11 e
 refine rg [0,5,6,7,8,9,10,37] hs ?_
 apply Ar
 refine rg [0,5,6,7,8,9,10,37,48] hs ?_
 refine B6 h hs ?_ ?_<;>intro hs h
 ·have b:=hs.1
  obtain ⟨u,l,h⟩:=bind_some h
  obtain ⟨t,m,h⟩:=bind_some h
  obtain ⟨z,g,h⟩:=bind_some h
  apply D9 G6 [8] [0,8,9,10,11] kr (fun s=>∃ (X:Ao) (rows:Ap) (v:List AV),s=⟨B++([a1.cs,a2.cs,a3.cs,CQ,v]++X),rows,L⟩) 2 (B.length+5)
  ·simp +decide only [go_sem,Nat.reduceAdd]
  ·rintro s ⟨X,rows,v,rfl⟩
   refine ⟨4,?_⟩
   rw [An];simp +decide only [go_sem,Nat.reduceAdd,Bh,AH hla0,d,c,b]
   (repeat' apply Ad)<;>first | refine Av _ (TU w0 _ _ _ a2 _ l) (hv hs) ?_ | exact cl
   rw [An];simp +decide only [go_sem,Nat.reduceAdd,AH hla0,d,c,b]
   (repeat' apply Ad)<;>first | refine Av _ (TU w0 _ _ _ a3 _ m) (hv hs) ?_ | exact cl
   rw [An];simp +decide only [go_sem,Nat.reduceAdd,AH hla0,d,c,b]
   (repeat' apply Ad)<;>first | refine Av _ (Vm w0 n _ _ _ u t _ g) (hv hs) ?_ | exact cl
   rw [An];simp +decide only [go_sem,Nat.reduceAdd,AH hla0,d,c,b]
   (repeat' apply Ad)<;>first | rfl | exact cl
  ·exact gd (tg (a:=(8,[0,8,9,10,11]))) (Ad (AH hla0) hs)
  simp +decide only [go_sem,Nat.reduceAdd,AH hla0,d,c,b]
  (repeat' apply Ad)<;>first | refine e _ _ ?_ | exact cl
  clear e
  exact go (tg (a:=([8],()))) h hs w p q f y (q1 (Nv w0)) trivial
 have b:=hs.1
 exact nS h
def Jw (b:Part):Bool :=
 decide (b.kind=3)
theorem WI (w0:World) (B:Ao) (Rw:Ap) (L:Aq) (a0:Part) (r:Bool) (h:Jw a0=r) :
  ACalls Tryz.prog w0 307 [.agg (Ak a0.kind::(Ak a0.index::([.val (.string a0.name)])))] ⟨B,Rw,L⟩ fun x st=>x = .val (.bool r)/\st=⟨B,Rw,L⟩:=by
 rw [Jw] at h
 refine hd [.tmp 2] Tryz.func307 Tryz.ntmps307 fun M0 W0 f b d a e c hs=>?_
 simp only [Ax]
 refine rg [1] hs ?_
 refine rg [2] hs ?_
 exact rT h hs a c
theorem VI (w0:World) (B:Ao) (Rw:Ap) (L:Aq) (a0:Part) :
  ACalls Tryz.prog w0 307 [.agg (Ak a0.kind::(Ak a0.index::([.val (.string a0.name)])))] ⟨B,Rw,L⟩ fun x st=>x = .val (.bool (Jw a0))/\st=⟨B,Rw,L⟩:=WI w0 B Rw L a0 _ rfl
def Sv (n:Nat) (b:List Part):Option Bool :=
 (DJ n b (fun (g:Part)=>some (Jw g))).bind fun h =>
 some (h)
theorem ZU (w0:World) (n:Nat) (B:Ao) (Rw:Ap) (L:Aq) (a0:List Part) (r:Bool) (h:Sv n a0=some r) :
  ACalls Tryz.prog w0 270 [.list (a0.map DI) .none] ⟨B,Rw,L⟩ fun x st=>x = .val (.bool r)/\st=⟨B,Rw,L⟩:=by
 rw [Sv] at h
 refine hd [.tmp 2] Tryz.func270 Tryz.ntmps270 fun M0 W0 l d f a k e hs=>?_
 simp only [Ax]
 refine rg [0] hs ?_
 obtain ⟨j,hy3,h⟩:=bind_some h
 refine rc 2 [2] hs ?_;intro K2 b
 refine Av _ (Gh w0 n _ _ _ a0 307 [] (fun (x0:Part)=>some (Jw x0)) (fun x0 r hx i rows' c g=>by cases hx;exact VI w0 _ _ _ x0) _ hy3) (hv hs) ?_
 refine ne hs b ?_
 clear b
 exact rt h hs a e
def LZ (b:Part):Option ByteArray :=
 if decide (b.kind=1) then
  if ((⟨#[46]⟩:ByteArray)).size+b.name.size<=9223372036854775807 then
   some (((⟨#[46]⟩:ByteArray))++b.name)
  else none
 else
  AM
theorem Vh (w0:World) (B:Ao) (Rw:Ap) (L:Aq) (a0:Part) (r:ByteArray) (h:LZ a0=some r) :
  ACalls Tryz.prog w0 332 [.agg (Ak a0.kind::(Ak a0.index::([.val (.string a0.name)])))] ⟨B,Rw,L⟩ fun x st=>x = .val (.string r)/\st=⟨B,Rw,L⟩:=by
 rw [LZ] at h
 refine hd [.tmp 2] Tryz.func332 Tryz.ntmps332 fun M0 W0 j e g a i f hs=>?_
 simp only [Ax]
 refine rg [1] hs ?_
 apply Am;intro K2 d
 refine rg [1,4] hs ?_
 apply Ar
 refine rg [1,4,5] hs ?_
 refine B6 h hs ?_ ?_<;>intro hs h
 ·obtain ⟨c,h⟩:=Au h
  have b:=c
  try simp +decide only [go_sem] at b
  refine rg [2] hs ?_
  exact rt h hs a f
 exact nS h
def P6 (n:Nat)  (b:Int):Option Int :=
 if decide (200<b) then
  AM
 else
  some (0)
def Lr (n:Nat) (y:List Part):Nat->Int->Int->Option Int
 | 0,_,_=>none
 | m+1,g,b =>
  if decide (b<(y.length:Int)) then
   (Dw y b).bind fun h =>
   (IF h).bind fun y21 =>
   if !y21 then
    AM
   else
    (LZ h).bind fun q =>
    if BN (g+(q.size:Int)) then
     if BN (b+1) then
      (Lr n y m) (g+(q.size:Int)) (b+1)
     else none
    else none
  else
   P6 n g
def SA (n:Nat) (b:List Part):Option Int :=
 if (decide ((b.length:Int)<1))||(decide (16<(b.length:Int))) then
  AM
 else
  (Dw b 0).bind fun g =>
  if !(decide (g.kind=1)) then
   AM
  else
   Lr n b n ((-1)) 0
theorem ZS (w0:World) (n:Nat) (B:Ao) (Rw:Ap) (L:Aq) (a0:List Part) (r:Int) (h:SA n a0=some r) :
  ACalls Tryz.prog w0 304 [.list (a0.map DI) .none] ⟨B,Rw,L⟩ fun x st=>x=Ak r/\st=⟨B,Rw,L⟩:=by
 rw [SA] at h
 refine hd [.tmp 2] Tryz.func304 Tryz.ntmps304 fun M0 W0 u l o f y q hs=>?_
 simp only [Ax]
 refine rg [0] hs ?_
 apply Am;intro K2 p
 apply Am;intro K3 j
 rcases Bool.eq_false_or_eq_true ((decide ((a0.length:Int)<1))||(decide (16<(a0.length:Int)))) with hf4 | hf4
 ·replace h:=Cj h hf4
  exact nS h
 ·replace h:=Cm h hf4
  obtain ⟨w,t,v,g,h⟩:=ix DI h
  have i:(a0.map DI).getD 0 .junk=_:=g
  have hs:=Ad hf4 hs
  have hs:=Ad g hs
  have hs:=Ad i hs
  refine rl [0,20] hs j ?_
  clear j
  refine B6 h hs ?_ ?_<;>intro hs h
  ·exact nS h
  refine sk [0] hs p ?_
  clear p
  refine rg [0,3] hs ?_
  refine AD (fun e st=>∃ (d:Int),Ck e st B Rw L [(3,true,Ak d)] [] [] (P6 n d=some r)) ?_ ?_
  ·intro K10 k
   refine rg [3,21,22,23] hs ?_
   apply Ar
   refine AA (fun m e st=>∃ (c:Int) (b:Int),Ck e st B Rw L [(3,true,Ak c),(21,true,.list (a0.map DI) .none),(22,true,Ak (a0.length:Int)),(23,true,Ak b)] [] [] (Lr n a0 m c b=some r)) n ⟨((-1)),0,([]),Rw,ef hs,ef hs,q,h⟩ ?_
   rintro ml12 e st ⟨c,b,Xl12,Rl12,rfl,rfl,q,h⟩ Ul12 Vl12
   cases ml12 with
   | zero=>cases h
   | succ ml12 =>
   rw [Lr] at h
   exact go (tg (a:=([3,21,22,23,24],([3,21,22,23],[3,5,21,22,23],[3,5,21,22,23,29],((),()),[3,5,21,22,23],[3,21,22,23],[3,21,22,23],()),[3],()))) h hs u l o f q (q2 (NQ w0) (Vh w0)) (q2 k (fun e s=>Vl12 ml12 e s (Nat.lt_succ_self _)))
  ·clear h;rintro e st ⟨d,Xk9,Rk9,rfl,rfl,q,h⟩
   rw [P6] at h
   exact go (tg (a:=([37],((),()),[],[2],()))) h hs u l o f q trivial trivial
def Ja (b:Part) (g:Vl):Option Bool :=
 if decide (b.kind=1) then
  some (decide (g.kind=9))
 else
  AM
theorem Q7 (w0:World) (B:Ao) (Rw:Ap) (L:Aq) (a0:Part) (a1:Vl) (r:Bool) (h:Ja a0 a1=some r) :
  ACalls Tryz.prog w0 305 [.agg (Ak a0.kind::(Ak a0.index::([.val (.string a0.name)]))),.agg (a1.cs)] ⟨B,Rw,L⟩ fun x st=>x = .val (.bool r)/\st=⟨B,Rw,L⟩:=by
 rw [Ja] at h
 refine hd [.tmp 4] Tryz.func305 Tryz.ntmps305 fun M0 W0 f c d b g e hs=>?_
 simp only [Ax]
 exact go (tg (a:=([2,3],[3,6],[3,6,7],([4],()),((),())))) h hs f c d b e trivial trivial
def Jv (b:ByteArray × Vl) (g:ByteArray):Bool :=
 MY b.1 g
theorem WO (w0:World) (B:Ao) (Rw:Ap) (L:Aq) (a0:ByteArray × Vl) (la1:Nat) (a1:ByteArray) (hla1:B[la1]? = some ([.val (.string a1)])) (r:Bool) (h:Jv a0 a1=r) :
  ACalls Tryz.prog w0 348 [.agg (.val (.string a0.1)::(a0.2.cs)),.box la1 0] ⟨B,Rw,L⟩ fun x st=>x = .val (.bool r)/\st=⟨B,Rw,L⟩:=by
 rw [Jv] at h
 refine hd [.tmp 3] Tryz.func348 Tryz.ntmps348 fun M0 W0 g c e a f d hs=>?_
 simp only [Ax]
 have b:=(Aj.1 hla1).1
 have hs:=Ad (AH hla1) hs
 refine rg [1,2] hs ?_
 refine rg [3] hs ?_
 exact rT h hs a d
theorem VD (w0:World) (B:Ao) (Rw:Ap) (L:Aq) (a0:ByteArray × Vl) (la1:Nat) (a1:ByteArray) (hla1:B[la1]? = some ([.val (.string a1)])) :
  ACalls Tryz.prog w0 348 [.agg (.val (.string a0.1)::(a0.2.cs)),.box la1 0] ⟨B,Rw,L⟩ fun x st=>x = .val (.bool (Jv a0 a1))/\st=⟨B,Rw,L⟩:=WO w0 B Rw L a0 la1 a1 hla1 _ rfl
def G0 (n:Nat)  : Option Int :=
 some ((-1))
def EW (n:Nat) (g:List (ByteArray × Vl)) (y:(ByteArray × Vl)->Option Bool):Nat->Int->Option Int
 | 0,_=>none
 | m+1,b =>
  if decide (b<(g.length:Int)) then
   (Dw g b).bind fun h =>
   (y h).bind fun q =>
   if q then
    some (b)
   else
    if BN (b+1) then
     (EW n g y m) (b+1)
    else none
  else
   G0 n 
def Ek (n:Nat) (b:List (ByteArray × Vl)) (g:(ByteArray × Vl)->Option Bool):Option Int :=
 EW n b g n 0
theorem GZ (w0:World) (n:Nat) (B:Ao) (Rw:Ap) (L:Aq) (a0:List (ByteArray × Vl)) (fa1:FuncId) (ca1:List AV) (a1:(ByteArray × Vl)->Option Bool) (ha1:∀ (x0:ByteArray × Vl) r,a1 x0=some r->∀ B' rows,B <+: B'->Rw <+: rows->ACalls Tryz.prog w0 fa1 ([.agg (.val (.string x0.1)::(x0.2.cs))]++ca1) ⟨B',rows,L⟩ fun v s=>v = .val (.bool r)/\s=⟨B',rows,L⟩) (r:Int) (h:Ek n a0 a1=some r) :
  ACalls Tryz.prog w0 146 [.list (a0.map Di) .none,.clo fa1 ca1] ⟨B,Rw,L⟩ fun x st=>x=Ak r/\st=⟨B,Rw,L⟩:=by
 rw [Ek] at h
 refine hd [.tmp 4] Tryz.func146 Tryz.ntmps146 fun M0 W0 j g i b l f hs=>?_
 simp only [Ax]
 have c:=Cc (l (.clo fa1 ca1) (by simp))
 refine rg [0,1] hs ?_
 refine AD (fun e st=>Ck e st B Rw L [] [] [] (G0 n  = some r)) ?_ ?_
 ·intro K4 k
  refine rg [0,1,7,8] hs ?_
  apply Ar
  refine AA (fun m e st=>∃ (d:Int),Ck e st B Rw L [(0,true,.list (a0.map Di) .none),(1,true,.clo fa1 ca1),(7,true,Ak (a0.length:Int)),(8,true,Ak d)] [] [] (EW n a0 a1 m d=some r)) n ⟨0,([]),Rw,ef hs,ef hs,f,h⟩ ?_
  rintro ml6 e st ⟨d,Xl6,Rl6,rfl,rfl,f,h⟩ Ul6 Vl6
  cases ml6 with
  | zero=>cases h
  | succ ml6 =>
  rw [EW] at h
  refine AO j g i rfl b f (H8 c f) (H8 c f) ?_
  exact go (tg (a:=([0,1,7,8,9],([0,1,7,8],[0,1,5,7,8],[0,1,5,7,8,16],([4],()),[0,1,7,8],[0,1,7,8],()),[],()))) h hs j g i b f (q1 ha1) (q2 k (fun e s=>Vl6 ml6 e s (Nat.lt_succ_self _)))
 ·clear h;rintro e st ⟨Xk3,Rk3,rfl,rfl,f,h⟩
  rw [G0] at h
  refine AO j g i rfl b f (H8 c f) (H8 c f) ?_
  refine rg [4] hs ?_
  exact rt h hs b f
def RZ (n:Nat) (g:Vl) (b:ByteArray):Option Int :=
 (Ek n g.fields (fun (h:ByteArray × Vl)=>some (Jv h b))).bind fun q =>
 some (q)
theorem Z9 (w0:World) (n:Nat) (B:Ao) (Rw:Ap) (L:Aq) (a0:Vl) (a1:ByteArray) (r:Int) (h:RZ n a0 a1=some r) :
  ACalls Tryz.prog w0 333 [.agg (a0.cs),.val (.string a1)] ⟨B,Rw,L⟩ fun x st=>x=Ak r/\st=⟨B,Rw,L⟩:=by
 rw [RZ] at h
 refine hd [.tmp 4] Tryz.func333 Tryz.ntmps333 fun M0 W0 k c e a j d hs=>?_
 simp only [Ax]
 refine rg [2,3] hs ?_
 obtain ⟨i,hy3,h⟩:=bind_some h
 refine rc 2 [4] hs ?_;intro K2 b
 refine Av _ (GZ w0 n _ _ _ a0.fields 348 [.box (B.length+1) 0] (fun (x0:ByteArray × Vl)=>some (Jv x0 a1)) (fun x0 r hx g rows' hB' f=>by cases hx;exact VD w0 _ _ _ x0 _ a1 (I6 hB' ev)) _ hy3) (hv hs) ?_
 refine ne hs b ?_
 clear b
 exact rt h hs a d
def LR (n:Nat) (h:Part) (g:Vl):Option ((List Vl)) :=
 if decide (h.kind=1) then
  (RZ n g h.name).bind fun q =>
  if decide (0<=q) then
   (Dw g.fields q).bind fun b =>
   some ([b.2])
  else
   AM
 else
  AM
theorem Vt (w0:World) (n:Nat) (B:Ao) (Rw:Ap) (L:Aq) (a0:Part) (a1:Vl) (r:(List Vl)) (h:LR n a0 a1=some r) :
  ACalls Tryz.prog w0 306 [.agg (Ak a0.kind::(Ak a0.index::([.val (.string a0.name)]))),.agg (a1.cs)] ⟨B,Rw,L⟩ fun x st=>x = .list (r.map En) .none/\st=⟨B,Rw,L⟩:=by
 rw [LR] at h
 refine hd [.tmp 4] Tryz.func306 Tryz.ntmps306 fun M0 W0 f c d b g e hs=>?_
 simp only [Ax]
 exact go (tg (a:=([2,3],[2,3,6],([3,5],[3,5,15],([4],()),((),())),((),())))) h hs f c d b e (q1 (Z9 w0 n)) trivial
def Qh (n:Nat) (g:(List Vl)->Int->Option ((List Vl) × Int)) (b:Int) (h:List Vl):Option ((List Vl) × Int) :=
 if BN (b+1) then
  g h (b+1)
 else none
def Qr (n:Nat)  (b:List Vl):Option ((List Vl) × Int) :=
 some ((b,0))
def P0 (n:Nat) (b:(List Vl)->Int->Option ((List Vl) × Int)) (g:Int) (h:List Vl):Option ((List Vl) × Int) :=
 Qh n b g h
def M9 (n:Nat) (q:List Vl):Nat->(List Vl)->(List Vl)->Int->Option ((List Vl) × Int)
 | 0,_,_,_=>none
 | m+1,g,h,b =>
  if decide (b<(q.length:Int)) then
   (Dw h b).bind fun x59 =>
   (B8 n x59).bind fun y =>
   if (g.length+1)*88<=140737488355328/\g.length+1<=4611686018427387904 then
    if BN (b+1) then
     (M9 n q m) (g++([y])) h (b+1)
    else none
   else none
  else
   Qr n g
def Nw (n:Nat) (h:(List Vl)->Int->Option ((List Vl) × Int)) (x7_l12:List Vl) (q:Int) (x20:Part):Nat->(List Vl)->(List Vl)->Int->Option ((List Vl) × Int)
 | 0,_,_,_=>none
 | m+1,g,y,b =>
  if decide (b<(x7_l12.length:Int)) then
   (Dw y b).bind fun x32 =>
   (Ja x20 x32).bind fun y35 =>
   if !y35 then
    AM
   else
    (LR n x20 x32).bind fun y37 =>
    if (g.length+y37.length)*88<=140737488355328/\g.length+y37.length<=4611686018427387904 then
     if BN (b+1) then
      (Nw n h x7_l12 q x20 m) (g++y37) y (b+1)
     else none
    else none
  else
   P0 n h q g
def Ss (n:Nat)  (b:List Vl):Option ((List Vl) × Int) :=
 if decide ((b.length:Int)=0) then
  AM
 else
  M9 n b n ([]) b 0
def Ik (n:Nat) (q:List Part):Nat->(List Vl)->Int->Option ((List Vl) × Int)
 | 0,_,_=>none
 | m+1,g,b =>
  if decide (b<(q.length:Int)) then
   (Dw q b).bind fun h =>
   Nw n (Ik n q m) g b h n ([]) g 0
  else
   Ss n g
def Us (n:Nat) (g:Vl) (b:List Part):Option ((List Vl) × Int) :=
 (SA n b).bind fun h =>
 if !(decide (h=0)) then
  AM
 else
  Ik n b n ([g]) 0
theorem Zbp (w0:World) (n:Nat) (B:Ao) (Rw:Ap) (L:Aq) (a0:Vl) (a1:List Part) (r:(List Vl) × Int) (h:Us n a0 a1=some r) :
  ACalls Tryz.prog w0 269 [.agg (a0.cs),.list (a1.map DI) .none] ⟨B,Rw,L⟩ fun x st=>x = .tup [.list (r.1.map En) .none,Ak r.2]/\st=⟨B,Rw,L⟩:=by
 rw [Us] at h
 refine hd [.tmp 4,.tmp 5] Tryz.func269 Tryz.ntmps269 fun M0 W0 hN Q U u hu v hs=>?_
 simp only [Ax]
 refine rg [1,2] hs ?_
 apply Am;intro K2 a3
 obtain ⟨y4,bo,h⟩:=bind_some h
 refine rc 2 [1,2,6] hs ?_;intro K3 ba
 refine Av _ (ZS w0 n _ _ _ a1 _ bo) (hv hs) ?_
 refine ne hs ba ?_
 clear ba
 refine rg [1,2,6,19] hs ?_
 refine B6 h hs ?_ ?_<;>intro hs h
 ·exact nS h
 refine sk [1,2] hs a3 ?_
 clear a3
 refine rg [1,7] hs ?_
 refine AD (fun e st=>∃ (t:List Vl) (K:Ev.Own),Ck e st B Rw L [(1,true,.list (a1.map DI) .none),(7,true,.list (t.map En) K)] [a0.cs] [(6,t.length,K)] (Ss n t=some r)) ?_ ?_
 ·intro K10 bb
  refine rg [1,7,23,24,25] hs ?_
  apply Ar
  refine AA (fun m e st=>∃ (g:List Vl) (b:Int) (q:Ev.Own),Ck e st B Rw L [(1,true,.list (a1.map DI) .none),(7,true,.list (g.map En) q),(23,true,.list (a1.map DI) .none),(24,true,Ak (a1.length:Int)),(25,true,Ak b)] [a0.cs] [(6,g.length,q)] (Ik n a1 m g b=some r)) n ⟨([a0]),0,.full,([]),Rw,ef hs,ef hs,Owns.of_eq ((v).full 6 (([a0]).length)) Fh,h⟩ ?_
  rintro ml12 e st ⟨g,b,q,Xl12,Rl12,rfl,rfl,v,h⟩ Ul12 Vl12
  cases ml12 with
  | zero=>cases h
  | succ ml12 =>
  rw [Ik] at h
  have Z:=v.unders
  simp only [List.mem_cons,List.not_mem_nil,or_false,forall_eq_or_imp,forall_eq] at Z
  refine td hN Q U u v ?_
  refine rg [1,7,23,24,25,26] hs ?_
  apply Am;intro K14 af
  refine B6 h hs ?_ ?_<;>intro hs h
  rotate_left
  ·refine sx [1,7] hs bb ?_
   exact ⟨g,q,([]),Rl12,ef hs,ef hs,Owns.of_eq (v) Fh,h⟩
  refine sk [1,7,23,24,25] hs af ?_
  clear af
  refine AD (fun e st=>∃ (J:List Vl) (N:Ev.Own),Ck e st B Rw L [(1,true,.list (a1.map DI) .none),(7,true,.list (J.map En) N),(23,true,.list (a1.map DI) .none),(24,true,Ak (a1.length:Int)),(25,true,Ak b)] [a0.cs] [(6,J.length,N)] (Qh n (Ik n a1 ml12) b J=some r)) ?_ ?_
  ·intro K18 a2
   apply Ar
   obtain ⟨O,a8,h⟩:=bind_some h
   obtain ⟨bi,bl,aw⟩:=Bo a8
   have ap:=Bz (f:=DI) aw
   have hs:=Ad ap hs
   refine rg [1,7,9,23,24,25] hs ?_
   refine rg [1,7,9,10,23,24,25] hs ?_
   refine AD (fun e st=>∃ (z:List Vl) (G:Ev.Own),Ck e st B Rw L [(1,true,.list (a1.map DI) .none),(10,true,.list (z.map En) G),(23,true,.list (a1.map DI) .none),(24,true,Ak (a1.length:Int)),(25,true,Ak b)] [a0.cs,Ak O.kind::(Ak O.index::([.val (.string O.name)]))] [(6,z.length,G)] (P0 n (Ik n a1 ml12) b z=some r)) ?_ ?_
   ·intro K24 a7
    refine rg [1,9,10,23,24,25,29,30,31] hs ?_
    apply Ar
    refine AA (fun m e st=>∃ (c:List Vl) (p:List Vl) (C:Int) (i:Ev.Own) (o:Ev.Own),Ck e st B Rw L [(1,true,.list (a1.map DI) .none),(9,true,.box (B.length+1) 0),(10,true,.list (c.map En) i),(23,true,.list (a1.map DI) .none),(24,true,Ak (a1.length:Int)),(25,true,Ak b),(29,true,.list (p.map En) o),(30,true,Ak (g.length:Int)),(31,true,Ak C)] [a0.cs,Ak O.kind::(Ak O.index::([.val (.string O.name)]))] [(6,c.length,i),(6,p.length,o)] (Nw n (Ik n a1 ml12) g b O m c p C=some r)) n ⟨([]),g,0,.full,q,([]),Rl12,ef hs,ef hs,Owns.of_eq ((v).full 6 0) Fh,h⟩ ?_
    rintro ml26 e st ⟨c,p,C,i,o,Xl26,Rl26,rfl,rfl,v,h⟩ Ul26 Vl26
    cases ml26 with
    | zero=>cases h
    | succ ml26 =>
    rw [Nw] at h
    have Z:=v.unders
    simp only [List.mem_cons,List.not_mem_nil,or_false,forall_eq_or_imp,forall_eq] at Z
    obtain ⟨bf,be⟩:=Z
    refine td hN Q U u v ?_
    refine rg [1,9,10,23,24,25,29,30,31,32] hs ?_
    apply Am;intro K28 ah
    refine B6 h hs ?_ ?_<;>intro hs h
    rotate_left
    ·refine sx [1,10,23,24,25] hs a7 ?_
     exact ⟨c,i,([]),Rl26,ef hs,ef hs,Owns.of_eq ((v).sub (List.sublist_append_left [(6,c.length,i)] [(6,p.length,o)])) Fh,h⟩
    refine sk [1,9,10,23,24,25,29,30,31] hs ah ?_
    clear ah
    apply Am;intro K30 ag
    apply Ar
    obtain ⟨ao,a5,h⟩:=bind_some h
    obtain ⟨bd,bn,ax⟩:=Bo a5
    have aq:=Bz (f:=En) ax
    have hs:=Ad aq hs
    refine rg [1,9,10,12,23,24,25,29,30,31] hs ?_
    apply Am;intro K33 ak
    obtain ⟨br,a6,h⟩:=bind_some h
    refine rc 2 [1,9,10,12,23,24,25,29,30,31,38] hs ?_;intro K34 aj
    refine Av _ (Q7 w0 _ _ _ O ao _ a6) (hv hs) ?_
    refine ne hs aj ?_
    clear aj
    refine B6 h hs ?_ ?_<;>intro hs h
    ·exact nS h
    refine sk [1,9,10,12,23,24,25,29,30,31] hs ak ?_
    clear ak
    obtain ⟨ar,az,h⟩:=bind_some h
    obtain ⟨aa,h⟩:=Au h
    obtain ⟨bj,Y,v,E⟩:=v.append (P:=Tryz.prog) P7 (by rw [KJ];rfl) (by decide) ar.length aa.1 aa.2
    replace E:=fun (ys:List AV) B L o2=>E (c.map En) ys B L o2 Fh
    replace E:=fun B L o2=>E (ar.map En) B L o2 Fh ev
    try simp only [List.mem_singleton,List.mem_cons,List.not_mem_nil,or_false,forall_eq_or_imp,forall_eq,List.map_append,List.map_cons,List.map_nil,Fe,E6,E9,E8,Fb,EP,D2,D4,E3,CJ,CL,D1,DX,DZ,Fa,DW,E5] at E
    have hs:=Ad E hs
    refine rk 2 [1,9,10,23,24,25,29,30,31] hs ?_
    refine Av _ (Vt w0 n _ _ _ O ao _ az) (hv hs) ?_
    refine ne hs ag ?_
    clear ag
    obtain ⟨bq,h⟩:=Au h
    refine rl [1,9,10,23,24,25,29,30,31] hs (fun e s=>Vl26 ml26 e s (Nat.lt_succ_self _)) ?_
    exact ⟨(c++ar),p,(C+1),bj,o,([ao.cs]),Y,ef hs,ef hs,Owns.of_eq (((v).swap (List.Perm.swap _ _ _)).swap (List.Perm.swap _ _ _)) Fh,h⟩
   ·clear h;rintro e st ⟨z,G,Xk23,Rk23,rfl,rfl,v,h⟩
    rw [P0] at h
    exact go (tg (a:=([1,7,23,24,25],()))) h hs hN Q U u v trivial (q1 a2)
  ·clear h;rintro e st ⟨J,N,Xk17,Rk17,rfl,rfl,v,h⟩
   rw [Qh] at h
   exact go (tg (a:=([1,7,23,24,25],()))) h hs hN Q U u v trivial (q1 (fun e s=>Vl12 ml12 e s (Nat.lt_succ_self _)))
 ·clear h;rintro e st ⟨t,K,Xk9,Rk9,rfl,rfl,v,h⟩
  rw [Ss] at h
  have Z:=v.unders
  simp only [List.mem_cons,List.not_mem_nil,or_false,forall_eq_or_imp,forall_eq] at Z
  refine td hN Q U u v ?_
  apply Am;intro K44 ai
  apply Am;intro K45 ae
  rcases Bool.eq_false_or_eq_true (decide ((t.length:Int)=0)) with hf46 | hf46
  ·replace h:=Cj h hf46
   exact nS h
  ·replace h:=Cm h hf46
   have hs:=Ad hf46 hs
   refine rk 2 [7,54] hs ?_
   refine La ?_
   refine ne hs ae ?_
   clear ae
   refine A7 false ev (ef hs) (fun hb47=>by cases hb47) (fun hb47=>?_)
   refine sk [7] hs ai ?_
   clear ai
   refine rg [7,13] hs ?_
   refine AD (fun e st=>∃ (w:List Vl) (F:Ev.Own),Ck e st B Rw L [(13,true,.list (w.map En) F)] [a0.cs] [(6,w.length,F)] (Qr n w=some r)) ?_ ?_
   ·intro K51 ay
    refine rg [13,55,56,57] hs ?_
    apply Ar
    refine AA (fun m e st=>∃ (d:List Vl) (k:List Vl) (D:Int) (j:Ev.Own) (l:Ev.Own),Ck e st B Rw L [(13,true,.list (d.map En) j),(55,true,.list (k.map En) l),(56,true,Ak (t.length:Int)),(57,true,Ak D)] [a0.cs] [(6,d.length,j),(6,k.length,l)] (M9 n t m d k D=some r)) n ⟨([]),t,0,.full,K,([]),Rk9,ef hs,ef hs,Owns.of_eq ((v).full 6 0) Fh,h⟩ ?_
    rintro ml53 e st ⟨d,k,D,j,l,Xl53,Rl53,rfl,rfl,v,h⟩ Ul53 Vl53
    cases ml53 with
    | zero=>cases h
    | succ ml53 =>
    rw [M9] at h
    have Z:=v.unders
    simp only [List.mem_cons,List.not_mem_nil,or_false,forall_eq_or_imp,forall_eq] at Z
    obtain ⟨bf,be⟩:=Z
    refine td hN Q U u v ?_
    refine rg [13,55,56,57,58] hs ?_
    apply Am;intro K55 ad
    refine B6 h hs ?_ ?_<;>intro hs h
    rotate_left
    ·refine sx [13] hs ay ?_
     exact ⟨d,j,([]),Rl53,ef hs,ef hs,Owns.of_eq ((v).sub (List.sublist_append_left [(6,d.length,j)] [(6,k.length,l)])) Fh,h⟩
    refine sk [13,55,56,57] hs ad ?_
    clear ad
    apply Am;intro K57 am
    apply Ar
    obtain ⟨bc,a4,h⟩:=bind_some h
    obtain ⟨bh,bm,au⟩:=Bo a4
    have av:=Bz (f:=En) au
    have hs:=Ad av hs
    refine rg [13,15,55,56,57] hs ?_
    obtain ⟨bg,a9,h⟩:=bind_some h
    obtain ⟨ab,h⟩:=Au h
    obtain ⟨bk,V,v,H⟩:=v.append (P:=Tryz.prog) P7 (by rw [KJ];rfl) (by decide) 1 ab.1 ab.2
    replace H:=fun (ys:List AV) B L o2=>H (d.map En) ys B L o2 Fh
    replace H:=fun (y:AV) B L o2=>H [y] B L o2 Fh ev
    try simp only [List.mem_singleton,List.mem_cons,List.not_mem_nil,or_false,forall_eq_or_imp,forall_eq,List.map_append,List.map_cons,List.map_nil,Fe,E6,E9,E8,Fb,EP,D2,D4,E3,CJ,CL,D1,DX,DZ,Fa,DW,E5] at H
    have hs:=Ad H hs
    refine rk 2 [13,55,56,57] hs ?_
    refine Av _ (CZ w0 n _ _ _ bc _ a9) (hv hs) ?_
    refine ne hs am ?_
    clear am
    obtain ⟨bp,h⟩:=Au h
    refine rl [13,55,56,57] hs (fun e s=>Vl53 ml53 e s (Nat.lt_succ_self _)) ?_
    exact ⟨(d++([bg])),k,(D+1),bk,l,([bc.cs]),V,ef hs,ef hs,Owns.of_eq (((v).swap (List.Perm.swap _ _ _)).swap (List.Perm.swap _ _ _)) Fh,h⟩
   ·clear h;rintro e st ⟨w,F,Xk50,Rk50,rfl,rfl,v,h⟩
    rw [Qr] at h
    exact go (tg (a:=([4,5],()))) h hs hN Q U u v trivial trivial
def Xe (n:Nat) (q:Vl) (h:List Part):Option (Vl × Int) :=
 (Us n q h).bind fun g =>
 if !(decide (g.2=0)) then
  AM
 else
  (Sv n h).bind fun y =>
  if y then
   AM
  else
   (Dw g.1 0).bind fun b =>
   some ((b,0))
theorem Zeg (w0:World) (n:Nat) (B:Ao) (Rw:Ap) (L:Aq) (a0:Vl) (a1:List Part) (r:Vl × Int) (h:Xe n a0 a1=some r) :
  ACalls Tryz.prog w0 224 [.agg (a0.cs),.list (a1.map DI) .none] ⟨B,Rw,L⟩ fun x st=>x = .tup [.agg (r.1.cs),Ak r.2]/\st=⟨B,Rw,L⟩:=by
 rw [Xe] at h
 refine hd [.cell 4 49,.tmp 5] Tryz.func224 Tryz.ntmps224 fun M0 W0 f c d b g e hs=>?_
 simp only [Ax]
 exact go (tg (a:=([1,2,4],[1,4,6,7],[1,4,6,7,14],((),()),[4,6,19],((),()),[4,6],[4,5],()))) h hs f c d b e (q2 (Zbp w0 n) (ZU w0 n)) trivial
def FH (n:Nat) (h:Vl × Int) (q:Ex):Option Vl :=
 if q.op=2 then
  if !(decide (h.2=0)) then
   AM
  else
   (Kx n q.text).bind fun g =>
   (Xe n h.1 g.1).bind fun b =>
   if (!(decide (b.2=0)))&&(!(decide (b.2=19))) then
    AM
   else
    some (b.1)
 else none
theorem I1 (w0:World) (n:Nat) (B:Ao) (Rw:Ap) (L:Aq) (la0:Nat) (a0:Vl × Int) (hla0:B[la0]? = some ((a0.1.cs)++([Ak a0.2]))) (a1:Ex) (r:Vl) (h:FH n a0 a1=some r) :
  ACalls Tryz.prog w0 177 [.box la0 0,.agg (a1.cs)] ⟨B,Rw,L⟩ fun x st=>x = .agg (r.cs)/\st=⟨B,Rw,L⟩:=by
 rw [FH] at h
 refine hd [.cell 4 49] Tryz.func177 Tryz.ntmps177 fun M0 W0 l i j b m k hs=>?_
 simp only [Ax]
 have e:=(Aj.1 hla0).1
 obtain ⟨f,h⟩:=Au h
 have hs:=Ad (AH hla0) hs
 have hs:=Ad f hs
 refine rg [0,3,4] hs ?_
 apply Am;intro K3 d
 refine rg [0,3,4,33] hs ?_
 refine B6 h hs ?_ ?_<;>intro hs h
 ·exact nS h
 refine sk [0,3,4] hs d ?_
 clear d
 apply Am;intro K6 g
 have c:PH Rx a1.op=(.val .nilFunc,false):=Zce (by omega)
 have hs:=Ad c hs
 exact go (tg (a:=([9,0,3,4,5,6],[0,3,4,5,42],[0,3,4],[0,3,4,63],[0,3,4,63,64],[0,3,4,63,71],[0,3,4,63,71],[0,3,4,9],[0,3,4,11,12],[0,3,4,11,12,94],((),()),[3,4,11,12],[4,11,12,100],[4,11],[4],()))) h hs l i j b k (q3 (QZ w0) (Nx w0 n) (Zeg w0 n)) (q1 g)
def ES (b:Vl):Bool :=
 (((((decide (b.kind=0))&&(decide (b.int=0)))&&(decide (b.scale=0)))&&(MY b.text (⟨#[]⟩:ByteArray)))&&(decide ((b.list.length:Int)=0)))&&(decide ((b.fields.length:Int)=0))
theorem Yt (w0:World) (B:Ao) (Rw:Ap) (L:Aq) (a0:Vl) (r:Bool) (h:ES a0=r) :
  ACalls Tryz.prog w0 85 [.agg (a0.cs)] ⟨B,Rw,L⟩ fun x st=>x = .val (.bool r)/\st=⟨B,Rw,L⟩:=by
 rw [ES] at h
 refine hd [.tmp 2] Tryz.func85 Tryz.ntmps85 fun M0 W0 f b d a e c hs=>?_
 simp only [Ax]
 refine rg [1] hs ?_
 refine rg [2] hs ?_
 exact rT h hs a c
theorem Gw (w0:World) (B:Ao) (Rw:Ap) (L:Aq) (a0:Vl) :
  ACalls Tryz.prog w0 85 [.agg (a0.cs)] ⟨B,Rw,L⟩ fun x st=>x = .val (.bool (ES a0))/\st=⟨B,Rw,L⟩:=Yt w0 B Rw L a0 _ rfl
def FB (n:Nat) (b:Vl × Int) (h:Ex):Option Vl :=
 (FH n b h).bind fun g =>
 if (decide (b.2=0))&&(ES g) then
  AM
 else
  some (g)
theorem Of (w0:World) (n:Nat) (B:Ao) (Rw:Ap) (L:Aq) (la0:Nat) (a0:Vl × Int) (hla0:B[la0]? = some ((a0.1.cs)++([Ak a0.2]))) (a1:Ex) (r:Vl) (h:FB n a0 a1=some r) :
  ACalls Tryz.prog w0 221 [.box la0 0,.agg (a1.cs)] ⟨B,Rw,L⟩ fun x st=>x = .agg (r.cs)/\st=⟨B,Rw,L⟩:=by
 rw [FB] at h
 refine hd [.cell 4 49] Tryz.func221 Tryz.ntmps221 fun M0 W0 k g i b o m hs=>?_
 simp only [Ax]
 have d:=(Aj.1 hla0).1
 have hs:=Ad (AH hla0) hs
 refine rg [0,3,4] hs ?_
 obtain ⟨l,e,h⟩:=bind_some h
 refine rc 2 [0,4,5] hs ?_;intro K2 c
 refine Av _ (I1 w0 n _ _ _ la0 a0 (ef hs) a1 _ e) (hv hs) ?_
 refine ne hs c ?_
 clear c
 apply Am;intro K4 j
 refine rc 2 [0,4,5,17] hs ?_;intro K5 f
 refine Jl _ (fun _=>Gw w0 _ _ _ l) (hv hs) ?_
 exact go (tg (a:=(((),()),[4,5],[4],()))) h hs k g i b m trivial (q2 f j)
def Hk (n:Nat) (b:Vl × Int) (g:Ex):Option Vl :=
 if g.op=12 then
  if !(decide (b.2=0)) then
   AM
  else
   (Dw g.args 0).bind fun h =>
   (FB n b h).bind fun y39 =>
   (Dw g.args 1).bind fun y =>
   (FB n b y).bind fun q =>
   (Ff n b g y39 q).bind fun y44 =>
   some (y44)
 else none
theorem N7 (w0:World) (n:Nat) (B:Ao) (Rw:Ap) (L:Aq) (la0:Nat) (a0:Vl × Int) (hla0:B[la0]? = some ((a0.1.cs)++([Ak a0.2]))) (a1:Ex) (r:Vl) (h:Hk n a0 a1=some r) :
  ACalls Tryz.prog w0 177 [.box la0 0,.agg (a1.cs)] ⟨B,Rw,L⟩ fun x st=>x = .agg (r.cs)/\st=⟨B,Rw,L⟩:=by
 rw [Hk] at h
 refine hd [.cell 4 49] Tryz.func177 Tryz.ntmps177 fun M0 W0 l i j b m k hs=>?_
 simp only [Ax]
 have e:=(Aj.1 hla0).1
 obtain ⟨f,h⟩:=Au h
 have hs:=Ad (AH hla0) hs
 have hs:=Ad f hs
 refine rg [0,3,4] hs ?_
 apply Am;intro K3 d
 refine rg [0,3,4,33] hs ?_
 refine B6 h hs ?_ ?_<;>intro hs h
 ·exact nS h
 refine sk [0,3,4] hs d ?_
 clear d
 apply Am;intro K6 g
 have c:PH Rx a1.op=(.val .nilFunc,false):=Zce (by omega)
 have hs:=Ad c hs
 exact go (tg (a:=([9,0,3,4,5,6],[0,3,4,5,42],[0,3,4],[0,3,4,63],[0,3,4,63,64],[0,3,4,63,71],[0,3,4,63,71],[0,3,4,63,105],[0,3,4,63,110],[0,3,4,63,120],[0,3,4,63,137],[0,3,4,63,154],[0,3,4,63,154],[0,3,4,63,178],[0,3,4,63,220],[0,3,4,63,220],[0,3,4,21],[0,3,4,21,22],[4],()))) h hs l i j b k (q3 (QZ w0) (Of w0 n) (KC w0 n)) (q1 g)
def M7 (n:Nat) (h:Ex) (q:Vl):Option (Vl × Int) :=
 (J8 n h).bind fun y =>
 if !(decide (y=0)) then
  AM
 else
  if !(decide (q.kind=9)) then
   AM
  else
   (Hk n ((q,0)) h).bind fun g =>
   (B8 n g).bind fun b =>
   some ((b,0))
theorem VH (w0:World) (n:Nat) (B:Ao) (Rw:Ap) (L:Aq) (a0:Ex) (a1:Vl) (r:Vl × Int) (h:M7 n a0 a1=some r) :
  ACalls Tryz.prog w0 129 [.agg (a0.cs),.agg (a1.cs)] ⟨B,Rw,L⟩ fun x st=>x = .tup [.agg (r.1.cs),Ak r.2]/\st=⟨B,Rw,L⟩:=by
 rw [M7] at h
 refine hd [.cell 4 49,.tmp 5] Tryz.func129 Tryz.ntmps129 fun M0 W0 E y z c D v hs=>?_
 simp only [Ax]
 apply Am;intro K1 k
 apply As 1 [2,3,4]
 rw [An];simp +decide only [go_sem,Nat.reduceAdd,AG]
 (repeat' apply Ad)<;>first | refine k _ _ ?_ | exact cl
 clear k
 apply Am;intro K2 q
 apply Am;intro K3 p
 obtain ⟨w,u,h⟩:=bind_some h
 apply As 2 [2,3,4,6]
 rw [An];simp +decide only [go_sem,Nat.reduceAdd,AG]
 (repeat' apply Ad)<;>first | refine Av _ (PR w0 n _ _ _ a0 _ u) (by first | rfl | (simp +decide only [go_sem,Nat.reduceAdd,AG];done) | (simp +decide only [go_sem,Nat.reduceAdd,Vl.cs,Ty.cs,AG];done)) ?_ | exact cl
 rw [An];simp +decide only [go_sem,Nat.reduceAdd,AG]
 (repeat' apply Ad)<;>first | refine p _ _ ?_ | exact cl
 clear p
 apply Am;intro K5 s
 apply As 1 [2,3,4,6,12]
 rw [An];simp +decide only [go_sem,Nat.reduceAdd,AG]
 (repeat' apply Ad)<;>first | refine s _ _ ?_ | exact cl
 clear s
 refine A7 (!(decide (w=0))) ev (by first | (simp +decide only [go_sem,Nat.reduceAdd,AG];done) | (simp +decide only [go_sem,Nat.reduceAdd,AG];rfl)) (fun a=>?_) (fun a=>?_)
 ·replace h:=Cj h a
  exact nS h
 replace h:=Cm h a
 refine sk [2,3,4] hs q ?_
 clear q
 apply Am;intro K7 m
 apply Am;intro K8 j
 apply As 1 [2,3,4,17]
 rw [An];simp +decide only [go_sem,Nat.reduceAdd,AG,a]
 (repeat' apply Ad)<;>first | refine j _ _ ?_ | exact cl
 clear j
 refine A7 (!(decide (a1.kind=9))) ev (by first | (simp +decide only [go_sem,Nat.reduceAdd,AG,a];done) | (simp +decide only [go_sem,Nat.reduceAdd,AG,a];rfl)) (fun b=>?_) (fun b=>?_)
 ·replace h:=Cj h b
  exact nS h
 replace h:=Cm h b
 refine sk [2,3,4] hs m ?_
 clear m
 apply Am;intro K10 g
 apply As 1 [2,4,7]
 rw [An];simp +decide only [go_sem,Nat.reduceAdd,AG,a,b]
 (repeat' apply Ad)<;>first | refine g _ _ ?_ | exact cl
 clear g
 apply Am;intro K11 f
 obtain ⟨t,o,h⟩:=bind_some h
 apply As 2 [4,7,8]
 rw [An];simp +decide only [go_sem,Nat.reduceAdd,AG,a,b]
 (repeat' apply Ad)<;>first | refine Av _ (N7 w0 n _ _ _ (B.length+3) ((a1,0)) (by simp +decide only [go_sem,Nat.reduceAdd,AG,a,b]) a0 _ o) (by first | rfl | (simp +decide only [go_sem,Nat.reduceAdd,AG,a,b];done) | (simp +decide only [go_sem,Nat.reduceAdd,Vl.cs,Ty.cs,AG,a,b];done)) ?_ | exact cl
 rw [An];simp +decide only [go_sem,Nat.reduceAdd,AG,a,b]
 (repeat' apply Ad)<;>first | refine f _ _ ?_ | exact cl
 clear f
 apply Am;intro K13 d
 apply Am;intro K14 i
 apply As 1 [4,7,8,29]
 rw [An];simp +decide only [go_sem,Nat.reduceAdd,AG,a,b]
 (repeat' apply Ad)<;>first | refine i _ _ ?_ | exact cl
 clear i
 refine A7 false ev (by simp +decide only [go_sem,Nat.reduceAdd,AG,a,b]) (fun hb15=>by cases hb15) (fun hb15=>?_)
 refine sk [4,8] hs d ?_
 clear d
 apply Am;intro K16 e
 obtain ⟨C,l,h⟩:=bind_some h
 apply As 2 [4,5]
 rw [An];simp +decide only [go_sem,Nat.reduceAdd,AG,a,b]
 (repeat' apply Ad)<;>first | refine Av _ (CZ w0 n _ _ _ t _ l) (by first | rfl | (simp +decide only [go_sem,Nat.reduceAdd,AG,a,b];done) | (simp +decide only [go_sem,Nat.reduceAdd,Vl.cs,Ty.cs,AG,a,b];done)) ?_ | exact cl
 rw [An];simp +decide only [go_sem,Nat.reduceAdd,AG,a,b]
 (repeat' apply Ad)<;>first | refine e _ _ ?_ | exact cl
 clear e
 apply BB;simp +decide only [go_sem,Nat.reduceAdd,AG,a,b]
 have hgt:=Option.some.inj h;subst hgt
 first | refine FV c rfl v.pre ev ⟨?_,rfl⟩ | refine HM c rfl v.pre ev ⟨?_,rfl⟩
 first | rfl | (simp +decide only [go_sem,Nat.reduceAdd,AG,a,b];done) | (simp +decide only [go_sem,Nat.reduceAdd,Vl.cs,Ty.cs,AG,a,b];done)
def NI (n:Nat) (h:Ex) (q:Vl):Option (Vl × Int) :=
 (J8 n h).bind fun y =>
 if !(decide (y=0)) then
  AM
 else
  if !(decide (q.kind=9)) then
   AM
  else
   (FH n ((q,0)) h).bind fun g =>
   (B8 n g).bind fun b =>
   some ((b,0))
theorem VS (w0:World) (n:Nat) (B:Ao) (Rw:Ap) (L:Aq) (a0:Ex) (a1:Vl) (r:Vl × Int) (h:NI n a0 a1=some r) :
  ACalls Tryz.prog w0 129 [.agg (a0.cs),.agg (a1.cs)] ⟨B,Rw,L⟩ fun x st=>x = .tup [.agg (r.1.cs),Ak r.2]/\st=⟨B,Rw,L⟩:=by
 rw [NI] at h
 refine hd [.cell 4 49,.tmp 5] Tryz.func129 Tryz.ntmps129 fun M0 W0 E y z c D v hs=>?_
 simp only [Ax]
 apply Am;intro K1 k
 apply As 1 [2,3,4]
 rw [An];simp +decide only [go_sem,Nat.reduceAdd,AG]
 (repeat' apply Ad)<;>first | refine k _ _ ?_ | exact cl
 clear k
 apply Am;intro K2 q
 apply Am;intro K3 p
 obtain ⟨w,u,h⟩:=bind_some h
 apply As 2 [2,3,4,6]
 rw [An];simp +decide only [go_sem,Nat.reduceAdd,AG]
 (repeat' apply Ad)<;>first | refine Av _ (PR w0 n _ _ _ a0 _ u) (by first | rfl | (simp +decide only [go_sem,Nat.reduceAdd,AG];done) | (simp +decide only [go_sem,Nat.reduceAdd,Vl.cs,Ty.cs,AG];done)) ?_ | exact cl
 rw [An];simp +decide only [go_sem,Nat.reduceAdd,AG]
 (repeat' apply Ad)<;>first | refine p _ _ ?_ | exact cl
 clear p
 apply Am;intro K5 s
 apply As 1 [2,3,4,6,12]
 rw [An];simp +decide only [go_sem,Nat.reduceAdd,AG]
 (repeat' apply Ad)<;>first | refine s _ _ ?_ | exact cl
 clear s
 refine A7 (!(decide (w=0))) ev (by first | (simp +decide only [go_sem,Nat.reduceAdd,AG];done) | (simp +decide only [go_sem,Nat.reduceAdd,AG];rfl)) (fun a=>?_) (fun a=>?_)
 ·replace h:=Cj h a
  exact nS h
 replace h:=Cm h a
 refine sk [2,3,4] hs q ?_
 clear q
 apply Am;intro K7 m
 apply Am;intro K8 j
 apply As 1 [2,3,4,17]
 rw [An];simp +decide only [go_sem,Nat.reduceAdd,AG,a]
 (repeat' apply Ad)<;>first | refine j _ _ ?_ | exact cl
 clear j
 refine A7 (!(decide (a1.kind=9))) ev (by first | (simp +decide only [go_sem,Nat.reduceAdd,AG,a];done) | (simp +decide only [go_sem,Nat.reduceAdd,AG,a];rfl)) (fun b=>?_) (fun b=>?_)
 ·replace h:=Cj h b
  exact nS h
 replace h:=Cm h b
 refine sk [2,3,4] hs m ?_
 clear m
 apply Am;intro K10 g
 apply As 1 [2,4,7]
 rw [An];simp +decide only [go_sem,Nat.reduceAdd,AG,a,b]
 (repeat' apply Ad)<;>first | refine g _ _ ?_ | exact cl
 clear g
 apply Am;intro K11 f
 obtain ⟨t,o,h⟩:=bind_some h
 apply As 2 [4,7,8]
 rw [An];simp +decide only [go_sem,Nat.reduceAdd,AG,a,b]
 (repeat' apply Ad)<;>first | refine Av _ (I1 w0 n _ _ _ (B.length+3) ((a1,0)) (by simp +decide only [go_sem,Nat.reduceAdd,AG,a,b]) a0 _ o) (by first | rfl | (simp +decide only [go_sem,Nat.reduceAdd,AG,a,b];done) | (simp +decide only [go_sem,Nat.reduceAdd,Vl.cs,Ty.cs,AG,a,b];done)) ?_ | exact cl
 rw [An];simp +decide only [go_sem,Nat.reduceAdd,AG,a,b]
 (repeat' apply Ad)<;>first | refine f _ _ ?_ | exact cl
 clear f
 apply Am;intro K13 d
 apply Am;intro K14 i
 apply As 1 [4,7,8,29]
 rw [An];simp +decide only [go_sem,Nat.reduceAdd,AG,a,b]
 (repeat' apply Ad)<;>first | refine i _ _ ?_ | exact cl
 clear i
 refine A7 false ev (by simp +decide only [go_sem,Nat.reduceAdd,AG,a,b]) (fun hb15=>by cases hb15) (fun hb15=>?_)
 refine sk [4,8] hs d ?_
 clear d
 apply Am;intro K16 e
 obtain ⟨C,l,h⟩:=bind_some h
 apply As 2 [4,5]
 rw [An];simp +decide only [go_sem,Nat.reduceAdd,AG,a,b]
 (repeat' apply Ad)<;>first | refine Av _ (CZ w0 n _ _ _ t _ l) (by first | rfl | (simp +decide only [go_sem,Nat.reduceAdd,AG,a,b];done) | (simp +decide only [go_sem,Nat.reduceAdd,Vl.cs,Ty.cs,AG,a,b];done)) ?_ | exact cl
 rw [An];simp +decide only [go_sem,Nat.reduceAdd,AG,a,b]
 (repeat' apply Ad)<;>first | refine e _ _ ?_ | exact cl
 clear e
 apply BB;simp +decide only [go_sem,Nat.reduceAdd,AG,a,b]
 have hgt:=Option.some.inj h;subst hgt
 first | refine FV c rfl v.pre ev ⟨?_,rfl⟩ | refine HM c rfl v.pre ev ⟨?_,rfl⟩
 first | rfl | (simp +decide only [go_sem,Nat.reduceAdd,AG,a,b];done) | (simp +decide only [go_sem,Nat.reduceAdd,Vl.cs,Ty.cs,AG,a,b];done)
def Il (n:Nat)  (b:List (List Part)):Option ((List (List Part))) :=
 some (b)
def GI (n:Nat) (q:List (ByteArray × Ex)):Nat->(List (List Part))->Int->Option ((List (List Part)))
 | 0,_,_=>none
 | m+1,g,b =>
  if decide (b<(q.length:Int)) then
   (Dw q b).bind fun y =>
   (Kx n y.1).bind fun h =>
   if (g.length+1)*24<=140737488355328/\g.length+1<=4611686018427387904 then
    if BN (b+1) then
     (GI n q m) (g++([h.1])) (b+1)
    else none
   else none
  else
   Il n g
def ID (n:Nat) (b:List (ByteArray × Ex)):Option ((List (List Part))) :=
 GI n b n ([]) 0
theorem Qf (w0:World) (n:Nat) (B:Ao) (Rw:Ap) (L:Aq) (a0:List (ByteArray × Ex)) (r:(List (List Part))) (h:ID n a0=some r) :
  ACalls Tryz.prog w0 128 [.agg ([.list (a0.map FT) .none])] ⟨B,Rw,L⟩ fun x st=>x = .list (r.map (S3 DI)) .none/\st=⟨B,Rw,L⟩:=by
 rw [ID] at h
 refine hd [.tmp 2] Tryz.func128 Tryz.ntmps128 fun M0 W0 p j l i q k hs=>?_
 simp only [Ax]
 refine rg [1] hs ?_
 refine rg [1,3] hs ?_
 refine AD (fun e st=>∃ (d:List (List Part)) (f:Ev.Own),Ck e st B Rw L [(3,true,.list (d.map (S3 DI)) f)] [[.list (a0.map FT) .none]] [(1,d.length,f)] (Il n d=some r)) ?_ ?_
 ·intro K5 o
  refine rg [3,9,10,11] hs ?_
  apply Ar
  refine AA (fun m e st=>∃ (b:List (List Part)) (g:Int) (c:Ev.Own),Ck e st B Rw L [(3,true,.list (b.map (S3 DI)) c),(9,true,.list (a0.map FT) .none),(10,true,Ak (a0.length:Int)),(11,true,Ak g)] [[.list (a0.map FT) .none]] [(1,b.length,c)] (GI n a0 m b g=some r)) n ⟨([]),0,.full,([]),Rw,ef hs,ef hs,Owns.of_eq ((k).full 1 0) Fh,h⟩ ?_
  rintro ml7 e st ⟨b,g,c,Xl7,Rl7,rfl,rfl,k,h⟩ Ul7 Vl7
  cases ml7 with
  | zero=>cases h
  | succ ml7 =>
  rw [GI] at h
  exact go (tg (a:=([3,9,10,11,12],([3,9,10,11],[3,5,9,10,11],[3,6,9,10,11],[3,9,10,11],[3,9,10,11],()),[3],()))) h hs p j l i k (q2 (Nx w0 n) (ae ZaH V9)) (q2 o (fun e s=>Vl7 ml7 e s (Nat.lt_succ_self _)))
 ·clear h;rintro e st ⟨d,f,Xk4,Rk4,rfl,rfl,k,h⟩
  rw [Il] at h
  exact go (tg (a:=([2],()))) h hs p j l i k trivial trivial
def TG (n:Nat) (e:Ex) (v:Vl):Option (Vl × Int):=if e.op=2 then NI n e v else M7 n e v
theorem Zdt (w0:World) (hE:QU w0) (hM:Qx w0) (hP:Pow10 w0) (hT:Lib.Utf8Tabs 1 2 w0) (n:Nat) (B:Ao) (Rw:Ap) (L:Aq) (a0:Ex) (a1:Vl) (r:Vl × Int) (h:TG n a0 a1=some r) :
  ACalls Tryz.prog w0 129 [.agg (a0.cs),.agg (a1.cs)] ⟨B,Rw,L⟩ fun x st=>x = .tup [.agg (r.1.cs),Ak r.2]/\st=⟨B,Rw,L⟩:=by
 unfold TG at h
 split at h
 ·exact VS w0 n B Rw L a0 a1 r h
 ·exact VH w0 n B Rw L a0 a1 r h
def Za6 (n:Nat) (v:Vl):List (List Part)->List (ByteArray × Ex)->Option (List (List Part × Vl))
 | _,[]=>some []
 | t::ts,r::rs=>(TG n r.2 v).bind fun y=>if y.2=0 then (Za6 n v ts rs).bind fun q=>some ((t,y.1)::q) else none
 | [],_::_=>none
def Z3 (n:Nat) (m:List (ByteArray × Ex)) (v:Vl):Option (List (List Part × Vl)):=(ID n m).bind fun t=>Za6 n v t m
theorem Yo {n:Nat} {v:Vl}:∀ (ts:List (List Part)) (rs:List (ByteArray × Ex)) (l:List (List Part × Vl)),Za6 n v ts rs=some l->l.length=rs.length/\∀ (i:Nat) (r:ByteArray × Ex),rs[i]? = some r->∃ t y,ts[i]? = some t/\TG n r.2 v=some (y,0)/\l[i]? = some (t,y)
 | ts,[],l,h=>by
  cases ts<;>(simp only [Za6] at h;cases h;exact ⟨rfl,fun i r q=>by simp at q⟩)
 | [],_::_,l,h=>by simp [Za6] at h
 | t::ts,r::rs,l,h=>by
  rw [Za6] at h
  obtain ⟨y,hy,h⟩:=bind_some h
  obtain ⟨hz,h⟩:=Au h
  obtain ⟨q,d,h⟩:=bind_some h
  cases h
  obtain ⟨a,c⟩:=Yo ts rs q d
  refine ⟨by simp [a],fun i b hr=>?_⟩
  cases i with
  | zero=>cases hr;exact ⟨t,y.1,rfl,by rw [hy,<-hz],rfl⟩
  | succ i=>exact c i b (by simpa using hr)
def Zlc (p:List Part × Vl):List AV:=[.list (p.1.map DI) .none,.agg p.2.cs]
def Ni (l:List (List Part × Vl)):List (List AV):=l.map Zlc
theorem PQ (l:List (List Part × Vl)):(Ni l).length=l.length:=by simp [Ni]
theorem ZW (l:List (List Part × Vl)) (i:Nat) (x:List AV) (h:(Ni l)[i]? = some x):∃ p,l[i]? = some p/\x=[.list (p.1.map DI) .none,.agg p.2.cs]/\i<l.length:=by
 simp only [Ni,List.getElem?_map,Option.map_eq_some_iff] at h
 obtain ⟨p,a,rfl⟩:=h
 exact ⟨p,a,rfl,(Aj.1 a).1⟩
theorem ZO (l:List (List Part × Vl)) (x:List AV) (h:x∈Ni l):x.length=2:=by
 obtain ⟨p,_,rfl⟩:=List.mem_map.1 h
 rfl
theorem ZbJ (w0:World) (hE:QU w0) (hM:Qx w0) (hP:Pow10 w0) (hT:Lib.Utf8Tabs 1 2 w0) (n:Nat) (m:List (ByteArray × Ex)) (v:Vl) (l:List (List Part × Vl)) (h:Z3 n m v=some l) (hl:m.length<=1000000000) (b:Nat) :
  ZiD Tryz.prog w0 127 [.box b 0,.box (b+1) 0,.box (b+2) 0] (Ni l) (fun st=>st.boxes[b]? = some [.list (m.map FT) .none]/\st.boxes[b+1]? = some v.cs):=by
 intro k J Jx hJ hY s0 h0
 obtain ⟨⟨d,i⟩,U⟩:=hJ _ _ h0
 obtain ⟨t,ht,hr⟩:=bind_some h
 obtain ⟨F,E⟩:=Yo t m l hr
 obtain ⟨SB,SR,SL⟩:=s0
 simp only at d i U
 refine B7 (rs:=[]) Tryz.func127 rfl rfl Tryz.ntmps127 (AL Tryz.func127 rfl (by decide)) (Nat.le_of_ble_eq_true rfl) ?_
 intro M0 W0 hN ad ae Y hu
 simp only [Ax]
 apply Am;intro K1 p
 apply As 2 [0,1,2,3,5]
 rw [An];simp +decide only [go_sem,AH d,AH i]
 refine Av _ (Qf w0 n _ _ _ m _ ht) (by first | rfl | (simp +decide only [go_sem];done)) ?_
 rw [An];simp +decide only [go_sem]
 refine p _ _ ?_
 clear p
 apply Am;intro K2 C
 apply As 1 [0,1,2,3,5,13,14,15]
 rw [An];simp +decide only [go_sem,AH d,AH i]
 (repeat' apply Ad)<;>first | refine C _ _ ?_ | (simp only [List.length_map];omega)
 clear C
 apply Ar
 refine AA (fun mm e st=>∃ (q:Nat) (TB XB:Ao) (TR:Ap) (TL:Aq),q<=m.length/\mm=m.length-q/\J q ⟨TB,TR,TL⟩/\e=[(0,true,.yld k),(1,true,.box b 0),(2,true,.box (b+1) 0),(3,true,.box (b+2) 0),(5,true,.list (t.map (S3 DI)) .none),(13,true,.list (m.map FT) .none),(14,true,Ak (m.length:Int)),(15,true,Ak (q:Int))]/\st=⟨TB++XB,TR,TL⟩) m.length ⟨0,SB,[],SR,SL,by omega,rfl,h0,by simp,by simp⟩ ?_
 rintro mm e st ⟨q,TB,XB,TR,TL,hq,rfl,Q,rfl,rfl⟩ KR N
 obtain ⟨⟨g,a⟩,O⟩:=hJ _ _ Q
 simp only at g a O
 have af:(TB++XB)[b]? = some [.list (m.map FT) .none]:=by rw [List.getElem?_append_left (Aj.1 g).1];exact g
 have ab:(TB++XB)[b+1]? = some v.cs:=by rw [List.getElem?_append_left (Aj.1 a).1];exact a
 apply Am;intro K4 u
 apply As 1 [0,1,2,3,5,13,14,15,16]
 rw [An];simp +decide only [go_sem]
 refine u _ _ ?_
 clear u
 apply Am;intro K3 z
 refine A7 _ (by simp +decide only [go_sem]) (by simp +decide only [go_sem];rfl) (fun hb=>?_) (fun hb=>?_)
 rotate_left
 ·apply Gn;simp +decide only [go_sem]
  simp only [decide_eq_false_iff_not] at hb
  obtain rfl:q=m.length:=by omega
  exact ⟨⟨TB,TR,TL⟩,⟨XB,[],[]⟩,rfl,by simp [St.ext],.inl (by rw [PQ,F];exact Q)⟩
 simp only [decide_eq_true_eq] at hb
 have w:q<m.length:=by omega
 obtain ⟨Z,y,g1,g2,g3⟩:=E q m[q] (List.getElem?_eq_getElem w)
 apply Bq;simp only [go_sem]
 refine z _ _ ?_
 clear z
 apply Am;intro K5 D
 apply Ar
 apply Am;intro K6 G
 apply As 1 [0,1,2,3,5,6,7,13,14,15]
 have K:(m.map FT).getD q .junk = .agg (.val (.string m[q].1)::m[q].2.cs):=Bz (f:=FT) (List.getElem?_eq_getElem w)
 rcases hm:m[q] with ⟨nm,o1,o2,o3,o4,o5⟩
 rw [hm] at K g2
 simp only [Ex.cs_mks] at K
 rw [An];simp +decide only [go_sem,K]
 (repeat' apply Ad)<;>first | refine G _ _ ?_ | omega | (simp only [List.length_map];omega)
 clear G
 apply Am;intro K7 s
 apply As 2 [0,1,2,3,5,6,7,8,9,13,14,15]
 have V:(TB++(XB++[[AV.val (.string nm),Ak o1,Ak o2,.val (.string o3),.list (o4.map En) .none,.list (o5.map Vv) .none]]))[b+1]? = some v.cs:=by rw [List.getElem?_append_left (Aj.1 a).1];exact a
 rw [An];simp +decide only [go_sem,AH V]
 refine ⟨by omega,by omega,?_⟩
 refine Av _ (Zdt w0 hE hM hP hT n _ _ _ _ v (y,0) g2) (by first | rfl | (simp +decide only [go_sem,Ex.cs_mks];done)) ?_
 rw [An];simp +decide only [go_sem]
 (repeat' apply Ad)<;>first | refine s _ _ ?_ | omega
 clear s
 apply Am;intro K9 x
 apply Am;intro K8 j
 apply As 1 [0,1,2,3,5,6,7,8,13,14,15,28]
 rw [An];simp +decide only [go_sem]
 refine j _ _ ?_
 clear j
 refine A7 false (by simp +decide only [go_sem]) (by simp +decide only [go_sem]) (fun hb=>by cases hb) (fun hb=>?_)
 apply Bq;simp only [go_sem]
 refine x _ _ ?_
 clear x
 have o:=hY q ⟨TB,TR,TL⟩ _ ⟨XB++[[AV.val (.string nm),Ak o1,Ak o2,.val (.string o3),.list (o4.map En) .none,.list (o5.map Vv) .none],y.cs],[],[]⟩ rfl Q (show (Ni l)[q]? = some [.list (Z.map DI) .none,.agg y.cs] by simp only [Ni,List.getElem?_map,g3];rfl)
 simp only [St.ext,List.append_nil] at o
 have H:(t.map (S3 DI)).getD q .junk = .list (Z.map DI) .none:=Bz (f:=S3 DI) g1
 have aa:q<t.length:=(Aj.1 g1).1
 apply Am;intro K10 c
 apply Q3 G6 6 1 2 [0,1,2,3,5,13,14,15,39] (by kernel_rfl)
 rw [An];simp +decide only [go_sem,H,List.take,List.drop]
 refine ⟨⟨by omega,by omega⟩,by omega,?_⟩
 rw [An];simp +decide only [go_sem,H,List.take,List.drop]
 refine S9 _ (fun _=>o) (fun r s' H _=>?_)
 obtain ⟨⟨UB,UR,UL⟩,rfl,⟨l1,l2,l3⟩,hz⟩:=H rfl
 obtain ⟨bb,rfl,hpT,hpF⟩:∃ bb,r = .val (.bool bb)/\(bb=true->J (q+1) ⟨UB,UR,UL⟩)/\(bb=false->Jx ⟨UB,UR,UL⟩):=by
  rcases hz with ⟨rfl,hz⟩ | ⟨rfl,hz⟩
  ·exact ⟨true,rfl,fun _=>hz,fun h=>(by cases h)⟩
  ·exact ⟨false,rfl,fun h=>(by cases h),fun _=>hz⟩
 rw [An];simp +decide only [go_sem]
 refine c _ _ ?_
 clear c
 refine A7 _ (by simp +decide only [go_sem]) (by simp +decide only [go_sem];rfl) (fun hb=>?_) (fun hb=>?_)
 ·apply BB;simp +decide only [go_sem]
  exact ⟨⟨UB,UR,UL⟩,⟨XB++[[AV.val (.string nm),Ak o1,Ak o2,.val (.string o3),.list (o4.map En) .none,.list (o5.map Vv) .none],y.cs],[],[]⟩,rfl,by simp [St.ext],.inr (hpF (by simpa using hb))⟩
 apply Bq;simp +decide only [go_sem]
 refine D _ _ ?_
 clear D
 apply As 1 [0,1,2,3,5,13,14,15]
 rw [An];simp +decide only [go_sem]
 (repeat' apply Ad)<;>first | refine N (m.length-(q+1)) _ _ (by omega) ⟨q+1,UB,_,UR,UL,by omega,rfl,hpT (by simpa using hb),by simp,rfl⟩ | omega
theorem Zy (w0:World) (B:Ao) (Rw:Ap) (L:Aq) (m:List (ByteArray × Ex)) (v:Vl) (lf:Nat) :
  ACalls Tryz.prog w0 90 [.agg [.list (m.map FT) .none],.agg v.cs,.box lf 0] ⟨B,Rw,L⟩ fun r st=>r = .clo 127 [.box B.length 0,.box (B.length+1) 0,.box (B.length+2) 0]/\st=⟨B++[[.list (m.map FT) .none],v.cs,[.box lf 0]],Rw,L⟩:=by
 refine B7 (rs:=[.tmp 6]) Tryz.func90 rfl rfl Tryz.ntmps90 (AL Tryz.func90 rfl (by decide)) (Nat.le_of_ble_eq_true rfl) ?_
 intro M0 W0 g d e c f
 simp only [Ax]
 apply Am;intro K1 b
 apply As 1 [3,4,5]
 rw [An];simp +decide only [go_sem]
 (repeat' apply Ad)<;>first | refine b _ _ ?_ | exact cl
 clear b
 apply Am;intro K2 a
 apply As 1 [6]
 rw [An];simp +decide only [go_sem]
 (repeat' apply Ad)<;>first | refine a _ _ ?_ | exact cl
 clear a
 apply BB;simp +decide only [go_sem]
theorem ZbU {α:Type} {o:Option (List α)} (h:o.isSome=true):o=some (o.getD []):=by
 cases o with
 | none=>cases h
 | some x=>rfl
def Jo (n:Nat) (b:Vl) (b1_k4_1:Int) (b1_k4_5:List (ByteArray × Vl)):Option Bool :=
 some (((((decide (b1_k4_1=0))&&(decide (b.scale=0)))&&(MY b.text (⟨#[]⟩:ByteArray)))&&(decide ((b.list.length:Int)=0)))&&(decide ((b1_k4_5.length:Int)=0)))
def KO (n:Nat) (b:Vl):Option Bool :=
 Jo n b b.int ([])
def IK (n:Nat) (g:Vl):Nat->Int->Option Bool
 | 0,_=>none
 | m+1,b =>
  if decide (b<(g.fields.length:Int)) then
   if BN (b-1) then
    (Dw g.fields (b-1)).bind fun q =>
    (Dw g.fields b).bind fun h =>
    if !(sLt q.1 h.1) then
     AM
    else
     if BN (b+1) then
      (IK n g m) (b+1)
     else none
   else none
  else
   KO n g 
def Iw (n:Nat) (g:Vl) (b:Bool):Option Bool :=
 if b then
  Jo n g 0 g.fields
 else
  if decide (g.kind=3) then
   AM
  else
   if decide (g.kind=4) then
    AM
   else
    if decide (g.kind=5) then
     AM
    else
     if decide (g.kind=8) then
      AM
     else
      if decide (g.kind=9) then
       IK n g n 1
      else
       AM
def Kp (n:Nat) (b:Vl):Option Bool :=
 if decide (b.kind=1) then
  AM
 else
  if decide (b.kind=2) then
   Iw n b true
  else
   if decide (b.kind=6) then
    AM
   else
    Iw n b (decide (b.kind=7))
theorem PS (w0:World) (n:Nat) (B:Ao) (Rw:Ap) (L:Aq) (a0:Vl) (r:Bool) (h:Kp n a0=some r) :
  ACalls Tryz.prog w0 139 [.agg (a0.cs)] ⟨B,Rw,L⟩ fun x st=>x = .val (.bool r)/\st=⟨B,Rw,L⟩:=by
 rw [Kp] at h
 refine hd [.tmp 2] Tryz.func139 Tryz.ntmps139 fun M0 W0 q k l f v j hs=>?_
 simp only [Ax]
 refine rg [1] hs ?_
 refine rg [1,3] hs ?_
 refine AD (fun e st=>∃ (b:Int) (c:List (ByteArray × Vl)) (d:AV),Ck e st B Rw L [(3,true,.box (B.length+1) 0)] [a0.cs,[Ak a0.kind,Ak b,Ak a0.scale,.val (.string a0.text),.list (a0.list.map En) .none,d]] [] (d.pub = .list (c.map Di) .none/\Jo n a0 b c=some r)) ?_ ?_
 ·intro K5 t
  refine rg [1,3,7] hs ?_
  apply Ar
  refine rg [1,3,7,8] hs ?_
  refine B6 h hs ?_ ?_<;>intro hs h
  ·exact nS h
  refine AD (fun e st=>∃ (g:Bool),Ck e st B Rw L [(1,true,.box B.length 0),(3,true,.box (B.length+1) 0),(7,true,Ak a0.kind),(19,true,.val (.bool g))] [a0.cs,a0.cs] [] (Iw n a0 g=some r)) ?_ ?_
  ·intro K11 p
   exact go (tg (a:=([1,3,7,19],([1,3,7,19],()),[1,3,7,19],((),()),[1,3,7,19],()))) h hs q k l f j trivial (q1 p)
  ·clear h;rintro e st ⟨g,Xk10,Rk10,rfl,rfl,j,h⟩
   rw [Iw] at h
   refine td q k l f j ?_
   refine B6 h hs ?_ ?_<;>intro hs h
   ·have hs:=Ad (Vl.cs_eqs a0) hs
    refine rl [3] hs t ?_
    exact ⟨0,a0.fields,(.list (a0.fields.map Di) .none),([]),Rk10,ef hs,ef hs,j,ef hs,h⟩
   refine rg [1,3,7,24] hs ?_
   refine B6 h hs ?_ ?_<;>intro hs h
   ·exact nS h
   refine rg [1,3,7,28] hs ?_
   refine B6 h hs ?_ ?_<;>intro hs h
   ·exact nS h
   refine rg [1,3,7,35] hs ?_
   refine B6 h hs ?_ ?_<;>intro hs h
   ·exact nS h
   refine rg [1,3,7,38] hs ?_
   refine B6 h hs ?_ ?_<;>intro hs h
   ·exact nS h
   refine rg [1,3,7,41] hs ?_
   refine B6 h hs ?_ ?_<;>intro hs h
   ·refine AD (fun e st=>Ck e st B Rw L [(3,true,.box (B.length+1) 0)] [a0.cs,a0.cs] [] (KO n a0  = some r)) ?_ ?_
    ·intro K29 o
     refine rg [1,3,4] hs ?_
     apply Ar
     refine AA (fun m e st=>∃ (i:Int),Ck e st B Rw L [(1,true,.box B.length 0),(3,true,.box (B.length+1) 0),(4,true,Ak i)] [a0.cs,a0.cs] [] (IK n a0 m i=some r)) n ⟨1,([]),Rk10,ef hs,ef hs,j,h⟩ ?_
     rintro ml31 e st ⟨i,Xl31,Rl31,rfl,rfl,j,h⟩ Ul31 Vl31
     cases ml31 with
     | zero=>cases h
     | succ ml31 =>
     rw [IK] at h
     exact go (tg (a:=([1,3,4,47],([1,3,4],[14,1,3,4,63],((),()),[1,3,4],[1,3,4],()),[3],()))) h hs q k l f j trivial (q2 o (fun e s=>Vl31 ml31 e s (Nat.lt_succ_self _)))
    ·clear h;rintro e st ⟨Xk28,Rk28,rfl,rfl,j,h⟩
     rw [KO] at h
     refine td q k l f j ?_
     have hs:=Ad (Vl.cs_eqs a0) hs
     refine rl [3] hs t ?_
     exact ⟨a0.int,([]),(.list ([]) .full),([]),Rk28,ef hs,ef hs,j,ef hs,h⟩
   exact nS h
 ·clear h;rintro e st ⟨b,c,d,Xk4,Rk4,rfl,rfl,j,u,h⟩
  rw [Jo] at h
  refine Gx (B.length+1) 5 (by first | rfl | (simp only [Ea,Da,EF,DR];rfl)) rfl u ?_;simp +decide only [go_sem,Nat.reduceAdd]
  show D8 _ _ _ _ _ _ _ _ [(3,true,.box (B.length+1) 0)] ⟨B++([a0.cs,[Ak a0.kind,Ak b,Ak a0.scale,.val (.string a0.text),.list (a0.list.map En) .none,.list (c.map Di) .none]]++Xk4),Rk4,L⟩
  refine td q k l f j ?_
  refine rg [2] hs ?_
  exact rt h hs f j
def Fz (b:Int × ByteArray × Int × Ty × List Vl) (g:ByteArray):Bool :=
 MY b.2.1 g
theorem Qk (w0:World) (B:Ao) (Rw:Ap) (L:Aq) (a0:Int × ByteArray × Int × Ty × List Vl) (la1:Nat) (a1:ByteArray) (hla1:B[la1]? = some ([.val (.string a1)])) (r:Bool) (h:Fz a0 a1=r) :
  ACalls Tryz.prog w0 191 [.agg (Ak a0.1::(.val (.string a0.2.1)::(Ak a0.2.2.1::((a0.2.2.2.1.cs)++([.list (a0.2.2.2.2.map En) .none]))))),.box la1 0] ⟨B,Rw,L⟩ fun x st=>x = .val (.bool r)/\st=⟨B,Rw,L⟩:=by
 rw [Fz] at h
 refine hd [.tmp 3] Tryz.func191 Tryz.ntmps191 fun M0 W0 g c e a f d hs=>?_
 simp only [Ax]
 have b:=(Aj.1 hla1).1
 have hs:=Ad (AH hla1) hs
 refine rg [1,2] hs ?_
 refine rg [3] hs ?_
 exact rT h hs a d
theorem PI (w0:World) (B:Ao) (Rw:Ap) (L:Aq) (a0:Int × ByteArray × Int × Ty × List Vl) (la1:Nat) (a1:ByteArray) (hla1:B[la1]? = some ([.val (.string a1)])) :
  ACalls Tryz.prog w0 191 [.agg (Ak a0.1::(.val (.string a0.2.1)::(Ak a0.2.2.1::((a0.2.2.2.1.cs)++([.list (a0.2.2.2.2.map En) .none]))))),.box la1 0] ⟨B,Rw,L⟩ fun x st=>x = .val (.bool (Fz a0 a1))/\st=⟨B,Rw,L⟩:=Qk w0 B Rw L a0 la1 a1 hla1 _ rfl
def D3 (n:Nat) (h:List (Int × ByteArray × Int × Ty × List Vl)) (y:(Int × ByteArray × Int × Ty × List Vl)->Option Bool):Nat->Int->Option Int
 | 0,_=>none
 | m+1,b =>
  if decide (b<(h.length:Int)) then
   (Dw h b).bind fun g =>
   (y g).bind fun q =>
   if q then
    some (b)
   else
    if BN (b+1) then
     (D3 n h y m) (b+1)
    else none
  else
   AM
def FR (n:Nat) (b:List (Int × ByteArray × Int × Ty × List Vl)) (g:(Int × ByteArray × Int × Ty × List Vl)->Option Bool):Option Int :=
 D3 n b g n 0
theorem Lo (w0:World) (n:Nat) (B:Ao) (Rw:Ap) (L:Aq) (a0:List (Int × ByteArray × Int × Ty × List Vl)) (fa1:FuncId) (ca1:List AV) (a1:(Int × ByteArray × Int × Ty × List Vl)->Option Bool) (ha1:∀ (x0:Int × ByteArray × Int × Ty × List Vl) r,a1 x0=some r->∀ B' rows,B <+: B'->Rw <+: rows->ACalls Tryz.prog w0 fa1 ([.agg (Ak x0.1::(.val (.string x0.2.1)::(Ak x0.2.2.1::((x0.2.2.2.1.cs)++([.list (x0.2.2.2.2.map En) .none])))))]++ca1) ⟨B',rows,L⟩ fun v s=>v = .val (.bool r)/\s=⟨B',rows,L⟩) (r:Int) (h:FR n a0 a1=some r) :
  ACalls Tryz.prog w0 190 [.list (a0.map N3) .none,.clo fa1 ca1] ⟨B,Rw,L⟩ fun x st=>x=Ak r/\st=⟨B,Rw,L⟩:=by
 rw [FR] at h
 refine hd [.tmp 4] Tryz.func190 Tryz.ntmps190 fun M0 W0 j g i c l f hs=>?_
 simp only [Ax]
 have d:=Cc (l (.clo fa1 ca1) (by simp))
 refine rg [0,1] hs ?_
 apply Am;intro K2 k
 refine rg [0,1,7,8] hs ?_
 apply Ar
 refine AA (fun m e st=>∃ (b:Int),Ck e st B Rw L [(0,true,.list (a0.map N3) .none),(1,true,.clo fa1 ca1),(7,true,Ak (a0.length:Int)),(8,true,Ak b)] [] [] (D3 n a0 a1 m b=some r)) n ⟨0,([]),Rw,ef hs,ef hs,f,h⟩ ?_
 rintro ml4 e st ⟨b,Xl4,Rl4,rfl,rfl,f,h⟩ Ul4 Vl4
 cases ml4 with
 | zero=>cases h
 | succ ml4 =>
 rw [D3] at h
 refine AO j g i rfl c f (H8 d f) (H8 d f) ?_
 exact go (tg (a:=([0,1,7,8,9],([0,1,7,8],[0,1,5,7,8],[0,1,5,7,8,16],([4],()),[0,1,7,8],[0,1,7,8],()),((),())))) h hs j g i c f (q1 ha1) (q1 (fun e s=>Vl4 ml4 e s (Nat.lt_succ_self _)))
def Fp (n:Nat) (b:Ty) (y:ByteArray):Option ((Int × ByteArray × Int × Ty × List Vl) × Bool) :=
 (FR n b.fields (fun (h:Int × ByteArray × Int × Ty × List Vl)=>some (Fz h y))).bind fun g =>
 if decide (g<0) then
  AM
 else
  (Dw b.fields g).bind fun q =>
  some ((q,true))
theorem Hr (w0:World) (n:Nat) (B:Ao) (Rw:Ap) (L:Aq) (a0:Ty) (a1:ByteArray) (r:(Int × ByteArray × Int × Ty × List Vl) × Bool) (h:Fp n a0 a1=some r) :
  ACalls Tryz.prog w0 143 [.agg (a0.cs),.val (.string a1)] ⟨B,Rw,L⟩ fun x st=>x = .tup [.agg (Ak r.1.1::(.val (.string r.1.2.1)::(Ak r.1.2.2.1::((r.1.2.2.2.1.cs)++([.list (r.1.2.2.2.2.map En) .none]))))),.val (.bool r.2)]/\st=⟨B,Rw,L⟩:=by
 rw [Fp] at h
 refine hd [.cell 4 123,.tmp 5] Tryz.func143 Tryz.ntmps143 fun M0 W0 g d e b l f hs=>?_
 simp only [Ax]
 refine rg [2,3,4] hs ?_
 obtain ⟨k,hy3,h⟩:=bind_some h
 refine rc 2 [2,4,6] hs ?_;intro K2 c
 refine Av _ (Lo w0 n _ _ _ a0.fields 191 [.box (B.length+1) 0] (fun (x0:Int × ByteArray × Int × Ty × List Vl)=>some (Fz x0 a1)) (fun x0 r hx j rows' hB' i=>by cases hx;exact PI w0 _ _ _ x0 _ a1 (I6 hB' ev)) _ hy3) (hv hs) ?_
 exact go (tg (a:=([2,4,6,12],((),()),[2,4,6],[4,5],()))) h hs g d e b f trivial (q1 c)
def Jn (n:Nat) (g:Int->(List (ByteArray × Vl))->Option Vl) (b:Int) (b3_k37_5:List (ByteArray × Vl)) (b4_k37:ByteArray × Vl):Option Vl :=
 if (b3_k37_5.length+1)*104<=140737488355328/\b3_k37_5.length+1<=4611686018427387904 then
  if BN (b+1) then
   g (b+1) (b3_k37_5++([b4_k37]))
  else none
 else none
def Gv (n:Nat) (b:Vl) (b3_k4_4:List Vl) (b3_k4_5:List (ByteArray × Vl)):Option Vl :=
 some (Vl.mk b.kind b.int b.scale b.text b3_k4_4 b3_k4_5)
def Jp (n:Nat) (a0:Ty) (g:Vl) (a2:Ty->Vl->Option Vl):Nat->Int->(List Vl)->Option Vl
 | 0,_,_=>none
 | m+1,b,b3_l10_4 =>
  if decide (b<(g.list.length:Int)) then
   (Dw g.list b).bind fun y =>
   (Dw a0.elem 0).bind fun q =>
   (a2 q y).bind fun h =>
   if (b3_l10_4.length+1)*88<=140737488355328/\b3_l10_4.length+1<=4611686018427387904 then
    if BN (b+1) then
     (Jp n a0 g a2 m) (b+1) (b3_l10_4++([h]))
    else none
   else none
  else
   Gv n g b3_l10_4 g.fields
def GP (n:Nat) (y:Ty) (h:Vl) (a2:Ty->Vl->Option Vl):Nat->Int->(List (ByteArray × Vl))->Option Vl
 | 0,_,_=>none
 | m+1,b,b3_l29_5 =>
  if decide (b<(h.fields.length:Int)) then
   (Dw h.fields b).bind fun g =>
   (Fp n y g.1).bind fun q =>
   if q.2 then
    (a2 q.1.2.2.2.1 g.2).bind fun y43 =>
    Jn n (GP n y h a2 m) b b3_l29_5 ((g.1,y43))
   else
    Jn n (GP n y h a2 m) b b3_l29_5 g
  else
   Gv n h h.list b3_l29_5
def OQ (n:Nat) (g:Ty) (b:Vl) (a2:Ty->Vl->Option Vl):Option Vl :=
 if (decide (g.kind=8))&&(decide ((g.elem.length:Int)=1)) then
  Jp n g b a2 n 0 ([])
 else
  if decide (g.kind=9) then
   GP n g b a2 n 0 ([])
  else
   if decide (g.kind=10) then
    (Fp n g b.text).bind fun h =>
    if h.2 then
     (Dw b.list 0).bind fun q =>
     (a2 h.1.2.2.2.1 q).bind fun y =>
     Gv n b ([y]) b.fields
    else
     Gv n b b.list b.fields
   else
    Gv n b b.list b.fields
theorem Xb (w0:World) (n:Nat) (B:Ao) (Rw:Ap) (L:Aq) (a0:Ty) (a1:Vl) (fa2:FuncId) (ca2:List AV) (a2:Ty->Vl->Option Vl) (ha2:∀ (x0:Ty) (x1:Vl) r,a2 x0 x1=some r->∀ B' rows,B <+: B'->Rw <+: rows->ACalls Tryz.prog w0 fa2 ([.agg (x0.cs),.agg (x1.cs)]++ca2) ⟨B',rows,L⟩ fun v s=>v = .agg (r.cs)/\s=⟨B',rows,L⟩) (r:Vl) (h:OQ n a0 a1 a2=some r) :
  ACalls Tryz.prog w0 183 [.agg (a0.cs),.agg (a1.cs),.clo fa2 ca2] ⟨B,Rw,L⟩ fun x st=>x = .agg (r.cs)/\st=⟨B,Rw,L⟩:=by
 rw [OQ] at h
 refine hd [.cell 6 49] Tryz.func183 Tryz.ntmps183 fun M0 W0 hN K N q hu l hs=>?_
 simp only [Ax]
 have o:=Cc (hu (.clo fa2 ca2) (by simp))
 refine rg [2,3,4,6] hs ?_
 refine rg [2,3,4,6,7] hs ?_
 refine AD (fun e st=>∃ (t:List Vl) (u:List (ByteArray × Vl)) (z:AV) (w:AV),Ck e st B Rw L [(6,true,.box (B.length+2) 0),(7,true,.box (B.length+3) 0)] [a0.cs,a1.cs,CQ,[Ak a1.kind,Ak a1.int,Ak a1.scale,.val (.string a1.text),z,w]] [] (z.pub = .list (t.map En) .none/\w.pub = .list (u.map Di) .none/\Gv n a1 t u=some r)) ?_ ?_
 ·intro K5 Q
  apply Ar
  refine rg [2,3,4,6,7,17] hs ?_
  refine B6 h hs ?_ ?_<;>intro hs h
  ·have hs:=Ad (Vl.cs_eqs a1) hs
   refine rg [2,3,4,6,7] hs ?_
   refine rg [2,3,6,7,29,30,31] hs ?_
   apply Ar
   refine AA (fun m e st=>∃ (F:Int) (d:List Vl) (g:Ev.Own),Ck e st B Rw L [(2,true,.clo fa2 ca2),(3,true,.box B.length 0),(6,true,.box (B.length+2) 0),(7,true,.box (B.length+3) 0),(29,true,.list (a1.list.map En) .none),(30,true,Ak (a1.list.length:Int)),(31,true,Ak F)] [a0.cs,a1.cs,CQ,[Ak a1.kind,Ak a1.int,Ak a1.scale,.val (.string a1.text),.list (d.map En) g,.list (a1.fields.map Di) .none]] [(6,d.length,g)] (Jp n a0 a1 a2 m F d=some r)) n ⟨0,([]),.full,([]),Rw,ef hs,ef hs,Owns.of_eq ((l).full 6 0) Fh,h⟩ ?_
   rintro ml10 e st ⟨F,d,g,Xl10,Rl10,rfl,rfl,l,h⟩ Ul10 Vl10
   cases ml10 with
   | zero=>cases h
   | succ ml10 =>
   rw [Jp] at h
   have hU:=l.unders
   simp only [List.mem_cons,List.not_mem_nil,or_false,forall_eq_or_imp,forall_eq] at hU
   refine AO hN K N rfl q l (H8 o l) (H8 o l) ?_
   refine rg [2,3,6,7,29,30,31,32] hs ?_
   apply Am;intro K12 Z
   refine B6 h hs ?_ ?_<;>intro hs h
   rotate_left
   ·refine sx [6,7] hs Q ?_
    exact ⟨d,a1.fields,(.list (d.map En) g),(.list (a1.fields.map Di) .none),([]),Rl10,ef hs,ef hs,(l).sub (List.sublist_append_left [] [(6,d.length,g)]),ef hs,ef hs,h⟩
   refine sk [2,3,6,7,29,30,31] hs Z ?_
   clear Z
   apply Am;intro K14 ax
   apply Ar
   obtain ⟨a8,a3,h⟩:=bind_some h
   obtain ⟨bf,be,ao⟩:=Bo a3
   have ag:=Bz (f:=En) ao
   have hs:=Ad ag hs
   refine rg [2,3,6,7,9,29,30,31] hs ?_
   obtain ⟨a6,a7,bb,O,h⟩:=ix Rm h
   have ah:(a0.elem.map Rm).getD 0 .junk=_:=O
   obtain ⟨bh,ap,h⟩:=bind_some h
   have ai:=l.pre
   obtain ⟨ab,h⟩:=Au h
   obtain ⟨bi,a4,l,C⟩:=l.append (P:=Tryz.prog) P7 (by rw [KJ];rfl) (by decide) 1 ab.1 ab.2
   replace C:=fun (ys:List AV) B L o2=>C (d.map En) ys B L o2 Fh
   replace C:=fun (y:AV) B L o2=>C [y] B L o2 Fh ev
   try simp only [List.mem_singleton,List.mem_cons,List.not_mem_nil,or_false,forall_eq_or_imp,forall_eq,List.map_append,List.map_cons,List.map_nil,Fe,E6,E9,E8,Fb,EP,D2,D4,E3,CJ,CL,D1,DX,DZ,Fa,DW,E5] at C
   have hs:=Ad O hs
   have hs:=Ad ah hs
   have hs:=Ad C hs
   refine dk 10 2 1 [2,3,6,7,29,30,31] hs G6 ?_
   refine Qv _ (ha2 a6 a8 _ ap _ _ px ai) (hv hs) ?_
   exact go (tg (a:=([2,3,6,7,29,30,31],()))) h hs hN K N q l trivial (q2 ax (fun e s=>Vl10 ml10 e s (Nat.lt_succ_self _)))
  refine rg [2,3,4,6,7,48] hs ?_
  refine B6 h hs ?_ ?_<;>intro hs h
  ·have hs:=Ad (Vl.cs_eqs a1) hs
   refine rg [2,3,4,6,7] hs ?_
   refine rg [2,3,6,7,54,55,56] hs ?_
   apply Ar
   refine AA (fun m e st=>∃ (j:Int) (b:List (ByteArray × Vl)) (c:Ev.Own),Ck e st B Rw L [(2,true,.clo fa2 ca2),(3,true,.box B.length 0),(6,true,.box (B.length+2) 0),(7,true,.box (B.length+3) 0),(54,true,.list (a1.fields.map Di) .none),(55,true,Ak (a1.fields.length:Int)),(56,true,Ak j)] [a0.cs,a1.cs,CQ,[Ak a1.kind,Ak a1.int,Ak a1.scale,.val (.string a1.text),.list (a1.list.map En) .none,.list (b.map Di) c]] [(7,b.length,c)] (GP n a0 a1 a2 m j b=some r)) n ⟨0,([]),.full,([]),Rw,ef hs,ef hs,Owns.of_eq ((l).full 7 0) Fh,h⟩ ?_
   rintro ml29 e st ⟨j,b,c,Xl29,Rl29,rfl,rfl,l,h⟩ Ul29 Vl29
   cases ml29 with
   | zero=>cases h
   | succ ml29 =>
   rw [GP] at h
   have hU:=l.unders
   simp only [List.mem_cons,List.not_mem_nil,or_false,forall_eq_or_imp,forall_eq] at hU
   refine AO hN K N rfl q l (H8 o l) (H8 o l) ?_
   refine rg [2,3,6,7,54,55,56,57] hs ?_
   apply Am;intro K31 Y
   refine B6 h hs ?_ ?_<;>intro hs h
   rotate_left
   ·refine sx [6,7] hs Q ?_
    exact ⟨a1.list,b,(.list (a1.list.map En) .none),(.list (b.map Di) c),([]),Rl29,ef hs,ef hs,(l).sub (List.sublist_append_left [] [(7,b.length,c)]),ef hs,ef hs,h⟩
   refine sk [2,3,6,7,54,55,56] hs Y ?_
   clear Y
   apply Am;intro K33 aq
   apply Ar
   obtain ⟨J,az,h⟩:=bind_some h
   obtain ⟨bc,bd,aj⟩:=Bo az
   have am:=Bz (f:=Di) aj
   have hs:=Ad am hs
   refine rg [2,3,6,7,11,54,55,56] hs ?_
   refine AD (fun e st=>∃ (i:List (ByteArray × Vl)) (p:ByteArray × Vl) (k:Ev.Own) (E:List AV),Ck e st B Rw L [(2,true,.clo fa2 ca2),(3,true,.box B.length 0),(6,true,.box (B.length+2) 0),(7,true,.box (B.length+3) 0),(11,true,.box (B.length+4) 0),(54,true,.list (a1.fields.map Di) .none),(55,true,Ak (a1.fields.length:Int)),(56,true,Ak j)] [a0.cs,a1.cs,CQ,[Ak a1.kind,Ak a1.int,Ak a1.scale,.val (.string a1.text),.list (a1.list.map En) .none,.list (i.map Di) k],E] [(7,i.length,k)] (E.map AV.pubCell = .val (.string p.1)::(p.2.cs)/\Jn n (GP n a0 a1 a2 ml29) j i p=some r)) ?_ ?_
   ·intro K38 aa
    obtain ⟨G,ar,h⟩:=bind_some h
    refine rc 2 [2,3,6,7,11,12,13,54,55,56] hs ?_;intro K39 ad
    refine Av _ (Hr w0 n _ _ _ a0 J.1 _ ar) (hv hs) ?_
    refine ne hs ad ?_
    clear ad
    refine rg [2,3,6,7,11,12,54,55,56,67] hs ?_
    refine B6 h hs ?_ ?_<;>intro hs h
    ·obtain ⟨H,ay,h⟩:=bind_some h
     have hs:=Ad (Vl.cs_eqs J.2) hs
     have hs:=Ad (Vl.cs_eqs H) hs
     refine rk 2 [2,3,6,7,11,54,55,56] hs ?_
     refine Qv _ (ha2 G.1.2.2.2.1 J.2 _ ay _ _ px l.pre) (hv hs) ?_
     refine ne hs aa ?_
     exact ⟨b,((J.1,H)),c,([.val (.string J.1),Ak H.kind,Ak H.int,Ak H.scale,.val (.string H.text),.list (H.list.map En) .none,.list (H.fields.map Di) .none]),([Ak G.1.1::(.val (.string G.1.2.1)::(Ak G.1.2.2.1::((G.1.2.2.2.1.cs)++([.list (G.1.2.2.2.2.map En) .none]))))]),Rl29,ef (cm hs),ef (cm hs),Owns.of_eq (l) Fh,ef (cm hs),h⟩
    refine sk [2,3,6,7,11,54,55,56] hs aa ?_
    exact ⟨b,J,c,(.val (.string J.1)::(J.2.cs)),([Ak G.1.1::(.val (.string G.1.2.1)::(Ak G.1.2.2.1::((G.1.2.2.2.1.cs)++([.list (G.1.2.2.2.2.map En) .none]))))]),Rl29,ef (cm hs),ef (cm hs),Owns.of_eq (l) Fh,ef (cm hs),h⟩
   ·clear h;rintro e st ⟨i,p,k,E,Xk37,Rk37,rfl,rfl,l,af,h⟩
    rw [Jn] at h
    refine GR (B.length+4) (by first | rfl | (simp only [Ea,Da,EF,DR];rfl)) af ?_;simp +decide only [go_sem,Nat.reduceAdd]
    show D8 _ _ _ _ _ _ _ _ [(2,true,.clo fa2 ca2),(3,true,.box B.length 0),(6,true,.box (B.length+2) 0),(7,true,.box (B.length+3) 0),(11,true,.box (B.length+4) 0),(54,true,.list (a1.fields.map Di) .none),(55,true,Ak (a1.fields.length:Int)),(56,true,Ak j)] ⟨B++([a0.cs,a1.cs,CQ,[Ak a1.kind,Ak a1.int,Ak a1.scale,.val (.string a1.text),.list (a1.list.map En) .none,.list (i.map Di) k],.val (.string p.1)::(p.2.cs)]++Xk37),Rk37,L⟩
    have hU:=l.unders
    simp only [List.mem_cons,List.not_mem_nil,or_false,forall_eq_or_imp,forall_eq] at hU
    refine AO hN K N rfl q l (H8 o l) (H8 o l) ?_
    exact go (tg (a:=([2,3,6,7,54,55,56],[2,3,6,7,54,55,56],()))) h hs hN K N q l (q1 (ae SG MC)) (q2 aq (fun e s=>Vl29 ml29 e s (Nat.lt_succ_self _)))
  refine rg [2,3,4,6,7,82] hs ?_
  refine B6 h hs ?_ ?_<;>intro hs h
  ·obtain ⟨D,aw,h⟩:=bind_some h
   refine rc 2 [2,4,6,7,14,15] hs ?_;intro K51 V
   refine Av _ (Hr w0 n _ _ _ a0 a1.text _ aw) (hv hs) ?_
   refine ne hs V ?_
   clear V
   refine rg [2,4,6,7,14,93] hs ?_
   refine B6 h hs ?_ ?_<;>intro hs h
   ·obtain ⟨a5,bg,ba,U,h⟩:=ix En h
    have ak:(a1.list.map En).getD 0 .junk=_:=U
    obtain ⟨av,au,h⟩:=bind_some h
    have hs:=Ad U hs
    have hs:=Ad ak hs
    have hs:=Ad (Vl.cs_eqs a1) hs
    refine dk 10 2 1 [6,7] hs G6 ?_
    refine Qv _ (ha2 D.1.2.2.2.1 a5 _ au _ _ px l.pre) (hv hs) ?_
    refine dn hs Q ?_
    exact ⟨([av]),a1.fields,(.list (([av]).map En) .full),(.list (a1.fields.map Di) .none),([Ak D.1.1::(.val (.string D.1.2.1)::(Ak D.1.2.2.1::((D.1.2.2.2.1.cs)++([.list (D.1.2.2.2.2.map En) .none]))))]),Rw,ef hs,ef hs,l,ef hs,ef hs,h⟩
   have hs:=Ad (Vl.cs_eqs a1) hs
   refine sk [6,7] hs Q ?_
   exact ⟨a1.list,a1.fields,(.list (a1.list.map En) .none),(.list (a1.fields.map Di) .none),([Ak D.1.1::(.val (.string D.1.2.1)::(Ak D.1.2.2.1::((D.1.2.2.2.1.cs)++([.list (D.1.2.2.2.2.map En) .none]))))]),Rw,ef hs,ef hs,l,ef hs,ef hs,h⟩
  have hs:=Ad (Vl.cs_eqs a1) hs
  refine sk [6,7] hs Q ?_
  exact ⟨a1.list,a1.fields,(.list (a1.list.map En) .none),(.list (a1.fields.map Di) .none),([]),Rw,ef hs,ef hs,l,ef hs,ef hs,h⟩
 ·clear h;rintro e st ⟨t,u,z,w,Xk4,Rk4,rfl,rfl,l,af,a9,h⟩
  rw [Gv] at h
  refine Gx (B.length+3) 4 (by first | rfl | (simp only [Ea,Da,EF,DR];rfl)) rfl af ?_;simp +decide only [go_sem,Nat.reduceAdd]
  refine Gx (B.length+3) 5 (by first | rfl | (simp only [Ea,Da,EF,DR];rfl)) rfl a9 ?_;simp +decide only [go_sem,Nat.reduceAdd]
  show D8 _ _ _ _ _ _ _ _ [(6,true,.box (B.length+2) 0),(7,true,.box (B.length+3) 0)] ⟨B++([a0.cs,a1.cs,CQ,[Ak a1.kind,Ak a1.int,Ak a1.scale,.val (.string a1.text),.list (t.map En) .none,.list (u.map Di) .none]]++Xk4),Rk4,L⟩
  refine AO hN K N rfl q l (H8 o l) (H8 o l) ?_
  refine rg [6] hs ?_
  exact rt h hs q l
def IJ (n:Nat) (g:Int->(List (ByteArray × Vl))->Option Vl) (b:Int) (b3_k24_5:List (ByteArray × Vl)) (b4_k24:ByteArray × Vl):Option Vl :=
 if (b3_k24_5.length+1)*104<=140737488355328/\b3_k24_5.length+1<=4611686018427387904 then
  if BN (b+1) then
   g (b+1) (b3_k24_5++[b4_k24])
  else none
 else none
def LS (n:Nat) (b:Vl) (b3_k7_5:List (ByteArray × Vl)):Option Vl :=
 some (Vl.mk b.kind b.int b.scale b.text b.list b3_k7_5)
def F9 (n:Nat) (y:Ty) (q:Vl) (a2:Ty->Vl->Option Vl):Nat->Int->(List (ByteArray × Vl))->Option Vl
 | 0,_,_=>none
 | m+1,b,b3_l15_5 =>
  if decide (b<(q.fields.length:Int)) then
   (Dw q.fields b).bind fun g =>
   (Fp n y g.1).bind fun h =>
   if h.2 then
    (a2 h.1.2.2.2.1 g.2).bind fun y30 =>
    IJ n (F9 n y q a2 m) b b3_l15_5 ((g.1,y30))
   else
    IJ n (F9 n y q a2 m) b b3_l15_5 g
  else
   LS n q b3_l15_5
def Nq (n:Nat) (b:Ty) (g:Vl) (h:Ty->Vl->Option Vl):Option Vl :=
 if b.kind=9 then
  F9 n b g h n 0 ([])
 else none
theorem VC (w0:World) (n:Nat) (B:Ao) (Rw:Ap) (L:Aq) (a0:Ty) (a1:Vl) (fa2:FuncId) (ca2:List AV) (a2:Ty->Vl->Option Vl) (ha2:∀ (x0:Ty) (x1:Vl) r,a2 x0 x1=some r->∀ B' rows,B <+: B'->Rw <+: rows->ACalls Tryz.prog w0 fa2 ([.agg (x0.cs),.agg (x1.cs)]++ca2) ⟨B',rows,L⟩ fun v s=>v = .agg (r.cs)/\s=⟨B',rows,L⟩) (r:Vl) (h:Nq n a0 a1 a2=some r) :
  ACalls Tryz.prog w0 183 [.agg (a0.cs),.agg (a1.cs),.clo fa2 ca2] ⟨B,Rw,L⟩ fun x st=>∃ (o0:VO) (rows:Ap),x = .agg ([Ak r.kind,Ak r.int,Ak r.scale,.val (.string r.text),.list (r.list.map En) .none,G7 o0 r.fields.length])/\st=⟨B,rows,L⟩/\Owns Rw rows [] .none [(o0,7,(r.fields).flatMap fun x=>(Di x).cells)]:=by
 rw [Nq] at h
 refine ACalls.finV (Qo [true,true,true,true,true,false] (rs:=[.cell 6 49]) Tryz.func183 rfl rfl Tryz.ntmps183 (AL Tryz.func183 rfl (by decide)) (Nat.le_of_ble_eq_true rfl) ?_)
 intro M0 W0 hN E F q hu
 dsimp only at hN E F q hu
 simp only [Ax]
 have k:=Owns.none Rw
 have hs:=Uu
 have l:=Cc (hu (.clo fa2 ca2) (by simp))
 obtain ⟨af,h⟩:=Au h
 have D:(decide (a0.kind=9))=true:=Ag af
 have z:(decide (a0.kind=8))=false:=Af (by omega)
 have hs:=Ad D hs
 have hs:=Ad z hs
 refine rg [2,3,4,6] hs ?_
 refine rg [2,3,4,6,7] hs ?_
 refine AD (fun e st=>∃ (j:List (ByteArray × Vl)) (o:VO) (Xk7:Ao) (Rk7:Ap),e=[(6,true,.box (B.length+2) 0),(7,true,.box (B.length+3) 0)]/\st=⟨B++([a0.cs,a1.cs,CQ,[Ak a1.kind,Ak a1.int,Ak a1.scale,.val (.string a1.text),.list (a1.list.map En) .none,G7 o j.length]]++Xk7),Rk7,L⟩/\Owns Rw Rk7 [] .none [(o,7,j.flatMap fun x=>(Di x).cells)]/\LS n a1 j=some r) ?_ ?_
 ·intro K8 aa
  apply Ar
  refine rg [2,3,4,6,7,17] hs ?_
  refine A7 false ev (ef hs) (fun hb10=>by cases hb10) (fun hb10=>?_)
  refine rg [2,3,4,6,7,48] hs ?_
  refine A7 true ev (ef hs) (fun hb12=>?_) (fun hb12=>by cases hb12)
  have hs:=Ad (Vl.cs_eqs a1) hs
  refine rg [2,3,4,6,7] hs ?_
  refine rg [2,3,6,7,54,55,56] hs ?_
  apply Ar
  refine NF (B.length+3) 5 (by simp only [Ea,Da,EF,DR];rfl) rfl ?_;simp +decide only [go_sem,Nat.reduceAdd,List.set_cons_zero,List.set_cons_succ]
  have k:=k.nilV 7
  refine AA (fun m e st=>∃ (g:Int) (d:List (ByteArray × Vl)) (c:VO) (Xl15:Ao) (Rl15:Ap),e=[(2,true,.clo fa2 ca2),(3,true,.box B.length 0),(6,true,.box (B.length+2) 0),(7,true,.box (B.length+3) 0),(54,true,.list (a1.fields.map Di) .none),(55,true,Ak (a1.fields.length:Int)),(56,true,Ak g)]/\st=⟨B++([a0.cs,a1.cs,CQ,[Ak a1.kind,Ak a1.int,Ak a1.scale,.val (.string a1.text),.list (a1.list.map En) .none,G7 c d.length]]++Xl15),Rl15,L⟩/\Owns Rw Rl15 [] .none [(c,7,d.flatMap fun x=>(Di x).cells)]/\F9 n a0 a1 a2 m g d=some r) n ⟨0,([]),.nil,([]),Rw,ef hs,ef hs,Owns.eqV (k) N6,h⟩ ?_
  rintro ml15 e st ⟨g,d,c,Xl15,Rl15,rfl,rfl,k,h⟩ Ul15 Vl15
  cases ml15 with
  | zero=>cases h
  | succ ml15 =>
  rw [F9] at h
  have y:=k.underV
  simp only [List.mem_cons,List.not_mem_nil,or_false,forall_eq_or_imp,forall_eq] at y
  refine AO hN E F rfl q k (H8 l k) (H8 l k) ?_ (vu @KY)
  refine rg [2,3,6,7,54,55,56,57] hs ?_
  apply Am;intro K18 J
  refine B6 h hs ?_ ?_<;>intro hs h
  rotate_left
  ·refine sx [6,7] hs aa ?_
   exact ⟨d,c,([]),Rl15,ef hs,ef hs,Owns.eqV (k) N6,h⟩
  refine sk [2,3,6,7,54,55,56] hs J ?_
  clear J
  apply Am;intro K20 H
  apply Ar
  obtain ⟨u,Y,h⟩:=bind_some h
  obtain ⟨ag,ab,Q⟩:=Bo Y
  have U:=Bz (f:=Di) Q
  have hs:=Ad U hs
  refine rg [2,3,6,7,11,54,55,56] hs ?_
  refine AD (fun e st=>∃ (a:List (ByteArray × Vl)) (b:ByteArray × Vl) (i:VO) (t:List AV) (Xk24:Ao) (Rk24:Ap),e=[(2,true,.clo fa2 ca2),(3,true,.box B.length 0),(6,true,.box (B.length+2) 0),(7,true,.box (B.length+3) 0),(11,true,.box (B.length+4) 0),(54,true,.list (a1.fields.map Di) .none),(55,true,Ak (a1.fields.length:Int)),(56,true,Ak g)]/\st=⟨B++([a0.cs,a1.cs,CQ,[Ak a1.kind,Ak a1.int,Ak a1.scale,.val (.string a1.text),.list (a1.list.map En) .none,G7 i a.length],t]++Xk24),Rk24,L⟩/\Owns Rw Rk24 [] .none [(i,7,a.flatMap fun x=>(Di x).cells)]/\t.map AV.pubCell = .val (.string b.1)::(b.2.cs)/\IJ n (F9 n a0 a1 a2 ml15) g a b=some r) ?_ ?_
  ·intro K25 N
   obtain ⟨p,V,h⟩:=bind_some h
   refine rc 2 [2,3,6,7,11,12,13,54,55,56] hs ?_;intro K26 K
   refine Av _ (Hr w0 n _ _ _ a0 u.1 _ V) (hv hs) ?_
   refine ne hs K ?_
   clear K
   refine rg [2,3,6,7,11,12,54,55,56,67] hs ?_
   refine B6 h hs ?_ ?_<;>intro hs h
   ·obtain ⟨w,Z,h⟩:=bind_some h
    have hs:=Ad (Vl.cs_eqs u.2) hs
    have hs:=Ad (Vl.cs_eqs w) hs
    refine rk 2 [2,3,6,7,11,54,55,56] hs ?_
    refine Qv _ (ha2 p.1.2.2.2.1 u.2 _ Z _ _ px k.pre) (hv hs) ?_
    refine ne hs N ?_
    exact ⟨d,((u.1,w)),c,([.val (.string u.1),Ak w.kind,Ak w.int,Ak w.scale,.val (.string w.text),.list (w.list.map En) .none,.list (w.fields.map Di) .none]),([Ak p.1.1::(.val (.string p.1.2.1)::(Ak p.1.2.2.1::((p.1.2.2.2.1.cs)++([.list (p.1.2.2.2.2.map En) .none]))))]),Rl15,ef (cm hs),ef (cm hs),Owns.eqV (k) N6,ef (cm hs),h⟩
   refine sk [2,3,6,7,11,54,55,56] hs N ?_
   exact ⟨d,u,c,(.val (.string u.1)::(u.2.cs)),([Ak p.1.1::(.val (.string p.1.2.1)::(Ak p.1.2.2.1::((p.1.2.2.2.1.cs)++([.list (p.1.2.2.2.2.map En) .none]))))]),Rl15,ef (cm hs),ef (cm hs),Owns.eqV (k) N6,ef (cm hs),h⟩
  ·clear h;rintro e st ⟨a,b,i,t,Xk24,Rk24,rfl,rfl,k,ad,h⟩
   rw [IJ] at h
   refine GR (B.length+4) (by first | rfl | (simp only [Ea,Da,EF,DR];rfl)) ad ?_;simp +decide only [go_sem,Nat.reduceAdd]
   show D8 _ _ _ _ _ _ _ _ [(2,true,.clo fa2 ca2),(3,true,.box B.length 0),(6,true,.box (B.length+2) 0),(7,true,.box (B.length+3) 0),(11,true,.box (B.length+4) 0),(54,true,.list (a1.fields.map Di) .none),(55,true,Ak (a1.fields.length:Int)),(56,true,Ak g)] ⟨B++([a0.cs,a1.cs,CQ,[Ak a1.kind,Ak a1.int,Ak a1.scale,.val (.string a1.text),.list (a1.list.map En) .none,G7 i a.length],.val (.string b.1)::(b.2.cs)]++Xk24),Rk24,L⟩
   have y:=k.underV
   simp only [List.mem_cons,List.not_mem_nil,or_false,forall_eq_or_imp,forall_eq] at y
   refine AO hN E F rfl q k (H8 l k) (H8 l k) ?_ (vu @KY)
   obtain ⟨O,h⟩:=Au h
   obtain ⟨ae,G,k,C⟩:=k.appendV (P:=Tryz.prog) (n:=a.length) (m:=1) SG (by rw [MC];rfl) (by decide) ((CH (f:=Di) (sz:=7) (fun _=>by simp +decide only [go_sem]) _)) O.1 O.2 [Di b] rfl ((a++[b]).flatMap fun x=>(Di x).cells) (by simp only [List.flatMap_append,List.flatMap_cons,List.flatMap_nil,List.append_nil,List.nil_append,Vp])
   simp only [List.mem_singleton,forall_eq,Fe,E6,E9,E8,Fb,EP,D2,D4,E3,CJ,CL,D1,DX,DZ,Fa,DW,E5,IM] at C
   have hs:=Ad C hs
   refine rl [2,3,6,7,54,55,56] hs H ?_
   clear H
   obtain ⟨ah,h⟩:=Au h
   refine rl [2,3,6,7,54,55,56] hs (fun e s=>Vl15 ml15 e s (Nat.lt_succ_self _)) ?_
   exact ⟨(g+1),(a++[b]),ae,([.val (.string b.1)::(b.2.cs)]),G,ef hs,ef hs,Owns.eqV (k) N6,h⟩
 ·clear h;rintro e st ⟨j,o,Xk7,Rk7,rfl,rfl,k,h⟩
  rw [LS] at h
  have y:=k.underV
  simp only [List.mem_cons,List.not_mem_nil,or_false,forall_eq_or_imp,forall_eq] at y
  refine AO hN E F rfl q k (H8 l k) (H8 l k) ?_ (vu @KY)
  refine rg [6] hs ?_
  apply BB;simp +decide only [go_sem,Nat.reduceAdd,D,z]
  have hgt:=Option.some.inj h;subst hgt
  have y:=k.underV
  simp only [List.mem_cons,List.not_mem_nil,or_false,forall_eq_or_imp,forall_eq] at y
  refine Zp k q rfl (by (simp +decide only [go_sem,Nat.reduceAdd,D,z])<;>(try (repeat' apply Ad))<;>first | omega | assumption) (vu @KY) ⟨_,_,?_,rfl,k.sub (List.nil_sublist _)⟩
  first | rfl | (simp +decide only [go_sem,Nat.reduceAdd,D,z];done) | (simp +decide only [go_sem,Nat.reduceAdd,Vl.cs,Ty.cs,D,z];done)
def Jb (rec:Ty->Vl->Option Vl) (n:Nat) (b:Vl) (b3_k17_5:List (ByteArray × Vl)):Option Vl :=
 some (Vl.mk b.kind b.int b.scale b.text b.list b3_k17_5)
def HF (rec:Ty->Vl->Option Vl) (n:Nat) (h:Ty) (q:Vl):Nat->Int->(List (ByteArray × Vl))->Option Vl
 | 0,_,_=>none
 | m+1,b,b3_l20_5 =>
  if decide (b<(h.fields.length:Int)) then
   (Dw h.fields b).bind fun g =>
   if (!(decide (g.2.2.1=3)))||(!(decide ((g.2.2.2.2.length:Int)=1))) then
    if BN (b+1) then
     (HF rec n h q m) (b+1) b3_l20_5
    else none
   else
    AM
  else
   Jb rec n q b3_l20_5
def Lm (rec:Ty->Vl->Option Vl) (n:Nat) (b:Ty) (g:Vl):Option Vl :=
 if !(decide (g.kind=b.kind)) then
  AM
 else
  (Kp n g).bind fun y5 =>
  if !y5 then
   AM
  else
   if decide (b.kind=9) then
    (Nq n b g (fun (h:Ty) (q:Vl)=>rec h q)).bind fun y9 =>
    HF rec n b y9 n 0 y9.fields
   else
    (OQ n b g (fun (h:Ty) (q:Vl)=>rec h q)).bind fun y =>
    some (y)
def IU:Nat->Ty->Vl->Option Vl
 | 0,_,_=>none
 | n+1,b,g=>Lm (IU n) n b g
def Lc (w0:World) (F:Ty->Vl->Option Vl):Prop:=∀ (B:Ao) (Rw:Ap) (L:Aq) (b:Ty) (g:Vl) (r:Vl),F b g=some r->ACalls Tryz.prog w0 133 [.agg (b.cs),.agg (g.cs)] ⟨B,Rw,L⟩ fun x st=>x = .agg (r.cs)/\st=⟨B,Rw,L⟩
theorem QT (w0:World) (rec:Ty->Vl->Option Vl) (ih:Lc w0 rec) (n:Nat):Lc w0 (Lm rec n):=by
 intro B Rw L a0 a1 r h
 rw [Lm] at h
 refine hd [.cell 4 49] Tryz.func133 Tryz.ntmps133 fun M0 W0 hN w z j hu k hs=>?_
 simp only [Ax]
 refine rg [2,3,4] hs ?_
 apply Am;intro K2 N
 apply Am;intro K3 J
 rcases Bool.eq_false_or_eq_true (!(decide (a1.kind=a0.kind))) with hf4 | hf4
 ·replace h:=Cj h hf4
  exact nS h
 ·replace h:=Cm h hf4
  obtain ⟨y5,ab,h⟩:=bind_some h
  have hs:=Ad hf4 hs
  refine rk 2 [2,3,4,19] hs ?_
  refine Av _ (PS w0 n _ _ _ a1 _ ab) (hv hs) ?_
  refine ne hs J ?_
  clear J
  refine B6 h hs ?_ ?_<;>intro hs h
  ·have K:=hs.1
   exact nS h
  have K:=hs.1
  refine sk [2,3,4] hs N ?_
  clear N
  apply Am;intro K7 v
  rcases Bool.eq_false_or_eq_true (decide (a0.kind=9)) with hf8 | hf8
  ·replace h:=Cj h hf8
   obtain ⟨l,V,h⟩:=bind_some h
   have hs:=Ad hf8 hs
   refine rk 2 [2,4,5] hs ?_
   refine BE _ (VC w0 n _ _ _ a0 a1 133 [] (fun (C:Ty) (E:Vl)=>rec C E) (fun C E r Y B' rows' ad Z=>by exact ih _ _ _ C E _ Y) _ V) (hv hs) ?_;rintro _ _ ⟨U,Rv12,rfl,rfl,p⟩
   have k:=k.callV p
   refine ne hs v ?_
   clear v
   apply Am;intro K13 q
   refine rg [2,4,5,26] hs ?_
   refine A7 false ev (ef hs) (fun hb15=>by cases hb15) (fun hb15=>?_)
   refine sk [2,4,5] hs q ?_
   clear q
   refine AD (fun e st=>∃ (d:List (ByteArray × Vl)) (g:VO) (Xk17:Ao) (Rk17:Ap),e=[(4,true,.box (B.length+2) 0),(5,true,.box (B.length+3) 0)]/\st=⟨B++([a0.cs,a1.cs,CQ,[Ak l.kind,Ak l.int,Ak l.scale,.val (.string l.text),.list (l.list.map En) .none,G7 g d.length]]++Xk17),Rk17,L⟩/\Owns Rw Rk17 [] .none [(g,7,d.flatMap fun x=>(Di x).cells)]/\Jb rec n l d=some r) ?_ ?_
   ·intro K18 H
    refine rg [4,5,29,30,31] hs ?_
    apply Ar
    refine AA (fun m e st=>∃ (i:Int) (b:List (ByteArray × Vl)) (c:VO) (Xl20:Ao) (Rl20:Ap),e=[(4,true,.box (B.length+2) 0),(5,true,.box (B.length+3) 0),(29,true,.list (a0.fields.map N3) .none),(30,true,Ak (a0.fields.length:Int)),(31,true,Ak i)]/\st=⟨B++([a0.cs,a1.cs,CQ,[Ak l.kind,Ak l.int,Ak l.scale,.val (.string l.text),.list (l.list.map En) .none,G7 c b.length]]++Xl20),Rl20,L⟩/\Owns Rw Rl20 [] .none [(c,7,b.flatMap fun x=>(Di x).cells)]/\HF rec n a0 l m i b=some r) n ⟨0,l.fields,U,([]),Rv12,ef hs,ef hs,Owns.eqV (k) N6,h⟩ ?_
    rintro ml20 e st ⟨i,b,c,Xl20,Rl20,rfl,rfl,k,h⟩ Ul20 Vl20
    cases ml20 with
    | zero=>cases h
    | succ ml20 =>
    rw [HF] at h
    have D:=k.underV
    simp only [List.mem_cons,List.not_mem_nil,or_false,forall_eq_or_imp,forall_eq] at D
    refine AO hN w z rfl j k ow ow ?_ (vu @KY)
    refine rg [4,5,29,30,31,32] hs ?_
    apply Am;intro K22 t
    refine B6 h hs ?_ ?_<;>intro hs h
    rotate_left
    ·refine sx [4,5] hs H ?_
     exact ⟨b,c,([]),Rl20,ef hs,ef hs,Owns.eqV (k) N6,h⟩
    refine sk [4,5,29,30,31] hs t ?_
    clear t
    apply Am;intro K24 u
    apply Ar
    obtain ⟨o,G,h⟩:=bind_some h
    obtain ⟨aa,ae,y⟩:=Bo G
    have F:=Bz (f:=N3) y
    have hs:=Ad F hs
    refine rg [4,5,7,29,30,31] hs ?_
    apply Am;intro K27 af
    refine rg [4,5,7,29,30,31,43] hs ?_
    refine B6 h hs ?_ ?_<;>intro hs h
    ·refine sx [4,5,29,30,31] hs u ?_
     clear u
     obtain ⟨ag,h⟩:=Au h
     refine rl [4,5,29,30,31] hs (fun e s=>Vl20 ml20 e s (Nat.lt_succ_self _)) ?_
     exact ⟨(i+1),b,c,([Ak o.1::(.val (.string o.2.1)::(Ak o.2.2.1::((o.2.2.2.1.cs)++([.list (o.2.2.2.2.map En) .none]))))]),Rl20,ef hs,ef hs,Owns.eqV (k) N6,h⟩
    exact nS h
   ·clear h;rintro e st ⟨d,g,Xk17,Rk17,rfl,rfl,k,h⟩
    rw [Jb] at h
    have D:=k.underV
    simp only [List.mem_cons,List.not_mem_nil,or_false,forall_eq_or_imp,forall_eq] at D
    refine AO hN w z rfl j k ow ow ?_ (vu @KY)
    refine rg [4] hs ?_
    refine LK (B.length+2) 5 (by first | rfl | (simp only [Ea,Da];rfl) | (simp +decide only [go_sem,Nat.reduceAdd,hf4,K,hf8])) (by first | rfl | (simp only [QA,List.length_set];rfl)) k true (.inl rfl) (by decide) ((CH (f:=Di) (sz:=7) (fun _=>by simp +decide only [go_sem]) _)) (QB (f:=Di) 7 (fun _=>rfl) (fun _=>by simp +decide only [go_sem]) _) (fun Q k=>?_)
    simp +decide only [go_sem,Nat.reduceAdd,List.set_cons_zero,List.set_cons_succ]
    exact rt h hs j k
  ·replace h:=Cm h hf8
   obtain ⟨ah,O,h⟩:=bind_some h
   have hs:=Ad hf8 hs
   refine rk 2 [2,4,5] hs ?_
   refine Av _ (Xb w0 n _ _ _ a0 a1 133 [] (fun (C:Ty) (E:Vl)=>rec C E) (fun C E r Y B' rows' ad Z=>by exact ih _ _ _ C E _ Y) _ O) (hv hs) ?_
   exact go (tg (a:=([2,4,5,26],[4],()))) h hs hN w z j k trivial (q1 v)
theorem NU (w0:World):∀ n:Nat,Lc w0 (IU n)
 | 0=>fun _ _ _ _ _ _ h=>(nomatch h)
 | n+1=>QT w0 (IU n) (NU w0 n) n
def Nk (b:ByteArray × Int) (g:Bool):Option (Bool × Bool) :=
 some ((false,false))
theorem VU (w0:World) (B:Ao) (Rw:Ap) (L:Aq) (a0:ByteArray × Int) (la1:Nat) (a1:Bool) (hla1:B[la1]? = some ([.val (.bool a1)])) (r:Bool × Bool) (h:Nk a0 a1=some r) :
  ACalls Tryz.prog w0 100 [.agg (.val (.string a0.1)::([Ak a0.2])),.box la1 0] ⟨B,Rw,L⟩ fun x st=>x = .val (.bool r.1)/\st=⟨(B.set la1 [.val (.bool r.2)]),Rw,L⟩:=by
 rw [Nk] at h
 refine hd [.tmp 3] Tryz.func100 Tryz.ntmps100 fun M0 W0 g d e b i f hs=>?_
 simp only [Ax]
 have c:=(Aj.1 hla1).1
 have hs:=Ad (AH hla1) hs
 exact go (tg (a:=([1],[],[3],()))) h hs g d e b f trivial trivial
def Jg (a0_done:Bool) (x0_ok:Bool) (g:ByteArray) (h:Int):Option (Bool × Bool) :=
 if !a0_done then
  (Nk ((g,h)) x0_ok).bind fun b =>
  if !b.1 then
   some ((true,b.2))
  else
   AM
 else
  AM
theorem Rf (w0:World) (B:Ao) (Rw:Ap) (L:Aq) (lx0_ok:Nat) (la0:Nat) (a0_done:Bool) (hla0:B[la0]? = some ([.clo 100 [.box lx0_ok 0],.val (.bool a0_done)])) (x0_ok:Bool) (hlx0_ok:B[lx0_ok]? = some ([.val (.bool x0_ok)])) (hne_lx0_ok_la0:lx0_ok≠la0) (a1:ByteArray) (a2:Int) (r:Bool × Bool) (h:Jg a0_done x0_ok a1 a2=some r) :
  ACalls Tryz.prog w0 138 [.box la0 0,.val (.string a1),Ak a2] ⟨B,Rw,L⟩ fun x st=>x = .tup []/\st=⟨((B.set la0 ([.clo 100 [.box lx0_ok 0],.val (.bool r.1)])).set lx0_ok [.val (.bool r.2)]),Rw,L⟩:=by
 rw [Jg] at h
 refine hd [] Tryz.func138 Tryz.ntmps138 fun M0 W0 n k j a m i hs=>?_
 simp only [Ax]
 have f:=(Aj.1 hla0).1
 have d:=(Aj.1 hlx0_ok).1
 have b:=Ad (AH hla0) (Ad (AH hlx0_ok) (Ad (FD hla0 hne_lx0_ok_la0) (Ad (FD hlx0_ok (Ne.symm hne_lx0_ok_la0)) (Ad (QN hne_lx0_ok_la0) (Ad (Lu hla0 lx0_ok) (Ad (Lu hlx0_ok la0) (Ad (Lt hla0 la0 lx0_ok) (Ad (Lt hlx0_ok la0 lx0_ok) (Ad (JL lx0_ok) (Ad (JL la0) (Ad (Xo hla0 hne_lx0_ok_la0) (TD hlx0_ok (Ne.symm hne_lx0_ok_la0)))))))))))))
 apply Am;intro K1 e
 rcases Bool.eq_false_or_eq_true (!a0_done) with hf2 | hf2
 ·replace h:=Cj h hf2
  obtain ⟨l,g,h⟩:=bind_some h
  have hs:=Ad b hs
  have hs:=Ad hf2 hs
  refine rk 2 [0,21] hs ?_
  refine BE _ (VU w0 _ _ _ ((a1,a2)) lx0_ok x0_ok (ef hs) _ g) (hv hs) ?_;rintro _ _ ⟨rfl,rfl⟩
  refine ne hs e ?_
  clear e
  refine B6 h hs ?_ ?_<;>intro hs h
  ·have c:=hs.1
   apply As 1 []
   rw [An];simp +decide only [go_sem,Nat.reduceAdd,b,hf2,c]
   (repeat' with_reducible apply Ad)<;>first | exact cl | skip
   have hgt:=Option.some.inj h;subst hgt
   first | refine FV (AK (AK a ow) ow) MZ i.pre ev ⟨?_,by first | rfl | (simp only [Bd hla0,Bd hlx0_ok];done)⟩ | refine HM (AK (AK a ow) ow) MZ i.pre ev ⟨?_,by first | rfl | (simp only [Bd hla0,Bd hlx0_ok];done)⟩
   first | rfl | (simp +decide only [go_sem,Nat.reduceAdd,b,hf2,c];done) | (simp +decide only [go_sem,Nat.reduceAdd,Vl.cs,Ty.cs,b,hf2,c];done)
  have c:=hs.1
  exact nS h
 ·replace h:=Cm h hf2
  exact nS h
def G8 (a0_done:Bool) (x0_ok:Bool) (b:Ty) (q:ByteArray) (g:Int):Option (Bool × Bool) :=
 if (decide (g<b.min))||(decide (b.max<g)) then
  (Jg a0_done x0_ok q 2).bind fun h =>
  some ((h.1,h.2))
 else
  some ((a0_done,x0_ok))
theorem Oe (w0:World) (B:Ao) (Rw:Ap) (L:Aq) (lx0_ok:Nat) (la0:Nat) (a0_done:Bool) (hla0:B[la0]? = some ([.clo 100 [.box lx0_ok 0],.val (.bool a0_done)])) (x0_ok:Bool) (hlx0_ok:B[lx0_ok]? = some ([.val (.bool x0_ok)])) (hne_lx0_ok_la0:lx0_ok≠la0) (a1:Ty) (a2:ByteArray) (a3:Int) (r:Bool × Bool) (h:G8 a0_done x0_ok a1 a2 a3=some r) :
  ACalls Tryz.prog w0 140 [.box la0 0,.agg (a1.cs),.val (.string a2),Ak a3] ⟨B,Rw,L⟩ fun x st=>x = .tup []/\st=⟨((B.set la0 ([.clo 100 [.box lx0_ok 0],.val (.bool r.1)])).set lx0_ok [.val (.bool r.2)]),Rw,L⟩:=by
 rw [G8] at h
 refine hd [] Tryz.func140 Tryz.ntmps140 fun M0 W0 m j i a l f hs=>?_
 simp only [Ax]
 have e:=(Aj.1 hla0).1
 have d:=(Aj.1 hlx0_ok).1
 have b:=Ad (AH hla0) (Ad (AH hlx0_ok) (Ad (FD hla0 hne_lx0_ok_la0) (Ad (FD hlx0_ok (Ne.symm hne_lx0_ok_la0)) (Ad (QN hne_lx0_ok_la0) (Ad (Lu hla0 lx0_ok) (Ad (Lu hlx0_ok la0) (Ad (Lt hla0 la0 lx0_ok) (Ad (Lt hlx0_ok la0 lx0_ok) (Ad (JL lx0_ok) (Ad (JL la0) (Ad (Xo hla0 hne_lx0_ok_la0) (TD hlx0_ok (Ne.symm hne_lx0_ok_la0)))))))))))))
 have hs:=Ad b hs
 refine rg [0,2,3,5] hs ?_
 refine rg [0,2,17] hs ?_
 refine B6 h hs ?_ ?_<;>intro hs h
 ·have c:=hs.1
  obtain ⟨k,g,h⟩:=bind_some h
  apply As 2 []
  rw [An];simp +decide only [go_sem,Nat.reduceAdd,b,c]
  (repeat' apply Ad)<;>first | (refine BE _ (Rf w0 _ _ _ lx0_ok la0 a0_done (ef hs) x0_ok (ef hs) nq a2 2 _ g) (hv hs) ?_;rintro _ _ ⟨rfl,rfl⟩) | exact cl
  rw [An];simp +decide only [go_sem,Nat.reduceAdd,b,c]
  (repeat' with_reducible apply Ad)<;>first | exact cl | skip
  have hgt:=Option.some.inj h;subst hgt
  first | refine FV (AK (AK a ow) ow) MZ f.pre ev ⟨?_,by first | rfl | (simp only [Bd hla0,Bd hlx0_ok];done)⟩ | refine HM (AK (AK a ow) ow) MZ f.pre ev ⟨?_,by first | rfl | (simp only [Bd hla0,Bd hlx0_ok];done)⟩
  first | rfl | (simp +decide only [go_sem,Nat.reduceAdd,b,c];done) | (simp +decide only [go_sem,Nat.reduceAdd,Vl.cs,Ty.cs,b,c];done)
 have c:=hs.1
 refine EZ (C9 [] _) ?_ (BI _ _)
 apply Bq;simp +decide only [go_sem,Nat.reduceAdd]
 (repeat' with_reducible apply Ad)<;>first | exact cl | skip
 have hgt:=Option.some.inj h;subst hgt
 first | refine FV a rfl f.pre ev ⟨?_,by first | rfl | (simp only [Bd hla0,Bd hlx0_ok];done)⟩ | refine HM a rfl f.pre ev ⟨?_,by first | rfl | (simp only [Bd hla0,Bd hlx0_ok];done)⟩
 first | rfl | (simp +decide only [go_sem,Nat.reduceAdd,b,c];done) | (simp +decide only [go_sem,Nat.reduceAdd,Vl.cs,Ty.cs,b,c];done)
end Go.Proofs.YtbfenpeblbonlaaGreatDoor
