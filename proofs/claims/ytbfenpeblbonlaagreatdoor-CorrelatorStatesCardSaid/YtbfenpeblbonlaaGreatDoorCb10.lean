/-
  Part 10 of the proof: rules and walks that the claim's last text uses.
-/
import Derived.Test.YtbfenpeblbonlaaGreatDoorCb1
import Derived.Test.YtbfenpeblbonlaaGreatDoorCb2
import Derived.Test.YtbfenpeblbonlaaGreatDoorCb3
import Derived.Test.YtbfenpeblbonlaaGreatDoorCb4
import Derived.Test.YtbfenpeblbonlaaGreatDoorCb5
import Derived.Test.YtbfenpeblbonlaaGreatDoorCb6
import Derived.Test.YtbfenpeblbonlaaGreatDoorCb7
import Derived.Test.YtbfenpeblbonlaaGreatDoorCb9
set_option linter.unusedSimpArgs false
set_option linter.unusedVariables false
set_option maxRecDepth 100000
set_option maxHeartbeats 4000000
namespace Go.Proofs.YtbfenpeblbonlaaGreatDoor
open Go Go.RowKit Go.Ev
def Lq (n:Nat)  : Option Bool :=
 (IP n ([(0,1,2,0),(4,1,2,0)])).bind fun y3 =>
 (DK ((0,0,0,0))).bind fun y5 =>
 (MQ n y5 y3).bind fun y6 =>
 if !(decide ((y6.length:Int)=2)) then
  none
 else
  (Dw y6 0).bind fun h =>
  if !(decide ((h.requests.length:Int)=1)) then
   none
  else
   if !(decide ((h.outputs.length:Int)=0)) then
    none
   else
    if !(decide ((h.state.slots.length:Int)=1)) then
     none
    else
     (Dw y6 1).bind fun q =>
     if !(decide ((q.outputs.length:Int)=1)) then
      none
     else
      if !(decide ((q.state.slots.length:Int)=0)) then
       AM
      else
       (Dw h.requests 0).bind fun g =>
       (Dw q.outputs 0).bind fun b =>
       if ((decide (g.call=1))&&(MY g.service ((⟨#[115,116,111,99,107]⟩:ByteArray))))&&(decide ((g.stamp.2.length:Int)=2)) then
        (Dw g.stamp.2 1).bind fun x22 =>
        if ((((decide (x22=0))&&(decide (b.2.stamp.1=2)))&&(decide ((b.2.stamp.2.length:Int)=2)))&&(decide (b.2.mass=100)))&&(decide ((b.2.body.fields.length:Int)=2)) then
         (Dw b.2.body.fields 1).bind fun y =>
         some (decide (y.2.int=4))
        else
         AM
       else
        AM
theorem Xt (w0:World) (hE:QU w0) (hM:Qx w0) (hP:Pow10 w0) (hT:Lib.Utf8Tabs 1 2 w0) (n:Nat) (B:Ao) (Rw:Ap) (L:Aq)  (r:Bool) (h:Lq n  = some r) :
  ACalls Tryz.prog w0 10 [] ⟨B,Rw,L⟩ fun x st=>x = .val (.bool r)/\st=⟨B,Rw,L⟩:=by
 rw [Lq] at h
 refine hd [.tmp 0] Tryz.func10 Tryz.ntmps10 fun M0 W0 hN C E m hu V hs=>?_
 simp only [Ax]
 refine rg [] hs ?_
 obtain ⟨y3,N,h⟩:=bind_some h
 refine rc 2 [1] hs ?_;intro K2 w
 refine Av _ (PO w0 n _ _ _ ([(0,1,2,0),(4,1,2,0)]) _ N) (hv hs) ?_
 refine ne hs w ?_
 clear w
 obtain ⟨Z,F,h⟩:=bind_some h
 obtain ⟨z,Q,h⟩:=bind_some h
 refine rc 3 [2] hs ?_;intro K4 u
 refine Av _ (Ie w0 _ _ _ ((0,0,0,0)) _ F) (hv hs) ?_
 refine nc hs ?_
 refine Av _ (U9 w0 hE hM hP hT n _ _ _ Z y3 _ Q) (hv hs) ?_
 refine ne hs u ?_
 clear u
 apply Am;intro K7 t
 apply Am;intro K8 q
 rcases Bool.eq_false_or_eq_true (!(decide ((z.length:Int)=2))) with hf9 | hf9
 ·replace h:=Cj h hf9
  cases h
 ·replace h:=Cm h hf9
  obtain ⟨o,H,J,b,h⟩:=ix NJ h
  have k:(z.map NJ).getD 0 .junk=_:=b
  rcases Bool.eq_false_or_eq_true (!(decide ((o.requests.length:Int)=1))) with hf11 | hf11
  ·replace h:=Cj h hf11
   cases h
  ·replace h:=Cm h hf11
   rcases Bool.eq_false_or_eq_true (!(decide ((o.outputs.length:Int)=0))) with hf12 | hf12
   ·replace h:=Cj h hf12
    cases h
   ·replace h:=Cm h hf12
    rcases Bool.eq_false_or_eq_true (!(decide ((o.state.slots.length:Int)=1))) with hf13 | hf13
    ·replace h:=Cj h hf13
     cases h
    ·replace h:=Cm h hf13
     obtain ⟨v,O,U,e,h⟩:=ix NJ h
     have f:(z.map NJ).getD 1 .junk=_:=e
     rcases Bool.eq_false_or_eq_true (!(decide ((v.outputs.length:Int)=1))) with hf15 | hf15
     ·replace h:=Cj h hf15
      cases h
     ·replace h:=Cm h hf15
      have hs:=Ad hf9 hs
      have hs:=Ad b hs
      have hs:=Ad k hs
      have hs:=Ad hf11 hs
      have hs:=Ad hf12 hs
      have hs:=Ad hf13 hs
      have hs:=Ad e hs
      have hs:=Ad f hs
      have hs:=Ad hf15 hs
      refine rl [2,57] (al hs) q ?_
      clear q
      refine B6 h hs ?_ ?_<;>intro hs h
      ·have l:=hs.1
       exact nS h
      have l:=hs.1
      refine sk [2] hs t ?_
      clear t
      apply Am;intro K17 p
      obtain ⟨Y,G,y,c,h⟩:=ix N5 h
      have j:(o.requests.map N5).getD 0 .junk=_:=c
      obtain ⟨aa,D,K,d,h⟩:=ix M8 h
      have g:(v.outputs.map M8).getD 0 .junk=_:=d
      apply D9 G6 [13,14,15,16] [3,4] kr (fun s=>∃ (X:Ao) (rows:Ap),s=⟨B++([]++X),rows,L⟩) 5 (B.length+0)
      ·simp +decide only [go_sem,Nat.reduceAdd]
      ·rintro s ⟨X,rows,rfl⟩
       refine ⟨1,?_⟩
       rw [An];simp +decide only [go_sem,Nat.reduceAdd,Bh,hf9,b,k,hf11,hf12,hf13,e,f,hf15,l,c,j,d,g]
       (repeat' apply Ad)<;>first | rfl | exact cl
      ·refine Good.mk [13,14] kr ⟨[],_,by first | rfl | (simp only [List.append_nil,List.nil_append];done) | (simp only [List.append_nil,List.nil_append];rfl)⟩ ?_ ?_
       ·intro h;exact absurd h (by decide)
       ·intro i hi;simp only [List.mem_cons,List.not_mem_nil,or_false] at hi
        rcases hi with rfl | rfl
        ·apply Bl rfl rfl ev
         ·simp +decide only [go_sem,Nat.reduceAdd,Cd,hf9,b,k,hf11,hf12,hf13,e,f,hf15,l,c,j,d,g]
          (repeat' apply Ad)<;>first | rfl | exact cl
         ·simp +decide only [go_sem,Nat.reduceAdd,hf9,b,k,hf11,hf12,hf13,e,f,hf15,l,c,j,d,g]
          refine Good.mk [14] kr ⟨_,_,by first | rfl | (simp only [List.append_nil,List.nil_append];done) | (simp only [List.append_nil,List.nil_append];rfl)⟩ ?_ ?_
          ·intro h;exact absurd h (by decide)
          ·intro i hi;simp only [List.mem_cons,List.not_mem_nil,or_false] at hi
           subst hi
           ·apply Bl rfl rfl ev
            ·simp +decide only [go_sem,Nat.reduceAdd,Cd,hf9,b,k,hf11,hf12,hf13,e,f,hf15,l,c,j,d,g]
             (repeat' apply Ad)<;>first | rfl | exact cl
            ·simp +decide only [go_sem,Nat.reduceAdd,hf9,b,k,hf11,hf12,hf13,e,f,hf15,l,c,j,d,g]
             refine Good.mk [15] kr ⟨_,_,by first | rfl | (simp only [List.append_nil,List.nil_append];done) | (simp only [List.append_nil,List.nil_append];rfl)⟩ ?_ ?_
             ·intro h;exact absurd h (by decide)
             ·intro i hi;simp only [List.mem_cons,List.not_mem_nil,or_false] at hi
              subst hi
              ·apply Bl rfl rfl ev
               ·simp +decide only [go_sem,Nat.reduceAdd,Cd,hf9,b,k,hf11,hf12,hf13,e,f,hf15,l,c,j,d,g]
                (repeat' apply Ad)<;>first | rfl | exact cl
               ·simp +decide only [go_sem,Nat.reduceAdd,hf9,b,k,hf11,hf12,hf13,e,f,hf15,l,c,j,d,g]
                refine Good.mk [16] kr ⟨_,_,by first | rfl | (simp only [List.append_nil,List.nil_append];done) | (simp only [List.append_nil,List.nil_append];rfl)⟩ ?_ ?_
                ·intro h;exact absurd h (by decide)
                ·intro i hi;simp only [List.mem_cons,List.not_mem_nil,or_false] at hi
                 subst hi
                 ·apply Bl rfl rfl ev
                  ·simp +decide only [go_sem,Nat.reduceAdd,Cd,hf9,b,k,hf11,hf12,hf13,e,f,hf15,l,c,j,d,g]
                   (repeat' apply Ad)<;>first | rfl | exact cl
                  ·simp +decide only [go_sem,Nat.reduceAdd,hf9,b,k,hf11,hf12,hf13,e,f,hf15,l,c,j,d,g]
                   refine Good.mk [] kr ⟨_,_,by first | rfl | (simp only [List.append_nil,List.nil_append];done) | (simp only [List.append_nil,List.nil_append];rfl)⟩ ?_ ?_
                   ·intro _;apply EB [3,4];first | (simp +decide only [go_sem,Nat.reduceAdd,hf9,b,k,hf11,hf12,hf13,e,f,hf15,l,c,j,d,g];done) | (simp +decide only [go_sem,Nat.reduceAdd,hf9,b,k,hf11,hf12,hf13,e,f,hf15,l,c,j,d,g];rfl)
                   ·intro i hi;cases hi
        ·apply Bl rfl rfl ev
         ·simp +decide only [go_sem,Nat.reduceAdd,Cd,hf9,b,k,hf11,hf12,hf13,e,f,hf15,l,c,j,d,g]
          (repeat' apply Ad)<;>first | rfl | exact cl
         ·simp +decide only [go_sem,Nat.reduceAdd,hf9,b,k,hf11,hf12,hf13,e,f,hf15,l,c,j,d,g]
          refine Good.mk [13] kr ⟨_,_,by first | rfl | (simp only [List.append_nil,List.nil_append];done) | (simp only [List.append_nil,List.nil_append];rfl)⟩ ?_ ?_
          ·intro h;exact absurd h (by decide)
          ·intro i hi;simp only [List.mem_cons,List.not_mem_nil,or_false] at hi
           subst hi
           ·apply Bl rfl rfl ev
            ·simp +decide only [go_sem,Nat.reduceAdd,Cd,hf9,b,k,hf11,hf12,hf13,e,f,hf15,l,c,j,d,g]
             (repeat' apply Ad)<;>first | rfl | exact cl
            ·simp +decide only [go_sem,Nat.reduceAdd,hf9,b,k,hf11,hf12,hf13,e,f,hf15,l,c,j,d,g]
             refine Good.mk [15] kr ⟨_,_,by first | rfl | (simp only [List.append_nil,List.nil_append];done) | (simp only [List.append_nil,List.nil_append];rfl)⟩ ?_ ?_
             ·intro h;exact absurd h (by decide)
             ·intro i hi;simp only [List.mem_cons,List.not_mem_nil,or_false] at hi
              subst hi
              ·apply Bl rfl rfl ev
               ·simp +decide only [go_sem,Nat.reduceAdd,Cd,hf9,b,k,hf11,hf12,hf13,e,f,hf15,l,c,j,d,g]
                (repeat' apply Ad)<;>first | rfl | exact cl
               ·simp +decide only [go_sem,Nat.reduceAdd,hf9,b,k,hf11,hf12,hf13,e,f,hf15,l,c,j,d,g]
                refine Good.mk [16] kr ⟨_,_,by first | rfl | (simp only [List.append_nil,List.nil_append];done) | (simp only [List.append_nil,List.nil_append];rfl)⟩ ?_ ?_
                ·intro h;exact absurd h (by decide)
                ·intro i hi;simp only [List.mem_cons,List.not_mem_nil,or_false] at hi
                 subst hi
                 ·apply Bl rfl rfl ev
                  ·simp +decide only [go_sem,Nat.reduceAdd,Cd,hf9,b,k,hf11,hf12,hf13,e,f,hf15,l,c,j,d,g]
                   (repeat' apply Ad)<;>first | rfl | exact cl
                  ·simp +decide only [go_sem,Nat.reduceAdd,hf9,b,k,hf11,hf12,hf13,e,f,hf15,l,c,j,d,g]
                   refine Good.mk [] kr ⟨_,_,by first | rfl | (simp only [List.append_nil,List.nil_append];done) | (simp only [List.append_nil,List.nil_append];rfl)⟩ ?_ ?_
                   ·intro _;refine UN (own:=[]) rfl (Yp rfl m V ow) ow ow ?_
                    refine Jt (by first | exact .inl ⟨rfl,rfl,rfl⟩ | exact .inr (.inl ⟨rfl,rfl,rfl⟩) | (refine .inr (.inr ⟨rfl,?_⟩);(simp +decide only [go_sem,Nat.reduceAdd])<;>(try (repeat' apply Ad))<;>first | omega | assumption)) ?_
                    refine Jt (by first | exact .inl ⟨rfl,rfl,rfl⟩ | exact .inr (.inl ⟨rfl,rfl,rfl⟩) | (refine .inr (.inr ⟨rfl,?_⟩);(simp +decide only [go_sem,Nat.reduceAdd])<;>(try (repeat' apply Ad))<;>first | omega | assumption)) ?_
                    exact trivial
                   ·intro i hi;cases hi
      simp +decide only [go_sem,Nat.reduceAdd,hf9,b,k,hf11,hf12,hf13,e,f,hf15,l,c,j,d,g]
      (repeat' apply Ad)<;>first | refine p _ _ ?_ | exact cl
      clear p
      exact go (tg (a:=((([0],()),((),())),((),())))) h (al (Ad g (Ad d (Ad j (Ad c hs))))) hN C E m V trivial trivial
end Go.Proofs.YtbfenpeblbonlaaGreatDoor
