/-
  Part 11 of the proof: rules and walks that the claim's last text uses.
-/
import Derived.Shelf.Vars
import Derived.Test.YtbfenpeblbonlaaGreatDoorCb1
import Derived.Test.YtbfenpeblbonlaaGreatDoorCb2
import Derived.Test.YtbfenpeblbonlaaGreatDoorCb3
import Derived.Test.YtbfenpeblbonlaaGreatDoorCb4
import Derived.Test.YtbfenpeblbonlaaGreatDoorCb5
import Derived.Test.YtbfenpeblbonlaaGreatDoorCb6
import Derived.Test.YtbfenpeblbonlaaGreatDoorCb7
import Derived.Test.YtbfenpeblbonlaaGreatDoorCb8
import Derived.Test.YtbfenpeblbonlaaGreatDoorCb9
import Derived.Test.YtbfenpeblbonlaaGreatDoorCb10
set_option linter.unusedSimpArgs false
set_option linter.unusedVariables false
set_option maxRecDepth 100000
set_option maxHeartbeats 4000000
namespace Go.Proofs.YtbfenpeblbonlaaGreatDoor
open Go Go.RowKit Go.Ev
theorem ZV (n:Nat) (hn:100<=n):Lq n=some true:=by
 obtain ⟨m,rfl⟩:∃ m,n=m+60:=⟨n-60,by omega⟩
 kernel_rfl
end Go.Proofs.YtbfenpeblbonlaaGreatDoor
namespace Go.Proofs.YtbfenpeblbonlaaGreatDoor
open Go Go.Shelf Go.ChangeShapes Go.WideShapes Go.ChangeAt Go.RowKit Go.Lib Go.Ev
set_option maxRecDepth 100000
section
variable {H:Type} {enc:TypeId × Value->H} {W:World}
theorem S7 {n:Nat} {cs:List Value} {x:DataW H × List MemPlace} (h:Td enc W n 5 cs=some x):∃ z:Int,(0<=z/\z<=255)/\cs=[.int .u8 z]:=by
 obtain ⟨z,rfl,_,a⟩:=DataW.trod_int Tryz.underlying5 h
 refine ⟨z,?_,rfl⟩
 simp [Lit.wf,IntKind.min,IntKind.max,IntKind.signed,IntKind.bits] at a
 omega
theorem Zcr:∀ (n:Nat) (cs:List Value) (x:DataW H × List MemPlace),Td enc W n 70 cs=some x->∃ v:Int × Int × Int × Int,((0<=v.1/\v.1<=255)/\(0<=v.2.1/\v.2.1<=255)/\(0<=v.2.2.1/\v.2.2.1<=255)/\0<=v.2.2.2/\v.2.2.2<=255)/\cs=[.int .u8 v.1,.int .u8 v.2.1,.int .u8 v.2.2.1,.int .u8 v.2.2.2]
 | 0,cs,x,h=>by simp [Td,DataW.trod] at h
 | n+1,cs,x,h=>by
  obtain ⟨xs,t,hn,rfl,q,l,a⟩:=DataW.trod_struct Tryz.underlying70 h
  cases hn
  have b:cs.length=4:=q.trans (by kernel_rfl)
  have c:xs.length=4:=l
  match cs,b,xs,c,a with
  | [c0,c1,c2,c3],_,[y0,y1,y2,y3],_,a =>
  have j:_=some y0:=a 0 _ rfl;have d:_=some y1:=a 1 _ rfl;have s:_=some y2:=a 2 _ rfl;have g:_=some y3:=a 3 _ rfl
  obtain ⟨o,w0,e0⟩:=S7 j
  obtain ⟨f,p,e1⟩:=S7 d
  obtain ⟨k,i,e2⟩:=S7 s
  obtain ⟨e,r,e3⟩:=S7 g
  have m:Tryz.prog.cellsOf 5=1:=by kernel_rfl
  simp only [List.getElem_toArray,List.getElem_cons_zero,List.getElem_cons_succ,m,List.drop_zero,List.take_succ_cons,List.take_zero,List.cons.injEq,and_true,List.drop_succ_cons] at e0 e1 e2 e3
  subst e0 e1 e2 e3
  exact ⟨(o,f,k,e),⟨w0,p,i,r⟩,rfl⟩
theorem Zbd:∀ (n:Nat) (cs:List Value) (x:DataW H × List MemPlace),Td enc W n 23 cs=some x->∃ v:Int × Int × Int × Int,((0<=v.1/\v.1<=255)/\(0<=v.2.1/\v.2.1<=255)/\(0<=v.2.2.1/\v.2.2.1<=255)/\0<=v.2.2.2/\v.2.2.2<=255)/\cs=[.int .u8 v.1,.int .u8 v.2.1,.int .u8 v.2.2.1,.int .u8 v.2.2.2]
 | 0,cs,x,h=>by simp [Td,DataW.trod] at h
 | n+1,cs,x,h=>by
  obtain ⟨xs,t,hn,rfl,q,l,a⟩:=DataW.trod_struct Tryz.underlying23 h
  cases hn
  have b:cs.length=4:=q.trans (by kernel_rfl)
  have c:xs.length=4:=l
  match cs,b,xs,c,a with
  | [c0,c1,c2,c3],_,[y0,y1,y2,y3],_,a =>
  have j:_=some y0:=a 0 _ rfl;have d:_=some y1:=a 1 _ rfl;have s:_=some y2:=a 2 _ rfl;have g:_=some y3:=a 3 _ rfl
  obtain ⟨o,w0,e0⟩:=S7 j
  obtain ⟨f,p,e1⟩:=S7 d
  obtain ⟨k,i,e2⟩:=S7 s
  obtain ⟨e,r,e3⟩:=S7 g
  have m:Tryz.prog.cellsOf 5=1:=by kernel_rfl
  simp only [List.getElem_toArray,List.getElem_cons_zero,List.getElem_cons_succ,m,List.drop_zero,List.take_succ_cons,List.take_zero,List.cons.injEq,and_true,List.drop_succ_cons] at e0 e1 e2 e3
  subst e0 e1 e2 e3
  exact ⟨(o,f,k,e),⟨w0,p,i,r⟩,rfl⟩
theorem Zdp (v:Int × Int × Int × Int):R W Mem.start W (.agg #[.int .u8 v.1,.int .u8 v.2.1,.int .u8 v.2.2.1,.int .u8 v.2.2.2]) (.agg [.val (.int .u8 v.1),.val (.int .u8 v.2.1),.val (.int .u8 v.2.2.1),.val (.int .u8 v.2.2.2)]):=by
 have h:RC W [Value.int .u8 v.1,.int .u8 v.2.1,.int .u8 v.2.2.1,.int .u8 v.2.2.2] [AV.val (.int .u8 v.1),.val (.int .u8 v.2.1),.val (.int .u8 v.2.2.1),.val (.int .u8 v.2.2.2)] := .cons (.flat rfl) (.cons (.flat rfl) (.cons (.flat rfl) (.cons (.flat rfl) .nil)))
 refine h.agg fun y a=>?_
 simp only [List.mem_cons,List.not_mem_nil,or_false] at a
 rcases a with rfl | rfl | rfl | rfl<;>rfl
end
section
variable {H:Type} {enc:TypeId × Value->H} {W:World} {base:Nat} {v:Value} {d:DataW H} {p:List MemPlace}
theorem ZiX (hv:Value.okWide Tryz.prog W .any base 23 v) (h:DataW.Trod enc Tryz.prog W 0 (fun _=>true) true 23 v d p) :
  ∃ x:Int × Int × Int × Int,((0<=x.1/\x.1<=255)/\(0<=x.2.1/\x.2.1<=255)/\(0<=x.2.2.1/\x.2.2.1<=255)/\0<=x.2.2.2/\x.2.2.2<=255)/\R W Mem.start W v (.agg [.val (.int .u8 x.1),.val (.int .u8 x.2.1),.val (.int .u8 x.2.2.1),.val (.int .u8 x.2.2.2)]):=by
 obtain ⟨cs,rfl⟩:=Zjk Tryz.underlying23 hv
 obtain ⟨n,b⟩:=h
 obtain ⟨x,c,a⟩:=Zbd n _ _ b
 have a:cs.toList=_:=a
 obtain rfl:cs = #[.int .u8 x.1,.int .u8 x.2.1,.int .u8 x.2.2.1,.int .u8 x.2.2.2]:=by rw [<-Array.toArray_toList (xs:=cs),a]
 exact ⟨x,c,Zdp x⟩
theorem Zjz (hv:Value.okWide Tryz.prog W .any base 24 v) (h:DataW.Trod enc Tryz.prog W 0 (fun _=>true) true 24 v d p) :
  ∃ l:List (Int × Int × Int × Int),(∀ x∈l,(0<=x.1/\x.1<=255)/\(0<=x.2.1/\x.2.1<=255)/\(0<=x.2.2.1/\x.2.2.1<=255)/\0<=x.2.2.2/\x.2.2.2<=255)/\R W Mem.start W v (.list (l.map QH) .none):=by
 obtain ⟨a,len,b,rfl⟩:=okWide_slice Tryz.underlying24 hv
 obtain ⟨n,c⟩:=h
 cases n with
 | zero=>simp [DataW.trod] at c
 | succ n =>
 obtain ⟨l,u,g,j,f,e,_⟩:=ZcN QH (fun x=>(0<=x.1/\x.1<=255)/\(0<=x.2.1/\x.2.1<=255)/\(0<=x.2.2.1/\x.2.2.1<=255)/\0<=x.2.2.2/\x.2.2.2<=255) (fun _=>0) Tryz.underlying24 (sz:=4) (by kernel_rfl) (by omega) (fun cs x h=>by
  obtain ⟨q,i,rfl⟩:=Zcr n cs x h
  exact ⟨q,.agg #[.int .u8 q.1,.int .u8 q.2.1,.int .u8 q.2.2.1,.int .u8 q.2.2.2],i,rfl,Zdp q,Nat.zero_le _⟩) c
 obtain rfl:Value.slice a len b=u:=by simpa [Value.cells] using f
 exact ⟨l,g,e⟩
end
set_option maxRecDepth 100000
noncomputable def ZaL:Nat:=(World.holding Tryz.prog default ⟨#[],#[],[]⟩).heap.size
noncomputable def TA (os:Os):World :=
 let w0:=World.holding Tryz.prog os ⟨#[.cells #[.string ⟨#[118,97,108,117,101,32,111,117,116,32,111,102,32,114,97,110,103,101]⟩] 412,.cells #[.string ⟨#[105,110,118,97,108,105,100,32,115,121,110,116,97,120]⟩] 412],#[],[]⟩
 let put (h:Array Obj) (g:Nat) (d:DataW Unit):Array Obj:=h.modify g fun
  | .cells _ t frozen => .cells (ZlC d).toArray t frozen
  | o=>o
 let one (h:Array Obj) (g:Nat) (v:Value):Array Obj:=h.modify g fun
  | .cells _ t frozen => .cells #[v] t frozen
  | o=>o
 { w0 with heap:=one (one (put (put (put (put (put w0.heap 1 Rows.laid_unicode_utf8_first) 2 Rows.laid_unicode_utf8_acceptRanges) 3 Rows.laid_internal_strconv_uint64pow10) 4 Rows.laid_math_bits_deBruijn32tab) 5 Rows.laid_math_bits_deBruijn64tab)
   7 (.iface 410 (.pointer (some ⟨ZaL,0,none⟩)))) 6 (.iface 410 (.pointer (some ⟨ZaL+1,0,none⟩))) }
theorem Yq (os:Os) (args:Array Value):laidMet Tryz.prog Rows.correlatorRunsRow.laid ((TA os).forCall (fun _ _=>0) ⟨#[],args,[]⟩).memory :=
 (LaidIn.of_run (l:=Rows.correlatorRunsRow.laid) [4,5,3,2,7,6,1,ZaL,ZaL+1] 8 (by kernel_rfl) (by kernel_rfl) (by kernel_rfl) (by kernel_rfl)).met
theorem Zhq {W:World} (hL:laidMet Tryz.prog Rows.correlatorRunsRow.laid W):Lib.Utf8Tabs 1 2 W/\Pow10 W :=
 ⟨utf8Tabs_of_readsT (U8Types.of196 Tryz.laysValid) ⟨by kernel_rfl,by kernel_rfl,by kernel_rfl,by kernel_rfl,by kernel_rfl,by kernel_rfl,by kernel_rfl⟩ (Lib.laidMet.reads hL (.tail _ (.tail _ (.tail _ (.tail _ (.tail _ (.tail _ (.head _)))))))) (Lib.laidMet.reads hL (.tail _ (.tail _ (.tail _ (.head _))))),
  UM (Lib.laidMet.reads hL (.tail _ (.tail _ (.head _))))⟩
theorem QY {W:World} {name:String} {d:DataW Unit} {g:Nat} {t:TypeId} {ms:Array (String × TypeId)} (h:Lib.VarReads Tryz.prog W name d) (hg:Tryz.prog.globalNamed name=some g) (ht:(Tryz.prog.globals[g]?).map (·.type)=some t) (hu:Tryz.prog.underlying t=some (.interface ms)) :
  ∃ ev,W.cell? ⟨g,0,none⟩=some ev/\(ev = .nilIface\/∃ te pe,ev = .iface te pe):=by
 obtain ⟨i,j,cs,fuel,p,b,f,e,a⟩:=h
 obtain rfl:=Option.some.inj (hg.symm.trans b)
 obtain rfl:=Option.some.inj (ht.symm.trans f)
 have c:=World.var?_cell b e 0
 obtain ⟨l⟩:=cs
 cases fuel with
 | zero=>simp [DataW.trod] at a
 | succ n =>
  unfold DataW.trod at a
  simp only [hu] at a
  split at a
  all_goals first
   | (rename_i q _;simp at q;done)
   | exact ⟨_,by simpa using c,.inl rfl⟩
   | exact ⟨_,by simpa using c,.inr ⟨_,_,rfl⟩⟩
   | simp_all
theorem Zhw {W:World} (hL:laidMet Tryz.prog Rows.correlatorRunsRow.laid W):QU W :=
 ⟨QY (Lib.laidMet.reads hL (.tail _ (.tail _ (.tail _ (.tail _ (.tail _ (.head _))))))) (by kernel_rfl) (by kernel_rfl) (t:=295) Tryz.underlying295,
  QY (Lib.laidMet.reads hL (.tail _ (.tail _ (.tail _ (.tail _ (.head _)))))) (by kernel_rfl) (by kernel_rfl) (t:=295) Tryz.underlying295⟩
theorem ZgW {W:World} (hS:W.ShapedOpen Tryz.prog):Qx W :=
 cell_of_shapedOpen_int (zero := #[.int .i64 0]) (t:=3) hS (of_decide_eq_true (by kernel_rfl)) (by kernel_rfl) rfl (by kernel_rfl) (by kernel_rfl) Tryz.underlying3
end Go.Proofs.YtbfenpeblbonlaaGreatDoor
