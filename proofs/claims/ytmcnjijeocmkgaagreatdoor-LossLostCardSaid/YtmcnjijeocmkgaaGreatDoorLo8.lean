/-
  Part 8 of the proof: rules and walks that the claim's last text uses.
-/
import Derived.Shelf.Vars
import Derived.Test.YtmcnjijeocmkgaaGreatDoorLo7
set_option linter.unusedSimpArgs false
set_option linter.unusedVariables false
set_option maxRecDepth 100000
set_option maxHeartbeats 4000000
namespace Go.Proofs.YtmcnjijeocmkgaaGreatDoor
open Go Go.Shelf Go.ChangeShapes Go.WideShapes Go.ChangeAt Go.RowKit Go.Lib Go.Ev
set_option maxRecDepth 100000
mutual
def Ex.wf:Ex→Prop
 | .mk o i t v a=>A6 o∧A6 i∧t.size≤maxLen∧v.length≤maxLen∧a.length≤maxLen∧(∀ x∈v,x.wf)∧ZdI a
def ZdI:List Ex→Prop
 | []=>True
 | v::r=>v.wf∧ZdI r
end
theorem YA:∀ l,ZdI l↔∀ v∈l,v.wf
 | []=>by simp [ZdI]
 | v::r=>by simp [ZdI,YA r]
theorem Ex.ones (v:Ex):∀ x∈v.cs,x.one=true:=by
 cases v;intro x hx
 simp only [Ex.cs,List.mem_cons,List.not_mem_nil,or_false] at hx
 rcases hx with rfl | rfl | rfl | rfl | rfl<;>rfl
section
variable {H:Type} {enc:TypeId × Value→H} {W:World}
theorem Zar:∀ (n:Nat) (cs:List Value) (x:DataW H × List MemPlace),Td enc W n 65 cs=some x→∃ v:Ex,v.wf∧RC W cs v.cs
 | 0,cs,x,h=>by simp [Td,DataW.trod] at h
 | n+1,cs,x,h=>by
  obtain ⟨xs,O,hn,rfl,C,D,a⟩:=DataW.trod_struct Tryz.underlying65 h
  cases hn
  have k:cs.length=5:=C.trans (by kernel_rfl)
  have q:xs.length=5:=D
  match cs,k,xs,q,a with
  | [c0,c1,c2,c3,c4],_,[y0,y1,y2,y3,y4],_,a =>
  have J:_=some y0:=a 0 _ rfl;have G:_=some y1:=a 1 _ rfl;have E:_=some y2:=a 2 _ rfl;have u:_=some y3:=a 3 _ rfl;have F:_=some y4:=a 4 _ rfl
  obtain ⟨o,ho,eo⟩:=Kr J
  obtain ⟨i,z,ei⟩:=Kr G
  obtain ⟨t,w,et,N⟩:=QG E
  cases n with
  | zero=>simp [DataW.trod] at u
  | succ n =>
  obtain ⟨l,V,r,g,el,c,bl⟩:=H5 Di Vl.wf (fun _=>0) Tryz.underlying31 (sz:=6) (by kernel_rfl) (by omega) (fun cs x h=>by
   obtain ⟨v,hv,e,Q⟩:=Xk n cs x h
   exact ⟨v,.agg cs.toArray,hv,by simp [Value.cells],e.agg v.ones,Nat.zero_le _⟩) u
  obtain ⟨y,K,s,p,ef,f,U⟩:=H5 O5 Ex.wf (fun _=>0) Tryz.underlying63 (sz:=5) (by kernel_rfl) (by omega) (fun cs x h=>by
   obtain ⟨v,hv,e⟩:=Zar n cs x h
   exact ⟨v,.agg cs.toArray,hv,by simp [Value.cells],e.agg v.ones,Nat.zero_le _⟩) F
  have j:Tryz.prog.cellsOf 3=1:=by kernel_rfl
  have m:Tryz.prog.cellsOf 9=1:=by kernel_rfl
  have d:Tryz.prog.cellsOf 31=1:=by kernel_rfl
  have b:Tryz.prog.cellsOf 63=1:=by kernel_rfl
  simp only [List.getElem_toArray,List.getElem_cons_zero,List.getElem_cons_succ,j,m,d,b,List.drop_zero,List.take_succ_cons,List.take_zero,List.cons.injEq,and_true,List.drop_succ_cons] at eo ei et el ef
  subst eo ei et el ef
  refine ⟨.mk o i t l y,?_,?_⟩
  ·unfold Ex.wf
   exact ⟨ho,z,w,g,p,r,(YA y).2 s⟩
  ·rw [Ex.cs,P6,ZdW]
   exact .cons (.flat rfl) (.cons (.flat rfl) (.cons (.flat (Ah w)) (.cons c (.cons f .nil))))
end
section
variable {H:Type} {enc:TypeId × Value→H} {W:World} {base:Nat} {v:Value} {d:DataW H} {p:List MemPlace}
abbrev Mp:=List (ByteArray × Ex)
def Mp.wf (m:Mp):Prop:=m.length≤maxLen∧∀ p∈m,p.1.size≤maxLen∧p.2.wf
theorem Zhf (hv:Value.okWide Tryz.prog W .any base 49 v) (h:DataW.Trod enc Tryz.prog W 0 (fun _=>true) true 49 v d p):∃ t:Mp,t.wf∧R W Mem.start W v (avM t):=by
 obtain ⟨cs,rfl⟩:=Zc4 Tryz.underlying49 hv
 obtain ⟨n,hn⟩:=h
 cases n with
 | zero=>simp [DataW.trod] at hn
 | succ n =>
 obtain ⟨xs,u,hn',_,e,hx,a⟩:=DataW.trod_struct Tryz.underlying49 hn
 cases hn'
 have j:(Value.agg cs).cells.toList=cs.toList:=rfl
 rw [j] at e a
 have q:cs.toList.length=1:=e.trans (by kernel_rfl)
 have g:xs.length=1:=hx
 match xs,g,a with
 | [w0],_,a =>
 have f:_=some w0:=a 0 _ rfl
 cases n with
 | zero=>simp [DataW.trod] at f
 | succ n =>
 obtain ⟨l,C,s,w,e1,c,_⟩:=H5 A5 (fun p=>p.1.size≤maxLen∧p.2.wf) (fun _=>0) Tryz.underlying47 (sz:=6) (by kernel_rfl) (by omega) (fun cs x h=>by
  cases n with
  | zero=>simp [DataW.trod] at h
  | succ n =>
  obtain ⟨r,u,hn,rfl,e,hx,a⟩:=DataW.trod_struct Tryz.underlying67 h
  cases hn
  have m:cs.length=6:=e.trans (by kernel_rfl)
  have o:r.length=2:=hx
  match r,o,a with
  | [w0,w1],_,a =>
  have f:_=some w0:=a 0 _ rfl;have q1:_=some w1:=a 1 _ rfl
  obtain ⟨k,b,en,z⟩:=QG f
  obtain ⟨v,hv,c⟩:=Zar n _ _ q1
  have y:Tryz.prog.cellsOf 65=5:=by kernel_rfl
  have i:Tryz.prog.cellsOf 9=1:=by kernel_rfl
  simp only [List.getElem_toArray,List.getElem_cons_zero,List.getElem_cons_succ,y,i] at en c
  match cs,m with
  | [c0,c1,c2,c3,c4,c5],_ =>
  simp only [List.drop_zero,List.take_succ_cons,List.take_zero,List.cons.injEq,and_true,List.drop_succ_cons] at en c
  subst en
  refine ⟨(k,v),.agg #[.string k,c1,c2,c3,c4,c5],⟨b,hv⟩,rfl,?_,Nat.zero_le _⟩
  exact RC.agg (cs:=[.string k,c1,c2,c3,c4,c5]) (.cons (.flat (Ah b)) c) (fun x hx=>by
   rcases List.mem_cons.1 hx with rfl | hx
   ·rfl
   ·exact v.ones x hx)) f
 have i:Tryz.prog.cellsOf 47=1:=by kernel_rfl
 generalize hz:cs.toList=zs at *
 match zs,q with
 | [c0],_ =>
 simp only [List.getElem_toArray,List.getElem_cons_zero,List.getElem_cons_succ,i,List.drop_zero,List.take_succ_cons,List.take_zero,List.cons.injEq,and_true] at e1
 subst e1
 obtain rfl:cs = #[c0]:=by rw [←hz]
 exact ⟨l,⟨w,s⟩,RC.agg (cs:=[c0]) (.cons c .nil) (fun x hx=>by rcases List.mem_cons.1 hx with rfl | hx;rfl;cases hx)⟩
end
set_option maxRecDepth 100000
noncomputable def N4:Nat:=(World.holding Tryz.prog default ⟨#[],#[],[]⟩).heap.size
noncomputable def Ov (os:Os):World :=
 let w0:=World.holding Tryz.prog os ⟨#[.cells #[.string ⟨#[118,97,108,117,101,32,111,117,116,32,111,102,32,114,97,110,103,101]⟩] 359,.cells #[.string ⟨#[105,110,118,97,108,105,100,32,115,121,110,116,97,120]⟩] 359,.cells #[.int .i64 1,.int .i64 0,.string ⟨#[98,111,100,121]⟩] 146],#[],[]⟩
 let put (h:Array Obj) (g:Nat) (d:DataW Unit):Array Obj:=h.modify g fun
  | .cells _ t frozen => .cells (Zje d).toArray t frozen
  | o=>o
 let one (h:Array Obj) (g:Nat) (v:Value):Array Obj:=h.modify g fun
  | .cells _ t frozen => .cells #[v] t frozen
  | o=>o
 { w0 with heap:=one (one (one (put (put (put (put (put w0.heap 2 Rows.laid_unicode_utf8_first) 3 Rows.laid_unicode_utf8_acceptRanges) 4 Rows.laid_internal_strconv_uint64pow10) 7 Rows.laid_math_bits_deBruijn32tab) 8 Rows.laid_math_bits_deBruijn64tab)
   6 (.iface 357 (.pointer (some ⟨N4,0,none⟩)))) 5 (.iface 357 (.pointer (some ⟨N4+1,0,none⟩)))) 0 (.slice (some ⟨N4+2,0,none⟩) 1 1) }
theorem UU (os:Os) (args:Array Value):laidMet Tryz.prog Rows.lossLostRow.laid ((Ov os).forCall (fun _ _=>0) ⟨#[],args,[]⟩).memory :=
 (LaidIn.of_run (l:=Rows.lossLostRow.laid) [7,8,4,3,6,5,0,2,N4,N4+1,N4+2] 8 (by kernel_rfl) (by kernel_rfl) (by kernel_rfl) (by kernel_rfl)).met
theorem ZbO {W:World} (hL:laidMet Tryz.prog Rows.lossLostRow.laid W):Lib.Utf8Tabs 2 3 W∧Pow10 W :=
 ⟨utf8Tabs_of_readsT (U8Types.of196 Tryz.laysValid) ⟨by kernel_rfl,by kernel_rfl,by kernel_rfl,by kernel_rfl,by kernel_rfl,by kernel_rfl,by kernel_rfl⟩ (Lib.laidMet.reads hL (.tail _ (.tail _ (.tail _ (.tail _ (.tail _ (.tail _ (.tail _ (.head _))))))))) (Lib.laidMet.reads hL (.tail _ (.tail _ (.tail _ (.head _))))),
  SJ (Lib.laidMet.reads hL (.tail _ (.tail _ (.head _))))⟩
theorem Qf {W:World} {name:String} {d:DataW Unit} {g:Nat} {t:TypeId} {ms:Array (String × TypeId)} (h:Lib.VarReads Tryz.prog W name d) (hg:Tryz.prog.globalNamed name=some g) (ht:(Tryz.prog.globals[g]?).map (·.type)=some t) (hu:Tryz.prog.underlying t=some (.interface ms)) :
  ∃ ev,W.cell? ⟨g,0,none⟩=some ev∧(ev = .nilIface∨∃ te pe,ev = .iface te pe):=by
 obtain ⟨i,j,cs,fuel,p,c,e,f,a⟩:=h
 obtain rfl:=Option.some.inj (hg.symm.trans c)
 obtain rfl:=Option.some.inj (ht.symm.trans e)
 have b:=World.var?_cell c f 0
 obtain ⟨l⟩:=cs
 cases fuel with
 | zero=>simp [DataW.trod] at a
 | succ n =>
  unfold DataW.trod at a
  simp only [hu] at a
  split at a
  all_goals first
   | (rename_i q _;simp at q;done)
   | exact ⟨_,by simpa using b,.inl rfl⟩
   | exact ⟨_,by simpa using b,.inr ⟨_,_,rfl⟩⟩
   | simp_all
theorem Za9 {W:World} (hL:laidMet Tryz.prog Rows.lossLostRow.laid W):Jl W :=
 ⟨Qf (Lib.laidMet.reads hL (.tail _ (.tail _ (.tail _ (.tail _ (.tail _ (.head _))))))) (by kernel_rfl) (by kernel_rfl) (t:=248) Tryz.underlying248,
  Qf (Lib.laidMet.reads hL (.tail _ (.tail _ (.tail _ (.tail _ (.head _)))))) (by kernel_rfl) (by kernel_rfl) (t:=248) Tryz.underlying248⟩
theorem Zbe {W:World} (hS:W.ShapedOpen Tryz.prog):Jh W :=
 cell_of_shapedOpen_int (zero := #[.int .i64 0]) (t:=3) hS (of_decide_eq_true (by kernel_rfl)) (by kernel_rfl) rfl (by kernel_rfl) (by kernel_rfl) Tryz.underlying3
theorem U1 {W:World} (h:Lib.VarReads Tryz.prog W "manifold/loss.body" Rows.laid_manifold_loss_body):Qk W:=by
 obtain ⟨g,t,cs,ab,p,Q,h2,h3,h4⟩:=h
 obtain rfl:=Option.some.inj ((show Tryz.prog.globalNamed "manifold/loss.body" = some 0 by kernel_rfl).symm.trans Q)
 obtain rfl:=Option.some.inj ((show (Tryz.prog.globals[0]?).map (·.type)=some 113 by kernel_rfl).symm.trans h2)
 have hc:=World.var?_cell Q h3 0
 obtain ⟨l⟩:=cs
 rcases DataW.trod_slice Tryz.underlying113 h4 with ⟨_,q⟩ | ⟨a,len,cap,elems,rest,n,rfl,N,G,_,hlc,hcm,hlen,hel,_,_⟩
 ·cases q
 have e3:Tryz.prog.cellsOf 146=3:=by kernel_rfl
 have e:elems.map (·.1)=[.agg [.lit (.int .i64 1),.lit (.int .i64 0),.lit (.string [98,111,100,121])]]:=by
  have:=congrArg Prod.fst G
  simp only [Rows.laid_manifold_loss_body,DataW.slice.injEq] at this
  exact this.1.symm
 have y:elems.length=1:=by have:=congrArg List.length e;simpa using this
 match elems,y,e,hlen,hel with
 | [e0],_,e,hlen,hel =>
 simp only [List.map_cons,List.map_nil,List.cons.injEq,and_true] at e
 have hlen:len=1:=hlen.symm
 subst hlen
 obtain ⟨cs',U,O⟩:=Option.bind_eq_some_iff.1 (hel 0 (by decide))
 obtain ⟨xs,n',_,Y,z,u,C⟩:=DataW.trod_struct Tryz.underlying146 O
 have z:cs'.length=3:=z.trans e3
 have u:xs.length=3:=u
 match cs',z,xs,u,C with
 | [c0,c1,c2],_,[y0,y1,y2],_,C =>
 have f0:_=some y0:=C 0 _ rfl;have f1:_=some y1:=C 1 _ rfl;have f2:_=some y2:=C 2 _ rfl
 obtain ⟨k,ek,dk,_⟩:=DataW.trod_int Tryz.underlying3 f0
 obtain ⟨i,ei,di,_⟩:=DataW.trod_int Tryz.underlying3 f1
 obtain ⟨s,es,ds,hs⟩:=DataW.trod_string Tryz.underlying9 f2
 have V:Tryz.prog.cellsOf 3=1:=by kernel_rfl
 have Z:Tryz.prog.cellsOf 9=1:=by kernel_rfl
 simp only [List.getElem_toArray,List.getElem_cons_zero,List.getElem_cons_succ,V,Z,List.drop_zero,List.take_succ_cons,List.take_zero,List.cons.injEq,and_true,List.drop_succ_cons] at ek ei es
 subst ek ei es dk di ds
 have E:=(congrArg Prod.fst Y).symm.trans e
 simp only [List.map_cons,List.map_nil,DataW.agg.injEq,List.cons.injEq,DataW.lit.injEq,Lit.int.injEq,Lit.string.injEq,and_true,true_and] at E
 obtain ⟨rfl,rfl,F⟩:=E
 have hs3:s=⟨#[98,111,100,121]⟩:=by
  obtain ⟨⟨x⟩⟩:=s
  simp only at F
  rw [F]
 subst hs3
 obtain ⟨_,_,c⟩:=World.cells?_some U
 rw [e3] at c
 have e0:((a.add (0*3)).add 0)=a:=by simp [Addr.add]
 have hspot:a.spot=none:=by
  have h5:=c 0 (by decide)
  rw [e0] at h5
  simp only [List.getElem?_cons_zero] at h5
  unfold World.cell? at h5
  split at h5
  ·split at h5
   ·cases h5
   ·rename_i q;simpa using q
  ·cases h5
 obtain ⟨b,d,sp⟩:=a
 simp only at hspot
 subst hspot
 have r:∀ j,j<3→W.cell? ⟨b,d+j,none⟩=([.int .i64 1,.int .i64 0,.string ⟨#[98,111,100,121]⟩]:List Value)[j]? := fun j J=>by
  have:=c j J
  rw [←this]
  congr 1
  have ea:∀ (o m:Nat),(⟨b,o,none⟩:Addr).add m=⟨b,o+m,none⟩:=fun o m=>by unfold Addr.add;split<;>simp_all
  rw [ea,ea];simp
 have aa:W.cell? ⟨0,0,none⟩=some (.slice (some ⟨b,d,none⟩) 1 cap):=by
  have N:l=[.slice (some ⟨b,d,none⟩) 1 cap]:=N
  rw [N] at hc
  simpa using hc
 intro M w D
 refine ⟨.slice (some ⟨b,d,none⟩) 1 cap,?_,?_⟩
 ·simp only [Instr.loadAt,Instr.sureAddr,Sem.run_bind,Sem.run_pure,Result.andThen_ok]
  exact MN (f:=fun _ => .slice (some ⟨b,d,none⟩) 1 cap) (show G8 Tryz.prog 113=some (1,false) by kernel_rfl) (fun j J=>by
   obtain rfl:j=0:=by omega
   exact KU aa D) (by decide)
 ·refine R.list (xs:=[.agg [Am 1,Am 0,.val (.string ⟨#[98,111,100,121]⟩)]]) 3 (fun _ => .agg #[.int .i64 1,.int .i64 0,.string ⟨#[98,111,100,121]⟩]) hlc hcm (fun i K=>?_) (fun i K=>?_) trivial
  ·obtain rfl:i=0:=by simpa using K
   refine ⟨rfl,fun j J=>?_⟩
   have h5:=r j J
   have H:j=0∨j=1∨j=2:=by omega
   have hv:∃ v:Value,([.int .i64 1,.int .i64 0,.string ⟨#[98,111,100,121]⟩]:List Value)[j]? = some v:=by
    rcases H with rfl | rfl | rfl<;>exact ⟨_,rfl⟩
   obtain ⟨v,hv⟩:=hv
   rw [hv] at h5
   rw [show d+0*3+j=d+j by omega]
   refine ⟨.inl (World.block_lt_of_cell? W _ h5),?_⟩
   rw [KU h5 D,←hv]
   rcases H with rfl | rfl | rfl<;>rfl
  ·obtain rfl:i=0:=by simpa using K
   refine .agg rfl (fun x G=>?_) (fun k Q h2=>?_)
   ·simp only [List.mem_cons,List.not_mem_nil,or_false] at G
    rcases G with rfl | rfl | rfl<;>rfl
   ·have H:k=0∨k=1∨k=2:=by simp at h2;omega
    rcases H with rfl | rfl | rfl
    ·exact .flat rfl
    ·exact .flat rfl
    ·exact .flat (show F2 (.string ⟨#[98,111,100,121]⟩)=true from by decide)
theorem Zbo {W:World} (hL:laidMet Tryz.prog Rows.lossLostRow.laid W):Qk W :=
 U1 (Lib.laidMet.reads hL (.tail _ (.tail _ (.tail _ (.tail _ (.tail _ (.tail _ (.head _))))))))
end Go.Proofs.YtmcnjijeocmkgaaGreatDoor
