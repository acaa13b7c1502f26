/-
  Part 6 of the proof: rules and walks that the claim's last text uses.
-/
import Derived.BigQuiet
import Derived.Deep.LoopGhost
import Derived.Deep.QuietTactic
import Derived.Ground.Names2Prog
import Derived.Ground.NamesProg
import Derived.Ground.SlgfProg
import Derived.Ground.SlgnProg
import Derived.Ground.SlsfProg
import Derived.Laws.RangeAny
import Derived.Lib.OthersKept
import Derived.Shelf.LaysC
import Derived.Shelf.LaysM
import Derived.Shelf.Slices.Clone
import Derived.Shelf.Slices.Empties2
import Derived.Shelf.Slices.Equal
import Derived.Shelf.Slices.Turned
import Derived.Shelf.SlicesE.Clone
import Derived.Shelf.SlicesE.Equal
import Derived.Shelf.SlicesE.IndexFunc
import Derived.Shelf.Small.Bits
import Derived.Shelf.Small.Strs
import Derived.Shelf.Small.Utf8
import Derived.Shelf.Small.Wraps
import Derived.Shelf.Strconv.Atoi
import Derived.Shelf.Strconv.AtoiAll
import Derived.Shelf.Strconv.AtoiErrFast
import Derived.Shelf.Strconv.AtoiFail
import Derived.Shelf.Strconv.AtoiInnerAll
import Derived.Shelf.Strconv.AtoiLong
import Derived.Shelf.Strconv.Clone
import Derived.Shelf.Strconv.Lower
import Derived.Shelf.Strconv.ParseInt10
import Derived.Shelf.Strconv.ParseIntEmpty
import Derived.Shelf.Strconv.ParseUint10
import Derived.Shelf.Strconv.ParseUint10Any
import Derived.Shelf.Strconv.ParseUint10Empty
import Derived.Shelf.Strconv.ParseUint10b16
import Derived.Shelf.Strconv.ParseUint10b32
import Derived.Shelf.Strconv.ParseUint10b64
import Derived.Shelf.Strconv.ParseUint10b8
import Derived.Shelf.Strconv.ParseUintEmpty
import Derived.Shelf.Strconv.RangeError
import Derived.Shelf.Strconv.SyntaxError
import Derived.Shelf.Strconv.ToError
import Derived.Shelf.Strconv.ToErrorRange
import Derived.Shelf.Strings.AsciiSet
import Derived.Shelf.Strings.Cut
import Derived.Shelf.Strings.IndexAny
import Derived.Shelf.Strings.IndexAnyAll
import Derived.Shelf.Strings.Prefix
import Derived.Shelf.Strings.Repeat
import Derived.Shelf.Strings.Runes
import Derived.Shelf.Strings.Search1
import Derived.Shelf.Strings.Search2
import Derived.Shelf.Strings.Shaped
import Derived.Shelf.Unicode.Decode
import Derived.Shelf.Unicode.DecodeAny
import Derived.Shelf.Unicode.DecodeSlow
import Derived.Shelf.Utf8.AppendRunePlain
import Derived.Test.YtcpmjgdlioggjaaGreatDoorProg
import Derived.WalkMore
import Derived.WalkSmall
import Derived.Test.YtcpmjgdlioggjaaGreatDoorKb1
import Derived.Test.YtcpmjgdlioggjaaGreatDoorKb2
import Derived.Test.YtcpmjgdlioggjaaGreatDoorKb3
import Derived.Test.YtcpmjgdlioggjaaGreatDoorKb4
import Derived.Test.YtcpmjgdlioggjaaGreatDoorKb5
set_option linter.unusedSimpArgs false
set_option linter.unusedVariables false
set_option maxRecDepth 100000
set_option maxHeartbeats 4000000
namespace Go.Proofs
open Go.Shelf
def Tryz.lays119_ren:Go.Shelf.Ren:=⟨fun | 119=>307 | n=>n,fun | 21=>21 | 4=>4 | n=>n,fun | n=>n⟩
theorem Tryz.lays119:Go.Proofs.Lays.n119 Tryz.prog Tryz.lays119_ren:={
 mixed:=by kernel_rfl
 f119:=Tryz.func307.trans (congrArg some (by kernel_rfl))
 t4:=Tryz.underlying4
 a4:=Tryz.isAgg4
 z4:=Tryz.sizeOf4
 v4:=Tryz.zeroValue4
 t21:=Tryz.underlying21
 a21:=Tryz.isAgg21
 z21:=Tryz.sizeOf21
 v21:=Tryz.zeroValue21 }
theorem Tryz.utf8_ValidRune (r:Int) (w:World) :
  Calls Tryz.prog 307 #[.int .i32 r] w fun e w'=>e = .returned (.bool (Lib.validRune r))/\w'=w:=Any.utf8_ValidRune Tryz.lays119 r w
def Tryz.lays137_ren:Go.Shelf.Ren:=⟨fun | 137=>306 | 217=>341 | 266=>358 | n=>n,fun | 9=>9 | 5=>5 | 3=>3 | n=>n,fun | n=>n⟩
theorem Tryz.lays137:Go.Proofs.Lays.n137 Tryz.prog Tryz.lays137_ren:={
 mixed:=by kernel_rfl
 f137:=Tryz.func306.trans (congrArg some (by kernel_rfl))
 f217:=Tryz.func341.trans (congrArg some (by kernel_rfl))
 f266:=Tryz.func358.trans (congrArg some (by kernel_rfl))
 t3:=Tryz.underlying3
 a3:=Tryz.isAgg3
 z3:=Tryz.sizeOf3
 v3:=Tryz.zeroValue3
 t5:=Tryz.underlying5
 a5:=Tryz.isAgg5
 z5:=Tryz.sizeOf5
 v5:=Tryz.zeroValue5
 t9:=Tryz.underlying9
 a9:=Tryz.isAgg9
 z9:=Tryz.sizeOf9
 v9:=Tryz.zeroValue9 }
open Go.RowKit in
theorem Tryz.strings_IndexByte (s:ByteArray) (c:Int) (w:World) :
  Calls Tryz.prog 306 #[.string s,.int .u8 c] w fun e w'=>e = .returned (.int .i64 (Lib.indexByte s.data.toList c.toNat.toUInt8))/\w'=w:=Any.strings_IndexByte Tryz.lays137 s c w
def Tryz.lays99_ren:Go.Shelf.Ren:=⟨fun | 99=>225 | 206=>269 | n=>n,fun | 9=>9 | 4=>4 | 3=>3 | n=>n,fun | n=>n⟩
theorem Tryz.lays99:Go.Proofs.Lays.n99 Tryz.prog Tryz.lays99_ren:={
 mixed:=by kernel_rfl
 f99:=Tryz.func225.trans (congrArg some (by kernel_rfl))
 f206:=Tryz.func269.trans (congrArg some (by kernel_rfl))
 t3:=Tryz.underlying3
 a3:=Tryz.isAgg3
 z3:=Tryz.sizeOf3
 v3:=Tryz.zeroValue3
 t4:=Tryz.underlying4
 a4:=Tryz.isAgg4
 z4:=Tryz.sizeOf4
 v4:=Tryz.zeroValue4
 t9:=Tryz.underlying9
 a9:=Tryz.isAgg9
 z9:=Tryz.sizeOf9
 v9:=Tryz.zeroValue9 }
open Go.RowKit Go.Lib in
theorem Tryz.strings_HasPrefix (s p:ByteArray) (w:World) :
  Calls Tryz.prog 225 #[.string s,.string p] w fun e w'=>e = .returned (.bool (Lib.hasPrefix s.data.toList p.data.toList))/\w'=w:=Any.strings_HasPrefix Tryz.lays99 s p w
def Tryz.lays152_ren:Go.Shelf.Ren:=⟨fun | 152=>265 | 137=>306 | 119=>307 | 224=>308 | 225=>309 | 217=>341 | 266=>358 | n=>n,fun | 9=>9 | 21=>21 | 3=>3 | 4=>4 | 5=>5 | 0=>0 | 46=>159 | n=>n,fun | n=>n⟩
theorem Tryz.lays152:Go.Proofs.Lays.n152 Tryz.prog Tryz.lays152_ren:={
 mixed:=by kernel_rfl
 f119:=Tryz.func307.trans (congrArg some (by kernel_rfl))
 f137:=Tryz.func306.trans (congrArg some (by kernel_rfl))
 f152:=Tryz.func265.trans (congrArg some (by kernel_rfl))
 f217:=Tryz.func341.trans (congrArg some (by kernel_rfl))
 f224:=Tryz.func308.trans (congrArg some (by kernel_rfl))
 f225:=Tryz.func309.trans (congrArg some (by kernel_rfl))
 f266:=Tryz.func358.trans (congrArg some (by kernel_rfl))
 t0:=Tryz.underlying0
 a0:=Tryz.isAgg0
 z0:=Tryz.sizeOf0
 v0:=Tryz.zeroValue0
 t3:=Tryz.underlying3
 a3:=Tryz.isAgg3
 z3:=Tryz.sizeOf3
 v3:=Tryz.zeroValue3
 t4:=Tryz.underlying4
 a4:=Tryz.isAgg4
 z4:=Tryz.sizeOf4
 v4:=Tryz.zeroValue4
 t5:=Tryz.underlying5
 a5:=Tryz.isAgg5
 z5:=Tryz.sizeOf5
 v5:=Tryz.zeroValue5
 t9:=Tryz.underlying9
 a9:=Tryz.isAgg9
 z9:=Tryz.sizeOf9
 v9:=Tryz.zeroValue9
 t21:=Tryz.underlying21
 a21:=Tryz.isAgg21
 z21:=Tryz.sizeOf21
 v21:=Tryz.zeroValue21
 t46:=Tryz.underlying159
 a46:=Tryz.isAgg159
 z46:=Tryz.sizeOf159
 v46:=Tryz.zeroValue159 }
open Go.RowKit Go.Lib in
theorem Tryz.strings_IndexRune_ascii (s:ByteArray) (r:Int) (w:World) (h0:0<=r) (h1:r<128) :
  Calls Tryz.prog 265 #[.string s,.int .i32 r] w fun e w'=>e = .returned (.int .i64 (Lib.indexByte s.data.toList r.toNat.toUInt8))/\w'=w:=Any.strings_IndexRune_ascii Tryz.lays152 s r w h0 h1
def Tryz.lays226_ren:Go.Shelf.Ren:=⟨fun | 226=>266 | n=>n,fun | 3=>3 | 4=>4 | n=>n,fun | n=>n⟩
theorem Tryz.lays226:Go.Proofs.Lays.n226 Tryz.prog Tryz.lays226_ren:={
 mixed:=by kernel_rfl
 f226:=Tryz.func266.trans (congrArg some (by kernel_rfl))
 t3:=Tryz.underlying3
 a3:=Tryz.isAgg3
 z3:=Tryz.sizeOf3
 v3:=Tryz.zeroValue3
 t4:=Tryz.underlying4
 a4:=Tryz.isAgg4
 z4:=Tryz.sizeOf4
 v4:=Tryz.zeroValue4 }
open Go.RowKit Go.Lib in
theorem Tryz.strings_shouldUseASCIISet (n:Int) (w:World) :
  Calls Tryz.prog 266 #[.int .i64 n] w fun e w'=>e = .returned (.bool (decide (8<n)))/\w'=w:=Any.strings_shouldUseASCIISet Tryz.lays226 n w
def Tryz.lays153_ren:Go.Shelf.Ren:=⟨fun | 153=>224 | 152=>265 | 226=>266 | 227=>267 | 228=>268 | 137=>306 | 119=>307 | 224=>308 | 225=>309 | 217=>341 | 266=>358 | n=>n,fun | 9=>9 | 3=>3 | 4=>4 | 5=>5 | 21=>21 | 117=>345 | 116=>344 | 0=>0 | 46=>159 | 124=>377 | n=>n,fun | n=>n⟩
theorem Tryz.lays153:Go.Proofs.Lays.n153 Tryz.prog Tryz.lays153_ren:={
 mixed:=by kernel_rfl
 f119:=Tryz.func307.trans (congrArg some (by kernel_rfl))
 f137:=Tryz.func306.trans (congrArg some (by kernel_rfl))
 f152:=Tryz.func265.trans (congrArg some (by kernel_rfl))
 f153:=Tryz.func224.trans (congrArg some (by kernel_rfl))
 f217:=Tryz.func341.trans (congrArg some (by kernel_rfl))
 f224:=Tryz.func308.trans (congrArg some (by kernel_rfl))
 f225:=Tryz.func309.trans (congrArg some (by kernel_rfl))
 f226:=Tryz.func266.trans (congrArg some (by kernel_rfl))
 f227:=Tryz.func267.trans (congrArg some (by kernel_rfl))
 f228:=Tryz.func268.trans (congrArg some (by kernel_rfl))
 f266:=Tryz.func358.trans (congrArg some (by kernel_rfl))
 t0:=Tryz.underlying0
 a0:=Tryz.isAgg0
 z0:=Tryz.sizeOf0
 v0:=Tryz.zeroValue0
 t3:=Tryz.underlying3
 a3:=Tryz.isAgg3
 z3:=Tryz.sizeOf3
 v3:=Tryz.zeroValue3
 t4:=Tryz.underlying4
 a4:=Tryz.isAgg4
 z4:=Tryz.sizeOf4
 v4:=Tryz.zeroValue4
 t5:=Tryz.underlying5
 a5:=Tryz.isAgg5
 z5:=Tryz.sizeOf5
 v5:=Tryz.zeroValue5
 t9:=Tryz.underlying9
 a9:=Tryz.isAgg9
 z9:=Tryz.sizeOf9
 v9:=Tryz.zeroValue9
 t21:=Tryz.underlying21
 a21:=Tryz.isAgg21
 z21:=Tryz.sizeOf21
 v21:=Tryz.zeroValue21
 t46:=Tryz.underlying159
 a46:=Tryz.isAgg159
 z46:=Tryz.sizeOf159
 v46:=Tryz.zeroValue159
 t116:=Tryz.underlying344
 a116:=Tryz.isAgg344
 z116:=Tryz.sizeOf344
 t117:=Tryz.underlying345
 a117:=Tryz.isAgg345
 z117:=Tryz.sizeOf345
 v117:=Tryz.zeroValue345
 t124:=Tryz.underlying377
 a124:=Tryz.isAgg377
 z124:=Tryz.sizeOf377
 v124:=Tryz.zeroValue377 }
open Go.RowKit Go.Lib in
theorem Tryz.strings_IndexAny_long (hv116:∀ w,(zeroValue 344).run Tryz.prog w = .ok (.agg (Array.replicate 256 (.bool false))) w) (s chars:ByteArray) (w:World) (h2:2<=chars.size) (h8:8<s.size) (hs:s.size<4294967281) (hcs:chars.size<4294967281) (hascii:∀ (j:Nat) b,chars.data.toList[j]? = some b->b.toNat<128) :
  Calls Tryz.prog 224 #[.string s,.string chars] w fun e w'=>e = .returned (.int .i64 (Lib.indexAny s.data.toList chars.data.toList))/\w'=((w.alloc (.cells (Lib.setCells chars.data.toList) 344)).alloc (.cells (Lib.setCells chars.data.toList) 344)):=Any.strings_IndexAny_long Tryz.lays153 hv116 (by kernel_rfl) s chars w h2 h8 hs hcs hascii
end Go.Proofs
namespace Go.Proofs.YtcpmjgdlioggjaaGreatDoor
open Go Go.RowKit Go.Ev
def XO (x:List UInt8):List (List UInt8)->List (List UInt8)
 | []=>[x]
 | y::r=>if decide (x<=y)=true then x::y::r else y::XO x r
def TJ:List (List UInt8)->List (List UInt8)
 | []=>[]
 | x::r=>XO x (TJ r)
theorem QG (x:List UInt8):∀ l,(XO x l).Perm (x::l)
 | []=>List.Perm.refl _
 | y::r=>by
  unfold XO
  split
  ·exact List.Perm.refl _
  ·exact ((QG x r).cons y).trans (List.Perm.swap _ _ _)
theorem Rm:∀ l,(TJ l).Perm l
 | []=>List.Perm.refl _
 | x::r=>(QG x _).trans ((Rm r).cons x)
theorem Y1 (x:List UInt8):∀ l:List (List UInt8),l.Pairwise (fun a b=>a<=b)->(XO x l).Pairwise (fun a b=>a<=b)
 | [],_=>by simp [XO]
 | y::r,h=>by
  obtain ⟨d,e⟩:=List.pairwise_cons.1 h
  unfold XO
  split
  ·rename_i c
   have c:x<=y:=of_decide_eq_true c
   refine List.pairwise_cons.2 ⟨fun z hz=>?_,h⟩
   rcases List.mem_cons.1 hz with rfl | hz
   ·exact c
   ·exact List.le_trans c (d z hz)
  ·rename_i c
   have c:y<=x:=by
    rcases List.le_total x y with q | q
    ·exact absurd (decide_eq_true q) c
    ·exact q
   refine List.pairwise_cons.2 ⟨fun z hz=>?_,Y1 x r e⟩
   rcases List.mem_cons.1 ((QG x r).mem_iff.1 hz) with rfl | hz
   ·exact c
   ·exact d z hz
theorem Vf:∀ l,(TJ l).Pairwise (fun a b=>a<=b)
 | [] => .nil
 | x::r=>Y1 x _ (Vf r)
theorem ZO (l:List (List UInt8)):(l.mergeSort fun x y=>decide (x<=y))=TJ l:=by
 refine List.Perm.eq_of_pairwise (le:=fun a b=>a<=b) (fun a b _ _ e d=>List.le_antisymm e d) ?_ (Vf l) ((List.mergeSort_perm l _).trans (Rm l).symm)
 have:=List.pairwise_mergeSort (le:=fun x y:List UInt8=>decide (x<=y)) (fun a b c e d=>decide_eq_true (List.le_trans (of_decide_eq_true e) (of_decide_eq_true d))) (fun a b=>by
  rcases List.le_total a b with q | q<;>simp [q]) l
 exact this.imp fun h=>of_decide_eq_true h
def JC (xs:List ByteArray):List ByteArray:=(TJ (xs.map bl)).map fun l=>⟨l.toArray⟩
theorem Zbh (xs:List ByteArray):YZ xs=JC xs:=by rw [YZ,ZO];rfl
theorem F6 (xs:List ByteArray):(JC xs).length=xs.length:=by rw [<-Zbh,Vi]
def CN (n:Nat) (g:Int) (h:Int):Nat->(List Slt)->Option ((List Slt))
 | 0,_=>none
 | m+1,b =>
  if decide ((g+1)<h) then
   Av
  else
   some (b)
def CU (n:Nat) (g:List Slt) (b:Int) (h:Int):Option ((List Slt)) :=
 if B1 (b+1) then
  CN n b h n g
 else none
theorem Hy (w0:World) (n:Nat) (B:Aj) (Rw:Am) (L:An) (oa0:VO) (a0:List Slt) (hGa0:Owns Rw Rw [] (WA oa0) [(oa0,10,a0.flatMap fun x=>(Br x).cells)]) (a1:Int) (a2:Int) (r:(List Slt)) (h:CU n a0 a1 a2=some r) :
  ACalls Tryz.prog w0 147 [Gk oa0 a0.length,Ag a1,Ag a2,.clo 75 []] ⟨B,Rw,L⟩ fun x st=>x = .tup []/\∃ (R1:Am),st=⟨B,R1,L⟩/\Owns Rw R1 [] (WA oa0) [(oa0,10,r.flatMap fun x=>(Br x).cells)]/\r.length=a0.length:=by
 rw [CU] at h
 refine ACalls.finG (BN (rs:=[]) Tryz.func147 rfl rfl Tryz.ntmps147 (AU Tryz.func147 rfl (by decide)) (Nat.le_of_ble_eq_true rfl) ?_)
 intro M0 W0 j g i b l
 dsimp only at j g i b l
 simp only [As]
 have c:=hGa0
 have hs:=Rr
 obtain ⟨o,h⟩:=Ak h
 refine rg [0,1,2,3,8] hs ?_
 apply Ao
 refine AB (fun m e st=>∃ (a:List Slt) (Xl3:Aj) (Rl3:Am),e=[(0,true,Gk oa0 a.length),(1,true,Ag a1),(2,true,Ag a2),(3,true,.clo 75 []),(8,true,Ag (a1+1))]/\st=⟨B++([]++Xl3),Rl3,L⟩/\Owns Rw Rl3 [] (WA oa0) [(oa0,10,a.flatMap fun x=>(Br x).cells)]/\a.length=a0.length/\CN n a1 a2 m a=some r) n ⟨a0,([]),Rw,ef hs,ef hs,Owns.eqV (c) Rz,by first | rfl | assumption | (simp only [List.length_set];first | rfl | assumption | omega) | omega,h⟩ ?_
 rintro ml3 e st ⟨a,Xl3,Rl3,rfl,rfl,c,p,h⟩ Ul3 Vl3
 cases ml3 with
 | zero=>cases h
 | succ ml3 =>
 rw [CN] at h
 have f:=c.underV
 simp only [List.mem_cons,List.not_mem_nil,or_false,forall_eq_or_imp,forall_eq] at f
 refine DW j g i rfl (DJ b c.len) c ow ow ?_ (vu @F7)
 apply Ah;intro K4 k
 refine rg [0,1,2,3,8,14] hs ?_
 refine BA h hs ?_ ?_<;>intro hs h
 rotate_left
 ·have d:=hs.1
  refine CX (BW [] _) ?_ (BD _ _)
  apply D4;simp +decide only [go_sem,Nat.reduceAdd]
  (repeat' with_reducible apply Ac)<;>first | exact cl | skip
  have hgt:=Option.some.inj h;subst hgt
  have f:=c.underV
  simp only [List.mem_cons,List.not_mem_nil,or_false,forall_eq_or_imp,forall_eq] at f
  refine Yb c (DJ b c.len) rfl ev ⟨?_,_,?_,c.sub (List.nil_sublist _),by first | rfl | assumption | (simp only [List.length_set];first | rfl | assumption | omega) | omega⟩ (vu @F7)
  all_goals first | rfl | (simp +decide only [go_sem,Nat.reduceAdd,d];done) | (simp +decide only [go_sem,Nat.reduceAdd,Vl.cs,Ty.cs,d];done)
 have d:=hs.1
 exact nS h
def DT (n:Nat) (g:Int):Nat->(List Slt)->Option ((List Slt))
 | 0,_=>none
 | m+1,b =>
  if decide (20<g) then
   Av
  else
   some (b)
def Ek (n:Nat) (h:Int) (b:List Slt):Option ((List Slt)) :=
 (CU n b 0 h).bind fun g =>
 DT n h n g
def En (n:Nat) (g:Int):Nat->(List Slt)->Option ((List Slt))
 | 0,_=>none
 | m+1,b =>
  if decide (20<=g) then
   Av
  else
   Ek n g b
def Eu (n:Nat) (g:List Slt) (b:Int):Option ((List Slt)) :=
 En n b n g
theorem KG (w0:World) (n:Nat) (B:Aj) (Rw:Am) (L:An) (oa0:VO) (a0:List Slt) (hGa0:Owns Rw Rw [] (WA oa0) [(oa0,10,a0.flatMap fun x=>(Br x).cells)]) (a1:Int) (r:(List Slt)) (h:Eu n a0 a1=some r) :
  ACalls Tryz.prog w0 104 [Gk oa0 a0.length,Ag a1,.clo 75 []] ⟨B,Rw,L⟩ fun x st=>x = .tup []/\∃ (R1:Am),st=⟨B,R1,L⟩/\Owns Rw R1 [] (WA oa0) [(oa0,10,r.flatMap fun x=>(Br x).cells)]/\r.length=a0.length:=by
 rw [Eu] at h
 refine ACalls.finG (BN (rs:=[]) Tryz.func104 rfl rfl Tryz.ntmps104 (AU Tryz.func104 rfl (by decide)) (Nat.le_of_ble_eq_true rfl) ?_)
 intro M0 W0 t l o d z
 dsimp only at t l o d z
 simp only [As]
 have f:=hGa0
 have hs:=Rr
 refine rg [0,1,2,6] hs ?_
 refine rg [0,1,2,6,7,8] hs ?_
 refine AO (fun e st=>∃ (b:List Slt) (Xk4:Aj) (Rk4:Am),e=[(0,true,Gk oa0 b.length),(1,true,Ag a1),(2,true,.clo 75 []),(6,true,Ag 20),(7,true,Ag 0)]/\st=⟨B++([]++Xk4),Rk4,L⟩/\Owns Rw Rk4 [] (WA oa0) [(oa0,10,b.flatMap fun x=>(Br x).cells)]/\b.length=a0.length/\Ek n a1 b=some r) ?_ ?_
 ·intro K5 u
  apply Ao
  refine AB (fun m e st=>∃ (c:List Slt) (Xl6:Aj) (Rl6:Am),e=[(0,true,Gk oa0 c.length),(1,true,Ag a1),(2,true,.clo 75 []),(6,true,Ag 20),(7,true,Ag 0),(8,true,Ag 20)]/\st=⟨B++([]++Xl6),Rl6,L⟩/\Owns Rw Rl6 [] (WA oa0) [(oa0,10,c.flatMap fun x=>(Br x).cells)]/\c.length=a0.length/\En n a1 m c=some r) n ⟨a0,([]),Rw,ef hs,ef hs,Owns.eqV (f) Rz,by first | rfl | assumption | (simp only [List.length_set];first | rfl | assumption | omega) | omega,h⟩ ?_
  rintro ml6 e st ⟨c,Xl6,Rl6,rfl,rfl,f,s,h⟩ Ul6 Vl6
  cases ml6 with
  | zero=>cases h
  | succ ml6 =>
  rw [En] at h
  have i:=f.underV
  simp only [List.mem_cons,List.not_mem_nil,or_false,forall_eq_or_imp,forall_eq] at i
  refine DW t l o rfl (DJ d f.len) f ow ow ?_ (vu @F7)
  apply Ah;intro K7 y
  refine rg [0,1,2,6,7,8,13] hs ?_
  refine BA h hs ?_ ?_<;>intro hs h
  rotate_left
  ·refine sx [0,1,2,6,7] hs u ?_
   exact ⟨c,([]),Rl6,ef hs,ef hs,Owns.eqV (f) Rz,by first | rfl | assumption | (simp only [List.length_set];first | rfl | assumption | omega) | omega,h⟩
  exact nS h
 ·clear h;rintro e st ⟨b,Xk4,Rk4,rfl,rfl,f,s,h⟩
  rw [Ek] at h
  have i:=f.underV
  simp only [List.mem_cons,List.not_mem_nil,or_false,forall_eq_or_imp,forall_eq] at i
  refine DW t l o rfl (DJ d f.len) f ow ow ?_ (vu @F7)
  apply Ah;intro K10 p
  obtain ⟨v,q,h⟩:=bind_some h
  refine IH 0 (by decide) ?_
  refine rk 2 [0,1,2,6] hs ?_
  refine Jj [false,true,true,true] _ (Hy w0 n _ _ _ oa0 b f.enterV 0 a1 _ q) (hv hs) ?_;rintro _ _ ⟨rfl,Rg12,rfl,k,g⟩
  have f:=f.callG k
  refine ne hs p ?_
  clear p
  apply Ao
  have hs:=Ac g hs
  refine AB (fun m e st=>∃ (a:List Slt) (Xl13:Aj) (Rl13:Am),e=[(0,true,Gk oa0 a.length),(1,true,Ag a1),(2,true,.clo 75 []),(6,true,Ag 20)]/\st=⟨B++([]++Xl13),Rl13,L⟩/\Owns Rw Rl13 [] (WA oa0) [(oa0,10,a.flatMap fun x=>(Br x).cells)]/\a.length=a0.length/\DT n a1 m a=some r) n ⟨v,([]),Rg12,ef hs,ef hs,Owns.eqV (f) Rz,by first | rfl | assumption | (simp only [List.length_set];first | rfl | assumption | omega) | omega,h⟩ ?_
  rintro ml13 e st ⟨a,Xl13,Rl13,rfl,rfl,f,s,h⟩ Ul13 Vl13
  cases ml13 with
  | zero=>cases h
  | succ ml13 =>
  rw [DT] at h
  have i:=f.underV
  simp only [List.mem_cons,List.not_mem_nil,or_false,forall_eq_or_imp,forall_eq] at i
  refine DW t l o rfl (DJ d f.len) f ow ow ?_ (vu @F7)
  apply Ah;intro K14 w
  refine rg [0,1,2,6,30] hs ?_
  refine BA h hs ?_ ?_<;>intro hs h
  rotate_left
  ·have j:=hs.1
   refine CX (BW [] _) ?_ (BD _ _)
   apply D4;simp +decide only [go_sem,Nat.reduceAdd]
   (repeat' with_reducible apply Ac)<;>first | exact cl | skip
   have hgt:=Option.some.inj h;subst hgt
   have i:=f.underV
   simp only [List.mem_cons,List.not_mem_nil,or_false,forall_eq_or_imp,forall_eq] at i
   refine Yb f (DJ d f.len) rfl ev ⟨?_,_,?_,f.sub (List.nil_sublist _),by first | rfl | assumption | (simp only [List.length_set];first | rfl | assumption | omega) | omega⟩ (vu @F7)
   all_goals first | rfl | (simp +decide only [go_sem,Nat.reduceAdd,g,j];done) | (simp +decide only [go_sem,Nat.reduceAdd,Vl.cs,Ty.cs,g,j];done)
  have j:=hs.1
  exact nS h
def Em (n:Nat) (b:List Slt):Option ((List Slt)) :=
 (Eu n b (b.length:Int)).bind fun g =>
 some (g)
theorem JY (w0:World) (n:Nat) (B:Aj) (Rw:Am) (L:An) (oa0:VO) (a0:List Slt) (hGa0:Owns Rw Rw [] (WA oa0) [(oa0,10,a0.flatMap fun x=>(Br x).cells)]) (r:(List Slt)) (h:Em n a0=some r) :
  ACalls Tryz.prog w0 74 [Gk oa0 a0.length,.clo 75 []] ⟨B,Rw,L⟩ fun x st=>x = .tup []/\∃ (R1:Am),st=⟨B,R1,L⟩/\Owns Rw R1 [] (WA oa0) [(oa0,10,r.flatMap fun x=>(Br x).cells)]/\r.length=a0.length:=by
 rw [Em] at h
 refine ACalls.finG (BN (rs:=[]) Tryz.func74 rfl rfl Tryz.ntmps74 (AU Tryz.func74 rfl (by decide)) (Nat.le_of_ble_eq_true rfl) ?_)
 intro M0 W0 l i j c m
 dsimp only at l i j c m
 simp only [As]
 have d:=hGa0
 have hs:=Rr
 have a:=d.lenV (by decide:0<10) (CJ (f:=Br) (sz:=10) (fun _=>by simp +decide only [go_sem]) a0) Tryz.prog 39
 simp +decide only [go_sem] at a
 obtain ⟨o,g,h⟩:=bind_some h
 refine IH 0 (by decide) ?_
 apply Ap 2 []
 rw [Ai];simp +decide only [go_sem,Nat.reduceAdd,a]
 have hs:=Ac a hs
 (repeat' apply Ac)<;>first | (refine Jj [false,true,true] _ (KG w0 n _ _ _ oa0 a0 d.enterV (a0.length:Int) _ g) (hv hs) ?_;rintro _ _ ⟨rfl,Rg3,rfl,e,b⟩) | exact cl
 have d:=d.callG e
 rw [Ai];simp +decide only [go_sem,Nat.reduceAdd,a]
 (repeat' with_reducible apply Ac)<;>first | exact cl | skip
 have hgt:=Option.some.inj h;subst hgt
 have k:=d.underV
 simp only [List.mem_cons,List.not_mem_nil,or_false,forall_eq_or_imp,forall_eq] at k
 refine Yb d (DJ c d.len) rfl ev ⟨?_,_,?_,d.sub (List.nil_sublist _),by first | rfl | assumption | (simp only [List.length_set];first | rfl | assumption | omega) | omega⟩ (vu @F7)
 all_goals first | rfl | (simp +decide only [go_sem,Nat.reduceAdd,a,b];done) | (simp +decide only [go_sem,Nat.reduceAdd,Vl.cs,Ty.cs,a,b];done)
def HQ (n:Nat)  (b:List Slt):Option ((List Slt)) :=
 (Em n b).bind fun g =>
 some (g)
def FX (n:Nat) (y:Stt) (a1:Int):Nat->(List Slt)->Int->Option ((List Slt))
 | 0,_,_=>none
 | m+1,g,b =>
  if decide (b<(y.slots.length:Int)) then
   (D1 y.slots b).bind fun h =>
   if (decide (0<h.time))&&(decide (h.time<=a1)) then
    (CB n h).bind fun q =>
    if (g.length+1)*152<=140737488355328/\g.length+1<=4611686018427387904 then
     if B1 (b+1) then
      (FX n y a1 m) (g++[q]) (b+1)
     else none
    else none
   else
    Av
  else
   HQ n g
def IV (n:Nat) (g:Stt) (b:Int):Option ((List Slt)) :=
 FX n g b n ([]) 0
theorem QK (w0:World) (n:Nat) (B:Aj) (Rw:Am) (L:An) (a0:Stt) (a1:Int) (r:(List Slt)) (h:IV n a0 a1=some r) :
  ACalls Tryz.prog w0 40 [.agg (DR a0),Ag a1] ⟨B,Rw,L⟩ fun x st=>x = .list (r.map Br) .none/\st=⟨B,Rw,L⟩:=by
 rw [IV] at h
 refine hd [.tmp 4] Tryz.func40 Tryz.ntmps40 fun M0 W0 V H J j hu i hs=>?_
 simp only [As]
 refine rg [1,2] hs ?_
 refine rg [1,2,5] hs ?_
 refine AO (fun e st=>∃ (g:List Slt) (d:VO) (Xk4:Aj) (Rk4:Am),e=[(5,true,Gk d g.length)]/\st=⟨B++([DR a0]++Xk4),Rk4,L⟩/\Owns Rw Rk4 [] .none [(d,10,g.flatMap fun x=>(Br x).cells)]/\HQ n g=some r) ?_ ?_
 ·intro K5 Q
  refine rg [1,5,9,10,11] hs ?_
  apply Ao
  refine Zbf 5 rfl ?_
  refine CX (BW [1,5,9,10,11] _) ?_ (BD _ _);simp +decide only [go_sem,Nat.reduceAdd]
  have i:=i.nilV 10
  refine AB (fun m e st=>∃ (a:List Slt) (b:Int) (c:VO) (Xl7:Aj) (Rl7:Am),e=[(1,true,Ag a1),(5,true,Gk c a.length),(9,true,.list (a0.slots.map Br) .none),(10,true,Ag (a0.slots.length:Int)),(11,true,Ag b)]/\st=⟨B++([DR a0]++Xl7),Rl7,L⟩/\Owns Rw Rl7 [] .none [(c,10,a.flatMap fun x=>(Br x).cells)]/\FX n a0 a1 m a b=some r) n ⟨([]),0,.nil,([]),Rw,ef hs,ef hs,Owns.eqV (i) Rz,h⟩ ?_
  rintro ml7 e st ⟨a,b,c,Xl7,Rl7,rfl,rfl,i,h⟩ Ul7 Vl7
  cases ml7 with
  | zero=>cases h
  | succ ml7 =>
  rw [FX] at h
  have y:=i.underV
  simp only [List.mem_cons,List.not_mem_nil,or_false,forall_eq_or_imp,forall_eq] at y
  refine A8 V H J rfl j i ow ow ?_ (vu @F7)
  refine rg [1,5,9,10,11,12] hs ?_
  apply Ah;intro K10 u
  refine BA h hs ?_ ?_<;>intro hs h
  rotate_left
  ·refine sx [5] hs Q ?_
   exact ⟨a,c,([]),Rl7,ef hs,ef hs,Owns.eqV (i) Rz,h⟩
  refine sk [1,5,9,10,11] hs u ?_
  clear u
  apply Ah;intro K12 q
  apply Ao
  obtain ⟨D,F,h⟩:=bind_some h
  obtain ⟨O,U,z⟩:=Bo F
  have C:=Bq (f:=Br) z
  have hs:=Ac C hs
  refine rg [1,5,7,9,10,11] hs ?_
  refine rg [1,5,7,9,10,11,23] hs ?_
  refine BA h hs ?_ ?_<;>intro hs h
  ·obtain ⟨w,E,h⟩:=bind_some h
   obtain ⟨t,h⟩:=Ak h
   obtain ⟨N,o,i,l⟩:=i.appendV (P:=Tryz.prog) (n:=a.length) (m:=1) Wq (by rw [Oa];rfl) (by decide) ((CJ (f:=Br) (sz:=10) (fun _=>by simp +decide only [go_sem]) _)) t.1 t.2 [Br w] rfl ((a++[w]).flatMap fun x=>(Br x).cells) (by simp only [List.flatMap_append,List.flatMap_cons,List.flatMap_nil,List.append_nil,List.nil_append,Qv])
   simp only [List.mem_singleton,forall_eq,A2,A0,AY,A3,AZ,AX,AN,AG,A1,Ax,Az,AH,AM,AL,A5,AK,A6,J3] at l
   have hs:=Ac l hs
   refine rk 2 [1,5,9,10,11] hs ?_
   refine Aq _ (Dv w0 n _ _ _ D _ E) (hv hs) ?_
   refine ne hs q ?_
   clear q
   obtain ⟨Y,h⟩:=Ak h
   refine rl [1,5,9,10,11] hs (fun e s=>Vl7 ml7 e s (Nat.lt_succ_self _)) ?_
   exact ⟨(a++[w]),(b+1),N,([Ll D]),o,ef hs,ef hs,Owns.eqV (i) Rz,h⟩
  exact nS h
 ·clear h;rintro e st ⟨g,d,Xk4,Rk4,rfl,rfl,i,h⟩
  rw [HQ] at h
  have y:=i.underV
  simp only [List.mem_cons,List.not_mem_nil,or_false,forall_eq_or_imp,forall_eq] at y
  refine A8 V H J rfl j i ow ow ?_ (vu @F7)
  apply Ah;intro K23 v
  obtain ⟨Z,G,h⟩:=bind_some h
  refine IH 0 (by decide) ?_
  refine rk 2 [5] hs ?_
  refine Jj [false,true] _ (JY w0 n _ _ _ d g i.enterV _ G) (hv hs) ?_;rintro _ _ ⟨rfl,Rg25,rfl,p,k⟩
  have i:=i.callG p
  refine ne hs v ?_
  clear v
  have hs:=Ac k hs
  refine rg [4] hs ?_
  refine ZdG 4 (by first | rfl | (simp only [PN,List.length_set];rfl) | (simp only [k];rfl)) i true (.inl rfl) (by decide) ((CJ (f:=Br) (sz:=10) (fun _=>by simp +decide only [go_sem]) _)) (PO (f:=Br) 10 (fun _=>rfl) (fun _=>by simp +decide only [go_sem]) _) (fun K i=>?_)
  simp +decide only [go_sem,Nat.reduceAdd,List.set_cons_zero,List.set_cons_succ]
  exact rt h hs j i
def FN (n:Nat) (a0n:Nod) (a0now:Int) (a0under:Int × List Int) (a0sent:Int) (a0state:Stt):Option (Int × Otc) :=
 (IV n a0state a0now).bind fun h =>
 if decide (0<(h.length:Int)) then
  (D1 h 0).bind fun g =>
  if decide (g.number<(a0n.calls.length:Int)) then
   (CM n a0n a0now a0under a0sent a0state g g.number).bind fun b =>
   if B1 (0+1) then
    if decide ((0+1)<(h.length:Int)) then
     Av
    else
     some ((b.1,b.2))
   else none
  else
   Av
 else
  some ((a0sent,Otc.mk a0state ([]) ([]) ([]) ([])))
theorem M6 (w0:World) (n:Nat) (B:Aj) (Rw:Am) (L:An) (la0:Nat) (a0n:Nod) (a0now:Int) (a0under:Int × List Int) (a0sent:Int) (a0state:Stt) (hla0:B[la0]? = some (Bd a0n a0now a0under a0sent a0state (.list ([]) .full) (.list ([]) .full) (.list ([]) .full) (.list ([]) .full))) (r:Int × Otc) (h:FN n a0n a0now a0under a0sent a0state=some r) :
  ACalls Tryz.prog w0 24 [.box la0 0] ⟨B,Rw,L⟩ fun x st=>x = .tup []/\st=⟨(B.set la0 (Bd a0n a0now a0under r.1 r.2.state (.list (r.2.outputs.map KN) .none) (.list (r.2.requests.map GQ) .none) (.list (r.2.fates.map Hn) .none) (.list (r.2.letters.map Cj) .none))),Rw,L⟩:=by
 rw [FN] at h
 refine hd [] Tryz.func24 Tryz.ntmps24 fun M0 W0 N H J b K t hs=>?_
 simp only [As]
 have a:=(Af.1 hla0).1
 apply GW;intro KE j
 refine Ho (B':=B.set la0 (Bd a0n a0now a0under a0sent a0state (.list ([]) .full) (.list ([]) .full) (.list ([]) .full) (.list ([]) .full))) (by simp only [Bc hla0]) ?_
 obtain ⟨F,v,h⟩:=bind_some h
 have hs:=Ac (Ar hla0) hs
 apply Ah;intro K1 m
 refine dk 12 2 1 [0,13,14,15] hs GP ?_
 refine Aq _ (QK w0 n _ _ _ a0state a0now _ v) (hv hs) ?_
 refine dn hs m ?_
 clear m
 apply Ao
 apply WS;intro K3 l
 refine rg [0,13,14,15,16] hs ?_
 apply Ah;intro K5 p
 refine BA h hs ?_ ?_<;>intro hs h
 rotate_left
 ·have d:=hs.1
  refine CX (BW [] _) ?_ (BD _ _)
  apply D4;simp +decide only [go_sem,Nat.reduceAdd]
  (repeat' apply Ac)<;>first | refine j _ _ _ (F8 a) ?_ | refine j _ _ _ (Ew a) ?_ | exact cl
  simp +decide only [go_sem,Nat.reduceAdd,Ar hla0,d]
  have hgt:=Option.some.inj h;subst hgt
  first | refine Cb (AA b ev) GR t.pre ev ⟨?_,rfl⟩ | refine Dq (AA b ev) GR t.pre ev ⟨?_,rfl⟩
  first | rfl | (simp +decide only [go_sem,Nat.reduceAdd,Ar hla0,d];done) | (simp +decide only [go_sem,Nat.reduceAdd,Vl.cs,Ty.cs,Ar hla0,d];done)
 have d:=hs.1
 refine sk [0,13,14,15] hs p ?_
 clear p
 apply Ah;intro K7 o
 apply Ao
 obtain ⟨C,u,h⟩:=bind_some h
 obtain ⟨z,y,s⟩:=Bo u
 have c:=Bq (f:=Br) s
 have e:(F.map Br).getD 0 .junk=_:=c
 have hs:=Ac c hs
 have hs:=Ac e hs
 refine rg [0,3,13,14,15] hs ?_
 apply Ah;intro K10 D
 refine dg 9 1 1 [0,3,13,14,15,27] hs GP ?_
 refine BA h hs ?_ ?_<;>intro hs h
 ·have i:=hs.1
  obtain ⟨G,q,h⟩:=bind_some h
  refine rc 2 [0,13,14,15] hs ?_;intro K13 k
  refine Bm _ (D5 w0 n _ _ _ la0 a0n a0now a0under a0sent a0state (ef hs) C C.number _ q) (hv hs) ?_;rintro _ _ ⟨rfl,rfl⟩
  refine ne hs k ?_
  clear k
  refine sx [0,13,14,15] hs o ?_
  clear o
  obtain ⟨w,h⟩:=Ak h
  refine rl [0,13,14,15] hs l ?_
  clear l
  refine rg [0,13,14,15,16] hs ?_
  apply Ah;intro K17 E
  refine BA h hs ?_ ?_<;>intro hs h
  rotate_left
  ·have g:=hs.1
   refine CX (BW [] _) ?_ (BD _ _)
   apply D4;simp +decide only [go_sem,Nat.reduceAdd]
   (repeat' apply Ac)<;>first | refine j _ _ _ (F8 a) ?_ | refine j _ _ _ (Ew a) ?_ | exact cl
   simp +decide only [go_sem,Nat.reduceAdd,Ar hla0,d,c,e,i,g]
   have hgt:=Option.some.inj h;subst hgt
   first | refine Cb (AA b ev) GR t.pre ev ⟨?_,rfl⟩ | refine Dq (AA b ev) GR t.pre ev ⟨?_,rfl⟩
   first | rfl | (simp +decide only [go_sem,Nat.reduceAdd,Ar hla0,d,c,e,i,g];done) | (simp +decide only [go_sem,Nat.reduceAdd,Vl.cs,Ty.cs,Ar hla0,d,c,e,i,g];done)
  have g:=hs.1
  exact nS h
 have i:=hs.1
 exact nS h
end Go.Proofs.YtcpmjgdlioggjaaGreatDoor
namespace Go.Ev
open Go Go.RowKit
noncomputable def WL (t:TypeId) (m:Nat) (o:Oper):Option (Int × FuncId) :=
 match o.dst,o.guard,o.op with
 | none,none,.insert t' (.tmp m') (.const (.int .i64 k)) (.func f)=>if t'=t/\m'=m then some (k,f) else none
 | _,_,_=>none
noncomputable def Et (t:TypeId) (m:Nat):List Oper->List (Int × FuncId) × List Oper
 | []=>([],[])
 | o::os=>match WL t m o with
  | some x=>(x::(Et t m os).1,(Et t m os).2)
  | none=>([],o::os)
noncomputable def ZfD (P:Program) (n:Nat):List Oper->Option (Nat × List (Int × FuncId) × List Oper)
 | []=>none
 | o::os=>match o.op,o.dst,o.guard with
  | .makeMap t none,some m,none=>if Zj P t=true/\m<n/\((Et t m os).1.map (·.1)).Nodup then some (m,Et t m os) else none
  | _,_,_=>none
theorem XP {t:TypeId} {m:Nat} {o:Oper} {x:Int × FuncId} (h:WL t m o=some x):o.dst=none/\o.guard=none/\o.op = .insert t (.tmp m) (.const (.int .i64 x.1)) (.func x.2):=by
 obtain ⟨dst,op,c,b,a,guard⟩:=o
 unfold WL at h
 simp only at h
 split at h
 ·split at h
  ·rename_i q
   cases h
   obtain ⟨rfl,rfl⟩:=q
   exact ⟨rfl,rfl,rfl⟩
  ·cases h
 ·cases h
theorem SD {i:Int}:∀ {l:List (Int × FuncId)},i ∉ l.map (·.1)->OE l i=(.val .nilFunc,false)
 | [],_=>rfl
 | (k,f)::l,h=>by
  simp only [List.map_cons,List.mem_cons,not_or] at h
  rw [OE,Ae (fun q=>h.1 q.symm)]
  exact SD h.2
theorem V1 (w:World) (o o':Obj):(w.alloc o).putObj w.heap.size o'=w.alloc o':=by
 have e:(w.heap.push o).setIfInBounds w.heap.size o'=w.heap.push o':=by
  apply Array.ext
  ·simp
  ·intro i a b
   rw [Array.getElem_setIfInBounds]
   by_cases c:w.heap.size=i
   ·subst c
    simp
   ·rw [Ae c]
    simp only [Array.size_setIfInBounds,Array.size_push] at a
    rw [Array.getElem_push_lt (by omega),Array.getElem_push_lt (by omega)]
   ·simpa using a
 show ({ w with heap:=(w.heap.push o).setIfInBounds w.heap.size o' }:World)={ w with heap:=w.heap.push o' }
 rw [e]
section
variable {P:Program} {w0:World} {n:Nat} {M0:Mem} {W0:World} {ro:Option Nat} {e:Env} {st:St}
theorem RelSt.newTab {M:Mem} {w:World} (h:RelSt w0 M st w) (es:Array MapEntry) (ck:Nat):RelSt w0 M st (w.alloc (.map es ck))/\Ext w0 M w M (w.alloc (.map es ck)):=by
 have a:KeepsObj w (w.alloc (.map es ck)):=KeepsObj.alloc _ _
 have e:∀ (b d:Nat) (v:Value),w.cell? ⟨b,d,none⟩=some v->(w.alloc (.map es ck)).cell? ⟨b,d,none⟩=some v:=by
  intro b d v hv
  rw [World.cell?_alloc_lt _ _ _ (World.block_lt_of_cell? w _ hv)]
  exact hv
 have j:Ext w0 M w M (w.alloc (.map es ck)) :=
  ⟨Nat.le_refl _,fun _ _=>rfl,Nat.le_refl _,fun _ _=>⟨Nat.le_refl _,fun _=>⟨rfl,rfl,rfl⟩⟩,fun b d v g f=>⟨e b d v f,g⟩,by simp,Nat.le_refl _,fun _ _=>rfl,fun k g f=>absurd f (Nat.not_lt.2 g),fun b o g f _=>a b o g f,fun b q1 q=>⟨Bh _ _ q1,q,rfl⟩⟩
 have p:∀ {b:Nat},b<w.heap.size->(w.alloc (.map es ck)).heap[b]? = w.heap[b]? := fun {b} m=>Bh _ _ m
 refine ⟨⟨h.below.alloc h.base_le _,h.N,h.NR,fun b m=>h.top b (by simp at m;omega),h.inj,fun l cs u=>?_,fun id x n=>(h.row id x n).keep j rfl rfl rfl rfl rfl (h.row id x n).ne (p (h.row id x n).lt),h.rowinj,h.loop.mono j rfl a⟩,j⟩
 obtain ⟨a1,a2,c,s,a3,a4,a5,a6⟩:=h.box l cs u
 exact ⟨a1,a2,c,s,by rw [p (Array.getElem?_eq_some_iff.1 a3).1];exact a3,a4,a5,fun i t r=>(a6 i t r).mono j⟩
theorem Vb {t:TypeId} {mt:Nat} (hT:Zj P t=true) (m:Nat) (all:Array Oper) (Q:Exit->Act->World->Prop) (a:Act) (w:World) (hm:a.eval (.tmp mt) = .map (some w.heap.size)) :
  ∀ (os:List Oper) (l:List (Int × FuncId)) (es:Array MapEntry) (ck:Nat),es.toList.map (fun e=>(e.key,e.val))=l.map (fun x=>(Value.int .i64 x.1,Value.func (.func x.2) #[] #[]))->(l.map (·.1)++(Et t mt os).1.map (·.1)).Nodup ->
  (∀ es' ck',es'.toList.map (fun e=>(e.key,e.val))=(l++(Et t mt os).1).map (fun x=>(Value.int .i64 x.1,Value.func (.func x.2) #[] #[]))->wpListIn (FW ro) m P all Q (Et t mt os).2 a (w.alloc (.map es' ck'))) ->
  wpListIn (FW ro) m P all Q os a (w.alloc (.map es ck))
 | [],l,es,ck,h1,h2,h3=>h3 es ck (by simpa [Et] using h1)
 | o::os,l,es,ck,h1,h2,h3=>by
  cases hi:WL t mt o with
  | none =>
   have p:Et t mt (o::os)=([],o::os):=by simp only [Et,hi]
   rw [p] at h3
   exact h3 es ck (by simpa using h1)
  | some x =>
   obtain ⟨k,f⟩:=x
   have p:Et t mt (o::os)=((k,f)::(Et t mt os).1,(Et t mt os).2):=by simp only [Et,hi]
   rw [p] at h2 h3
   obtain ⟨s1,s2,r⟩:=XP hi
   obtain ⟨G,F,H,C,s,E,D⟩:=UX hT
   unfold wpListIn
   have v:Region.wanted o (yielded all a.tmps)=true:=by simp [Region.wanted,s2]
   rw [v,Ad rfl]
   refine ⟨fun f _=>OI ro f,?_⟩
   have hs:Oper.semAt (FW ro).round a.eval o=execOp a.eval o:=by
    cases ro with
    | none=>rfl
    | some l=>exact Oper.semAt_some l a.eval o (fun c hh=>by rw [r] at hh;cases hh)
   have z:MapKept.IsKey (.int .i64) (.int .i64 k):=rfl
   have n:k ∉ l.map (·.1):=fun hm=>(List.nodup_append.1 h2).2.2 k hm k (by simp) rfl
   have d:Instr.findNow (.int .i64) (.int .i64 k) es.toList 0=some none:=by
    rcases Sj k es.toList l 0 h1 with ⟨q,_⟩ | ⟨j,g,_,q⟩
    ·exact q
    ·rw [SD n] at q;cases q
   have g1:(w.alloc (.map es ck)).heap[w.heap.size]? = some (.map es ck):=World.alloc_heap_new w _
   have i:(execOp a.eval o).run P (w.alloc (.map es ck)) = .ok .skip (w.alloc (.map (es.push { key := .int .i64 k,val := .func (.func f) #[] #[],born:=ck }) (ck+1))):=by
    have ef:a.eval (.func f) = .func (.func f) #[] #[]:=rfl
    have u:a.eval (.const (.int .i64 k)) = .int .i64 k:=rfl
    have b:=MapKept.run_setObj_map (P:=P) (.map (es.push { key := .int .i64 k,val := .func (.func f) #[] #[],born:=ck }) (ck+1)) g1
    have h:=V1 w (.map es ck) (.map (es.push { key := .int .i64 k,val := .func (.func f) #[] #[],born:=ck }) (ck+1))
    unfold World.putObj at h
    rw [h] at b
    simp [execOp,r,hm,ef,u,Instr.mapUpdate,run_underlying C,MapKept.run_getObj_map g1,MapKept.run_checkKey s z,MapKept.run_findKey s d,b,Result.andThen]
   rw [hs,i]
   have y:a.put o.dst undef=a:=by rw [s1];rfl
   show wpListIn (FW ro) m P all Q os (a.put o.dst undef) _
   rw [y]
   refine Vb hT m all Q a w hm os (l++[(k,f)]) _ _ (by simp [h1]) (by simpa using h2) (fun es' ck' q=>h3 es' ck' (by simpa using q))
theorem Zeg {Q:AQ} {id:Nat} {l rest:List Oper} {mt:Nat} {xs:List (Int × FuncId)} (hl:ZfD P n l=some (mt,xs,rest)) (c:Nat)
  (h:Ru P w0 n false l (fun e' st'=>Q .normal e' st') c rest (Ip e (some mt) true (.tab xs)) st):CW P w0 n M0 W0 ro (.region id l.toArray false) Q e st:=by
 cases l with
 | nil=>cases hl
 | cons o os =>
  simp only [ZfD] at hl
  split at hl
  rotate_left
  ·cases hl
  rename_i t mt' q1 q2 q3
  split at hl
  rotate_left
  ·cases hl
  rename_i q4
  obtain ⟨U,d,u⟩:=q4
  have y:=Option.some.inj hl
  have e2:mt'=mt:=congrArg Prod.fst y
  have C:Et t mt' os=(xs,rest):=congrArg Prod.snd y
  subst e2
  intro m M a w b
  refine wpIn_region_lit ?_
  unfold wpListIn
  have H:Region.wanted o (yielded (o::os).toArray a.tmps)=true:=by simp [Region.wanted,q3]
  rw [H,Ad rfl]
  refine ⟨fun f _=>OI ro f,?_⟩
  have hs:Oper.semAt (FW ro).round a.eval o=execOp a.eval o:=by
   cases ro with
   | none=>rfl
   | some l=>exact Oper.semAt_some l a.eval o (fun c hh=>by rw [q1] at hh;cases hh)
  have j:(execOp a.eval o).run P w = .ok (.value (.map (some w.heap.size))) (w.alloc (.map #[] 0)):=by
   simp [execOp,q1,Instr.makeMap]
  rw [hs,j]
  show wpListIn (FW ro) m P (o::os).toArray _ os (a.put o.dst (.map (some w.heap.size))) (w.alloc (.map #[] 0))
  rw [q2]
  have D:(a.put (some mt') (.map (some w.heap.size))).eval (.tmp mt') = .map (some w.heap.size):=by
   have:=Is a (some mt') (.map (some w.heap.size)) mt' (by rw [b.rel.size];exact d)
   rw [Ad rfl] at this
   exact this
  refine Vb U m _ _ _ w D os [] #[] 0 rfl (by simpa using u) (fun p g q=>?_)
  rw [C] at q ⊢
  obtain ⟨E,x⟩:=b.rel.st.newTab p g
  have J:R w0 M (w.alloc (.map p g)) (.map (some w.heap.size)) (.tab xs) := .tab (World.alloc_heap_new w _) (by simpa using q) (fun k K=>by
   have s:k<st.loops.length:=by rw [<-b.rel.st.loop.NL];exact K
   have:=(b.rel.st.loop.record k _ (List.getElem?_eq_getElem s)).2.lt
   omega)
  have i:=b.rel.put x E (dst:=some mt') d (c:=true) (v := .map (some w.heap.size)) (r := .tab xs) J
  refine N5 ro m false _ _ _ c rest _ st _ _ M i h fun e' st' Y V F O N z G=>⟨F,_,_,⟨N,b.ext.trans (x.trans z),?_⟩,O⟩
  rw [G,FM]
  exact b.marks.later (x.trans z) b.rel.st
end
end Go.Ev
namespace Go.Proofs.YtcpmjgdlioggjaaGreatDoor
open Go Go.RowKit Go.Ev
def Qu:List (Int × FuncId):=[(8,278),(9,279),(10,280),(11,281)]
theorem Zaz {i:Int} (h:¬ (8<=i/\i<=11)):OE Qu i=(.val .nilFunc,false):=by
 refine SD ?_
 simp only [Qu,List.map_cons,List.map_nil,List.mem_cons,List.not_mem_nil,or_false]
 omega
theorem AP (z0 z1 z2 z3 z4 z5:AV) (r:List AV) (v:Vl):BH (z0::z1::z2::z3::z4::z5::r) 0 v.cs=v.cs++r:=by cases v;rfl
theorem Qb (w0:World) (B:Aj) (Rw:Am) (L:An) :
  ACalls Tryz.prog w0 230 [] ⟨B,Rw,L⟩ fun r st=>r = .tab Qu/\st=⟨B,Rw,L⟩:=by
 refine BN (rs:=[.tmp 0]) Tryz.func230 rfl rfl Tryz.ntmps230 (AU Tryz.func230 rfl (by decide)) (Nat.le_of_ble_eq_true rfl) ?_
 intro M0 W0 f d e c g
 simp only [As]
 apply Ah;intro K0 b
 apply Ap 1 []
 rw [Ai];simp +decide only [go_sem]
 (repeat' apply Ac)<;>first | refine b _ _ ?_ | exact cl
 apply Ah;intro K1 a
 refine Zeg (xs:=Qu) rfl 1 ?_
 rw [Ai];simp +decide only [go_sem,Et,WL]
 (repeat' apply Ac)<;>first | refine a _ _ ?_ | exact cl
 apply BC;simp +decide only [go_sem]
 skip
def LL (b:Int):Option (Int × Int) :=
 if decide (b=1) then
  Av
 else
  if decide (b=2) then
   some ((0,0))
  else
   Av
theorem Ul (w0:World) (B:Aj) (Rw:Am) (L:An) (a0:Int) (r:Int × Int) (h:LL a0=some r) :
  ACalls Tryz.prog w0 273 [Ag a0] ⟨B,Rw,L⟩ fun x st=>x = .tup [Ag r.1,Ag r.2]/\st=⟨B,Rw,L⟩:=by
 rw [LL] at h
 refine hd [.tmp 2,.tmp 3] Tryz.func273 Tryz.ntmps273 fun M0 W0 f c d b g e hs=>?_
 simp only [As]
 exact go (tg (a:=([0],[4],[4,5],((),()),[4,5],([4,5],[2,3],()),((),())))) h hs f c d b e trivial trivial
def D7 (b:Part):Bool :=
 decide (b.kind=3)
theorem O5 (w0:World) (B:Aj) (Rw:Am) (L:An) (a0:Part) (r:Bool) (h:D7 a0=r) :
  ACalls Tryz.prog w0 277 [.agg (Ag a0.kind::(Ag a0.index::([.val (.string a0.name)])))] ⟨B,Rw,L⟩ fun x st=>x = .val (.bool r)/\st=⟨B,Rw,L⟩:=by
 rw [D7] at h
 refine hd [.tmp 2] Tryz.func277 Tryz.ntmps277 fun M0 W0 e c d a f b hs=>?_
 simp only [As]
 refine rg [1] hs ?_
 refine rg [2] hs ?_
 exact rT h hs a b
theorem Ox (w0:World) (B:Aj) (Rw:Am) (L:An) (a0:Part) :
  ACalls Tryz.prog w0 277 [.agg (Ag a0.kind::(Ag a0.index::([.val (.string a0.name)])))] ⟨B,Rw,L⟩ fun x st=>x = .val (.bool (D7 a0))/\st=⟨B,Rw,L⟩:=O5 w0 B Rw L a0 _ rfl
def Gp (b:Int):Bool :=
 ((decide (b=2))||(decide (b=22)))||(decide (b=26))
theorem TD (w0:World) (B:Aj) (Rw:Am) (L:An) (a0:Int) (r:Bool) (h:Gp a0=r) :
  ACalls Tryz.prog w0 274 [Ag a0] ⟨B,Rw,L⟩ fun x st=>x = .val (.bool r)/\st=⟨B,Rw,L⟩:=by
 rw [Gp] at h
 refine hd [.tmp 2] Tryz.func274 Tryz.ntmps274 fun M0 W0 e c d a f b hs=>?_
 simp only [As]
 refine rg [0] hs ?_
 refine rg [2] hs ?_
 exact rT h hs a b
theorem ML (w0:World) (B:Aj) (Rw:Am) (L:An) (a0:Int) :
  ACalls Tryz.prog w0 274 [Ag a0] ⟨B,Rw,L⟩ fun x st=>x = .val (.bool (Gp a0))/\st=⟨B,Rw,L⟩:=TD w0 B Rw L a0 _ rfl
def Gm (b:Int):Bool :=
 (decide (b=15))||(decide (b=26))
theorem Ub (w0:World) (B:Aj) (Rw:Am) (L:An) (a0:Int) (r:Bool) (h:Gm a0=r) :
  ACalls Tryz.prog w0 275 [Ag a0] ⟨B,Rw,L⟩ fun x st=>x = .val (.bool r)/\st=⟨B,Rw,L⟩:=by
 rw [Gm] at h
 refine hd [.tmp 2] Tryz.func275 Tryz.ntmps275 fun M0 W0 e c d a f b hs=>?_
 simp only [As]
 refine rg [0] hs ?_
 refine rg [2] hs ?_
 exact rT h hs a b
theorem MN (w0:World) (B:Aj) (Rw:Am) (L:An) (a0:Int) :
  ACalls Tryz.prog w0 275 [Ag a0] ⟨B,Rw,L⟩ fun x st=>x = .val (.bool (Gm a0))/\st=⟨B,Rw,L⟩:=Ub w0 B Rw L a0 _ rfl
def Hr (b:Part):Option Bool :=
 if decide (b.kind=1) then
  if decide (b.index=0) then
   if b.name.size<=maxLen then
    some (OG b.name)
   else none
  else
   Av
 else
  Av
theorem MP (w0:World) (B:Aj) (Rw:Am) (L:An) (a0:Part) (r:Bool) (h:Hr a0=some r) :
  ACalls Tryz.prog w0 185 [.agg (Ag a0.kind::(Ag a0.index::([.val (.string a0.name)])))] ⟨B,Rw,L⟩ fun x st=>x = .val (.bool r)/\st=⟨B,Rw,L⟩:=by
 rw [Hr] at h
 refine hd [.tmp 2] Tryz.func185 Tryz.ntmps185 fun M0 W0 f c d b g e hs=>?_
 simp only [As]
 exact go (tg (a:=([1],[1,4],[1,4,5],([1,4,5],([2],()),((),())),((),())))) h hs f c d b e (q1 (Lq w0)) trivial
end Go.Proofs.YtcpmjgdlioggjaaGreatDoor
namespace Go.Proofs
open Go.Shelf Go.RowKit Go.Lib Go
variable {P:Program} {ρ:Ren}
abbrev stops:ByteArray:=⟨#[46,91,63]⟩
theorem Xl:∀ (i:Nat) (h:i<stops.size),(stops[i]'h).toNat<128/\((stops[i]'h).toNat:Int)≠65533:=by decide
theorem Zfv (n:Nat):128<=(UInt8.ofNat (128+n % 64)).toNat:=by rw [UInt8.toNat_ofNat'];omega
theorem ZJ (r:Int) (h0:128<=r):(∃ a b,Utf8.encode r=⟨#[a,b]⟩/\128<=b.toNat)\/(∃ a b c,Utf8.encode r=⟨#[a,b,c]⟩/\128<=c.toNat)\/∃ a b c d,Utf8.encode r=⟨#[a,b,c,d]⟩:=by
 obtain ⟨c,hc,he⟩:∃ c:Nat,128<=c/\(if Utf8.valid r=true then r.toNat else Utf8.runeError)=c:=by
  by_cases h:Utf8.valid r=true
  ·exact ⟨r.toNat,by omega,by rw [Ad h]⟩
  ·exact ⟨Utf8.runeError,by decide,by rw [Ae h]⟩
 unfold Utf8.encode
 simp only [he]
 rw [Aa]
 by_cases h1:c<2048
 ·rw [Ad h1];exact .inl ⟨_,_,rfl,Zfv _⟩
 rw [Ae h1]
 by_cases h2:c<65536
 ·rw [Ad h2];exact .inr (.inl ⟨_,_,_,rfl,Zfv _⟩)
 ·rw [Ae h2];exact .inr (.inr ⟨_,_,_,_,rfl⟩)
set_option maxRecDepth 1000000 in
theorem XU (L:Lays.n152 P ρ) (w:World) :
  Calls P (ρ.f 152) #[.string stops,.int .i32 65533] w fun e w'=>e = .returned (.int .i64 (-1))/\∃ pos,w'=w.iter stops pos:=by
 have t3:=L.t3;have a3:=L.a3;have z3:=L.z3;have v3:=L.v3
 have t4:=L.t4;have a4:=L.a4;have z4:=L.z4;have v4:=L.v4
 have t5:=L.t5;have a5:=L.a5;have z5:=L.z5;have v5:=L.v5
 have t9:=L.t9;have a9:=L.a9;have z9:=L.z9;have v9:=L.v9
 have t21:=L.t21;have a21:=L.a21;have z21:=L.z21;have v21:=L.v21
 go_enter L.f152,Body.n152_ntmps ρ
 go_wp2
 go_loopg [5,6] 3 (fun g _ _ wx=>∃ i:Nat,i+g=3/\wx=w.iter stops i)
 case atStart=>exact ⟨0,by omega,rfl⟩
 case round =>
  obtain ⟨i,hig,rfl⟩:=hrel
  cases gk with
  | zero =>
   obtain rfl:i=3:=by omega
   have hnx:=run_next_end (P:=P) w stops 3
   go_wp2
   go_ret
   exact ⟨rfl,_,rfl⟩
  | succ g =>
   have hi:i<stops.size:=by show i<3;omega
   obtain ⟨x,hx⟩:∃ x:UInt8,stops[i]'hi=x:=⟨_,rfl⟩
   obtain ⟨hx128,hxn⟩:=Xl i hi
   have hnx:=fun ty=>run_next_ascii (P:=P) w stops i ty hi hx128
   rw [hx] at hnx hxn
   have hb:((x.toNat:Int) == 65533)=false:=beq_eq_false_iff_ne.2 hxn
   go_wp2
   go_roundg g
   case measure=>omega
   case rel=>exact ⟨i+1,by omega,rfl⟩
set_option maxRecDepth 1000000 in
theorem Zb9 (L:Lays.n152 P ρ) (r:Int) (w:World) (h0:128<=r) (h1:r≠65533) (hv:Lib.validRune r=false) :
  Calls P (ρ.f 152) #[.string stops,.int .i32 r] w fun e w'=>e = .returned (.int .i64 (-1))/\Below w.heap.size w w':=by
 have t3:=L.t3;have a3:=L.a3;have z3:=L.z3;have v3:=L.v3
 have t4:=L.t4;have a4:=L.a4;have z4:=L.z4;have v4:=L.v4
 have t5:=L.t5;have a5:=L.a5;have z5:=L.z5;have v5:=L.v5
 have t9:=L.t9;have a9:=L.a9;have z9:=L.z9;have v9:=L.v9
 have t21:=L.t21;have a21:=L.a21;have z21:=L.z21;have v21:=L.v21
 have e119:∀ args w,(callFunc (ρ.f 119) args).run P w = .ok (.enter (ρ.f 119) args) w:=enters_of L.f119 (by kernel_rfl) rfl
 have hlt:¬ r<128:=by omega
 have hne:(r == 65533)=false:=beq_eq_false_iff_ne.2 h1
 go_enter L.f152,Body.n152_ntmps ρ
 go_wp2_with (go_at_fn (ρ.f 119);refine (Any.utf8_ValidRune { L with } _ _).mono ?_;rintro e w' ⟨rfl,hw⟩;rw [hw,hv])
 go_ret
 exact ⟨rfl,.refl _ _⟩
set_option maxRecDepth 1000000 in
theorem Zcb (L:Lays.n152 P ρ) (r:Int) (w:World) (h0:128<=r) (h1:r≠65533) (hv:Lib.validRune r=true) (a b:UInt8) (he:Utf8.encode r=⟨#[a,b]⟩) (hb:128<=b.toNat) :
  Calls P (ρ.f 152) #[.string stops,.int .i32 r] w fun e w'=>e = .returned (.int .i64 (-1))/\Below w.heap.size w w':=by
 have mixed:=L.mixed
 have t3:=L.t3;have a3:=L.a3;have z3:=L.z3;have v3:=L.v3
 have t4:=L.t4;have a4:=L.a4;have z4:=L.z4;have v4:=L.v4
 have t5:=L.t5;have a5:=L.a5;have z5:=L.z5;have v5:=L.v5
 have t9:=L.t9;have a9:=L.a9;have z9:=L.z9;have v9:=L.v9
 have t21:=L.t21;have a21:=L.a21;have z21:=L.z21;have v21:=L.v21
 have e119:∀ args w,(callFunc (ρ.f 119) args).run P w = .ok (.enter (ρ.f 119) args) w:=enters_of L.f119 (by kernel_rfl) rfl
 have e137:∀ args w,(callFunc (ρ.f 137) args).run P w = .ok (.enter (ρ.f 137) args) w:=enters_of L.f137 (by kernel_rfl) rfl
 have hlt:¬ r<128:=by omega
 have hne:(r == 65533)=false:=beq_eq_false_iff_ne.2 h1
 have hbn:(((stops[1]'(by decide)).toNat:Int) != (((⟨#[a,b]⟩:ByteArray)[1]'(by simp [ByteArray.size])).toNat:Int))=true:=bne_iff_ne.2 (by show (91:Int)≠(b.toNat:Int);omega)
 have hsum:IntKind.i64.wrap (1+1)=2:=by decide
 have hx:Lib.indexByte (stops.extract 2 3).data.toList ((((⟨#[a,b]⟩:ByteArray)[1]'(by simp [ByteArray.size])).toNat:Int)).toNat.toUInt8 = -1:=by
  show Lib.indexByte [63] (b.toNat:Int).toNat.toUInt8 = -1
  have e:(b.toNat:Int).toNat.toUInt8=b:=by simp
  rw [e]
  have hn:((63:UInt8) == b)=false:=beq_eq_false_iff_ne.2 (fun q=>by rw [<-q] at hb;exact absurd hb (by decide))
  simp [Lib.indexByte,hn]
 go_enter L.f152,Body.n152_ntmps ρ
 go_wp2_with (first
  | (go_at_fn (ρ.f 119);refine (Any.utf8_ValidRune { L with } _ _).mono ?_;rintro e w' ⟨rfl,hw⟩;rw [hw,hv])
  | (go_at_fn (ρ.f 137);refine (Any.strings_IndexByte { L with } _ _ _).mono ?_;rintro e w' ⟨rfl,hw⟩;rw [hw]))
 go_step3
 go_wp2
 go_loopg [9] 1 (fun g s9 wx=>s9 = .int .i64 1/\wx=w)
 case atStart=>exact ⟨rfl,rfl⟩
 case round =>
  obtain ⟨rfl,rfl⟩:=hrel
  go_wp2
  go_step3
  go_wp2
  refine wp_region_quiet_lit mixed (by kernel_rfl) ?_
  repeat (first | go_big_quiet_step (fail) | quiet_step (fail))
  refine wpQuiet_nil ?_
  intro _ hw'
  obtain ⟨nq,hw''⟩:=hw'
  subst hw''
  go_wp2
  refine wp_region_quiet_lit mixed (by kernel_rfl) ?_
  repeat (first | go_big_quiet_step (fail) | quiet_step (fail))
  refine wpQuiet_step (fun K hK=>?_)
  go_simp
  refine ⟨_,fun q=>((Any.strings_IndexByte { L with } _ _ _).mono fun e w' h=>⟨h.1,q,h.2⟩),hK _ ?_⟩
  clear hK K
  repeat (first | go_big_quiet_step (fail) | quiet_step (fail))
  refine wpQuiet_nil ?_
  intro _ hw'
  obtain ⟨nq2,hw''⟩:=hw'
  subst hw''
  rw [hx]
  go_wp2
  go_simp
  try rw [Exit.noGoto_ret]
  go_ret
  exact ⟨rfl,⟨rfl,rfl,rfl,Nat.le_refl _,fun _ _=>rfl⟩⟩
set_option maxRecDepth 1000000 in
theorem Yj (L:Lays.n152 P ρ) (r:Int) (w:World) (h0:128<=r) (h1:r≠65533) (hv:Lib.validRune r=true) (a b c:UInt8) (he:Utf8.encode r=⟨#[a,b,c]⟩) (hb:128<=c.toNat) :
  Calls P (ρ.f 152) #[.string stops,.int .i32 r] w fun e w'=>e = .returned (.int .i64 (-1))/\Below w.heap.size w w':=by
 have mixed:=L.mixed
 have t3:=L.t3;have a3:=L.a3;have z3:=L.z3;have v3:=L.v3
 have t4:=L.t4;have a4:=L.a4;have z4:=L.z4;have v4:=L.v4
 have t5:=L.t5;have a5:=L.a5;have z5:=L.z5;have v5:=L.v5
 have t9:=L.t9;have a9:=L.a9;have z9:=L.z9;have v9:=L.v9
 have t21:=L.t21;have a21:=L.a21;have z21:=L.z21;have v21:=L.v21
 have e119:∀ args w,(callFunc (ρ.f 119) args).run P w = .ok (.enter (ρ.f 119) args) w:=enters_of L.f119 (by kernel_rfl) rfl
 have e137:∀ args w,(callFunc (ρ.f 137) args).run P w = .ok (.enter (ρ.f 137) args) w:=enters_of L.f137 (by kernel_rfl) rfl
 have hlt:¬ r<128:=by omega
 have hne:(r == 65533)=false:=beq_eq_false_iff_ne.2 h1
 have hbn:(((stops[2]'(by decide)).toNat:Int) != (((⟨#[a,b,c]⟩:ByteArray)[2]'(by simp [ByteArray.size])).toNat:Int))=true:=bne_iff_ne.2 (by show (63:Int)≠(c.toNat:Int);omega)
 have hsum:IntKind.i64.wrap (2+1)=3:=by decide
 have hx:Lib.indexByte ByteArray.empty.data.toList ((((⟨#[a,b,c]⟩:ByteArray)[2]'(by simp [ByteArray.size])).toNat:Int)).toNat.toUInt8 = -1:=by
  show Lib.indexByte [] (c.toNat:Int).toNat.toUInt8 = -1
  have e:(c.toNat:Int).toNat.toUInt8=c:=by simp
  rw [e]
  rfl
 go_enter L.f152,Body.n152_ntmps ρ
 go_wp2_with (first
  | (go_at_fn (ρ.f 119);refine (Any.utf8_ValidRune { L with } _ _).mono ?_;rintro e w' ⟨rfl,hw⟩;rw [hw,hv])
  | (go_at_fn (ρ.f 137);refine (Any.strings_IndexByte { L with } _ _ _).mono ?_;rintro e w' ⟨rfl,hw⟩;rw [hw]))
 go_step3
 go_wp2
 go_loopg [9] 1 (fun g s9 wx=>s9 = .int .i64 2/\wx=w)
 case atStart=>exact ⟨rfl,rfl⟩
 case round =>
  obtain ⟨rfl,rfl⟩:=hrel
  go_wp2
  go_step3
  go_wp2
  refine wp_region_quiet_lit mixed (by kernel_rfl) ?_
  repeat (first | go_big_quiet_step (fail) | quiet_step (fail))
  refine wpQuiet_nil ?_
  intro _ hw'
  obtain ⟨nq,hw''⟩:=hw'
  subst hw''
  go_wp2
  refine wp_region_quiet_lit mixed (by kernel_rfl) ?_
  repeat (first | go_big_quiet_step (fail) | quiet_step (fail))
  refine wpQuiet_step (fun K hK=>?_)
  go_simp
  refine ⟨_,fun q=>((Any.strings_IndexByte { L with } _ _ _).mono fun e w' h=>⟨h.1,q,h.2⟩),hK _ ?_⟩
  clear hK K
  repeat (first | go_big_quiet_step (fail) | quiet_step (fail))
  refine wpQuiet_nil ?_
  intro _ hw'
  obtain ⟨nq2,hw''⟩:=hw'
  subst hw''
  rw [hx]
  go_wp2
  go_simp
  try rw [Exit.noGoto_ret]
  go_ret
  exact ⟨rfl,⟨rfl,rfl,rfl,Nat.le_refl _,fun _ _=>rfl⟩⟩
set_option maxRecDepth 1000000 in
theorem Zy (L:Lays.n152 P ρ) (r:Int) (w:World) (h0:128<=r) (h1:r≠65533) (hv:Lib.validRune r=true) (a b c d:UInt8) (he:Utf8.encode r=⟨#[a,b,c,d]⟩) :
  Calls P (ρ.f 152) #[.string stops,.int .i32 r] w fun e w'=>e = .returned (.int .i64 (-1))/\Below w.heap.size w w':=by
 have mixed:=L.mixed
 have t3:=L.t3;have a3:=L.a3;have z3:=L.z3;have v3:=L.v3
 have t4:=L.t4;have a4:=L.a4;have z4:=L.z4;have v4:=L.v4
 have t5:=L.t5;have a5:=L.a5;have z5:=L.z5;have v5:=L.v5
 have t9:=L.t9;have a9:=L.a9;have z9:=L.z9;have v9:=L.v9
 have t21:=L.t21;have a21:=L.a21;have z21:=L.z21;have v21:=L.v21
 have e119:∀ args w,(callFunc (ρ.f 119) args).run P w = .ok (.enter (ρ.f 119) args) w:=enters_of L.f119 (by kernel_rfl) rfl
 have e137:∀ args w,(callFunc (ρ.f 137) args).run P w = .ok (.enter (ρ.f 137) args) w:=enters_of L.f137 (by kernel_rfl) rfl
 have hlt:¬ r<128:=by omega
 have hne:(r == 65533)=false:=beq_eq_false_iff_ne.2 h1
 go_enter L.f152,Body.n152_ntmps ρ
 go_wp2_with (first
  | (go_at_fn (ρ.f 119);refine (Any.utf8_ValidRune { L with } _ _).mono ?_;rintro e w' ⟨rfl,hw⟩;rw [hw,hv])
  | (go_at_fn (ρ.f 137);refine (Any.strings_IndexByte { L with } _ _ _).mono ?_;rintro e w' ⟨rfl,hw⟩;rw [hw]))
 go_step3
 go_wp2
 go_loopg [9] 1 (fun g s9 wx=>s9 = .int .i64 3/\wx=w)
 case atStart=>exact ⟨rfl,rfl⟩
 case round =>
  obtain ⟨rfl,rfl⟩:=hrel
  go_wp2
  go_simp
  try rw [Exit.noGoto_ret]
  go_ret
  exact ⟨rfl,.refl _ _⟩
theorem ZbH (L:Lays.n152 P ρ) (r:Int) (w:World) (h0:128<=r) :
  Calls P (ρ.f 152) #[.string stops,.int .i32 r] w fun e w'=>e = .returned (.int .i64 (-1))/\Below w.heap.size w w':=by
 by_cases h1:r=65533
 ·subst h1
  refine (XU L w).mono ?_
  rintro e w' ⟨h,g,rfl⟩
  exact ⟨h,(Below.refl _ _).alloc (Nat.le_refl _) _⟩
 cases hv:Lib.validRune r with
 | false=>exact Zb9 L r w h0 h1 hv
 | true =>
  rcases ZJ r h0 with ⟨a,b,he,hb⟩ | ⟨a,b,c,he,hb⟩ | ⟨a,b,c,d,he⟩
  ·exact Zcb L r w h0 h1 hv a b he hb
  ·exact Yj L r w h0 h1 hv a b c he hb
  ·exact Zy L r w h0 h1 hv a b c d he
theorem get!_at (s:ByteArray) (k:Nat) (h:k<s.size):s.data.toList[k]? = some (s.get! k):=by
 rw [Lib.data_getElem? s k h]
 congr 1
 exact (get_at s k h).symm
theorem Zcn (s : ByteArray) (pos : Nat) (h : pos < s.size) (ha : 128 ≤ (s[pos]'h).toNat) : pos + (Utf8.decode s pos).2 ≤ s.size ∧ ∀ j, pos ≤ j → j < pos + (Utf8.decode s pos).2 → 128 ≤ (s.get! j).toNat := by
  have h0 : 128 ≤ (s.get! (pos + 0)).toNat := by rw [get_at s pos h]; exact ha
  have fin : ∀ n, (∀ k, k < n → pos + k < s.size ∧ 128 ≤ (s.get! (pos + k)).toNat) → 0 < n → pos + n ≤ s.size ∧ ∀ j, pos ≤ j → j < pos + n → 128 ≤ (s.get! j).toNat := fun n hn h1 =>
    ⟨by have := (hn (n - 1) (by omega)).1; omega, fun j hj hj2 => by have := (hn (j - pos) (by omega)).2; rwa [Nat.add_sub_cancel' hj] at this⟩
  have cont : ∀ k, (decide (pos + k < s.size) && (s.get! (pos + k)).toNat / 64 == 2) = true → pos + k < s.size ∧ 128 ≤ (s.get! (pos + k)).toNat := fun k q => by
    rw [Bool.and_eq_true, decide_eq_true_eq, beq_iff_eq] at q; exact ⟨q.1, by omega⟩
  have z : pos + 0 < s.size ∧ 128 ≤ (s.get! (pos + 0)).toNat := ⟨h, h0⟩
  have one : ∀ c : Nat, pos + (c, 1).2 ≤ s.size ∧ ∀ j, pos ≤ j → j < pos + (c, 1).2 → 128 ≤ (s.get! j).toNat := fun _ => fin 1 (fun k hk => by obtain rfl : k = 0 := by omega
                                                                                                                                               exact z) (by omega)
  unfold Utf8.decode
  simp only
  rw [Aa]
  split
  · rename_i q
    rw [Bool.and_eq_true] at q
    split
    · exact fin 2 (fun k hk => by
        rcases (by omega : k = 0 ∨ k = 1) with rfl | rfl
        · exact z
        · exact cont 1 q.2) (by omega)
    · exact one _
  · split
    · rename_i q
      rw [Bool.and_eq_true, Bool.and_eq_true] at q
      split
      · exact fin 3 (fun k hk => by
          rcases (by omega : k = 0 ∨ k = 1 ∨ k = 2) with rfl | rfl | rfl
          · exact z
          · exact cont 1 q.1.2
          · exact cont 2 q.2) (by omega)
      · exact one _
    · split
      · rename_i q
        rw [Bool.and_eq_true, Bool.and_eq_true, Bool.and_eq_true] at q
        split
        · exact fin 4 (fun k hk => by
            rcases (by omega : k = 0 ∨ k = 1 ∨ k = 2 ∨ k = 3) with rfl | rfl | rfl | rfl
            · exact z
            · exact cont 1 q.1.1.2
            · exact cont 2 q.1.2
            · exact cont 3 q.2) (by omega)
        · exact one _
      · exact one _
theorem Ye (b:UInt8) (h:128<=b.toNat):stops.data.toList.contains b=false:=by
 show ([46,91,63]:List UInt8).contains b=false
 simp
 refine ⟨?_,?_,?_⟩<;>(rintro rfl;exact absurd h (by decide))
set_option maxRecDepth 1000000 in
theorem ZT (L:Lays.n153 P ρ) (s:ByteArray) (w:World) (h8:s.size<=8) :
  Calls P (ρ.f 153) #[.string s,.string stops] w fun e w'=>e = .returned (.int .i64 (Lib.indexAny s.data.toList stops.data.toList))/\Below w.heap.size w w':=by
 have hemp:stops.toList.isEmpty=false:=by rw [Lib.toList_data];rfl
 have hn1:((stops.size:Int) == 1)=false:=by decide
 have h8z:decide ((8:Int)<(s.size:Int))=false:=decide_eq_false (by omega)
 have t3:=L.t3;have a3:=L.a3;have z3:=L.z3;have v3:=L.v3
 have t4:=L.t4;have a4:=L.a4;have z4:=L.z4;have v4:=L.v4
 have t5:=L.t5;have a5:=L.a5;have z5:=L.z5;have v5:=L.v5
 have t9:=L.t9;have a9:=L.a9;have z9:=L.z9;have v9:=L.v9
 have t21:=L.t21;have a21:=L.a21;have z21:=L.z21;have v21:=L.v21
 have e152:∀ args w,(callFunc (ρ.f 152) args).run P w = .ok (.enter (ρ.f 152) args) w:=enters_of L.f152 (by kernel_rfl) rfl
 have e226:∀ args w,(callFunc (ρ.f 226) args).run P w = .ok (.enter (ρ.f 226) args) w:=enters_of L.f226 (by kernel_rfl) rfl
 go_enter L.f153,Body.n153_ntmps ρ
 go_wp2_with (go_at_fn (ρ.f 226);refine (Any.strings_shouldUseASCIISet { L with } _ _).mono ?_;rintro e w' ⟨rfl,hw⟩;rw [hw,h8z])
 go_loopg [9,10] s.size (fun g _ _ wr=>∃ pos:Nat,pos+g=s.size/\wr.heap[w.heap.size]? = some (.stringIter s pos)/\Below w.heap.size w wr/\Lib.NoAny s.data.toList stops.data.toList pos)
 case atStart=>exact ⟨0,by omega,World.iter_heap w s 0,(Below.refl _ _).alloc (Nat.le_refl _) _,Lib.NoAny.zero _ _⟩
 case round =>
  obtain ⟨i,hig,hit,hbw,hno⟩:=hrel
  have HN:Aside (Lib.NoAny s.data.toList stops.data.toList i):=hno
  clear hno
  by_cases hp:i<s.size
  ·have hnx:=fun ty=>Lib.run_next_any_at (P:=P) wr w.heap.size s i ty hit hp
   have hit2:=Lib.iterAt_heap wr w.heap.size s i (i+(Utf8.decode s i).2) hit
   have hbw2:=Lib.below_iterAt hbw (k:=w.heap.size) (Nat.le_refl _) s (i+(Utf8.decode s i).2)
   obtain ⟨W1,hW1⟩:∃ W1,W1=wr.iterAt w.heap.size s (i+(Utf8.decode s i).2):=⟨_,rfl⟩
   rw [<-hW1] at hnx hit2 hbw2
   have hlt1:w.heap.size<W1.heap.size:=(Array.getElem?_eq_some_iff.1 hit2).1
   clear hW1
   obtain ⟨x,hx⟩:∃ x:UInt8,s[i]'hp=x:=⟨_,rfl⟩
   have hxl:s.data.toList[i]? = some x:=by rw [<-hx];exact Lib.data_getElem? s i hp
   by_cases hxa:x.toNat<128
   ·have hdec:Utf8.decode s i=(x.toNat,1):=by rw [<-hx];exact decode_ascii s i hp (by rw [hx];exact hxa)
    rw [hdec] at hnx hit2
    have Hx:Aside (s.data.toList[i]? = some x):=hxl
    clear hxl hx hdec
    have hcon:=Lib.contains_iff_indexByte stops.data.toList x
    have hback:(x.toNat:Int).toNat.toUInt8=x:=by simp
    cases hin:stops.data.toList.contains x
    ·rw [hin] at hcon
     have hlt:¬ ((0:Int)<=Lib.indexByte stops.data.toList x):=of_decide_eq_false hcon.symm
     clear hcon
     go_wp2_with (go_at_fn (ρ.f 152);refine (Any.strings_IndexRune_ascii { L with } _ _ _ (by omega) (by omega)).mono ?_;rintro e w' ⟨rfl,hw⟩;rw [hw,hback])
     go_roundg (s.size-(i+1))
     case measure=>omega
     case rel=>exact ⟨i+1,by omega,hit2,hbw2,HN.out.succ Hx.out hin⟩
    ·rw [hin] at hcon
     have hge:(0:Int)<=Lib.indexByte stops.data.toList x:=of_decide_eq_true hcon.symm
     clear hcon
     go_wp2_with (go_at_fn (ρ.f 152);refine (Any.strings_IndexRune_ascii { L with } _ _ _ (by omega) (by omega)).mono ?_;rintro e w' ⟨rfl,hw⟩;rw [hw,hback])
     go_ret
     exact ⟨by rw [Lib.indexAny_hit HN.out Hx.out hin];rfl,hbw2⟩
   ·have hxa':128<=(s[i]'hp).toNat:=by rw [hx];omega
    obtain ⟨d1,d2⟩:=decode_high s i hp hxa'
    obtain ⟨d3,d4⟩:=Zcn s i hp hxa'
    have HD:Aside (Lib.NoAny s.data.toList stops.data.toList (i+(Utf8.decode s i).2)):=fun j b hj hb=>by
     by_cases c:j<i
     ·exact HN.out j b c hb
     ·have q:=d4 j (by omega) hj
      have hjs:j<s.size:=by omega
      rw [get!_at s j hjs] at hb
      cases hb
      exact Ye _ q
    generalize hdd:Utf8.decode s i=dd at *
    obtain ⟨r,k⟩:=dd
    simp only at d1 d2 d3 HD hnx hit2
    clear d4 hdd hxa' hxa hxl hx
    have hlt:¬ ((0:Int) <= -1):=by decide
    go_wp2_with (go_at_fn (ρ.f 152);refine (ZbH { L with } _ _ (by omega)).mono ?_;rintro e w2 ⟨rfl,hb2⟩)
    go_roundg (s.size-(i+k))
    case measure=>omega
    case rel=>exact ⟨i+k,by omega,by rw [hb2.block w.heap.size hlt1];exact hit2,hbw2.trans ⟨hb2.os,hb2.tape,hb2.output,by have:=hb2.size;omega,fun j hj=>hb2.block j (by omega)⟩,HD.out⟩
  ·have hnx:=Lib.run_next_end_at (P:=P) wr w.heap.size s i
   have hnx:=fun ty=>hnx ty hit hp
   go_wp2
   go_ret
   exact ⟨by rw [Lib.indexAny_none (by rw [<-Lib.size_eq];exact fun j b hj=>HN.out j b (by omega))];rfl,hbw⟩
end Go.Proofs
namespace Go.Proofs.YtcpmjgdlioggjaaGreatDoor
open Go Go.RowKit Go.Ev
abbrev RJ (w0:World):Prop:=∃ m,w0.cell? ⟨0,0,none⟩=some (.int .i64 m)
abbrev Ry (w0:World):Prop:=(∃ ev,w0.cell? ⟨6,0,none⟩=some ev/\(ev = .nilIface\/∃ te pe,ev = .iface te pe))/\∃ ev,w0.cell? ⟨7,0,none⟩=some ev/\(ev = .nilIface\/∃ te pe,ev = .iface te pe)
theorem Z9:∀ (j:Nat) (b:UInt8),stops.data.toList[j]? = some b->b.toNat<128:=fun j b h=>by
 have a:b∈([46,91,63]:List UInt8):=List.mem_of_getElem? h
 simp only [List.mem_cons,List.not_mem_nil,or_false] at a
 rcases a with rfl | rfl | rfl<;>decide
def Zet (s:ByteArray):Int:=Lib.indexAny s.data.toList [46,91,63]
def ZbO (s p:ByteArray):Bool:=Lib.hasPrefix s.data.toList p.data.toList
section
variable (w0:World) (B:Aj) (Rw:Am) (L:An)
theorem Um (s c:ByteArray) (h:s.size<=4294967280/\c=stops) :
  ACalls Tryz.prog w0 224 [.val (.string s),.val (.string c)] ⟨B,Rw,L⟩ fun v s'=>v=Ag (Zet s)/\s'=⟨B,Rw,L⟩ :=
 Hj (AU Tryz.func224 rfl (by decide)) rfl fun M w b g a=>by
  obtain ⟨h,rfl⟩:=h
  have:=NB (us:=[.string s,.string stops]) a
  subst this
  by_cases h8:s.size<=8
  ·exact ZT Tryz.lays153 s w h8
  ·refine (Tryz.strings_IndexAny_long (zero_of_info (show (Tryz.prog.info? 344).map (fun i=>(i.zero,i.size))=some (some (.agg (Array.replicate 256 (.bool false))),256) by kernel_rfl)).1 s stops w (by decide) (by omega) (by omega) (by decide) Z9).mono fun e j ⟨f,d⟩=>⟨f,?_⟩
   rw [d]
   exact ((Below.refl _ _).alloc (Nat.le_refl _) _).alloc (by simp) _
theorem S5 (s p:ByteArray) :
  ACalls Tryz.prog w0 225 [.val (.string s),.val (.string p)] ⟨B,Rw,L⟩ fun v s'=>v = .val (.bool (ZbO s p))/\s'=⟨B,Rw,L⟩ :=
 Hj (AU Tryz.func225 rfl (by decide)) rfl fun M w b f a=>by
  have:=NB (us:=[.string s,.string p]) a
  subst this
  exact (Tryz.strings_HasPrefix s p w).mono fun e g ⟨d,c⟩=>⟨d,c▸Below.refl _ _⟩
end
@[go_sem] theorem Ze5:VZ Tryz.prog 309=true:=by kernel_rfl
def O6 (g:Int) (b:ByteArray):Option Int :=
 if 0<=g/\g<=(b.size:Int)/\(b.size:Int)<=(b.size:Int) then
  if (b.extract g.toNat b.size).size<=4294967280/\(⟨#[46,91,63]⟩:ByteArray)=stops then
   if decide ((Zet (b.extract g.toNat b.size))<0) then
    some (b.size:Int)
   else
    if B1 (g+(Zet (b.extract g.toNat b.size))) then
     some (g+(Zet (b.extract g.toNat b.size)))
    else none
  else none
 else none
theorem WW (w0:World) (B:Aj) (Rw:Am) (L:An) (a0:Int) (la1:Nat) (a1:ByteArray) (hla1:B[la1]? = some ([.val (.string a1)])) (r:Int) (h:O6 a0 a1=some r) :
  ACalls Tryz.prog w0 223 [Ag a0,.box la1 0] ⟨B,Rw,L⟩ fun x st=>x=Ag r/\st=⟨B,Rw,L⟩:=by
 rw [O6] at h
 refine hd [.tmp 3] Tryz.func223 Tryz.ntmps223 fun M0 W0 g d e b i f hs=>?_
 simp only [As]
 have c:=(Af.1 hla1).1
 have hs:=Ac (AD hla1) hs
 exact go (tg (a:=([0,1],[0,1,4],[0,1,4,10],([3],()),[0,4],[3],()))) h hs g d e b f (q1 (Um w0)) trivial
def S0 (b:ByteArray):Option (Part × ByteArray × Bool) :=
 (O6 1 b).bind fun g =>
 if ZbO b ((⟨#[91,42,93]⟩:ByteArray)) then
  Av
 else
  if 0<=0/\0<(b.size:Int) then
   if decide ((((b.get! 0).toNat:Int))=46) then
    if 0<=1/\1<=g/\g<=(b.size:Int) then
     if 0<=g/\g<=(b.size:Int)/\(b.size:Int)<=(b.size:Int) then
      some ((Part.mk 1 0 (b.extract 1 g.toNat),b.extract g.toNat b.size,true))
     else none
    else none
   else
    Av
  else none
theorem Z5 (w0:World) (B:Aj) (Rw:Am) (L:An) (a0:ByteArray) (r:Part × ByteArray × Bool) (h:S0 a0=some r) :
  ACalls Tryz.prog w0 184 [.val (.string a0)] ⟨B,Rw,L⟩ fun x st=>x = .tup [.agg (Ag r.1.kind::(Ag r.1.index::([.val (.string r.1.name)]))),.val (.string r.2.1),.val (.bool r.2.2)]/\st=⟨B,Rw,L⟩:=by
 rw [S0] at h
 refine hd [.cell 2 221,.tmp 3,.tmp 4] Tryz.func184 Tryz.ntmps184 fun M0 W0 t m p e u n hs=>?_
 simp only [As]
 refine rg [1,2] hs ?_
 refine rg [1,2,5] hs ?_
 obtain ⟨v,i,h⟩:=bind_some h
 refine rc 2 [1,2,6] hs ?_;intro K3 g
 refine Aq _ (WW w0 _ _ _ 1 B.length a0 ev _ i) (hv hs) ?_
 refine ne hs g ?_
 clear g
 apply Ah;intro K5 o
 apply Ao
 refine rc 2 [1,2,6,15] hs ?_;intro K6 f
 refine Aq _ (S5 w0 _ _ _ a0 ((⟨#[91,42,93]⟩:ByteArray))) (hv hs) ?_
 refine ne hs f ?_
 clear f
 refine BA h hs ?_ ?_<;>intro hs h
 ·have d:=hs.1
  exact nS h
 have d:=hs.1
 obtain ⟨q,h⟩:=Ak h
 refine rg [1,2,6,21] hs ?_
 refine BA h hs ?_ ?_<;>intro hs h
 ·have b:=hs.1
  apply Ah;intro K11 c
  obtain ⟨k,h⟩:=Ak h
  obtain ⟨l,h⟩:=Ak h
  apply DF GP [7] [2,3,4] kr (fun s=>∃ (X:Aj) (rows:Am) (j:List AV),s=⟨B++([[.val (.string a0)],j]++X),rows,L⟩) 2 (B.length+2)
  ·simp +decide only [go_sem,Nat.reduceAdd]
  ·rintro s ⟨X,rows,j,rfl⟩
   refine ⟨1,?_⟩
   rw [Ai];simp +decide only [go_sem,Nat.reduceAdd,BK,d,b]
   (repeat' apply Ac)<;>first | rfl | exact cl
  ·exact gd (tg (a:=(7,[2,3,4]))) hs
  simp +decide only [go_sem,Nat.reduceAdd,d,b]
  (repeat' apply Ac)<;>first | refine c _ _ ?_ | exact cl
  clear c
  exact rt h hs e n
 have b:=hs.1
 exact nS h
def Po (n:Nat)  (b:List Part):Option ((List Part) × Int) :=
 if decide (16<(b.length:Int)) then
  Av
 else
  some ((b,0))
def J8 (n:Nat)  : Nat->(List Part)->ByteArray->Option ((List Part) × Int)
 | 0,_,_=>none
 | m+1,b,g =>
  if !(OA g (⟨#[]⟩:ByteArray)) then
   (S0 g).bind fun h =>
   if !h.2.2 then
    Av
   else
    (Hr h.1).bind fun q =>
    if !q then
     Av
    else
     if (b.length+1)*32<=140737488355328/\b.length+1<=4611686018427387904 then
      (J8 n m) (b++([h.1])) h.2.1
     else none
  else
   Po n b
def Ji (n:Nat) (b:ByteArray):Option ((List Part) × Int) :=
 if OA b (⟨#[]⟩:ByteArray) then
  Av
 else
  if decide (200<(b.size:Int)) then
   Av
  else
   if ((⟨#[46]⟩:ByteArray)).size+b.size<=9223372036854775807 then
    J8 n n ([]) (((⟨#[46]⟩:ByteArray))++b)
   else none
theorem L2 (w0:World) (n:Nat) (B:Aj) (Rw:Am) (L:An) (a0:ByteArray) (r:(List Part) × Int) (h:Ji n a0=some r) :
  ACalls Tryz.prog w0 128 [.val (.string a0)] ⟨B,Rw,L⟩ fun x st=>x = .tup [.list (r.1.map CY) .none,Ag r.2]/\st=⟨B,Rw,L⟩:=by
 rw [Ji] at h
 refine hd [.tmp 2,.tmp 3] Tryz.func128 Tryz.ntmps128 fun M0 W0 u o q i v l hs=>?_
 simp only [As]
 refine rg [0] hs ?_
 apply Ah;intro K2 t
 apply Ao
 refine rg [0,9] hs ?_
 refine BA h hs ?_ ?_<;>intro hs h
 ·exact nS h
 refine rg [0,12] hs ?_
 refine BA h hs ?_ ?_<;>intro hs h
 ·exact nS h
 refine sk [0] hs t ?_
 clear t
 refine rg [0,4] hs ?_
 refine AO (fun e st=>∃ (f:List Part) (d:Ev.Own),Ck e st B Rw L [(4,true,.list (f.map CY) d)] [] [(3,f.length,d)] (Po n f=some r)) ?_ ?_
 ·intro K10 p
  obtain ⟨k,h⟩:=Ak h
  have j:=k
  try simp +decide only [go_sem] at j
  refine rg [4,5] hs ?_
  apply Ao
  refine AB (fun m e st=>∃ (b:List Part) (g:ByteArray) (c:Ev.Own),Ck e st B Rw L [(4,true,.list (b.map CY) c),(5,true,.val (.string g))] [] [(3,b.length,c)] (J8 n m b g=some r)) n ⟨([]),(((⟨#[46]⟩:ByteArray))++a0),.full,([]),Rw,ef hs,ef hs,Owns.of_eq ((l).full 3 0) Fe,h⟩ ?_
  rintro ml13 e st ⟨b,g,c,Xl13,Rl13,rfl,rfl,l,h⟩ Ul13 Vl13
  cases ml13 with
  | zero=>cases h
  | succ ml13 =>
  rw [J8] at h
  exact go (tg (a:=([4,5,19],([4,5],[4,6,7,8],((),()),[4,6,7,32],((),()),[4,6,7],[4,5],()),[4],()))) h hs u o q i l (q3 (Z5 w0) (MP w0) (ae Zfb ZB)) (q2 p (fun e s=>Vl13 ml13 e s (Nat.lt_succ_self _)))
 ·clear h;rintro e st ⟨f,d,Xk9,Rk9,rfl,rfl,l,h⟩
  rw [Po] at h
  exact go (tg (a:=([4,40],((),()),[4],[2,3],()))) h hs u o q i l trivial trivial
def FR (n:Nat)  : Option Int :=
 some ((-1))
def D6 (n:Nat) (q:List Part) (y:Part->Option Bool):Nat->Int->Option Int
 | 0,_=>none
 | m+1,b =>
  if decide (b<(q.length:Int)) then
   (D1 q b).bind fun g =>
   (y g).bind fun h =>
   if h then
    Av
   else
    if B1 (b+1) then
     (D6 n q y m) (b+1)
    else none
  else
   FR n 
def Gj (n:Nat) (g:List Part) (b:Part->Option Bool):Option Int :=
 D6 n g b n 0
theorem NG (w0:World) (n:Nat) (B:Aj) (Rw:Am) (L:An) (a0:List Part) (fa1:FuncId) (ca1:List AV) (a1:Part->Option Bool) (ha1:∀ (x0:Part) r,a1 x0=some r->∀ B' rows,B <+: B'->Rw <+: rows->ACalls Tryz.prog w0 fa1 ([.agg (Ag x0.kind::(Ag x0.index::([.val (.string x0.name)])))]++ca1) ⟨B',rows,L⟩ fun v s=>v = .val (.bool r)/\s=⟨B',rows,L⟩) (r:Int) (h:Gj n a0 a1=some r) :
  ACalls Tryz.prog w0 186 [.list (a0.map CY) .none,.clo fa1 ca1] ⟨B,Rw,L⟩ fun x st=>x=Ag r/\st=⟨B,Rw,L⟩:=by
 rw [Gj] at h
 refine hd [.tmp 4] Tryz.func186 Tryz.ntmps186 fun M0 W0 k g i c l f hs=>?_
 simp only [As]
 have b:=BJ (l (.clo fa1 ca1) (by simp))
 refine rg [0,1] hs ?_
 refine AO (fun e st=>Ck e st B Rw L [] [] [] (FR n  = some r)) ?_ ?_
 ·intro K4 j
  refine rg [0,1,7,8] hs ?_
  apply Ao
  refine AB (fun m e st=>∃ (d:Int),Ck e st B Rw L [(0,true,.list (a0.map CY) .none),(1,true,.clo fa1 ca1),(7,true,Ag (a0.length:Int)),(8,true,Ag d)] [] [] (D6 n a0 a1 m d=some r)) n ⟨0,([]),Rw,ef hs,ef hs,f,h⟩ ?_
  rintro ml6 e st ⟨d,Xl6,Rl6,rfl,rfl,f,h⟩ Ul6 Vl6
  cases ml6 with
  | zero=>cases h
  | succ ml6 =>
  rw [D6] at h
  refine A8 k g i rfl c f (Hv b f) (Hv b f) ?_
  exact go (tg (a:=([0,1,7,8,9],([0,1,7,8],[0,1,5,7,8],[0,1,5,7,8,16],((),()),[0,1,7,8],[0,1,7,8],()),[],()))) h hs k g i c f (q1 ha1) (q2 j (fun e s=>Vl6 ml6 e s (Nat.lt_succ_self _)))
 ·clear h;rintro e st ⟨Xk3,Rk3,rfl,rfl,f,h⟩
  rw [FR] at h
  refine A8 k g i rfl c f (Hv b f) (Hv b f) ?_
  refine rg [4] hs ?_
  exact rt h hs c f
def CC (n:Nat) (g:List Part) (b:Part->Option Bool):Option Bool :=
 (Gj n g b).bind fun h =>
 some (decide (0<=h))
theorem EF (w0:World) (n:Nat) (B:Aj) (Rw:Am) (L:An) (a0:List Part) (fa1:FuncId) (ca1:List AV) (a1:Part->Option Bool) (ha1:∀ (x0:Part) r,a1 x0=some r->∀ B' rows,B <+: B'->Rw <+: rows->ACalls Tryz.prog w0 fa1 ([.agg (Ag x0.kind::(Ag x0.index::([.val (.string x0.name)])))]++ca1) ⟨B',rows,L⟩ fun v s=>v = .val (.bool r)/\s=⟨B',rows,L⟩) (r:Bool) (h:CC n a0 a1=some r) :
  ACalls Tryz.prog w0 129 [.list (a0.map CY) .none,.clo fa1 ca1] ⟨B,Rw,L⟩ fun x st=>x = .val (.bool r)/\st=⟨B,Rw,L⟩:=by
 rw [CC] at h
 refine hd [.tmp 4] Tryz.func129 Tryz.ntmps129 fun M0 W0 m i k b j g hs=>?_
 simp only [As]
 have f:=BJ (j (.clo fa1 ca1) (by simp))
 refine rg [0,1] hs ?_
 obtain ⟨o,e,h⟩:=bind_some h
 refine rc 2 [4] hs ?_;intro K2 c
 refine Aq _ (NG w0 n _ _ _ a0 fa1 ca1 a1 (fun x0 r l d a q1 q2=>ha1 x0 r l d a (List.IsPrefix.trans px q1) (g.pre.trans q2)) _ e) (hv hs) ?_
 refine ne hs c ?_
 clear c
 exact rt h hs b g
def IK (n:Nat) (b:Ex):Option Int :=
 if (decide (b.op<1))||(decide (28<b.op)) then
  Av
 else
  (LL b.op).bind fun h =>
  if (((!(decide (b.op=1)))&&(decide (0<(b.value.length:Int))))||((!(Gp b.op))&&(!(OA b.text (⟨#[]⟩:ByteArray)))))||((!(Gm b.op))&&(!(decide (b.int=0)))) then
   Av
  else
   if (decide (h.2=0))&&(decide (0<(b.args.length:Int))) then
    Av
   else
    if decide ((b.args.length:Int)<h.1) then
     Av
    else
     if (decide (h.2<(b.args.length:Int)))&&(!(decide (b.op=25))) then
      Av
     else
      if decide (b.op=1) then
       Av
      else
       if Gp b.op then
        (Ji n b.text).bind fun g =>
        if !(decide (g.2=0)) then
         Av
        else
         (CC n g.1 (fun (y:Part)=>some (D7 y))).bind fun q =>
         if q != (decide (b.op=26)) then
          Av
         else
          if (Gm b.op)&&((decide (b.int<0))||(decide (12<b.int))) then
           Av
          else
           some (0)
       else
        Av
theorem QQ (w0:World) (n:Nat) (B:Aj) (Rw:Am) (L:An) (a0:Ex) (r:Int) (h:IK n a0=some r) :
  ACalls Tryz.prog w0 229 [.agg (a0.cs)] ⟨B,Rw,L⟩ fun x st=>x=Ag r/\st=⟨B,Rw,L⟩:=by
 rw [IK] at h
 refine hd [.tmp 2] Tryz.func229 Tryz.ntmps229 fun M0 W0 u m p e z s hs=>?_
 simp only [As]
 refine rg [1] hs ?_
 apply Ah;intro K2 f
 refine rg [1,15] hs ?_
 refine BA h hs ?_ ?_<;>intro hs h
 ·exact nS h
 refine sk [1] hs f ?_
 clear f
 obtain ⟨C,q,h⟩:=bind_some h
 refine rc 2 [1,3,4] hs ?_;intro K5 g
 refine Aq _ (Ul w0 _ _ _ a0.op _ q) (hv hs) ?_
 refine ne hs g ?_
 clear g
 apply Ah;intro K7 l
 apply Ao
 refine rc 3 [1,3,4,22] hs ?_;intro K8 i
 refine GB _ (fun _=>ML w0 _ _ _ a0.op) (hv hs) ?_
 refine nc hs ?_
 refine GB _ (fun _=>MN w0 _ _ _ a0.op) (hv hs) ?_
 refine ne hs i ?_
 clear i
 refine BA h hs ?_ ?_<;>intro hs h
 ·exact nS h
 refine rg [1,3,4,54] hs ?_
 refine BA h hs ?_ ?_<;>intro hs h
 ·exact nS h
 refine rg [1,4,63] hs ?_
 refine BA h hs ?_ ?_<;>intro hs h
 ·exact nS h
 refine rg [1,69] hs ?_
 refine BA h hs ?_ ?_<;>intro hs h
 ·exact nS h
 refine rg [1,80] hs ?_
 refine BA h hs ?_ ?_<;>intro hs h
 ·exact nS h
 refine rc 2 [1,87] hs ?_;intro K18 b
 refine Aq _ (ML w0 _ _ _ a0.op) (hv hs) ?_
 refine ne hs b ?_
 clear b
 refine BA h hs ?_ ?_<;>intro hs h
 ·obtain ⟨o,k,h⟩:=bind_some h
  refine rc 2 [1,5,6] hs ?_;intro K20 d
  refine Aq _ (L2 w0 n _ _ _ a0.text _ k) (hv hs) ?_
  refine ne hs d ?_
  clear d
  apply Ah;intro K22 c
  refine rg [1,5,6,98] hs ?_
  refine BA h hs ?_ ?_<;>intro hs h
  ·exact nS h
  refine sk [1,5] hs c ?_
  clear c
  obtain ⟨w,hy26,h⟩:=bind_some h
  refine rc 2 [1,7] hs ?_;intro K25 j
  refine Aq _ (EF w0 n _ _ _ o.1 277 [] (fun (x0:Part)=>some (D7 x0)) (fun x0 r hx y rows' v t=>by cases hx;exact Ox w0 _ _ _ x0) _ hy26) (hv hs) ?_
  exact go (tg (a:=([1,106],((),()),[1],[119],((),()),[],[2],()))) h hs u m p e s (q1 (MN w0)) (q2 j l)
 exact nS h
def H4 (n:Nat) (b:Int):Option (Int × Int) :=
 some ((0,b+1))
def HT (n:Nat) (b:Ex) (g:Int):Nat->Option (Int × Int)
 | 0=>none
 | m+1 =>
  if decide (0<(b.args.length:Int)) then
   Av
  else
   H4 n g 
def Jn (n:Nat) (h:Ex) (q:Int) (g:Int):Option (Int × Int) :=
 if decide (g=256) then
  Av
 else
  if B1 (g+1) then
   if decide (8<q) then
    Av
   else
    (IK n h).bind fun b =>
    if !(decide (b=0)) then
     Av
    else
     HT n h g n 
  else none
theorem RB (w0:World) (n:Nat) (B:Aj) (Rw:Am) (L:An) (a0:Ex) (a1:Int) (la2:Nat) (a2:Int) (hla2:B[la2]? = some ([Ag a2])) (la3:Nat) (hla3:B[la3]? = some [.clo 228 [.box la2 0,.box la3 0]]) (r:Int × Int) (h:Jn n a0 a1 a2=some r) :
  ACalls Tryz.prog w0 228 [.agg (a0.cs),Ag a1,.box la2 0,.box la3 0] ⟨B,Rw,L⟩ fun x st=>x=Ag r.1/\st=⟨(B.set la2 [Ag r.2]),Rw,L⟩:=by
 rw [Jn] at h
 refine hd [.tmp 6] Tryz.func228 Tryz.ntmps228 fun M0 W0 v d f b E j hs=>?_
 simp only [As]
 have w:=(Af.1 hla2).1
 have u:=(Af.1 hla3).1
 have c:la2≠la3:=fun q=>by have k:=hla2;rw [q,hla3] at k;cases k
 have hs:=Ac (AD hla2) hs
 have hs:=Ac (AD hla3) hs
 have hs:=Ac (Eb hla3 c) hs
 refine rg [1,2,3,4] hs ?_
 apply Ah;intro K2 l
 refine rg [1,2,3,4,12] hs ?_
 refine BA h hs ?_ ?_<;>intro hs h
 ·have z:=hs.1
  exact nS h
 have z:=hs.1
 refine sk [1,2,3,4] hs l ?_
 clear l
 obtain ⟨C,h⟩:=Ak h
 refine rg [1,3,4] hs ?_
 apply Ah;intro K7 p
 refine rg [1,3,4,16] hs ?_
 refine BA h hs ?_ ?_<;>intro hs h
 ·have y:=hs.1
  exact nS h
 have y:=hs.1
 refine sk [1,3,4] hs p ?_
 clear p
 apply Ah;intro K10 i
 obtain ⟨D,s,h⟩:=bind_some h
 refine rc 2 [1,3,4,7] hs ?_;intro K11 g
 refine Aq _ (QQ w0 n _ _ _ a0 _ s) (hv hs) ?_
 refine ne hs g ?_
 clear g
 refine rg [1,3,4,7,20] hs ?_
 refine BA h hs ?_ ?_<;>intro hs h
 ·have o:=hs.1
  exact nS h
 have o:=hs.1
 refine sk [1,3,4] hs i ?_
 clear i
 refine AO (fun e st=>∃ (Xk16:Aj) (Rk16:Am),e=[]/\st=⟨(B.set la2 ([Ag (a2+1)]))++([a0.cs]++Xk16),Rk16,L⟩/\Owns Rw Rk16 []/\H4 n a2  = some r) ?_ ?_
 ·intro K17 t
  refine rg [1,3,23,24,25] hs ?_
  apply Ao
  refine AB (fun m e st=>∃ (Xl19:Aj) (Rl19:Am),e=[(1,true,Ag a1),(3,true,.box la3 0),(23,true,.list (a0.args.map TW) .none),(24,true,Ag (a0.args.length:Int)),(25,true,Ag 0)]/\st=⟨(B.set la2 ([Ag (a2+1)]))++([a0.cs]++Xl19),Rl19,L⟩/\Owns Rw Rl19 []/\HT n a0 a2 m  = some r) n ⟨([]),Rw,ef hs,ef hs,j,h⟩ ?_
  rintro ml19 e st ⟨Xl19,Rl19,rfl,rfl,j,h⟩ Ul19 Vl19
  cases ml19 with
  | zero=>cases h
  | succ ml19 =>
  rw [HT] at h
  refine A8 v d f GR (AA b ev) j ow ow ?_
  exact go (tg (a:=([1,3,23,24,25,26],((),()),[],()))) h hs v d f b j trivial (q1 t)
 ·clear h;rintro e st ⟨Xk16,Rk16,rfl,rfl,j,h⟩
  rw [H4] at h
  refine A8 v d f GR (AA b ev) j ow ow ?_
  exact go (tg (a:=([6],()))) h hs v d f b j trivial trivial
def I9 (n:Nat) (b:Ex):Option Int :=
 (Jn n b 1 0).bind fun g =>
 some (g.1)
theorem OQ (w0:World) (n:Nat) (B:Aj) (Rw:Am) (L:An) (a0:Ex) (r:Int) (h:I9 n a0=some r) :
  ACalls Tryz.prog w0 189 [.agg (a0.cs)] ⟨B,Rw,L⟩ fun x st=>x=Ag r/\st=⟨B,Rw,L⟩:=by
 rw [I9] at h
 refine hd [.tmp 2] Tryz.func189 Tryz.ntmps189 fun M0 W0 i e f a j d hs=>?_
 simp only [As]
 refine rg [1] hs ?_
 refine rg [1,3] hs ?_
 refine rg [1,3,4] hs ?_
 refine rg [1,4] hs ?_
 obtain ⟨g,c,h⟩:=bind_some h
 refine rc 2 [2] hs ?_;intro K5 b
 refine Bm _ (RB w0 n _ _ _ a0 1 (B.length+1) 0 ev (B.length+2) ev _ c) (hv hs) ?_;rintro _ _ ⟨rfl,rfl⟩
 refine ne hs b ?_
 clear b
 exact rt h hs a d
def DO (b:Vl × Int) (h:Ex) (q:Vl) (g:Vl):Option Vl :=
 if !(decide (b.2=0)) then
  Av
 else
  Av
theorem Js (w0:World) (B:Aj) (Rw:Am) (L:An) (la0:Nat) (a0:Vl × Int) (hla0:B[la0]? = some ((a0.1.cs)++([Ag a0.2]))) (a1:Ex) (a2:Vl) (a3:Vl) (r:Vl) (h:DO a0 a1 a2 a3=some r) :
  ACalls Tryz.prog w0 239 [.box la0 0,.agg (a1.cs),.agg (a2.cs),.agg (a3.cs)] ⟨B,Rw,L⟩ fun x st=>x = .agg (r.cs)/\st=⟨B,Rw,L⟩:=by
 rw [DO] at h
 refine hd [.cell 8 60] Tryz.func239 Tryz.ntmps239 fun M0 W0 g d e b i f hs=>?_
 simp only [As]
 have c:=(Af.1 hla0).1
 have hs:=Ac (AD hla0) hs
 exact go (tg (a:=([0,5,6,7,8],[0,5,6,7,8,16],((),()),((),())))) h hs g d e b f trivial trivial
def Ir (b:Part):Bool :=
 decide (b.kind=3)
theorem VG (w0:World) (B:Aj) (Rw:Am) (L:An) (a0:Part) (r:Bool) (h:Ir a0=r) :
  ACalls Tryz.prog w0 322 [.agg (Ag a0.kind::(Ag a0.index::([.val (.string a0.name)])))] ⟨B,Rw,L⟩ fun x st=>x = .val (.bool r)/\st=⟨B,Rw,L⟩:=by
 rw [Ir] at h
 refine hd [.tmp 2] Tryz.func322 Tryz.ntmps322 fun M0 W0 e c d a f b hs=>?_
 simp only [As]
 refine rg [1] hs ?_
 refine rg [2] hs ?_
 exact rT h hs a b
theorem UC (w0:World) (B:Aj) (Rw:Am) (L:An) (a0:Part) :
  ACalls Tryz.prog w0 322 [.agg (Ag a0.kind::(Ag a0.index::([.val (.string a0.name)])))] ⟨B,Rw,L⟩ fun x st=>x = .val (.bool (Ir a0))/\st=⟨B,Rw,L⟩:=VG w0 B Rw L a0 _ rfl
def Qs (n:Nat) (b:List Part):Option Bool :=
 (CC n b (fun (h:Part)=>some (Ir h))).bind fun g =>
 some (g)
theorem X7 (w0:World) (n:Nat) (B:Aj) (Rw:Am) (L:An) (a0:List Part) (r:Bool) (h:Qs n a0=some r) :
  ACalls Tryz.prog w0 286 [.list (a0.map CY) .none] ⟨B,Rw,L⟩ fun x st=>x = .val (.bool r)/\st=⟨B,Rw,L⟩:=by
 rw [Qs] at h
 refine hd [.tmp 2] Tryz.func286 Tryz.ntmps286 fun M0 W0 j e f a k d hs=>?_
 simp only [As]
 refine rg [0] hs ?_
 obtain ⟨l,hy3,h⟩:=bind_some h
 refine rc 2 [2] hs ?_;intro K2 b
 refine Aq _ (EF w0 n _ _ _ a0 322 [] (fun (x0:Part)=>some (Ir x0)) (fun x0 r hx i rows' g c=>by cases hx;exact UC w0 _ _ _ x0) _ hy3) (hv hs) ?_
 refine ne hs b ?_
 clear b
 exact rt h hs a d
def KP (b:Part):Option ByteArray :=
 if decide (b.kind=1) then
  if ((⟨#[46]⟩:ByteArray)).size+b.name.size<=9223372036854775807 then
   some (((⟨#[46]⟩:ByteArray))++b.name)
  else none
 else
  Av
theorem SO (w0:World) (B:Aj) (Rw:Am) (L:An) (a0:Part) (r:ByteArray) (h:KP a0=some r) :
  ACalls Tryz.prog w0 347 [.agg (Ag a0.kind::(Ag a0.index::([.val (.string a0.name)])))] ⟨B,Rw,L⟩ fun x st=>x = .val (.string r)/\st=⟨B,Rw,L⟩:=by
 rw [KP] at h
 refine hd [.tmp 2] Tryz.func347 Tryz.ntmps347 fun M0 W0 i e f a j d hs=>?_
 simp only [As]
 refine rg [1] hs ?_
 apply Ah;intro K2 g
 refine rg [1,4] hs ?_
 apply Ao
 refine rg [1,4,5] hs ?_
 refine BA h hs ?_ ?_<;>intro hs h
 ·obtain ⟨c,h⟩:=Ak h
  have b:=c
  try simp +decide only [go_sem] at b
  refine rg [2] hs ?_
  exact rt h hs a d
 exact nS h
def OV (n:Nat)  (b:Int):Option Int :=
 if decide (200<b) then
  Av
 else
  some (0)
def Ks (n:Nat) (a0:List Part):Nat->Int->Int->Option Int
 | 0,_,_=>none
 | m+1,g,b =>
  if decide (b<(a0.length:Int)) then
   (D1 a0 b).bind fun h =>
   (Hr h).bind fun y =>
   if !y then
    Av
   else
    (KP h).bind fun q =>
    if B1 (g+(q.size:Int)) then
     if B1 (b+1) then
      (Ks n a0 m) (g+(q.size:Int)) (b+1)
     else none
    else none
  else
   OV n g
def QF (n:Nat) (b:List Part):Option Int :=
 if (decide ((b.length:Int)<1))||(decide (16<(b.length:Int))) then
  Av
 else
  (D1 b 0).bind fun g =>
  if !(decide (g.kind=1)) then
   Av
  else
   Ks n b n ((-1)) 0
theorem YH (w0:World) (n:Nat) (B:Aj) (Rw:Am) (L:An) (a0:List Part) (r:Int) (h:QF n a0=some r) :
  ACalls Tryz.prog w0 319 [.list (a0.map CY) .none] ⟨B,Rw,L⟩ fun x st=>x=Ag r/\st=⟨B,Rw,L⟩:=by
 rw [QF] at h
 refine hd [.tmp 2] Tryz.func319 Tryz.ntmps319 fun M0 W0 u o q f y j hs=>?_
 simp only [As]
 refine rg [0] hs ?_
 apply Ah;intro K2 l
 apply Ah;intro K3 k
 rcases Bool.eq_false_or_eq_true ((decide ((a0.length:Int)<1))||(decide (16<(a0.length:Int)))) with hf4 | hf4
 ·replace h:=BO h hf4
  exact nS h
 ·replace h:=BP h hf4
  obtain ⟨w,v,t,g,h⟩:=ix CY h
  have i:(a0.map CY).getD 0 .junk=_:=g
  have hs:=Ac hf4 hs
  have hs:=Ac g hs
  have hs:=Ac i hs
  refine rl [0,20] hs k ?_
  clear k
  refine BA h hs ?_ ?_<;>intro hs h
  ·exact nS h
  refine sk [0] hs l ?_
  clear l
  refine rg [0,3] hs ?_
  refine AO (fun e st=>∃ (d:Int),Ck e st B Rw L [(3,true,Ag d)] [] [] (OV n d=some r)) ?_ ?_
  ·intro K10 p
   refine rg [3,21,22,23] hs ?_
   apply Ao
   refine AB (fun m e st=>∃ (c:Int) (b:Int),Ck e st B Rw L [(3,true,Ag c),(21,true,.list (a0.map CY) .none),(22,true,Ag (a0.length:Int)),(23,true,Ag b)] [] [] (Ks n a0 m c b=some r)) n ⟨((-1)),0,([]),Rw,ef hs,ef hs,j,h⟩ ?_
   rintro ml12 e st ⟨c,b,Xl12,Rl12,rfl,rfl,j,h⟩ Ul12 Vl12
   cases ml12 with
   | zero=>cases h
   | succ ml12 =>
   rw [Ks] at h
   exact go (tg (a:=([3,21,22,23,24],([3,21,22,23],[3,5,21,22,23],[3,5,21,22,23,29],((),()),[3,5,21,22,23],[3,21,22,23],[3,21,22,23],()),[3],()))) h hs u o q f j (q2 (MP w0) (SO w0)) (q2 p (fun e s=>Vl12 ml12 e s (Nat.lt_succ_self _)))
  ·clear h;rintro e st ⟨d,Xk9,Rk9,rfl,rfl,j,h⟩
   rw [OV] at h
   exact go (tg (a:=([37],((),()),[],[2],()))) h hs u o q f j trivial trivial
def HM (g:Part) (b:Vl):Option Bool :=
 if decide (g.kind=1) then
  some (decide (b.kind=9))
 else
  Av
theorem P3 (w0:World) (B:Aj) (Rw:Am) (L:An) (a0:Part) (a1:Vl) (r:Bool) (h:HM a0 a1=some r) :
  ACalls Tryz.prog w0 320 [.agg (Ag a0.kind::(Ag a0.index::([.val (.string a0.name)]))),.agg (a1.cs)] ⟨B,Rw,L⟩ fun x st=>x = .val (.bool r)/\st=⟨B,Rw,L⟩:=by
 rw [HM] at h
 refine hd [.tmp 4] Tryz.func320 Tryz.ntmps320 fun M0 W0 f c d b g e hs=>?_
 simp only [As]
 exact go (tg (a:=([2,3],[3,6],[3,6,7],([4],()),((),())))) h hs f c d b e trivial trivial
def IG (g:ByteArray × Vl) (b:ByteArray):Bool :=
 OA g.1 b
theorem Vg (w0:World) (B:Aj) (Rw:Am) (L:An) (a0:ByteArray × Vl) (la1:Nat) (a1:ByteArray) (hla1:B[la1]? = some ([.val (.string a1)])) (r:Bool) (h:IG a0 a1=r) :
  ACalls Tryz.prog w0 363 [.agg (.val (.string a0.1)::(a0.2.cs)),.box la1 0] ⟨B,Rw,L⟩ fun x st=>x = .val (.bool r)/\st=⟨B,Rw,L⟩:=by
 rw [IG] at h
 refine hd [.tmp 3] Tryz.func363 Tryz.ntmps363 fun M0 W0 f d e a g c hs=>?_
 simp only [As]
 have b:=(Af.1 hla1).1
 have hs:=Ac (AD hla1) hs
 refine rg [1,2] hs ?_
 refine rg [3] hs ?_
 exact rT h hs a c
theorem Up (w0:World) (B:Aj) (Rw:Am) (L:An) (a0:ByteArray × Vl) (la1:Nat) (a1:ByteArray) (hla1:B[la1]? = some ([.val (.string a1)])) :
  ACalls Tryz.prog w0 363 [.agg (.val (.string a0.1)::(a0.2.cs)),.box la1 0] ⟨B,Rw,L⟩ fun x st=>x = .val (.bool (IG a0 a1))/\st=⟨B,Rw,L⟩:=Vg w0 B Rw L a0 la1 a1 hla1 _ rfl
def QC (n:Nat) (g:Vl) (b:ByteArray):Option Int :=
 (C5 n g.fields (fun (q:ByteArray × Vl)=>some (IG q b))).bind fun h =>
 some (h)
theorem X9 (w0:World) (n:Nat) (B:Aj) (Rw:Am) (L:An) (a0:Vl) (a1:ByteArray) (r:Int) (h:QC n a0 a1=some r) :
  ACalls Tryz.prog w0 348 [.agg (a0.cs),.val (.string a1)] ⟨B,Rw,L⟩ fun x st=>x=Ag r/\st=⟨B,Rw,L⟩:=by
 rw [QC] at h
 refine hd [.tmp 4] Tryz.func348 Tryz.ntmps348 fun M0 W0 i e f a j d hs=>?_
 simp only [As]
 refine rg [2,3] hs ?_
 obtain ⟨k,hy3,h⟩:=bind_some h
 refine rc 2 [4] hs ?_;intro K2 b
 refine Aq _ (Fg w0 n _ _ _ a0.fields 363 [.box (B.length+1) 0] (fun (x0:ByteArray × Vl)=>some (IG x0 a1)) (fun x0 r hx g rows' hB' c=>by cases hx;exact Up w0 _ _ _ x0 _ a1 (Ej hB' ev)) _ hy3) (hv hs) ?_
 refine ne hs b ?_
 clear b
 exact rt h hs a d
def Le (n:Nat) (h:Part) (g:Vl):Option ((List Vl)) :=
 if decide (h.kind=1) then
  (QC n g h.name).bind fun q =>
  if decide (0<=q) then
   (D1 g.fields q).bind fun b =>
   some ([b.2])
  else
   Av
 else
  Av
theorem Tc (w0:World) (n:Nat) (B:Aj) (Rw:Am) (L:An) (a0:Part) (a1:Vl) (r:(List Vl)) (h:Le n a0 a1=some r) :
  ACalls Tryz.prog w0 321 [.agg (Ag a0.kind::(Ag a0.index::([.val (.string a0.name)]))),.agg (a1.cs)] ⟨B,Rw,L⟩ fun x st=>x = .list (r.map B6) .none/\st=⟨B,Rw,L⟩:=by
 rw [Le] at h
 refine hd [.tmp 4] Tryz.func321 Tryz.ntmps321 fun M0 W0 f c d b g e hs=>?_
 simp only [As]
 exact go (tg (a:=([2,3],[2,3,6],([3,5],[3,5,15],([4],()),((),())),((),())))) h hs f c d b e (q1 (X9 w0 n)) trivial
def OT (n:Nat) (g:(List Vl)->Int->Option ((List Vl) × Int)) (b:Int) (h:List Vl):Option ((List Vl) × Int) :=
 if B1 (b+1) then
  g h (b+1)
 else none
def OU (n:Nat)  (b:List Vl):Option ((List Vl) × Int) :=
 some ((b,0))
def O8 (n:Nat) (b:(List Vl)->Int->Option ((List Vl) × Int)) (h:Int) (g:List Vl):Option ((List Vl) × Int) :=
 OT n b h g
def LK (n:Nat) (q:List Vl):Nat->(List Vl)->(List Vl)->Int->Option ((List Vl) × Int)
 | 0,_,_,_=>none
 | m+1,b,h,g =>
  if decide (g<(q.length:Int)) then
   (D1 h g).bind fun x59 =>
   (Ce n x59).bind fun y =>
   if (b.length+1)*88<=140737488355328/\b.length+1<=4611686018427387904 then
    if B1 (g+1) then
     (LK n q m) (b++([y])) h (g+1)
    else none
   else none
  else
   OU n b
def Md (n:Nat) (h:(List Vl)->Int->Option ((List Vl) × Int)) (x7_l12:List Vl) (q:Int) (x20:Part):Nat->(List Vl)->(List Vl)->Int->Option ((List Vl) × Int)
 | 0,_,_,_=>none
 | m+1,g,y,b =>
  if decide (b<(x7_l12.length:Int)) then
   (D1 y b).bind fun x32 =>
   (HM x20 x32).bind fun y35 =>
   if !y35 then
    Av
   else
    (Le n x20 x32).bind fun y37 =>
    if (g.length+y37.length)*88<=140737488355328/\g.length+y37.length<=4611686018427387904 then
     if B1 (b+1) then
      (Md n h x7_l12 q x20 m) (g++y37) y (b+1)
     else none
    else none
  else
   O8 n h q g
def QH (n:Nat)  (b:List Vl):Option ((List Vl) × Int) :=
 if decide ((b.length:Int)=0) then
  Av
 else
  LK n b n ([]) b 0
def GG (n:Nat) (h:List Part):Nat->(List Vl)->Int->Option ((List Vl) × Int)
 | 0,_,_=>none
 | m+1,g,b =>
  if decide (b<(h.length:Int)) then
   (D1 h b).bind fun q =>
   Md n (GG n h m) g b q n ([]) g 0
  else
   QH n g
def Tq (n:Nat) (h:Vl) (b:List Part):Option ((List Vl) × Int) :=
 (QF n b).bind fun g =>
 if !(decide (g=0)) then
  Av
 else
  GG n b n ([h]) 0
theorem Zo (w0:World) (n:Nat) (B:Aj) (Rw:Am) (L:An) (a0:Vl) (a1:List Part) (r:(List Vl) × Int) (h:Tq n a0 a1=some r) :
  ACalls Tryz.prog w0 285 [.agg (a0.cs),.list (a1.map CY) .none] ⟨B,Rw,L⟩ fun x st=>x = .tup [.list (r.1.map B6) .none,Ag r.2]/\st=⟨B,Rw,L⟩:=by
 rw [Tq] at h
 refine hd [.tmp 4,.tmp 5] Tryz.func285 Tryz.ntmps285 fun M0 W0 hN U Q u hu v hs=>?_
 simp only [As]
 refine rg [1,2] hs ?_
 apply Ah;intro K2 a2
 obtain ⟨y4,bk,h⟩:=bind_some h
 refine rc 2 [1,2,6] hs ?_;intro K3 az
 refine Aq _ (YH w0 n _ _ _ a1 _ bk) (hv hs) ?_
 refine ne hs az ?_
 clear az
 refine rg [1,2,6,19] hs ?_
 refine BA h hs ?_ ?_<;>intro hs h
 ·exact nS h
 refine sk [1,2] hs a2 ?_
 clear a2
 refine rg [1,7] hs ?_
 refine AO (fun e st=>∃ (q:List Vl) (K:Ev.Own),Ck e st B Rw L [(1,true,.list (a1.map CY) .none),(7,true,.list (q.map B6) K)] [a0.cs] [(6,q.length,K)] (QH n q=some r)) ?_ ?_
 ·intro K10 a8
  refine rg [1,7,23,24,25] hs ?_
  apply Ao
  refine AB (fun m e st=>∃ (g:List Vl) (b:Int) (t:Ev.Own),Ck e st B Rw L [(1,true,.list (a1.map CY) .none),(7,true,.list (g.map B6) t),(23,true,.list (a1.map CY) .none),(24,true,Ag (a1.length:Int)),(25,true,Ag b)] [a0.cs] [(6,g.length,t)] (GG n a1 m g b=some r)) n ⟨([a0]),0,.full,([]),Rw,ef hs,ef hs,Owns.of_eq ((v).full 6 (([a0]).length)) Fe,h⟩ ?_
  rintro ml12 e st ⟨g,b,t,Xl12,Rl12,rfl,rfl,v,h⟩ Ul12 Vl12
  cases ml12 with
  | zero=>cases h
  | succ ml12 =>
  rw [GG] at h
  have V:=v.unders
  simp only [List.mem_cons,List.not_mem_nil,or_false,forall_eq_or_imp,forall_eq] at V
  refine td hN U Q u v ?_
  refine rg [1,7,23,24,25,26] hs ?_
  apply Ah;intro K14 ae
  refine BA h hs ?_ ?_<;>intro hs h
  rotate_left
  ·refine sx [1,7] hs a8 ?_
   exact ⟨g,t,([]),Rl12,ef hs,ef hs,Owns.of_eq (v) Fe,h⟩
  refine sk [1,7,23,24,25] hs ae ?_
  clear ae
  refine AO (fun e st=>∃ (J:List Vl) (N:Ev.Own),Ck e st B Rw L [(1,true,.list (a1.map CY) .none),(7,true,.list (J.map B6) N),(23,true,.list (a1.map CY) .none),(24,true,Ag (a1.length:Int)),(25,true,Ag b)] [a0.cs] [(6,J.length,N)] (OT n (GG n a1 ml12) b J=some r)) ?_ ?_
  ·intro K18 a5
   apply Ao
   obtain ⟨O,a7,h⟩:=bind_some h
   obtain ⟨bm,bh,ao⟩:=Bo a7
   have aw:=Bq (f:=CY) ao
   have hs:=Ac aw hs
   refine rg [1,7,9,23,24,25] hs ?_
   refine rg [1,7,9,10,23,24,25] hs ?_
   refine AO (fun e st=>∃ (w:List Vl) (H:Ev.Own),Ck e st B Rw L [(1,true,.list (a1.map CY) .none),(10,true,.list (w.map B6) H),(23,true,.list (a1.map CY) .none),(24,true,Ag (a1.length:Int)),(25,true,Ag b)] [a0.cs,Ag O.kind::(Ag O.index::([.val (.string O.name)]))] [(6,w.length,H)] (O8 n (GG n a1 ml12) b w=some r)) ?_ ?_
   ·intro K24 bb
    refine rg [1,9,10,23,24,25,29,30,31] hs ?_
    apply Ao
    refine AB (fun m e st=>∃ (c:List Vl) (k:List Vl) (C:Int) (j:Ev.Own) (p:Ev.Own),Ck e st B Rw L [(1,true,.list (a1.map CY) .none),(9,true,.box (B.length+1) 0),(10,true,.list (c.map B6) j),(23,true,.list (a1.map CY) .none),(24,true,Ag (a1.length:Int)),(25,true,Ag b),(29,true,.list (k.map B6) p),(30,true,Ag (g.length:Int)),(31,true,Ag C)] [a0.cs,Ag O.kind::(Ag O.index::([.val (.string O.name)]))] [(6,c.length,j),(6,k.length,p)] (Md n (GG n a1 ml12) g b O m c k C=some r)) n ⟨([]),g,0,.full,t,([]),Rl12,ef hs,ef hs,Owns.of_eq ((v).full 6 0) Fe,h⟩ ?_
    rintro ml26 e st ⟨c,k,C,j,p,Xl26,Rl26,rfl,rfl,v,h⟩ Ul26 Vl26
    cases ml26 with
    | zero=>cases h
    | succ ml26 =>
    rw [Md] at h
    have V:=v.unders
    simp only [List.mem_cons,List.not_mem_nil,or_false,forall_eq_or_imp,forall_eq] at V
    obtain ⟨bj,bi⟩:=V
    refine td hN U Q u v ?_
    refine rg [1,9,10,23,24,25,29,30,31,32] hs ?_
    apply Ah;intro K28 ab
    refine BA h hs ?_ ?_<;>intro hs h
    rotate_left
    ·refine sx [1,10,23,24,25] hs bb ?_
     exact ⟨c,j,([]),Rl26,ef hs,ef hs,Owns.of_eq ((v).sub (List.sublist_append_left [(6,c.length,j)] [(6,k.length,p)])) Fe,h⟩
    refine sk [1,9,10,23,24,25,29,30,31] hs ab ?_
    clear ab
    apply Ah;intro K30 ad
    apply Ao
    obtain ⟨av,ay,h⟩:=bind_some h
    obtain ⟨bo,bf,ar⟩:=Bo ay
    have aq:=Bq (f:=B6) ar
    have hs:=Ac aq hs
    refine rg [1,9,10,12,23,24,25,29,30,31] hs ?_
    apply Ah;intro K33 ai
    obtain ⟨br,a6,h⟩:=bind_some h
    refine rc 2 [1,9,10,12,23,24,25,29,30,31,38] hs ?_;intro K34 am
    refine Aq _ (P3 w0 _ _ _ O av _ a6) (hv hs) ?_
    refine ne hs am ?_
    clear am
    refine BA h hs ?_ ?_<;>intro hs h
    ·exact nS h
    refine sk [1,9,10,12,23,24,25,29,30,31] hs ai ?_
    clear ai
    obtain ⟨ax,a3,h⟩:=bind_some h
    obtain ⟨af,h⟩:=Ak h
    obtain ⟨bl,Y,v,E⟩:=v.append (P:=Tryz.prog) NQ (by rw [IB];rfl) (by decide) ax.length af.1 af.2
    replace E:=fun (ys:List AV) B L o2=>E (c.map B6) ys B L o2 Fe
    replace E:=fun B L o2=>E (ax.map B6) B L o2 Fe ev
    try simp only [List.mem_singleton,List.mem_cons,List.not_mem_nil,or_false,forall_eq_or_imp,forall_eq,List.map_append,List.map_cons,List.map_nil,A2,A0,AY,A3,AZ,AX,AN,AG,A1,Ax,Az,AH,AM,AL,A5,AK,A6] at E
    have hs:=Ac E hs
    refine rk 2 [1,9,10,23,24,25,29,30,31] hs ?_
    refine Aq _ (Tc w0 n _ _ _ O av _ a3) (hv hs) ?_
    refine ne hs ad ?_
    clear ad
    obtain ⟨bq,h⟩:=Ak h
    refine rl [1,9,10,23,24,25,29,30,31] hs (fun e s=>Vl26 ml26 e s (Nat.lt_succ_self _)) ?_
    exact ⟨(c++ax),k,(C+1),bl,p,([av.cs]),Y,ef hs,ef hs,Owns.of_eq (((v).swap (List.Perm.swap _ _ _)).swap (List.Perm.swap _ _ _)) Fe,h⟩
   ·clear h;rintro e st ⟨w,H,Xk23,Rk23,rfl,rfl,v,h⟩
    rw [O8] at h
    exact go (tg (a:=([1,7,23,24,25],()))) h hs hN U Q u v trivial (q1 a5)
  ·clear h;rintro e st ⟨J,N,Xk17,Rk17,rfl,rfl,v,h⟩
   rw [OT] at h
   exact go (tg (a:=([1,7,23,24,25],()))) h hs hN U Q u v trivial (q1 (fun e s=>Vl12 ml12 e s (Nat.lt_succ_self _)))
 ·clear h;rintro e st ⟨q,K,Xk9,Rk9,rfl,rfl,v,h⟩
  rw [QH] at h
  have V:=v.unders
  simp only [List.mem_cons,List.not_mem_nil,or_false,forall_eq_or_imp,forall_eq] at V
  refine td hN U Q u v ?_
  apply Ah;intro K44 aa
  apply Ah;intro K45 ag
  rcases Bool.eq_false_or_eq_true (decide ((q.length:Int)=0)) with hf46 | hf46
  ·replace h:=BO h hf46
   exact nS h
  ·replace h:=BP h hf46
   have hs:=Ac hf46 hs
   refine rk 2 [7,54] hs ?_
   refine Mc ?_
   refine ne hs ag ?_
   clear ag
   refine Bl false ev (ef hs) (fun hb47=>by cases hb47) (fun hb47=>?_)
   refine sk [7] hs aa ?_
   clear aa
   refine rg [7,13] hs ?_
   refine AO (fun e st=>∃ (D:List Vl) (F:Ev.Own),Ck e st B Rw L [(13,true,.list (D.map B6) F)] [a0.cs] [(6,D.length,F)] (OU n D=some r)) ?_ ?_
   ·intro K51 ba
    refine rg [13,55,56,57] hs ?_
    apply Ao
    refine AB (fun m e st=>∃ (d:List Vl) (o:List Vl) (z:Int) (i:Ev.Own) (l:Ev.Own),Ck e st B Rw L [(13,true,.list (d.map B6) i),(55,true,.list (o.map B6) l),(56,true,Ag (q.length:Int)),(57,true,Ag z)] [a0.cs] [(6,d.length,i),(6,o.length,l)] (LK n q m d o z=some r)) n ⟨([]),q,0,.full,K,([]),Rk9,ef hs,ef hs,Owns.of_eq ((v).full 6 0) Fe,h⟩ ?_
    rintro ml53 e st ⟨d,o,z,i,l,Xl53,Rl53,rfl,rfl,v,h⟩ Ul53 Vl53
    cases ml53 with
    | zero=>cases h
    | succ ml53 =>
    rw [LK] at h
    have V:=v.unders
    simp only [List.mem_cons,List.not_mem_nil,or_false,forall_eq_or_imp,forall_eq] at V
    obtain ⟨bj,bi⟩:=V
    refine td hN U Q u v ?_
    refine rg [13,55,56,57,58] hs ?_
    apply Ah;intro K55 ak
    refine BA h hs ?_ ?_<;>intro hs h
    rotate_left
    ·refine sx [13] hs ba ?_
     exact ⟨d,i,([]),Rl53,ef hs,ef hs,Owns.of_eq ((v).sub (List.sublist_append_left [(6,d.length,i)] [(6,o.length,l)])) Fe,h⟩
    refine sk [13,55,56,57] hs ak ?_
    clear ak
    apply Ah;intro K57 aj
    apply Ao
    obtain ⟨a9,a4,h⟩:=bind_some h
    obtain ⟨bn,bg,ap⟩:=Bo a4
    have au:=Bq (f:=B6) ap
    have hs:=Ac au hs
    refine rg [13,15,55,56,57] hs ?_
    obtain ⟨be,bc,h⟩:=bind_some h
    obtain ⟨ah,h⟩:=Ak h
    obtain ⟨bd,Z,v,G⟩:=v.append (P:=Tryz.prog) NQ (by rw [IB];rfl) (by decide) 1 ah.1 ah.2
    replace G:=fun (ys:List AV) B L o2=>G (d.map B6) ys B L o2 Fe
    replace G:=fun (y:AV) B L o2=>G [y] B L o2 Fe ev
    try simp only [List.mem_singleton,List.mem_cons,List.not_mem_nil,or_false,forall_eq_or_imp,forall_eq,List.map_append,List.map_cons,List.map_nil,A2,A0,AY,A3,AZ,AX,AN,AG,A1,Ax,Az,AH,AM,AL,A5,AK,A6] at G
    have hs:=Ac G hs
    refine rk 2 [13,55,56,57] hs ?_
    refine Aq _ (BX w0 n _ _ _ a9 _ bc) (hv hs) ?_
    refine ne hs aj ?_
    clear aj
    obtain ⟨bp,h⟩:=Ak h
    refine rl [13,55,56,57] hs (fun e s=>Vl53 ml53 e s (Nat.lt_succ_self _)) ?_
    exact ⟨(d++([be])),o,(z+1),bd,l,([a9.cs]),Z,ef hs,ef hs,Owns.of_eq (((v).swap (List.Perm.swap _ _ _)).swap (List.Perm.swap _ _ _)) Fe,h⟩
   ·clear h;rintro e st ⟨D,F,Xk50,Rk50,rfl,rfl,v,h⟩
    rw [OU] at h
    exact go (tg (a:=([4,5],()))) h hs hN U Q u v trivial trivial
def V2 (n:Nat) (y:Vl) (g:List Part):Option (Vl × Int) :=
 (Tq n y g).bind fun h =>
 if !(decide (h.2=0)) then
  Av
 else
  (Qs n g).bind fun q =>
  if q then
   Av
  else
   (D1 h.1 0).bind fun b =>
   some ((b,0))
theorem ZaG (w0:World) (n:Nat) (B:Aj) (Rw:Am) (L:An) (a0:Vl) (a1:List Part) (r:Vl × Int) (h:V2 n a0 a1=some r) :
  ACalls Tryz.prog w0 234 [.agg (a0.cs),.list (a1.map CY) .none] ⟨B,Rw,L⟩ fun x st=>x = .tup [.agg (r.1.cs),Ag r.2]/\st=⟨B,Rw,L⟩:=by
 rw [V2] at h
 refine hd [.cell 4 60,.tmp 5] Tryz.func234 Tryz.ntmps234 fun M0 W0 f c d b g e hs=>?_
 simp only [As]
 exact go (tg (a:=([1,2,4],[1,4,6,7],[1,4,6,7,14],((),()),[4,6,19],((),()),[4,6],[4,5],()))) h hs f c d b e (q2 (Zo w0 n) (X7 w0 n)) trivial
def D9 (n:Nat) (q:Vl × Int) (h:Ex):Option Vl :=
 if h.op=2 then
  if !(decide (q.2=0)) then
   Av
  else
   (Ji n h.text).bind fun g =>
   (V2 n q.1 g.1).bind fun b =>
   if (!(decide (b.2=0)))&&(!(decide (b.2=19))) then
    Av
   else
    some (b.1)
 else none
theorem HA (w0:World) (n:Nat) (B:Aj) (Rw:Am) (L:An) (la0:Nat) (a0:Vl × Int) (hla0:B[la0]? = some ((a0.1.cs)++([Ag a0.2]))) (a1:Ex) (r:Vl) (h:D9 n a0 a1=some r) :
  ACalls Tryz.prog w0 190 [.box la0 0,.agg (a1.cs)] ⟨B,Rw,L⟩ fun x st=>x = .agg (r.cs)/\st=⟨B,Rw,L⟩:=by
 rw [D9] at h
 refine hd [.cell 4 60] Tryz.func190 Tryz.ntmps190 fun M0 W0 k g j c m l hs=>?_
 simp only [As]
 have e:=(Af.1 hla0).1
 obtain ⟨f,h⟩:=Ak h
 have hs:=Ac (AD hla0) hs
 have hs:=Ac f hs
 refine rg [0,3,4] hs ?_
 apply Ah;intro K3 d
 refine rg [0,3,4,33] hs ?_
 refine BA h hs ?_ ?_<;>intro hs h
 ·exact nS h
 refine sk [0,3,4] hs d ?_
 clear d
 apply Ah;intro K6 i
 have b:OE Qu a1.op=(.val .nilFunc,false):=Zaz (by omega)
 have hs:=Ac b hs
 exact go (tg (a:=([9,0,3,4,5,6],[0,3,4,5,42],[0,3,4],[0,3,4,63],[0,3,4,63,64],[0,3,4,63,71],[0,3,4,63,71],[0,3,4,9],[0,3,4,11,12],[0,3,4,11,12,94],((),()),[3,4,11,12],[4,11,12,100],[4,11],[4],()))) h hs k g j c l (q3 (Qb w0) (L2 w0 n) (ZaG w0 n)) (q1 i)
def Ee (n:Nat) (b:Vl × Int) (g:Ex):Option Vl :=
 (D9 n b g).bind fun h =>
 if (decide (b.2=0))&&(CS h) then
  Av
 else
  Av
theorem M4 (w0:World) (n:Nat) (B:Aj) (Rw:Am) (L:An) (la0:Nat) (a0:Vl × Int) (hla0:B[la0]? = some ((a0.1.cs)++([Ag a0.2]))) (a1:Ex) (r:Vl) (h:Ee n a0 a1=some r) :
  ACalls Tryz.prog w0 231 [.box la0 0,.agg (a1.cs)] ⟨B,Rw,L⟩ fun x st=>x = .agg (r.cs)/\st=⟨B,Rw,L⟩:=by
 rw [Ee] at h
 refine hd [.cell 4 60] Tryz.func231 Tryz.ntmps231 fun M0 W0 l g i e m k hs=>?_
 simp only [As]
 have c:=(Af.1 hla0).1
 have hs:=Ac (AD hla0) hs
 refine rg [0,3,4] hs ?_
 obtain ⟨j,d,h⟩:=bind_some h
 refine rc 2 [0,4,5] hs ?_;intro K2 b
 refine Aq _ (HA w0 n _ _ _ la0 a0 (ef hs) a1 _ d) (hv hs) ?_
 refine ne hs b ?_
 clear b
 apply Ah;intro K4 f
 refine rc 2 [0,4,5,17] hs ?_;intro K5 a
 refine GB _ (fun _=>Dj w0 _ _ _ j) (hv hs) ?_
 refine ne hs a ?_
 clear a
 refine BA h hs ?_ ?_<;>intro hs h
 ·exact nS h
 exact nS h
def FH (n:Nat) (g:Vl × Int) (b:Ex):Option Vl :=
 if b.op=12 then
  if !(decide (g.2=0)) then
   Av
  else
   (D1 b.args 0).bind fun h =>
   (Ee n g h).bind fun y39 =>
   (D1 b.args 1).bind fun x41 =>
   (Ee n g x41).bind fun y =>
   (DO g b y39 y).bind fun q =>
   some (q)
 else none
theorem MY (w0:World) (n:Nat) (B:Aj) (Rw:Am) (L:An) (la0:Nat) (a0:Vl × Int) (hla0:B[la0]? = some ((a0.1.cs)++([Ag a0.2]))) (a1:Ex) (r:Vl) (h:FH n a0 a1=some r) :
  ACalls Tryz.prog w0 190 [.box la0 0,.agg (a1.cs)] ⟨B,Rw,L⟩ fun x st=>x = .agg (r.cs)/\st=⟨B,Rw,L⟩:=by
 rw [FH] at h
 refine hd [.cell 4 60] Tryz.func190 Tryz.ntmps190 fun M0 W0 k g j c m l hs=>?_
 simp only [As]
 have e:=(Af.1 hla0).1
 obtain ⟨f,h⟩:=Ak h
 have hs:=Ac (AD hla0) hs
 have hs:=Ac f hs
 refine rg [0,3,4] hs ?_
 apply Ah;intro K3 d
 refine rg [0,3,4,33] hs ?_
 refine BA h hs ?_ ?_<;>intro hs h
 ·exact nS h
 refine sk [0,3,4] hs d ?_
 clear d
 apply Ah;intro K6 i
 have b:OE Qu a1.op=(.val .nilFunc,false):=Zaz (by omega)
 have hs:=Ac b hs
 exact go (tg (a:=([9,0,3,4,5,6],[0,3,4,5,42],[0,3,4],[0,3,4,63],[0,3,4,63,64],[0,3,4,63,71],[0,3,4,63,71],[0,3,4,63,105],[0,3,4,63,110],[0,3,4,63,120],[0,3,4,63,137],[0,3,4,63,154],[0,3,4,63,154],[0,3,4,63,178],[0,3,4,63,220],[0,3,4,63,220],[0,3,4,21],[0,3,4,21,22],[4],()))) h hs k g j c l (q3 (Qb w0) (M4 w0 n) (Js w0)) (q1 i)
def L0 (n:Nat) (q:Ex) (h:Vl):Option (Vl × Int) :=
 (I9 n q).bind fun y =>
 if !(decide (y=0)) then
  Av
 else
  if !(decide (h.kind=9)) then
   Av
  else
   (FH n ((h,0)) q).bind fun g =>
   (Ce n g).bind fun b =>
   some ((b,0))
theorem UH (w0:World) (n:Nat) (B:Aj) (Rw:Am) (L:An) (a0:Ex) (a1:Vl) (r:Vl × Int) (h:L0 n a0 a1=some r) :
  ACalls Tryz.prog w0 136 [.agg (a0.cs),.agg (a1.cs)] ⟨B,Rw,L⟩ fun x st=>x = .tup [.agg (r.1.cs),Ag r.2]/\st=⟨B,Rw,L⟩:=by
 rw [L0] at h
 refine hd [.cell 4 60,.tmp 5] Tryz.func136 Tryz.ntmps136 fun M0 W0 E z C c D v hs=>?_
 simp only [As]
 apply Ah;intro K1 m
 apply Ap 1 [2,3,4]
 rw [Ai];simp +decide only [go_sem,Nat.reduceAdd,AP]
 (repeat' apply Ac)<;>first | refine m _ _ ?_ | exact cl
 clear m
 apply Ah;intro K2 l
 apply Ah;intro K3 k
 obtain ⟨y,t,h⟩:=bind_some h
 apply Ap 2 [2,3,4,6]
 rw [Ai];simp +decide only [go_sem,Nat.reduceAdd,AP]
 (repeat' apply Ac)<;>first | refine Aq _ (OQ w0 n _ _ _ a0 _ t) (by first | rfl | (simp +decide only [go_sem,Nat.reduceAdd,AP];done) | (simp +decide only [go_sem,Nat.reduceAdd,Vl.cs,Ty.cs,AP];done)) ?_ | exact cl
 rw [Ai];simp +decide only [go_sem,Nat.reduceAdd,AP]
 (repeat' apply Ac)<;>first | refine k _ _ ?_ | exact cl
 clear k
 apply Ah;intro K5 p
 apply Ap 1 [2,3,4,6,12]
 rw [Ai];simp +decide only [go_sem,Nat.reduceAdd,AP]
 (repeat' apply Ac)<;>first | refine p _ _ ?_ | exact cl
 clear p
 refine Bl (!(decide (y=0))) ev (by first | (simp +decide only [go_sem,Nat.reduceAdd,AP];done) | (simp +decide only [go_sem,Nat.reduceAdd,AP];rfl)) (fun a=>?_) (fun a=>?_)
 ·replace h:=BO h a
  exact nS h
 replace h:=BP h a
 refine sk [2,3,4] hs l ?_
 clear l
 apply Ah;intro K7 o
 apply Ah;intro K8 s
 apply Ap 1 [2,3,4,17]
 rw [Ai];simp +decide only [go_sem,Nat.reduceAdd,AP,a]
 (repeat' apply Ac)<;>first | refine s _ _ ?_ | exact cl
 clear s
 refine Bl (!(decide (a1.kind=9))) ev (by first | (simp +decide only [go_sem,Nat.reduceAdd,AP,a];done) | (simp +decide only [go_sem,Nat.reduceAdd,AP,a];rfl)) (fun b=>?_) (fun b=>?_)
 ·replace h:=BO h b
  exact nS h
 replace h:=BP h b
 refine sk [2,3,4] hs o ?_
 clear o
 apply Ah;intro K10 g
 apply Ap 1 [2,4,7]
 rw [Ai];simp +decide only [go_sem,Nat.reduceAdd,AP,a,b]
 (repeat' apply Ac)<;>first | refine g _ _ ?_ | exact cl
 clear g
 apply Ah;intro K11 d
 obtain ⟨u,q,h⟩:=bind_some h
 apply Ap 2 [4,7,8]
 rw [Ai];simp +decide only [go_sem,Nat.reduceAdd,AP,a,b]
 (repeat' apply Ac)<;>first | refine Aq _ (MY w0 n _ _ _ (B.length+3) ((a1,0)) (by simp +decide only [go_sem,Nat.reduceAdd,AP,a,b]) a0 _ q) (by first | rfl | (simp +decide only [go_sem,Nat.reduceAdd,AP,a,b];done) | (simp +decide only [go_sem,Nat.reduceAdd,Vl.cs,Ty.cs,AP,a,b];done)) ?_ | exact cl
 rw [Ai];simp +decide only [go_sem,Nat.reduceAdd,AP,a,b]
 (repeat' apply Ac)<;>first | refine d _ _ ?_ | exact cl
 clear d
 apply Ah;intro K13 e
 apply Ah;intro K14 f
 apply Ap 1 [4,7,8,29]
 rw [Ai];simp +decide only [go_sem,Nat.reduceAdd,AP,a,b]
 (repeat' apply Ac)<;>first | refine f _ _ ?_ | exact cl
 clear f
 refine Bl false ev (by simp +decide only [go_sem,Nat.reduceAdd,AP,a,b]) (fun hb15=>by cases hb15) (fun hb15=>?_)
 refine sk [4,8] hs e ?_
 clear e
 apply Ah;intro K16 i
 obtain ⟨w,j,h⟩:=bind_some h
 apply Ap 2 [4,5]
 rw [Ai];simp +decide only [go_sem,Nat.reduceAdd,AP,a,b]
 (repeat' apply Ac)<;>first | refine Aq _ (BX w0 n _ _ _ u _ j) (by first | rfl | (simp +decide only [go_sem,Nat.reduceAdd,AP,a,b];done) | (simp +decide only [go_sem,Nat.reduceAdd,Vl.cs,Ty.cs,AP,a,b];done)) ?_ | exact cl
 rw [Ai];simp +decide only [go_sem,Nat.reduceAdd,AP,a,b]
 (repeat' apply Ac)<;>first | refine i _ _ ?_ | exact cl
 clear i
 apply BC;simp +decide only [go_sem,Nat.reduceAdd,AP,a,b]
 have hgt:=Option.some.inj h;subst hgt
 first | refine Cb c rfl v.pre ev ⟨?_,rfl⟩ | refine Dq c rfl v.pre ev ⟨?_,rfl⟩
 first | rfl | (simp +decide only [go_sem,Nat.reduceAdd,AP,a,b];done) | (simp +decide only [go_sem,Nat.reduceAdd,Vl.cs,Ty.cs,AP,a,b];done)
def MF (n:Nat) (q:Ex) (h:Vl):Option (Vl × Int) :=
 (I9 n q).bind fun y =>
 if !(decide (y=0)) then
  Av
 else
  if !(decide (h.kind=9)) then
   Av
  else
   (D9 n ((h,0)) q).bind fun g =>
   (Ce n g).bind fun b =>
   some ((b,0))
theorem Ur (w0:World) (n:Nat) (B:Aj) (Rw:Am) (L:An) (a0:Ex) (a1:Vl) (r:Vl × Int) (h:MF n a0 a1=some r) :
  ACalls Tryz.prog w0 136 [.agg (a0.cs),.agg (a1.cs)] ⟨B,Rw,L⟩ fun x st=>x = .tup [.agg (r.1.cs),Ag r.2]/\st=⟨B,Rw,L⟩:=by
 rw [MF] at h
 refine hd [.cell 4 60,.tmp 5] Tryz.func136 Tryz.ntmps136 fun M0 W0 E z C c D v hs=>?_
 simp only [As]
 apply Ah;intro K1 m
 apply Ap 1 [2,3,4]
 rw [Ai];simp +decide only [go_sem,Nat.reduceAdd,AP]
 (repeat' apply Ac)<;>first | refine m _ _ ?_ | exact cl
 clear m
 apply Ah;intro K2 l
 apply Ah;intro K3 k
 obtain ⟨y,t,h⟩:=bind_some h
 apply Ap 2 [2,3,4,6]
 rw [Ai];simp +decide only [go_sem,Nat.reduceAdd,AP]
 (repeat' apply Ac)<;>first | refine Aq _ (OQ w0 n _ _ _ a0 _ t) (by first | rfl | (simp +decide only [go_sem,Nat.reduceAdd,AP];done) | (simp +decide only [go_sem,Nat.reduceAdd,Vl.cs,Ty.cs,AP];done)) ?_ | exact cl
 rw [Ai];simp +decide only [go_sem,Nat.reduceAdd,AP]
 (repeat' apply Ac)<;>first | refine k _ _ ?_ | exact cl
 clear k
 apply Ah;intro K5 p
 apply Ap 1 [2,3,4,6,12]
 rw [Ai];simp +decide only [go_sem,Nat.reduceAdd,AP]
 (repeat' apply Ac)<;>first | refine p _ _ ?_ | exact cl
 clear p
 refine Bl (!(decide (y=0))) ev (by first | (simp +decide only [go_sem,Nat.reduceAdd,AP];done) | (simp +decide only [go_sem,Nat.reduceAdd,AP];rfl)) (fun a=>?_) (fun a=>?_)
 ·replace h:=BO h a
  exact nS h
 replace h:=BP h a
 refine sk [2,3,4] hs l ?_
 clear l
 apply Ah;intro K7 o
 apply Ah;intro K8 s
 apply Ap 1 [2,3,4,17]
 rw [Ai];simp +decide only [go_sem,Nat.reduceAdd,AP,a]
 (repeat' apply Ac)<;>first | refine s _ _ ?_ | exact cl
 clear s
 refine Bl (!(decide (a1.kind=9))) ev (by first | (simp +decide only [go_sem,Nat.reduceAdd,AP,a];done) | (simp +decide only [go_sem,Nat.reduceAdd,AP,a];rfl)) (fun b=>?_) (fun b=>?_)
 ·replace h:=BO h b
  exact nS h
 replace h:=BP h b
 refine sk [2,3,4] hs o ?_
 clear o
 apply Ah;intro K10 g
 apply Ap 1 [2,4,7]
 rw [Ai];simp +decide only [go_sem,Nat.reduceAdd,AP,a,b]
 (repeat' apply Ac)<;>first | refine g _ _ ?_ | exact cl
 clear g
 apply Ah;intro K11 d
 obtain ⟨u,q,h⟩:=bind_some h
 apply Ap 2 [4,7,8]
 rw [Ai];simp +decide only [go_sem,Nat.reduceAdd,AP,a,b]
 (repeat' apply Ac)<;>first | refine Aq _ (HA w0 n _ _ _ (B.length+3) ((a1,0)) (by simp +decide only [go_sem,Nat.reduceAdd,AP,a,b]) a0 _ q) (by first | rfl | (simp +decide only [go_sem,Nat.reduceAdd,AP,a,b];done) | (simp +decide only [go_sem,Nat.reduceAdd,Vl.cs,Ty.cs,AP,a,b];done)) ?_ | exact cl
 rw [Ai];simp +decide only [go_sem,Nat.reduceAdd,AP,a,b]
 (repeat' apply Ac)<;>first | refine d _ _ ?_ | exact cl
 clear d
 apply Ah;intro K13 e
 apply Ah;intro K14 f
 apply Ap 1 [4,7,8,29]
 rw [Ai];simp +decide only [go_sem,Nat.reduceAdd,AP,a,b]
 (repeat' apply Ac)<;>first | refine f _ _ ?_ | exact cl
 clear f
 refine Bl false ev (by simp +decide only [go_sem,Nat.reduceAdd,AP,a,b]) (fun hb15=>by cases hb15) (fun hb15=>?_)
 refine sk [4,8] hs e ?_
 clear e
 apply Ah;intro K16 i
 obtain ⟨w,j,h⟩:=bind_some h
 apply Ap 2 [4,5]
 rw [Ai];simp +decide only [go_sem,Nat.reduceAdd,AP,a,b]
 (repeat' apply Ac)<;>first | refine Aq _ (BX w0 n _ _ _ u _ j) (by first | rfl | (simp +decide only [go_sem,Nat.reduceAdd,AP,a,b];done) | (simp +decide only [go_sem,Nat.reduceAdd,Vl.cs,Ty.cs,AP,a,b];done)) ?_ | exact cl
 rw [Ai];simp +decide only [go_sem,Nat.reduceAdd,AP,a,b]
 (repeat' apply Ac)<;>first | refine i _ _ ?_ | exact cl
 clear i
 apply BC;simp +decide only [go_sem,Nat.reduceAdd,AP,a,b]
 have hgt:=Option.some.inj h;subst hgt
 first | refine Cb c rfl v.pre ev ⟨?_,rfl⟩ | refine Dq c rfl v.pre ev ⟨?_,rfl⟩
 first | rfl | (simp +decide only [go_sem,Nat.reduceAdd,AP,a,b];done) | (simp +decide only [go_sem,Nat.reduceAdd,Vl.cs,Ty.cs,AP,a,b];done)
def GK (n:Nat)  (b:List (List Part)):Option ((List (List Part))) :=
 some (b)
def E0 (n:Nat) (q:List (ByteArray × Ex)):Nat->(List (List Part))->Int->Option ((List (List Part)))
 | 0,_,_=>none
 | m+1,g,b =>
  if decide (b<(q.length:Int)) then
   (D1 q b).bind fun h =>
   (Ji n h.1).bind fun y =>
   if (g.length+1)*24<=140737488355328/\g.length+1<=4611686018427387904 then
    if B1 (b+1) then
     (E0 n q m) (g++([y.1])) (b+1)
    else none
   else none
  else
   GK n g
def G4 (n:Nat) (b:List (ByteArray × Ex)):Option ((List (List Part))) :=
 E0 n b n ([]) 0
theorem O2 (w0:World) (n:Nat) (B:Aj) (Rw:Am) (L:An) (a0:List (ByteArray × Ex)) (r:(List (List Part))) (h:G4 n a0=some r) :
  ACalls Tryz.prog w0 135 [.agg ([.list (a0.map Do) .none])] ⟨B,Rw,L⟩ fun x st=>x = .list (r.map (Rn CY)) .none/\st=⟨B,Rw,L⟩:=by
 rw [G4] at h
 refine hd [.tmp 2] Tryz.func135 Tryz.ntmps135 fun M0 W0 p k l i q j hs=>?_
 simp only [As]
 refine rg [1] hs ?_
 refine rg [1,3] hs ?_
 refine AO (fun e st=>∃ (d:List (List Part)) (f:Ev.Own),Ck e st B Rw L [(3,true,.list (d.map (Rn CY)) f)] [[.list (a0.map Do) .none]] [(1,d.length,f)] (GK n d=some r)) ?_ ?_
 ·intro K5 o
  refine rg [3,9,10,11] hs ?_
  apply Ao
  refine AB (fun m e st=>∃ (c:List (List Part)) (b:Int) (g:Ev.Own),Ck e st B Rw L [(3,true,.list (c.map (Rn CY)) g),(9,true,.list (a0.map Do) .none),(10,true,Ag (a0.length:Int)),(11,true,Ag b)] [[.list (a0.map Do) .none]] [(1,c.length,g)] (E0 n a0 m c b=some r)) n ⟨([]),0,.full,([]),Rw,ef hs,ef hs,Owns.of_eq ((j).full 1 0) Fe,h⟩ ?_
  rintro ml7 e st ⟨c,b,g,Xl7,Rl7,rfl,rfl,j,h⟩ Ul7 Vl7
  cases ml7 with
  | zero=>cases h
  | succ ml7 =>
  rw [E0] at h
  exact go (tg (a:=([3,9,10,11,12],([3,9,10,11],[3,5,9,10,11],[3,6,9,10,11],[3,9,10,11],[3,9,10,11],()),[3],()))) h hs p k l i j (q2 (L2 w0 n) (ae Y4 Ve)) (q2 o (fun e s=>Vl7 ml7 e s (Nat.lt_succ_self _)))
 ·clear h;rintro e st ⟨d,f,Xk4,Rk4,rfl,rfl,j,h⟩
  rw [GK] at h
  exact go (tg (a:=([2],()))) h hs p k l i j trivial trivial
def RN (n:Nat) (e:Ex) (v:Vl):Option (Vl × Int):=if e.op=2 then MF n e v else L0 n e v
theorem ZbN (w0:World) (hE:Ry w0) (hM:RJ w0) (hP:Pow10 w0) (hT:Lib.Utf8Tabs 1 2 w0) (n:Nat) (B:Aj) (Rw:Am) (L:An) (a0:Ex) (a1:Vl) (r:Vl × Int) (h:RN n a0 a1=some r) :
  ACalls Tryz.prog w0 136 [.agg (a0.cs),.agg (a1.cs)] ⟨B,Rw,L⟩ fun x st=>x = .tup [.agg (r.1.cs),Ag r.2]/\st=⟨B,Rw,L⟩:=by
 unfold RN at h
 split at h
 ·exact Ur w0 n B Rw L a0 a1 r h
 ·exact UH w0 n B Rw L a0 a1 r h
def Zh (n:Nat) (v:Vl):List (List Part)->List (ByteArray × Ex)->Option (List (List Part × Vl))
 | _,[]=>some []
 | t::ts,r::rs=>(RN n r.2 v).bind fun y=>if y.2=0 then (Zh n v ts rs).bind fun q=>some ((t,y.1)::q) else none
 | [],_::_=>none
def Yi (n:Nat) (m:List (ByteArray × Ex)) (v:Vl):Option (List (List Part × Vl)):=(G4 n m).bind fun t=>Zh n v t m
theorem WQ {n:Nat} {v:Vl}:∀ (ts:List (List Part)) (rs:List (ByteArray × Ex)) (l:List (List Part × Vl)),Zh n v ts rs=some l->l.length=rs.length/\∀ (i:Nat) (r:ByteArray × Ex),rs[i]? = some r->∃ t y,ts[i]? = some t/\RN n r.2 v=some (y,0)/\l[i]? = some (t,y)
 | ts,[],l,h=>by
  cases ts<;>(simp only [Zh] at h;cases h;exact ⟨rfl,fun i r q=>by simp at q⟩)
 | [],_::_,l,h=>by simp [Zh] at h
 | t::ts,r::rs,l,h=>by
  rw [Zh] at h
  obtain ⟨y,hy,h⟩:=bind_some h
  obtain ⟨hz,h⟩:=Ak h
  obtain ⟨q,c,h⟩:=bind_some h
  cases h
  obtain ⟨b,a⟩:=WQ ts rs q c
  refine ⟨by simp [b],fun i d hr=>?_⟩
  cases i with
  | zero=>cases hr;exact ⟨t,y.1,rfl,by rw [hy,<-hz],rfl⟩
  | succ i=>exact a i d (by simpa using hr)
def Zi0 (p:List Part × Vl):List AV:=[.list (p.1.map CY) .none,.agg p.2.cs]
def MB (l:List (List Part × Vl)):List (List AV):=l.map Zi0
theorem OP (l:List (List Part × Vl)):(MB l).length=l.length:=by simp [MB]
theorem XI (l:List (List Part × Vl)) (i:Nat) (x:List AV) (h:(MB l)[i]? = some x):∃ p,l[i]? = some p/\x=[.list (p.1.map CY) .none,.agg p.2.cs]/\i<l.length:=by
 simp only [MB,List.getElem?_map,Option.map_eq_some_iff] at h
 obtain ⟨p,a,rfl⟩:=h
 exact ⟨p,a,rfl,(Af.1 a).1⟩
theorem Yl (l:List (List Part × Vl)) (x:List AV) (h:x∈MB l):x.length=2:=by
 obtain ⟨p,_,rfl⟩:=List.mem_map.1 h
 rfl
theorem Zf (w0:World) (hE:Ry w0) (hM:RJ w0) (hP:Pow10 w0) (hT:Lib.Utf8Tabs 1 2 w0) (n:Nat) (m:List (ByteArray × Ex)) (v:Vl) (l:List (List Part × Vl)) (h:Yi n m v=some l) (hl:m.length<=1000000000) (b:Nat) :
  ZfC Tryz.prog w0 134 [.box b 0,.box (b+1) 0,.box (b+2) 0] (MB l) (fun st=>st.boxes[b]? = some [.list (m.map Do) .none]/\st.boxes[b+1]? = some v.cs):=by
 intro k J Jx Z hY s0 h0
 obtain ⟨⟨i,d⟩,U⟩:=Z _ _ h0
 obtain ⟨t,ht,hr⟩:=bind_some h
 obtain ⟨C,s⟩:=WQ t m l hr
 obtain ⟨SB,SR,SL⟩:=s0
 simp only at i d U
 refine BN (rs:=[]) Tryz.func134 rfl rfl Tryz.ntmps134 (AU Tryz.func134 rfl (by decide)) (Nat.le_of_ble_eq_true rfl) ?_
 intro M0 W0 hN ad af K hu
 simp only [As]
 apply Ah;intro K1 u
 apply Ap 2 [0,1,2,3,5]
 rw [Ai];simp +decide only [go_sem,AD i,AD d]
 refine Aq _ (O2 w0 n _ _ _ m _ ht) (by first | rfl | (simp +decide only [go_sem];done)) ?_
 rw [Ai];simp +decide only [go_sem]
 refine u _ _ ?_
 clear u
 apply Ah;intro K2 p
 apply Ap 1 [0,1,2,3,5,13,14,15]
 rw [Ai];simp +decide only [go_sem,AD i,AD d]
 (repeat' apply Ac)<;>first | refine p _ _ ?_ | (simp only [List.length_map];omega)
 clear p
 apply Ao
 refine AB (fun mm e st=>∃ (q:Nat) (TB XB:Aj) (TR:Am) (TL:An),q<=m.length/\mm=m.length-q/\J q ⟨TB,TR,TL⟩/\e=[(0,true,.yld k),(1,true,.box b 0),(2,true,.box (b+1) 0),(3,true,.box (b+2) 0),(5,true,.list (t.map (Rn CY)) .none),(13,true,.list (m.map Do) .none),(14,true,Ag (m.length:Int)),(15,true,Ag (q:Int))]/\st=⟨TB++XB,TR,TL⟩) m.length ⟨0,SB,[],SR,SL,by omega,rfl,h0,by simp,by simp⟩ ?_
 rintro mm e st ⟨q,TB,XB,TR,TL,hq,rfl,Y,rfl,rfl⟩ KR N
 obtain ⟨⟨g,a⟩,O⟩:=Z _ _ Y
 simp only at g a O
 have aa:(TB++XB)[b]? = some [.list (m.map Do) .none]:=by rw [List.getElem?_append_left (Af.1 g).1];exact g
 have ae:(TB++XB)[b+1]? = some v.cs:=by rw [List.getElem?_append_left (Af.1 a).1];exact a
 apply Ah;intro K4 E
 apply Ap 1 [0,1,2,3,5,13,14,15,16]
 rw [Ai];simp +decide only [go_sem]
 refine E _ _ ?_
 clear E
 apply Ah;intro K3 o
 refine Bl _ (by simp +decide only [go_sem]) (by simp +decide only [go_sem];rfl) (fun hb=>?_) (fun hb=>?_)
 rotate_left
 ·apply D4;simp +decide only [go_sem]
  simp only [decide_eq_false_iff_not] at hb
  obtain rfl:q=m.length:=by omega
  exact ⟨⟨TB,TR,TL⟩,⟨XB,[],[]⟩,rfl,by simp [St.ext],.inl (by rw [OP,C];exact Y)⟩
 simp only [decide_eq_true_eq] at hb
 have G:q<m.length:=by omega
 obtain ⟨pt,y,g1,g2,g3⟩:=s q m[q] (List.getElem?_eq_getElem G)
 apply BB;simp only [go_sem]
 refine o _ _ ?_
 clear o
 apply Ah;intro K5 z
 apply Ao
 apply Ah;intro K6 j
 apply Ap 1 [0,1,2,3,5,6,7,13,14,15]
 have V:(m.map Do).getD q .junk = .agg (.val (.string m[q].1)::m[q].2.cs):=Bq (f:=Do) (List.getElem?_eq_getElem G)
 rcases hm:m[q] with ⟨nm,o1,o2,o3,o4,o5⟩
 rw [hm] at V g2
 simp only [Ex.cs_mks] at V
 rw [Ai];simp +decide only [go_sem,V]
 (repeat' apply Ac)<;>first | refine j _ _ ?_ | omega | (simp only [List.length_map];omega)
 clear j
 apply Ah;intro K7 x
 apply Ap 2 [0,1,2,3,5,6,7,8,9,13,14,15]
 have Q:(TB++(XB++[[AV.val (.string nm),Ag o1,Ag o2,.val (.string o3),.list (o4.map B6) .none,.list (o5.map TW) .none]]))[b+1]? = some v.cs:=by rw [List.getElem?_append_left (Af.1 a).1];exact a
 rw [Ai];simp +decide only [go_sem,AD Q]
 refine ⟨by omega,by omega,?_⟩
 refine Aq _ (ZbN w0 hE hM hP hT n _ _ _ _ v (y,0) g2) (by first | rfl | (simp +decide only [go_sem,Ex.cs_mks];done)) ?_
 rw [Ai];simp +decide only [go_sem]
 (repeat' apply Ac)<;>first | refine x _ _ ?_ | omega
 clear x
 apply Ah;intro K9 w
 apply Ah;intro K8 D
 apply Ap 1 [0,1,2,3,5,6,7,8,13,14,15,28]
 rw [Ai];simp +decide only [go_sem]
 refine D _ _ ?_
 clear D
 refine Bl false (by simp +decide only [go_sem]) (by simp +decide only [go_sem]) (fun hb=>by cases hb) (fun hb=>?_)
 apply BB;simp only [go_sem]
 refine w _ _ ?_
 clear w
 have F:=hY q ⟨TB,TR,TL⟩ _ ⟨XB++[[AV.val (.string nm),Ag o1,Ag o2,.val (.string o3),.list (o4.map B6) .none,.list (o5.map TW) .none],y.cs],[],[]⟩ rfl Y (show (MB l)[q]? = some [.list (pt.map CY) .none,.agg y.cs] by simp only [MB,List.getElem?_map,g3];rfl)
 simp only [St.ext,List.append_nil] at F
 have H:(t.map (Rn CY)).getD q .junk = .list (pt.map CY) .none:=Bq (f:=Rn CY) g1
 have ab:q<t.length:=(Af.1 g1).1
 apply Ah;intro K10 c
 apply P0 GP 6 1 2 [0,1,2,3,5,13,14,15,39] (by kernel_rfl)
 rw [Ai];simp +decide only [go_sem,H,List.take,List.drop]
 refine ⟨⟨by omega,by omega⟩,by omega,?_⟩
 rw [Ai];simp +decide only [go_sem,H,List.take,List.drop]
 refine Q0 _ (fun _=>F) (fun r s' H _=>?_)
 obtain ⟨⟨UB,UR,UL⟩,rfl,⟨l1,l2,l3⟩,hz⟩:=H rfl
 obtain ⟨bb,rfl,hpT,hpF⟩:∃ bb,r = .val (.bool bb)/\(bb=true->J (q+1) ⟨UB,UR,UL⟩)/\(bb=false->Jx ⟨UB,UR,UL⟩):=by
  rcases hz with ⟨rfl,hz⟩ | ⟨rfl,hz⟩
  ·exact ⟨true,rfl,fun _=>hz,fun h=>(by cases h)⟩
  ·exact ⟨false,rfl,fun h=>(by cases h),fun _=>hz⟩
 rw [Ai];simp +decide only [go_sem]
 refine c _ _ ?_
 clear c
 refine Bl _ (by simp +decide only [go_sem]) (by simp +decide only [go_sem];rfl) (fun hb=>?_) (fun hb=>?_)
 ·apply BC;simp +decide only [go_sem]
  exact ⟨⟨UB,UR,UL⟩,⟨XB++[[AV.val (.string nm),Ag o1,Ag o2,.val (.string o3),.list (o4.map B6) .none,.list (o5.map TW) .none],y.cs],[],[]⟩,rfl,by simp [St.ext],.inr (hpF (by simpa using hb))⟩
 apply BB;simp +decide only [go_sem]
 refine z _ _ ?_
 clear z
 apply Ap 1 [0,1,2,3,5,13,14,15]
 rw [Ai];simp +decide only [go_sem]
 (repeat' apply Ac)<;>first | refine N (m.length-(q+1)) _ _ (by omega) ⟨q+1,UB,_,UR,UL,by omega,rfl,hpT (by simpa using hb),by simp,rfl⟩ | omega
theorem Yt (w0:World) (B:Aj) (Rw:Am) (L:An) (m:List (ByteArray × Ex)) (v:Vl) (lf:Nat) :
  ACalls Tryz.prog w0 93 [.agg [.list (m.map Do) .none],.agg v.cs,.box lf 0] ⟨B,Rw,L⟩ fun r st=>r = .clo 134 [.box B.length 0,.box (B.length+1) 0,.box (B.length+2) 0]/\st=⟨B++[[.list (m.map Do) .none],v.cs,[.box lf 0]],Rw,L⟩:=by
 refine BN (rs:=[.tmp 6]) Tryz.func93 rfl rfl Tryz.ntmps93 (AU Tryz.func93 rfl (by decide)) (Nat.le_of_ble_eq_true rfl) ?_
 intro M0 W0 f d e c g
 simp only [As]
 apply Ah;intro K1 a
 apply Ap 1 [3,4,5]
 rw [Ai];simp +decide only [go_sem]
 (repeat' apply Ac)<;>first | refine a _ _ ?_ | exact cl
 clear a
 apply Ah;intro K2 b
 apply Ap 1 [6]
 rw [Ai];simp +decide only [go_sem]
 (repeat' apply Ac)<;>first | refine b _ _ ?_ | exact cl
 clear b
 apply BC;simp +decide only [go_sem]
theorem Zaa {α:Type} {o:Option (List α)} (h:o.isSome=true):o=some (o.getD []):=by
 cases o with
 | none=>cases h
 | some x=>rfl
def Ij (n:Nat) (b:Vl) (b1_k4_1:Int) (b1_k4_5:List (ByteArray × Vl)):Option Bool :=
 some (((((decide (b1_k4_1=0))&&(decide (b.scale=0)))&&(OA b.text (⟨#[]⟩:ByteArray)))&&(decide ((b.list.length:Int)=0)))&&(decide ((b1_k4_5.length:Int)=0)))
def Jw (n:Nat) (b:Vl):Option Bool :=
 Ij n b b.int ([])
def JJ (n:Nat) (b:Vl):Nat->Option Bool
 | 0=>none
 | m+1 =>
  if decide (1<(b.fields.length:Int)) then
   Av
  else
   Jw n b 
def Hu (n:Nat) (g:Vl) (b:Bool):Option Bool :=
 if b then
  Ij n g 0 g.fields
 else
  if decide (g.kind=3) then
   Av
  else
   if decide (g.kind=4) then
    Av
   else
    if decide (g.kind=5) then
     Av
    else
     if decide (g.kind=8) then
      Av
     else
      if decide (g.kind=9) then
       JJ n g n 
      else
       Av
def I7 (n:Nat) (b:Vl):Option Bool :=
 if decide (b.kind=1) then
  Av
 else
  if decide (b.kind=2) then
   Hu n b true
  else
   if decide (b.kind=6) then
    Av
   else
    Hu n b (decide (b.kind=7))
theorem ON (w0:World) (n:Nat) (B:Aj) (Rw:Am) (L:An) (a0:Vl) (r:Bool) (h:I7 n a0=some r) :
  ACalls Tryz.prog w0 196 [.agg (a0.cs)] ⟨B,Rw,L⟩ fun x st=>x = .val (.bool r)/\st=⟨B,Rw,L⟩:=by
 rw [I7] at h
 refine hd [.tmp 2] Tryz.func196 Tryz.ntmps196 fun M0 W0 l j k f t i hs=>?_
 simp only [As]
 refine rg [1] hs ?_
 refine rg [1,3] hs ?_
 refine AO (fun e st=>∃ (b:Int) (c:List (ByteArray × Vl)) (d:AV),Ck e st B Rw L [(3,true,.box (B.length+1) 0)] [a0.cs,[Ag a0.kind,Ag b,Ag a0.scale,.val (.string a0.text),.list (a0.list.map B6) .none,d]] [] (d.pub = .list (c.map B7) .none/\Ij n a0 b c=some r)) ?_ ?_
 ·intro K5 p
  refine rg [1,3,7] hs ?_
  apply Ao
  refine rg [1,3,7,8] hs ?_
  refine BA h hs ?_ ?_<;>intro hs h
  ·exact nS h
  refine AO (fun e st=>∃ (g:Bool),Ck e st B Rw L [(1,true,.box B.length 0),(3,true,.box (B.length+1) 0),(7,true,Ag a0.kind),(19,true,.val (.bool g))] [a0.cs,a0.cs] [] (Hu n a0 g=some r)) ?_ ?_
  ·intro K11 q
   exact go (tg (a:=([1,3,7,19],([1,3,7,19],()),[1,3,7,19],((),()),[1,3,7,19],()))) h hs l j k f i trivial (q1 q)
  ·clear h;rintro e st ⟨g,Xk10,Rk10,rfl,rfl,i,h⟩
   rw [Hu] at h
   refine td l j k f i ?_
   refine BA h hs ?_ ?_<;>intro hs h
   ·have hs:=Ac (Vl.cs_eqs a0) hs
    refine rl [3] hs p ?_
    exact ⟨0,a0.fields,(.list (a0.fields.map B7) .none),([]),Rk10,ef hs,ef hs,i,ef hs,h⟩
   refine rg [1,3,7,24] hs ?_
   refine BA h hs ?_ ?_<;>intro hs h
   ·exact nS h
   refine rg [1,3,7,28] hs ?_
   refine BA h hs ?_ ?_<;>intro hs h
   ·exact nS h
   refine rg [1,3,7,35] hs ?_
   refine BA h hs ?_ ?_<;>intro hs h
   ·exact nS h
   refine rg [1,3,7,38] hs ?_
   refine BA h hs ?_ ?_<;>intro hs h
   ·exact nS h
   refine rg [1,3,7,41] hs ?_
   refine BA h hs ?_ ?_<;>intro hs h
   ·refine AO (fun e st=>Ck e st B Rw L [(3,true,.box (B.length+1) 0)] [a0.cs,a0.cs] [] (Jw n a0  = some r)) ?_ ?_
    ·intro K29 o
     refine rg [1,3,4] hs ?_
     apply Ao
     refine AB (fun m e st=>Ck e st B Rw L [(1,true,.box B.length 0),(3,true,.box (B.length+1) 0),(4,true,Ag 1)] [a0.cs,a0.cs] [] (JJ n a0 m  = some r)) n ⟨([]),Rk10,ef hs,ef hs,i,h⟩ ?_
     rintro ml31 e st ⟨Xl31,Rl31,rfl,rfl,i,h⟩ Ul31 Vl31
     cases ml31 with
     | zero=>cases h
     | succ ml31 =>
     rw [JJ] at h
     exact go (tg (a:=([1,3,4,47],((),()),[3],()))) h hs l j k f i trivial (q1 o)
    ·clear h;rintro e st ⟨Xk28,Rk28,rfl,rfl,i,h⟩
     rw [Jw] at h
     refine td l j k f i ?_
     have hs:=Ac (Vl.cs_eqs a0) hs
     refine rl [3] hs p ?_
     exact ⟨a0.int,([]),(.list ([]) .full),([]),Rk28,ef hs,ef hs,i,ef hs,h⟩
   exact nS h
 ·clear h;rintro e st ⟨b,c,d,Xk4,Rk4,rfl,rfl,i,s,h⟩
  rw [Ij] at h
  refine Ef (B.length+1) 5 (by first | rfl | (simp only [C6,Cd,DC,CV];rfl)) rfl s ?_;simp +decide only [go_sem,Nat.reduceAdd]
  show CW _ _ _ _ _ _ _ _ [(3,true,.box (B.length+1) 0)] ⟨B++([a0.cs,[Ag a0.kind,Ag b,Ag a0.scale,.val (.string a0.text),.list (a0.list.map B6) .none,.list (c.map B7) .none]]++Xk4),Rk4,L⟩
  refine td l j k f i ?_
  refine rg [2] hs ?_
  exact rt h hs f i
def Ec (g:Int × ByteArray × Int × Ty × List Vl) (b:ByteArray):Bool :=
 OA g.2.1 b
theorem O9 (w0:World) (B:Aj) (Rw:Am) (L:An) (a0:Int × ByteArray × Int × Ty × List Vl) (la1:Nat) (a1:ByteArray) (hla1:B[la1]? = some ([.val (.string a1)])) (r:Bool) (h:Ec a0 a1=r) :
  ACalls Tryz.prog w0 303 [.agg (Ag a0.1::(.val (.string a0.2.1)::(Ag a0.2.2.1::((a0.2.2.2.1.cs)++([.list (a0.2.2.2.2.map B6) .none]))))),.box la1 0] ⟨B,Rw,L⟩ fun x st=>x = .val (.bool r)/\st=⟨B,Rw,L⟩:=by
 rw [Ec] at h
 refine hd [.tmp 3] Tryz.func303 Tryz.ntmps303 fun M0 W0 f d e a g c hs=>?_
 simp only [As]
 have b:=(Af.1 hla1).1
 have hs:=Ac (AD hla1) hs
 refine rg [1,2] hs ?_
 refine rg [3] hs ?_
 exact rT h hs a c
theorem OD (w0:World) (B:Aj) (Rw:Am) (L:An) (a0:Int × ByteArray × Int × Ty × List Vl) (la1:Nat) (a1:ByteArray) (hla1:B[la1]? = some ([.val (.string a1)])) :
  ACalls Tryz.prog w0 303 [.agg (Ag a0.1::(.val (.string a0.2.1)::(Ag a0.2.2.1::((a0.2.2.2.1.cs)++([.list (a0.2.2.2.2.map B6) .none]))))),.box la1 0] ⟨B,Rw,L⟩ fun x st=>x = .val (.bool (Ec a0 a1))/\st=⟨B,Rw,L⟩:=O9 w0 B Rw L a0 la1 a1 hla1 _ rfl
def DU (n:Nat)  : Option Int :=
 some ((-1))
def CO (n:Nat) (q:List (Int × ByteArray × Int × Ty × List Vl)) (y:(Int × ByteArray × Int × Ty × List Vl)->Option Bool):Nat->Int->Option Int
 | 0,_=>none
 | m+1,b =>
  if decide (b<(q.length:Int)) then
   (D1 q b).bind fun g =>
   (y g).bind fun h =>
   if h then
    some (b)
   else
    if B1 (b+1) then
     (CO n q y m) (b+1)
    else none
  else
   DU n 
def B8 (n:Nat) (g:List (Int × ByteArray × Int × Ty × List Vl)) (b:(Int × ByteArray × Int × Ty × List Vl)->Option Bool):Option Int :=
 CO n g b n 0
theorem DN (w0:World) (n:Nat) (B:Aj) (Rw:Am) (L:An) (a0:List (Int × ByteArray × Int × Ty × List Vl)) (fa1:FuncId) (ca1:List AV) (a1:(Int × ByteArray × Int × Ty × List Vl)->Option Bool) (ha1:∀ (x0:Int × ByteArray × Int × Ty × List Vl) r,a1 x0=some r->∀ B' rows,B <+: B'->Rw <+: rows->ACalls Tryz.prog w0 fa1 ([.agg (Ag x0.1::(.val (.string x0.2.1)::(Ag x0.2.2.1::((x0.2.2.2.1.cs)++([.list (x0.2.2.2.2.map B6) .none])))))]++ca1) ⟨B',rows,L⟩ fun v s=>v = .val (.bool r)/\s=⟨B',rows,L⟩) (r:Int) (h:B8 n a0 a1=some r) :
  ACalls Tryz.prog w0 243 [.list (a0.map Gl) .none,.clo fa1 ca1] ⟨B,Rw,L⟩ fun x st=>x=Ag r/\st=⟨B,Rw,L⟩:=by
 rw [B8] at h
 refine hd [.tmp 4] Tryz.func243 Tryz.ntmps243 fun M0 W0 k g i c l f hs=>?_
 simp only [As]
 have b:=BJ (l (.clo fa1 ca1) (by simp))
 refine rg [0,1] hs ?_
 refine AO (fun e st=>Ck e st B Rw L [] [] [] (DU n  = some r)) ?_ ?_
 ·intro K4 j
  refine rg [0,1,7,8] hs ?_
  apply Ao
  refine AB (fun m e st=>∃ (d:Int),Ck e st B Rw L [(0,true,.list (a0.map Gl) .none),(1,true,.clo fa1 ca1),(7,true,Ag (a0.length:Int)),(8,true,Ag d)] [] [] (CO n a0 a1 m d=some r)) n ⟨0,([]),Rw,ef hs,ef hs,f,h⟩ ?_
  rintro ml6 e st ⟨d,Xl6,Rl6,rfl,rfl,f,h⟩ Ul6 Vl6
  cases ml6 with
  | zero=>cases h
  | succ ml6 =>
  rw [CO] at h
  refine A8 k g i rfl c f (Hv b f) (Hv b f) ?_
  exact go (tg (a:=([0,1,7,8,9],([0,1,7,8],[0,1,5,7,8],[0,1,5,7,8,16],([4],()),[0,1,7,8],[0,1,7,8],()),[],()))) h hs k g i c f (q1 ha1) (q2 j (fun e s=>Vl6 ml6 e s (Nat.lt_succ_self _)))
 ·clear h;rintro e st ⟨Xk3,Rk3,rfl,rfl,f,h⟩
  rw [DU] at h
  refine A8 k g i rfl c f (Hv b f) (Hv b f) ?_
  refine rg [4] hs ?_
  exact rt h hs c f
def D3 (n:Nat) (g:Ty) (q:ByteArray):Option ((Int × ByteArray × Int × Ty × List Vl) × Bool) :=
 (B8 n g.fields (fun (y:Int × ByteArray × Int × Ty × List Vl)=>some (Ec y q))).bind fun b =>
 if decide (b<0) then
  Av
 else
  (D1 g.fields b).bind fun h =>
  some ((h,true))
theorem F2 (w0:World) (n:Nat) (B:Aj) (Rw:Am) (L:An) (a0:Ty) (a1:ByteArray) (r:(Int × ByteArray × Int × Ty × List Vl) × Bool) (h:D3 n a0 a1=some r) :
  ACalls Tryz.prog w0 249 [.agg (a0.cs),.val (.string a1)] ⟨B,Rw,L⟩ fun x st=>x = .tup [.agg (Ag r.1.1::(.val (.string r.1.2.1)::(Ag r.1.2.2.1::((r.1.2.2.2.1.cs)++([.list (r.1.2.2.2.2.map B6) .none]))))),.val (.bool r.2)]/\st=⟨B,Rw,L⟩:=by
 rw [D3] at h
 refine hd [.cell 4 109,.tmp 5] Tryz.func249 Tryz.ntmps249 fun M0 W0 i c d b k g hs=>?_
 simp only [As]
 refine rg [2,3,4] hs ?_
 obtain ⟨l,hy3,h⟩:=bind_some h
 refine rc 2 [2,4,6] hs ?_;intro K2 e
 refine Aq _ (DN w0 n _ _ _ a0.fields 303 [.box (B.length+1) 0] (fun (x0:Int × ByteArray × Int × Ty × List Vl)=>some (Ec x0 a1)) (fun x0 r hx j rows' hB' f=>by cases hx;exact OD w0 _ _ _ x0 _ a1 (Ej hB' ev)) _ hy3) (hv hs) ?_
 exact go (tg (a:=([2,4,6,12],((),()),[2,4,6],[4,5],()))) h hs i c d b g trivial (q1 e)
def Ie (n:Nat) (g:Int->(List (ByteArray × Vl))->Option Vl) (b:Int) (b3_k37_5:List (ByteArray × Vl)) (b4_k37:ByteArray × Vl):Option Vl :=
 if (b3_k37_5.length+1)*104<=140737488355328/\b3_k37_5.length+1<=4611686018427387904 then
  if B1 (b+1) then
   g (b+1) (b3_k37_5++([b4_k37]))
  else none
 else none
def EO (n:Nat) (b:Vl) (b3_k4_4:List Vl) (b3_k4_5:List (ByteArray × Vl)):Option Vl :=
 some (Vl.mk b.kind b.int b.scale b.text b3_k4_4 b3_k4_5)
def H9 (n:Nat) (a0:Ty) (g:Vl) (a2:Ty->Vl->Option Vl):Nat->Int->(List Vl)->Option Vl
 | 0,_,_=>none
 | m+1,b,b3_l10_4 =>
  if decide (b<(g.list.length:Int)) then
   (D1 g.list b).bind fun y =>
   (D1 a0.elem 0).bind fun h =>
   (a2 h y).bind fun q =>
   if (b3_l10_4.length+1)*88<=140737488355328/\b3_l10_4.length+1<=4611686018427387904 then
    if B1 (b+1) then
     (H9 n a0 g a2 m) (b+1) (b3_l10_4++([q]))
    else none
   else none
  else
   EO n g b3_l10_4 g.fields
def E8 (n:Nat) (a0:Ty) (h:Vl) (y:Ty->Vl->Option Vl):Nat->Int->(List (ByteArray × Vl))->Option Vl
 | 0,_,_=>none
 | m+1,b,b3_l29_5 =>
  if decide (b<(h.fields.length:Int)) then
   (D1 h.fields b).bind fun g =>
   (D3 n a0 g.1).bind fun q =>
   if q.2 then
    (y q.1.2.2.2.1 g.2).bind fun y43 =>
    Ie n (E8 n a0 h y m) b b3_l29_5 ((g.1,y43))
   else
    Ie n (E8 n a0 h y m) b b3_l29_5 g
  else
   EO n h h.list b3_l29_5
def Ni (n:Nat) (g:Ty) (b:Vl) (y:Ty->Vl->Option Vl):Option Vl :=
 if (decide (g.kind=8))&&(decide ((g.elem.length:Int)=1)) then
  H9 n g b y n 0 ([])
 else
  if decide (g.kind=9) then
   E8 n g b y n 0 ([])
  else
   if decide (g.kind=10) then
    (D3 n g b.text).bind fun h =>
    if h.2 then
     (D1 b.list 0).bind fun q =>
     (y h.1.2.2.2.1 q).bind fun y56 =>
     EO n b ([y56]) b.fields
    else
     EO n b b.list b.fields
   else
    EO n b b.list b.fields
theorem Wa (w0:World) (n:Nat) (B:Aj) (Rw:Am) (L:An) (a0:Ty) (a1:Vl) (fa2:FuncId) (ca2:List AV) (a2:Ty->Vl->Option Vl) (ha2:∀ (x0:Ty) (x1:Vl) r,a2 x0 x1=some r->∀ B' rows,B <+: B'->Rw <+: rows->ACalls Tryz.prog w0 fa2 ([.agg (x0.cs),.agg (x1.cs)]++ca2) ⟨B',rows,L⟩ fun v s=>v = .agg (r.cs)/\s=⟨B',rows,L⟩) (r:Vl) (h:Ni n a0 a1 a2=some r) :
  ACalls Tryz.prog w0 197 [.agg (a0.cs),.agg (a1.cs),.clo fa2 ca2] ⟨B,Rw,L⟩ fun x st=>x = .agg (r.cs)/\st=⟨B,Rw,L⟩:=by
 rw [Ni] at h
 refine hd [.cell 6 60] Tryz.func197 Tryz.ntmps197 fun M0 W0 hN K N q hu l hs=>?_
 simp only [As]
 have o:=BJ (hu (.clo fa2 ca2) (by simp))
 refine rg [2,3,4,6] hs ?_
 refine rg [2,3,4,6,7] hs ?_
 refine AO (fun e st=>∃ (t:List Vl) (u:List (ByteArray × Vl)) (C:AV) (w:AV),Ck e st B Rw L [(6,true,.box (B.length+2) 0),(7,true,.box (B.length+3) 0)] [a0.cs,a1.cs,BS,[Ag a1.kind,Ag a1.int,Ag a1.scale,.val (.string a1.text),C,w]] [] (C.pub = .list (t.map B6) .none/\w.pub = .list (u.map B7) .none/\EO n a1 t u=some r)) ?_ ?_
 ·intro K5 Q
  apply Ao
  refine rg [2,3,4,6,7,17] hs ?_
  refine BA h hs ?_ ?_<;>intro hs h
  ·have hs:=Ac (Vl.cs_eqs a1) hs
   refine rg [2,3,4,6,7] hs ?_
   refine rg [2,3,6,7,29,30,31] hs ?_
   apply Ao
   refine AB (fun m e st=>∃ (G:Int) (d:List Vl) (g:Ev.Own),Ck e st B Rw L [(2,true,.clo fa2 ca2),(3,true,.box B.length 0),(6,true,.box (B.length+2) 0),(7,true,.box (B.length+3) 0),(29,true,.list (a1.list.map B6) .none),(30,true,Ag (a1.list.length:Int)),(31,true,Ag G)] [a0.cs,a1.cs,BS,[Ag a1.kind,Ag a1.int,Ag a1.scale,.val (.string a1.text),.list (d.map B6) g,.list (a1.fields.map B7) .none]] [(6,d.length,g)] (H9 n a0 a1 a2 m G d=some r)) n ⟨0,([]),.full,([]),Rw,ef hs,ef hs,Owns.of_eq ((l).full 6 0) Fe,h⟩ ?_
   rintro ml10 e st ⟨G,d,g,Xl10,Rl10,rfl,rfl,l,h⟩ Ul10 Vl10
   cases ml10 with
   | zero=>cases h
   | succ ml10 =>
   rw [H9] at h
   have hU:=l.unders
   simp only [List.mem_cons,List.not_mem_nil,or_false,forall_eq_or_imp,forall_eq] at hU
   refine A8 hN K N rfl q l (Hv o l) (Hv o l) ?_
   refine rg [2,3,6,7,29,30,31,32] hs ?_
   apply Ah;intro K12 V
   refine BA h hs ?_ ?_<;>intro hs h
   rotate_left
   ·refine sx [6,7] hs Q ?_
    exact ⟨d,a1.fields,(.list (d.map B6) g),(.list (a1.fields.map B7) .none),([]),Rl10,ef hs,ef hs,(l).sub (List.sublist_append_left [] [(6,d.length,g)]),ef hs,ef hs,h⟩
   refine sk [2,3,6,7,29,30,31] hs V ?_
   clear V
   apply Ah;intro K14 aw
   apply Ao
   obtain ⟨bc,ax,h⟩:=bind_some h
   obtain ⟨a5,ba,ah⟩:=Bo ax
   have ag:=Bq (f:=B6) ah
   have hs:=Ac ag hs
   refine rg [2,3,6,7,9,29,30,31] hs ?_
   obtain ⟨a9,be,bg,U,h⟩:=ix JX h
   have am:(a0.elem.map JX).getD 0 .junk=_:=U
   obtain ⟨bh,ay,h⟩:=bind_some h
   have af:=l.pre
   obtain ⟨ab,h⟩:=Ak h
   obtain ⟨bi,a4,l,z⟩:=l.append (P:=Tryz.prog) NQ (by rw [IB];rfl) (by decide) 1 ab.1 ab.2
   replace z:=fun (ys:List AV) B L o2=>z (d.map B6) ys B L o2 Fe
   replace z:=fun (y:AV) B L o2=>z [y] B L o2 Fe ev
   try simp only [List.mem_singleton,List.mem_cons,List.not_mem_nil,or_false,forall_eq_or_imp,forall_eq,List.map_append,List.map_cons,List.map_nil,A2,A0,AY,A3,AZ,AX,AN,AG,A1,Ax,Az,AH,AM,AL,A5,AK,A6] at z
   have hs:=Ac U hs
   have hs:=Ac am hs
   have hs:=Ac z hs
   refine dk 10 2 1 [2,3,6,7,29,30,31] hs GP ?_
   refine P6 _ (ha2 a9 bc _ ay _ _ px af) (hv hs) ?_
   exact go (tg (a:=([2,3,6,7,29,30,31],()))) h hs hN K N q l trivial (q2 aw (fun e s=>Vl10 ml10 e s (Nat.lt_succ_self _)))
  refine rg [2,3,4,6,7,48] hs ?_
  refine BA h hs ?_ ?_<;>intro hs h
  ·have hs:=Ac (Vl.cs_eqs a1) hs
   refine rg [2,3,4,6,7] hs ?_
   refine rg [2,3,6,7,54,55,56] hs ?_
   apply Ao
   refine AB (fun m e st=>∃ (i:Int) (b:List (ByteArray × Vl)) (c:Ev.Own),Ck e st B Rw L [(2,true,.clo fa2 ca2),(3,true,.box B.length 0),(6,true,.box (B.length+2) 0),(7,true,.box (B.length+3) 0),(54,true,.list (a1.fields.map B7) .none),(55,true,Ag (a1.fields.length:Int)),(56,true,Ag i)] [a0.cs,a1.cs,BS,[Ag a1.kind,Ag a1.int,Ag a1.scale,.val (.string a1.text),.list (a1.list.map B6) .none,.list (b.map B7) c]] [(7,b.length,c)] (E8 n a0 a1 a2 m i b=some r)) n ⟨0,([]),.full,([]),Rw,ef hs,ef hs,Owns.of_eq ((l).full 7 0) Fe,h⟩ ?_
   rintro ml29 e st ⟨i,b,c,Xl29,Rl29,rfl,rfl,l,h⟩ Ul29 Vl29
   cases ml29 with
   | zero=>cases h
   | succ ml29 =>
   rw [E8] at h
   have hU:=l.unders
   simp only [List.mem_cons,List.not_mem_nil,or_false,forall_eq_or_imp,forall_eq] at hU
   refine A8 hN K N rfl q l (Hv o l) (Hv o l) ?_
   refine rg [2,3,6,7,54,55,56,57] hs ?_
   apply Ah;intro K31 Z
   refine BA h hs ?_ ?_<;>intro hs h
   rotate_left
   ·refine sx [6,7] hs Q ?_
    exact ⟨a1.list,b,(.list (a1.list.map B6) .none),(.list (b.map B7) c),([]),Rl29,ef hs,ef hs,(l).sub (List.sublist_append_left [] [(7,b.length,c)]),ef hs,ef hs,h⟩
   refine sk [2,3,6,7,54,55,56] hs Z ?_
   clear Z
   apply Ah;intro K33 aq
   apply Ao
   obtain ⟨H,ap,h⟩:=bind_some h
   obtain ⟨bd,a6,ai⟩:=Bo ap
   have aj:=Bq (f:=B7) ai
   have hs:=Ac aj hs
   refine rg [2,3,6,7,11,54,55,56] hs ?_
   refine AO (fun e st=>∃ (j:List (ByteArray × Vl)) (p:ByteArray × Vl) (k:Ev.Own) (F:List AV),Ck e st B Rw L [(2,true,.clo fa2 ca2),(3,true,.box B.length 0),(6,true,.box (B.length+2) 0),(7,true,.box (B.length+3) 0),(11,true,.box (B.length+4) 0),(54,true,.list (a1.fields.map B7) .none),(55,true,Ag (a1.fields.length:Int)),(56,true,Ag i)] [a0.cs,a1.cs,BS,[Ag a1.kind,Ag a1.int,Ag a1.scale,.val (.string a1.text),.list (a1.list.map B6) .none,.list (j.map B7) k],F] [(7,j.length,k)] (F.map AV.pubCell = .val (.string p.1)::(p.2.cs)/\Ie n (E8 n a0 a1 a2 ml29) i j p=some r)) ?_ ?_
   ·intro K38 Y
    obtain ⟨D,av,h⟩:=bind_some h
    refine rc 2 [2,3,6,7,11,12,13,54,55,56] hs ?_;intro K39 ad
    refine Aq _ (F2 w0 n _ _ _ a0 H.1 _ av) (hv hs) ?_
    refine ne hs ad ?_
    clear ad
    refine rg [2,3,6,7,11,12,54,55,56,67] hs ?_
    refine BA h hs ?_ ?_<;>intro hs h
    ·obtain ⟨J,az,h⟩:=bind_some h
     have hs:=Ac (Vl.cs_eqs H.2) hs
     have hs:=Ac (Vl.cs_eqs J) hs
     refine rk 2 [2,3,6,7,11,54,55,56] hs ?_
     refine P6 _ (ha2 D.1.2.2.2.1 H.2 _ az _ _ px l.pre) (hv hs) ?_
     refine ne hs Y ?_
     exact ⟨b,((H.1,J)),c,([.val (.string H.1),Ag J.kind,Ag J.int,Ag J.scale,.val (.string J.text),.list (J.list.map B6) .none,.list (J.fields.map B7) .none]),([Ag D.1.1::(.val (.string D.1.2.1)::(Ag D.1.2.2.1::((D.1.2.2.2.1.cs)++([.list (D.1.2.2.2.2.map B6) .none]))))]),Rl29,ef (cm hs),ef (cm hs),Owns.of_eq (l) Fe,ef (cm hs),h⟩
    refine sk [2,3,6,7,11,54,55,56] hs Y ?_
    exact ⟨b,H,c,(.val (.string H.1)::(H.2.cs)),([Ag D.1.1::(.val (.string D.1.2.1)::(Ag D.1.2.2.1::((D.1.2.2.2.1.cs)++([.list (D.1.2.2.2.2.map B6) .none]))))]),Rl29,ef (cm hs),ef (cm hs),Owns.of_eq (l) Fe,ef (cm hs),h⟩
   ·clear h;rintro e st ⟨j,p,k,F,Xk37,Rk37,rfl,rfl,l,ao,h⟩
    rw [Ie] at h
    refine Ia (B.length+4) (by first | rfl | (simp only [C6,Cd,DC,CV];rfl)) ao ?_;simp +decide only [go_sem,Nat.reduceAdd]
    show CW _ _ _ _ _ _ _ _ [(2,true,.clo fa2 ca2),(3,true,.box B.length 0),(6,true,.box (B.length+2) 0),(7,true,.box (B.length+3) 0),(11,true,.box (B.length+4) 0),(54,true,.list (a1.fields.map B7) .none),(55,true,Ag (a1.fields.length:Int)),(56,true,Ag i)] ⟨B++([a0.cs,a1.cs,BS,[Ag a1.kind,Ag a1.int,Ag a1.scale,.val (.string a1.text),.list (a1.list.map B6) .none,.list (j.map B7) k],.val (.string p.1)::(p.2.cs)]++Xk37),Rk37,L⟩
    have hU:=l.unders
    simp only [List.mem_cons,List.not_mem_nil,or_false,forall_eq_or_imp,forall_eq] at hU
    refine A8 hN K N rfl q l (Hv o l) (Hv o l) ?_
    exact go (tg (a:=([2,3,6,7,54,55,56],[2,3,6,7,54,55,56],()))) h hs hN K N q l (q1 (ae O7 Jo)) (q2 aq (fun e s=>Vl29 ml29 e s (Nat.lt_succ_self _)))
  refine rg [2,3,4,6,7,82] hs ?_
  refine BA h hs ?_ ?_<;>intro hs h
  ·obtain ⟨E,au,h⟩:=bind_some h
   refine rc 2 [2,4,6,7,14,15] hs ?_;intro K51 aa
   refine Aq _ (F2 w0 n _ _ _ a0 a1.text _ au) (hv hs) ?_
   refine ne hs aa ?_
   clear aa
   refine rg [2,4,6,7,14,93] hs ?_
   refine BA h hs ?_ ?_<;>intro hs h
   ·obtain ⟨a8,bb,a7,O,h⟩:=ix B6 h
    have ak:(a1.list.map B6).getD 0 .junk=_:=O
    obtain ⟨a3,ar,h⟩:=bind_some h
    have hs:=Ac O hs
    have hs:=Ac ak hs
    have hs:=Ac (Vl.cs_eqs a1) hs
    refine dk 10 2 1 [6,7] hs GP ?_
    refine P6 _ (ha2 E.1.2.2.2.1 a8 _ ar _ _ px l.pre) (hv hs) ?_
    refine dn hs Q ?_
    exact ⟨([a3]),a1.fields,(.list (([a3]).map B6) .full),(.list (a1.fields.map B7) .none),([Ag E.1.1::(.val (.string E.1.2.1)::(Ag E.1.2.2.1::((E.1.2.2.2.1.cs)++([.list (E.1.2.2.2.2.map B6) .none]))))]),Rw,ef hs,ef hs,l,ef hs,ef hs,h⟩
   have hs:=Ac (Vl.cs_eqs a1) hs
   refine sk [6,7] hs Q ?_
   exact ⟨a1.list,a1.fields,(.list (a1.list.map B6) .none),(.list (a1.fields.map B7) .none),([Ag E.1.1::(.val (.string E.1.2.1)::(Ag E.1.2.2.1::((E.1.2.2.2.1.cs)++([.list (E.1.2.2.2.2.map B6) .none]))))]),Rw,ef hs,ef hs,l,ef hs,ef hs,h⟩
  have hs:=Ac (Vl.cs_eqs a1) hs
  refine sk [6,7] hs Q ?_
  exact ⟨a1.list,a1.fields,(.list (a1.list.map B6) .none),(.list (a1.fields.map B7) .none),([]),Rw,ef hs,ef hs,l,ef hs,ef hs,h⟩
 ·clear h;rintro e st ⟨t,u,C,w,Xk4,Rk4,rfl,rfl,l,ao,bf,h⟩
  rw [EO] at h
  refine Ef (B.length+3) 4 (by first | rfl | (simp only [C6,Cd,DC,CV];rfl)) rfl ao ?_;simp +decide only [go_sem,Nat.reduceAdd]
  refine Ef (B.length+3) 5 (by first | rfl | (simp only [C6,Cd,DC,CV];rfl)) rfl bf ?_;simp +decide only [go_sem,Nat.reduceAdd]
  show CW _ _ _ _ _ _ _ _ [(6,true,.box (B.length+2) 0),(7,true,.box (B.length+3) 0)] ⟨B++([a0.cs,a1.cs,BS,[Ag a1.kind,Ag a1.int,Ag a1.scale,.val (.string a1.text),.list (t.map B6) .none,.list (u.map B7) .none]]++Xk4),Rk4,L⟩
  refine A8 hN K N rfl q l (Hv o l) (Hv o l) ?_
  refine rg [6] hs ?_
  exact rt h hs q l
def GX (n:Nat) (g:Int->(List (ByteArray × Vl))->Option Vl) (b:Int) (b3_k24_5:List (ByteArray × Vl)) (b4_k24:ByteArray × Vl):Option Vl :=
 if (b3_k24_5.length+1)*104<=140737488355328/\b3_k24_5.length+1<=4611686018427387904 then
  if B1 (b+1) then
   g (b+1) (b3_k24_5++[b4_k24])
  else none
 else none
def Lh (n:Nat) (b:Vl) (b3_k7_5:List (ByteArray × Vl)):Option Vl :=
 some (Vl.mk b.kind b.int b.scale b.text b.list b3_k7_5)
def Ez (n:Nat) (a0:Ty) (q:Vl) (y:Ty->Vl->Option Vl):Nat->Int->(List (ByteArray × Vl))->Option Vl
 | 0,_,_=>none
 | m+1,b,b3_l15_5 =>
  if decide (b<(q.fields.length:Int)) then
   (D1 q.fields b).bind fun g =>
   (D3 n a0 g.1).bind fun h =>
   if h.2 then
    (y h.1.2.2.2.1 g.2).bind fun y30 =>
    GX n (Ez n a0 q y m) b b3_l15_5 ((g.1,y30))
   else
    GX n (Ez n a0 q y m) b b3_l15_5 g
  else
   Lh n q b3_l15_5
def LM (n:Nat) (b:Ty) (g:Vl) (h:Ty->Vl->Option Vl):Option Vl :=
 if b.kind=9 then
  Ez n b g h n 0 ([])
 else none
theorem UA (w0:World) (n:Nat) (B:Aj) (Rw:Am) (L:An) (a0:Ty) (a1:Vl) (fa2:FuncId) (ca2:List AV) (a2:Ty->Vl->Option Vl) (ha2:∀ (x0:Ty) (x1:Vl) r,a2 x0 x1=some r->∀ B' rows,B <+: B'->Rw <+: rows->ACalls Tryz.prog w0 fa2 ([.agg (x0.cs),.agg (x1.cs)]++ca2) ⟨B',rows,L⟩ fun v s=>v = .agg (r.cs)/\s=⟨B',rows,L⟩) (r:Vl) (h:LM n a0 a1 a2=some r) :
  ACalls Tryz.prog w0 197 [.agg (a0.cs),.agg (a1.cs),.clo fa2 ca2] ⟨B,Rw,L⟩ fun x st=>∃ (o0:VO) (rows:Am),x = .agg ([Ag r.kind,Ag r.int,Ag r.scale,.val (.string r.text),.list (r.list.map B6) .none,Gk o0 r.fields.length])/\st=⟨B,rows,L⟩/\Owns Rw rows [] .none [(o0,7,(r.fields).flatMap fun x=>(B7 x).cells)]:=by
 rw [LM] at h
 refine ACalls.finV (OZ [true,true,true,true,true,false] (rs:=[.cell 6 60]) Tryz.func197 rfl rfl Tryz.ntmps197 (AU Tryz.func197 rfl (by decide)) (Nat.le_of_ble_eq_true rfl) ?_)
 intro M0 W0 hN F G p hu
 dsimp only at hN F G p hu
 simp only [As]
 have k:=Owns.none Rw
 have hs:=Rr
 have o:=BJ (hu (.clo fa2 ca2) (by simp))
 obtain ⟨aa,h⟩:=Ak h
 have z:(decide (a0.kind=9))=true:=decide_eq_true aa
 have C:(decide (a0.kind=8))=false:=decide_eq_false (by omega)
 have hs:=Ac z hs
 have hs:=Ac C hs
 refine rg [2,3,4,6] hs ?_
 refine rg [2,3,4,6,7] hs ?_
 refine AO (fun e st=>∃ (j:List (ByteArray × Vl)) (l:VO) (Xk7:Aj) (Rk7:Am),e=[(6,true,.box (B.length+2) 0),(7,true,.box (B.length+3) 0)]/\st=⟨B++([a0.cs,a1.cs,BS,[Ag a1.kind,Ag a1.int,Ag a1.scale,.val (.string a1.text),.list (a1.list.map B6) .none,Gk l j.length]]++Xk7),Rk7,L⟩/\Owns Rw Rk7 [] .none [(l,7,j.flatMap fun x=>(B7 x).cells)]/\Lh n a1 j=some r) ?_ ?_
 ·intro K8 ab
  apply Ao
  refine rg [2,3,4,6,7,17] hs ?_
  refine Bl false ev (ef hs) (fun hb10=>by cases hb10) (fun hb10=>?_)
  refine rg [2,3,4,6,7,48] hs ?_
  refine Bl true ev (ef hs) (fun hb12=>?_) (fun hb12=>by cases hb12)
  have hs:=Ac (Vl.cs_eqs a1) hs
  refine rg [2,3,4,6,7] hs ?_
  refine rg [2,3,6,7,54,55,56] hs ?_
  apply Ao
  refine LW (B.length+3) 5 (by simp only [C6,Cd,DC,CV];rfl) rfl ?_;simp +decide only [go_sem,Nat.reduceAdd,List.set_cons_zero,List.set_cons_succ]
  have k:=k.nilV 7
  refine AB (fun m e st=>∃ (g:Int) (d:List (ByteArray × Vl)) (c:VO) (Xl15:Aj) (Rl15:Am),e=[(2,true,.clo fa2 ca2),(3,true,.box B.length 0),(6,true,.box (B.length+2) 0),(7,true,.box (B.length+3) 0),(54,true,.list (a1.fields.map B7) .none),(55,true,Ag (a1.fields.length:Int)),(56,true,Ag g)]/\st=⟨B++([a0.cs,a1.cs,BS,[Ag a1.kind,Ag a1.int,Ag a1.scale,.val (.string a1.text),.list (a1.list.map B6) .none,Gk c d.length]]++Xl15),Rl15,L⟩/\Owns Rw Rl15 [] .none [(c,7,d.flatMap fun x=>(B7 x).cells)]/\Ez n a0 a1 a2 m g d=some r) n ⟨0,([]),.nil,([]),Rw,ef hs,ef hs,Owns.eqV (k) Rz,h⟩ ?_
  rintro ml15 e st ⟨g,d,c,Xl15,Rl15,rfl,rfl,k,h⟩ Ul15 Vl15
  cases ml15 with
  | zero=>cases h
  | succ ml15 =>
  rw [Ez] at h
  have y:=k.underV
  simp only [List.mem_cons,List.not_mem_nil,or_false,forall_eq_or_imp,forall_eq] at y
  refine A8 hN F G rfl p k (Hv o k) (Hv o k) ?_ (vu @Jk)
  refine rg [2,3,6,7,54,55,56,57] hs ?_
  apply Ah;intro K18 H
  refine BA h hs ?_ ?_<;>intro hs h
  rotate_left
  ·refine sx [6,7] hs ab ?_
   exact ⟨d,c,([]),Rl15,ef hs,ef hs,Owns.eqV (k) Rz,h⟩
  refine sk [2,3,6,7,54,55,56] hs H ?_
  clear H
  apply Ah;intro K20 O
  apply Ao
  obtain ⟨u,V,h⟩:=bind_some h
  obtain ⟨ag,af,Q⟩:=Bo V
  have U:=Bq (f:=B7) Q
  have hs:=Ac U hs
  refine rg [2,3,6,7,11,54,55,56] hs ?_
  refine AO (fun e st=>∃ (a:List (ByteArray × Vl)) (b:ByteArray × Vl) (i:VO) (q:List AV) (Xk24:Aj) (Rk24:Am),e=[(2,true,.clo fa2 ca2),(3,true,.box B.length 0),(6,true,.box (B.length+2) 0),(7,true,.box (B.length+3) 0),(11,true,.box (B.length+4) 0),(54,true,.list (a1.fields.map B7) .none),(55,true,Ag (a1.fields.length:Int)),(56,true,Ag g)]/\st=⟨B++([a0.cs,a1.cs,BS,[Ag a1.kind,Ag a1.int,Ag a1.scale,.val (.string a1.text),.list (a1.list.map B6) .none,Gk i a.length],q]++Xk24),Rk24,L⟩/\Owns Rw Rk24 [] .none [(i,7,a.flatMap fun x=>(B7 x).cells)]/\q.map AV.pubCell = .val (.string b.1)::(b.2.cs)/\GX n (Ez n a0 a1 a2 ml15) g a b=some r) ?_ ?_
  ·intro K25 N
   obtain ⟨t,Y,h⟩:=bind_some h
   refine rc 2 [2,3,6,7,11,12,13,54,55,56] hs ?_;intro K26 J
   refine Aq _ (F2 w0 n _ _ _ a0 u.1 _ Y) (hv hs) ?_
   refine ne hs J ?_
   clear J
   refine rg [2,3,6,7,11,12,54,55,56,67] hs ?_
   refine BA h hs ?_ ?_<;>intro hs h
   ·obtain ⟨w,Z,h⟩:=bind_some h
    have hs:=Ac (Vl.cs_eqs u.2) hs
    have hs:=Ac (Vl.cs_eqs w) hs
    refine rk 2 [2,3,6,7,11,54,55,56] hs ?_
    refine P6 _ (ha2 t.1.2.2.2.1 u.2 _ Z _ _ px k.pre) (hv hs) ?_
    refine ne hs N ?_
    exact ⟨d,((u.1,w)),c,([.val (.string u.1),Ag w.kind,Ag w.int,Ag w.scale,.val (.string w.text),.list (w.list.map B6) .none,.list (w.fields.map B7) .none]),([Ag t.1.1::(.val (.string t.1.2.1)::(Ag t.1.2.2.1::((t.1.2.2.2.1.cs)++([.list (t.1.2.2.2.2.map B6) .none]))))]),Rl15,ef (cm hs),ef (cm hs),Owns.eqV (k) Rz,ef (cm hs),h⟩
   refine sk [2,3,6,7,11,54,55,56] hs N ?_
   exact ⟨d,u,c,(.val (.string u.1)::(u.2.cs)),([Ag t.1.1::(.val (.string t.1.2.1)::(Ag t.1.2.2.1::((t.1.2.2.2.1.cs)++([.list (t.1.2.2.2.2.map B6) .none]))))]),Rl15,ef (cm hs),ef (cm hs),Owns.eqV (k) Rz,ef (cm hs),h⟩
  ·clear h;rintro e st ⟨a,b,i,q,Xk24,Rk24,rfl,rfl,k,ad,h⟩
   rw [GX] at h
   refine Ia (B.length+4) (by first | rfl | (simp only [C6,Cd,DC,CV];rfl)) ad ?_;simp +decide only [go_sem,Nat.reduceAdd]
   show CW _ _ _ _ _ _ _ _ [(2,true,.clo fa2 ca2),(3,true,.box B.length 0),(6,true,.box (B.length+2) 0),(7,true,.box (B.length+3) 0),(11,true,.box (B.length+4) 0),(54,true,.list (a1.fields.map B7) .none),(55,true,Ag (a1.fields.length:Int)),(56,true,Ag g)] ⟨B++([a0.cs,a1.cs,BS,[Ag a1.kind,Ag a1.int,Ag a1.scale,.val (.string a1.text),.list (a1.list.map B6) .none,Gk i a.length],.val (.string b.1)::(b.2.cs)]++Xk24),Rk24,L⟩
   have y:=k.underV
   simp only [List.mem_cons,List.not_mem_nil,or_false,forall_eq_or_imp,forall_eq] at y
   refine A8 hN F G rfl p k (Hv o k) (Hv o k) ?_ (vu @Jk)
   obtain ⟨K,h⟩:=Ak h
   obtain ⟨ae,E,k,D⟩:=k.appendV (P:=Tryz.prog) (n:=a.length) (m:=1) O7 (by rw [Jo];rfl) (by decide) ((CJ (f:=B7) (sz:=7) (fun _=>by simp +decide only [go_sem]) _)) K.1 K.2 [B7 b] rfl ((a++[b]).flatMap fun x=>(B7 x).cells) (by simp only [List.flatMap_append,List.flatMap_cons,List.flatMap_nil,List.append_nil,List.nil_append,Tf])
   simp only [List.mem_singleton,forall_eq,A2,A0,AY,A3,AZ,AX,AN,AG,A1,Ax,Az,AH,AM,AL,A5,AK,A6,J3] at D
   have hs:=Ac D hs
   refine rl [2,3,6,7,54,55,56] hs O ?_
   clear O
   obtain ⟨ah,h⟩:=Ak h
   refine rl [2,3,6,7,54,55,56] hs (fun e s=>Vl15 ml15 e s (Nat.lt_succ_self _)) ?_
   exact ⟨(g+1),(a++[b]),ae,([.val (.string b.1)::(b.2.cs)]),E,ef hs,ef hs,Owns.eqV (k) Rz,h⟩
 ·clear h;rintro e st ⟨j,l,Xk7,Rk7,rfl,rfl,k,h⟩
  rw [Lh] at h
  have y:=k.underV
  simp only [List.mem_cons,List.not_mem_nil,or_false,forall_eq_or_imp,forall_eq] at y
  refine A8 hN F G rfl p k (Hv o k) (Hv o k) ?_ (vu @Jk)
  refine rg [6] hs ?_
  apply BC;simp +decide only [go_sem,Nat.reduceAdd,z,C]
  have hgt:=Option.some.inj h;subst hgt
  have y:=k.underV
  simp only [List.mem_cons,List.not_mem_nil,or_false,forall_eq_or_imp,forall_eq] at y
  refine XH k p rfl (by (simp +decide only [go_sem,Nat.reduceAdd,z,C])<;>(try (repeat' apply Ac))<;>first | omega | assumption) (vu @Jk) ⟨_,_,?_,rfl,k.sub (List.nil_sublist _)⟩
  first | rfl | (simp +decide only [go_sem,Nat.reduceAdd,z,C];done) | (simp +decide only [go_sem,Nat.reduceAdd,Vl.cs,Ty.cs,z,C];done)
def H3 (rec:Ty->Vl->Option Vl) (n:Nat) (b:Vl) (b3_k17_5:List (ByteArray × Vl)):Option Vl :=
 some (Vl.mk b.kind b.int b.scale b.text b.list b3_k17_5)
def Gf (rec:Ty->Vl->Option Vl) (n:Nat) (h:Ty) (q:Vl):Nat->Int->(List (ByteArray × Vl))->Option Vl
 | 0,_,_=>none
 | m+1,b,b3_l20_5 =>
  if decide (b<(h.fields.length:Int)) then
   (D1 h.fields b).bind fun g =>
   if (!(decide (g.2.2.1=3)))||(!(decide ((g.2.2.2.2.length:Int)=1))) then
    if B1 (b+1) then
     (Gf rec n h q m) (b+1) b3_l20_5
    else none
   else
    Av
  else
   H3 rec n q b3_l20_5
def JK (rec:Ty->Vl->Option Vl) (n:Nat) (b:Ty) (g:Vl):Option Vl :=
 if !(decide (g.kind=b.kind)) then
  Av
 else
  (I7 n g).bind fun y5 =>
  if !y5 then
   Av
  else
   if decide (b.kind=9) then
    (LM n b g (fun (y:Ty) (h:Vl)=>rec y h)).bind fun y9 =>
    Gf rec n b y9 n 0 y9.fields
   else
    (Ni n b g (fun (y:Ty) (h:Vl)=>rec y h)).bind fun q =>
    some (q)
def G5:Nat->Ty->Vl->Option Vl
 | 0,_,_=>none
 | n+1,g,b=>JK (G5 n) n g b
def Jz (w0:World) (F:Ty->Vl->Option Vl):Prop:=∀ (B:Aj) (Rw:Am) (L:An) (g:Ty) (b:Vl) (r:Vl),F g b=some r->ACalls Tryz.prog w0 140 [.agg (g.cs),.agg (b.cs)] ⟨B,Rw,L⟩ fun x st=>x = .agg (r.cs)/\st=⟨B,Rw,L⟩
theorem P7 (w0:World) (rec:Ty->Vl->Option Vl) (ih:Jz w0 rec) (n:Nat):Jz w0 (JK rec n):=by
 intro B Rw L a0 a1 r h
 rw [JK] at h
 refine hd [.cell 4 60] Tryz.func140 Tryz.ntmps140 fun M0 W0 hN C E j hu k hs=>?_
 simp only [As]
 refine rg [2,3,4] hs ?_
 apply Ah;intro K2 J
 apply Ah;intro K3 H
 rcases Bool.eq_false_or_eq_true (!(decide (a1.kind=a0.kind))) with hf4 | hf4
 ·replace h:=BO h hf4
  exact nS h
 ·replace h:=BP h hf4
  obtain ⟨y5,ad,h⟩:=bind_some h
  have hs:=Ac hf4 hs
  refine rk 2 [2,3,4,19] hs ?_
  refine Aq _ (ON w0 n _ _ _ a1 _ ad) (hv hs) ?_
  refine ne hs H ?_
  clear H
  refine BA h hs ?_ ?_<;>intro hs h
  ·have N:=hs.1
   exact nS h
  have N:=hs.1
  refine sk [2,3,4] hs J ?_
  clear J
  apply Ah;intro K7 z
  rcases Bool.eq_false_or_eq_true (decide (a0.kind=9)) with hf8 | hf8
  ·replace h:=BO h hf8
   obtain ⟨l,Z,h⟩:=bind_some h
   have hs:=Ac hf8 hs
   refine rk 2 [2,4,5] hs ?_
   refine Bm _ (UA w0 n _ _ _ a0 a1 140 [] (fun (v:Ty) (D:Vl)=>rec v D) (fun v D r hx B' rows' aa U=>by exact ih _ _ _ v D _ hx) _ Z) (hv hs) ?_;rintro _ _ ⟨ab,Rv12,rfl,rfl,p⟩
   have k:=k.callV p
   refine ne hs z ?_
   clear z
   apply Ah;intro K13 q
   refine rg [2,4,5,26] hs ?_
   refine Bl false ev (ef hs) (fun hb15=>by cases hb15) (fun hb15=>?_)
   refine sk [2,4,5] hs q ?_
   clear q
   refine AO (fun e st=>∃ (d:List (ByteArray × Vl)) (g:VO) (Xk17:Aj) (Rk17:Am),e=[(4,true,.box (B.length+2) 0),(5,true,.box (B.length+3) 0)]/\st=⟨B++([a0.cs,a1.cs,BS,[Ag l.kind,Ag l.int,Ag l.scale,.val (.string l.text),.list (l.list.map B6) .none,Gk g d.length]]++Xk17),Rk17,L⟩/\Owns Rw Rk17 [] .none [(g,7,d.flatMap fun x=>(B7 x).cells)]/\H3 rec n l d=some r) ?_ ?_
   ·intro K18 G
    refine rg [4,5,29,30,31] hs ?_
    apply Ao
    refine AB (fun m e st=>∃ (i:Int) (b:List (ByteArray × Vl)) (c:VO) (Xl20:Aj) (Rl20:Am),e=[(4,true,.box (B.length+2) 0),(5,true,.box (B.length+3) 0),(29,true,.list (a0.fields.map Gl) .none),(30,true,Ag (a0.fields.length:Int)),(31,true,Ag i)]/\st=⟨B++([a0.cs,a1.cs,BS,[Ag l.kind,Ag l.int,Ag l.scale,.val (.string l.text),.list (l.list.map B6) .none,Gk c b.length]]++Xl20),Rl20,L⟩/\Owns Rw Rl20 [] .none [(c,7,b.flatMap fun x=>(B7 x).cells)]/\Gf rec n a0 l m i b=some r) n ⟨0,l.fields,ab,([]),Rv12,ef hs,ef hs,Owns.eqV (k) Rz,h⟩ ?_
    rintro ml20 e st ⟨i,b,c,Xl20,Rl20,rfl,rfl,k,h⟩ Ul20 Vl20
    cases ml20 with
    | zero=>cases h
    | succ ml20 =>
    rw [Gf] at h
    have F:=k.underV
    simp only [List.mem_cons,List.not_mem_nil,or_false,forall_eq_or_imp,forall_eq] at F
    refine A8 hN C E rfl j k ow ow ?_ (vu @Jk)
    refine rg [4,5,29,30,31,32] hs ?_
    apply Ah;intro K22 u
    refine BA h hs ?_ ?_<;>intro hs h
    rotate_left
    ·refine sx [4,5] hs G ?_
     exact ⟨b,c,([]),Rl20,ef hs,ef hs,Owns.eqV (k) Rz,h⟩
    refine sk [4,5,29,30,31] hs u ?_
    clear u
    apply Ah;intro K24 t
    apply Ao
    obtain ⟨o,K,h⟩:=bind_some h
    obtain ⟨V,Y,w⟩:=Bo K
    have y:=Bq (f:=Gl) w
    have hs:=Ac y hs
    refine rg [4,5,7,29,30,31] hs ?_
    apply Ah;intro K27 af
    refine rg [4,5,7,29,30,31,43] hs ?_
    refine BA h hs ?_ ?_<;>intro hs h
    ·refine sx [4,5,29,30,31] hs t ?_
     clear t
     obtain ⟨ae,h⟩:=Ak h
     refine rl [4,5,29,30,31] hs (fun e s=>Vl20 ml20 e s (Nat.lt_succ_self _)) ?_
     exact ⟨(i+1),b,c,([Ag o.1::(.val (.string o.2.1)::(Ag o.2.2.1::((o.2.2.2.1.cs)++([.list (o.2.2.2.2.map B6) .none]))))]),Rl20,ef hs,ef hs,Owns.eqV (k) Rz,h⟩
    exact nS h
   ·clear h;rintro e st ⟨d,g,Xk17,Rk17,rfl,rfl,k,h⟩
    rw [H3] at h
    have F:=k.underV
    simp only [List.mem_cons,List.not_mem_nil,or_false,forall_eq_or_imp,forall_eq] at F
    refine A8 hN C E rfl j k ow ow ?_ (vu @Jk)
    refine rg [4] hs ?_
    refine Kw (B.length+2) 5 (by first | rfl | (simp only [C6,Cd];rfl) | (simp +decide only [go_sem,Nat.reduceAdd,hf4,N,hf8])) (by first | rfl | (simp only [PN,List.length_set];rfl)) k true (.inl rfl) (by decide) ((CJ (f:=B7) (sz:=7) (fun _=>by simp +decide only [go_sem]) _)) (PO (f:=B7) 7 (fun _=>rfl) (fun _=>by simp +decide only [go_sem]) _) (fun Q k=>?_)
    simp +decide only [go_sem,Nat.reduceAdd,List.set_cons_zero,List.set_cons_succ]
    exact rt h hs j k
  ·replace h:=BP h hf8
   obtain ⟨ag,O,h⟩:=bind_some h
   have hs:=Ac hf8 hs
   refine rk 2 [2,4,5] hs ?_
   refine Aq _ (Wa w0 n _ _ _ a0 a1 140 [] (fun (v:Ty) (D:Vl)=>rec v D) (fun v D r hx B' rows' aa U=>by exact ih _ _ _ v D _ hx) _ O) (hv hs) ?_
   exact go (tg (a:=([2,4,5,26],[4],()))) h hs hN C E j k trivial (q1 z)
theorem MO (w0:World):∀ n:Nat,Jz w0 (G5 n)
 | 0=>fun _ _ _ _ _ _ h=>(nomatch h)
 | n+1=>P7 w0 (G5 n) (MO w0 n) n
def LU (g:ByteArray × Int) (b:Bool):Option (Bool × Bool) :=
 some ((false,false))
theorem Uj (w0:World) (B:Aj) (Rw:Am) (L:An) (a0:ByteArray × Int) (la1:Nat) (a1:Bool) (hla1:B[la1]? = some ([.val (.bool a1)])) (r:Bool × Bool) (h:LU a0 a1=some r) :
  ACalls Tryz.prog w0 200 [.agg (.val (.string a0.1)::([Ag a0.2])),.box la1 0] ⟨B,Rw,L⟩ fun x st=>x = .val (.bool r.1)/\st=⟨(B.set la1 [.val (.bool r.2)]),Rw,L⟩:=by
 rw [LU] at h
 refine hd [.tmp 3] Tryz.func200 Tryz.ntmps200 fun M0 W0 g d e b i f hs=>?_
 simp only [As]
 have c:=(Af.1 hla1).1
 have hs:=Ac (AD hla1) hs
 exact go (tg (a:=([1],[],[3],()))) h hs g d e b f trivial trivial
def HY (a0_done:Bool) (x0_ok:Bool) (g:ByteArray) (h:Int):Option (Bool × Bool) :=
 if !a0_done then
  (LU ((g,h)) x0_ok).bind fun b =>
  if !b.1 then
   some ((true,b.2))
  else
   Av
 else
  Av
theorem PP (w0:World) (B:Aj) (Rw:Am) (L:An) (lx0_ok:Nat) (la0:Nat) (a0_done:Bool) (hla0:B[la0]? = some ([.clo 200 [.box lx0_ok 0],.val (.bool a0_done)])) (x0_ok:Bool) (hlx0_ok:B[lx0_ok]? = some ([.val (.bool x0_ok)])) (hne_lx0_ok_la0:lx0_ok≠la0) (a1:ByteArray) (a2:Int) (r:Bool × Bool) (h:HY a0_done x0_ok a1 a2=some r) :
  ACalls Tryz.prog w0 250 [.box la0 0,.val (.string a1),Ag a2] ⟨B,Rw,L⟩ fun x st=>x = .tup []/\st=⟨((B.set la0 ([.clo 200 [.box lx0_ok 0],.val (.bool r.1)])).set lx0_ok [.val (.bool r.2)]),Rw,L⟩:=by
 rw [HY] at h
 refine hd [] Tryz.func250 Tryz.ntmps250 fun M0 W0 l j k a m i hs=>?_
 simp only [As]
 have f:=(Af.1 hla0).1
 have d:=(Af.1 hlx0_ok).1
 have b:=Ac (AD hla0) (Ac (AD hlx0_ok) (Ac (Eb hla0 hne_lx0_ok_la0) (Ac (Eb hlx0_ok (Ne.symm hne_lx0_ok_la0)) (Ac (Qh hne_lx0_ok_la0) (Ac (Kz hla0 lx0_ok) (Ac (Kz hlx0_ok la0) (Ac (JZ hla0 la0 lx0_ok) (Ac (JZ hlx0_ok la0 lx0_ok) (Ac (Im lx0_ok) (Ac (Im la0) (Ac (Vp hla0 hne_lx0_ok_la0) (RP hlx0_ok (Ne.symm hne_lx0_ok_la0)))))))))))))
 apply Ah;intro K1 e
 rcases Bool.eq_false_or_eq_true (!a0_done) with hf2 | hf2
 ·replace h:=BO h hf2
  obtain ⟨n,g,h⟩:=bind_some h
  have hs:=Ac b hs
  have hs:=Ac hf2 hs
  refine rk 2 [0,21] hs ?_
  refine Bm _ (Uj w0 _ _ _ ((a1,a2)) lx0_ok x0_ok (ef hs) _ g) (hv hs) ?_;rintro _ _ ⟨rfl,rfl⟩
  refine ne hs e ?_
  clear e
  refine BA h hs ?_ ?_<;>intro hs h
  ·have c:=hs.1
   apply Ap 1 []
   rw [Ai];simp +decide only [go_sem,Nat.reduceAdd,b,hf2,c]
   (repeat' with_reducible apply Ac)<;>first | exact cl | skip
   have hgt:=Option.some.inj h;subst hgt
   first | refine Cb (AA (AA a ow) ow) GR i.pre ev ⟨?_,by first | rfl | (simp only [Bc hla0,Bc hlx0_ok];done)⟩ | refine Dq (AA (AA a ow) ow) GR i.pre ev ⟨?_,by first | rfl | (simp only [Bc hla0,Bc hlx0_ok];done)⟩
   first | rfl | (simp +decide only [go_sem,Nat.reduceAdd,b,hf2,c];done) | (simp +decide only [go_sem,Nat.reduceAdd,Vl.cs,Ty.cs,b,hf2,c];done)
  have c:=hs.1
  exact nS h
 ·replace h:=BP h hf2
  exact nS h
def FD (a0_done:Bool) (x0_ok:Bool) (h:Ty) (q:ByteArray) (b:Int):Option (Bool × Bool) :=
 if (decide (b<h.min))||(decide (h.max<b)) then
  (HY a0_done x0_ok q 2).bind fun g =>
  some ((g.1,g.2))
 else
  some ((a0_done,x0_ok))
theorem MZ (w0:World) (B:Aj) (Rw:Am) (L:An) (lx0_ok:Nat) (la0:Nat) (a0_done:Bool) (hla0:B[la0]? = some ([.clo 200 [.box lx0_ok 0],.val (.bool a0_done)])) (x0_ok:Bool) (hlx0_ok:B[lx0_ok]? = some ([.val (.bool x0_ok)])) (hne_lx0_ok_la0:lx0_ok≠la0) (a1:Ty) (a2:ByteArray) (a3:Int) (r:Bool × Bool) (h:FD a0_done x0_ok a1 a2 a3=some r) :
  ACalls Tryz.prog w0 251 [.box la0 0,.agg (a1.cs),.val (.string a2),Ag a3] ⟨B,Rw,L⟩ fun x st=>x = .tup []/\st=⟨((B.set la0 ([.clo 200 [.box lx0_ok 0],.val (.bool r.1)])).set lx0_ok [.val (.bool r.2)]),Rw,L⟩:=by
 rw [FD] at h
 refine hd [] Tryz.func251 Tryz.ntmps251 fun M0 W0 k i j a l f hs=>?_
 simp only [As]
 have e:=(Af.1 hla0).1
 have d:=(Af.1 hlx0_ok).1
 have b:=Ac (AD hla0) (Ac (AD hlx0_ok) (Ac (Eb hla0 hne_lx0_ok_la0) (Ac (Eb hlx0_ok (Ne.symm hne_lx0_ok_la0)) (Ac (Qh hne_lx0_ok_la0) (Ac (Kz hla0 lx0_ok) (Ac (Kz hlx0_ok la0) (Ac (JZ hla0 la0 lx0_ok) (Ac (JZ hlx0_ok la0 lx0_ok) (Ac (Im lx0_ok) (Ac (Im la0) (Ac (Vp hla0 hne_lx0_ok_la0) (RP hlx0_ok (Ne.symm hne_lx0_ok_la0)))))))))))))
 have hs:=Ac b hs
 refine rg [0,2,3,5] hs ?_
 refine rg [0,2,17] hs ?_
 refine BA h hs ?_ ?_<;>intro hs h
 ·have c:=hs.1
  obtain ⟨m,g,h⟩:=bind_some h
  apply Ap 2 []
  rw [Ai];simp +decide only [go_sem,Nat.reduceAdd,b,c]
  (repeat' apply Ac)<;>first | (refine Bm _ (PP w0 _ _ _ lx0_ok la0 a0_done (ef hs) x0_ok (ef hs) nq a2 2 _ g) (hv hs) ?_;rintro _ _ ⟨rfl,rfl⟩) | exact cl
  rw [Ai];simp +decide only [go_sem,Nat.reduceAdd,b,c]
  (repeat' with_reducible apply Ac)<;>first | exact cl | skip
  have hgt:=Option.some.inj h;subst hgt
  first | refine Cb (AA (AA a ow) ow) GR f.pre ev ⟨?_,by first | rfl | (simp only [Bc hla0,Bc hlx0_ok];done)⟩ | refine Dq (AA (AA a ow) ow) GR f.pre ev ⟨?_,by first | rfl | (simp only [Bc hla0,Bc hlx0_ok];done)⟩
  first | rfl | (simp +decide only [go_sem,Nat.reduceAdd,b,c];done) | (simp +decide only [go_sem,Nat.reduceAdd,Vl.cs,Ty.cs,b,c];done)
 have c:=hs.1
 refine CX (BW [] _) ?_ (BD _ _)
 apply BB;simp +decide only [go_sem,Nat.reduceAdd]
 (repeat' with_reducible apply Ac)<;>first | exact cl | skip
 have hgt:=Option.some.inj h;subst hgt
 first | refine Cb a rfl f.pre ev ⟨?_,by first | rfl | (simp only [Bc hla0,Bc hlx0_ok];done)⟩ | refine Dq a rfl f.pre ev ⟨?_,by first | rfl | (simp only [Bc hla0,Bc hlx0_ok];done)⟩
 first | rfl | (simp +decide only [go_sem,Nat.reduceAdd,b,c];done) | (simp +decide only [go_sem,Nat.reduceAdd,Vl.cs,Ty.cs,b,c];done)
def Nx (g:ByteArray) (b:ByteArray):Option ByteArray :=
 if OA g (⟨#[]⟩:ByteArray) then
  some (b)
 else
  Av
theorem V9 (w0:World) (B:Aj) (Rw:Am) (L:An) (a0:ByteArray) (a1:ByteArray) (r:ByteArray) (h:Nx a0 a1=some r) :
  ACalls Tryz.prog w0 304 [.val (.string a0),.val (.string a1)] ⟨B,Rw,L⟩ fun x st=>x = .val (.string r)/\st=⟨B,Rw,L⟩:=by
 rw [Nx] at h
 refine hd [.tmp 4] Tryz.func304 Tryz.ntmps304 fun M0 W0 f c d b g e hs=>?_
 simp only [As]
 exact go (tg (a:=([0,1],[0,1,6],([4],()),((),())))) h hs f c d b e trivial trivial
def Il (g:ByteArray × Vl) (b:ByteArray):Bool :=
 OA g.1 b
theorem Wg (w0:World) (B:Aj) (Rw:Am) (L:An) (a0:ByteArray × Vl) (la1:Nat) (a1:ByteArray) (hla1:B[la1]? = some ([.val (.string a1)])) (r:Bool) (h:Il a0 a1=r) :
  ACalls Tryz.prog w0 245 [.agg (.val (.string a0.1)::(a0.2.cs)),.box la1 0] ⟨B,Rw,L⟩ fun x st=>x = .val (.bool r)/\st=⟨B,Rw,L⟩:=by
 rw [Il] at h
 refine hd [.tmp 3] Tryz.func245 Tryz.ntmps245 fun M0 W0 f d e a g c hs=>?_
 simp only [As]
 have b:=(Af.1 hla1).1
 have hs:=Ac (AD hla1) hs
 refine rg [1,2] hs ?_
 refine rg [3] hs ?_
 exact rT h hs a c
theorem Us (w0:World) (B:Aj) (Rw:Am) (L:An) (a0:ByteArray × Vl) (la1:Nat) (a1:ByteArray) (hla1:B[la1]? = some ([.val (.string a1)])) :
  ACalls Tryz.prog w0 245 [.agg (.val (.string a0.1)::(a0.2.cs)),.box la1 0] ⟨B,Rw,L⟩ fun x st=>x = .val (.bool (Il a0 a1))/\st=⟨B,Rw,L⟩:=Wg w0 B Rw L a0 la1 a1 hla1 _ rfl
def Of (n:Nat) (g:Vl) (b:ByteArray):Option Int :=
 (C5 n g.fields (fun (q:ByteArray × Vl)=>some (Il q b))).bind fun h =>
 some (h)
theorem TM (w0:World) (n:Nat) (B:Aj) (Rw:Am) (L:An) (a0:Vl) (a1:ByteArray) (r:Int) (h:Of n a0 a1=some r) :
  ACalls Tryz.prog w0 193 [.agg (a0.cs),.val (.string a1)] ⟨B,Rw,L⟩ fun x st=>x=Ag r/\st=⟨B,Rw,L⟩:=by
 rw [Of] at h
 refine hd [.tmp 4] Tryz.func193 Tryz.ntmps193 fun M0 W0 i e f a j d hs=>?_
 simp only [As]
 refine rg [2,3] hs ?_
 obtain ⟨k,hy3,h⟩:=bind_some h
 refine rc 2 [4] hs ?_;intro K2 b
 refine Aq _ (Fg w0 n _ _ _ a0.fields 245 [.box (B.length+1) 0] (fun (x0:ByteArray × Vl)=>some (Il x0 a1)) (fun x0 r hx g rows' hB' c=>by cases hx;exact Us w0 _ _ _ x0 _ a1 (Ej hB' ev)) _ hy3) (hv hs) ?_
 refine ne hs b ?_
 clear b
 exact rt h hs a d
def Ov (n:Nat) (b:Vl) (h:ByteArray):Option (Vl × Bool) :=
 (Of n b h).bind fun g =>
 if (!(decide (b.kind=9)))||(decide (g<0)) then
  Av
 else
  (D1 b.fields g).bind fun q =>
  (Ce n q.2).bind fun y =>
  some ((y,true))
theorem TT (w0:World) (n:Nat) (B:Aj) (Rw:Am) (L:An) (a0:Vl) (a1:ByteArray) (r:Vl × Bool) (h:Ov n a0 a1=some r) :
  ACalls Tryz.prog w0 138 [.agg (a0.cs),.val (.string a1)] ⟨B,Rw,L⟩ fun x st=>x = .tup [.agg (r.1.cs),.val (.bool r.2)]/\st=⟨B,Rw,L⟩:=by
 rw [Ov] at h
 refine hd [.cell 4 60,.tmp 5] Tryz.func138 Tryz.ntmps138 fun M0 W0 f c d b g e hs=>?_
 simp only [As]
 exact go (tg (a:=([1,2,4],[2,4,6],[2,4,6,16],((),()),[2,4,6],[4,5],()))) h hs f c d b e (q2 (TM w0 n) (BX w0 n)) trivial
def DK (rec:Bool->Bool->Ty->Vl->ByteArray->Option (Bool × Bool)) (n:Nat) (y:Ty) (g:Vl) (pla0_k3_1:Bool) (plx0_ok_k3:Bool):Nat->Int->Option (Bool × Bool)
 | 0,_=>none
 | m+1,b =>
  if decide (b<(g.fields.length:Int)) then
   (D1 g.fields b).bind fun q =>
   (D3 n y q.1).bind fun h =>
   if !h.2 then
    Av
   else
    if B1 (b+1) then
     (DK rec n y g pla0_k3_1 plx0_ok_k3 m) (b+1)
    else none
  else
   some ((pla0_k3_1,plx0_ok_k3))
def FT (rec:Bool->Bool->Ty->Vl->ByteArray->Option (Bool × Bool)) (n:Nat) (b:Ty) (g:Vl) (pla0_k3_1:Bool) (plx0_ok_k3:Bool):Option (Bool × Bool) :=
 DK rec n b g pla0_k3_1 plx0_ok_k3 n 0
def Ed (rec:Bool->Bool->Ty->Vl->ByteArray->Option (Bool × Bool)) (n:Nat) (y:Ty) (a2:Vl) (a3:ByteArray):Nat->Int->Bool->Bool->Option (Bool × Bool)
 | 0,_,_,_=>none
 | m+1,b,pla0_l6_1,plx0_ok_l6 =>
  if decide (b<(y.fields.length:Int)) then
   (D1 y.fields b).bind fun g =>
   (Ov n a2 g.2.1).bind fun q =>
   if q.2 then
    (Nx a3 g.2.1).bind fun y17 =>
    (rec pla0_l6_1 plx0_ok_l6 g.2.2.2.1 q.1 y17).bind fun h =>
    if B1 (b+1) then
     (Ed rec n y a2 a3 m) (b+1) h.1 h.2
    else none
   else
    Av
  else
   FT rec n y a2 pla0_l6_1 plx0_ok_l6
def Gh (rec:Bool->Bool->Ty->Vl->ByteArray->Option (Bool × Bool)) (n:Nat) (a0_done:Bool) (x0_ok:Bool) (g:Ty) (h:Vl) (b:ByteArray):Option (Bool × Bool) :=
 Ed rec n g h b n 0 a0_done x0_ok
theorem NE (w0:World) (rec:Bool->Bool->Ty->Vl->ByteArray->Option (Bool × Bool)) (ih:∀ (B:Aj) (Rw:Am) (L:An) (lx0_ok:Nat) (la0:Nat) (a0_done:Bool) (hla0:B[la0]? = some ([.clo 200 [.box lx0_ok 0],.val (.bool a0_done)])) (x0_ok:Bool) (hlx0_ok:B[lx0_ok]? = some ([.val (.bool x0_ok)])) (hne_lx0_ok_la0:lx0_ok≠la0) (a1:Ty) (a2:Vl) (a3:ByteArray) (r:Bool × Bool) (h:rec a0_done x0_ok a1 a2 a3=some r),ACalls Tryz.prog w0 201 [.box la0 0,.agg (a1.cs),.agg (a2.cs),.val (.string a3)] ⟨B,Rw,L⟩ fun x st=>x = .tup []/\st=⟨((B.set la0 ([.clo 200 [.box lx0_ok 0],.val (.bool r.1)])).set lx0_ok [.val (.bool r.2)]),Rw,L⟩) (n:Nat) (B:Aj) (Rw:Am) (L:An) (lx0_ok:Nat) (la0:Nat) (a0_done:Bool) (hla0:B[la0]? = some ([.clo 200 [.box lx0_ok 0],.val (.bool a0_done)])) (x0_ok:Bool) (hlx0_ok:B[lx0_ok]? = some ([.val (.bool x0_ok)])) (hne_lx0_ok_la0:lx0_ok≠la0) (a1:Ty) (a2:Vl) (a3:ByteArray) (r:Bool × Bool) (h:Gh rec n a0_done x0_ok a1 a2 a3=some r) :
  ACalls Tryz.prog w0 252 [.box la0 0,.agg (a1.cs),.agg (a2.cs),.val (.string a3)] ⟨B,Rw,L⟩ fun x st=>x = .tup []/\st=⟨((B.set la0 ([.clo 200 [.box lx0_ok 0],.val (.bool r.1)])).set lx0_ok [.val (.bool r.2)]),Rw,L⟩:=by
 rw [Gh] at h
 refine hd [] Tryz.func252 Tryz.ntmps252 fun M0 W0 U z C k hu w hs=>?_
 simp only [As]
 have Z:=(Af.1 hla0).1
 have H:=(Af.1 hlx0_ok).1
 have p:=Ac (AD hla0) (Ac (AD hlx0_ok) (Ac (Eb hla0 hne_lx0_ok_la0) (Ac (Eb hlx0_ok (Ne.symm hne_lx0_ok_la0)) (Ac (Qh hne_lx0_ok_la0) (Ac (Kz hla0 lx0_ok) (Ac (Kz hlx0_ok la0) (Ac (JZ hla0 la0 lx0_ok) (Ac (JZ hlx0_ok la0 lx0_ok) (Ac (Im lx0_ok) (Ac (Im la0) (Ac (Vp hla0 hne_lx0_ok_la0) (RP hlx0_ok (Ne.symm hne_lx0_ok_la0)))))))))))))
 have hs:=Ac p hs
 refine rg [0,3,5,6] hs ?_
 refine AO (fun e st=>∃ (d:Bool) (c:Bool) (Xk3:Aj) (Rk3:Am),e=[(0,true,.box la0 0),(3,true,.val (.string a3)),(5,true,.box B.length 0),(6,true,.box (B.length+1) 0)]/\st=⟨((B.set la0 ([.clo 200 [.box lx0_ok 0],.val (.bool d)])).set lx0_ok ([.val (.bool c)]))++([a1.cs,a2.cs]++Xk3),Rk3,L⟩/\Owns Rw Rk3 []/\FT rec n a1 a2 d c=some r) ?_ ?_
 ·intro K4 ad
  refine rg [0,3,5,6,17,18,19] hs ?_
  apply Ao
  refine AB (fun m e st=>∃ (q:Int) (g:Bool) (b:Bool) (Xl6:Aj) (Rl6:Am),e=[(0,true,.box la0 0),(3,true,.val (.string a3)),(5,true,.box B.length 0),(6,true,.box (B.length+1) 0),(17,true,.list (a1.fields.map Gl) .none),(18,true,Ag (a1.fields.length:Int)),(19,true,Ag q)]/\st=⟨((B.set la0 ([.clo 200 [.box lx0_ok 0],.val (.bool g)])).set lx0_ok ([.val (.bool b)]))++([a1.cs,a2.cs]++Xl6),Rl6,L⟩/\Owns Rw Rl6 []/\Ed rec n a1 a2 a3 m q g b=some r) n ⟨0,a0_done,x0_ok,([]),Rw,ef hs,ef hs,w,h⟩ ?_
  rintro ml6 e st ⟨q,g,b,Xl6,Rl6,rfl,rfl,w,h⟩ Ul6 Vl6
  cases ml6 with
  | zero=>cases h
  | succ ml6 =>
  rw [Ed] at h
  refine A8 U z C GR (AA (AA k ow) ow) w ow ow ?_
  refine rg [0,3,5,6,17,18,19,20] hs ?_
  apply Ah;intro K8 Q
  refine BA h hs ?_ ?_<;>intro hs h
  rotate_left
  ·have t:=hs.1
   refine sx [0,3,5,6] hs ad ?_
   exact ⟨g,b,([]),Rl6,ef hs,ef hs,w,h⟩
  have t:=hs.1
  refine sk [0,3,5,6,17,18,19] hs Q ?_
  clear Q
  apply Ah;intro K10 F
  apply Ao
  obtain ⟨u,K,h⟩:=bind_some h
  obtain ⟨aa,ae,G⟩:=Bo K
  have j:=Bq (f:=Gl) G
  have hs:=Ac j hs
  refine rg [0,3,5,6,9,17,18,19] hs ?_
  obtain ⟨N,O,h⟩:=bind_some h
  refine rc 2 [0,3,5,6,9,10,11,17,18,19] hs ?_;intro K13 D
  refine Aq _ (TT w0 n _ _ _ a2 u.2.1 _ O) (hv hs) ?_
  refine ne hs D ?_
  clear D
  refine rg [0,3,5,6,9,10,17,18,19,30] hs ?_
  refine BA h hs ?_ ?_<;>intro hs h
  ·have l:=hs.1
   obtain ⟨ab,J,h⟩:=bind_some h
   obtain ⟨af,Y,h⟩:=bind_some h
   apply DF GP [8] [0,3,5,6,17,18,19] kr (fun s=>∃ (X:Aj) (rows:Am) (E:List AV) (v:List AV),s=⟨((B.set la0 E).set lx0_ok v)++([a1.cs,a2.cs,Ag u.1::(.val (.string u.2.1)::(Ag u.2.2.1::((u.2.2.2.1.cs)++([.list (u.2.2.2.2.map B6) .none])))),N.1.cs]++X),rows,L⟩) 2 (B.length+4)
   ·simp +decide only [go_sem,Nat.reduceAdd]
   ·rintro s ⟨X,rows,E,v,rfl⟩
    refine ⟨2,?_⟩
    rw [Ai];simp +decide only [go_sem,Nat.reduceAdd,BK,p,t,j,l]
    (repeat' apply Ac)<;>first | refine Aq _ (V9 w0 _ _ _ a3 u.2.1 _ J) (hv hs) ?_ | exact cl
    rw [Ai];simp +decide only [go_sem,Nat.reduceAdd,p,t,j,l]
    (repeat' apply Ac)<;>first | rfl | exact cl
   ·refine Good.mk [8] kr ⟨[],_,_,_,by first | rfl | simp only [List.append_nil,List.nil_append]⟩ ?_ ?_
    ·intro h;exact absurd h (by decide)
    ·intro i hi;simp only [List.mem_cons,List.not_mem_nil,or_false] at hi
     subst hi
     ·apply Aw rfl rfl ev
      ·simp +decide only [go_sem,Nat.reduceAdd,A7,p,t,j,l]
       (repeat' with_reducible apply Ac)<;>first | exact E7 (ih _ _ _ lx0_ok la0 g (ef hs) b (ef hs) nq u.2.2.2.1 N.1 ab _ Y) (hv hs) | rfl | exact cl
      ·simp +decide only [go_sem,Nat.reduceAdd,p,t,j,l]
       refine Good.mk [] kr ⟨[],_,_,_,by first | rfl | simp only [List.append_nil,List.nil_append]⟩ ?_ ?_
       ·intro _;apply BM [0,3,5,6,17,18,19];first | (simp +decide only [go_sem,Nat.reduceAdd,p,t,j,l];done) | (simp +decide only [go_sem,Nat.reduceAdd,p,t,j,l];rfl)
       ·intro i hi;cases hi
   simp +decide only [go_sem,Nat.reduceAdd,p,t,j,l]
   (repeat' apply Ac)<;>first | refine F _ _ ?_ | exact cl
   clear F
   exact go (tg (a:=([0,3,5,6,17,18,19],()))) h hs U z C k w trivial (q1 (fun e s=>Vl6 ml6 e s (Nat.lt_succ_self _)))
  have l:=hs.1
  exact nS h
 ·clear h;rintro e st ⟨d,c,Xk3,Rk3,rfl,rfl,w,h⟩
  rw [FT] at h
  refine A8 U z C GR (AA (AA k ow) ow) w ow ow ?_
  refine rg [0,3,5,51,52,53] hs ?_
  apply Ao
  refine AB (fun m e st=>∃ (o:Int) (Xl21:Aj) (Rl21:Am),e=[(0,true,.box la0 0),(3,true,.val (.string a3)),(5,true,.box B.length 0),(51,true,.list (a2.fields.map B7) .none),(52,true,Ag (a2.fields.length:Int)),(53,true,Ag o)]/\st=⟨((B.set la0 ([.clo 200 [.box lx0_ok 0],.val (.bool d)])).set lx0_ok ([.val (.bool c)]))++([a1.cs,a2.cs]++Xl21),Rl21,L⟩/\Owns Rw Rl21 []/\DK rec n a1 a2 d c m o=some r) n ⟨0,([]),Rk3,ef hs,ef hs,w,h⟩ ?_
  rintro ml21 e st ⟨o,Xl21,Rl21,rfl,rfl,w,h⟩ Ul21 Vl21
  cases ml21 with
  | zero=>cases h
  | succ ml21 =>
  rw [DK] at h
  refine A8 U z C GR (AA (AA k ow) ow) w ow ow ?_
  refine rg [0,3,5,51,52,53,54] hs ?_
  apply Ah;intro K23 V
  refine BA h hs ?_ ?_<;>intro hs h
  rotate_left
  ·have y:=hs.1
   refine CX (BW [] _) ?_ (BD _ _)
   apply D4;simp +decide only [go_sem,Nat.reduceAdd]
   (repeat' with_reducible apply Ac)<;>first | exact cl | skip
   have hgt:=Option.some.inj h;subst hgt
   first | refine Cb (AA (AA k ow) ow) GR w.pre ev ⟨?_,by first | rfl | (simp only [Bc hla0,Bc hlx0_ok];done)⟩ | refine Dq (AA (AA k ow) ow) GR w.pre ev ⟨?_,by first | rfl | (simp only [Bc hla0,Bc hlx0_ok];done)⟩
   first | rfl | (simp +decide only [go_sem,Nat.reduceAdd,p,y];done) | (simp +decide only [go_sem,Nat.reduceAdd,Vl.cs,Ty.cs,p,y];done)
  have y:=hs.1
  exact go (tg (a:=([0,3,5,51,52,53],[0,3,5,13,51,52,53],[0,3,5,13,15,51,52,53],[0,3,5,13,51,52,53,65],((),()),[0,3,5,51,52,53],[0,3,5,51,52,53],()))) h hs U z C k w (q1 (F2 w0 n)) (q2 V (fun e s=>Vl21 ml21 e s (Nat.lt_succ_self _)))
end Go.Proofs.YtcpmjgdlioggjaaGreatDoor
