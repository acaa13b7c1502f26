/-
  Part 2 of the proof: rules and walks that the claim's last text uses.
-/
import Derived.Attr
import Derived.OrdersIn
import Derived.RangeFuncIn
import Derived.StillTail
import Derived.Test.YtmcnjijeocmkgaaGreatDoorLa1
set_option linter.unusedSimpArgs false
set_option linter.unusedVariables false
set_option maxRecDepth 100000
set_option maxHeartbeats 4000000
namespace Go.Ev
open Go Go.RowKit
def FW (ro:Option Nat):Fence:={ Fence.wide with round:=ro }
theorem QU (ro:Option Nat) (f:FuncId):(FW ro).fn f:=trivial
theorem S0 (ro:Option Nat):(FW ro).depth.isSome=true→∀ n,1≤n:=fun h=>by cases h
theorem S5 {ro:Option Nat} {n:Nat} {P:Program} {f:FuncId} {args:Array Value} {w:World} {Q:Ending→World→Prop} (h:Calls P f args w Q):CallsIn (FW ro) n P f args w Q:=by
 cases ro with
 | none=>exact callsIn_wide.2 h
 | some l=>exact CallsIn.inRound (F:=Fence.wide) l (callsIn_wide.2 h)
theorem QS {n:Nat} {P:Program} {f:FuncId} {args:Array Value} {w:World} {Q:Ending→World→Prop} (h:CallsIn (FW none) n P f args w Q):Calls P f args w Q:=callsIn_wide.1 h
def Jl (P:Program) (f:FuncId):Prop:=∀ args w,(callFunc f args).run P w = .ok (.enter f args) w
def Comes' (w0:World) (M:Mem) (w:World) (Post:AV→St→Prop) (en:Ending) (w':World):Prop :=
 ∃ v M' r st',en = .returned v∧Post r st'∧Ext w0 M w M' w'∧RelSt w0 M' st' w'∧R w0 M' w' v r
def ACalls (P:Program) (w0:World) (f:FuncId) (args:List AV) (st:St) (Post:AV→St→Prop):Prop :=
 Jl P f∧∀ (M:Mem) (w:World) (vals:Array Value),RelSt w0 M st w→RowR w0 M w vals args→Calls P f vals w (Comes' w0 M w Post)
theorem Comes'.mono {w0:World} {M:Mem} {w:World} {Post Post':AV→St→Prop} (hp:∀ r s,Post r s→Post' r s) {en:Ending} {w':World} (h:Comes' w0 M w Post en w'):Comes' w0 M w Post' en w' :=
 let ⟨v,M',r,st',a1,a2,a3,a4,a5⟩:=h;⟨v,M',r,st',a1,hp _ _ a2,a3,a4,a5⟩
theorem ACalls.mono {P:Program} {w0:World} {f:FuncId} {args:List AV} {st:St} {Post Post':AV→St→Prop} (h:ACalls P w0 f args st Post) (hp:∀ r s,Post r s→Post' r s):ACalls P w0 f args st Post' :=
 ⟨h.1,fun M w a b c=>(h.2 M w a b c).mono fun _ _ h=>h.mono hp⟩
def TO (P:Program) (w0:World) (k:Nat) (args:List AV) (st:St) (Post:AV→St→Prop):Prop :=
 ∀ (M:Mem) (w:World) (vals:Array Value),RelSt w0 M st w→RowR w0 M w vals args →
  ∃ fn tmps asg body,(Instr.yield (M.lb k) vals).run P w = .ok (.round (M.lb k) fn tmps asg body) w∧∀ n,RoundIn Fence.wide n P (M.lb k) fn tmps asg body w (Comes' w0 M w Post)
def L6 (P:Program) (w0:World) (fv:AV) (args:List AV) (st:St) (Post:AV→St→Prop):Prop :=
 match fv with
 | .clo f cs=>ACalls P w0 f (args++cs) st Post
 | .yld k=>TO P w0 k args st Post
 | _=>False
def JA (e:Env) (dst:Option Nat) (c:Bool) (v:AV):Env :=
 match dst with
 | some d=>(d,c,v)::e
 | none=>e
def Js (n:Nat):Option Nat→Prop
 | some d=>d<n
 | none=>True
def BK (all:List Oper) (e:Env):Option (Nat × Bool)→Bool
 | none=>true
 | some (j,want)=>match (all[j]?).bind (·.dst) with
  | some d=>match look e d with
   | some (cj,.val (.bool b))=>cj&&(b == want)
   | _=>false
  | none=>false
def JE (all:List Oper) (e:Env):Option (Nat × Bool)→Prop
 | none=>True
 | some (j,_)=>match (all[j]?).bind (·.dst) with
  | some d=>match look e d with
   | some (_,v)=>Ui v=true
   | none=>False
  | none=>False
def Jc:List Operand→List Nat
 | []=>[]
 | .tmp t::r=>t::Jc r
 | _::r=>Jc r
def ZcG (all:List Oper):Option (Nat × Bool)→List Nat
 | none=>[]
 | some (j,_)=>((all[j]?).bind (·.dst)).toList
def looks (all:List Oper) (o:Oper):List Nat:=1000000::(Jc o.op.operands.toList++ZcG all o.guard)
def BP (d:Bool) (all:List Oper) (o:Oper) (e:Env):Env:=if d then Du (looks all o) e else e
def Jp (P:Program) (w0:World) (c d:Bool) (fv:AV) (args:List AV) (st:St) (k:AV→St→Prop):Prop :=
 (∃ v,(c=true→L6 P w0 fv args st fun r s=>r=v∧s=st)∧k v st) ∨
 (d=false∧∃ Post,(c=true→L6 P w0 fv args st Post)∧∀ v st',(c=true→Post v st')→(c=false→st'=st)→k v st')
theorem Xj {P:Program} {w0:World} {c d:Bool} {f:FuncId} {cs args:List AV} {st:St} {k:AV→St→Prop} (v:AV)
  (h:ACalls P w0 f (args++cs) st fun r s=>r=v∧s=st) (hk:k v st):Jp P w0 c d (.clo f cs) args st k := .inl ⟨v,fun _=>h,hk⟩
theorem Tz {P:Program} {w0:World} {f:FuncId} {cs args:List AV} {st:St} {k:AV→St→Prop} (Post:AV→St→Prop)
  (h:ACalls P w0 f (args++cs) st Post) (hk:∀ v s,Post v s→k v s):Jp P w0 true false (.clo f cs) args st k := .inr ⟨rfl,Post,fun _=>h,fun v s a _=>hk v s (a rfl)⟩
theorem XJ {P:Program} {w0:World} {c:Bool} {i:Nat} {args:List AV} {st:St} {k:AV→St→Prop} (Post:AV→St→Prop)
  (h:c=true→TO P w0 i args st Post) (hk:∀ v s,(c=true→Post v s)→(c=false→s=st)→k v s):Jp P w0 c false (.yld i) args st k := .inr ⟨rfl,Post,h,hk⟩
def argP (e:Env) (x:AV):AV:=if Iz e 0=true then x else x.pub
theorem R.argP {w0:World} {M:Mem} {w:World} {v:Value} {x:AV} (e:Env) (h:R w0 M w v x):R w0 M w v (Go.Ev.argP e x):=by
 unfold Go.Ev.argP
 split
 ·exact h
 ·exact h.pub
def Zck (e:Env) (g:Nat):AV :=
 match look e (2000000+g) with
 | some (_,x)=>x
 | none => .junk
def ZfF (P:Program) (w0:World) (t:TypeId) (g:Nat) (x:AV):Prop :=
 ∀ (M:Mem) (w:World),Below w0.heap.size w0 w→∃ v,(Instr.loadAt t (.pointer (some ⟨g,0,none⟩))).run P w = .ok v w∧R w0 M w v x
def ZH (P:Program) (w0:World) (n:Nat) (d:Bool) (all:List Oper) (R:List Oper→Env→St→Prop) (K:Env→St→Prop):List Oper→Env→St→Prop
 | [],e,st=>K e st
 | o::os,e,st =>
  JE all (BP d all o e) o.guard∧Js n o.dst ∧
  match o.op with
  | .call ⟨.value f,args,_⟩ =>
   (BK all (BP d all o e) o.guard=true→AH (BP d all o e) true f∧∀ x∈args.toList,AH (BP d all o e) true x) ∧
   Jp P w0 (BK all (BP d all o e) o.guard) d (Az (BP d all o e) f) (args.toList.map fun x=>argP (BP d all o e) (Az (BP d all o e) x)) st
    fun v st'=>R os (JA e o.dst (BK all (BP d all o e) o.guard) v) st'
  | .load t (.global g)=>(d=false∧(BK all (BP d all o e) o.guard=true→ZfF P w0 t g (Zck e g)))∧ZH P w0 n d all R K os (JA e o.dst (BK all (BP d all o e) o.guard) (Zck e g)) st
  | op=>match AZ P (BP d all o e) (BK all (BP d all o e) o.guard) st op with
   | (ob,v,st')=>(BK all (BP d all o e) o.guard=true→ob)∧((BK all (BP d all o e) o.guard=false∨d=true)→st'=st)∧ZH P w0 n d all R K os (JA e o.dst (BK all (BP d all o e) o.guard) v) st'
def Q9 (P:Program) (w0:World) (n:Nat) (d:Bool) (all:List Oper) (K:Env→St→Prop):Nat→List Oper→Env→St→Prop
 | 0,_,_,_=>False
 | c+1,os,e,st=>ZH P w0 n d all (Q9 P w0 n d all K c) K os e st
theorem Ap {P:Program} {w0:World} {n:Nat} {d:Bool} {all:List Oper} {K:Env→St→Prop} {c:Nat} {os:List Oper} {e:Env} {st:St}:Q9 P w0 n d all K (c+1) os e st=ZH P w0 n d all (Q9 P w0 n d all K c) K os e st:=rfl
def Kx:Op→Bool
 | .call ⟨.value _,_,_⟩=>true
 | _=>false
def Zgh:Op→Bool
 | .load _ (.global _)=>true
 | _=>false
theorem Uy {P:Program} {w0:World} {n:Nat} {d:Bool} {all:List Oper} {R:List Oper→Env→St→Prop} {K:Env→St→Prop} {o:Oper} {os:List Oper} {e:Env} {st:St} (hc:¬ Kx o.op=true) (hgl:¬ Zgh o.op=true) :
  ZH P w0 n d all R K (o::os) e st=(JE all (BP d all o e) o.guard∧Js n o.dst∧match AZ P (BP d all o e) (BK all (BP d all o e) o.guard) st o.op with
   | (ob,v,st')=>(BK all (BP d all o e) o.guard=true→ob)∧((BK all (BP d all o e) o.guard=false∨d=true)→st'=st)∧ZH P w0 n d all R K os (JA e o.dst (BK all (BP d all o e) o.guard) v) st'):=by
 obtain ⟨dst,op,b,c,a,guard⟩:=o
 cases op with
 | call cc =>
  obtain ⟨callee,args,h⟩:=cc
  cases callee with
  | value f=>exact absurd rfl hc
  | _=>rfl
 | load t y =>
  cases y with
  | global g=>exact absurd rfl hgl
  | _=>rfl
 | _=>rfl
section
variable {P:Program} {w0:World} {n:Nat} {M:Mem} {e:Env} {st:St} {a:Act} {w:World}
theorem P5 (h:Rel w0 n M e st a w) (ro:Option Nat) (m:Nat) (o:Oper) (hob:(AZ P e true st o.op).1) (Q:Exit→Act→World→Prop) (K:Act→World→Prop)
  (hK:∀ v w' M',Ext w0 M w M' w'→RelSt w0 M' (AZ P e true st o.op).2.2 w'→R w0 M' w' v (AZ P e true st o.op).2.1→K (a.put o.dst v) w'):o.wpIn (FW ro) m P a w K Q:=by
 have hd:∀ c,o.op ≠ .defer c:=by
  intro c j
  rw [j] at hob
  exact hob
 obtain ⟨v,w',M',b,g,d,i⟩:=Zcr (P:=P) h o hob
 refine ⟨fun f _=>QU ro f,?_⟩
 have hs:Oper.semAt (FW ro).round a.eval o=execOp a.eval o:=by
  cases ro with
  | none=>rfl
  | some l=>exact Oper.semAt_some l a.eval o hd
 rw [hs]
 rcases b with b | ⟨b,rfl⟩
 ·rw [b];exact hK v w' M' g d i
 ·rw [b];exact hK _ w' M' g d i
theorem ZD {v:Value} {f:FuncId} {xs:List AV} (h:R w0 M w v (.clo f xs)):∃ cs,v = .func (.func f) #[] cs∧RowR w0 M w cs xs:=by
 cases h with
 | clo hl h=>exact ⟨_,rfl,hl,h⟩
theorem ZeM {v:Value} {k:Nat} (h:R w0 M w v (.yld k)):v = .func (.yield (M.lb k)) #[] #[]:=by
 cases h with
 | yld hk=>rfl
theorem ZeD (h:Rel w0 n M e st a w) {args:Array Operand} (hargs:∀ x∈args.toList,AH e true x):RowR w0 M w (args.map a.eval) (args.toList.map fun x=>argP e (Az e x)):=by
 refine .mk (by simp) (fun i u y hu hy=>?_)
 by_cases c:i<args.size
 ·simp only [Array.getElem?_map,Array.getElem?_eq_getElem c,Option.map_some,Option.some.injEq] at hu
  simp only [List.getElem?_map,Array.getElem?_toList,Array.getElem?_eq_getElem c,Option.map_some,Option.some.injEq] at hy
  subst hu;subst hy
  exact (A2 h (hargs _ (by simp))).argP e
 ·simp [Array.getElem?_eq_none (Nat.le_of_not_lt c)] at hu
theorem RowR.append {cs ds:Array Value} {xs ys:List AV} (h:RowR w0 M w cs xs) (k:RowR w0 M w ds ys):RowR w0 M w (cs++ds) (xs++ys):=by
 refine .mk (by simp [h.1,k.1]) (fun i u y a b=>?_)
 by_cases c:i<cs.size
 ·rw [Array.getElem?_append_left c] at a
  rw [List.getElem?_append_left (h.1▸c)] at b
  exact h.get a b
 ·rw [Array.getElem?_append_right (by omega)] at a
  rw [List.getElem?_append_right (by have:=h.1;omega)] at b
  rw [h.1] at a
  exact k.get a b
theorem JM (h:Rel w0 n M e st a w) (ro:Option Nat) (m:Nat) {dst:Option Tmp} {f:Operand} {args:Array Operand} {ts:Array TypeId} {type:TypeId} {pos:String} {after:Array Edge} {guard:Option (Nat × Bool)}
  (hf:AH e true f) (hargs:∀ x∈args.toList,AH e true x) {Post:AV→St→Prop} (hv:L6 P w0 (Az e f) (args.toList.map fun x=>argP e (Az e x)) st Post) (Q:Exit→Act→World→Prop) (K:Act→World→Prop)
  (hK:∀ r s,Post r s→∀ v w' M',Ext w0 M w M' w'→RelSt w0 M' s w'→R w0 M' w' v r→K (a.put dst v) w') :
  (⟨dst,.call ⟨.value f,args,ts⟩,type,pos,after,guard⟩:Oper).wpIn (FW ro) m P a w K Q:=by
 have i:=ZeD h hargs
 have p:=A2 h hf
 refine ⟨fun f _=>QU ro f,?_⟩
 have hs:Oper.semAt (FW ro).round a.eval ⟨dst,.call ⟨.value f,args,ts⟩,type,pos,after,guard⟩=execOp a.eval ⟨dst,.call ⟨.value f,args,ts⟩,type,pos,after,guard⟩:=by
  cases ro with
  | none=>rfl
  | some l=>exact Oper.semAt_some l a.eval _ (fun c hh=>by cases hh)
 rw [hs]
 cases hx:Az e f with
 | clo g xs =>
  rw [hx] at p hv
  obtain ⟨cs,ef,z⟩:=ZD p
  have b:(execOp a.eval ⟨dst,.call ⟨.value f,args,ts⟩,type,pos,after,guard⟩).run P w = .ok (.enter g (args.map a.eval++cs)) w:=by
   simp [execOp,resolve,ef,Deferred.ofValue,invoke,hv.1 (args.map a.eval++cs) w]
  rw [b]
  refine ⟨fun q=>S0 ro q m,S5 ((hv.2 M w _ h.st (i.append z)).mono ?_)⟩
  rintro en w' ⟨D,M',r,s,rfl,t,y,u,C⟩
  exact hK r s t D w' M' y u C
 | yld k =>
  rw [hx] at p hv
  have ef:=ZeM p
  obtain ⟨H,o,E,j,G,d⟩:=hv M w _ h.st i
  have b:(execOp a.eval ⟨dst,.call ⟨.value f,args,ts⟩,type,pos,after,guard⟩).run P w = .ok (.round (M.lb k) H o E j) w:=by
   simp [execOp,resolve,ef,Deferred.ofValue,invoke,G]
  rw [b]
  refine ⟨fun q=>S0 ro q m,?_⟩
  have:=d (m-1)
  refine RoundIn.mono (F:=FW ro) (by cases ro<;>exact this) ?_
  rintro en w' ⟨D,M',r,s,rfl,t,y,u,C⟩
  exact hK r s t D w' M' y u C
 | _=>rw [hx] at hv;exact hv.elim
theorem JL (a:Act) (dst:Option Nat) (v:Value) (s:Nat) (hd:Js a.tmps.size dst):(a.put dst v).tmps.getD s undef=if dst=some s then v else a.tmps.getD s undef:=by
 cases dst with
 | none=>simp [Act.put]
 | some d =>
  simp only [Js] at hd
  simp only [Act.put,Option.some.injEq]
  by_cases c:d=s
  ·subst c
   simp [hd]
  ·rw [Aj c]
   simp [Array.getElem?_setIfInBounds_ne c]
theorem Pz (a:Act) (dst:Option Nat) (v:Value):(a.put dst v).tmps.size=a.tmps.size:=by cases dst<;>simp [Act.put]
theorem G5 (a:Act) (dst:Option Nat) (v:Value):(a.put dst v).defers=a.defers:=by cases dst<;>rfl
theorem Rel.put (h:Rel w0 n M e st a w) {M':Mem} {w':World} {st':St} (hx:Ext w0 M w M' w') (hst:RelSt w0 M' st' w') {dst:Option Nat} (hd:Js n dst) {c:Bool} {v:Value} {r:AV} (hv:entryOk w0 M' w' v (c,r)) :
  Rel w0 n M' (JA e dst c r) st' (a.put dst v) w':=by
 refine ⟨hst,by rw [Pz];exact h.size,fun s x hs=>?_⟩
 rw [JL a dst v s (by rw [h.size];exact hd)]
 cases dst with
 | none=>exact (h.env s x hs).mono hx
 | some d =>
  simp only [JA,look] at hs
  simp only [Option.some.injEq]
  by_cases q:d=s
  ·rw [Ai q] at hs ⊢
   cases hs
   exact hv
  ·rw [Aj q] at hs ⊢
   exact (h.env s x hs).mono hx
theorem VU {ops:Array Oper} {ts:Array Value} {j d:Nat} (h:(ops[j]?).bind (·.dst)=some d):yielded ops ts j=match ts.getD d undef with | .bool b=>some b | _=>none:=by
 unfold yielded
 simp only [h]
 rw [Array.getD_eq_getD_getElem?]
 change (match ts[(d:Nat)]? with | some (.bool b)=>some b | _=>none)=_
 cases ts[(d:Nat)]? with
 | none=>rfl
 | some v=>cases v<;>rfl
theorem KP (h:Rel w0 n M e st a w) {all:List Oper} {o:Oper} (hg:JE all e o.guard):Region.wanted o (yielded all.toArray a.tmps)=BK all e o.guard:=by
 unfold Region.wanted BK
 cases hgd:o.guard with
 | none=>rfl
 | some p =>
  obtain ⟨j,want⟩:=p
  rw [hgd] at hg
  simp only [JE] at hg
  have f:(all.toArray[j]?).bind (·.dst)=(all[j]?).bind (·.dst):=by simp
  dsimp only
  cases hd:(all[j]?).bind (·.dst) with
  | none=>simp [hd] at hg
  | some d =>
   rw [VU (f.trans hd)]
   simp only [hd] at hg ⊢
   cases hl:look e d with
   | none=>simp [hl] at hg
   | some x =>
    obtain ⟨cj,v⟩:=x
    simp only [hl] at hg ⊢
    have c:=h.env d _ hl
    cases v with
    | val u =>
     cases u<;>try cases hg
     rename_i b
     unfold entryOk at c
     cases cj with
     | true =>
      rw [Ai rfl] at c
      obtain ⟨g,_⟩:=c.val_inv
      rw [g]
      cases b<;>cases want<;>rfl
     | false =>
      rw [Aj (by simp)] at c
      rw [c]
      rfl
    | _=>cases hg
def ZcD (e' e:Env):Prop:=∀ s x,look e' s=some x→look e s=some x
theorem Rel.sub {e':Env} (h:Rel w0 n M e st a w) (hs:ZcD e' e):Rel w0 n M e' st a w:=⟨h.st,h.size,fun s x b=>h.env s x (hs s x b)⟩
theorem Ig:∀ (K:List Nat) (e:Env) (s:Nat) (x:Bool × AV),look (Du K e) s=some x→look e s=some x
 | [],_,_,_,h=>by simp [Du,look] at h
 | k::K,e,s,x,h=>by
  simp only [Du] at h
  cases hk:look e k with
  | none =>
   simp only [hk] at h
   exact Ig K e s x h
  | some y =>
   obtain ⟨c,v⟩:=y
   simp only [hk,look] at h
   by_cases q:k=s
   ·rw [Ai q] at h
    subst q
    rw [hk];exact h
   ·rw [Aj q] at h
    exact Ig K e s x h
theorem D2 (K:List Nat) (e:Env):ZcD (Du K e) e:=Ig K e
theorem Lu:∀ (K:List Nat) (e:Env) (s:Nat) (x:Bool × AV),look (Du K e) s=some x→s∈K
 | [],_,_,_,h=>by simp [Du,look] at h
 | k::K,e,s,x,h=>by
  simp only [Du] at h
  cases hk:look e k with
  | none =>
   simp only [hk] at h
   exact List.mem_cons_of_mem _ (Lu K e s x h)
  | some y =>
   obtain ⟨c,v⟩:=y
   simp only [hk,look] at h
   by_cases q:k=s
   ·exact q▸List.mem_cons_self
   ·rw [Aj q] at h
    exact List.mem_cons_of_mem _ (Lu K e s x h)
theorem Zcu (d:Bool) (all:List Oper) (o:Oper) (e:Env):ZcD (BP d all o e) e:=by
 unfold BP
 split
 ·exact D2 _ _
 ·exact fun _ _ h=>h
theorem PZ (ro:Option Nat) (m:Nat) (d:Bool) (all:List Oper) (KK:Env→St→Prop) (Q:Exit→Act→World→Prop):∀ (c:Nat) (os:List Oper) (e:Env) (st:St) (a:Act) (w:World) (M:Mem),Rel w0 n M e st a w →
  Q9 P w0 n d all KK c os e st→(∀ e' st' a' w' M',KK e' st'→Rel w0 n M' e' st' a' w'→Ext w0 M w M' w'→a'.defers=a.defers→Q .normal a' w')→wpListIn (FW ro) m P all.toArray Q os a w
 | 0,_,_,_,_,_,_,_,h,_=>h.elim
 | c+1,os,e,st,a,w,M,hr,h,C=>by
  have G:∀ (os:List Oper) (e:Env) (st:St) (a:Act) (w:World) (M:Mem),Rel w0 n M e st a w→ZH P w0 n d all (Q9 P w0 n d all KK c) KK os e st →
    (∀ e' st' a' w' M',KK e' st'→Rel w0 n M' e' st' a' w'→Ext w0 M w M' w'→a'.defers=a.defers→Q .normal a' w')→wpListIn (FW ro) m P all.toArray Q os a w:=by
   intro os
   induction os with
   | nil=>exact fun e st a w M hr h C=>C e st a w M h hr (.refl _ _ _) rfl
   | cons o os ih =>
    intro e st a w M hr h C
    have hv:=Zcu d all o e
    have k:=hr.sub hv
    by_cases hc:Kx o.op=true
    ·obtain ⟨dst,op,type,pos,after,guard⟩:=o
     cases op<;>try cases hc
     rename_i cc
     obtain ⟨callee,args,ts⟩:=cc
     cases callee<;>try cases hc
     rename_i f
     simp only [ZH] at h
     obtain ⟨E,hd,z,x⟩:=h
     unfold wpListIn
     rw [KP k E]
     have go:∀ v s,Q9 P w0 n d all KK c os (JA e dst (BK all (BP d all ⟨dst,.call ⟨.value f,args,ts⟩,type,pos,after,guard⟩ e) guard) v) s→∀ u w' M',Ext w0 M w M' w'→RelSt w0 M' s w' →
       entryOk w0 M' w' u (BK all (BP d all ⟨dst,.call ⟨.value f,args,ts⟩,type,pos,after,guard⟩ e) guard,v)→wpListIn (FW ro) m P all.toArray Q os (a.put dst u) w':=by
      intro v s N u w' M' hx hst hu
      exact PZ ro m d all KK Q c os _ _ _ _ M' (hr.put hx hst hd hu) N (fun e' st' a' b i p j O K=>C e' st' a' b i p j (hx.trans O) (K.trans (G5 a dst u)))
     cases hcc:BK all (BP d all ⟨dst,.call ⟨.value f,args,ts⟩,type,pos,after,guard⟩ e) guard with
     | true =>
      rw [hcc] at z x go
      obtain ⟨Y,U⟩:=z rfl
      rw [Ai rfl]
      rcases x with ⟨v,p,j⟩ | ⟨_,Post,p,j⟩
      ·refine JM k ro m Y U (p rfl) Q _ (fun r s H u w' M' hx hst hu=>?_)
       obtain ⟨rfl,rfl⟩:=H
       exact go _ _ j u w' M' hx hst hu
      ·exact JM k ro m Y U (p rfl) Q _ (fun r s H u w' M' hx hst hu=>go _ _ (j r s (fun _=>H) (fun q=>by cases q)) u w' M' hx hst hu)
     | false =>
      rw [hcc] at z x go
      rw [Aj (by simp)]
      refine ⟨fun g _=>QU ro g,?_⟩
      rcases x with ⟨v,p,j⟩ | ⟨_,Post,p,j⟩
      ·exact go _ _ j undef w M (.refl _ _ _) hr.st rfl
      ·exact go .junk st (j .junk st (fun q=>by cases q) (fun _=>rfl)) undef w M (.refl _ _ _) hr.st rfl
    by_cases hgl:Zgh o.op=true
    ·obtain ⟨dst,op,type,pos,after,guard⟩:=o
     cases op<;>try cases hgl
     rename_i t y
     cases y<;>try cases hgl
     rename_i g
     simp only [ZH] at h
     obtain ⟨E,hd,⟨_,z⟩,x⟩:=h
     unfold wpListIn
     rw [KP k E]
     cases hcc:BK all (BP d all ⟨dst,.load t (.global g),type,pos,after,guard⟩ e) guard with
     | true =>
      rw [hcc] at z x
      rw [Ai rfl]
      obtain ⟨v,p,j⟩:=z rfl M w hr.st.below
      refine ⟨fun f _=>QU ro f,?_⟩
      have hs:Oper.semAt (FW ro).round a.eval ⟨dst,.load t (.global g),type,pos,after,guard⟩=execOp a.eval ⟨dst,.load t (.global g),type,pos,after,guard⟩:=by
       cases ro with
       | none=>rfl
       | some l=>exact Oper.semAt_some l a.eval _ (fun c hh=>by cases hh)
      have F:(execOp a.eval ⟨dst,.load t (.global g),type,pos,after,guard⟩).run P w = .ok (.value v) w:=by
       have Z:a.eval (.global g) = .pointer (some ⟨g,0,none⟩):=rfl
       simp [execOp,Z,p]
      rw [hs,F]
      exact ih _ _ _ _ M (hr.put (.refl _ _ _) hr.st hd (c:=true) (show entryOk w0 M w v (true,_) from j)) x (fun e' st' a' b i q1 q2 q3 J=>C e' st' a' b i q1 q2 q3 (J.trans (G5 a dst v)))
     | false =>
      rw [hcc] at x
      rw [Aj (by simp)]
      refine ⟨fun f _=>QU ro f,ih _ _ _ _ M (hr.put (.refl _ _ _) hr.st hd (c:=false) (show entryOk w0 M w undef (false,_) from rfl)) x (fun e' st' a' b i q1 q2 q3 J=>C e' st' a' b i q1 q2 q3 (J.trans (G5 a dst undef)))⟩
    ·rw [Uy hc hgl] at h
     obtain ⟨E,hd,z,V,D⟩:=h
     unfold wpListIn
     rw [KP k E]
     have go:∀ u w' M',Ext w0 M w M' w'→RelSt w0 M' (AZ P (BP d all o e) (BK all (BP d all o e) o.guard) st o.op).2.2 w' →
       entryOk w0 M' w' u (BK all (BP d all o e) o.guard,(AZ P (BP d all o e) (BK all (BP d all o e) o.guard) st o.op).2.1)→wpListIn (FW ro) m P all.toArray Q os (a.put o.dst u) w':=by
      intro u w' M' hx hst hu
      exact ih _ _ _ _ M' (hr.put hx hst hd hu) D (fun e' st' a' b i p j O K=>C e' st' a' b i p j (hx.trans O) (K.trans (G5 a o.dst u)))
     cases hcc:BK all (BP d all o e) o.guard with
     | true =>
      rw [hcc] at z go
      rw [Ai rfl]
      exact P5 k ro m o (z rfl) Q _ (fun v w' M' hx hst hv=>go v w' M' hx hst hv)
     | false =>
      rw [hcc] at V go
      rw [Aj (by simp)]
      refine ⟨fun g _=>QU ro g,go undef w M (.refl _ _ _) ?_ rfl⟩
      have q:(AZ P (BP d all o e) false st o.op).2.2=st:=V (.inl rfl)
      rw [q]
      exact hr.st
  exact G os e st a w M hr h C
end
def Marked (W0:World) (ds:List Deferred) (w:World):Prop :=
 ∃ Ds:List Nat,Ds.Nodup∧ds=Ds.map (fun D=>{ target := .collected D,args := #[] })∧∀ D∈Ds,W0.heap.size≤D∧w.heap[D]? = some (.deferred (some []))
abbrev AQ:=Exit→Env→St→Prop
structure At (w0:World) (n:Nat) (M0:Mem) (W0:World) (e:Env) (st:St) (a:Act) (w:World) (M:Mem):Prop where
 rel:Rel w0 n M e st a w
 ext:Ext w0 M0 W0 M w
 marks:Marked W0 a.defers w
def ZhT (w0:World) (n:Nat) (M0:Mem) (W0:World) (Q:AQ) (x:Exit) (a':Act) (w':World):Prop :=
 ∃ M' e' st',At w0 n M0 W0 e' st' a' w' M'∧Q x e' st'
def DF (P:Program) (w0:World) (n:Nat) (M0:Mem) (W0:World) (ro:Option Nat) (c:Code) (Q:AQ) (e:Env) (st:St):Prop :=
 ∀ m M a w,At w0 n M0 W0 e st a w M→c.wpIn (FW ro) m P (ZhT w0 n M0 W0 Q) a w
def UQ (K:Env→St→Prop) (Q:AQ):AQ
 | .normal,e,st=>K e st
 | x,e,st=>Q x e st
def Ti (id:Nat) (Q:AQ):AQ
 | .exit i,e,st=>if i=id then Q .normal e st else Q (.exit i) e st
 | x,e,st=>Q x e st
section
variable {P:Program} {w0:World} {n:Nat} {M0:Mem} {W0:World} {ro:Option Nat} {Q:AQ} {e:Env} {st:St}
theorem Zct {c:Code} {Q':AQ} (h:DF P w0 n M0 W0 ro c Q e st) (hq:∀ x e s,Q x e s→Q' x e s):DF P w0 n M0 W0 ro c Q' e st :=
 fun m M a w b=>wpIn_mono (h m M a w b) fun _ _ _ ⟨M',i,d,f,g⟩=>⟨M',i,d,f,hq _ _ _ g⟩
theorem At.sub {M:Mem} {a:Act} {w:World} {e':Env} (h:At w0 n M0 W0 e st a w M) (hs:ZcD e' e):At w0 n M0 W0 e' st a w M:=⟨h.rel.sub hs,h.ext,h.marks⟩
theorem Marked.later {M M':Mem} {ds:List Deferred} {w w':World} (h:Marked W0 ds w) (hx:Ext w0 M w M' w') (hl:RelSt w0 M st w):Marked W0 ds w':=by
 obtain ⟨Ds,f,d,a⟩:=h
 refine ⟨Ds,f,d,fun D b=>⟨(a D b).1,hx.objs D _ (a D b).2 rfl fun k g e=>?_⟩⟩
 have c:k<st.loops.length:=by rw [←hl.loop.NL];exact g
 obtain ⟨_,r,hr,_⟩:=hl.loop.record k _ (List.getElem?_eq_getElem c)
 rw [e,(a D b).2] at hr
 cases hr
theorem LR {c:Code} (e':Env) (h:DF P w0 n M0 W0 ro c Q e' st) (hs:ZcD e' e):DF P w0 n M0 W0 ro c Q e st:=fun m M a w b=>h m M a w (b.sub hs)
theorem Au (c:Nat) (L:List Nat) {id:Nat} {l:List Oper} (h:Q9 P w0 n false l (fun e' st'=>Q .normal (Du L e') st') c l e st):DF P w0 n M0 W0 ro (.region id l.toArray false) Q e st:=by
 intro m M a w b
 refine wpIn_region_lit (PZ ro m false l _ _ c l e st a w M b.rel h fun e' st' o k i j f d g=>⟨i,_,_,⟨f.sub (D2 L _),b.ext.trans d,?_⟩,j⟩)
 rw [g]
 exact b.marks.later d b.rel.st
theorem EH (h:Q .normal e st):DF P w0 n M0 W0 ro .skip Q e st:=fun _ M _ _ a=>wpIn_skip ⟨M,e,st,a,h⟩
theorem I4 {id:Nat} (h:Q (.exit id) e st):DF P w0 n M0 W0 ro (.exit id) Q e st:=fun _ M _ _ a=>wpIn_exit ⟨M,e,st,a,h⟩
theorem A0 (h:Q .ret e st):DF P w0 n M0 W0 ro .ret Q e st:=fun _ M _ _ a=>wpIn_ret ⟨M,e,st,a,h⟩
theorem An {x y:Code} (h:∀ K:Env→St→Prop,(∀ e s,DF P w0 n M0 W0 ro y Q e s→K e s)→DF P w0 n M0 W0 ro x (UQ K Q) e st):DF P w0 n M0 W0 ro (.seq x y) Q e st:=by
 intro m M a w f
 refine wpIn_seq (wpIn_mono (h (DF P w0 n M0 W0 ro y Q) (fun _ _ h=>h) m M a w f) ?_)
 rintro ex i d ⟨M',j,g,b,c⟩
 cases ex with
 | normal=>exact c m M' i d b
 | _=>exact ⟨M',j,g,b,c⟩
theorem AB {x y:Code} (I:Env→St→Prop) (hx:∀ K:Env→St→Prop,(∀ e s,I e s→K e s)→DF P w0 n M0 W0 ro x (UQ K Q) e st) (hy:∀ e s,I e s→DF P w0 n M0 W0 ro y Q e s):DF P w0 n M0 W0 ro (.seq x y) Q e st :=
 An fun K a=>Zct (hx I fun _ _ h=>h) fun ex e s h=>by
  cases ex with
  | normal=>exact a e s (hy e s h)
  | _=>exact h
theorem Ar {id:Nat} {c:Code} (h:DF P w0 n M0 W0 ro c (Ti id Q) e st):DF P w0 n M0 W0 ro (.block id c) Q e st:=by
 intro m M a w j
 refine wpIn_block (wpIn_mono (h m M a w j) ?_)
 rintro ex l k ⟨M',g,d,f,b⟩
 cases ex with
 | exit i =>
  simp only [Ti] at b
  simp only [Exit.inBlock]
  split at b<;>rename_i hc
  ·rw [Ai hc];exact ⟨M',g,d,f,b⟩
  ·rw [Aj hc];exact ⟨M',g,d,f,b⟩
 | _=>exact ⟨M',g,d,f,b⟩
theorem A4 {c:Operand} {x y:Code} (b:Bool) (hc:AH e true c) (hb:Az e c = .val (.bool b)) (ht:b=true→DF P w0 n M0 W0 ro x Q e st) (hf:b=false→DF P w0 n M0 W0 ro y Q e st):DF P w0 n M0 W0 ro (.cond c x y) Q e st:=by
 intro m M a w d
 have hv:=A2 d.rel hc
 rw [hb] at hv
 have ev:a.eval c = .bool b:=hv.val_inv.1
 exact wpIn_cond_split ev (fun h=>ht h m M a w d) (fun h=>hf h m M a w d)
theorem MD (p:Nat→Prop) (h:∃ k,p k):∃ k,p k∧∀ m,p m→k≤m:=by
 obtain ⟨k,a⟩:=h
 induction k using Nat.strongRecOn with
 | _ k ih =>
  by_cases c:∃ m,m<k∧p m
  ·obtain ⟨m,b,e⟩:=c
   exact ih m b e
  ·exact ⟨k,a,fun m d=>by
    by_cases c':m<k
    ·exact absurd ⟨m,c',d⟩ c
    ·omega⟩
theorem AC {c:Code} (I:Nat→Env→St→Prop) (k0:Nat) (h0:I k0 e st) (round:∀ k e s,I k e s→∀ K:Env→St→Prop,(∀ k' e' s',k'<k→I k' e' s'→K e' s')→DF P w0 n M0 W0 ro c (UQ K Q) e s):DF P w0 n M0 W0 ro (.loop c) Q e st:=by
 intro m M a w r
 let J:Nat→Act→World→Prop:=fun k d b=>∃ M' e' s',At w0 n M0 W0 e' s' d b M'∧I k e' s'
 let μ:Act→World→Nat:=fun d b=>by
  classical exact if h:∃ k,J k d b then Classical.choose (MD (fun k=>J k d b) h) else 0
 have l:∀ d b k,J k d b→J (μ d b) d b∧μ d b≤k:=by
  intro d b k i
  have f:∃ k,J k d b:=⟨k,i⟩
  have:=Classical.choose_spec (MD (fun k=>J k d b) f)
  have e:μ d b=Classical.choose (MD (fun k=>J k d b) f):=by simp only [μ,dif_pos f]
  rw [e]
  exact ⟨this.1,this.2 k i⟩
 refine wpIn_loop (fun d b=>∃ k,J k d b) μ ⟨k0,M,e,st,r,h0⟩ ?_
 rintro a1 q ⟨k,i⟩
 obtain ⟨⟨M1,z,v,y,u⟩,_⟩:=l a1 q k i
 refine wpIn_mono (round _ z v u (fun e' s'=>∃ k',k'<_∧I k' e' s') (fun k' _ _ g t=>⟨k',g,t⟩) m M1 a1 q y) ?_
 rintro ex d b ⟨M',e',s',g,o⟩
 cases ex with
 | normal =>
  obtain ⟨k',j,x⟩:=o
  have p:J k' d b:=⟨M',e',s',g,x⟩
  exact ⟨⟨k',p⟩,Nat.lt_of_le_of_lt (l d b k' p).2 j⟩
 | _=>exact ⟨M',e',s',g,o⟩
def Own.under (nr:Nat):Own→Prop
 | .row id=>id<nr
 | _=>True
inductive Under (nb nr nl:Nat):AV→Prop
 | val (v:Value):Under nb nr nl (.val v)
 | list {xs:List AV} {o:Own} (h:∀ x∈xs,Under nb nr nl x) (ho:o.under nr):Under nb nr nl (.list xs o)
 | elem {x:AV} {k:Nat} (h:Under nb nr nl x):Under nb nr nl (.elem x k)
 | box {l k:Nat} (h:l<nb):Under nb nr nl (.box l k)
 | clo {f:FuncId} {xs:List AV} (h:∀ x∈xs,Under nb nr nl x):Under nb nr nl (.clo f xs)
 | agg {xs:List AV} (h:∀ x∈xs,Under nb nr nl x):Under nb nr nl (.agg xs)
 | tup {xs:List AV} (h:∀ x∈xs,Under nb nr nl x):Under nb nr nl (.tup xs)
 | yld {k:Nat} (h:k<nl):Under nb nr nl (.yld k)
 | vec {id ver o n:Nat} (h:id<nr):Under nb nr nl (.vec id ver o n)
 | vel {id ver o:Nat} (h:id<nr):Under nb nr nl (.vel id ver o)
theorem UJ {nb nr nl:Nat} (v:Value):Under nb nr nl (.val v)↔True:=iff_true_intro (.val v)
theorem S4 {nb nr nl:Nat} {xs:List AV} {o:Own}:Under nb nr nl (.list xs o)↔(∀ x∈xs,Under nb nr nl x)∧o.under nr:=⟨fun h=>by cases h with | list a b=>exact ⟨a,b⟩,fun h => .list h.1 h.2⟩
theorem RO {nb nr nl:Nat} {x:AV} {k:Nat}:Under nb nr nl (.elem x k)↔Under nb nr nl x:=⟨fun h=>by cases h;assumption,.elem⟩
theorem UC {nb nr nl l k:Nat}:Under nb nr nl (.box l k)↔l<nb:=⟨fun h=>by cases h;assumption,.box⟩
theorem Qe {nb nr nl:Nat} {f:FuncId} {xs:List AV}:Under nb nr nl (.clo f xs)↔∀ x∈xs,Under nb nr nl x:=⟨fun h=>by cases h;assumption,.clo⟩
theorem NX {nb nr nl:Nat} {xs:List AV}:Under nb nr nl (.agg xs)↔∀ x∈xs,Under nb nr nl x:=⟨fun h=>by cases h;assumption,.agg⟩
theorem UU {nb nr nl:Nat} {xs:List AV}:Under nb nr nl (.tup xs)↔∀ x∈xs,Under nb nr nl x:=⟨fun h=>by cases h;assumption,.tup⟩
theorem UW {nb nr nl k:Nat}:Under nb nr nl (.yld k)↔k<nl:=⟨fun h=>by cases h;assumption,.yld⟩
theorem Uw {nb nr nl id ver o n:Nat}:Under nb nr nl (.vec id ver o n)↔id<nr:=⟨fun h=>by cases h;assumption,.vec⟩
theorem UK {nb nr nl id ver o:Nat}:Under nb nr nl (.vel id ver o)↔id<nr:=⟨fun h=>by cases h;assumption,.vel⟩
def Mem.cut (M:Mem) (nb nr nl:Nat):Mem:={ M with N:=nb,NR:=nr,NL:=nl }
theorem R.cut {M:Mem} {w:World} {v:Value} {x:AV} {nb nr nl:Nat} (h:R w0 M w v x) (hu:Under nb nr nl x):R w0 (M.cut nb nr nl) w v x:=by
 induction h with
 | flat h=>exact .flat h
 | agg hl c _ ih=>exact .agg hl c fun i a b=>ih i a b (NX.1 hu _ (List.getElem_mem _))
 | tup hl _ ih=>exact .tup hl fun i a b=>ih i a b (UU.1 hu _ (List.getElem_mem _))
 | nil ho=>exact .nil ho
 | emp ho=>exact .emp ho
 | @list b off cap xs o sz us hc hm hcell _ ho ih =>
  obtain ⟨c,e⟩:=S4.1 hu
  refine .list sz us hc hm hcell (fun i d=>ih i d (c _ (List.getElem_mem _))) ?_
  cases o with
  | none=>trivial
  | full=>exact ho
  | seed=>exact ho
  | row id=>exact ⟨e,ho.2⟩
 | elem u k hcell _ ih=>exact .elem u k hcell (ih (RO.1 hu))
 | box _=>exact .box (M:=M.cut nb nr nl) (UC.1 hu)
 | clo hl _ ih=>exact .clo hl fun i a b=>ih i a b (Qe.1 hu _ (List.getElem_mem _))
 | yld _=>exact .yld (M:=M.cut nb nr nl) (UW.1 hu)
 | vec d hv h=>exact .vec (M:=M.cut nb nr nl) (Uw.1 hu) hv h
 | vel d hv h=>exact .vel (M:=M.cut nb nr nl) (UK.1 hu) hv h
theorem R.under {M:Mem} {w:World} {v:Value} {x:AV} (h:R w0 M w v x):Under M.N M.NR M.NL x:=by
 have c:∀ {cs:Array Value} {xs:List AV},cs.size=xs.length→(∀ i (_:i<cs.size) (h2:i<xs.length),Under M.N M.NR M.NL xs[i])→∀ x∈xs,Under M.N M.NR M.NL x:=by
  intro cs xs d h x e
  obtain ⟨i,a,rfl⟩:=List.mem_iff_getElem.1 e
  exact h i (d▸a) a
 induction h with
 | flat h=>exact .val _
 | agg d h1 _ ih=>exact .agg (c d ih)
 | tup d _ ih=>exact .tup (c d ih)
 | nil ho=>exact .list (fun _ h=>by cases h) (by rename_i o;cases o<;>first | trivial | exact absurd rfl (ho _))
 | emp ho=>exact .list (fun _ h=>by cases h) (by rename_i o;cases o<;>first | trivial | exact absurd rfl (ho _))
 | @list b off cap xs o sz us hc hm hcell _ ho ih =>
  refine .list (fun x e=>?_) ?_
  ·obtain ⟨i,a,rfl⟩:=List.mem_iff_getElem.1 e
   exact ih i a
  ·cases o with
   | row id=>exact ho.1
   | _=>trivial
 | elem u k hcell _ ih=>exact .elem ih
 | box h=>exact .box h
 | clo d _ ih=>exact .clo (c d ih)
 | yld h=>exact .yld h
 | vec a _ _=>exact .vec a
 | vel a _ _=>exact .vel a
def IY (nb nr nl:Nat):Env→Prop
 | []=>True
 | (_,c,v)::e=>(c=true→Under nb nr nl v)∧IY nb nr nl e
theorem SY {nb nr nl:Nat}:∀ {e:Env} {s:Nat} {x:Bool × AV},IY nb nr nl e→look e s=some x→x.1=true→Under nb nr nl x.2
 | (k,c,v)::e,s,x,h,hl,ht=>by
  simp only [look] at hl
  by_cases q:k=s
  ·rw [Ai q] at hl;cases hl;exact h.1 ht
  ·rw [Aj q] at hl;exact SY h.2 hl ht
def St.cut (s:St) (nb nr nl:Nat):St:=⟨s.boxes.take nb,s.rows.take nr,s.loops.take nl⟩
def RowA.cells:RowA→List AV
 | .vec _ _ cs=>cs
 | _=>[]
structure Calm (nb nr nl:Nat) (s:St):Prop where
 rows:∀ r∈s.rows,∀ x∈r.cells,Under nb nr nl x
 boxes:∀ cs∈s.boxes,∀ x∈cs,Under nb nr nl x
 loops:∀ la∈s.loops,∀ k x,look la.e k=some x→x.1=true→Under nb nr nl x.2
theorem RelSt.calm {M:Mem} {w:World} (h:RelSt w0 M st w):Calm st.boxes.length st.rows.length st.loops.length st where
 rows:=by
  intro r o x hx
  obtain ⟨l,a,rfl⟩:=List.mem_iff_getElem.1 o
  have m:=h.row l _ (List.getElem?_eq_getElem a)
  cases hrow:st.rows[l] with
  | vec ver sz cs =>
   rw [hrow] at m hx
   obtain ⟨_,_,_,_,_,_,_,c,_,_,_,b,_,e⟩:=m
   obtain ⟨i,d,rfl⟩:=List.mem_iff_getElem.1 hx
   have j:i<cs.length:=d
   have:=(e i (by omega) j).under
   rwa [h.N,h.NR,h.loop.NL] at this
  | _=>rw [hrow] at hx;cases hx
 boxes:=by
  intro cs g x hx
  obtain ⟨l,a,rfl⟩:=List.mem_iff_getElem.1 g
  obtain ⟨_,_,c,_,_,b,_,e⟩:=h.box l _ (List.getElem?_eq_getElem a)
  obtain ⟨i,d,rfl⟩:=List.mem_iff_getElem.1 hx
  have:=(e i (b▸d) d).under
  rwa [h.N,h.NR,h.loop.NL] at this
 loops:=by
  intro q f k x hx p
  obtain ⟨l,a,rfl⟩:=List.mem_iff_getElem.1 f
  obtain ⟨_,r,_,_,_,_,_,_,_,n⟩:=h.loop.record l _ (List.getElem?_eq_getElem a)
  have:=n k x hx
  unfold entryOk at this
  rw [Ai p] at this
  have:=this.under
  rwa [h.N,h.NR,h.loop.NL] at this
theorem entryOk.cut {M:Mem} {w:World} {nb nr nl:Nat} {v:Value} {x:Bool × AV} (h:entryOk w0 M w v x) (hu:x.1=true→Under nb nr nl x.2):entryOk w0 (M.cut nb nr nl) w v x:=by
 unfold entryOk at *
 split
 ·rename_i c;rw [Ai c] at h;exact h.cut (hu c)
 ·rename_i c;rw [Aj c] at h;exact h
theorem RelSt.cut {M:Mem} {w:World} (h:RelSt w0 M st w) {nb nr nl:Nat} (h1:nb≤st.boxes.length) (h2:nr≤st.rows.length) (h3:nl≤st.loops.length) (hc:Calm nb nr nl (st.cut nb nr nl)) :
  RelSt w0 (M.cut nb nr nl) (st.cut nb nr nl) w where
 below:=h.below
 N:=by simp [Mem.cut,St.cut];omega
 NR:=by simp [Mem.cut,St.cut];omega
 top:=h.top
 inj:=fun l F k H e=>h.inj l F (by have:=h.N;simp only [Mem.cut] at k;omega) (by have:=h.N;simp only [Mem.cut] at H;omega) e
 box:=fun l cs b=>by
  simp only [St.cut] at b
  have y:l<nb:=by
   have:=(Ak.1 b).1
   simp at this;omega
  have a:cs∈st.boxes.take nb:=List.mem_of_getElem? b
  rw [List.getElem?_take_of_lt y] at b
  obtain ⟨a1,a2,c,z,a3,a4,a5,a6⟩:=h.box l cs b
  exact ⟨a1,a2,c,z,a3,a4,a5,fun i E C=>(a6 i E C).cut (hc.boxes cs a _ (List.getElem_mem _))⟩
 row:=fun id x f=>by
  simp only [St.cut] at f
  have u:id<nr:=by
   have:=(Ak.1 f).1
   simp at this;omega
  have a:x∈st.rows.take nr:=List.mem_of_getElem? f
  rw [List.getElem?_take_of_lt u] at f
  have g:=h.row id x f
  have d:nb≤M.N:=by have:=h.N;omega
  cases x with
  | grow n sz =>
   obtain ⟨a1,a2,a3,a4,a5,a6,a7,m⟩:=g
   exact ⟨a1,a2,a3,a4,fun l b=>a5 l (Nat.lt_of_lt_of_le b d),a6,a7,m⟩
  | vec v sz cs =>
   obtain ⟨a1,a2,a3,a4,a5,a6,a7,c,z,m,o,E,C,G⟩:=g
   exact ⟨a1,a2,a3,a4,fun l b=>a5 l (Nat.lt_of_lt_of_le b d),a6,a7,c,z,m,o,E,C,fun i h1 h2=>(G i h1 h2).cut (hc.rows _ a _ (List.getElem_mem _))⟩
  | dead v =>
   obtain ⟨a1,a2,a3,a4⟩:=g
   exact ⟨a1,a2,fun l b=>a3 l (Nat.lt_of_lt_of_le b d),a4⟩
 rowinj:=fun i j p t e=>h.rowinj i j (by have:=h.NR;simp only [Mem.cut] at p;omega) (by have:=h.NR;simp only [Mem.cut] at t;omega) e
 loop:={
  NL:=by simp [Mem.cut,St.cut];omega
  inj:=fun i j p t e=>h.loop.inj i j (by have:=h.loop.NL;simp only [Mem.cut] at p;omega) (by have:=h.loop.NL;simp only [Mem.cut] at t;omega) e
  record:=fun k D f=>by
   simp only [St.cut] at f
   have q:k<nl:=by
    have:=(Ak.1 f).1
    simp at this;omega
   have a:D∈st.loops.take nl:=List.mem_of_getElem? f
   rw [List.getElem?_take_of_lt q] at f
   obtain ⟨a1,r,a2,a3,a4,a5,a6,a7,m,o⟩:=h.loop.record k D f
   exact ⟨a1,r,a2,a3,a4,a5,a6,a7,m,fun s x hs=>(o s x hs).cut (hc.loops D a s x hs)⟩ }
theorem Ext.cut {M1:Mem} {w1 w2:World} {M2:Mem} (h:Ext w0 M1 w1 M2 w2) {nb nr nl:Nat} (h1:M1.N≤nb) (h2:M1.NR≤nr) (h3:M1.NL≤nl) (h4:nl≤M2.NL):Ext w0 M1 w1 (M2.cut nb nr nl) w2 :=
 ⟨h1,h.bx,h2,h.rows,h.cell,h.size,h3,h.lb,fun k a b=>h.lnew k a (Nat.lt_of_lt_of_le b h4),h.objs⟩
theorem Rel.cut {M:Mem} {a:Act} {w:World} (h:Rel w0 n M e st a w) {nb nr nl:Nat} (h1:nb≤st.boxes.length) (h2:nr≤st.rows.length) (h3:nl≤st.loops.length) (hc:Calm nb nr nl (st.cut nb nr nl)) (he:IY nb nr nl e) :
  Rel w0 n (M.cut nb nr nl) e (st.cut nb nr nl) a w :=
 ⟨h.st.cut h1 h2 h3 hc,h.size,fun s x hs=>(h.env s x hs).cut (SY he hs)⟩
theorem Vz {c:Code} (nb nr nl:Nat) (h1:nb≤st.boxes.length) (h2:nr≤st.rows.length) (h3:nl≤st.loops.length) (k1:M0.N≤nb) (k2:M0.NR≤nr) (k3:M0.NL≤nl) (hc:Calm nb nr nl (st.cut nb nr nl)) (he:IY nb nr nl e)
  (h:DF P w0 n M0 W0 ro c Q e (st.cut nb nr nl)):DF P w0 n M0 W0 ro c Q e st :=
 fun m M a w b=>h m _ a w ⟨b.rel.cut h1 h2 h3 hc he,b.ext.cut k1 k2 k3 (by rw [b.rel.st.loop.NL];exact h3),b.marks⟩
end
section
variable {P:Program} {w0:World} {n:Nat} {M:Mem} {e:Env} {st:St} {a:Act} {w:World}
def SV (P:Program) (e:Env) (st:St):ResultVar→Prop
 | .tmp t=>AH e true (.tmp t)
 | .cell t ty=>(AZ P e true st (.load ty (.tmp t))).1
def Zaq (P:Program) (e:Env) (st:St):ResultVar→AV
 | .tmp t=>(Az e (.tmp t)).pub
 | .cell t ty=>(AZ P e true st (.load ty (.tmp t))).2.1.pub
def WZ:List AV→AV
 | [x]=>x
 | l => .tup l
def Zb6 (P:Program) (rs:List ResultVar) (Post:AV→St→Prop):AQ:=fun x e st =>
 match x with
 | .normal | .ret=>(∀ r∈rs,SV P e st r)∧Post (WZ (rs.map (Zaq P e st))) st
 | _=>False
theorem Ru (h:Rel w0 n M e st a w) (t:TypeId) (x:Operand) (hob:(AZ P e true st (.load t x)).1) :
  ∃ v,(do loadVar t (← asAddr (a.eval x)):Sem Value).run P w = .ok v w∧R w0 M w v (AZ P e true st (.load t x)).2.1:=by
 unfold AZ at hob ⊢
 cases ht:GK P t with
 | none=>simp [ht] at hob
 | some p =>
  obtain ⟨sz,D⟩:=p
  simp only [ht] at hob ⊢
  obtain ⟨z,r,k,q⟩:=hob
  obtain ⟨b,o,ev,g,m⟩:=WO h.st (A2 h z) r
  rw [ev]
  have d:∀ j,j<sz→∃ u,w.cell? ⟨b,o+DR (Az e x)+j,none⟩=some u∧∀ c,R w0 M w u ((A6 st (Az e x))[DR (Az e x)+j]'c):=by
   intro j c
   obtain ⟨u,y,C⟩:=m (DR (Az e x)+j) (by omega)
   exact ⟨u,by rw [←y,Nat.add_assoc],fun _=>C⟩
  let f:Nat→Value:=fun j=>((w.cell? ⟨b,o+DR (Az e x)+j,none⟩).getD undef)
  have s:∀ j,j<sz→w.cell? ⟨b,o+DR (Az e x)+j,none⟩=some (f j):=fun j c=>by
   obtain ⟨u,i,_⟩:=d j c
   simp [f,i]
  refine ⟨if D then .agg ((List.range sz).map f).toArray else f 0,?_,(PC g k q (fun j c=>?_))⟩
  ·simp only [asAddr,Sem.run_bind,Sem.run_pure,Result.andThen_ok]
   exact MB ht s q
  ·by_cases hjs:j<sz
   ·obtain ⟨u,i,l⟩:=d j hjs
    have:f j=u:=by simp [f,i]
    rw [this]
    exact l c
   ·obtain ⟨u,i,l⟩:=m (DR (Az e x)+j) c
    have:f j=u:=by simp [f,Nat.add_assoc,i]
    rw [this]
    exact l
theorem Nv {α:Type} (f:α→Sem Value) (g:α→Value):∀ (l:List α),(∀ x∈l,(f x).run P w = .ok (g x) w)→(l.mapM f).run P w = .ok (l.map g) w
 | [],_=>by simp
 | x::l,h=>by simp [h x (by simp),Nv f g l (fun y a=>h y (by simp [a]))]
theorem SE {V:ResultVar→AV} (rs:List ResultVar) (g:ResultVar→Value) (hg:∀ r∈rs,R w0 M w (g r) (V r)) :
  R w0 M w (if h:(rs.map g).toArray.size=1 then (rs.map g).toArray[0] else .tuple (rs.map g).toArray) (WZ (rs.map V)):=by
 match rs,hg with
 | [],_=>exact .tup rfl (fun i b _=>absurd b (by simp))
 | [r],hg=>exact (hg r (by simp))
 | r::r'::l,hg =>
  have:¬ ((List.map g (r::r'::l)).toArray.size=1):=by simp
  rw [dif_neg this]
  refine .tup (by simp) (fun i b a=>?_)
  have e:i<(r::r'::l).length:=by simpa using a
  have d:(List.map g (r::r'::l)).toArray[i]=g (r::r'::l)[i]:=by rw [List.getElem_toArray,List.getElem_map]
  have c:(List.map V (r::r'::l))[i]'a=V (r::r'::l)[i]:=by rw [List.getElem_map]
  have:=(hg (r::r'::l)[i] (List.getElem_mem _))
  rw [←d,←c] at this
  exact this
theorem Zae (h:Rel w0 n M e st a w) {fn:Func} {rs:List ResultVar} (hfn:fn.results=rs.toArray) (hrs:∀ r∈rs,SV P e st r) :
  ∃ v,(results fn a.tmps).run P w = .ok v w∧R w0 M w v (WZ (rs.map (Zaq P e st))):=by
 let f:ResultVar→Sem Value:=fun
  | .tmp t=>pure (a.tmps.getD t undef)
  | .cell b t=>do loadVar t (← asAddr (a.tmps.getD b undef))
 have d:∀ r∈rs,∃ v,(f r).run P w = .ok v w∧R w0 M w v (Zaq P e st r):=by
  intro r c
  have:=hrs r c
  cases r with
  | tmp t=>exact ⟨_,rfl,(A2 h (x := .tmp t) this).pub⟩
  | cell b t =>
   obtain ⟨v,l,k⟩:=Ru h t (.tmp b) this
   exact ⟨v,l,k.pub⟩
 classical
 let g:ResultVar→Value:=fun r=>if c:r∈rs then Classical.choose (d r c) else undef
 have j:∀ r∈rs,(f r).run P w = .ok (g r) w∧R w0 M w (g r) (Zaq P e st r):=by
  intro r c
  have:=Classical.choose_spec (d r c)
  have e:g r=Classical.choose (d r c):=by simp only [g,dif_pos c]
  rw [e];exact this
 have m:(fn.results.mapM f).run P w = .ok ((rs.map g).toArray) w:=by
  rw [hfn,Array.mapM_eq_mapM_toList]
  simp only [Sem.run_map,Nv f g rs (fun r c=>(j r c).1),Result.andThen_ok]
 have i:(results fn a.tmps).run P w = .ok (if h:(rs.map g).toArray.size=1 then (rs.map g).toArray[0] else .tuple (rs.map g).toArray) w:=by
  unfold results
  simp only [Sem.run_bind]
  refine Eq.trans (congrArg (fun x=>Result.andThen x _) m) ?_
  simp only [Result.andThen_ok,Sem.run_pure]
 refine ⟨_,i,?_⟩
 exact SE rs g fun r c=>(j r c).2
def AA:Nat→List AV→Env
 | _,[]=>[]
 | k,x::l=>(k,true,x)::AA (k+1) l
theorem OD:∀ (l:List AV) (k s:Nat) (x:Bool × AV),look (AA k l) s=some x→∃ i,s=k+i∧∃ y,l[i]? = some y∧x=(true,y)
 | [],_,_,_,h=>by cases h
 | y::l,k,s,x,h=>by
  simp only [AA,look] at h
  by_cases c:k=s
  ·rw [Ai c] at h;cases h;exact ⟨0,c.symm,y,rfl,rfl⟩
  ·rw [Aj c] at h
   obtain ⟨i,d,z,b,a⟩:=OD l (k+1) s x h
   exact ⟨i+1,by omega,z,b,a⟩
theorem R.same {M:Mem} {w w':World} (hs:∀ (b off:Nat) (v:Value),w.cell? ⟨b,off,none⟩=some v→w'.cell? ⟨b,off,none⟩=some v) {v:Value} {x:AV} (h:R w0 M w v x):R w0 M w' v x:=by
 induction h with
 | flat h=>exact .flat h
 | agg hl h1 _ ih=>exact .agg hl h1 ih
 | tup hl _ ih=>exact .tup hl ih
 | nil ho=>exact .nil ho
 | emp ho=>exact .emp ho
 | @list b off cap xs o sz us hc hm hcell _ ho ih =>
  refine .list sz us hc hm (fun i a=>⟨(hcell i a).1,fun j c=>⟨((hcell i a).2 j c).1,?_⟩⟩) ih ho
  obtain ⟨v,hv⟩:=NQ (u:=us i) (j:=j) (by rw [(hcell i a).1];exact c)
  exact (hs _ _ _ ((((hcell i a).2 j c).2).trans hv)).trans hv.symm
 | @elem b off x u k hcell _ ih =>
  refine .elem u k (fun j c=>⟨(hcell j c).1,?_⟩) ih
  obtain ⟨v,hv⟩:=NQ (u:=u) (j:=j) c
  exact (hs _ _ _ ((hcell j c).2.trans hv)).trans hv.symm
 | box hl=>exact .box hl
 | clo hl _ ih=>exact .clo hl ih
 | yld hk=>exact .yld hk
 | vec a hv h=>exact .vec a hv h
 | vel a hv h=>exact .vel a hv h
theorem Nn {w:World} {D:Nat} {o o':Obj} (hD:w.heap[D]? = some o) (ho:o.isCells=false) {b off:Nat} {v:Value} (h:w.cell? ⟨b,off,none⟩=some v):(w.putObj D o').cell? ⟨b,off,none⟩=some v:=by
 by_cases c:b=D
 ·subst c
  unfold World.cell? at h
  simp only [hD] at h
  cases o with
  | cells c ty fz=>simp [Obj.isCells] at ho
  | _=>simp at h
 ·unfold World.cell? at h ⊢
  simp only [World.putObj_heap_other c] at h ⊢
  exact h
theorem entryOk.same {M:Mem} {w w':World} (hs:∀ (b off:Nat) (v:Value),w.cell? ⟨b,off,none⟩=some v→w'.cell? ⟨b,off,none⟩=some v) {v:Value} {x:Bool × AV} (h:entryOk w0 M w v x):entryOk w0 M w' v x:=by
 unfold entryOk at *
 split
 ·rename_i c;rw [Ai c] at h;exact h.same hs
 ·rename_i c;rw [Aj c] at h;exact h
theorem RowOk.same {M:Mem} {w w':World} {id:Nat} {x:RowA} (h:RowOk w0 M w id x) (hs:∀ (b off:Nat) (v:Value),w.cell? ⟨b,off,none⟩=some v→w'.cell? ⟨b,off,none⟩=some v)
  (hc:∀ {b:Nat} {c:Array Value} {ty:TypeId},w.heap[b]? = some (.cells c ty (0,0))→w'.heap[b]? = some (.cells c ty (0,0))) (hz:w.heap.size≤w'.heap.size):RowOk w0 M w' id x:=by
 cases x with
 | grow n sz =>
  obtain ⟨a1,a2,a3,a4,a5,a6,a7,c,ty,d,a⟩:=h
  exact ⟨a1,a2,a3,a4,a5,a6,a7,c,ty,hc d,a⟩
 | vec v sz cs =>
  obtain ⟨a1,a2,a3,a4,a5,a6,a7,c,ty,d,a,k,g,f⟩:=h
  exact ⟨a1,a2,a3,a4,a5,a6,a7,c,ty,hc d,a,k,g,fun i j e=>(f i j e).same hs⟩
 | dead v =>
  obtain ⟨a1,a2,a3,a4⟩:=h
  exact ⟨a1,a2,a3,Nat.lt_of_lt_of_le a4 hz⟩
theorem Below.putObj {B D:Nat} {x y:World} (h:Below B x y) (hD:B≤D) (o:Obj):Below B x (y.putObj D o) :=
 h.trans ⟨rfl,rfl,rfl,by simp,fun k a=>World.putObj_heap_other (by omega)⟩
theorem RelSt.putObj {M:Mem} {w:World} (h:RelSt w0 M st w) {D:Nat} {o:Obj} (o':Obj) (hD:w.heap[D]? = some o) (ho:o.isCells=false) (h0:w0.heap.size≤D) (hl:∀ k,k<M.NL→M.lb k≠D):RelSt w0 M st (w.putObj D o'):=by
 have hs:∀ (b a:Nat) (v:Value),w.cell? ⟨b,a,none⟩=some v→(w.putObj D o').cell? ⟨b,a,none⟩=some v:=fun b a v=>Nn hD ho
 have n:∀ {b:Nat} {c:Array Value} {d:TypeId},w.heap[b]? = some (.cells c d (0,0))→(w.putObj D o').heap[b]? = some (.cells c d (0,0)):=by
  intro b c d hb
  rw [World.putObj_heap_other (fun e=>by subst e;rw [hD] at hb;cases hb;cases ho)]
  exact hb
 refine ⟨Below.putObj h.below h0 _,h.N,h.NR,fun b hb=>h.top b (by simpa using hb),h.inj,fun l cs j=>?_,fun id x f=>(h.row id x f).same hs n (by simp),h.rowinj,⟨h.loop.NL,h.loop.inj,fun k y f=>?_⟩⟩
 ·obtain ⟨a1,a2,c,d,a3,a4,a5,a6⟩:=h.box l cs j
  exact ⟨a1,a2,c,d,n a3,a4,a5,fun i u t=>(a6 i u t).same hs⟩
 ·have m:k<M.NL:=by rw [h.loop.NL];exact (Ak.1 f).1
  obtain ⟨a1,r,a2,a3,a4,a5,a6,a7,q,p⟩:=h.loop.record k y f
  exact ⟨a1,r,by rw [World.putObj_heap_other (hl k m)];exact a2,a3,a4,a5,a6,a7,q,fun s x g=>(p s x g).same hs⟩
theorem LO {M0:Mem} {W0:World} {fn:Func} {RR:Ending→World→Prop} {m:Nat} {tmps:Array Value}:∀ (Ds:List Nat) (M:Mem) (w:World),Ds.Nodup→(∀ D∈Ds,W0.heap.size≤D∧w.heap[D]? = some (.deferred (some []))) →
  W0.heap.size≥w0.heap.size→RelSt w0 M st w→Ext w0 M0 W0 M w →
  (∀ w',RelSt w0 M st w'→Ext w0 M0 W0 M w'→(∀ v x,R w0 M w v x→R w0 M w' v x)→∃ v,(results fn tmps).run P w' = .ok v w'∧RR (.returned v) w') →
  LeavesInM (FW none) m P fn tmps RR (Ds.map fun D=>{ target := .collected D,args := #[] }) .returning w
 | [],M,w,_,_,_,hr,hx,hk=>hk w hr hx fun _ _ h=>h
 | D::Ds,M,w,hn,hD,hw,hr,hx,hk=>by
  obtain ⟨G,j⟩:=hD D (by simp)
  have q:∀ k,k<M.NL→M.lb k≠D:=by
   intro k n e
   have g:k<st.loops.length:=by rw [←hr.loop.NL];exact n
   obtain ⟨_,r,hr',_⟩:=hr.loop.record k _ (List.getElem?_eq_getElem g)
   rw [e,j] at hr'
   cases hr'
  have hs:∀ (b c:Nat) (v:Value),w.cell? ⟨b,c,none⟩=some v→(w.putObj D (.deferred none)).cell? ⟨b,c,none⟩=some v:=fun b c v=>Nn j rfl
  have l:Ext w0 M0 W0 M (w.putObj D (.deferred none)) :=
   ⟨hx.N,hx.bx,hx.NR,hx.rows,fun b c v i p=>let ⟨a,b'⟩:=hx.cell b c v i p;⟨hs _ _ _ a,b'⟩,by have:=hx.size;simpa using this,hx.NL,hx.lb,hx.lnew,fun b o i p F=>by
    have H:b<W0.heap.size:=(Array.getElem?_eq_some_iff.1 i).1
    rw [World.putObj_heap_other (by omega)]
    exact hx.objs b o i p F⟩
  refine ⟨by simp,.inl ⟨D,_,rfl,run_takeDeferred j,?_⟩⟩
  have d:=List.nodup_cons.1 hn
  refine LO Ds M _ d.2 (fun E s=>?_) hw (hr.putObj _ j rfl (by omega) q) l (fun w' u t z=>hk w' u t fun v x h=>z v x (h.same hs))
  obtain ⟨y,C⟩:=hD E (List.mem_cons_of_mem _ s)
  have f:E≠D:=fun e=>d.1 (by rw [←e];exact s)
  exact ⟨y,by rw [World.putObj_heap_other f];exact C⟩
theorem E8 {f:FuncId} {fn:Func} {c:Code} {args:List AV} {rs:List ResultVar} {Post:AV→St→Prop} (hf:P.funcs[f]? = some fn) (hb:fn.body=some c) (hrs:fn.results=rs.toArray) (hn:fn.ntmps=n)
  (hen:Jl P f) (ha:args.length≤n)
  (h:∀ (M0:Mem) (W0:World),M0.N=st.boxes.length→M0.NR=st.rows.length→M0.NL=st.loops.length→Calm st.boxes.length st.rows.length st.loops.length st→(∀ x∈args,Under st.boxes.length st.rows.length st.loops.length x) →
   DF P w0 n M0 W0 none c (Zb6 P rs Post) (AA 0 args) st):ACalls P w0 f args st Post:=by
 refine ⟨hen,fun M w a b d=>?_⟩
 have Q:a.size=args.length:=d.1
 have H:∀ x∈args,Under st.boxes.length st.rows.length st.loops.length x:=by
  intro x G
  obtain ⟨i,u,rfl⟩:=List.mem_iff_getElem.1 G
  have:=(d.get (i:=i) (Array.getElem?_eq_getElem (by omega)) (List.getElem?_eq_getElem u)).under
  rwa [b.N,b.NR,b.loop.NL] at this
 have l:Rel w0 n M (AA 0 args) st { tmps:=a++Array.replicate (fn.ntmps-a.size) undef,defers:=[] } w:=by
  refine ⟨b,by simp;omega,fun s x hs=>?_⟩
  obtain ⟨i,j,y,C,rfl⟩:=OD _ _ _ _ hs
  have u:i<args.length:=(Ak.1 C).1
  have hs':s=i:=by omega
  subst hs'
  simp only [entryOk,if_true]
  have J:(a++Array.replicate (fn.ntmps-a.size) undef).getD s undef=a[s]'(by omega):=by
   simp [Array.getD_eq_getD_getElem?,Array.getElem?_append_left (show s<a.size by omega),Array.getElem?_eq_getElem (show s<a.size by omega)]
  rw [J]
  exact d.get (Array.getElem?_eq_getElem (by omega)) C
 refine QS (n:=0) (callsIn_of_wp_marks hf hb trivial (wpIn_mono (h M w b.N b.NR b.loop.NL b.calm H 0 M _ w ⟨l,.refl _ _ _,[],by simp⟩) ?_))
 rintro ex p t ⟨M',o,k,j,m⟩
 have e:∀ (D:∀ r∈rs,SV P o k r) (q:Post (WZ (rs.map (Zaq P o k))) k),
   LeavesInM (FW none) 0 P fn p.tmps (Comes' w0 M w Post) p.defers .returning t:=by
  intro D q
  obtain ⟨Ds,U,O,F⟩:=j.marks
  rw [O]
  refine LO Ds M' t U F b.base_le j.rel.st j.ext fun K z E k3=>?_
  have g:Rel w0 n M' o k p K:=⟨z,j.rel.size,fun s x hs=>by
   have:=j.rel.env s x hs
   unfold entryOk at *
   split
   ·rename_i c;rw [Ai c] at this;exact k3 _ _ this
   ·rename_i c;rw [Aj c] at this;exact this⟩
  obtain ⟨v,q1,q2⟩:=Zae g hrs D
  exact ⟨v,q1,v,M',_,k,rfl,q,E,z,q2⟩
 cases ex with
 | normal=>exact e m.1 m.2
 | ret=>exact e m.1 m.2
 | _=>exact m.elim
def Zjj (st:St) (Post:AV→St→Prop) (r:AV) (s:St):Prop :=
 st.boxes.length≤s.boxes.length∧st.rows.length≤s.rows.length∧st.loops.length≤s.loops.length∧Calm st.boxes.length st.rows.length st.loops.length (s.cut st.boxes.length st.rows.length st.loops.length) ∧
  Under st.boxes.length st.rows.length st.loops.length r∧Post r (s.cut st.boxes.length st.rows.length st.loops.length)
theorem ACalls.fin {f:FuncId} {args:List AV} {Post:AV→St→Prop} (h:ACalls P w0 f args st (Zjj st Post)):ACalls P w0 f args st Post:=by
 refine ⟨h.1,fun M w b a c=>(h.2 M w b a c).mono ?_⟩
 rintro en n ⟨v,M',r,i,k,⟨l,j,d,m,g,e⟩,h3,h4,h5⟩
 exact ⟨v,M'.cut st.boxes.length st.rows.length st.loops.length,r,_,k,e,h3.cut (by have:=a.N;omega) (by have:=a.NR;omega) (by have:=a.loop.NL;omega) (by rw [h4.loop.NL];exact d),h4.cut l j d m,h5.cut g⟩
theorem enters_of {f:FuncId} {fn:Func} {c:Code} (hf:P.funcs[f]? = some fn) (hb:fn.body=some c) (hn:fn.name ≠ "runtime.NumGoroutine"):Jl P f:=by
 intro args w
 simp [callFunc,hf,hb,hn]
end
section
variable {P:Program} {w0:World} {n:Nat}
def WX (P:Program) (w0:World) (e1:Env) (c:Bool) (st:St) (o:Oper) (v:AV):Prop :=
 match o.op with
 | .call ⟨.value f,args,_⟩=>c=true→AH e1 true f∧(∀ x∈args.toList,AH e1 true x)∧L6 P w0 (Az e1 f) (args.toList.map fun x=>argP e1 (Az e1 x)) st fun r s=>r=v∧s=st
 | op=>(c=true→(AZ P e1 c st op).1)∧(AZ P e1 c st op).2.1=v∧(AZ P e1 c st op).2.2=st
theorem QB {e1:Env} {c:Bool} {st:St} {o:Oper} {v:AV} (hc:¬ Kx o.op=true) :
  WX P w0 e1 c st o v=((c=true→(AZ P e1 c st o.op).1)∧(AZ P e1 c st o.op).2.1=v∧(AZ P e1 c st o.op).2.2=st):=by
 obtain ⟨g,op,d,e,b,a⟩:=o
 cases op with
 | call cc =>
  obtain ⟨callee,args,h⟩:=cc
  cases callee with
  | value f=>exact absurd rfl hc
  | _=>rfl
 | _=>rfl
theorem Qv {M:Mem} {e1:Env} {st:St} {a:Act} {w:World} (h:Rel w0 n M e1 st a w) (ro:Option Nat) (m:Nat) {all:List Oper} {o:Oper} {v:AV} (hg:JE all e1 o.guard) (hv:WX P w0 e1 (BK all e1 o.guard) st o v)
  (Q:Exit→Act→World→Prop) (K:Act→World→Prop) (hK:∀ u w' M',Ext w0 M w M' w'→RelSt w0 M' st w'→entryOk w0 M' w' u (BK all e1 o.guard,v)→K (a.put o.dst u) w') :
  if Region.wanted o (yielded all.toArray a.tmps) then o.wpIn (FW ro) m P a w K Q else (∀ f,o.about P w a.eval=some f→(FW ro).fn f)∧K (a.put o.dst undef) w:=by
 rw [KP h hg]
 cases hcc:BK all e1 o.guard with
 | true =>
  rw [hcc] at hv hK
  rw [Ai rfl]
  by_cases hc:Kx o.op=true
  ·obtain ⟨dst,op,l,q,k,guard⟩:=o
   cases op<;>try cases hc
   rename_i cc
   obtain ⟨callee,args,t⟩:=cc
   cases callee<;>try cases hc
   rename_i f
   obtain ⟨j,e,d⟩:=hv rfl
   refine JM h ro m j e d Q _ (fun r s p u w' M' i b c=>?_)
   obtain ⟨rfl,rfl⟩:=p
   exact hK u w' M' i b c
  ·rw [QB hc] at hv
   obtain ⟨j,e,d⟩:=hv
   refine P5 h ro m o (j rfl) Q _ (fun u w' M' i b c=>?_)
   rw [d] at b
   rw [e] at c
   exact hK u w' M' i b c
 | false =>
  rw [hcc] at hK
  rw [Aj (by simp)]
  exact ⟨fun g _=>QU ro g,hK undef w M (.refl _ _ _) h.st rfl⟩
structure Trail (P:Program) (w0:World) (n:Nat) (all os:List Oper) (e:Env) (st:St) (E:Nat→Env) (C:Nat→Bool) (V:Nat→AV):Prop where
 zero:E 0=e
 step:∀ j o,os[j]? = some o→E (j+1)=JA (E j) o.dst (C j) (V j)∧JE all (BP true all o (E j)) o.guard∧Js n o.dst∧BK all (BP true all o (E j)) o.guard=C j ∧
  WX P w0 (BP true all o (E j)) (C j) st o (V j)
theorem TN {all os:List Oper} {e:Env} {st:St} {o:Oper} {E:Nat→Env} {C:Nat→Bool} {V:Nat→AV} {v:AV} (hg:JE all (BP true all o e) o.guard) (hd:Js n o.dst)
  (ho:WX P w0 (BP true all o e) (BK all (BP true all o e) o.guard) st o v) (T:Trail P w0 n all os (JA e o.dst (BK all (BP true all o e) o.guard) v) st E C V) :
  Trail P w0 n all (o::os) e st (fun | 0=>e | j+1=>E j) (fun | 0=>BK all (BP true all o e) o.guard | j+1=>C j) (fun | 0=>v | j+1=>V j):=by
 refine ⟨rfl,fun j q hq=>?_⟩
 cases j with
 | zero =>
  simp only [List.getElem?_cons_zero,Option.some.injEq] at hq
  subst hq
  exact ⟨T.zero,hg,hd,rfl,ho⟩
 | succ j =>
  simp only [List.getElem?_cons_succ] at hq
  exact T.step j q hq
theorem PL {all:List Oper} {st:St} {KK:Env→St→Prop}:∀ (c:Nat) (os:List Oper) (e:Env),Q9 P w0 n true all KK c os e st→∃ E C V,Trail P w0 n all os e st E C V∧KK (E os.length) st
 | 0,_,_,h=>h.elim
 | c+1,os,e,h=>by
  have p:∀ (os:List Oper) (e:Env),ZH P w0 n true all (Q9 P w0 n true all KK c) KK os e st→∃ E C V,Trail P w0 n all os e st E C V∧KK (E os.length) st:=by
   intro os
   induction os with
   | nil=>exact fun e h=>⟨fun _=>e,fun _=>false,fun _ => .junk,⟨rfl,fun j o x=>by simp at x⟩,h⟩
   | cons o os ih =>
    intro e h
    by_cases hc:Kx o.op=true
    ·obtain ⟨s,op,l,r,i,g⟩:=o
     cases op<;>try cases hc
     rename_i cc
     obtain ⟨callee,args,z⟩:=cc
     cases callee<;>try cases hc
     rename_i f
     simp only [ZH] at h
     obtain ⟨q,hd,m,u⟩:=h
     rcases u with ⟨v,k1,k2⟩ | ⟨hf,_⟩
     ·obtain ⟨E,C,V,T,d⟩:=PL c os _ k2
      exact ⟨_,_,_,TN q hd (fun k=>⟨(m k).1,(m k).2,k1 k⟩) T,d⟩
     ·cases hf
    by_cases hgl:Zgh o.op=true
    ·obtain ⟨s,op,l,r,i,g⟩:=o
     cases op<;>try cases hgl
     rename_i t y
     cases y<;>try cases hgl
     simp only [ZH] at h
     exact absurd h.2.2.1.1 (by simp)
    ·rw [Uy hc hgl] at h
     obtain ⟨q,hd,m,w,a⟩:=h
     have b:=w (.inr rfl)
     simp only at b
     rw [b] at a
     obtain ⟨E,C,V,T,d⟩:=ih _ a
     exact ⟨_,_,_,TN q hd (by rw [QB hc];exact ⟨m,rfl,b⟩) T,d⟩
  exact p os e h
theorem LX {all os:List Oper} {e:Env} {st:St} {E:Nat→Env} {C:Nat→Bool} {V:Nat→AV} (T:Trail P w0 n all os e st E C V)
  (uniq:∀ (i j:Nat) (o p:Oper) (s:Nat),os[i]? = some o→os[j]? = some p→o.dst=some s→p.dst=some s→i=j) (s:Nat):∀ j,j≤os.length →
  ((∀ i o,i<j→os[i]? = some o→o.dst≠some s)→look (E j) s=look e s)∧(∀ i o,i<j→os[i]? = some o→o.dst=some s→look (E j) s=some (C i,V i))
 | 0,_=>⟨fun _=>by rw [T.zero],fun i o h=>absurd h (by omega)⟩
 | j+1,hj=>by
  obtain ⟨g,f⟩:=LX T uniq s j (by omega)
  have ho:os[j]? = some os[j]:=List.getElem?_eq_getElem (by omega)
  have b:=(T.step j _ ho).1
  have a:os[j].dst≠some s→look (E (j+1)) s=look (E j) s:=by
   intro a
   rw [b]
   cases hd:os[j].dst with
   | none=>rfl
   | some d =>
    rw [hd] at a
    simp only [JA,look]
    rw [Aj (fun h=>a (by rw [h]))]
  refine ⟨fun h=>?_,fun i o k hio hd=>?_⟩
  ·rw [a (h j _ (by omega) ho)]
   exact g fun i o k=>h i o (by omega)
  ·by_cases c:i=j
   ·subst c
    rw [ho] at hio
    cases hio
    rw [b,hd]
    simp only [JA,look,if_true]
   ·rw [a (fun h=>c (uniq i j o _ s hio ho hd h))]
    exact f i o (by omega) hio hd
theorem Nh {F:Fence} {m:Nat} {md:Region.Mode} {ops:Array Oper} {Q':Exit→Act→World→Prop}:∀ (l:List Oper) (k:Nat) (listed:Array Bool) (a:Act) (w:World),(∀ j,l[j]? = ops[k+j]?) →
  Region.seqB md ops l.length k listed=true→wpListIn F m P ops Q' l a w→wpAnyIn F m P md ops Q' l.length listed a w
 | [],_,_,_,_,_,hB,h=>⟨by simpa [Region.seqB] using hB,h⟩
 | o::l,k,listed,a,w,hl,hB,h=>by
  have f:ops[k]? = some o:=by simpa using (hl 0).symm
  simp only [List.length_cons,Region.seqB,Bool.and_eq_true,decide_eq_true_eq] at hB
  refine ⟨fun h1=>(by rw [hB.1] at h1;cases h1),fun i hi=>?_⟩
  rw [hB.1] at hi
  have hik:i=k:=by simpa using hi
  subst hik
  have c:wpOpIn F m P ops Q' i (wpListIn F m P ops Q' l) a w:=by unfold wpOpIn;simp only [f];exact h
  exact wpOpIn_mono (fun d b e=>Nh l (i+1) _ d b (fun j=>by have:=hl (j+1);simpa [Nat.add_assoc,Nat.add_comm 1 j] using this) hB.2 e) c
def Vu (o:Oper) (j:Nat):Bool:=o.after.any fun e=>Region.binds .any e&&e.on == j
theorem QQ {o:Oper} {j:Nat} (h:Vu o j=true):∃ e∈o.after,Region.binds .any e=true∧e.on=j:=by
 obtain ⟨e,b,a⟩:=Array.any_eq_true'.1 h
 simp only [Bool.and_eq_true,beq_iff_eq] at a
 exact ⟨e,b,a.1,a.2⟩
def Zfs (l:List Oper) (i j:Nat) (o p:Oper):Bool :=
 match p.dst with
 | some s=>(decide (i=j)||o.dst != some s)&&(!(looks l o).contains s||(decide (j<i)&&Vu o j))
 | none=>true
def ZfH (l:List Oper) (h:Nat):Bool :=
 (List.range h).all fun i=>match l[i]? with
  | some o=>(o.after.toList.all fun e => !Region.binds .any e||decide (e.on<i))&&(List.range h).all fun j=>match l[j]? with
   | some p=>Zfs l i j o p
   | none=>true
  | none=>true
def Ziz (l:List Oper) (h:Nat):Bool :=
 (List.range (l.length-h)).all fun k=>(List.range (h+k)).all fun j=>(List.range (h+k+1)).any fun q=>decide (j<q)&&(match l[q]? with | some o=>Vu o j | none=>false)
def Vi (l:List Oper) (h:Nat):Bool :=
 decide (h≤l.length)&&ZfH l h&&Ziz l h&&Region.seqB .any l.toArray (l.length-h) h (Array.replicate h true++Array.replicate (l.length-h) false)
theorem OX {l:List Oper} {h:Nat} (hB:ZfH l h=true) {i:Nat} {o:Oper} (hi:i<h) (ho:l[i]? = some o) :
  (∀ e∈o.after,Region.binds .any e=true→e.on<i)∧∀ j p s,j<h→l[j]? = some p→p.dst=some s→(o.dst=some s→i=j)∧(s∈looks l o→j<i∧Vu o j=true):=by
 have b:=List.all_eq_true.1 hB i (List.mem_range.2 hi)
 simp only [ho,Bool.and_eq_true] at b
 refine ⟨fun e f k=>?_,fun j p s g d hs=>?_⟩
 ·have:=List.all_eq_true.1 b.1 e (by simpa using f)
  simpa [k] using this
 ·have a:=List.all_eq_true.1 b.2 j (List.mem_range.2 g)
  simp only [d,Zfs,hs,Bool.and_eq_true,Bool.or_eq_true,decide_eq_true_eq,bne_iff_ne,Bool.not_eq_true'] at a
  refine ⟨fun hd=>a.1.resolve_right (fun c=>c hd),fun m=>?_⟩
  rcases a.2 with h3 | h3
  ·have:(looks l o).contains s=true:=by simpa using m
   rw [h3] at this;cases this
  ·exact h3
theorem YY {listed:Array Bool} {i:Nat} (h:listed.getD i true=false):∃ hi:i<listed.size,listed[i]=false:=by
 by_cases c:i<listed.size
 ·exact ⟨c,by simpa [c] using h⟩
 ·simp [Array.getD_eq_getD_getElem?,Array.getElem?_eq_none (Nat.le_of_not_lt c)] at h
theorem Zai {listed:Array Bool} {i:Nat} (h:listed.getD i false=true):∃ hi:i<listed.size,listed[i]=true:=by
 by_cases c:i<listed.size
 ·exact ⟨c,by simpa [c] using h⟩
 ·simp [Array.getD_eq_getD_getElem?,Array.getElem?_eq_none (Nat.le_of_not_lt c)] at h
theorem DX {listed:Array Bool} {i j:Nat} (hi:i<listed.size) (b:Bool):(listed.setIfInBounds i true).getD j b=if i=j then true else listed.getD j b:=by
 by_cases c:i=j
 ·subst c;simp [hi]
 ·rw [Aj c]
  simp [Array.getElem?_setIfInBounds_ne c]
structure DInv (w0:World) (n:Nat) (l:List Oper) (h:Nat) (e:Env) (st:St) (C:Nat→Bool) (V:Nat→AV) (M1:Mem) (w1:World) (ds:List Deferred) (listed:Array Bool) (a:Act) (w:World) (M:Mem):Prop where
 size:listed.size=l.length
 tail:∀ t,h≤t→t<l.length→listed.getD t true=false
 closed:∀ j oj,l[j]? = some oj→listed.getD j false=true→∀ e∈oj.after,Region.binds .any e=true→listed.getD e.on false=true
 rel:RelSt w0 M st w
 tmps:a.tmps.size=n
 defers:a.defers=ds
 ext:Ext w0 M1 w1 M w
 old:∀ s x,(∀ i o,i<h→l[i]? = some o→o.dst≠some s)→look e s=some x→entryOk w0 M w (a.tmps.getD s undef) x
 new:∀ i o s,i<h→l[i]? = some o→o.dst=some s→listed.getD i false=true→entryOk w0 M w (a.tmps.getD s undef) (C i,V i)
theorem QM {listed:Array Bool} {h:Nat} (hn:¬ ∀ j,j<h→listed.getD j false=true):∃ j,j<h∧listed.getD j false=false∧∀ i,i<j→listed.getD i false=true:=by
 induction h with
 | zero=>exact absurd (fun j a=>absurd a (by omega)) hn
 | succ h ih =>
  by_cases c:∀ j,j<h→listed.getD j false=true
  ·refine ⟨h,by omega,?_,c⟩
   cases hq:listed.getD h false with
   | false=>rfl
   | true =>
    exact absurd (fun j a=>by
     by_cases e:j=h
     ·exact e▸hq
     ·exact c j (by omega)) hn
  ·obtain ⟨j,f,d,b⟩:=ih c
   exact ⟨j,by omega,d,b⟩
theorem ZcL {l:List Oper} {h:Nat} {e:Env} {st:St} {E:Nat→Env} {C:Nat→Bool} {V:Nat→AV} {M1:Mem} {w1:World} {ds:List Deferred} {ro:Option Nat} {m:Nat} {Q:Exit→Act→World→Prop}
  (T:Trail P w0 n l (l.take h) e st E C V) (hB:Vi l h=true)
  (hend:∀ a w M,Rel w0 n M (E h) st a w→Ext w0 M1 w1 M w→a.defers=ds→wpListIn (FW ro) m P l.toArray Q (l.drop h) a w) :
  ∀ fuel listed a w M,fuel=listed.toList.count false→DInv w0 n l h e st C V M1 w1 ds listed a w M→wpAnyIn (FW ro) m P .any l.toArray Q fuel listed a w:=by
 simp only [Vi,Bool.and_eq_true,decide_eq_true_eq] at hB
 obtain ⟨⟨⟨a0,hH⟩,hT⟩,hS⟩:=hB
 have az:(l.take h).length=h:=by simp;omega
 have f:∀ j,j<h→(l.take h)[j]? = l[j]? := fun j hj=>List.getElem?_take_of_lt hj
 have ad:∀ {j:Nat} {o:Oper},(l.take h)[j]? = some o→j<h:=fun {j o} hj=>by
  have:=(Ak.1 hj).1;omega
 have ab:∀ (i j:Nat) (o p:Oper) (s:Nat),(l.take h)[i]? = some o→(l.take h)[j]? = some p→o.dst=some s→p.dst=some s→i=j:=by
  intro i j o p s hi hj hs au
  have a1:=ad hi
  have a2:=ad hj
  rw [f _ a1] at hi
  rw [f _ a2] at hj
  exact ((OX hH a1 hi).2 j p s a2 hj au).1 hs
 have g:∀ s j,j≤h→_:=fun s j hj=>LX T ab s j (by omega)
 have Y:∀ (listed:Array Bool) (a:Act) (w:World) (M:Mem) (fuel:Nat),fuel=listed.toList.count false→DInv w0 n l h e st C V M1 w1 ds listed a w M→(∀ j,j<h→listed.getD j false=true) →
   wpAnyIn (FW ro) m P .any l.toArray Q fuel listed a w:=by
  intro listed a w M fuel hf b r
  have hl:listed=Array.replicate h true++Array.replicate (l.length-h) false:=by
   apply Array.ext
   ·simp [b.size];omega
   ·intro i z Z
    by_cases c:i<h
    ·have:=r i c
     simp only [Array.getD_eq_getD_getElem?,Array.getElem?_eq_getElem z,Option.getD_some] at this
     rw [this,Array.getElem_append_left (by simpa using c)]
     simp
    ·have:=b.tail i (by omega) (by rw [←b.size];exact z)
     simp only [Array.getD_eq_getD_getElem?,Array.getElem?_eq_getElem z,Option.getD_some] at this
     rw [this,Array.getElem_append_right (by simpa using c)]
     simp
  have aw:fuel=(l.drop h).length:=by
   rw [hf,hl]
   simp [List.count_append,List.count_replicate]
  have G:Rel w0 n M (E h) st a w:=by
   refine ⟨b.rel,b.tmps,fun s x hs=>?_⟩
   by_cases c:∃ j p,j<h∧l[j]? = some p∧p.dst=some s
   ·obtain ⟨j,p,hj,hp,hd⟩:=c
    have:=(g s h (Nat.le_refl _)).2 j p hj (by rw [f _ hj];exact hp) hd
    rw [this] at hs
    cases hs
    exact b.new j p s hj hp hd (r j hj)
   ·have:=(g s h (Nat.le_refl _)).1 (fun j p hj hp hd=>c ⟨j,p,hj,by rw [←f _ hj];exact hp,hd⟩)
    rw [this] at hs
    exact b.old s x (fun j p hj hp hd=>c ⟨j,p,hj,hp,hd⟩) hs
  rw [aw]
  refine Nh (l.drop h) h listed a w (fun j=>by simp [List.getElem?_drop]) ?_ (hend a w M G b.ext b.defers)
  rw [hl,List.length_drop]
  exact hS
 have H:∀ (listed:Array Bool) (t:Nat) (o:Oper),(∀ j oj,l[j]? = some oj→listed.getD j false=true→∀ e∈oj.after,Region.binds .any e=true→listed.getD e.on false=true) →
   l[t]? = some o→h≤t→(∀ e∈o.after,Region.binds .any e=true→listed.getD e.on false=true)→∀ d j,j+d+1=t→listed.getD j false=true:=by
  intro listed t o ak ho ht u d
  induction d using Nat.strongRecOn with
  | _ d ih =>
   intro j hj
   have a6:t<l.length:=(Ak.1 ho).1
   have z:=List.all_eq_true.1 (List.all_eq_true.1 hT (t-h) (List.mem_range.2 (by omega))) j (List.mem_range.2 (by omega))
   obtain ⟨q,hq,Z⟩:=List.any_eq_true.1 z
   have a4:q≤t:=by have:=List.mem_range.1 hq;omega
   simp only [Bool.and_eq_true,decide_eq_true_eq] at Z
   obtain ⟨a5,h3⟩:=Z
   cases hoq:l[q]? with
   | none=>simp [hoq] at h3
   | some oq =>
    simp only [hoq] at h3
    obtain ⟨J,U,O,K⟩:=QQ h3
    by_cases c:q=t
    ·subst c
     rw [ho] at hoq;cases hoq
     exact K▸u J U O
    ·have:=ih (t-q-1) (by omega) q (by omega)
     exact K▸ak q oq hoq this J U O
 intro fuel
 induction fuel with
 | zero =>
  intro listed a w M hf b
  refine Y listed a w M 0 hf b (fun j hj=>?_)
  cases hq:listed.getD j false with
  | true=>rfl
  | false =>
   exfalso
   have ap:j<listed.size:=by rw [b.size];omega
   have:false∈listed.toList:=by
    have e1:listed[j]=false:=by simpa [ap] using hq
    rw [←e1];simp
   have:=List.count_pos_iff.2 this
   omega
 | succ fuel ih =>
  intro listed a w M hf b
  by_cases r:∀ j,j<h→listed.getD j false=true
  ·exact Y listed a w M _ hf b r
  ·obtain ⟨k,ai,af,am⟩:=QM r
   have aj:k<listed.size:=by rw [b.size];omega
   have ag:l[k]? = some l[k]:=List.getElem?_eq_getElem (by omega)
   have N:k∈Region.ready .any l.toArray listed:=by
    refine mem_ready.2 ⟨by simpa [aj] using af,l[k],by simp,fun J he hb=>am _ ((OX hH ai ag).1 J he hb)⟩
   refine ⟨fun h0=>absurd N (by rw [h0];simp),fun i hi=>?_⟩
   obtain ⟨ao,o,ho,u⟩:=mem_ready.1 hi
   have y:l[i]? = some o:=by simpa using ho
   have a3:i<l.length:=(Ak.1 y).1
   have aa:i<h:=by
    refine Nat.lt_of_not_le fun ax=>?_
    have:=H listed i o b.closed y ax u (i-k-1) k (by omega)
    rw [af] at this;cases this
   obtain ⟨t1,t2,t3,t4,t5⟩:=T.step i o (by rw [f _ aa];exact y)
   have F:=OX hH aa y
   have G:Rel w0 n M (BP true l o (E i)) st a w:=by
    refine ⟨b.rel,b.tmps,fun s x hs=>?_⟩
    simp only [BP,if_true] at hs
    have hm:=Lu _ _ _ _ hs
    have hl:=Ig _ _ _ _ hs
    by_cases c:∃ j p,j<h∧l[j]? = some p∧p.dst=some s
    ·obtain ⟨j,p,hj,hp,hd⟩:=c
     obtain ⟨av,hw⟩:=(F.2 j p s hj hp hd).2 hm
     obtain ⟨J,U,O,K⟩:=QQ hw
     have ar:listed.getD j false=true:=K▸u J U O
     have:=(g s i (by omega)).2 j p av (by rw [f _ hj];exact hp) hd
     rw [this] at hl
     cases hl
     exact b.new j p s hj hp hd ar
    ·have:=(g s i (by omega)).1 (fun j p hj hp hd=>c ⟨j,p,by omega,by rw [←f _ (by omega)];exact hp,hd⟩)
     rw [this] at hl
     exact b.old s x (fun j p hj hp hd=>c ⟨j,p,hj,hp,hd⟩) hl
   unfold wpOpIn
   simp only [ho]
   have D:i<listed.size:=by rw [b.size];omega
   refine Qv G ro m t2 (by rw [t4];exact t5) Q _ fun v w' M' hx ah hv=>?_
   rw [t4] at hv
   refine ih _ _ _ M' ?_ ?_
   ·have ae:listed[i]=false:=by simpa [D] using ao
    have ay:0<listed.toList.count false:=List.count_pos_iff.2 (by rw [←ae];simp)
    rw [Array.toList_setIfInBounds,List.count_set (by simpa using D)]
    simp only [Array.getElem_toList,ae]
    rw [Ai (show (false == false)=true from rfl),Aj (show ¬ (true == false)=true by decide)]
    omega
   ·have keep:∀ s x,o.dst≠some s→entryOk w0 M w (a.tmps.getD s undef) x→entryOk w0 M' w' ((a.put o.dst v).tmps.getD s undef) x:=by
     intro s x aq z
     rw [JL a o.dst v s (by rw [b.tmps];exact t3),Aj aq]
     exact z.mono hx
    refine ⟨by simp [b.size],fun t z Z=>?_,fun j oj hj hl J he hb=>?_,ah,by rw [Pz];exact b.tmps,by rw [G5];exact b.defers,b.ext.trans hx,fun s x z Z=>?_,fun j p s hj hp hd hl=>?_⟩
    ·rw [DX D,Aa];exact b.tail t z Z
    ·rw [DX D] at hl ⊢
     split
     ·rfl
     ·by_cases c:i=j
      ·subst c
       rw [y] at hj;cases hj
       exact u J he hb
      ·rw [Aj c] at hl
       exact b.closed j oj hj hl J he hb
    ·exact keep s x (z i o aa y) (b.old s x z Z)
    ·by_cases c:i=j
     ·subst c
      rw [y] at hp;cases hp
      rw [JL a o.dst v s (by rw [b.tmps];exact t3),Ai hd]
      exact hv
     ·rw [DX D,Aj c] at hl
      refine keep s _ (fun hs=>c ((F.2 j p s hj hp hd).1 hs)) (b.new j p s hj hp hd hl)
theorem SD {M0:Mem} {W0:World} {ro:Option Nat} {Q:AQ} {e:Env} {st:St} (hm:P.follows .mixedOrders=true) (h:Nat) (c1 c2:Nat) (L:List Nat) {id:Nat} {l:List Oper} (hB:Vi l h=true)
  (hev:Q9 P w0 n true l (fun e1 s1=>Q9 P w0 n false l (fun e2 s2=>Q .normal (Du L e2) s2) c2 (l.drop h) e1 s1) c1 (l.take h) e st):DF P w0 n M0 W0 ro (.region id l.toArray true) Q e st:=by
 intro m M a w b
 obtain ⟨E,C,V,T,o⟩:=PL _ _ _ hev
 have u:h≤l.length:=by
  simp only [Vi,Bool.and_eq_true,decide_eq_true_eq] at hB;exact hB.1.1.1
 have g:(l.take h).length=h:=by simp;omega
 rw [g] at o
 obtain ⟨y,p⟩:=b.rel.st.drew
 refine wpIn_region_any hm (ZcL T hB (M1:=M) (w1:=w) (ds:=a.defers) (fun a1 w1 M1 i f k=>?_) _ _ a _ M (by simp) ?_)
 ·refine PZ ro m false l _ _ c2 _ _ st a1 w1 M1 i o fun e2 s2 a2 F v r z q q2=>⟨v,_,_,⟨z.sub (D2 L _),b.ext.trans (f.trans q),?_⟩,r⟩
  rw [q2,k]
  exact b.marks.later (f.trans q) b.rel.st
 ·exact ⟨by simp,fun t _ D=>by simp [Array.getD_eq_getD_getElem?,D],fun j _ _ d=>by
   exfalso
   by_cases c:j<l.length
   ·simp [Array.getD_eq_getD_getElem?,c] at d
   ·simp [Array.getD_eq_getD_getElem?,c] at d,y,b.rel.size,rfl,p,fun s x _ hs=>(b.rel.env s x hs).mono p,fun j _ _ _ _ _ d=>by
   exfalso
   by_cases c:j<l.length
   ·simp [Array.getD_eq_getD_getElem?,c] at d
   ·simp [Array.getD_eq_getD_getElem?,c] at d⟩
end
def St.ext (s X:St):St:=⟨s.boxes++X.boxes,s.rows++X.rows,s.loops++X.loops⟩
def St.push (s:St) (la:LoopA):St:={ s with loops:=s.loops++[la] }
def St.like (s t:St):Prop:=s.boxes.length=t.boxes.length∧t.rows.length≤s.rows.length∧s.loops.length=t.loops.length
def ZfR (P:Program) (w0:World) (gf:FuncId) (caps:List AV) (items:Ao) (Fr:St→Prop):Prop :=
 ∀ (k:Nat) (J:Nat→St→Prop) (Jx:St→Prop),(∀ i s,J i s→Fr s∧k<s.loops.length) →
  (∀ i s x X,X.rows=[]→J i s→items[i]? = some x→TO P w0 k x (s.ext X) fun r s'=>∃ t,s'=t.ext X∧t.like s∧((r = .val (.bool true)∧J (i+1) t)∨(r = .val (.bool false)∧Jx t))) →
  ∀ s,J 0 s→ACalls P w0 gf (.yld k::caps) s fun _ s'=>∃ t X,X.rows=[]∧s'=St.ext t X∧(J items.length t∨Jx t)
def Ur:Env→List Nat→List AV→Env
 | e,p::ps,x::xs=>Ur ((p,true,x)::e) ps xs
 | e,_,_=>e
section
variable {P:Program} {w0:World} {n:Nat} {M:Mem} {e:Env} {st:St} {a:Act} {w:World}
theorem Rel.bind:∀ (ps:List Nat) (vs:List Value) (xs:List AV) (e:Env) (a:Act),Rel w0 n M e st a w→ps.length=xs.length→(∀ p∈ps,p<n)→vs.length=xs.length→(∀ (i:Nat) (v:Value) (x:AV),vs[i]? = some v→xs[i]? = some x→R w0 M w v x) →
  Rel w0 n M (Ur e ps xs) st { tmps:=(ps.zip vs).foldl (fun t (p,v)=>t.setIfInBounds p v) a.tmps,defers:=a.defers } w
 | [],[],[],_,_,h,_,_,_,_=>h
 | p::ps,v::vs,x::xs,e,a,h,h1,h2,h3,h4=>by
  simp only [List.zip_cons_cons,List.foldl_cons,Ur]
  have b:p<n:=h2 p (by simp)
  have:=h.put (M':=M) (w':=w) (st':=st) (.refl _ _ _) h.st (dst:=some p) b (c:=true) (v:=v) (r:=x) (h4 0 v x rfl rfl)
  exact Rel.bind ps vs xs _ (a.put (some p) v) this (by simpa using h1) (fun q d=>h2 q (by simp [d])) (by simpa using h3) (fun i u y g f=>h4 (i+1) u y g f)
 | [],_::_,[],_,_,_,_,_,h,_=>by simp at h
 | [],_,_::_,_,_,_,h,_,_,_=>by simp at h
 | _::_,_,[],_,_,_,h,_,_,_=>by simp at h
 | _::_,[],_::_,_,_,_,_,_,h,_=>by simp at h
theorem RelSt.setLoop (h:RelSt w0 M st w) {k:Nat} {la:LoopA} (hk:st.loops[k]? = some la) (s:LoopState) (p:Option Code) {r:Loop} (hr:w.heap[M.lb k]? = some (.loop r)) :
  RelSt w0 M { st with loops:=st.loops.set k { la with st:=s,pend:=p } } (w.putObj (M.lb k) (.loop { r with state:=s,pending:=p }))∧Ext w0 M w M (w.putObj (M.lb k) (.loop { r with state:=s,pending:=p })):=by
 have f:k<st.loops.length:=(Ak.1 hk).1
 have g:k<M.NL:=by rw [h.loop.NL];exact f
 have t:M.lb k<w.heap.size:=(Array.getElem?_eq_some_iff.1 hr).1
 obtain ⟨g0,U,g1,g2,g3,g4,g5,g6,H,J⟩:=h.loop.record k la hk
 rw [hr] at g1
 cases g1
 generalize ho':Obj.loop { r with state:=s,pending:=p }=o'
 have hs:∀ (b a:Nat) (v:Value),w.cell? ⟨b,a,none⟩=some v→(w.putObj (M.lb k) o').cell? ⟨b,a,none⟩=some v:=fun b a v=>Nn hr rfl
 have z:∀ {b:Nat} {c:Array Value} {m:TypeId},w.heap[b]? = some (.cells c m (0,0))→(w.putObj (M.lb k) o').heap[b]? = some (.cells c m (0,0)):=by
  intro b c m hb
  rw [World.putObj_heap_other (fun e=>by subst e;rw [hr] at hb;cases hb)]
  exact hb
 refine ⟨⟨Below.putObj h.below g0 _,h.N,h.NR,fun b hb=>h.top b (by simpa using hb),h.inj,fun l cs u=>?_,fun id x F=>(h.row id x F).same hs z (by simp),h.rowinj,⟨by simp [h.loop.NL],h.loop.inj,fun j D hj=>?_⟩⟩,
  ⟨Nat.le_refl _,fun _ _=>rfl,Nat.le_refl _,fun _ _=>⟨Nat.le_refl _,fun _=>⟨rfl,rfl,rfl⟩⟩,fun b a v n E=>⟨hs b a v E,n⟩,by simp,Nat.le_refl _,fun _ _=>rfl,fun _ _ _=>by omega,fun b o n _ O=>?_⟩⟩
 ·obtain ⟨a1,a2,c,m,a3,a4,a5,a6⟩:=h.box l cs u
  exact ⟨a1,a2,c,m,z a3,a4,a5,fun i Q G=>(a6 i Q G).same hs⟩
 ·by_cases q:j=k
  ·subst q
   rw [List.getElem?_set_self f] at hj
   cases hj
   exact ⟨g0,{ r with state:=s,pending:=p },by rw [←ho'];exact World.putObj_heap_same t,rfl,rfl,g4,g5,g6,H,fun s x d=>(J s x d).same hs⟩
  ·rw [List.getElem?_set_ne (Ne.symm q)] at hj
   have y:j<M.NL:=by rw [h.loop.NL];exact (Ak.1 hj).1
   obtain ⟨a1,r,a2,a3,a4,a5,a6,a7,K,C⟩:=h.loop.record j D hj
   exact ⟨a1,r,by rw [World.putObj_heap_other (fun e=>q (h.loop.inj j k y g e))];exact a2,a3,a4,a5,a6,a7,K,fun s x d=>(C s x d).same hs⟩
 ·rw [World.putObj_heap_other (fun e=>O k g e.symm)]
  exact n
def Mem.newLoop (M:Mem) (b:Nat):Mem:={ M with NL:=M.NL+1,lb:=fun k=>if k=M.NL then b else M.lb k }
theorem Rel.newLoop (h:Rel w0 n M e st a w) (fn:FuncId) (ps:Array Tmp) (asg body:Code) :
  RelSt w0 (M.newLoop (w.heap.size+1)) (st.push ⟨e,n,ps,asg,body,.ready,none⟩) ((w.alloc (.deferred (some []))).alloc (.loop { state := .ready,pending:=none,fn,tmps:=a.tmps,params:=ps,assign:=asg,body,defers:=w.heap.size })) ∧
  Ext w0 M w (M.newLoop (w.heap.size+1)) ((w.alloc (.deferred (some []))).alloc (.loop { state := .ready,pending:=none,fn,tmps:=a.tmps,params:=ps,assign:=asg,body,defers:=w.heap.size })):=by
 generalize hr:({ state := .ready,pending:=none,fn,tmps:=a.tmps,params:=ps,assign:=asg,body,defers:=w.heap.size }:Loop)=r
 have g:KeepsObj w ((w.alloc (.deferred (some []))).alloc (.loop r)):=(KeepsObj.alloc _ _).trans (KeepsObj.alloc _ _)
 have u:∀ (b m:Nat) (v:Value),w.cell? ⟨b,m,none⟩=some v→((w.alloc (.deferred (some []))).alloc (.loop r)).cell? ⟨b,m,none⟩=some v:=by
  intro b m v hv
  have p:=World.block_lt_of_cell? w _ hv
  rw [World.cell?_alloc_lt _ _ _ (by simp;exact Nat.lt_succ_of_lt p),World.cell?_alloc_lt _ _ _ p]
  exact hv
 have f:∀ k,k<M.NL→(M.newLoop (w.heap.size+1)).lb k=M.lb k:=fun k hk=>by simp [Mem.newLoop];omega
 have d:(M.newLoop (w.heap.size+1)).lb M.NL=w.heap.size+1:=by simp [Mem.newLoop]
 have z:Ext w0 M w (M.newLoop (w.heap.size+1)) ((w.alloc (.deferred (some []))).alloc (.loop r)) :=
  ⟨Nat.le_refl _,fun _ _=>rfl,Nat.le_refl _,fun _ _=>⟨Nat.le_refl _,fun _=>⟨rfl,rfl,rfl⟩⟩,fun b m v D C=>⟨u b m v C,D⟩,by simp;omega,Nat.le_succ _,f,fun k D C=>by
   have:k=M.NL:=by simp only [Mem.newLoop] at C;omega
   rw [this,d];omega,fun b o D C _=>g b o D C⟩
 have H:∀ {b:Nat},b<w.heap.size→((w.alloc (.deferred (some []))).alloc (.loop r)).heap[b]? = w.heap[b]? := fun {b} F=>by
  rw [Br _ _ (by simp;omega),Br _ _ F]
 refine ⟨⟨(h.st.below.alloc h.st.base_le _).alloc (by have:=h.st.base_le;simp;omega) _,h.st.N,h.st.NR,fun b F=>h.st.top b (by simp at F;omega),h.st.inj,fun l cs K=>?_,fun id x E=>(h.st.row id x E).keep z rfl rfl rfl rfl rfl (h.st.row id x E).ne (H (h.st.row id x E).lt),h.st.rowinj,⟨by simp [Mem.newLoop,St.push,h.st.loop.NL],fun k y hk t q=>?_,fun k V hk=>?_⟩⟩,z⟩
 ·obtain ⟨a1,a2,c,Q,a3,a4,a5,a6⟩:=h.st.box l cs K
  exact ⟨a1,a2,c,Q,by rw [show (M.newLoop (w.heap.size+1)).bx l=M.bx l from rfl,H (Array.getElem?_eq_some_iff.1 a3).1];exact a3,a4,a5,fun i b1 U=>(a6 i b1 U).mono z⟩
 ·have p:∀ j,j<M.NL→M.lb j<w.heap.size:=fun j O=>by
   obtain ⟨_,r,q,_⟩:=h.st.loop.record j _ (List.getElem?_eq_getElem (by rw [←h.st.loop.NL];exact O))
   exact (Array.getElem?_eq_some_iff.1 q).1
  simp only [Mem.newLoop] at hk t
  by_cases c:k=M.NL
  ·by_cases c':y=M.NL
   ·omega
   ·subst c
    rw [d,f y (by omega)] at q
    have:=p y (by omega)
    omega
  ·by_cases c':y=M.NL
   ·subst c'
    rw [d,f k (by omega)] at q
    have:=p k (by omega)
    omega
   ·rw [f k (by omega),f y (by omega)] at q
    exact h.st.loop.inj k y (by omega) (by omega) q
 ·simp only [St.push] at hk
  by_cases c:k=st.loops.length
  ·subst c
   simp only [List.getElem?_concat_length,Option.some.injEq] at hk
   subst hk
   rw [←h.st.loop.NL,d]
   refine ⟨by have:=h.st.base_le;omega,r,?_,?_⟩
   ·have:=World.alloc_heap_new (w.alloc (.deferred (some []))) (.loop r)
    rwa [World.size_alloc] at this
   ·have G:r.tmps=a.tmps:=by rw [←hr]
    exact ⟨by rw [←hr],by rw [←hr],by rw [←hr],by rw [←hr],by rw [←hr],by rw [G];exact h.size,fun s x hs=>by rw [G];exact (h.env s x hs).mono z⟩
  ·have t:k<st.loops.length:=by
    have:=(Ak.1 hk).1
    simp at this;omega
   rw [List.getElem?_append_left t] at hk
   obtain ⟨a1,Z,a2,a3,a4,a5,a6,a7,Y,J⟩:=h.st.loop.record k V hk
   rw [f k (by rw [h.st.loop.NL];exact t)]
   exact ⟨a1,Z,g _ _ a2 rfl,a3,a4,a5,a6,a7,Y,fun s x hs=>(J s x hs).mono z⟩
def Yy (I:Exit→St→Prop) (s1 X:St) (la:LoopA):AQ:=fun x _ s =>
 ∃ t b,s=⟨t.boxes++X.boxes++b,t.rows,(s1.loops++[la])++X.loops⟩∧t.like s1∧t.loops=s1.loops∧I x t ∧
  (b=[]∨Calm (s1.boxes.length+X.boxes.length) t.rows.length s.loops.length ⟨t.boxes++X.boxes,t.rows,s.loops⟩)
def Sm:Exit→Option (Option Code)
 | .normal=>some none
 | .ret=>some (some .ret)
 | .exit id=>some (some (.exit id))
 | _=>none
theorem Zaa {M0:Mem} {W0:World} {I:Exit→St→Prop} {s1 X:St} (hX:X.rows=[]) {la:LoopA} {Post:AV→St→Prop} {x:Exit} {jump:Option Code}
  (h0:RelSt w0 M0 ((s1.push { la with st := .ready,pend:=none }).ext X) W0) (hx0:Ext w0 M0 W0 M w) {e':Env} {s':St} (hr:RelSt w0 M s' w) (hq:Yy I s1 X { la with st := .busy,pend:=none } x e' s')
  (hpost:∀ t,t.like s1→t.loops=s1.loops→I x t→Post (.val (.bool jump.isNone)) ((t.push { la with st:=if jump.isNone then .ready else .done,pend:=jump }).ext X)) :
  ∃ v w',(Instr.endRound (M0.lb s1.loops.length) jump).run P w = .ok v w'∧Comes' w0 M0 W0 Post (.returned v) w':=by
 obtain ⟨t,b,rfl,E,o,C,t4⟩:=hq
 have n:((s1.loops++[{ la with st := .busy,pend:=none }])++X.loops)[s1.loops.length]? = some { la with st := .busy,pend:=none }:=by
  rw [List.getElem?_append_left (by simp),List.getElem?_concat_length]
 obtain ⟨_,G,g1,_⟩:=hr.loop.record _ _ n
 have f:s1.loops.length<M0.NL:=by rw [h0.loop.NL];simp [St.ext,St.push]
 rw [←hx0.lb _ f]
 obtain ⟨e,p⟩:=hr.setLoop n (if jump.isNone then .ready else .done) jump g1
 refine ⟨_,_,run_endRound jump g1,?_⟩
 have D:((s1.loops++[{ la with st := .busy,pend:=none }])++X.loops).set s1.loops.length { la with st:=if jump.isNone then .ready else .done,pend:=jump }=(s1.loops++[{ la with st:=if jump.isNone then .ready else .done,pend:=jump }])++X.loops:=by
  rw [List.set_append_left _ _ (by simp),List.set_append_right _ _ (by simp)]
  simp
 simp only at e
 rw [D] at e
 have g:=hx0.trans p
 have hd:M0.N=s1.boxes.length+X.boxes.length∧M0.NR=s1.rows.length∧M0.NL=s1.loops.length+1+X.loops.length:=by
  refine ⟨by rw [h0.N];simp [St.ext,St.push],by rw [h0.NR];simp [St.ext,St.push,hX],by rw [h0.loop.NL];simp [St.ext,St.push];omega⟩
 obtain ⟨z,s,r⟩:=E
 have j:=hpost t ⟨z,s,r⟩ o C
 have h:(t.push { la with st:=if jump.isNone then .ready else .done,pend:=jump }).ext X=⟨t.boxes++X.boxes,t.rows,(s1.loops++[{ la with st:=if jump.isNone then .ready else .done,pend:=jump }])++X.loops⟩:=by
  simp only [St.push,St.ext,o,hX,List.append_nil]
 rw [h] at j
 have c:∀ M' w',R w0 M' w' (.bool jump.isNone) (.val (.bool jump.isNone)):=fun _ _ => .flat rfl
 rcases t4 with rfl | t4
 ·simp only [List.append_nil] at e
  exact ⟨_,M,_,_,rfl,j,g,e,c _ _⟩
 ·refine ⟨_,M.cut (s1.boxes.length+X.boxes.length) t.rows.length (s1.loops.length+1+X.loops.length),_,_,rfl,j,g.cut (by omega) (by omega) (by omega) (by rw [e.loop.NL];simp;omega),?_,c _ _⟩
  have d:=e.cut (nb:=s1.boxes.length+X.boxes.length) (nr:=t.rows.length) (nl:=s1.loops.length+1+X.loops.length) (by simp;omega) (by simp) (by simp;omega)
  have u:List.take (s1.boxes.length+X.boxes.length) (t.boxes++X.boxes++b)=t.boxes++X.boxes:=List.take_left' (by simp;omega)
  have H:List.take t.rows.length t.rows=t.rows:=List.take_length
  have F:∀ a,List.take (s1.loops.length+1+X.loops.length) (s1.loops++[a]++X.loops)=s1.loops++[a]++X.loops:=fun a=>List.take_of_length_le (by simp;omega)
  simp only [St.cut,u,H,F] at d
  have l:(s1.loops++[{ la with st:=LoopState.busy,pend:=none }]++X.loops).length=s1.loops.length+1+X.loops.length:=by simp;omega
  refine d ⟨?_,?_,fun a hla k y m i=>?_⟩
  ·have:=t4.rows
   simp only [l] at this
   exact this
  ·have:=t4.boxes
   simp only [l] at this
   exact this
  ·have q:=t4.loops
   simp only [l] at q
   simp only [List.mem_append,List.mem_singleton] at hla q
   rcases hla with (hla | rfl) | hla
   ·exact q a (.inl (.inl hla)) k y m i
   ·exact q { la with st := .busy,pend:=none } (.inl (.inr rfl)) k y m i
   ·exact q a (.inr hla) k y m i
structure RoundAt (M0:Mem) (s:St):Prop where
 N:M0.N=s.boxes.length
 NR:M0.NR=s.rows.length
 NL:M0.NL=s.loops.length
 calm:Calm s.boxes.length s.rows.length s.loops.length s
theorem RoundAt.turn {M0:Mem} {s X:St} {la la':LoopA} (h:RoundAt M0 ((s.push la).ext X)) (he:la'.e=la.e):RoundAt M0 ((s.push la').ext X) where
 N:=h.N
 NR:=h.NR
 NL:=by rw [h.NL];simp [St.ext,St.push]
 calm:=by
  have f:((s.push la').ext X).loops.length=((s.push la).ext X).loops.length:=by simp [St.ext,St.push]
  rw [f]
  refine ⟨h.calm.rows,h.calm.boxes,fun l d k x a b=>?_⟩
  have c:l∈s.loops∨l=la'∨l∈X.loops:=by simpa [St.ext,St.push,or_assoc] using d
  rcases c with q | rfl | q
  ·exact h.calm.loops l (by simp [St.ext,St.push,q]) k x a b
  ·rw [he] at a
   exact h.calm.loops la (by simp [St.ext,St.push]) k x a b
  ·exact h.calm.loops l (by simp [St.ext,St.push,q]) k x a b
theorem Zah {la:LoopA} {s1 X:St} (hX:X.rows=[]) {I:Exit→St→Prop} {x:List AV} {Post:AV→St→Prop} (hlen:x.length=la.ps.size) (hps:∀ p∈la.ps.toList,p<la.n)
  (hbody:∀ (M0:Mem) (W0:World) (l:Nat),RoundAt M0 ((s1.push { la with st := .ready,pend:=none }).ext X)→RoundAt M0 ((s1.push { la with st := .busy,pend:=none }).ext X)→DF P w0 la.n M0 W0 (some l) la.asg (UQ (fun e' s'=>s'.loops=((s1.push { la with st := .ready,pend:=none }).ext X).loops ∧
   DF P w0 la.n M0 W0 (some l) la.body (Yy I s1 X { la with st := .busy,pend:=none }) e' { s' with loops:=((s1.push { la with st := .busy,pend:=none }).ext X).loops }) (fun _ _ _=>False))
   (Ur la.e la.ps.toList x) ((s1.push { la with st := .ready,pend:=none }).ext X))
  (hI:∀ ex s,I ex s→(Sm ex).isSome=true)
  (hpost:∀ ex jump t,Sm ex=some jump→t.like s1→t.loops=s1.loops→I ex t→Post (.val (.bool jump.isNone)) ((t.push { la with st:=if jump.isNone then .ready else .done,pend:=jump }).ext X)) :
  TO P w0 s1.loops.length x ((s1.push { la with st := .ready,pend:=none }).ext X) Post:=by
 intro M w d c f
 have U:((s1.push { la with st := .ready,pend:=none }).ext X).loops[s1.loops.length]? = some { la with st := .ready,pend:=none }:=by
  simp only [St.ext,St.push]
  rw [List.getElem?_append_left (by simp),List.getElem?_concat_length]
 obtain ⟨_,r,g1,g2,g3,g4,g5,g6,Z,g8⟩:=c.loop.record _ _ U
 simp only at g2 g3 g4 g5 g6 Z g8
 have J:=run_yield (P:=P) (args:=d) g1 (by rw [g4,f.1,hlen])
 refine ⟨_,_,_,_,J,fun m=>roundIn_of_wpIn (F:=Fence.wide) trivial ?_⟩
 rw [g5,g6]
 have o:Rel w0 la.n M la.e ((s1.push { la with st := .ready,pend:=none }).ext X) { tmps:=r.tmps,defers:=[] } w:=⟨c,Z,g8⟩
 have C:=Rel.bind la.ps.toList d.toList x la.e _ o (by simp [hlen]) hps (by simp [f.1]) (fun i v y hv J=>f.get (by rw [←Array.getElem?_toList];exact hv) J)
 have O:(r.params.zip d).foldl (fun tmps (t,a)=>tmps.setIfInBounds t a) r.tmps=(la.ps.toList.zip d.toList).foldl (fun t (p,v)=>t.setIfInBounds p v) r.tmps:=by
  rw [g4,←Array.foldl_toList,Array.toList_zip]
 rw [O]
 refine wpIn_mono (hbody M w (M.lb s1.loops.length) ⟨c.N,c.NR,c.loop.NL,c.calm⟩ (RoundAt.turn (la:={ la with st := .ready,pend:=none }) ⟨c.N,c.NR,c.loop.NL,c.calm⟩ rfl) m M _ w ⟨C,.refl _ _ _,[],by simp⟩) ?_
 rintro ex a1 w1 ⟨M1,e1,s',h,V⟩
 cases ex with
 | normal =>
  obtain ⟨u,hb⟩:=V
  have j:s'.loops[s1.loops.length]? = some { la with st := .ready,pend:=none }:=by rw [u];exact U
  obtain ⟨_,G,E,k2,_⟩:=h.rel.st.loop.record _ _ j
  have H:s1.loops.length<M.NL:=by rw [c.loop.NL];simp [St.ext,St.push]
  have g:=h.ext.lb _ H
  rw [g] at E
  refine ⟨_,run_beginRound E k2,?_⟩
  obtain ⟨D,z⟩:=h.rel.st.setLoop j .busy none (by rw [g];exact E)
  rw [g] at D z
  have q:G.pending=none:=by
   obtain ⟨_,aa,k1',_,Q,_⟩:=h.rel.st.loop.record _ _ j
   rw [g,E] at k1'
   cases k1'
   exact Q
  have er:({ G with state:=LoopState.busy,pending:=none }:Loop)={ G with state:=LoopState.busy }:=by rw [←q]
  rw [er] at D z
  have eL:{ s' with loops:=s'.loops.set s1.loops.length { la with st := .busy,pend:=none } }={ s' with loops:=((s1.push { la with st := .busy,pend:=none }).ext X).loops }:=by
   rw [u]
   simp only [St.ext,St.push]
   rw [List.set_append_left _ _ (by simp),List.set_append_right _ _ (by simp)]
   simp
  simp only at D
  rw [eL] at D
  have K:At w0 la.n M w e1 { s' with loops:=((s1.push { la with st := .busy,pend:=none }).ext X).loops } a1 (w1.putObj (M.lb s1.loops.length) (.loop { G with state := .busy })) M1 :=
   ⟨⟨D,h.rel.size,fun s x hs=>(h.rel.env s x hs).mono z⟩,h.ext.trans z,h.marks.later z h.rel.st⟩
  refine wpIn_mono (hb m M1 a1 _ K) ?_
  rintro ex a2 w2 ⟨M2,e2,s2,h3,Y⟩
  have k:=hI ex
  have fin:∀ jump,Sm ex=some jump→∃ v w',(Instr.endRound (M.lb s1.loops.length) jump).run P w2 = .ok v w'∧Comes' w0 M w Post (.returned v) w':=fun jump hj =>
   Zaa hX (jump:=jump) c h3.ext h3.rel.st Y (fun t t1 t2 t3=>hpost ex jump t hj t1 t2 t3)
  obtain ⟨t,b,q1,q2,q3,q4,q5⟩:=Y
  have:=k t q4
  cases ex with
  | normal=>exact fin _ rfl
  | ret=>exact fin _ rfl
  | exit id=>exact fin _ rfl
  | _=>simp [Sm] at this
 | _=>exact V.elim
theorem Us {M0:Mem} {W0:World} {Q:AQ} {g:Operand} {ps:Array Tmp} {asg body:Code} {gf:FuncId} {caps:List AV} (items:Ao) (Fr:St→Prop) (I:Nat→St→Prop) (Ix:Exit→St→Prop)
  (hg:AH e true g) (hgv:Az e g = .clo gf caps) (hit:ZfR P w0 gf caps items Fr) (hlen:∀ x∈items,x.length=ps.size) (hps:∀ p∈ps.toList,p<n)
  (hFr:∀ i s la,I i s→s.like st→s.loops=st.loops→Fr (s.push la)) (h0:I 0 st) (hIx:∀ ex s,Ix ex s→ex = .ret∨∃ id,ex = .exit id)
  (hbody:∀ (i:Nat) (s1 X:St) (x:List AV) (M0:Mem) (W0:World) (l:Nat) (la la':LoopA),X.rows=[]→I i s1→s1.like st→s1.loops=st.loops→items[i]? = some x→RoundAt M0 ((s1.push la').ext X) →
   ∀ K:Env→St→Prop,(∀ e' s',s'.loops=((s1.push la).ext X).loops→(∀ KQ:AQ,(∀ ex e s,Yy (fun ex s=>match ex with | .normal=>I (i+1) s | _=>Ix ex s) s1 X la' ex e s→KQ ex e s)→DF P w0 n M0 W0 (some l) body KQ e' { s' with loops:=((s1.push la').ext X).loops })→K e' s') →
   DF P w0 n M0 W0 (some l) asg (UQ K (fun _ _ _=>False)) (Ur e ps.toList x) ((s1.push la).ext X))
  (hdone:∀ s la X,X.rows=[]→I items.length s→s.like st→s.loops=st.loops→Q .normal e ((s.push la).ext X))
  (hleft:∀ ex s la X,X.rows=[]→Ix ex s→s.like st→s.loops=st.loops→Q ex e ((s.push la).ext X)):DF P w0 n M0 W0 none (.rangeFunc g ps asg body) Q e st:=by
 intro m M a w j
 refine wpIn_rangeFunc fun fn _=>?_
 obtain ⟨n1,n2⟩:=j.rel.newLoop fn ps asg body
 obtain ⟨cs,ai,C⟩:=ZD (hgv▸A2 j.rel hg)
 generalize hW1:((w.alloc (.deferred (some []))).alloc (.loop { state := .ready,pending:=none,fn,tmps:=a.tmps,params:=ps,assign:=asg,body,defers:=w.heap.size }))=W1 at n1 n2
 generalize hM1:M.newLoop (w.heap.size+1)=M1 at n1 n2
 have ab:M.NL=st.loops.length:=j.rel.st.loop.NL
 have E:M1.lb st.loops.length=w.heap.size+1:=by rw [←hM1,←ab];simp [Mem.newLoop]
 have aa:∀ k,k<st.loops.length→M1.lb k<w.heap.size:=fun k V=>by
  obtain ⟨_,r,q,_⟩:=j.rel.st.loop.record k _ (List.getElem?_eq_getElem V)
  rw [n2.lb k (by omega)]
  exact (Array.getElem?_eq_some_iff.1 q).1
 have ak:M1.NL=st.loops.length+1:=by rw [n1.loop.NL];simp [St.push]
 have z:W1.heap[w.heap.size]? = some (.deferred (some [])):=by
  rw [←hW1];exact (Br _ _ (by simp)).trans (World.alloc_heap_new w _)
 let la0:LoopA:=⟨e,n,ps,asg,body,.ready,none⟩
 let J:Nat→St→Prop:=fun i s=>∃ s1,I i s1∧s1.like st∧s1.loops=st.loops∧s=s1.push la0
 let Jx:St→Prop:=fun s=>∃ ex c s1,Sm ex=some (some c)∧Ix ex s1∧s1.like st∧s1.loops=st.loops∧s=s1.push { la0 with st := .done,pend:=some c }
 have f:=hit st.loops.length J Jx (fun i s ⟨s1,F,u,j3,j4⟩=>⟨by rw [j4];exact hFr i s1 la0 F u j3,by rw [j4];simp [St.push,j3]⟩)
  (fun i s x X hX ⟨s1,F,u,j3,j4⟩ N=>by
   subst j4
   have:=Zah hX (P:=P) (w0:=w0) (la:=la0) (s1:=s1) (X:=X) (I:=fun ex s=>match ex with | .normal=>I (i+1) s | _=>Ix ex s) (x:=x)
    (Post:=fun r s'=>∃ t,s'=t.ext X∧t.like (s1.push la0)∧((r = .val (.bool true)∧J (i+1) t)∨(r = .val (.bool false)∧Jx t)))
    (hlen x (List.mem_of_getElem? N)) hps (fun M0 W0 l _ af=>hbody i s1 X x M0 W0 l _ _ hX F u j3 N af _ (fun e' s' h1 O=>⟨h1,O _ (fun _ _ _ h=>h)⟩))
    (fun ex s h=>by
     cases ex with
     | normal=>rfl
     | ret=>rfl
     | exit id=>rfl
     | _=>rcases hIx _ s h with h | ⟨id,h⟩<;>cases h)
    (fun ex am t hj t1 t2 t3=>by
     refine ⟨_,rfl,⟨t1.1,t1.2.1,by simp [St.push,t2]⟩,?_⟩
     have like':t.like st:=⟨t1.1.trans u.1,Nat.le_trans u.2.1 t1.2.1,t1.2.2.trans u.2.2⟩
     cases ex with
     | normal=>cases hj;exact .inl ⟨rfl,t,t3,like',t2.trans j3,rfl⟩
     | ret=>cases hj;exact .inr ⟨rfl,.ret,.ret,t,rfl,t3,like',t2.trans j3,rfl⟩
     | exit id=>cases hj;exact .inr ⟨rfl,.exit id,.exit id,t,rfl,t3,like',t2.trans j3,rfl⟩
     | _=>cases hj)
   rw [j3] at this
   exact this)
  (st.push la0) ⟨st,h0,⟨rfl,Nat.le_refl _,rfl⟩,rfl,rfl⟩
 have G:RowR w0 M1 W1 (#[.func (.yield (w.heap.size+1)) #[] #[]]++cs) (.yld st.loops.length::caps):=by
  have e1:RowR w0 M1 W1 #[.func (.yield (w.heap.size+1)) #[] #[]] [.yld st.loops.length]:=by
   refine ⟨rfl,fun i h1 O=>?_⟩
   have:i=0:=by simp at O;exact O
   subst this
   have:=R.yld (w0:=w0) (M:=M1) (w:=W1) (k:=st.loops.length) (by omega)
   rw [E] at this
   exact this
  have e2:RowR w0 M1 W1 cs caps:=⟨C.1,fun i h1 O=>(C.2 i h1 O).mono n2⟩
  exact e1.append e2
 refine ⟨w.heap.size+1,[{ target := .collected w.heap.size,args := #[] }],W1,{ target := .fn (.func gf) cs,args := #[.func (.yield (w.heap.size+1)) #[] #[]] },W1,gf,
  #[.func (.yield (w.heap.size+1)) #[] #[]]++cs,W1,?_,?_,?_,?_,fun q=>S0 none q m,?_⟩
 ·rw [←hW1];exact run_enterLoop_outer _ _ _ _ _
 ·simp only [resolve,ai]
  simp [go_sem]
 ·intro f' _;exact QU none f'
 ·simp [invoke,go_sem,f.1 _ W1]
 ·refine S5 ((f.2 M1 W1 _ n1 G).mono ?_)
  rintro en w3 ⟨v,M3,r,s3,rfl,hp,x3,r3,_⟩
  have ah:M3.lb st.loops.length=w.heap.size+1:=(x3.lb _ (by omega)).trans E
  have d:∀ (s1 X:St) (p:Option Code) (b:LoopState),b ≠ .busy→s3=(s1.push { la0 with st:=b,pend:=p }).ext X→s1.loops=st.loops →
    ∃ U,(Instr.endLoop (w.heap.size+1)).run P w3 = .ok p U∧At w0 n M0 W0 e ((s1.push { la0 with st := .exhausted,pend:=p }).ext X) { a with defers:=[{ target := .collected w.heap.size,args := #[] }]++a.defers } U M3:=by
   intro s1 X p b Y hs3 Z
   subst hs3
   have V:((s1.push { la0 with st:=b,pend:=p }).ext X).loops[st.loops.length]? = some { la0 with st:=b,pend:=p }:=by
    simp [St.push,St.ext,Z]
   obtain ⟨_,H,g1,g2,g3,_⟩:=r3.loop.record _ _ V
   simp only at g2 g3
   obtain ⟨z1,z2⟩:=r3.setLoop V .exhausted p g1
   rw [ah] at g1 z1 z2
   have o:=run_endLoop (P:=P) g1 (by rw [g2];exact Y)
   have er:({ H with state:=LoopState.exhausted,pending:=p }:Loop)={ H with state:=LoopState.exhausted }:=by rw [←g3]
   rw [er] at z1 z2
   have o:=o.trans (congrArg (fun q=>Result.ok q _) g3)
   have eL:{ ((s1.push { la0 with st:=b,pend:=p }).ext X) with loops:=((s1.push { la0 with st:=b,pend:=p }).ext X).loops.set st.loops.length { la0 with st := .exhausted,pend:=p } }=(s1.push { la0 with st := .exhausted,pend:=p }).ext X:=by
    simp only [St.push,St.ext,Z,List.append_assoc]
    rw [List.set_append_right _ _ (by simp)]
    simp
   simp only at z1
   have N:Ext w0 M w M3 (w3.putObj (w.heap.size+1) (.loop { H with state := .exhausted })):=n2.trans (x3.trans z2)
   refine ⟨_,o,⟨⟨?_,j.rel.size,fun s x hs=>(j.rel.env s x hs).mono N⟩,j.ext.trans N,?_⟩⟩
   ·rw [←eL];exact z1
   ·obtain ⟨Ds,d1,d2,d3⟩:=j.marks.later N j.rel.st
    obtain ⟨Ds',ao,ag,ae⟩:=j.marks
    have aj:Ds'=Ds:=by
     rw [ag] at d2
     have ad:Function.Injective (fun D=>({ target := .collected D,args := #[] }:Deferred)):=fun x y h=>by simpa using h
     exact List.map_inj_right (fun x y h=>ad h) |>.1 d2
    refine ⟨w.heap.size::Ds,List.nodup_cons.2 ⟨fun hm=>?_,d1⟩,by simp [d2],fun D hD=>?_⟩
    ·have:=(ae _ (aj▸hm)).2
     have:=(Array.getElem?_eq_some_iff.1 this).1
     omega
    ·rcases List.mem_cons.1 hD with rfl | hD
     ·refine ⟨j.ext.size,?_⟩
      rw [World.putObj_heap_other (by omega)]
      refine x3.objs _ _ z rfl fun k V=>?_
      by_cases c:k=st.loops.length
      ·subst c;omega
      ·have:=aa k (by omega)
       omega
     ·exact d3 D hD
  obtain ⟨t,X,hX,rfl,hp⟩:=hp
  rcases hp with ⟨s1,F,u,j3,rfl⟩ | ⟨ex,c,s1,j0,F,u,j3,rfl⟩
  ·obtain ⟨U,q1,q2⟩:=d s1 X none .ready (by simp) rfl j3
   exact ⟨none,U,q1,M3,e,_,q2,hdone s1 _ X hX F u j3⟩
  ·obtain ⟨U,q1,q2⟩:=d s1 X (some c) .done (by simp) rfl j3
   refine ⟨some c,U,q1,?_⟩
   have hq:=hleft ex s1 { la0 with st := .exhausted,pend:=some c } X hX F u j3
   cases ex with
   | ret=>cases j0;exact wpIn_ret ⟨M3,e,_,q2,hq⟩
   | exit id=>cases j0;exact wpIn_exit ⟨M3,e,_,q2,hq⟩
   | _=>cases j0
end
attribute [go_sem] Zck MX eqCell.eq_1 eqCell.eq_2 eqCell.eq_3 Ly Sz Iz argP BP looks ZcG Op.operands Call.operands Array.toList_append Option.toArray ZH JE Js BK AZ AH Az look JA Du UQ Ti Zb6 SV Zaq WZ H8 Me NY Oz FB Up B7 MS inK Own.under AA IY St.ext St.push St.cut Ur Og Ya evBin.eq_1 evBin.eq_2 evBin.eq_3 evBin.eq_4 evBin.eq_5 evBin.eq_6 evBin.eq_7 evBin.eq_8 evBin.eq_9 evBin.eq_10 evBin.eq_11 evBin.eq_12 evBin.eq_13 evBin.eq_14 evBin.eq_15 evBin.eq_16 evBin.eq_17 evBin.eq_18 evBin.eq_19 evBB.eq_1 evBB.eq_2 evUn.eq_1 evUn.eq_2
@[go_sem] theorem Zd1 (k:Nat):RH (.tmp k)=false:=rfl
@[go_sem] theorem Zbb (v:Value):RH (.const v)=FT v:=rfl
@[go_sem] theorem Zdc (k:IntKind) (n:Int):FT (.int k n)=false:=rfl
@[go_sem] theorem Zd3 (s:ByteArray):FT (.string s)=false:=rfl
@[go_sem] theorem ZcV (b:Bool):FT (.bool b)=false:=rfl
@[go_sem] theorem ZdQ:FT .nilIface=true:=rfl
@[go_sem] theorem Zfl (t:TypeId) (v:Value):FT (.iface t v)=false:=rfl
@[go_sem] theorem ZeN (v:Value):RN .eql v=(Pq v=true,FT v):=rfl
@[go_sem] theorem Zem (v:Value):RN .neq v=(Pq v=true,!FT v):=rfl
@[go_sem] theorem Zb8 (v:Value):EU (.val v:AV)=true:=rfl
@[go_sem] theorem Zba (xs:List AV) (o:Own):EU (.list xs o:AV)=false:=rfl
@[go_sem] theorem Zbf (x:AV) (k:Nat):EU (.elem x k:AV)=false:=rfl
@[go_sem] theorem ZbH (l k:Nat):EU (.box l k:AV)=false:=rfl
@[go_sem] theorem ZbU (f:FuncId) (cs:List AV):EU (.clo f cs:AV)=false:=rfl
@[go_sem] theorem Zc4 (cs:List AV):EU (.agg cs:AV)=false:=rfl
@[go_sem] theorem ZbJ (vs:List AV):EU (.tup vs:AV)=false:=rfl
@[go_sem] theorem Zc1 (k:Nat):EU (.yld k:AV)=false:=rfl
@[go_sem] theorem ZbC (id ver o n:Nat):EU (.vec id ver o n:AV)=false:=rfl
@[go_sem] theorem ZcB (id ver o:Nat):EU (.vel id ver o:AV)=false:=rfl
@[go_sem] theorem Zci (v:Value):GA (.val v:AV)=v:=rfl
@[go_sem] theorem ZfU (xs:List AV) (o:Own):Ui (.list xs o:AV)=false:=rfl
@[go_sem] theorem ZfD (x:AV) (k:Nat):Ui (.elem x k:AV)=false:=rfl
@[go_sem] theorem ZgE (l k:Nat):Ui (.box l k:AV)=false:=rfl
@[go_sem] theorem Zgs (f:FuncId) (cs:List AV):Ui (.clo f cs:AV)=false:=rfl
@[go_sem] theorem ZgP (cs:List AV):Ui (.agg cs:AV)=false:=rfl
@[go_sem] theorem ZgT (vs:List AV):Ui (.tup vs:AV)=false:=rfl
@[go_sem] theorem Zgp (k:Nat):Ui (.yld k:AV)=false:=rfl
@[go_sem] theorem Zgb (id ver o n:Nat):Ui (.vec id ver o n:AV)=false:=rfl
@[go_sem] theorem Zgy (id ver o:Nat):Ui (.vel id ver o:AV)=false:=rfl
@[go_sem] theorem Zdj (xs:List AV) (o:Own):Dt (.list xs o:AV)=false:=rfl
@[go_sem] theorem ZdC (x:AV) (k:Nat):Dt (.elem x k:AV)=false:=rfl
@[go_sem] theorem Zd9 (l k:Nat):Dt (.box l k:AV)=false:=rfl
@[go_sem] theorem Zeh (f:FuncId) (cs:List AV):Dt (.clo f cs:AV)=false:=rfl
@[go_sem] theorem ZeV (cs:List AV):Dt (.agg cs:AV)=false:=rfl
@[go_sem] theorem Ze7 (vs:List AV):Dt (.tup vs:AV)=false:=rfl
@[go_sem] theorem Zd7 (k:Nat):Dt (.yld k:AV)=false:=rfl
@[go_sem] theorem ZeA (id ver o n:Nat):Dt (.vec id ver o n:AV)=false:=rfl
@[go_sem] theorem ZeF (id ver o:Nat):Dt (.vel id ver o:AV)=false:=rfl
@[go_sem] theorem ZdR (xs:List AV) (o:Own):MN (.list xs o:AV)=false:=rfl
@[go_sem] theorem Zdx (x:AV) (k:Nat):MN (.elem x k:AV)=false:=rfl
@[go_sem] theorem Ze1 (l k:Nat):MN (.box l k:AV)=false:=rfl
@[go_sem] theorem ZeL (f:FuncId) (cs:List AV):MN (.clo f cs:AV)=false:=rfl
@[go_sem] theorem ZeH (cs:List AV):MN (.agg cs:AV)=false:=rfl
@[go_sem] theorem ZeO (vs:List AV):MN (.tup vs:AV)=false:=rfl
@[go_sem] theorem Zey (k:Nat):MN (.yld k:AV)=false:=rfl
@[go_sem] theorem Zei (id ver o n:Nat):MN (.vec id ver o n:AV)=false:=rfl
@[go_sem] theorem Zfc (id ver o:Nat):MN (.vel id ver o:AV)=false:=rfl
@[go_sem] theorem Zfw (b:Bool):Ui (.val (.bool b))=true:=rfl
@[go_sem] theorem Zgt (k:IntKind) (n:Int):Ui (.val (.int k n))=false:=rfl
@[go_sem] theorem Zf8 (s:ByteArray):Ui (.val (.string s))=false:=rfl
@[go_sem] theorem Zed:Ui (.val undef)=false:=rfl
@[go_sem] theorem Zhi (b:Bool):Ji (.val (.bool b))=b:=rfl
@[go_sem] theorem Ziy (k:IntKind) (n:Int):Dt (.val (.int k n))=true:=rfl
@[go_sem] theorem ZgX (k:IntKind) (n:Int):AD (.val (.int k n))=n:=rfl
@[go_sem] theorem Zf4 (k:IntKind) (n:Int):JF (.val (.int k n))=k:=rfl
@[go_sem] theorem ZiA (s:ByteArray):MN (.val (.string s))=true:=rfl
@[go_sem] theorem ZhN (s:ByteArray):Zbz (.val (.string s))=s:=rfl
@[go_sem] theorem Zhw (n:Int):To (.val (.int .u8 n))=(0≤n∧n≤255):=rfl
@[go_sem] theorem ZbT (xs:List AV) (o:Own):AM (.list xs o:AV)=xs:=rfl
@[go_sem] theorem Zda (v:Value):Bv (.val v:AV)=false:=rfl
@[go_sem] theorem ZcM (xs:List AV) (o:Own):Bv (.list xs o:AV)=true:=rfl
@[go_sem] theorem ZbZ (x:AV) (k:Nat):Bv (.elem x k:AV)=false:=rfl
@[go_sem] theorem ZdL (l k:Nat):Bv (.box l k:AV)=false:=rfl
@[go_sem] theorem Zdl (f:FuncId) (cs:List AV):Bv (.clo f cs:AV)=false:=rfl
@[go_sem] theorem Zdz (cs:List AV):Bv (.agg cs:AV)=false:=rfl
@[go_sem] theorem ZdP (vs:List AV):Bv (.tup vs:AV)=false:=rfl
@[go_sem] theorem Zde (k:Nat):Bv (.yld k:AV)=false:=rfl
@[go_sem] theorem Zd6 (id ver o n:Nat):Bv (.vec id ver o n:AV)=false:=rfl
@[go_sem] theorem Zd2 (id ver o:Nat):Bv (.vel id ver o:AV)=false:=rfl
@[go_sem] theorem Zez (v:Value):DR (.val v:AV)=0:=rfl
@[go_sem] theorem Zdy (xs:List AV) (o:Own):DR (.list xs o:AV)=0:=rfl
@[go_sem] theorem ZdF (x:AV) (k:Nat):DR (.elem x k:AV)=k:=rfl
@[go_sem] theorem Zex (l k:Nat):DR (.box l k:AV)=k:=rfl
@[go_sem] theorem ZeK (f:FuncId) (cs:List AV):DR (.clo f cs:AV)=0:=rfl
@[go_sem] theorem Ze0 (cs:List AV):DR (.agg cs:AV)=0:=rfl
@[go_sem] theorem ZeB (vs:List AV):DR (.tup vs:AV)=0:=rfl
@[go_sem] theorem Zfq (k:Nat):DR (.yld k:AV)=0:=rfl
@[go_sem] theorem Zet (id ver o n:Nat):DR (.vec id ver o n:AV)=0:=rfl
@[go_sem] theorem Zej (id ver o:Nat):DR (.vel id ver o:AV)=o:=rfl
@[go_sem] theorem Zfa (v:Value):Nj (.val v:AV)=false:=rfl
@[go_sem] theorem Zc7 (xs:List AV) (o:Own):Nj (.list xs o:AV)=false:=rfl
@[go_sem] theorem ZdB (x:AV) (k:Nat):Nj (.elem x k:AV)=false:=rfl
@[go_sem] theorem Zfn (l k:Nat):Nj (.box l k:AV)=true:=rfl
@[go_sem] theorem Zec (f:FuncId) (cs:List AV):Nj (.clo f cs:AV)=false:=rfl
@[go_sem] theorem ZeI (cs:List AV):Nj (.agg cs:AV)=false:=rfl
@[go_sem] theorem Zeq (vs:List AV):Nj (.tup vs:AV)=false:=rfl
@[go_sem] theorem ZeW (k:Nat):Nj (.yld k:AV)=false:=rfl
@[go_sem] theorem Zee (id ver o n:Nat):Nj (.vec id ver o n:AV)=false:=rfl
@[go_sem] theorem Zeo (id ver o:Nat):Nj (.vel id ver o:AV)=true:=rfl
@[go_sem] theorem Zdh (v:Value):AX (.val v:AV)=true:=rfl
@[go_sem] theorem Zbp (xs:List AV) (o:Own):AX (.list xs o:AV)=true:=rfl
@[go_sem] theorem ZbD (x:AV) (k:Nat):AX (.elem x k:AV)=true:=rfl
@[go_sem] theorem Zdp (l k:Nat):AX (.box l k:AV)=true:=rfl
@[go_sem] theorem ZdK (f:FuncId) (cs:List AV):AX (.clo f cs:AV)=true:=rfl
@[go_sem] theorem Zdw (cs:List AV):AX (.agg cs:AV)=true:=rfl
@[go_sem] theorem ZdE (vs:List AV):AX (.tup vs:AV)=false:=rfl
@[go_sem] theorem Zdg (k:Nat):AX (.yld k:AV)=true:=rfl
@[go_sem] theorem Zdf (id ver o n:Nat):AX (.vec id ver o n:AV)=true:=rfl
@[go_sem] theorem ZdA (id ver o:Nat):AX (.vel id ver o:AV)=true:=rfl
@[go_sem] theorem ZdH (v:Value):Fp (.val v:AV)=false:=rfl
@[go_sem] theorem Zbm (xs:List AV) (o:Own):Fp (.list xs o:AV)=false:=rfl
@[go_sem] theorem Zcx (x:AV) (k:Nat):Fp (.elem x k:AV)=false:=rfl
@[go_sem] theorem Zd4 (l k:Nat):Fp (.box l k:AV)=false:=rfl
@[go_sem] theorem Zdo (f:FuncId) (cs:List AV):Fp (.clo f cs:AV)=false:=rfl
@[go_sem] theorem ZdT (cs:List AV):Fp (.agg cs:AV)=true:=rfl
@[go_sem] theorem Zdk (vs:List AV):Fp (.tup vs:AV)=false:=rfl
@[go_sem] theorem ZdI (k:Nat):Fp (.yld k:AV)=false:=rfl
@[go_sem] theorem Zc8 (id ver o n:Nat):Fp (.vec id ver o n:AV)=false:=rfl
@[go_sem] theorem Zc6 (id ver o:Nat):Fp (.vel id ver o:AV)=false:=rfl
@[go_sem] theorem Zbc (v:Value):AV.cells (.val v:AV)=[.val v]:=rfl
@[go_sem] theorem Zaw (xs:List AV) (o:Own):AV.cells (.list xs o:AV)=[.list xs o]:=rfl
@[go_sem] theorem Z3 (x:AV) (k:Nat):AV.cells (.elem x k:AV)=[.elem x k]:=rfl
@[go_sem] theorem Za9 (l k:Nat):AV.cells (.box l k:AV)=[.box l k]:=rfl
@[go_sem] theorem Zbj (f:FuncId) (cs:List AV):AV.cells (.clo f cs:AV)=[.clo f cs]:=rfl
@[go_sem] theorem Q7 (cs:List AV):AV.cells (.agg cs:AV)=cs:=rfl
@[go_sem] theorem Zbi (vs:List AV):AV.cells (.tup vs:AV)=[.tup vs]:=rfl
@[go_sem] theorem Zbd (k:Nat):AV.cells (.yld k:AV)=[.yld k]:=rfl
@[go_sem] theorem Zbg (id ver o n:Nat):AV.cells (.vec id ver o n:AV)=[.vec id ver o n]:=rfl
@[go_sem] theorem Za8 (id ver o:Nat):AV.cells (.vel id ver o:AV)=[.vel id ver o]:=rfl
@[go_sem] theorem Zdb (v:Value):AV.pub (.val v:AV) = .val v:=rfl
@[go_sem] theorem Zcd (xs:List AV) (o:Own):AV.pub (.list xs o:AV) = .list xs .none:=rfl
@[go_sem] theorem ZcP (x:AV) (k:Nat):AV.pub (.elem x k:AV) = .elem x k:=rfl
@[go_sem] theorem ZdZ (l k:Nat):AV.pub (.box l k:AV) = .box l k:=rfl
@[go_sem] theorem Zdu (f:FuncId) (cs:List AV):AV.pub (.clo f cs:AV) = .clo f cs:=rfl
@[go_sem] theorem ZdS (cs:List AV):AV.pub (.agg cs:AV) = .agg (cs.map AV.pubCell):=rfl
@[go_sem] theorem ZdJ (vs:List AV):AV.pub (.tup vs:AV) = .tup vs:=rfl
@[go_sem] theorem Zdv (k:Nat):AV.pub (.yld k:AV) = .yld k:=rfl
@[go_sem] theorem ZdG (id ver o n:Nat):AV.pub (.vec id ver o n:AV) = .vec id ver o n:=rfl
@[go_sem] theorem ZdX (id ver o:Nat):AV.pub (.vel id ver o:AV) = .vel id ver o:=rfl
@[go_sem] theorem Zr (v:Value):AV.pubCell (.val v:AV) = .val v:=rfl
@[go_sem] theorem Y0 (xs:List AV) (o:Own):AV.pubCell (.list xs o:AV) = .list xs .none:=rfl
@[go_sem] theorem YE (x:AV) (k:Nat):AV.pubCell (.elem x k:AV) = .elem x k:=rfl
@[go_sem] theorem ZT (l k:Nat):AV.pubCell (.box l k:AV) = .box l k:=rfl
@[go_sem] theorem ZR (f:FuncId) (cs:List AV):AV.pubCell (.clo f cs:AV) = .clo f cs:=rfl
@[go_sem] theorem ZI (cs:List AV):AV.pubCell (.agg cs:AV) = .agg cs:=rfl
@[go_sem] theorem ZQ (vs:List AV):AV.pubCell (.tup vs:AV) = .tup vs:=rfl
@[go_sem] theorem Zs (k:Nat):AV.pubCell (.yld k:AV) = .yld k:=rfl
@[go_sem] theorem ZY (id ver o n:Nat):AV.pubCell (.vec id ver o n:AV) = .vec id ver o n:=rfl
@[go_sem] theorem ZG (id ver o:Nat):AV.pubCell (.vel id ver o:AV) = .vel id ver o:=rfl
@[go_sem] theorem ZdD (v:Value):AV.one (.val v:AV)=true:=rfl
@[go_sem] theorem ZcQ (xs:List AV) (o:Own):AV.one (.list xs o:AV)=true:=rfl
@[go_sem] theorem Zcm (x:AV) (k:Nat):AV.one (.elem x k:AV)=true:=rfl
@[go_sem] theorem ZdW (l k:Nat):AV.one (.box l k:AV)=true:=rfl
@[go_sem] theorem Zc9 (f:FuncId) (cs:List AV):AV.one (.clo f cs:AV)=true:=rfl
@[go_sem] theorem Zdq (cs:List AV):AV.one (.agg cs:AV)=false:=rfl
@[go_sem] theorem ZdY (vs:List AV):AV.one (.tup vs:AV)=false:=rfl
@[go_sem] theorem Zd0 (k:Nat):AV.one (.yld k:AV)=true:=rfl
@[go_sem] theorem Zc5 (id ver o n:Nat):AV.one (.vec id ver o n:AV)=true:=rfl
@[go_sem] theorem Zdd (id ver o:Nat):AV.one (.vel id ver o:AV)=true:=rfl
@[go_sem] theorem Zd5 (l o n:Nat):P8 (.box l o) n = .box l (o+n):=rfl
@[go_sem] theorem Zdt (id ver o n:Nat):P8 (.vel id ver o) n = .vel id ver (o+n):=rfl
@[go_sem] theorem Zbr (x:AV) (o n:Nat):P8 (.elem x o) n = .elem x (o+n):=rfl
@[go_sem] theorem Zht (st:St) (l o:Nat) (xs:List AV):RV st (.box l o) xs={ st with boxes:=st.boxes.set l (CM (st.boxes.getD l []) o xs) }:=rfl
@[go_sem] theorem Zf0 (a b:AV):AV.sel true a b=a:=by unfold AV.sel;split<;>rfl
@[go_sem] theorem ZeG (a b:AV):AV.sel false a b=b:=by unfold AV.sel;split<;>rfl
@[go_sem] theorem ZfY (t a b:Bool):AV.sel t (.val (.bool a)) (.val (.bool b)) = .val (.bool (cond t a b)):=by cases t<;>rfl
attribute [go_sem] UJ S4 RO UC Qe NX UU UW Uw UK
@[go_sem] theorem ZgI:Jc []=[]:=rfl
@[go_sem] theorem Zgx (t:Nat) (r:List Operand):Jc (.tmp t::r)=t::Jc r:=rfl
@[go_sem] theorem Ze3 (v:Value) (r:List Operand):Jc (.const v::r)=Jc r:=rfl
@[go_sem] theorem ZfT (f:FuncId) (r:List Operand):Jc (.func f::r)=Jc r:=rfl
@[go_sem] theorem ZdV (g:Nat) (r:List Operand):Jc (.global g::r)=Jc r:=rfl
@[go_sem] theorem Zh6 (p:Prop):(False→p)=True:=eq_true False.elim
@[go_sem] theorem ZiV (p:Prop):(True→p)=p:=propext ⟨fun h=>h trivial,fun h _=>h⟩
@[go_sem] theorem ZiF (p:Sort _):(p→True)=True:=eq_true fun _=>trivial
@[go_sem] theorem ite_f (b c:Bool):(if b=true then c else false)=(b&&c):=by cases b<;>rfl
@[go_sem] theorem ite_t (b c:Bool):(if b=true then true else c)=(b||c):=by cases b<;>rfl
@[go_sem] theorem bif_f (b c:Bool):cond b c false=(b&&c):=by cases b<;>rfl
@[go_sem] theorem bif_t (b c:Bool):cond b true c=(b||c):=by cases b<;>rfl
@[go_sem] theorem Zjl (b c:Bool):cond true b c=b:=rfl
@[go_sem] theorem Zjn (b c:Bool):cond false b c=c:=rfl
@[go_sem] theorem Zhc (b:Bool):(b == true)=b:=by cases b<;>rfl
@[go_sem] theorem Zgl (b:Bool):(b == false) = !b:=by cases b<;>rfl
attribute [go_sem] List.filterMap_nil List.append_nil List.nil_append List.cons_append Option.toList List.map_cons List.map_nil and_imp not_false_eq_true true_and and_true forall_const imp_self reduceIte List.getElem?_cons_zero List.getElem?_cons_succ Af Bool.true_and Bool.and_true Bool.false_and Bool.and_false Bool.or_true Bool.true_or Bool.or_false Bool.false_or List.toList_toArray List.mem_cons List.not_mem_nil or_false false_or forall_eq forall_eq_or_imp decide_eq_true_eq decide_eq_false_iff_not Bool.not_true Bool.not_false Bool.not_not
@[go_sem] theorem ZjC (b:Bool):((!b)=true)=(b=false):=by cases b<;>simp
@[go_sem] theorem Zjq (b:Bool):((!b)=false)=(b=true):=by cases b<;>simp
@[go_sem] theorem Zjo (b c:Bool):((b&&c)=true)=(b=true∧c=true):=Bool.and_eq_true b c
@[go_sem] theorem Zhx (n:Nat):(no_index (@OfNat.ofNat Int n instOfNat)).toNat = @OfNat.ofNat Nat n (instOfNatNat n):=rfl
@[go_sem] theorem Zif (i:Decidable True) : @decide True i=true:=by cases i with | isTrue h=>rfl | isFalse h=>exact absurd trivial h
@[go_sem] theorem Zhh (i:Decidable False) : @decide False i=false:=by cases i with | isTrue h=>exact h.elim | isFalse h=>rfl
@[go_sem] theorem ZjD (b:Bool):(b == b)=true:=by cases b<;>rfl
@[go_sem] theorem Zg2 (s:St):(s=s)=True:=eq_true rfl
@[go_sem] theorem tt_tt:(true=true)=True:=eq_true rfl
@[go_sem] theorem ff_tt:(false=true)=False:=eq_false (by decide)
@[go_sem] theorem tt_ff:(true=false)=False:=eq_false (by decide)
@[go_sem] theorem ff_ff:(false=false)=True:=eq_true rfl
@[go_sem] theorem Zhr (B l:Ao):(B++l).length=B.length+l.length:=List.length_append
@[go_sem] theorem ZhJ (B l:Av):(B++l).length=B.length+l.length:=List.length_append
@[go_sem] theorem Zaz (B l:Ao) (R:Av) (L:As) (k o:Nat):C7 ⟨B++l,R,L⟩ (.box (B.length+k) o)=decide (k<l.length):=by simp [C7]
@[go_sem] theorem Zf (B l:Ao) (R:Av) (L:As) (o:Nat):C7 ⟨B++l,R,L⟩ (.box B.length o)=decide (0<l.length):=by simp [C7]
@[go_sem] theorem Zgd (s:St) (x:AV) (o:Nat):C7 s (.elem x o)=AX x:=by cases x<;>rfl
@[go_sem] theorem Xx (B l:Ao) (k:Nat):(B++l).getD (B.length+k) []=l.getD k []:=by
 rw [List.getD_eq_getElem?_getD,List.getElem?_append_right (by omega),Nat.add_sub_cancel_left,List.getD_eq_getElem?_getD]
@[go_sem] theorem UY (B l:Ao):(B++l).getD B.length []=l.getD 0 []:=by
 rw [List.getD_eq_getElem?_getD,List.getElem?_append_right (by omega),Nat.sub_self,List.getD_eq_getElem?_getD]
@[go_sem] theorem ZfB (B l:Ao) (R:Av) (L:As) (k o:Nat):A6 ⟨B++l,R,L⟩ (.box (B.length+k) o)=l.getD k []:=Xx B l k
@[go_sem] theorem ZeT (B l:Ao) (R:Av) (L:As) (o:Nat):A6 ⟨B++l,R,L⟩ (.box B.length o)=l.getD 0 []:=UY B l
@[go_sem] theorem Ze4 (s:St) (x:AV) (o:Nat):A6 s (.elem x o)=x.cells:=rfl
@[go_sem] theorem Zeu (B l:Ao) (k:Nat) (x:List AV):(B++l).set (B.length+k) x=B++l.set k x:=by rw [List.set_append_right _ _ (by omega),Nat.add_sub_cancel_left]
@[go_sem] theorem Zcn (B l:Ao) (x:List AV):(B++l).set B.length x=B++l.set 0 x:=by rw [List.set_append_right _ _ (by omega),Nat.sub_self]
@[go_sem] theorem Zep (B l:Av) (k:Nat):(B++l)[B.length+k]? = l[k]? := by rw [List.getElem?_append_right (by omega),Nat.add_sub_cancel_left]
@[go_sem] theorem ZcH (B l:Av):(B++l)[B.length]? = l[0]? := by rw [List.getElem?_append_right (by omega),Nat.sub_self]
@[go_sem] theorem Zit (B l:Av) (k:Nat) (x:RowA):(B++l).set (B.length+k) x=B++l.set k x:=by rw [List.set_append_right _ _ (by omega),Nat.add_sub_cancel_left]
@[go_sem] theorem ZhA (B l:Av) (x:RowA):(B++l).set B.length x=B++l.set 0 x:=by rw [List.set_append_right _ _ (by omega),Nat.sub_self]
attribute [go_sem] List.take_succ_cons List.take_zero List.take_nil List.drop_succ_cons List.drop_zero List.drop_nil Int.toNat_natCast List.append_assoc List.length_cons List.length_nil Nat.zero_add Nat.add_zero List.set_cons_zero List.set_cons_succ List.getD_cons_zero List.getD_cons_succ
@[go_sem] theorem ZgU (x v:AV):CM [x] 0 [v]=[v]:=rfl
@[go_sem] theorem Zdi (l:List AV) (n:Nat) (h:l.length=n):(l.drop 0).take n=l:=by simp [←h]
theorem AY {P:Program} {f:FuncId} {fn:Func} (hf:P.funcs[f]? = some fn) (hb:fn.body.isSome=true) (hn:fn.name ≠ "runtime.NumGoroutine"):Jl P f:=by
 obtain ⟨c,a⟩:=Option.isSome_iff_exists.1 hb
 exact Ev.enters_of hf a hn
theorem Jw {P:Program} {w0:World} {f:FuncId} {args:List AV} {st:St} {r:Value} (hen:Jl P f) (hr:FB r=true)
  (h:∀ (M:Mem) (w:World) (vals:Array Value),Below w0.heap.size w0 w→RowR w0 M w vals args→Calls P f vals w fun en w'=>en = .returned r∧Below w.heap.size w w'):ACalls P w0 f args st fun v s=>v = .val r∧s=st :=
 ⟨hen,fun M w vals a b=>(h M w vals a.below b).mono fun en w' ⟨d,c⟩=>by
  obtain ⟨g,e⟩:=a.later c w.heap.size 0 (Nat.le_refl _) (.inr rfl)
  exact ⟨r,_,_,st,d,⟨rfl,rfl⟩,e,g,.flat hr⟩⟩
theorem PT {P:Program} {w0:World} {f:FuncId} {args:List AV} {st:St} {rs:List Value} (hen:Jl P f) (hr:∀ r∈rs,FB r=true)
  (h:∀ (M:Mem) (w:World) (vals:Array Value),Below w0.heap.size w0 w→RowR w0 M w vals args→Calls P f vals w fun en w'=>en = .returned (.tuple rs.toArray)∧Below w.heap.size w w'):ACalls P w0 f args st fun v s=>v = .tup (rs.map .val)∧s=st :=
 ⟨hen,fun M w vals c d=>(h M w vals c.below d).mono fun en w' ⟨g,e⟩=>by
  obtain ⟨k,j⟩:=c.later e w.heap.size 0 (Nat.le_refl _) (.inr rfl)
  exact ⟨.tuple rs.toArray,_,_,st,g,⟨rfl,rfl⟩,j,k,.tup (by simp) fun i a b=>by simp only [List.getElem_toArray,List.getElem_map];exact .flat (hr _ (List.getElem_mem _))⟩⟩
theorem Lj {w0:World} {M:Mem} {w:World} {vals:Array Value} {us:List Value} (h:RowR w0 M w vals (us.map .val)):vals=us.toArray:=by
 apply Array.ext
 ·simpa using h.1
 ·intro i b c
  have a:i<us.length:=by simpa using c
  have:=h.2 i b (by simpa using a)
  simp only [List.getElem_map] at this
  simp only [List.getElem_toArray]
  exact this.val_inv.1
@[go_sem] theorem T0 (P:Program) (st:St) (t:TypeId) (xs:List AV) (x:AV):BD P st t (.list xs .full) x=match KA P t with
  | some (el,sz,_,by8)=>if (AM x).length=0 then (Bv x=true∧0<sz,.list xs .full,st)
   else (Bv x=true∧CC P el sz by8 xs.length (AM x)∧(∀ y∈xs,y.cells.length=sz),.list (xs++(AM x).map AV.pub) (.row st.rows.length),{ st with rows:=st.rows++[.grow (xs.length+(AM x).length) sz] })
  | none=>(False,.junk,st):=rfl
@[go_sem] theorem Vj (P:Program) (st:St) (t:TypeId) (xs:List AV) (id:Nat) (x:AV):BD P st t (.list xs (.row id)) x=match KA P t with
  | some (el,sz,_,by8)=>(Bv x=true∧CC P el sz by8 xs.length (AM x)∧(∀ y∈xs,y.cells.length=sz)∧st.rows[id]? = some (.grow xs.length sz),.list (xs++(AM x).map AV.pub) (.row id),{ st with rows:=st.rows.set id (.grow (xs.length+(AM x).length) sz) })
  | none=>(False,.junk,st):=rfl
@[go_sem] theorem ZdU (P:Program) (st:St) (t:TypeId) (ys:List AV) (x:AV):BD P st t (.list ys .seed) x=match KA P t with
  | some (el,sz,_,by8)=>if (AM x).length=0 then (Bv x=true∧0<sz,.list ys .seed,st)
   else (Bv x=true∧CC P el sz by8 0 (AM x)∧ys.length=0∧0<(AM x).length,.vec st.rows.length 0 0 (AM x).length,{ st with rows:=st.rows++[.vec 0 sz ((AM x).flatMap fun y=>y.pub.cells)] })
  | none=>(False,.junk,st):=rfl
@[go_sem] theorem Zff (P:Program) (st:St) (t:TypeId) (id ver o n:Nat) (x:AV):BD P st t (.vec id ver o n) x=match KA P t with
  | some (el,sz,_,by8)=>match Ey st.rows id ver with
   | some (sz',cs)=>(Bv x=true∧CC P el sz by8 n (AM x)∧sz'=sz∧o=0∧n*sz≤cs.length,.vec id (ver+1) 0 (n+(AM x).length),{ st with rows:=st.rows.set id (.vec (ver+1) sz (cs.take (n*sz)++(AM x).flatMap fun y=>y.pub.cells)) })
   | none=>(False,.junk,st)
  | none=>(False,.junk,st):=rfl
attribute [go_sem] CC
@[go_sem] theorem ZhW (B l:Av) (k ver:Nat):Ey (B++l) (B.length+k) ver=Ey l k ver:=by simp [Ey,Zep]
@[go_sem] theorem Zg1 (B l:Av) (ver:Nat):Ey (B++l) B.length ver=Ey l 0 ver:=by simp [Ey,ZcH]
@[go_sem] theorem Zhb (ver sz:Nat) (cs:List AV) (l:Av):Ey (.vec ver sz cs::l) 0 ver=some (sz,cs):=by simp [Ey]
@[go_sem] theorem ZgY (r:RowA) (l:Av) (k ver:Nat):Ey (r::l) (k+1) ver=Ey l k ver:=by simp [Ey]
@[go_sem] theorem Zhk (s:St) (id ver o:Nat):C7 s (.vel id ver o)=(Ey s.rows id ver).isSome:=rfl
@[go_sem] theorem ZfC (s:St) (id ver o:Nat):A6 s (.vel id ver o)=match Ey s.rows id ver with | some (_,cs)=>cs | none=>[]:=rfl
@[go_sem] theorem ZdN (st:St) (id ver o:Nat) (xs:List AV):RV st (.vel id ver o) xs=match Ey st.rows id ver with
  | some (sz,cs)=>{ st with rows:=st.rows.set id (.vec ver sz (CM cs o xs)) }
  | none=>st:=rfl
def Grow (Rw:Av) (sz:Nat) (xs:List AV) (o:Own) (r:Av):Prop:=(xs=[]∧o = .full∧r=[])∨(o = .row Rw.length∧r=[.grow xs.length sz])
theorem Grow.nil (Rw:Av) (sz:Nat):Grow Rw sz [] .full [] := .inl ⟨rfl,rfl,rfl⟩
theorem Grow.more (Rw:Av) (sz:Nat) (xs:List AV) (n:Nat) (h:xs.length=n):Grow Rw sz xs (.row Rw.length) [.grow n sz] := .inr ⟨rfl,by rw [h]⟩
theorem Grow.len {Rw r:List RowA} {sz:Nat} {xs:List AV} {o:Own} (h:Grow Rw sz xs o r):r.length≤1:=by
 rcases h with ⟨_,_,rfl⟩ | ⟨_,rfl⟩<;>simp
theorem TW {P:Program} {t el:TypeId} {sz by8:Nat} {ag:Bool} {Rw r:List RowA} {xs:List AV} {o:Own} (he:KA P t=some (el,sz,ag,by8)) (hz:(BA P el).isSome=true) (hs:0<sz) (h:Grow Rw sz xs o r) (B:Ao) (L:As) (y:AV) (o2:Own) :
  BD P ⟨B,Rw++r,L⟩ t (.list xs o) (.list [y] o2)=(((xs.length+1)*by8≤140737488355328∧xs.length+1≤4611686018427387904∧(∀ y∈xs,y.cells.length=sz)∧y.cells.length=sz∧AX y=true),.list (xs++[y.pub]) (.row Rw.length),⟨B,Rw++[.grow (xs.length+1) sz],L⟩):=by
 rcases h with ⟨rfl,rfl,rfl⟩ | ⟨rfl,rfl⟩
 ·rw [T0,he];simp [AM,Bv,CC,hz,hs]
 ·rw [Vj,he];simp [AM,Bv,CC,hz,hs]
  exact ⟨fun ⟨⟨a,b,c,d⟩,e⟩=>⟨a,b,e,c,d⟩,fun ⟨a,b,e,c,d⟩=>⟨⟨a,b,c,d⟩,e⟩⟩
def Zo (c:Option IntKind × Bool) (x y:AV):Prop :=
 match x,y with
 | .val (.int k _),.val (.int k' _)=>c.1.isSome=true∧k=k'
 | .val (.string _),.val (.string _)=>c=(none,true)
 | .val (.bool _),.val (.bool _)=>c=(none,false)
 | _,_=>False
def Zc2 (P:Program) (t:TypeId):Option (Option IntKind × Bool) :=
 match M6 P t with
 | some k=>some (some k,false)
 | none=>if Ej P t=true then some (none,true) else if Lr P t=true then some (none,false) else none
def Rf (P:Program):List Field→Nat→Option (List (Option IntKind × Bool))
 | [],_=>some []
 | f::fs,i=>if f.name ≠ "_" ∧ f.offset=i∧GK P f.type=some (1,false) then
   match Zc2 P f.type,Rf P fs (i+1) with
   | some k,some ks=>some (k::ks)
   | _,_=>none
  else none
def VD (P:Program) (t:TypeId):Option (List (Option IntKind × Bool)) :=
 match eqT P t with
 | some fs=>Rf P fs 0
 | none=>none
def obK:List (Option IntKind × Bool)→List AV→List AV→Prop
 | [],[],[]=>True
 | k::ks,x::xs,y::ys=>Zo k x y∧obK ks xs ys
 | _,_,_=>False
theorem Zaj {P:Program} {t:TypeId} {k:Option IntKind × Bool} (h:Zc2 P t=some k) (x y:AV):Kq P t x y=Zo k x y:=by
 have c:∀ j,M6 P t=some j→Ej P t=false∧Lr P t=false:=fun j hj=>by
  unfold M6 at hj
  unfold Ej Lr
  split at hj
  ·rename_i q;rw [q];exact ⟨rfl,rfl⟩
  ·cases hj
 have b:Ej P t=true→Lr P t=false:=fun hj=>by
  unfold Ej at hj
  unfold Lr
  split at hj
  ·rename_i q;rw [q]
  ·cases hj
 unfold Zc2 at h
 unfold Kq Zo
 cases hi:M6 P t with
 | some j =>
  obtain ⟨q1,q2⟩:=c j hi
  rw [hi] at h
  cases h
  rw [q1,q2]
  split<;>simp
 | none =>
  rw [hi] at h
  simp only at h
  by_cases hs:Ej P t=true
  ·rw [Ai hs] at h
   cases h
   rw [hs,b hs]
   split<;>simp
  ·rw [Aj hs] at h
   have a:Ej P t=false:=by simpa using hs
   by_cases hb:Lr P t=true
   ·rw [Ai hb] at h
    cases h
    rw [a,hb]
    split<;>simp
   ·rw [Aj hb] at h;cases h
theorem VN {P:Program}:∀ (fs:List Field) (i:Nat) (ks:List (Option IntKind × Bool)),Rf P fs i=some ks→∀ xs ys,V5 P fs i xs ys=obK ks xs ys
 | [],i,ks,h,xs,ys=>by
  cases h
  cases xs<;>cases ys<;>simp [V5,obK]
 | f::fs,i,ks,h,xs,ys=>by
  unfold Rf at h
  split at h
  ·rename_i q
   split at h
   ·rename_i k ks' h1 h2
    cases h
    cases xs with
    | nil=>cases ys<;>simp [V5,obK]
    | cons x xs=>cases ys with
     | nil=>simp [V5,obK]
     | cons y ys =>
      simp only [V5,obK,VN fs (i+1) ks' h2 xs ys,Zaj h1,q,true_and]
      simp [q.1]
   ·cases h
  ·cases h
theorem Vb {P:Program} {t:TypeId} {ks:List (Option IntKind × Bool)} (h:VD P t=some ks) (xs ys:List AV):MR P .eql t xs ys=(obK ks xs ys,MX xs ys):=by
 unfold VD at h
 split at h
 ·rename_i fs q
  simp only [MR,q,VN fs 0 ks h]
 ·cases h
theorem Zao {P:Program} {t:TypeId} {ks:List (Option IntKind × Bool)} (h:VD P t=some ks) (xs ys:List AV):MR P .neq t xs ys=(obK ks xs ys,!MX xs ys):=by
 unfold VD at h
 split at h
 ·rename_i fs q
  simp only [MR,q,VN fs 0 ks h]
 ·cases h
attribute [go_sem] Zo obK
section
variable {P:Program} {w0:World} {n:Nat} {M:Mem} {e:Env} {st:St} {a:Act} {w:World}
theorem R.seed {v:Value} (h:R w0 M w v (.list [] .full)):R w0 M w v (.list [] .seed):=by
 cases h with
 | nil ho=>exact .nil (fun id=>by simp)
 | emp ho=>exact .emp (fun id=>by simp)
 | list sz us hc hm hcell hu ho=>exact .list (xs:=[]) sz us hc hm hcell hu ho
theorem HU {M0:Mem} {W0:World} {ro:Option Nat} {Q:AQ} {c:Code} (e':Env) (st':St)
  (hc:∀ M a w,Rel w0 n M e st a w→∃ M',Ext w0 M w M' w∧Rel w0 n M' e' st' a w) (h:DF P w0 n M0 W0 ro c Q e' st'):DF P w0 n M0 W0 ro c Q e st:=by
 intro m M a w b
 obtain ⟨M',d,f⟩:=hc M a w b.rel
 exact h m M' a w ⟨f,b.ext.trans d,b.marks.later d b.rel.st⟩
theorem Rel.relabel (h:Rel w0 n M e st a w) (k:Nat) (x:AV) (hx:R w0 M w (a.tmps.getD k undef) x):Rel w0 n M ((k,true,x)::e) st a w :=
 ⟨h.st,h.size,fun s y hs=>by
  simp only [look] at hs
  by_cases q:k=s
  ·subst q
   rw [Ai rfl] at hs
   cases hs
   exact hx
  ·rw [Aj q] at hs
   exact h.env s y hs⟩
theorem ZbE {M0:Mem} {W0:World} {ro:Option Nat} {Q:AQ} {c:Code} (k:Nat) (hk:look e k=some (true,.list [] .full)) (h:DF P w0 n M0 W0 ro c Q ((k,true,.list [] .seed)::e) st):DF P w0 n M0 W0 ro c Q e st :=
 HU _ _ (fun M a w b=>⟨M,.refl _ _ _,b.relabel k _ (by
  have:=b.env k _ hk
  simp only [entryOk,if_true] at this
  exact this.seed)⟩) h
theorem RelSt.setBox (h:RelSt w0 M st w) {l i:Nat} {cs:List AV} (hl:st.boxes[l]? = some cs) {x y:AV} (hi:cs[i]? = some x) (hone:y.one=true) (hR:∀ v,R w0 M w v x→R w0 M w v y) :
  RelSt w0 M { st with boxes:=st.boxes.set l (cs.set i y) } w:=by
 have d:l<st.boxes.length:=(Ak.1 hl).1
 have f:i<cs.length:=(Ak.1 hi).1
 refine ⟨h.below,by simp [h.N],h.NR,h.top,h.inj,fun a cs' hl'=>?_,h.row,h.rowinj,h.loop⟩
 by_cases q:a=l
 ·subst q
  rw [List.getElem?_set_self d] at hl'
  cases hl'
  obtain ⟨a1,a2,c,m,a3,a4,a5,a6⟩:=h.box a cs hl
  refine ⟨a1,a2,c,m,a3,by simp [a4],fun z b=>?_,fun j g k=>?_⟩
  ·rcases List.mem_or_eq_of_mem_set b with b | rfl
   ·exact a5 z b
   ·exact hone
  ·by_cases e:j=i
   ·subst e
    rw [List.getElem_set_self]
    obtain ⟨q1,q2⟩:=Ak.1 hi
    exact hR _ (q2▸a6 j g q1)
   ·rw [List.getElem_set_ne (Ne.symm e)]
    exact a6 j g (by simpa using k)
 ·rw [List.getElem?_set_ne (Ne.symm q)] at hl'
  exact h.box a cs' hl'
theorem Px {M0:Mem} {W0:World} {ro:Option Nat} {Q:AQ} {c:Code} (l i:Nat) {cs:List AV} (hl:st.boxes[l]? = some cs) (hi:cs[i]? = some (.list [] .full)) (h:DF P w0 n M0 W0 ro c Q e { st with boxes:=st.boxes.set l (cs.set i (.list [] .seed)) }):DF P w0 n M0 W0 ro c Q e st :=
 HU _ _ (fun M a w b=>⟨M,.refl _ _ _,b.st.setBox hl hi rfl (fun v hv=>hv.seed),b.size,b.env⟩) h
def Ny (sz:Nat) (ag:Bool) (cs:List AV) (o m:Nat):List AV:=(List.range m).map fun i=>Og ag cs ((o+i)*sz) sz
theorem Xh (sz:Nat) (ag:Bool) (cs:List AV) (o m:Nat):(Ny sz ag cs o m).length=m:=by simp [Ny]
def Mem.freeze (M:Mem) (id k:Nat):Mem:={ M with fr:=fun i=>if i=id then M.fr i+1 else M.fr i,top:=fun b=>if b=M.blk id then k else M.top b }
theorem RelSt.freeze (h:RelSt w0 M st w) {id ver sz:Nat} {cs:List AV} (hid:st.rows[id]? = some (.vec ver sz cs)) :
  Ext w0 M w (M.freeze id cs.length) w∧RelSt w0 (M.freeze id cs.length) { st with rows:=st.rows.set id (.dead (ver+1)) } w:=by
 have a:id<st.rows.length:=(Ak.1 hid).1
 have d:id<M.NR:=by rw [h.NR];exact a
 obtain ⟨y,Q,E,f4,t,O,K,c,r,s,J,C,G,H⟩:=h.row id _ hid
 have f:Ext w0 M w (M.freeze id cs.length) w :=
  ⟨Nat.le_refl _,fun _ _=>rfl,Nat.le_refl _,fun i hi=>by
   simp only [Mem.freeze]
   by_cases q:i=id
   ·rw [Ai q];exact ⟨Nat.le_succ _,fun e=>absurd e (by omega)⟩
   ·rw [Aj q];exact ⟨Nat.le_refl _,fun _=>⟨trivial,trivial,trivial⟩⟩,fun b z v hi u=>⟨u,hi.imp (fun q=>q) fun q=>by
    simp only [Mem.freeze]
    split
    ·rename_i e;rw [e,f4] at q;omega
    ·exact q⟩,Nat.le_refl _,Nat.le_refl _,fun _ _=>rfl,fun _ k j=>absurd j (Nat.not_lt.2 k),fun _ _ h _ _=>h⟩
 refine ⟨f,h.below,h.N,by simp [Mem.freeze,h.NR],fun b F=>?_,h.inj,fun l cs' o=>?_,fun i x hi=>?_,h.rowinj,h.loop.mono f rfl (KeepsObj.refl _)⟩
 ·have D:=(Array.getElem?_eq_some_iff.1 s).1
  simp only [Mem.freeze]
  rw [Aa]
  exact h.top b F
 ·obtain ⟨a1,a2,c,r,a3,a4,a5,a6⟩:=h.box l cs' o
  have n:l<M.N:=by rw [h.N];exact (Ak.1 o).1
  refine ⟨a1,?_,c,r,a3,a4,a5,fun i k j=>(a6 i k j).mono f⟩
  show (M.freeze id cs.length).top (M.bx l)=0
  simp only [Mem.freeze]
  rw [Aj (t l n)]
  exact a2
 ·by_cases q:i=id
  ·subst q
   rw [List.getElem?_set_self a] at hi
   cases hi
   exact ⟨by simp [Mem.freeze,y],E,t,(Array.getElem?_eq_some_iff.1 s).1⟩
  ·rw [List.getElem?_set_ne (Ne.symm q)] at hi
   have g:i<M.NR:=by rw [h.NR];exact (Ak.1 hi).1
   have p:=h.row i x hi
   have m:M.blk i≠M.blk id:=fun e=>q (h.rowinj i id g d e)
   exact p.keep f (by simp [Mem.freeze,q]) rfl rfl rfl (by simp [Mem.freeze,m]) p.ne rfl
theorem R.freeze (h:RelSt w0 M st w) {id ver sz:Nat} {cs:List AV} (hid:st.rows[id]? = some (.vec ver sz cs)) {ag:Bool} (hag:ag=true∨sz=1) {o m:Nat} (hb:(o+m)*sz≤cs.length) {v:Value} (hv:R w0 M w v (.vec id ver o m)) :
  R w0 (M.freeze id cs.length) w v (.list (Ny sz ag cs o m) .none):=by
 obtain ⟨C,_⟩:=h.freeze hid
 obtain ⟨D,J,U,N,Y,V,Q,c,H,K,O,G,n,r⟩:=h.row id _ hid
 cases hv with
 | @vec _ _ _ _ p cap d hver hh =>
 obtain ⟨rfl,z,F⟩:=hh D.symm
 have s:(Ny sz ag cs o m).length=m:=Xh _ _ _ _ _
 have g:∀ i,i<m→(o+i)*sz+sz≤cs.length:=fun i d=>by
  have:(o+i+1)*sz≤(o+m)*sz:=Nat.mul_le_mul_right _ (by omega)
  rw [Nat.succ_mul] at this
  omega
 let us:Nat→Value:=fun i=>if ag then .agg ((List.range sz).map fun j=>c.getD ((o+i)*sz+j) undef).toArray else c.getD ((o+i)*sz) undef
 have y:∀ i,i<m→R w0 M w (us i) (Og ag cs ((o+i)*sz) sz):=fun i d=>by
  refine PC (f:=fun j=>c.getD ((o+i)*sz+j) undef) n (g i d) hag (fun j l=>?_)
  have a:(o+i)*sz+j<c.size:=by omega
  rw [Array.getD_eq_getD_getElem?,Array.getElem?_eq_getElem a]
  exact r _ a l
 have k:∀ i,i<m→(us i).cells.size=sz∧∀ j,j<sz→(us i).cells[j]? = c[(o+i)*sz+j]? := fun i d=>by
  by_cases q:ag=true
  ·have e:us i = .agg ((List.range sz).map fun j=>c.getD ((o+i)*sz+j) undef).toArray:=by simp [us,q]
   rw [e]
   refine ⟨by simp [Value.cells],fun j l=>?_⟩
   have a:(o+i)*sz+j<c.size:=by have:=g i d;omega
   simp [Value.cells,l,Array.getElem?_eq_getElem a]
  ·have u:sz=1:=hag.resolve_left q
   have e:us i=c.getD ((o+i)*sz) undef:=by simp [us,q]
   have a:(o+i)*sz<c.size:=by have:=g i d;omega
   have t:(o+i)*sz<cs.length:=by have:=g i d;omega
   have x:=(r _ a t).cells_one (n _ (List.getElem_mem _))
   rw [e,Array.getD_eq_getD_getElem?,Array.getElem?_eq_getElem a,Option.getD_some,x.1]
   refine ⟨by simp [u],fun j l=>?_⟩
   obtain rfl:j=0:=by omega
   simp [Array.getElem?_eq_getElem a]
 have:=R.list (w0:=w0) (M:=M.freeze id cs.length) (w:=w) (b:=M.blk id) (off:=o*sz) (cap:=cap) (xs:=Ny sz ag cs o m) (o := .none) sz us (by rw [s];exact F) (by omega)
  (fun i d=>by
   rw [s] at d
   refine ⟨(k i d).1,fun j l=>⟨.inr ?_,?_⟩⟩
   ·have E:=g i d
    rw [Nat.add_mul] at E
    simp only [Mem.freeze,if_true]
    omega
   ·rw [(k i d).2 j l,Nat.add_mul,cell_of_row w _ _ c H _ K]) (fun i d=>by
   rw [s] at d
   simp only [Ny,List.getElem_map,List.getElem_range]
   exact (y i d).mono C) trivial
 rw [s] at this
 rw [J]
 exact this
theorem Ym {M0:Mem} {W0:World} {ro:Option Nat} {Q:AQ} {c:Code} (k:Nat) {id ver sz o m:Nat} {cs:List AV} (ag:Bool) (hk:look e k=some (true,.vec id ver o m)) (hid:Ey st.rows id ver=some (sz,cs)) (hag:ag=true∨sz=1) (hb:(o+m)*sz≤cs.length)
  (h:DF P w0 n M0 W0 ro c Q ((k,true,.list (Ny sz ag cs o m) .none)::e) { st with rows:=st.rows.set id (.dead (ver+1)) }):DF P w0 n M0 W0 ro c Q e st :=
 HU _ _ (fun M a w b=>by
  obtain ⟨d,f⟩:=b.st.freeze (EB hid)
  refine ⟨_,d,Rel.relabel ⟨f,b.size,fun s x hs=>(b.env s x hs).mono d⟩ k _ ?_⟩
  have:=b.env k _ hk
  simp only [entryOk,if_true] at this
  exact R.freeze b.st (EB hid) hag hb this) h
theorem Sj {M0:Mem} {W0:World} {ro:Option Nat} {Q:AQ} {c:Code} (l i:Nat) {id ver sz o m:Nat} {bs cs:List AV} (ag:Bool) (hl:st.boxes[l]? = some bs) (hi:bs[i]? = some (.vec id ver o m)) (hid:Ey st.rows id ver=some (sz,cs)) (hag:ag=true∨sz=1) (hb:(o+m)*sz≤cs.length)
  (h:DF P w0 n M0 W0 ro c Q e { st with boxes:=st.boxes.set l (bs.set i (.list (Ny sz ag cs o m) .none)),rows:=st.rows.set id (.dead (ver+1)) }):DF P w0 n M0 W0 ro c Q e st :=
 HU _ _ (fun M a w f=>by
  obtain ⟨u,b⟩:=f.st.freeze (EB hid)
  have d:=f.st.box l bs hl
  obtain ⟨a1,a2,c,K,a3,a4,a5,a6⟩:=d
  obtain ⟨q1,q2⟩:=Ak.1 hi
  have E:R w0 (M.freeze id cs.length) w (c[i]'(by omega)) (.list (Ny sz ag cs o m) .none):=R.freeze f.st (EB hid) hag hb (q2▸a6 i (by omega) q1)
  have k:l<st.boxes.length:=(Ak.1 hl).1
  refine ⟨_,u,⟨b.below,by simpa using b.N,b.NR,b.top,b.inj,fun g cs' hl'=>?_,b.row,b.rowinj,b.loop⟩,f.size,fun s x hs=>(f.env s x hs).mono u⟩
  by_cases q:g=l
  ·subst q
   simp only [List.getElem?_set_self k,Option.some.injEq] at hl'
   subst hl'
   obtain ⟨H,D,v,p,t,J,F,C⟩:=b.box g bs hl
   have ec:v=c:=by
    have:=t.symm.trans a3
    simp only [Option.some.injEq,Obj.cells.injEq] at this
    exact this.1
   subst ec
   refine ⟨H,D,v,p,t,by simp [J],fun z r=>?_,fun j G y=>?_⟩
   ·rcases List.mem_or_eq_of_mem_set r with r | rfl
    ·exact F z r
    ·rfl
   ·by_cases e:j=i
    ·subst e
     rw [List.getElem_set_self]
     exact E
    ·rw [List.getElem_set_ne (Ne.symm e)]
     exact C j G (by simpa using y)
  ·simp only [List.getElem?_set_ne (Ne.symm q)] at hl'
   exact b.box g cs' hl') h
end
def AV.pubA:AV→AV
 | .tup vs => .tup (vs.map AV.pub)
 | .agg cs => .agg (cs.map AV.pubCell)
 | .list xs _ => .list xs .none
 | x=>x
section
variable (vs cs xs:List AV) (o:Own) (v:Value) (x:AV) (i j k m:Nat)
@[go_sem] theorem ZhO:AV.pubA (.tup vs) = .tup (vs.map AV.pub):=rfl
@[go_sem] theorem Zig:AV.pubA (.agg cs) = .agg (cs.map AV.pubCell):=rfl
@[go_sem] theorem ZhD:AV.pubA (.list xs o) = .list xs .none:=rfl
@[go_sem] theorem SC:AV.pubA (.val v) = .val v:=rfl
@[go_sem] theorem Zhm:AV.pubA (.elem x i) = .elem x i:=rfl
@[go_sem] theorem Zh2:AV.pubA (.box i j) = .box i j:=rfl
@[go_sem] theorem ZhP:AV.pubA (.clo i xs) = .clo i xs:=rfl
@[go_sem] theorem Zis:AV.pubA (.yld i) = .yld i:=rfl
@[go_sem] theorem Ziw:AV.pubA (.vec i j k m) = .vec i j k m:=rfl
@[go_sem] theorem Zib:AV.pubA (.vel i j k) = .vel i j k:=rfl
@[go_sem] theorem Zjd:AV.pub (.agg cs) = .agg (cs.map AV.pubCell):=rfl
@[go_sem] theorem ZhV:AV.pub (.list xs o) = .list xs .none:=rfl
@[go_sem] theorem Zi2:AV.pub (.val v) = .val v:=rfl
@[go_sem] theorem Zh4:AV.pub (.elem x i) = .elem x i:=rfl
@[go_sem] theorem Zi6:AV.pub (.box i j) = .box i j:=rfl
@[go_sem] theorem Zi8:AV.pub (.clo i xs) = .clo i xs:=rfl
@[go_sem] theorem ZiB:AV.pub (.yld i) = .yld i:=rfl
@[go_sem] theorem ZiP:AV.pub (.vec i j k m) = .vec i j k m:=rfl
@[go_sem] theorem Zi3:AV.pub (.vel i j k) = .vel i j k:=rfl
@[go_sem] theorem Zek:AV.pubCell (.list xs o) = .list xs .none:=rfl
@[go_sem] theorem Zfz:AV.pubCell (.val v) = .val v:=rfl
@[go_sem] theorem ZeQ:AV.pubCell (.elem x i) = .elem x i:=rfl
@[go_sem] theorem ZfM:AV.pubCell (.box i j) = .box i j:=rfl
@[go_sem] theorem ZfV:AV.pubCell (.clo i xs) = .clo i xs:=rfl
@[go_sem] theorem Zf2:AV.pubCell (.yld i) = .yld i:=rfl
@[go_sem] theorem ZfP:AV.pubCell (.vec i j k m) = .vec i j k m:=rfl
@[go_sem] theorem ZfW:AV.pubCell (.vel i j k) = .vel i j k:=rfl
end
theorem R.pubA {w0:World} {M:Mem} {w:World} {v:Value} {x:AV} (h:R w0 M w v x):R w0 M w v x.pubA:=by
 cases h with
 | tup hl h=>exact .tup (by simpa using hl) (fun i a b=>by simp only [List.getElem_map];exact (h i a (by simpa using b)).pub)
 | flat hf=>exact (R.flat hf).pub
 | agg hl h1 h=>exact (R.agg hl h1 h).pub
 | nil ho=>exact (R.nil ho).pub
 | emp ho=>exact (R.emp ho).pub
 | list sz us hc hm hcell hu ho=>exact (R.list sz us hc hm hcell hu ho).pub
 | elem u k hcell hu=>exact (R.elem u k hcell hu).pub
 | box hl=>exact (R.box hl).pub
 | clo hl h=>exact (R.clo hl h).pub
 | yld hk=>exact (R.yld hk).pub
 | vec hi hv h=>exact (R.vec hi hv h).pub
 | vel hi hv h=>exact (R.vel hi hv h).pub
section
variable {P:Program} {w0:World} {st:St} {f:FuncId}
theorem ACalls.pub {args args':List AV} {Post:AV→St→Prop} (h:ACalls P w0 f args' st Post) (he:args.map AV.pubA=args'):ACalls P w0 f args st Post:=by
 subst he
 refine ⟨h.1,fun M w c e d=>h.2 M w c e ?_⟩
 obtain ⟨g,j⟩:=d
 refine ⟨by simpa using g,fun i a b=>?_⟩
 simp only [List.getElem_map]
 exact (j i a (by simpa using b)).pubA
theorem Ax {c d:Bool} {cs args args':List AV} {k:AV→St→Prop} (v:AV)
  (h:ACalls P w0 f args' st fun r s=>r=v∧s=st) (he:(args++cs).map AV.pubA=args') (hk:k v st):Jp P w0 c d (.clo f cs) args st k := .inl ⟨v,fun _=>h.pub he,hk⟩
theorem OM {c d:Bool} {cs args args':List AV} {k:AV→St→Prop} (v:AV)
  (h:c=true→ACalls P w0 f args' st fun r s=>r=v∧s=st) (he:(args++cs).map AV.pubA=args') (hk:k v st):Jp P w0 c d (.clo f cs) args st k := .inl ⟨v,fun q=>(h q).pub he,hk⟩
theorem EI {cs args args':List AV} {k:AV→St→Prop} (Post:AV→St→Prop)
  (h:ACalls P w0 f args' st Post) (he:(args++cs).map AV.pubA=args') (hk:∀ v s,Post v s→k v s):Jp P w0 true false (.clo f cs) args st k := .inr ⟨rfl,Post,fun _=>h.pub he,fun v s a _=>hk v s (a rfl)⟩
def finP (st:St) (Post:AV→St→Prop) (r:AV) (s:St):Prop :=
 st.boxes.length≤s.boxes.length∧st.rows.length≤s.rows.length∧st.loops.length≤s.loops.length∧Calm st.boxes.length st.rows.length st.loops.length (s.cut st.boxes.length st.rows.length st.loops.length) ∧
  Under st.boxes.length st.rows.length st.loops.length r.pubA∧Post r.pubA (s.cut st.boxes.length st.rows.length st.loops.length)
theorem ACalls.finP {args:List AV} {Post:AV→St→Prop} (h:ACalls P w0 f args st (finP st Post)):ACalls P w0 f args st Post:=by
 refine ⟨h.1,fun M w b a c=>(h.2 M w b a c).mono ?_⟩
 rintro en n ⟨v,M',r,i,k,⟨l,j,d,m,g,e⟩,h3,h4,h5⟩
 exact ⟨v,M'.cut st.boxes.length st.rows.length st.loops.length,r.pubA,_,k,e,h3.cut (by have:=a.N;omega) (by have:=a.NR;omega) (by have:=a.loop.NL;omega) (by rw [h4.loop.NL];exact d),h4.cut l j d m,h5.pubA.cut g⟩
theorem PP {B:List (List AV)} {Rw:List RowA} {L:List LoopA} {s:St} {Post:AV→St→Prop} {v:AV} (hc:Ev.Calm B.length Rw.length L.length ⟨B,Rw,L⟩) (h1:B <+: s.boxes) (h2:Rw <+: s.rows) (h3:L <+: s.loops) (hu:Under B.length Rw.length L.length v.pubA) (hp:Post v.pubA ⟨B,Rw,L⟩) :
  Go.Ev.finP ⟨B,Rw,L⟩ Post v s:=by
 obtain ⟨b,e1⟩:=h1
 obtain ⟨r,e2⟩:=h2
 obtain ⟨l,e3⟩:=h3
 obtain ⟨a,d,c⟩:=s
 simp only at e1 e2 e3
 subst e1 e2 e3
 have e:St.cut ⟨B++b,Rw++r,L++l⟩ B.length Rw.length L.length=⟨B,Rw,L⟩:=by simp [St.cut]
 exact ⟨by simp,by simp,by simp,by simp only [e];exact hc,hu,by simp only [e];exact hp⟩
end
@[go_sem] theorem Zfx (xs c:List AV) (h:xs.length=c.length):CM xs 0 c=c:=by simp [CM,h]
section
universe u v
variable {α:Type u} {β:Type v} {r:β}
theorem Aw {c:Prop} [Decidable c] {x:Option β} (h:(if c then x else none)=some r):c∧x=some r:=by
 by_cases q:c
 ·rw [Ai q] at h;exact ⟨q,h⟩
 ·rw [Aj q] at h;cases h
theorem bind_some {o:Option α} {f:α→Option β} (h:o.bind f=some r):∃ x,o=some x∧f x=some r:=by
 cases o with
 | none=>cases h
 | some x=>exact ⟨x,rfl,h⟩
theorem Bq {b:Bool} {x y:β} (h:(if b=true then x else y)=r) (hb:b=true):x=r:=by rwa [Ai hb] at h
theorem Bo {b:Bool} {x y:β} (h:(if b=true then x else y)=r) (hb:b=false):y=r:=by rwa [Aj (by simp [hb])] at h
def Cj (xs:List α) (i:Int):Option α:=if 0≤i then xs[i.toNat]? else none
theorem Bl {xs:List α} {i:Int} {x:α} (h:Cj xs i=some x):0≤i∧i<xs.length∧xs[i.toNat]? = some x:=by
 unfold Cj at h
 obtain ⟨b,a⟩:=Aw h
 have:=(Ak.1 a).1
 exact ⟨b,by omega,a⟩
theorem ZgA {xs:List α} {i:Nat} (h:i<xs.length):Cj xs (i:Int)=some xs[i]:=by simp [Cj,h]
theorem Bn {f:α→AV} {xs:List α} {i:Nat} {x:α} (h:xs[i]? = some x):(xs.map f).getD i .junk=f x:=by simp [List.getD,h]
end
abbrev Bg (n:Int):Prop := -9223372036854775808≤n∧n≤9223372036854775807
theorem CG {nb nr nl nb' nr' nl':Nat} {x:AV} (h1:nb≤nb') (h2:nr≤nr') (h3:nl≤nl') (h:Under nb nr nl x):Under nb' nr' nl' x:=by
 induction h with
 | val v=>exact .val v
 | list h ho ih=>exact .list ih (by rename_i o;cases o<;>first | trivial | exact Nat.lt_of_lt_of_le ho h2)
 | elem h ih=>exact .elem ih
 | box h=>exact .box (by omega)
 | clo h ih=>exact .clo ih
 | agg h ih=>exact .agg ih
 | tup h ih=>exact .tup ih
 | yld h=>exact .yld (by omega)
 | vec h=>exact .vec (by omega)
 | vel h=>exact .vel (by omega)
def OwnsAt (lo:Nat) (ho:Own) (rows:Av) (x:Nat × Nat × Own):Prop:=x.2.2 = .full∨∃ id,x.2.2 = .row id∧(lo≤id∨ho = .row id)∧rows[id]? = some (.grow x.2.1 x.1)
inductive VO where
 | nil
 | row (id ver:Nat)
def OV:VO→Nat→AV
 | .nil,_ => .list [] .seed
 | .row id ver,n => .vec id ver 0 n
abbrev VE:=VO × Nat × List AV
def VAt (lo:Nat) (ho:Own) (rows:Av) (x:VE):Prop:=(x.1 = .nil∧x.2.2=[])∨∃ id ver,x.1 = .row id ver∧(lo≤id∨ho = .row id)∧rows[id]? = some (.vec ver x.2.1 x.2.2)
def Wm (v:List VE) (i:Nat):Prop:=∀ x∈v,∀ ver,x.1 ≠ .row i ver
theorem Xi (i:Nat):Wm [] i:=fun _ h=>(nomatch h)
structure Owns (Rw rows:Av) (l:List (Nat × Nat × Own)) (ho:Own := .none) (v:List VE:=[]):Prop where
 len:Rw.length≤rows.length
 keep:∀ i,i<Rw.length→ho ≠ .row i→rows[i]? = Rw[i]?
 calm:∀ i r,rows[i]? = some r→(Rw.length≤i∨ho = .row i)→Wm v i→r.cells=[]
 each:∀ x∈l,OwnsAt Rw.length ho rows x
 apart:l.Pairwise fun x y=>∀ id,x.2.2 = .row id→y.2.2 ≠ .row id
 veach:∀ x∈v,VAt Rw.length ho rows x
 vapart:v.Pairwise fun x y=>∀ id a b,x.1 = .row id a→y.1 ≠ .row id b
section
variable {Rw rows:List RowA} {l:List (Nat × Nat × Own)} {ho:Own} {v:List VE}
theorem Owns.none (Rw:Av):Owns Rw Rw []:=by
 refine ⟨Nat.le_refl _,fun _ _ _=>rfl,fun i r h q _=>?_,by simp,.nil,by simp,.nil⟩
 have:=(Ak.1 h).1
 rcases q with q | q
 ·omega
 ·cases q
theorem Owns.pre (h:Owns Rw rows l .none v):Rw <+: rows:=by
 rw [List.prefix_iff_getElem?]
 intro i hi
 rw [h.keep i hi (fun q=>by cases q),List.getElem?_eq_getElem hi]
theorem Owns.sub {l':List (Nat × Nat × Own)} (h:Owns Rw rows l ho v) (hs:l'.Sublist l):Owns Rw rows l' ho v :=
 ⟨h.len,h.keep,h.calm,fun x a=>h.each x (hs.subset a),h.apart.sublist hs,h.veach,h.vapart⟩
theorem Owns.full (h:Owns Rw rows l ho v) (sz n:Nat):Owns Rw rows ((sz,n,.full)::l) ho v :=
 ⟨h.len,h.keep,h.calm,fun x hx=>by
  rcases List.mem_cons.1 hx with rfl | hx
  ·exact .inl rfl
  ·exact h.each x hx,List.pairwise_cons.2 ⟨fun _ _ id q=>(nomatch q),h.apart⟩,h.veach,h.vapart⟩
theorem VAt.up {lo:Nat} {x:VE} (h:VAt lo ho rows x) (r:Av):VAt lo ho (rows++r) x:=by
 rcases h with h | ⟨id,ver,h1,h2,h3⟩
 ·exact .inl h
 ·exact .inr ⟨id,ver,h1,h2,by rw [List.getElem?_append_left (Ak.1 h3).1];exact h3⟩
theorem VAt.set {lo:Nat} {x:VE} (h:VAt lo ho rows x) {i:Nat} (hi:∀ ver,x.1 ≠ .row i ver) (r:RowA):VAt lo ho (rows.set i r) x:=by
 rcases h with h | ⟨id,ver,h1,h2,h3⟩
 ·exact .inl h
 ·exact .inr ⟨id,ver,h1,h2,by rw [List.getElem?_set_ne (fun (e:i=id)=>hi ver (by rw [e];exact h1))];exact h3⟩
theorem Owns.make (h:Owns Rw rows l ho v) (sz n:Nat):Owns Rw (rows++[.grow n sz]) ((sz,n,.row rows.length)::l) ho v:=by
 have d:=h.len
 refine ⟨by simp;omega,fun i b e=>?_,fun i r a q c=>?_,fun x hx=>?_,List.pairwise_cons.2 ⟨fun y f id q k=>?_,h.apart⟩,fun x hx=>(h.veach x hx).up _,h.vapart⟩
 ·rw [List.getElem?_append_left (by omega)];exact h.keep i b e
 ·by_cases b:i<rows.length
  ·rw [List.getElem?_append_left b] at a;exact h.calm i r a q c
  ·rw [List.getElem?_append_right (by omega)] at a
   have:=List.mem_of_getElem? a
   simp only [List.mem_singleton] at this;subst this;rfl
 ·rcases List.mem_cons.1 hx with rfl | hx
  ·exact .inr ⟨_,rfl,.inl d,by simp⟩
  ·rcases h.each x hx with q | ⟨id,q1,q2,q3⟩
   ·exact .inl q
   ·exact .inr ⟨id,q1,q2,by rw [List.getElem?_append_left (Ak.1 q3).1];exact q3⟩
 ·rcases h.each y f with q' | ⟨id',q1,q2,q3⟩
  ·rw [q'] at k;cases k
  ·rw [q1] at k;cases k;cases q
   exact absurd (Ak.1 q3).1 (Nat.lt_irrefl _)
theorem Owns.unders (h:Owns Rw rows l ho v):∀ x∈l,x.2.2.under rows.length:=fun x a=>by
 rcases h.each x a with q | ⟨id,q1,q2,q3⟩
 ·rw [q];trivial
 ·rw [q1];exact (Ak.1 q3).1
theorem Owns.of_eq {l':List (Nat × Nat × Own)} (h:Owns Rw rows l ho v) (he:l=l'):Owns Rw rows l' ho v:=he▸h
theorem Owns.swap {l':List (Nat × Nat × Own)} (h:Owns Rw rows l ho v) (hp:l.Perm l'):Owns Rw rows l' ho v :=
 ⟨h.len,h.keep,h.calm,fun x c=>h.each x (hp.mem_iff.2 c),(hp.pairwise_iff (R:=fun x y:Nat × Nat × Own=>∀ id,x.2.2 = .row id→y.2.2 ≠ .row id) (fun q id a b=>q id b a)).1 h.apart,h.veach,h.vapart⟩
theorem Owns.grow_off (h:Owns Rw rows l ho v) {sz n id:Nat} (hx:(sz,n,Own.row id)∈l):Wm v id:=by
 intro x hv a e
 rcases h.each _ hx with q | ⟨id',q1,q2,q3⟩
 ·cases q
 ·cases q1
  rcases h.veach x hv with w | ⟨id2,ver2,w1,w2,w3⟩
  ·rw [w.1] at e;cases e
  ·rw [w1] at e;cases e
   rw [w3] at q3;cases q3
end
theorem WH {Rw rows:List RowA} (h:Rw <+: rows) {id:Nat} (hi:Rw.length≤id) (x:RowA):Rw <+: rows.set id x:=by
 obtain ⟨t,rfl⟩:=h
 rw [List.set_append_right _ _ hi]
 exact List.prefix_append _ _
theorem Owns.more {Rw rows:List RowA} {l:List (Nat × Nat × Own)} {ho:Own} {v:List VE} {sz n id:Nat} (h:Owns Rw rows ((sz,n,.row id)::l) ho v) (m:Nat):Owns Rw (rows.set id (.grow m sz)) ((sz,m,.row id)::l) ho v:=by
 have a:=h.grow_off (List.mem_cons_self ..)
 obtain ⟨t,p,k,d,z,u,w⟩:=h
 obtain ⟨hid,hrow⟩:(Rw.length≤id∨ho = .row id)∧rows[id]? = some (.grow n sz):=by
  rcases d _ (List.mem_cons_self ..) with q | ⟨id',q1,q2,q3⟩
  ·cases q
  ·cases q1;exact ⟨q2,q3⟩
 have b:=(Ak.1 hrow).1
 obtain ⟨f,j⟩:=List.pairwise_cons.1 z
 refine ⟨by simpa using t,fun i o c=>?_,fun i r hr q g=>?_,fun x hx=>?_,List.pairwise_cons.2 ⟨fun y s=>f y s,j⟩,fun x hx=>(u x hx).set (a x hx) _,w⟩
 ·have:id≠i:=by
   rintro rfl
   rcases hid with q | q
   ·omega
   ·exact c q
  rw [List.getElem?_set_ne this];exact p i o c
 ·by_cases e:id=i
  ·subst e
   rw [List.getElem?_set_self b] at hr
   cases hr;rfl
  ·rw [List.getElem?_set_ne e] at hr;exact k i r hr q g
 ·rcases List.mem_cons.1 hx with rfl | hx
  ·exact .inr ⟨id,rfl,hid,by simp [b]⟩
  ·rcases d x (List.mem_cons_of_mem _ hx) with q | ⟨id',q1,q2,q3⟩
   ·exact .inl q
   ·have:id'≠id:=fun e=>f x hx id rfl (e▸q1)
    exact .inr ⟨id',q1,q2,by rw [List.getElem?_set_ne (Ne.symm this)];exact q3⟩
theorem Owns.inV {Rw rows:List RowA} {l:List (Nat × Nat × Own)} {ho:Own} {v:List VE} (h:Owns Rw rows l ho v) {i:Nat} {r:RowA} (hr:rows[i]? = some r) (hi:¬ Wm v i):∃ x∈v,r.cells=x.2.2∧(Rw.length≤i∨ho = .row i):=by
 simp only [Wm,ne_eq,Classical.not_forall,Classical.not_not] at hi
 obtain ⟨x,a,b,e⟩:=hi
 rcases h.veach x a with w | ⟨id,ver',w1,w2,w3⟩
 ·rw [w.1] at e;cases e
 ·rw [w1] at e;cases e
  rw [w3] at hr;cases hr
  exact ⟨x,a,rfl,w2⟩
theorem Owns.rowsCalm {Rw rows:List RowA} {l:List (Nat × Nat × Own)} {ho:Own} {v:List VE} (h:Owns Rw rows l ho v) {nb nb' nl:Nat} (hb:nb≤nb') (hc:∀ r∈Rw,∀ x∈r.cells,Under nb Rw.length nl x) (hv:∀ x∈v,∀ y∈x.2.2,Under nb' rows.length nl y:=by intro x hx;cases hx):∀ r∈rows,∀ x∈r.cells,Under nb' rows.length nl x:=fun r c x hx=>by
 obtain ⟨i,d,rfl⟩:=List.mem_iff_getElem.1 c
 have b:rows[i]? = some rows[i]:=List.getElem?_eq_getElem d
 by_cases qv:Wm v i
 case neg =>
  obtain ⟨y,f,e,_⟩:=h.inV b qv
  rw [e] at hx
  exact hv y f x hx
 by_cases q:Rw.length≤i∨ho = .row i
 ·rw [h.calm i _ b q qv] at hx;cases hx
 ·have a:i<Rw.length:=by omega
  have:=h.keep i a (fun e=>q (.inr e))
  rw [b,List.getElem?_eq_getElem a] at this
  rw [Option.some.inj this] at hx
  exact CG hb h.len (Nat.le_refl _) (hc _ (List.getElem_mem a) x hx)
theorem Owns.call {Rw rows rows':List RowA} {l:List (Nat × Nat × Own)} {ho o o':Own} {v:List VE} {sz n n':Nat} (h:Owns Rw rows ((sz,n,o)::l) ho v) (hc:Owns rows rows' [(sz,n',o')] o):Owns Rw rows' ((sz,n',o')::l) ho v:=by
 have c:=h.each _ (List.mem_cons_self ..)
 have b:∀ i,o = .row i→Wm v i:=fun i e=>h.grow_off (sz:=sz) (n:=n) (by rw [←e];exact List.mem_cons_self ..)
 obtain ⟨j,p⟩:=List.pairwise_cons.1 h.apart
 have own:∀ i,o = .row i→(Rw.length≤i∨ho = .row i)∧i<rows.length:=fun i e=>by
  rcases c with q | ⟨id,q1,q2,q3⟩
  ·simp only at q;rw [e] at q;cases q
  ·simp only at q1;rw [e] at q1;cases q1
   exact ⟨q2,(Ak.1 q3).1⟩
 have t:=h.len
 have u:=hc.len
 have a:=hc.each _ (List.mem_cons_self ..)
 refine ⟨by omega,fun i s f=>?_,fun i r d q m=>?_,fun x hxm=>?_,List.pairwise_cons.2 ⟨fun y g id e=>?_,p⟩,fun x c=>?_,h.vapart⟩
 ·have:o ≠ .row i:=fun e=>by
   rcases (own i e).1 with q | q
   ·omega
   ·exact f q
  rw [hc.keep i (by omega) this];exact h.keep i s f
 ·by_cases e:rows.length≤i∨o = .row i
  ·exact hc.calm i r d e (Xi i)
  ·rw [hc.keep i (by omega) (fun k=>e (.inr k))] at d
   exact h.calm i r d q m
 ·rcases List.mem_cons.1 hxm with rfl | hxm
  ·rcases a with q | ⟨id,q1,q2,q3⟩
   ·exact .inl q
   ·refine .inr ⟨id,q1,?_,q3⟩
    rcases q2 with q2 | q2
    ·exact .inl (by omega)
    ·exact (own id q2).1
  ·rcases h.each x (List.mem_cons_of_mem _ hxm) with q | ⟨id,q1,q2,q3⟩
   ·exact .inl q
   ·refine .inr ⟨id,q1,q2,?_⟩
    rw [hc.keep id (Ak.1 q3).1 (fun e=>j x hxm id e q1)]
    exact q3
 ·intro k
  rcases a with q | ⟨id',q1,q2,q3⟩
  ·simp only at q e;rw [q] at e;cases e
  ·simp only at q1 e
   rw [q1] at e;cases e
   rcases q2 with q2 | q2
   ·rcases h.each y (List.mem_cons_of_mem _ g) with w | ⟨id,w1,w2,w3⟩
    ·rw [w] at k;cases k
    ·rw [w1] at k;cases k
     have:=(Ak.1 w3).1
     omega
   ·exact j y g _ q2 k
 ·rcases h.veach x c with w | ⟨id,ver,w1,w2,w3⟩
  ·exact .inl w
  ·refine .inr ⟨id,ver,w1,w2,?_⟩
   rw [hc.keep id (Ak.1 w3).1 (fun e=>b id e x c ver w1)]
   exact w3
theorem Owns.append {P:Program} {t el:TypeId} {sz by8 n:Nat} {ag:Bool} {Rw rows:List RowA} {l:List (Nat × Nat × Own)} {o ho:Own} {v:List VE} (h:Owns Rw rows ((sz,n,o)::l) ho v) (he:KA P t=some (el,sz,ag,by8)) (hz:(BA P el).isSome=true) (hs:0<sz) (m:Nat)
  (hb:(n+m)*by8≤140737488355328) (hb2:n+m≤4611686018427387904):∃ o' rows',Owns Rw rows' ((sz,n+m,o')::l) ho v ∧
   ∀ (xs ys:List AV) (B:Ao) (L:As) (o2:Own),xs.length=n→ys.length=m→(∀ y∈xs,y.cells.length=sz) →
    BD P ⟨B,rows,L⟩ t (.list xs o) (.list ys o2)=((∀ y∈ys,y.cells.length=sz∧AX y=true),.list (xs++ys.map AV.pub) o',⟨B,rows',L⟩):=by
 have b:∀ (ys:List AV),ys.length=m→CC P el sz by8 n ys=(∀ y∈ys,y.cells.length=sz∧AX y=true):=by
  intro ys f
  simp only [CC,hs,hz,f,hb,hb2,true_and]
 rcases h.each _ (List.mem_cons_self ..) with q | ⟨id,q1,q2,q3⟩
 ·simp only at q;subst q
  have e:=h.sub (List.sublist_cons_self _ _)
  by_cases hm:m=0
  ·subst hm
   refine ⟨.full,rows,e.full _ _,fun xs ys B L o2 c a d=>?_⟩
   have:ys=[]:=List.length_eq_zero_iff.1 a
   subst this
   simp [BD,he,AM,Bv,hs]
  ·refine ⟨.row rows.length,rows++[.grow (n+m) sz],e.make _ _,fun xs ys B L o2 c a d=>?_⟩
   simp only [BD,he,AM,Bv]
   rw [Aa,c,b ys a,a]
   simp only [true_and,Prod.mk.injEq,eq_iff_iff,and_true]
   exact ⟨fun q=>q.1,fun q=>⟨q,d⟩⟩
 ·simp only at q1;subst q1
  refine ⟨.row id,_,h.more (n+m),fun xs ys B L o2 c a d=>?_⟩
  simp only [BD,he,AM,Bv]
  rw [c,b ys a,a]
  simp only [true_and,Prod.mk.injEq,eq_iff_iff,and_true]
  exact ⟨fun q=>q.1,fun q=>⟨q,d,q3⟩⟩
theorem W3 {α:Type} {xs:List α} {i:Nat} {x:α} (h:xs[i]? = some x):xs.drop i=x::xs.drop (i+1):=by
 obtain ⟨a,rfl⟩:=Ak.1 h
 exact List.drop_eq_getElem_cons a
theorem TD {M1:Mem} {B bs bs' XB:List (List AV)} {Rw rows rows':List RowA} {L XL lp:List LoopA} {la:LoopA} {l l':List (Nat × Nat × Own)} {oh:Own} (hra:RoundAt M1 ((St.push ⟨B++bs,rows,L⟩ la).ext ⟨XB,[],XL⟩)) (ho:Owns Rw rows l oh) (ho':Owns Rw rows' l' oh) (hlen:bs'.length=bs.length) (hr:rows.length≤rows'.length)
  (hlp:lp=(L++[la])++XL) (hbs:∀ cs∈bs',∀ x∈cs,Under (B.length+bs.length+XB.length) rows'.length lp.length x):Calm ((B++bs).length+XB.length) rows'.length lp.length ⟨(B++bs')++XB,rows',lp⟩:=by
 subst hlp
 have b:=hra.calm
 simp only [St.ext,St.push,List.append_nil] at b
 have e:((B++bs)++XB).length=(B++bs).length+XB.length:=List.length_append
 rw [e] at b
 refine ⟨fun r h x hx=>?_,fun cs h x hx=>?_,fun a m k x hx n=>CG (Nat.le_refl _) hr (Nat.le_refl _) (b.loops a m k x hx n)⟩
 ·obtain ⟨i,g,rfl⟩:=List.mem_iff_getElem.1 h
  have d:rows'[i]? = some rows'[i]:=List.getElem?_eq_getElem g
  by_cases q:Rw.length≤i∨oh = .row i
  ·rw [ho'.calm i _ d q (Xi i)] at hx;cases hx
  ·have c:i<Rw.length:=by omega
   have f:=ho'.keep i c (fun e=>q (.inr e))
   have j:=ho.keep i c (fun e=>q (.inr e))
   rw [d,←j] at f
   exact CG (Nat.le_refl _) hr (Nat.le_refl _) (b.rows _ (List.mem_of_getElem? f.symm) x hx)
 ·rcases List.mem_append.1 h with h | h
  ·rcases List.mem_append.1 h with h | h
   ·exact CG (Nat.le_refl _) hr (Nat.le_refl _) (b.boxes cs (by simp [h]) x hx)
   ·have:=hbs cs h x hx
    rwa [List.length_append]
  ·exact CG (Nat.le_refl _) hr (Nat.le_refl _) (b.boxes cs (by simp [h]) x hx)
section
variable {P:Program} {w0:World} {n:Nat} {e:Env} {st:St} {M0:Mem} {W0:World} {ro:Option Nat} {Q:AQ} {c:Code}
theorem ZeC (k:Nat) {a:AV} (hk:look e k=some (true,a)) (h:DF P w0 n M0 W0 ro c Q ((k,true,a.pub)::e) st):DF P w0 n M0 W0 ro c Q e st :=
 HU _ _ (fun M _ w b=>⟨M,.refl _ _ _,b.relabel k _ (by
  have:=b.env k _ hk
  simp only [entryOk,if_true] at this
  exact this.pub)⟩) h
theorem QF (l i:Nat) {cs:List AV} {x:AV} (hl:st.boxes[l]? = some cs) (hi:cs[i]? = some x) (h1:x.one=true) (h:DF P w0 n M0 W0 ro c Q e { st with boxes:=st.boxes.set l (cs.set i x.pubCell) }):DF P w0 n M0 W0 ro c Q e st :=
 HU _ _ (fun M _ w a=>⟨M,.refl _ _ _,a.st.setBox hl hi (by rw [AV.one_pubCell];exact h1) (fun v hv=>hv.pubCell),a.size,a.env⟩) h
theorem RelSt.pubBox {M:Mem} {w:World} (h:RelSt w0 M st w) {l:Nat} {cs:List AV} (hl:st.boxes[l]? = some cs):RelSt w0 M { st with boxes:=st.boxes.set l (cs.map AV.pubCell) } w:=by
 have b:l<st.boxes.length:=(Ak.1 hl).1
 refine ⟨h.below,by simp [h.N],h.NR,h.top,h.inj,fun a cs' hl'=>?_,h.row,h.rowinj,h.loop⟩
 by_cases q:a=l
 ·subst q
  rw [List.getElem?_set_self b] at hl'
  cases hl'
  obtain ⟨a1,a2,c,e,a3,a4,a5,a6⟩:=h.box a cs hl
  refine ⟨a1,a2,c,e,a3,by simp [a4],fun z i=>?_,fun j f d=>?_⟩
  ·obtain ⟨y,g,rfl⟩:=List.mem_map.1 i
   rw [AV.one_pubCell];exact a5 y g
  ·simp only [List.getElem_map]
   exact (a6 j f (by simpa using d)).pubCell
 ·rw [List.getElem?_set_ne (Ne.symm q)] at hl'
  exact h.box a cs' hl'
theorem E6 (l:Nat) {cs cs':List AV} (hl:st.boxes[l]? = some cs) (he:cs.map AV.pubCell=cs') (h:DF P w0 n M0 W0 ro c Q e { st with boxes:=st.boxes.set l cs' }):DF P w0 n M0 W0 ro c Q e st:=by
 subst he
 exact HU _ _ (fun M _ w a=>⟨M,.refl _ _ _,a.st.pubBox hl,a.size,a.env⟩) h
theorem Wv {a:AV} {xs:List AV} (h:a.pub = .list xs .none):∃ o,a = .list xs o:=by
 cases a<;>simp only [AV.pub,reduceCtorEq] at h
 ·cases h;exact ⟨_,rfl⟩
theorem H4 (l i:Nat) {cs:List AV} {a:AV} {xs:List AV} (hl:st.boxes[l]? = some cs) (hi:cs[i]? = some a) (ha:a.pub = .list xs .none) (h:DF P w0 n M0 W0 ro c Q e { st with boxes:=st.boxes.set l (cs.set i (.list xs .none)) }):DF P w0 n M0 W0 ro c Q e st:=by
 obtain ⟨o,rfl⟩:=Wv ha
 exact QF l i hl hi rfl h
theorem BJ {nb nr nl:Nat} {f:FuncId} {cs:List AV} (h:Under nb nr nl (.clo f cs)):∀ nb' nr' nl',nb≤nb'→nr≤nr'→nl≤nl'→∀ x∈cs,Under nb' nr' nl' x :=
 fun _ _ _ c d a x b=>CG c d a (Qe.1 h x b)
theorem U9 {B0 B bs X:List (List AV)} {Rw rows:List RowA} {L l':List LoopA} {l:List (Nat × Nat × Own)} {oh:Own} {v:List VE} (hN:M0.N=B0.length) (hNR:M0.NR=Rw.length) (hNL:M0.NL=L.length) (hB:B.length=B0.length) (hc:Calm B0.length Rw.length L.length ⟨B,Rw,L⟩) (ho:Owns Rw rows l oh v)
  (hbs:∀ cs∈bs,∀ x∈cs,Under (B0.length+bs.length) rows.length L.length x) (he:IY (B0.length+bs.length) rows.length L.length e)
  (h:DF P w0 n M0 W0 ro c Q e ⟨B++bs,rows,L⟩) (hv:∀ x∈v,∀ y∈x.2.2,Under (B0.length+bs.length) rows.length L.length y:=by intro x hx;cases hx):DF P w0 n M0 W0 ro c Q e ⟨B++(bs++X),rows,L++l'⟩:=by
 rw [←hB] at hN hc hbs he hv
 clear hB B0
 have i:=ho.len
 have b:St.cut ⟨B++(bs++X),rows,L++l'⟩ (B.length+bs.length) rows.length L.length=⟨B++bs,rows,L⟩:=by
  simp only [St.cut,List.take_length,←List.append_assoc]
  rw [List.take_left' (by simp),List.take_left' rfl]
 refine Vz (B.length+bs.length) rows.length L.length (by simp) (Nat.le_refl _) (by simp) (by omega) (by omega) (by omega) ?_ he (by rw [b];exact h)
 rw [b]
 refine ⟨fun r d x hx=>?_,fun cs hcs x hx=>?_,fun f a k x hx g=>?_⟩
 ·exact ho.rowsCalm (by omega) hc.rows hv r d x hx
 ·rcases List.mem_append.1 hcs with hcs | hcs
  ·exact CG (by omega) (by omega) (Nat.le_refl _) (hc.boxes cs hcs x hx)
  ·exact hbs cs hcs x hx
 ·exact CG (by omega) (by omega) (Nat.le_refl _) (hc.loops f a k x hx g)
theorem A1 {B0 B bs X:List (List AV)} {Rw rows:List RowA} {L:List LoopA} {l:List (Nat × Nat × Own)} {oh:Own} {v:List VE} (hN:M0.N=B0.length) (hNR:M0.NR=Rw.length) (hNL:M0.NL=L.length) (hB:B.length=B0.length) (hc:Calm B0.length Rw.length L.length ⟨B,Rw,L⟩) (ho:Owns Rw rows l oh v)
  (hbs:∀ cs∈bs,∀ x∈cs,Under (B0.length+bs.length) rows.length L.length x) (he:IY (B0.length+bs.length) rows.length L.length e)
  (h:DF P w0 n M0 W0 ro c Q e ⟨B++bs,rows,L⟩) (hv:∀ x∈v,∀ y∈x.2.2,Under (B0.length+bs.length) rows.length L.length y:=by intro x hx;cases hx):DF P w0 n M0 W0 ro c Q e ⟨B++(bs++X),rows,L⟩:=by
 rw [←hB] at hN hc hbs he hv
 clear hB B0
 have i:=ho.len
 have b:St.cut ⟨B++(bs++X),rows,L⟩ (B.length+bs.length) rows.length L.length=⟨B++bs,rows,L⟩:=by
  simp only [St.cut,List.take_length,←List.append_assoc]
  rw [List.take_left' (by simp)]
 refine Vz (B.length+bs.length) rows.length L.length (by simp) (Nat.le_refl _) (Nat.le_refl _) (by omega) (by omega) (by omega) ?_ he (by rw [b];exact h)
 rw [b]
 refine ⟨fun r d x hx=>?_,fun cs hcs x hx=>?_,fun f a k x hx g=>?_⟩
 ·exact ho.rowsCalm (by omega) hc.rows hv r d x hx
 ·rcases List.mem_append.1 hcs with hcs | hcs
  ·exact CG (by omega) (by omega) (Nat.le_refl _) (hc.boxes cs hcs x hx)
  ·exact hbs cs hcs x hx
 ·exact CG (by omega) (by omega) (Nat.le_refl _) (hc.loops f a k x hx g)
end
section
variable {P:Program} {w0:World} {st:St}
theorem ZeE {c d:Bool} {f:FuncId} {cs args args':List AV} {k:AV→St→Prop} (v:AV)
  (h:ACalls P w0 f args' st fun r s=>r=v∧s=st) (he:args++cs=args') (hk:k v st):Jp P w0 c d (.clo f cs) args st k := .inl ⟨v,fun _=>by
 show ACalls P w0 f (args++cs) st _
 rw [he];exact h,hk⟩
theorem G4 {d:Bool} {fv:AV} {args:List AV} {k:AV→St→Prop} (h:k .junk st):Jp P w0 false d fv args st k := .inl ⟨.junk,fun q=>(nomatch q),h⟩
theorem DT {B B' X:List (List AV)} {Rw rows:List RowA} {L:List LoopA} {Post:AV→St→Prop} {v:AV} (hc:Calm B.length Rw.length L.length ⟨B',Rw,L⟩) (hB:B'.length=B.length) (h2:Rw <+: rows) (hu:Under B.length Rw.length L.length v.pubA) (hp:Post v.pubA ⟨B',Rw,L⟩) :
  Go.Ev.finP ⟨B,Rw,L⟩ Post v ⟨B'++X,rows,L⟩:=by
 obtain ⟨r,rfl⟩:=h2
 have e:St.cut ⟨B'++X,Rw++r,L⟩ B.length Rw.length L.length=⟨B',Rw,L⟩:=by simp [St.cut,←hB]
 exact ⟨by simp [hB],by simp,by simp,by simp only [e];exact hc,hu,by simp only [e];exact hp⟩
end
theorem Cb {B B':List (List AV)} {Rw rows:List RowA} {L:List LoopA} {Post:AV→St→Prop} {v:AV} (hc:Calm B.length Rw.length L.length ⟨B',Rw,L⟩) (hB:B'.length=B.length) (h2:Rw <+: rows) (hu:Under B.length Rw.length L.length v.pubA) (hp:Post v.pubA ⟨B',Rw,L⟩) :
  Go.Ev.finP ⟨B,Rw,L⟩ Post v ⟨B',rows,L⟩:=by
 have:=DT (X:=[]) hc hB h2 hu hp
 rwa [List.append_nil] at this
theorem CH {nb nr nl:Nat} {B:List (List AV)} {Rw:List RowA} {L:List LoopA} {l:Nat} {cs:List AV} (h:Calm nb nr nl ⟨B,Rw,L⟩) (hc:∀ x∈cs,Under nb nr nl x):Calm nb nr nl ⟨B.set l cs,Rw,L⟩ :=
 ⟨h.rows,fun b hd x a=>by
  rcases List.mem_or_eq_of_mem_set hd with hd | rfl
  ·exact h.boxes b hd x a
  ·exact hc x a,h.loops⟩
theorem Ziq {B B' X:List (List AV)} {Rw rows:List RowA} {L l:List LoopA} {Post:AV→St→Prop} {v:AV} (hc:Calm B.length Rw.length L.length ⟨B',Rw,L⟩) (hB:B'.length=B.length) (h2:Rw <+: rows) (hu:Under B.length Rw.length L.length v.pubA) (hp:Post v.pubA ⟨B',Rw,L⟩) :
  Go.Ev.finP ⟨B,Rw,L⟩ Post v ⟨B'++X,rows,L++l⟩:=by
 obtain ⟨r,rfl⟩:=h2
 have e:St.cut ⟨B'++X,Rw++r,L++l⟩ B.length Rw.length L.length=⟨B',Rw,L⟩:=by simp [St.cut,←hB]
 exact ⟨by simp [hB],by simp,by simp,by simp only [e];exact hc,hu,by simp only [e];exact hp⟩
theorem Aq {B:List (List AV)} {l:Nat} {cs:List AV} (h:B[l]? = some cs) :
  (∀ X R L o,C7 ⟨B++X,R,L⟩ (.box l o)=true)∧(∀ R L o,C7 ⟨B,R,L⟩ (.box l o)=true)∧(∀ X R L o,A6 ⟨B++X,R,L⟩ (.box l o)=cs)∧(∀ R L o,A6 ⟨B,R,L⟩ (.box l o)=cs) ∧
  (∀ X,(B++X)[l]? = some cs)∧B[l]? = some cs∧(∀ X,(B++X).getD l []=cs)∧B.getD l []=cs∧(∀ X c,(B++X).set l c=B.set l c++X) ∧
  (∀ X R L o c,C7 ⟨B.set l c++X,R,L⟩ (.box l o)=true)∧(∀ R L o c,C7 ⟨B.set l c,R,L⟩ (.box l o)=true)∧(∀ X R L o c,A6 ⟨B.set l c++X,R,L⟩ (.box l o)=c)∧(∀ R L o c,A6 ⟨B.set l c,R,L⟩ (.box l o)=c) ∧
  (∀ X c,(B.set l c++X)[l]? = some c)∧(∀ c,(B.set l c)[l]? = some c)∧(∀ X c,(B.set l c++X).getD l []=c)∧(∀ c,(B.set l c).getD l []=c)∧(∀ X c d,(B.set l c++X).set l d=B.set l d++X)∧(∀ c d,(B.set l c).set l d=B.set l d)∧B.set l cs=B:=by
 have a:=(Ak.1 h).1
 have e:∀ X,(B++X)[l]? = some cs:=fun X=>by rw [List.getElem?_append_left a];exact h
 have b:∀ X c,(B.set l c++X)[l]? = some c:=fun X c=>by rw [List.getElem?_append_left (by simpa using a)];simp [a]
 have f:∀ c,(B.set l c)[l]? = some c:=fun c=>by simp [a]
 refine ⟨?_,?_,?_,?_,e,h,?_,?_,?_,?_,?_,?_,?_,b,f,?_,?_,?_,?_,?_⟩
 ·intro X R L o;simp [C7];omega
 ·intro R L o;simp [C7,a]
 ·intro X R L o;simp only [A6,List.getD_eq_getElem?_getD,e,Option.getD_some]
 ·intro R L o;simp only [A6,List.getD_eq_getElem?_getD,h,Option.getD_some]
 ·intro X;rw [List.getD_eq_getElem?_getD,e];rfl
 ·rw [List.getD_eq_getElem?_getD,h];rfl
 ·intro X c;exact List.set_append_left _ _ a
 ·intro X R L o c;simp [C7];omega
 ·intro R L o c;simp [C7,a]
 ·intro X R L o c;simp only [A6,List.getD_eq_getElem?_getD,b,Option.getD_some]
 ·intro R L o c;simp only [A6,List.getD_eq_getElem?_getD,f,Option.getD_some]
 ·intro X c;rw [List.getD_eq_getElem?_getD,b];rfl
 ·intro c;rw [List.getD_eq_getElem?_getD,f];rfl
 ·intro X c d;rw [List.set_append_left _ _ (by simpa using a),List.set_set]
 ·intro c d;exact List.set_set ..
 ·obtain ⟨g,rfl⟩:=Ak.1 h;exact List.set_getElem_self _
@[go_sem] theorem ZgK (B X:Ao) (R:Av) (L:As) (i k o:Nat) (c:List AV):C7 ⟨B.set i c++X,R,L⟩ (.box (B.length+k) o)=decide (k<X.length):=by simp [C7]
@[go_sem] theorem Zfu (B X:Ao) (R:Av) (L:As) (i o:Nat) (c:List AV):C7 ⟨B.set i c++X,R,L⟩ (.box B.length o)=decide (0<X.length):=by simp [C7]
@[go_sem] theorem UG (B X:Ao) (i k:Nat) (c:List AV):(B.set i c++X).getD (B.length+k) []=X.getD k []:=by
 have:=Xx (B.set i c) X k
 rwa [List.length_set] at this
@[go_sem] theorem Tc (B X:Ao) (i:Nat) (c:List AV):(B.set i c++X).getD B.length []=X.getD 0 []:=by
 have:=UY (B.set i c) X
 rwa [List.length_set] at this
@[go_sem] theorem Ze9 (B X:Ao) (R:Av) (L:As) (i k o:Nat) (c:List AV):A6 ⟨B.set i c++X,R,L⟩ (.box (B.length+k) o)=X.getD k []:=UG B X i k c
@[go_sem] theorem ZdM (B X:Ao) (R:Av) (L:As) (i o:Nat) (c:List AV):A6 ⟨B.set i c++X,R,L⟩ (.box B.length o)=X.getD 0 []:=Tc B X i c
@[go_sem] theorem ZbO (B X:Ao) (i k:Nat) (c x:List AV):(B.set i c++X).set (B.length+k) x=B.set i c++X.set k x:=by
 have:=Zeu (B.set i c) X k x
 rwa [List.length_set] at this
@[go_sem] theorem Z7 (B X:Ao) (i:Nat) (c x:List AV):(B.set i c++X).set B.length x=B.set i c++X.set 0 x:=by
 have:=Zcn (B.set i c) X x
 rwa [List.length_set] at this
@[go_sem] theorem D6 (B X:Ao) (i k:Nat) (c:List AV):(B.set i c++X)[B.length+k]? = X[k]? := by
 rw [List.getElem?_append_right (by simp),List.length_set,Nat.add_sub_cancel_left]
@[go_sem] theorem C4 (B X:Ao) (i:Nat) (c:List AV):(B.set i c++X)[B.length]? = X[0]? := by
 rw [List.getElem?_append_right (by simp),List.length_set,Nat.sub_self]
attribute [go_sem] List.length_set
theorem Di {α:Type} {B B':List α} {l:Nat} {c:α} (h:B <+: B') (hl:B[l]? = some c):B'[l]? = some c:=by
 obtain ⟨t,rfl⟩:=h
 rw [List.getElem?_append_left (Ak.1 hl).1];exact hl
theorem Mc {α:Type} {f:α→List AV} (sz:Nat) (hf:∀ x,(f x).length=sz):∀ {xs:List α} {i:Nat} {x:α},xs[i]? = some x→((xs.flatMap f).drop (i*sz)).take sz=f x
 | [],i,x,h=>by simp at h
 | y::ys,0,x,h=>by
  simp only [List.getElem?_cons_zero,Option.some.injEq] at h
  subst h
  simp [List.flatMap_cons,←hf y]
 | y::ys,i+1,x,h=>by
  simp only [List.getElem?_cons_succ] at h
  rw [List.flatMap_cons,Nat.succ_mul,Nat.add_comm,List.drop_append,hf y,Nat.add_sub_cancel_left,List.drop_eq_nil_of_le (by rw [hf y];omega),List.nil_append]
  exact Mc sz hf h
@[go_sem] theorem ZgB (l:List AV):CM l 0 []=l:=by simp [CM]
@[go_sem] theorem Zew (a x:AV) (l xs:List AV):CM (a::l) 0 (x::xs)=x::CM l 0 xs:=by simp [CM]
@[go_sem] theorem Zfv (a:AV) (l xs:List AV) (n:Nat):CM (a::l) (n+1) xs=a::CM l n xs:=by simp [CM,Nat.succ_add]
@[go_sem] theorem FC (B l:Ao) (k:Nat):(B++l)[B.length+k]? = l[k]? := by rw [List.getElem?_append_right (by omega),Nat.add_sub_cancel_left]
@[go_sem] theorem D8 (B l:Ao):(B++l)[B.length]? = l[0]? := by rw [List.getElem?_append_right (by omega),Nat.sub_self]
theorem Owns.enter {Rw rows:List RowA} {l:List (Nat × Nat × Own)} {ho o:Own} {v:List VE} {sz n:Nat} (h:Owns Rw rows ((sz,n,o)::l) ho v):Owns rows rows [(sz,n,o)] o:=by
 have a:=h.each _ (List.mem_cons_self ..)
 refine ⟨Nat.le_refl _,fun _ _ _=>rfl,fun i r b q _=>?_,fun x c=>?_,by simp,by simp,.nil⟩
 ·rcases q with q | q
  ·have:=(Ak.1 b).1;omega
  ·rcases a with w | ⟨id,w1,w2,w3⟩
   ·simp only at w;rw [q] at w;cases w
   ·simp only at w1 w3;rw [q] at w1;cases w1
    rw [b] at w3;rw [Option.some.inj w3];rfl
 ·rw [List.mem_singleton.1 c]
  rcases a with w | ⟨id,w1,w2,w3⟩
  ·exact .inl w
  ·exact .inr ⟨id,w1,.inr w1,w3⟩
theorem MH {nb nr nr' nl:Nat} {st:St} (h:Calm nb nr nl st) (hr:nr≤nr'):Calm nb nr' nl st :=
 ⟨fun r a x b=>CG (Nat.le_refl _) hr (Nat.le_refl _) (h.rows r a x b),fun cs a x b=>CG (Nat.le_refl _) hr (Nat.le_refl _) (h.boxes cs a x b),fun d a k x b c=>CG (Nat.le_refl _) hr (Nat.le_refl _) (h.loops d a k x b c)⟩
section
variable {P:Program} {w0:World} {f:FuncId} {st:St}
def finG (st:St) (Post:AV→St→Prop) (r:AV) (s:St):Prop :=
 st.boxes.length≤s.boxes.length∧st.rows.length≤s.rows.length∧st.loops.length≤s.loops.length∧Calm st.boxes.length s.rows.length st.loops.length (s.cut st.boxes.length s.rows.length st.loops.length) ∧
  Under st.boxes.length s.rows.length st.loops.length r.pubA∧Post r.pubA (s.cut st.boxes.length s.rows.length st.loops.length)
theorem ACalls.finG {args:List AV} {Post:AV→St→Prop} (h:ACalls P w0 f args st (finG st Post)):ACalls P w0 f args st Post:=by
 refine ⟨h.1,fun M w b a c=>(h.2 M w b a c).mono ?_⟩
 rintro en m ⟨v,M',r,d,j,⟨k,n,e,l,i,g⟩,h3,h4,h5⟩
 exact ⟨v,M'.cut st.boxes.length d.rows.length st.loops.length,r.pubA,_,j,g,h3.cut (by have:=a.N;omega) (by have:=a.NR;omega) (by have:=a.loop.NL;omega) (by rw [h4.loop.NL];exact e),h4.cut k (Nat.le_refl _) e l,h5.pubA.cut i⟩
theorem Zir {B B' X:List (List AV)} {R0 rows:List RowA} {L l:List LoopA} {Post:AV→St→Prop} {v:AV} {ow:List (Nat × Nat × Own)} {oh:Own} {ve:List VE} (ho:Owns R0 rows ow oh ve) (hc:Calm B.length rows.length L.length ⟨B',R0,L⟩) (hB:B'.length=B.length) (hu:Under B.length rows.length L.length v.pubA) (hp:Post v.pubA ⟨B',rows,L⟩) (hv:∀ x∈ve,∀ y∈x.2.2,Under B.length rows.length L.length y:=by intro x hx;cases hx) :
  Go.Ev.finG ⟨B,R0,L⟩ Post v ⟨B'++X,rows,L++l⟩:=by
 have e:St.cut ⟨B'++X,rows,L++l⟩ B.length rows.length L.length=⟨B',rows,L⟩:=by simp [St.cut,←hB]
 refine ⟨by simp [hB],ho.len,by simp,?_,hu,by simp only [e];exact hp⟩
 simp only [e]
 refine ⟨fun r c x hx=>?_,hc.boxes,hc.loops⟩
 obtain ⟨i,d,rfl⟩:=List.mem_iff_getElem.1 c
 have b:rows[i]? = some rows[i]:=List.getElem?_eq_getElem d
 by_cases qv:Wm ve i
 case neg =>
  obtain ⟨y,f,e,_⟩:=ho.inV b qv
  rw [e] at hx
  exact hv y f x hx
 by_cases q:R0.length≤i∨oh = .row i
 ·rw [ho.calm i _ b q qv] at hx;cases hx
 ·have a:i<R0.length:=by omega
  have:=ho.keep i a (fun e=>q (.inr e))
  rw [b,List.getElem?_eq_getElem a] at this
  rw [Option.some.inj this] at hx
  exact hc.rows _ (List.getElem_mem a) x hx
end
theorem YP {B B' X:List (List AV)} {R0 rows:List RowA} {L:List LoopA} {Post:AV→St→Prop} {v:AV} {ow:List (Nat × Nat × Own)} {oh:Own} {ve:List VE} (ho:Owns R0 rows ow oh ve) (hc:Calm B.length rows.length L.length ⟨B',R0,L⟩) (hB:B'.length=B.length) (hu:Under B.length rows.length L.length v.pubA) (hp:Post v.pubA ⟨B',rows,L⟩) (hv:∀ x∈ve,∀ y∈x.2.2,Under B.length rows.length L.length y:=by intro x hx;cases hx) :
  Go.Ev.finG ⟨B,R0,L⟩ Post v ⟨B'++X,rows,L⟩:=by
 have:=Zir (X:=X) (l:=[]) ho hc hB hu hp hv
 rwa [List.append_nil] at this
section
variable {P:Program} {w0:World} {n:Nat} {e:Env} {st:St} {M0:Mem} {W0:World} {ro:Option Nat} {Q:AQ} {c:Code}
theorem NI {B0 B bs X:List (List AV)} {Rw rows:List RowA} {L:List LoopA} {l:List (Nat × Nat × Own)} {oh:Own} {v:List VE} (hN:M0.N=B0.length) (hNR:M0.NR=Rw.length) (hNL:M0.NL=L.length) (hB:B.length=B0.length) (hc:Calm B0.length rows.length L.length ⟨B,Rw,L⟩) (ho:Owns Rw rows l oh v)
  (hbs:∀ cs∈bs,∀ x∈cs,Under (B0.length+bs.length) rows.length L.length x) (he:IY (B0.length+bs.length) rows.length L.length e)
  (h:DF P w0 n M0 W0 ro c Q e ⟨B++bs,rows,L⟩) (hv:∀ x∈v,∀ y∈x.2.2,Under (B0.length+bs.length) rows.length L.length y:=by intro x hx;cases hx):DF P w0 n M0 W0 ro c Q e ⟨B++(bs++X),rows,L⟩:=by
 rw [←hB] at hN hc hbs he hv
 clear hB B0
 have s:=ho.len
 have f:St.cut ⟨B++(bs++X),rows,L⟩ (B.length+bs.length) rows.length L.length=⟨B++bs,rows,L⟩:=by
  simp only [St.cut,List.take_length,←List.append_assoc]
  rw [List.take_left' (by simp)]
 refine Vz (B.length+bs.length) rows.length L.length (by simp) (Nat.le_refl _) (Nat.le_refl _) (by omega) (by omega) (by omega) ?_ he (by rw [f];exact h)
 rw [f]
 refine ⟨fun r g x hx=>?_,fun cs hcs x hx=>?_,fun o d k x hx p=>?_⟩
 ·obtain ⟨i,j,rfl⟩:=List.mem_iff_getElem.1 g
  have b:rows[i]? = some rows[i]:=List.getElem?_eq_getElem j
  by_cases qv:Wm v i
  case neg =>
   obtain ⟨y,m,e,_⟩:=ho.inV b qv
   rw [e] at hx
   exact hv y m x hx
  by_cases q:Rw.length≤i∨oh = .row i
  ·rw [ho.calm i _ b q qv] at hx;cases hx
  ·have a:i<Rw.length:=by omega
   have:=ho.keep i a (fun e=>q (.inr e))
   rw [b,List.getElem?_eq_getElem a] at this
   rw [Option.some.inj this] at hx
   exact CG (by omega) (Nat.le_refl _) (Nat.le_refl _) (hc.rows _ (List.getElem_mem a) x hx)
 ·rcases List.mem_append.1 hcs with hcs | hcs
  ·exact CG (by omega) (Nat.le_refl _) (Nat.le_refl _) (hc.boxes cs hcs x hx)
  ·exact hbs cs hcs x hx
 ·exact CG (by omega) (Nat.le_refl _) (Nat.le_refl _) (hc.loops o d k x hx p)
end
end Go.Ev
