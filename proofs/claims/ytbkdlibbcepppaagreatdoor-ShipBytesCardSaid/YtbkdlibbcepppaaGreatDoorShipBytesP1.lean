/- A part of a proof: what functions of the program compute, and plain facts on that. -/
import Derived.WalkKit
import Derived.OrdersIn
import Derived.RangeFuncIn
import Derived.RangeFuncLeaves
import Derived.AtR
import Derived.Laws.StructEq
import Derived.ChangeKeysEq
import Derived.Laws.OwnMore
import Derived.Great.BuildSlice
import Derived.Laws.Slices
import Derived.Maps.RangeRun
import Derived.Maps.OwnSet
import Derived.RangeFuncRecord
import Derived.Sort.Walk13a
import Derived.Sort.AssemblyPlain
set_option linter.unusedVariables false
set_option linter.unusedSectionVars false
set_option linter.unusedSimpArgs false
set_option maxHeartbeats 4000000
set_option maxRecDepth 100000
namespace Go.Vx
def sq (a n:Nat):List Nat:=List.range' a n
abbrev Pq (b o:Nat):Go.Value:=.pointer (some ⟨b,o,none⟩)
abbrev I6 (x:Int):Go.Value:=.int .i64 x
abbrev I7 (x:Int):Go.Value:=.int .u16 x
theorem QQ1 {p:Prop} [Decidable p] (h:decide p=true):p:=of_decide_eq_true h
theorem QQ2 {p:Prop} [Decidable p] (h:decide p=false):¬p:=of_decide_eq_false h
theorem QQ3 {p:Prop} [Decidable p] (h:p):decide p=true:=decide_eq_true h
theorem QQ4 {p:Prop} [Decidable p] (h:¬p):decide p=false:=decide_eq_false h
theorem QQ5 {α:Type _} {xs:Array α} {i:Nat} {v:α}:(xs.setIfInBounds i v).size=xs.size:=Array.size_setIfInBounds
theorem QQ6 {α β:Type _} {l:List α} (f:α->β):(l.map f).length=l.length:=List.length_map f
theorem QQ7 {α:Type _} {l m:List α}:(l++m).length=l.length+m.length:=List.length_append
theorem QQ8 {n m:Nat} (h:Nat.ble n m=true):n<=m:=Nat.le_of_ble_eq_true h
theorem QQ9 {α:Type _} {xs:Array α}:xs.toList.length=xs.size:=Array.length_toList
end Go.Vx
namespace Go.Vx
open Go.RowKit
abbrev Env:=Nat->Value
def upd (J:Env) (d:Nat) (v:Value):Env:=fun t=>cond (Nat.beq t d) v (J t)
def QdB (J:Env):Option Nat->Value->Env
 | none,_=>J
 | some d,v=>upd J d v
def ev (n:Nat) (J:Env):Operand->Value
 | .tmp t=>cond (Nat.blt t n) (J t) undef
 | .const v=>v
 | .global g=>.pointer (some ⟨g,0,none⟩)
 | .func f=>.func (.func f) #[] #[]
structure Cx where
 rd:Option Nat
 ds:List Deferred
abbrev c0:Cx:=⟨none,[]⟩
def FW (κ:Cx):Fence:={ Fence.wide with round:=κ.rd }
def frd (n:Nat) (ds:List Deferred) (J:Env):Act:={ tmps:=Array.ofFn (n:=n) fun i=>J i,defers:=ds }
abbrev fr (n:Nat) (J:Env):Act:=frd n [] J
theorem QbT (a b:Nat):Nat.beq a b=decide (a=b):=by
 by_cases h:a=b
 ·subst h;simp
 ·have:Nat.beq a b=false:=by
   cases hb:Nat.beq a b with
   | false=>rfl
   | true=>exact absurd (Nat.eq_of_beq_eq_true hb) h
  simp [this,h]
theorem Qbg (a b:Nat):Nat.blt a b=decide (a<b):=by
 by_cases h:a<b
 ·simp [Nat.blt,h,Nat.ble_eq];omega
 ·have:Nat.blt a b=false:=by
   cases hb:Nat.blt a b with
   | false=>rfl
   | true=>simp [Nat.blt,Nat.ble_eq] at hb;omega
  simp [this,h]
theorem QdU (J:Env) (d:Nat) (v:Value) (t:Nat):upd J d v t=if t=d then v else J t:=by
 unfold upd;rw [QbT];by_cases h:t=d<;>simp [h]
theorem Qd2 (n:Nat) (ds:List Deferred) (J:Env) (x:Operand):(frd n ds J).eval x=ev n J x:=by
 cases x with
 | tmp t =>
  show (Array.ofFn (n:=n) fun i=>J i).getD t undef=_
  unfold ev
  by_cases h:t<n
  ·simp [h,Qbg]
  ·simp [h,Qbg]
 | _=>rfl
theorem QsH (n:Nat) (J:Env) (x:Operand):(fr n J).eval x=ev n J x:=Qd2 n [] J x
theorem Qi2 (n:Nat) (ds:List Deferred) (J:Env):(frd n ds J).eval=ev n J:=funext (Qd2 n ds J)
theorem Qdy (n:Nat) (ds:List Deferred) (J:Env) (d:Option Nat) (v:Value):(frd n ds J).put d v=frd n ds (QdB J d v):=by
 cases d with
 | none=>rfl
 | some d =>
  show ({ tmps:=(Array.ofFn (n:=n) fun i=>J i).setIfInBounds d v,defers:=ds }:Act)=_
  unfold frd QdB
  congr 1
  apply Array.ext
  ·simp
  ·intro i h1 h2
   have e1:((Array.ofFn (n:=n) fun i=>J i).setIfInBounds d v)[i]'h1=if i=d then v else J i:=by
    rw [Array.getElem_setIfInBounds (by simpa using h1)]
    by_cases h:d=i
    ·subst h;simp
    ·rw [if_neg h,if_neg (fun e=>h e.symm)];simp
   rw [e1,Array.getElem_ofFn]
   exact (QdU J d v i).symm
theorem Qh7 (n:Nat) (args:Array Value) (h:args.size<=n) :
  ({ tmps:=args++Array.replicate (n-args.size) undef,defers:=[] }:Act)=fr n (fun i=>args.getD i undef):=by
 unfold fr frd
 congr 1
 apply Array.ext
 ·simp;omega
 ·intro i h1 h2
  simp at h1
  simp only [Array.getElem_ofFn,Array.getElem_append]
  by_cases hi:i<args.size
  ·simp [hi]
  ·simp [hi]
abbrev St:=Env->World->Prop
def post (κ:Cx) (n:Nat) (N R:St) (X:Nat->St):Exit->Act->World->Prop
 | .normal,a,w=>∃ J,a=frd n κ.ds J/\N J w
 | .ret,a,w=>∃ J,a=frd n κ.ds J/\R J w
 | .exit i,a,w=>∃ J,a=frd n κ.ds J/\X i J w
 | _,_,_=>False
def W (κ:Cx) (P:Program) (n:Nat) (c:Code) (N R:St) (X:Nat->St) (J:Env) (w:World):Prop:=c.wpIn (FW κ) 0 P (post κ n N R X) (frd n κ.ds J) w
section
variable {κ:Cx} {P:Program} {n:Nat} {N R:St} {X:Nat->St} {J:Env} {w:World}
theorem Qae {c1 c2:Code} (h:W κ P n c1 (fun J w=>W κ P n c2 N R X J w) R X J w):W κ P n (.seq c1 c2) N R X J w:=by
 refine wpIn_seq (wpIn_mono h (fun e a w hq=>?_))
 cases e with
 | normal=>obtain ⟨J,rfl,h⟩:=hq;exact h
 | ret=>exact hq
 | exit i=>exact hq
 | _=>exact hq
theorem Qar (h:N J w):W κ P n .skip N R X J w:=wpIn_skip ⟨J,rfl,h⟩
theorem Qat (h:R J w):W κ P n .ret N R X J w:=wpIn_ret ⟨J,rfl,h⟩
theorem Qbs {i:Nat} (h:X i J w):W κ P n (.exit i) N R X J w:=wpIn_exit ⟨J,rfl,h⟩
theorem Qaq {c:Operand} {x y:Code} {t:Bool} (hc:ev n J c = .bool t) (ht:t=true->W κ P n x N R X J w) (hf:t=false->W κ P n y N R X J w):W κ P n (.cond c x y) N R X J w:=by
 refine wpIn_cond_split (t:=t) (by rw [Qd2];exact hc) ht hf
theorem Qoz {c:Operand} {x y:Code} (hc:ev n J c = .bool true) (ht:W κ P n x N R X J w):W κ P n (.cond c x y) N R X J w:=Qaq hc (fun _=>ht) (fun h=>by cases h)
theorem QcR {c:Operand} {x y:Code} (hc:ev n J c = .bool false) (ht:W κ P n y N R X J w):W κ P n (.cond c x y) N R X J w:=Qaq hc (fun h=>by cases h) (fun _=>ht)
def Qq4 (i:Nat) (N:St) (X:Nat->St):Nat->St:=fun j=>cond (Nat.beq j i) N (X j)
theorem Qay {i:Nat} {c:Code} (h:W κ P n c N R (Qq4 i N X) J w):W κ P n (.block i c) N R X J w:=by
 refine wpIn_block (wpIn_mono h (fun e a w hq=>?_))
 cases e with
 | exit j =>
  obtain ⟨J,rfl,h⟩:=hq
  unfold Qq4 at h
  rw [QbT] at h
  by_cases hj:j=i
  ·simp [hj] at h;simp only [Exit.inBlock,hj,if_true];exact ⟨J,rfl,h⟩
  ·simp [hj] at h;simp only [Exit.inBlock,hj,if_false];exact ⟨J,rfl,h⟩
 | _=>exact hq
theorem QtJ {c:Code} (I:Nat->St) (k:Nat) (h0:I k J w) (hr:∀ k J w,I k J w->W κ P n c (fun J' w'=>∃ k',k'<k/\I k' J' w') R X J w):W κ P n (.loop c) N R X J w:=by
 intro b kk cs hro hb hroom
 have key:∀ k J w,I k J w->∃ e a' w',post κ n N R X e a' w'/\ArrivesIn (Machine.fenced P (FW κ)) P (lone (b.atR (frd n κ.ds J) (.code c :: .inLoop c :: kk)) cs w) b kk cs e a' w':=by
  intro k
  induction k using Nat.strongRecOn with
  | _ k ih =>
   intro J w hI
   obtain ⟨e,a1,w1,hq,harr⟩:=hr k J w hI b (.inLoop c :: kk) cs hro hb hroom
   cases e with
   | normal =>
    obtain ⟨J1,rfl,k',hk,hI1⟩:=hq
    obtain ⟨e2,a2,w2,hq2,harr2⟩:=ih k' hk J1 w1 hI1
    exact ⟨e2,a2,w2,hq2,.of_steps (StepsIn.trans harr (.one (fenced_calm hb hroom rfl) stepR_inLoop)) harr2⟩
   | exit id=>exact ⟨.exit id,a1,w1,hq,.pass (x:=.inLoop c) rfl (fun _ _=>.inl (by simp)) harr⟩
   | goto l=>exact hq.elim
   | ret=>exact ⟨.ret,a1,w1,hq,.pass (x:=.inLoop c) rfl (fun _ _=>.inl (by simp)) harr⟩
   | panic ch=>exact hq.elim
   | outgrown=>exact hq.elim
 obtain ⟨e,a',w',hq,harr⟩:=key k J w h0
 exact ⟨e,a',w',hq,.of_steps (.one (fenced_calm hb hroom rfl) stepR_loop) harr⟩
def QfH (P:Program) (K:Value->World->Prop):Result Next->Prop
 | .ok (.value v) w'=>K v w'
 | .ok .skip w'=>K undef w'
 | .ok (.enter f args) w'=>Calls P f args w' fun e w''=>∃ v,e = .returned v/\K v w''
 | .ok (.round l f tmps assign body) w'=>RoundIn Fence.wide 0 P l f tmps assign body w' fun e w''=>∃ v,e = .returned v/\K v w''
 | _=>False
def QcD:Op->Bool
 | .defer _=>false
 | _=>true
def opW (P:Program) (op:Op) (ty:TypeId) (e:Operand->Value) (w:World) (K:Value->World->Prop):Prop :=
 QcD op=true/\QfH P K ((execOp e { dst:=none,op,type:=ty,pos:="",after:=#[],guard:=none }).run P w)
theorem QcV {op:Op} {ty:TypeId} {e:Operand->Value} {K K':Value->World->Prop} (h:opW P op ty e w K) (hk:∀ v w,K v w->K' v w):opW P op ty e w K':=by
 refine ⟨h.1,?_⟩
 have h:=h.2
 generalize (execOp e { dst:=none,op,type:=ty,pos:="",after:=#[],guard:=none }).run P w=r at *
 cases r with
 | ok x w' =>
  cases x<;>simp only [QfH] at h ⊢<;>first
   | exact hk _ _ h
   | exact h.mono fun e w'' ⟨v,he,hv⟩=>⟨v,he,hk _ _ hv⟩
   | exact h
 | halt x w'=>exact h
theorem Qhe (e:Operand->Value) (o:Oper):execOp e o=execOp e { dst:=none,op:=o.op,type:=o.type,pos:="",after:=#[],guard:=none }:=rfl
theorem Qfz {o:Oper} {Q:Exit->Act->World->Prop} {K:St}
  (h:opW P o.op o.type (ev n J) w (fun v w'=>K (QdB J o.dst v) w')):o.wpIn (FW κ) 0 P (frd n κ.ds J) w (fun a w=>∃ J,a=frd n κ.ds J/\K J w) Q:=by
 have hnd:∀ c,o.op≠.defer c:=fun c hc=>by have:=h.1;rw [hc] at this;cases this
 refine ⟨fun _ _=>trivial,?_⟩
 rw [Oper.semAt_eq _ _ _ hnd,Qi2,Qhe]
 have h:=h.2
 generalize (execOp (ev n J) { dst:=none,op:=o.op,type:=o.type,pos:="",after:=#[],guard:=none }).run P w=r at *
 cases r with
 | ok x w' =>
  cases x<;>simp only [QfH,Oper.uponIn] at h ⊢
  case value v=>exact ⟨_,Qdy _ _ _ _ _,h⟩
  case skip=>exact ⟨_,Qdy _ _ _ _ _,h⟩
  case enter f args =>
   refine ⟨fun h=>by simp [FW,Fence.wide] at h,?_⟩
   refine CallsIn.mono (R:=fun e w''=>∃ v,e = .returned v/\K (QdB J o.dst v) w'') ?_ fun e w'' ⟨v,he,hv⟩=>?_
   ·exact (callsIn_wide (n:=0)).2 h
   ·subst he
    exact ⟨_,Qdy _ _ _ _ _,hv⟩
  case round l f tmps assign body =>
   refine ⟨fun h=>by simp [FW,Fence.wide] at h,?_⟩
   refine RoundIn.mono (R:=fun e w''=>∃ v,e = .returned v/\K (QdB J o.dst v) w'') ?_ fun e w'' ⟨v,he,hv⟩=>?_
   ·exact h
   ·subst he
    exact ⟨_,Qdy _ _ _ _ _,hv⟩
 | halt x w'=>exact h.elim
def gv (n:Nat) (J:Env) (ops:List Oper) (j:Nat):Value :=
 match ops[j]? with
 | some o=>match o.dst with|some d=>cond (Nat.blt d n) (J d) undef|none=>undef
 | none=>undef
theorem Qfu (n:Nat) (J:Env) (ops:List Oper) (j:Nat):yielded ops.toArray (frd n [] J).tmps j=(match gv n J ops j with|.bool b=>some b|_=>none):=by
 unfold yielded gv
 simp only [List.getElem?_toArray]
 cases ops[j]? with
 | none=>simp [undef]
 | some o =>
  cases hd:o.dst with
  | none=>simp [hd,undef]
  | some d =>
   simp only [Option.bind_some,hd]
   show (match (Array.ofFn (n:=n) fun i=>J i)[d]? with|some (.bool b)=>some b|_=>none)=_
   by_cases h:d<n
   ·simp only [Qbg,h,decide_true,cond_true]
    rw [show (Array.ofFn (n:=n) fun i=>J i)[d]?=some (J d) by simp [h]]
    cases J d<;>rfl
   ·simp only [Qbg,h,decide_false,cond_false]
    rw [show (Array.ofFn (n:=n) fun i=>J i)[d]?=none by simp [h]]
    simp [undef]
def RW (P:Program) (n:Nat) (all:List Oper) (K:St):List Oper->St
 | [],J,w=>K J w
 | o :: l,J,w =>
  (Region.wanted o (yielded all.toArray (frd n [] J).tmps)=true/\opW P o.op o.type (ev n J) w (fun v w'=>RW P n all K l (QdB J o.dst v) w')) ∨
  (Region.wanted o (yielded all.toArray (frd n [] J).tmps)=false/\RW P n all K l (QdB J o.dst undef) w)
theorem Qep {all:List Oper} {Q:Exit->Act->World->Prop} {K:St} (hK:∀ J w,K J w->Q .normal (frd n κ.ds J) w):∀ (l:List Oper) (k:Nat) (J:Env) (w:World),(∀ j,l[j]?=all[k+j]?)->RW P n all K l J w ->
  wpOpsIn (FW κ) 0 P all.toArray Q ((List.range l.length).map (k+·)) (frd n κ.ds J) w
 | [],k,J,w,_,h=>hK _ _ h
 | o :: l,k,J,w,hl,h=>by
  have h0:all[k]?=some o:=by simpa using (hl 0).symm
  have hr:((List.range (o :: l).length).map (k+·))=k :: ((List.range l.length).map (k+1+·)):=by
   rw [List.length_cons,List.range_succ_eq_map]
   simp only [List.map_cons,List.map_map,Nat.add_zero]
   congr 1
   apply List.map_congr_left
   intro x _
   simp only [Function.comp]
   omega
  rw [hr]
  have hl':∀ j,l[j]?=all[k+1+j]?:=fun j=>by
   have:=hl (j+1)
   simp only [List.getElem?_cons_succ] at this
   rw [this];congr 1;omega
  simp only [wpOpsIn,List.getElem?_toArray,h0]
  rcases h with ⟨hw,h⟩|⟨hw,h⟩
  ·have hw':Region.wanted o (yielded all.toArray (frd n κ.ds J).tmps)=true:=hw
   simp only [hw',if_true]
   have:=Qfz (κ:=κ) (o:=o) (Q:=Q) (K:=fun J w=>wpOpsIn (FW κ) 0 P all.toArray Q ((List.range l.length).map (k+1+·)) (frd n κ.ds J) w)
    (QcV h fun v w' hv=>Qep hK l (k+1) _ _ hl' hv)
   exact Oper.wpIn_mono (fun a w ⟨J,e,h⟩=>by subst e;exact h) this
  ·have hw':Region.wanted o (yielded all.toArray (frd n κ.ds J).tmps)=false:=hw
   simp only [hw',Bool.false_eq_true,if_false]
   rw [Qdy]
   refine ⟨fun _ _=>trivial,?_⟩
   exact Qep hK l (k+1) _ _ hl' h
theorem Qab {id:Nat} {l:List Oper} (h:RW P n l N l J w):W κ P n (.region id l.toArray false) N R X J w:=by
 refine wpIn_region ?_
 have:=Qep (κ:=κ) (P:=P) (n:=n) (all:=l) (Q:=post κ n N R X) (K:=N) (fun J w h=>⟨J,rfl,h⟩) l 0 J w (by simp) h
 simpa using this
theorem Qad {all:List Oper} {K:St} (h:K J w):RW P n all K [] J w:=h
theorem Qaa {all l:List Oper} {K:St} {dst:Option Tmp} {op:Op} {ty:TypeId} {pos:String} {after:Array Edge}
  (h:opW P op ty (ev n J) w (fun v w'=>RW P n all K l (QdB J dst v) w')):RW P n all K ({ dst,op,type:=ty,pos,after,guard:=none } :: l) J w :=
 .inl ⟨rfl,h⟩
def deps (o:Oper):List Nat:=(o.after.toList.filter fun e=>Region.binds .any e).map (·.on)
def rising (l:List Oper):Bool:=l.zipIdx.all fun (o,i)=>(deps o).all (Nat.blt · i)
def dsts (l:List Oper):List Nat:=l.filterMap (·.dst)
def mark (D:Nat->Bool) (i:Nat):Nat->Bool:=fun j=>cond (Nat.beq j i) true (D j)
def Qfi (P:Program) (n:Nat) (l:List Oper) (J0:Env) (Inv:(Nat->Bool)->St) (i:Nat) (o:Oper):Prop :=
 ∀ (D:Nat->Bool) (J:Env) (w:World),D i=false->(∀ j∈deps o,D j=true)->(∀ j o',l[j]?=some o'->D j=true->∀ k∈deps o',D k=true)->(∀ t,t ∉ dsts l->J t=J0 t)->Inv D J w ->
  (Region.wanted o (yielded l.toArray (frd n [] J).tmps)=true/\opW P o.op o.type (ev n J) w (fun v w'=>Inv (mark D i) (QdB J o.dst v) w')) ∨
  (Region.wanted o (yielded l.toArray (frd n [] J).tmps)=false/\Inv (mark D i) (QdB J o.dst undef) w)
def Qbt (a:Array Bool):Nat->Bool:=fun j=>a.getD j true
theorem Qec (a:Array Bool) (i:Nat) (hi:i<a.size):∀ j,j<a.size->Qbt (a.setIfInBounds i true) j=mark (Qbt a) i j:=by
 intro j hj
 unfold Qbt mark
 rw [QbT]
 by_cases h:j=i
 ·subst h;simp [hj]
 ·simp [h,Array.getElem?_setIfInBounds_ne (fun e=>h e.symm)]
theorem Qiz {l:List Oper} (hr:rising l=true) (a:Array Bool) (ha:a.size=l.length) (h:Region.ready .any l.toArray a=[]):∀ i,i<l.length->a.getD i true=true:=by
 intro i
 induction i using Nat.strongRecOn with
 | _ i ih =>
  intro hi
  cases hv:a.getD i true with
  | true=>rfl
  | false =>
   exfalso
   have hmem:i∈Region.ready .any l.toArray a:=by
    unfold Region.ready
    simp only [List.mem_filter,List.mem_range,List.size_toArray,List.getElem?_toArray]
    refine ⟨hi,?_⟩
    rw [hv,List.getElem?_eq_getElem hi]
    simp only [Bool.not_false,Option.map_some,Option.getD_some,Bool.true_and]
    rw [Array.all_eq_true']
    intro e he
    by_cases hb:Region.binds .any e=true
    ·simp only [hb,Bool.not_true,Bool.false_or]
     have hlt:e.on<i:=by
      unfold rising at hr
      rw [List.all_eq_true] at hr
      have:=hr (l[i],i) (by rw [List.mem_zipIdx_iff_getElem?];simp [hi])
      simp only [List.all_eq_true] at this
      have h2:=this e.on (by unfold deps;exact List.mem_map.2 ⟨e,List.mem_filter.2 ⟨Array.mem_toList_iff.2 he,hb⟩,rfl⟩)
      rw [Qbg] at h2
      exact QQ1 h2
     have h3:=ih e.on hlt (by omega)
     have h4:e.on<a.size:=by omega
     simp [h4] at h3 ⊢
     exact h3
    ·simp [hb]
   rw [h] at hmem
   cases hmem
theorem QjC {l:List Oper} {J0:Env} {Inv:(Nat->Bool)->St} {Q:Exit->Act->World->Prop} (hrise:rising l=true)
  (hext:∀ D D' J w,(∀ j,j<l.length->D j=D' j)->Inv D J w->Inv D' J w)
  (hs:∀ i o,l[i]?=some o->Qfi P n l J0 Inv i o)
  (he:∀ J w,(∀ t,t ∉ dsts l->J t=J0 t)->Inv (fun _=>true) J w->Q .normal (frd n κ.ds J) w) :
  ∀ (fuel:Nat) (a:Array Bool) (J:Env) (w:World),a.size=l.length->(a.toList.filter (! ·)).length<=fuel->(∀ j o',l[j]?=some o'->Qbt a j=true->∀ k∈deps o',Qbt a k=true)->(∀ t,t ∉ dsts l->J t=J0 t)->Inv (Qbt a) J w ->
   wpAnyIn (FW κ) 0 P .any l.toArray Q fuel a (frd n κ.ds J) w:=by
 have fin:∀ (a:Array Bool) (J:Env) (w:World),a.size=l.length->(∀ t,t ∉ dsts l->J t=J0 t)->Inv (Qbt a) J w->Region.ready .any l.toArray a=[]->Q .normal (frd n κ.ds J) w:=by
  intro a J w ha hf hI hnil
  refine he J w hf (hext _ _ J w (fun j hj=>?_) hI)
  exact Qiz hrise a ha hnil j hj
 intro fuel
 induction fuel with
 | zero =>
  intro a J w ha hc _ hf hI
  have hall:∀ i,i<a.size->a.getD i true=true:=by
   intro i hi
   have h0:a.toList.filter (! ·)=[]:=List.length_eq_zero_iff.1 (by omega)
   rw [List.filter_eq_nil_iff] at h0
   have:=h0 a[i] (by simp)
   simpa [hi] using this
  have hnil:Region.ready .any l.toArray a=[]:=by
   unfold Region.ready
   rw [List.filter_eq_nil_iff]
   intro i hi
   simp only [List.mem_range,List.size_toArray] at hi
   rw [hall i (by omega)]
   simp
  exact ⟨hnil,fin a J w ha hf hI hnil⟩
 | succ fuel ih =>
  intro a J w ha hc hdc hf hI
  refine ⟨fun hnil=>fin a J w ha hf hI hnil,fun i hi=>?_⟩
  unfold Region.ready at hi
  simp only [List.mem_filter,List.mem_range,List.size_toArray,List.getElem?_toArray,Bool.and_eq_true,Bool.not_eq_true'] at hi
  obtain ⟨hil,hun,hdep⟩:=hi
  have hoi:l[i]?=some l[i]:=List.getElem?_eq_getElem hil
  rw [hoi] at hdep
  simp only [Option.map_some,Option.getD_some,Array.all_eq_true',Bool.or_eq_true,Bool.not_eq_true'] at hdep
  have hset:(a.setIfInBounds i true).size=l.length:=by simp [ha]
  have hcount:((a.setIfInBounds i true).toList.filter (! ·)).length<=fuel:=by
   have hia:i<a.size:=by omega
   have hai:a.toList[i]'(by simpa using hia)=false:=by
    simp [hia] at hun
    simpa using hun
   have h1:a.toList=a.toList.take i++false :: a.toList.drop (i+1):=by
    conv=>lhs;rw [← List.take_append_drop i a.toList]
    rw [List.drop_eq_getElem_cons (by simpa using hia),hai]
   have h2:(a.setIfInBounds i true).toList=a.toList.take i++true :: a.toList.drop (i+1):=by
    rw [Array.toList_setIfInBounds,List.set_eq_take_append_cons_drop,if_pos (by simpa using hia)]
   rw [h1] at hc
   rw [h2]
   simp [List.filter_append] at hc ⊢
   omega
  have hself:∀ k∈deps l[i],Qbt a k=true:=fun j hj=>by
   unfold deps at hj
   obtain ⟨e,he1,rfl⟩:=List.mem_map.1 hj
   obtain ⟨he1,he2⟩:=List.mem_filter.1 he1
   rcases hdep e (Array.mem_toList_iff.1 he1) with h|h
   ·rw [he2] at h;cases h
   ·unfold Qbt
    by_cases hx:e.on<a.size
    ·simp [hx] at h ⊢;exact h
    ·simp [hx] at h
  have hstep:=hs i l[i] hoi (Qbt a) J w hun hself hdc hf hI
  have hdc':∀ j o',l[j]?=some o'->Qbt (a.setIfInBounds i true) j=true->∀ k∈deps o',Qbt (a.setIfInBounds i true) k=true:=by
   have up:∀ k,Qbt a k=true->Qbt (a.setIfInBounds i true) k=true:=by
    intro k hk
    by_cases hkb:k<a.size
    ·rw [Qec a i (by omega) k hkb];unfold mark;cases Nat.beq k i<;>simp [hk]
    ·unfold Qbt;simp [hkb]
   intro j o' hj hl k hk
   have hjl:j<l.length:=by
    rcases Nat.lt_or_ge j l.length with h|h
    ·exact h
    ·rw [List.getElem?_eq_none h] at hj;cases hj
   rw [Qec a i (by omega) j (by omega)] at hl
   unfold mark at hl
   rw [QbT] at hl
   by_cases hji:j=i
   ·subst hji
    rw [hoi] at hj
    cases hj
    exact up k (hself k hk)
   ·simp [hji] at hl
    exact up k (hdc j o' hj hl k hk)
  have hfr:∀ v,∀ t,t ∉ dsts l->QdB J l[i].dst v t=J0 t:=by
   intro v t ht
   cases hd:l[i].dst with
   | none=>exact hf t ht
   | some d =>
    show upd J d v t=_
    rw [QdU,if_neg]
    ·exact hf t ht
    ·intro e
     subst e
     exact ht (List.mem_filterMap.2 ⟨l[i],List.getElem_mem hil,hd⟩)
  unfold wpOpIn
  simp only [List.getElem?_toArray,hoi]
  rcases hstep with ⟨hw,h⟩|⟨hw,h⟩
  ·have hw':Region.wanted l[i] (yielded l.toArray (frd n κ.ds J).tmps)=true:=hw
   simp only [hw',if_true]
   have:=Qfz (κ:=κ) (o:=l[i]) (Q:=Q) (K:=fun J w=>wpAnyIn (FW κ) 0 P .any l.toArray Q fuel (a.setIfInBounds i true) (frd n κ.ds J) w)
    (QcV h fun v w' hv=>ih _ _ _ hset hcount hdc' (hfr v) (hext _ _ _ _ (fun j hj=>(Qec a i (by omega) j (by omega)).symm) hv))
   exact Oper.wpIn_mono (fun a w ⟨J,e,h⟩=>by subst e;exact h) this
  ·have hw':Region.wanted l[i] (yielded l.toArray (frd n κ.ds J).tmps)=false:=hw
   simp only [hw',Bool.false_eq_true,if_false]
   rw [Qdy]
   refine ⟨fun _ _=>trivial,?_⟩
   exact ih _ _ _ hset hcount hdc' (hfr undef) (hext _ _ _ _ (fun j hj=>(Qec a i (by omega) j (by omega)).symm) h)
theorem QqF {id:Nat} {l:List Oper} (hm:P.follows .mixedOrders=true) (hrise:rising l=true) (Inv:(Nat->Bool)->St)
  (hext:∀ D D' J w,(∀ j,j<l.length->D j=D' j)->Inv D J w->Inv D' J w)
  (h0:Inv (fun _=>false) J w.drew)
  (hs:∀ i o,l[i]?=some o->Qfi P n l J Inv i o)
  (he:∀ J' w',(∀ t,t ∉ dsts l->J' t=J t)->Inv (fun _=>true) J' w'->N J' w'):W κ P n (.region id l.toArray true) N R X J w:=by
 refine wpIn_region_any hm ?_
 refine QjC (n:=n) (J0:=J) hrise hext hs (fun J' w' hf hI=>⟨J',rfl,he J' w' hf hI⟩) _ _ J _ (by simp) ?_ (fun j o' hj hl=>?_) (fun _ _=>rfl) (hext _ _ _ _ (fun j hj=>?_) h0)
 ·rw [List.size_toArray,Array.toList_replicate]
  exact Nat.le_trans (List.length_filter_le _ _) (by simp)
 ·exfalso
  have hjl:j<l.length:=by
   rcases Nat.lt_or_ge j l.length with h|h
   ·exact h
   ·rw [List.getElem?_eq_none h] at hj;cases hj
  unfold Qbt at hl
  simp [hjl] at hl
 ·unfold Qbt
  simp [hj]
theorem Qgj {l:List Oper} {J0:Env} {Inv:(Nat->Bool)->St} {K:St}
  (hs:∀ i o,l[i]?=some o->Qfi P n l J0 Inv i o) (hrise:rising l=true)
  (he:∀ J w,(∀ t,t ∉ dsts l->J t=J0 t)->Inv (fun j=>Nat.blt j l.length) J w->K J w)
  (hext:∀ D D' J w,(∀ j,D j=D' j)->Inv D J w->Inv D' J w) :
  ∀ (m:List Oper) (k:Nat) (J:Env) (w:World),(∀ j,m[j]?=l[k+j]?)->k+m.length=l.length->(∀ t,t ∉ dsts l->J t=J0 t)->Inv (fun j=>Nat.blt j k) J w->RW P n l K m J w
 | [],k,J,w,_,hk,hf,hI=>by
  simp at hk
  subst hk
  exact he J w hf hI
 | o :: m,k,J,w,hm,hk,hf,hI=>by
  have h0:l[k]?=some o:=by simpa using (hm 0).symm
  have hm':∀ j,m[j]?=l[k+1+j]?:=fun j=>by
   have:=hm (j+1)
   simp only [List.getElem?_cons_succ] at this
   rw [this];congr 1;omega
  have hlt:∀ j o',l[j]?=some o'->∀ i∈deps o',i<j:=by
   intro j o' hj i hi
   unfold rising at hrise
   rw [List.all_eq_true] at hrise
   have:=hrise (o',j) (by rw [List.mem_zipIdx_iff_getElem?];exact hj)
   simp only [List.all_eq_true] at this
   have h2:=this i hi
   rw [Qbg] at h2
   exact QQ1 h2
  have hfr:∀ v,∀ t,t ∉ dsts l->QdB J o.dst v t=J0 t:=by
   intro v t ht
   cases hd:o.dst with
   | none=>exact hf t ht
   | some d =>
    show upd J d v t=_
    rw [QdU,if_neg]
    ·exact hf t ht
    ·intro e
     subst e
     exact ht (List.mem_filterMap.2 ⟨o,List.mem_of_getElem? h0,hd⟩)
  have hmark:∀ j,mark (fun j=>Nat.blt j k) k j=Nat.blt j (k+1):=by
   intro j
   show cond (Nat.beq j k) true (Nat.blt j k)=Nat.blt j (k+1)
   rw [QbT,Qbg,Qbg]
   by_cases h:j=k
   ·subst h;simp
   ·simp [h];omega
  have:=hs k o h0 (fun j=>Nat.blt j k) J w (by show Nat.blt k k=false;rw [Qbg];simp) (fun j hj=>by show Nat.blt j k=true;rw [Qbg];simp [hlt k o h0 j hj])
   (fun j o' hj hl i hi=>by
    have h1:=hlt j o' hj i hi
    have h2:j<k:=by rw [Qbg] at hl;exact QQ1 hl
    show Nat.blt i k=true
    rw [Qbg];simp;omega) hf hI
  rcases this with ⟨hw,h⟩|⟨hw,h⟩
  ·exact .inl ⟨hw,QcV h fun v w' hv=>Qgj hs hrise he hext m (k+1) _ _ hm' (by simp at hk;omega) (hfr v) (hext _ _ _ _ hmark hv)⟩
  ·exact .inr ⟨hw,Qgj hs hrise he hext m (k+1) _ _ hm' (by simp at hk;omega) (hfr undef) (hext _ _ _ _ hmark h)⟩
theorem QvE {id:Nat} {l:List Oper} (hrise:rising l=true) (Inv:(Nat->Bool)->St)
  (hext:∀ D D' J w,(∀ j,j<l.length->D j=D' j)->Inv D J w->Inv D' J w)
  (h0:Inv (fun _=>false) J w)
  (hs:∀ i o,l[i]?=some o->Qfi P n l J Inv i o)
  (he:∀ J' w',(∀ t,t ∉ dsts l->J' t=J t)->Inv (fun _=>true) J' w'->N J' w'):W κ P n (.region id l.toArray false) N R X J w :=
 Qab (Qgj (J0:=J) (Inv:=Inv) hs hrise (fun J' w' hf hI=>he J' w' hf (hext _ _ _ _ (fun j hj=>by show Nat.blt j l.length=true;rw [Qbg];simp [hj]) hI)) (fun D D' J w h=>hext D D' J w fun j _=>h j) l 0 J w (by simp) (by simp) (fun _ _=>rfl)
  (hext _ _ _ _ (fun j _=>by show false=Nat.blt j 0;rw [Qbg];simp) h0))
def mix (ds:List Nat) (J1 J:Env):Env:=fun t=>cond (ds.any (Nat.beq t)) (J1 t) (J t)
theorem QaN {ds:List Nat} {J1 J:Env} (h:∀ t,t ∉ ds->J1 t=J t):J1=mix ds J1 J:=by
 funext t
 unfold mix
 cases hb:ds.any (Nat.beq t) with
 | true=>rfl
 | false =>
  refine h t fun hm=>?_
  rw [List.any_eq_false] at hb
  exact hb t hm (by simp)
theorem Qaw {J1 J2:Env} {d:Nat} {v:Value} (e:J1=J2) (h:J1 d=v):J1=upd J2 d v:=by
 funext t
 rw [QdU]
 split
 ·rename_i hd;subst hd;exact h
 ·rw [e]
def Agr (ds:List Nat) (J1 J:Env):Prop:=∀ t,t ∉ ds->J1 t=J t
theorem Agr.refl (ds:List Nat) (J:Env):Agr ds J J:=fun _ _=>rfl
theorem Agr.upd {ds:List Nat} {J1 J:Env} (h:Agr ds J1 J) {d:Nat} {v:Value} (hd:ds.any (Nat.beq d)=true):Agr ds (upd J1 d v) J:=by
 intro t ht
 rw [QdU,if_neg]
 ·exact h t ht
 ·intro e
  subst e
  rw [List.any_eq_true] at hd
  obtain ⟨x,hx,he⟩:=hd
  rw [QbT] at he
  exact ht (QQ1 he ▸ hx)
theorem Agr.mix {ds es:List Nat} {J1 J2 J:Env} (h:Agr ds J1 J) (hd:es.all (fun d=>ds.any (Nat.beq d))=true):Agr ds (mix es J2 J1) J:=by
 intro t ht
 unfold Vx.mix
 cases hb:es.any (Nat.beq t) with
 | false=>exact h t ht
 | true =>
  exfalso
  rw [List.any_eq_true] at hb
  obtain ⟨x,hx,he⟩:=hb
  rw [QbT] at he
  have hxt:=QQ1 he
  subst hxt
  rw [List.all_eq_true] at hd
  have:=hd t hx
  rw [List.any_eq_true] at this
  obtain ⟨y,hy,he⟩:=this
  rw [QbT] at he
  exact ht (QQ1 he ▸ hy)
theorem Ql1 {f:FuncId} {fn:Func} {c:Code} {args:Array Value} {Rp:Ending->World->Prop} (hf:P.funcs[f]?=some fn) (hb:fn.body=some c) (hn:args.size<=fn.ntmps)
  (h:W c0 P fn.ntmps c (fun J w=>∃ v,(results fn (fr fn.ntmps J).tmps).run P w = .ok v w/\Rp (.returned v) w) (fun J w=>∃ v,(results fn (fr fn.ntmps J).tmps).run P w = .ok v w/\Rp (.returned v) w) (fun _ _ _=>False)
   (fun i=>args.getD i undef) w):Calls P f args w Rp:=by
 refine (callsIn_wide (n:=0)).1 (callsIn_of_wp hf hb trivial ?_)
 rw [Qh7 _ _ hn]
 refine wpIn_mono (F:=Fence.wide) h (fun e a w hq=>?_)
 cases e with
 | normal=>obtain ⟨J,rfl,v,hv,hR⟩:=hq;exact ⟨rfl,v,hv,hR⟩
 | ret=>obtain ⟨J,rfl,v,hv,hR⟩:=hq;exact ⟨rfl,v,hv,hR⟩
 | exit i=>obtain ⟨_,_,h⟩:=hq;exact h.elim
 | _=>exact hq.elim
end
end Go.Vx
namespace Go.Vx
open Go.RowKit
structure Res where
 holds:World->(Nat->Prop)->Prop
 loc:∀ w w' S,(∀ b,S b->w'.heap[b]?=w.heap[b]?)->holds w S->holds w' S
def emp:Res:=⟨fun _ _=>True,fun _ _ _ _ _=>trivial⟩
def blk (b:Nat) (cs:List Value) (T:TypeId):Res :=
 ⟨fun w S=>S b/\w.heap[b]?=some (.cells cs.toArray T (0,0)),fun _ _ _ h ⟨h1,h2⟩=>⟨h1,(h _ h1).trans h2⟩⟩
structure Own (w0:World) (M:Nat->Prop) (w:World) (L:List Res):Prop where
 os:w.os=w0.os
 tape:w.tape=w0.tape/\w0.drawn<=w.drawn
 output:w.output=w0.output
 size:w0.heap.size<=w.heap.size
 old:∀ b,b<w0.heap.size->¬M b->w.heap[b]?=w0.heap[b]?
 res:∃ S:Nat->Nat->Prop,(∀ k (R:Res),L[k]?=some R->R.holds w (S k))/\(∀ k b,S k b->b<w.heap.size)/\(∀ k k' b,S k b->S k' b->k=k')/\(∀ k b,S k b->b<w0.heap.size->M b)
abbrev no:Nat->Prop:=fun _=>False
namespace Own
variable {w0 w w':World} {M:Nat->Prop} {L:List Res}
theorem start (w:World):Own w no w []:=⟨rfl,⟨rfl,Nat.le_refl _⟩,rfl,Nat.le_refl _,fun _ _ _=>rfl,fun _ _=>False,by simp,fun _ _ h=>h.elim,fun _ _ _ h=>h.elim,fun _ _ h=>h.elim⟩
theorem start1 {R:Res} {S:Nat->Prop} (h:R.holds w S) (hS:∀ b,S b->b<w.heap.size):Own w S w [R] :=
 ⟨rfl,⟨rfl,Nat.le_refl _⟩,rfl,Nat.le_refl _,fun _ _ _=>rfl,fun k b=>k=0/\S b,
  fun k R' hk=>by
   cases k with
   | zero=>simp at hk;subst hk;exact R.loc w w _ (fun _ _=>rfl) (by simpa using h)
   | succ k=>simp at hk,
  fun _ b h=>hS b h.2,fun k k' b h h'=>h.1.trans h'.1.symm,fun _ b h _=>h.2⟩
theorem below (h:Own w0 no w L):Below w0.heap.size w0 w:=⟨h.os,h.tape.1,h.output,h.size,fun k hk=>h.old k hk (fun h=>h)⟩
theorem drew (h:Own w0 M w L):Own w0 M w.drew L:=by
 obtain ⟨a,b,c,d,e,S,f,g,i,j⟩:=h
 exact ⟨a,⟨b.1,Nat.le_succ_of_le b.2⟩,c,d,e,S,fun k R hk=>R.loc w _ _ (fun _ _=>rfl) (f k R hk),g,i,j⟩
theorem get (h:Own w0 M w L) (i:Nat) {R:Res} (hi:L[i]?=some R):∃ S,R.holds w S/\(∀ b,S b->b<w.heap.size)/\(∀ b,S b->b<w0.heap.size->M b):=by
 obtain ⟨a,b,c,d,e,S,f,g,i',j⟩:=h
 exact ⟨S i,f i R hi,g i,j i⟩
theorem get_blk (h:Own w0 M w L) (i:Nat) {b:Nat} {cs:List Value} {T:TypeId} (hi:L[i]?=some (blk b cs T)):w.heap[b]?=some (.cells cs.toArray T (0,0)):=by
 obtain ⟨S,⟨_,h⟩,_⟩:=h.get i hi
 exact h
theorem new (h:Own w0 M w L) (o:Obj) (R:Res) (hR:R.holds (w.alloc o) (fun b=>b=w.heap.size)):Own w0 M (w.alloc o) (L++[R]):=by
 obtain ⟨a,b,c,d,e,S,f,g,i,j⟩:=h
 refine ⟨a,b,c,by simp;omega,fun k hk hm=>by rw [Below.heap_alloc w o k (by omega)];exact e k hk hm,
  fun k b=>(k<L.length/\S k b)∨(k=L.length/\b=w.heap.size),?_,?_,?_,?_⟩
 ·intro k R' hk
  rw [List.getElem?_append] at hk
  by_cases hl:k<L.length
  ·rw [if_pos hl] at hk
   have e1:(fun b=>(k<L.length/\S k b)∨(k=L.length/\b=w.heap.size))=S k:=by
    funext b
    apply propext
    constructor
    ·rintro (⟨_,h⟩|⟨h,_⟩)
     ·exact h
     ·omega
    ·exact fun h=>.inl ⟨hl,h⟩
   show R'.holds (w.alloc o) (fun b=>(k<L.length/\S k b)∨(k=L.length/\b=w.heap.size))
   rw [e1]
   exact R'.loc w _ _ (fun b hb=>Below.heap_alloc w o b (g k b hb)) (f k R' hk)
  ·rw [if_neg hl] at hk
   have hkl:k=L.length:=by
    rcases Nat.lt_or_ge (k-L.length) 1 with h|h
    ·omega
    ·rw [List.getElem?_eq_none (by simpa using h)] at hk;cases hk
   subst hkl
   simp at hk
   subst hk
   have e1:(fun b=>(L.length<L.length/\S L.length b)∨(L.length=L.length/\b=w.heap.size))=fun b=>b=w.heap.size:=by
    funext b;simp
   show R.holds (w.alloc o) (fun b=>(L.length<L.length/\S L.length b)∨(L.length=L.length/\b=w.heap.size))
   rw [e1];exact hR
 ·rintro k b (⟨_,h⟩|⟨_,h⟩)
  ·have:=g k b h;simp;omega
  ·simp;omega
 ·rintro k k' b (⟨h1,h2⟩|⟨h1,h2⟩) (⟨h3,h4⟩|⟨h3,h4⟩)
  ·exact i k k' b h2 h4
  ·have:=g k b h2;omega
  ·have:=g k' b h4;omega
  ·omega
 ·rintro k b (⟨_,h⟩|⟨_,h⟩) hb
  ·exact j k b h hb
  ·omega
theorem change (h:Own w0 M w L) (i:Nat) {b:Nat} {R R':Res} (hi:L[i]?=some R) (hsz:w'.heap.size=w.heap.size) (hos:w'.os=w.os) (ht:w'.tape=w.tape) (ho:w'.output=w.output)
  (hne:∀ c,c≠b->w'.heap[c]?=w.heap[c]?) (hR:∀ S,R.holds w S->S b/\R'.holds w' S) (hd:w.drawn<=w'.drawn:=by exact Nat.le_refl _):Own w0 M w' (L.set i R'):=by
 obtain ⟨a,b',c,d,e,S,f,g,i',j⟩:=h
 have hil:i<L.length:=by
  rcases Nat.lt_or_ge i L.length with h|h
  ·exact h
  ·rw [List.getElem?_eq_none h] at hi;cases hi
 have hb:=hR (S i) (f i R hi)
 refine ⟨hos.trans a,⟨ht.trans b'.1,Nat.le_trans b'.2 hd⟩,ho.trans c,by omega,fun k hk hm=>?_,S,?_,fun k c h=>by rw [hsz];exact g k c h,i',j⟩
 ·by_cases hkb:k=b
  ·subst hkb;exact absurd (j i k hb.1 hk) hm
  ·rw [hne k hkb];exact e k hk hm
 ·intro k Q hk
  rw [List.getElem?_set] at hk
  by_cases hki:i=k
  ·subst hki
   simp [hil] at hk
   subst hk
   exact hb.2
  ·rw [if_neg hki] at hk
   refine Q.loc w w' _ (fun c hc=>hne c ?_) (f k Q hk)
   intro e
   subst e
   exact hki (i' i k c hb.1 hc)
theorem set_blk (h:Own w0 M w L) (i:Nat) {b:Nat} {cs cs':List Value} {T:TypeId} (hi:L[i]?=some (blk b cs T)):Own w0 M (w.setRow b cs'.toArray) (L.set i (blk b cs' T)):=by
 refine h.change i (b:=b) hi (by simp) rfl rfl rfl (fun c hc=>setRow_other w b c _ hc) ?_
 rintro S ⟨h1,h2⟩
 exact ⟨h1,h1,setRow_heap w b _ _ T _ h2⟩
theorem take (h:Own w0 M w L) (n:Nat):Own w0 M w (L.take n):=by
 obtain ⟨a,b,c,d,e,S,f,g,i,j⟩:=h
 refine ⟨a,b,c,d,e,S,fun k R hk=>f k R ?_,g,i,j⟩
 rw [List.getElem?_take] at hk
 split at hk
 ·exact hk
 ·cases hk
theorem drop1 (h:Own w0 M w L) (i:Nat):Own w0 M w (L.set i emp):=by
 obtain ⟨a,b,c,d,e,S,f,g,i',j⟩:=h
 refine ⟨a,b,c,d,e,S,fun k R hk=>?_,g,i',j⟩
 rw [List.getElem?_set] at hk
 by_cases hki:i=k
 ·subst hki
  by_cases hl:i<L.length
  ·simp [hl] at hk;subst hk;trivial
  ·simp [hl] at hk
 ·rw [if_neg hki] at hk;exact f k R hk
theorem conv (h:Own w0 M w L) (i:Nat) {R R':Res} (hi:L[i]?=some R) (hR:∀ S,R.holds w S->R'.holds w S):Own w0 M w (L.set i R'):=by
 obtain ⟨a,b,c,d,e,S,f,g,i',j⟩:=h
 refine ⟨a,b,c,d,e,S,fun k Q hk=>?_,g,i',j⟩
 rw [List.getElem?_set] at hk
 by_cases hki:i=k
 ·subst hki
  by_cases hl:i<L.length
  ·simp [hl] at hk;subst hk;exact hR _ (f i R hi)
  ·simp [hl] at hk
 ·rw [if_neg hki] at hk;exact f k Q hk
theorem more (h:Own w0 M w L) (R:Res) (hR:R.holds w (fun _=>False)):Own w0 M w (L++[R]):=by
 obtain ⟨a,b,c,d,e,S,f,g,i,j⟩:=h
 refine ⟨a,b,c,d,e,fun k b=>k<L.length/\S k b,?_,fun k b h=>g k b h.2,fun k k' b h h'=>i k k' b h.2 h'.2,fun k b h=>j k b h.2⟩
 intro k R' hk
 rw [List.getElem?_append] at hk
 by_cases hl:k<L.length
 ·rw [if_pos hl] at hk
  have e:(fun b=>k<L.length/\S k b)=S k:=by funext b;simp [hl]
  show R'.holds w (fun b=>k<L.length/\S k b)
  rw [e];exact f k R' hk
 ·rw [if_neg hl] at hk
  have hkl:k=L.length:=by
   rcases Nat.lt_or_ge (k-L.length) 1 with h|h
   ·omega
   ·rw [List.getElem?_eq_none (by simpa using h)] at hk;cases hk
  subst hkl
  simp at hk
  subst hk
  have e:(fun b=>L.length<L.length/\S L.length b)=fun _=>False:=by funext b;simp
  show R.holds w (fun b=>L.length<L.length/\S L.length b)
  rw [e];exact hR
theorem call (h:Own w0 M w L) {Lo:List Res} (hc:Own w no w' Lo):Own w0 M w' (L++Lo):=by
 obtain ⟨a,b,c,d,e,S,f,g,i,j⟩:=h
 obtain ⟨a',b',c',d',e',S',f',g',i',j'⟩:=hc
 refine ⟨a'.trans a,⟨b'.1.trans b.1,Nat.le_trans b.2 b'.2⟩,c'.trans c,by omega,fun k hk hm=>by rw [e' k (by omega) (fun h=>h)];exact e k hk hm,
  fun k b=>(k<L.length/\S k b)∨(L.length<=k/\S' (k-L.length) b),?_,?_,?_,?_⟩
 ·intro k R hk
  rw [List.getElem?_append] at hk
  by_cases hl:k<L.length
  ·rw [if_pos hl] at hk
   have e1:(fun b=>(k<L.length/\S k b)∨(L.length<=k/\S' (k-L.length) b))=S k:=by
    funext b;simp [hl];intro h;omega
   show R.holds w' (fun b=>(k<L.length/\S k b)∨(L.length<=k/\S' (k-L.length) b))
   rw [e1]
   exact R.loc w w' _ (fun b hb=>e' b (g k b hb) (fun h=>h)) (f k R hk)
  ·rw [if_neg hl] at hk
   have e1:(fun b=>(k<L.length/\S k b)∨(L.length<=k/\S' (k-L.length) b))=S' (k-L.length):=by
    funext b;simp [hl];intro h;omega
   show R.holds w' (fun b=>(k<L.length/\S k b)∨(L.length<=k/\S' (k-L.length) b))
   rw [e1]
   exact f' _ R hk
 ·rintro k b (⟨_,h⟩|⟨_,h⟩)
  ·have:=g k b h;omega
  ·exact g' _ b h
 ·have hnew:∀ k b,S' k b->w.heap.size<=b:=by
   intro k b h
   rcases Nat.lt_or_ge b w.heap.size with hlt|hge
   ·exact (j' k b h hlt).elim
   ·exact hge
  rintro k k' b (⟨h1,h2⟩|⟨h1,h2⟩) (⟨h3,h4⟩|⟨h3,h4⟩)
  ·exact i k k' b h2 h4
  ·have:=g k b h2;have:=hnew _ b h4;omega
  ·have:=g k' b h4;have:=hnew _ b h2;omega
  ·have:=i' _ _ b h2 h4;omega
 ·rintro k b (⟨_,h⟩|⟨_,h⟩) hb
  ·exact j k b h hb
  ·exact (j' _ b h (by omega)).elim
theorem call0 (h:Own w0 M w L) (hc:Own w no w' []):Own w0 M w' L:=by simpa using h.call hc
theorem lend3 (h:Own w0 M w L) (i:Nat) {R:Res} (hi:L[i]?=some R):∃ S,R.holds w S/\(∀ b,S b->b<w.heap.size)/\(∀ b,S b->b<w0.heap.size->M b)/\(∀ k,k≠i->∀ Rk,L[k]?=some Rk->∃ Sk,Rk.holds w Sk/\∀ b,S b->¬Sk b)/\∀ w' R' Lo,Own w S w' (R' :: Lo)->Own w0 M w' (L.set i R'++Lo):=by
 obtain ⟨a,b,c,d,e,S,f,g,i',j⟩:=h
 have hil:i<L.length:=by
  rcases Nat.lt_or_ge i L.length with h|h
  ·exact h
  ·rw [List.getElem?_eq_none h] at hi;cases hi
 refine ⟨S i,f i R hi,g i,j i,fun k hk Rk hRk=>⟨S k,f k Rk hRk,fun b h1 h2=>hk (i' k i b h2 h1)⟩,fun w' R' Lo hc=>?_⟩
 obtain ⟨a',b',c',d',e',S',f',g',i'',j'⟩:=hc
 refine ⟨a'.trans a,⟨b'.1.trans b.1,Nat.le_trans b.2 b'.2⟩,c'.trans c,by omega,fun k hk hm=>?_,
  fun k b=>(k<L.length/\k≠i/\S k b)∨(k=i/\S' 0 b)∨(L.length<=k/\S' (k-L.length+1) b),?_,?_,?_,?_⟩
 ·rw [e' k (by omega) (fun hs=>hm (j i k hs hk))];exact e k hk hm
 ·intro k Q hk
  rw [List.getElem?_append,List.length_set] at hk
  by_cases hl:k<L.length
  ·rw [if_pos hl,List.getElem?_set] at hk
   by_cases hki:i=k
   ·subst hki
    simp [hil] at hk
    subst hk
    have e1:(fun b=>(i<L.length/\i≠i/\S i b)∨(i=i/\S' 0 b)∨(L.length<=i/\S' (i-L.length+1) b))=S' 0:=by
     funext b;simp;intro h;omega
    show R'.holds w' (fun b=>(i<L.length/\i≠i/\S i b)∨(i=i/\S' 0 b)∨(L.length<=i/\S' (i-L.length+1) b))
    rw [e1]
    exact f' 0 R' rfl
   ·rw [if_neg hki] at hk
    have e1:(fun b=>(k<L.length/\k≠i/\S k b)∨(k=i/\S' 0 b)∨(L.length<=k/\S' (k-L.length+1) b))=S k:=by
     funext b
     apply propext
     constructor
     ·rintro (⟨_,_,h⟩|⟨h,_⟩|⟨h,_⟩)
      ·exact h
      ·exact absurd h.symm hki
      ·omega
     ·exact fun h=>.inl ⟨hl,fun e=>hki e.symm,h⟩
    show Q.holds w' (fun b=>(k<L.length/\k≠i/\S k b)∨(k=i/\S' 0 b)∨(L.length<=k/\S' (k-L.length+1) b))
    rw [e1]
    exact Q.loc w w' _ (fun b hb=>e' b (g k b hb) (fun hs=>hki (i' i k b hs hb))) (f k Q hk)
  ·rw [if_neg hl] at hk
   have e1:(fun b=>(k<L.length/\k≠i/\S k b)∨(k=i/\S' 0 b)∨(L.length<=k/\S' (k-L.length+1) b))=S' (k-L.length+1):=by
    funext b
    apply propext
    constructor
    ·rintro (⟨h,_⟩|⟨h,_⟩|⟨_,h⟩)
     ·omega
     ·omega
     ·exact h
    ·exact fun h=>.inr (.inr ⟨by omega,h⟩)
   show Q.holds w' (fun b=>(k<L.length/\k≠i/\S k b)∨(k=i/\S' 0 b)∨(L.length<=k/\S' (k-L.length+1) b))
   rw [e1]
   exact f' _ Q (by simpa using hk)
 ·rintro k b (⟨_,_,h⟩|⟨_,h⟩|⟨_,h⟩)
  ·have:=g k b h;omega
  ·exact g' _ b h
  ·exact g' _ b h
 ·have hnew:∀ k b,S' k b->b<w.heap.size->S i b:=fun k b h hb=>j' k b h hb
  rintro k k' b (⟨h1,h2,h3⟩|⟨h1,h2⟩|⟨h1,h2⟩) (⟨h4,h5,h6⟩|⟨h4,h5⟩|⟨h4,h5⟩)
  ·exact i' k k' b h3 h6
  ·have:=i' k i b h3 (hnew _ b h5 (g k b h3));omega
  ·have:=i' k i b h3 (hnew _ b h5 (g k b h3));omega
  ·have:=i' k' i b h6 (hnew _ b h2 (g k' b h6));omega
  ·omega
  ·have:=i'' _ _ b h2 h5;omega
  ·have:=i' k' i b h6 (hnew _ b h2 (g k' b h6));omega
  ·have:=i'' _ _ b h2 h5;omega
  ·have:=i'' _ _ b h2 h5;omega
 ·rintro k b (⟨_,_,h⟩|⟨_,h⟩|⟨_,h⟩) hb
  ·exact j k b h hb
  ·exact j i b (j' _ b h (by omega)) hb
  ·exact j i b (j' _ b h (by omega)) hb
theorem lend2 (h:Own w0 M w L) (i:Nat) {R:Res} (hi:L[i]?=some R):∃ S,R.holds w S/\(∀ b,S b->b<w.heap.size)/\(∀ b,S b->b<w0.heap.size->M b)/\∀ w' R' Lo,Own w S w' (R' :: Lo)->Own w0 M w' (L.set i R'++Lo):=by
 obtain ⟨S,h1,h2,h3,_,h4⟩:=h.lend3 i hi
 exact ⟨S,h1,h2,h3,h4⟩
theorem lend (h:Own w0 M w L) (i:Nat) {R:Res} (hi:L[i]?=some R):∃ S,R.holds w S/\(∀ b,S b->b<w.heap.size)/\∀ w' R' Lo,Own w S w' (R' :: Lo)->Own w0 M w' (L.set i R'++Lo):=by
 obtain ⟨S,h1,h2,_,h3⟩:=h.lend2 i hi
 exact ⟨S,h1,h2,h3⟩
theorem cell (h:Own w0 M w L) {p:Addr} (hp:p.block<w0.heap.size) (hm:¬M p.block):w.cell? p=w0.cell? p:=World.cell?_of_block (h.old _ hp hm)
end Own
end Go.Vx
namespace Go.Vx
open Go.RowKit
def Sz (P:Program) (t k:Nat):Prop:=∀ w,(sizeOf t).run P w = .ok k w
def Ag (P:Program) (t:Nat) (b:Bool):Prop:=∀ w,(isAgg t).run P w = .ok b w
def Zv (P:Program) (t:Nat) (z:Value):Prop:=∀ w,(zeroValue t).run P w = .ok z w
def Ud (P:Program) (t:Nat) (d:TypeDesc):Prop:=∀ w,(underlying t).run P w = .ok d w
def T1 (P:Program) (t:Nat):Prop:=Sz P t 1/\Ag P t false
def TA (P:Program) (t k:Nat):Prop:=Sz P t k/\Ag P t true
def FA (P:Program) (s f off:Nat):Prop:=∀ b o w,(Instr.fieldAt s (.pointer (some ⟨b,o,none⟩)) f).run P w = .ok (.pointer (some ⟨b,o+off,none⟩)) w
def En (P:Program) (f:Nat):Prop:=∀ args w,(callFunc f args).run P w = .ok (.enter f args) w
section
variable {P:Program} {ty:TypeId} {e:Operand->Value} {w:World} {K:Value->World->Prop}
theorem QuP {x:Operand} {V:Value} (hx:e x=V) (h:K V w):opW P (.move x) ty e w K:=by
 refine ⟨rfl,?_⟩;show K (e x) w;rw [hx];exact h
theorem QoU {x:Operand} {V:Value} (hx:e x=V) (h:K V w):opW P (.assign x) ty e w K:=by
 refine ⟨rfl,?_⟩;show K (e x) w;rw [hx];exact h
theorem Qag (V:Value) {x:Operand} (h:K V w) (hx:e x=V:=by exact rfl):opW P (.move x) ty e w K:=QuP hx h
theorem Qak (V:Value) {x:Operand} (h:K V w) (hx:e x=V:=by exact rfl):opW P (.assign x) ty e w K:=QoU hx h
theorem QaO {op:Op} {V:Value} {w':World} (hr:(execOp e { dst:=none,op,type:=ty,pos:="",after:=#[],guard:=none }).run P w = .ok (.value V) w') (h:K V w') (hd:QcD op=true:=by rfl):opW P op ty e w K:=by
 refine ⟨hd,?_⟩;rw [hr];exact h
theorem QkJ {op:Op} {w':World} (hr:(execOp e { dst:=none,op,type:=ty,pos:="",after:=#[],guard:=none }).run P w = .ok .skip w') (h:K undef w') (hd:QcD op=true:=by rfl):opW P op ty e w K:=by
 refine ⟨hd,?_⟩;rw [hr];exact h
theorem QgY {c a b:Operand} {g:Bool} {V:Value} (hc:e c = .bool g) (hv:(if g then e a else e b)=V) (h:K V w):opW P (.pick c a b) ty e w K:=by
 refine QaO (w':=w) ?_ h
 simp only [execOp,hc,asBool,Sem.run_bind,Sem.run_pure,Result.andThen_ok,hv]
theorem QtG {c b:Operand} {g h':Bool} {z:Operand} (hc:e c = .bool g) (hz:e z = .bool false) (hb:g=true->e b = .bool h') (h:K (.bool (g&&h')) w):opW P (.pick c b z) ty e w K:=by
 refine QgY hc (V:=.bool (g&&h')) ?_ h
 cases g with
 | true=>simp [hb rfl]
 | false=>simp [hz]
theorem Qwj {c b:Operand} {g h':Bool} {z:Operand} (hc:e c = .bool g) (hz:e z = .bool true) (hb:g=false->e b = .bool h') (h:K (.bool (g||h')) w):opW P (.pick c z b) ty e w K:=by
 refine QgY hc (V:=.bool (g||h')) ?_ h
 cases g with
 | true=>simp [hz]
 | false=>simp [hb rfl]
theorem QeB {op:BinOp} {t u:TypeId} {x y:Operand} {k:IntKind} {a b:Int} {V:Value} (hx:e x = .int k a) (hy:e y = .int k b)
  (hr:∀ w,(binOp op t (.int k a) (.int k b)).run P w = .ok V w) (h:K V w):opW P (.binOp op t x y u) ty e w K:=by
 refine QaO (w':=w) ?_ h
 simp only [execOp,hx,hy,eqGuard_at_int,Sem.run_bind,Sem.run_pure,Result.andThen_ok,hr]
section
variable {t u:TypeId} {x y:Operand} {k:IntKind} {a b:Int}
theorem QbQ (hx:e x = .int k a) (hy:e y = .int k b) (h:K (.bool (decide (a<b))) w):opW P (.binOp .lss t x y u) ty e w K:=QeB hx hy (fun _=>by rw [binOp_lss];rfl) h
theorem QfU (hx:e x = .int k a) (hy:e y = .int k b) (h:K (.bool (decide (a<=b))) w):opW P (.binOp .leq t x y u) ty e w K:=QeB hx hy (fun _=>by rw [binOp_leq];rfl) h
theorem Qck (hx:e x = .int k a) (hy:e y = .int k b) (h:K (.bool (decide (b<a))) w):opW P (.binOp .gtr t x y u) ty e w K:=QeB hx hy (fun _=>by rw [binOp_gtr];rfl) h
theorem Qdj (hx:e x = .int k a) (hy:e y = .int k b) (h:K (.bool (decide (b<=a))) w):opW P (.binOp .geq t x y u) ty e w K:=QeB hx hy (fun _=>by rw [binOp_geq];rfl) h
theorem Qa5 (hx:e x = .int k a) (hy:e y = .int k b) (h:K (.bool (decide (a=b))) w):opW P (.binOp .eql t x y u) ty e w K:=QeB hx hy (fun _=>by rw [binOp_eql];rfl) h
theorem QbM (hx:e x = .int k a) (hy:e y = .int k b) (h:K (.bool (!decide (a=b))) w):opW P (.binOp .neq t x y u) ty e w K:=QeB hx hy (fun _=>by rw [binOp_neq];rfl) h
theorem Qbx {c:Int} (hx:e x = .int k a) (hy:e y = .int k b) (hc:k.wrap (a+b)=c) (h:K (.int k c) w):opW P (.binOp .add t x y u) ty e w K:=QeB hx hy (fun _=>by rw [binOp_add,← hc];rfl) h
theorem Qh2 {c:Int} (hx:e x = .int k a) (hy:e y = .int k b) (hc:k.wrap (a-b)=c) (h:K (.int k c) w):opW P (.binOp .sub t x y u) ty e w K:=QeB hx hy (fun _=>by rw [binOp_sub,← hc];rfl) h
theorem QrN {c:Int} (hx:e x = .int k a) (hy:e y = .int k b) (hc:k.wrap (a*b)=c) (h:K (.int k c) w):opW P (.binOp .mul t x y u) ty e w K:=QeB hx hy (fun _=>by rw [binOp_mul,← hc];rfl) h
theorem Qst {c:Int} (hx:e x = .int k a) (hy:e y = .int k b) (hb:b≠0) (hc:k.wrap (a.tdiv b)=c) (h:K (.int k c) w):opW P (.binOp .quo t x y u) ty e w K:=QeB hx hy (fun _=>by rw [binOp_quo];simp [Op.intDiv,hb,hc]) h
theorem Qps {c:Int} (hx:e x = .int k a) (hy:e y = .int k b) (hb:b≠0) (hc:a.tmod b=c) (h:K (.int k c) w):opW P (.binOp .rem t x y u) ty e w K:=QeB hx hy (fun _=>by rw [binOp_rem];simp [Op.intDiv,hb,hc]) h
theorem Qle (hx:e x = .int k a) (hy:e y = .int k b) (h:K (.int k (bits .and k a b)) w):opW P (.binOp .and t x y u) ty e w K:=QeB hx hy (fun _=>by rw [binOp_and,intBits_and];rfl) h
theorem QuR (hx:e x = .int k a) (hy:e y = .int k b) (h:K (.int k (bits .or k a b)) w):opW P (.binOp .or t x y u) ty e w K:=QeB hx hy (fun _=>by rw [binOp_or,intBits_or];rfl) h
theorem Qg8 (hx:e x = .int k a) (hy:e y = .int k b) (h:K (.int k (bits .xor k a b)) w):opW P (.binOp .xor t x y u) ty e w K:=QeB hx hy (fun _=>by rw [binOp_xor,intBits_xor];rfl) h
theorem Qku {j:IntKind} (hx:e x = .int k a) (hy:e y = .int j b) (h0:0<=b) (h1:b<=k.bits) (h:K (.int k (a/2 ^ b.toNat)) w):opW P (.binOp .shr t x y u) ty e w K:=by
 refine QaO (w':=w) ?_ h
 simp only [execOp,hx,hy,eqGuard_at_int,Sem.run_bind,Sem.run_pure,Result.andThen_ok,binOp_shr,shift_shr k j a b h0 h1]
theorem Qwa {j:IntKind} (hx:e x = .int k a) (hy:e y = .int j b) (h0:0<=b) (h1:b<=k.bits) (h:K (.int k (k.wrap (a*2 ^ b.toNat))) w):opW P (.binOp .shl t x y u) ty e w K:=by
 refine QaO (w':=w) ?_ h
 simp only [execOp,hx,hy,eqGuard_at_int,Sem.run_bind,Sem.run_pure,Result.andThen_ok,binOp_shl,shift_shl k j a b h0 h1]
end
theorem Qb6 {t:TypeId} {x:Operand} {b:Bool} (hx:e x = .bool b) (h:K (.bool (!b)) w):opW P (.unOp .not t x) ty e w K:=by
 refine QaO (w':=w) ?_ h
 simp only [execOp,hx,Op.unary,Sem.run_bind,Sem.run_pure,Result.andThen_ok]
theorem QaB {s d:TypeId} {x:Operand} {j k:IntKind} {a c:Int} {u:TypeDesc} (hs:Ud P s u) (hd:Ud P d (.int k)) (hx:e x = .int j a) (hc:k.wrap a=c) (h:K (.int k c) w):opW P (.convert s d x) ty e w K:=by
 refine QaO (w':=w) ?_ h
 simp only [execOp,hx,convert,Sem.run_bind,Result.andThen_ok,hs w,hd w]
 subst hc
 rfl
theorem QpG {x y:Operand} {ats:Array TypeId} {k:IntKind} {a b:Int} (hx:e x = .int k a) (hy:e y = .int k b) (h:K (.int k (min a b)) w):opW P (.call { callee:=.builtin .min,args:=#[x,y],argTypes:=ats }) ty e w K:=by
 refine QaO (w':=w) ?_ h
 rw [BigFrame.execOp_builtin]
 simp only [List.map_toArray,List.map_cons,List.map_nil,hx,hy,BigFrame.builtin_min,Sem.run_bind,run_min_int2,Result.andThen_ok,Sem.run_pure]
 congr 3
 simp only [Int.min_def]
 split<;>split<;>omega
theorem Qu1 {t u:TypeId} {x y:Operand} {a b:Bool} (ht:P.underlying t=some .bool) (hx:e x = .bool a) (hy:e y = .bool b) (h:K (.bool (a == b)) w):opW P (.binOp .eql t x y u) ty e w K:=by
 refine QaO (w':=w) ?_ h
 simp only [execOp,hx,hy,eqGuard_at_bool,Sem.run_bind,Sem.run_pure,Result.andThen_ok,run_eql_bool w t a b ht]
theorem QiR {t d:TypeId} (ht:Ud P t (.pointer d)) (n:Nat) (a:Option Addr):(Op.equalIn (n+1) t (.pointer a) (.pointer none)).run P w = .ok a.isNone w:=by
 cases a<;>simp only [Op.equalIn,Sem.run_bind,ht w,Result.andThen_ok,Sem.run_pure]<;>rfl
theorem QjJ {t k d:TypeId} (ht:Ud P t (.map k d)) (n:Nat) (a:Option Nat):(Op.equalIn (n+1) t (.map a) (.map none)).run P w = .ok a.isNone w:=by
 cases a<;>simp only [Op.equalIn,Sem.run_bind,ht w,Result.andThen_ok,Sem.run_pure]<;>rfl
theorem Qd5 {t d:TypeId} (ht:Ud P t (.pointer d)) (a:Option Addr):(Op.equal t (.pointer a) (.pointer none)).run P w = .ok a.isNone w:=QiR ht 9999 a
theorem Qhx {t k d:TypeId} (ht:Ud P t (.map k d)) (a:Option Nat):(Op.equal t (.map a) (.map none)).run P w = .ok a.isNone w:=QjJ ht 9999 a
theorem Qic {t u d:TypeId} {x y:Operand} {a:Option Addr} (ht:Ud P t (.pointer d)) (hx:e x = .pointer a) (hy:e y = .pointer none) (h:K (.bool a.isNone) w):opW P (.binOp .eql t x y u) ty e w K:=by
 refine QaO (w':=w) ?_ h
 simp only [execOp,hx,hy,eqGuard_at_pointer,Sem.run_bind,Sem.run_pure,Result.andThen_ok,binOp,Qd5 ht]
theorem Qsj {t u d:TypeId} {x y:Operand} {a:Option Addr} (ht:Ud P t (.pointer d)) (hx:e x = .pointer a) (hy:e y = .pointer none) (h:K (.bool a.isSome) w):opW P (.binOp .neq t x y u) ty e w K:=by
 refine QaO (w':=w) ?_ h
 simp only [execOp,hx,hy,eqGuard_at_pointer,Sem.run_bind,Sem.run_pure,Result.andThen_ok,binOp,Qd5 ht]
 cases a<;>rfl
theorem QaA {x:Operand} {a:Addr} (hx:e x = .pointer (some a)) (h:K (.pointer (some a)) w):opW P (.nilCheck x) ty e w K:=by
 refine QaO (w':=w) ?_ h
 simp only [execOp,hx,Sem.run_pure]
theorem Qaf {x:Operand} {i:Nat} {vs:Array Value} {V:Value} (hx:e x = .tuple vs) (hv:vs[i]?=some V) (h:K V w):opW P (.extract x i) ty e w K:=by
 refine QaO (w':=w) ?_ h
 simp only [execOp,hx,Instr.extract,hv,Sem.run_bind,Sem.run_pure,Result.andThen_ok]
theorem Qac {s f off:Nat} {x:Operand} {b o:Nat} (ht:FA P s f off) (hx:e x = .pointer (some ⟨b,o,none⟩)) (h:K (.pointer (some ⟨b,o+off,none⟩)) w):opW P (.fieldAddr s x f) ty e w K:=by
 refine QaO (w':=w) ?_ h
 simp only [execOp,hx,ht b o w,Sem.run_bind,Sem.run_pure,Result.andThen_ok]
theorem QaR (b o n:Nat):(⟨b,o,none⟩:Addr).add n=⟨b,o+n,none⟩:=by
 unfold Addr.add;split<;>simp_all
theorem QrZ {t n el k:Nat} {x ix:Operand} {b o:Nat} {j:IntKind} {i:Int} (ht:Ud P t (.array n el)) (hk:Sz P el k) (hx:e x = .pointer (some ⟨b,o,none⟩)) (hi:e ix = .int j i) (h0:0<=i) (h1:i<n)
  (h:K (.pointer (some ⟨b,o+i.toNat*k,none⟩)) w):opW P (.indexAddr t x ix) ty e w K:=by
 refine QaO (w':=w) ?_ h
 simp only [execOp,hx,hi,Instr.indexAt,asIntOf,Instr.sureAddr,Sem.run_bind,Sem.run_pure,Result.andThen_ok,ht w]
 rw [if_pos ⟨h0,h1⟩]
 simp only [Sem.run_bind,hk w,Result.andThen_ok,Sem.run_pure,QaR]
theorem Qb2 {t n el:Nat} {x ix:Operand} {b o:Nat} {j:IntKind} {i:Int} (ht:Ud P t (.array n el)) (hk:Sz P el 1) (hx:e x = .pointer (some ⟨b,o,none⟩)) (hi:e ix = .int j i) (h0:0<=i) (h1:i<n)
  (h:K (.pointer (some ⟨b,o+i.toNat,none⟩)) w):opW P (.indexAddr t x ix) ty e w K :=
 QrZ ht hk hx hi h0 h1 (by rw [Nat.mul_one];exact h)
theorem QtK {t el k:Nat} {x ix:Operand} {b o len cap:Nat} {j:IntKind} {i:Int} (ht:Ud P t (.slice el)) (hk:Sz P el k) (hx:e x = .slice (some ⟨b,o,none⟩) len cap) (hi:e ix = .int j i) (h0:0<=i) (h1:i<len)
  (h:K (.pointer (some ⟨b,o+i.toNat*k,none⟩)) w):opW P (.indexAddr t x ix) ty e w K:=by
 refine QaO (w':=w) ?_ h
 simp only [execOp,hx,hi,Instr.indexAt,asIntOf,Sem.run_bind,Sem.run_pure,Result.andThen_ok,ht w]
 rw [if_pos ⟨h0,h1⟩]
 simp only [Sem.run_bind,hk w,Result.andThen_ok,Sem.run_pure,QaR]
theorem Qm0 {t n el:Nat} {x ix:Operand} {cs:Array Value} {j:IntKind} {i:Int} {V:Value} (ht:Ud P t (.array n el)) (hk:T1 P el) (hx:e x = .agg cs) (hi:e ix = .int j i) (h0:0<=i) (h1:i<n) (hv:cs[i.toNat]?=some V)
  (h:K V w):opW P (.index t x ix) ty e w K:=by
 refine QaO (w':=w) ?_ h
 simp only [execOp,hx,hi,Instr.index,asIntOf,Sem.run_bind,Sem.run_pure,Result.andThen_ok,ht w]
 rw [if_pos ⟨h0,h1⟩]
 simp only [Sem.run_bind,hk.1 w,hk.2 w,Result.andThen_ok,part,Nat.mul_one,Bool.false_eq_true,if_false,hv,Sem.run_pure]
theorem QjM {t:Nat} (ht:T1 P t) (a:Addr) {V:Value} (hc:w.cell? a=some V):(loadVar t a).run P w = .ok V w:=by
 simp only [loadVar,Sem.run_bind,ht.2 w,Result.andThen_ok,Bool.false_eq_true,if_false,run_load,hc]
theorem Qsk {t:Nat} {x:Operand} {a:Addr} {V:Value} (ht:T1 P t) (hc:w.cell? a=some V) (hx:e x = .pointer (some a)) (h:K V w):opW P (.load t x) ty e w K:=by
 refine QaO (w':=w) ?_ h
 simp only [execOp,hx,Instr.loadAt,Instr.sureAddr,Sem.run_bind,Sem.run_pure,Result.andThen_ok,QjM ht a hc]
theorem QdN {t k:Nat} (ht:TA P t k) (b o:Nat) (vs:List Value) (hl:vs.length=k) (hc:∀ j v,vs[j]?=some v->w.cell? ⟨b,o+j,none⟩=some v):(loadVar t ⟨b,o,none⟩).run P w = .ok (.agg vs.toArray) w:=by
 have h:=run_loadCells_list (P:=P) w ⟨b,o,none⟩ vs (fun j v hv=>by rw [QaR];exact hc j v hv)
 rw [hl] at h
 simp only [loadVar,Sem.run_bind,ht.2 w,ht.1 w,Result.andThen_ok,if_true,h,Sem.run_pure]
theorem Qn9 {t k:Nat} {x:Operand} {b o:Nat} {vs:List Value} (ht:TA P t k) (hl:vs.length=k) (hc:∀ j v,vs[j]?=some v->w.cell? ⟨b,o+j,none⟩=some v) (hx:e x = .pointer (some ⟨b,o,none⟩)) (h:K (.agg vs.toArray) w):opW P (.load t x) ty e w K:=by
 refine QaO (w':=w) ?_ h
 simp only [execOp,hx,Instr.loadAt,Instr.sureAddr,Sem.run_bind,Sem.run_pure,Result.andThen_ok,QdN ht b o vs hl hc]
variable {w0:World} {M:Nat->Prop} {L:List Res}
theorem QpP {t:Nat} {x:Operand} {b o:Nat} {cs:List Value} {T:TypeId} {V:Value} (ht:T1 P t) (hs:Own w0 M w L) (i:Nat) (hi:L[i]?=some (blk b cs T)) (hx:e x = .pointer (some ⟨b,o,none⟩)) (hv:cs[o]?=some V) (h:K V w):opW P (.load t x) ty e w K :=
 Qsk ht (by rw [cell_of_row w b o _ T _ (hs.get_blk i hi)];simpa using hv) hx h
theorem QaY (V:Value) {t:Nat} {x:Operand} {b o:Nat} {cs:List Value} {T:TypeId} (ht:T1 P t) (hs:Own w0 M w L) (i:Nat) (h:K V w) (hi:L[i]?=some (blk b cs T):=by exact rfl) (hx:e x = .pointer (some ⟨b,o,none⟩):=by exact rfl) (hv:cs[o]?=some V:=by exact rfl):opW P (.load t x) ty e w K :=
 QpP ht hs i hi hx hv h
theorem Qez {t k:Nat} {x:Operand} {b o:Nat} {cs vs:List Value} {T:TypeId} (ht:TA P t k) (hs:Own w0 M w L) (i:Nat) (hi:L[i]?=some (blk b cs T)) (hx:e x = .pointer (some ⟨b,o,none⟩)) (hl:vs.length=k) (hv:(cs.drop o).take k=vs) (h:K (.agg vs.toArray) w):opW P (.load t x) ty e w K:=by
 refine Qn9 ht hl (fun j v hj=>?_) hx h
 rw [cell_of_row w b _ _ T _ (hs.get_blk i hi)]
 subst hv
 rw [List.getElem?_take] at hj
 split at hj
 ·simpa [List.getElem?_drop] using hj
 ·cases hj
theorem Qa1 {t k:Nat} {x:Operand} {b:Nat} {cs:List Value} {T:TypeId} (ht:TA P t k) (hs:Own w0 M w L) (i:Nat) (hi:L[i]?=some (blk b cs T)) (hx:e x = .pointer (some ⟨b,0,none⟩)) (hl:cs.length=k) (h:K (.agg cs.toArray) w):opW P (.load t x) ty e w K :=
 Qez ht hs i hi hx hl (by subst hl;simp) h
theorem QaX {t:Nat} {z:Value} {cs:List Value} (hz:Zv P t z) (hcs:z.cells=cs.toArray) (hs:Own w0 M w L) (h:∀ b w',Own w0 M w' (L++[blk b cs t])->K (.pointer (some ⟨b,0,none⟩)) w'):opW P (.alloc t) ty e w K:=by
 refine QaO (w':=w.alloc (.cells cs.toArray t)) ?_ (h w.heap.size _ (hs.new _ _ ⟨rfl,_root_.Go.heap_alloc_new w _⟩))
 simp only [execOp,Instr.alloc,Sem.run_bind,hz w,Result.andThen_ok,newVar,newRow,hcs,run_newObj,Sem.run_pure]
 rfl
theorem Qb4 {t:Nat} {x:Operand} {V:Value} {cs:List Value} (hx:e x=V) (hcs:V.cells=cs.toArray) (hs:Own w0 M w L) (h:∀ b w',Own w0 M w' (L++[blk b cs t])->K (.pointer (some ⟨b,0,none⟩)) w'):opW P (.box t x) ty e w K:=by
 refine QaO (w':=w.alloc (.cells cs.toArray t)) ?_ (h w.heap.size _ (hs.new _ _ ⟨rfl,_root_.Go.heap_alloc_new w _⟩))
 simp only [execOp,hx,Instr.box,Sem.run_bind,Result.andThen_ok,newVar,newRow,hcs,run_newObj,Sem.run_pure]
 rfl
def spl (cs:List Value) (o:Nat):List Value->List Value
 | []=>cs
 | v :: vs=>spl (cs.set o v) (o+1) vs
theorem Qc0 (b:Nat) (T:TypeId) (o:Nat):∀ (vs:List Value) (i:Nat) (cs:List Value) (w:World),w.heap[b]?=some (.cells cs.toArray T (0,0))->o+i+vs.length<=cs.length->(∀ v∈vs,v.oneCell'=true) ->
  (storeCells ⟨b,o,none⟩ vs i).run P w = .ok () (w.setRow b (spl cs (o+i) vs).toArray)
 | [],i,cs,w,hb,_,_=>by
  have:w.setRow b cs.toArray=w:=by
   unfold World.setRow
   congr 1
   apply Array.ext_getElem?
   intro k
   rw [Array.getElem?_modify]
   split
   ·rename_i h;subst h;rw [hb];rfl
   ·rfl
  simp only [storeCells,Sem.run_pure,spl,this]
 | v :: vs,i,cs,w,hb,hl,h1=>by
  simp only [List.length_cons] at hl
  have hv:=h1 v (by simp)
  have hc:w.cell? ⟨b,o+i,none⟩=some (cs[o+i]'(by omega)):=by
   rw [cell_of_row w b _ _ T _ hb];simp
  have hf:w.frozen? ⟨b,o+i,none⟩=false:=frozen_of_row w b _ _ T hb
  simp only [storeCells,Sem.run_bind,QaR]
  rw [run_store P w _ v _ hv,hc,hf]
  simp only [Bool.false_eq_true,if_false,Result.andThen_ok]
  rw [setCell_eq_setRow w b (o+i) cs.toArray T (0,0) v hb]
  have hb':(w.setRow b (cs.toArray.setIfInBounds (o+i) v)).heap[b]?=some (.cells (cs.set (o+i) v).toArray T (0,0)):=by
   rw [setRow_heap w b _ _ T _ hb];simp
  rw [Qc0 b T o vs (i+1) (cs.set (o+i) v) _ hb' (by simp;omega) (fun v hv=>h1 v (by simp [hv]))]
  rw [setRow_setRow]
  rfl
theorem QfS {t k:Nat} (ht:Sz P t k) (b o:Nat) (T:TypeId) (V:Value) (vs cs:List Value) (hV:V.cells=vs.toArray) (hk:vs.length=k) (hb:w.heap[b]?=some (.cells cs.toArray T (0,0))) (hl:o+vs.length<=cs.length) (h1:∀ v∈vs,v.oneCell'=true) :
  (storeVar t ⟨b,o,none⟩ V).run P w = .ok () (w.setRow b (spl cs o vs).toArray):=by
 have h:=Qc0 (P:=P) b T o vs 0 cs w hb (by omega) h1
 simp only [storeVar,Sem.run_bind,ht w,Result.andThen_ok,hV,List.size_toArray,hk]
 simp only [Nat.add_zero] at h
 simpa using h
theorem QbN {t k:Nat} {x y:Operand} {b o:Nat} {T:TypeId} {V:Value} {vs cs cs':List Value} (ht:Sz P t k) (hs:Own w0 M w L) (i:Nat) (hi:L[i]?=some (blk b cs T)) (hx:e x = .pointer (some ⟨b,o,none⟩)) (hy:e y=V) (hV:V.cells=vs.toArray) (hk:vs.length=k)
  (hl:o+vs.length<=cs.length) (h1:∀ v∈vs,v.oneCell'=true) (hc:spl cs o vs=cs') (h:∀ w',Own w0 M w' (L.set i (blk b cs' T))->K undef w'):opW P (.store t x y) ty e w K:=by
 refine QkJ (w':=w.setRow b cs'.toArray) ?_ (h _ (hs.set_blk i hi))
 simp only [execOp,hx,hy,Instr.storeAt,Instr.sureAddr,Sem.run_bind,Sem.run_pure,Result.andThen_ok,QfS ht b o T V vs cs hV hk (hs.get_blk i hi) hl h1,hc]
theorem Qcl {t:Nat} {x y:Operand} {b o:Nat} {T:TypeId} {V:Value} {cs cs':List Value} (ht:T1 P t) (hs:Own w0 M w L) (i:Nat) (hi:L[i]?=some (blk b cs T)) (hx:e x = .pointer (some ⟨b,o,none⟩)) (hy:e y=V) (h1:V.oneCell'=true)
  (hl:o<cs.length) (hc:cs.set o V=cs') (h:∀ w',Own w0 M w' (L.set i (blk b cs' T))->K undef w'):opW P (.store t x y) ty e w K :=
 QbN ht.1 hs i hi hx hy (V:=V) (vs:=[V]) (by cases V<;>first|rfl|cases h1) rfl (by simp;omega) (by simpa using h1) hc h
theorem Qjr {op:Op} {f:FuncId} {args:Array Value} (hr:(execOp e { dst:=none,op,type:=ty,pos:="",after:=#[],guard:=none }).run P w = .ok (.enter f args) w) (h:Calls P f args w fun r w'=>∃ v,r = .returned v/\K v w') (hd:QcD op=true:=by rfl):opW P op ty e w K:=by
 refine ⟨hd,?_⟩;rw [hr];exact h
theorem Qhb {f:FuncId} {xs:Array Operand} {vs:Array Value} {ats:Array TypeId} (hf:En P f) (hef:e (.func f) = .func (.func f) #[] #[]) (hv:xs.map e=vs) (h:Calls P f vs w fun r w'=>∃ v,r = .returned v/\K v w') :
  opW P (.call { callee:=.value (.func f),args:=xs,argTypes:=ats }) ty e w K:=by
 refine Qjr (f:=f) (args:=vs) ?_ h
 simp only [execOp,resolve,hv,hef,Deferred.ofValue,Sem.run_bind,Sem.run_pure,Result.andThen_ok,invoke,Array.empty_append,Array.append_empty,hf vs w]
theorem QkW {t el:Nat} {x:Operand} {a:Option Addr} {n c:Nat} (ht:Ud P t (.slice el)) (hx:e x = .slice a n c) (h:K (.int .i64 n) w):opW P (.call { callee:=.builtin .len,args:=#[x],argTypes:=#[t] }) ty e w K:=by
 refine QaO (w':=w) ?_ h
 rw [BigFrame.execOp_builtin]
 simp only [List.map_toArray,List.map_cons,List.map_nil,hx,BigFrame.builtin_len,Builtin.len_,Sem.run_bind,ht w,Result.andThen_ok,Sem.run_pure,List.getElem?_toArray,List.getElem?_cons_zero,goInt]
end
section
variable {P:Program} {n:Nat} {J:Env} {w:World} {fn:Func}
theorem Qcz (t:Nat):(fr n J).tmps.getD t undef=ev n J (.tmp t):=QsH n J (.tmp t)
theorem Qau {t:Nat} {V:Value} (h:fn.results = #[.tmp t]) (hv:ev n J (.tmp t)=V):(results fn (fr n J).tmps).run P w = .ok V w:=by
 have:=Qcz (n:=n) (J:=J) t
 rw [hv] at this
 simp only [Array.getD_eq_getD_getElem?] at this
 simp [results,h,this]
theorem Qbq {s t:Nat} {U V:Value} (h:fn.results = #[.tmp s,.tmp t]) (hu:ev n J (.tmp s)=U) (hv:ev n J (.tmp t)=V):(results fn (fr n J).tmps).run P w = .ok (.tuple #[U,V]) w:=by
 have h1:=Qcz (n:=n) (J:=J) t
 have h2:=Qcz (n:=n) (J:=J) s
 rw [hv] at h1
 rw [hu] at h2
 simp only [Array.getD_eq_getD_getElem?] at h1 h2
 simp [results,h,h1,h2]
theorem Qa9 {s t r:Nat} {U V Z:Value} (h:fn.results = #[.tmp s,.tmp t,.tmp r]) (hu:ev n J (.tmp s)=U) (hv:ev n J (.tmp t)=V) (hz:ev n J (.tmp r)=Z):(results fn (fr n J).tmps).run P w = .ok (.tuple #[U,V,Z]) w:=by
 have h1:=Qcz (n:=n) (J:=J) t
 have h2:=Qcz (n:=n) (J:=J) s
 have h3:=Qcz (n:=n) (J:=J) r
 rw [hv] at h1
 rw [hu] at h2
 rw [hz] at h3
 simp only [Array.getD_eq_getD_getElem?] at h1 h2 h3
 simp [results,h,h1,h2,h3]
theorem QdT {w0:World} {M:Nat->Prop} {L:List Res} {t k b:Nat} {cs:List Value} {T:TypeId} (ht:TA P t k) (hs:Own w0 M w L) (i:Nat) (hi:L[i]?=some (blk b cs T)) (hl:cs.length=k):(loadVar t ⟨b,0,none⟩).run P w = .ok (.agg cs.toArray) w :=
 QdN ht b 0 cs hl fun j v hj=>by rw [cell_of_row w b _ _ T _ (hs.get_blk i hi)];simpa using hj
theorem Qii {w0:World} {M:Nat->Prop} {L:List Res} {p t k b:Nat} {cs:List Value} {T:TypeId} (h:fn.results = #[.cell p t]) (ht:TA P t k) (hs:Own w0 M w L) (i:Nat) (hi:L[i]?=some (blk b cs T)) (hp:ev n J (.tmp p) = .pointer (some ⟨b,0,none⟩)) (hl:cs.length=k) :
  (results fn (fr n J).tmps).run P w = .ok (.agg cs.toArray) w:=by
 have h1:=Qcz (n:=n) (J:=J) p
 rw [hp] at h1
 simp only [Array.getD_eq_getD_getElem?] at h1
 simp [results,h,h1,asAddr,QdT ht hs i hi hl]
theorem QaD {w0:World} {M:Nat->Prop} {L:List Res} {p t k b s:Nat} {cs:List Value} {T:TypeId} {V:Value} (h:fn.results = #[.cell p t,.tmp s]) (ht:TA P t k) (hs:Own w0 M w L) (i:Nat) (hi:L[i]?=some (blk b cs T)) (hp:ev n J (.tmp p) = .pointer (some ⟨b,0,none⟩)) (hl:cs.length=k) (hv:ev n J (.tmp s)=V) :
  (results fn (fr n J).tmps).run P w = .ok (.tuple #[.agg cs.toArray,V]) w:=by
 have h1:=Qcz (n:=n) (J:=J) p
 have h2:=Qcz (n:=n) (J:=J) s
 rw [hp] at h1
 rw [hv] at h2
 simp only [Array.getD_eq_getD_getElem?] at h1 h2
 simp [results,h,h1,h2,asAddr,QdT ht hs i hi hl]
end
end Go.Vx
namespace Go.Vx
abbrev Vec:=Fin 16->Int
instance:DecidableEq Vec:=fun a b=>decidable_of_iff (∀ i,a i=b i) funext_iff.symm
def vc (v:Vec):List Value :=
 [.int .u32 (v 0),.int .u32 (v 1),.int .u32 (v 2),.int .u32 (v 3),.int .u32 (v 4),.int .u32 (v 5),.int .u32 (v 6),.int .u32 (v 7),
  .int .u32 (v 8),.int .u32 (v 9),.int .u32 (v 10),.int .u32 (v 11),.int .u32 (v 12),.int .u32 (v 13),.int .u32 (v 14),.int .u32 (v 15)]
def vat (v:Vec) (i:Nat):Int:=if h:i<16 then v ⟨i,h⟩ else 0
def vset (v:Vec) (i:Nat) (x:Int):Vec:=fun j=>if j.val=i then x else v j
def vzero:Vec:=fun _=>0
def Qbw (v:Vec):Prop:=∀ i,0<=v i/\v i<4294967296
theorem Qrc (v:Vec):(vc v).length=16:=rfl
theorem QjH (v:Vec) (i:Nat) (h:i<16):(vc v)[i]?=some (.int .u32 (vat v i)):=by
 have:i=0∨i=1∨i=2∨i=3∨i=4∨i=5∨i=6∨i=7∨i=8∨i=9∨i=10∨i=11∨i=12∨i=13∨i=14∨i=15:=by omega
 rcases this with h|h|h|h|h|h|h|h|h|h|h|h|h|h|h|h<;>subst h<;>rfl
theorem QtY (v:Vec) (i:Nat) (h:i<16) (x:Int):(vc v).set i (.int .u32 x)=vc (vset v i x):=by
 have:i=0∨i=1∨i=2∨i=3∨i=4∨i=5∨i=6∨i=7∨i=8∨i=9∨i=10∨i=11∨i=12∨i=13∨i=14∨i=15:=by omega
 rcases this with h|h|h|h|h|h|h|h|h|h|h|h|h|h|h|h<;>subst h<;>rfl
theorem Qhq {v:Vec} {i o:Nat} (h:i<16) (ho:o=i):(vc v)[o]?=some (.int .u32 (vat v i)):=by subst ho;exact QjH v _ h
theorem QnY {v:Vec} {i o:Nat} {x:Int} (h:i<16) (ho:o=i):(vc v).set o (.int .u32 x)=vc (vset v i x):=by subst ho;exact QtY v _ h x
theorem QtE {v:Vec} {o:Nat} (h:o<16):o<(vc v).length:=h
theorem QdC (v:Vec):∀ x∈vc v,x.oneCell'=true:=by
 intro x hx
 simp only [vc,List.mem_cons,List.not_mem_nil,or_false] at hx
 rcases hx with h|h|h|h|h|h|h|h|h|h|h|h|h|h|h|h<;>subst h<;>rfl
theorem QfI {v:Vec} (h:Qbw v) (i:Nat):0<=vat v i/\vat v i<4294967296:=by
 unfold vat;split
 ·exact h _
 ·omega
theorem QrW {v:Vec} (h:Qbw v) (i:Nat) {x:Int} (h0:0<=x) (h1:x<4294967296):Qbw (vset v i x):=by
 intro j;unfold vset;split
 ·exact ⟨h0,h1⟩
 ·exact h j
theorem QeZ:Qbw vzero:=fun _=>by unfold vzero;omega
theorem QbP (v:Vec) (i j:Nat) (x:Int) (h:j<16):vat (vset v i x) j=if j=i then x else vat v j:=by
 unfold vat vset;simp [h]
structure Dot where
 rep:Int
 seq:Int
 deriving DecidableEq
def dc (d:Dot):List Value:=[.int .u8 d.rep,.int .u32 d.seq]
def Qfk (d:Dot):Prop:=(0<=d.rep/\d.rep<256)/\0<=d.seq/\d.seq<4294967296
theorem QqL (d:Dot):∀ x∈dc d,x.oneCell'=true:=by
 intro x hx;simp only [dc,List.mem_cons,List.not_mem_nil,or_false] at hx;rcases hx with h|h<;>subst h<;>rfl
structure Opn where
 dot:Dot
 kind:Int
 cart:Int
 item:Int
 qty:Int
 tick:Int
 ctx:Vec
def oc (o:Opn):List Value :=
 [.int .u8 o.dot.rep,.int .u32 o.dot.seq,.int .u8 o.kind,.int .u16 o.cart,.int .u16 o.item,.int .u16 o.qty,.int .u32 o.tick,
  .int .u32 (o.ctx 0),.int .u32 (o.ctx 1),.int .u32 (o.ctx 2),.int .u32 (o.ctx 3),.int .u32 (o.ctx 4),.int .u32 (o.ctx 5),.int .u32 (o.ctx 6),.int .u32 (o.ctx 7),
  .int .u32 (o.ctx 8),.int .u32 (o.ctx 9),.int .u32 (o.ctx 10),.int .u32 (o.ctx 11),.int .u32 (o.ctx 12),.int .u32 (o.ctx 13),.int .u32 (o.ctx 14),.int .u32 (o.ctx 15)]
end Go.Vx
namespace Go.Vx
theorem QqW {v:Vec} {R:List Value} {i o:Nat} (h:i<16) (ho:o=i):(vc v++R)[o]?=some (.int .u32 (vat v i)):=by
 subst ho;rw [List.getElem?_append_left (by rw [Qrc];exact h)];exact QjH v _ h
end Go.Vx
namespace Go.Vx
def QdI (d:Dot):Bool:=decide (d.rep<16)&&decide (1<=d.seq)&&decide (d.seq<=1048576)
theorem Qbf {d:Dot} (h:QdI d=true):d.rep<16/\1<=d.seq/\d.seq<=1048576:=by
 unfold QdI at h;simp at h;exact ⟨h.1.1,h.1.2,h.2⟩
def QeM (v:Vec) (d:Dot):Bool:=QdI d&&decide (d.seq<=vat v d.rep.toNat)
def Qcv (v:Vec) (d:Dot):Vec:=if QdI d=false then vzero else if QeM v d=true then vzero else if d.seq=(vat v d.rep.toNat+1)%4294967296 then vset v d.rep.toNat (vat v d.rep.toNat+1) else vzero
def QbX (v:Vec) (d:Dot):Int:=if QdI d=false then 2 else if QeM v d=true then 8 else if d.seq=(vat v d.rep.toNat+1)%4294967296 then 0 else 9
def QhF (v:Vec) (n:Int) (i:Nat):Bool:=!(decide (1048576<vat v i)||decide (n<=(i:Int))&&decide (0<vat v i))
def QaE (v:Vec) (n:Int):Bool:=!(decide (n<1)||decide (16<n))&&(List.range 16).all fun i=>QhF v n i
def vle (a b:Vec):Bool:=(List.range 16).all fun i=>decide (vat a i<=vat b i)
def vsum (v:Vec):Int:=((List.range 16).map fun i=>vat v i).sum
end Go.Vx
namespace Go.Vx
theorem Ql8 {v:Vec} {n:Int} {k:Nat} (hk:k<16) (h:QhF v n k=false):(List.range 16).all (fun i=>QhF v n i)=false:=by
 rw [List.all_eq_false]
 exact ⟨k,by simpa using hk,by simp [h]⟩
theorem QpA {v:Vec} {n:Int} (h:∀ j:Nat,j<16->QhF v n j=true):(List.range 16).all (fun i=>QhF v n i)=true:=by
 rw [List.all_eq_true]
 intro i hi
 exact h i (by simpa using hi)
theorem QjO {v:Vec} {n:Int} {k:Nat} (hk:k<16) (h:QhF v n k=false):QaE v n=false:=by
 unfold QaE;rw [Ql8 hk h];simp
theorem Qfg {v:Vec} {n:Int} (h:(decide (n<1)||decide (16<n))=true):QaE v n=false:=by
 unfold QaE;rw [h];rfl
theorem Qhp {v:Vec} {n:Int} (h:∀ j:Nat,j<16->QhF v n j=true):QaE v n=(decide (1<=n)&&decide (n<=16)):=by
 unfold QaE;rw [QpA h]
 by_cases h1:n<1<;>by_cases h2:16<n<;>simp [h1,h2]<;>omega
theorem QlH {v:Vec} {n:Int} {k:Nat} (h1:¬1048576<vat v (k:Int).toNat) (h2:(decide (n<=(k:Int))&&decide (0<vat v (k:Int).toNat))=false):QhF v n k=true:=by
 unfold QhF;rw [Int.toNat_natCast] at h1 h2;rw [h2];simp;omega
theorem Qob {v:Vec} {n:Int} {k:Nat} (h:(decide (1048576<vat v (k:Int).toNat)||decide (n<=(k:Int))&&decide (0<vat v (k:Int).toNat))=true):QhF v n k=false:=by
 unfold QhF;rw [Int.toNat_natCast] at h;rw [h];rfl
theorem ne0 {v:Vec} {k:Nat} (hv:Qbw v):(!decide (vat v (k:Int).toNat=0))=decide (0<vat v (k:Int).toNat):=by
 have:=QfI hv (k:Int).toNat
 by_cases e:vat v (k:Int).toNat=0
 ·rw [e];rfl
 ·have h:0<vat v (k:Int).toNat:=by omega
  rw [QQ4 e,QQ3 h];rfl
theorem Qnc {v:Vec} {n:Int} {k:Nat} (hv:Qbw v) (h1:¬1048576<vat v (k:Int).toNat) (h2:(decide (n<=(k:Int))&&!decide (vat v (k:Int).toNat=0))=false):QhF v n k=true:=by
 rw [ne0 hv] at h2;exact QlH h1 h2
theorem Qo0 {v:Vec} {n:Int} {k:Nat} (hv:Qbw v) (h:(decide (1048576<vat v (k:Int).toNat)||decide (n<=(k:Int))&&!decide (vat v (k:Int).toNat=0))=true):QhF v n k=false:=by
 rw [ne0 hv] at h;exact Qob h
theorem Qjs {v:Vec} {n:Int} {k:Nat} (h:∀ j:Nat,j<k->QhF v n j=true) (hk:QhF v n k=true):∀ j:Nat,j<k+1->QhF v n j=true:=by
 intro j hj
 by_cases e:j=k
 ·subst e;exact hk
 ·exact h j (by omega)
theorem Qsg {a b:Vec} (h:∀ j:Nat,j<16->vat a j<=vat b j):vle a b=true:=by
 unfold vle;rw [List.all_eq_true];intro i hi;simpa using h i (by simpa using hi)
end Go.Vx
namespace Go.Vx
open Go.RowKit
section
variable {P:Program} {ty:TypeId} {e:Operand->Value} {w:World} {K:Value->World->Prop} {w0:World} {M:Nat->Prop} {L:List Res}
theorem QaH {f:FuncId} {xs:List Operand} {vs:List Value} {ats:Array TypeId} {V:Value} (hf:En P f) (hef:e (.func f) = .func (.func f) #[] #[]) (hv:xs.map e=vs)
  (hc:Calls P f vs.toArray w fun r w'=>r = .returned V/\Own w no w' []) (hs:Own w0 M w L) (h:∀ w',Own w0 M w' L->K V w') :
  opW P (.call { callee:=.value (.func f),args:=xs.toArray,argTypes:=ats }) ty e w K :=
 Qhb hf hef (by rw [List.map_toArray,hv]) (hc.mono fun r w' ⟨hr,ho⟩=>⟨V,hr,h w' (hs.call0 ho)⟩)
theorem Qax {α:Type} {f:FuncId} {xs:List Operand} {vs:List Value} {ats:Array TypeId} {V:α->Value} {Lo:α->List Res} {F:α->World->Prop} (hf:En P f) (hef:e (.func f) = .func (.func f) #[] #[]) (hv:xs.map e=vs)
  (hc:Calls P f vs.toArray w fun r w'=>∃ x,r = .returned (V x)/\Own w no w' (Lo x)/\F x w') (hs:Own w0 M w L) (h:∀ x w',Own w0 M w' (L++Lo x)->F x w'->K (V x) w') :
  opW P (.call { callee:=.value (.func f),args:=xs.toArray,argTypes:=ats }) ty e w K :=
 Qhb hf hef (by rw [List.map_toArray,hv]) (hc.mono fun r w' ⟨x,hr,ho,hF⟩=>⟨V x,hr,h x w' (hs.call ho) hF⟩)
theorem Qa7 {α:Type} {f:FuncId} {xs:List Operand} {vs:List Value} {ats:Array TypeId} {V:α->Value} {R:Res} {R':α->Res} {Lo:α->List Res} {F:α->World->Prop} (hf:En P f) (hef:e (.func f) = .func (.func f) #[] #[]) (hv:xs.map e=vs)
  (hs:Own w0 M w L) (i:Nat) (hi:L[i]?=some R)
  (hc:∀ S,R.holds w S->(∀ b,S b->b<w.heap.size)->Calls P f vs.toArray w fun r w'=>∃ x,r = .returned (V x)/\Own w S w' (R' x :: Lo x)/\F x w') (h:∀ x w',Own w0 M w' (L.set i (R' x)++Lo x)->F x w'->K (V x) w') :
  opW P (.call { callee:=.value (.func f),args:=xs.toArray,argTypes:=ats }) ty e w K:=by
 obtain ⟨S,hR,hlt,hback⟩:=hs.lend i hi
 exact Qhb hf hef (by rw [List.map_toArray,hv]) ((hc S hR hlt).mono fun r w' ⟨x,hr,ho,hF⟩=>⟨V x,hr,h x w' (hback w' _ _ ho) hF⟩)
def QiW (pl:List (Nat × Nat)):List Value->List (Nat × Value)->Option (List Value)
 | cs,[]=>some cs
 | cs,(i,v) :: rest =>
  match pl[i]? with
  | none=>none
  | some (off,size)=>cond (Nat.beq v.cells.toList.length size&&Nat.ble (off+size) cs.length) (QiW pl (spl cs off v.cells.toList) rest) none
theorem Qnh:∀ (vs cs:List Value) (o:Nat),(spl cs o vs).length=cs.length
 | [],_,_=>rfl
 | v :: vs,cs,o=>by unfold spl;rw [Qnh vs];simp
theorem QeD:∀ (vs:List Value) (cs:List Value) (o j:Nat),((vs.zipIdx j).foldl (fun (cs:Array Value) (x:Value × Nat)=>cs.setIfInBounds (o+x.2) x.1) cs.toArray)=(spl cs (o+j) vs).toArray
 | [],_,_,_=>rfl
 | v :: vs,cs,o,j=>by
  simp only [List.zipIdx_cons,List.foldl_cons,spl,List.setIfInBounds_toArray]
  rw [QeD vs (cs.set (o+j) v) o (j+1)]
  rfl
theorem Qj8 {pl:List (Nat × Nat)} {place:Nat->Option (Nat × Nat)} (hp:∀ (i:Nat) p,pl[i]?=some p->place i=some p):∀ (vs:List (Nat × Value)) (cs cs':List Value),QiW pl cs vs=some cs'->Instr.fill place cs.toArray vs=some cs'.toArray
 | [],cs,cs',h=>by simp only [QiW] at h;cases h;rfl
 | (i,v) :: rest,cs,cs',h=>by
  simp only [QiW] at h
  cases hpl:pl[i]? with
  | none=>rw [hpl] at h;cases h
  | some p =>
   obtain ⟨off,size⟩:=p
   rw [hpl] at h
   dsimp only at h
   cases hb:(Nat.beq v.cells.toList.length size&&Nat.ble (off+size) cs.length) with
   | false=>rw [hb] at h;cases h
   | true =>
    rw [hb] at h
    simp only [cond_true] at h
    rw [Bool.and_eq_true] at hb
    have h1:v.cells.size=size:=by have:=Nat.eq_of_beq_eq_true hb.1;simpa using this
    have h2:=QQ8 hb.2
    unfold Instr.fill
    rw [hp i _ hpl]
    dsimp only
    rw [if_neg (by simp [h1];omega)]
    have h3:=QeD v.cells.toList cs off 0
    have h4:(v.cells.zipIdx.foldl (fun cs (c,j)=>cs.setIfInBounds (off+j) c) cs.toArray)=(spl cs off v.cells.toList).toArray:=by
     rw [Nat.add_zero] at h3
     rw [← h3]
     conv=>lhs;rw [← Array.foldl_toList]
     rw [Array.toList_zipIdx]
    rw [h4]
    exact Qj8 hp rest _ _ h
def Bt (P:Program) (t:Nat) (pl:List (Nat × Nat)) (z:List Value):Prop:=∀ vs cs,QiW pl z vs=some cs->P.built t vs=some cs.toArray
theorem Qcf {t:Nat} {pl:List (Nat × Nat)} {z:List Value} {it:TypeInfo} {zv:Value} {fields:Array Field} (hi:P.info? t=some it) (hz:it.zero=some zv) (hzc:zv.cells=z.toArray) (hu:P.underlying t=some (.struct fields))
  (hp:fields.toList.mapM (fun f=>(P.info? f.type).map fun i=>(f.offset,i.size))=some pl):Bt P t pl z:=by
 intro vs cs h
 unfold Program.built
 rw [hi,hu]
 dsimp only
 rw [hz,hp]
 dsimp only
 rw [hzc]
 exact Qj8 (fun i p hip=>by simpa using hip) vs z cs h
theorem Qid {t n el:Nat} {k:Nat} {pl:List (Nat × Nat)} {z:List Value} {it ie:TypeInfo} {zv:Value} (hi:P.info? t=some it) (hz:it.zero=some zv) (hzc:zv.cells=z.toArray) (hu:P.underlying t=some (.array n el))
  (he:P.info? el=some ie) (hk:ie.size=k) (hpl:pl=(List.range n).map fun i=>(i*k,k)):Bt P t pl z:=by
 intro vs cs h
 unfold Program.built
 rw [hi,hu]
 dsimp only
 rw [hz,he]
 dsimp only
 rw [hzc,hk]
 refine Qj8 (fun i p hip=>?_) vs z cs h
 subst hpl
 rw [List.getElem?_map] at hip
 cases hr:(List.range n)[i]? with
 | none=>rw [hr] at hip;cases hip
 | some j =>
  rw [hr] at hip
  have:j=i:=by
   have:=List.getElem?_eq_some_iff.1 hr
   obtain ⟨h1,h2⟩:=this
   simpa using h2.symm
  subst this
  simpa using hip
theorem Qbz {t:Nat} {pl:List (Nat × Nat)} {z cs:List Value} {ps:List (Nat × Operand)} {vs:List (Nat × Value)} (hb:Bt P t pl z) (hv:ps.map (fun (p:Nat × Operand)=>(p.1,e p.2))=vs) (hf:QiW pl z vs=some cs) (h:K (.agg cs.toArray) w):opW P (.build t ps.toArray) ty e w K:=by
 refine QaO (w':=w) ?_ h
 have h1:(ps.toArray.map fun (i,x)=>(i,e x)).toList=vs:=by rw [← hv];simp
 simp only [execOp,Sem.run_bind,run_build w t _ cs.toArray (by rw [h1];exact hb vs cs hf),Result.andThen_ok,Sem.run_pure]
end
end Go.Vx
namespace Go.Vx
open Go.RowKit
section
variable {κ:Cx} {P:Program} {n:Nat} {N R:St} {X:Nat->St} {J:Env} {w:World}
theorem Qal {f:FuncId} {fn:Func} {c:Code} {args:Array Value} {Rp:Ending->World->Prop} (hf:P.funcs[f]?=some fn) (hb:fn.body=some c) (hn:fn.ntmps=n) (ha:Nat.ble args.size n=true)
  (h:W c0 P n c (fun J w=>∃ v,(results fn (fr n J).tmps).run P w = .ok v w/\Rp (.returned v) w) (fun J w=>∃ v,(results fn (fr n J).tmps).run P w = .ok v w/\Rp (.returned v) w) (fun _ _ _=>False)
   (fun i=>args.getD i undef) w):Calls P f args w Rp:=by
 subst hn
 exact Ql1 hf hb (QQ8 ha) h
theorem Own.only {w0 w:World} {M:Nat->Prop} {L:List Res} (h:Own w0 M w L) (i:Nat) {R:Res} (hi:L[i]?=some R):Own w0 M w [R]:=by
 obtain ⟨a,b,c,d,e,S,f,g,i',j⟩:=h
 refine ⟨a,b,c,d,e,fun k b=>k=0/\S i b,fun k Q hk=>?_,fun k b h=>g i b h.2,fun k k' b h h'=>h.1.trans h'.1.symm,fun k b h=>j i b h.2⟩
 cases k with
 | succ k=>simp at hk
 | zero =>
  simp at hk
  subst hk
  have e1:(fun b=>(0:Nat)=0/\S i b)=S i:=by funext b;simp
  show R.holds w (fun b=>(0:Nat)=0/\S i b)
  rw [e1];exact f i R hi
def upto (len:Nat) (D:Nat->Bool):Nat->Bool:=fun j=>Nat.blt j len&&D j
theorem Qm2 (len i:Nat) (D:Nat->Bool) (h:i<len):upto len (mark D i)=mark (upto len D) i:=by
 funext j
 unfold upto mark
 rw [QbT]
 by_cases hj:j=i
 ·subst hj;simp [h,Qbg]
 ·simp [hj]
theorem Qg4 {l:List Oper} (hrise:rising l=true) {j:Nat} {o:Oper} (hj:l[j]?=some o) {i:Nat} (hi:i∈deps o):i<j:=by
 unfold rising at hrise
 rw [List.all_eq_true] at hrise
 have:=hrise (o,j) (by rw [List.mem_zipIdx_iff_getElem?];exact hj)
 simp only [List.all_eq_true] at this
 have h2:=this i hi
 rw [Qbg] at h2
 exact QQ1 h2
theorem Qav {α:Type} {l:List α} {j:Nat} {o:α} (hj:l[j]?=some o):j<l.length:=by
 rcases Nat.lt_or_ge j l.length with h|h
 ·exact h
 ·rw [List.getElem?_eq_none h] at hj;cases hj
theorem Ql6 (len:Nat):upto len (fun _=>false)=fun _=>false:=by funext j;simp [upto]
theorem Qvv {l:List Oper} {o:Oper} {j:Nat} {want G T:Bool} (ho:o.guard=some (j,want)) (h:gv n J l j=cond G (.bool T) undef):Region.wanted o (yielded l.toArray (fr n J).tmps)=(G&&(T == want)):=by
 unfold Region.wanted
 rw [ho]
 dsimp only
 rw [Qfu,h]
 cases G with
 | false=>simp [undef]
 | true=>cases T<;>cases want<;>rfl
theorem Qas {op:Op} {ty:TypeId} {e:Operand->Value} {K:Value->World->Prop} {V V':Value} (h:opW P op ty e w (fun v w'=>v=V/\w'=w)) (hV:V=V') (hk:K V' w):opW P op ty e w K :=
 QcV h fun v w' ⟨a,b⟩=>by subst a;subst b;rw [hV];exact hk
theorem Qbb {c:Code} (I:Env->Nat->St) (h0:∃ k,I J k J w) (hr:∀ k J' w',I J k J' w'->W κ P n c (fun J'' w''=>∃ k',k'<k/\I J k' J'' w'') R X J' w'):W κ P n (.loop c) N R X J w :=
 let ⟨k,h0⟩:=h0;QtJ (I J) k h0 hr
end
def aOf:Value->Option Addr
 | .slice a _ _=>a
 | _=>none
def cOf:Value->Nat
 | .slice _ _ c=>c
 | _=>0
def bOf:Value->Nat
 | .pointer (some a)=>a.block
 | .slice (some a) _ _=>a.block
 | _=>0
theorem Own.put {w0 w:World} {M:Nat->Prop} {L:List Res} {R:Res} (h:Own w0 M w (L++[R])) (k:Nat) (hk:k<L.length):Own w0 M w (L.set k R):=by
 obtain ⟨a,b,c,d,e,S,f,g,i,j⟩:=h
 refine ⟨a,b,c,d,e,fun m b=>(m≠k/\m<L.length/\S m b)∨(m=k/\S L.length b),?_,?_,?_,?_⟩
 ·intro m Q hm
  rw [List.getElem?_set] at hm
  by_cases hkm:k=m
  ·subst hkm
   simp [hk] at hm
   subst hm
   have:=f L.length R (by simp)
   have e1:(fun b=>(k≠k/\k<L.length/\S k b)∨(k=k/\S L.length b))=S L.length:=by funext b;simp
   show R.holds w (fun b=>(k≠k/\k<L.length/\S k b)∨(k=k/\S L.length b))
   rw [e1];exact this
  ·rw [if_neg hkm] at hm
   have hml:m<L.length:=Qav hm
   have:=f m Q (by rw [List.getElem?_append,if_pos hml];exact hm)
   have e1:(fun b=>(m≠k/\m<L.length/\S m b)∨(m=k/\S L.length b))=S m:=by
    funext b
    apply propext
    constructor
    ·rintro (⟨_,_,h⟩|⟨h,_⟩)
     ·exact h
     ·exact absurd h.symm hkm
    ·exact fun h=>.inl ⟨fun e=>hkm e.symm,hml,h⟩
   show Q.holds w (fun b=>(m≠k/\m<L.length/\S m b)∨(m=k/\S L.length b))
   rw [e1];exact this
 ·rintro m b (⟨_,_,h⟩|⟨_,h⟩)
  ·exact g m b h
  ·exact g _ b h
 ·rintro m m' b (⟨h1,h2,h3⟩|⟨h1,h3⟩) (⟨h4,h5,h6⟩|⟨h4,h6⟩)
  ·exact i m m' b h3 h6
  ·have:=i m _ b h3 h6;omega
  ·have:=i m' _ b h6 h3;omega
  ·omega
 ·rintro m b (⟨_,_,h⟩|⟨_,h⟩) hb
  ·exact j m b h hb
  ·exact j _ b h hb
theorem Qcb {b:Bool} (h:(!b)=true):b=false:=by cases b<;>first|rfl|cases h
theorem Qa3 {b:Bool} (h:(!b)=false):b=true:=by cases b<;>first|rfl|cases h
theorem Qee {a b:Bool} (h:(a&&b)=true):a=true:=by cases a<;>first|rfl|cases h
theorem Qhi {a b:Bool} (h:(a&&b)=true):b=true:=by cases a<;>cases b<;>first|rfl|cases h
theorem QdD {a b:Bool} (h:a=b):(a == b)=true:=by subst h;cases a<;>rfl
theorem QdJ {a b:Bool} (h:(a||b)=false):a=false:=by cases a<;>first|rfl|cases h
theorem QdH {a b:Bool} (h:(a||b)=false):b=false:=by cases a<;>cases b<;>first|rfl|cases h
section
variable {x:Int}
theorem Qc1 (h0:-9223372036854775808<=x) (h1:x<=9223372036854775807):IntKind.i64.wrap x=x:=IntWalk.i64_in _ ⟨h0,h1⟩
theorem Qki (h0:0<=x) (h1:x<=255):IntKind.u8.wrap x=x:=IntWalk.u8_in _ ⟨h0,h1⟩
theorem Qjf (h0:0<=x) (h1:x<=4294967295):IntKind.u32.wrap x=x:=IntWalk.u32_in _ ⟨h0,h1⟩
theorem Qbe (h0:0<=x) (h1:x<=18446744073709551615):IntKind.u64.wrap x=x:=IntWalk.u64_in _ ⟨h0,h1⟩
theorem QiM (x:Int):IntKind.u32.wrap x=x%4294967296:=by rw [IntKind.wrap_u32]
theorem QhY (x:Int):IntKind.u8.wrap x=x%256:=by rw [IntKind.wrap_u8]
theorem QhA (x:Int):IntKind.u16.wrap x=x%65536:=by rfl
end
end Go.Vx
namespace Go.Vx
open Go.RowKit
def EqF (P:Program) (D:Nat) (t:TypeId) (u v:Value) (r:Bool):Prop:=∀ d w,(Op.equalIn (D+d) t u v).run P w = .ok r w
theorem EqF.up {P:Program} {D D':Nat} {t:TypeId} {u v:Value} {r:Bool} (h:EqF P D t u v r) (hd:D<=D'):EqF P D' t u v r:=by
 intro d w
 have:=h (D'-D+d) w
 rwa [show D+(D'-D+d)=D'+d by omega] at this
theorem Qcp {P:Program} {t:TypeId} {k k':IntKind} {a b:Int} (h:Ud P t (.int k')):EqF P 1 t (.int k a) (.int k b) (decide (a=b)):=by
 intro d w
 have hb:(a == b)=decide (a=b):=by by_cases h:a=b<;>simp [h]
 rw [show 1+d=d+1 by omega]
 simp only [Op.equalIn,Sem.run_bind,h w,Result.andThen_ok,if_true,Sem.run_pure,hb]
def Qhm (P:Program) (t:TypeId) (xs:List Value) (off:Nat) (u:Value):Prop:=∀ w,(part t xs.toArray off).run P w = .ok u w
theorem QaQ {P:Program} {t:TypeId} {xs:List Value} {off:Nat} {u:Value} (ht:T1 P t) (h:xs[off]?=some u):Qhm P t xs off u:=by
 intro w
 simp only [part,Sem.run_bind,ht.2 w,Result.andThen_ok,Bool.false_eq_true,if_false,List.getElem?_toArray,h,Sem.run_pure]
theorem Qdf {P:Program} {t k:Nat} {xs:List Value} {off:Nat} {us:List Value} (ht:TA P t k) (hl:us.length=k) (h:(xs.drop off).take k=us):Qhm P t xs off (.agg us.toArray):=by
 intro w
 have hle:off+k<=xs.length∨k=0:=by
  subst h
  rw [List.length_take,List.length_drop] at hl
  omega
 have hx:xs.toArray.extract off (off+k)=us.toArray:=by
  subst h
  simp
 simp only [part,Sem.run_bind,ht.1 w,ht.2 w,Result.andThen_ok,if_true,hx,Sem.run_pure]
inductive EqFs (P:Program) (D:Nat) (xs ys:List Value):List Field->Bool->Prop
 | nil:EqFs P D xs ys [] true
 | cons {f:Field} {fs:List Field} {u v:Value} {r r':Bool}:f.name≠"_"->Qhm P f.type xs f.offset u->Qhm P f.type ys f.offset v->EqF P D f.type u v r->EqFs P D xs ys fs r'->EqFs P D xs ys (f :: fs) (r&&r')
theorem EqFs.run {P:Program} {D:Nat} {xs ys:List Value} {fs:List Field} {r:Bool} (h:EqFs P D xs ys fs r) (d:Nat) (w:World):(Op.eqFields (D+d) xs.toArray ys.toArray fs).run P w = .ok r w:=by
 induction h with
 | nil=>simp [Op.eqFields]
 | cons hn hu hv he _ ih =>
  rename_i r r' _
  simp only [Op.eqFields,if_pos hn,Sem.run_bind,hu w,hv w,Result.andThen_ok,he d w]
  cases r with
  | false=>simp
  | true=>simpa using ih
theorem Qd3 {P:Program} {D:Nat} {t:TypeId} {fs:Array Field} {xs ys:List Value} {r:Bool} (ht:P.underlying t=some (.struct fs)) (hp:P.stoodInHeld t=false) (h:EqFs P D xs ys fs.toList r):EqF P (D+1) t (.agg xs.toArray) (.agg ys.toArray) r:=by
 intro d w
 have hf:P.fieldsOf t=fs:=by simp [Program.fieldsOf,ht]
 rw [show D+1+d=(D+d)+1 by omega,run_equalIn_struct w _ t _ _ (by rw [hf];exact ht) hp,hf]
 exact h.run d w
def QrB (r:Nat->Bool) (n:Nat):Bool:=(List.range n).all r
theorem Qgv {P:Program} {D el k n:Nat} {xs ys:List Value} {us vs:Nat->Value} {r:Nat->Bool}
  (hu:∀ i,i<n->Qhm P el xs (i*k) (us i)) (hv:∀ i,i<n->Qhm P el ys (i*k) (vs i)) (he:∀ i,i<n->EqF P D el (us i) (vs i) (r i)) (d:Nat) (w:World) :
  ∀ l:List Nat,(∀ i∈l,i<n)->(Op.eqItems (D+d) el k xs.toArray ys.toArray l).run P w = .ok (l.all r) w
 | [],_=>by simp [Op.eqItems]
 | i :: l,hl=>by
  have hi:=hl i (by simp)
  simp only [Op.eqItems,Sem.run_bind,hu i hi w,hv i hi w,Result.andThen_ok,he i hi d w,List.all_cons]
  cases r i with
  | false=>simp
  | true=>simpa using Qgv hu hv he d w l (fun j hj=>hl j (by simp [hj]))
theorem Qg0 {P:Program} {D:Nat} {t n el k:Nat} {ie:TypeInfo} {xs ys:List Value} {us vs:Nat->Value} {r:Nat->Bool} (ht:P.underlying t=some (.array n el)) (hi:P.info? el=some ie) (hk:P.cellsOf el=k)
  (hu:∀ i,i<n->Qhm P el xs (i*k) (us i)) (hv:∀ i,i<n->Qhm P el ys (i*k) (vs i)) (he:∀ i,i<n->EqF P D el (us i) (vs i) (r i)):EqF P (D+1) t (.agg xs.toArray) (.agg ys.toArray) (QrB r n):=by
 intro d w
 rw [show D+1+d=(D+d)+1 by omega,run_equalIn_array w (D+d) _ _ ht hi,hk]
 exact Qgv hu hv he d w _ (fun i hi=>List.mem_range.1 hi)
section
variable {P:Program} {ty:TypeId} {e:Operand->Value} {w:World} {K:Value->World->Prop}
theorem Qun {D:Nat} {t u:TypeId} {x y:Operand} {xs ys:List Value} {r:Bool} (hg:P.eqGuardType P.depth t=false) (hE:EqF P D t (.agg xs.toArray) (.agg ys.toArray) r) (hD:Nat.ble D 10000=true) (hx:e x = .agg xs.toArray) (hy:e y = .agg ys.toArray) (h:K (.bool r) w):opW P (.binOp .eql t x y u) ty e w K:=by
 refine QaO (w':=w) ?_ h
 have h1:=hE.up (QQ8 hD) 0 w
 simp only [Nat.add_zero] at h1
 simp only [execOp,hx,hy,run_eqGuard_agg w .eql t x y _ _ hg,Sem.run_bind,Sem.run_pure,Result.andThen_ok,run_eql_struct,h1]
theorem Qry {D:Nat} {t u:TypeId} {x y:Operand} {xs ys:List Value} {r:Bool} (hg:P.eqGuardType P.depth t=false) (hE:EqF P D t (.agg xs.toArray) (.agg ys.toArray) r) (hD:Nat.ble D 10000=true) (hx:e x = .agg xs.toArray) (hy:e y = .agg ys.toArray) (h:K (.bool (!r)) w):opW P (.binOp .neq t x y u) ty e w K:=by
 refine QaO (w':=w) ?_ h
 have h1:=hE.up (QQ8 hD) 0 w
 simp only [Nat.add_zero] at h1
 simp only [execOp,hx,hy,run_eqGuard_agg w .neq t x y _ _ hg,Sem.run_bind,Sem.run_pure,Result.andThen_ok,run_neq_struct,h1]
end
theorem QpD (a b:Vec):QrB (fun i=>decide (vat a i=vat b i)) 16=decide (a=b):=by
 rw [Bool.eq_iff_iff,decide_eq_true_iff]
 simp only [QrB,List.all_eq_true,List.mem_range,decide_eq_true_iff]
 constructor
 ·intro h
  funext i
  have:=h i.val i.isLt
  simpa [vat] using this
 ·intro h i _
  rw [h]
theorem QrS {P:Program} {t el:TypeId} {ie:TypeInfo} (ht:P.underlying t=some (.array 16 el)) (hi:P.info? el=some ie) (hk:P.cellsOf el=1) (he:Ud P el (.int .u32)) (h1:T1 P el) (a b:Vec):EqF P 2 t (.agg (vc a).toArray) (.agg (vc b).toArray) (decide (a=b)):=by
 rw [← QpD]
 exact Qg0 ht hi hk (us:=fun i=>.int .u32 (vat a i)) (vs:=fun i=>.int .u32 (vat b i)) (fun i hi=>QaQ h1 (by rw [Nat.mul_one];exact QjH a i hi)) (fun i hi=>QaQ h1 (by rw [Nat.mul_one];exact QjH b i hi)) (fun i _=>Qcp he)
theorem QmP (a b:Dot):(decide (a.rep=b.rep)&&(decide (a.seq=b.seq)&&true))=decide (a=b):=by
 cases a;cases b;simp
end Go.Vx
namespace Go.Vx
open Go.RowKit
def bkS:Value->Nat
 | .slice (some a) _ _=>a.block
 | _=>0
def ofS:Value->Nat
 | .slice (some a) _ _=>a.off
 | _=>0
structure Rd (w:World) (v:Value) (k:Nat) (ls:List (List Value)):Prop where
 len:∀ l∈ls,l.length=k
 small:ls.length<=9223372036854775807
 shape:(v = .slice none 0 0/\ls=[])∨∃ b o c,v = .slice (some ⟨b,o,none⟩) ls.length c
 cell:∀ (i j:Nat) (l:List Value) (u:Value),ls[i]?=some l->l[j]?=some u->w.cell? ⟨bkS v,ofS v+i*k+j,none⟩=some u
 room:ls.length<=cOf v
namespace Rd
variable {w w':World} {v:Value} {k:Nat} {ls:List (List Value)} {w0:World} {M:Nat->Prop} {L:List Res}
theorem own (h:Rd w0 v k ls) (hs:Own w0 M w L) (hm:¬M (bkS v)):Rd w v k ls:=by
 refine ⟨h.len,h.small,h.shape,fun i j l u hi hj=>?_,h.room⟩
 have hc:=h.cell i j l u hi hj
 rw [hs.cell (p:=⟨bkS v,ofS v+i*k+j,none⟩) (World.block_lt_of_cell? _ _ hc) hm]
 exact hc
theorem own' (h:Rd w0 v k ls) (hs:Own w0 no w L):Rd w v k ls:=h.own hs (fun h=>h)
theorem ptr (h:Rd w v k ls) {i:Nat} (hi:i<ls.length):∃ b o c,v = .slice (some ⟨b,o,none⟩) ls.length c:=by
 rcases h.shape with ⟨_,rfl⟩|h
 ·simp at hi
 ·exact h
theorem nil (w:World) (k:Nat):Rd w (.slice none 0 0) k []:=⟨by simp,by simp,.inl ⟨rfl,rfl⟩,by simp,Nat.le_refl _⟩
end Rd
def row (v:Value) (ls:List (List Value)) (e k:Nat):Res :=
 ⟨fun w S=>((∀ l∈ls,l.length=k)/\(∀ l∈ls,∀ u∈l,u.oneCell'=true))/\w.ownsRow 0 e k v ls.length ls.flatten/\∀ g,v.ownBlock=some g->S g,by
  rintro w w' S hw ⟨h1,⟨h2,h3⟩,h4⟩
  refine ⟨h1,⟨h2,?_⟩,h4⟩
  rcases h3 with h3|⟨g,cap,cur,hv,hb,hg,rest⟩
  ·exact .inl h3
  ·refine .inr ⟨g,cap,cur,hv,hb,?_,rest⟩
   rw [hw g (h4 g (by rw [hv];rfl))]
   exact hg⟩
theorem QaK (w:World) (S:Nat->Prop) (e k:Nat):(row (.slice none 0 0) [] e k).holds w S:=⟨⟨by simp,by simp⟩,World.ownsRow_nil _ _ _ _,by simp [Value.ownBlock]⟩
theorem Rd.sml {α:Type} {enc:α->List Value} {l:List α} {w:World} {v:Value} {k:Nat} (h:Rd w v k (l.map enc)):l.length<=9223372036854775807:=by simpa using h.small
theorem Qkv:∀ (ls:List (List Value)) (k:Nat) (_:∀ l∈ls,l.length=k) (i j:Nat) (l:List Value) (u:Value),ls[i]?=some l->l[j]?=some u->ls.flatten[i*k+j]?=some u
 | [],_,_,i,j,l,u,hi,_=>by simp at hi
 | a :: ls,k,hk,0,j,l,u,hi,hj=>by
  simp at hi;subst hi
  have hjl:=Qav hj
  simp only [List.flatten_cons,Nat.zero_mul,Nat.zero_add,List.getElem?_append,hjl,if_true,hj]
 | a :: ls,k,hk,i+1,j,l,u,hi,hj=>by
  simp only [List.getElem?_cons_succ] at hi
  have ha:=hk a (by simp)
  rw [List.flatten_cons,List.getElem?_append_right (by rw [ha,Nat.add_mul];omega),ha]
  rw [show (i+1)*k+j-k=i*k+j by rw [Nat.add_mul];omega]
  exact Qkv ls k (fun l hl=>hk l (by simp [hl])) i j l u hi hj
theorem QkV:∀ (ls:List (List Value)) (k:Nat) (_:∀ l∈ls,l.length=k) (j:Nat) (u:Value),ls.flatten[j]?=some u->∃ i j' l,ls[i]?=some l/\l[j']?=some u/\j=i*k+j'
 | [],_,_,j,u,h=>by simp at h
 | a :: ls,k,hk,j,u,h=>by
  rw [List.flatten_cons,List.getElem?_append] at h
  have ha:=hk a (by simp)
  split at h
  ·exact ⟨0,j,a,by simp,h,by omega⟩
  ·obtain ⟨i,j',l,h1,h2,h3⟩:=QkV ls k (fun l hl=>hk l (by simp [hl])) _ u h
   exact ⟨i+1,j',l,by simpa using h1,h2,by rw [Nat.add_mul];omega⟩
theorem Qga {k:Nat}:∀ m:List (List Value),(∀ l∈m,l.length=k)->m.flatten.length=m.length*k
 | [],_=>by simp
 | a :: m,hm=>by rw [List.flatten_cons,QQ7,Qga m (fun l hl=>hm l (by simp [hl])),hm a (by simp),List.length_cons,Nat.add_mul];omega
theorem Rd.flat {w:World} {v:Value} {k:Nat} {ls:List (List Value)} {b o c n:Nat} (hr:Rd w v k ls) (hv:v = .slice (some ⟨b,o,none⟩) n c):∀ j u,ls.flatten[j]?=some u->w.cell? ((⟨b,o,none⟩:Addr).add j)=some u:=by
 intro j u hj
 obtain ⟨i,j',l,h1,h2,rfl⟩:=QkV ls k hr.len j u hj
 have:=hr.cell i j' l u h1 h2
 subst hv
 rw [QaR]
 simpa [bkS,ofS,Nat.add_assoc] using this
theorem QfX {w:World} {xs:List Value} {rest:Array Value} {ls:List (List Value)} {e k cap:Nat} (hl1:∀ l∈ls,l.length=k) (ho1:∀ l∈ls,∀ u∈l,u.oneCell'=true) (hx:xs=ls.flatten) (hc:ls.length<=cap) (hm:cap<=maxLen) (hr:rest.size=(cap-ls.length)*k) :
  (row (.slice (some ⟨w.heap.size,0,none⟩) ls.length cap) ls e k).holds (w.alloc (.cells (xs.toArray++rest) e)) (fun b=>b=w.heap.size):=by
 subst hx
 have hfl:=Qga ls hl1
 refine ⟨⟨hl1,ho1⟩,⟨hfl,.inr ⟨w.heap.size,cap,_,rfl,Nat.zero_le _,_root_.Go.heap_alloc_new w _,hc,hm,?_,?_⟩⟩,fun g hg=>by cases hg;rfl⟩
 ·simp only [Array.size_append,List.size_toArray,hfl,hr,← Nat.add_mul]
  congr 1
  omega
 ·rw [Array.toList_append,← hfl]
  exact List.take_left
theorem Rd.of_row {w:World} {S:Nat->Prop} {v:Value} {ls:List (List Value)} {e k:Nat} (h:(row v ls e k).holds w S):Rd w v k ls:=by
 obtain ⟨⟨h1,_⟩,ho,_⟩:=h
 refine ⟨h1,?_,?_,?_,?_⟩
 rotate_right
 ·rcases ho.2 with ⟨hv,hn⟩|⟨g,cap,cur,hv,_,_,hc,_⟩
  ·rw [hv];exact Nat.le_of_eq hn
  ·rw [hv];exact hc
 ·rcases ho.2 with ⟨hv,hn⟩|⟨g,cap,cur,hv,_,_,hc,hm,_⟩
  ·omega
  ·simp only [maxLen] at hm;omega
 ·rcases ho.2 with ⟨hv,hn⟩|⟨g,cap,cur,hv,_⟩
  ·exact .inl ⟨hv,List.eq_nil_of_length_eq_zero hn⟩
  ·exact .inr ⟨g,0,cap,hv⟩
 ·intro i j l u hi hj
  have hf:=Qkv ls k h1 i j l u hi hj
  rcases ho.2 with ⟨hv,hn⟩|⟨g,cap,cur,hv,hr⟩
  ·have:=Qav hi;omega
  ·have:=ho.cells (g:=g) (by rw [hv];rfl) _ _ hf
   rw [QaR] at this
   subst hv
   simpa [bkS,ofS] using this
theorem Own.rd {w0 w:World} {M:Nat->Prop} {L:List Res} (hs:Own w0 M w L) (i:Nat) {v:Value} {ls:List (List Value)} {e k:Nat} (hi:L[i]?=some (row v ls e k)):Rd w v k ls:=by
 obtain ⟨S,h,_⟩:=hs.get i hi
 exact Rd.of_row h
theorem Rd.len_eq {w:World} {v:Value} {k:Nat} {ls:List (List Value)} (h:Rd w v k ls):∃ a c,v = .slice a ls.length c:=by
 rcases h.shape with ⟨hv,rfl⟩|⟨b,o,c,h⟩
 ·exact ⟨none,0,by simpa using hv⟩
 ·exact ⟨_,c,h⟩
section
variable {P:Program} {ty:TypeId} {e:Operand->Value} {w:World} {K:Value->World->Prop} {w0:World} {M:Nat->Prop} {L:List Res}
theorem QbG {t el k n:Nat} {x:Operand} {v:Value} {ls:List (List Value)} (ht:Ud P t (.slice el)) (hr:Rd w v k ls) (hn:ls.length=n) (hx:e x=v) (h:K (.int .i64 n) w):opW P (.call { callee:=.builtin .len,args:=#[x],argTypes:=#[t] }) ty e w K:=by
 obtain ⟨a,c,rfl⟩:=hr.len_eq
 subst hn
 exact QkW ht hx h
theorem QcJ {t el k:Nat} {x ix:Operand} {v:Value} {ls:List (List Value)} {j:IntKind} {i:Int} (ht:Ud P t (.slice el)) (hk:Sz P el k) (hr:Rd w v k ls) (hx:e x=v) (hi:e ix = .int j i) (h0:0<=i) (h1:i<ls.length)
  (h:K (.pointer (some ⟨bkS v,ofS v+i.toNat*k,none⟩)) w):opW P (.indexAddr t x ix) ty e w K:=by
 obtain ⟨b,o,c,hv⟩:=hr.ptr (i:=i.toNat) (by omega)
 subst hv
 exact QtK ht hk hx hi h0 h1 h
theorem QdX {t k j n:Nat} {x:Operand} {v:Value} {ls:List (List Value)} {l:List Value} {V:Value} (i:Nat) (ht:T1 P t) (hr:Rd w v k ls) (hi:ls[i]?=some l) (hj:l[j]?=some V) (hx:e x = .pointer (some ⟨bkS v,n,none⟩)) (hn:n=ofS v+i*k+j) (h:K V w):opW P (.load t x) ty e w K:=by
 subst hn
 exact Qsk ht (hr.cell i j l V hi hj) hx h
theorem QhD {t k j m n:Nat} {x:Operand} {v:Value} {ls:List (List Value)} {l vs:List Value} (i:Nat) (ht:TA P t m) (hr:Rd w v k ls) (hi:ls[i]?=some l) (hl:vs.length=m) (hj:(l.drop j).take m=vs) (hx:e x = .pointer (some ⟨bkS v,n,none⟩)) (hn:n=ofS v+i*k+j) (h:K (.agg vs.toArray) w):opW P (.load t x) ty e w K:=by
 subst hn
 refine Qn9 ht hl (fun a u ha=>?_) hx h
 rw [show ofS v+i*k+j+a=ofS v+i*k+(j+a) by omega]
 refine hr.cell i (j+a) l u hi ?_
 subst hj
 rw [List.getElem?_take] at ha
 split at ha
 ·simpa [List.getElem?_drop] using ha
 ·cases ha
structure El (P:Program) (t el k bytes:Nat):Prop where
 und:P.underlying t=some (.slice el)
 el:∃ i z,P.info? el=some i/\i.zero=some z/\i.size=k/\i.bytes=bytes/\z.cells.size=k/\0<k
theorem Own.replace {L:List Res} (h:Own w0 M w L) (i:Nat) {R R':Res} {o:Obj} {w':World} (hi:L[i]?=some R) (hw:w'=w.drew.alloc o) (hR:R'.holds w' (fun b=>b=w.heap.size)):Own w0 M w' (L.set i R'):=by
 subst hw
 have h1:=(h.drew.drop1 i).new o R' hR
 obtain ⟨a,b,c,d,e,S,f,g,i',j⟩:=h1
 have hil:i<L.length:=Qav hi
 refine ⟨a,b,c,d,e,fun k=>if k=i then S L.length else if k<L.length then S k else fun _=>False,?_,?_,?_,?_⟩
 ·intro k Q hk
  rw [List.getElem?_set] at hk
  by_cases hki:i=k
  ·subst hki
   simp [hil] at hk
   subst hk
   have:=f L.length R' (by rw [List.getElem?_append_right (by simp)];simp)
   simpa using this
  ·rw [if_neg hki] at hk
   have hkl:=Qav hk
   have:=f k Q (by rw [List.getElem?_append_left (by simpa using hkl),List.getElem?_set,if_neg hki];exact hk)
   show Q.holds _ (if k=i then _ else _)
   rw [if_neg (fun e=>hki e.symm),if_pos hkl]
   exact this
 ·intro k b h
  split at h
  ·exact g _ b h
  ·split at h
   ·exact g _ b h
   ·exact h.elim
 ·intro k k' b h h'
  split at h<;>split at h'
  ·omega
  ·split at h'
   ·have:=i' _ _ b h h';omega
   ·exact h'.elim
  ·split at h
   ·have:=i' _ _ b h h';omega
   ·exact h.elim
  ·split at h<;>split at h'
   ·exact i' _ _ b h h'
   ·exact h'.elim
   ·exact h.elim
   ·exact h.elim
 ·intro k b h hb
  split at h
  ·exact j _ b h hb
  ·split at h
   ·exact j _ b h hb
   ·exact h.elim
theorem Qvl {t el k bytes:Nat} {x y:Operand} {v v2:Value} {ls ls2:List (List Value)} (hE:El P t el k bytes) (hs:Own w0 M w L) (i:Nat) (hi:L[i]?=some (row v ls el k)) (hx:e x=v) (hy:e y=v2) (hr:Rd w v2 k ls2)
  (h1:∀ l∈ls2,∀ u∈l,u.oneCell'=true) (hb:(ls.length+ls2.length)*(bytes+1)<=140737488355328) (h:∀ v' w',Own w0 M w' (L.set i (row v' (ls++ls2) el k))->K v' w') :
  opW P (.call { callee:=.builtin .append,args:=#[x,y],argTypes:=#[t,t] }) ty e w K:=by
 obtain ⟨ht,ie,z,hie,hz,rfl,rfl,hzs,hk⟩:=hE
 have hbn:ls.length+ls2.length<=140737488355328:=Nat.le_trans (Nat.le_mul_of_pos_right _ (by omega)) hb
 have hbb:(ls.length+ls2.length)*ie.bytes<=140737488355328:=Nat.le_trans (Nat.mul_le_mul_left _ (by omega)) hb
 have key:∃ v' w',(Builtin.append_ #[t,t] ty #[v,v2]).run P w = .ok v' w'/\Own w0 M w' (L.set i (row v' (ls++ls2) el ie.size)):=by
  obtain ⟨S,⟨⟨hl1,ho1⟩,hown,hSg⟩,hSlt,hSM⟩:=hs.get i hi
  have hall:(∀ l∈ls++ls2,l.length=ie.size)/\(∀ l∈ls++ls2,∀ u∈l,u.oneCell'=true) :=
   ⟨fun l hl=>by rcases List.mem_append.1 hl with h|h;exact hl1 l h;exact hr.len l h,fun l hl=>by rcases List.mem_append.1 hl with h|h;exact ho1 l h;exact h1 l h⟩
  have hlen:(ls++ls2).flatten.length=(ls++ls2).length*ie.size:=by
   have:∀ m:List (List Value),(∀ l∈m,l.length=ie.size)->m.flatten.length=m.length*ie.size:=by
    intro m
    induction m with
    | nil=>simp
    | cons a m ih =>
     intro hm
     rw [List.flatten_cons,QQ7,ih (fun l hl=>hm l (by simp [hl])),hm a (by simp),List.length_cons,Nat.add_mul]
     omega
   exact this _ hall.1
  have hl2:ls2.flatten.length=ls2.length*ie.size:=by
   have h3:=hown.1
   simp only [List.flatten_append,QQ7,Nat.add_mul] at hlen
   omega
  by_cases hm:ls2=[]
  ·subst hm
   rcases hr.shape with ⟨hv2,_⟩|⟨b2,o2,c2,hv2⟩
   ·subst hv2
    refine ⟨v,w,run_append_owned_none (P:=P) w 0 t ty el ie ie.size ht hie v _ _ hown,?_⟩
    rw [List.append_nil]
    exact hs.conv i hi fun S h=>h
   ·subst hv2
    rcases hown.2 with ⟨hv,hn⟩|⟨g,cap,cur,hv,hbg,hg,hnc,hcm,hcs,htake⟩
    ·have hls:ls=[]:=List.eq_nil_of_length_eq_zero hn
     subst hls;subst hv
     refine ⟨.slice none 0 0,w,?_,hs.conv i hi fun S h=>h⟩
     simp [Builtin.append_,run_underlying ht,sizeOf,typeInfo,hie,Builtin.lenOf,Builtin.firstCells,loadCells,loadCellsFrom]
    ·subst hv
     refine ⟨.slice (some ⟨g,0,none⟩) ls.length cap,w,?_,?_⟩
     ·simp [Builtin.append_,run_underlying ht,sizeOf,typeInfo,hie,Builtin.lenOf,Builtin.firstCells,loadCells,loadCellsFrom,hnc,storeCells]
     ·rw [List.append_nil]
      exact hs.conv i hi fun S h=>h
  ·have hpos:0<ls2.length:=List.length_pos_iff.2 hm
   obtain ⟨b2,o2,c2,hv2⟩:=hr.ptr hpos
   have hnews:=hr.flat hv2
   subst hv2
   have h1':∀ u∈ls2.flatten,u.oneCell'=true:=fun u hu=>by
    obtain ⟨l,hl,hul⟩:=List.mem_flatten.1 hu
    exact h1 l hl u hul
   have hsmall:ls.length+ls2.length<=9223372036854775807:=by omega
   rcases hown.2 with ⟨hv,hn⟩|⟨g,cap,cur,hv,hbg,hg,hnc,hcm,hcs,htake⟩
   ·subst hv
    have hls:ls=[]:=List.eq_nil_of_length_eq_zero hn
    subst hls
    have hrun:=run_append_nil (P:=P) w t ty el ie z ht hie hz ⟨b2,o2,none⟩ ls2.length c2 _ hl2 hnews hpos (by omega) (by have:=hbb;simp only [List.length_nil,Nat.zero_add] at this;omega)
    refine ⟨_,_,hrun,hs.replace i hi rfl ?_⟩
    have h5:=QfX (w:=w.drew) (xs:=ls2.flatten) (rest:=Builtin.zeroCells z.cells (grownCap w ls2.length 0 el-ls2.length)) (ls:=ls2) (e:=el) (k:=ie.size) (cap:=grownCap w ls2.length 0 el) hr.len h1 rfl (grownCap_ge w _ _ _) (grownCap_le_maxLen w _ _ _ (by simp only [maxLen];omega)) (by rw [size_zeroCells,hzs])
    exact h5
   ·subst hv
    by_cases hroom:ls.length+ls2.length<=cap
    ·have hfit:ls.length*ie.size+ls2.flatten.length<=cur.size:=by rw [hl2,hcs,← Nat.add_mul];exact Nat.mul_le_mul_right _ hroom
     have hrun:=run_append_room (P:=P) w t ty el ie ht hie g ls.length cap cur hg ⟨b2,o2,none⟩ ls2.length c2 _ hl2 hnews h1' hroom hfit
     refine ⟨_,_,hrun,?_⟩
     refine hs.change i (b:=g) hi (by simp) rfl rfl rfl (fun c hc=>setRow_other w g c _ hc) ?_
     rintro S' ⟨_,hown',hSg'⟩
     refine ⟨hSg' g rfl,⟨hall,⟨by rw [hlen],.inr ⟨g,cap,_,by rw [QQ7],Nat.zero_le _,setRow_heap w g cur _ el _ hg,by rw [QQ7];exact hroom,hcm,?_,?_⟩⟩,fun g' hg'=>by cases hg';exact hSg' g rfl⟩⟩
     ·simp only [List.size_toArray,QQ7,List.length_take,List.length_drop,QQ9]
      omega
     ·rw [htake,← hlen,List.flatten_append]
      exact List.take_left
    ·have holds:∀ j u,ls.flatten[j]?=some u->w.cell? ((⟨g,0,none⟩:Addr).add j)=some u:=hown.cells (g:=g) rfl
     have hrun:=run_append_grow (P:=P) w t ty el ie z ht hie hz ⟨g,0,none⟩ ls.length cap _ hown.1 holds ⟨b2,o2,none⟩ ls2.length c2 _ hl2 hnews (by omega) (by omega) (growslice_fits (by omega) hbb)
     refine ⟨_,_,hrun,hs.replace i hi rfl ?_⟩
     have h5:=QfX (w:=w.drew) (xs:=ls.flatten++ls2.flatten) (rest:=Builtin.zeroCells z.cells (grownCap w (ls.length+ls2.length) cap el-(ls.length+ls2.length))) (ls:=ls++ls2) (e:=el) (k:=ie.size) (cap:=grownCap w (ls.length+ls2.length) cap el) hall.1 hall.2 (by simp) (by rw [QQ7];exact grownCap_ge w _ _ _) (grownCap_le_maxLen w _ _ _ (by simp only [maxLen];omega)) (by rw [size_zeroCells,hzs,QQ7])
     rw [QQ7] at h5
     simpa using h5
 obtain ⟨v',w',hrun,hO⟩:=key
 refine QaO (w':=w') ?_ (h v' w' hO)
 rw [BigFrame.execOp_builtin]
 simp only [List.map_toArray,List.map_cons,List.map_nil,hx,hy,BigFrame.builtin_append,Sem.run_bind,hrun,Result.andThen_ok,Sem.run_pure]
theorem QbH {t el k bytes n:Nat} {x y:Operand} {v v2:Value} {ls ls2 ls':List (List Value)} (hE:El P t el k bytes) (hs:Own w0 M w L) (i:Nat) (hi:L[i]?=some (row v ls el k)) (hx:e x=v) (hy:e y=v2) (hr:Rd w v2 k ls2)
  (h1:∀ l∈ls2,∀ u∈l,u.oneCell'=true) (hb:(ls.length+ls2.length)*(bytes+1)<=140737488355328) (hl:ls++ls2=ls') (hn:ls'.length=n) (h:∀ a c w',Own w0 M w' (L.set i (row (.slice a n c) ls' el k))->K (.slice a n c) w') :
  opW P (.call { callee:=.builtin .append,args:=#[x,y],argTypes:=#[t,t] }) ty e w K:=by
 subst hl
 subst hn
 refine Qvl hE hs i hi hx hy hr h1 hb fun v' w' hs'=>?_
 obtain ⟨a,c,rfl⟩:=(hs'.rd i (by rw [List.getElem?_set_self (Qav hi)])).len_eq
 exact h a c w' hs'
def penum (i:Nat):List Value->List (Nat × Value)
 | []=>[]
 | v :: l=>(i,v) :: penum (i+1) l
theorem Qgs:∀ (vs cs:List Value) (o:Nat),o+vs.length<=cs.length->spl cs o vs=cs.take o++vs++cs.drop (o+vs.length)
 | [],cs,o,_=>by simp [spl]
 | v :: vs,cs,o,h=>by
  simp only [List.length_cons] at h
  unfold spl
  rw [Qgs vs (cs.set o v) (o+1) (by simp;omega)]
  have hol:o<cs.length:=by omega
  have h1:(cs.set o v).take (o+1)=cs.take o++[v]:=by
   apply List.ext_getElem?
   intro i
   rw [List.getElem?_take,List.getElem?_set,List.getElem?_append,List.getElem?_take]
   simp only [List.length_take]
   by_cases h3:i<o
   ·simp [h3,show i<o+1 by omega,show o≠i by omega,show i<min o cs.length by omega]
   ·by_cases h4:i=o
    ·subst h4;simp [hol,show min i cs.length=i by omega]
    ·simp [show ¬i<o+1 by omega,show ¬i<min o cs.length by omega]
     omega
  rw [h1,List.drop_set_of_lt (by omega)]
  simp only [List.length_cons,List.append_assoc,List.singleton_append]
  rw [show o+1+vs.length=o+(vs.length+1) by omega]
theorem Qao {cs vs:List Value} (h:vs.length=cs.length):spl cs 0 vs=vs:=by
 rw [Qgs _ _ _ (by omega)]
 simp [h]
theorem QjF {k:Nat}:∀ (vals:List Value) (i:Nat) (cs:List Value),(∀ v∈vals,v.cells.toList.length=k)->(i+vals.length)*k<=cs.length ->
  Instr.fill (fun i=>some (i*k,k)) cs.toArray (penum i vals)=some (cs.take (i*k)++(vals.map fun v=>v.cells.toList).flatten++cs.drop ((i+vals.length)*k)).toArray
 | [],i,cs,_,_=>by simp [penum,Instr.fill]
 | v :: vals,i,cs,hv,hl=>by
  have hvk:=hv v (by simp)
  have hl':i*k+k<=cs.length:=Nat.le_trans (by rw [← Nat.succ_mul];exact Nat.mul_le_mul_right _ (by simp)) hl
  have hvs:v.cells.size=k:=by simpa using hvk
  unfold penum Instr.fill
  dsimp only
  rw [if_neg (by simp [hvs];omega)]
  have h3:=QeD v.cells.toList cs (i*k) 0
  rw [Nat.add_zero] at h3
  have h4:(v.cells.zipIdx.foldl (fun cs (c,j)=>cs.setIfInBounds (i*k+j) c) cs.toArray)=(spl cs (i*k) v.cells.toList).toArray:=by
   rw [← h3]
   conv=>lhs;rw [← Array.foldl_toList]
   rw [Array.toList_zipIdx]
  rw [h4,QjF vals (i+1) _ (fun v hv'=>hv v (by simp [hv'])) (by rw [Qnh];rw [List.length_cons] at hl;rw [show i+1+vals.length=i+(vals.length+1) by omega];exact hl)]
  have e1:(i+1)*k=i*k+v.cells.toList.length:=by rw [Nat.add_mul,hvk];omega
  rw [Qgs _ _ _ (by rw [hvk];exact hl')]
  have hti:(cs.take (i*k)).length=i*k:=by rw [List.length_take];omega
  congr 2
  rw [show (i+1)*k=(cs.take (i*k)++v.cells.toList).length by rw [QQ7,hti,e1]]
  rw [List.take_left,List.drop_append]
  have hd:(cs.take (i*k)++v.cells.toList).length<=(i+1+vals.length)*k:=by
   rw [QQ7,hti,← e1];exact Nat.mul_le_mul_right _ (by omega)
  rw [List.drop_eq_nil_of_le hd,List.nil_append,List.drop_drop]
  simp only [QQ7,hti,List.map_cons,List.flatten_cons,List.append_assoc,List.length_cons]
  rw [← e1]
  have e2:(i+1)*k+((i+1+vals.length)*k-(i+1)*k)=(i+(vals.length+1))*k:=by
   have:(i+1)*k<=(i+1+vals.length)*k:=Nat.mul_le_mul_right _ (by omega)
   rw [show i+(vals.length+1)=i+1+vals.length by omega];omega
  rw [e2]
theorem Ql2 {t el k bytes n:Nat} {ps:List (Nat × Operand)} {vals:List Value} {ls:List (List Value)} (hE:El P t el k bytes) (hv:ps.map (fun (p:Nat × Operand)=>(p.1,e p.2))=penum 0 vals) (hls:vals.map (fun v=>v.cells.toList)=ls) (hn:vals.length=n)
  (hk:∀ l∈ls,l.length=k) (h1:∀ l∈ls,∀ u∈l,u.oneCell'=true) (hm:n*k<=16777216) (hs:Own w0 M w L)
  (h:∀ b w',Own w0 M w' (L++[row (.slice (some ⟨b,0,none⟩) n n) ls el k])->K (.slice (some ⟨b,0,none⟩) n n) w'):opW P (.buildSlice t n ps.toArray) ty e w K:=by
 obtain ⟨ht,ie,z,hie,hz,rfl,rfl,hzs,hk0⟩:=hE
 subst hls
 have hvk:∀ v∈vals,v.cells.toList.length=ie.size:=fun v hv=>hk _ (List.mem_map.2 ⟨v,hv,rfl⟩)
 have hlsn:(vals.map fun v=>v.cells.toList).length=n:=by simpa using hn
 have hsz:∀ c:List Value,c.length=n*ie.size->Instr.fill (fun i=>some (i*ie.size,ie.size)) c.toArray (penum 0 vals)=some (vals.map fun v=>v.cells.toList).flatten.toArray:=by
  intro c hc
  rw [QjF vals 0 c hvk (by rw [Nat.zero_add,hn];omega)]
  simp [hn,← hc]
 have hrun:(Instr.buildSlice t n (ps.toArray.map fun (i,x)=>(i,e x))).run P w = .ok (.slice (some ⟨w.heap.size,0,none⟩) n n) (w.alloc (.cells (vals.map fun v=>v.cells.toList).flatten.toArray el)):=by
  have hp:(ps.toArray.map fun (i,x)=>(i,e x)).toList=penum 0 vals:=by rw [← hv];simp
  by_cases hp0:n*ie.size=0
  ·have hn0:n=0:=by
    rcases Nat.mul_eq_zero.1 hp0 with h|h
    ·exact h
    ·omega
   subst hn0
   have hv0:vals=[]:=List.eq_nil_of_length_eq_zero hn
   subst hv0
   have hps:ps=[]:=by simpa [penum] using hv
   subst hps
   simp [Instr.buildSlice,run_underlying ht,sizeOf,typeInfo,hie,Instr.fill,newRow]
   rw [show (Array.map (fun _:Nat=>(default:Value)) (Array.range 0)) = #[] from Array.eq_empty_of_size_eq_zero (by simp)]
  ·have hc:((Array.range (n*ie.size)).map (z.cells[·%z.cells.size]!)).toList.length=n*ie.size:=by simp
   have hf:=hsz _ hc
   simp only [Array.toArray_toList] at hf
   exact run_buildSlice w t el n _ _ ie z ht hie hz (by omega) hp0 (by rw [hp];exact hf)
 refine QaO (w':=w.alloc (.cells (vals.map fun v=>v.cells.toList).flatten.toArray el)) ?_ (h w.heap.size _ (hs.new _ _ ?_))
 ·simp only [execOp,Sem.run_bind,hrun,Result.andThen_ok,Sem.run_pure]
 ·have h5:=QfX (w:=w) (xs:=(vals.map fun v=>v.cells.toList).flatten) (rest:=#[]) (ls:=vals.map fun v=>v.cells.toList) (e:=el) (k:=ie.size) (cap:=n) hk h1 rfl (by omega) (by simp only [maxLen];have:n<=n*ie.size:=Nat.le_mul_of_pos_right _ hk0;omega) (by simp [hlsn])
  rw [hlsn] at h5
  simpa using h5
end
def gd {α:Type} [Inhabited α] (l:List α) (i:Nat):α:=l.getD i default
theorem QcN {α:Type} [Inhabited α] {enc:α->List Value} {l:List α} {i:Nat} (h:i<l.length):(l.map enc)[i]?=some (enc (gd l i)):=by
 simp [gd,h]
theorem Quy {α:Type} [Inhabited α] {l:List α} {i:Nat} (h:i<l.length):l[i]?=some (gd l i):=by
 simp [gd,h]
theorem Qcw {α:Type} [Inhabited α] {l:List α} {i:Nat} (h:i<l.length):gd l i∈l:=List.mem_of_getElem? (Quy h)
theorem QaV {α:Type} {enc:α->List Value} (he:∀ x,∀ v∈enc x,v.oneCell'=true) (l:List α):∀ m∈l.map enc,∀ u∈m,u.oneCell'=true:=by
 intro m hm
 obtain ⟨x,_,rfl⟩:=List.mem_map.1 hm
 exact he x
theorem Qb3 {α:Type} {enc:α->List Value} {k:Nat} (he:∀ x,(enc x).length=k) (l:List α):∀ m∈l.map enc,m.length=k:=by
 intro m hm
 obtain ⟨x,_,rfl⟩:=List.mem_map.1 hm
 exact he x
instance:Inhabited Dot:=⟨⟨0,0⟩⟩
def ic (k:IntKind) (x:Int):List Value:=[.int k x]
theorem Qbj (k:IntKind) (x:Int):∀ v∈ic k x,v.oneCell'=true:=by intro v hv;simp [ic] at hv;subst hv;rfl
def bc (b:Bool):List Value:=[.bool b]
def dv (d:Dot):Value:=.agg (dc d).toArray
end Go.Vx
namespace Go.Vx
open Go.RowKit
def sla (a:Option Addr) (l m k:Nat):Option Addr:=if m=l then a else a.map (·.add (l*k))
theorem Rd.sub {w:World} {a:Option Addr} {n c k:Nat} {ls:List (List Value)} (h:Rd w (.slice a n c) k ls) (lo hi m:Nat) (h1:lo<=hi) (h2:hi<=ls.length) (h3:hi<=m) (h4:m<=c) (n':Nat) (hn:n'=hi-lo):Rd w (.slice (sla a lo m k) n' (m-lo)) k ((ls.drop lo).take (hi-lo)):=by
 subst hn
 have hlen:((ls.drop lo).take (hi-lo)).length=hi-lo:=by rw [List.length_take,List.length_drop];omega
 have hsm:=h.small
 refine ⟨fun l hl=>h.len l (List.mem_of_mem_drop (List.mem_of_mem_take hl)),by omega,?_,fun i j l u hi' hj=>?_,by rw [hlen];show hi-lo<=m-lo;omega⟩
 ·rw [hlen]
  rcases h.shape with ⟨hv,hls⟩|⟨b,o,c',hv⟩
  ·subst hls
   simp only [List.length_nil] at h2
   have:hi=0:=by omega
   have:lo=0:=by omega
   subst hi;subst lo
   cases hv
   have hm:m=0:=by omega
   left;subst hm;exact ⟨rfl,by simp⟩
  ·cases hv
   by_cases hm:m=lo
   ·exact .inr ⟨b,o,m-lo,by unfold sla;rw [if_pos hm]⟩
   ·exact .inr ⟨b,o+lo*k,m-lo,by unfold sla;rw [if_neg hm];simp only [Option.map_some,QaR]⟩
 ·have hil:=Qav hi'
  rw [hlen] at hil
  rw [List.getElem?_take,if_pos hil,List.getElem?_drop] at hi'
  rcases h.shape with ⟨hv,hls⟩|⟨b,o,c',hv⟩
  ·subst hls;simp at hi'
  ·cases hv
   have hm:¬m=lo:=by omega
   have hc:=h.cell (lo+i) j l u hi' hj
   unfold sla
   rw [if_neg hm]
   simp only [Option.map_some,QaR]
   show w.cell? ⟨b,o+lo*k+i*k+j,none⟩=some u
   have e:o+(lo+i)*k+j=o+lo*k+i*k+j:=by rw [Nat.add_mul];omega
   rw [← e];exact hc
theorem Rd.subM {α:Type} {enc:α->List Value} {w:World} {a:Option Addr} {n c k:Nat} {l:List α} (h:Rd w (.slice a n c) k (l.map enc)) (lo hi m:Nat) (h1:lo<=hi) (h2:hi<=l.length) (h3:hi<=m) (h4:m<=c) (n':Nat) (hn:n'=hi-lo):Rd w (.slice (sla a lo m k) n' (m-lo)) k (((l.drop lo).take (hi-lo)).map enc):=by
 rw [List.map_take,List.map_drop]
 exact h.sub lo hi m h1 (by rw [QQ6];exact h2) h3 h4 n' hn
section
variable {P:Program} {ty:TypeId} {e:Operand->Value} {w:World} {K:Value->World->Prop}
theorem Qkk {t el k:Nat} {x:Operand} {lo hi mx:Option Operand} {a:Option Addr} {n c l h m n':Nat} {ls:List (List Value)} (ht:P.underlying t=some (.slice el)) (hk:Sz P el k) (hr:Rd w (.slice a n c) k ls) (hx:e x = .slice a n c)
  (hlo:(lo=none/\l=0)∨∃ y j,lo=some y/\e y = .int j (l:Int)) (hhi:(hi=none/\h=n)∨∃ y j,hi=some y/\e y = .int j (h:Int)) (hmx:(mx=none/\m=c)∨((∃ y,hi=some y)/\∃ y j,mx=some y/\e y = .int j (m:Int)))
  (h1:l<=h) (h2:h<=n) (h3:h<=m) (h4:m<=c) (hn:n'=h-l) (hK:K (.slice (sla a l m k) n' (m-l)) w):opW P (.slice t x lo hi mx) ty e w K:=by
 subst hn
 have hel:P.elem t=el:=by simp [Program.elem,ht]
 have ht':P.underlying t=some (.slice (P.elem t)):=by rw [hel];exact ht
 have hnc:n<=c:=by
  have:=hr.room
  rcases hr.shape with ⟨hv,_⟩|⟨b,o,c',hv⟩
  ·cases hv;exact Nat.le_refl _
  ·cases hv;exact this
 have key:(Instr.slice t (.slice a n c) (lo.map e) (hi.map e) (mx.map e)).run P w = .ok (.slice (sla a l m k) (h-l) (m-l)) w:=by
  have fin:∀ l' h' m',l'=l->h'=h->m'=m->((sizeOf (P.elem t)).run P w).andThen (fun s w=>.ok (sliced a l' h' m' s) w)=Result.ok (.slice (sla a l m k) (h-l) (m-l)) w:=by
   intro l' h' m' e1 e2 e3
   subst e1;subst e2;subst e3
   rw [hel,hk w];rfl
  rcases hlo with ⟨rfl,rfl⟩|⟨yl,jl,rfl,hyl⟩<;>rcases hhi with ⟨rfl,rfl⟩|⟨yh,jh,rfl,hyh⟩<;>rcases hmx with ⟨rfl,rfl⟩|⟨⟨y0,hy0⟩,ym,jm,rfl,hym⟩
  ·rw [show (none:Option Operand).map e=none from rfl,run_slice_all w t a _ _ ht'];exact fin _ _ _ rfl rfl rfl
  ·cases hy0
  ·simp only [Option.map_some,Option.map_none,hyh];rw [run_slice_h w t a _ _ ht' _ _ (by omega) (by omega)];exact fin _ _ _ rfl (by omega) rfl
  ·simp only [Option.map_some,Option.map_none,hyh,hym];rw [run_slice_hm w t a _ _ ht' _ _ _ _ (by omega) (by omega) (by omega)];exact fin _ _ _ rfl (by omega) (by omega)
  ·simp only [Option.map_some,Option.map_none,hyl];rw [run_slice_l w t a _ _ ht' _ _ (by omega) (by omega)];exact fin _ _ _ (by omega) rfl rfl
  ·cases hy0
  ·simp only [Option.map_some,Option.map_none,hyl,hyh];rw [run_slice_lh w t a _ _ ht' _ _ _ _ (by omega) (by omega) (by omega)];exact fin _ _ _ (by omega) (by omega) rfl
  ·simp only [Option.map_some,hyl,hyh,hym];rw [run_slice_lhm w t a _ _ ht' _ _ _ _ _ _ (by omega) (by omega) (by omega) (by omega)];exact fin _ _ _ (by omega) (by omega) (by omega)
 refine QaO (w':=w) ?_ hK
 have hat:(Instr.sliceAt t (.slice a n c) (lo.map e) (hi.map e) (mx.map e)).run P w = .ok (.slice (sla a l m k) (h-l) (m-l)) w:=by rw [run_sliceAt_slice w t _ _ _ _ ht'];exact key
 simp only [execOp,hx,Sem.run_bind,hat,Result.andThen_ok,Sem.run_pure]
end
end Go.Vx
namespace Go.Vx
open Go.RowKit
section
variable {κ ν:Type} [DecidableEq κ]
def lfind (k:κ):List (κ × ν)->Nat->Option (Nat × ν)
 | [],_=>none
 | (a,b) :: l,i=>if k=a then some (i,b) else lfind k l (i+1)
def mget (k:κ):List (κ × ν)->Option ν
 | []=>none
 | (a,b) :: l=>if k=a then some b else mget k l
def mput (k:κ) (v:ν):List (κ × ν)->List (κ × ν)
 | []=>[(k,v)]
 | (a,b) :: l=>if k=a then (k,v) :: l else (a,b) :: mput k v l
def mdel (k:κ):List (κ × ν)->List (κ × ν)
 | []=>[]
 | (a,b) :: l=>if k=a then l else (a,b) :: mdel k l
end
structure KeyOk (P:Program) (kt:TypeId) {κ:Type} [DecidableEq κ] (enc:κ->Value):Prop where
 chk:∀ b k w,(Instr.checkKey b 10000 kt (enc k)).run P w = .ok () w
 find:∀ (k:κ) (ks:List κ) (es:List MapEntry) w,es.map (·.key)=ks.map enc->(Instr.findKey kt (enc k) es).run P w = .ok ((lfind k (ks.zip (es.map (·.val))) 0)) w
 bits:∀ k,Instr.sameBits 10000 (enc k) (enc k)=true
theorem Qei {P:Program} {kt:TypeId} {κ:Type} [DecidableEq κ] {enc:κ->Value} (heq:∀ a b w,(Op.equal kt (enc a) (enc b)).run P w = .ok (decide (a=b)) w) (k:κ) :
  ∀ (ks:List κ) (es:List MapEntry) (i:Nat) w,es.map (·.key)=ks.map enc->(Instr.findAsking kt (enc k) es i).run P w = .ok (lfind k (ks.zip (es.map (·.val))) i) w
 | [],es,i,w,h=>by
  have:es=[]:=by simpa using h
  subst this
  simp [Instr.findAsking,lfind]
 | a :: ks,[],i,w,h=>by simp at h
 | a :: ks,e :: es,i,w,h=>by
  simp only [List.map_cons,List.cons.injEq] at h
  simp only [Instr.findAsking,Sem.run_bind,h.1,heq,Result.andThen_ok,List.map_cons,List.zip_cons_cons,lfind]
  by_cases hk:k=a
  ·simp [hk]
  ·simp only [hk,decide_false,Bool.false_eq_true,if_false]
   exact Qei heq k ks es (i+1) w h.2
theorem Qmq {P:Program} {kt D:Nat} {fs:Array Field} {κ:Type} [DecidableEq κ] {enc:κ->List Value} (ht:P.underlying kt=some (.struct fs)) (hD:Nat.ble D 10000=true)
  (heq:∀ a b,EqF P D kt (.agg (enc a).toArray) (.agg (enc b).toArray) (decide (a=b))) (hc:∀ b k w,(Instr.checkKey b 10000 kt (.agg (enc k).toArray)).run P w = .ok () w) (hb:∀ k,Instr.sameBits 10000 (.agg (enc k).toArray) (.agg (enc k).toArray)=true) :
  KeyOk P kt (fun k=>.agg (enc k).toArray) where
 chk:=hc
 bits:=hb
 find:=fun k ks es w h=>by
  have h1:∀ a b w,(Op.equal kt (.agg (enc a).toArray) (.agg (enc b).toArray)).run P w = .ok (decide (a=b)) w:=fun a b w=>by
   have:=(heq a b).up (QQ8 hD) 0 w
   simpa [Op.equal,Op.maxDepth] using this
  unfold Instr.findKey
  simp only [Sem.run_bind,run_underlying ht,Result.andThen_ok]
  cases es with
  | nil =>
   have:ks=[]:=by simpa using h.symm
   subst this
   simp [Instr.findNow,lfind]
  | cons e es =>
   have:Instr.findNow (.struct fs) (.agg (enc k).toArray) (e :: es) 0=none:=by
    unfold Instr.findNow
    have:Instr.sameNow (.struct fs) (.agg (enc k).toArray) e.key=none:=rfl
    rw [this]
   rw [this]
   exact Qei (enc:=fun k=>.agg (enc k).toArray) h1 k ks (e :: es) 0 w h
structure Ents {κ ν:Type} (ke:κ->Value) (ve:ν->Value) (l:List (κ × ν)) (es:Array MapEntry) (clock:Nat):Prop where
 kv:es.toList.map (fun e=>(e.key,e.val))=l.map (fun p=>(ke p.1,ve p.2))
 inc:es.toList.Pairwise (fun a b=>a.born<b.born)
 old:∀ e∈es.toList,e.born<clock
def Qtf {κ ν:Type} (w:World) (r:Nat) (ke:κ->Value) (ve:ν->Value) (l:List (κ × ν)):Prop:=∃ es clock,w.heap[r]?=some (.map es clock)/\Ents ke ve l es clock
section
variable {κ ν:Type} {ke:κ->Value} {ve:ν->Value} {l:List (κ × ν)} {r:Nat} {w0 w:World} {M:Nat->Prop} {L:List Res}
theorem Qtf.own (h:Qtf w0 r ke ve l) (hs:Own w0 M w L) (hm:¬M r):Qtf w r ke ve l:=by
 obtain ⟨es,clock,h2,h3⟩:=h
 exact ⟨es,clock,(hs.old r (Array.getElem?_eq_some_iff.1 h2).1 hm).trans h2,h3⟩
theorem Ents.keys {es:Array MapEntry} {clock:Nat} (h:Ents ke ve l es clock):es.toList.map (·.key)=(l.map (·.1)).map ke:=by
 have:=congrArg (List.map Prod.fst) h.kv
 simpa [List.map_map,Function.comp_def] using this
theorem Ents.vals {es:Array MapEntry} {clock:Nat} (h:Ents ke ve l es clock):es.toList.map (·.val)=(l.map (·.2)).map ve:=by
 have:=congrArg (List.map Prod.snd) h.kv
 simpa [List.map_map,Function.comp_def] using this
theorem Ents.len {es:Array MapEntry} {clock:Nat} (h:Ents ke ve l es clock):es.size=l.length:=by
 have:=congrArg List.length h.kv
 simpa using this
theorem Ents.nil:Ents ke ve [] #[] 0:=⟨rfl,by simp,by simp⟩
theorem Qi1 [DecidableEq κ] (k:κ):∀ (l:List (κ × ν)) (i:Nat),lfind k ((l.map (·.1)).zip ((l.map (·.2)).map ve)) i=(lfind k l i).map fun p=>(p.1,ve p.2)
 | [],_=>rfl
 | (a,b) :: l,i=>by
  simp only [List.map_cons,List.zip_cons_cons,lfind]
  split
  ·rfl
  ·exact Qi1 k l (i+1)
theorem Ents.find [DecidableEq κ] {P:Program} {kt:Nat} {es:Array MapEntry} {clock:Nat} (h:Ents ke ve l es clock) (hk:KeyOk P kt ke) (k:κ) (w:World):(Instr.findKey kt (ke k) es.toList).run P w = .ok ((lfind k l 0).map fun p=>(p.1,ve p.2)) w:=by
 rw [hk.find k (l.map (·.1)) es.toList w h.keys,h.vals,Qi1]
theorem Ents.push {es:Array MapEntry} {clock:Nat} (h:Ents ke ve l es clock) (k:κ) (v:ν):Ents ke ve (l++[(k,v)]) (es.push { key:=ke k,val:=ve v,born:=clock }) (clock+1):=by
 refine ⟨by simp [h.kv],?_,?_⟩
 ·rw [Array.toList_push,List.pairwise_append]
  exact ⟨h.inc,by simp,fun a ha b hb=>by simp at hb;subst hb;exact h.old a ha⟩
 ·intro e he
  rw [Array.toList_push,List.mem_append] at he
  rcases he with he|he
  ·have:=h.old e he;omega
  ·simp at he;subst he;simp
theorem Ents.erase {es:Array MapEntry} {clock:Nat} (h:Ents ke ve l es clock) (i:Nat):Ents ke ve (l.eraseIdx i) (es.eraseIdxIfInBounds i) clock:=by
 have e1:(es.eraseIdxIfInBounds i).toList=es.toList.eraseIdx i:=by
  unfold Array.eraseIdxIfInBounds
  split
  ·simp
  ·rename_i hi
   rw [List.eraseIdx_of_length_le (by simpa using hi)]
 refine ⟨?_,?_,?_⟩
 ·rw [e1]
  have he:∀ {α β:Type} (f:α->β) (m:List α) (j:Nat),(m.eraseIdx j).map f=(m.map f).eraseIdx j:=by
   intro α β f m
   induction m with
   | nil=>intro j;simp
   | cons a m ih=>intro j;cases j<;>simp [ih]
  rw [he,h.kv,he]
 ·rw [e1];exact h.inc.sublist (List.eraseIdx_sublist _ _)
 ·intro e he
  rw [e1] at he
  exact h.old e ((List.eraseIdx_sublist _ _).subset he)
end
open Go.ChangeMaps (setBlock)
theorem Qij (w:World) (r:Nat) (o:Obj):(setBlock w r o).heap.size=w.heap.size:=by simp [setBlock]
theorem QjW {w:World} {r:Nat} {o0:Obj} (hr:w.heap[r]?=some o0) (o:Obj):(setBlock w r o).heap[r]?=some o:=by
 have:=(Array.getElem?_eq_some_iff.1 hr).1
 simp [setBlock,this]
theorem Qkh (w:World) (r c:Nat) (o:Obj) (h:c≠r):(setBlock w r o).heap[c]?=w.heap[c]?:=by
 simp only [setBlock]
 rw [Array.getElem?_setIfInBounds_ne (fun e=>h e.symm)]
section
variable {P:Program} {ty:TypeId} {e:Operand->Value} {w:World} {K:Value->World->Prop} {w0:World} {M:Nat->Prop} {L:List Res}
variable {κ ν:Type} [DecidableEq κ] {ke:κ->Value} {ve:ν->Value} {l:List (κ × ν)} {r kt el t:Nat}
def left (es:Array MapEntry) (seen:Array Nat):List MapEntry:=es.toList.filter fun e=>!seen.contains e.born
end
end Go.Vx
namespace Go.Vx
open Go.RowKit
theorem QmC {P:Program} {kt:Nat} {f1 f2:Field} {k1 k2:IntKind} (ht:P.underlying kt=some (.struct #[f1,f2])) (h1:f1.name≠"_") (h2:f2.name≠"_") (o1:f1.offset=0) (o2:f2.offset=1)
  (s1:T1 P f1.type) (s2:T1 P f2.type) (u1:Ud P f1.type (.int k1)) (u2:Ud P f2.type (.int k2))
  (heq:∀ a b,EqF P 2 kt (.agg (dc a).toArray) (.agg (dc b).toArray) (decide (a=b))):KeyOk P kt dv:=by
 refine Qmq (D:=2) (enc:=dc) ht rfl heq ?_ ?_
 ·intro b k w
  show (Instr.checkKey b (9998+1+1) kt _).run P w=_
  generalize 9998=n
  have e1:∀ (t:Nat) (kk:IntKind) (x:Int),Ud P t (.int kk)->(Instr.checkKey b (n+1) t (.int kk x)).run P w = .ok () w:=by
   intro t kk x hu
   simp only [Instr.checkKey,Sem.run_bind,hu w,Result.andThen_ok,Sem.run_pure]
  have e1':∀ (t:Nat) (kk kx:IntKind) (x:Int),Ud P t (.int kk)->(Instr.checkKey b (n+1) t (.int kx x)).run P w = .ok () w:=by
   intro t kk kx x hu
   simp only [Instr.checkKey,Sem.run_bind,hu w,Result.andThen_ok,Sem.run_pure]
  have p1:(part f1.type (dc k).toArray f1.offset).run P w = .ok (.int .u8 k.rep) w:=by rw [o1];exact QaQ s1 rfl w
  have p2:(part f2.type (dc k).toArray f2.offset).run P w = .ok (.int .u32 k.seq) w:=by rw [o2];exact QaQ s2 rfl w
  unfold Instr.checkKey
  simp only [Sem.run_bind,run_underlying ht,Result.andThen_ok]
  rw [← Array.forIn_toList]
  simp only [List.forIn_cons,List.forIn_nil,ne_eq,h1,h2,not_false_eq_true,if_true,Sem.run_bind,p1,p2,Result.andThen_ok,e1' _ _ _ _ u1,e1' _ _ _ _ u2,Sem.run_pure]
 ·intro k
  show Instr.sameBits (9999+1) _ _=true
  generalize 9999=n
  simp [Instr.sameBits,dc]
def star (L:List Res):Res :=
 ⟨fun w S=>∃ T:Nat->Nat->Prop,(∀ k (R:Res),L[k]?=some R->R.holds w (T k))/\(∀ k k' b,T k b->T k' b->k=k')/\∀ b,S b↔∃ k,k<L.length/\T k b,by
  rintro w w' S hw ⟨T,h1,h2,h3⟩
  refine ⟨T,fun k R hk=>R.loc w w' _ (fun b hb=>hw b ((h3 b).2 ⟨k,Qav hk,hb⟩)) (h1 k R hk),h2,h3⟩⟩
def exR {α:Type} (f:α->Res):Res:=⟨fun w S=>∃ a,(f a).holds w S,fun w w' S hw ⟨a,h⟩=>⟨a,(f a).loc w w' S hw h⟩⟩
section
variable {w0 w:World} {M:Nat->Prop} {L:List Res}
theorem Own.open {S:Nat->Prop} (h:(star L).holds w S) (hlt:∀ b,S b->b<w.heap.size):Own w S w L:=by
 obtain ⟨T,h1,h2,h3⟩:=h
 refine ⟨rfl,⟨rfl,Nat.le_refl _⟩,rfl,Nat.le_refl _,fun _ _ _=>rfl,fun k b=>k<L.length/\T k b,fun k R hk=>?_,fun k b hb=>hlt b ((h3 b).2 ⟨k,hb⟩),fun k k' b hb hb'=>h2 k k' b hb.2 hb'.2,fun k b hb _=>(h3 b).2 ⟨k,hb⟩⟩
 have hl:=Qav hk
 have e:(fun b=>k<L.length/\T k b)=T k:=by funext b;simp [hl]
 show R.holds w (fun b=>k<L.length/\T k b)
 rw [e]
 exact h1 k R hk
theorem Own.shut (h:Own w0 M w L):Own w0 M w [star L]:=by
 obtain ⟨a,b,c,d,e,S,f,g,i,j⟩:=h
 refine ⟨a,b,c,d,e,fun k b=>k=0/\∃ k',k'<L.length/\S k' b,fun k R hk=>?_,fun k b ⟨_,k',_,hb⟩=>g k' b hb,fun k k' b hb hb'=>hb.1.trans hb'.1.symm,fun k b ⟨_,k',_,hb⟩ hlt=>j k' b hb hlt⟩
 cases k with
 | succ k=>simp at hk
 | zero =>
  simp at hk
  subst hk
  exact ⟨S,f,i,fun b=>by simp⟩
end
theorem Own.lent {R:Res} {w:World} {S:Nat->Prop} (h:R.holds w S) (hlt:∀ b,S b->b<w.heap.size):Own w S w [R]:=Own.start1 h hlt
theorem Own.split {w0 w:World} {M:Nat->Prop} {L:List Res} (h:Own w0 M w L) (i:Nat) {R:Res} {Rs:List Res} (hi:L[i]?=some (star (R :: Rs))):Own w0 M w (L.set i R++Rs):=by
 obtain ⟨S,hS,hlt,back⟩:=h.lend i hi
 exact back w R Rs (Own.open hS hlt)
theorem Own.join {w0 w:World} {M:Nat->Prop} {L:List Res} (h:Own w0 M w L) (i j:Nat) (hij:i≠j) {R Q:Res} (hi:L[i]?=some R) (hj:L[j]?=some Q):Own w0 M w ((L.set j emp).set i (star [R,Q])):=by
 obtain ⟨a,b,c,d,e,S,f,g,i',j'⟩:=h
 refine ⟨a,b,c,d,e,fun k b=>if k=i then S i b∨S j b else if k=j then False else S k b,fun k T hk=>?_,fun k b hb=>?_,fun k k' b hb hb'=>?_,fun k b hb hlt=>?_⟩
 ·rw [List.getElem?_set] at hk
  by_cases hki:i=k
  ·subst hki
   have hil:=Qav hi
   simp [hil] at hk
   subst hk
   show (star [R,Q]).holds w (fun b=>if i=i then S i b∨S j b else if i=j then False else S i b)
   simp only [if_true]
   refine ⟨fun k=>if k=0 then S i else if k=1 then S j else fun _=>False,fun k T hk=>?_,fun k k' b hb hb'=>?_,fun b=>?_⟩
   ·match k with
    | 0=>simp at hk;subst hk;exact f i _ hi
    | 1=>simp at hk;subst hk;exact f j _ hj
    | k+2=>simp at hk
   ·match k,k' with
    | 0,0=>rfl
    | 1,1=>rfl
    | 0,1=>exact absurd (i' i j b hb hb') hij
    | 1,0=>exact absurd (i' i j b hb' hb) hij
    | k+2,_=>simp at hb
    | 0,k+2=>simp at hb'
    | 1,k+2=>simp at hb'
   ·constructor
    ·rintro (h|h)
     ·exact ⟨0,by simp,by simpa using h⟩
     ·exact ⟨1,by simp,by simpa using h⟩
    ·rintro ⟨k,hk,h⟩
     match k with
     | 0=>exact .inl (by simpa using h)
     | 1=>exact .inr (by simpa using h)
     | k+2=>simp at h
  ·rw [if_neg hki,List.getElem?_set] at hk
   have hki':¬k=i:=fun e=>hki e.symm
   show T.holds w (fun b=>if k=i then S i b∨S j b else if k=j then False else S k b)
   simp only [if_neg hki']
   by_cases hkj:j=k
   ·subst hkj
    simp [Qav hj] at hk
    subst hk
    trivial
   ·rw [if_neg hkj] at hk
    have hkj':¬k=j:=fun e=>hkj e.symm
    simp only [if_neg hkj']
    exact f k T hk
 ·dsimp only at hb
  split at hb
  ·rcases hb with h|h
   ·exact g _ _ h
   ·exact g _ _ h
  ·split at hb
   ·exact hb.elim
   ·exact g _ _ hb
 ·dsimp only at hb hb'
  split at hb<;>split at hb'
  ·omega
  ·split at hb'
   ·exact hb'.elim
   ·rcases hb with h|h
    ·have:=i' _ _ _ h hb';omega
    ·have:=i' _ _ _ h hb';omega
  ·split at hb
   ·exact hb.elim
   ·rcases hb' with h|h
    ·have:=i' _ _ _ h hb;omega
    ·have:=i' _ _ _ h hb;omega
  ·split at hb
   ·exact hb.elim
   ·split at hb'
    ·exact hb'.elim
    ·exact i' _ _ _ hb hb'
 ·dsimp only at hb
  split at hb
  ·rcases hb with h|h
   ·exact j' _ _ h hlt
   ·exact j' _ _ h hlt
  ·split at hb
   ·exact hb.elim
   ·exact j' _ _ hb hlt
section
variable {P:Program} {ty:TypeId} {e:Operand->Value} {w:World} {K:Value->World->Prop} {w0:World} {M:Nat->Prop} {L:List Res}
theorem Qwz {f:FuncId} {x:Operand} {xs:List Operand} {vs cs:List Value} {ats:Array TypeId} (hf:En P f) (hx:e x = .func (.func f) #[] cs.toArray) (hv:xs.map e=vs) (h:Calls P f (vs++cs).toArray w fun r w'=>∃ v,r = .returned v/\K v w') :
  opW P (.call { callee:=.value x,args:=xs.toArray,argTypes:=ats }) ty e w K:=by
 refine Qjr (f:=f) (args:=(vs++cs).toArray) ?_ h
 have hv':xs.toArray.map e=vs.toArray:=by rw [List.map_toArray,hv]
 have hf':=hf (vs++cs).toArray w
 simp only [execOp,resolve,hv',hx,Deferred.ofValue,Sem.run_bind,Sem.run_pure,Result.andThen_ok,invoke,List.append_toArray,List.nil_append,hf']
end
end Go.Vx
namespace Go.Vx
open Go.RowKit
def Qa8 (w:World) (b:Nat) (cs:List Value):Prop:=∀ j u,cs[j]?=some u->w.cell? ⟨b,j,none⟩=some u
section
variable {P:Program} {ty:TypeId} {e:Operand->Value} {w:World} {K:Value->World->Prop} {w0:World} {M:Nat->Prop} {L:List Res}
theorem Qa8.own {b:Nat} {cs:List Value} (h:Qa8 w0 b cs) (hs:Own w0 M w L) (hm:¬M b):Qa8 w b cs:=fun j u hj=>by
 have hc:=h j u hj
 rw [hs.cell (p:=⟨b,j,none⟩) (World.block_lt_of_cell? _ _ hc) hm];exact hc
theorem Qa8.own' {b:Nat} {cs:List Value} (h:Qa8 w0 b cs) (hs:Own w0 no w L):Qa8 w b cs:=h.own hs (fun h=>h)
theorem Qtf.own' {κ ν:Type} {ke:κ->Value} {ve:ν->Value} {l:List (κ × ν)} {r:Nat} (h:Qtf w0 r ke ve l) (hs:Own w0 no w L):Qtf w r ke ve l:=h.own hs (fun h=>h)
theorem Own.cellsf (hs:Own w0 M w L) (i:Nat) {b:Nat} {cs:List Value} {T:TypeId} (hi:L[i]?=some (blk b cs T)):Qa8 w b cs:=fun j u hj=>by
 rw [cell_of_row w b j _ T _ (hs.get_blk i hi)];simpa using hj
theorem Quf {t n:Nat} {x:Operand} {b:Nat} {cs:List Value} {V:Value} (ht:T1 P t) (hc:Qa8 w b cs) (hx:e x = .pointer (some ⟨b,n,none⟩)) (hv:cs[n]?=some V) (h:K V w):opW P (.load t x) ty e w K :=
 Qsk ht (hc n V hv) hx h
end
structure Grp where
 v:Vec
 l:List (Dot × Unit)
end Go.Vx
namespace Go.Vx
open Go.RowKit
abbrev StD:=List Deferred->St
section
variable {κ:Cx} {P:Program} {n:Nat} {N R:StD} {J:Env} {w:World}
theorem Qkf (n:Nat) (J:Env) (p:Nat) (v:Value):({ tmps:=(Array.ofFn (n:=n) fun i=>J i).setIfInBounds p v,defers:=[] }:Act)=frd n [] (upd J p v):=Qdy n [] J (some p) v
def QgX (fn:FuncId) (n:Nat) (J:Env) (p:Nat) (assign body:Code) (d:Nat):Loop:={ state:=.ready,pending:=none,fn,tmps:=Array.ofFn (n:=n) fun i=>J i,params:=#[p],assign,body,defers:=d }
end
end Go.Vx
namespace Go.Vx
open Go.RowKit
theorem Own.at {w0 w:World} {M:Nat->Prop} {L:List Res} (hs:Own w0 M w L) {r:Nat} {o:Obj} (h:w0.heap[r]?=some o) (hm:¬M r):w.heap[r]?=some o :=
 (hs.old r (Array.getElem?_eq_some_iff.1 h).1 hm).trans h
end Go.Vx
namespace Go.Vx
def Qtd (v:Vec) (l:List Dot) (d:Dot):Bool:=decide (d∈l)||QeM v d
end Go.Vx
namespace Go.Vx
def QpE (l:List Dot) (i:Int):Nat->Int->Int
 | 0,n=>n
 | f+1,n=>if ⟨i,n+1⟩∈l then QpE l i f (n+1) else n
def cloAt (l:List Dot) (i n:Int):Int:=QpE l i (1048576-n).toNat n
def cloV (l:List Dot) (v:Vec):Vec:=fun j=>cloAt l (j.val:Int) (v j)
def Dots (l:List Dot):Prop:=∀ d∈l,Qfk d/\QdI d=true
def VOk (v:Vec):Prop:=∀ j,0<=v j/\v j<=1048576
theorem VOk.ok {v:Vec} (h:VOk v):Qbw v:=fun j=>by have:=h j;omega
theorem VOk.at {v:Vec} (h:VOk v) (j:Nat):0<=vat v j/\vat v j<=1048576:=by
 unfold vat;split
 ·exact h _
 ·omega
theorem VOk.set {v:Vec} (h:VOk v) (i:Nat) {x:Int} (h0:0<=x) (h1:x<=1048576):VOk (vset v i x):=by
 intro j;unfold vset;split
 ·exact ⟨h0,h1⟩
 ·exact h j
theorem QnI {l:List Dot} {i n:Int} (h:(⟨i,n+1⟩:Dot) ∉ l):cloAt l i n=n:=by
 unfold cloAt
 cases (1048576-n).toNat with
 | zero=>rfl
 | succ f=>simp [QpE,h]
theorem QlY {l:List Dot} (hl:Dots l) {i n:Int} (h:(⟨i,n+1⟩:Dot)∈l):cloAt l i n=cloAt l i (n+1):=by
 have:=(Qbf (hl _ h).2).2.2
 have e:(1048576-n).toNat=(1048576-(n+1)).toNat+1:=by dsimp only at this;omega
 unfold cloAt
 rw [e]
 simp [QpE,h]
theorem Qo5 (l:List Dot) (v:Vec) (j:Nat) (h:j<16):vat (cloV l v) j=cloAt l (j:Int) (vat v j):=by
 unfold vat cloV;simp [h]
theorem QjZ {u v:Vec} (h:∀ j:Nat,j<16->vat u j=vat v j):u=v:=by
 funext j
 have:=h j.val j.isLt
 simpa [vat] using this
end Go.Vx
namespace Go.Vx
theorem QdL (v:Vec) {j:Nat} (h:16<=j):vat v j=0:=by unfold vat;rw [dif_neg (by omega)]
end Go.Vx
namespace Go.Vx
def stretch (i:Int) (n:Int) (c:Nat):List Dot:=(List.range c).map fun (j:Nat)=>⟨i,n+(j:Int)⟩
end Go.Vx
namespace Go.Vx
def addE (v:Vec) (l:List Dot) (d:Dot):Int:=if QdI d=false then 2 else if Qtd v l d=true then 8 else if vat (cloV l v) d.rep.toNat+256<d.seq then 10 else 0
def Qua (v:Vec) (l:List Dot) (d:Dot):List Dot:=if addE v l d=0 then l++[d] else l
end Go.Vx
namespace Go.Vx
def Qfa (g:Grp) (d:Dot):Bool:=(mget d g.l).isSome||QeM g.v d
end Go.Vx
namespace Go.Vx
structure GOk (g:Grp):Prop where
 v:VOk g.v
 l:Dots (g.l.map (·.1))
 nd:(g.l.map (·.1)).Nodup
section
variable {κ ν:Type} [DecidableEq κ]
theorem QhX {k:κ}:∀ {l:List (κ × ν)},(mget k l).isSome=true->k∈l.map (·.1)
 | [],h=>by cases h
 | (a,b) :: l,h=>by
  unfold mget at h
  split at h
  ·rename_i e;subst e;simp
  ·exact List.mem_cons_of_mem _ (QhX h)
theorem QcE {k:κ}:∀ {l:List (κ × ν)},(mget k l).isSome=decide (k∈l.map (·.1))
 | []=>rfl
 | (a,b) :: l=>by
  unfold mget
  split
  ·rename_i e;subst e;simp
  ·rename_i e;rw [QcE (l:=l)];simp [e]
theorem QlA {k:κ}:∀ {l:List (κ × ν)},(mget k l).isSome=true->(mdel k l).length+1=l.length
 | [],h=>by cases h
 | (a,b) :: l,h=>by
  unfold mget at h;unfold mdel
  split at h
  ·rename_i e;rw [if_pos e];rfl
  ·rename_i e;rw [if_neg e];simp [QlA h]
theorem Qih {k:κ}:∀ {l:List (κ × ν)},(mdel k l).Sublist l
 | []=>List.Sublist.refl _
 | (a,b) :: l=>by
  unfold mdel
  split
  ·exact List.sublist_cons_self _ _
  ·exact Qih.cons_cons _
end
def Qdm (rep:Int) (g:Grp):Grp:=⟨vset g.v rep.toNat (vat g.v rep.toNat+1),mdel ⟨rep,vat g.v rep.toNat+1⟩ g.l⟩
def QbY (rep:Int):Nat->Grp->Grp
 | 0,g=>g
 | f+1,g=>if (mget (⟨rep,vat g.v rep.toNat+1⟩:Dot) g.l).isSome=true then QbY rep f (Qdm rep g) else g
def QkA (rep:Int) (g:Grp):Grp:=QbY rep g.l.length g
theorem Qi4 {rep:Int} {g:Grp} (hg:GOk g) (h:(mget (⟨rep,vat g.v rep.toNat+1⟩:Dot) g.l).isSome=true):GOk (Qdm rep g):=by
 have h1:=(Qbf (hg.l _ (QhX h)).2).2.2
 have h2:=hg.v.at rep.toNat
 dsimp only at h1
 exact ⟨hg.v.set _ (by omega) h1,fun d hd=>hg.l d ((Qih.map _).subset hd),hg.nd.sublist (Qih.map _)⟩
end Go.Vx
namespace Go.Vx
def Qdz (g:Grp) (d:Dot):Int:=if QbX g.v d=2 then 2 else if QbX g.v d=8 then 8 else if QbX g.v d=9 then (if Qfa g d=true then 8 else if vat g.v d.rep.toNat+256<d.seq then 10 else 0) else 0
def QdE (g:Grp) (d:Dot):Grp:=if QbX g.v d=2 then g else if QbX g.v d=8 then g else if QbX g.v d=9 then (if Qfa g d=true then g else if vat g.v d.rep.toNat+256<d.seq then g else ⟨g.v,mput d () g.l⟩) else QkA d.rep ⟨Qcv g.v d,g.l⟩
theorem QnR {v:Vec} {d:Dot} (h:QbX v d=9):QdI d=true:=by
 unfold QbX at h
 split at h
 ·cases h
 ·rename_i h1;simpa using h1
theorem QjR {v:Vec} {d:Dot} (h2:¬QbX v d=2) (h8:¬QbX v d=8) (h9:¬QbX v d=9):QdI d=true/\QeM v d=false/\d.seq=(vat v d.rep.toNat+1)%4294967296:=by
 unfold QbX at h2 h8 h9
 split at h2
 ·exact absurd rfl h2
 ·rename_i h1
  rw [if_neg h1] at h8 h9
  split at h8
  ·exact absurd rfl h8
  ·rename_i h3
   rw [if_neg h3] at h9
   split at h9
   ·rename_i h4;exact ⟨by simpa using h1,by simpa using h3,h4⟩
   ·exact absurd rfl h9
theorem Qgr {g:Grp} {d:Dot} (hg:GOk g) (h2:¬QbX g.v d=2) (h8:¬QbX g.v d=8) (h9:¬QbX g.v d=9):GOk ⟨Qcv g.v d,g.l⟩:=by
 obtain ⟨h1,h3,h4⟩:=QjR h2 h8 h9
 have h5:=Qbf h1
 have h6:=hg.v.at d.rep.toNat
 refine ⟨?_,hg.l,hg.nd⟩
 show VOk (Qcv g.v d)
 unfold Qcv
 rw [if_neg (by simp [h1]),if_neg (by simp [h3]),if_pos h4]
 exact hg.v.set _ (by omega) (by omega)
end Go.Vx
namespace Go.Vx
section
variable {g:Grp} {d:Dot}
theorem Qnv (h:QbX g.v d=2):Qdz g d=QbX g.v d/\QdE g d=g:=by simp [Qdz,QdE,h]
theorem Qox (h:QbX g.v d=8):Qdz g d=QbX g.v d/\QdE g d=g:=by simp [Qdz,QdE,h]
theorem QqB (h:QbX g.v d=9) (h1:Qfa g d=true):Qdz g d=8/\QdE g d=g:=by simp [Qdz,QdE,h,h1]
theorem QoF (h:QbX g.v d=9) (h1:Qfa g d=false) (h2:vat g.v d.rep.toNat+256<d.seq):Qdz g d=10/\QdE g d=g:=by simp [Qdz,QdE,h,h1,h2]
theorem Qrg (h:QbX g.v d=9) (h1:Qfa g d=false) (h2:¬vat g.v d.rep.toNat+256<d.seq):Qdz g d=0/\QdE g d=⟨g.v,mput d () g.l⟩:=by
 unfold Qdz QdE
 rw [if_neg (by omega),if_neg (by omega),if_pos h,if_neg (by simp [h1]),if_neg h2,if_neg (by omega),if_neg (by omega),if_pos h,if_neg (by simp [h1]),if_neg h2]
 exact ⟨rfl,rfl⟩
theorem QqX (h2:¬QbX g.v d=2) (h8:¬QbX g.v d=8) (h9:¬QbX g.v d=9):Qdz g d=0/\QdE g d=QkA d.rep ⟨Qcv g.v d,g.l⟩:=by
 unfold Qdz QdE
 rw [if_neg h2,if_neg h8,if_neg h9,if_neg h2,if_neg h8,if_neg h9]
 exact ⟨rfl,rfl⟩
end
end Go.Vx
namespace Go.Vx
def Qte (x y:Int):Int:=if x<y then -1 else if y<x then 1 else 0
def orI (l:List Int):Int:=(l.find? fun x=>!decide (x=0)).getD 0
def Qu9 (a b:Dot):Int:=orI [Qte a.rep b.rep,Qte a.seq b.seq]
end Go.Vx
namespace Go.Vx
def Qrm (v:Vec):List Dot->List Dot
 | []=>[]
 | d :: l=>stretch d.rep (vat v d.rep.toNat+1) (d.seq-1-vat v d.rep.toNat).toNat++Qrm (vset v d.rep.toNat d.seq) l
end Go.Vx
namespace Go.Vx
theorem Qrz {x y:Dot}:Qu9 x y<0↔x.rep<y.rep∨(x.rep=y.rep/\x.seq<y.seq):=by
 unfold Qu9 orI Qte
 by_cases h1:x.rep<y.rep
 ·simp [h1]
 ·by_cases h2:y.rep<x.rep
  ·simp [h1,h2];omega
  ·have h3:x.rep=y.rep:=by omega
   by_cases h4:x.seq<y.seq
   ·simp [h3,h4]
   ·by_cases h5:y.seq<x.seq
    ·simp [h3,h4,h5]
    ·simp [h3,h4,h5]
def leD (x y:Dot):Bool:=!decide (Qu9 y x<0)
theorem Qft {x y:Dot}:leD x y=true↔x.rep<y.rep∨(x.rep=y.rep/\x.seq<=y.seq):=by
 unfold leD
 simp only [Bool.not_eq_true',decide_eq_false_iff_not,Qrz]
 omega
theorem Qoq (a b c:Dot) (h1:leD a b=true) (h2:leD b c=true):leD a c=true:=by
 rw [Qft] at *;omega
theorem QoH (a b:Dot):(leD a b||leD b a)=true:=by
 rw [Bool.or_eq_true,Qft,Qft];omega
theorem Qqt {a b:Dot} (h1:leD a b=true) (h2:leD b a=true):a=b:=by
 rw [Qft] at *
 cases a;cases b
 simp only [Dot.mk.injEq] at *
 omega
theorem QeA:∀ {l m:List Dot},l.Perm m->l.Pairwise (fun x y=>leD x y=true)->m.Pairwise (fun x y=>leD x y=true)->l=m
 | [],m,h,_,_=>by have:=h.length_eq;simp at this;exact (List.eq_nil_of_length_eq_zero this.symm).symm
 | a :: l,[],h,_,_=>by have:=h.length_eq;simp at this
 | a :: l,b :: m,h,h1,h2=>by
  rw [List.pairwise_cons] at h1 h2
  have hab:a=b:=by
   have ha:a∈b :: m:=h.subset (by simp)
   have hb:b∈a :: l:=h.symm.subset (by simp)
   rcases List.mem_cons.1 ha with e|ha
   ·exact e
   ·rcases List.mem_cons.1 hb with e|hb
    ·exact e.symm
    ·exact Qqt (h1.1 b hb) (h2.1 a ha)
  subst hab
  rw [QeA (List.Perm.cons_inv h) h1.2 h2.2]
def QnZ (l:List Dot):List Dot:=l.mergeSort leD
def QgJ (g:Grp):List Dot:=QnZ (g.l.map (·.1))
def QsT (g:Grp):List Dot:=Qrm g.v (QgJ g)
end Go.Vx
namespace Go.Vx
theorem QgH {rep:Int}:∀ (f:Nat) (g:Grp),GOk g->GOk (QbY rep f g)
 | 0,_,h=>h
 | f+1,g,h=>by
  unfold QbY
  split
  ·rename_i hh;exact QgH f _ (Qi4 h hh)
  ·exact h
theorem QcQ {κ ν:Type} [DecidableEq κ] {k:κ} {v:ν}:∀ {l:List (κ × ν)},(mput k v l).map (·.1)=if k∈l.map (·.1) then l.map (·.1) else l.map (·.1)++[k]
 | []=>rfl
 | (a,b) :: l=>by
  unfold mput
  split
  ·rename_i e;subst e;simp
  ·rename_i e
   simp only [List.map_cons,QcQ (l:=l),List.mem_cons,e,false_or]
   split<;>simp
theorem Qo9 {g:Grp} {d:Dot} (hg:GOk g) (hd:Qfk d):GOk (QdE g d):=by
 unfold QdE
 split
 ·exact hg
 ·split
  ·exact hg
  ·split
   ·rename_i h9
    split
    ·exact hg
    ·split
     ·exact hg
     ·refine ⟨hg.v,?_,?_⟩
      ·show Dots ((mput d () g.l).map (·.1))
       rw [QcQ]
       split
       ·exact hg.l
       ·intro x hx
        rcases List.mem_append.1 hx with h|h
        ·exact hg.l x h
        ·simp at h;subst h;exact ⟨hd,QnR h9⟩
      ·show ((mput d () g.l).map (·.1)).Nodup
       rw [QcQ]
       split
       ·exact hg.nd
       ·rename_i h
        rw [List.nodup_append]
        exact ⟨hg.nd,by simp,fun a ha b hb=>by simp at hb;subst hb;exact fun e=>h (e ▸ ha)⟩
   ·rename_i h2 h8 h9
    exact QgH _ _ (Qgr hg h2 h8 h9)
end Go.Vx
namespace Go.Vx
structure GInv (g:Grp):Prop where
 ok:GOk g
 far:∀ d∈g.l.map (·.1),vat g.v d.rep.toNat+1<d.seq
structure GHalf (rep:Int) (g:Grp):Prop where
 ok:GOk g
 near:∀ d∈g.l.map (·.1),vat g.v d.rep.toNat<d.seq
 far:∀ d∈g.l.map (·.1),d.rep≠rep->vat g.v d.rep.toNat+1<d.seq
theorem QdZ {κ ν:Type} [DecidableEq κ] {k:κ}:∀ {l:List (κ × ν)},(l.map (·.1)).Nodup->∀ x,x∈(mdel k l).map (·.1)↔x∈l.map (·.1)/\x≠k
 | [],_,x=>by simp [mdel]
 | (a,b) :: l,h,x=>by
  rw [List.map_cons,List.nodup_cons] at h
  unfold mdel
  split
  ·rename_i e
   subst e
   simp only [List.map_cons,List.mem_cons]
   constructor
   ·intro hx;exact ⟨.inr hx,fun e=>h.1 (e ▸ hx)⟩
   ·rintro ⟨hx|hx,hne⟩
    ·exact absurd hx hne
    ·exact hx
  ·rename_i e
   simp only [List.map_cons,List.mem_cons,QdZ h.2]
   constructor
   ·rintro (rfl|⟨hx,hne⟩)
    ·exact ⟨.inl rfl,fun e'=>e e'.symm⟩
    ·exact ⟨.inr hx,hne⟩
   ·rintro ⟨hx|hx,hne⟩
    ·exact .inl hx
    ·exact .inr ⟨hx,hne⟩
theorem QdS {a b:Int} (ha:0<=a) (hb:0<=b) (h:a.toNat=b.toNat):a=b:=by omega
theorem Qiy {a b:Dot} (h1:a.rep=b.rep) (h2:a.seq=b.seq):a=b:=by cases a;cases b;simp_all
theorem Qjv {rep:Int} {g:Grp} (h0:0<=rep) (h:GHalf rep g) (hm:(mget (⟨rep,vat g.v rep.toNat+1⟩:Dot) g.l).isSome=true):GHalf rep (Qdm rep g):=by
 refine ⟨Qi4 h.ok hm,fun d hd=>?_,fun d hd hne=>?_⟩
 ·obtain ⟨hd1,hd2⟩:=(QdZ h.ok.nd d).1 hd
  have hok:=(h.ok.l d hd1)
  have hb:=Qbf hok.2
  have hr:=hok.1.1
  show vat (vset g.v rep.toNat (vat g.v rep.toNat+1)) d.rep.toNat<d.seq
  rw [QbP _ _ _ _ (by omega)]
  have hn:=h.near d hd1
  split
  ·rename_i e
   have er:d.rep=rep:=QdS hr.1 h0 e
   rw [e] at hn
   rcases Int.lt_or_le (vat g.v rep.toNat+1) d.seq with h2|h2
   ·exact h2
   ·exact absurd (Qiy er (by show d.seq=vat g.v rep.toNat+1;omega)) hd2
  ·exact hn
 ·obtain ⟨hd1,hd2⟩:=(QdZ h.ok.nd d).1 hd
  have hok:=(h.ok.l d hd1)
  have hb:=Qbf hok.2
  have hr:=hok.1.1
  show vat (vset g.v rep.toNat (vat g.v rep.toNat+1)) d.rep.toNat+1<d.seq
  rw [QbP _ _ _ _ (by omega),if_neg (fun e=>hne (QdS hr.1 h0 e))]
  exact h.far d hd1 hne
theorem Qk7 {rep:Int} {g:Grp} (h:GHalf rep g) (hm:(mget (⟨rep,vat g.v rep.toNat+1⟩:Dot) g.l).isSome=false):GInv g:=by
 refine ⟨h.ok,fun d hd=>?_⟩
 by_cases e:d.rep=rep
 ·have hn:=h.near d hd
  rcases Int.lt_or_le (vat g.v d.rep.toNat+1) d.seq with h2|h2
  ·exact h2
  ·have e2:d=⟨rep,vat g.v rep.toNat+1⟩:=Qiy e (by show d.seq=vat g.v rep.toNat+1;rw [← e];omega)
   rw [QcE] at hm
   exact absurd (e2 ▸ hd) (QQ2 hm)
 ·exact h.far d hd e
theorem Qi3 (v:Vec) (i:Nat) (x:Int) (h:i<16):vsum (vset v i x)=vsum v-vat v i+x:=by
 have key:∀ (l:List Nat),l.Nodup->(∀ j∈l,j<16)->((l.map fun j=>vat (vset v i x) j).sum:Int)=(l.map fun j=>vat v j).sum+(if i∈l then x-vat v i else 0):=by
  intro l
  induction l with
  | nil=>intro _ _;simp
  | cons a l ih =>
   intro hn hl
   rw [List.nodup_cons] at hn
   have ha:=hl a (by simp)
   simp only [List.map_cons,List.sum_cons,ih hn.2 (fun j hj=>hl j (by simp [hj])),QbP _ _ _ _ ha]
   by_cases e:a=i
   ·subst e
    simp [hn.1]
    omega
   ·have:i∈a :: l↔i∈l:=by
     rw [List.mem_cons]
     exact ⟨fun h=>h.resolve_left (fun e'=>e e'.symm),.inr⟩
    simp only [if_neg e,this]
    omega
 have:=key (List.range 16) (List.nodup_range) (fun j hj=>by simpa using hj)
 rw [if_pos (by simpa using h)] at this
 unfold vsum
 omega
theorem QfK {rep:Int} (h0:0<=rep) (h1:rep<16):∀ (f:Nat) (g:Grp),GHalf rep g->g.l.length<=f ->
  GInv (QbY rep f g)/\vsum (QbY rep f g).v+(QbY rep f g).l.length=vsum g.v+g.l.length/\(∀ d,Qfk d->Qfa g d=true->Qfa (QbY rep f g) d=true)/\(∀ j,vat g.v j<=vat (QbY rep f g).v j)
 | 0,g,h,hf=>by
  have hl:g.l=[]:=List.eq_nil_of_length_eq_zero (by omega)
  exact ⟨Qk7 h (by show (mget _ g.l).isSome=false;rw [hl];rfl),rfl,fun _ _ h=>h,fun _=>Int.le_refl _⟩
 | f+1,g,h,hf=>by
  unfold QbY
  split
  ·rename_i hm
   have hlen:=QlA hm
   have hst:=Qjv h0 h hm
   obtain ⟨r1,r2,r3,r4⟩:=QfK h0 h1 f (Qdm rep g) hst (by show (mdel _ _).length<=f;omega)
   have hsum:vsum (Qdm rep g).v=vsum g.v+1:=by
    show vsum (vset g.v rep.toNat (vat g.v rep.toNat+1))=_
    rw [Qi3 _ _ _ (by omega)];omega
   have hl2:(Qdm rep g).l.length+1=g.l.length:=hlen
   have hv:∀ j,vat g.v j<=vat (Qdm rep g).v j:=by
    intro j
    show vat g.v j<=vat (vset g.v rep.toNat (vat g.v rep.toNat+1)) j
    by_cases hj:j<16
    ·rw [QbP _ _ _ _ hj];split
     ·rename_i e;subst e;omega
     ·omega
    ·rw [QdL _ (by omega),QdL _ (by omega)];omega
   refine ⟨r1,by omega,fun d hd hh=>r3 d hd ?_,fun j=>Int.le_trans (hv j) (r4 j)⟩
   unfold Qfa at hh ⊢
   rw [Bool.or_eq_true] at hh ⊢
   rcases hh with hh|hh
   ·rw [QcE] at hh ⊢
    have hk:=QQ1 hh
    by_cases e:d=⟨rep,vat g.v rep.toNat+1⟩
    ·right
     have hb:=(h.ok.l d hk).2
     unfold QeM
     rw [hb]
     subst e
     show decide (vat g.v rep.toNat+1<=vat (vset g.v rep.toNat (vat g.v rep.toNat+1)) rep.toNat)=true
     rw [QbP _ _ _ _ (by omega),if_pos rfl];simp
    ·left
     exact QQ3 ((QdZ h.ok.nd d).2 ⟨hk,e⟩)
   ·right
    unfold QeM at hh ⊢
    rw [Bool.and_eq_true] at hh ⊢
    refine ⟨hh.1,QQ3 ?_⟩
    have:=QQ1 hh.2
    exact Int.le_trans this (hv _)
  ·rename_i hm
   exact ⟨Qk7 h (by simpa using hm),rfl,fun _ _ h=>h,fun _=>Int.le_refl _⟩
theorem Qi7 {κ ν:Type} [DecidableEq κ] {k x:κ} {v:ν} {l:List (κ × ν)}:(mget x (mput k v l)).isSome=(decide (x=k)||(mget x l).isSome):=by
 rw [QcE,QcE,QcQ]
 split
 ·rename_i h
  by_cases e:x=k
  ·subst e;simp [h]
  ·simp [e]
 ·by_cases e:x=k
  ·subst e;simp
  ·simp [e]
structure Grows (g:Grp) (d:Dot) (g':Grp) (e:Int):Prop where
 inv:GInv g'
 sum:vsum g'.v+g'.l.length=vsum g.v+g.l.length+(if e=0 then 1 else 0)
 keep:∀ x,Qfk x->Qfa g x=true->Qfa g' x=true
 le:∀ j,vat g.v j<=vat g'.v j
 same:e≠0->g'=g
 got:e=0->Qfa g' d=true
theorem Qm8 {g:Grp} {d:Dot} (hg:GInv g) (hd:Qfk d):Grows g d (QdE g d) (Qdz g d):=by
 have stay:∀ e:Int,e≠0->Qdz g d=e->QdE g d=g->Grows g d (QdE g d) (Qdz g d):=by
  intro e he hE hG
  rw [hE,hG]
  exact ⟨hg,by rw [if_neg he];omega,fun _ _ h=>h,fun _=>Int.le_refl _,fun _=>rfl,fun h=>absurd h he⟩
 by_cases h2:QbX g.v d=2
 ·exact stay _ (by omega) ((Qnv h2).1.trans h2) (Qnv h2).2
 ·by_cases h8:QbX g.v d=8
  ·exact stay _ (by omega) ((Qox h8).1.trans h8) (Qox h8).2
  ·by_cases h9:QbX g.v d=9
   ·cases hh:Qfa g d with
    | true=>exact stay _ (by omega) (QqB h9 hh).1 (QqB h9 hh).2
    | false =>
     by_cases hf:vat g.v d.rep.toNat+256<d.seq
     ·exact stay _ (by omega) (QoF h9 hh hf).1 (QoF h9 hh hf).2
     ·obtain ⟨hE,hG⟩:=Qrg h9 hh hf
      have hok:=Qo9 hg.ok hd
      rw [hE,hG] at *
      have hb:=QnR h9
      unfold Qfa at hh
      rw [Bool.or_eq_false_iff] at hh
      have hnk:d ∉ g.l.map (·.1):=by rw [QcE] at hh;exact QQ2 hh.1
      have hnb:¬d.seq<=vat g.v d.rep.toNat:=by
       have:=hh.2
       unfold QeM at this
       rw [hb] at this
       simpa using this
      have hne:¬d.seq=(vat g.v d.rep.toNat+1)%4294967296:=by
       intro e
       unfold QbX at h9
       rw [if_neg (by simp [hb]),if_neg (by rw [hh.2];decide),if_pos e] at h9
       cases h9
      have hv:=hg.ok.v.at d.rep.toNat
      refine ⟨⟨hok,fun x hx=>?_⟩,?_,fun x _ hx=>?_,fun _=>Int.le_refl _,fun h=>absurd rfl h,fun _=>?_⟩
      ·have hx':x∈(mput d () g.l).map (·.1):=hx
       rw [QcQ,if_neg hnk,List.mem_append] at hx'
       rcases hx' with hx'|hx'
       ·exact hg.far x hx'
       ·simp at hx';subst hx'
        show vat g.v x.rep.toNat+1<x.seq
        omega
      ·show vsum g.v+(mput d () g.l).length=_
       have:=congrArg List.length (QcQ (k:=d) (v:=()) (l:=g.l))
       rw [if_neg hnk,QQ6,QQ7,QQ6] at this
       rw [if_pos rfl,this]
       simp only [List.length_cons,List.length_nil]
       omega
      ·unfold Qfa at hx ⊢
       rw [Bool.or_eq_true] at hx ⊢
       rcases hx with hx|hx
       ·left;show (mget x (mput d () g.l)).isSome=true;rw [Qi7,hx];simp
       ·exact .inr hx
      ·unfold Qfa
       rw [show (mget d (mput d () g.l)).isSome=true by rw [Qi7];simp];rfl
   ·obtain ⟨hE,hG⟩:=QqX h2 h8 h9
    obtain ⟨hb,hhas,hseq⟩:=QjR h2 h8 h9
    have hbs:=Qbf hb
    have hv:=hg.ok.v.at d.rep.toNat
    have hnv:Qcv g.v d=vset g.v d.rep.toNat (vat g.v d.rep.toNat+1):=by
     unfold Qcv;rw [if_neg (by simp [hb]),if_neg (by simp [hhas]),if_pos hseq]
    have hhalf:GHalf d.rep ⟨Qcv g.v d,g.l⟩:=by
     refine ⟨Qgr hg.ok h2 h8 h9,fun x hx=>?_,fun x hx hne=>?_⟩
     ·have hxo:=hg.ok.l x hx
      have hf:=hg.far x hx
      have hr:=hxo.1.1
      have hxb:=Qbf hxo.2
      show vat (Qcv g.v d) x.rep.toNat<x.seq
      rw [hnv,QbP _ _ _ _ (by omega)]
      split
      ·rename_i e;rw [e] at hf;omega
      ·omega
     ·have hxo:=hg.ok.l x hx
      have hf:=hg.far x hx
      have hr:=hxo.1.1
      have hxb:=Qbf hxo.2
      show vat (Qcv g.v d) x.rep.toNat+1<x.seq
      rw [hnv,QbP _ _ _ _ (by omega),if_neg (fun e=>hne (QdS hr.1 hd.1.1 e))]
      exact hf
    obtain ⟨r1,r2,r3,r4⟩:=QfK hd.1.1 hbs.1 g.l.length ⟨Qcv g.v d,g.l⟩ hhalf (Nat.le_refl _)
    have hmono:∀ j,vat g.v j<=vat (Qcv g.v d) j:=by
     intro j
     rw [hnv]
     by_cases hj:j<16
     ·rw [QbP _ _ _ _ hj];split
      ·rename_i e;subst e;omega
      ·omega
     ·rw [QdL _ (by omega),QdL _ (by omega)];omega
    have hGo:QkA d.rep ⟨Qcv g.v d,g.l⟩=QbY d.rep g.l.length ⟨Qcv g.v d,g.l⟩:=rfl
    rw [hE,hG,hGo]
    refine ⟨r1,?_,fun x hxo hx=>r3 x hxo ?_,fun j=>Int.le_trans (hmono j) (r4 j),fun h=>absurd rfl h,fun _=>r3 d hd ?_⟩
    ·rw [r2,if_pos rfl]
     show vsum (Qcv g.v d)+((g.l.length:Nat):Int)=_
     rw [hnv,Qi3 _ _ _ (by omega)];omega
    ·unfold Qfa at hx ⊢
     rw [Bool.or_eq_true] at hx ⊢
     rcases hx with hx|hx
     ·exact .inl hx
     ·right
      unfold QeM at hx ⊢
      rw [Bool.and_eq_true] at hx ⊢
      exact ⟨hx.1,QQ3 (Int.le_trans (QQ1 hx.2) (hmono _))⟩
    ·unfold Qfa
     rw [Bool.or_eq_true]
     right
     unfold QeM
     rw [hb]
     show decide (d.seq<=vat (Qcv g.v d) d.rep.toNat)=true
     rw [hnv,QbP _ _ _ _ (by omega),if_pos rfl]
     exact QQ3 (by omega)
end Go.Vx
namespace Go.Vx
def QhZ (v:Vec):Nat->Int
 | 0=>0
 | k+1=>QhZ v k+vat v k
theorem Qqr (v:Vec) (k:Nat):QhZ v k=((List.range k).map fun i=>vat v i).sum:=by
 induction k with
 | zero=>rfl
 | succ k ih=>rw [List.range_succ,List.map_append,List.sum_append];simp [QhZ,ih]
theorem Quk (v:Vec):QhZ v 16=vsum v:=Qqr v 16
end Go.Vx
namespace Go.Vx
theorem QlO {v:Vec} (hv:Qbw v):∀ k,0<=QhZ v k/\QhZ v k<=(k:Int)*4294967296
 | 0=>by simp [QhZ]
 | k+1=>by
  have h1:=QlO hv k
  have h2:=QfI hv k
  show 0<=QhZ v k+vat v k/\QhZ v k+vat v k<=_
  constructor
  ·omega
  ·push_cast;omega
theorem Qsp {v:Vec} (hv:Qbw v):0<=vsum v/\vsum v<=68719476736:=by
 have:=QlO hv 16
 rw [Quk] at this
 omega
end Go.Vx
namespace Go.Vx
def ltD (x y:Dot):Prop:=x.rep<y.rep∨(x.rep=y.rep/\x.seq<y.seq)
theorem QkH {l:List Dot} (h:l.Pairwise ltD):l.Nodup:=h.imp fun {a b} hab e=>by subst e;unfold ltD at hab;omega
theorem Qt1 {l:List Dot} (h:l.Pairwise ltD):l.Pairwise (fun x y=>leD x y=true):=h.imp fun {a b} hab=>by rw [Qft];unfold ltD at hab;omega
theorem QmD {l m:List Dot} (hl:l.Pairwise ltD) (hm:m.Pairwise ltD) (h:∀ x,x∈l↔x∈m):l=m :=
 QeA ((List.perm_ext_iff_of_nodup (QkH hl) (QkH hm)).2 h) (Qt1 hl) (Qt1 hm)
theorem QjL {l:List Dot} (h:l.Nodup):(QnZ l).Pairwise ltD:=by
 have h1:(QnZ l).Pairwise (fun x y=>leD x y=true):=List.pairwise_mergeSort Qoq QoH l
 have h2:(QnZ l).Nodup:=(List.mergeSort_perm l leD).nodup_iff.2 h
 refine (h1.and h2).imp fun {a b} ⟨h3,h4⟩=>?_
 rw [Qft] at h3
 unfold ltD
 rcases h3 with h3|⟨h3,h5⟩
 ·exact .inl h3
 ·refine .inr ⟨h3,?_⟩
  rcases Int.lt_or_le a.seq b.seq with h6|h6
  ·exact h6
  ·exact absurd (Qiy h3 (by omega)) h4
theorem QnF {l:List Dot} {x:Dot}:x∈QnZ l↔x∈l:=List.mem_mergeSort
theorem QhN {g:Grp} {x:Dot}:x∈QgJ g↔x∈g.l.map (·.1):=QnF
theorem QeT {g:Grp} (h:GOk g):(QgJ g).Pairwise ltD:=QjL h.nd
structure CloAt (l:List Dot) (i n c:Int):Prop where
 le:n<=c
 inn:∀ m,n<m->m<=c->(⟨i,m⟩:Dot)∈l
 out:(⟨i,c+1⟩:Dot) ∉ l
theorem QkS {l:List Dot} (hl:Dots l) {i c:Int}:∀ (k:Nat) (n:Int),c=n+k->CloAt l i n c->cloAt l i n=c
 | 0,n,hk,h=>by
  have:n=c:=by omega
  subst this
  exact QnI h.out
 | k+1,n,hk,h=>by
  rw [QlY hl (h.inn (n+1) (by omega) (by omega))]
  exact QkS hl k (n+1) (by omega) ⟨by omega,fun m h1 h2=>h.inn m (by omega) h2,h.out⟩
theorem Qlv {l:List Dot} (hl:Dots l) {i n c:Int} (h:CloAt l i n c):cloAt l i n=c:=QkS hl (c-n).toNat n (by have:=h.le;omega) h
theorem Qfm {i:Int} (h:0<=i):((i.toNat:Nat):Int)=i:=by omega
structure HRel (g:Grp) (v:Vec) (l:List Dot):Prop where
 vv:VOk v
 dl:Dots l
 le:∀ j,vat v j<=vat g.v j
 inn:∀ j:Nat,j<16->∀ m,vat v j<m->m<=vat g.v j->(⟨(j:Int),m⟩:Dot)∈l
 mem:∀ d,d∈g.l.map (·.1)↔d∈l/\vat g.v d.rep.toNat<d.seq
structure RelD (g:Grp) (v:Vec) (l:List Dot):Prop extends HRel g v l where
 inv:GInv g
section
variable {g:Grp} {v:Vec} {l:List Dot}
theorem RelD.clo (h:RelD g v l) {j:Nat} (hj:j<16):CloAt l j (vat v j) (vat g.v j):=by
 refine ⟨h.le j,h.inn j hj,fun hin=>?_⟩
 have h1:=(h.mem ⟨(j:Int),vat g.v j+1⟩).2 ⟨hin,by show vat g.v (j:Int).toNat<vat g.v j+1;rw [Int.toNat_natCast];omega⟩
 have h2:=h.inv.far _ h1
 dsimp only at h2
 rw [Int.toNat_natCast] at h2
 omega
theorem RelD.cloAt (h:RelD g v l) {j:Nat} (hj:j<16):Vx.cloAt l j (vat v j)=vat g.v j:=Qlv h.dl (h.clo hj)
theorem RelD.cloV (h:RelD g v l):cloV l v=g.v:=QjZ fun j hj=>by rw [Qo5 _ _ _ hj,h.cloAt hj]
theorem RelD.has (h:RelD g v l) {d:Dot} (hd:Qfk d):Qfa g d=Qtd v l d:=by
 have key:Qfa g d=true↔Qtd v l d=true:=by
  unfold Qfa Qtd
  rw [Bool.or_eq_true,Bool.or_eq_true,QcE,decide_eq_true_iff,decide_eq_true_iff]
  constructor
  ·rintro (hk|hb)
   ·exact .inl ((h.mem d).1 hk).1
   ·unfold QeM at hb ⊢
    rw [Bool.and_eq_true,decide_eq_true_iff] at hb
    rcases Int.lt_or_le (vat v d.rep.toNat) d.seq with h1|h1
    ·left
     have h2:=h.inn d.rep.toNat (by have:=Qbf hb.1;omega) d.seq h1 hb.2
     rw [Qfm hd.1.1] at h2
     exact h2
    ·right;rw [hb.1];simpa using h1
  ·rintro (hk|hb)
   ·rcases Int.lt_or_le (vat g.v d.rep.toNat) d.seq with h1|h1
    ·exact .inl ((h.mem d).2 ⟨hk,h1⟩)
    ·right;unfold QeM;rw [(h.dl d hk).2];simpa using h1
   ·right
    unfold QeM at hb ⊢
    rw [Bool.and_eq_true,decide_eq_true_iff] at hb
    rw [hb.1,Bool.true_and,decide_eq_true_iff]
    exact Int.le_trans hb.2 (h.le _)
 cases h1:Qfa g d<;>cases h2:Qtd v l d<;>simp_all
theorem QmI {rep:Int} (h0:0<=rep) (hr:rep<16) (hh:GHalf rep g) (h:HRel g v l) (hm:(mget (⟨rep,vat g.v rep.toNat+1⟩:Dot) g.l).isSome=true):HRel (Qdm rep g) v l:=by
 have hin:=(h.mem _).1 (QhX hm)
 have hv:∀ j,j<16->vat (Qdm rep g).v j=if j=rep.toNat then vat g.v rep.toNat+1 else vat g.v j:=fun j hj=>QbP _ _ _ _ hj
 refine ⟨h.vv,h.dl,fun j=>?_,fun j hj m h1 h2=>?_,fun d=>?_⟩
 ·by_cases hj:j<16
  ·rw [hv j hj];have:=h.le j;split
   ·rename_i e;subst e;omega
   ·exact this
  ·show vat v j<=vat (vset _ _ _) j
   rw [QdL _ (by omega),QdL _ (by omega)];omega
 ·rw [hv j hj] at h2
  split at h2
  ·rename_i e
   subst e
   rcases Int.lt_or_le (vat g.v rep.toNat) m with h3|h3
   ·have:m=vat g.v rep.toNat+1:=by omega
    subst this
    rw [Qfm h0];exact hin.1
   ·exact h.inn _ hj m h1 h3
  ·exact h.inn _ hj m h1 h2
 ·show d∈(mdel (⟨rep,vat g.v rep.toNat+1⟩:Dot) g.l).map (·.1)↔_
  rw [QdZ hh.ok.nd,h.mem]
  constructor
  ·rintro ⟨⟨h1,h2⟩,h3⟩
   refine ⟨h1,?_⟩
   have hdb:=(h.dl d h1)
   have hds:=Qbf hdb.2
   rw [hv _ (by omega)]
   split
   ·rename_i e
    have er:d.rep=rep:=QdS hdb.1.1.1 h0 e
    rw [e] at h2
    rcases Int.lt_or_le (vat g.v rep.toNat+1) d.seq with h4|h4
    ·exact h4
    ·exact absurd (Qiy er (by show d.seq=vat g.v rep.toNat+1;omega)) h3
   ·exact h2
  ·rintro ⟨h1,h2⟩
   have hdb:=(h.dl d h1)
   have hds:=Qbf hdb.2
   rw [hv _ (by omega)] at h2
   refine ⟨⟨h1,?_⟩,fun e=>?_⟩
   ·split at h2
    ·rename_i e;rw [e];omega
    ·exact h2
   ·subst e
    dsimp only at h2
    rw [if_pos rfl] at h2
    omega
theorem QgV {rep:Int} (h0:0<=rep) (h1:rep<16):∀ (f:Nat) (g:Grp),GHalf rep g->HRel g v l->HRel (QbY rep f g) v l
 | 0,_,_,h=>h
 | f+1,g,hh,h=>by
  unfold QbY
  split
  ·rename_i hm;exact QgV h0 h1 f _ (Qjv h0 hh hm) (QmI h0 h1 hh h hm)
  ·exact h
theorem RelD.addE (h:RelD g v l) {d:Dot} (hd:Qfk d):Qdz g d=Vx.addE v l d:=by
 unfold Qdz Vx.addE QbX
 rw [h.cloV,← h.has hd]
 cases hb:QdI d with
 | false=>simp
 | true =>
  have hv:=h.inv.ok.v.at d.rep.toNat
  have hds:=Qbf hb
  simp only [Bool.true_eq_false,if_false]
  cases hB:QeM g.v d with
  | true=>simp [Qfa,hB]
  | false =>
   simp only [Bool.false_eq_true,if_false]
   by_cases hs:d.seq=(vat g.v d.rep.toNat+1)%4294967296
   ·have hk:Qfa g d=false:=by
     unfold Qfa
     rw [hB,Bool.or_false,QcE,decide_eq_false_iff_not]
     intro hk
     have:=h.inv.far d hk
     omega
    rw [if_pos hs,hk]
    simp
    omega
   ·rw [if_neg hs];simp
theorem RelD.add (h:RelD g v l) {d:Dot} (hd:Qfk d):RelD (QdE g d) v (Qua v l d):=by
 have hG:=Qm8 h.inv hd
 by_cases he:Qdz g d=0
 ·have hL:Qua v l d=l++[d]:=by unfold Qua;rw [if_pos (by rw [← h.addE hd];exact he)]
  have hb:QdI d=true:=by
   cases hb:QdI d with
   | true=>rfl
   | false=>simp [Qdz,QbX,hb] at he
  have hbs:=Qbf hb
  have hdl:Dots (l++[d]):=fun x hx=>by
   rcases List.mem_append.1 hx with hx|hx
   ·exact h.dl x hx
   ·simp at hx;subst hx;exact ⟨hd,hb⟩
  have hnh:Qfa g d=false:=by
   rw [h.has hd]
   have:=h.addE hd
   rw [he] at this
   unfold Vx.addE at this
   rw [if_neg (by simp [hb])] at this
   cases hh:Qtd v l d with
   | false=>rfl
   | true=>rw [hh] at this;simp at this
  have hnb:QeM g.v d=false:=by unfold Qfa at hnh;rw [Bool.or_eq_false_iff] at hnh;exact hnh.2
  have hgt:vat g.v d.rep.toNat<d.seq:=by
   unfold QeM at hnb;rw [hb] at hnb;simpa using hnb
  have h2:¬QbX g.v d=2:=by intro e;rw [(Qnv e).1] at he;omega
  have h8:¬QbX g.v d=8:=by intro e;rw [(Qox e).1] at he;omega
  refine { toHRel:=?_,inv:=hG.inv }
  rw [hL]
  by_cases h9:QbX g.v d=9
  ·by_cases hf:vat g.v d.rep.toNat+256<d.seq
   ·rw [(QoF h9 hnh hf).1] at he;omega
   ·rw [(Qrg h9 hnh hf).2]
    refine ⟨h.vv,hdl,h.le,fun j hj m h1 h3=>List.mem_append_left _ (h.inn j hj m h1 h3),fun x=>?_⟩
    show x∈(mput d () g.l).map (·.1)↔_
    have hnk:d ∉ g.l.map (·.1):=by
     unfold Qfa at hnh;rw [Bool.or_eq_false_iff,QcE] at hnh;exact QQ2 hnh.1
    rw [QcQ,if_neg hnk,List.mem_append,List.mem_append,h.mem]
    constructor
    ·rintro (⟨h1,h3⟩|hx)
     ·exact ⟨.inl h1,h3⟩
     ·have:x=d:=by simpa using hx
      subst this;exact ⟨.inr hx,hgt⟩
    ·rintro ⟨h1|h1,h3⟩
     ·exact .inl ⟨h1,h3⟩
     ·exact .inr h1
  ·obtain ⟨_,hhas,hseq⟩:=QjR h2 h8 h9
   have hv:=h.inv.ok.v.at d.rep.toNat
   have hnv:Qcv g.v d=vset g.v d.rep.toNat (vat g.v d.rep.toNat+1):=by
    unfold Qcv;rw [if_neg (by simp [hb]),if_neg (by simp [hhas]),if_pos hseq]
   have hse:d.seq=vat g.v d.rep.toNat+1:=by omega
   have hva:∀ j,j<16->vat (Qcv g.v d) j=if j=d.rep.toNat then vat g.v d.rep.toNat+1 else vat g.v j:=fun j hj=>by rw [hnv];exact QbP _ _ _ _ hj
   have hhalf:GHalf d.rep ⟨Qcv g.v d,g.l⟩:=by
    refine ⟨Qgr h.inv.ok h2 h8 h9,fun x hx=>?_,fun x hx hne=>?_⟩
    ·have hxo:=h.inv.ok.l x hx
     have hf:=h.inv.far x hx
     have hxb:=Qbf hxo.2
     show vat (Qcv g.v d) x.rep.toNat<x.seq
     rw [hva _ (by omega)]
     split
     ·rename_i e;rw [e] at hf;omega
     ·omega
    ·have hxo:=h.inv.ok.l x hx
     have hf:=h.inv.far x hx
     have hr:=hxo.1.1
     have hxb:=Qbf hxo.2
     show vat (Qcv g.v d) x.rep.toNat+1<x.seq
     rw [hva _ (by omega),if_neg (fun e=>hne (QdS hr.1 hd.1.1 e))]
     exact hf
   rw [(QqX h2 h8 h9).2]
   refine QgV hd.1.1 hbs.1 _ _ hhalf ⟨h.vv,hdl,fun j=>?_,fun j hj m h1 h3=>?_,fun x=>?_⟩
   ·by_cases hj:j<16
    ·show vat v j<=vat (Qcv g.v d) j
     rw [hva j hj];have:=h.le j;split
     ·rename_i e;subst e;omega
     ·exact this
    ·show vat v j<=vat (Qcv g.v d) j
     rw [QdL _ (by omega),QdL _ (by omega)];omega
   ·have h3':m<=vat (Qcv g.v d) j:=h3
    rw [hva j hj] at h3'
    split at h3'
    ·rename_i e
     subst e
     rcases Int.lt_or_le (vat g.v d.rep.toNat) m with h4|h4
     ·have:m=d.seq:=by omega
      subst this
      rw [Qfm hd.1.1]
      exact List.mem_append_right _ (by simp)
     ·exact List.mem_append_left _ (h.inn _ hj m h1 h4)
    ·exact List.mem_append_left _ (h.inn _ hj m h1 h3')
   ·show x∈g.l.map (·.1)↔x∈l++[d]/\vat (Qcv g.v d) x.rep.toNat<x.seq
    constructor
    ·intro hx
     exact ⟨List.mem_append_left _ ((h.mem x).1 hx).1,hhalf.near x hx⟩
    ·rintro ⟨h1,h3⟩
     have hxo:=hdl x h1
     have hxb:=Qbf hxo.2
     rw [hva _ (by have:=hxo.1.1;omega)] at h3
     rcases List.mem_append.1 h1 with h1|h1
     ·refine (h.mem x).2 ⟨h1,?_⟩
      split at h3
      ·rename_i e;rw [e];omega
      ·exact h3
     ·have:x=d:=by simpa using h1
      subst this
      rw [if_pos rfl] at h3
      omega
 ·have hL:Qua v l d=l:=by unfold Qua;rw [if_neg (by rw [← h.addE hd];exact he)]
  rw [hL,hG.same he];exact h
end
theorem RelD.same {g1 g2:Grp} {v:Vec} {l1 l2:List Dot} (h1:RelD g1 v l1) (h2:RelD g2 v l2) (hm:∀ x,x∈l1↔x∈l2):g1.v=g2.v/\QgJ g1=QgJ g2/\QsT g1=QsT g2:=by
 have hv:g1.v=g2.v:=QjZ fun j hj=>by
  rw [← h1.cloAt hj]
  have:=h2.clo hj
  exact Qlv h1.dl ⟨this.le,fun m a b=>(hm _).2 (this.inn m a b),fun h=>this.out ((hm _).1 h)⟩
 have hl:QgJ g1=QgJ g2:=QmD (QeT h1.inv.ok) (QeT h2.inv.ok) fun x=>by
  rw [QhN,QhN,h1.mem,h2.mem,hv,hm]
 refine ⟨hv,hl,?_⟩
 unfold QsT
 rw [hv,hl]
end Go.Vx
namespace Go.Vx
instance:DecidableEq Opn:=fun a b=>decidable_of_iff (a.dot=b.dot/\a.kind=b.kind/\a.cart=b.cart/\a.item=b.item/\a.qty=b.qty/\a.tick=b.tick/\a.ctx=b.ctx) (by cases a;cases b;simp)
instance:Inhabited Opn:=⟨⟨⟨0,0⟩,0,0,0,0,0,vzero⟩⟩
theorem QcB (o:Opn):∀ x∈oc o,x.oneCell'=true:=by
 intro x hx
 simp only [oc,List.mem_cons,List.not_mem_nil,or_false] at hx
 rcases hx with h|h|h|h|h|h|h|h|h|h|h|h|h|h|h|h|h|h|h|h|h|h|h<;>subst h<;>rfl
theorem Qsh (a b:Opn):(decide (a.dot=b.dot)&&(decide (a.kind=b.kind)&&(decide (a.cart=b.cart)&&(decide (a.item=b.item)&&(decide (a.qty=b.qty)&&(decide (a.tick=b.tick)&&(decide (a.ctx=b.ctx)&&true)))))))=decide (a=b):=by
 cases a;cases b;simp
def QbK (o:Opn):Prop:=Qfk o.dot/\(0<=o.kind/\o.kind<256)/\(0<=o.cart/\o.cart<65536)/\(0<=o.item/\o.item<65536)/\(0<=o.qty/\o.qty<65536)/\(0<=o.tick/\o.tick<4294967296)/\Qbw o.ctx
def Qhj (o:Opn):Bool:=decide (o.kind=1)||decide (o.kind=2)||decide (o.kind=4)
def QoM (o:Opn):Int:=vsum o.ctx+1
def QvV (a b:Opn):Bool:=decide (orI [Qte (QoM a) (QoM b),Qte a.dot.rep b.dot.rep,Qte a.dot.seq b.dot.seq]<0)
def QeL (o e:Opn):Bool:=Qhj e&&decide (o.cart=e.cart)&&QeM o.ctx e.dot&&(decide (o.kind=5)||((decide (o.kind=3)||decide (o.kind=2))&&(!decide (e.kind=4)&&decide (o.item=e.item))))
def QfD (l:List Opn) (o:Opn):Bool:=Qhj o&&!(l.any fun x=>QeL x o)
structure Tal where
 sum:Int
 set:Opn
 has:Bool
def talc (t:Tal):List Value:=[(.int .u32 t.sum:Value)]++oc t.set++[(.bool t.has:Value)]
def tv (t:Tal):Value:=.agg (talc t).toArray
def tz:Tal:=⟨0,⟨⟨0,0⟩,0,0,0,0,0,vzero⟩,false⟩
instance:Inhabited Tal:=⟨tz⟩
def QvG (t:Tal) (o:Opn):Tal:=if o.kind=1 then { t with sum:=(t.sum+o.qty)%4294967296 } else if (!t.has||QvV t.set o)=true then { t with set:=o,has:=true } else t
structure VSt where
 tick:Int
 out:Bool
 items:List (Int × Tal)
def vstep (L:List Opn) (cart:Int) (s:VSt) (o:Opn):VSt :=
 if o.cart=cart then (if QfD L o=true then (if o.kind=4 then ⟨max s.tick o.tick,true,s.items⟩ else ⟨max s.tick o.tick,s.out,mput o.item (QvG ((mget o.item s.items).getD tz) o) s.items⟩) else ⟨max s.tick o.tick,s.out,s.items⟩) else s
structure Line where
 item:Int
 qty:Int
 deriving DecidableEq
instance:Inhabited Line:=⟨⟨0,0⟩⟩
def lc (x:Line):List Value:=[.int .u16 x.item,.int .u32 x.qty]
structure Vw where
 cart:Int
 lines:List Line
 out:Bool
 tick:Int
end Go.Vx
namespace Go.Vx
open Go.RowKit
section
variable {P:Program} {ty:TypeId} {e:Operand->Value} {w:World} {K:Value->World->Prop} {w0:World} {M:Nat->Prop} {L:List Res}
theorem Qvu {f:FuncId} {x:Operand} {xs:List Operand} {vs cs:List Value} {ats:Array TypeId} {V:Value} (hf:En P f) (hx:e x = .func (.func f) #[] cs.toArray) (hv:xs.map e=vs)
  (hc:Calls P f (vs++cs).toArray w fun r w'=>r = .returned V/\Own w no w' []) (hs:Own w0 M w L) (h:∀ w',Own w0 M w' L->K V w'):opW P (.call { callee:=.value x,args:=xs.toArray,argTypes:=ats }) ty e w K :=
 Qwz hf hx hv (hc.mono fun r w' ⟨hr,ho⟩=>⟨V,hr,h w' (hs.call0 ho)⟩)
end
end Go.Vx
namespace Go.Vx
open Go.RowKit
theorem QaS {x:Int} {n:Nat} (h:x=(n:Int)) (hb:n<=9223372036854775807):IntKind.i64.wrap x=(n:Int):=by subst h;exact Qc1 (by omega) (by omega)
end Go.Vx
namespace Go.Vx
open Go.RowKit
theorem Rd.bk_lt {w:World} {v:Value} {k:Nat} {ls:List (List Value)} (h:Rd w v (k+1) ls) (hn:0<ls.length):bkS v<w.heap.size:=by
 have h0:ls[0]?=some ls[0]:=List.getElem?_eq_getElem hn
 have hl:=h.len ls[0] (List.getElem_mem hn)
 have h1:ls[0][0]?=some (ls[0][0]'(by omega)):=List.getElem?_eq_getElem (by omega)
 exact World.block_lt_of_cell? _ _ (h.cell 0 0 _ _ h0 h1)
end Go.Vx
namespace Go.Vx
open Go.RowKit
def nth {α:Type} (z:α):List α->Nat->α
 | [],_=>z
 | a :: _,0=>a
 | _ :: l,i+1=>nth z l i
theorem Qml {α:Type} (z:α) (l:List α) (i:Nat):nth z l i=(l[i]?).getD z:=by
 induction l generalizing i with
 | nil=>simp [nth]
 | cons a l ih=>cases i<;>simp [nth,ih]
def restr (r:List Nat) (J:Env):Env:=fun t=>cond (r.any (Nat.beq t)) (J t) undef
abbrev Vals:=List (Bool × (Env->Value))
def Qlc (rs:List (List Nat)) (vs:Vals) (J:Env) (j:Nat):Value:=cond (nth (true,fun _=>undef) vs j).1 ((nth (true,fun _=>undef) vs j).2 (restr (nth [] rs j) J)) undef
def QoN (ks:List (Option Nat)) (t j:Nat):Bool:=match nth none ks j with|some d=>Nat.beq d t|none=>false
def ceR (ks:List (Option Nat)) (rs:List (List Nat)) (vs:Vals) (yes no:List Nat) (J0 J:Env):Env:=fun t =>
 match yes with
 | []=>cond (no.any (QoN ks t)||!(ks.any fun k=>match k with|some d=>Nat.beq d t|none=>false)) (J0 t) (J t)
 | j :: js=>cond (QoN ks t j) (Qlc rs vs J j) (ceR ks rs vs js no J0 J t)
def cD (yes no:List Nat) (D:Nat->Bool):Nat->Bool:=fun j=>cond (yes.any (Nat.beq j)) true (cond (no.any (Nat.beq j)) false (D j))
def QqH (ms:List Nat) (o:Oper) (i:Nat):Bool:=Nat.beq (nth 0 ms i) ((deps o).foldl (fun m k=>m ||| (1 <<< k) ||| nth 0 ms k) 0)
def ndk:List (Option Nat)->Bool
 | []=>true
 | none :: l=>ndk l
 | some d :: l=>!(l.any fun k=>match k with|some e=>Nat.beq e d|none=>false)&&ndk l
def Qjb (ks:List (Option Nat)) (m:Nat) (t:Nat):Nat->Bool
 | 0=>false
 | k+1=>(QoN ks t k&&m.testBit k)||Qjb ks m t k
def QmT (n:Nat) (ks:List (Option Nat)) (ms:List Nat) (o:Oper) (i:Nat):Bool:=match o.guard with|none=>true|some (j,_)=>(nth 0 ms i).testBit j&&match nth none ks j with|some d=>Nat.blt d n|none=>false
def Ql7 (n:Nat) (ks:List (Option Nat)) (rs:List (List Nat)) (ms:List Nat) (o:Oper) (i:Nat):Bool:=QqH ms o i&&QmT n ks ms o i&&(nth [] rs i).all fun t=>Qjb ks (nth 0 ms i ||| (1 <<< i)) t ks.length
def Qsl:Option Nat->Option Nat->Bool
 | none,none=>true
 | some a,some b=>Nat.beq a b
 | _,_=>false
def QeY (n:Nat) (ks:List (Option Nat)) (rs:List (List Nat)) (ms:List Nat):List Oper->List (Option Nat)->Nat->Bool
 | [],[],_=>true
 | o :: l,k :: m,i=>Qsl o.dst k&&Ql7 n ks rs ms o i&&QeY n ks rs ms l m (i+1)
 | _,_,_=>false
def Qqa (n:Nat) (ks:List (Option Nat)) (rs:List (List Nat)) (ms:List Nat) (l:List Oper):Bool:=rising l&&ndk ks&&QeY n ks rs ms l ks 0
def Qmf (ms:List Nat) (i:Nat) (yes no:List Nat):Bool:=yes.all (fun j=>(nth 0 ms i).testBit j)&&no.all fun j=>(nth 0 ms j).testBit i
theorem Qpj {a b:Option Nat} (h:Qsl a b=true):a=b:=by
 cases a<;>cases b<;>simp [Qsl] at h ⊢
 exact h
section
variable {n:Nat} {ks:List (Option Nat)} {rs:List (List Nat)} {ms:List Nat} {l:List Oper}
theorem Qjn:∀ (m:List Oper) (k:List (Option Nat)) (i:Nat),QeY n ks rs ms m k i=true->∀ j o,m[j]?=some o->k[j]?=some o.dst/\Ql7 n ks rs ms o (i+j)=true
 | [],_,_,_,j,o,h=>by simp at h
 | a :: m,[],_,h,_,_,_=>by simp [QeY] at h
 | a :: m,b :: k,i,h,j,o,hj=>by
  simp only [QeY,Bool.and_eq_true] at h
  cases j with
  | zero =>
   simp at hj;subst hj
   have:=Qpj h.1.1;subst this
   exact ⟨by simp,by simpa using h.1.2⟩
  | succ j =>
   have:=Qjn m k (i+1) h.2 j o (by simpa using hj)
   exact ⟨by simpa using this.1,by rw [show i+(j+1)=i+1+j by omega];exact this.2⟩
theorem QhJ:∀ (m:List Oper) (k:List (Option Nat)) (i:Nat),QeY n ks rs ms m k i=true->m.length=k.length
 | [],[],_,_=>rfl
 | [],_ :: _,_,h=>by simp [QeY] at h
 | _ :: _,[],_,h=>by simp [QeY] at h
 | a :: m,b :: k,i,h=>by
  simp only [QeY,Bool.and_eq_true] at h
  simp [QhJ m k (i+1) h.2]
structure RegF (n:Nat) (ks:List (Option Nat)) (rs:List (List Nat)) (ms:List Nat) (l:List Oper):Prop where
 rise:rising l=true
 nd:ndk ks=true
 len:l.length=ks.length
 at_:∀ j o,l[j]?=some o->ks[j]?=some o.dst/\Ql7 n ks rs ms o j=true
theorem Qwh (h:Qqa n ks rs ms l=true):RegF n ks rs ms l:=by
 simp only [Qqa,Bool.and_eq_true] at h
 refine ⟨h.1.1,h.1.2,QhJ _ _ _ h.2,fun j o hj=>?_⟩
 have:=Qjn l ks 0 h.2 j o hj
 rw [Nat.zero_add] at this
 exact this
theorem Qhl (m k a j:Nat) (h:(m ||| (1 <<< k) ||| a).testBit j=true):m.testBit j=true∨j=k∨a.testBit j=true:=by
 rw [Nat.testBit_or,Nat.testBit_or,Bool.or_eq_true,Bool.or_eq_true] at h
 rcases h with (h|h)|h
 ·exact .inl h
 ·right;left
  rw [Nat.shiftLeft_eq,Nat.one_mul,Nat.testBit_two_pow] at h
  exact (QQ1 h).symm
 ·exact .inr (.inr h)
theorem Qjk (ms:List Nat) (j:Nat):∀ (d:List Nat) (m:Nat),(d.foldl (fun m k=>m ||| (1 <<< k) ||| nth 0 ms k) m).testBit j=true->m.testBit j=true∨∃ k∈d,j=k∨(nth 0 ms k).testBit j=true
 | [],m,h=>.inl h
 | k :: d,m,h=>by
  rcases Qjk ms j d _ h with h|⟨x,hx,h⟩
  ·rcases Qhl _ _ _ _ h with h|h|h
   ·exact .inl h
   ·exact .inr ⟨k,by simp,.inl h⟩
   ·exact .inr ⟨k,by simp,.inr h⟩
  ·exact .inr ⟨x,by simp [hx],h⟩
theorem RegF.done (H:RegF n ks rs ms l) {D:Nat->Bool} (hdc:∀ j o',l[j]?=some o'->D j=true->∀ k∈deps o',D k=true):∀ (i:Nat) (o:Oper),l[i]?=some o->(∀ k∈deps o,D k=true)->∀ j,(nth 0 ms i).testBit j=true->D j=true:=by
 intro i
 induction i using Nat.strongRecOn with
 | _ i ih =>
  intro o ho hd j hj
  have hc:=(H.at_ i o ho).2
  simp only [Ql7,Bool.and_eq_true,QqH] at hc
  rw [Nat.eq_of_beq_eq_true hc.1.1] at hj
  rcases Qjk ms j _ _ hj with h|⟨k,hk,h⟩
  ·simp at h
  ·rcases h with h|h
   ·subst h;exact hd j hk
   ·have hki:=Qg4 H.rise ho hk
    have hkl:k<l.length:=Nat.lt_trans hki (Qav ho)
    exact ih k hki l[k] (List.getElem?_eq_getElem hkl) (hdc k l[k] (List.getElem?_eq_getElem hkl) (hd k hk)) j h
theorem RegF.before (H:RegF n ks rs ms l) {D:Nat->Bool} (hdc:∀ j o',l[j]?=some o'->D j=true->∀ k∈deps o',D k=true) {i j:Nat} (hi:D i=false) (hj:(nth 0 ms j).testBit i=true) (hjl:j<l.length):D j=false:=by
 cases h:D j with
 | false=>rfl
 | true =>
  have:=H.done hdc j l[j] (List.getElem?_eq_getElem hjl) (hdc j l[j] (List.getElem?_eq_getElem hjl) h) i hj
  rw [hi] at this;cases this
theorem Qlb:∀ {k:List (Option Nat)},ndk k=true->∀ (i j d:Nat),k[i]?=some (some d)->k[j]?=some (some d)->i=j
 | [],_,i,_,_,h,_=>by simp at h
 | none :: k,h,i,j,d,hi,hj=>by
  cases i with
  | zero=>simp at hi
  | succ i=>cases j with
   | zero=>simp at hj
   | succ j=>rw [Qlb (k:=k) h i j d (by simpa using hi) (by simpa using hj)]
 | some e :: k,h,i,j,d,hi,hj=>by
  simp only [ndk,Bool.and_eq_true,Bool.not_eq_true',List.any_eq_false] at h
  have no:∀ m,k[m]?=some (some e)->False:=fun m hm=>by
   have:=h.1 (some e) (List.mem_of_getElem? hm)
   simp at this
  cases i with
  | zero =>
   simp at hi;subst hi
   cases j with
   | zero=>rfl
   | succ j=>exact (no j (by simpa using hj)).elim
  | succ i=>cases j with
   | zero=>simp at hj;subst hj;exact (no i (by simpa using hi)).elim
   | succ j=>rw [Qlb (k:=k) h.2 i j d (by simpa using hi) (by simpa using hj)]
theorem Qie {t j:Nat}:QoN ks t j=true↔ks[j]?=some (some t):=by
 unfold QoN
 rw [Qml]
 cases h:ks[j]? with
 | none=>simp
 | some k=>cases k<;>simp
theorem Qhs {m t:Nat}:∀ {n:Nat},Qjb ks m t n=true->∃ k,k<n/\ks[k]?=some (some t)/\m.testBit k=true
 | 0,h=>by simp [Qjb] at h
 | n+1,h=>by
  simp only [Qjb,Bool.or_eq_true,Bool.and_eq_true] at h
  rcases h with h|h
  ·exact ⟨n,by omega,Qie.1 h.1,h.2⟩
  ·obtain ⟨k,h1,h2,h3⟩:=Qhs h;exact ⟨k,by omega,h2,h3⟩
def KnR (ks:List (Option Nat)) (rs:List (List Nat)) (vs:Vals) (J0:Env) (D:Nat->Bool) (J:Env):Prop :=
 ∀ j d,ks[j]?=some (some d)->(D j=true->J d=Qlc rs vs J j)/\(D j=false->J d=J0 d)
theorem RegF.ds (H:RegF n ks rs ms l) {t:Nat}:(t∈dsts l)↔∃ j:Nat,ks[j]?=some (some t):=by
 unfold dsts
 rw [List.mem_filterMap]
 constructor
 ·rintro ⟨o,ho,hd⟩
  obtain ⟨j,hj⟩:=List.mem_iff_getElem?.1 ho
  exact ⟨j,by rw [(H.at_ j o hj).1,hd]⟩
 ·rintro ⟨j,hj⟩
  have hjl:j<l.length:=by rw [H.len];exact Qav hj
  have h1:=List.getElem?_eq_getElem hjl
  refine ⟨l[j],List.getElem_mem hjl,?_⟩
  have:=(H.at_ j _ h1).1
  rw [hj] at this;simpa using this.symm
theorem RegF.ref (H:RegF n ks rs ms l) {j t:Nat} (hj:j<l.length) (ht:t∈nth [] rs j):∃ k:Nat,ks[k]?=some (some t)/\(k=j∨(nth 0 ms j).testBit k=true):=by
 have hc:=(H.at_ j l[j] (List.getElem?_eq_getElem hj)).2
 simp only [Ql7,Bool.and_eq_true,List.all_eq_true] at hc
 obtain ⟨k,_,h2,h3⟩:=Qhs (hc.2 t ht)
 refine ⟨k,h2,?_⟩
 rw [Nat.testBit_or,Bool.or_eq_true,Nat.shiftLeft_eq,Nat.one_mul,Nat.testBit_two_pow] at h3
 rcases h3 with h3|h3
 ·exact .inr h3
 ·exact .inl (QQ1 h3).symm
theorem Qj1 {r:List Nat} {J J':Env} (h:∀ t∈r,J t=J' t):restr r J=restr r J':=by
 funext t
 unfold restr
 cases hb:r.any (Nat.beq t) with
 | false=>rfl
 | true =>
  rw [List.any_eq_true] at hb
  obtain ⟨x,hx,he⟩:=hb
  rw [Nat.eq_of_beq_eq_true he]
  exact h x hx
theorem RegF.step (H:RegF n ks rs ms l) {vs:Vals} {J0 J:Env} {D:Nat->Bool} (hdc:∀ j o',l[j]?=some o'->D j=true->∀ k∈deps o',D k=true) {i:Nat} {o:Oper} (ho:l[i]?=some o) (hd:∀ k∈deps o,D k=true) (hD:D i=false) (hK:KnR ks rs vs J0 D J) {v:Value}
  (hv:∀ d,o.dst=some d->v=Qlc rs vs (QdB J o.dst v) i):KnR ks rs vs J0 (mark D i) (QdB J o.dst v):=by
 intro j e hj
 have hki:=(H.at_ i o ho).1
 have hjl:j<l.length:=by rw [H.len];exact Qav hj
 by_cases hij:j=i
 ·subst hij
  rw [hj] at hki
  have hde:o.dst=some e:=by simpa using hki.symm
  refine ⟨fun _=>?_,fun h=>?_⟩
  ·rw [← hv e hde,hde]
   show upd J e v e=v
   rw [QdU,if_pos rfl]
  ·unfold mark at h;simp at h
 ·have hne:∀ t,o.dst=some t->e≠t:=fun t ht he=>by
   subst he
   rw [ht] at hki
   exact hij (Qlb H.nd j i e hj hki)
  have e1:QdB J o.dst v e=J e:=by
   cases hdd:o.dst with
   | none=>rfl
   | some t =>
    show upd J t v e=J e
    rw [QdU,if_neg (hne t hdd)]
  have hm:mark D i j=D j:=by unfold mark;rw [QbT];simp [hij]
  rw [hm,e1]
  refine ⟨fun h=>?_,(hK j e hj).2⟩
  rw [(hK j e hj).1 h]
  unfold Qlc
  rw [show restr (nth [] rs j) J=restr (nth [] rs j) (QdB J o.dst v) from Qj1 fun t ht=>?_]
  obtain ⟨k,h1,h2⟩:=H.ref hjl ht
  have hk:D k=true:=by
   rcases h2 with h2|h2
   ·subst h2;exact h
   ·exact H.done hdc j l[j] (List.getElem?_eq_getElem hjl) (hdc j l[j] (List.getElem?_eq_getElem hjl) h) k h2
  cases hdd:o.dst with
  | none=>rfl
  | some x =>
   show J t=upd J x v t
   rw [QdU,if_neg]
   intro he
   subst he
   rw [hdd] at hki
   have:=Qlb H.nd k i t h1 hki
   subst this
   rw [hD] at hk;cases hk
theorem RegF.ce (H:RegF n ks rs ms l) {vs:Vals} {J0 J:Env} {D:Nat->Bool} (hK:KnR ks rs vs J0 D J) (hf:∀ t,t ∉ dsts l->J t=J0 t) {no:List Nat} (hno:∀ j∈no,D j=false):∀ {yes:List Nat},(∀ j∈yes,D j=true)->ceR ks rs vs yes no J0 J=J
 | [],_=>by
  funext t
  unfold ceR
  cases hb:(no.any (QoN ks t)||!(ks.any fun k=>match k with|some d=>Nat.beq d t|none=>false)) with
  | false=>rfl
  | true =>
   rw [Bool.or_eq_true] at hb
   rcases hb with hb|hb
   ·rw [List.any_eq_true] at hb
    obtain ⟨j,hj,h⟩:=hb
    exact ((hK j t (Qie.1 h)).2 (hno j hj)).symm
   ·refine (hf t fun hm=>?_).symm
    obtain ⟨j,hj⟩:=H.ds.1 hm
    rw [Bool.not_eq_true',List.any_eq_false] at hb
    have:=hb (some t) (List.mem_of_getElem? hj)
    simp at this
 | j :: js,hy=>by
  funext t
  rw [ceR]
  have ih:=H.ce (yes:=js) hK hf hno (fun k hk=>hy k (by simp [hk]))
  cases hb:QoN ks t j with
  | false=>rw [cond_false,ih]
  | true=>rw [cond_true,(hK j t (Qie.1 hb)).1 (hy j (by simp))]
theorem Qvb {D:Nat->Bool} {yes no:List Nat} (hy:∀ j∈yes,D j=true) (hn:∀ j∈no,D j=false):cD yes no D=D:=by
 funext j
 unfold cD
 cases hb:yes.any (Nat.beq j) with
 | true =>
  rw [List.any_eq_true] at hb
  obtain ⟨x,hx,he⟩:=hb
  rw [Nat.eq_of_beq_eq_true he];exact (hy x hx).symm
 | false =>
  rw [cond_false]
  cases hc:no.any (Nat.beq j) with
  | true =>
   rw [List.any_eq_true] at hc
   obtain ⟨x,hx,he⟩:=hc
   rw [Nat.eq_of_beq_eq_true he];exact (hn x hx).symm
  | false=>rfl
end
section
variable {κ:Cx} {P:Program} {n:Nat} {N R:St} {X:Nat->St} {J:Env} {w:World}
def vOk (rs:List (List Nat)) (vs:Vals) (i:Nat) (J:Env) (v:Value):Option Nat->Prop
 | none=>True
 | some d=>v=(nth (true,fun _=>undef) vs i).2 (restr (nth [] rs i) (upd J d v))
def ceG (ks:List (Option Nat)) (rs:List (List Nat)) (vs:Vals) (J:Env) (env:Env):List Nat->Env
 | []=>env
 | j :: js=>fun t=>cond (QoN ks t j) ((nth (true,fun _=>undef) vs j).2 (restr (nth [] rs j) J)) (ceG ks rs vs J env js t)
def QtQ (vs:Vals):List Nat->Prop
 | []=>True
 | j :: js=>(nth (true,fun _=>undef) vs j).1=true/\QtQ vs js
abbrev LfT:=(Nat->Bool)->Env->List Res
def Ob (P:Program) (n:Nat) (w0:World) (M:Nat->Prop) (J0:Env) (ks:List (Option Nat)) (rs:List (List Nat)) (ms:List Nat) (vs:Vals) (Lf:LfT) (i:Nat) (o:Oper):Prop :=
 ∃ yes no:List Nat,Qmf ms i yes no=true /\
  match o.guard with
  | none=>(nth (true,fun _=>undef) vs i).1=true/\∀ D J w,Own w0 M w (Lf (cD yes (i :: no) D) J) ->
    opW P o.op o.type (ev n (ceR ks rs vs yes (i :: no) J0 J)) w fun v w'=>vOk rs vs i J v o.dst/\Own w0 M w' (Lf (mark (cD yes (i :: no) D) i) (QdB J o.dst v))
  | some (j,want)=>∃ (T:Bool) (gy:List Nat),Qmf ms i gy []=true/\(∀ J,(nth (true,fun _=>undef) vs j).2 J = .bool T)/\(nth (true,fun _=>undef) vs i).1=((nth (true,fun _=>undef) vs j).1&&(T == want)) /\
    (∀ D J w,(nth (true,fun _=>undef) vs i).1=false->Own w0 M w (Lf (cD yes (i :: no) D) J)->Own w0 M w (Lf (mark (cD yes (i :: no) D) i) (QdB J o.dst undef))) /\
    ((nth (true,fun _=>undef) vs i).1=true->QtQ vs gy) /\
    ∀ D J w,(nth (true,fun _=>undef) vs i).1=true->Own w0 M w (Lf (cD yes (i :: no) D) J) ->
     opW P o.op o.type (ev n (ceG ks rs vs J (ceR ks rs vs yes (i :: no) J0 J) gy)) w fun v w'=>vOk rs vs i J v o.dst/\Own w0 M w' (Lf (mark (cD yes (i :: no) D) i) (QdB J o.dst v))
def Obs (P:Program) (n:Nat) (w0:World) (M:Nat->Prop) (J0:Env) (ks:List (Option Nat)) (rs:List (List Nat)) (ms:List Nat) (vs:Vals) (Lf:LfT):Nat->List Oper->Prop
 | _,[]=>True
 | i,o :: l=>Ob P n w0 M J0 ks rs ms vs Lf i o/\Obs P n w0 M J0 ks rs ms vs Lf (i+1) l
variable {w0:World} {M:Nat->Prop} {J0:Env} {ks:List (Option Nat)} {rs:List (List Nat)} {ms:List Nat} {vs:Vals} {Lf:LfT}
theorem QmU:∀ (m:List Oper) (k:Nat),Obs P n w0 M J0 ks rs ms vs Lf k m->∀ j o,m[j]?=some o->Ob P n w0 M J0 ks rs ms vs Lf (k+j) o
 | [],_,_,_,_,h=>by simp at h
 | o :: m,k,h,j,o',hj=>by
  cases j with
  | zero=>simp at hj;subst hj;exact h.1
  | succ j =>
   have:=QmU m (k+1) h.2 j o' (by simpa using hj)
   rw [show k+(j+1)=k+1+j by omega]
   exact this
theorem ob {i:Nat} {dst:Option Tmp} {op:Op} {ty:TypeId} {pos:String} {after:Array Edge} (yes no:List Nat) (hyn:Qmf ms i yes no=true) (hg:(nth (true,fun _=>undef) vs i).1=true)
  (h:∀ D J w,Own w0 M w (Lf (cD yes (i :: no) D) J)->opW P op ty (ev n (ceR ks rs vs yes (i :: no) J0 J)) w fun v w'=>vOk rs vs i J v dst/\Own w0 M w' (Lf (mark (cD yes (i :: no) D) i) (QdB J dst v))) :
  Ob P n w0 M J0 ks rs ms vs Lf i { dst,op,type:=ty,pos,after,guard:=none }:=⟨yes,no,hyn,hg,h⟩
theorem obgy {i:Nat} {dst:Option Tmp} {op:Op} {ty:TypeId} {pos:String} {after:Array Edge} {j:Nat} {want:Bool} (yes no gy:List Nat) (T:Bool) (hyn:(Qmf ms i yes no&&Qmf ms i gy [])=true) (hT:∀ J,(nth (true,fun _=>undef) vs j).2 J = .bool T)
  (hg:(nth (true,fun _=>undef) vs i).1=((nth (true,fun _=>undef) vs j).1&&(T == want)))
  (hn:∀ D J w,(nth (true,fun _=>undef) vs i).1=false->Own w0 M w (Lf (cD yes (i :: no) D) J)->Own w0 M w (Lf (mark (cD yes (i :: no) D) i) (QdB J dst undef)))
  (hgy:(nth (true,fun _=>undef) vs i).1=true->QtQ vs gy)
  (h:∀ D J w,(nth (true,fun _=>undef) vs i).1=true->Own w0 M w (Lf (cD yes (i :: no) D) J)->opW P op ty (ev n (ceG ks rs vs J (ceR ks rs vs yes (i :: no) J0 J) gy)) w fun v w'=>vOk rs vs i J v dst/\Own w0 M w' (Lf (mark (cD yes (i :: no) D) i) (QdB J dst v))) :
  Ob P n w0 M J0 ks rs ms vs Lf i { dst,op,type:=ty,pos,after,guard:=some (j,want) }:=by
 rw [Bool.and_eq_true] at hyn
 exact ⟨yes,no,hyn.1,T,gy,hyn.2,hT,hg,hn,hgy,h⟩
theorem obg {i:Nat} {dst:Option Tmp} {op:Op} {ty:TypeId} {pos:String} {after:Array Edge} {j:Nat} {want:Bool} (yes no:List Nat) (T:Bool) (hyn:Qmf ms i yes no=true) (hT:∀ J,(nth (true,fun _=>undef) vs j).2 J = .bool T)
  (hg:(nth (true,fun _=>undef) vs i).1=((nth (true,fun _=>undef) vs j).1&&(T == want)))
  (hn:∀ D J w,(nth (true,fun _=>undef) vs i).1=false->Own w0 M w (Lf (cD yes (i :: no) D) J)->Own w0 M w (Lf (mark (cD yes (i :: no) D) i) (QdB J dst undef)))
  (h:∀ D J w,(nth (true,fun _=>undef) vs i).1=true->Own w0 M w (Lf (cD yes (i :: no) D) J)->opW P op ty (ev n (ceR ks rs vs yes (i :: no) J0 J)) w fun v w'=>vOk rs vs i J v dst/\Own w0 M w' (Lf (mark (cD yes (i :: no) D) i) (QdB J dst v))) :
  Ob P n w0 M J0 ks rs ms vs Lf i { dst,op,type:=ty,pos,after,guard:=some (j,want) }:=⟨yes,no,hyn,T,[],rfl,hT,hg,hn,fun _=>trivial,h⟩
theorem oa {i:Nat} {dst:Option Tmp} {op:Op} {ty:TypeId} {pos:String} {after:Array Edge} (yes:List Nat)
  (h:∀ D J w,Own w0 M w (Lf (cD yes [i] D) J)->opW P op ty (ev n (ceR ks rs vs yes [i] J0 J)) w fun v w'=>vOk rs vs i J v dst/\Own w0 M w' (Lf (mark (cD yes [i] D) i) (QdB J dst v)))
  (hyn:Qmf ms i yes []=true:=by rfl) (hg:(nth (true,fun _=>undef) vs i).1=true:=by rfl) :
  Ob P n w0 M J0 ks rs ms vs Lf i { dst,op,type:=ty,pos,after,guard:=none }:=⟨yes,[],hyn,hg,h⟩
theorem oi {i:Nat} {dst:Option Tmp} {op:Op} {ty:TypeId} {pos:String} {after:Array Edge} (yes:List Nat)
  (h:∀ {D J w},Own w0 M w (Lf (cD yes [i] D) J)->opW P op ty (ev n (ceR ks rs vs yes [i] J0 J)) w fun v w'=>vOk rs vs i J v dst/\Own w0 M w' (Lf (mark (cD yes [i] D) i) (QdB J dst v)))
  (hyn:Qmf ms i yes []=true:=by rfl) (hg:(nth (true,fun _=>undef) vs i).1=true:=by rfl) :
  Ob P n w0 M J0 ks rs ms vs Lf i { dst,op,type:=ty,pos,after,guard:=none }:=⟨yes,[],hyn,hg,fun _ _ _=>h⟩
theorem ogi {i:Nat} {dst:Option Tmp} {op:Op} {ty:TypeId} {pos:String} {after:Array Edge} {j:Nat} {want:Bool} {T:Bool} (yes:List Nat)
  (h:∀ {D J w},(nth (true,fun _=>undef) vs i).1=true->Own w0 M w (Lf (cD yes [i] D) J)->opW P op ty (ev n (ceR ks rs vs yes [i] J0 J)) w fun v w'=>vOk rs vs i J v dst/\Own w0 M w' (Lf (mark (cD yes [i] D) i) (QdB J dst v)))
  (hT:∀ J,(nth (true,fun _=>undef) vs j).2 J = .bool T:=by intro _;rfl) (hyn:Qmf ms i yes []=true:=by rfl)
  (hg:(nth (true,fun _=>undef) vs i).1=((nth (true,fun _=>undef) vs j).1&&(T == want)):=by rfl)
  (hn:∀ D J w,(nth (true,fun _=>undef) vs i).1=false->Own w0 M w (Lf (cD yes [i] D) J)->Own w0 M w (Lf (mark (cD yes [i] D) i) (QdB J dst undef)):=by intro _ _ _ _ h;exact h) :
  Ob P n w0 M J0 ks rs ms vs Lf i { dst,op,type:=ty,pos,after,guard:=some (j,want) }:=obg yes [] T hyn hT hg hn fun _ _ _=>h
theorem oyi {i:Nat} {dst:Option Tmp} {op:Op} {ty:TypeId} {pos:String} {after:Array Edge} {j:Nat} {want:Bool} {T:Bool} (yes gy:List Nat)
  (h:∀ {D J w},(nth (true,fun _=>undef) vs i).1=true->Own w0 M w (Lf (cD yes [i] D) J)->opW P op ty (ev n (ceG ks rs vs J (ceR ks rs vs yes [i] J0 J) gy)) w fun v w'=>vOk rs vs i J v dst/\Own w0 M w' (Lf (mark (cD yes [i] D) i) (QdB J dst v)))
  (hT:∀ J,(nth (true,fun _=>undef) vs j).2 J = .bool T:=by intro _;rfl) (hyn:(Qmf ms i yes []&&Qmf ms i gy [])=true:=by rfl)
  (hg:(nth (true,fun _=>undef) vs i).1=((nth (true,fun _=>undef) vs j).1&&(T == want)):=by rfl)
  (hn:∀ D J w,(nth (true,fun _=>undef) vs i).1=false->Own w0 M w (Lf (cD yes [i] D) J)->Own w0 M w (Lf (mark (cD yes [i] D) i) (QdB J dst undef)):=by intro _ _ _ _ h;exact h)
  (hgy:(nth (true,fun _=>undef) vs i).1=true->QtQ vs gy:=by intro hG;first|exact ⟨hG,trivial⟩|exact ⟨hG,hG,trivial⟩|exact ⟨hG,hG,hG,trivial⟩|exact ⟨hG,hG,hG,hG,trivial⟩) :
  Ob P n w0 M J0 ks rs ms vs Lf i { dst,op,type:=ty,pos,after,guard:=some (j,want) }:=obgy yes [] gy T hyn hT hg hn hgy fun _ _ _=>h
def so (a n:Nat):List (Option Nat):=(List.range' a n).map some
theorem Ow {w0 w:World} {M:Nat->Prop} (L:List Res) (h:Own w0 M w L):Own w0 M w L:=h
theorem Zr {w0 w:World} {M:Nat->Prop} {L:List Res} {v V:Value} (hs:Own w0 M w L) (h:v=V):Ending.returned v = .returned V/\Own w0 M w []:=⟨congrArg _ h,hs.take 0⟩
theorem Zz {p q:Prop} (h:p) (e:q:=by exact rfl):q/\p:=⟨e,h⟩
theorem RegF.ceg {l:List Oper} (H:RegF n ks rs ms l) {J:Env} {D:Nat->Bool} (hK:KnR ks rs vs J0 D J):∀ {gy:List Nat},(∀ j∈gy,D j=true)->QtQ vs gy->ceG ks rs vs J J gy=J
 | [],_,_=>rfl
 | j :: js,hy,hg=>by
  funext t
  show cond (QoN ks t j) ((nth (true,fun _=>undef) vs j).2 (restr (nth [] rs j) J)) (ceG ks rs vs J J js t)=J t
  cases hb:QoN ks t j with
  | false=>rw [cond_false,H.ceg hK (fun k hk=>hy k (by simp [hk])) hg.2]
  | true =>
   rw [cond_true,(hK j t (Qie.1 hb)).1 (hy j (by simp))]
   unfold Qlc
   rw [hg.1,cond_true]
def QoQ (w0:World) (M:Nat->Prop) (J0:Env) (ks:List (Option Nat)) (rs:List (List Nat)) (vs:Vals) (Lf:LfT) (len:Nat) (D:Nat->Bool):St:=fun J w=>KnR ks rs vs J0 (upto len D) J/\Own w0 M w (Lf (upto len D) J)
theorem Qq3 {i:Nat} {yes no:List Nat} (h:Qmf ms i yes no=true):(∀ j∈yes,(nth 0 ms i).testBit j=true)/\∀ j∈no,(nth 0 ms j).testBit i=true:=by
 simp only [Qmf,Bool.and_eq_true,List.all_eq_true] at h
 exact h
theorem Qi8 {l:List Oper} (H:RegF n ks rs ms l) {i:Nat} {o:Oper} (ho:l[i]?=some o) (h:Ob P n w0 M J0 ks rs ms vs Lf i o):Qfi P n l J0 (QoQ w0 M J0 ks rs vs Lf l.length) i o:=by
 intro D0 J w hD0 hd0 hdc0 hf hI
 have hil:=Qav ho
 obtain ⟨hK,hO⟩:=hI
 have hup:∀ j,j<l.length->upto l.length D0 j=D0 j:=fun j hj=>by unfold upto;rw [Qbg];simp [hj]
 have hD:upto l.length D0 i=false:=by rw [hup i hil];exact hD0
 have hd:∀ k∈deps o,upto l.length D0 k=true:=fun k hk=>by rw [hup k (Nat.lt_trans (Qg4 H.rise ho hk) hil)];exact hd0 k hk
 have hdc:∀ j o',l[j]?=some o'->upto l.length D0 j=true->∀ k∈deps o',upto l.length D0 k=true:=fun j o' hj hDj k hk=>by
  have hjl:=Qav hj
  rw [hup j hjl] at hDj
  rw [hup k (Nat.lt_trans (Qg4 H.rise hj hk) hjl)]
  exact hdc0 j o' hj hDj k hk
 have hmk:upto l.length (mark D0 i)=mark (upto l.length D0) i:=Qm2 _ _ _ hil
 obtain ⟨yes,no,hyn,h⟩:=h
 obtain ⟨hy,hn⟩:=Qq3 hyn
 have hy':∀ j∈yes,upto l.length D0 j=true:=fun j hj=>H.done hdc i o ho hd j (hy j hj)
 have hn':∀ j∈i :: no,upto l.length D0 j=false:=fun j hj=>by
  rcases List.mem_cons.1 hj with e|e
  ·subst e;exact hD
  ·by_cases hjl:j<l.length
   ·exact H.before hdc hD (hn j e) hjl
   ·unfold upto;rw [Qbg];simp [hjl]
 have ce:ceR ks rs vs yes (i :: no) J0 J=J:=H.ce hK hf hn' hy'
 have cd:cD yes (i :: no) (upto l.length D0)=upto l.length D0:=Qvb hy' hn'
 have hki:=(H.at_ i o ho).1
 have fin:∀ v w',(∀ d,o.dst=some d->v=Qlc rs vs (QdB J o.dst v) i)->Own w0 M w' (Lf (mark (upto l.length D0) i) (QdB J o.dst v))->QoQ w0 M J0 ks rs vs Lf l.length (mark D0 i) (QdB J o.dst v) w':=fun v w' hv hO=>by
  refine ⟨?_,?_⟩
  ·rw [hmk];exact H.step hdc ho hd hD hK hv
  ·rw [hmk];exact hO
 cases hg:o.guard with
 | none =>
  rw [hg] at h
  obtain ⟨h1,h2⟩:=h
  left
  refine ⟨by unfold Region.wanted;rw [hg],?_⟩
  have:=h2 (upto l.length D0) J w (by rw [cd];exact hO)
  rw [ce,cd] at this
  refine QcV this fun v w' ⟨hv,hO'⟩=>fin v w' (fun d hd=>?_) hO'
  unfold Qlc
  rw [h1,cond_true]
  rw [hd] at hv ⊢
  exact hv
 | some gw =>
  obtain ⟨j,want⟩:=gw
  rw [hg] at h
  obtain ⟨T,gy,hgyn,hT,hgi,hno,hgyk,hyes⟩:=h
  have hc:=(H.at_ i o ho).2
  simp only [Ql7,Bool.and_eq_true,QmT,hg] at hc
  have hDj:=H.done hdc i o ho hd j hc.1.2.1
  have hjl:j<l.length:=by
   rcases Nat.lt_or_ge j l.length with q|q
   ·exact q
   ·unfold upto at hDj;rw [Qbg] at hDj;simp at hDj;omega
  have hlj:=List.getElem?_eq_getElem hjl
  have hkj:=(H.at_ j _ hlj).1
  have hvj:Qlc rs vs J j=cond (nth (true,fun _=>undef) vs j).1 (.bool T) undef:=by
   unfold Qlc;rw [hT]
  have hwd:(match nth none ks j with|some d=>Nat.blt d n|none=>false)=true:=hc.1.2.2
  have hgv:gv n J l j=Qlc rs vs J j:=by
   rw [Qml,hkj,Option.getD_some] at hwd
   cases hdj:l[j].dst with
   | none=>rw [hdj] at hwd;cases hwd
   | some dj =>
    rw [hdj] at hwd
    have hwd':Nat.blt dj n=true:=hwd
    have:gv n J l j=cond (Nat.blt dj n) (J dj) undef:=by unfold gv;rw [hlj];dsimp only;rw [hdj]
    rw [this,hwd',cond_true]
    rw [hdj] at hkj
    exact (hK j dj hkj).1 hDj
  have hw:∀ b,(nth (true,fun _=>undef) vs i).1=b->Region.wanted o (yielded l.toArray (frd n [] J).tmps)=b:=fun b hb=>by
   rw [← hb,hgi]
   exact Qvv hg (by rw [hgv,hvj])
  cases hb:(nth (true,fun _=>undef) vs i).1 with
  | true =>
   left
   refine ⟨hw true hb,?_⟩
   have eg:ceG ks rs vs J J gy=J:=H.ceg hK (fun k hk=>H.done hdc i o ho hd k ((Qq3 hgyn).1 k hk)) (hgyk hb)
   have:=hyes (upto l.length D0) J w hb (by rw [cd];exact hO)
   rw [ce,cd,eg] at this
   refine QcV this fun v w' ⟨hv,hO'⟩=>fin v w' (fun d hd=>?_) hO'
   unfold Qlc
   rw [hb,cond_true]
   rw [hd] at hv ⊢
   exact hv
  | false =>
   right
   refine ⟨hw false hb,?_⟩
   have:=hno (upto l.length D0) J w hb (by rw [cd];exact hO)
   rw [cd] at this
   refine fin undef w (fun d hd=>?_) this
   unfold Qlc
   rw [hb,cond_false]
def Qsz (ks:List (Option Nat)) (rs:List (List Nat)) (vs:Vals) (J1 J0:Env):List Nat->Env
 | []=>mix (ks.filterMap id) J1 J0
 | j :: js=>match nth none ks j with
  | some d=>upd (Qsz ks rs vs J1 J0 js) d (Qlc rs vs J1 j)
  | none=>Qsz ks rs vs J1 J0 js
theorem Qrh {l:List Oper} (H:RegF n ks rs ms l) {J1:Env} (hf:∀ t,t ∉ dsts l->J1 t=J0 t) (hK:∀ j d,ks[j]?=some (some d)->J1 d=Qlc rs vs J1 j):∀ live,J1=Qsz ks rs vs J1 J0 live
 | []=>by
  refine QaN fun t ht=>hf t fun hm=>?_
  obtain ⟨j,hj⟩:=H.ds.1 hm
  exact ht (List.mem_filterMap.2 ⟨some t,List.mem_of_getElem? hj,rfl⟩)
 | j :: js=>by
  have ih:=Qrh H hf hK js
  unfold Qsz
  have hh:nth none ks j=(ks[j]?).getD none:=Qml _ _ _
  cases hk:ks[j]? with
  | none=>rw [hk] at hh;simp only [Option.getD_none] at hh;rw [hh];exact ih
  | some o =>
   rw [hk] at hh
   cases o with
   | none=>simp only [Option.getD_some] at hh;rw [hh];exact ih
   | some d=>simp only [Option.getD_some] at hh;rw [hh];exact Qaw ih (hK j d hk)
theorem QmS {len:Nat}:∀ (D D':Nat->Bool) (J:Env) (w:World),(∀ j,j<len->D j=D' j)->QoQ w0 M J0 ks rs vs Lf len D J w->QoQ w0 M J0 ks rs vs Lf len D' J w:=by
 intro D D' J w h hI
 have:upto len D=upto len D':=by
  funext j
  unfold upto
  rw [Qbg]
  by_cases hj:j<len
  ·simp [hj,h j hj]
  ·simp [hj]
 unfold QoQ at *
 rw [← this];exact hI
theorem Qmo {l:List Oper} (H:RegF n ks rs ms l) {J1:Env} {w1:World} (hf:∀ t,t ∉ dsts l->J1 t=J0 t) (h:QoQ w0 M J0 ks rs vs Lf l.length (fun _=>true) J1 w1) (live:List Nat) :
  J1=Qsz ks rs vs J1 J0 live/\Own w0 M w1 (Lf (upto ks.length fun _=>true) J1):=by
 refine ⟨Qrh H hf (fun j d hj=>(h.1 j d hj).1 ?_) live,by rw [← H.len];exact h.2⟩
 have hjl:j<l.length:=by rw [H.len];exact Qav hj
 unfold upto;rw [Qbg];simp [hjl]
theorem Qi0 {l:List Oper} {w1:World} (h0:Own w0 M w1 (Lf (fun _=>false) J0)):QoQ w0 M J0 ks rs vs Lf l.length (fun _=>false) J0 w1:=by
 unfold QoQ
 rw [Ql6]
 exact ⟨fun j d _=>⟨fun h=>by simp at h,fun _=>rfl⟩,h0⟩
theorem Qcm {id:Nat} {l:List Oper} (hm:P.follows .mixedOrders=true) (ks:List (Option Nat)) (rs:List (List Nat)) (ms:List Nat) (vs:Vals) (Lf:LfT) (live:List Nat) (hchk:Qqa n ks rs ms l=true) (h0:Own w0 M w (Lf (fun _=>false) J)) (hs:Obs P n w0 M J ks rs ms vs Lf 0 l)
  (he:∀ J1 w1 J2,J2=Qsz ks rs vs J1 J live->Own w0 M w1 (Lf (upto ks.length fun _=>true) J1)->N J2 w1):W κ P n (.region id l.toArray true) N R X J w:=by
 have H:=Qwh hchk
 refine QqF hm H.rise (QoQ w0 M J ks rs vs Lf l.length) QmS (Qi0 h0.drew) (fun i o ho=>Qi8 H ho (by simpa using QmU l 0 hs i o ho)) fun J1 w1 hf hI=>?_
 obtain ⟨e,hO⟩:=Qmo H hf hI live
 exact he J1 w1 J1 e hO
theorem Qa2 {id:Nat} {l:List Oper} (ks:List (Option Nat)) (rs:List (List Nat)) (ms:List Nat) (vs:Vals) (Lf:LfT) (live:List Nat) (hchk:Qqa n ks rs ms l=true) (h0:Own w0 M w (Lf (fun _=>false) J)) (hs:Obs P n w0 M J ks rs ms vs Lf 0 l)
  (he:∀ J1 w1 J2,J2=Qsz ks rs vs J1 J live->Own w0 M w1 (Lf (upto ks.length fun _=>true) J1)->N J2 w1):W κ P n (.region id l.toArray false) N R X J w:=by
 have H:=Qwh hchk
 refine QvE H.rise (QoQ w0 M J ks rs vs Lf l.length) QmS (Qi0 h0) (fun i o ho=>Qi8 H ho (by simpa using QmU l 0 hs i o ho)) fun J1 w1 hf hI=>?_
 obtain ⟨e,hO⟩:=Qmo H hf hI live
 exact he J1 w1 J1 e hO
abbrev pv (v:Value):Bool × (Env->Value):=(true,fun _=>v)
abbrev pg (g:Bool) (v:Value):Bool × (Env->Value):=(g,fun _=>v)
abbrev pn:Bool × (Env->Value):=(true,fun _=>undef)
end
end Go.Vx
namespace Go.Vx
open Go.RowKit
section
variable {P:Program} {e:Operand->Value} {ty:TypeId} {w:World} {K:Value->World->Prop}
theorem Qa0 {c b:Operand} {g h':Bool} {z:Operand} (hc:e c = .bool g) (hz:e z = .bool false) (hb:e b=cond (g == true) (.bool h') undef) (h:K (.bool (g&&h')) w):opW P (.pick c b z) ty e w K :=
 QtG hc hz (fun hg=>by rw [hb,hg];rfl) h
theorem QbL {c b:Operand} {g h':Bool} {z:Operand} (hc:e c = .bool g) (hz:e z = .bool true) (hb:e b=cond (g == false) (.bool h') undef) (h:K (.bool (g||h')) w):opW P (.pick c z b) ty e w K :=
 Qwj hc hz (fun hg=>by rw [hb,hg];rfl) h
theorem Qhy {c b:Operand} {g h' G:Bool} {z:Operand} (hG:G=true) (hc:e c = .bool g) (hz:e z = .bool false) (hb:e b=cond (G&&(g == true)) (.bool h') undef) (h:K (.bool (g&&h')) w):opW P (.pick c b z) ty e w K :=
 QtG hc hz (fun hg=>by rw [hb,hG,hg];rfl) h
theorem Qvk {c b:Operand} {g h' G:Bool} {z:Operand} (hG:G=true) (hc:e c = .bool g) (hz:e z = .bool true) (hb:e b=cond (G&&(g == false)) (.bool h') undef) (h:K (.bool (g||h')) w):opW P (.pick c z b) ty e w K :=
 Qwj hc hz (fun hg=>by rw [hb,hG,hg];rfl) h
end
end Go.Vx
namespace Go.Vx
open Go.RowKit
def Qm3:List (List Value)->List (Nat × Value)->Option (List (List Value))
 | zs,[]=>some zs
 | zs,(i,v) :: rest=>match zs[i]? with
  | none=>none
  | some z=>cond (Nat.beq v.cells.toList.length z.length) (Qm3 (zs.set i v.cells.toList) rest) none
def offs:Nat->List Nat->List (Nat × Nat)
 | _,[]=>[]
 | o,n :: l=>(o,n) :: offs (o+n) l
theorem Qnd:∀ (zs:List (List Value)) (o i:Nat) (z v:List Value),zs[i]?=some z->v.length=z.length->∃ q,(offs o (zs.map (·.length)))[i]?=some (o+q,z.length)/\q+z.length<=zs.flatten.length/\spl zs.flatten q v=(zs.set i v).flatten
 | [],_,i,_,_,h,_=>by simp at h
 | a :: zs,o,0,z,v,h,hv=>by
  simp at h;subst h
  refine ⟨0,by simp [offs],by simp,?_⟩
  rw [List.set_cons_zero,List.flatten_cons,List.flatten_cons,Qgs _ _ _ (by rw [QQ7];omega),List.take_zero,List.nil_append,Nat.zero_add,hv,List.drop_left]
 | a :: zs,o,i+1,z,v,h,hv=>by
  simp only [List.getElem?_cons_succ] at h
  obtain ⟨q,h1,h2,h3⟩:=Qnd zs (o+a.length) i z v h hv
  refine ⟨a.length+q,?_,?_,?_⟩
  ·simp only [List.map_cons,offs,List.getElem?_cons_succ,h1];congr 2;omega
  ·rw [List.flatten_cons,QQ7];omega
  ·rw [List.set_cons_succ,List.flatten_cons,List.flatten_cons,← h3,Qgs v zs.flatten _ (by omega),Qgs v (a++zs.flatten) _ (by rw [QQ7];omega)]
   rw [List.take_length_add_append,show a.length+q+v.length=a.length+(q+v.length) by omega,List.drop_length_add_append]
   simp only [List.append_assoc]
theorem Qoo:∀ (vs:List (Nat × Value)) (zs ps:List (List Value)),Qm3 zs vs=some ps->QiW (offs 0 (zs.map (·.length))) zs.flatten vs=some ps.flatten
 | [],zs,ps,h=>by simp [Qm3] at h;subst h;rfl
 | (i,v) :: rest,zs,ps,h=>by
  unfold Qm3 at h
  cases hz:zs[i]? with
  | none=>rw [hz] at h;cases h
  | some z =>
   rw [hz] at h
   dsimp only at h
   cases hb:Nat.beq v.cells.toList.length z.length with
   | false=>rw [hb] at h;cases h
   | true =>
    rw [hb,cond_true] at h
    have hl:=Nat.eq_of_beq_eq_true hb
    obtain ⟨q,h1,h2,h3⟩:=Qnd zs 0 i z v.cells.toList hz hl
    rw [Nat.zero_add] at h1
    have ih:=Qoo rest _ _ h
    have hm:(zs.set i v.cells.toList).map (·.length)=zs.map (·.length):=by
     apply List.ext_getElem?
     intro j
     rw [List.getElem?_map,List.getElem?_map,List.getElem?_set]
     by_cases e:i=j
     ·subst e
      rw [if_pos rfl,hz,if_pos (Qav hz)]
      simp [hl]
     ·rw [if_neg e]
    rw [hm] at ih
    unfold QiW
    rw [h1]
    dsimp only
    rw [hb,show Nat.ble (q+z.length) zs.flatten.length=true from (by rw [Nat.ble_eq];exact h2),h3]
    exact ih
section
variable {P:Program} {e:Operand->Value} {ty:TypeId} {w:World} {K:Value->World->Prop}
theorem Qbi {t:Nat} {pl:List (Nat × Nat)} {cs:List Value} {ps:List (Nat × Operand)} {vs:List (Nat × Value)} (zs qs:List (List Value)) (hb:Bt P t pl zs.flatten) (hp:offs 0 (zs.map (·.length))=pl) (hv:ps.map (fun (p:Nat × Operand)=>(p.1,e p.2))=vs) (hf:Qm3 zs vs=some qs) (hc:qs.flatten=cs) (h:K (.agg cs.toArray) w):opW P (.build t ps.toArray) ty e w K:=by
 subst hp
 subst hc
 exact Qbz hb hv (Qoo vs zs qs hf) h
end
end Go.Vx
namespace Go.Vx
theorem QiA {κ ν:Type} [DecidableEq κ] {k x:κ} {v:ν}:∀ {l:List (κ × ν)},mget x (mput k v l)=if x=k then some v else mget x l
 | []=>by unfold mput mget;split<;>rfl
 | (a,b) :: l=>by
  unfold mput
  split
  ·rename_i e
   subst e
   unfold mget
   split<;>rename_i h
   ·rfl
   ·rfl
  ·rename_i e
   unfold mget
   split
   ·rename_i h;subst h;rw [if_neg (fun h=>e h.symm)]
   ·exact QiA
end Go.Vx
namespace Go.Vx
theorem Rd.roomM {α:Type} {enc:α->List Value} {w:World} {a:Option Addr} {n c k:Nat} {l:List α} (h:Rd w (.slice a n c) k (l.map enc)):l.length<=c:=by
 have:=h.room;rw [QQ6] at this;exact this
theorem Rd.dropM {α:Type} {enc:α->List Value} {w:World} {a:Option Addr} {n c k:Nat} {l:List α} (h:Rd w (.slice a n c) k (l.map enc)) (lo:Nat) (h1:lo<=l.length) (n':Nat) (hn:n'=l.length-lo):Rd w (.slice (sla a lo c k) n' (c-lo)) k ((l.drop lo).map enc):=by
 have:=h.subM lo l.length c h1 (Nat.le_refl _) h.roomM (Nat.le_refl _) n' hn
 rwa [List.take_of_length_le (by rw [List.length_drop];omega)] at this
theorem QvO {o:Opn} {k:Nat} (h:k<16):(oc o)[7+k]?=some (.int .u32 (vat o.ctx k)):=by
 have e:oc o=[.int .u8 o.dot.rep,.int .u32 o.dot.seq,.int .u8 o.kind,.int .u16 o.cart,.int .u16 o.item,.int .u16 o.qty,.int .u32 o.tick]++vc o.ctx:=rfl
 rw [e,List.getElem?_append_right (by simp)]
 have:7+k - [Value.int .u8 o.dot.rep,.int .u32 o.dot.seq,.int .u8 o.kind,.int .u16 o.cart,.int .u16 o.item,.int .u16 o.qty,.int .u32 o.tick].length=k:=by simp
 rw [this]
 exact QjH o.ctx k h
structure UpTo (cs:List Int) (last:Int) (out:List Int):Prop where
 inc:out.Pairwise (· < ·)
 mem:∀ x,x∈out↔x∈cs/\x<=last
end Go.Vx
namespace Go.Vx
theorem QhS {α:Type} {motive:List α->Prop} (h0:motive []) (h1:∀ l a,motive l->motive (l++[a])):∀ l,motive l:=by
 suffices key:∀ (n:Nat) (l:List α),l.length=n->motive l from fun l=>key _ l rfl
 intro n
 induction n with
 | zero=>intro l hl;rw [List.eq_nil_of_length_eq_zero hl];exact h0
 | succ n ih =>
  intro l hl
  rcases List.eq_nil_or_concat l with h|⟨m,a,h⟩
  ·subst h;simp at hl
  ·rw [List.concat_eq_append] at h
   subst h
   exact h1 m a (ih m (by simpa using hl))
structure IsClosed (l:List Opn):Prop where
 nd:(l.map (·.dot)).Nodup
 dot:∀ o∈l,QdI o.dot=true
 known:∀ o∈l,∀ r:Nat,r<16->∀ j:Nat,((j+1:Nat):Int)<=min (vat o.ctx r) 1048576->(⟨(r:Int),((j+1:Nat):Int)⟩:Dot)∈l.map (·.dot)
end Go.Vx
namespace Go.Vx
structure EqS (s t:VSt):Prop where
 tick:s.tick=t.tick
 out:s.out=t.out
 items:∀ n,mget n s.items=mget n t.items
theorem EqS.refl (s:VSt):EqS s s:=⟨rfl,rfl,fun _=>rfl⟩
theorem EqS.trans {s t u:VSt} (h:EqS s t) (g:EqS t u):EqS s u:=⟨h.tick.trans g.tick,h.out.trans g.out,fun n=>(h.items n).trans (g.items n)⟩
theorem EqS.step {L:List Opn} {cart:Int} {s t:VSt} (h:EqS s t) (o:Opn):EqS (vstep L cart s o) (vstep L cart t o):=by
 unfold vstep
 split
 ·split
  ·split
   ·exact ⟨by rw [h.tick],rfl,h.items⟩
   ·refine ⟨by rw [h.tick],h.out,fun n=>?_⟩
    show mget n (mput _ _ _)=mget n (mput _ _ _)
    rw [QiA,QiA,h.items,h.items]
  ·exact ⟨by rw [h.tick],h.out,h.items⟩
 ·exact h
end Go.Vx
