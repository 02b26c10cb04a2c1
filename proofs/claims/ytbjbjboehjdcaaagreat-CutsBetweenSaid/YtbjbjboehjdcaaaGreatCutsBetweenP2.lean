/- A part of a proof: what functions of the program compute, and plain facts on that. -/
import Derived.Test.YtbjbjboehjdcaaaGreatCutsBetweenP1
import Derived.OpenShut
import Derived.ChangeArms
import Derived.ProofKit
import Derived.Deep.Slices
import Derived.KernelRfl
import Derived.Test.YtbjbjboehjdcaaaGreatProg
import Derived.WideKeyEntry
import Derived.Laws.CopyRow
import Derived.Lib.AppendZeros
import Derived.Lib.Overlaps
import Derived.Laws.Externs
import Derived.Laws.Cover3
set_option linter.unusedVariables false
set_option linter.unusedSimpArgs false
set_option maxHeartbeats 4000000
set_option maxRecDepth 100000
namespace Go.Vx
open Go.RowKit
def nth {α:Type} (z:α):List α->Nat->α
 | [],_=>z
 | a :: _,0=>a
 | _ :: l,i+1=>nth z l i
theorem Qn2 {α:Type} (z:α) (l:List α) (i:Nat):nth z l i=(l[i]?).getD z:=by
 induction l generalizing i with
 | nil=>simp [nth]
 | cons a l ih=>cases i<;>simp [nth,ih]
def restr (r:List Nat) (J:Env):Env:=fun t=>cond (r.any (Nat.beq t)) (J t) undef
abbrev Vals:=List (Bool × (Env->Value))
def Qj3 (rs:List (List Nat)) (vs:Vals) (J:Env) (j:Nat):Value:=cond (nth (true,fun _=>undef) vs j).1 ((nth (true,fun _=>undef) vs j).2 (restr (nth [] rs j) J)) undef
def Qn6 (ks:List (Option Nat)) (t j:Nat):Bool:=match nth none ks j with|some d=>Nat.beq d t|none=>false
def ceR (ks:List (Option Nat)) (rs:List (List Nat)) (vs:Vals) (yes no:List Nat) (J0 J:Env):Env:=fun t =>
 match yes with
 | []=>cond (no.any (Qn6 ks t)||!(ks.any fun k=>match k with|some d=>Nat.beq d t|none=>false)) (J0 t) (J t)
 | j :: js=>cond (Qn6 ks t j) (Qj3 rs vs J j) (ceR ks rs vs js no J0 J t)
def cD (yes no:List Nat) (D:Nat->Bool):Nat->Bool:=fun j=>cond (yes.any (Nat.beq j)) true (cond (no.any (Nat.beq j)) false (D j))
def QqI (ms:List Nat) (o:Oper) (i:Nat):Bool:=Nat.beq (nth 0 ms i) ((deps o).foldl (fun m k=>m ||| (1 <<< k) ||| nth 0 ms k) 0)
def ndk:List (Option Nat)->Bool
 | []=>true
 | none :: l=>ndk l
 | some d :: l=>!(l.any fun k=>match k with|some e=>Nat.beq e d|none=>false)&&ndk l
def Qh0 (ks:List (Option Nat)) (m:Nat) (t:Nat):Nat->Bool
 | 0=>false
 | k+1=>(Qn6 ks t k&&m.testBit k)||Qh0 ks m t k
def Ql6 (n:Nat) (ks:List (Option Nat)) (ms:List Nat) (o:Oper) (i:Nat):Bool:=match o.guard with|none=>true|some (j,_)=>(nth 0 ms i).testBit j&&match nth none ks j with|some d=>Nat.blt d n|none=>false
def Qlo (n:Nat) (ks:List (Option Nat)) (rs:List (List Nat)) (ms:List Nat) (o:Oper) (i:Nat):Bool:=QqI ms o i&&Ql6 n ks ms o i&&(nth [] rs i).all fun t=>Qh0 ks (nth 0 ms i ||| (1 <<< i)) t ks.length
def Qss:Option Nat->Option Nat->Bool
 | none,none=>true
 | some a,some b=>Nat.beq a b
 | _,_=>false
def QeV (n:Nat) (ks:List (Option Nat)) (rs:List (List Nat)) (ms:List Nat):List Oper->List (Option Nat)->Nat->Bool
 | [],[],_=>true
 | o :: l,k :: m,i=>Qss o.dst k&&Qlo n ks rs ms o i&&QeV n ks rs ms l m (i+1)
 | _,_,_=>false
def QoH (n:Nat) (ks:List (Option Nat)) (rs:List (List Nat)) (ms:List Nat) (l:List Oper):Bool:=rising l&&ndk ks&&QeV n ks rs ms l ks 0
def Qlz (ms:List Nat) (i:Nat) (yes no:List Nat):Bool:=yes.all (fun j=>(nth 0 ms i).testBit j)&&no.all fun j=>(nth 0 ms j).testBit i
theorem Qop {a b:Option Nat} (h:Qss a b=true):a=b:=by
 cases a<;>cases b<;>simp [Qss] at h ⊢
 exact h
section
variable {n:Nat} {ks:List (Option Nat)} {rs:List (List Nat)} {ms:List Nat} {l:List Oper}
theorem Qh1:∀ (m:List Oper) (k:List (Option Nat)) (i:Nat),QeV n ks rs ms m k i=true->∀ j o,m[j]?=some o->k[j]?=some o.dst/\Qlo n ks rs ms o (i+j)=true
 | [],_,_,_,j,o,h=>by simp at h
 | a :: m,[],_,h,_,_,_=>by simp [QeV] at h
 | a :: m,b :: k,i,h,j,o,hj=>by
  simp only [QeV,Bool.and_eq_true] at h
  cases j with
  | zero =>
   simp at hj;subst hj
   have:=Qop h.1.1;subst this
   exact ⟨by simp,by simpa using h.1.2⟩
  | succ j =>
   have:=Qh1 m k (i+1) h.2 j o (by simpa using hj)
   exact ⟨by simpa using this.1,by rw [show i+(j+1)=i+1+j by omega];exact this.2⟩
theorem QgL:∀ (m:List Oper) (k:List (Option Nat)) (i:Nat),QeV n ks rs ms m k i=true->m.length=k.length
 | [],[],_,_=>rfl
 | [],_ :: _,_,h=>by simp [QeV] at h
 | _ :: _,[],_,h=>by simp [QeV] at h
 | a :: m,b :: k,i,h=>by
  simp only [QeV,Bool.and_eq_true] at h
  simp [QgL m k (i+1) h.2]
structure RegF (n:Nat) (ks:List (Option Nat)) (rs:List (List Nat)) (ms:List Nat) (l:List Oper):Prop where
 rise:rising l=true
 nd:ndk ks=true
 len:l.length=ks.length
 at_:∀ j o,l[j]?=some o->ks[j]?=some o.dst/\Qlo n ks rs ms o j=true
theorem Qv5 (h:QoH n ks rs ms l=true):RegF n ks rs ms l:=by
 simp only [QoH,Bool.and_eq_true] at h
 refine ⟨h.1.1,h.1.2,QgL _ _ _ h.2,fun j o hj=>?_⟩
 have:=Qh1 l ks 0 h.2 j o hj
 rw [Nat.zero_add] at this
 exact this
theorem QgE (m k a j:Nat) (h:(m ||| (1 <<< k) ||| a).testBit j=true):m.testBit j=true∨j=k∨a.testBit j=true:=by
 rw [Nat.testBit_or,Nat.testBit_or,Bool.or_eq_true,Bool.or_eq_true] at h
 rcases h with (h|h)|h
 ·exact .inl h
 ·right;left
  rw [Nat.shiftLeft_eq,Nat.one_mul,Nat.testBit_two_pow] at h
  exact (QQ1 h).symm
 ·exact .inr (.inr h)
theorem QiI (ms:List Nat) (j:Nat):∀ (d:List Nat) (m:Nat),(d.foldl (fun m k=>m ||| (1 <<< k) ||| nth 0 ms k) m).testBit j=true->m.testBit j=true∨∃ k∈d,j=k∨(nth 0 ms k).testBit j=true
 | [],m,h=>.inl h
 | k :: d,m,h=>by
  rcases QiI ms j d _ h with h|⟨x,hx,h⟩
  ·rcases QgE _ _ _ _ h with h|h|h
   ·exact .inl h
   ·exact .inr ⟨k,by simp,.inl h⟩
   ·exact .inr ⟨k,by simp,.inr h⟩
  ·exact .inr ⟨x,by simp [hx],h⟩
theorem RegF.done (H:RegF n ks rs ms l) {D:Nat->Bool} (hdc:∀ j o',l[j]?=some o'->D j=true->∀ k∈deps o',D k=true):∀ (i:Nat) (o:Oper),l[i]?=some o->(∀ k∈deps o,D k=true)->∀ j,(nth 0 ms i).testBit j=true->D j=true:=by
 intro i
 induction i using Nat.strongRecOn with
 | _ i ih =>
  intro o ho hd j hj
  have hc:=(H.at_ i o ho).2
  simp only [Qlo,Bool.and_eq_true,QqI] at hc
  rw [Nat.eq_of_beq_eq_true hc.1.1] at hj
  rcases QiI ms j _ _ hj with h|⟨k,hk,h⟩
  ·simp at h
  ·rcases h with h|h
   ·subst h;exact hd j hk
   ·have hki:=QfW H.rise ho hk
    have hkl:k<l.length:=Nat.lt_trans hki (QaT ho)
    exact ih k hki l[k] (List.getElem?_eq_getElem hkl) (hdc k l[k] (List.getElem?_eq_getElem hkl) (hd k hk)) j h
theorem RegF.before (H:RegF n ks rs ms l) {D:Nat->Bool} (hdc:∀ j o',l[j]?=some o'->D j=true->∀ k∈deps o',D k=true) {i j:Nat} (hi:D i=false) (hj:(nth 0 ms j).testBit i=true) (hjl:j<l.length):D j=false:=by
 cases h:D j with
 | false=>rfl
 | true =>
  have:=H.done hdc j l[j] (List.getElem?_eq_getElem hjl) (hdc j l[j] (List.getElem?_eq_getElem hjl) h) i hj
  rw [hi] at this;cases this
theorem QkD:∀ {k:List (Option Nat)},ndk k=true->∀ (i j d:Nat),k[i]?=some (some d)->k[j]?=some (some d)->i=j
 | [],_,i,_,_,h,_=>by simp at h
 | none :: k,h,i,j,d,hi,hj=>by
  cases i with
  | zero=>simp at hi
  | succ i=>cases j with
   | zero=>simp at hj
   | succ j=>rw [QkD (k:=k) h i j d (by simpa using hi) (by simpa using hj)]
 | some e :: k,h,i,j,d,hi,hj=>by
  simp only [ndk,Bool.and_eq_true,Bool.not_eq_true',List.any_eq_false] at h
  have no:∀ m,k[m]?=some (some e)->False:=fun m hm=>by
   have:=h.1 (some e) (List.mem_of_getElem? hm)
   simp at this
  cases i with
  | zero =>
   simp at hi;subst hi
   cases j with
   | zero=>rfl
   | succ j=>exact (no j (by simpa using hj)).elim
  | succ i=>cases j with
   | zero=>simp at hj;subst hj;exact (no i (by simpa using hi)).elim
   | succ j=>rw [QkD (k:=k) h.2 i j d (by simpa using hi) (by simpa using hj)]
theorem QhF {t j:Nat}:Qn6 ks t j=true↔ks[j]?=some (some t):=by
 unfold Qn6
 rw [Qn2]
 cases h:ks[j]? with
 | none=>simp
 | some k=>cases k<;>simp
theorem QgW {m t:Nat}:∀ {n:Nat},Qh0 ks m t n=true->∃ k,k<n/\ks[k]?=some (some t)/\m.testBit k=true
 | 0,h=>by simp [Qh0] at h
 | n+1,h=>by
  simp only [Qh0,Bool.or_eq_true,Bool.and_eq_true] at h
  rcases h with h|h
  ·exact ⟨n,by omega,QhF.1 h.1,h.2⟩
  ·obtain ⟨k,h1,h2,h3⟩:=QgW h;exact ⟨k,by omega,h2,h3⟩
def KnR (ks:List (Option Nat)) (rs:List (List Nat)) (vs:Vals) (J0:Env) (D:Nat->Bool) (J:Env):Prop :=
 ∀ j d,ks[j]?=some (some d)->(D j=true->J d=Qj3 rs vs J j)/\(D j=false->J d=J0 d)
theorem RegF.ds (H:RegF n ks rs ms l) {t:Nat}:(t∈dsts l)↔∃ j:Nat,ks[j]?=some (some t):=by
 unfold dsts
 rw [List.mem_filterMap]
 constructor
 ·rintro ⟨o,ho,hd⟩
  obtain ⟨j,hj⟩:=List.mem_iff_getElem?.1 ho
  exact ⟨j,by rw [(H.at_ j o hj).1,hd]⟩
 ·rintro ⟨j,hj⟩
  have hjl:j<l.length:=by rw [H.len];exact QaT hj
  have h1:=List.getElem?_eq_getElem hjl
  refine ⟨l[j],List.getElem_mem hjl,?_⟩
  have:=(H.at_ j _ h1).1
  rw [hj] at this;simpa using this.symm
theorem RegF.ref (H:RegF n ks rs ms l) {j t:Nat} (hj:j<l.length) (ht:t∈nth [] rs j):∃ k:Nat,ks[k]?=some (some t)/\(k=j∨(nth 0 ms j).testBit k=true):=by
 have hc:=(H.at_ j l[j] (List.getElem?_eq_getElem hj)).2
 simp only [Qlo,Bool.and_eq_true,List.all_eq_true] at hc
 obtain ⟨k,_,h2,h3⟩:=QgW (hc.2 t ht)
 refine ⟨k,h2,?_⟩
 rw [Nat.testBit_or,Bool.or_eq_true,Nat.shiftLeft_eq,Nat.one_mul,Nat.testBit_two_pow] at h3
 rcases h3 with h3|h3
 ·exact .inr h3
 ·exact .inl (QQ1 h3).symm
theorem Qjo {r:List Nat} {J J':Env} (h:∀ t∈r,J t=J' t):restr r J=restr r J':=by
 funext t
 unfold restr
 cases hb:r.any (Nat.beq t) with
 | false=>rfl
 | true =>
  rw [List.any_eq_true] at hb
  obtain ⟨x,hx,he⟩:=hb
  rw [Nat.eq_of_beq_eq_true he]
  exact h x hx
theorem RegF.step (H:RegF n ks rs ms l) {vs:Vals} {J0 J:Env} {D:Nat->Bool} (hdc:∀ j o',l[j]?=some o'->D j=true->∀ k∈deps o',D k=true) {i:Nat} {o:Oper} (ho:l[i]?=some o) (hd:∀ k∈deps o,D k=true) (hD:D i=false) (hK:KnR ks rs vs J0 D J) {v:Value}
  (hv:∀ d,o.dst=some d->v=Qj3 rs vs (Qel J o.dst v) i):KnR ks rs vs J0 (mark D i) (Qel J o.dst v):=by
 intro j e hj
 have hki:=(H.at_ i o ho).1
 have hjl:j<l.length:=by rw [H.len];exact QaT hj
 by_cases hij:j=i
 ·subst hij
  rw [hj] at hki
  have hde:o.dst=some e:=by simpa using hki.symm
  refine ⟨fun _=>?_,fun h=>?_⟩
  ·rw [← hv e hde,hde]
   show upd J e v e=v
   rw [Qfx,if_pos rfl]
  ·unfold mark at h;simp at h
 ·have hne:∀ t,o.dst=some t->e≠t:=fun t ht he=>by
   subst he
   rw [ht] at hki
   exact hij (QkD H.nd j i e hj hki)
  have e1:Qel J o.dst v e=J e:=by
   cases hdd:o.dst with
   | none=>rfl
   | some t =>
    show upd J t v e=J e
    rw [Qfx,if_neg (hne t hdd)]
  have hm:mark D i j=D j:=by unfold mark;rw [Qet];simp [hij]
  rw [hm,e1]
  refine ⟨fun h=>?_,(hK j e hj).2⟩
  rw [(hK j e hj).1 h]
  unfold Qj3
  rw [show restr (nth [] rs j) J=restr (nth [] rs j) (Qel J o.dst v) from Qjo fun t ht=>?_]
  obtain ⟨k,h1,h2⟩:=H.ref hjl ht
  have hk:D k=true:=by
   rcases h2 with h2|h2
   ·subst h2;exact h
   ·exact H.done hdc j l[j] (List.getElem?_eq_getElem hjl) (hdc j l[j] (List.getElem?_eq_getElem hjl) h) k h2
  cases hdd:o.dst with
  | none=>rfl
  | some x =>
   show J t=upd J x v t
   rw [Qfx,if_neg]
   intro he
   subst he
   rw [hdd] at hki
   have:=QkD H.nd k i t h1 hki
   subst this
   rw [hD] at hk;cases hk
theorem RegF.ce (H:RegF n ks rs ms l) {vs:Vals} {J0 J:Env} {D:Nat->Bool} (hK:KnR ks rs vs J0 D J) (hf:∀ t,t ∉ dsts l->J t=J0 t) {no:List Nat} (hno:∀ j∈no,D j=false):∀ {yes:List Nat},(∀ j∈yes,D j=true)->ceR ks rs vs yes no J0 J=J
 | [],_=>by
  funext t
  unfold ceR
  cases hb:(no.any (Qn6 ks t)||!(ks.any fun k=>match k with|some d=>Nat.beq d t|none=>false)) with
  | false=>rfl
  | true =>
   rw [Bool.or_eq_true] at hb
   rcases hb with hb|hb
   ·rw [List.any_eq_true] at hb
    obtain ⟨j,hj,h⟩:=hb
    exact ((hK j t (QhF.1 h)).2 (hno j hj)).symm
   ·refine (hf t fun hm=>?_).symm
    obtain ⟨j,hj⟩:=H.ds.1 hm
    rw [Bool.not_eq_true',List.any_eq_false] at hb
    have:=hb (some t) (List.mem_of_getElem? hj)
    simp at this
 | j :: js,hy=>by
  funext t
  rw [ceR]
  have ih:=H.ce (yes:=js) hK hf hno (fun k hk=>hy k (by simp [hk]))
  cases hb:Qn6 ks t j with
  | false=>rw [cond_false,ih]
  | true=>rw [cond_true,(hK j t (QhF.1 hb)).1 (hy j (by simp))]
theorem Qv2 {D:Nat->Bool} {yes no:List Nat} (hy:∀ j∈yes,D j=true) (hn:∀ j∈no,D j=false):cD yes no D=D:=by
 funext j
 unfold cD
 cases hb:yes.any (Nat.beq j) with
 | true =>
  rw [List.any_eq_true] at hb
  obtain ⟨x,hx,he⟩:=hb
  rw [Nat.eq_of_beq_eq_true he];exact (hy x hx).symm
 | false =>
  rw [cond_false]
  cases hc:no.any (Nat.beq j) with
  | true =>
   rw [List.any_eq_true] at hc
   obtain ⟨x,hx,he⟩:=hc
   rw [Nat.eq_of_beq_eq_true he];exact (hn x hx).symm
  | false=>rfl
end
section
variable {κ:Cx} {P:Program} {n:Nat} {N R:St} {X:Nat->St} {J:Env} {w:World}
def vOk (rs:List (List Nat)) (vs:Vals) (i:Nat) (J:Env) (v:Value):Option Nat->Prop
 | none=>True
 | some d=>v=(nth (true,fun _=>undef) vs i).2 (restr (nth [] rs i) (upd J d v))
def ceG (ks:List (Option Nat)) (rs:List (List Nat)) (vs:Vals) (J:Env) (env:Env):List Nat->Env
 | []=>env
 | j :: js=>fun t=>cond (Qn6 ks t j) ((nth (true,fun _=>undef) vs j).2 (restr (nth [] rs j) J)) (ceG ks rs vs J env js t)
def QsC (vs:Vals):List Nat->Prop
 | []=>True
 | j :: js=>(nth (true,fun _=>undef) vs j).1=true/\QsC vs js
abbrev LfT:=(Nat->Bool)->Env->List Res
def Ob (P:Program) (n:Nat) (w0:World) (M:Nat->Prop) (J0:Env) (ks:List (Option Nat)) (rs:List (List Nat)) (ms:List Nat) (vs:Vals) (Lf:LfT) (i:Nat) (o:Oper):Prop :=
 ∃ yes no:List Nat,Qlz ms i yes no=true /\
  match o.guard with
  | none=>(nth (true,fun _=>undef) vs i).1=true/\∀ D J w,Own w0 M w (Lf (cD yes (i :: no) D) J) ->
    opW P o.op o.type (ev n (ceR ks rs vs yes (i :: no) J0 J)) w fun v w'=>vOk rs vs i J v o.dst/\Own w0 M w' (Lf (mark (cD yes (i :: no) D) i) (Qel J o.dst v))
  | some (j,want)=>∃ (T:Bool) (gy:List Nat),Qlz ms i gy []=true/\(∀ J,(nth (true,fun _=>undef) vs j).2 J = .bool T)/\(nth (true,fun _=>undef) vs i).1=((nth (true,fun _=>undef) vs j).1&&(T == want)) /\
    (∀ D J w,(nth (true,fun _=>undef) vs i).1=false->Own w0 M w (Lf (cD yes (i :: no) D) J)->Own w0 M w (Lf (mark (cD yes (i :: no) D) i) (Qel J o.dst undef))) /\
    ((nth (true,fun _=>undef) vs i).1=true->QsC vs gy) /\
    ∀ D J w,(nth (true,fun _=>undef) vs i).1=true->Own w0 M w (Lf (cD yes (i :: no) D) J) ->
     opW P o.op o.type (ev n (ceG ks rs vs J (ceR ks rs vs yes (i :: no) J0 J) gy)) w fun v w'=>vOk rs vs i J v o.dst/\Own w0 M w' (Lf (mark (cD yes (i :: no) D) i) (Qel J o.dst v))
def Obs (P:Program) (n:Nat) (w0:World) (M:Nat->Prop) (J0:Env) (ks:List (Option Nat)) (rs:List (List Nat)) (ms:List Nat) (vs:Vals) (Lf:LfT):Nat->List Oper->Prop
 | _,[]=>True
 | i,o :: l=>Ob P n w0 M J0 ks rs ms vs Lf i o/\Obs P n w0 M J0 ks rs ms vs Lf (i+1) l
variable {w0:World} {M:Nat->Prop} {J0:Env} {ks:List (Option Nat)} {rs:List (List Nat)} {ms:List Nat} {vs:Vals} {Lf:LfT}
theorem Ql3:∀ (m:List Oper) (k:Nat),Obs P n w0 M J0 ks rs ms vs Lf k m->∀ j o,m[j]?=some o->Ob P n w0 M J0 ks rs ms vs Lf (k+j) o
 | [],_,_,_,_,h=>by simp at h
 | o :: m,k,h,j,o',hj=>by
  cases j with
  | zero=>simp at hj;subst hj;exact h.1
  | succ j =>
   have:=Ql3 m (k+1) h.2 j o' (by simpa using hj)
   rw [show k+(j+1)=k+1+j by omega]
   exact this
theorem ob {i:Nat} {dst:Option Tmp} {op:Op} {ty:TypeId} {pos:String} {after:Array Edge} (yes no:List Nat) (hyn:Qlz ms i yes no=true) (hg:(nth (true,fun _=>undef) vs i).1=true)
  (h:∀ D J w,Own w0 M w (Lf (cD yes (i :: no) D) J)->opW P op ty (ev n (ceR ks rs vs yes (i :: no) J0 J)) w fun v w'=>vOk rs vs i J v dst/\Own w0 M w' (Lf (mark (cD yes (i :: no) D) i) (Qel J dst v))) :
  Ob P n w0 M J0 ks rs ms vs Lf i { dst,op,type:=ty,pos,after,guard:=none }:=⟨yes,no,hyn,hg,h⟩
theorem obgy {i:Nat} {dst:Option Tmp} {op:Op} {ty:TypeId} {pos:String} {after:Array Edge} {j:Nat} {want:Bool} (yes no gy:List Nat) (T:Bool) (hyn:(Qlz ms i yes no&&Qlz ms i gy [])=true) (hT:∀ J,(nth (true,fun _=>undef) vs j).2 J = .bool T)
  (hg:(nth (true,fun _=>undef) vs i).1=((nth (true,fun _=>undef) vs j).1&&(T == want)))
  (hn:∀ D J w,(nth (true,fun _=>undef) vs i).1=false->Own w0 M w (Lf (cD yes (i :: no) D) J)->Own w0 M w (Lf (mark (cD yes (i :: no) D) i) (Qel J dst undef)))
  (hgy:(nth (true,fun _=>undef) vs i).1=true->QsC vs gy)
  (h:∀ D J w,(nth (true,fun _=>undef) vs i).1=true->Own w0 M w (Lf (cD yes (i :: no) D) J)->opW P op ty (ev n (ceG ks rs vs J (ceR ks rs vs yes (i :: no) J0 J) gy)) w fun v w'=>vOk rs vs i J v dst/\Own w0 M w' (Lf (mark (cD yes (i :: no) D) i) (Qel J dst v))) :
  Ob P n w0 M J0 ks rs ms vs Lf i { dst,op,type:=ty,pos,after,guard:=some (j,want) }:=by
 rw [Bool.and_eq_true] at hyn
 exact ⟨yes,no,hyn.1,T,gy,hyn.2,hT,hg,hn,hgy,h⟩
theorem obg {i:Nat} {dst:Option Tmp} {op:Op} {ty:TypeId} {pos:String} {after:Array Edge} {j:Nat} {want:Bool} (yes no:List Nat) (T:Bool) (hyn:Qlz ms i yes no=true) (hT:∀ J,(nth (true,fun _=>undef) vs j).2 J = .bool T)
  (hg:(nth (true,fun _=>undef) vs i).1=((nth (true,fun _=>undef) vs j).1&&(T == want)))
  (hn:∀ D J w,(nth (true,fun _=>undef) vs i).1=false->Own w0 M w (Lf (cD yes (i :: no) D) J)->Own w0 M w (Lf (mark (cD yes (i :: no) D) i) (Qel J dst undef)))
  (h:∀ D J w,(nth (true,fun _=>undef) vs i).1=true->Own w0 M w (Lf (cD yes (i :: no) D) J)->opW P op ty (ev n (ceR ks rs vs yes (i :: no) J0 J)) w fun v w'=>vOk rs vs i J v dst/\Own w0 M w' (Lf (mark (cD yes (i :: no) D) i) (Qel J dst v))) :
  Ob P n w0 M J0 ks rs ms vs Lf i { dst,op,type:=ty,pos,after,guard:=some (j,want) }:=⟨yes,no,hyn,T,[],rfl,hT,hg,hn,fun _=>trivial,h⟩
theorem oa {i:Nat} {dst:Option Tmp} {op:Op} {ty:TypeId} {pos:String} {after:Array Edge} (yes:List Nat)
  (h:∀ D J w,Own w0 M w (Lf (cD yes [i] D) J)->opW P op ty (ev n (ceR ks rs vs yes [i] J0 J)) w fun v w'=>vOk rs vs i J v dst/\Own w0 M w' (Lf (mark (cD yes [i] D) i) (Qel J dst v)))
  (hyn:Qlz ms i yes []=true:=by rfl) (hg:(nth (true,fun _=>undef) vs i).1=true:=by rfl) :
  Ob P n w0 M J0 ks rs ms vs Lf i { dst,op,type:=ty,pos,after,guard:=none }:=⟨yes,[],hyn,hg,h⟩
theorem og {i:Nat} {dst:Option Tmp} {op:Op} {ty:TypeId} {pos:String} {after:Array Edge} {j:Nat} {want:Bool} {T:Bool} (yes:List Nat)
  (h:∀ D J w,(nth (true,fun _=>undef) vs i).1=true->Own w0 M w (Lf (cD yes [i] D) J)->opW P op ty (ev n (ceR ks rs vs yes [i] J0 J)) w fun v w'=>vOk rs vs i J v dst/\Own w0 M w' (Lf (mark (cD yes [i] D) i) (Qel J dst v)))
  (hT:∀ J,(nth (true,fun _=>undef) vs j).2 J = .bool T:=by intro _;rfl) (hyn:Qlz ms i yes []=true:=by rfl)
  (hg:(nth (true,fun _=>undef) vs i).1=((nth (true,fun _=>undef) vs j).1&&(T == want)):=by rfl)
  (hn:∀ D J w,(nth (true,fun _=>undef) vs i).1=false->Own w0 M w (Lf (cD yes [i] D) J)->Own w0 M w (Lf (mark (cD yes [i] D) i) (Qel J dst undef)):=by intro _ _ _ _ h;exact h) :
  Ob P n w0 M J0 ks rs ms vs Lf i { dst,op,type:=ty,pos,after,guard:=some (j,want) }:=obg yes [] T hyn hT hg hn h
theorem oy {i:Nat} {dst:Option Tmp} {op:Op} {ty:TypeId} {pos:String} {after:Array Edge} {j:Nat} {want:Bool} {T:Bool} (yes gy:List Nat)
  (h:∀ D J w,(nth (true,fun _=>undef) vs i).1=true->Own w0 M w (Lf (cD yes [i] D) J)->opW P op ty (ev n (ceG ks rs vs J (ceR ks rs vs yes [i] J0 J) gy)) w fun v w'=>vOk rs vs i J v dst/\Own w0 M w' (Lf (mark (cD yes [i] D) i) (Qel J dst v)))
  (hT:∀ J,(nth (true,fun _=>undef) vs j).2 J = .bool T:=by intro _;rfl) (hyn:(Qlz ms i yes []&&Qlz ms i gy [])=true:=by rfl)
  (hg:(nth (true,fun _=>undef) vs i).1=((nth (true,fun _=>undef) vs j).1&&(T == want)):=by rfl)
  (hn:∀ D J w,(nth (true,fun _=>undef) vs i).1=false->Own w0 M w (Lf (cD yes [i] D) J)->Own w0 M w (Lf (mark (cD yes [i] D) i) (Qel J dst undef)):=by intro _ _ _ _ h;exact h)
  (hgy:(nth (true,fun _=>undef) vs i).1=true->QsC vs gy:=by intro hG;first|exact ⟨hG,trivial⟩|exact ⟨hG,hG,trivial⟩|exact ⟨hG,hG,hG,trivial⟩|exact ⟨hG,hG,hG,hG,trivial⟩) :
  Ob P n w0 M J0 ks rs ms vs Lf i { dst,op,type:=ty,pos,after,guard:=some (j,want) }:=obgy yes [] gy T hyn hT hg hn hgy h
theorem Zr {w0 w:World} {M:Nat->Prop} {L:List Res} {v V:Value} (hs:Own w0 M w L) (h:v=V):Ending.returned v = .returned V/\Own w0 M w []:=⟨congrArg _ h,hs.take 0⟩
theorem Zz {p q:Prop} (h:p) (e:q:=by exact rfl):q/\p:=⟨e,h⟩
theorem RegF.ceg {l:List Oper} (H:RegF n ks rs ms l) {J:Env} {D:Nat->Bool} (hK:KnR ks rs vs J0 D J):∀ {gy:List Nat},(∀ j∈gy,D j=true)->QsC vs gy->ceG ks rs vs J J gy=J
 | [],_,_=>rfl
 | j :: js,hy,hg=>by
  funext t
  show cond (Qn6 ks t j) ((nth (true,fun _=>undef) vs j).2 (restr (nth [] rs j) J)) (ceG ks rs vs J J js t)=J t
  cases hb:Qn6 ks t j with
  | false=>rw [cond_false,H.ceg hK (fun k hk=>hy k (by simp [hk])) hg.2]
  | true =>
   rw [cond_true,(hK j t (QhF.1 hb)).1 (hy j (by simp))]
   unfold Qj3
   rw [hg.1,cond_true]
def Qn3 (w0:World) (M:Nat->Prop) (J0:Env) (ks:List (Option Nat)) (rs:List (List Nat)) (vs:Vals) (Lf:LfT) (len:Nat) (D:Nat->Bool):St:=fun J w=>KnR ks rs vs J0 (upto len D) J/\Own w0 M w (Lf (upto len D) J)
theorem Qqs {i:Nat} {yes no:List Nat} (h:Qlz ms i yes no=true):(∀ j∈yes,(nth 0 ms i).testBit j=true)/\∀ j∈no,(nth 0 ms j).testBit i=true:=by
 simp only [Qlz,Bool.and_eq_true,List.all_eq_true] at h
 exact h
theorem Qh4 {l:List Oper} (H:RegF n ks rs ms l) {i:Nat} {o:Oper} (ho:l[i]?=some o) (h:Ob P n w0 M J0 ks rs ms vs Lf i o):Qgq P n l J0 (Qn3 w0 M J0 ks rs vs Lf l.length) i o:=by
 intro D0 J w hD0 hd0 hdc0 hf hI
 have hil:=QaT ho
 obtain ⟨hK,hO⟩:=hI
 have hup:∀ j,j<l.length->upto l.length D0 j=D0 j:=fun j hj=>by unfold upto;rw [Qck];simp [hj]
 have hD:upto l.length D0 i=false:=by rw [hup i hil];exact hD0
 have hd:∀ k∈deps o,upto l.length D0 k=true:=fun k hk=>by rw [hup k (Nat.lt_trans (QfW H.rise ho hk) hil)];exact hd0 k hk
 have hdc:∀ j o',l[j]?=some o'->upto l.length D0 j=true->∀ k∈deps o',upto l.length D0 k=true:=fun j o' hj hDj k hk=>by
  have hjl:=QaT hj
  rw [hup j hjl] at hDj
  rw [hup k (Nat.lt_trans (QfW H.rise hj hk) hjl)]
  exact hdc0 j o' hj hDj k hk
 have hmk:upto l.length (mark D0 i)=mark (upto l.length D0) i:=QlB _ _ _ hil
 obtain ⟨yes,no,hyn,h⟩:=h
 obtain ⟨hy,hn⟩:=Qqs hyn
 have hy':∀ j∈yes,upto l.length D0 j=true:=fun j hj=>H.done hdc i o ho hd j (hy j hj)
 have hn':∀ j∈i :: no,upto l.length D0 j=false:=fun j hj=>by
  rcases List.mem_cons.1 hj with e|e
  ·subst e;exact hD
  ·by_cases hjl:j<l.length
   ·exact H.before hdc hD (hn j e) hjl
   ·unfold upto;rw [Qck];simp [hjl]
 have ce:ceR ks rs vs yes (i :: no) J0 J=J:=H.ce hK hf hn' hy'
 have cd:cD yes (i :: no) (upto l.length D0)=upto l.length D0:=Qv2 hy' hn'
 have hki:=(H.at_ i o ho).1
 have fin:∀ v w',(∀ d,o.dst=some d->v=Qj3 rs vs (Qel J o.dst v) i)->Own w0 M w' (Lf (mark (upto l.length D0) i) (Qel J o.dst v))->Qn3 w0 M J0 ks rs vs Lf l.length (mark D0 i) (Qel J o.dst v) w':=fun v w' hv hO=>by
  refine ⟨?_,?_⟩
  ·rw [hmk];exact H.step hdc ho hd hD hK hv
  ·rw [hmk];exact hO
 cases hg:o.guard with
 | none =>
  rw [hg] at h
  obtain ⟨h1,h2⟩:=h
  left
  refine ⟨by unfold Region.wanted;rw [hg],?_⟩
  have:=h2 (upto l.length D0) J w (by rw [cd];exact hO)
  rw [ce,cd] at this
  refine Qeh this fun v w' ⟨hv,hO'⟩=>fin v w' (fun d hd=>?_) hO'
  unfold Qj3
  rw [h1,cond_true]
  rw [hd] at hv ⊢
  exact hv
 | some gw =>
  obtain ⟨j,want⟩:=gw
  rw [hg] at h
  obtain ⟨T,gy,hgyn,hT,hgi,hno,hgyk,hyes⟩:=h
  have hc:=(H.at_ i o ho).2
  simp only [Qlo,Bool.and_eq_true,Ql6,hg] at hc
  have hDj:=H.done hdc i o ho hd j hc.1.2.1
  have hjl:j<l.length:=by
   rcases Nat.lt_or_ge j l.length with q|q
   ·exact q
   ·unfold upto at hDj;rw [Qck] at hDj;simp at hDj;omega
  have hlj:=List.getElem?_eq_getElem hjl
  have hkj:=(H.at_ j _ hlj).1
  have hvj:Qj3 rs vs J j=cond (nth (true,fun _=>undef) vs j).1 (.bool T) undef:=by
   unfold Qj3;rw [hT]
  have hwd:(match nth none ks j with|some d=>Nat.blt d n|none=>false)=true:=hc.1.2.2
  have hgv:gv n J l j=Qj3 rs vs J j:=by
   rw [Qn2,hkj,Option.getD_some] at hwd
   cases hdj:l[j].dst with
   | none=>rw [hdj] at hwd;cases hwd
   | some dj =>
    rw [hdj] at hwd
    have hwd':Nat.blt dj n=true:=hwd
    have:gv n J l j=cond (Nat.blt dj n) (J dj) undef:=by unfold gv;rw [hlj];dsimp only;rw [hdj]
    rw [this,hwd',cond_true]
    rw [hdj] at hkj
    exact (hK j dj hkj).1 hDj
  have hw:∀ b,(nth (true,fun _=>undef) vs i).1=b->Region.wanted o (yielded l.toArray (frd n [] J).tmps)=b:=fun b hb=>by
   rw [← hb,hgi]
   exact Qtt hg (by rw [hgv,hvj])
  cases hb:(nth (true,fun _=>undef) vs i).1 with
  | true =>
   left
   refine ⟨hw true hb,?_⟩
   have eg:ceG ks rs vs J J gy=J:=H.ceg hK (fun k hk=>H.done hdc i o ho hd k ((Qqs hgyn).1 k hk)) (hgyk hb)
   have:=hyes (upto l.length D0) J w hb (by rw [cd];exact hO)
   rw [ce,cd,eg] at this
   refine Qeh this fun v w' ⟨hv,hO'⟩=>fin v w' (fun d hd=>?_) hO'
   unfold Qj3
   rw [hb,cond_true]
   rw [hd] at hv ⊢
   exact hv
  | false =>
   right
   refine ⟨hw false hb,?_⟩
   have:=hno (upto l.length D0) J w hb (by rw [cd];exact hO)
   rw [cd] at this
   refine fin undef w (fun d hd=>?_) this
   unfold Qj3
   rw [hb,cond_false]
def Qq8 (ks:List (Option Nat)) (rs:List (List Nat)) (vs:Vals) (J1 J0:Env):List Nat->Env
 | []=>mix (ks.filterMap id) J1 J0
 | j :: js=>match nth none ks j with
  | some d=>upd (Qq8 ks rs vs J1 J0 js) d (Qj3 rs vs J1 j)
  | none=>Qq8 ks rs vs J1 J0 js
theorem QqF {l:List Oper} (H:RegF n ks rs ms l) {J1:Env} (hf:∀ t,t ∉ dsts l->J1 t=J0 t) (hK:∀ j d,ks[j]?=some (some d)->J1 d=Qj3 rs vs J1 j):∀ live,J1=Qq8 ks rs vs J1 J0 live
 | []=>by
  refine Qap fun t ht=>hf t fun hm=>?_
  obtain ⟨j,hj⟩:=H.ds.1 hm
  exact ht (List.mem_filterMap.2 ⟨some t,List.mem_of_getElem? hj,rfl⟩)
 | j :: js=>by
  have ih:=QqF H hf hK js
  unfold Qq8
  have hh:nth none ks j=(ks[j]?).getD none:=Qn2 _ _ _
  cases hk:ks[j]? with
  | none=>rw [hk] at hh;simp only [Option.getD_none] at hh;rw [hh];exact ih
  | some o =>
   rw [hk] at hh
   cases o with
   | none=>simp only [Option.getD_some] at hh;rw [hh];exact ih
   | some d=>simp only [Option.getD_some] at hh;rw [hh];exact Qal ih (hK j d hk)
theorem QmZ {len:Nat}:∀ (D D':Nat->Bool) (J:Env) (w:World),(∀ j,j<len->D j=D' j)->Qn3 w0 M J0 ks rs vs Lf len D J w->Qn3 w0 M J0 ks rs vs Lf len D' J w:=by
 intro D D' J w h hI
 have:upto len D=upto len D':=by
  funext j
  unfold upto
  rw [Qck]
  by_cases hj:j<len
  ·simp [hj,h j hj]
  ·simp [hj]
 unfold Qn3 at *
 rw [← this];exact hI
theorem QnV {l:List Oper} (H:RegF n ks rs ms l) {J1:Env} {w1:World} (hf:∀ t,t ∉ dsts l->J1 t=J0 t) (h:Qn3 w0 M J0 ks rs vs Lf l.length (fun _=>true) J1 w1) (live:List Nat) :
  J1=Qq8 ks rs vs J1 J0 live/\Own w0 M w1 (Lf (upto ks.length fun _=>true) J1):=by
 refine ⟨QqF H hf (fun j d hj=>(h.1 j d hj).1 ?_) live,by rw [← H.len];exact h.2⟩
 have hjl:j<l.length:=by rw [H.len];exact QaT hj
 unfold upto;rw [Qck];simp [hjl]
theorem Qim {l:List Oper} {w1:World} (h0:Own w0 M w1 (Lf (fun _=>false) J0)):Qn3 w0 M J0 ks rs vs Lf l.length (fun _=>false) J0 w1:=by
 unfold Qn3
 rw [QkY]
 exact ⟨fun j d _=>⟨fun h=>by simp at h,fun _=>rfl⟩,h0⟩
theorem QaH {id:Nat} {l:List Oper} (hm:P.follows .mixedOrders=true) (ks:List (Option Nat)) (rs:List (List Nat)) (ms:List Nat) (vs:Vals) (Lf:LfT) (live:List Nat) (hchk:QoH n ks rs ms l=true) (h0:Own w0 M w (Lf (fun _=>false) J)) (hs:Obs P n w0 M J ks rs ms vs Lf 0 l)
  (he:∀ J1 w1 J2,J2=Qq8 ks rs vs J1 J live->Own w0 M w1 (Lf (upto ks.length fun _=>true) J1)->N J2 w1):W κ P n (.region id l.toArray true) N R X J w:=by
 have H:=Qv5 hchk
 refine Qtk hm H.rise (Qn3 w0 M J ks rs vs Lf l.length) QmZ (Qim h0.drew) (fun i o ho=>Qh4 H ho (by simpa using Ql3 l 0 hs i o ho)) fun J1 w1 hf hI=>?_
 obtain ⟨e,hO⟩:=QnV H hf hI live
 exact he J1 w1 J1 e hO
theorem Qbw {id:Nat} {l:List Oper} (ks:List (Option Nat)) (rs:List (List Nat)) (ms:List Nat) (vs:Vals) (Lf:LfT) (live:List Nat) (hchk:QoH n ks rs ms l=true) (h0:Own w0 M w (Lf (fun _=>false) J)) (hs:Obs P n w0 M J ks rs ms vs Lf 0 l)
  (he:∀ J1 w1 J2,J2=Qq8 ks rs vs J1 J live->Own w0 M w1 (Lf (upto ks.length fun _=>true) J1)->N J2 w1):W κ P n (.region id l.toArray false) N R X J w:=by
 have H:=Qv5 hchk
 refine Qvo H.rise (Qn3 w0 M J ks rs vs Lf l.length) QmZ (Qim h0) (fun i o ho=>Qh4 H ho (by simpa using Ql3 l 0 hs i o ho)) fun J1 w1 hf hI=>?_
 obtain ⟨e,hO⟩:=QnV H hf hI live
 exact he J1 w1 J1 e hO
abbrev pv (v:Value):Bool × (Env->Value):=(true,fun _=>v)
abbrev pg (g:Bool) (v:Value):Bool × (Env->Value):=(g,fun _=>v)
abbrev pn:Bool × (Env->Value):=(true,fun _=>undef)
end
end Go.Vx
namespace Go.Vx
open Go.RowKit
section
variable {P:Program} {e:Operand->Value} {ty:TypeId} {w:World} {K:Value->World->Prop}
theorem Qbn {c b:Operand} {g h':Bool} {z:Operand} (hc:e c = .bool g) (hz:e z = .bool false) (hb:e b=cond (g == true) (.bool h') undef) (h:K (.bool (g&&h')) w):opW P (.pick c b z) ty e w K :=
 Qs2 hc hz (fun hg=>by rw [hb,hg];rfl) h
theorem Qcs {c b:Operand} {g h':Bool} {z:Operand} (hc:e c = .bool g) (hz:e z = .bool true) (hb:e b=cond (g == false) (.bool h') undef) (h:K (.bool (g||h')) w):opW P (.pick c z b) ty e w K :=
 Qwf hc hz (fun hg=>by rw [hb,hg];rfl) h
theorem Qj9 {c b:Operand} {g h' G:Bool} {z:Operand} (hG:G=true) (hc:e c = .bool g) (hz:e z = .bool false) (hb:e b=cond (G&&(g == true)) (.bool h') undef) (h:K (.bool (g&&h')) w):opW P (.pick c b z) ty e w K :=
 Qs2 hc hz (fun hg=>by rw [hb,hG,hg];rfl) h
end
end Go.Vx
namespace Go.Vx
open Go.RowKit
def QnI:List (List Value)->List (Nat × Value)->Option (List (List Value))
 | zs,[]=>some zs
 | zs,(i,v) :: rest=>match zs[i]? with
  | none=>none
  | some z=>cond (Nat.beq v.cells.toList.length z.length) (QnI (zs.set i v.cells.toList) rest) none
def offs:Nat->List Nat->List (Nat × Nat)
 | _,[]=>[]
 | o,n :: l=>(o,n) :: offs (o+n) l
theorem Qmt:∀ (zs:List (List Value)) (o i:Nat) (z v:List Value),zs[i]?=some z->v.length=z.length->∃ q,(offs o (zs.map (·.length)))[i]?=some (o+q,z.length)/\q+z.length<=zs.flatten.length/\spl zs.flatten q v=(zs.set i v).flatten
 | [],_,i,_,_,h,_=>by simp at h
 | a :: zs,o,0,z,v,h,hv=>by
  simp at h;subst h
  refine ⟨0,by simp [offs],by simp,?_⟩
  rw [List.set_cons_zero,List.flatten_cons,List.flatten_cons,QcQ _ _ _ (by rw [QQ7];omega),List.take_zero,List.nil_append,Nat.zero_add,hv,List.drop_left]
 | a :: zs,o,i+1,z,v,h,hv=>by
  simp only [List.getElem?_cons_succ] at h
  obtain ⟨q,h1,h2,h3⟩:=Qmt zs (o+a.length) i z v h hv
  refine ⟨a.length+q,?_,?_,?_⟩
  ·simp only [List.map_cons,offs,List.getElem?_cons_succ,h1];congr 2;omega
  ·rw [List.flatten_cons,QQ7];omega
  ·rw [List.set_cons_succ,List.flatten_cons,List.flatten_cons,← h3,QcQ v zs.flatten _ (by omega),QcQ v (a++zs.flatten) _ (by rw [QQ7];omega)]
   rw [List.take_length_add_append,show a.length+q+v.length=a.length+(q+v.length) by omega,List.drop_length_add_append]
   simp only [List.append_assoc]
theorem Qnd:∀ (vs:List (Nat × Value)) (zs ps:List (List Value)),QnI zs vs=some ps->Qh9 (offs 0 (zs.map (·.length))) zs.flatten vs=some ps.flatten
 | [],zs,ps,h=>by simp [QnI] at h;subst h;rfl
 | (i,v) :: rest,zs,ps,h=>by
  unfold QnI at h
  cases hz:zs[i]? with
  | none=>rw [hz] at h;cases h
  | some z =>
   rw [hz] at h
   dsimp only at h
   cases hb:Nat.beq v.cells.toList.length z.length with
   | false=>rw [hb] at h;cases h
   | true =>
    rw [hb,cond_true] at h
    have hl:=Nat.eq_of_beq_eq_true hb
    obtain ⟨q,h1,h2,h3⟩:=Qmt zs 0 i z v.cells.toList hz hl
    rw [Nat.zero_add] at h1
    have ih:=Qnd rest _ _ h
    have hm:(zs.set i v.cells.toList).map (·.length)=zs.map (·.length):=by
     apply List.ext_getElem?
     intro j
     rw [List.getElem?_map,List.getElem?_map,List.getElem?_set]
     by_cases e:i=j
     ·subst e
      rw [if_pos rfl,hz,if_pos (QaT hz)]
      simp [hl]
     ·rw [if_neg e]
    rw [hm] at ih
    unfold Qh9
    rw [h1]
    dsimp only
    rw [hb,show Nat.ble (q+z.length) zs.flatten.length=true from (by rw [Nat.ble_eq];exact h2),h3]
    exact ih
section
variable {P:Program} {e:Operand->Value} {ty:TypeId} {w:World} {K:Value->World->Prop}
theorem QcC {t:Nat} {pl:List (Nat × Nat)} {cs:List Value} {ps:List (Nat × Operand)} {vs:List (Nat × Value)} (zs qs:List (List Value)) (hb:Bt P t pl zs.flatten) (hp:offs 0 (zs.map (·.length))=pl) (hv:ps.map (fun (p:Nat × Operand)=>(p.1,e p.2))=vs) (hf:QnI zs vs=some qs) (hc:qs.flatten=cs) (h:K (.agg cs.toArray) w):opW P (.build t ps.toArray) ty e w K:=by
 subst hp
 subst hc
 exact QbD hb hv (Qnd vs zs qs hf) h
end
end Go.Vx
namespace Go.Vx
theorem Qe5 (a b c:Int) (h1:leI a b=true) (h2:leI b c=true):leI a c=true:=by unfold leI at *;simp at *;omega
theorem QeQ (a b:Int):(leI a b||leI b a)=true:=by unfold leI;simp;omega
theorem Qdt:∀ {l m:List Int},l.Perm m->l.Pairwise (fun x y=>leI x y=true)->m.Pairwise (fun x y=>leI x y=true)->l=m
 | [],m,h,_,_=>by have:=h.length_eq;simp at this;exact (List.eq_nil_of_length_eq_zero this.symm).symm
 | a :: l,[],h,_,_=>by have:=h.length_eq;simp at this
 | a :: l,b :: m,h,h1,h2=>by
  rw [List.pairwise_cons] at h1 h2
  have hab:a=b:=by
   have ha:a∈b :: m:=h.subset (by simp)
   have hb:b∈a :: l:=h.symm.subset (by simp)
   rcases List.mem_cons.1 ha with e|ha
   ·exact e
   ·rcases List.mem_cons.1 hb with e|hb
    ·exact e.symm
    ·have:=h1.1 b hb;have:=h2.1 a ha;unfold leI at *;simp at *;omega
  subst hab
  rw [Qdt (List.Perm.cons_inv h) h1.2 h2.2]
theorem Qla {l m:List Int} (h:l.Perm m):Qa7 l=Qa7 m :=
 Qdt ((List.mergeSort_perm l leI).trans (h.trans (List.mergeSort_perm m leI).symm)) (List.pairwise_mergeSort Qe5 QeQ l) (List.pairwise_mergeSort Qe5 QeQ m)
theorem Qgm {l:List Int} {x:Int}:x∈Qa7 l↔x∈l:=List.mem_mergeSort
theorem QeR (l:List Int):(Qa7 l).length=l.length:=List.length_mergeSort l
theorem Qfy {l:List Int} (h:l.Nodup):(Qa7 l).Pairwise (· < ·):=by
 have h1:(Qa7 l).Pairwise (fun x y=>leI x y=true):=List.pairwise_mergeSort Qe5 QeQ l
 have h2:(Qa7 l).Nodup:=(List.mergeSort_perm l leI).nodup_iff.2 h
 refine (h1.and h2).imp fun {a b} ⟨h3,h4⟩=>?_
 unfold leI at h3
 have:=QQ1 h3
 have h4':a≠b:=h4
 omega
theorem QrY {k:IntKind} {a b:Int} (h:Value.int k a=Value.int k b):a=b:=by simpa using h
theorem Qmm {k:IntKind} {ks m:List Int} (h:(m.map (Value.int k)).Perm (ks.map (Value.int k))):Qa7 m=Qa7 ks:=Qla (QjA (fun _ _=>QrY) h)
theorem Qej {κ ν:Type} [DecidableEq κ] {k x:κ} {v:ν}:∀ {l:List (κ × ν)},mget x (mput k v l)=if x=k then some v else mget x l
 | []=>by unfold mput mget;split<;>rfl
 | (a,b) :: l=>by
  unfold mput
  split
  ·rename_i e
   subst e
   unfold mget
   split<;>rename_i h
   ·rfl
   ·rfl
  ·rename_i e
   unfold mget
   split
   ·rename_i h;subst h;rw [if_neg (fun h=>e h.symm)]
   ·exact Qej
end Go.Vx
namespace Go.Vx
theorem Qkh {κ ν:Type} [DecidableEq κ] {k:κ} {v:ν} {l:List (κ × ν)}:(mput k v l).length<=l.length+1:=by
 have:=congrArg List.length (QcA (k:=k) (v:=v) (l:=l))
 rw [QQ6] at this
 rw [this];split
 ·rw [QQ6];omega
 ·rw [QQ7,QQ6];simp
def QaC (l:List Opn) (v:Vec):List Opn:=l.filter fun o=>Qbv v o.dot
theorem Qe6 {l:List Opn} {v:Vec} {k:Nat} {out:List Opn} (h:out=QaC (l.take k) v) (hk:k<l.length) (hh:Qbv v (gd l k).dot=true):out++[gd l k]=QaC (l.take (k+1)) v:=by
 unfold QaC at *;rw [Qd5 hk,List.filter_append,← h];simp [hh]
theorem QhO {l:List Opn} {v:Vec} {k:Nat} {out:List Opn} (h:out=QaC (l.take k) v) (hk:k<l.length) (hh:Qbv v (gd l k).dot=false):out=QaC (l.take (k+1)) v:=by
 unfold QaC at *;rw [Qd5 hk,List.filter_append,← h];simp [hh]
theorem Qcz {α:Type} {l:List α} {k:Nat} (h:¬k<l.length):l.take k=l:=List.take_of_length_le (by omega)
theorem Qkn {α β:Type} [Inhabited α] {f:α->β} {l:List α} {k:Nat} {out:List β} (h:out=(l.take k).map f) (hk:k<l.length):out++[f (gd l k)]=(l.take (k+1)).map f:=by
 rw [Qd5 hk,List.map_append,← h];rfl
theorem Qka {p:Nat->Bool} {k:Nat} (h:∀ j:Nat,j<k->p j=true) (hk:p k=true):∀ j:Nat,j<k+1->p j=true:=by
 intro j hj
 by_cases e:j=k
 ·subst e;exact hk
 ·exact h j (by omega)
end Go.Vx
namespace Go.Vx
theorem Rd.roomM {α:Type} {enc:α->List Value} {w:World} {a:Option Addr} {n c k:Nat} {l:List α} (h:Rd w (.slice a n c) k (l.map enc)):l.length<=c:=by
 have:=h.room;rw [QQ6] at this;exact this
theorem Rd.dropM {α:Type} {enc:α->List Value} {w:World} {a:Option Addr} {n c k:Nat} {l:List α} (h:Rd w (.slice a n c) k (l.map enc)) (lo:Nat) (h1:lo<=l.length) (n':Nat) (hn:n'=l.length-lo):Rd w (.slice (sla a lo c k) n' (c-lo)) k ((l.drop lo).map enc):=by
 have:=h.subM lo l.length c h1 (Nat.le_refl _) h.roomM (Nat.le_refl _) n' hn
 rwa [List.take_of_length_le (by rw [List.length_drop];omega)] at this
theorem QuH {o:Opn} {k:Nat} (h:k<16):(oc o)[7+k]?=some (.int .u32 (vat o.ctx k)):=by
 have e:oc o=[.int .u8 o.dot.rep,.int .u32 o.dot.seq,.int .u8 o.kind,.int .u16 o.cart,.int .u16 o.item,.int .u16 o.qty,.int .u32 o.tick]++vc o.ctx:=rfl
 rw [e,List.getElem?_append_right (by simp)]
 have:7+k - [Value.int .u8 o.dot.rep,.int .u32 o.dot.seq,.int .u8 o.kind,.int .u16 o.cart,.int .u16 o.item,.int .u16 o.qty,.int .u32 o.tick].length=k:=by simp
 rw [this]
 exact Qhr o.ctx k h
def QgZ (l:List Opn) (v:Vec) (rep:Int):Int:=(((l.filter fun o=>decide (o.dot.rep=rep)&&Qbv v o.dot).length:Nat):Int)
def Qn4 (l:List Opn) (k:Nat):Bool:=!QbJ (gd l k).dot||(l.take k).any fun o=>decide (o.dot=(gd l k).dot)
def Qe4 (l:List Opn) (o:Opn):Bool:=(List.range 16).all fun r=>decide (QgZ l o.ctx (r:Int)=min (vat o.ctx r) 1048576)
def Qbc (l:List Opn):Bool:=((List.range l.length).all fun k=>!Qn4 l k)&&l.all fun o=>Qe4 l o
theorem QjB {l:List Opn} {k:Nat} (hk:k<l.length) (h:Qn4 l k=true):Qbc l=false:=by
 unfold Qbc
 rw [Bool.and_eq_false_iff];left
 rw [List.all_eq_false];exact ⟨k,List.mem_range.2 hk,by simp [h]⟩
theorem QkP {l:List Opn} {k r:Nat} (hk:k<l.length) (hr:r<16) (h:¬QgZ l (gd l k).ctx (r:Int)=min (vat (gd l k).ctx r) 1048576):Qbc l=false:=by
 unfold Qbc
 rw [Bool.and_eq_false_iff];right
 rw [List.all_eq_false]
 refine ⟨gd l k,QbG hk,?_⟩
 unfold Qe4
 rw [Bool.not_eq_true,List.all_eq_false];exact ⟨r,List.mem_range.2 hr,by simp [h]⟩
theorem Qjt {l:List Opn} (h1:∀ j:Nat,j<l.length->Qn4 l j=false) (h2:∀ j:Nat,j<l.length->Qe4 l (gd l j)=true):Qbc l=true:=by
 unfold Qbc
 rw [Bool.and_eq_true,List.all_eq_true,List.all_eq_true]
 refine ⟨fun k hk=>by rw [h1 k (List.mem_range.1 hk)];rfl,fun o ho=>?_⟩
 obtain ⟨j,hj,rfl⟩:=List.mem_iff_getElem.1 ho
 have:=h2 j hj
 simpa [gd,hj] using this
theorem Qk0 {l:List Opn} {o:Opn} (h:∀ r:Nat,r<16->QgZ l o.ctx (r:Int)=min (vat o.ctx r) 1048576):Qe4 l o=true:=by
 unfold Qe4;rw [List.all_eq_true];intro r hr;exact QQ3 (h r (List.mem_range.1 hr))
theorem QqZ {l:List Opn} {v:Vec} {rep n:Int} {k:Nat} (h:n=QgZ (l.take k) v rep) (hk:k<l.length) (h1:(gd l k).dot.rep=rep) (h2:Qbv v (gd l k).dot=true):n+1=QgZ (l.take (k+1)) v rep:=by
 unfold QgZ at *;rw [Qd5 hk,List.filter_append,QQ7,h];simp [h1,h2]
theorem Qtv {l:List Opn} {v:Vec} {rep n:Int} {k:Nat} (h:n=QgZ (l.take k) v rep) (hk:k<l.length) (h1:(decide ((gd l k).dot.rep=rep)&&Qbv v (gd l k).dot)=false):n=QgZ (l.take (k+1)) v rep:=by
 unfold QgZ at *;rw [Qd5 hk,List.filter_append,QQ7,h];simp [h1]
structure UpTo (cs:List Int) (last:Int) (out:List Int):Prop where
 inc:out.Pairwise (· < ·)
 mem:∀ x,x∈out↔x∈cs/\x<=last
end Go.Vx
namespace Go.Vx
theorem QmM (x:Int):Qa7 [x]=[x]:=Qdt (List.mergeSort_perm [x] leI) (List.pairwise_mergeSort Qe5 QeQ [x]) (by simp)
theorem QmX:Qa7 []=[]:=List.eq_nil_of_length_eq_zero (QeR [])
def QfL (v:Value) (k:Nat):Value :=
 match v with
 | .agg cs=>cs.getD k undef
 | _=>undef
end Go.Vx
namespace Go.Vx
section
variable {α:Type} [Inhabited α] {p:α->Bool} {l out:List α} {k:Nat}
theorem QhN (h:out=(l.take k).filter p) (hk:k<l.length) (hp:p (gd l k)=true):out++[gd l k]=(l.take (k+1)).filter p:=by
 rw [Qd5 hk,List.filter_append,← h];simp [hp]
theorem Qfr (h:out=(l.take k).filter p) (hk:k<l.length) (hp:p (gd l k)=false):out=(l.take (k+1)).filter p:=by
 rw [Qd5 hk,List.filter_append,← h];simp [hp]
end
theorem Qc8 {l:List Opn} {v:Vec} {o:Opn} (h:o∈QaC l v):o∈l:=(List.mem_filter.1 h).1
theorem QeP (l:List Opn) (v:Vec):(QaC l v).length<=l.length:=List.length_filter_le _ _
theorem Qbs {α:Type} {motive:List α->Prop} (h0:motive []) (h1:∀ l a,motive l->motive (l++[a])):∀ l,motive l:=by
 suffices key:∀ (n:Nat) (l:List α),l.length=n->motive l from fun l=>key _ l rfl
 intro n
 induction n with
 | zero=>intro l hl;rw [List.eq_nil_of_length_eq_zero hl];exact h0
 | succ n ih =>
  intro l hl
  rcases List.eq_nil_or_concat l with h|⟨m,a,h⟩
  ·subst h;simp at hl
  ·rw [List.concat_eq_append] at h
   subst h
   exact h1 m a (ih m (by simpa using hl))
structure IsClosed (l:List Opn):Prop where
 nd:(l.map (·.dot)).Nodup
 dot:∀ o∈l,QbJ o.dot=true
 known:∀ o∈l,∀ r:Nat,r<16->∀ j:Nat,((j+1:Nat):Int)<=min (vat o.ctx r) 1048576->(⟨(r:Int),((j+1:Nat):Int)⟩:Dot)∈l.map (·.dot)
theorem Qha {l:List Opn}:(l.map (·.dot)).Nodup↔∀ k,k<l.length->(gd l k).dot ∉ (l.take k).map (·.dot):=by
 constructor
 ·intro h k hk hm
  obtain ⟨o,ho,he⟩:=List.mem_map.1 hm
  obtain ⟨j,hj,rfl⟩:=List.mem_iff_getElem.1 ho
  rw [List.length_take] at hj
  have hjk:j<k:=by omega
  rw [List.getElem_take] at he
  have:=List.pairwise_iff_getElem.1 h j k (by simpa using (by omega:j<l.length)) (by simpa using hk) hjk
  simp only [List.getElem_map] at this
  exact this (by rw [he];simp [gd,hk])
 ·intro h
  rw [List.Nodup,List.pairwise_iff_getElem]
  intro i j hi hj hij e
  simp only [QQ6] at hi hj
  refine h j hj ?_
  rw [List.mem_map]
  refine ⟨l[i],?_,?_⟩
  ·rw [List.mem_take_iff_getElem];exact ⟨i,by omega,rfl⟩
  ·simp only [List.getElem_map] at e
   rw [e];simp [gd,hj]
theorem QqB {α:Type} [Inhabited α] {l:List α} {p:α->Prop}:(∀ x∈l,p x)↔∀ k,k<l.length->p (gd l k):=by
 constructor
 ·intro h k hk;exact h _ (QbG hk)
 ·intro h x hx
  obtain ⟨j,hj,rfl⟩:=List.mem_iff_getElem.1 hx
  have:=h j hj
  simpa [gd,hj] using this
theorem Qhx {α:Type} [DecidableEq α]:∀ {F T:List α},F.Nodup->(∀ x∈F,x∈T)->F.length<=T.length
 | [],T,_,_=>Nat.zero_le _
 | a :: F,T,h,hs=>by
  rw [List.nodup_cons] at h
  have ha:=hs a (by simp)
  have:=Qhx (F:=F) (T:=T.erase a) h.2 (fun x hx=>(List.mem_erase_of_ne (fun e=>h.1 (by rw [← e];exact hx))).2 (hs x (by simp [hx])))
  rw [List.length_erase_of_mem ha] at this
  have:=List.length_pos_of_mem ha
  simp only [List.length_cons];omega
theorem Qsh {α:Type} [DecidableEq α] {F T:List α} (h:F.Nodup) (hs:∀ x∈F,x∈T) (hl:T.length<=F.length):∀ x∈T,x∈F:=by
 intro x hx
 by_cases hf:x∈F
 ·exact hf
 ·have:=Qhx (F:=F) (T:=T.erase x) h (fun y hy=>(List.mem_erase_of_ne (fun e=>hf (by rw [← e];exact hy))).2 (hs y hy))
  rw [List.length_erase_of_mem hx] at this
  have:=List.length_pos_of_mem hx
  omega
theorem QlQ {l:List Opn} {v:Vec} (hv:QbM v) {r:Nat} (hnd:(l.map (·.dot)).Nodup) (hd:∀ o∈l,QbJ o.dot=true) (hok:∀ o∈l,Qc9 o.dot) (hr:r<16):QgZ l v (r:Int)=min (vat v r) 1048576↔∀ j:Nat,((j+1:Nat):Int)<=min (vat v r) 1048576->(⟨(r:Int),((j+1:Nat):Int)⟩:Dot)∈l.map (·.dot):=by
 have hv0:=Qhd hv r
 let F:=(l.filter fun o=>decide (o.dot.rep=(r:Int))&&Qbv v o.dot).map (·.dot)
 let T:List Dot:=(List.range (min (vat v r) 1048576).toNat).map fun j=>⟨(r:Int),((j+1:Nat):Int)⟩
 have hT:T.length=(min (vat v r) 1048576).toNat:=by simp [T]
 have hF:QgZ l v (r:Int)=((F.length:Nat):Int):=by simp [F,QgZ]
 have hFn:F.Nodup:=hnd.sublist ((List.filter_sublist).map _)
 have hTn:T.Nodup:=by
  show List.Pairwise _ _
  rw [List.pairwise_map]
  refine List.nodup_range.imp fun {a b} (h:a≠b)=>?_
  intro e
  rw [Dot.mk.injEq] at e
  exact h (by omega)
 have mF:∀ x,x∈F↔x∈l.map (·.dot)/\x.rep=(r:Int)/\x.seq<=vat v r:=by
  intro x
  simp only [F,List.mem_map,List.mem_filter,Bool.and_eq_true,decide_eq_true_eq]
  constructor
  ·rintro ⟨o,⟨ho,h1,h2⟩,rfl⟩
   unfold Qbv at h2
   rw [Bool.and_eq_true,decide_eq_true_iff,h1,Int.toNat_natCast] at h2
   exact ⟨⟨o,ho,rfl⟩,h1,h2.2⟩
  ·rintro ⟨⟨o,ho,rfl⟩,h1,h2⟩
   refine ⟨o,⟨ho,h1,?_⟩,rfl⟩
   unfold Qbv
   rw [hd o ho,Bool.true_and,decide_eq_true_iff,h1,Int.toNat_natCast];exact h2
 have mT:∀ x,x∈T↔x.rep=(r:Int)/\1<=x.seq/\x.seq<=min (vat v r) 1048576:=by
  intro x
  simp only [T,List.mem_map,List.mem_range]
  constructor
  ·rintro ⟨j,hj,rfl⟩
   refine ⟨rfl,?_,?_⟩
   ·show (1:Int)<=((j+1:Nat):Int);omega
   ·show ((j+1:Nat):Int)<=_;omega
  ·rintro ⟨h1,h2,h3⟩
   exact ⟨(x.seq-1).toNat,by omega,Qfc h1.symm (by show (((x.seq-1).toNat+1:Nat):Int)=x.seq;omega)⟩
 have hsub:∀ x∈F,x∈T:=by
  intro x hx
  obtain ⟨h1,h2,h3⟩:=(mF x).1 hx
  obtain ⟨o,ho,rfl⟩:=List.mem_map.1 h1
  have:=QaP (hd o ho)
  exact (mT _).2 ⟨h2,by omega,by omega⟩
 have hle:=Qhx hFn hsub
 rw [hF]
 constructor
 ·intro h j hj
  have:=Qsh hFn hsub (by omega) ⟨(r:Int),((j+1:Nat):Int)⟩ ((mT _).2 ⟨rfl,by show (1:Int)<=((j+1:Nat):Int);omega,hj⟩)
  exact ((mF _).1 this).1
 ·intro h
  have hsub2:∀ x∈T,x∈F:=by
   intro x hx
   obtain ⟨h1,h2,h3⟩:=(mT x).1 hx
   have hj:=h (x.seq-1).toNat (by omega)
   have e:(⟨(r:Int),(((x.seq-1).toNat+1:Nat):Int)⟩:Dot)=x:=Qfc h1.symm (by show (((x.seq-1).toNat+1:Nat):Int)=x.seq;omega)
   rw [e] at hj
   exact (mF x).2 ⟨hj,h1,by omega⟩
  have:=Qhx hTn hsub2
  omega
theorem Qjn {l:List Opn} (hl:∀ o∈l,Qcc o):Qbc l=true↔IsClosed l:=by
 unfold Qbc
 rw [Bool.and_eq_true,List.all_eq_true,List.all_eq_true]
 have hb:∀ k,(Qn4 l k=false↔(gd l k).dot ∉ (l.take k).map (·.dot)/\QbJ (gd l k).dot=true):=by
  intro k
  unfold Qn4
  rw [Bool.or_eq_false_iff,Bool.not_eq_false',List.any_eq_false]
  constructor
  ·rintro ⟨h1,h2⟩
   refine ⟨fun hm=>?_,h1⟩
   obtain ⟨o,ho,he⟩:=List.mem_map.1 hm
   exact h2 o ho (QQ3 he)
  ·rintro ⟨h1,h2⟩
   exact ⟨h2,fun o ho he=>h1 (List.mem_map.2 ⟨o,ho,QQ1 he⟩)⟩
 have part:(∀ x∈List.range l.length,(!Qn4 l x)=true)↔(l.map (·.dot)).Nodup/\∀ o∈l,QbJ o.dot=true:=by
  constructor
  ·intro h1
   have h1':∀ k,k<l.length->Qn4 l k=false:=fun k hk=>by have:=h1 k (List.mem_range.2 hk);simpa using this
   exact ⟨Qha.2 fun k hk'=>((hb k).1 (h1' k hk')).1,QqB.2 fun k hk'=>((hb k).1 (h1' k hk')).2⟩
  ·rintro ⟨h1,h2⟩ k hk
   have hk2:=List.mem_range.1 hk
   rw [(hb k).2 ⟨Qha.1 h1 k hk2,QqB.1 h2 k hk2⟩];rfl
 rw [part]
 have hk:(l.map (·.dot)).Nodup->(∀ o∈l,QbJ o.dot=true)->∀ o∈l,(Qe4 l o=true↔∀ r:Nat,r<16->∀ j:Nat,((j+1:Nat):Int)<=min (vat o.ctx r) 1048576->(⟨(r:Int),((j+1:Nat):Int)⟩:Dot)∈l.map (·.dot)):=by
  intro h1 h2 o ho
  unfold Qe4
  rw [List.all_eq_true]
  constructor
  ·intro h r hr
   exact (QlQ (hl o ho).2.2.2.2.2.2 h1 h2 (fun o ho=>(hl o ho).1) hr).1 (QQ1 (h r (List.mem_range.2 hr)))
  ·intro h r hr
   have hr2:=List.mem_range.1 hr
   exact QQ3 ((QlQ (hl o ho).2.2.2.2.2.2 h1 h2 (fun o ho=>(hl o ho).1) hr2).2 (h r hr2))
 constructor
 ·rintro ⟨⟨h1,h2⟩,h3⟩;exact ⟨h1,h2,fun o ho=>(hk h1 h2 o ho).1 (h3 o ho)⟩
 ·intro h;exact ⟨⟨h.nd,h.dot⟩,fun o ho=>(hk h.nd h.dot o ho).2 (h.known o ho)⟩
end Go.Vx
namespace Go.Vx
structure EqS (s t:VSt):Prop where
 tick:s.tick=t.tick
 out:s.out=t.out
 items:∀ n,mget n s.items=mget n t.items
theorem EqS.refl (s:VSt):EqS s s:=⟨rfl,rfl,fun _=>rfl⟩
theorem EqS.trans {s t u:VSt} (h:EqS s t) (g:EqS t u):EqS s u:=⟨h.tick.trans g.tick,h.out.trans g.out,fun n=>(h.items n).trans (g.items n)⟩
theorem EqS.step {L:List Opn} {cart:Int} {s t:VSt} (h:EqS s t) (o:Opn):EqS (vstep L cart s o) (vstep L cart t o):=by
 unfold vstep
 split
 ·split
  ·split
   ·exact ⟨by rw [h.tick],rfl,h.items⟩
   ·refine ⟨by rw [h.tick],h.out,fun n=>?_⟩
    show mget n (mput _ _ _)=mget n (mput _ _ _)
    rw [Qej,Qej,h.items,h.items]
  ·exact ⟨by rw [h.tick],h.out,h.items⟩
 ·exact h
end Go.Vx
namespace Go.Vx
structure Cen where
 cart:Int
 item:Int
 qty:Int
 kind:Int
 dot:Dot
 count:Int
 deriving DecidableEq
instance:Inhabited Cen:=⟨⟨0,0,0,0,⟨0,0⟩,0⟩⟩
def cec (e:Cen):List Value:=[.int .u16 e.cart,.int .u16 e.item,.int .u16 e.qty,.int .u8 e.kind,.int .u8 e.dot.rep,.int .u32 e.dot.seq,.int .u64 e.count]
theorem Qbj (e:Cen):∀ x∈cec e,x.oneCell'=true:=by
 intro x hx;simp only [cec,List.mem_cons,List.not_mem_nil,or_false] at hx;rcases hx with h|h|h|h|h|h|h<;>subst h<;>rfl
structure Lst where
 cart:Int
 tick:Int
 deriving DecidableEq
instance:Inhabited Lst:=⟨⟨0,0⟩⟩
def lsc (x:Lst):List Value:=[.int .u16 x.cart,.int .u32 x.tick]
theorem Qcf (x:Lst):∀ y∈lsc x,y.oneCell'=true:=by
 intro y hy;simp only [lsc,List.mem_cons,List.not_mem_nil,or_false] at hy;rcases hy with h|h<;>subst h<;>rfl
structure Sta where
 known:Vec
 ents:List Cen
 ticks:List Lst
def QiU (e:Cen):Prop:=(0<=e.cart/\e.cart<65536)/\(0<=e.item/\e.item<65536)/\(0<=e.qty/\e.qty<65536)/\(0<=e.kind/\e.kind<256)/\Qc9 e.dot/\(0<=e.count/\e.count<18446744073709551616)
def QhX (x:Lst):Prop:=(0<=x.cart/\x.cart<65536)/\(0<=x.tick/\x.tick<4294967296)
def Qce (a b:Cen):Bool:=if a.cart=b.cart then (if a.dot.rep=b.dot.rep then decide (a.dot.seq<b.dot.seq) else decide (a.dot.rep<b.dot.rep)) else decide (a.cart<b.cart)
def QbS (a b:Cen):Int:=orI [Qa0 a.cart b.cart,Qa0 a.dot.rep b.dot.rep,Qa0 a.dot.seq b.dot.seq]
theorem QdF (a b:Cen):Qce a b=true↔(a.cart<b.cart∨(a.cart=b.cart/\(a.dot.rep<b.dot.rep∨(a.dot.rep=b.dot.rep/\a.dot.seq<b.dot.seq)))):=by
 unfold Qce
 split
 ·split
  ·rw [decide_eq_true_iff];omega
  ·rw [decide_eq_true_iff];omega
 ·rw [decide_eq_true_iff];omega
theorem QdI (a b:Cen):QbS a b<0↔Qce a b=true:=by
 rw [QdF]
 unfold QbS orI Qa0
 rcases Int.lt_trichotomy a.cart b.cart with h|h|h
 ·simp [h]
 ·rw [if_neg (by omega),if_neg (by omega)]
  rcases Int.lt_trichotomy a.dot.rep b.dot.rep with h2|h2|h2
  ·simp [h,h2]
  ·rw [if_neg (by omega),if_neg (by omega)]
   rcases Int.lt_trichotomy a.dot.seq b.dot.seq with h3|h3|h3
   ·simp [h,h2,h3]
   ·rw [if_neg (by omega),if_neg (by omega)]
    simp;omega
   ·rw [if_neg (by omega),if_pos h3]
    simp;omega
  ·rw [if_neg (by omega),if_pos h2]
   simp;omega
 ·rw [if_neg (by omega),if_pos h]
  simp;omega
theorem Qcp {a b c:Cen} (h:Qce a b=true) (g:Qce b c=true):Qce a c=true:=by rw [QdF] at *;omega
theorem QbW (a:Cen):Qce a a=false:=by
 rw [Bool.eq_false_iff,ne_eq,QdF];omega
def QhR (l:List Cen):Prop:=l.Pairwise fun a b=>Qce a b=true
theorem QmW {l m:List Cen} (hl:QhR l) (hm:QhR m) (h:∀ x,x∈l↔x∈m):l=m:=by
 induction l generalizing m with
 | nil =>
  cases m with
  | nil=>rfl
  | cons b m=>exact absurd ((h b).2 (by simp)) (by simp)
 | cons a l ih =>
  cases m with
  | nil=>exact absurd ((h a).1 (by simp)) (by simp)
  | cons b m =>
   rw [QhR,List.pairwise_cons] at hl hm
   have hab:a=b:=by
    rcases List.mem_cons.1 ((h a).1 (by simp)) with e|e
    ·exact e
    ·rcases List.mem_cons.1 ((h b).2 (by simp)) with e2|e2
     ·exact e2.symm
     ·have:=Qcp (hl.1 b e2) (hm.1 a e)
      rw [QbW] at this;cases this
   subst hab
   congr 1
   refine ih hl.2 hm.2 fun x=>?_
   have hx:=h x
   simp only [List.mem_cons] at hx
   constructor
   ·intro hxl
    rcases hx.1 (.inr hxl) with e|e
    ·subst e;have:=hl.1 x hxl;rw [QbW] at this;cases this
    ·exact e
   ·intro hxm
    rcases hx.2 (.inr hxm) with e|e
    ·subst e;have:=hm.1 x hxm;rw [QbW] at this;cases this
    ·exact e
def QdG (l:List Lst):Prop:=l.Pairwise fun a b=>a.cart<b.cart
theorem QrC {l m:List Lst} (hl:QdG l) (hm:QdG m) (h:∀ x,x∈l↔x∈m):l=m:=by
 induction l generalizing m with
 | nil =>
  cases m with
  | nil=>rfl
  | cons b m=>exact absurd ((h b).2 (by simp)) (by simp)
 | cons a l ih =>
  cases m with
  | nil=>exact absurd ((h a).1 (by simp)) (by simp)
  | cons b m =>
   rw [QdG,List.pairwise_cons] at hl hm
   have hab:a=b:=by
    rcases List.mem_cons.1 ((h a).1 (by simp)) with e|e
    ·exact e
    ·rcases List.mem_cons.1 ((h b).2 (by simp)) with e2|e2
     ·exact e2.symm
     ·have h1:=hl.1 b e2;have h2:=hm.1 a e;omega
   subst hab
   congr 1
   refine ih hl.2 hm.2 fun x=>?_
   have hx:=h x
   simp only [List.mem_cons] at hx
   constructor
   ·intro hxl
    rcases hx.1 (.inr hxl) with e|e
    ·subst e;have:=hl.1 x hxl;omega
    ·exact e
   ·intro hxm
    rcases hx.2 (.inr hxm) with e|e
    ·subst e;have:=hm.1 x hxm;omega
    ·exact e
def QaM (ts:List Lst) (c:Int):Option Int:=(ts.find? fun x=>decide (x.cart=c)).map (·.tick)
def QcT (e:Cen):Bool:=if e.kind=1 then decide (1<=e.qty) else if e.kind=2 then true else decide (e.kind=4)&&(decide (e.item=0)&&decide (e.qty=0))
def Qjc (s:Sta) (e:Cen):Bool:=(QaM s.ticks e.cart).isSome&&QcT e&&Qbv s.known e.dot&&decide (1<=e.count)&&decide (e.count<=16777217)
structure RightC (s:Sta):Prop where
 known:QaR s.known 16=true
 rt:QdG s.ticks
 tick:∀ x∈s.ticks,x.tick<=1073741824
 re:QhR s.ents
 ent:∀ e∈s.ents,Qjc s e=true
 nd:(s.ents.map (·.dot)).Nodup
def QaG (e:Cen):Opn:=⟨e.dot,e.kind,e.cart,e.item,e.qty,0,vzero⟩
def Qlx (o:Opn):Cen:=⟨o.cart,o.item,o.qty,o.kind,o.dot,QbH o⟩
theorem Qij (o x:Opn):QaE o (QaG (Qlx x))=QaE o x:=rfl
def Qkd (e:Cen):List Cen->List Cen
 | []=>[e]
 | x :: l=>if Qce e x=true then e :: x :: l else x :: Qkd e l
theorem QeN {e x:Cen}:∀ {l:List Cen},x∈Qkd e l↔x=e∨x∈l
 | []=>by simp [Qkd]
 | y :: l=>by
  unfold Qkd;split
  ·simp
  ·rw [List.mem_cons,QeN,List.mem_cons]
   constructor
   ·rintro (h|h|h)
    ·exact .inr (.inl h)
    ·exact .inl h
    ·exact .inr (.inr h)
   ·rintro (h|h|h)
    ·exact .inr (.inl h)
    ·exact .inl h
    ·exact .inr (.inr h)
theorem Qex {a b:Cen} (h:a.dot≠b.dot):Qce a b=true∨Qce b a=true:=by
 have hd:¬(a.dot.rep=b.dot.rep/\a.dot.seq=b.dot.seq):=fun ⟨h1,h2⟩=>h (by cases ha:a.dot;cases hb:b.dot;rw [ha,hb] at h1 h2;simp_all)
 rw [QdF,QdF];omega
theorem Qhf {e:Cen}:∀ {l:List Cen},QhR l->e.dot ∉ l.map (·.dot)->QhR (Qkd e l)
 | [],_,_=>by simp [Qkd,QhR]
 | x :: l,h,hn=>by
  rw [List.map_cons,List.mem_cons] at hn
  have hx:=List.pairwise_cons.1 h
  unfold Qkd;split
  ·rename_i ha
   refine List.pairwise_cons.2 ⟨fun y hy=>?_,h⟩
   rcases List.mem_cons.1 hy with e1|e1
   ·subst e1;exact ha
   ·exact Qcp ha (hx.1 y e1)
  ·rename_i ha
   refine List.pairwise_cons.2 ⟨fun y hy=>?_,Qhf hx.2 fun hm=>hn (.inr hm)⟩
   rcases QeN.1 hy with e1|e1
   ·subst e1
    rcases Qex (a:=y) (b:=x) (fun e2=>hn (.inl e2)) with g|g
    ·exact absurd g ha
    ·exact g
   ·exact hx.1 y e1
def Qdv (c t:Int):List Lst->List Lst
 | []=>[⟨c,t⟩]
 | x :: l=>if x.cart=c then ⟨c,max x.tick t⟩ :: l else if c<x.cart then ⟨c,t⟩ :: x :: l else x :: Qdv c t l
theorem Qdd {c t d:Int}:∀ {l:List Lst},QdG l->QaM (Qdv c t l) d=if d=c then some (match QaM l c with|none=>t|some u=>max u t) else QaM l d
 | [],_=>by
  unfold Qdv QaM
  by_cases h:d=c
  ·subst h;simp
  ·simp [h,show ¬c=d from fun e=>h e.symm]
 | x :: l,h=>by
  have hx:=List.pairwise_cons.1 h
  unfold Qdv
  split
  ·rename_i hc
   by_cases hd:d=c
   ·subst hd;simp [QaM,hc]
   ·simp [QaM,hc,hd,show ¬c=d from fun e=>hd e.symm]
  ·rename_i hc
   split
   ·rename_i hlt
    have hno:QaM (x :: l) c=none:=by
     unfold QaM
     rw [Option.map_eq_none_iff,List.find?_eq_none]
     intro y hy
     rcases List.mem_cons.1 hy with e1|e1
     ·subst e1;simpa using hc
     ·have:=hx.1 y e1;simp;omega
    by_cases hd:d=c
    ·subst hd;rw [if_pos rfl,hno];simp [QaM]
    ·rw [if_neg hd];simp [QaM,show ¬c=d from fun e=>hd e.symm]
   ·have ih:=Qdd (c:=c) (t:=t) (d:=d) hx.2
    by_cases hd:x.cart=d
    ·subst hd
     rw [if_neg hc];simp [QaM]
    ·have e1:QaM (x :: Qdv c t l) d=QaM (Qdv c t l) d:=by simp [QaM,hd]
     have e2:QaM (x :: l) d=QaM l d:=by simp [QaM,hd]
     have e3:QaM (x :: l) c=QaM l c:=by simp [QaM,hc]
     rw [e1,ih,e2,e3]
theorem Qke {c t:Int} {x:Lst}:∀ {l:List Lst},x∈Qdv c t l->x.cart=c∨x∈l
 | [],h=>by simp [Qdv] at h;subst h;exact .inl rfl
 | y :: l,h=>by
  unfold Qdv at h
  split at h
  ·rcases List.mem_cons.1 h with e|e
   ·subst e;exact .inl rfl
   ·exact .inr (by simp [e])
  ·split at h
   ·rcases List.mem_cons.1 h with e|e
    ·subst e;exact .inl rfl
    ·exact .inr e
   ·rcases List.mem_cons.1 h with e|e
    ·subst e;exact .inr (by simp)
    ·rcases Qke e with g|g
     ·exact .inl g
     ·exact .inr (by simp [g])
theorem QhL {c t:Int}:∀ {l:List Lst},QdG l->QdG (Qdv c t l)
 | [],_=>by simp [Qdv,QdG]
 | x :: l,h=>by
  have hx:=List.pairwise_cons.1 h
  unfold Qdv;split
  ·rename_i hc
   exact List.pairwise_cons.2 ⟨fun y hy=>by have:=hx.1 y hy;show c<y.cart;omega,hx.2⟩
  ·split
   ·rename_i hlt
    refine List.pairwise_cons.2 ⟨fun y hy=>?_,h⟩
    rcases List.mem_cons.1 hy with e|e
    ·subst e;exact hlt
    ·have:=hx.1 y e;show c<y.cart;omega
   ·refine List.pairwise_cons.2 ⟨fun y hy=>?_,QhL hx.2⟩
    rcases Qke hy with e|e
    ·rw [e];omega
    ·exact hx.1 y e
theorem Qei {l:List Lst} (h:QdG l) (x:Lst):x∈l↔QaM l x.cart=some x.tick:=by
 induction l with
 | nil=>simp [QaM]
 | cons y l ih =>
  have hy:=List.pairwise_cons.1 h
  rw [List.mem_cons]
  by_cases he:y.cart=x.cart
  ·have e1:QaM (y :: l) x.cart=some y.tick:=by simp [QaM,he]
   rw [e1]
   constructor
   ·rintro (e|e)
    ·subst e;rfl
    ·have:=hy.1 x e;omega
   ·intro e
    left
    cases x;cases y
    simp at he e
    subst he;subst e;rfl
  ·have e1:QaM (y :: l) x.cart=QaM l x.cart:=by simp [QaM,he]
   rw [e1,← ih hy.2]
   constructor
   ·rintro (e|e)
    ·subst e;exact absurd rfl he
    ·exact e
   ·exact .inr
theorem QjX {l m:List Lst} (hl:QdG l) (hm:QdG m) (h:∀ c,QaM l c=QaM m c):l=m :=
 QrC hl hm fun x=>by rw [Qei hl,Qei hm,h]
end Go.Vx
namespace Go.Vx
def Qb7 (o:Opn):Bool:=if o.kind=1 then decide (1<=o.qty) else if o.kind=2 then true else if o.kind=3 then decide (o.qty=0) else if o.kind=4∨o.kind=5 then decide (o.item=0)&&decide (o.qty=0) else false
def Qcu (o:Opn):Bool:=decide (o.dot.rep<16)&&QbJ o.dot&&QaR o.ctx 16&&decide (vat o.ctx o.dot.rep.toNat=o.dot.seq-1)&&decide (o.tick<=1073741824)&&Qb7 o
def QbF (known:Vec) (o:Opn):Int:=if Qcu o=false then 2 else if Qbv known o.dot=true then 8 else if vle o.ctx known=false then 9 else 0
def Qbq (l:List Opn):Vec:=l.foldl (fun v o=>vset v o.dot.rep.toNat o.dot.seq) vzero
theorem Qda (l:List Opn) (o:Opn):Qbq (l++[o])=vset (Qbq l) o.dot.rep.toNat o.dot.seq:=by unfold Qbq;rw [List.foldl_append];rfl
structure DotP (d:Dot):Prop where
 r0:0<=d.rep
 r1:d.rep<16
 s0:1<=d.seq
 s1:d.seq<=1048576
theorem DotP.b {d:Dot} (h:DotP d):QbJ d=true:=by
 obtain ⟨_,_,_,_⟩:=h
 simp [QbJ];omega
theorem Qd7 {v:Vec} {d:Dot} (h:DotP d):Qbv v d=true↔d.seq<=vat v d.rep.toNat:=by
 unfold Qbv;rw [h.b,Bool.true_and,decide_eq_true_iff]
inductive Seq:List Opn->Prop
 | nil:Seq []
 | snoc {l:List Opn} {o:Opn}:Seq l->Qcc o->Qcu o=true->DotP o.dot->o.dot ∉ l.map (·.dot)->(∀ d,DotP d->Qbv o.ctx d=true->d∈l.map (·.dot))->Seq (l++[o])
theorem Seq.cut {l:List Opn} {o:Opn} (h:Seq (l++[o])):Seq l/\Qcc o/\Qcu o=true/\DotP o.dot/\o.dot ∉ l.map (·.dot)/\∀ d,DotP d->Qbv o.ctx d=true->d∈l.map (·.dot):=by
 generalize hm:l++[o]=m at h
 cases h with
 | nil=>simp at hm
 | snoc h1 h2 h3 h4 h5 h6 =>
  obtain ⟨e1,e2⟩:=List.append_inj' hm rfl
  simp at e2
  subst e1;subst e2
  exact ⟨h1,h2,h3,h4,h5,h6⟩
theorem Seq.dots {l:List Opn} (h:Seq l):∀ o∈l,DotP o.dot/\Qcc o/\Qcu o=true:=by
 induction h with
 | nil=>intro o ho;cases ho
 | snoc _ h2 h3 h4 _ _ ih =>
  intro o ho
  rcases List.mem_append.1 ho with h|h
  ·exact ih o h
  ·rw [List.mem_singleton.1 h];exact ⟨h4,h2,h3⟩
theorem Seq.nodup {l:List Opn} (h:Seq l):(l.map (·.dot)).Nodup:=by
 induction h with
 | nil=>simp
 | snoc _ _ _ _ h5 _ ih =>
  rw [List.map_append,List.nodup_append]
  exact ⟨ih,by simp,fun a ha b hb e=>by simp at hb;subst hb;subst e;exact h5 ha⟩
theorem Seq.known {l:List Opn} (h:Seq l):(∀ i,0<=vat (Qbq l) i/\vat (Qbq l) i<=1048576)/\∀ d,DotP d->(d.seq<=vat (Qbq l) d.rep.toNat↔d∈l.map (·.dot)):=by
 induction h with
 | nil =>
  refine ⟨fun i=>?_,fun d hd=>?_⟩
  ·show 0<=vat vzero i/\vat vzero i<=_
   unfold vat vzero;split<;>omega
  ·show d.seq<=vat vzero _↔_
   have:=hd.s0
   have h0:vat vzero d.rep.toNat=0:=by unfold vat vzero;split<;>rfl
   rw [h0];simp;omega
 | @snoc l o h1 h2 h3 h4 h5 h6 ih =>
  have hr:o.dot.rep.toNat<16:=by have:=h4.r0;have:=h4.r1;omega
  have hctx:vat o.ctx o.dot.rep.toNat=o.dot.seq-1:=by
   unfold Qcu at h3;simp only [Bool.and_eq_true,decide_eq_true_eq] at h3;exact h3.1.1.2
  have hlt:vat (Qbq l) o.dot.rep.toNat<o.dot.seq:=by
   have:=(ih.2 o.dot h4).mp
   rcases Int.lt_or_le (vat (Qbq l) o.dot.rep.toNat) o.dot.seq with g|g
   ·exact g
   ·exact absurd (this g) h5
  have hge:o.dot.seq-1<=vat (Qbq l) o.dot.rep.toNat:=by
   by_cases h0:o.dot.seq=1
   ·have:=(ih.1 o.dot.rep.toNat).1;omega
   ·have hd:DotP ⟨o.dot.rep,o.dot.seq-1⟩:=⟨h4.r0,h4.r1,by have:=h4.s0;show 1<=o.dot.seq-1;omega,by have:=h4.s1;show o.dot.seq-1<=_;omega⟩
    exact (ih.2 _ hd).mpr (h6 _ hd ((Qd7 hd).mpr (by show o.dot.seq-1<=vat o.ctx o.dot.rep.toNat;omega)))
  rw [Qda]
  refine ⟨fun i=>?_,fun d hd=>?_⟩
  ·by_cases hi:i<16
   ·rw [Qb1 _ _ _ _ hi];split
    ·have:=h4.s0;have:=h4.s1;omega
    ·exact ih.1 i
   ·unfold vat;rw [dif_neg hi];omega
  ·have hdr:d.rep.toNat<16:=by have:=hd.r0;have:=hd.r1;omega
   rw [Qb1 _ _ _ _ hdr,List.map_append,List.mem_append,← ih.2 d hd]
   split
   ·rename_i he
    have hrep:d.rep=o.dot.rep:=by have:=hd.r0;have:=h4.r0;omega
    constructor
    ·intro hle
     by_cases e:d.seq=o.dot.seq
     ·right
      have:d=o.dot:=by cases hdd:d;cases hoo:o.dot;rw [hdd,hoo] at hrep e;simp_all
      subst this;simp
     ·left;rw [he];omega
    ·rintro (g|g)
     ·rw [he] at g;omega
     ·simp at g;subst g;exact Int.le_refl _
   ·rename_i he
    constructor
    ·exact .inl
    ·rintro (g|g)
     ·exact g
     ·simp at g;subst g;exact absurd rfl he
theorem Seq.has {l:List Opn} (h:Seq l) {d:Dot} (hd:DotP d):Qbv (Qbq l) d=true↔d∈l.map (·.dot):=by rw [Qd7 hd];exact h.known.2 d hd
def szero:Sta:=⟨vzero,[],[]⟩
def Qd8 (s:Sta) (o:Opn):Sta :=
 ⟨vset s.known o.dot.rep.toNat o.dot.seq,(if QbA o=true then Qkd (Qlx o) (s.ents.filter fun e=>!QaE o (QaG e)) else s.ents.filter fun e=>!QaE o (QaG e)),Qdv o.cart o.tick s.ticks⟩
def Qc2 (l:List Opn):Sta:=l.foldl Qd8 szero
theorem QdB (l:List Opn) (o:Opn):Qc2 (l++[o])=Qd8 (Qc2 l) o:=by unfold Qc2;rw [List.foldl_append];rfl
theorem Qc5 (l:List Opn):(Qc2 l).known=Qbq l:=by
 refine Qbs (motive:=fun l=>(Qc2 l).known=Qbq l) rfl (fun l o ih=>?_) l
 rw [QdB,Qda,← ih];rfl
theorem Seq.live_snoc {l:List Opn} {o:Opn} (h:Seq (l++[o])):(∀ x,Qfb (l++[o]) x=(Qfb l x&&!QaE o x))/\Qfb (l++[o]) o=QbA o:=by
 obtain ⟨h1,h2,h3,h4,h5,h6⟩:=h.cut
 refine ⟨fun x=>?_,?_⟩
 ·unfold Qfb;rw [List.any_append,List.any_cons,List.any_nil,Bool.or_false]
  cases QbA x<;>cases l.any (fun y=>QaE y x)<;>cases QaE o x<;>rfl
 ·unfold Qfb
  have:((l++[o]).any fun x=>QaE x o)=false:=by
   rw [List.any_eq_false]
   intro x hx he
   have hhas:Qbv x.ctx o.dot=true:=by
    unfold QaE at he;simp only [Bool.and_eq_true,decide_eq_true_eq] at he;exact he.1.2
   rcases List.mem_append.1 hx with g|g
   ·
    have key:∀ {l:List Opn},Seq l->∀ x∈l,∀ d,DotP d->Qbv x.ctx d=true->d∈l.map (·.dot):=by
     intro l hl
     induction hl with
     | nil=>intro x hx;cases hx
     | snoc _ _ _ _ _ g6 ih =>
      intro x hx d hd hh
      rw [List.map_append,List.mem_append]
      rcases List.mem_append.1 hx with q|q
      ·exact .inl (ih x q d hd hh)
      ·rw [List.mem_singleton.1 q] at hh;exact .inl (g6 d hd hh)
    exact h5 (key h1 x g o.dot h4 hhas)
   ·rw [List.mem_singleton.1 g] at hhas;exact h5 (h6 _ h4 hhas)
  rw [this];simp
theorem Seq.ents {l:List Opn} (h:Seq l):QhR (Qc2 l).ents/\∀ e,e∈(Qc2 l).ents↔∃ o∈l,Qfb l o=true/\e=Qlx o:=by
 induction h with
 | nil=>exact ⟨by simp [Qc2,szero,QhR],fun e=>by simp [Qc2,szero]⟩
 | @snoc l o h1 h2 h3 h4 h5 h6 ih =>
  have hl:=Seq.live_snoc (Seq.snoc h1 h2 h3 h4 h5 h6)
  rw [QdB]
  have hfR:QhR ((Qc2 l).ents.filter fun e=>!QaE o (QaG e)):=List.Pairwise.sublist List.filter_sublist ih.1
  have hfm:∀ e,e∈((Qc2 l).ents.filter fun e=>!QaE o (QaG e))↔∃ x∈l,Qfb (l++[o]) x=true/\e=Qlx x:=by
   intro e
   rw [List.mem_filter,ih.2]
   constructor
   ·rintro ⟨⟨x,hx,hlx,rfl⟩,hne⟩
    rw [Qij] at hne
    exact ⟨x,hx,by rw [hl.1,hlx,hne];rfl,rfl⟩
   ·rintro ⟨x,hx,hlx,rfl⟩
    rw [hl.1,Bool.and_eq_true] at hlx
    exact ⟨⟨x,hx,hlx.1,rfl⟩,by rw [Qij];exact hlx.2⟩
  show QhR (if QbA o=true then _ else _)/\∀ e,e∈(if QbA o=true then _ else _)↔_
  split
  ·rename_i hly
   refine ⟨Qhf hfR ?_,fun e=>?_⟩
   ·intro hm
    obtain ⟨e,he,hd⟩:=List.mem_map.1 hm
    obtain ⟨x,hx,_,rfl⟩:=(hfm e).1 he
    exact h5 (List.mem_map.2 ⟨x,hx,hd⟩)
   ·rw [QeN,hfm]
    constructor
    ·rintro (rfl|⟨x,hx,g⟩)
     ·exact ⟨o,by simp,by rw [hl.2,hly],rfl⟩
     ·exact ⟨x,by simp [hx],g⟩
    ·rintro ⟨x,hx,g⟩
     rcases List.mem_append.1 hx with q|q
     ·exact .inr ⟨x,q,g⟩
     ·rw [List.mem_singleton.1 q] at g;exact .inl g.2
  ·rename_i hly
   refine ⟨hfR,fun e=>?_⟩
   rw [hfm]
   constructor
   ·rintro ⟨x,hx,g⟩;exact ⟨x,by simp [hx],g⟩
   ·rintro ⟨x,hx,g⟩
    rcases List.mem_append.1 hx with q|q
    ·exact ⟨x,q,g⟩
    ·rw [List.mem_singleton.1 q,hl.2] at g;exact absurd g.1 hly
def tmax (l:List Opn) (c:Int):Option Int:=l.foldl (fun a o=>if o.cart=c then some (match a with|none=>o.tick|some u=>max u o.tick) else a) none
theorem Qiq (l:List Opn) (o:Opn) (c:Int):tmax (l++[o]) c=if o.cart=c then some (match tmax l c with|none=>o.tick|some u=>max u o.tick) else tmax l c:=by unfold tmax;rw [List.foldl_append];rfl
theorem QdC (l:List Opn):QdG (Qc2 l).ticks/\∀ c,QaM (Qc2 l).ticks c=tmax l c:=by
 refine Qbs (motive:=fun l=>QdG (Qc2 l).ticks/\∀ c,QaM (Qc2 l).ticks c=tmax l c) ⟨by simp [Qc2,szero,QdG],fun c=>rfl⟩ (fun l o ih=>?_) l
 rw [QdB]
 refine ⟨QhL ih.1,fun c=>?_⟩
 show QaM (Qdv _ _ _) c=_
 rw [Qdd ih.1,Qiq,ih.2,ih.2]
 by_cases h:c=o.cart
 ·subst h;rw [if_pos rfl];first|done|(first|rw [if_pos rfl]|skip);first|done|(cases tmax l o.cart<;>rfl)
 ·rw [if_neg h,if_neg (fun e=>h e.symm)]
theorem QeY (l:List Opn) (c:Int):(tmax l c=none/\∀ o∈l,o.cart≠c)∨∃ t,tmax l c=some t/\(∃ o∈l,o.cart=c/\o.tick=t)/\∀ o∈l,o.cart=c->o.tick<=t:=by
 refine Qbs (motive:=fun l=>(tmax l c=none/\∀ o∈l,o.cart≠c)∨∃ t,tmax l c=some t/\(∃ o∈l,o.cart=c/\o.tick=t)/\∀ o∈l,o.cart=c->o.tick<=t) (.inl ⟨rfl,fun o ho=>by cases ho⟩) (fun l a ih=>?_) l
 rw [Qiq]
 by_cases hc:a.cart=c
 ·right
  rw [if_pos hc]
  rcases ih with ⟨h1,h2⟩|⟨t,h1,⟨o,ho,h3,h4⟩,h5⟩
  ·refine ⟨a.tick,by rw [h1],⟨a,by simp,hc,rfl⟩,fun o ho hoc=>?_⟩
   rcases List.mem_append.1 ho with g|g
   ·exact absurd hoc (h2 o g)
   ·rw [List.mem_singleton.1 g];exact Int.le_refl _
  ·refine ⟨max t a.tick,by rw [h1],?_,fun o ho hoc=>?_⟩
   ·rcases Int.le_total t a.tick with g|g
    ·exact ⟨a,by simp,hc,by omega⟩
    ·exact ⟨o,by simp [ho],h3,by omega⟩
   ·rcases List.mem_append.1 ho with g|g
    ·have:=h5 o g hoc;omega
    ·rw [List.mem_singleton.1 g];omega
 ·rw [if_neg hc]
  rcases ih with ⟨h1,h2⟩|⟨t,h1,⟨o,ho,h3⟩,h5⟩
  ·refine .inl ⟨h1,fun o ho=>?_⟩
   rcases List.mem_append.1 ho with g|g
   ·exact h2 o g
   ·rw [List.mem_singleton.1 g];exact hc
  ·refine .inr ⟨t,h1,⟨o,by simp [ho],h3⟩,fun o ho hoc=>?_⟩
   rcases List.mem_append.1 ho with g|g
   ·exact h5 o g hoc
   ·rw [List.mem_singleton.1 g] at hoc;exact absurd hoc hc
end Go.Vx
namespace Go.Vx
theorem QfS {α β:Type} {f:α->β}:∀ {l:List α},(l.map f).Nodup->∀ x∈l,∀ y∈l,f x=f y->x=y
 | [],_,x,hx,_,_,_=>by cases hx
 | a :: l,h,x,hx,y,hy,e=>by
  rw [List.map_cons,List.nodup_cons] at h
  rcases List.mem_cons.1 hx with p|p<;>rcases List.mem_cons.1 hy with q|q
  ·rw [p,q]
  ·subst p;exact absurd (List.mem_map.2 ⟨y,q,e.symm⟩) h.1
  ·subst q;exact absurd (List.mem_map.2 ⟨x,p,e⟩) h.1
  ·exact QfS h.2 x p y q e
theorem Qmi {o:Opn} (h:Qcu o=true) (i:Nat):vat o.ctx i<=1048576:=by
 unfold Qcu at h
 simp only [Bool.and_eq_true,decide_eq_true_eq] at h
 have h1:=h.1.1.1.2
 unfold QaR at h1
 simp only [Bool.and_eq_true,List.all_eq_true,List.mem_range] at h1
 by_cases hi:i<16
 ·have:=h1.2 i hi
  unfold QgM at this
  simp at this
  omega
 ·unfold vat;rw [dif_neg hi];omega
theorem Qp2 (f:Nat->Int) (b:Int) (h:∀ i,0<=f i/\f i<=b):∀ n:Nat,0<=((List.range n).map f).sum/\((List.range n).map f).sum<=(n:Int)*b
 | 0=>by simp
 | n+1=>by
  have ih:=Qp2 f b h n
  rw [List.range_succ,List.map_append,List.sum_append]
  have:=h n
  simp only [List.map_cons,List.map_nil,List.sum_cons,List.sum_nil]
  have e:((n+1:Nat):Int)*b=(n:Int)*b+b:=by rw [Int.natCast_add,Int.add_mul];simp
  omega
theorem Qqo {o:Opn} (ho:Qcc o) (h:Qcu o=true):1<=QbH o/\QbH o<=16777217:=by
 have hv:=ho.2.2.2.2.2.2
 have:=Qp2 (fun i=>vat o.ctx i) 1048576 (fun i=>⟨by
  unfold vat;split
  ·exact (hv _).1
  ·omega,Qmi h i⟩) 16
 unfold QbH vsum
 omega
theorem QiJ {o:Opn}:QbA o=true↔o.kind=1∨o.kind=2∨o.kind=4:=by unfold QbA;simp [or_assoc]
theorem QmJ {l:List Opn} {o:Opn} (h:Qfb l o=true):QbA o=true:=by unfold Qfb at h;rw [Bool.and_eq_true] at h;exact h.1
theorem Seq.right {l:List Opn} (h:Seq l):RightC (Qc2 l):=by
 have hk:=h.known
 have he:=h.ents
 have ht:=QdC l
 have hd:=h.dots
 refine ⟨?_,ht.1,fun x hx=>?_,he.1,fun e hm=>?_,?_⟩
 ·rw [Qc5]
  unfold QaR
  simp only [Bool.and_eq_true,List.all_eq_true,List.mem_range]
  refine ⟨by decide,fun i hi=>?_⟩
  have:=hk.1 i
  unfold QgM;simp;omega
 ·rw [Qei ht.1,ht.2] at hx
  rcases QeY l x.cart with ⟨h1,_⟩|⟨t,h1,⟨o,ho,_,h3⟩,_⟩
  ·rw [h1] at hx;cases hx
  ·rw [h1] at hx;cases hx
   have:=(hd o ho).2.2
   unfold Qcu at this
   simp only [Bool.and_eq_true,decide_eq_true_eq] at this
   rw [← h3];exact this.1.2
 ·obtain ⟨o,ho,hl,rfl⟩:=(he.2 e).1 hm
  have hdo:=hd o ho
  have hc:=Qqo hdo.2.1 hdo.2.2
  unfold Qjc
  simp only [Bool.and_eq_true,decide_eq_true_eq]
  refine ⟨⟨⟨⟨?_,?_⟩,?_⟩,hc.1⟩,hc.2⟩
  ·rw [ht.2]
   rcases QeY l o.cart with ⟨_,h2⟩|⟨t,h1,_⟩
   ·exact absurd rfl (h2 o ho)
   ·show (tmax l o.cart).isSome=true
    rw [h1];rfl
  ·have hr:=hdo.2.2
   unfold Qcu at hr
   simp only [Bool.and_eq_true] at hr
   have hkk:=hr.2
   unfold Qb7 at hkk
   show QcT (Qlx o)=true
   unfold QcT Qlx
   rcases QiJ.1 (QmJ hl) with g|g|g
   ·simp [g] at hkk ⊢;exact hkk
   ·simp [g]
   ·simp [g] at hkk ⊢;exact hkk
  ·rw [Qc5]
   exact (h.has hdo.1).2 (List.mem_map.2 ⟨o,ho,rfl⟩)
 ·have hmap:(Qc2 l).ents.map (·.dot)=(Qc2 l).ents.map (·.dot):=rfl
  have hnd:=h.nodup
  have hinj:∀ a∈(Qc2 l).ents,∀ b∈(Qc2 l).ents,a.dot=b.dot->a=b:=by
   intro a ha b hb e
   obtain ⟨o,ho,_,rfl⟩:=(he.2 a).1 ha
   obtain ⟨p,hp,_,rfl⟩:=(he.2 b).1 hb
   rw [QfS hnd o ho p hp e]
  unfold List.Nodup
  rw [List.pairwise_map]
  have hne:(Qc2 l).ents.Pairwise (·≠·):=he.1.imp fun {a b} hab e=>by subst e;rw [QbW] at hab;cases hab
  rw [List.pairwise_iff_getElem] at hne ⊢
  intro i j hi hj hij e
  exact hne i j hi hj hij (hinj _ (List.getElem_mem hi) _ (List.getElem_mem hj) e)
theorem Seq.ext {l m:List Opn} (hl:Seq l) (hm:Seq m) (h:∀ o,o∈l↔o∈m):Qc2 l=Qc2 m:=by
 have hdm:∀ d,d∈l.map (·.dot)↔d∈m.map (·.dot):=fun d=>by
  rw [List.mem_map,List.mem_map]
  constructor
  ·rintro ⟨o,ho,e⟩;exact ⟨o,(h o).1 ho,e⟩
  ·rintro ⟨o,ho,e⟩;exact ⟨o,(h o).2 ho,e⟩
 have hle:∀ {l m:List Opn},Seq l->Seq m->(∀ d,d∈l.map (·.dot)↔d∈m.map (·.dot))->∀ i,vat (Qbq l) i<=vat (Qbq m) i:=by
  intro l m hl hm hd i
  by_cases hi:i<16
  case neg=>unfold vat;rw [dif_neg hi,dif_neg hi];omega
  have b1:=hl.known.1 i
  have b2:=hm.known.1 i
  by_cases h0:vat (Qbq l) i=0
  ·omega
  ·have hdp:DotP ⟨(i:Int),vat (Qbq l) i⟩:=⟨by show (0:Int)<=(i:Int);omega,by show (i:Int)<16;omega,by show 1<=vat (Qbq l) i;omega,b1.2⟩
   have:=(hm.known.2 _ hdp).2 ((hd _).1 ((hl.known.2 _ hdp).1 (by show vat (Qbq l) i<=vat (Qbq l) ((i:Int)).toNat;rw [Int.toNat_natCast];exact Int.le_refl _)))
   simpa using this
 have e1:(Qc2 l).known=(Qc2 m).known:=by
  rw [Qc5,Qc5]
  exact QfT fun i _=>Int.le_antisymm (hle hl hm hdm i) (hle hm hl (fun d=>(hdm d).symm) i)
 have hlive:∀ o,Qfb l o=Qfb m o:=fun o=>by
  unfold Qfb
  have:(l.any fun x=>QaE x o)=(m.any fun x=>QaE x o):=by
   rw [Bool.eq_iff_iff,List.any_eq_true,List.any_eq_true]
   constructor
   ·rintro ⟨x,hx,e⟩;exact ⟨x,(h x).1 hx,e⟩
   ·rintro ⟨x,hx,e⟩;exact ⟨x,(h x).2 hx,e⟩
  rw [this]
 have e2:(Qc2 l).ents=(Qc2 m).ents:=QmW hl.ents.1 hm.ents.1 fun e=>by
  rw [hl.ents.2,hm.ents.2]
  constructor
  ·rintro ⟨o,ho,g,q⟩;exact ⟨o,(h o).1 ho,by rw [← hlive];exact g,q⟩
  ·rintro ⟨o,ho,g,q⟩;exact ⟨o,(h o).2 ho,by rw [hlive];exact g,q⟩
 have e3:(Qc2 l).ticks=(Qc2 m).ticks:=QjX (QdC l).1 (QdC m).1 fun c=>by
  rw [(QdC l).2,(QdC m).2]
  rcases QeY l c with ⟨h1,h2⟩|⟨t,h1,⟨o,ho,h3,h4⟩,h5⟩<;>rcases QeY m c with ⟨g1,g2⟩|⟨u,g1,⟨p,hp,g3,g4⟩,g5⟩
  ·rw [h1,g1]
  ·exact absurd g3 (h2 p ((h p).2 hp))
  ·exact absurd h3 (g2 o ((h o).1 ho))
  ·rw [h1,g1]
   have:=h5 p ((h p).2 hp) g3
   have:=g5 o ((h o).1 ho) h3
   congr 1;omega
 cases hx:Qc2 l;cases hy:Qc2 m
 rw [hx,hy] at e1 e2 e3
 simp at e1 e2 e3
 rw [e1,e2,e3]
def vjoin (a b:Vec):Vec:=fun i=>max (a i) (b i)
theorem Qkt (a b:Vec) (i:Nat):vat (vjoin a b) i=max (vat a i) (vat b i):=by
 unfold vat vjoin;split<;>simp
def Qvi (b:Sta) (x:Cen):Bool:=(b.ents.any fun e=>decide (e.dot=x.dot))||!Qbv b.known x.dot
def QvL (a:Sta) (x:Cen):Bool:=!(a.ents.any fun e=>decide (e.dot=x.dot))&&!Qbv a.known x.dot
def Qdj (l:List Cen):List Cen:=l.foldl (fun m e=>Qkd e m) []
def Qta (s t:List Lst):List Lst:=t.foldl (fun m x=>Qdv x.cart x.tick m) s
def Qtm (a b:Sta):Sta:=⟨vjoin a.known b.known,Qdj (a.ents.filter (Qvi b)++b.ents.filter (QvL a)),Qta a.ticks b.ticks⟩
theorem Qga (l:List Cen) (e:Cen):Qdj (l++[e])=Qkd e (Qdj l):=by unfold Qdj;rw [List.foldl_append];rfl
theorem QeM (l:List Cen):(l.map (·.dot)).Nodup->QhR (Qdj l)/\∀ x,x∈Qdj l↔x∈l:=by
 refine Qbs (motive:=fun l=>(l.map (·.dot)).Nodup->QhR (Qdj l)/\∀ x,x∈Qdj l↔x∈l) (fun _=>⟨by simp [Qdj,QhR],fun x=>by simp [Qdj]⟩) (fun l e ih=>?_) l
 intro h
 rw [List.map_append,List.nodup_append] at h
 have ih:=ih h.1
 rw [Qga]
 refine ⟨Qhf ih.1 fun hm=>?_,fun x=>?_⟩
 ·obtain ⟨y,hy,e1⟩:=List.mem_map.1 hm
  exact h.2.2 _ (List.mem_map.2 ⟨y,(ih.2 y).1 hy,e1⟩) e.dot (by simp) rfl
 ·rw [QeN,ih.2,List.mem_append,List.mem_singleton];exact Or.comm
end Go.Vx
namespace Go.Vx
theorem QhU {o:Opn} (ho:Qcc o) (h:Qcu o=true):DotP o.dot:=by
 unfold Qcu at h
 simp only [Bool.and_eq_true,decide_eq_true_eq] at h
 have h1:=h.1.1.1.1.1
 have h2:=QaP h.1.1.1.1.2
 exact ⟨ho.1.1.1,h1,h2.2.1,h2.2.2⟩
theorem Qn1 {a b:Vec} (h:vle a b=true) (i:Nat):vat a i<=vat b i:=by
 unfold vle at h
 rw [List.all_eq_true] at h
 by_cases hi:i<16
 ·simpa using h i (List.mem_range.2 hi)
 ·unfold vat;rw [dif_neg hi,dif_neg hi];exact Int.le_refl _
theorem Qeb {known:Vec} {o:Opn} (h:QbF known o=0):Qcu o=true/\Qbv known o.dot=false/\vle o.ctx known=true:=by
 unfold QbF at h
 split at h
 ·omega
 ·split at h
  ·omega
  ·split at h
   ·omega
   ·rename_i h1 h2 h3
    simp at h1 h2 h3
    exact ⟨h1,h2,h3⟩
theorem Seq.add {l:List Opn} {o:Opn} (h:Seq l) (ho:Qcc o) (hr:QbF (Qbq l) o=0):Seq (l++[o]):=by
 obtain ⟨h1,h2,h3⟩:=Qeb hr
 have hd:=QhU ho h1
 refine Seq.snoc h ho h1 hd (fun hm=>?_) fun d hdp hh=>?_
 ·rw [(h.has hd).2 hm] at h2;cases h2
 ·refine (h.has hdp).1 ((Qd7 hdp).2 (Int.le_trans ((Qd7 hdp).1 hh) (Qn1 h3 _)))
theorem Seq.ready {l:List Opn} {o:Opn} (h:Seq (l++[o])):QbF (Qbq l) o=0:=by
 obtain ⟨h1,h2,h3,h4,h5,h6⟩:=h.cut
 unfold QbF
 rw [if_neg (by rw [h3];decide),if_neg (fun g=>h5 ((h1.has h4).1 g)),if_neg]
 rw [Bool.not_eq_false]
 refine Qhw fun j hj=>?_
 have hb:=Qmi h3 j
 have h0:=(h1.known.1 j).1
 by_cases hz:vat o.ctx j<1
 ·omega
 ·have hdp:DotP ⟨(j:Int),vat o.ctx j⟩:=⟨by show (0:Int)<=(j:Int);omega,by show (j:Int)<16;omega,by show 1<=vat o.ctx j;omega,hb⟩
  have:=(h1.known.2 _ hdp).2 (h6 _ hdp ((Qd7 hdp).2 (by show vat o.ctx j<=vat o.ctx ((j:Int)).toNat;rw [Int.toNat_natCast];exact Int.le_refl _)))
  simpa using this
theorem QsN {l:List Opn} (hl:∀ o∈l,Qcc o) (h:∀ k,k<l.length->QbF (Qbq (l.take k)) (gd l k)=0):Seq l:=by
 have key:∀ k,k<=l.length->Seq (l.take k):=by
  intro k
  induction k with
  | zero=>intro _;exact Seq.nil
  | succ k ih =>
   intro hk
   rw [Qd5 (by omega)]
   exact (ih (by omega)).add (hl _ (QbG (by omega))) (h k (by omega))
 have:=key l.length (Nat.le_refl _)
 rwa [List.take_length] at this
def Down (l:List Opn) (p:Opn->Bool):Prop:=∀ o∈l,p o=true->∀ d,DotP d->Qbv o.ctx d=true->∃ q∈l,p q=true/\q.dot=d
theorem Seq.sub {l:List Opn} {p:Opn->Bool} (h:Seq l) (hp:Down l p):Seq (l.filter p):=by
 have key:∀ m:List Opn,Seq m->(∀ o∈m,o∈l)->Seq (m.filter p):=by
  intro m hm
  induction hm with
  | nil=>intro _;exact Seq.nil
  | @snoc m o h1 h2 h3 h4 h5 h6 ih =>
   intro hin
   have ih:=ih fun x hx=>hin x (List.mem_append_left _ hx)
   rw [List.filter_append]
   by_cases hpo:p o=true
   ·rw [List.filter_cons_of_pos hpo,List.filter_nil]
    refine Seq.snoc ih h2 h3 h4 (fun g=>h5 ?_) fun d hd hh=>?_
    ·obtain ⟨x,hx,e⟩:=List.mem_map.1 g
     exact List.mem_map.2 ⟨x,(List.mem_filter.1 hx).1,e⟩
    ·obtain ⟨x,hx,e⟩:=List.mem_map.1 (h6 d hd hh)
     obtain ⟨q,hq,hpq,eq⟩:=hp o (hin o (by simp)) hpo d hd hh
     have:=QfS h.nodup x (hin x (List.mem_append_left _ hx)) q hq (e.trans eq.symm)
     subst this
     exact List.mem_map.2 ⟨x,List.mem_filter.2 ⟨hx,hpq⟩,e⟩
   ·rw [List.filter_cons_of_neg hpo,List.filter_nil,List.append_nil];exact ih
 exact key l h fun _ h=>h
theorem Qls {l:List Opn} {v:Vec} (hc:IsClosed (QaC l v)):Down l fun o=>Qbv v o.dot:=by
 intro o ho h d hd hh
 have hr:d.rep.toNat<16:=by have:=hd.r0;have:=hd.r1;omega
 have hk:=hc.known o (List.mem_filter.2 ⟨ho,h⟩) d.rep.toNat hr (d.seq-1).toNat (by
  have:=(Qd7 hd).1 hh;have:=hd.s0;have:=hd.s1
  omega)
 have e:(⟨((d.rep.toNat:Nat):Int),(((d.seq-1).toNat+1:Nat):Int)⟩:Dot)=d:=by
  have:=hd.r0;have:=hd.s0
  cases d;simp at *;omega
 rw [e] at hk
 obtain ⟨q,hq,eq⟩:=List.mem_map.1 hk
 exact ⟨q,(List.mem_filter.1 hq).1,(List.mem_filter.1 hq).2,eq⟩
end Go.Vx
namespace Go.Vx
def Qen (a b:Cen):Bool:=if a.count=b.count then (if a.dot.rep=b.dot.rep then decide (a.dot.seq<b.dot.seq) else decide (a.dot.rep<b.dot.rep)) else decide (a.count<b.count)
theorem Qdz (a b:Cen):Qen a b=true↔(a.count<b.count∨(a.count=b.count/\(a.dot.rep<b.dot.rep∨(a.dot.rep=b.dot.rep/\a.dot.seq<b.dot.seq)))):=by
 unfold Qen
 split
 ·split
  ·rw [decide_eq_true_iff];omega
  ·rw [decide_eq_true_iff];omega
 ·rw [decide_eq_true_iff];omega
def QeH (l:List Cen):Option Cen:=l.foldl (fun b x=>match b with|none=>some x|some y=>if Qen y x=true then some x else some y) none
theorem QgX (l:List Cen) (x:Cen):QeH (l++[x])=match QeH l with|none=>some x|some y=>if Qen y x=true then some x else some y:=by unfold QeH;rw [List.foldl_append];rfl
theorem QgQ (l:List Cen):(l=[]/\QeH l=none)∨∃ e∈l,QeH l=some e/\∀ x∈l,Qen e x=false:=by
 refine Qbs (motive:=fun l=>(l=[]/\QeH l=none)∨∃ e∈l,QeH l=some e/\∀ x∈l,Qen e x=false) (.inl ⟨rfl,rfl⟩) (fun l a ih=>?_) l
 right
 rw [QgX]
 have irr:Qen a a=false:=by rw [Bool.eq_false_iff,ne_eq,Qdz];omega
 rcases ih with ⟨h1,h2⟩|⟨e,he,h2,h3⟩
 ·rw [h2];subst h1
  exact ⟨a,by simp,rfl,fun x hx=>by simp at hx;subst hx;exact irr⟩
 ·rw [h2]
  dsimp only
  split
  ·rename_i hl
   refine ⟨a,by simp,rfl,fun x hx=>?_⟩
   rcases List.mem_append.1 hx with g|g
   ·have:=h3 x g
    rw [Bool.eq_false_iff,ne_eq,Qdz] at this ⊢
    rw [Qdz] at hl;omega
   ·rw [List.mem_singleton.1 g];exact irr
  ·rename_i hl
   refine ⟨e,by simp [he],rfl,fun x hx=>?_⟩
   rcases List.mem_append.1 hx with g|g
   ·exact h3 x g
   ·rw [List.mem_singleton.1 g];simpa using hl
theorem Qpu {l m:List Cen} (hn:(l.map (·.dot)).Nodup) (h:∀ x,x∈l↔x∈m):QeH l=QeH m:=by
 rcases QgQ l with ⟨h1,h2⟩|⟨e,he,h2,h3⟩
 ·subst h1
  have:m=[]:=List.eq_nil_iff_forall_not_mem.2 fun x hx=>by have:=(h x).2 hx;cases this
  rw [this]
 ·rcases QgQ m with ⟨g1,_⟩|⟨f,hf,g2,g3⟩
  ·subst g1;have:=(h e).1 he;cases this
  ·rw [h2,g2]
   have a1:=h3 f ((h f).2 hf)
   have a2:=g3 e ((h e).1 he)
   rw [Bool.eq_false_iff,ne_eq,Qdz] at a1 a2
   have hd:e.dot=f.dot:=by
    cases hx:e.dot;cases hy:f.dot
    rw [hx,hy] at a1 a2
    dsimp only at a1 a2
    simp only [Dot.mk.injEq];omega
   rw [QfS hn e he f ((h f).2 hf) hd]
def QjK (s:Sta) (c n:Int):List Cen:=s.ents.filter fun e=>decide (e.cart=c)&&(decide (e.item=n)&&!decide (e.kind=4))
def Qli (l:List Cen):Int:=l.foldl (fun a e=>if e.kind=1 then (a+e.qty)%4294967296 else a) 0
def QeT (l:List Cen):Int:=(Qli l+(match QeH (l.filter fun e=>!decide (e.kind=1)) with|none=>0|some e=>e.qty))%4294967296
def Qes (s:Sta) (c:Int):List Int:=(s.ents.filter fun e=>decide (e.cart=c)&&!decide (e.kind=4)).map (·.item)
def QeX (l:List Int):List Int:=Qa7 (l.foldl (fun m x=>if x∈m then m else m++[x]) [])
theorem Qeu (l:List Int):(QeX l).Pairwise (· < ·)/\∀ x,x∈QeX l↔x∈l:=by
 have key:∀ l:List Int,(l.foldl (fun m x=>if x∈m then m else m++[x]) []).Nodup/\∀ x,x∈(l.foldl (fun m x=>if x∈m then m else m++[x]) ([]:List Int))↔x∈l:=by
  refine Qbs ⟨by simp,fun x=>by simp⟩ fun l a ih=>?_
  rw [List.foldl_append]
  show (if a∈_ then _ else _:List Int).Nodup/\∀ x,x∈(if a∈_ then _ else _:List Int)↔_
  split
  ·rename_i ha
   refine ⟨ih.1,fun x=>?_⟩
   rw [ih.2,List.mem_append,List.mem_singleton]
   constructor
   ·exact .inl
   ·rintro (g|g)
    ·exact g
    ·subst g;exact (ih.2 x).1 ha
  ·rename_i ha
   refine ⟨?_,fun x=>by rw [List.mem_append,ih.2,List.mem_append]⟩
   rw [List.nodup_append]
   exact ⟨ih.1,by simp,fun x hx y hy e=>by simp at hy;subst hy;subst e;exact ha hx⟩
 refine ⟨Qfy (key l).1,fun x=>?_⟩
 unfold QeX
 rw [Qgm];exact (key l).2 x
def Qln (s:Sta) (c:Int):Vw :=
 ⟨c,(QeX (Qes s c)).map fun n=>⟨n,QeT (QjK s c n)⟩,s.ents.any fun e=>decide (e.cart=c)&&decide (e.kind=4),(QaM s.ticks c).getD 0⟩
def QaI (s:Sta) (c:Int) (r:Bool):Vw:=if r=true then Qln s c else ⟨c,[],false,0⟩
end Go.Vx
namespace Go.Vx
def Qu2 (a:Int) (e:Cen):Int:=if e.kind=1 then (a+e.qty)%4294967296 else a
theorem Qnk {l m:List Cen} (hp:l.Perm m):∀ a,l.foldl Qu2 a=m.foldl Qu2 a:=by
 induction hp with
 | nil=>exact fun _=>rfl
 | cons x _ ih=>exact fun a=>ih _
 | swap x y l =>
  intro a
  simp only [List.foldl_cons]
  congr 1
  unfold Qu2
  split<;>split<;>omega
 | trans _ _ ih1 ih2=>exact fun a=>(ih1 a).trans (ih2 a)
theorem Qft {α β:Type} {f:α->β} {l:List α} (h:(l.map f).Nodup):l.Nodup:=by
 unfold List.Nodup at *
 rw [List.pairwise_map] at h
 exact h.imp fun hab e=>hab (by rw [e])
theorem Qoo {l m:List Cen} (hl:(l.map (·.dot)).Nodup) (hm:(m.map (·.dot)).Nodup) (h:∀ x,x∈l↔x∈m):QeT l=QeT m:=by
 have hp:l.Perm m:=(List.perm_ext_iff_of_nodup (Qft hl) (Qft hm)).2 h
 unfold QeT
 rw [show Qli l=Qli m from Qnk hp 0]
 rw [Qpu (l:=l.filter fun e=>!decide (e.kind=1)) (m:=m.filter fun e=>!decide (e.kind=1)) (hl.sublist (List.filter_sublist.map _)) fun x=>by rw [List.mem_filter,List.mem_filter,h]]
end Go.Vx
namespace Go.Vx
theorem Qnh:∀ (n:Nat) (f:Nat->Int) (i:Nat) (x:Int),((List.range n).map fun j=>if j=i then x else f j).sum=((List.range n).map f).sum+(if i<n then x-f i else 0)
 | 0,_,_,_=>by simp
 | n+1,f,i,x=>by
  rw [List.range_succ,List.map_append,List.sum_append,List.map_append,List.sum_append,Qnh n f i x]
  simp only [List.map_cons,List.map_nil,List.sum_cons,List.sum_nil]
  by_cases h:n=i
  ·subst h;simp;omega
  ·rw [if_neg h]
   by_cases h2:i<n
   ·rw [if_pos h2,if_pos (by omega)];omega
   ·rw [if_neg h2,if_neg (by omega)];omega
theorem QoA {v:Vec} {i:Nat} {x:Int} (hi:i<16):vsum (vset v i x)=vsum v+(x-vat v i):=by
 unfold vsum
 have e:(List.range 16).map (fun j=>vat (vset v i x) j)=(List.range 16).map fun j=>if j=i then x else vat v j:=by
  refine List.map_congr_left fun j hj=>?_
  rw [Qb1 _ _ _ _ (List.mem_range.1 hj)]
 rw [e,Qnh,if_pos hi]
theorem Seq.next {l:List Opn} {o:Opn} (h:Seq (l++[o])):vat (Qbq l) o.dot.rep.toNat=o.dot.seq-1:=by
 obtain ⟨h1,h2,h3,h4,h5,h6⟩:=h.cut
 have hctx:vat o.ctx o.dot.rep.toNat=o.dot.seq-1:=by
  unfold Qcu at h3;simp only [Bool.and_eq_true,decide_eq_true_eq] at h3;exact h3.1.1.2
 have hlt:¬o.dot.seq<=vat (Qbq l) o.dot.rep.toNat:=fun g=>h5 ((h1.known.2 o.dot h4).1 g)
 have h0:=(h1.known.1 o.dot.rep.toNat).1
 by_cases hz:o.dot.seq=1
 ·omega
 ·have hd:DotP ⟨o.dot.rep,o.dot.seq-1⟩:=⟨h4.r0,h4.r1,by have:=h4.s0;show 1<=o.dot.seq-1;omega,by have:=h4.s1;show o.dot.seq-1<=_;omega⟩
  have:=(h1.known.2 _ hd).2 (h6 _ hd ((Qd7 hd).2 (by show o.dot.seq-1<=vat o.ctx o.dot.rep.toNat;omega)))
  have:o.dot.seq-1<=vat (Qbq l) o.dot.rep.toNat:=this
  omega
theorem Seq.sum {l:List Opn} (h:Seq l):vsum (Qbq l)=l.length:=by
 induction h with
 | nil=>rfl
 | @snoc l o h1 h2 h3 h4 h5 h6 ih =>
  have hn:=Seq.next (Seq.snoc h1 h2 h3 h4 h5 h6)
  have hr:o.dot.rep.toNat<16:=by have:=h4.r0;have:=h4.r1;omega
  rw [Qda,QoA hr,ih,hn,QQ7,List.length_singleton]
  omega
end Go.Vx
namespace Go.Vx
def QfA (a b:Vec) (k:Nat):Vec:=fun i=>if i.val<k then max (a i) (b i) else a i
theorem QrU (a b:Vec):QfA a b 0=a:=by funext i;simp [QfA]
theorem Qpc (a b:Vec):QfA a b 16=vjoin a b:=by
 funext i
 have:=i.isLt
 simp [QfA,vjoin]
theorem Qom {a b:Vec} {k:Nat}:vat (QfA a b k) k=vat a k:=by
 unfold vat QfA
 split
 ·simp
 ·rfl
theorem Qlk {a b:Vec} {k:Nat} (hk:k<16):vset (QfA a b k) k (max (vat (QfA a b k) k) (vat b k))=QfA a b (k+1):=by
 refine QfT fun j hj=>?_
 rw [Qb1 _ _ _ _ hj]
 split
 ·rename_i e
  subst e
  rw [Qom]
  unfold vat QfA
  simp only [hj,dite_true]
  rw [if_pos (by omega)]
 ·rename_i e
  unfold vat QfA
  simp only [hj,dite_true]
  by_cases h:j<k
  ·rw [if_pos h,if_pos (by omega)]
  ·rw [if_neg h,if_neg (by omega)]
theorem QqQ (a b:Vec):decide (vjoin a b=b)=vle a b:=by
 by_cases h:vle a b=true
 ·rw [h]
  refine QQ3 (QfT fun j hj=>?_)
  rw [Qkt]
  have:=Qn1 h j
  omega
 ·rw [Bool.not_eq_true] at h
  rw [h]
  refine QQ4 fun e=>?_
  have:vle a b=true:=Qhw fun j _=>by
   have h2:=Qkt a b j
   rw [e] at h2;omega
  rw [this] at h;cases h
def Qa8 (o:Opn) (n:Int):Bool:=decide (o.dot.rep<n)&&QbJ o.dot&&QaR o.ctx n&&decide (vat o.ctx o.dot.rep.toNat=o.dot.seq-1)&&decide (o.tick<=1073741824)&&Qb7 o
theorem Qca (o:Opn):Qa8 o 16=Qcu o:=rfl
theorem Qho {v:Vec} {n:Int} (h:QaR v n=true):1<=n/\n<=16:=by
 unfold QaR at h
 simp only [Bool.and_eq_true,Bool.not_eq_true',Bool.or_eq_false_iff,decide_eq_false_iff_not] at h
 omega
theorem QoN {o:Opn} {n:Int} (h:(((!QaR o.ctx n||decide (n<=o.dot.rep))||decide (1073741824<o.tick))||!Qb7 o)=true):Qa8 o n=false:=by
 unfold Qa8
 simp only [Bool.or_eq_true,Bool.not_eq_true',decide_eq_true_eq] at h
 rcases h with ((h|h)|h)|h
 ·rw [h];simp
 ·rw [QQ4 (by omega:¬o.dot.rep<n)];simp
 ·rw [QQ4 (by omega:¬o.tick<=1073741824)];simp
 ·rw [h];simp
theorem Qou {o:Opn} {n:Int} (h1:QaR o.ctx n=true) (h2:¬n<=o.dot.rep) (h3:¬1073741824<o.tick) (h4:Qb7 o=true) :
  Qa8 o n=(decide (1<=o.dot.seq)&&decide (o.dot.seq<=1048576)&&decide (vat o.ctx o.dot.rep.toNat=o.dot.seq-1)):=by
 have:=Qho h1
 unfold Qa8 QbJ
 rw [h1,h4,QQ3 (by omega:o.dot.rep<n),QQ3 (by omega:o.tick<=1073741824),QQ3 (by omega:o.dot.rep<16)]
 simp
theorem Qnf {o:Opn} {n:Int} (h:((((decide (n<1)||decide (16<n))||decide (n<=o.dot.rep))||!QbJ o.dot)||!QaR o.ctx n)=true):Qa8 o n=false:=by
 unfold Qa8
 simp only [Bool.or_eq_true,Bool.not_eq_true',decide_eq_true_eq] at h
 rcases h with (((h|h)|h)|h)|h
 ·rw [Qfk (by simp [h])];simp
 ·rw [Qfk (by simp [h])];simp
 ·rw [QQ4 (by omega:¬o.dot.rep<n)];simp
 ·rw [h];simp
 ·rw [h];simp
theorem Ql9 {o:Opn} {n:Int} (h2:¬n<=o.dot.rep) (h3:QbJ o.dot=true) (h1:QaR o.ctx n=true) :
  Qa8 o n=(decide (vat o.ctx o.dot.rep.toNat=o.dot.seq-1)&&decide (o.tick<=1073741824)&&Qb7 o):=by
 unfold Qa8
 rw [h1,h3,QQ3 (by omega:o.dot.rep<n)]
 simp
end Go.Vx
namespace Go.Vx
theorem Qp5 {o:Opn} {i:Int} (h0:0<=i) (h:i<16):(oc o)[0+7+i.toNat]?=some (.int .u32 (vat o.ctx i.toNat)):=by
 rw [show 0+7+i.toNat=7+i.toNat by omega]
 exact QuH (by omega)
end Go.Vx
namespace Go.Vx
theorem QcO {p:Nat->Bool} {k:Nat} (h:∀ j:Nat,j<k->p j=false) (hk:p k=false):∀ j:Nat,j<k+1->p j=false:=by
 intro j hj
 by_cases e:j=k
 ·subst e;exact hk
 ·exact h j (by omega)
end Go.Vx
namespace Go.Vx
open Go.RowKit Go.ChangeShapes Go.WideShapes Go.ChangeAt
def Qe0 (P:Program) (t:TypeId) {α:Type} (en:α->List Value) (ok:α->Prop):Prop :=
 ∀ (H:Type) (enc:TypeId × Value->H) (w:World) (base:Nat) (spare:Nat->Bool) (held:Bool) (fuel:Nat) (cs:List Value) (x:DataW H × List MemPlace),DataW.trod enc P w base spare held fuel t cs=some x->∃ a,ok a/\cs=en a
def inK (k:IntKind) (a:Int):Prop:=(Lit.int k a).wf=true
theorem Qjl {a:Int} (h:inK .u32 a):0<=a/\a<4294967296:=by
 unfold inK at h
 simp [Lit.wf,IntKind.min,IntKind.max,IntKind.signed,IntKind.bits] at h
 omega
theorem Qi4 {a:Int} (h:inK .u16 a):0<=a/\a<65536:=by
 unfold inK at h
 simp [Lit.wf,IntKind.min,IntKind.max,IntKind.signed,IntKind.bits] at h
 omega
theorem Qqq {a:Int} (h:inK .u8 a):0<=a/\a<256:=by
 unfold inK at h
 simp [Lit.wf,IntKind.min,IntKind.max,IntKind.signed,IntKind.bits] at h
 omega
theorem QiK {P:Program} {t:TypeId} {k:IntKind} (ht:P.underlying t=some (.int k)):Qe0 P t (ic k) (inK k):=by
 intro H enc w base spare held fuel cs x h
 obtain ⟨n,h1,_,h2⟩:=DataW.trod_int ht h
 exact ⟨n,h2,h1⟩
theorem QvZ {P:Program} {t el:TypeId} (ht:P.underlying t=some (.array 16 el)) (he:P.underlying el=some (.int .u32)) (hc:P.cellsOf el=1) (hct:P.cellsOf t=16):Qe0 P t vc QbM:=by
 intro H enc w base spare held fuel cs x h
 obtain ⟨xs,m,_,_,hl,hxl,hx⟩:=DataW.trod_array ht h
 rw [hct] at hl
 have each:∀ i,i<16->∃ a,inK .u32 a/\cs[i]?=some (.int .u32 a):=by
  intro i hi
  have h1:=hx i hi
  rw [hc,List.getElem?_eq_getElem (by omega)] at h1
  obtain ⟨a,ha,he⟩:=QiK he _ _ _ _ _ _ _ _ _ h1
  refine ⟨a,ha,?_⟩
  have h2:((cs.drop (i*1)).take 1)[0]?=some (.int .u32 a):=by rw [he];rfl
  simpa [List.getElem?_take,List.getElem?_drop] using h2
 have each':∀ i:Fin 16,∃ a,inK .u32 a/\cs[i.val]?=some (.int .u32 a):=fun i=>each i.val i.isLt
 obtain ⟨v,hv⟩:=Classical.axiomOfChoice each'
 refine ⟨v,fun i=>Qjl (hv i).1,?_⟩
 apply List.ext_getElem?
 intro i
 by_cases hi:i<16
 ·rw [Qhr _ _ hi,(hv ⟨i,hi⟩).2];simp [vat,hi]
 ·rw [List.getElem?_eq_none (by omega),List.getElem?_eq_none (by rw [Qkl];omega)]
theorem Qu1 {P:Program} {t:TypeId} {f1 f2:Field} (ht:P.underlying t=some (.struct #[f1,f2])) (o1:f1.offset=0) (o2:f2.offset=1) (u1:P.underlying f1.type=some (.int .u8)) (u2:P.underlying f2.type=some (.int .u32))
  (c1:P.cellsOf f1.type=1) (c2:P.cellsOf f2.type=1) (hct:P.cellsOf t=2):Qe0 P t dc Qc9:=by
 intro H enc w base spare held fuel cs x h
 obtain ⟨xs,m,_,_,hl,hxl,hx⟩:=DataW.trod_struct ht h
 rw [hct] at hl
 have h1:=hx 0 f1 rfl
 have h2:=hx 1 f2 rfl
 have hx2:xs.length=2:=by simpa using hxl
 rw [List.getElem?_eq_getElem (by omega)] at h1 h2
 rw [o1,c1] at h1
 rw [o2,c2] at h2
 obtain ⟨a,ha,e1⟩:=QiK u1 _ _ _ _ _ _ _ _ _ h1
 obtain ⟨b,hb,e2⟩:=QiK u2 _ _ _ _ _ _ _ _ _ h2
 match cs,hl with
 | [x,y],_ =>
  simp [ic] at e1 e2
  exact ⟨⟨a,b⟩,⟨Qqq ha,Qjl hb⟩,by rw [e1,e2];rfl⟩
theorem Qns {P:Program} {t:TypeId} {α:Type} {en:α->List Value} {ok:α->Prop} (hO:Qe0 P t en ok) {H:Type} {enc:TypeId × Value->H} {w:World} {base:Nat} {spare:Nat->Bool} {held:Bool} {v:Value} {d:DataW H} {ps:List MemPlace}
  (hv:∃ cs:Array Value,v = .agg cs) (h:DataW.Trod enc P w base spare held t v d ps):∃ a,ok a/\v = .agg (en a).toArray:=by
 obtain ⟨cs,rfl⟩:=hv
 obtain ⟨fuel,h⟩:=h
 obtain ⟨a,ha,he⟩:=hO _ _ _ _ _ _ _ _ _ h
 refine ⟨a,ha,?_⟩
 have:cs.toList=en a:=he
 rw [← this]
theorem Qoi {P:Program} {t:TypeId} {w:World} {r:Reach} {base:Nat} {v:Value} (hs:(∃ fs,P.underlying t=some (.struct fs))∨∃ n e,P.underlying t=some (.array n e)) (h:Value.okWide P w r base t v):∃ cs:Array Value,v = .agg cs:=by
 unfold Value.okWide at h
 rcases hs with ⟨fs,hs⟩|⟨n,e,hs⟩<;>rw [hs] at h<;>exact ⟨_,h.choose_spec.1⟩
theorem Qmr {P:Program} {t e k:TypeId} {α:Type} {en:α->List Value} {ok:α->Prop} (ht:P.underlying t=some (.slice e)) (hO:Qe0 P e en ok) (hk:∀ x,(en x).length=k) (hc:P.cellsOf e=k) {H:Type} {enc:TypeId × Value->H} {w:World} {r:Reach} {b0 base:Nat} {spare:Nat->Bool} {held:Bool} {v:Value} {d:DataW H} {ps:List MemPlace}
  (hv:Value.okWide P w r b0 t v) (h:DataW.Trod enc P w base spare held t v d ps):∃ a c,∃ l:List α,v = .slice a l.length c/\(∀ x∈l,ok x)/\Rd w (.slice a l.length c) k (l.map en):=by
 have hv0:=hv
 obtain ⟨a,len,cap,rfl⟩:=okWide_slice ht hv
 obtain ⟨fuel,h⟩:=h
 have h':DataW.trod enc P w base spare held fuel t [.slice a len cap]=some (d,ps):=h
 rcases Go.Deep.open_slice ht h' with ⟨hcs,_⟩|⟨ad,len',cap',m,n,D,Pl,hcs,hb,hl,hm,hmm,hx,hall⟩
 ·simp only [List.cons.injEq,Value.slice.injEq,and_true] at hcs
  obtain ⟨rfl,rfl,rfl⟩:=hcs
  exact ⟨none,0,[],rfl,by simp,Rd.nil w k⟩
 ·simp only [List.cons.injEq,Value.slice.injEq,and_true] at hcs
  obtain ⟨rfl,rfl,rfl⟩:=hcs
  have hrm:len<=cap:=by
   have hv1:=hv0
   simp only [Value.okWide,ht,Cell.okWide,Cell.ok] at hv1
   exact hv1.1
  have hsp:ad.spot=none:=by
   simp only [Value.okWide,ht,Cell.okWide,Cell.ok] at hv0
   exact hv0.2.2.2.1
  have hle:len<=m:=by rw [hmm];split<;>omega
  have each:∀ i:Fin len,∃ x:α,ok x/\∀ j,j<k->w.cell? ((ad.add (i.val*k)).add j)=(en x)[j]?:=by
   intro i
   obtain ⟨cs',h1,h2⟩:=hall i.val (by omega)
   rw [hc] at h1
   obtain ⟨_,_,h3⟩:=World.cells?_some h1
   obtain ⟨x,hox,rfl⟩:=hO _ _ _ _ _ _ _ _ _ h2
   exact ⟨x,hox,h3⟩
  obtain ⟨f,hf⟩:=Classical.axiomOfChoice each
  refine ⟨some ad,cap,List.ofFn f,by rw [List.length_ofFn],fun x hx=>?_,?_⟩
  ·obtain ⟨i,rfl⟩:=List.mem_ofFn.1 hx;exact (hf i).1
  ·obtain ⟨b,o,sp⟩:=ad
   simp only at hsp
   subst hsp
   refine ⟨Qbi hk _,by simp only [QQ6,List.length_ofFn];simp only [maxLen] at hm;omega,.inr ⟨b,o,cap,by rw [QQ6]⟩,fun i j l u hi hj=>?_,by rw [QQ6,List.length_ofFn];exact hrm⟩
   have hi':=QaT hi
   rw [QQ6,List.length_ofFn] at hi'
   have e1:l=en (f ⟨i,hi'⟩):=by
    rw [List.getElem?_map,List.getElem?_ofFn] at hi
    simp [hi'] at hi
    exact hi.symm
   subst e1
   have hjk:j<k:=by have:=QaT hj;rw [hk] at this;exact this
   have h4:=(hf ⟨i,hi'⟩).2 j hjk
   rw [Qbg,Qbg] at h4
   show w.cell? ⟨b,o+i*k+j,none⟩=some u
   rw [← hj];exact h4
end Go.Vx
namespace Go.Proofs
open Go Go.Vx Go.RowKit
namespace Tt
theorem HM:Tryz.prog.follows .mixedOrders=true:=by kernel_rfl
theorem QaX:T1 Tryz.prog 22:=⟨Tryz.sizeOf22,Tryz.isAgg22⟩
theorem Qrz:T1 Tryz.prog 3:=⟨Tryz.sizeOf3,Tryz.isAgg3⟩
theorem Qar:T1 Tryz.prog 32:=⟨Tryz.sizeOf32,Tryz.isAgg32⟩
theorem Qdw:T1 Tryz.prog 5:=⟨Tryz.sizeOf5,Tryz.isAgg5⟩
theorem Qbk:TA Tryz.prog 24 16:=⟨Tryz.sizeOf24,Tryz.isAgg24⟩
theorem QcL:TA Tryz.prog 96 2:=⟨Tryz.sizeOf96,Tryz.isAgg96⟩
theorem QbB:TA Tryz.prog 98 23:=⟨Tryz.sizeOf98,Tryz.isAgg98⟩
theorem Qvm (a b:Vec):EqF Tryz.prog 2 24 (.agg (vc a).toArray) (.agg (vc b).toArray) (decide (a=b)):=Qri Tryz.underlying24 Tryz.type22 rfl Tryz.runUnderlying22 ⟨Tryz.sizeOf22,Tryz.isAgg22⟩ a b
theorem QnP:El Tryz.prog 199 3 1 8:=⟨Tryz.underlying199,_,_,Tryz.type3,rfl,rfl,rfl,rfl,by decide⟩
theorem Qqy:En Tryz.prog 103:=Tryz.call103
theorem Qtg:En Tryz.prog 104:=Tryz.call104
theorem Qs3:En Tryz.prog 105:=Tryz.call105
theorem Qm5:En Tryz.prog 112:=Tryz.call112
theorem QnQ:En Tryz.prog 127:=Tryz.call127
theorem Qp8:En Tryz.prog 146:=Tryz.call146
theorem QqE:En Tryz.prog 147:=Tryz.call147
theorem QtB:En Tryz.prog 151:=Tryz.call151
theorem QsL:En Tryz.prog 152:=Tryz.call152
theorem Qut:En Tryz.prog 158:=Tryz.call158
theorem QqG:En Tryz.prog 171:=Tryz.call171
theorem QqX:En Tryz.prog 29:=Tryz.call29
theorem QvH:En Tryz.prog 34:=Tryz.call34
theorem QlF:En Tryz.prog 40:=Tryz.call40
theorem Qs5:En Tryz.prog 41:=Tryz.call41
theorem Qry:En Tryz.prog 60:=Tryz.call60
theorem Qod:En Tryz.prog 61:=Tryz.call61
theorem Qnj:En Tryz.prog 71:=Tryz.call71
theorem Qu3:En Tryz.prog 86:=Tryz.call86
theorem QuQ:En Tryz.prog 87:=Tryz.call87
theorem QvW:En Tryz.prog 90:=Tryz.call90
theorem Qsr:En Tryz.prog 93:=Tryz.call93
theorem Qro:En Tryz.prog 94:=Tryz.call94
theorem Qrw:En Tryz.prog 95:=Tryz.call95
theorem QbZ:FA Tryz.prog 96 0 0:=fun b o w=>by simp [Instr.fieldAt,Instr.sureAddr,fieldPlace,Qbg]
theorem Qb0:FA Tryz.prog 96 1 1:=fun b o w=>by simp [Instr.fieldAt,Instr.sureAddr,fieldPlace,Qbg]
theorem Qbp:FA Tryz.prog 98 0 0:=fun b o w=>by simp [Instr.fieldAt,Instr.sureAddr,fieldPlace,Qbg]
theorem Qcg:FA Tryz.prog 98 1 2:=fun b o w=>by simp [Instr.fieldAt,Instr.sureAddr,fieldPlace,Qbg]
theorem QeC:FA Tryz.prog 98 2 3:=fun b o w=>by simp [Instr.fieldAt,Instr.sureAddr,fieldPlace,Qbg]
theorem Qdr:FA Tryz.prog 98 3 4:=fun b o w=>by simp [Instr.fieldAt,Instr.sureAddr,fieldPlace,Qbg]
theorem Qdp:FA Tryz.prog 98 4 5:=fun b o w=>by simp [Instr.fieldAt,Instr.sureAddr,fieldPlace,Qbg]
theorem QhP:FA Tryz.prog 98 5 6:=fun b o w=>by simp [Instr.fieldAt,Instr.sureAddr,fieldPlace,Qbg]
theorem QcM:FA Tryz.prog 98 6 7:=fun b o w=>by simp [Instr.fieldAt,Instr.sureAddr,fieldPlace,Qbg]
theorem QsU:Ud Tryz.prog 104 (.int .u64):=Tryz.runUnderlying104
theorem Qqv:Ud Tryz.prog 199 (.slice 3):=Tryz.runUnderlying199
theorem QqR:Ud Tryz.prog 22 (.int .u32):=Tryz.runUnderlying22
theorem QdT:Ud Tryz.prog 24 (.array 16 22):=Tryz.runUnderlying24
theorem QhS:Ud Tryz.prog 3 (.int .i64):=Tryz.runUnderlying3
theorem Qvg:Ud Tryz.prog 5 (.int .u8):=Tryz.runUnderlying5
theorem Qpa:Zv Tryz.prog 24 (.agg (vc vzero).toArray):=Tryz.zeroValue24
theorem Qu7:Zv Tryz.prog 96 (.agg (dc (⟨0,0⟩:Dot)).toArray):=Tryz.zeroValue96
end Tt
end Go.Proofs
namespace Go.Vx
open Go.RowKit
theorem Qhl:∀ (vs cs:List Value) (o N:Nat),(spl cs o vs).take N=spl (cs.take N) o vs
 | [],_,_,_=>rfl
 | v :: vs,cs,o,N=>by
  unfold spl
  rw [Qhl vs (cs.set o v) (o+1) N,List.take_set]
theorem QhH:∀ (m:List (List Value)) (k:Nat) (_:∀ l∈m,l.length=k) (j:Nat) (x:List Value) (_:x.length=k) (_:j<m.length),(m.set j x).flatten=spl m.flatten (j*k) x
 | [],_,_,_,_,_,hj=>by simp at hj
 | a :: m,k,hm,j,x,hx,hj=>by
  have ha:=hm a (by simp)
  have hm':∀ l∈m,l.length=k:=fun l h=>hm l (by simp [h])
  have hfl:∀ m:List (List Value),(∀ l∈m,l.length=k)->m.flatten.length=m.length*k:=by
   intro m
   induction m with
   | nil=>simp
   | cons a m ih =>
    intro hm
    rw [List.flatten_cons,QQ7,ih (fun l hl=>hm l (by simp [hl])),hm a (by simp),List.length_cons,Nat.add_mul]
    omega
  cases j with
  | zero =>
   rw [QcQ _ _ _ (by rw [List.flatten_cons,QQ7];omega)]
   simp only [List.set_cons_zero,List.flatten_cons,Nat.zero_mul,List.take_zero,List.nil_append,Nat.zero_add]
   rw [hx,← ha,List.drop_left]
  | succ j =>
   simp only [List.length_cons,Nat.add_lt_add_iff_right] at hj
   have hjk:(j+1)*k<=m.length*k:=Nat.mul_le_mul_right _ hj
   rw [Nat.add_mul] at hjk
   rw [List.set_cons_succ,List.flatten_cons,QhH m k hm' j x hx hj]
   rw [QcQ _ _ _ (by rw [hfl m hm'];omega),QcQ _ _ _ (by rw [List.flatten_cons,QQ7,hfl m hm',Nat.add_mul];omega)]
   have e1:(j+1)*k=a.length+j*k:=by rw [Nat.add_mul,ha];omega
   have e2:(j+1)*k+x.length=a.length+(j*k+x.length):=by rw [e1];omega
   rw [List.flatten_cons,e1,List.take_length_add_append]
   rw [show a.length+j*k+x.length=a.length+(j*k+x.length) by omega,List.drop_length_add_append]
   simp only [List.append_assoc]
section
variable {P:Program} {ty:TypeId} {e:Operand->Value} {w:World} {K:Value->World->Prop} {w0:World} {M:Nat->Prop} {L:List Res}
theorem QhE {α:Type} {t E k n:Nat} {enc:α->List Value} {x y:Operand} {v:Value} {l:List α} {z:α} {V:Value} (i:Nat) (ht:Sz P t k) (hs:Own w0 M w L) (j:Nat) (hk:L[j]?=some (row v (l.map enc) E k)) (hx:e x = .pointer (some ⟨bkS v,n,none⟩)) (hn:n=ofS v+i*k) (hi:i<l.length) (hy:e y=V)
  (hV:V.cells=(enc z).toArray) (hz:(enc z).length=k) (h1:∀ u∈enc z,u.oneCell'=true) (h:∀ w',Own w0 M w' (L.set j (row v ((l.set i z).map enc) E k))->K undef w'):opW P (.store t x y) ty e w K:=by
 obtain ⟨S,⟨⟨hl1,ho1⟩,hown,hSg⟩,hlt,_⟩:=hs.get j hk
 rcases hown.2 with ⟨hv,hn0⟩|⟨g,cap,cur,hv,h0g,hg,hnc,hcm,hcs,htake⟩
 ·have h0:l.length=0:=by simpa using hn0
  omega
 have hlen:(l.map enc).length=l.length:=by simp
 subst hv
 have hn':n=i*k:=by rw [hn];simp [ofS]
 subst hn'
 have hx':e x = .pointer (some ⟨g,i*k,none⟩):=hx
 have hik:i*k+k<=l.length*k:=by
  have:=Nat.mul_le_mul_right k (show i+1<=l.length from hi)
  rw [Nat.add_mul] at this;omega
 have hcap:l.length*k<=cur.size:=by rw [hcs];exact Nat.mul_le_mul_right _ (by rw [← hlen];exact hnc)
 have hrun:=Qcn (P:=P) ht g (i*k) E V (enc z) cur.toList hV hz (w:=w) (by simpa using hg) (by rw [hz,QQ9];omega) h1
 refine Qea (w':=w.setRow g (spl cur.toList (i*k) (enc z)).toArray) ?_ (h _ ?_)
 ·simp only [execOp,hx',hy,Instr.storeAt,Instr.sureAddr,Sem.run_bind,Sem.run_pure,Result.andThen_ok,hrun]
 refine hs.change j (b:=g) hk (by simp) rfl rfl rfl (fun c hc=>setRow_other w g c _ hc) ?_
 rintro S' ⟨_,hown',hSg'⟩
 have e1:(l.set i z).map enc=(l.map enc).set i (enc z):=by rw [List.map_set]
 have hk1:∀ m∈(l.map enc).set i (enc z),m.length=k:=by
  intro m hm
  rcases List.mem_or_eq_of_mem_set hm with h|h
  ·exact hl1 m h
  subst h;exact hz
 have hsl:∀ cs:List Value,i*k+k<=cs.length->(spl cs (i*k) (enc z)).length=cs.length:=fun cs hc=>by
  rw [QcQ _ _ _ (by omega)]
  simp only [QQ7,List.length_take,List.length_drop];omega
 refine ⟨hSg' g rfl,?_⟩
 rw [e1]
 refine ⟨⟨hk1,?_⟩,⟨?_,.inr ⟨g,cap,_,by rw [List.length_set],h0g,setRow_heap w g cur _ E _ hg,by rw [List.length_set];exact hnc,hcm,?_,?_⟩⟩,fun g' hg'=>by cases hg';exact hSg' g rfl⟩
 ·intro m hm u hu
  rcases List.mem_or_eq_of_mem_set hm with h|h
  ·exact ho1 m h u hu
  subst h;exact h1 u hu
 ·rw [QhH _ k hl1 _ _ hz (by rw [hlen];exact hi),List.length_set,hsl _ (by rw [hown.1,hlen];exact hik)];exact hown.1
 ·rw [List.size_toArray,hsl _ (by rw [QQ9];omega)];simpa using hcs
 rw [QhH _ k hl1 _ _ hz (by rw [hlen];exact hi),← htake,List.length_set]
 show (spl cur.toList (i*k) (enc z)).take _=_
 rw [Qhl]
end
end Go.Vx
namespace Go.Vx
open Go.RowKit
theorem Qe1 (a:Option Addr) (c k:Nat):sla a 0 c k=a:=by
 unfold sla
 split
 ·rfl
 cases a with
 | none=>rfl
 | some a =>
  cases a with
  | mk b o s=>cases s<;>simp [Addr.add]
theorem QlM {b o l m k:Nat} (h:l<m):sla (some ⟨b,o,none⟩) l m k=some ⟨b,o+l*k,none⟩:=by
 unfold sla;rw [if_neg (by omega)];simp only [Option.map_some,Qbg]
section
variable {P:Program} {ty:TypeId} {e:Operand->Value} {w:World} {K:Value->World->Prop} {w0:World} {M:Nat->Prop} {L:List Res}
theorem Qp4 {t el:Nat} {x:Operand} {a:Option Addr} {n c:Nat} (ht:Ud P t (.slice el)) (hx:e x = .slice a n c) (h:K (.int .i64 c) w):opW P (.call { callee:=.builtin .cap,args:=#[x],argTypes:=#[t] }) ty e w K:=by
 refine QaY (w':=w) ?_ h
 rw [BigFrame.execOp_builtin]
 simp only [List.map_toArray,List.map_cons,List.map_nil,hx,Go.builtin,Builtin.cap_,Sem.run_bind,ht w,Result.andThen_ok,Sem.run_pure,List.getElem?_toArray,List.getElem?_cons_zero,goInt]
theorem QdU {t el k:Nat} {x:Operand} {lo hi:Option Operand} {a:Option Addr} {n c l h n':Nat} (ht:P.underlying t=some (.slice el)) (hk:Sz P el k) (hnc:n<=c) (hx:e x = .slice a n c)
  (hlo:(lo=none/\l=0)∨∃ y j,lo=some y/\e y = .int j (l:Int)) (hhi:(hi=none/\h=n)∨∃ y j,hi=some y/\e y = .int j (h:Int))
  (h1:l<=h) (h2:h<=c) (hn:n'=h-l) (hK:K (.slice (sla a l c k) n' (c-l)) w):opW P (.slice t x lo hi none) ty e w K:=by
 subst hn
 have hel:P.elem t=el:=by simp [Program.elem,ht]
 have ht':P.underlying t=some (.slice (P.elem t)):=by rw [hel];exact ht
 have key:(Instr.slice t (.slice a n c) (lo.map e) (hi.map e) none).run P w = .ok (.slice (sla a l c k) (h-l) (c-l)) w:=by
  have fin:∀ l' h',l'=l->h'=h->((sizeOf (P.elem t)).run P w).andThen (fun s w=>.ok (sliced a l' h' c s) w)=Result.ok (.slice (sla a l c k) (h-l) (c-l)) w:=by
   intro l' h' e1 e2
   subst e1;subst e2
   rw [hel,hk w];rfl
  rcases hlo with ⟨rfl,rfl⟩|⟨yl,jl,rfl,hyl⟩<;>rcases hhi with ⟨rfl,rfl⟩|⟨yh,jh,rfl,hyh⟩
  ·rw [show (none:Option Operand).map e=none from rfl,run_slice_all w t a _ _ ht'];exact fin _ _ rfl rfl
  ·simp only [Option.map_some,Option.map_none,hyh];rw [run_slice_h w t a _ _ ht' _ _ (by omega) (by omega)];exact fin _ _ rfl (by omega)
  ·simp only [Option.map_some,Option.map_none,hyl];rw [run_slice_l w t a _ _ ht' _ _ (by omega) (by omega)];exact fin _ _ (by omega) rfl
  simp only [Option.map_some,hyl,hyh];rw [run_slice_lh w t a _ _ ht' _ _ _ _ (by omega) (by omega) (by omega)];exact fin _ _ (by omega) (by omega)
 refine QaY (w':=w) ?_ hK
 have hat:(Instr.sliceAt t (.slice a n c) (lo.map e) (hi.map e) none).run P w = .ok (.slice (sla a l c k) (h-l) (c-l)) w:=by rw [run_sliceAt_slice w t _ _ _ _ ht'];exact key
 simp only [execOp,hx,Sem.run_bind,Option.map_none,hat,Result.andThen_ok,Sem.run_pure]
theorem Qjj {k:Nat} (ls ms:List (List Value)) (hl:∀ l∈ls,l.length=k) (hm:∀ l∈ms,l.length=k) (cur:List Value) (p N:Nat) (hp:p<=ls.length) (hcur:cur.take (ls.length*k)=ls.flatten) (_:(p+ms.length)*k<=cur.length) (hN:N=max ls.length (p+ms.length)) (hNc:ls.length*k<=cur.length) :
  (cur.take (p*k)++ms.flatten++cur.drop (p*k+ms.flatten.length)).take (N*k)=(ls.take p++ms++ls.drop (p+ms.length)).flatten:=by
 have hmf:=Qb5 ms hm
 have hlf:=Qb5 ls hl
 have htp:∀ l∈ls.take p,l.length=k:=fun l h=>hl l (List.mem_of_mem_take h)
 have e1:cur.take (p*k)=(ls.take p).flatten:=by
  have h1:ls.flatten=(ls.take p).flatten++(ls.drop p).flatten:=by rw [← List.flatten_append,List.take_append_drop]
  have h2:(ls.take p).flatten.length=p*k:=by rw [Qb5 _ htp,List.length_take,Nat.min_eq_left hp]
  have h3:cur.take (p*k)=(cur.take (ls.length*k)).take (p*k):=by rw [List.take_take,Nat.min_eq_left (Nat.mul_le_mul_right _ hp)]
  rw [h3,hcur,h1,List.take_left' h2]
 have hpk:(cur.take (p*k)).length=p*k:=by
  rw [List.length_take]
  have:=Nat.mul_le_mul_right k hp
  omega
 rw [List.flatten_append,List.flatten_append,← e1]
 have hle:p*k+ms.flatten.length=(p+ms.length)*k:=by rw [hmf,Nat.add_mul]
 rw [hle]
 have hN2:N*k=(p+ms.length)*k+(N-(p+ms.length))*k:=by rw [← Nat.add_mul];congr 1;omega
 rw [hN2]
 have hll:(cur.take (p*k)++ms.flatten).length=(p+ms.length)*k:=by rw [QQ7,hpk,hle]
 rw [← hll,List.take_length_add_append]
 congr 1
 have hdd:∀ l∈ls.take (p+ms.length),l.length=k:=fun l h=>hl l (List.mem_of_mem_take h)
 by_cases hc:ls.length<=p+ms.length
 ·rw [List.drop_eq_nil_of_le hc,show N-(p+ms.length)=0 by omega];simp
 have hNl:N=ls.length:=by omega
 have h1:ls.flatten=(ls.take (p+ms.length)).flatten++(ls.drop (p+ms.length)).flatten:=by rw [← List.flatten_append,List.take_append_drop]
 have h2:(ls.take (p+ms.length)).flatten.length=(p+ms.length)*k:=by rw [Qb5 _ hdd,List.length_take,Nat.min_eq_left (by omega)]
 have h3:(cur.take (ls.length*k)).drop ((p+ms.length)*k)=(ls.drop (p+ms.length)).flatten:=by rw [hcur,h1,List.drop_left' h2]
 rw [List.drop_take] at h3
 rw [hll,← h3,hNl,Nat.sub_mul]
theorem Qdk {t t2 E k bytes lo dl dc sl sc n n' c:Nat} {x y:Operand} {a sa:Option Addr} {ls ms ls':List (List Value)} (hE:El P t E k bytes) (hs:Own w0 M w L) (j:Nat) (hj:L[j]?=some (row (.slice a n c) ls E k)) (hx:e x = .slice (sla a lo c k) dl dc) (hy:e y = .slice sa sl sc)
  (hm0:ms.length=min sl dl) (hsrc:0<ms.length->∃ ad,sa=some ad/\∀ q u,ms.flatten[q]?=some u->w.cell? (ad.add q)=some u) (hlen:∀ l∈ms,l.length=k) (hone:∀ l∈ms,∀ u∈l,u.oneCell'=true) (hfit:lo+ms.length<=c) (hlo:lo<=ls.length)
  (hl':ls.take lo++ms++ls.drop (lo+ms.length)=ls') (hn':ls'.length=n') (h:∀ w',Own w0 M w' (L.set j (row (.slice a n' c) ls' E k))->K (.int .i64 ms.length) w') :
  opW P (.call { callee:=.builtin .copy,args:=#[x,y],argTypes:=#[t,t2] }) ty e w K:=by
 have hm:ms.length=Nat.min sl dl:=hm0
 subst hl'
 subst hn'
 obtain ⟨ht,ie,z,hie,hz,rfl,rfl,hzs,hk⟩:=hE
 obtain ⟨S,⟨⟨hl1,ho1⟩,hown,hSg⟩,hlt,_⟩:=hs.get j hj
 rcases Nat.eq_zero_or_pos ms.length with h0|h0
 ·have hms:ms=[]:=List.eq_nil_of_length_eq_zero h0
  subst hms
  have hmin:Nat.min sl dl=0:=by simpa using hm.symm
  have hnl:n=ls.length:=by
   rcases hown.2 with ⟨hv,hn0⟩|⟨g,cap,cur,hv,_⟩
   ·cases hv;exact hn0.symm
   cases hv;rfl
  have e1:L.set j (row (.slice a (ls.take lo++[]++ls.drop (lo+([]:List (List Value)).length)).length c) (ls.take lo++[]++ls.drop (lo+([]:List (List Value)).length)) E ie.size)=L:=by
   have:ls.take lo++[]++ls.drop (lo+([]:List (List Value)).length)=ls:=by simp
   rw [this,← hnl]
   apply List.ext_getElem?
   intro m
   rw [List.getElem?_set]
   split
   ·rename_i e;subst e;rw [if_pos (QaT hj),hj]
   rfl
  refine QaY (w':=w) ?_ (h w (by rw [e1];exact hs))
  rw [BigFrame.execOp_builtin]
  have hf:∀ v,Sem.run P (Builtin.firstCells ie.size 0 (.slice v sl sc)) w = .ok #[] w:=by
   intro v;cases v<;>simp [Builtin.firstCells,loadCells,loadCellsFrom,Sem.run]
  simp only [List.map_toArray,List.map_cons,List.map_nil,hx,hy,Go.builtin]
  cases sla a lo c ie.size<;>simp [Builtin.copy_,run_underlying ht,Builtin.lenOf,sizeOf,typeInfo,hie,hmin,hf,storeCells,goInt,Sem.run]
 obtain ⟨ad,rfl,hcells⟩:=hsrc h0
 rcases hown.2 with ⟨hv,hn0⟩|⟨g,cap,cur,hv,h0g,hg,hnc,hcm,hcs,htake⟩
 ·cases hv
  omega
 cases hv
 have hloc:lo<c:=by omega
 rw [QlM hloc,Nat.zero_add] at hx
 have hmf:=Qb5 ms hlen
 have hfits:lo*ie.size+ms.flatten.length<=cur.size:=by
  rw [hmf,← Nat.add_mul,hcs];exact Nat.mul_le_mul_right _ hfit
 have hld:=run_loadCells_list (P:=P) w ad ms.flatten hcells
 have hst:=run_storeCells_at P g (lo*ie.size) E ms.flatten 0 cur w hg (by simpa using hfits) (fun v hv=>by
    obtain ⟨l,hl,hvl⟩:=List.mem_flatten.1 hv
    exact hone l hl v hvl)
 have hld':Sem.run P (loadCells ad (Nat.min sl dl*ie.size)) w = .ok ms.flatten.toArray w:=by rw [← hm,← hmf];exact hld
 refine QaY (w':=w.setRow g (cur.toList.take (lo*ie.size)++ms.flatten++cur.toList.drop (lo*ie.size+ms.flatten.length)).toArray) ?_ (h _ ?_)
 ·rw [BigFrame.execOp_builtin]
  simp only [List.map_toArray,List.map_cons,List.map_nil,hx,hy,Go.builtin]
  simp [Builtin.copy_,run_underlying ht,Builtin.lenOf,Builtin.firstCells,sizeOf,typeInfo,hie,hld',hst,hm,goInt]
 refine hs.change j (b:=g) hj (by simp) rfl rfl rfl (fun b hb=>setRow_other w g b _ hb) ?_
 rintro S' ⟨_,hown',hSg'⟩
 have hk1:∀ m∈ls.take lo++ms++ls.drop (lo+ms.length),m.length=ie.size:=by
  intro m hm
  rcases List.mem_append.1 hm with h|h
  ·rcases List.mem_append.1 h with h|h
   ·exact hl1 m (List.mem_of_mem_take h)
   exact hlen m h
  exact hl1 m (List.mem_of_mem_drop h)
 have hlen':(ls.take lo++ms++ls.drop (lo+ms.length)).length=max ls.length (lo+ms.length):=by
  simp only [QQ7,List.length_take,List.length_drop];omega
 have hcl:cur.toList.length=c*ie.size:=by simpa using hcs
 have hsp:=Qjj ls ms hl1 hlen cur.toList lo (max ls.length (lo+ms.length)) hlo htake (by rw [hcl];exact Nat.mul_le_mul_right _ hfit) rfl (by rw [hcl];exact Nat.mul_le_mul_right _ hnc)
 refine ⟨hSg' g rfl,⟨hk1,?_⟩,⟨by rw [Qb5 _ hk1],.inr ⟨g,c,_,rfl,h0g,setRow_heap w g cur _ E _ hg,by rw [hlen'];omega,hcm,?_,?_⟩⟩,fun g' hg'=>by cases hg';exact hSg' g rfl⟩
 ·intro m hm
  rcases List.mem_append.1 hm with h|h
  ·rcases List.mem_append.1 h with h|h
   ·exact ho1 m (List.mem_of_mem_take h)
   exact hone m h
  exact ho1 m (List.mem_of_mem_drop h)
 ·rw [List.size_toArray]
  simp only [QQ7,List.length_take,List.length_drop,hcl]
  rw [hcs] at hfits
  omega
 rw [hlen',← hsp]
theorem Rd.srcs {k:Nat} {sa:Option Addr} {n c:Nat} {ms:List (List Value)} (hr:Rd w (.slice sa n c) k ms):0<ms.length->∃ ad,sa=some ad/\∀ q u,ms.flatten[q]?=some u->w.cell? (ad.add q)=some u:=by
 intro h0
 obtain ⟨b,o,c',hv⟩:=hr.ptr h0
 cases hv
 exact ⟨_,rfl,hr.flat rfl⟩
theorem Qeq {z:List Value}:∀ n:Nat,Builtin.zeroCells z.toArray n=(List.replicate n z).flatten.toArray:=by
 intro n
 apply Array.ext'
 simp only [Builtin.zeroCells,Array.toList_map,Array.toList_range]
 rcases Nat.eq_zero_or_pos z.length with h0|h0
 ·have:z=[]:=List.eq_nil_of_length_eq_zero h0
  subst this
  simp
 apply List.ext_getElem?
 intro j
 have hlen:(List.replicate n z).flatten.length=n*z.length:=by simp [List.length_flatten]
 by_cases hj:j<n*z.length
 ·rw [List.getElem?_map,List.getElem?_range (by simpa using hj)]
  simp only [Option.map_some]
  have hi:j/z.length<n:=Nat.div_lt_of_lt_mul (by rw [Nat.mul_comm];exact hj)
  have hm:j%z.length<z.length:=Nat.mod_lt _ h0
  have:=QhB (List.replicate n z) z.length (fun l hl=>by rw [List.eq_of_mem_replicate hl]) (j/z.length) (j%z.length) z z[j%z.length] (by simp [hi]) (by simp [hm])
  rw [Nat.mul_comm,Nat.div_add_mod] at this
  rw [this]
  simp [hm]
 rw [List.getElem?_eq_none (by simpa using hj),List.getElem?_eq_none (by rw [hlen];omega)]
theorem QqA {t tn E k bytes n c i cnt:Nat} {kn:IntKind} {x y:Operand} {a:Option Addr} {zl:List Value} {ls ls':List (List Value)} (hE:El P t E k bytes) (hn:P.underlying tn=some (.int kn)) (hz:Zv P E (.agg zl.toArray)∨∃ v,zl=[v]/\Zv P E v/\v.cells = #[v]) (hs:Own w0 M w L) (hr:Rd w (.slice a n c) k ls) (hx:e x = .slice (sla a 0 c k) i c) (hy:e y = .int .i64 (cnt:Int))
  (hi:i<=ls.length) (h0:0<ls.length) (hc:0<cnt) (hfull:c<i+cnt) (h1:∀ l∈ls,∀ u∈l,u.oneCell'=true) (hz1:∀ u∈zl,u.oneCell'=true) (hzk:zl.length=k) (hb:(i+cnt)*(bytes+1)<=140737488355328) (hl:ls.take i++List.replicate cnt zl=ls') (n':Nat) (hn':ls'.length=n') (h:∀ a c w',Own w0 M w' (L++[row (.slice a n' c) ls' E k])->K (.slice a n' c) w') :
  opW P (.call { callee:=.builtin .append,args:=#[x,y],argTypes:=#[t,tn] }) ty e w K:=by
 subst hl
 subst hn'
 obtain ⟨ht,ie,z,hie,hzz,rfl,rfl,hzs,hk⟩:=hE
 rw [Qe1] at hx
 have hzc:z.cells=zl.toArray:=by
  have hval:∀ V,Zv P E V->V=z:=fun V hV=>by
   have:=hV w
   simp [zeroValue,typeInfo,hie,hzz,Sem.run] at this
   exact this.symm
  rcases hz with hz|⟨v,e1,hz,hc⟩
  ·rw [← hval _ hz];rfl
  rw [← hval _ hz,hc,e1]
 obtain ⟨b,o,c',hv⟩:=hr.ptr h0
 cases hv
 have hbn:i+cnt<=140737488355328:=Nat.le_trans (Nat.le_mul_of_pos_right _ (by omega)) hb
 have hbb:(i+cnt)*ie.bytes<=140737488355328:=Nat.le_trans (Nat.mul_le_mul_left _ (by omega)) hb
 have htk:∀ l∈ls.take i,l.length=ie.size:=fun l hl=>hr.len l (List.mem_of_mem_take hl)
 have hlt:(ls.take i).length=i:=by rw [List.length_take];omega
 have hflt:=Qb5 _ htk
 have hold:∀ q u,(ls.take i).flatten[q]?=some u->w.drew.cell? ((⟨b,o,none⟩:Addr).add q)=some u:=by
  intro q u hq
  have hfl:ls.flatten=(ls.take i).flatten++(ls.drop i).flatten:=by rw [← List.flatten_append,List.take_append_drop]
  have:ls.flatten[q]?=some u:=by rw [hfl,List.getElem?_append_left (QaT hq)];exact hq
  simpa using hr.flat rfl q u this
 have hfo:=run_firstCells_some (P:=P) w.drew ie.size i ⟨b,o,none⟩ i c (ls.take i).flatten (by rw [hflt,hlt]) hold
 have hw:IntKind.i64.wrap (cnt:Int)=cnt:=by rw [IntKind.wrap_i64];omega
 have hneg:¬((cnt:Int)<0):=by omega
 have hcz:cnt≠0:=by omega
 have hns:¬(cnt*ie.size=0):=Nat.mul_ne_zero hcz (by omega)
 have hneed:¬(i+cnt<=c):=by omega
 have h63:¬(9223372036854775807<((i:Int)+(cnt:Int))):=by omega
 have h48:=growslice_fits hfull hbb
 have h48':¬(281474976710656<Builtin.nextslicecap (i+cnt) c*ie.bytes):=by omega
 have hcb:cnt*ie.bytes<=140737488355328:=Nat.le_trans (Nat.mul_le_mul_right _ (by omega)) hbb
 have h48i:¬(281474976710656<(cnt:Int)*(ie.bytes:Int)):=by rw [← Int.natCast_mul];omega
 have hrun:(Builtin.append_ #[t,tn] ty #[.slice (some ⟨b,o,none⟩) i c,.int .i64 cnt]).run P w =
   .ok (.slice (some ⟨w.heap.size,0,none⟩) (i+cnt) (grownCap w (i+cnt) c E)) (w.drew.alloc (.cells ((ls.take i).flatten.toArray++Builtin.zeroCells z.cells cnt++Builtin.zeroCells z.cells (grownCap w (i+cnt) c E-(i+cnt))) E)):=by
  simp [Builtin.append_,run_underlying ht,run_underlying hn,sizeOf,typeInfo,zeroValue,hie,hzz,asInt,asIntOf,hw,hcz,hneg,hns,hneed,h63,h48',h48i,Question.forced,hfo,newRow,grownCap]
 have hcells:(ls.take i).flatten.toArray++Builtin.zeroCells z.cells cnt=((ls.take i)++List.replicate cnt zl).flatten.toArray:=by
  rw [hzc,Qeq,List.flatten_append];simp
 have h5:=QfP (w:=w.drew) (xs:=((ls.take i)++List.replicate cnt zl).flatten) (rest:=Builtin.zeroCells z.cells (grownCap w (i+cnt) c E-(i+cnt))) (ls:=ls.take i++List.replicate cnt zl) (e:=E) (k:=ie.size) (cap:=grownCap w (i+cnt) c E)
  (fun l hl=>by rcases List.mem_append.1 hl with h|h;exact htk l h;rw [List.eq_of_mem_replicate h];exact hzk) (fun l hl=>by rcases List.mem_append.1 hl with h|h;exact h1 l (List.mem_of_mem_take h);rw [List.eq_of_mem_replicate h];exact hz1) rfl
  (by rw [QQ7,hlt,List.length_replicate];exact grownCap_ge w _ _ _) (grownCap_le_maxLen w _ _ _ (by simp only [maxLen];omega)) (by rw [size_zeroCells,hzs,QQ7,hlt,List.length_replicate])
 have hnn:(ls.take i++List.replicate cnt zl).length=i+cnt:=by rw [QQ7,hlt,List.length_replicate]
 refine QaY (w':=w.drew.alloc (.cells (((ls.take i)++List.replicate cnt zl).flatten.toArray++Builtin.zeroCells z.cells (grownCap w (i+cnt) c E-(i+cnt))) E)) ?_ (h (some ⟨w.heap.size,0,none⟩) (grownCap w (i+cnt) c E) _ ?_)
 ·rw [BigFrame.execOp_builtin]
  simp only [List.map_toArray,List.map_cons,List.map_nil,hx,hy,BigFrame.builtin_append,Sem.run_bind,hrun,Result.andThen_ok,Sem.run_pure,hnn,hcells]
 exact hs.drew.new _ _ (by simpa using h5)
theorem QjS {t E k bytes n c i m cc:Nat} {x:Operand} {a:Option Addr} {ls:List (List Value)} (hE:El P t E k bytes) (hs:Own w0 M w L) (j:Nat) (hj:L[j]?=some (row (.slice a n c) ls E k)) (hx:e x = .slice (sla a i c k) m cc) (hi:i<=ls.length) (hm:m=ls.length-i)
  (hz1:∀ v,Zv P E v->∀ u∈v.cells.toList,u.oneCell'=true) (h:∀ w',Own w0 M w' (L.set j (row (.slice a i c) (ls.take i) E k))->K (.tuple #[]) w') :
  opW P (.call { callee:=.builtin .clear,args:=#[x],argTypes:=#[t] }) ty e w K:=by
 obtain ⟨ht,ie,z,hie,hzz,rfl,rfl,hzs,hk⟩:=hE
 obtain ⟨S,⟨⟨hl1,ho1⟩,hown,hSg⟩,hlt,_⟩:=hs.get j hj
 have hnl:n=ls.length:=by
  rcases hown.2 with ⟨hv,hn0⟩|⟨g,cap,cur,hv,_⟩
  ·cases hv;exact hn0.symm
  cases hv;rfl
 rcases Nat.eq_zero_or_pos m with h0|h0
 ·refine QaY (w':=w) ?_ (h w ?_)
  ·rw [BigFrame.execOp_builtin]
   simp only [List.map_toArray,List.map_cons,List.map_nil,hx,h0,Go.builtin]
   cases sla a i c ie.size<;>simp [Builtin.clear_,run_underlying ht]
  have e1:L.set j (row (.slice a i c) (ls.take i) E ie.size)=L:=by
   have hil:i=ls.length:=by omega
   subst hil
   rw [List.take_length,← hnl]
   apply List.ext_getElem?
   intro q
   rw [List.getElem?_set]
   split
   ·rename_i e;subst e;rw [if_pos (QaT hj),hj]
   rfl
  rw [e1];exact hs
 rcases hown.2 with ⟨hv,hn0⟩|⟨g,cap,cur,hv,h0g,hg,hnc,hcm,hcs,htake⟩
 ·omega
 cases hv
 have hic:i<c:=by omega
 rw [QlM hic,Nat.zero_add] at hx
 have hzl:(Builtin.zeroCells z.cells m).toList.length=m*ie.size:=by rw [QQ9,size_zeroCells,hzs]
 have hZ:Zv P E z:=fun w=>by simp [zeroValue,typeInfo,hie,hzz,Sem.run]
 have hone:=hz1 z hZ
 have hzm:∀ v∈(Builtin.zeroCells z.cells m).toList,v.oneCell'=true:=by
  have e1:=Qeq (z:=z.cells.toList) m
  rw [Array.toArray_toList] at e1
  rw [e1]
  intro v hv
  obtain ⟨l,hl,hvl⟩:=List.mem_flatten.1 hv
  rw [List.eq_of_mem_replicate hl] at hvl
  exact hone v hvl
 have hfits:i*ie.size+(Builtin.zeroCells z.cells m).toList.length<=cur.size:=by
  rw [hzl,← Nat.add_mul,hcs];exact Nat.mul_le_mul_right _ (by omega)
 have hst:=run_storeCells_at P g (i*ie.size) E (Builtin.zeroCells z.cells m).toList 0 cur w hg (by simpa using hfits) hzm
 refine QaY (w':=w.setRow g (cur.toList.take (i*ie.size)++(Builtin.zeroCells z.cells m).toList++cur.toList.drop (i*ie.size+(Builtin.zeroCells z.cells m).toList.length)).toArray) ?_ (h _ ?_)
 ·rw [BigFrame.execOp_builtin]
  simp only [List.map_toArray,List.map_cons,List.map_nil,hx,Go.builtin]
  cases m with
  | zero=>omega
  | succ m=>simp [Builtin.clear_,run_underlying ht,hZ w,hst]
 refine hs.change j (b:=g) hj (by simp) rfl rfl rfl (fun b hb=>setRow_other w g b _ hb) ?_
 rintro S' ⟨_,hown',hSg'⟩
 have hk1:∀ q∈ls.take i,q.length=ie.size:=fun q hq=>hl1 q (List.mem_of_mem_take hq)
 have hlen':(ls.take i).length=i:=by rw [List.length_take];omega
 have hcl:cur.toList.length=c*ie.size:=by simpa using hcs
 refine ⟨hSg' g rfl,⟨hk1,fun q hq=>ho1 q (List.mem_of_mem_take hq)⟩,⟨by rw [Qb5 _ hk1],.inr ⟨g,c,_,by rw [hlen'],h0g,setRow_heap w g cur _ E _ hg,by rw [hlen'];omega,hcm,?_,?_⟩⟩,fun g' hg'=>by cases hg';exact hSg' g rfl⟩
 ·rw [List.size_toArray]
  simp only [QQ7,List.length_take,List.length_drop,hcl]
  rw [hcs] at hfits
  omega
 rw [hlen',List.append_assoc,List.take_append_of_le_length (by rw [List.length_take,hcl];have:=Nat.mul_le_mul_right ie.size (show i<=c by omega);omega),List.take_take,Nat.min_self]
 have h2:(ls.take i).flatten.length=i*ie.size:=by rw [Qb5 _ hk1,hlen']
 have h3:cur.toList.take (i*ie.size)=(cur.toList.take (ls.length*ie.size)).take (i*ie.size):=by rw [List.take_take,Nat.min_eq_left (Nat.mul_le_mul_right _ hi)]
 have hfl:ls.flatten=(ls.take i).flatten++(ls.drop i).flatten:=by rw [← List.flatten_append,List.take_append_drop]
 rw [h3,htake,hfl,List.take_left' h2]
end
end Go.Vx
namespace Go.Vx
open Go.RowKit
def Qd4 (w:World) (v:Value):Prop:=∃ b n c cur T,v = .slice (some ⟨b,0,none⟩) n c/\w.heap[b]?=some (.cells cur T (0,0))
theorem Qd4.own {w0 w:World} {M:Nat->Prop} {L:List Res} {v:Value} (h:Qd4 w0 v) (hs:Own w0 M w L) (hm:¬M (bkS v)):Qd4 w v:=by
 obtain ⟨b,n,c,cur,T,rfl,hb⟩:=h
 refine ⟨b,n,c,cur,T,rfl,?_⟩
 rw [hs.old b (Array.getElem?_eq_some_iff.1 hb).1 hm]
 exact hb
section
variable {P:Program} {ty:TypeId} {e:Operand->Value} {w:World} {K:Value->World->Prop} {w0:World} {M:Nat->Prop} {L:List Res}
theorem Own.plain {n:Nat} {v:Value} {ls:List (List Value)} {E k:Nat} (hs:Own w0 M w L) (i:Nat) (hi:L[i]?=some (row v ls E k)) (h0:0<ls.length) (hn:n=ls.length):Qd4 w v/\True:=by
 obtain ⟨S,⟨_,hown,hSg⟩,hlt,_⟩:=hs.get i hi
 rcases hown.2 with ⟨hv,hn0⟩|⟨g,cap,cur,hv,h0g,hg,_⟩
 ·omega
 exact ⟨⟨g,_,cap,cur,E,hv,hg⟩,trivial⟩
theorem Own.lendD (hs:Own w0 M w L) (i j:Nat) (hij:i≠j) {R:Res} (hi:L[i]?=some R) {v:Value} {ls:List (List Value)} {E k:Nat} (hj:L[j]?=some (row v ls E k)) (h0:0<ls.length) :
  ∃ S,R.holds w S/\(∀ b,S b->b<w.heap.size)/\¬S (bkS v)/\Qd4 w v/\∀ w' R' L',Own w S w' (R' :: L')->Own w0 M w' (L.set i R'++L'):=by
 obtain ⟨S,h1,h2,_,h4,h5⟩:=hs.lend3 i hi
 obtain ⟨Sj,hj1,hj2⟩:=h4 j (fun e=>hij e.symm) _ hj
 have hp:=(hs.plain j hj h0 rfl).1
 refine ⟨S,h1,h2,fun hb=>hj2 _ hb ?_,hp,h5⟩
 obtain ⟨b,n,c,cur,T,rfl,_⟩:=hp
 exact hj1.2.2 b rfl
theorem QnX {α:Type} {f:FuncId} {xs:List Operand} {vs:List Value} {ats:Array TypeId} {V:α->Value} {R:Res} {R':α->Res} {Lo:α->List Res} {F:α->World->Prop} {v:Value} {ls:List (List Value)} {E k:Nat} (hf:En P f) (hef:e (.func f) = .func (.func f) #[] #[]) (hv:xs.map e=vs)
  (hs:Own w0 M w L) (i j:Nat) (hij:i≠j) (hi:L[i]?=some R) (hj:L[j]?=some (row v ls E k)) (h0:0<ls.length)
  (hc:∀ S,R.holds w S->(∀ b,S b->b<w.heap.size)->¬S (bkS v)->Qd4 w v->Calls P f vs.toArray w fun r w'=>∃ x,r = .returned (V x)/\Own w S w' (R' x :: Lo x)/\F x w') (h:∀ x w',Own w0 M w' (L.set i (R' x)++Lo x)->F x w'->K (V x) w') :
  opW P (.call { callee:=.value (.func f),args:=xs.toArray,argTypes:=ats }) ty e w K:=by
 obtain ⟨S,hR,hlt,hn,hp,hback⟩:=hs.lendD i j hij hi hj h0
 exact QeA hf hef (by rw [List.map_toArray,hv]) ((hc S hR hlt hn hp).mono fun r w' ⟨x,hr,ho,hF⟩=>⟨V x,hr,h x w' (hback w' _ _ ho) hF⟩)
theorem Qne {f:FuncId} {fn:Func} {tS tR el k E lo m cc n c:Nat} {x y:Operand} {v:Value} {a:Option Addr} {ls:List (List Value)} {ats:Array TypeId} (hf:P.funcs[f]?=some fn) (hname:(fn.name == "runtime.NumGoroutine")=false) (hb:fn.body.isNone=true) (hn:Extern.findNext fn=none) (he:Extern.find fn=some (Extern.SlicesOverlaps.overlaps #[tS,tS] #[tR]))
  (ht:P.underlying tS=some (.slice el)) (hk:Sz P el k) (hef:e (.func f) = .func (.func f) #[] #[]) (hs:Own w0 M w L) (j:Nat) (hj:L[j]?=some (row (.slice a n c) ls E k)) (h0:0<ls.length) (hk0:0<k) (hx:e x=v) (hv:Qd4 w v) (hM:¬M (bkS v)) (hvl:bkS v<w0.heap.size) (hlo:lo<c) (hy:e y = .slice (sla a lo c k) m cc)
  (h:K (.bool false) w):opW P (.call { callee:=.value (.func f),args:=[x,y].toArray,argTypes:=ats }) ty e w K:=by
 obtain ⟨S,⟨_,hown,hSg⟩,hlt,hSM⟩:=hs.get j hj
 obtain ⟨b,nv,cv,cur2,T2,rfl,hb2⟩:=hv
 rcases hown.2 with ⟨hv,hn0⟩|⟨g,cap,cur,hv,h0g,hg,hnc,hcm,hcs,_⟩
 ·omega
 cases hv
 have hgM:g<w0.heap.size->M g:=fun h=>hSM g (hSg g rfl) h
 have hne:b≠g:=fun e=>by subst e;exact hM (hgM hvl)
 rw [QlM hlo,Nat.zero_add] at hy
 have hrun:=Lib.run_overlaps_apart (P:=P) w tS tR el ht k hk ⟨b,0,none⟩ ⟨g,lo*k,none⟩ nv cv m cc hne T2 E cur2.size cur.size (by simp [World.shape?,hb2]) (by simp [World.shape?,hg])
  (by rw [hcs];have:0<c*k:=Nat.mul_pos (by omega) hk0;omega) (by simp [World.frozen?,hb2]) (by simp [World.frozen?,hb2])
 refine QaY (w':=w) ?_ h
 simp only [execOp,resolve,List.map_toArray,List.map_cons,List.map_nil,hx,hy,hef,Deferred.ofValue,Sem.run_bind,Sem.run_pure,Result.andThen_ok,invoke,Array.empty_append,Array.append_empty]
 rw [run_callFunc_extern hf hname hb hn he]
 have e2:(#[]++#[Value.slice (some ⟨b,0,none⟩) nv cv,Value.slice (some ⟨g,lo*k,none⟩) m cc]++#[]:Array Value) = #[Value.slice (some ⟨b,0,none⟩) nv cv,Value.slice (some ⟨g,lo*k,none⟩) m cc]:=rfl
 simp [hrun]
end
end Go.Vx
namespace Go.Vx
theorem Qd4.lt {w:World} {v:Value} (h:Qd4 w v):bkS v<w.heap.size:=by
 obtain ⟨b,n,c,cur,T,rfl,hb⟩:=h
 exact (Array.getElem?_eq_some_iff.1 hb).1
end Go.Vx
namespace Go.Vx
open Go.RowKit
section
variable {P:Program} {ty:TypeId} {e:Operand->Value} {w:World} {K:Value->World->Prop} {w0:World} {M:Nat->Prop} {L:List Res}
theorem QsE {t u d:TypeId} {x y:Operand} {a:Option Addr} {n c:Nat} (ht:P.underlying t=some (.slice d)) (hx:e x = .slice a n c) (hy:e y = .slice none 0 0) (h:K (.bool a.isNone) w):opW P (.binOp .eql t x y u) ty e w K:=by
 refine QaY (w':=w) ?_ h
 simp only [execOp,hx,hy,eqGuard_at_slice,Sem.run_bind,Sem.run_pure,Result.andThen_ok,binOp,run_equal_slice_nil w t d a n c ht]
end
theorem Rd.isN {α:Type} {enc:α->List Value} {l:List α} {w:World} {a:Option Addr} {n c k:Nat} (h:Rd w (.slice a n c) k (l.map enc)) (ha:a.isNone=true):l=[]:=by
 rcases h.shape with ⟨_,h2⟩|⟨b,o,c',h2⟩
 ·simpa using h2
 cases h2;cases ha
end Go.Vx
namespace Go.Vx
theorem Qmx {P:Program} {t:Nat} {v z:Value} (h:Zv P t v) (hz:Zv P t z):v=z:=by
 have h1:=h default
 rw [hz default] at h1
 cases h1;rfl
end Go.Vx
namespace Go.Vx
section
variable {α:Type} [Inhabited α]
def swL (l:List α) (i j:Nat):List α:=(l.set i (gd l j)).set j (gd l i)
theorem QhA {l:List α} {i j:Nat}:(swL l i j).length=l.length:=by simp [swL]
theorem Qhk {A M B:List α} {x y:α} {i j:Nat} (hi:i=A.length) (hj:j=A.length+1+M.length):swL (A++x :: (M++y :: B)) i j=A++y :: (M++x :: B):=by
 subst hi
 subst hj
 unfold swL gd
 have h1:(A++x :: (M++y :: B))[A.length]?=some x:=by simp
 have h2:(A++x :: (M++y :: B))[A.length+1+M.length]?=some y:=by
  rw [List.getElem?_append_right (by omega),show A.length+1+M.length-A.length=M.length+1 by omega,List.getElem?_cons_succ,List.getElem?_append_right (by omega)];simp
 rw [List.getD_eq_getElem?_getD,List.getD_eq_getElem?_getD,h1,h2]
 simp only [Option.getD_some]
 rw [List.set_append_right _ _ (by omega),Nat.sub_self,List.set_cons_zero,List.set_append_right _ _ (by omega),show A.length+1+M.length-A.length=M.length+1 by omega,List.set_cons_succ,List.set_append_right _ _ (by omega),Nat.sub_self,List.set_cons_zero]
def swR (A U M V B:List α) (k:Nat):List α:=A++(V.take k++U.drop k)++M++(U.take k++V.drop k)++B
omit [Inhabited α] in
theorem QoV {A U M V B:List α}:swR A U M V B 0=A++U++M++V++B:=by simp [swR]
omit [Inhabited α] in
theorem QqM {A U M V B:List α} (h:U.length=V.length):swR A U M V B U.length=A++V++M++U++B:=by
 unfold swR
 rw [List.take_length,List.drop_length,h,List.take_length,List.drop_length];simp
theorem Qow {A U M V B:List α} {k i j:Nat} (h:U.length=V.length) (hk:k<U.length) (hi:i=A.length+k) (hj:j=A.length+U.length+M.length+k):swL (swR A U M V B k) i j=swR A U M V B (k+1):=by
 have hu:U.drop k=U[k] :: U.drop (k+1):=List.drop_eq_getElem_cons hk
 have hv:V.drop k=V[k]'(by omega) :: V.drop (k+1):=List.drop_eq_getElem_cons (by omega)
 have hut:U.take (k+1)=U.take k++[U[k]]:=(List.take_append_getElem hk).symm
 have hvt:V.take (k+1)=V.take k++[V[k]'(by omega)]:=(List.take_append_getElem (by omega)).symm
 have e1:swR A U M V B k=(A++V.take k)++U[k] :: ((U.drop (k+1)++M++U.take k)++V[k]'(by omega) :: (V.drop (k+1)++B)):=by
  unfold swR;rw [hu,hv];simp only [List.append_assoc,List.cons_append]
 have e2:swR A U M V B (k+1)=(A++V.take k)++V[k]'(by omega) :: ((U.drop (k+1)++M++U.take k)++U[k] :: (V.drop (k+1)++B)):=by
  unfold swR;rw [hut,hvt];simp only [List.append_assoc,List.cons_append,List.nil_append]
 rw [e1,e2]
 refine Qhk ?_ ?_
 ·rw [QQ7,List.length_take];omega
 simp only [QQ7,List.length_take,List.length_drop];omega
end
end Go.Vx
namespace Go.Vx
section
variable {α:Type} [Inhabited α]
structure CmpO (cf:α->α->Int):Prop where
 irr:∀ x,¬cf x x<0
 tot:∀ x y,cf x y<0->¬cf y x<0
 tr:∀ x y z,¬cf y x<0->¬cf z y<0->¬cf z x<0
def Qly (cf:α->α->Int) (l:List α):Prop:=l.Pairwise fun x y=>¬cf y x<0
variable {cf:α->α->Int}
omit [Inhabited α] in
theorem Qng {X Y:List α} (h:Qly cf (X++Y)):Qly cf X/\Qly cf Y/\∀ x∈X,∀ y∈Y,¬cf y x<0:=List.pairwise_append.1 h
theorem Qdh {l m:List α} {i:Nat} (h:i<l.length):gd (l++m) i=gd l i:=by simp [gd,List.getElem?_append_left h]
theorem Qdn {l m:List α} {i:Nat} (h:l.length<=i):gd (l++m) i=gd m (i-l.length):=by simp [gd,List.getElem?_append_right h]
theorem QtI {l:List α} (h:Qly cf l) {i j:Nat} (hij:i<j) (hj:j<l.length):¬cf (gd l j) (gd l i)<0:=by
 have:=List.pairwise_iff_getElem.1 h i j (by omega) hj hij
 simpa [gd,hj,show i<l.length by omega] using this
theorem Qf3 {l:List α} {x:α} (h:x∈l):∃ i,i<l.length/\gd l i=x:=by
 obtain ⟨i,hi,rfl⟩:=List.mem_iff_getElem.1 h
 exact ⟨i,hi,by simp [gd,hi]⟩
def Qa9 (l l2:List α) (a b:Nat):Prop:=∃ A X Z B,l=A++X++B/\l2=A++Z++B/\A.length=a/\a+X.length=b/\Z.Perm X
omit [Inhabited α] in
theorem Qa9.len {l l2:List α} {a b:Nat} (h:Qa9 l l2 a b):l2.length=l.length:=by
 obtain ⟨A,X,Z,B,rfl,rfl,_,_,hp⟩:=h
 simp [hp.length_eq]
omit [Inhabited α] in
theorem Qa9.perm {l l2:List α} {a b:Nat} (h:Qa9 l l2 a b):l2.Perm l:=by
 obtain ⟨A,X,Z,B,rfl,rfl,_,_,hp⟩:=h
 exact (hp.append_left A).append_right B
omit [Inhabited α] in
theorem Qsw (l:List α) {a b:Nat} (h:a<=b) (hb:b<=l.length):l=l.take a++(l.take b).drop a++l.drop b/\(l.take a).length=a/\a+((l.take b).drop a).length=b:=by
 refine ⟨?_,by rw [List.length_take];omega,by rw [List.length_drop,List.length_take];omega⟩
 have e:l.take a=(l.take b).take a:=by rw [List.take_take];congr 1;omega
 rw [e,List.take_append_drop,List.take_append_drop]
omit [Inhabited α] in
theorem Qa9.refl (l:List α) {a b:Nat} (h:a<=b) (hb:b<=l.length):Qa9 l l a b:=by
 obtain ⟨h1,h2,h3⟩:=Qsw l h hb
 exact ⟨_,_,_,_,h1,h1,h2,h3,List.Perm.refl _⟩
omit [Inhabited α] in
theorem QoD {A X B A2 X2 B2:List α} (h:A++X++B=A2++X2++B2) (h1:A.length=A2.length) (h2:X.length=X2.length):A=A2/\X=X2/\B=B2:=by
 rw [List.append_assoc,List.append_assoc] at h
 obtain ⟨e1,e2⟩:=List.append_inj h h1
 obtain ⟨e3,e4⟩:=List.append_inj e2 h2
 exact ⟨e1,e3,e4⟩
omit [Inhabited α] in
theorem Qa9.trans {l m n:List α} {a b:Nat} (h:Qa9 l m a b) (g:Qa9 m n a b):Qa9 l n a b:=by
 obtain ⟨A,X,Z,B,rfl,rfl,ha,hb,hp⟩:=h
 obtain ⟨A2,X2,Z2,B2,e,rfl,ha2,hb2,hp2⟩:=g
 have hz:=hp.length_eq
 obtain ⟨rfl,rfl,rfl⟩:=QoD e (by omega) (by omega)
 exact ⟨_,_,_,_,rfl,rfl,ha,hb,hp2.trans hp⟩
omit [Inhabited α] in
theorem Qa9.wide {l m:List α} {a b a2 b2:Nat} (h:Qa9 l m a b) (h1:a2<=a) (h2:b<=b2) (h3:b2<=l.length):Qa9 l m a2 b2:=by
 obtain ⟨A,X,Z,B,rfl,rfl,rfl,rfl,hp⟩:=h
 have hz:=hp.length_eq
 simp only [QQ7] at h3
 refine ⟨A.take a2,A.drop a2++X++B.take (b2-(A.length+X.length)),A.drop a2++Z++B.take (b2-(A.length+X.length)),B.drop (b2-(A.length+X.length)),?_,?_,by rw [List.length_take];omega,by simp only [QQ7,List.length_drop,List.length_take];omega,(hp.append_left _).append_right _⟩
 ·have e1:=List.take_append_drop a2 A
  have e2:=List.take_append_drop (b2-(A.length+X.length)) B
  calc A++X++B=(A.take a2++A.drop a2)++X++(B.take (b2-(A.length+X.length))++B.drop (b2-(A.length+X.length))):=by rw [e1,e2]
   _=_:=by simp only [List.append_assoc]
 have e1:=List.take_append_drop a2 A
 have e2:=List.take_append_drop (b2-(A.length+X.length)) B
 calc A++Z++B=(A.take a2++A.drop a2)++Z++(B.take (b2-(A.length+X.length))++B.drop (b2-(A.length+X.length))):=by rw [e1,e2]
  _=_:=by simp only [List.append_assoc]
theorem Qa9.out {l m:List α} {a b i:Nat} (h:Qa9 l m a b) (hi:i<a∨b<=i):gd m i=gd l i:=by
 obtain ⟨A,X,Z,B,rfl,rfl,rfl,rfl,hp⟩:=h
 have hz:=hp.length_eq
 rcases hi with hi|hi
 ·rw [List.append_assoc,List.append_assoc,Qdh hi,Qdh hi]
 rw [Qdn (by simp only [QQ7];omega),Qdn (by simp only [QQ7];omega)]
 simp only [QQ7];congr 1;omega
def Qbe (cf:α->α->Int) (l:List α) (a b:Nat):Prop:=∀ i j,a<=i->i<j->j<b->¬cf (gd l j) (gd l i)<0
theorem Qbe.out {l m:List α} {a b c d:Nat} (h:Qbe cf l a b) (g:Qa9 l m c d) (hd:b<=c∨d<=a):Qbe cf m a b:=by
 intro i j hi hij hj
 rw [g.out (by omega),g.out (by omega)]
 exact h i j hi hij hj
theorem Qbe.sub {l:List α} {a b c d:Nat} (h:Qbe cf l a b) (h1:a<=c) (h2:d<=b):Qbe cf l c d:=fun i j hi hij hj=>h i j (by omega) hij (by omega)
theorem Qbe.small {l:List α} {a b:Nat} (h:b<=a+1):Qbe cf l a b:=fun i j hi hij hj=>by omega
theorem Qa9.from {l m:List α} {a b i:Nat} (h:Qa9 l m a b) (h1:a<=i) (h2:i<b):∃ k,a<=k/\k<b/\gd m i=gd l k:=by
 obtain ⟨A,X,Z,B,rfl,rfl,rfl,rfl,hp⟩:=h
 have hz:=hp.length_eq
 have e1:gd (A++Z++B) i=gd Z (i-A.length):=by rw [List.append_assoc,Qdn (by omega),Qdh (by omega)]
 have hm:gd Z (i-A.length)∈Z:=QbG (by omega)
 obtain ⟨k,hk,e⟩:=Qf3 (hp.mem_iff.1 hm)
 refine ⟨A.length+k,by omega,by omega,?_⟩
 rw [e1,← e,List.append_assoc,Qdn (by omega),Qdh (by omega)]
 congr 1;omega
theorem QeK {l:List α} {a m b:Nat} (h1:Qbe cf l a m) (h2:Qbe cf l m b) (h:∀ i j,a<=i->i<m->m<=j->j<b->¬cf (gd l j) (gd l i)<0):Qbe cf l a b:=by
 intro i j hi hij hj
 by_cases e:j<m
 ·exact h1 i j hi hij e
 by_cases e2:i<m
 ·exact h i j hi e2 (by omega) hj
 exact h2 i j (by omega) hij hj
end
end Go.Vx
namespace Go.Vx
section
variable {α:Type} [Inhabited α] {cf:α->α->Int}
def swN (l:List α) (p q n:Nat):List α:=(List.range n).foldl (fun l k=>swL l (p+k) (q+k)) l
theorem Qpb (l:List α) (p q:Nat):swN l p q 0=l:=rfl
theorem Qj0 (l:List α) (p q n:Nat):swN l p q (n+1)=swL (swN l p q n) (p+n) (q+n):=by unfold swN;rw [List.range_succ,List.foldl_append];rfl
theorem Qfn {A U M V B:List α} (h:U.length=V.length):swN (A++U++M++V++B) A.length (A.length+U.length+M.length) U.length=A++V++M++U++B:=by
 have:∀ k,k<=U.length->swN (A++U++M++V++B) A.length (A.length+U.length+M.length) k=swR A U M V B k:=by
  intro k
  induction k with
  | zero=>intro _;rw [Qpb,QoV]
  | succ k ih =>
   intro hk
   rw [Qj0,ih (by omega)]
   exact Qow h (by omega) rfl (by omega)
 rw [this _ (Nat.le_refl _),QqM h]
def Qb4 (l l2:List α) (a m b:Nat):Prop:=∃ A X Y B,l=A++X++Y++B/\l2=A++Y++X++B/\A.length=a/\a+X.length=m/\m+Y.length=b
omit [Inhabited α] in
theorem Qb4.perm {l l2:List α} {a m b:Nat} (h:Qb4 l l2 a m b):Qa9 l l2 a b:=by
 obtain ⟨A,X,Y,B,rfl,rfl,ha,hm,hb⟩:=h
 exact ⟨A,X++Y,Y++X,B,by simp only [List.append_assoc],by simp only [List.append_assoc],ha,by simp only [QQ7];omega,List.perm_append_comm⟩
theorem Qb4.at_l {l l2:List α} {a m b i:Nat} (h:Qb4 l l2 a m b) (h1:a<=i) (h2:i<a+(b-m)):gd l2 i=gd l (m+(i-a)):=by
 obtain ⟨A,X,Y,B,rfl,rfl,rfl,rfl,rfl⟩:=h
 have e1:gd (A++Y++X++B) i=gd Y (i-A.length):=by rw [List.append_assoc,List.append_assoc,Qdn (by omega),Qdh (by omega)]
 have e2:gd (A++X++Y++B) (A.length+X.length+(i-A.length))=gd Y (i-A.length):=by
  rw [List.append_assoc,Qdn (by simp only [QQ7];omega),Qdh (by simp only [QQ7];omega)]
  simp only [QQ7];congr 1;omega
 rw [e1,e2]
theorem Qb4.at_r {l l2:List α} {a m b i:Nat} (h:Qb4 l l2 a m b) (h1:a+(b-m)<=i) (h2:i<b):gd l2 i=gd l (i-(b-m)):=by
 obtain ⟨A,X,Y,B,rfl,rfl,rfl,rfl,rfl⟩:=h
 have e1:gd (A++Y++X++B) i=gd X (i-A.length-Y.length):=by
  rw [List.append_assoc,Qdn (by simp only [QQ7];omega),Qdh (by simp only [QQ7];omega)]
  simp only [QQ7];congr 1;omega
 have e2:gd (A++X++Y++B) (i-(A.length+X.length+Y.length-(A.length+X.length)))=gd X (i-A.length-Y.length):=by
  rw [List.append_assoc,List.append_assoc,Qdn (by omega),Qdh (by omega)]
  congr 1;omega
 rw [e1,e2]
omit [Inhabited α] in
theorem Qb4.refl {l:List α} {a m b:Nat} (h1:a<=m) (h2:m<=b) (h3:b<=l.length) (h:a=m∨m=b):Qb4 l l a m b:=by
 obtain ⟨e1,e2,e3⟩:=Qsw l h1 (Nat.le_trans h2 h3)
 obtain ⟨f1,f2,f3⟩:=Qsw l h2 h3
 obtain ⟨g1,g2,g3⟩:=Qsw l (Nat.le_trans h1 h2) h3
 rcases h with h|h
 ·subst h
  exact ⟨_,[],_,_,by simpa using g1,by simpa using g1,g2,by simp,g3⟩
 subst h
 exact ⟨_,_,[],_,by simpa using e1,by simpa using e1,e2,e3,by simp⟩
def Qh7 (l t:List α) (m i j:Nat):Prop:=∃ A U V B,l=A++U++V++B/\t=A++V++U++B/\A.length+U.length=m/\U.length=i/\V.length=j
omit [Inhabited α] in
theorem Qja {l:List α} {a m b:Nat} (h1:a<=m) (h2:m<=b) (h3:b<=l.length):∃ t,Qb4 l t a m b/\Qh7 l t m (m-a) (b-m):=by
 obtain ⟨e1,e2,e3⟩:=Qsw l h1 (Nat.le_trans h2 h3)
 obtain ⟨f1,f2,f3⟩:=Qsw (l.drop m) (Nat.zero_le (b-m)) (by rw [List.length_drop];omega)
 simp only [List.take_zero,List.drop_zero,List.nil_append,List.length_nil,Nat.zero_add] at f1 f2 f3
 refine ⟨l.take a++(l.drop m).take (b-m)++(l.take m).drop a++(l.drop m).drop (b-m),⟨l.take a,(l.take m).drop a,(l.drop m).take (b-m),(l.drop m).drop (b-m),?_,rfl,e2,e3,by omega⟩,⟨l.take a,(l.take m).drop a,(l.drop m).take (b-m),(l.drop m).drop (b-m),?_,rfl,by omega,by omega,by omega⟩⟩
 ·rw [List.append_assoc _ _ (List.drop _ (List.drop m l)),← f1];exact e1
 rw [List.append_assoc _ _ (List.drop _ (List.drop m l)),← f1];exact e1
theorem QpH {l t:List α} {m i j:Nat} (h:Qh7 l t m i j) (hij:j<i):Qh7 (swN l (m-i) m j) t m (i-j) j:=by
 obtain ⟨A,U,V,B,rfl,rfl,rfl,rfl,rfl⟩:=h
 have hu:=List.take_append_drop V.length U
 have h1:(U.take V.length).length=V.length:=by rw [List.length_take];omega
 have h2:(U.drop V.length).length=U.length-V.length:=List.length_drop
 refine ⟨A++V,U.drop V.length,U.take V.length,B,?_,?_,by rw [QQ7];omega,h2,h1⟩
 ·have:=Qfn (A:=A) (U:=U.take V.length) (M:=U.drop V.length) (V:=V) (B:=B) h1
  rw [h1,h2,show A.length+V.length+(U.length-V.length)=A.length+U.length by omega] at this
  rw [show A.length+U.length-U.length=A.length by omega]
  rw [← this,List.append_assoc A (U.take V.length),hu]
 rw [List.append_assoc (A++V) (U.take V.length),hu]
theorem Qpi {l t:List α} {m i j:Nat} (h:Qh7 l t m i j) (hij:i<j):Qh7 (swN l (m-i) (m+j-i) i) t m i (j-i):=by
 obtain ⟨A,U,V,B,rfl,rfl,rfl,rfl,rfl⟩:=h
 have hv:=List.take_append_drop (V.length-U.length) V
 have h1:(V.take (V.length-U.length)).length=V.length-U.length:=by rw [List.length_take];omega
 have h2:(V.drop (V.length-U.length)).length=U.length:=by rw [List.length_drop];omega
 refine ⟨A,V.drop (V.length-U.length),V.take (V.length-U.length),U++B,?_,?_,by omega,h2,h1⟩
 ·have:=Qfn (A:=A) (U:=U) (M:=V.take (V.length-U.length)) (V:=V.drop (V.length-U.length)) (B:=B) (by omega)
  rw [h1,show A.length+U.length+(V.length-U.length)=A.length+U.length+V.length-U.length by omega] at this
  rw [show A.length+U.length-U.length=A.length by omega,← List.append_assoc,← this,List.append_assoc (A++U) (V.take _),hv]
 rw [← List.append_assoc,List.append_assoc A (V.take _),hv]
theorem Qpy {l t:List α} {m i j:Nat} (h:Qh7 l t m i j) (hij:i=j):swN l (m-i) m i=t:=by
 obtain ⟨A,U,V,B,rfl,rfl,rfl,rfl,rfl⟩:=h
 have:=Qfn (A:=A) (U:=U) (M:=[]) (V:=V) (B:=B) hij
 simp only [List.append_nil,List.length_nil,Nat.add_zero] at this
 rw [show A.length+U.length-U.length=A.length by omega,this]
omit [Inhabited α] in
theorem Qiw {l t:List α} {m i j:Nat} (h:Qh7 l t m i j):m+j<=l.length/\i<=m:=by
 obtain ⟨A,U,V,B,rfl,rfl,rfl,rfl,rfl⟩:=h
 simp only [QQ7];omega
theorem QsP {l l1:List α} {a k:Nat} (h:Qb4 l l1 a (a+1) (k+1)) (hk:k+1<l.length):Qb4 l (swL l1 k (k+1)) a (a+1) (k+2):=by
 obtain ⟨A,X,Y,B,rfl,rfl,rfl,hX,hY⟩:=h
 have hX1:X.length=1:=by omega
 obtain ⟨x,rfl⟩:=List.length_eq_one_iff.1 hX1
 simp only [QQ7,List.length_cons,List.length_nil] at hk
 cases B with
 | nil=>simp at hk;omega
 | cons y B =>
  refine ⟨A,[x],Y++[y],B,by simp only [List.append_assoc,List.cons_append,List.nil_append],?_,rfl,hX,by simp only [QQ7,List.length_cons,List.length_nil];omega⟩
  have:=Qhk (A:=A++Y) (M:=[]) (B:=B) (x:=x) (y:=y) (i:=k) (j:=k+1) (by rw [QQ7];omega) (by rw [QQ7,List.length_nil];omega)
  simp only [List.nil_append] at this
  rw [show A++Y++[x]++y :: B=A++Y++x :: y :: B by simp only [List.append_assoc,List.cons_append,List.nil_append],this]
  simp only [List.append_assoc,List.cons_append,List.nil_append]
theorem Qks {l:List α} {i j:Nat}:swL l i j=swL l j i:=by
 unfold swL
 by_cases e:i=j
 ·subst e;rfl
 rw [List.set_comm _ _ e]
theorem QpG {l l1:List α} {k m:Nat} (h:Qb4 l l1 k m (m+1)) (hk:0<k):Qb4 l (swL l1 k (k-1)) (k-1) m (m+1):=by
 have hlen:=h.perm.len
 obtain ⟨A,X,Y,B,rfl,rfl,rfl,hX,hY⟩:=h
 have hY1:Y.length=1:=by omega
 obtain ⟨y,rfl⟩:=List.length_eq_one_iff.1 hY1
 obtain ⟨D,z,rfl⟩:∃ D z,A=D++[z]:=⟨A.dropLast,_,(List.dropLast_concat_getLast (l:=A) (by intro e;subst e;simp at hk)).symm⟩
 rw [Qks]
 simp only [QQ7,List.length_cons,List.length_nil] at hX ⊢
 refine ⟨D,z :: X,[y],B,by simp only [List.append_assoc,List.cons_append,List.nil_append],?_,by omega,by simp only [List.length_cons];omega,by simp⟩
 have:=Qhk (A:=D) (M:=[]) (B:=X++B) (x:=z) (y:=y) (i:=D.length) (j:=D.length+1) rfl (by rw [List.length_nil])
 simp only [List.nil_append] at this
 rw [show D++[z]++[y]++X++B=D++z :: y :: (X++B) by simp only [List.append_assoc,List.cons_append,List.nil_append]]
 rw [show D.length+(0+1)-1=D.length by omega,show D.length+(0+1)=D.length+1 by omega,this]
 simp only [List.append_assoc,List.cons_append,List.nil_append]
theorem Qfj {l l2:List α} {a s m e b:Nat} (hc:CmpO cf) (h1:Qbe cf l a m) (h2:Qbe cf l m b) (ha:a<=s) (hs:s<=m) (he:m<=e) (hb:e<=b) (hr:Qb4 l l2 s m e)
  (g1:s=a∨e=b∨¬cf (gd l e) (gd l (s-1))<0) (g2:s=m∨e=m∨cf (gd l (e-1)) (gd l s)<0) :
  Qbe cf l2 a s/\Qbe cf l2 s (s+(e-m))/\Qbe cf l2 (s+(e-m)) e/\Qbe cf l2 e b/\∀ i j,a<=i->i<s+(e-m)->s+(e-m)<=j->j<b->¬cf (gd l2 j) (gd l2 i)<0:=by
 have ho:=hr.perm
 refine ⟨(h1.sub (Nat.le_refl _) hs).out ho (.inl (Nat.le_refl _)),?_,?_,(h2.sub he (Nat.le_refl _)).out ho (.inr (Nat.le_refl _)),?_⟩
 ·intro i j hi hij hj
  rw [hr.at_l hi (by omega),hr.at_l (by omega) hj]
  exact h2 _ _ (by omega) (by omega) (by omega)
 ·intro i j hi hij hj
  rw [hr.at_r hi (by omega),hr.at_r (by omega) hj]
  exact h1 _ _ (by omega) (by omega) (by omega)
 have le1:∀ i j,a<=i->i<=j->j<m->¬cf (gd l j) (gd l i)<0:=fun i j hi hij hj=>by
  rcases Nat.lt_or_eq_of_le hij with q|q
  ·exact h1 i j hi q hj
  subst q;exact hc.irr _
 have le2:∀ i j,m<=i->i<=j->j<b->¬cf (gd l j) (gd l i)<0:=fun i j hi hij hj=>by
  rcases Nat.lt_or_eq_of_le hij with q|q
  ·exact h2 i j hi q hj
  subst q;exact hc.irr _
 intro i j hi hi2 hj hj2
 by_cases c1:i<s
 ·rw [ho.out (.inl c1)]
  by_cases c2:j<e
  ·rw [hr.at_r hj c2];exact le1 _ _ hi (by omega) (by omega)
  rw [ho.out (.inr (by omega))]
  rcases g1 with g|g|g
  ·omega
  ·omega
  exact hc.tr _ _ _ (le1 i (s-1) hi (by omega) (by omega)) (hc.tr _ _ _ g (le2 e j (by omega) (by omega) hj2))
 rw [hr.at_l (by omega) hi2]
 by_cases c2:j<e
 ·rw [hr.at_r hj c2]
  rcases g2 with g|g|g
  ·omega
  ·omega
  exact hc.tr _ _ _ (le2 _ (e-1) (by omega) (by omega) (by omega)) (hc.tr _ _ _ (hc.tot _ _ g) (le1 s _ (by omega) (by omega) (by omega)))
 rw [ho.out (.inr (by omega))];exact le2 _ _ (by omega) (by omega) hj2
def Merged (cf:α->α->Int) (l l2:List α) (a b:Nat):Prop:=Qa9 l l2 a b/\Qbe cf l2 a b
theorem QpE {l l2 l3 l4:List α} {a mid b:Nat} (h2:Qa9 l l2 a b) (h3:Merged cf l2 l3 a mid) (h4:Merged cf l3 l4 mid b) (ham:a<=mid) (hmb:mid<=b) (hb:b<=l.length)
  (hx:∀ i j,a<=i->i<mid->mid<=j->j<b->¬cf (gd l2 j) (gd l2 i)<0):Merged cf l l4 a b:=by
 have e2:=h2.len
 have e3:=h3.1.len
 refine ⟨(h2.trans (h3.1.wide (Nat.le_refl _) hmb (by omega))).trans (h4.1.wide ham (Nat.le_refl _) (by omega)),QeK (h3.2.out h4.1 (.inl (Nat.le_refl _))) h4.2 ?_⟩
 intro i j hi hi2 hj hj2
 obtain ⟨k,k1,k2,ek⟩:=h4.1.from hj hj2
 rw [h4.1.out (.inl hi2),ek,h3.1.out (i:=k) (.inr k1)]
 obtain ⟨q,q1,q2,eq⟩:=h3.1.from hi hi2
 rw [eq]
 exact hx q k q1 q2 k1 k2
theorem QtN {l l2:List α} {a b i:Nat} (hc:CmpO cf) (h2:Qbe cf l (a+1) b) (hi:a+1<=i) (hib:i<=b) (hbl:b<=l.length) (hr:Qb4 l l2 a (a+1) i)
  (g1:i=b∨¬cf (gd l i) (gd l a)<0) (g2:i=a+1∨cf (gd l (i-1)) (gd l a)<0):Merged cf l l2 a b:=by
 obtain ⟨_,k2,k3,k4,k5⟩:=Qfj hc (Qbe.small (Nat.le_refl _)) h2 (Nat.le_refl a) (Nat.le_succ a) hi hib hr (.inl rfl) (by rcases g2 with g|g;exact .inr (.inl g);exact .inr (.inr g))
 refine ⟨hr.perm.wide (Nat.le_refl _) hib hbl,QeK k2 (QeK k3 k4 ?_) k5⟩
 intro p q hp hp2 hq hq2
 have ep:p=a+(i-(a+1)):=by omega
 rw [hr.at_r hp hp2,hr.perm.out (.inr hq),show p-(i-(a+1))=a by omega]
 rcases g1 with g|g
 ·omega
 rcases Nat.lt_or_eq_of_le hq with e|e
 ·exact hc.tr _ _ _ g (h2 i q (by omega) e hq2)
 subst e;exact g
theorem Qoq {l l2:List α} {a m i:Nat} (hc:CmpO cf) (h1:Qbe cf l a m) (hi:a<=i) (him:i<=m) (hbl:m+1<=l.length) (hr:Qb4 l l2 i m (m+1))
  (g1:i=a∨¬cf (gd l m) (gd l (i-1))<0) (g2:i=m∨cf (gd l m) (gd l i)<0):Merged cf l l2 a (m+1):=by
 obtain ⟨k1,k2,k3,_,k5⟩:=Qfj hc h1 (Qbe.small (Nat.le_refl _)) hi him (Nat.le_succ m) (Nat.le_refl _) hr (.inr (.inl rfl)) (by rcases g2 with g|g;exact .inl g;exact .inr (.inr (by simpa using g)))
 refine ⟨hr.perm.wide hi (Nat.le_refl _) hbl,QeK (QeK k1 k2 ?_) k3 k5⟩
 intro p q hp hp2 hq hq2
 rw [hr.at_l hq hq2,hr.perm.out (.inl hp2),show m+(q-i)=m by omega]
 rcases g1 with g|g
 ·omega
 rcases Nat.lt_or_eq_of_le (show p<=i-1 by omega) with e|e
 ·exact hc.tr _ _ _ (h1 p (i-1) hp e (by omega)) g
 subst e;exact g
end
end Go.Vx
namespace Go.Vx
section
variable {α:Type} [Inhabited α] {f:α->Bool} {l:List α}
def Qcj (f:α->Bool) (l:List α):Nat:=(l.takeWhile f).length
def Qno (f:α->Bool) (l:List α):Prop:=∀ i j,i<j->j<l.length->f (gd l j)=true->f (gd l i)=true
omit [Inhabited α] in
theorem QfI:Qcj f l<=l.length:=by
 unfold Qcj
 induction l with
 | nil=>simp
 | cons a l ih=>rw [List.takeWhile_cons];split<;>simp<;>omega
theorem Qkb {i:Nat} (h:i<Qcj f l):f (gd l i)=true:=by
 unfold Qcj at h
 induction l generalizing i with
 | nil=>simp at h
 | cons a l ih =>
  rw [List.takeWhile_cons] at h
  split at h
  ·rename_i ha
   cases i with
   | zero=>simpa [gd] using ha
   | succ i=>have:=ih (i:=i) (by simpa using h);simpa [gd] using this
  simp at h
theorem Qju (h:Qcj f l<l.length):f (gd l (Qcj f l))=false:=by
 unfold Qcj at h ⊢
 induction l with
 | nil=>simp at h
 | cons a l ih =>
  rw [List.takeWhile_cons] at h ⊢
  split at h
  ·rename_i ha
   rw [if_pos ha]
   have:=ih (by simpa using h)
   simpa [gd] using this
  rename_i ha
  rw [if_neg ha]
  simpa [gd] using ha
theorem QnK (hm:Qno f l) {h:Nat} (hh:h<l.length) (hf:f (gd l h)=true):h<Qcj f l:=by
 rcases Nat.lt_or_ge h (Qcj f l) with g|g
 ·exact g
 have h1:=Qju (f:=f) (l:=l) (by omega)
 rcases Nat.lt_or_eq_of_le g with e|e
 ·have:=hm _ _ e hh hf;rw [h1] at this;cases this
 rw [e] at h1;rw [h1] at hf;cases hf
theorem Qhv {h:Nat} (hf:f (gd l h)=false):Qcj f l<=h:=by
 rcases Nat.lt_or_ge h (Qcj f l) with g|g
 ·rw [Qkb g] at hf;cases hf
 exact g
end
section
variable {α:Type} [Inhabited α] {p:α->Bool} {l:List α}
theorem Qbx {k:Nat} (hk:k<l.length):l.take (k+1)=l.take k++[gd l k]:=by
 rw [List.take_add_one]
 simp [gd,hk]
def QeE (p:α->Bool) (l:List α):Int:=if l.any p then ((Qcj (fun x=>!p x) l:Nat):Int) else -1
theorem Qi0 {k:Nat} (hk:k<l.length) (hno:∀ j,j<k->p (gd l j)=false) (h:p (gd l k)=true):QeE p l=(k:Int):=by
 unfold QeE
 have h1:l.any p=true:=List.any_eq_true.2 ⟨gd l k,QbG hk,h⟩
 rw [if_pos h1]
 have h2:Qcj (fun x=>!p x) l<=k:=Qhv (by rw [h];rfl)
 rcases Nat.lt_or_eq_of_le h2 with g|g
 ·have h3:=Qju (f:=fun x=>!p x) (l:=l) (by omega)
  rw [hno _ g] at h3;cases h3
 rw [g]
theorem QlV (hno:∀ j,j<l.length->p (gd l j)=false):QeE p l = -1:=by
 unfold QeE
 have h1:l.any p=false:=by
  rw [List.any_eq_false]
  intro x hx
  obtain ⟨i,hi,rfl⟩:=Qf3 hx
  rw [hno i hi];simp
 rw [h1];rfl
theorem QjZ:(QeE p l = -1/\l.filter (fun x=>!p x)=l)∨∃ k:Nat,QeE p l=(k:Int)/\k<l.length/\p (gd l k)=true/\(l.take k).filter (fun x=>!p x)=l.take k:=by
 unfold QeE
 by_cases h:l.any p=true
 ·right
  obtain ⟨x,hx,hp⟩:=List.any_eq_true.1 h
  obtain ⟨i,hi,rfl⟩:=Qf3 hx
  have hle:Qcj (fun x=>!p x) l<=i:=Qhv (by rw [hp];rfl)
  have hlt:Qcj (fun x=>!p x) l<l.length:=by omega
  have hat:=Qju hlt
  refine ⟨Qcj (fun x=>!p x) l,by rw [if_pos h],hlt,by simpa using hat,?_⟩
  rw [List.filter_eq_self]
  intro x hx
  obtain ⟨j,hj,rfl⟩:=Qf3 hx
  have hjl:j<Qcj (fun x=>!p x) l:=by rw [List.length_take] at hj;omega
  have:=Qkb hjl
  have e:gd (l.take (Qcj (fun x=>!p x) l)) j=gd l j:=by simp [gd,hjl]
  rw [e];exact this
 left
 rw [Bool.not_eq_true] at h
 refine ⟨by rw [h];rfl,?_⟩
 rw [List.filter_eq_self]
 intro x hx
 rw [List.any_eq_false] at h
 simpa using h x hx
def Moved (p:α->Bool) (l m:List α) (i j:Nat):Prop:=m.length=l.length/\m.take i=(l.take j).filter (fun x=>!p x)/\∀ k,j<=k->gd m k=gd l k
theorem QfZ {k:Nat} (hk:k<l.length) (hp:p (gd l k)=true) (h:(l.take k).filter (fun x=>!p x)=l.take k):Moved p l l k (k+1):=by
 refine ⟨rfl,?_,fun _ _=>rfl⟩
 rw [Qbx hk,List.filter_append,h]
 simp [hp]
theorem QgV {m:List α} {i j:Nat} (h:Moved p l m i j) (hj:j<l.length) (hp:p (gd m j)=true):Moved p l m i (j+1):=by
 rw [h.2.2 j (Nat.le_refl _)] at hp
 refine ⟨h.1,?_,fun k hk=>h.2.2 k (by omega)⟩
 rw [h.2.1,Qbx hj,List.filter_append]
 simp [hp]
theorem Qg3 {m:List α} {i j:Nat} (h:Moved p l m i j) (hj:j<l.length) (hij:i<j) (hp:p (gd m j)=false):Moved p l (m.set i (gd m j)) (i+1) (j+1):=by
 have hp':=hp
 rw [h.2.2 j (Nat.le_refl _)] at hp'
 refine ⟨by rw [List.length_set,h.1],?_,fun k hk=>?_⟩
 ·rw [Qbx hj,List.filter_append,← h.2.1]
  have hil:i<(m.set i (gd m j)).length:=by rw [List.length_set,h.1];omega
  rw [Qbx hil]
  congr 1
  ·rw [List.take_set_of_le (Nat.le_refl _)]
  have:gd (m.set i (gd m j)) i=gd m j:=by
   have:i<m.length:=by rw [h.1];omega
   simp [gd,this]
  rw [this,h.2.2 j (Nat.le_refl _)]
  simp [hp']
 rw [← h.2.2 k (by omega)]
 simp [gd,show ¬i=k by omega]
theorem Qh3 {m:List α} {i j:Nat} (h:Moved p l m i j) (hj:l.length<=j):m.take i=l.filter (fun x=>!p x):=by
 rw [h.2.1,List.take_of_length_le hj]
end
end Go.Vx
namespace Go.Vx
open Go.RowKit
section
variable {P:Program} {ty:TypeId} {e:Operand->Value} {w:World} {K:Value->World->Prop}
theorem Qg8 {t u:TypeId} {x y:Operand} {k ky:IntKind} {a:Nat} (hx:e x = .int k (a:Int)) (hy:e y = .int ky 1) (h:K (.int k ((a/2:Nat):Int)) w):opW P (.binOp .shr t x y u) ty e w K:=by
 refine Qvx hx hy (by decide) (by cases k<;>decide) ?_
 have:(a:Int)/2 ^ (1:Int).toNat=((a/2:Nat):Int):=by
  show (a:Int)/2 ^ 1=_
  omega
 rw [this];exact h
end
section
variable {α:Type} [Inhabited α] {cf:α->α->Int}
theorem QgS {l:List α} {i j:Nat} (hij:i<j) (hj:j<l.length):Qa9 l (swL l i j) i (j+1):=by
 have h1:l=l.take i++gd l i :: ((l.drop (i+1)).take (j-i-1)++gd l j :: l.drop (j+1)):=by
  have e1:l.drop i=gd l i :: l.drop (i+1):=by rw [List.drop_eq_getElem_cons (by omega)];simp [gd,show i<l.length by omega]
  have e2:l.drop j=gd l j :: l.drop (j+1):=by rw [List.drop_eq_getElem_cons hj];simp [gd,hj]
  have e3:l.drop (i+1)=(l.drop (i+1)).take (j-i-1)++l.drop j:=by
   conv=>lhs;rw [← List.take_append_drop (j-i-1) (l.drop (i+1))]
   rw [List.drop_drop];congr 2;omega
  conv=>lhs;rw [← List.take_append_drop i l,e1,e3,e2]
 have hlen:(l.take i).length=i:=by rw [List.length_take];omega
 have hmid:((l.drop (i+1)).take (j-i-1)).length=j-i-1:=by rw [List.length_take,List.length_drop];omega
 have h2:swL l i j=l.take i++gd l j :: ((l.drop (i+1)).take (j-i-1)++gd l i :: l.drop (j+1)):=by
  have:=Qhk (A:=l.take i) (M:=(l.drop (i+1)).take (j-i-1)) (B:=l.drop (j+1)) (x:=gd l i) (y:=gd l j) (i:=i) (j:=j) hlen.symm (by rw [hlen,hmid];omega)
  rw [← h1] at this
  exact this
 refine ⟨l.take i,gd l i :: ((l.drop (i+1)).take (j-i-1)++[gd l j]),gd l j :: ((l.drop (i+1)).take (j-i-1)++[gd l i]),l.drop (j+1),?_,?_,hlen,?_,?_⟩
 ·conv=>lhs;rw [h1]
  simp only [List.append_assoc,List.cons_append,List.nil_append]
 ·rw [h2];simp only [List.append_assoc,List.cons_append,List.nil_append]
 ·simp only [List.length_cons,QQ7,hmid,List.length_nil];omega
 have h3:(gd l j :: ((l.drop (i+1)).take (j-i-1)++[gd l i])).Perm (gd l j :: gd l i :: (l.drop (i+1)).take (j-i-1)):=List.Perm.cons _ List.perm_append_comm
 have h4:(gd l i :: ((l.drop (i+1)).take (j-i-1)++[gd l j])).Perm (gd l i :: gd l j :: (l.drop (i+1)).take (j-i-1)):=List.Perm.cons _ List.perm_append_comm
 exact h3.trans ((List.Perm.swap _ _ _).trans h4.symm)
theorem Qpp {l:List α} {i:Nat}:swL l i i=l:=by
 unfold swL gd
 apply List.ext_getElem?
 intro k
 rw [List.getElem?_set,List.getElem?_set]
 by_cases h:i=k
 ·subst h
  by_cases hl:i<l.length
  ·simp [hl]
  simp [hl]
 simp [h]
theorem Qr3 {l:List α} {i j a b:Nat} (h1:a<=i) (h2:i<b) (h3:a<=j) (h4:j<b) (hb:b<=l.length):Qa9 l (swL l i j) a b:=by
 rcases Nat.lt_trichotomy i j with h|h|h
 ·exact (QgS h (by omega)).wide h1 (by omega) hb
 ·subst h;rw [Qpp];exact Qa9.refl l (by omega) hb
 rw [Qks];exact (QgS h (by omega)).wide h3 (by omega) hb
theorem QtQ {l:List α} {i j k:Nat} (hi:i<l.length) (hj:j<l.length):gd (swL l i j) k=if k=j then gd l i else if k=i then gd l j else gd l k:=by
 unfold swL
 have h1:∀ (l:List α) (i k:Nat) (x:α),i<l.length->gd (l.set i x) k=if k=i then x else gd l k:=by
  intro l i k x hi
  unfold gd
  rw [List.getD_eq_getElem?_getD,List.getElem?_set]
  by_cases h:i=k
  ·subst h;simp [hi]
  rw [if_neg h,if_neg (fun e=>h e.symm),List.getD_eq_getElem?_getD]
 rw [h1 _ _ _ _ (by rw [List.length_set];exact hj),h1 _ _ _ _ hi]
def Quo (cf:α->α->Int) (m:List α) (a i j:Nat):Prop:=∀ p q,a<=p->p<q->q<=i->q≠j->¬cf (gd m q) (gd m p)<0
theorem QlW {m:List α} {a i:Nat} (h:Qbe cf m a i):Quo cf m a i i:=fun p q hp hpq hq hne=>h p q hp hpq (by omega)
theorem Qpg {m:List α} {a i j:Nat} (hc:CmpO cf) (h:Quo cf m a i j) (hj:a<j) (hji:j<=i) (hi:i<m.length) (ht:cf (gd m j) (gd m (j-1))<0):Quo cf (swL m j (j-1)) a i (j-1):=by
 intro p q hp hpq hq hne
 rw [QtQ (by omega) (by omega),QtQ (by omega) (by omega),if_neg hne]
 by_cases e1:q=j
 ·subst e1
  rw [if_pos rfl]
  by_cases e2:p=q-1
  ·subst e2;rw [if_pos rfl];exact hc.tot _ _ ht
  rw [if_neg e2,if_neg (by omega)];exact h p (q-1) hp (by omega) (by omega) (by omega)
 rw [if_neg e1]
 by_cases e2:p=j-1
 ·rw [if_pos e2];exact h j q (by omega) (by omega) hq (by omega)
 rw [if_neg e2]
 by_cases e3:p=j
 ·rw [if_pos e3];exact h (j-1) q (by omega) (by omega) hq e1
 rw [if_neg e3];exact h p q hp hpq hq e1
theorem Qsq {m:List α} {a i j:Nat} (hc:CmpO cf) (h:Quo cf m a i j) (hja:a<=j) (hj:j=a∨¬cf (gd m j) (gd m (j-1))<0):Qbe cf m a (i+1):=by
 intro p q hp hpq hq
 by_cases e:q=j
 ·subst e
  rcases hj with hj|hj
  ·omega
  by_cases e2:p=q-1
  ·subst e2;exact hj
  exact hc.tr _ _ _ (h p (q-1) hp (by omega) (by omega) (by omega)) hj
 exact h p q hp hpq (by omega) e
end
end Go.Vx
namespace Go.Vx
section
variable {α:Type} [Inhabited α] {cf:α->α->Int}
def Blk (cf:α->α->Int) (m:List α) (s lim:Nat):Prop:=∀ t,Qbe cf m (t*s) (min (t*s+s) lim)
theorem Qpo {m:List α} {s:Nat}:Blk cf m s 0:=fun t=>Qbe.small (by omega)
theorem Qj2 {m m':List α} {s t0 e:Nat} (h:Blk cf m s (t0*s)) (hp:Qa9 m m' (t0*s) e) (ho:Qbe cf m' (t0*s) e) (he:e<=t0*s+s):Blk cf m' s e:=by
 intro t
 rcases Nat.lt_trichotomy t t0 with g|g|g
 ·have h1:t*s+s<=t0*s:=by rw [← Nat.succ_mul];exact Nat.mul_le_mul_right _ g
  have h2:=h t
  have e1:min (t*s+s) (t0*s)=t*s+s:=by omega
  rw [e1] at h2
  exact (h2.out hp (.inl h1)).sub (Nat.le_refl _) (by omega)
 ·subst g;exact ho.sub (Nat.le_refl _) (by omega)
 have h1:t0*s+s<=t*s:=by rw [← Nat.succ_mul];exact Nat.mul_le_mul_right _ g
 exact Qbe.small (by omega)
def Mrg (cf:α->α->Int) (m:List α) (s t0 n:Nat):Prop:=(∀ t,t<t0->Qbe cf m (t*(2*s)) (min (t*(2*s)+2*s) n))/\∀ t,2*t0<=t->Qbe cf m (t*s) (min (t*s+s) n)
theorem Qm3 {m:List α} {s n:Nat} (h:Blk cf m s n):Mrg cf m s 0 n:=⟨fun t ht=>by omega,fun t _=>h t⟩
theorem Qez (t0 s:Nat):(2*t0)*s=t0*(2*s):=by rw [Nat.mul_comm 2 t0,Nat.mul_assoc]
theorem Qf2 {m:List α} {s t0 n:Nat} (h:Mrg cf m s t0 n):Qbe cf m (t0*(2*s)) (min (t0*(2*s)+s) n)/\Qbe cf m (t0*(2*s)+s) (min (t0*(2*s)+2*s) n):=by
 have h1:=h.2 (2*t0) (Nat.le_refl _)
 have h2:=h.2 (2*t0+1) (by omega)
 rw [Qez] at h1
 rw [Nat.add_mul,Qez,Nat.one_mul] at h2
 refine ⟨h1,?_⟩
 rw [show t0*(2*s)+2*s=t0*(2*s)+s+s by omega]
 exact h2
theorem QjR {m m':List α} {s t0 n e:Nat} (h:Mrg cf m s t0 n) (hp:Qa9 m m' (t0*(2*s)) e) (ho:Qbe cf m' (t0*(2*s)) e) (he:e=min (t0*(2*s)+2*s) n):Mrg cf m' s (t0+1) n:=by
 refine ⟨fun t ht=>?_,fun t ht=>?_⟩
 ·rcases Nat.lt_or_eq_of_le (show t<=t0 by omega) with g|g
  ·have h1:t*(2*s)+2*s<=t0*(2*s):=by rw [← Nat.succ_mul];exact Nat.mul_le_mul_right _ g
   exact (h.1 t g).out hp (.inl (by omega))
  subst g;rw [← he];exact ho
 have h1:t0*(2*s)+2*s<=t*s:=by
  have:(2*(t0+1))*s<=t*s:=Nat.mul_le_mul_right _ ht
  rw [Qez,Nat.add_mul,Nat.one_mul] at this;exact this
 exact (h.2 t (by omega)).out hp (.inr (by omega))
theorem QrI {m:List α} {s t0 n:Nat} (h:Mrg cf m s t0 n) (hn:n<=t0*(2*s)):Blk cf m (2*s) n:=by
 intro t
 rcases Nat.lt_or_ge t t0 with g|g
 ·exact h.1 t g
 have h1:t0*(2*s)<=t*(2*s):=Nat.mul_le_mul_right _ g
 exact Qbe.small (by omega)
theorem QpM {m:List α} {s t0 n:Nat} (h:Mrg cf m s t0 n) (hn:n<=t0*(2*s)+s):Blk cf m (2*s) n:=by
 intro t
 rcases Nat.lt_trichotomy t t0 with g|g|g
 ·exact h.1 t g
 ·subst g;exact (Qf2 h).1.sub (Nat.le_refl _) (by omega)
 have h1:t0*(2*s)+2*s<=t*(2*s):=by rw [← Nat.succ_mul];exact Nat.mul_le_mul_right _ g
 exact Qbe.small (by omega)
theorem Qq1 {m:List α} {s n:Nat} (h:Blk cf m s n) (hs:n<=s):Qbe cf m 0 n:=by
 have:=h 0
 rw [Nat.zero_mul,Nat.zero_add] at this
 exact this.sub (Nat.le_refl _) (by omega)
theorem Qr2 {m:List α} {n:Nat} (h:Qbe cf m 0 n) (hn:m.length<=n):Qly cf m:=by
 refine List.pairwise_iff_getElem.2 fun i j hi hj hij=>?_
 have:=h i j (Nat.zero_le _) hij (by omega)
 simpa [gd,hi,hj] using this
omit [Inhabited α] in
theorem QpI (key:α->Int):CmpO (fun x y=>Qa0 (key x) (key y)) where
 irr x:=by unfold Qa0;simp
 tot x y h:=by
  unfold Qa0 at *
  split at h
  ·rename_i g;rw [if_neg (by omega),if_pos g];omega
  split at h<;>omega
 tr x y z h1 h2:=by
  unfold Qa0 at *
  split at h1<;>split at h2<;>(try omega)
end
end Go.Vx
namespace Go.Vx
section
variable {α:Type}
def Qdu (l:List α) (i:Nat) (x:α):List α:=l.take i++[x]++l.drop i
theorem QfR {l:List α} {i:Nat} {x:α} (hi:i<=l.length):(Qdu l i x).length=l.length+1:=by
 unfold Qdu;simp only [QQ7,List.length_take,List.length_drop,List.length_cons,List.length_nil];omega
theorem QjV {l:List α} {i:Nat} {x:α} (hi:i=l.length):l++[x]=Qdu l i x:=by
 subst hi;unfold Qdu;rw [List.take_length,List.drop_length,List.append_nil]
theorem Qko {l:List α} {x z:α} {i:Nat} (hi:i<=l.length) :
  (((l.take i++List.replicate (l.length+1-i) z).take i++[x]++(l.take i++List.replicate (l.length+1-i) z).drop (i+[x].length)).take (i+1)++l.drop i++((l.take i++List.replicate (l.length+1-i) z).take i++[x]++(l.take i++List.replicate (l.length+1-i) z).drop (i+[x].length)).drop (i+1+(l.drop i).length))=Qdu l i x:=by
 have h1:(l.take i).length=i:=by rw [List.length_take];omega
 have e1:(l.take i++List.replicate (l.length+1-i) z).take i=l.take i:=List.take_left' h1
 rw [e1]
 have e2:(l.take i++[x]).length=i+1:=by rw [QQ7,h1];rfl
 have e3:(l.take i++[x]++(l.take i++List.replicate (l.length+1-i) z).drop (i+[x].length)).take (i+1)=l.take i++[x]:=List.take_left' e2
 have e4:(l.take i++[x]++(l.take i++List.replicate (l.length+1-i) z).drop (i+[x].length)).drop (i+1+(l.drop i).length)=[]:=by
  apply List.drop_eq_nil_of_le
  rw [QQ7,e2]
  simp only [QQ7,List.length_drop,List.length_replicate,h1,List.length_cons,List.length_nil]
  omega
 rw [e3,e4,List.append_nil]
 rfl
theorem QkI {l:List α} {x:α} {i:Nat} (hi:i<l.length) :
  ((l.take (i+1)++l.drop i++l.drop (i+1+(l.drop i).length)).take i++[x]++(l.take (i+1)++l.drop i++l.drop (i+1+(l.drop i).length)).drop (i+[x].length))=Qdu l i x:=by
 have h0:l.drop (i+1+(l.drop i).length)=[]:=List.drop_eq_nil_of_le (by rw [List.length_drop];omega)
 rw [h0,List.append_nil]
 have h1:(l.take (i+1)).length=i+1:=by rw [List.length_take];omega
 unfold Qdu
 congr 1
 ·congr 1
  rw [List.take_append_of_le_length (by omega),List.take_take,Nat.min_eq_left (by omega)]
 rw [List.length_singleton,List.drop_left' h1]
end
end Go.Vx
namespace Go.Vx
section
variable {α:Type} [Inhabited α] {cf:α->α->Int}
def Quv (P:Program) (f g E k:Nat) (enc:α->List Value) (cf:α->α->Int) (d:Nat):Prop:=∀ (w:World) (S:Nat->Prop) (a:Option Addr) (N c:Nat) (l:List α) (lo mid hi:Nat),l.length=N->N<=2305843009213693951->hi-lo<=d->lo<mid->mid<hi->hi<=N->Qbe cf l lo mid->Qbe cf l mid hi ->
 (row (.slice a N c) (l.map enc) E k).holds w S->(∀ b,S b->b<w.heap.size)->Calls P f #[.slice a N c,.int .i64 (lo:Int),.int .i64 (mid:Int),.int .i64 (hi:Int),.func (.func g) #[] #[]] w fun e w'=>∃ x:List α,e = .returned (.tuple #[])/\Own w S w' [row (.slice a N c) (x.map enc) E k]/\(x.length=N/\Merged cf l x lo hi)
theorem Qt0 {l:List α} {lo hi s s0 n e:Nat} (h:s=s0∨¬cf (gd l (n-1-(s-1))) (gd l (s-1))<0) (h0:s0=lo∨n=hi+s0) (hs:s0<=s) (he:e=n-s):s=lo∨e=hi∨¬cf (gd l e) (gd l (s-1))<0:=by
 by_cases hss:s=s0
 ·rcases h0 with h0|h0
  ·exact .inl (by omega)
  exact .inr (.inl (by omega))
 rcases h with h|h
 ·exact absurd h hss
 rw [show n-1-(s-1)=e by omega] at h;exact .inr (.inr h)
theorem Qs6 {l:List α} {mid md s r0 n e:Nat} (h:s=r0∨cf (gd l (n-1-s)) (gd l s)<0) (h0:r0=mid∨r0=md) (hn:n=md+mid) (he:e=n-s) (hsm:s<=md):s=mid∨e=mid∨cf (gd l (e-1)) (gd l s)<0:=by
 rcases h with h|h
 ·rcases h0 with h0|h0
  ·exact .inl (by omega)
  exact .inr (.inl (by omega))
 rw [show n-1-s=e-1 by omega] at h;exact .inr (.inr h)
end
end Go.Vx
namespace Go.Proofs
open Go Go.Vx Go.RowKit
namespace Tt
theorem QbP:TA Tryz.prog 102 2:=⟨Tryz.sizeOf102,Tryz.isAgg102⟩
theorem QaB:TA Tryz.prog 106 7:=⟨Tryz.sizeOf106,Tryz.isAgg106⟩
theorem QeL:El Tryz.prog 35 106 7 24:=⟨Tryz.underlying35,_,_,Tryz.type106,rfl,rfl,rfl,rfl,by decide⟩
theorem Qgx:El Tryz.prog 36 102 2 8:=⟨Tryz.underlying36,_,_,Tryz.type102,rfl,rfl,rfl,rfl,by decide⟩
theorem Qup:En Tryz.prog 126:=Tryz.call126
theorem Qqw:En Tryz.prog 136:=Tryz.call136
theorem QkK:En Tryz.prog 157:=Tryz.call157
theorem QsX:En Tryz.prog 170:=Tryz.call170
theorem QmO:En Tryz.prog 184:=Tryz.call184
theorem Qvv:En Tryz.prog 88:=Tryz.call88
theorem Qdm:Ud Tryz.prog 159 (.int .u64):=Tryz.runUnderlying159
theorem QbC:Ud Tryz.prog 35 (.slice 106):=Tryz.runUnderlying35
theorem Qem:Ud Tryz.prog 36 (.slice 102):=Tryz.runUnderlying36
theorem QtG:Tryz.prog.underlying 3=some (.int .i64):=Tryz.underlying3
theorem QcW:Tryz.prog.underlying 35=some (.slice 106):=Tryz.underlying35
theorem QdP:Tryz.prog.underlying 36=some (.slice 102):=Tryz.underlying36
theorem QkM:Zv Tryz.prog 102 (.agg (lsc (⟨0,0⟩:Lst)).toArray):=Tryz.zeroValue102
theorem Qfz:Zv Tryz.prog 106 (.agg (cec (⟨0,0,0,0,(⟨0,0⟩:Dot),0⟩:Cen)).toArray):=Tryz.zeroValue106
end Tt
end Go.Proofs
namespace Go.Vx
theorem QjW {x y:Int}:Qa0 x y<0↔x<y:=by unfold Qa0;split<;>(try split)<;>omega
theorem QiD {x y:Int}:Qa0 x y=0↔x=y:=by unfold Qa0;split<;>(try split)<;>omega
theorem Qe2 {α:Type} {f:α->Bool} {x:α} {l:List α}:Qcj f (x :: l)=if f x=true then Qcj f l+1 else 0:=by
 unfold Qcj;rw [List.takeWhile_cons];split<;>simp
def QuO (c:Int) (x:Lst):Bool:=decide (Qa0 x.cart c<0)
def QbL (ts:List Lst) (c:Int):Nat:=Qcj (QuO c) ts
theorem QdM {c:Int} {x:Lst}:QuO c x=true↔x.cart<c:=by unfold QuO;rw [decide_eq_true_iff,QjW]
theorem Qqx {ts:List Lst} (h:QdG ts) {i j:Nat} (hij:i<j) (hj:j<ts.length):(gd ts i).cart<(gd ts j).cart:=by
 have:=List.pairwise_iff_getElem.1 h i j (by omega) hj hij
 simpa [gd,hj,show i<ts.length by omega] using this
theorem QmV {ts:List Lst} (h:QdG ts) (c:Int):Qno (QuO c) ts:=fun i j hij hj hf=>by
 rw [QdM] at *
 have:=Qqx h hij hj;omega
theorem Qff {x:Lst} {l:List Lst} {c:Int}:QaM (x :: l) c=if x.cart=c then some x.tick else QaM l c:=by
 unfold QaM;by_cases h:x.cart=c<;>simp [h]
theorem Qgg {ts:List Lst} {c:Int} (h:∀ x∈ts,c<x.cart):QaM ts c=none:=by
 unfold QaM
 rw [Option.map_eq_none_iff,List.find?_eq_none]
 intro x hx
 have:=h x hx
 simp;omega
theorem Qkk {ts:List Lst} (h:QdG ts) (c:Int):(QbL ts c<ts.length/\(gd ts (QbL ts c)).cart=c/\QaM ts c=some (gd ts (QbL ts c)).tick)∨((¬(QbL ts c<ts.length/\(gd ts (QbL ts c)).cart=c))/\QaM ts c=none):=by
 induction ts with
 | nil=>right;simp [QaM,QbL]
 | cons x l ih =>
  have hx:=List.pairwise_cons.1 h
  unfold QbL at *
  rw [Qe2,Qff]
  by_cases h1:x.cart<c
  ·rw [if_pos (QdM.2 h1),if_neg (by omega)]
   rcases ih hx.2 with ⟨a,b,d⟩|⟨a,d⟩
   ·left;exact ⟨by simpa using a,by simpa [gd] using b,by simpa [gd] using d⟩
   right;refine ⟨fun ⟨p,q⟩=>a ⟨by simpa using p,by simpa [gd] using q⟩,d⟩
  rw [if_neg (fun h=>h1 (QdM.1 h))]
  by_cases h2:x.cart=c
  ·left;rw [if_pos h2];exact ⟨by simp,by simpa [gd] using h2,by simp [gd]⟩
  right;rw [if_neg h2]
  refine ⟨fun ⟨_,q⟩=>h2 (by simpa [gd] using q),Qgg fun y hy=>?_⟩
  have:=hx.1 y hy;omega
theorem Qlu {ts:List Lst} (h:QdG ts) (c:Int):(decide (QbL ts c<ts.length)&&decide (Qa0 (gd ts (QbL ts c)).cart c=0))=(QaM ts c).isSome:=by
 rcases Qkk h c with ⟨a,b,d⟩|⟨a,d⟩
 ·rw [d,QQ3 a,QQ3 (QiD.2 b)];rfl
 rw [d]
 by_cases h1:QbL ts c<ts.length
 ·rw [QQ4 (p:=Qa0 _ _=0) (fun e=>a ⟨h1,QiD.1 e⟩),Bool.and_false];rfl
 rw [QQ4 h1];rfl
theorem QhD {ts:List Lst} (h:QdG ts) {c:Int} (hs:(QaM ts c).isSome=true):QbL ts c<ts.length/\(gd ts (QbL ts c)).cart=c/\QaM ts c=some (gd ts (QbL ts c)).tick:=by
 rcases Qkk h c with g|⟨_,d⟩
 ·exact g
 rw [d] at hs;cases hs
theorem QrO (ts:List Lst) (c:Int):QbL ts c<=ts.length:=QfI
theorem Qol {ts:List Lst} (h:QdG ts) {c t:Int} (hs:(QaM ts c).isSome=false):Qdv c t ts=Qdu ts (QbL ts c) ⟨c,t⟩:=by
 induction ts with
 | nil=>rfl
 | cons x l ih =>
  have hx:=List.pairwise_cons.1 h
  rw [Qff] at hs
  unfold Qdv QbL
  rw [Qe2]
  by_cases h2:x.cart=c
  ·rw [if_pos h2] at hs;cases hs
  rw [if_neg h2] at hs ⊢
  by_cases h1:x.cart<c
  ·rw [if_pos (QdM.2 h1),if_neg (by omega),ih hx.2 hs];rfl
  rw [if_neg (fun h=>h1 (QdM.1 h)),if_pos (by omega)];rfl
theorem Qpf {ts:List Lst} (h:QdG ts) {c t:Int} (hs:(QaM ts c).isSome=true):Qdv c t ts=ts.set (QbL ts c) ⟨c,max (gd ts (QbL ts c)).tick t⟩:=by
 induction ts with
 | nil=>simp [QaM] at hs
 | cons x l ih =>
  have hx:=List.pairwise_cons.1 h
  rw [Qff] at hs
  unfold Qdv QbL
  rw [Qe2]
  by_cases h2:x.cart=c
  ·rw [if_pos h2,if_neg (fun h=>by have:=QdM.1 h;omega)];simp [gd]
  rw [if_neg h2] at hs ⊢
  by_cases h1:x.cart<c
  ·rw [if_pos (QdM.2 h1),if_neg (by omega),ih hx.2 hs];simp [gd,QbL]
  rw [Qgg (fun y hy=>by have:=hx.1 y hy;omega)] at hs;cases hs
def Qn7 (ts:List Lst) (i:Nat):Bool:=decide (1073741824<(gd ts i).tick)||(decide (0<i)&&decide ((gd ts i).cart<=(gd ts (i-1)).cart))
def QjM (s:Sta) (i:Nat):Bool:=!Qjc s (gd s.ents i)||((s.ents.take i).any fun x=>decide (x.dot=(gd s.ents i).dot))||(decide (0<i)&&!Qce (gd s.ents (i-1)) (gd s.ents i))
def Qav (s:Sta):Bool:=QaR s.known 16&&((List.range s.ticks.length).all fun i=>!Qn7 s.ticks i)&&(List.range s.ents.length).all fun i=>!QjM s i
theorem Qp9 {ts:List Lst} {k:Nat} (hk:k<=ts.length) (h:∀ i,i<k->Qn7 ts i=false):QdG (ts.take k):=by
 have key:∀ j,j<k->∀ i,i<j->(gd ts i).cart<(gd ts j).cart:=by
  intro j
  induction j with
  | zero=>intro _ i hi;omega
  | succ j ih =>
   intro hj i hi
   have h1:=h (j+1) hj
   unfold Qn7 at h1
   simp only [Bool.or_eq_false_iff,Bool.and_eq_false_iff,decide_eq_false_iff_not,Nat.add_sub_cancel] at h1
   have h2:(gd ts j).cart<(gd ts (j+1)).cart:=by rcases h1.2 with g|g<;>omega
   rcases Nat.lt_or_eq_of_le (show i<=j by omega) with g|g
   ·have:=ih (by omega) i g;omega
   subst g;exact h2
 refine List.pairwise_iff_getElem.2 fun i j hi hj hij=>?_
 rw [List.length_take] at hi hj
 have:=key j (by omega) i hij
 rw [List.getElem_take,List.getElem_take]
 simpa [gd,show i<ts.length by omega,show j<ts.length by omega] using this
theorem QqU {l:List Cen} (h:∀ i,i<l.length->0<i->Qce (gd l (i-1)) (gd l i)=true):QhR l:=by
 have key:∀ j,j<l.length->∀ i,i<j->Qce (gd l i) (gd l j)=true:=by
  intro j
  induction j with
  | zero=>intro _ i hi;omega
  | succ j ih =>
   intro hj i hi
   have h1:=h (j+1) hj (by omega)
   rw [Nat.add_sub_cancel] at h1
   rcases Nat.lt_or_eq_of_le (show i<=j by omega) with g|g
   ·exact Qcp (ih (by omega) i g) h1
   subst g;exact h1
 refine List.pairwise_iff_getElem.2 fun i j hi hj hij=>?_
 simpa [gd,hi,hj] using key j hj i hij
theorem QoC {l:List Cen} (h:∀ i,i<l.length->((l.take i).any fun x=>decide (x.dot=(gd l i).dot))=false):(l.map (·.dot)).Nodup:=by
 refine List.pairwise_iff_getElem.2 fun i j hi hj hij=>?_
 rw [QQ6] at hi hj
 have h1:=h j hj
 rw [List.any_eq_false] at h1
 rw [List.getElem_map,List.getElem_map]
 intro e
 refine h1 (l[i]) ?_ ?_
 ·rw [List.mem_take_iff_getElem];exact ⟨i,by omega,rfl⟩
 rw [decide_eq_true_iff,e];simp [gd,hj]
theorem Qip {s:Sta} (hk:QaR s.known 16=true) (ht:∀ i,i<s.ticks.length->Qn7 s.ticks i=false) (he:∀ i,i<s.ents.length->QjM s i=false):RightC s:=by
 have he':∀ i,i<s.ents.length->Qjc s (gd s.ents i)=true/\((s.ents.take i).any fun x=>decide (x.dot=(gd s.ents i).dot))=false/\(0<i->Qce (gd s.ents (i-1)) (gd s.ents i)=true):=fun i hi=>by
  have:=he i hi
  unfold QjM at this
  simp only [Bool.or_eq_false_iff,Bool.and_eq_false_iff,decide_eq_false_iff_not,Bool.not_eq_false'] at this
  refine ⟨this.1.1,this.1.2,fun h0=>?_⟩
  rcases this.2 with g|g
  ·exact absurd h0 g
  exact g
 refine ⟨hk,?_,?_,QqU fun i hi h0=>(he' i hi).2.2 h0,fun e hm=>?_,QoC fun i hi=>(he' i hi).2.1⟩
 ·have:=Qp9 (Nat.le_refl _) ht
  rwa [List.take_length] at this
 ·intro x hx
  obtain ⟨i,hi,rfl⟩:=Qf3 hx
  have:=ht i hi
  unfold Qn7 at this
  simp only [Bool.or_eq_false_iff,decide_eq_false_iff_not] at this
  omega
 obtain ⟨i,hi,rfl⟩:=Qf3 hm
 exact (he' i hi).1
theorem QcH {s:Sta}:Qav s=true↔RightC s:=by
 constructor
 ·intro h
  unfold Qav at h
  simp only [Bool.and_eq_true,List.all_eq_true,List.mem_range,Bool.not_eq_true'] at h
  exact Qip h.1.1 h.1.2 h.2
 intro h
 unfold Qav
 simp only [Bool.and_eq_true,List.all_eq_true,List.mem_range,Bool.not_eq_true']
 refine ⟨⟨h.known,fun i hi=>?_⟩,fun i hi=>?_⟩
 ·unfold Qn7
  have h1:=h.tick _ (QbG hi)
  rw [QQ4 (by omega),Bool.false_or]
  by_cases h0:0<i
  ·have:=Qqx h.rt (show i-1<i by omega) hi
   rw [QQ4 (p:=(gd s.ticks i).cart<=_) (by omega),Bool.and_false]
  rw [QQ4 h0];rfl
 unfold QjM
 have h1:=h.ent _ (QbG hi)
 rw [h1]
 have h2:((s.ents.take i).any fun x=>decide (x.dot=(gd s.ents i).dot))=false:=by
  rw [List.any_eq_false]
  intro x hx
  obtain ⟨j,hj,rfl⟩:=List.mem_take_iff_getElem.1 hx
  rw [decide_eq_true_iff]
  intro e
  have hnd:=List.pairwise_iff_getElem.1 h.nd j i (by rw [QQ6];omega) (by rw [QQ6];exact hi) (by omega)
  rw [List.getElem_map,List.getElem_map] at hnd
  apply hnd
  rw [e];simp [gd,hi]
 rw [h2]
 by_cases h0:0<i
 ·have:=List.pairwise_iff_getElem.1 h.re (i-1) i (by omega) hi (by omega)
  have h3:Qce (gd s.ents (i-1)) (gd s.ents i)=true:=by simpa [gd,hi,show i-1<s.ents.length by omega] using this
  rw [h3];simp
 rw [QQ4 h0];rfl
theorem Qk5 {s:Sta} {i:Nat} (hi:i<s.ticks.length) (h:Qn7 s.ticks i=true):Qav s=false:=by
 rw [← Bool.not_eq_true]
 intro hr
 unfold Qav at hr
 simp only [Bool.and_eq_true,List.all_eq_true,List.mem_range,Bool.not_eq_true'] at hr
 rw [hr.1.2 i hi] at h;cases h
theorem Qc6 {s:Sta} {i:Nat} (hi:i<s.ents.length) (h:QjM s i=true):Qav s=false:=by
 rw [← Bool.not_eq_true]
 intro hr
 unfold Qav at hr
 simp only [Bool.and_eq_true,List.all_eq_true,List.mem_range,Bool.not_eq_true'] at hr
 rw [hr.2 i hi] at h;cases h
theorem Qlw {s:Sta} (h:QaR s.known 16=false):Qav s=false:=by unfold Qav;rw [h];rfl
def QiO (l:List Cen):List (Dot × Unit):=l.foldl (fun m e=>mput e.dot () m) []
theorem QgT (l:List Cen) (e:Cen):QiO (l++[e])=mput e.dot () (QiO l):=by unfold QiO;rw [List.foldl_append];rfl
theorem Qik (l:List Cen) (d:Dot):(mget d (QiO l)).isSome=l.any fun x=>decide (x.dot=d):=by
 refine Qbs (motive:=fun l=>(mget d (QiO l)).isSome=l.any fun x=>decide (x.dot=d)) rfl (fun l e ih=>?_) l
 rw [QgT,Qej,List.any_append,← ih]
 by_cases h:e.dot=d
 ·subst h;simp
 rw [if_neg (fun e2=>h e2.symm)];simp [h]
theorem QkR {l:List Cen} {k:Nat} (hk:k<l.length):QiO (l.take (k+1))=mput (gd l k).dot () (QiO (l.take k)):=by rw [Qbx hk,QgT]
end Go.Vx
namespace Go.Vx
def Qdx (s:Sta):Prop:=QbM s.known/\(∀ e∈s.ents,QiU e)/\∀ x∈s.ticks,QhX x
theorem Qkz (a b:Cen):decide (0<=QbS a b) = !Qce a b:=by
 by_cases h:Qce a b=true
 ·rw [h,QQ4]
  ·rfl
  have:=(QdI a b).2 h;omega
 rw [Bool.not_eq_true] at h
 rw [h,QQ3]
 ·rfl
 rcases Int.lt_or_le (QbS a b) 0 with g|g
 ·rw [(QdI a b).1 g] at h;cases h
 exact g
end Go.Vx
namespace Go.Vx
open Go.RowKit
theorem Qgs {k:Nat}:∀ (m:List (List Value)) (_:∀ l∈m,l.length=k) (j off:Nat) (vs a:List Value),m[j]?=some a->off+vs.length<=k->(m.set j (spl a off vs)).flatten=spl m.flatten (j*k+off) vs
 | [],_,j,_,_,_,h,_=>by simp at h
 | b :: m,hm,0,off,vs,a,h,ho=>by
  simp at h;subst h
  have hb:=hm b (by simp)
  rw [List.set_cons_zero,List.flatten_cons,List.flatten_cons,QcQ _ _ _ (by omega),QcQ _ _ _ (by rw [QQ7];omega)]
  rw [Nat.zero_mul,Nat.zero_add,List.take_append_of_le_length (by omega),List.drop_append_of_le_length (by omega)]
  simp only [List.append_assoc]
 | b :: m,hm,j+1,off,vs,a,h,ho=>by
  simp only [List.getElem?_cons_succ] at h
  have hb:=hm b (by simp)
  have hm':∀ l∈m,l.length=k:=fun l hl=>hm l (by simp [hl])
  have ih:=Qgs m hm' j off vs a h ho
  have hj:=QaT h
  have hfl:=Qb5 m hm'
  have hb2:(j+1)*k<=m.length*k:=Nat.mul_le_mul_right _ hj
  rw [Nat.add_mul,Nat.one_mul] at hb2
  rw [List.set_cons_succ,List.flatten_cons,List.flatten_cons,ih,QcQ _ _ _ (by omega),QcQ _ _ _ (by rw [QQ7];rw [Nat.add_mul];omega)]
  have e1:(j+1)*k+off=b.length+(j*k+off):=by rw [Nat.add_mul,hb];omega
  rw [e1,List.take_length_add_append,show b.length+(j*k+off)+vs.length=b.length+(j*k+off+vs.length) by omega,List.drop_length_add_append]
  simp only [List.append_assoc]
section
variable {P:Program} {ty:TypeId} {e:Operand->Value} {w:World} {K:Value->World->Prop} {w0:World} {M:Nat->Prop} {L:List Res}
theorem Quq {α:Type} [Inhabited α] {t E k n c:Nat} {enc:α->List Value} {x y:Operand} {v:Value} {l:List α} {z:α} {V:Value} {vs:List Value} (i off:Nat) (ht:Sz P t c) (hs:Own w0 M w L) (j:Nat) (hk:L[j]?=some (row v (l.map enc) E k)) (hx:e x = .pointer (some ⟨bkS v,n,none⟩)) (hn:n=ofS v+i*k+off) (hi:i<l.length) (hy:e y=V)
  (hV:V.cells=vs.toArray) (hvc:vs.length=c) (hz:enc z=spl (enc (gd l i)) off vs) (hoff:off+vs.length<=k) (h1:∀ u∈enc z,u.oneCell'=true) (hv1:∀ u∈vs,u.oneCell'=true) (h:∀ w',Own w0 M w' (L.set j (row v ((l.set i z).map enc) E k))->K undef w'):opW P (.store t x y) ty e w K:=by
 obtain ⟨S,⟨⟨hl1,ho1⟩,hown,hSg⟩,hlt,_⟩:=hs.get j hk
 rcases hown.2 with ⟨hv,hn0⟩|⟨g,cap,cur,hv,h0g,hg,hnc,hcm,hcs,htake⟩
 ·have h0:l.length=0:=by simpa using hn0
  omega
 have hlen:(l.map enc).length=l.length:=by simp
 subst hv
 have hn':n=i*k+off:=by rw [hn];simp [ofS]
 subst hn'
 have hx':e x = .pointer (some ⟨g,i*k+off,none⟩):=hx
 have hik:i*k+k<=l.length*k:=by
  have:=Nat.mul_le_mul_right k (show i+1<=l.length from hi)
  rw [Nat.add_mul] at this;omega
 have hcap:l.length*k<=cur.size:=by rw [hcs];exact Nat.mul_le_mul_right _ (by rw [← hlen];exact hnc)
 have hrun:=Qcn (P:=P) ht g (i*k+off) E V vs cur.toList hV hvc (w:=w) (by simpa using hg) (by have:cur.toList.length=cur.size:=QQ9;omega) hv1
 refine Qea (w':=w.setRow g (spl cur.toList (i*k+off) vs).toArray) ?_ (h _ ?_)
 ·simp only [execOp,hx',hy,Instr.storeAt,Instr.sureAddr,Sem.run_bind,Sem.run_pure,Result.andThen_ok,hrun]
 refine hs.change j (b:=g) hk (by simp) rfl rfl rfl (fun c hc=>setRow_other w g c _ hc) ?_
 rintro S' ⟨_,hown',hSg'⟩
 have e1:(l.set i z).map enc=(l.map enc).set i (spl (enc (gd l i)) off vs):=by rw [List.map_set,hz]
 have hgi:(l.map enc)[i]?=some (enc (gd l i)):=by simp [gd,hi]
 have hzl:(enc z).length=k:=by
  have hgl:=hl1 _ (List.mem_of_getElem? hgi)
  rw [hz,QcQ _ _ _ (by omega)]
  simp only [QQ7,List.length_take,List.length_drop];omega
 have hk1:∀ m∈(l.map enc).set i (spl (enc (gd l i)) off vs),m.length=k:=by
  intro m hm
  rcases List.mem_or_eq_of_mem_set hm with h|h
  ·exact hl1 m h
  subst h;rw [← hz];exact hzl
 have hsl:∀ cs:List Value,i*k+k<=cs.length->(spl cs (i*k+off) vs).length=cs.length:=fun cs hc=>by
  rw [QcQ _ _ _ (by omega)]
  simp only [QQ7,List.length_take,List.length_drop];omega
 refine ⟨hSg' g rfl,?_⟩
 rw [e1]
 refine ⟨⟨hk1,?_⟩,⟨?_,.inr ⟨g,cap,_,by rw [List.length_set],h0g,setRow_heap w g cur _ E _ hg,by rw [List.length_set];exact hnc,hcm,?_,?_⟩⟩,fun g' hg'=>by cases hg';exact hSg' g rfl⟩
 ·intro m hm u hu
  rcases List.mem_or_eq_of_mem_set hm with h|h
  ·exact ho1 m h u hu
  subst h;rw [← hz] at hu;exact h1 u hu
 ·rw [Qgs _ hl1 i off vs _ hgi hoff,List.length_set,hsl _ (by rw [hown.1,hlen];exact hik)];exact hown.1
 ·rw [List.size_toArray,hsl _ (by have:cur.toList.length=cur.size:=QQ9;omega)];simpa using hcs
 rw [Qgs _ hl1 i off vs _ hgi hoff,← htake,List.length_set]
 show (spl cur.toList (i*k+off) vs).take _=_
 rw [Qhl]
theorem Own.lendB (hs:Own w0 M w L) (i j:Nat) (hij:i≠j) {R:Res} (hi:L[i]?=some R) {b T:Nat} {cs:List Value} (hj:L[j]?=some (blk b cs T)) :
  ∃ S,R.holds w S/\(∀ b,S b->b<w.heap.size)/\¬S b/\∀ w' R' L',Own w S w' (R' :: L')->Own w0 M w' (L.set i R'++L'):=by
 obtain ⟨S,h1,h2,_,h4,h5⟩:=hs.lend3 i hi
 obtain ⟨Sj,hj1,hj2⟩:=h4 j (fun e=>hij e.symm) _ hj
 exact ⟨S,h1,h2,fun hb=>hj2 _ hb hj1.1,h5⟩
theorem Qq2 {α:Type} {f:FuncId} {xs:List Operand} {vs:List Value} {ats:Array TypeId} {V:α->Value} {R:Res} {R':α->Res} {Lo:α->List Res} {F:α->World->Prop} {b T:Nat} {cs:List Value} (hf:En P f) (hef:e (.func f) = .func (.func f) #[] #[]) (hv:xs.map e=vs)
  (hs:Own w0 M w L) (i j:Nat) (hij:i≠j) (hi:L[i]?=some R) (hj:L[j]?=some (blk b cs T))
  (hc:∀ S,R.holds w S->(∀ b,S b->b<w.heap.size)->¬S b->Qb8 w b cs->Calls P f vs.toArray w fun r w'=>∃ x,r = .returned (V x)/\Own w S w' (R' x :: Lo x)/\F x w') (h:∀ x w',Own w0 M w' (L.set i (R' x)++Lo x)->F x w'->K (V x) w') :
  opW P (.call { callee:=.value (.func f),args:=xs.toArray,argTypes:=ats }) ty e w K:=by
 obtain ⟨S,hR,hlt,hn,hback⟩:=hs.lendB i j hij hi hj
 exact QeA hf hef (by rw [List.map_toArray,hv]) ((hc S hR hlt hn (hs.cellsf j hj)).mono fun r w' ⟨x,hr,ho,hF⟩=>⟨V x,hr,h x w' (hback w' _ _ ho) hF⟩)
end
def QeU (e:Cen) (x:Cen):Bool:=decide (QbS x e<0)
theorem Qhp {e x:Cen}:QeU e x=true↔Qce x e=true:=by unfold QeU;rw [decide_eq_true_iff,QdI]
theorem Qr4 {l:List Cen} (h:QhR l) {i j:Nat} (hij:i<j) (hj:j<l.length):Qce (gd l i) (gd l j)=true:=by
 have:=List.pairwise_iff_getElem.1 h i j (by omega) hj hij
 simpa [gd,hj,show i<l.length by omega] using this
theorem QnJ {l:List Cen} (h:QhR l) (e:Cen):Qno (QeU e) l:=fun i j hij hj hf=>by
 rw [Qhp] at *
 exact Qcp (Qr4 h hij hj) hf
theorem Qkq {e:Cen}:∀ {l:List Cen},e.dot ∉ l.map (·.dot)->Qkd e l=Qdu l (Qcj (QeU e) l) e
 | [],_=>rfl
 | x :: l,hn=>by
  rw [List.map_cons,List.mem_cons] at hn
  unfold Qkd
  rw [Qe2]
  rcases Qex (a:=e) (b:=x) (fun h=>hn (.inl h)) with h|h
  ·have h2:¬Qce x e=true:=fun g=>by have:=Qcp h g;rw [QbW] at this;cases this
   rw [if_pos h,if_neg (fun g=>h2 (Qhp.1 g))];rfl
  have h2:¬Qce e x=true:=fun g=>by have:=Qcp h g;rw [QbW] at this;cases this
  rw [if_neg h2,if_pos (Qhp.2 h),Qkq (fun hm=>hn (.inr hm))];rfl
def QcS (s:Sta) (o:Opn):Int:=if Qav s=true then QbF s.known o else 2
def QaS (s:Sta) (o:Opn):Sta:=if QcS s o=0 then Qd8 s o else szero
theorem Qnt (o:Opn):((decide (o.kind=1)||decide (o.kind=2))||decide (o.kind=4))=QbA o:=rfl
theorem QgU {known:Vec} {o:Opn} (ho:Qcc o) (h:QbF known o=0):DotP o.dot/\Qbv known o.dot=false:=⟨QhU ho (Qeb h).1,(Qeb h).2.1⟩
theorem Ql7 {s:Sta} {o:Opn} (hr:RightC s) (h:Qbv s.known o.dot=false):o.dot ∉ s.ents.map (·.dot):=fun hm=>by
 obtain ⟨e,he,hd⟩:=List.mem_map.1 hm
 have:=hr.ent e he
 unfold Qjc at this
 simp only [Bool.and_eq_true] at this
 rw [hd] at this
 rw [this.1.1.2] at h;cases h
end Go.Vx
namespace Go.Vx
theorem Own.two {w0 w:World} {M:Nat->Prop} {L:List Res} (h:Own w0 M w L) (i j:Nat) (hij:i≠j) {R Q:Res} (hi:L[i]?=some R) (hj:L[j]?=some Q):Own w0 M w [R,Q]:=by
 obtain ⟨a,b,c,d,e,S,f,g,i',j'⟩:=h
 refine ⟨a,b,c,d,e,fun k b=>(k=0/\S i b)∨(k=1/\S j b),fun k T hk=>?_,?_,?_,?_⟩
 ·match k with
  | 0 =>
   simp at hk;subst hk
   have e1:(fun b=>((0:Nat)=0/\S i b)∨((0:Nat)=1/\S j b))=S i:=by funext b;simp
   show R.holds w (fun b=>((0:Nat)=0/\S i b)∨((0:Nat)=1/\S j b))
   rw [e1];exact f i R hi
  | 1 =>
   simp at hk;subst hk
   have e1:(fun b=>((1:Nat)=0/\S i b)∨((1:Nat)=1/\S j b))=S j:=by funext b;simp
   show Q.holds w (fun b=>((1:Nat)=0/\S i b)∨((1:Nat)=1/\S j b))
   rw [e1];exact f j Q hj
  | k+2=>simp at hk
 ·rintro k b (⟨_,h⟩|⟨_,h⟩)
  ·exact g i b h
  exact g j b h
 ·rintro k k' b (⟨h1,h2⟩|⟨h1,h2⟩) (⟨h3,h4⟩|⟨h3,h4⟩)
  ·omega
  ·exact absurd (i' i j b h2 h4) hij
  ·exact absurd (i' i j b h4 h2) hij
  omega
 rintro k b (⟨_,h⟩|⟨_,h⟩) hb
 ·exact j' i b h hb
 exact j' j b h hb
end Go.Vx
namespace Go.Vx
theorem QmU {l:List Cen} {p:Cen->Bool} {d:Dot} (h:d∈(l.filter p).map (·.dot)):d∈l.map (·.dot):=by
 obtain ⟨e,he,hd⟩:=List.mem_map.1 h
 exact List.mem_map.2 ⟨e,(List.mem_filter.1 he).1,hd⟩
end Go.Vx
namespace Go.Proofs
open Go Go.Vx Go.RowKit
namespace Tt
theorem Qkf:T1 Tryz.prog 104:=⟨Tryz.sizeOf104,Tryz.isAgg104⟩
theorem Qgf:T1 Tryz.prog 35:=⟨Tryz.sizeOf35,Tryz.isAgg35⟩
theorem Qfi:T1 Tryz.prog 36:=⟨Tryz.sizeOf36,Tryz.isAgg36⟩
theorem Qqr:TA Tryz.prog 169 0:=⟨Tryz.sizeOf169,Tryz.isAgg169⟩
theorem QbU:TA Tryz.prog 38 18:=⟨Tryz.sizeOf38,Tryz.isAgg38⟩
theorem QtZ (a b:Dot):EqF Tryz.prog 2 96 (.agg (dc a).toArray) (.agg (dc b).toArray) (decide (a=b)):=by
 rw [← QrV]
 exact Qg2 Tryz.underlying96 Tryz.stoodInHeld96 (.cons (by decide) (Qbt ⟨Tryz.sizeOf5,Tryz.isAgg5⟩ rfl) (Qbt ⟨Tryz.sizeOf5,Tryz.isAgg5⟩ rfl) (Qey Tryz.runUnderlying5) (.cons (by decide) (Qbt ⟨Tryz.sizeOf22,Tryz.isAgg22⟩ rfl) (Qbt ⟨Tryz.sizeOf22,Tryz.isAgg22⟩ rfl) (Qey Tryz.runUnderlying22) .nil))
theorem Qqk:Bt Tryz.prog 102 [(0,1),(1,1)] (lsc (⟨0,0⟩:Lst)):=Qci Tryz.type102 rfl rfl Tryz.underlying102 (by kernel_rfl)
theorem QqD:Bt Tryz.prog 106 [(0,1),(1,1),(2,1),(3,1),(4,2),(6,1)] (cec (⟨0,0,0,0,(⟨0,0⟩:Dot),0⟩:Cen)):=Qci Tryz.type106 rfl rfl Tryz.underlying106 (by kernel_rfl)
theorem Qqh:Bt Tryz.prog 169 [] ([]):=Qci Tryz.type169 rfl rfl Tryz.underlying169 (by kernel_rfl)
theorem Qmz:Bt Tryz.prog 38 [(0,16),(16,1),(17,1)] ((vc vzero)++[(.slice none 0 0:Value),(.slice none 0 0:Value) ]):=Qci Tryz.type38 rfl rfl Tryz.underlying38 (by kernel_rfl)
theorem QrJ:Bt Tryz.prog 98 [(0,2),(2,1),(3,1),(4,1),(5,1),(6,1),(7,16)] (oc (⟨(⟨0,0⟩:Dot),0,0,0,0,0,vzero⟩:Opn)):=Qci Tryz.type98 rfl rfl Tryz.underlying98 (by kernel_rfl)
theorem QuE:En Tryz.prog 115:=Tryz.call115
theorem QtJ:En Tryz.prog 116:=Tryz.call116
theorem QsK:En Tryz.prog 117:=Tryz.call117
theorem Qts:En Tryz.prog 118:=Tryz.call118
theorem Qug:En Tryz.prog 119:=Tryz.call119
theorem Qqa:En Tryz.prog 120:=Tryz.call120
theorem Qto:En Tryz.prog 121:=Tryz.call121
theorem Qs7:En Tryz.prog 122:=Tryz.call122
theorem QsG:En Tryz.prog 123:=Tryz.call123
theorem Qs9:En Tryz.prog 124:=Tryz.call124
theorem Qte:En Tryz.prog 125:=Tryz.call125
theorem Qtw:En Tryz.prog 153:=Tryz.call153
theorem Quj:En Tryz.prog 156:=Tryz.call156
theorem QtS:En Tryz.prog 39:=Tryz.call39
theorem QsV:En Tryz.prog 42:=Tryz.call42
theorem Qt6:En Tryz.prog 46:=Tryz.call46
theorem Qog:En Tryz.prog 73:=Tryz.call73
theorem QrE:En Tryz.prog 74:=Tryz.call74
theorem QoW:En Tryz.prog 77:=Tryz.call77
theorem Qec:FA Tryz.prog 102 0 0:=fun b o w=>by simp [Instr.fieldAt,Instr.sureAddr,fieldPlace,Qbg]
theorem Qed:FA Tryz.prog 102 1 1:=fun b o w=>by simp [Instr.fieldAt,Instr.sureAddr,fieldPlace,Qbg]
theorem Qde:FA Tryz.prog 106 0 0:=fun b o w=>by simp [Instr.fieldAt,Instr.sureAddr,fieldPlace,Qbg]
theorem Qdg:FA Tryz.prog 106 1 1:=fun b o w=>by simp [Instr.fieldAt,Instr.sureAddr,fieldPlace,Qbg]
theorem Qeg:FA Tryz.prog 106 2 2:=fun b o w=>by simp [Instr.fieldAt,Instr.sureAddr,fieldPlace,Qbg]
theorem Qef:FA Tryz.prog 106 3 3:=fun b o w=>by simp [Instr.fieldAt,Instr.sureAddr,fieldPlace,Qbg]
theorem QbN:FA Tryz.prog 106 4 4:=fun b o w=>by simp [Instr.fieldAt,Instr.sureAddr,fieldPlace,Qbg]
theorem QfN:FA Tryz.prog 106 5 6:=fun b o w=>by simp [Instr.fieldAt,Instr.sureAddr,fieldPlace,Qbg]
theorem QeD:FA Tryz.prog 38 0 0:=fun b o w=>by simp [Instr.fieldAt,Instr.sureAddr,fieldPlace,Qbg]
theorem Qdb:FA Tryz.prog 38 1 16:=fun b o w=>by simp [Instr.fieldAt,Instr.sureAddr,fieldPlace,Qbg]
theorem QcI:FA Tryz.prog 38 2 17:=fun b o w=>by simp [Instr.fieldAt,Instr.sureAddr,fieldPlace,Qbg]
theorem Qoz:KeyOk Tryz.prog 96 dv:=QnA Tryz.underlying96 (by decide) (by decide) rfl rfl ⟨Tryz.sizeOf5,Tryz.isAgg5⟩ ⟨Tryz.sizeOf22,Tryz.isAgg22⟩ Tryz.runUnderlying5 Tryz.runUnderlying22 QtZ
theorem QkC:Ud Tryz.prog 168 (.map 96 169):=Tryz.runUnderlying168
theorem Qj7:Zv Tryz.prog 169 (.agg #[]):=Tryz.zeroValue169
theorem QfB:Zv Tryz.prog 38 (.agg ((vc vzero)++[(.slice none 0 0:Value),(.slice none 0 0:Value) ]).toArray):=Tryz.zeroValue38
theorem QiM:Zv Tryz.prog 98 (.agg (oc (⟨(⟨0,0⟩:Dot),0,0,0,0,0,vzero⟩:Opn)).toArray):=Tryz.zeroValue98
end Tt
end Go.Proofs
namespace Go.Vx
def cv (e:Cen):Value:=.agg (cec e).toArray
def cz:Cen:=⟨0,0,0,0,⟨0,0⟩,0⟩
def QvD (b:Sta) (x:Cen):Bool:=b.ents.any fun y=>decide (y.dot=x.dot)&&!decide (y=x)
def Qf8 (a b:Sta):Int:=if (Qav a&&Qav b)=false then 2 else if a.ents.any (QvD b)=true then 5 else 0
def QgY (a b:Sta):Sta:=if Qf8 a b=0 then Qtm a b else szero
def QkG (l m:List Cen):Prop:=m.Perm l/\m.Pairwise fun x y=>¬QbS y x<0
theorem Qrb {m:List Cen} (hn:(m.map (·.dot)).Nodup) (h:m.Pairwise fun x y=>¬QbS y x<0):QhR m:=by
 refine List.pairwise_iff_getElem.2 fun i j hi hj hij=>?_
 have h1:=List.pairwise_iff_getElem.1 h i j hi hj hij
 have h2:=List.pairwise_iff_getElem.1 hn i j (by simpa using hi) (by simpa using hj) hij
 rw [List.getElem_map,List.getElem_map] at h2
 rcases Qex h2 with g|g
 ·exact g
 exact absurd ((QdI _ _).2 g) h1
theorem Qrx {l m:List Cen} (hn:(l.map (·.dot)).Nodup) (h:QkG l m):m=Qdj l:=by
 have hp:=QeM l hn
 have hm:(m.map (·.dot)).Nodup:=(h.1.map _).nodup_iff.2 hn
 exact QmW (Qrb hm h.2) hp.1 fun x=>by rw [hp.2,h.1.mem_iff]
theorem QhI {c t:Int}:∀ l:List Lst,(Qdv c t l).length<=l.length+1
 | []=>by simp [Qdv]
 | x :: l=>by
  unfold Qdv
  split
  ·simp
  split
  ·simp
  have:=QhI (c:=c) (t:=t) l;simp;omega
def Quc (a b:Cen):Int:=orI [Qa0 a.count b.count,Qa0 a.dot.rep b.dot.rep,Qa0 a.dot.seq b.dot.seq]
theorem QtY (a b:Cen):decide (0<Quc a b)=Qen b a:=by
 rw [Bool.eq_iff_iff,decide_eq_true_iff,Qdz]
 unfold Quc orI Qa0
 rcases Int.lt_trichotomy a.count b.count with h|h|h
 ·simp [h];omega
 ·rw [if_neg (by omega),if_neg (by omega)]
  rcases Int.lt_trichotomy a.dot.rep b.dot.rep with h2|h2|h2
  ·simp [h,h2];omega
  ·rw [if_neg (by omega),if_neg (by omega)]
   rcases Int.lt_trichotomy a.dot.seq b.dot.seq with h3|h3|h3
   ·simp [h,h2,h3];omega
   ·rw [if_neg (by omega),if_neg (by omega)]
    simp;omega
   rw [if_neg (by omega),if_pos h3]
   simp;omega
  rw [if_neg (by omega),if_pos h2]
  simp;omega
 rw [if_neg (by omega),if_pos h]
 simp;omega
def QeF (a e:Cen):Cen:=if e.kind=1 then a else if Qen a e=true then e else a
theorem Ql0 (l:List Cen) (h:∀ e∈l,1<=e.count):l.foldl QeF cz=(QeH (l.filter fun e=>!decide (e.kind=1))).getD cz:=by
 revert h
 refine Qbs (motive:=fun l=>(∀ e∈l,1<=e.count)->l.foldl QeF cz=(QeH (l.filter fun e=>!decide (e.kind=1))).getD cz) (fun _=>rfl) (fun l e ih h=>?_) l
 have ih:=ih fun x hx=>h x (by simp [hx])
 have he:=h e (by simp)
 rw [List.foldl_append,List.filter_append]
 show QeF (l.foldl QeF cz) e=_
 unfold QeF
 by_cases hk:e.kind=1
 ·rw [if_pos hk]
  have:([e].filter fun e=>!decide (e.kind=1))=[]:=by simp [hk]
  rw [this,List.append_nil];exact ih
 rw [if_neg hk]
 have:([e].filter fun e=>!decide (e.kind=1))=[e]:=by simp [hk]
 rw [this,QgX]
 rw [show l.foldl (fun a e=>if e.kind=1 then a else if Qen a e=true then e else a) cz=l.foldl QeF cz from rfl,ih]
 cases QeH (l.filter fun e=>!decide (e.kind=1)) with
 | none =>
  have:Qen cz e=true:=by rw [Qdz];left;show 0<e.count;omega
  simp [this]
 | some y =>
  simp only [Option.getD_some]
  split<;>rfl
theorem QiL (l:List Cen) (e:Cen):Qli (l++[e])=if e.kind=1 then (Qli l+e.qty)%4294967296 else Qli l:=by unfold Qli;rw [List.foldl_append];rfl
theorem QoX {l:List Cen} (h:∀ e∈l,1<=e.count):(Qli l+(l.foldl QeF cz).qty)%4294967296=QeT l:=by
 unfold QeT
 rw [Ql0 l h]
 cases QeH (l.filter fun e=>!decide (e.kind=1))<;>rfl
theorem Qo5 (l:List Cen):l.foldl QeF cz=cz∨l.foldl QeF cz∈l:=by
 refine Qbs (motive:=fun l=>l.foldl QeF cz=cz∨l.foldl QeF cz∈l) (.inl rfl) (fun l e ih=>?_) l
 rw [List.foldl_append]
 show QeF (l.foldl QeF cz) e=cz∨QeF (l.foldl QeF cz) e∈l++[e]
 unfold QeF
 have key:l.foldl QeF cz=cz∨l.foldl QeF cz∈l++[e]:=by rcases ih with h|h;exact .inl h;exact .inr (by simp [h])
 split
 ·exact key
 split
 ·exact .inr (by simp)
 exact key
def Qjh (s:Sta) (c:Int):List Cen:=s.ents.filter fun e=>decide (e.cart=c)&&!decide (e.kind=4)
def Qic (s:Sta) (c n:Int):Line:=⟨n,QeT (QjK s c n)⟩
def Grps (Q R:List Cen) (I:List Int):Prop:=∃ D,Q=D++R/\(∀ x∈D,∀ y∈R,x.item<y.item)/\I.Pairwise (· < ·)/\∀ i,i∈I↔∃ x∈D,x.item=i
theorem QkU (Q:List Cen):Grps Q Q []:=⟨[],by simp,by simp,List.Pairwise.nil,by simp⟩
theorem QmA {Q R:List Cen} {I:List Int} {n:Nat} (h:Grps Q R I) (hs:Qly (fun x y=>Qa0 x.item y.item) Q) (hn1:1<=n) (hn:n<=R.length) (heq:∀ j,j<n->(gd R j).item=(gd R 0).item) (hne:n=R.length∨(gd R n).item≠(gd R 0).item) :
  Grps Q (R.drop n) (I++[(gd R 0).item])/\∀ x,x∈R.take n↔x∈Q/\x.item=(gd R 0).item:=by
 obtain ⟨D,hQ,hlt,hI,hm⟩:=h
 subst hQ
 have hR:Qly (fun x y=>Qa0 x.item y.item) R:=(Qng hs).2.1
 have hle:∀ i j,i<=j->j<R.length->(gd R i).item<=(gd R j).item:=fun i j hij hj=>by
  rcases Nat.lt_or_eq_of_le hij with g|g
  ·have:=QtI hR g hj
   rw [QjW] at this;omega
  subst g;exact Int.le_refl _
 have htk:∀ x∈R.take n,x.item=(gd R 0).item:=fun x hx=>by
  obtain ⟨j,hj,rfl⟩:=List.mem_take_iff_getElem.1 hx
  have:=heq j (by omega)
  simpa [gd,show j<R.length by omega] using this
 have hdr:∀ x∈R.drop n,(gd R 0).item<x.item:=fun x hx=>by
  obtain ⟨j,hj,rfl⟩:=Qf3 hx
  rw [List.length_drop] at hj
  have e:gd (R.drop n) j=gd R (n+j):=by simp [gd,List.getElem?_drop]
  rw [e]
  rcases hne with g|g
  ·omega
  have h1:=hle 0 n (Nat.zero_le _) (by omega)
  have h2:=hle n (n+j) (by omega) (by omega)
  omega
 have h0:gd R 0∈R:=QbG (by omega)
 refine ⟨⟨D++R.take n,by rw [List.append_assoc,List.take_append_drop],?_,?_,?_⟩,?_⟩
 ·intro x hx y hy
  rcases List.mem_append.1 hx with g|g
  ·exact hlt x g y (List.mem_of_mem_drop hy)
  rw [htk x g];exact hdr y hy
 ·rw [List.pairwise_append]
  refine ⟨hI,List.pairwise_singleton _ _,fun i hi j hj=>?_⟩
  rw [List.mem_singleton.1 hj]
  obtain ⟨x,hx,rfl⟩:=(hm i).1 hi
  exact hlt x hx _ h0
 ·intro i
  rw [List.mem_append,hm,List.mem_singleton]
  constructor
  ·rintro (⟨x,hx,e⟩|e)
   ·exact ⟨x,by simp [hx],e⟩
   exact ⟨gd R 0,List.mem_append.2 (.inr (List.mem_take_iff_getElem.2 ⟨0,by omega,by simp [gd,show 0<R.length by omega]⟩)),e.symm⟩
  rintro ⟨x,hx,e⟩
  rcases List.mem_append.1 hx with g|g
  ·exact .inl ⟨x,g,e⟩
  exact .inr (by rw [← e];exact htk x g)
 intro x
 constructor
 ·intro hx;exact ⟨List.mem_append.2 (.inr (List.mem_of_mem_take hx)),htk x hx⟩
 rintro ⟨hx,e⟩
 rcases List.mem_append.1 hx with g|g
 ·have:=hlt x g _ h0;omega
 rw [← List.take_append_drop n R] at g
 rcases List.mem_append.1 g with g|g
 ·exact g
 have:=hdr x g;omega
theorem Qhi {l m:List Int} (hl:l.Pairwise (· < ·)) (hm:m.Pairwise (· < ·)) (h:∀ x,x∈l↔x∈m):l=m:=by
 have hp:l.Perm m:=(List.perm_ext_iff_of_nodup (hl.imp fun h=>by omega) (hm.imp fun h=>by omega)).2 h
 exact hp.eq_of_pairwise (le:=fun a b=>a<=b) (fun a b _ _ h1 h2=>Int.le_antisymm h1 h2) (hl.imp fun h=>Int.le_of_lt h) (hm.imp fun h=>Int.le_of_lt h)
theorem QoT {s:Sta} {c:Int} {Q:List Cen} {I:List Int} (hp:Q.Perm (Qjh s c)) (h:Grps Q [] I):I.map (Qic s c)=(Qln s c).lines:=by
 obtain ⟨D,hQ,_,hI,hm⟩:=h
 rw [List.append_nil] at hQ
 subst hQ
 have ho:=Qeu (Qes s c)
 have:I=QeX (Qes s c):=Qhi hI ho.1 fun i=>by
  rw [hm,ho.2]
  unfold Qes
  rw [List.mem_map]
  constructor
  ·rintro ⟨x,hx,e⟩;exact ⟨x,hp.mem_iff.1 hx,e⟩
  rintro ⟨x,hx,e⟩;exact ⟨x,hp.mem_iff.2 hx,e⟩
 rw [this];rfl
theorem QoZ {s:Sta} {c:Int} {Q G:List Cen} {n:Int} (hr:RightC s) (hp:Q.Perm (Qjh s c)) (hG:G.Sublist Q) (hm:∀ x,x∈G↔x∈Q/\x.item=n):QeT G=QeT (QjK s c n):=by
 have hQ:(Q.map (·.dot)).Nodup:=(hp.map _).nodup_iff.2 (hr.nd.sublist (List.filter_sublist.map _))
 refine Qoo (hQ.sublist (hG.map _)) (hr.nd.sublist (List.filter_sublist.map _)) fun x=>?_
 rw [hm,hp.mem_iff]
 unfold Qjh QjK
 rw [List.mem_filter,List.mem_filter]
 simp only [Bool.and_eq_true,decide_eq_true_eq]
 constructor
 ·rintro ⟨⟨a,b,c⟩,d⟩;exact ⟨a,b,d,c⟩
 rintro ⟨a,b,d,c⟩;exact ⟨⟨a,b,c⟩,d⟩
end Go.Vx
namespace Go.Vx
theorem QoQ {l:List Cen} {k:Nat} {s:Int} (h:s=Qli (l.take k)) (hk:k<l.length) (hy:(gd l k).kind=1):(s+(gd l k).qty)%4294967296=Qli (l.take (k+1)):=by rw [Qbx hk,QiL,if_pos hy,h]
theorem QmR {l:List Cen} {k:Nat} {s:Int} (h:s=Qli (l.take k)) (hk:k<l.length) (hn:¬(gd l k).kind=1):s=Qli (l.take (k+1)):=by rw [Qbx hk,QiL,if_neg hn,h]
theorem Qgu {l:List Cen} {k:Nat} {t:Cen} (h:t=(l.take k).foldl QeF cz) (hk:k<l.length):QeF t (gd l k)=(l.take (k+1)).foldl QeF cz:=by rw [Qbx hk,List.foldl_append,← h];rfl
theorem Qmc {t e:Cen} (h:e.kind=1):QeF t e=t:=by unfold QeF;rw [if_pos h]
theorem QpX {t e:Cen} (h:¬e.kind=1) (g:Qen t e=true):QeF t e=e:=by unfold QeF;rw [if_neg h,if_pos g]
theorem Qq7 {t e:Cen} (h:¬e.kind=1) (g:Qen t e=false):QeF t e=t:=by unfold QeF;rw [if_neg h,if_neg (by rw [g];decide)]
theorem QoG {l:List Cen} (h:∀ e∈l,QiU e):0<=(l.foldl QeF cz).qty/\(l.foldl QeF cz).qty<65536:=by
 rcases Qo5 l with g|g
 ·rw [g];exact ⟨Int.le_refl _,by decide⟩
 exact (h _ g).2.2.1
theorem Qf4 {α:Type} [Inhabited α] {l:List α} {p:α->Bool} {k:Nat} {b:Bool} (h:b=(l.take k).any p) (hk:k<l.length):(b||p (gd l k))=(l.take (k+1)).any p:=by
 rw [Qbx hk,List.any_append,← h];simp
theorem Qrc {s:Sta} {c:Int} {Q R:List Cen} {I:List Int} {n:Nat} (hr:RightC s) (hp:Q.Perm (Qjh s c)) (h:Grps Q R I) (hs:Qly (fun x y=>Qa0 x.item y.item) Q) (hn1:1<=n) (hn:n<=R.length) (heq:∀ j,j<n->(gd R j).item=(gd R 0).item) (hne:n=R.length∨(gd R n).item≠(gd R 0).item) :
  Grps Q (R.drop n) (I++[(gd R 0).item])/\Qic s c (gd R 0).item=⟨(gd R 0).item,QeT (R.take n)⟩:=by
 obtain ⟨h1,h2⟩:=QmA h hs hn1 hn heq hne
 obtain ⟨D,hQ,_⟩:=h
 refine ⟨h1,?_⟩
 unfold Qic
 rw [QoZ hr hp (by rw [hQ];exact (List.take_sublist _ _).trans (List.sublist_append_right _ _)) h2]
theorem QpO {Q R:List Cen} {I:List Int} (h:Grps Q R I):∀ x∈R,x∈Q:=by
 obtain ⟨D,hQ,_⟩:=h
 intro x hx;rw [hQ];exact List.mem_append_right _ hx
theorem Qnr {s:Sta} {c i:Int} {I:List Int} {o:List Line} {x:Line} (h:o=I.map (Qic s c)) (hx:Qic s c i=x):o++[x]=(I++[i]).map (Qic s c):=by rw [List.map_append,← h,List.map_singleton,hx]
theorem QqY {s:Sta} {c tk:Int} {ob:Bool} {o:List Line} {Q R:List Cen} {I:List Int} (hrt:Qav s=true) (htk:tk=(QaM s.ticks c).getD 0) (hob:ob=s.ents.any fun e=>decide (e.cart=c)&&decide (e.kind=4)) (hp:Q.Perm (Qjh s c)) (h:Grps Q R I) (hR:R.length=0) (ho:o=I.map (Qic s c)):QaI s c (Qav s)=⟨c,o,ob,tk⟩:=by
 have:R=[]:=List.length_eq_zero_iff.1 hR
 subst this
 unfold QaI
 rw [if_pos hrt,ho,QoT hp h,hob,htk];rfl
theorem Qrs {ts:List Lst} {c:Int} (h:(QaM ts c).isSome=false):(0:Int)=(QaM ts c).getD 0:=by
 cases hq:QaM ts c with
 | none=>rfl
 | some v=>rw [hq] at h;cases h
theorem Qoe {s:Sta} {c:Int} {x:Cen} (hr:RightC s) (h:x∈Qjh s c):x∈s.ents/\1<=x.count:=by
 have h1:=(List.mem_filter.1 h).1
 have h2:=hr.ent x h1
 unfold Qjc at h2
 simp only [Bool.and_eq_true,decide_eq_true_eq] at h2
 exact ⟨h1,h2.1.2⟩
def Qay (s:Sta):List Int:=if Qav s=true then s.ticks.map (·.cart) else []
end Go.Vx
namespace Go.Proofs
open Go Go.Vx Go.RowKit
namespace Tt
theorem Qn5:T1 Tryz.prog 4:=⟨Tryz.sizeOf4,Tryz.isAgg4⟩
theorem QiZ:T1 Tryz.prog 47:=⟨Tryz.sizeOf47,Tryz.isAgg47⟩
theorem Qct:TA Tryz.prog 127 2:=⟨Tryz.sizeOf127,Tryz.isAgg127⟩
theorem QdQ:TA Tryz.prog 49 4:=⟨Tryz.sizeOf49,Tryz.isAgg49⟩
theorem QsT:Bt Tryz.prog 127 [(0,1),(1,1)] (lc (⟨0,0⟩:Line)):=Qci Tryz.type127 rfl rfl Tryz.underlying127 (by kernel_rfl)
theorem Quy:Bt Tryz.prog 49 [(0,1),(1,1),(2,1),(3,1)] ([.int .u16 0,.slice none 0 0,.bool false,.int .u32 0]):=Qci Tryz.type49 rfl rfl Tryz.underlying49 (by kernel_rfl)
theorem Qua:El Tryz.prog 47 127 2 8:=⟨Tryz.underlying47,_,_,Tryz.type127,rfl,rfl,rfl,rfl,by decide⟩
theorem QlN:El Tryz.prog 69 32 1 2:=⟨Tryz.underlying69,_,_,Tryz.type32,rfl,rfl,rfl,rfl,by decide⟩
theorem QuN:En Tryz.prog 128:=Tryz.call128
theorem Qva:En Tryz.prog 75:=Tryz.call75
theorem Qvz:En Tryz.prog 76:=Tryz.call76
theorem Qu0:En Tryz.prog 78:=Tryz.call78
theorem Qev:FA Tryz.prog 49 1 1:=fun b o w=>by simp [Instr.fieldAt,Instr.sureAddr,fieldPlace,Qbg]
theorem Qds:FA Tryz.prog 49 2 2:=fun b o w=>by simp [Instr.fieldAt,Instr.sureAddr,fieldPlace,Qbg]
theorem Qn0:FA Tryz.prog 49 3 3:=fun b o w=>by simp [Instr.fieldAt,Instr.sureAddr,fieldPlace,Qbg]
theorem Qt1:Ud Tryz.prog 32 (.int .u16):=Tryz.runUnderlying32
theorem Qp7:Zv Tryz.prog 127 (.agg (lc (⟨0,0⟩:Line)).toArray):=Tryz.zeroValue127
theorem QhV:Zv Tryz.prog 49 (.agg #[.int .u16 0,.slice none 0 0,.bool false,.int .u32 0]):=Tryz.zeroValue49
end Tt
end Go.Proofs
